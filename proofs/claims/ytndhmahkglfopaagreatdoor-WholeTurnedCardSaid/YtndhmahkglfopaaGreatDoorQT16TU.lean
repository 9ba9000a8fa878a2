/- WholeTurned: for every two arrays and every byte the law returns true, and the arguments read as before; what the row lists is tied to the program's text. No conditions. -/
import Derived.Test.YtndhmahkglfopaaGreatDoorCards
import Derived.Test.YtndhmahkglfopaaGreatDoorTie
import Derived.SevenTiedAt
import Derived.Test.YtndhmahkglfopaaGreatDoorQT16EC
import Derived.Test.YtndhmahkglfopaaGreatDoorQT16LW
import Derived.Test.YtndhmahkglfopaaGreatDoorQT16CL
namespace Go.Proofs.YtndhmahkglfopaaGreatDoor
open Go.ChangeShapes Go.WideShapes Go.ChangeAt Go.RowKit
set_option maxRecDepth 100000 in
theorem wholeTurned_lifted (os : Os) (started : os.Started) (H : Type) (enc : TypeId × Value → H) :
    ReturnsInHanded {} Tryz.checked os 4 .any (fun w args => (Rows.wholeTurnedSpec.pre enc Tryz.prog Tryz.f4 [] false w args ∧ laidMetH Tryz.prog laidL w) ∧ sizedMet enc Tryz.prog Tryz.f4 (OpenSpec.ofChange Rows.wholeTurnedSpec) false w args)
      (Rows.wholeTurnedSpec.post enc Tryz.prog Tryz.f4 false true false false) := by
  refine law_lift_tied (f := 4) (fn := Tryz.f4) (s := Rows.wholeTurnedSpec) (tb := 4) started (by kernel_rfl) Tryz.func4
    (ChangeSpec.witness_shaped (enc := enc) (C := Tryz.checked) (os := os) (X := fun w _ => laidMetH Tryz.prog laidL w) false (World.laidAll Tryz.prog os laidL) #[.agg #[.int .i64 0, .int .i64 0, .slice none 0 0], .agg #[.int .i64 0, .int .i64 0, .slice none 0 0], .int .u8 0] 8 (World.laidAll_os _ _ _)
      (World.shaped_of_ZipB (by kernel_rfl) (by kernel_rfl)) (by kernel_rfl) (by kernel_rfl) (by kernel_rfl)
      (by rw [MakeChecks.laidMetH_plain _ _ _ (by kernel_rfl)]; exact laidMet_laidAll _ (by kernel_rfl) (by kernel_rfl)))
    (by kernel_rfl) rfl Tryz.underlying4 rfl ?_ ?_
  · intro ds hd
    match ds, hd with
    | [d0, d1, d2], _ => exact ⟨rfl, rfl, rfl⟩
  · intro W base args ds p hval hA hT
    have hA' : DataW.TrodAll enc Tryz.prog W 0 (fun _ => true) true [28, 28, 5] args.toList ds p := hA
    obtain ⟨v0, v1, v2, d0, d1, d2, p0, p1, p2, rfl, rfl, rfl, h0, h1, h2⟩ := trodAll_three hA'
    obtain ⟨A, a, cap, rfl, hs⟩ := open_array (hval 0 28 v0 rfl rfl) h0
    obtain ⟨B, b, capb, rfl, hs'⟩ := open_array (hval 1 28 v1 rfl rfl) h1
    obtain ⟨q, rfl, wq⟩ := open_byte (hval 2 5 v2 rfl rfl) h2
    exact turned_any W A B a b cap capb q wq.1 wq.2 hs hs' hT
theorem turned_named : Tryz.pinned.checked.prog.funcNamed Rows.wholeTurnedRow.func = some 4 := by kernel_rfl
theorem turned_inst : Tryz.f4.isInstance Tryz.pinned.checked.prog Rows.wholeTurnedRow.origin Rows.wholeTurnedRow.targs := of_decide_eq_true (by kernel_rfl)
theorem turned_wrap : Tryz.f4.isWrapper Tryz.pinned.checked.prog Rows.wholeTurnedRow.wrapper Rows.wholeTurnedRow.mainSum := by
  unfold Func.isWrapper
  first | (rw [if_pos (by decide +kernel)]; kernel_rfl) | (rw [if_neg (by decide +kernel)]; exact ⟨rfl, rfl⟩)
theorem wholeTurned_row : Rows.WholeTurnedSaid :=
  OpenClaim.holds_of_wide 4 Tryz.f4 rfl rfl rfl rfl rfl rfl rfl ⟨rfl, rfl, rfl, rfl, rfl⟩ rfl rfl rfl rfl rfl turned_named Tryz.func4 turned_joined turned_inst turned_wrap
    (fun os started H enc _ => wholeTurned_lifted os started H enc)
theorem turned_text : Rows.wholeTurnedRow.wfByText (OpenSpec.ofChange Rows.wholeTurnedSpec) = true := by kernel_rfl
theorem turned_main : Tryz.pinned.checked.prog.mainIs = some (true, "f970eace8a375c0cb93d5d91b7cb7781a7cfe2be739553778124a900ae356792".toList) := by kernel_rfl
theorem turned_looks : false = Tryz.pinned.checked.prog.looks [] := by kernel_rfl
theorem turned_goes : false = Rows.wholeTurnedRow.goesBy Tryz.pinned.checked.prog := by kernel_rfl
theorem turned_wants : ([28, 28, 5].all fun u => !Tryz.prog.wantsStandIn u) = true := by kernel_rfl
theorem wholeTurned_holds : Rows.WholeTurnedCardSaid :=
  Claim7.holds_tied_plain_at .later [] [.data, .data, .data, .data, .data, .pinned] true (true, "f970eace8a375c0cb93d5d91b7cb7781a7cfe2be739553778124a900ae356792") false
    wholeTurned_row (fun _ h => by cases h) turned_text (fun _ h => by cases h) wholeTurned_row_tie rfl ⟨rfl, rfl⟩ turned_main rfl
    (fun f fn hf hfn => by
      obtain rfl : f = 4 := Option.some.inj (turned_named.symm.trans hf) |>.symm
      obtain rfl : fn = Tryz.f4 := (Option.some.inj (Tryz.func4.symm.trans hfn)).symm
      exact ⟨turned_looks, fun j t ht => by
        rw [Tryz.params4] at ht
        have hm : t ∈ [28, 28, 5] := by simpa using Array.mem_of_getElem? ht
        exact (show Tryz.prog.wantsStandIn t = false by simpa using List.all_eq_true.1 turned_wants t hm)⟩)
    turned_goes
#print axioms wholeTurned_holds
end Go.Proofs.YtndhmahkglfopaaGreatDoor
