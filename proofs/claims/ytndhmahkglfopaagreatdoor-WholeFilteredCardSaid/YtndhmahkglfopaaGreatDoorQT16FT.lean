/- WholeFiltered: for every list of small whole numbers, every small whole number and every byte the law returns true, and the arguments read as before; what the row lists is tied to the program's text. No conditions. -/
import Derived.Test.YtndhmahkglfopaaGreatDoorCards
import Derived.Test.YtndhmahkglfopaaGreatDoorTie
import Derived.SevenTiedAt
import Derived.Test.YtndhmahkglfopaaGreatDoorQT16LW
import Derived.Test.YtndhmahkglfopaaGreatDoorQT16FP
import Derived.Test.YtndhmahkglfopaaGreatDoorQT16FL
namespace Go.Proofs.YtndhmahkglfopaaGreatDoor
open Go.ChangeShapes Go.WideShapes Go.ChangeAt Go.RowKit
theorem wf_i16 {n : Int} (h : (Lit.int .i16 n).wf = true) : -32768 ≤ n ∧ n ≤ 32767 := by
  have h1 : IntKind.i16.min = -32768 := rfl
  have h2 : IntKind.i16.max = 32767 := rfl
  simp only [Lit.wf, Bool.and_eq_true, decide_eq_true_eq] at h
  omega
theorem cells23 : Tryz.prog.cellsOf 23 = 1 := by kernel_rfl
set_option maxRecDepth 100000 in
theorem open_i16 {H : Type} {enc : TypeId × Value → H} {W : World} {r : Reach} {base base' : Nat} {sp : Nat → Bool} {held : Bool} {v : Value} {d : DataW H} {ps : List MemPlace} (hv : Value.okWide Tryz.prog W r base' 23 v) (h : DataW.Trod enc Tryz.prog W base sp held 23 v d ps) :
    ∃ a, v = .int .i16 a ∧ -32768 ≤ a ∧ a ≤ 32767 := by
  obtain ⟨n, rfl⟩ := okWide_int Tryz.underlying23 hv
  obtain ⟨fuel, hf⟩ := h
  obtain ⟨m, hm, wm⟩ := trod_int_c Tryz.underlying23 hf
  simp only [Value.cells, List.cons.injEq, Value.int.injEq, true_and, and_true] at hm
  subst hm
  exact ⟨n, rfl, wf_i16 wm⟩
set_option maxRecDepth 100000 in
theorem open_row16 {H : Type} {enc : TypeId × Value → H} {W : World} {r : Reach} {base base' : Nat} {sp : Nat → Bool} {held : Bool} {v : Value} {d : DataW H} {ps : List MemPlace} (hv : Value.okWide Tryz.prog W r base' 22 v) (h : DataW.Trod enc Tryz.prog W base sp held 22 v d ps) :
    ∃ (a : Option Addr) (D : List Int) (cap : Nat), v = .slice a D.length cap ∧ (∀ d ∈ D, -32768 ≤ d ∧ d ≤ 32767) ∧ (0 < D.length → ∃ b off, a = some ⟨b, off, none⟩ ∧ CO W b off D) := by
  obtain ⟨a0, len0, cap0, rfl⟩ := okWide_slice Tryz.underlying22 hv
  obtain ⟨fuel, hf⟩ := h
  obtain ⟨a, len, cap, hcs, _, _, hat⟩ := slice_at (n := 1) Tryz.underlying22 cells23 (by omega) hf
  simp only [Value.cells, List.cons.injEq, and_true] at hcs
  by_cases h0 : 0 < len
  · obtain ⟨b, off, rfl, hb, hall⟩ := hat h0
    obtain ⟨D, hl, hP⟩ := list_of_forall (Q := fun i (x : Int) => W.cell? ⟨b, off + i, none⟩ = some (.int .i16 x) ∧ -32768 ≤ x ∧ x ≤ 32767) len (fun i hi => by
      obtain ⟨es, f', y, hes, hc, ht⟩ := hall i hi
      obtain ⟨x, hx, wx⟩ := trod_int_c Tryz.underlying23 ht
      refine ⟨x, ?_, wf_i16 wx⟩
      have := hc 0 (by omega)
      rw [hx] at this
      simpa using this)
    refine ⟨_, D, cap, by rw [hl]; exact hcs, fun x hx => ?_, fun _ => ⟨b, off, rfl, hb, fun i x hx => (hP i x hx).1⟩⟩
    obtain ⟨i, hi⟩ := List.mem_iff_getElem?.1 hx
    exact (hP i x hi).2
  · have : len = 0 := by omega
    subst this
    exact ⟨_, [], cap, hcs, fun x hx => by simp at hx, fun h => by simp at h⟩
set_option maxRecDepth 100000 in
theorem wholeFiltered_lifted (os : Os) (started : os.Started) (H : Type) (enc : TypeId × Value → H) :
    ReturnsInHanded {} Tryz.checked os 3 .any (fun w args => (Rows.wholeFilteredSpec.pre enc Tryz.prog Tryz.f3 [] false w args ∧ laidMetH Tryz.prog laidL w) ∧ sizedMet enc Tryz.prog Tryz.f3 (OpenSpec.ofChange Rows.wholeFilteredSpec) false w args)
      (Rows.wholeFilteredSpec.post enc Tryz.prog Tryz.f3 false true false false) := by
  refine law_lift_tied (f := 3) (fn := Tryz.f3) (s := Rows.wholeFilteredSpec) (tb := 4) started (by kernel_rfl) Tryz.func3
    (ChangeSpec.witness_shaped (enc := enc) (C := Tryz.checked) (os := os) (X := fun w _ => laidMetH Tryz.prog laidL w) false (World.laidAll Tryz.prog os laidL) #[.slice none 0 0, .int .i16 0, .int .u8 0] 8 (World.laidAll_os _ _ _)
      (World.shaped_of_ZipB (by kernel_rfl) (by kernel_rfl)) (by kernel_rfl) (by kernel_rfl) (by kernel_rfl)
      (by rw [MakeChecks.laidMetH_plain _ _ _ (by kernel_rfl)]; exact laidMet_laidAll _ (by kernel_rfl) (by kernel_rfl)))
    (by kernel_rfl) rfl Tryz.underlying4 rfl ?_ ?_
  · intro ds hd
    match ds, hd with
    | [d0, d1, d2], _ => exact ⟨rfl, rfl, rfl⟩
  · intro W base args ds p hval hA hT
    have hA' : DataW.TrodAll enc Tryz.prog W 0 (fun _ => true) true [22, 23, 5] args.toList ds p := hA
    obtain ⟨v0, v1, v2, d0, d1, d2, p0, p1, p2, rfl, rfl, rfl, h0, h1, h2⟩ := trodAll_three hA'
    obtain ⟨a, D, cap, rfl, hD, hs⟩ := open_row16 (hval 0 22 v0 rfl rfl) h0
    obtain ⟨x, rfl, wx⟩ := open_i16 (hval 1 23 v1 rfl rfl) h1
    obtain ⟨q, rfl, wq⟩ := open_byte (hval 2 5 v2 rfl rfl) h2
    exact filtered_any W D a cap x q hD wx wq.1 wq.2 hs hT
theorem filtered_named : Tryz.pinned.checked.prog.funcNamed Rows.wholeFilteredRow.func = some 3 := by kernel_rfl
theorem filtered_inst : Tryz.f3.isInstance Tryz.pinned.checked.prog Rows.wholeFilteredRow.origin Rows.wholeFilteredRow.targs := of_decide_eq_true (by kernel_rfl)
theorem filtered_wrap : Tryz.f3.isWrapper Tryz.pinned.checked.prog Rows.wholeFilteredRow.wrapper Rows.wholeFilteredRow.mainSum := by
  unfold Func.isWrapper
  first | (rw [if_pos (by decide +kernel)]; kernel_rfl) | (rw [if_neg (by decide +kernel)]; exact ⟨rfl, rfl⟩)
theorem wholeFiltered_row : Rows.WholeFilteredSaid :=
  OpenClaim.holds_of_wide 3 Tryz.f3 rfl rfl rfl rfl rfl rfl rfl ⟨rfl, rfl, rfl, rfl, rfl⟩ rfl rfl rfl rfl rfl filtered_named Tryz.func3 filtered_joined filtered_inst filtered_wrap
    (fun os started H enc _ => wholeFiltered_lifted os started H enc)
theorem filtered_text : Rows.wholeFilteredRow.wfByText (OpenSpec.ofChange Rows.wholeFilteredSpec) = true := by kernel_rfl
theorem filtered_main : Tryz.pinned.checked.prog.mainIs = some (true, "f970eace8a375c0cb93d5d91b7cb7781a7cfe2be739553778124a900ae356792".toList) := by kernel_rfl
theorem filtered_looks : false = Tryz.pinned.checked.prog.looks [] := by kernel_rfl
theorem filtered_goes : false = Rows.wholeFilteredRow.goesBy Tryz.pinned.checked.prog := by kernel_rfl
theorem filtered_wants : ([22, 23, 5].all fun u => !Tryz.prog.wantsStandIn u) = true := by kernel_rfl
theorem wholeFiltered_holds : Rows.WholeFilteredCardSaid :=
  Claim7.holds_tied_plain_at .later [] [.data, .data, .data, .data, .data, .pinned] true (true, "f970eace8a375c0cb93d5d91b7cb7781a7cfe2be739553778124a900ae356792") false
    wholeFiltered_row (fun _ h => by cases h) filtered_text (fun _ h => by cases h) wholeFiltered_row_tie rfl ⟨rfl, rfl⟩ filtered_main rfl
    (fun f fn hf hfn => by
      obtain rfl : f = 3 := Option.some.inj (filtered_named.symm.trans hf) |>.symm
      obtain rfl : fn = Tryz.f3 := (Option.some.inj (Tryz.func3.symm.trans hfn)).symm
      exact ⟨filtered_looks, fun j t ht => by
        rw [Tryz.params3] at ht
        have hm : t ∈ [22, 23, 5] := by simpa using Array.mem_of_getElem? ht
        exact (show Tryz.prog.wantsStandIn t = false by simpa using List.all_eq_true.1 filtered_wants t hm)⟩)
    filtered_goes
#print axioms wholeFiltered_holds
end Go.Proofs.YtndhmahkglfopaaGreatDoor
