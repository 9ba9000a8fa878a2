/- SpillFree: the row: for every three arrays of two bytes the law returns true, and the arguments read as before. No conditions. -/
import Derived.Test.YtihfmcadcojjnaaRows
import Derived.Test.YtihfmcadcojjnaaS23Free
import Derived.Test.YtihfmcadcojjnaaOpens
namespace Go.Proofs.Ytihfmcadcojjnaa
open Go.ChangeShapes Go.WideShapes Go.ChangeAt Go.RowKit
theorem own_try : ownKnob Try.prog.godebug = none := by kernel_rfl
theorem laid_try : laidOutB Try.prog = true := by kernel_rfl
theorem cells29 : Try.prog.cellsOf 29 = 2 := by kernel_rfl
theorem cells5 : Try.prog.cellsOf 5 = 1 := by kernel_rfl
theorem open_pair {H : Type} {enc : TypeId × Value → H} {W : World} {r : Reach} {base base' : Nat} {sp : Nat → Bool} {held : Bool} {v : Value} {d : DataW H} {ps : List MemPlace} (hv : Value.okWide Try.prog W r base' 29 v) (h : DataW.Trod enc Try.prog W base sp held 29 v d ps) :
    ∃ a b, v = .agg #[.int .u8 a, .int .u8 b] ∧ 0 ≤ a ∧ a ≤ 255 ∧ 0 ≤ b ∧ b ≤ 255 := by
  obtain ⟨cs, rfl, hsz, _⟩ : ∃ cs, v = .agg cs ∧ cs.size = Try.prog.cellsOf 29 ∧ _ := by
    unfold Value.okWide at hv
    rw [Try.underlying29] at hv
    exact hv
  obtain ⟨fuel, hf⟩ := h
  obtain ⟨h1, h2⟩ := trod_array_c Try.underlying29 hf
  rw [cells29] at hsz
  rw [cells5] at h2
  obtain ⟨f0, y0, t0⟩ := h2 0 (by omega)
  obtain ⟨f1, y1, t1⟩ := h2 1 (by omega)
  obtain ⟨a, ha, wa⟩ := trod_int_c Try.underlying5 t0
  obtain ⟨b, hb, wb⟩ := trod_int_c Try.underlying5 t1
  have e : cs = #[.int .u8 a, .int .u8 b] := by
    obtain ⟨l⟩ := cs
    simp only [Value.cells] at ha hb
    match l, hsz, ha, hb with
    | [x, y], _, ha, hb => simp at ha hb; rw [ha, hb]
  exact ⟨a, b, by rw [e], (wf_u8 wa).1, (wf_u8 wa).2, (wf_u8 wb).1, (wf_u8 wb).2⟩

set_option maxRecDepth 100000 in
theorem spillFree_lifted (os : Os) (started : os.Started) (H : Type) (enc : TypeId × Value → H) :
    ReturnsInHanded {} Try.checked os 5 .any (Rows.spillFreeSpec.pre6 enc Try.prog Try.f5 [] false) (Rows.spillFreeSpec.post enc Try.prog Try.f5 false true false false) := by
  refine law_lift (C := Try.checked) (fn := Try.f5) (s := Rows.spillFreeSpec) (tb := 4) own_try started (by kernel_rfl) Try.func5
    (ChangeSpec.witness6 (enc := enc) (C := Try.checked) false ⟨#[], #[.agg #[.int .u8 0, .int .u8 0], .agg #[.int .u8 0, .int .u8 0], .agg #[.int .u8 0, .int .u8 0]], []⟩ 8 (by kernel_rfl) (by kernel_rfl) (by kernel_rfl) (by kernel_rfl)) laid_try (by kernel_rfl) rfl Try.underlying4 rfl ?_ ?_
  · intro ds hd
    match ds, hd with
    | [d0, d1, d2], _ => exact ⟨rfl, rfl, rfl⟩
  · intro W base args ds p hval hA hlt hsz
    have hA' : DataW.TrodAll enc Try.prog W 0 (fun _ => true) true [29, 29, 29] args.toList ds p := hA
    obtain ⟨v0, v1, v2, d0, d1, d2, p0, p1, p2, rfl, rfl, rfl, h0, h1, h2⟩ := trodAll_three hA'
    obtain ⟨s0, s1, rfl, q1, q2, q3, q4⟩ := open_pair (hval 0 29 v0 rfl rfl) h0
    obtain ⟨a0, a1, rfl, q5, q6, q7, q8⟩ := open_pair (hval 1 29 v1 rfl rfl) h1
    obtain ⟨z0, z1, rfl, q9, q10, q11, q12⟩ := open_pair (hval 2 29 v2 rfl rfl) h2
    exact free_law s0 s1 a0 a1 z0 z1 W q1 q2 q3 q4 q5 q6 q7 q8 q9 q10 q11 q12
theorem spillFree_holds : Rows.SpillFreeSaid :=
  OpenClaim.holds_of_wide 5 Try.f5 rfl rfl rfl rfl rfl rfl rfl ⟨rfl, rfl, rfl, rfl, rfl⟩ rfl rfl rfl rfl rfl (by kernel_rfl) Try.func5 (by kernel_rfl)
    (of_decide_eq_true (by kernel_rfl)) (by unfold Func.isWrapper; first | (rw [if_pos (by decide +kernel)]; kernel_rfl) | (rw [if_neg (by decide +kernel)]; exact ⟨rfl, rfl⟩))
    (fun os started H enc _ => spillFree_lifted os started H enc)
end Go.Proofs.Ytihfmcadcojjnaa
