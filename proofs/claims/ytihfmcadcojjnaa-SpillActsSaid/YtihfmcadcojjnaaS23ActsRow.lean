/- SpillActs: the row: for every two numbers and every slice of acts the law returns true, and the arguments read as before. No conditions. -/
import Derived.Test.YtihfmcadcojjnaaS23Open
import Derived.Test.YtihfmcadcojjnaaS23Acts
namespace Go.Proofs.Ytihfmcadcojjnaa
open Go.ChangeShapes Go.WideShapes Go.ChangeAt Go.RowKit
theorem open_num {H : Type} {enc : TypeId × Value → H} {W : World} {r : Reach} {base base' : Nat} {sp : Nat → Bool} {held : Bool} {v : Value} {d : DataW H} {ps : List MemPlace} (hv : Value.okWide Try.prog W r base' 3 v) (_ : DataW.Trod enc Try.prog W base sp held 3 v d ps) : ∃ a, v = .int .i64 a := okWide_int Try.underlying3 hv
theorem open_acts2 {H : Type} {enc : TypeId × Value → H} {W : World} {r : Reach} {base base' : Nat} {sp : Nat → Bool} {held : Bool} {v : Value} {d : DataW H} {ps : List MemPlace} (hv : Value.okWide Try.prog W r base' 34 v) (h : DataW.Trod enc Try.prog W base sp held 34 v d ps) :
    ∃ a cap l, v = .slice a l.length cap ∧ ActsAt W a l ∧ AcOk l := by
  obtain ⟨a0, len0, cap0, rfl⟩ := okWide_slice Try.underlying34 hv
  obtain ⟨fuel, hf⟩ := h
  obtain ⟨a, len, cap, hcs, _, _, hat⟩ := slice_at (n := 5) Try.underlying34 cells23 (by omega) hf
  simp only [Value.cells, List.cons.injEq, Value.slice.injEq, and_true] at hcs
  obtain ⟨rfl, rfl, rfl⟩ := hcs
  by_cases h0 : 0 < len0
  · obtain ⟨b, off, rfl, hb, hall⟩ := hat h0
    obtain ⟨l, hl, hP⟩ := list_of_forall (Q := fun i (x : Ac) => (W.cell? ⟨b, off + i * 5, none⟩ = some (.bool x.f) ∧ W.cell? ⟨b, off + i * 5 + 1, none⟩ = some (.int .i64 x.r) ∧ W.cell? ⟨b, off + i * 5 + 2, none⟩ = some (.int .i64 x.c) ∧ W.cell? ⟨b, off + i * 5 + 3, none⟩ = some (.int .i64 x.rs) ∧ W.cell? ⟨b, off + i * 5 + 4, none⟩ = some (.int .i64 x.cs)) ∧ Small x.r ∧ Small x.c) len0 (fun i hi => by
      obtain ⟨es, f', y, _, hc, ht⟩ := hall i hi
      obtain ⟨f, r, c, rs, cs, rfl, w1, w2, _⟩ := act_cells ht
      exact ⟨⟨f, r, c, rs, cs⟩, ⟨hc 0 (by omega), hc 1 (by omega), hc 2 (by omega), hc 3 (by omega), hc 4 (by omega)⟩, wf_i64 w1, wf_i64 w2⟩)
    refine ⟨_, _, l, by rw [hl], fun _ => ⟨b, off, rfl, hb, fun i x hx => (hP i x hx).1⟩, fun x hx => ?_⟩
    obtain ⟨i, hi⟩ := List.mem_iff_getElem?.1 hx
    exact (hP i x hi).2
  · have : len0 = 0 := by omega
    subst this
    exact ⟨_, _, [], rfl, fun h => (by simp at h), fun x hx => (by simp at hx)⟩
set_option maxRecDepth 100000 in
theorem spillActs_lifted (os : Os) (started : os.Started) (H : Type) (enc : TypeId × Value → H) :
    ReturnsInHanded {} Try.checked os 8 .any (Rows.spillActsSpec.pre6 enc Try.prog Try.f8 [] false) (Rows.spillActsSpec.post enc Try.prog Try.f8 false true false false) := by
  refine law_lift (C := Try.checked) (fn := Try.f8) (s := Rows.spillActsSpec) (tb := 4) own_try started (by kernel_rfl) Try.func8
    (ChangeSpec.witness6 (enc := enc) (C := Try.checked) false ⟨#[], #[.int .i64 0, .int .i64 0, .slice none 0 0], []⟩ 8 (by kernel_rfl) (by kernel_rfl) (by kernel_rfl) (by kernel_rfl)) laid_try (by kernel_rfl) rfl Try.underlying4 rfl ?_ ?_
  · intro ds hd
    match ds, hd with
    | [d0, d1, d2], _ => exact ⟨rfl, rfl, rfl⟩
  · intro W base args ds p hval hA hlt hsz
    have hA' : DataW.TrodAll enc Try.prog W 0 (fun _ => true) true [3, 3, 34] args.toList ds p := hA
    obtain ⟨v0, v1, v2, d0, d1, d2, p0, p1, p2, rfl, rfl, rfl, h0, h1, h2⟩ := trodAll_three hA'
    obtain ⟨s0, rfl⟩ := open_num (hval 0 3 v0 rfl rfl) h0
    obtain ⟨s1, rfl⟩ := open_num (hval 1 3 v1 rfl rfl) h1
    obtain ⟨a', cap', q, rfl, hQ, hO⟩ := open_acts2 (hval 2 34 v2 rfl rfl) h2
    exact acts_law s0 s1 a' cap' q W hQ hO
theorem spillActs_holds : Rows.SpillActsSaid :=
  OpenClaim.holds_of_wide 8 Try.f8 rfl rfl rfl rfl rfl rfl rfl ⟨rfl, rfl, rfl, rfl, rfl⟩ rfl rfl rfl rfl rfl (by kernel_rfl) Try.func8 (by kernel_rfl)
    (of_decide_eq_true (by kernel_rfl)) (by unfold Func.isWrapper; first | (rw [if_pos (by decide +kernel)]; kernel_rfl) | (rw [if_neg (by decide +kernel)]; exact ⟨rfl, rfl⟩))
    (fun os started H enc _ => spillActs_lifted os started H enc)
end Go.Proofs.Ytihfmcadcojjnaa
