/- Arguments of the laws on truths, opened: arrays and slices of values. -/
import Derived.Test.YtgbedjeiihigaaaF13Open
namespace Go.Proofs.Ytgbedjeiihigaaa
open Go.ChangeShapes Go.WideShapes Go.ChangeAt Go.RowKit
theorem cells25 : Try.prog.cellsOf 25 = 1 := by kernel_rfl
theorem cells27 : Try.prog.cellsOf 27 = 3 := by kernel_rfl
set_option maxRecDepth 100000 in
/-- A slice of values that came in. -/
theorem values_cells {H : Type} {enc : TypeId × Value → H} {W : World} {base : Nat} {sp : Nat → Bool} {held : Bool} {fuel : Nat} {cs : List Value} {x : DataW H × List MemPlace} (h : DataW.trod enc Try.prog W base sp held fuel 25 cs = some x) :
    ∃ a cap l, cs = [.slice a l.length cap] ∧ SlB 0 W a l ∧ ∀ v ∈ l, v.t.size ≤ maxLen := by
  obtain ⟨a, len, cap, hcs, _, _, hat⟩ := slice_at (n := 6) Try.underlying25 cells36 (by omega) h
  by_cases h0 : 0 < len
  · obtain ⟨b, off, rfl, hb, hall⟩ := hat h0
    obtain ⟨l, hl, hP⟩ := list_of_forall (Q := fun i (v : V) => (∀ j, j < 6 → W.cell? ⟨b, off + i * 6 + j, none⟩ = (vcells v)[j]?) ∧ v.t.size ≤ maxLen) len (fun i hi => by
      obtain ⟨es, f', y, _, hc, ht⟩ := hall i hi
      obtain ⟨v, rfl, hv⟩ := value_cells ht
      exact ⟨v, hc, hv⟩)
    refine ⟨_, _, l, by rw [hl]; exact hcs, fun _ => ⟨b, off, rfl, Nat.zero_le _, hb, fun i v hv => (hP i v hv).1⟩, fun v hv => ?_⟩
    obtain ⟨i, hi⟩ := List.mem_iff_getElem?.1 hv
    exact (hP i v hi).2
  · have : len = 0 := by omega
    subst this
    exact ⟨_, _, [], hcs, fun h => (by simp at h), fun v hv => (by simp at hv)⟩
set_option maxRecDepth 100000 in
theorem open_values {H : Type} {enc : TypeId × Value → H} {W : World} {r : Reach} {base base' : Nat} {sp : Nat → Bool} {held : Bool} {v : Value} {d : DataW H} {ps : List MemPlace} (hv : Value.okWide Try.prog W r base' 25 v) (h : DataW.Trod enc Try.prog W base sp held 25 v d ps) :
    ∃ a cap l, v = .slice a l.length cap ∧ SlB 0 W a l := by
  obtain ⟨a0, len0, cap0, rfl⟩ := okWide_slice Try.underlying25 hv
  obtain ⟨fuel, hf⟩ := h
  obtain ⟨a, cap, l, e, hs, _⟩ := values_cells hf
  simp only [Value.cells, List.cons.injEq, and_true] at e
  exact ⟨a, cap, l, e, hs⟩
set_option maxRecDepth 100000 in
theorem array_cells {H : Type} {enc : TypeId × Value → H} {W : World} {base : Nat} {sp : Nat → Bool} {held : Bool} {fuel : Nat} {cs : List Value} {x : DataW H × List MemPlace} (h : DataW.trod enc Try.prog W base sp held fuel 27 cs = some x) :
    ∃ (A : Arr) (a : Option Addr) (cap : Nat), cs = [.int .i64 A.r, .int .i64 A.c, .slice a A.l.length cap] ∧ SlB 0 W a A.l := by
  obtain ⟨h1, h2⟩ := trod_struct_c Try.underlying27 h
  rw [cells27] at h1
  simp only [List.mem_cons, List.not_mem_nil, or_false, forall_eq_or_imp, forall_eq, cells3, cells25] at h2
  obtain ⟨⟨f0, y0, t0⟩, ⟨f1, y1, t1⟩, ⟨f2, y2, t2⟩⟩ := h2
  obtain ⟨r, hr, _⟩ := trod_int_c Try.underlying3 t0
  obtain ⟨c, hc, _⟩ := trod_int_c Try.underlying3 t1
  obtain ⟨a, cap, l, hl, hs, _⟩ := values_cells t2
  match cs, h1, hr, hc, hl with
  | [x0, x1, x2], _, hr, hc, hl =>
    simp at hr hc hl
    exact ⟨⟨r, c, l⟩, a, cap, by rw [hr, hc, hl], hs⟩
set_option maxRecDepth 100000 in
theorem open_array {H : Type} {enc : TypeId × Value → H} {W : World} {r : Reach} {base base' : Nat} {sp : Nat → Bool} {held : Bool} {v : Value} {d : DataW H} {ps : List MemPlace} (hv : Value.okWide Try.prog W r base' 27 v) (h : DataW.Trod enc Try.prog W base sp held 27 v d ps) :
    ∃ (A : Arr) (a : Option Addr) (cap : Nat), v = .agg #[.int .i64 A.r, .int .i64 A.c, .slice a A.l.length cap] ∧ SlB 0 W a A.l := by
  obtain ⟨cs, rfl, _⟩ : ∃ cs, v = .agg cs ∧ _ := by
    unfold Value.okWide at hv
    rw [Try.underlying27] at hv
    exact hv
  obtain ⟨fuel, hf⟩ := h
  obtain ⟨A, a, cap, e, hs⟩ := array_cells hf
  refine ⟨A, a, cap, ?_, hs⟩
  obtain ⟨l⟩ := cs
  simp only [Value.cells] at e
  rw [e]
end Go.Proofs.Ytgbedjeiihigaaa
