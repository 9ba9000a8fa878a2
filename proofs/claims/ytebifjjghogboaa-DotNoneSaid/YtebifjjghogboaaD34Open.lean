/- Arguments of the laws on ids, opened. -/
import Derived.Test.YtebifjjghogboaaRows
import Derived.Test.YtebifjjghogboaaD34Awake
import Derived.Test.YtebifjjghogboaaOpens
import Derived.Test.YtebifjjghogboaaLaw
namespace Go.Proofs.Ytebifjjghogboaa
open Go.ChangeShapes Go.WideShapes Go.ChangeAt Go.RowKit
theorem own_try : ownKnob Try.prog.godebug = none := by kernel_rfl
theorem laid_try : laidOutB Try.prog = true := by kernel_rfl
theorem cells24 : Try.prog.cellsOf 24 = 2 := by kernel_rfl
theorem cells3 : Try.prog.cellsOf 3 = 1 := by kernel_rfl
theorem id_cells {H : Type} {enc : TypeId × Value → H} {W : World} {base : Nat} {sp : Nat → Bool} {held : Bool} {fuel : Nat} {cs : List Value} {x : DataW H × List MemPlace} (h : DataW.trod enc Try.prog W base sp held fuel 24 cs = some x) :
    ∃ a b, cs = [.int .i64 a, .int .i64 b] ∧ InI (a, b) := by
  obtain ⟨h1, h2⟩ := trod_struct_c Try.underlying24 h
  rw [cells24] at h1
  simp only [List.mem_cons, List.not_mem_nil, or_false, forall_eq_or_imp, forall_eq, cells3] at h2
  obtain ⟨⟨f0, y0, t0⟩, ⟨f1, y1, t1⟩⟩ := h2
  obtain ⟨a, ha, wa⟩ := trod_int_c Try.underlying3 t0
  obtain ⟨b, hb, wb⟩ := trod_int_c Try.underlying3 t1
  match cs, h1, ha, hb with
  | [x0, x1], _, ha, hb =>
    simp at ha hb
    exact ⟨a, b, by rw [ha, hb], (wf_i64 wa).1, (wf_i64 wa).2, (wf_i64 wb).1, (wf_i64 wb).2⟩
theorem open_id {H : Type} {enc : TypeId × Value → H} {W : World} {r : Reach} {base base' : Nat} {sp : Nat → Bool} {held : Bool} {v : Value} {d : DataW H} {ps : List MemPlace} (hv : Value.okWide Try.prog W r base' 24 v) (h : DataW.Trod enc Try.prog W base sp held 24 v d ps) :
    ∃ i, v = encI i ∧ InI i := by
  obtain ⟨cs, rfl, _⟩ : ∃ cs, v = .agg cs ∧ _ := by
    unfold Value.okWide at hv
    rw [Try.underlying24] at hv
    exact hv
  obtain ⟨fuel, hf⟩ := h
  obtain ⟨a, b, e, hi⟩ := id_cells hf
  refine ⟨(a, b), ?_, hi⟩
  obtain ⟨l⟩ := cs
  simp only [Value.cells] at e
  rw [e]
  rfl
theorem open_ids {H : Type} {enc : TypeId × Value → H} {W : World} {r : Reach} {base base' : Nat} {sp : Nat → Bool} {held : Bool} {v : Value} {d : DataW H} {ps : List MemPlace} (hv : Value.okWide Try.prog W r base' 22 v) (h : DataW.Trod enc Try.prog W base sp held 22 v d ps) :
    ∃ a cap l, v = .slice a l.length cap ∧ IdsAt W a l ∧ ∀ p ∈ l, InI p := by
  obtain ⟨a0, len0, cap0, rfl⟩ := okWide_slice Try.underlying22 hv
  obtain ⟨fuel, hf⟩ := h
  obtain ⟨a, len, cap, hcs, _, _, hat⟩ := slice_at (n := 2) Try.underlying22 cells24 (by omega) hf
  simp only [Value.cells, List.cons.injEq, Value.slice.injEq, and_true] at hcs
  obtain ⟨rfl, rfl, rfl⟩ := hcs
  by_cases h0 : 0 < len0
  · obtain ⟨b, off, rfl, hb, hall⟩ := hat h0
    obtain ⟨l, hl, hP⟩ := list_of_forall (Q := fun i (p : Id2) => (W.cell? ⟨b, off + i * 2, none⟩ = some (.int .i64 p.1) ∧ W.cell? ⟨b, off + i * 2 + 1, none⟩ = some (.int .i64 p.2)) ∧ InI p) len0 (fun i hi => by
      obtain ⟨es, f', y, _, hc, ht⟩ := hall i hi
      obtain ⟨x, z, rfl, q⟩ := id_cells ht
      have c0 := hc 0 (by omega)
      have c1 := hc 1 (by omega)
      exact ⟨(x, z), ⟨c0, c1⟩, q⟩)
    refine ⟨_, _, l, by rw [hl], fun _ => ⟨b, off, rfl, hb, fun i p hp => (hP i p hp).1⟩, fun p hp => ?_⟩
    obtain ⟨i, hi⟩ := List.mem_iff_getElem?.1 hp
    exact (hP i p hi).2
  · have : len0 = 0 := by omega
    subst this
    exact ⟨_, _, [], rfl, fun h => (by simp at h), fun p hp => (by simp at hp)⟩
theorem open_int {H : Type} {enc : TypeId × Value → H} {W : World} {r : Reach} {base base' : Nat} {sp : Nat → Bool} {held : Bool} {v : Value} {d : DataW H} {ps : List MemPlace} (hv : Value.okWide Try.prog W r base' 3 v) (h : DataW.Trod enc Try.prog W base sp held 3 v d ps) :
    ∃ a, v = .int .i64 a ∧ -9223372036854775808 ≤ a ∧ a ≤ 9223372036854775807 := by
  obtain ⟨n, rfl⟩ := okWide_int Try.underlying3 hv
  obtain ⟨fuel, hf⟩ := h
  obtain ⟨m, hm, wm⟩ := trod_int_c Try.underlying3 hf
  simp only [Value.cells, List.cons.injEq, Value.int.injEq, true_and, and_true] at hm
  subst hm
  exact ⟨n, rfl, wf_i64 wm⟩
end Go.Proofs.Ytebifjjghogboaa
