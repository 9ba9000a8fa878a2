/- Arguments of the laws on truths, opened. -/
import Derived.Test.YtgbedjeiihigaaaRows
import Derived.Test.YtgbedjeiihigaaaF13Arr
import Derived.Test.YtgbedjeiihigaaaOpens
namespace Go.Proofs.Ytgbedjeiihigaaa
open Go.ChangeShapes Go.WideShapes Go.ChangeAt Go.RowKit
theorem own_try : ownKnob Try.prog.godebug = none := by kernel_rfl
theorem laid_try : laidOutB Try.prog = true := by kernel_rfl
theorem cells4 : Try.prog.cellsOf 4 = 1 := by kernel_rfl
def BoolsAt (w : World) (a : Option Addr) (l : List Bool) : Prop := 0 < l.length → ∃ b off, a = some ⟨b, off, none⟩ ∧ b < w.heap.size ∧ ∀ i x, l[i]? = some x → w.cell? ⟨b, off + i, none⟩ = some (.bool x)
set_option maxRecDepth 100000 in
theorem open_byte {H : Type} {enc : TypeId × Value → H} {W : World} {r : Reach} {base base' : Nat} {sp : Nat → Bool} {held : Bool} {v : Value} {d : DataW H} {ps : List MemPlace} (hv : Value.okWide Try.prog W r base' 5 v) (h : DataW.Trod enc Try.prog W base sp held 5 v d ps) :
    ∃ a, v = .int .u8 a ∧ 0 ≤ a ∧ a ≤ 255 := by
  obtain ⟨n, rfl⟩ := okWide_int Try.underlying5 hv
  obtain ⟨fuel, hf⟩ := h
  obtain ⟨m, hm, wm⟩ := trod_int_c Try.underlying5 hf
  simp only [Value.cells, List.cons.injEq, Value.int.injEq, true_and, and_true] at hm
  subst hm
  exact ⟨n, rfl, wf_u8 wm⟩
set_option maxRecDepth 100000 in
theorem open_bools {H : Type} {enc : TypeId × Value → H} {W : World} {r : Reach} {base base' : Nat} {sp : Nat → Bool} {held : Bool} {v : Value} {d : DataW H} {ps : List MemPlace} (hv : Value.okWide Try.prog W r base' 22 v) (h : DataW.Trod enc Try.prog W base sp held 22 v d ps) :
    ∃ a cap l, v = .slice a l.length cap ∧ BoolsAt W a l := by
  obtain ⟨a0, len0, cap0, rfl⟩ := okWide_slice Try.underlying22 hv
  obtain ⟨fuel, hf⟩ := h
  obtain ⟨a, len, cap, hcs, _, _, hat⟩ := slice_at (n := 1) Try.underlying22 cells4 (by omega) hf
  simp only [Value.cells, List.cons.injEq, Value.slice.injEq, and_true] at hcs
  obtain ⟨rfl, rfl, rfl⟩ := hcs
  by_cases h0 : 0 < len0
  · obtain ⟨b, off, rfl, hb, hall⟩ := hat h0
    obtain ⟨l, hl, hP⟩ := list_of_forall (Q := fun i (x : Bool) => W.cell? ⟨b, off + i, none⟩ = some (.bool x)) len0 (fun i hi => by
      obtain ⟨es, f', y, _, hc, ht⟩ := hall i hi
      obtain ⟨x, rfl⟩ := trod_bool_c Try.underlying4 ht
      have c0 := hc 0 (by omega)
      exact ⟨x, by simpa using c0⟩)
    exact ⟨_, _, l, by rw [hl], fun _ => ⟨b, off, rfl, hb, hP⟩⟩
  · have : len0 = 0 := by omega
    subst this
    exact ⟨_, _, [], rfl, fun h => (by simp at h)⟩
theorem cells36 : Try.prog.cellsOf 36 = 6 := by kernel_rfl
theorem cells34 : Try.prog.cellsOf 34 = 2 := by kernel_rfl
theorem cells3 : Try.prog.cellsOf 3 = 1 := by kernel_rfl
theorem cells9 : Try.prog.cellsOf 9 = 1 := by kernel_rfl
set_option maxRecDepth 100000 in
theorem value_cells {H : Type} {enc : TypeId × Value → H} {W : World} {base : Nat} {sp : Nat → Bool} {held : Bool} {fuel : Nat} {cs : List Value} {x : DataW H × List MemPlace} (h : DataW.trod enc Try.prog W base sp held fuel 36 cs = some x) :
    ∃ v : V, cs = vcells v ∧ v.t.size ≤ maxLen := by
  obtain ⟨h1, h2⟩ := trod_struct_c Try.underlying36 h
  rw [cells36] at h1
  simp only [List.mem_cons, List.not_mem_nil, or_false, forall_eq_or_imp, forall_eq, cells3, cells4, cells9, cells34] at h2
  obtain ⟨⟨f0, y0, t0⟩, ⟨f1, y1, t1⟩, ⟨f2, y2, t2⟩, ⟨f3, y3, t3⟩, ⟨f4, y4, t4⟩⟩ := h2
  obtain ⟨k, hk, _⟩ := trod_int_c Try.underlying3 t0
  obtain ⟨_, h3⟩ := trod_struct_c Try.underlying34 t1
  simp only [List.mem_cons, List.not_mem_nil, or_false, forall_eq_or_imp, forall_eq, cells3] at h3
  obtain ⟨⟨g0, z0, s0⟩, ⟨g1, z1, s1⟩⟩ := h3
  obtain ⟨m, hm, _⟩ := trod_int_c Try.underlying3 s0
  obtain ⟨e, he, _⟩ := trod_int_c Try.underlying3 s1
  obtain ⟨t, ht, wt⟩ := trod_string_c Try.underlying9 t2
  obtain ⟨b, hb⟩ := trod_bool_c Try.underlying4 t3
  obtain ⟨f, hf, _⟩ := trod_int_c Try.underlying3 t4
  match cs, h1, hk, hm, he, ht, hb, hf with
  | [x0, x1, x2, x3, x4, x5], _, hk, hm, he, ht, hb, hf =>
    simp at hk hm he ht hb hf
    exact ⟨⟨k, m, e, t, b, f⟩, by rw [hk, hm, he, ht, hb, hf]; rfl, wt⟩
set_option maxRecDepth 100000 in
theorem open_value {H : Type} {enc : TypeId × Value → H} {W : World} {r : Reach} {base base' : Nat} {sp : Nat → Bool} {held : Bool} {v : Value} {d : DataW H} {ps : List MemPlace} (hv : Value.okWide Try.prog W r base' 36 v) (h : DataW.Trod enc Try.prog W base sp held 36 v d ps) :
    ∃ u : V, v = vagg u ∧ u.t.size ≤ maxLen := by
  obtain ⟨cs, rfl, _⟩ : ∃ cs, v = .agg cs ∧ _ := by
    unfold Value.okWide at hv
    rw [Try.underlying36] at hv
    exact hv
  obtain ⟨fuel, hf⟩ := h
  obtain ⟨u, e, hu⟩ := value_cells hf
  refine ⟨u, ?_, hu⟩
  obtain ⟨l⟩ := cs
  simp only [Value.cells] at e
  rw [e]
  rfl
end Go.Proofs.Ytgbedjeiihigaaa
