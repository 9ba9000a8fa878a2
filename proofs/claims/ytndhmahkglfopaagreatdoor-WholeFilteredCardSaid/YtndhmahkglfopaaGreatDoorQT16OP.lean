/- The law's arguments, opened: arrays, a byte. -/
import Derived.Test.YtndhmahkglfopaaGreatDoorRows
import Derived.Test.YtndhmahkglfopaaGreatDoorQBase
import Derived.Test.YtndhmahkglfopaaGreatDoorQLaw
namespace Go.Proofs.YtndhmahkglfopaaGreatDoor
open Go.ChangeShapes Go.WideShapes Go.ChangeAt Go.RowKit
theorem own_try : ownKnob Tryz.prog.godebug = none := by kernel_rfl
theorem laid_try : laidOutB Tryz.prog = true := by kernel_rfl
theorem cells4 : Tryz.prog.cellsOf 4 = 1 := by kernel_rfl
set_option maxRecDepth 100000 in
theorem open_byte {H : Type} {enc : TypeId × Value → H} {W : World} {r : Reach} {base base' : Nat} {sp : Nat → Bool} {held : Bool} {v : Value} {d : DataW H} {ps : List MemPlace} (hv : Value.okWide Tryz.prog W r base' 5 v) (h : DataW.Trod enc Tryz.prog W base sp held 5 v d ps) :
    ∃ a, v = .int .u8 a ∧ 0 ≤ a ∧ a ≤ 255 := by
  obtain ⟨n, rfl⟩ := okWide_int Tryz.underlying5 hv
  obtain ⟨fuel, hf⟩ := h
  obtain ⟨m, hm, wm⟩ := trod_int_c Tryz.underlying5 hf
  simp only [Value.cells, List.cons.injEq, Value.int.injEq, true_and, and_true] at hm
  subst hm
  exact ⟨n, rfl, wf_u8 wm⟩
theorem cells34 : Tryz.prog.cellsOf 34 = 6 := by kernel_rfl
theorem cells32 : Tryz.prog.cellsOf 32 = 2 := by kernel_rfl
theorem cells3 : Tryz.prog.cellsOf 3 = 1 := by kernel_rfl
theorem cells9 : Tryz.prog.cellsOf 9 = 1 := by kernel_rfl
set_option maxRecDepth 100000 in
theorem value_cells {H : Type} {enc : TypeId × Value → H} {W : World} {base : Nat} {sp : Nat → Bool} {held : Bool} {fuel : Nat} {cs : List Value} {x : DataW H × List MemPlace} (h : DataW.trod enc Tryz.prog W base sp held fuel 34 cs = some x) :
    ∃ v : V, cs = vcells v ∧ v.t.size ≤ maxLen := by
  obtain ⟨h1, h2⟩ := trod_struct_c Tryz.underlying34 h
  rw [cells34] at h1
  simp only [List.mem_cons, List.not_mem_nil, or_false, forall_eq_or_imp, forall_eq, cells3, cells4, cells9, cells32] at h2
  obtain ⟨⟨f0, y0, t0⟩, ⟨f1, y1, t1⟩, ⟨f2, y2, t2⟩, ⟨f3, y3, t3⟩, ⟨f4, y4, t4⟩⟩ := h2
  obtain ⟨k, hk, _⟩ := trod_int_c Tryz.underlying3 t0
  obtain ⟨_, h3⟩ := trod_struct_c Tryz.underlying32 t1
  simp only [List.mem_cons, List.not_mem_nil, or_false, forall_eq_or_imp, forall_eq, cells3] at h3
  obtain ⟨⟨g0, z0, s0⟩, ⟨g1, z1, s1⟩⟩ := h3
  obtain ⟨m, hm, _⟩ := trod_int_c Tryz.underlying3 s0
  obtain ⟨e, he, _⟩ := trod_int_c Tryz.underlying3 s1
  obtain ⟨t, ht, wt⟩ := trod_string_c Tryz.underlying9 t2
  obtain ⟨b, hb⟩ := trod_bool_c Tryz.underlying4 t3
  obtain ⟨f, hf, _⟩ := trod_int_c Tryz.underlying3 t4
  match cs, h1, hk, hm, he, ht, hb, hf with
  | [x0, x1, x2, x3, x4, x5], _, hk, hm, he, ht, hb, hf =>
    simp at hk hm he ht hb hf
    exact ⟨⟨k, m, e, t, b, f⟩, by rw [hk, hm, he, ht, hb, hf]; rfl, wt⟩
theorem cells26 : Tryz.prog.cellsOf 26 = 1 := by kernel_rfl
theorem cells28 : Tryz.prog.cellsOf 28 = 3 := by kernel_rfl
set_option maxRecDepth 100000 in
/-- A slice of values that came in. -/
theorem values_cells {H : Type} {enc : TypeId × Value → H} {W : World} {base : Nat} {sp : Nat → Bool} {held : Bool} {fuel : Nat} {cs : List Value} {x : DataW H × List MemPlace} (h : DataW.trod enc Tryz.prog W base sp held fuel 26 cs = some x) :
    ∃ a cap l, cs = [.slice a l.length cap] ∧ SlB 0 W a l ∧ ∀ v ∈ l, v.t.size ≤ maxLen := by
  obtain ⟨a, len, cap, hcs, _, _, hat⟩ := slice_at (n := 6) Tryz.underlying26 cells34 (by omega) h
  by_cases h0 : 0 < len
  · obtain ⟨b, off, rfl, hb, hall⟩ := hat h0
    obtain ⟨l, hl, hP⟩ := list_of_forall (Q := fun i (v : V) => (∀ j, j < 6 → W.cell? ⟨b, off + i * 6 + j, none⟩ = (vcells v)[j]?) ∧ v.t.size ≤ maxLen) len (fun i hi => by
      obtain ⟨es, f', y, _, hc, ht⟩ := hall i hi
      obtain ⟨v, rfl, hv⟩ := value_cells ht
      exact ⟨v, hc, hv⟩)
    refine ⟨_, _, l, by rw [hl]; exact hcs, fun _ => ⟨b, off, rfl, Nat.zero_le _, hb, fun i v hv => (hP i v hv).1⟩, fun v hv => ?_⟩
    obtain ⟨i, hi⟩ := List.mem_iff_getElem?.1 hv
    exact (hP i v hi).2
  · have : len = 0 := by omega
    subst this
    exact ⟨_, _, [], hcs, fun h => (by simp at h), fun v hv => (by simp at hv)⟩
set_option maxRecDepth 100000 in
theorem open_values {H : Type} {enc : TypeId × Value → H} {W : World} {r : Reach} {base base' : Nat} {sp : Nat → Bool} {held : Bool} {v : Value} {d : DataW H} {ps : List MemPlace} (hv : Value.okWide Tryz.prog W r base' 26 v) (h : DataW.Trod enc Tryz.prog W base sp held 26 v d ps) :
    ∃ a cap l, v = .slice a l.length cap ∧ SlB 0 W a l := by
  obtain ⟨a0, len0, cap0, rfl⟩ := okWide_slice Tryz.underlying26 hv
  obtain ⟨fuel, hf⟩ := h
  obtain ⟨a, cap, l, e, hs, _⟩ := values_cells hf
  simp only [Value.cells, List.cons.injEq, and_true] at e
  exact ⟨a, cap, l, e, hs⟩
set_option maxRecDepth 100000 in
theorem array_cells {H : Type} {enc : TypeId × Value → H} {W : World} {base : Nat} {sp : Nat → Bool} {held : Bool} {fuel : Nat} {cs : List Value} {x : DataW H × List MemPlace} (h : DataW.trod enc Tryz.prog W base sp held fuel 28 cs = some x) :
    ∃ (A : Arr) (a : Option Addr) (cap : Nat), cs = [.int .i64 A.r, .int .i64 A.c, .slice a A.l.length cap] ∧ SlB 0 W a A.l := by
  obtain ⟨h1, h2⟩ := trod_struct_c Tryz.underlying28 h
  rw [cells28] at h1
  simp only [List.mem_cons, List.not_mem_nil, or_false, forall_eq_or_imp, forall_eq, cells3, cells26] at h2
  obtain ⟨⟨f0, y0, t0⟩, ⟨f1, y1, t1⟩, ⟨f2, y2, t2⟩⟩ := h2
  obtain ⟨r, hr, _⟩ := trod_int_c Tryz.underlying3 t0
  obtain ⟨c, hc, _⟩ := trod_int_c Tryz.underlying3 t1
  obtain ⟨a, cap, l, hl, hs, _⟩ := values_cells t2
  match cs, h1, hr, hc, hl with
  | [x0, x1, x2], _, hr, hc, hl =>
    simp at hr hc hl
    exact ⟨⟨r, c, l⟩, a, cap, by rw [hr, hc, hl], hs⟩
set_option maxRecDepth 100000 in
theorem open_array {H : Type} {enc : TypeId × Value → H} {W : World} {r : Reach} {base base' : Nat} {sp : Nat → Bool} {held : Bool} {v : Value} {d : DataW H} {ps : List MemPlace} (hv : Value.okWide Tryz.prog W r base' 28 v) (h : DataW.Trod enc Tryz.prog W base sp held 28 v d ps) :
    ∃ (A : Arr) (a : Option Addr) (cap : Nat), v = .agg #[.int .i64 A.r, .int .i64 A.c, .slice a A.l.length cap] ∧ SlB 0 W a A.l := by
  obtain ⟨cs, rfl, _⟩ : ∃ cs, v = .agg cs ∧ _ := by
    unfold Value.okWide at hv
    rw [Tryz.underlying28] at hv
    exact hv
  obtain ⟨fuel, hf⟩ := h
  obtain ⟨A, a, cap, e, hs⟩ := array_cells hf
  refine ⟨A, a, cap, ?_, hs⟩
  obtain ⟨l⟩ := cs
  simp only [Value.cells] at e
  rw [e]
end Go.Proofs.YtndhmahkglfopaaGreatDoor
