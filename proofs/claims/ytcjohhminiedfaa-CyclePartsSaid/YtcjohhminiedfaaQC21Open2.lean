/- Cycle: rows of edges, and of numbers, opened. -/
import Derived.Test.YtcjohhminiedfaaQC21Laid
import Derived.Test.YtcjohhminiedfaaQC21Open
namespace Go.Proofs.Ytcjohhminiedfaa
open Go.ChangeShapes Go.WideShapes Go.ChangeAt Go.RowKit
theorem cells37 : Try.prog.cellsOf 37 = 2 := by kernel_rfl
theorem cells3 : Try.prog.cellsOf 3 = 1 := by kernel_rfl
set_option maxRecDepth 100000 in
theorem open_byte {H : Type} {enc : TypeId × Value → H} {W : World} {r : Reach} {base base' : Nat} {sp : Nat → Bool} {held : Bool} {v : Value} {d : DataW H} {ps : List MemPlace} (hv : Value.okWide Try.prog W r base' 5 v) (h : DataW.Trod enc Try.prog W base sp held 5 v d ps) :
    ∃ a, v = .int .u8 a ∧ 0 ≤ a ∧ a ≤ 255 := by
  obtain ⟨n, rfl⟩ := okWide_int Try.underlying5 hv
  obtain ⟨fuel, hf⟩ := h
  obtain ⟨m, hm, wm⟩ := trod_int_c Try.underlying5 hf
  simp only [Value.cells, List.cons.injEq, Value.int.injEq, true_and, and_true] at hm
  subst hm
  exact ⟨n, rfl, wf_u8 wm⟩
set_option maxRecDepth 100000 in
theorem edge_cells {H : Type} {enc : TypeId × Value → H} {W : World} {base : Nat} {sp : Nat → Bool} {held : Bool} {fuel : Nat} {cs : List Value} {x : DataW H × List MemPlace} (h : DataW.trod enc Try.prog W base sp held fuel 37 cs = some x) :
    ∃ a b, cs = [.int .i64 a, .int .i64 b] := by
  obtain ⟨h1, h2⟩ := trod_array_c Try.underlying37 h
  rw [cells37] at h1
  obtain ⟨f0, y0, t0⟩ := h2 0 (by decide)
  obtain ⟨f1, y1, t1⟩ := h2 1 (by decide)
  rw [cells3] at t0 t1
  obtain ⟨a, ha, _⟩ := trod_int_c Try.underlying3 t0
  obtain ⟨b, hb, _⟩ := trod_int_c Try.underlying3 t1
  match cs, h1, ha, hb with
  | [x0, x1], _, ha, hb =>
    simp at ha hb
    exact ⟨a, b, by rw [ha, hb]⟩
set_option maxRecDepth 100000 in
theorem open_edge {H : Type} {enc : TypeId × Value → H} {W : World} {r : Reach} {base base' : Nat} {sp : Nat → Bool} {held : Bool} {v : Value} {d : DataW H} {ps : List MemPlace} (hv : Value.okWide Try.prog W r base' 37 v) (h : DataW.Trod enc Try.prog W base sp held 37 v d ps) :
    ∃ a b, v = .agg #[.int .i64 a, .int .i64 b] := by
  obtain ⟨cs, rfl, _⟩ : ∃ cs, v = .agg cs ∧ _ := by
    unfold Value.okWide at hv
    rw [Try.underlying37] at hv
    exact hv
  obtain ⟨fuel, hf⟩ := h
  obtain ⟨a, b, e⟩ := edge_cells hf
  refine ⟨a, b, ?_⟩
  obtain ⟨l⟩ := cs
  simp only [Value.cells] at e
  rw [e]
set_option maxRecDepth 100000 in
theorem open_edges {H : Type} {enc : TypeId × Value → H} {W : World} {r : Reach} {base base' : Nat} {sp : Nat → Bool} {held : Bool} {v : Value} {d : DataW H} {ps : List MemPlace} (hv : Value.okWide Try.prog W r base' 22 v) (h : DataW.Trod enc Try.prog W base sp held 22 v d ps) :
    ∃ a cap l, v = .slice a l.length cap ∧ EdAt W a l := by
  obtain ⟨a0, len0, cap0, rfl⟩ := okWide_slice Try.underlying22 hv
  obtain ⟨fuel, hf⟩ := h
  obtain ⟨a, len, cap, hcs, _, _, hat⟩ := slice_at (n := 2) Try.underlying22 cells37 (by omega) hf
  simp only [Value.cells, List.cons.injEq, Value.slice.injEq, and_true] at hcs
  obtain ⟨rfl, rfl, rfl⟩ := hcs
  by_cases h0 : 0 < len0
  · obtain ⟨b, off, rfl, hb, hall⟩ := hat h0
    obtain ⟨l, hl, hP⟩ := list_of_forall (Q := fun i (p : Int × Int) => W.cell? ⟨b, off + i * 2, none⟩ = some (.int .i64 p.1) ∧ W.cell? ⟨b, off + i * 2 + 1, none⟩ = some (.int .i64 p.2)) len0 (fun i hi => by
      obtain ⟨es, f', y, _, hc, ht⟩ := hall i hi
      obtain ⟨x, z, rfl⟩ := edge_cells ht
      have c0 := hc 0 (by omega)
      have c1 := hc 1 (by omega)
      exact ⟨(x, z), c0, c1⟩)
    exact ⟨_, _, l, by rw [hl], fun i p hp => ⟨b, off, rfl, hb, hP i p hp⟩⟩
  · have : len0 = 0 := by omega
    subst this
    exact ⟨_, _, [], rfl, fun i p hp => by simp at hp⟩
set_option maxRecDepth 100000 in
theorem open_ints {H : Type} {enc : TypeId × Value → H} {W : World} {r : Reach} {base base' : Nat} {sp : Nat → Bool} {held : Bool} {v : Value} {d : DataW H} {ps : List MemPlace} (hv : Value.okWide Try.prog W r base' 31 v) (h : DataW.Trod enc Try.prog W base sp held 31 v d ps) :
    ∃ S, RdI W v S := by
  obtain ⟨a0, len0, cap0, rfl⟩ := okWide_slice Try.underlying31 hv
  obtain ⟨fuel, hf⟩ := h
  obtain ⟨a, len, cap, hcs, hlc, hcm, hat⟩ := slice_at (n := 1) Try.underlying31 cells3 (by omega) hf
  simp only [Value.cells, List.cons.injEq, Value.slice.injEq, and_true] at hcs
  obtain ⟨rfl, rfl, rfl⟩ := hcs
  have hmax : len0 ≤ maxLen := Nat.le_trans hlc hcm
  by_cases h0 : 0 < len0
  · obtain ⟨b, off, rfl, hb, hall⟩ := hat h0
    obtain ⟨l, hl, hP⟩ := list_of_forall (Q := fun i (x : Int) => W.cell? ⟨b, off + i, none⟩ = some (.int .i64 x)) len0 (fun i hi => by
      obtain ⟨es, f', y, hes, hc, ht⟩ := hall i hi
      obtain ⟨x, rfl, _⟩ := trod_int_c Try.underlying3 ht
      have c0 := hc 0 (by omega)
      simp only [Nat.mul_one, Nat.add_zero] at c0
      exact ⟨x, c0⟩)
    exact ⟨l, by rw [hl]; exact hmax, _, _, by rw [hl], fun j x hx => ⟨b, off, rfl, hb, hP j x hx⟩⟩
  · have : len0 = 0 := by omega
    subst this
    exact ⟨[], Nat.zero_le _, _, _, rfl, fun j x hx => by simp at hx⟩
end Go.Proofs.Ytcjohhminiedfaa
