/- Arguments of the laws on boards, opened. -/
import Derived.Test.YtihfmcadcojjnaaRows
import Derived.Test.YtihfmcadcojjnaaS23Kept
import Derived.Test.YtihfmcadcojjnaaOpens
namespace Go.Proofs.Ytihfmcadcojjnaa
open Go.ChangeShapes Go.WideShapes Go.ChangeAt Go.RowKit
theorem own_try : ownKnob Try.prog.godebug = none := by kernel_rfl
theorem laid_try : laidOutB Try.prog = true := by kernel_rfl
theorem cells29 : Try.prog.cellsOf 29 = 2 := by kernel_rfl
theorem cells5 : Try.prog.cellsOf 5 = 1 := by kernel_rfl
theorem open_pair {H : Type} {enc : TypeId × Value → H} {W : World} {r : Reach} {base base' : Nat} {sp : Nat → Bool} {held : Bool} {v : Value} {d : DataW H} {ps : List MemPlace} (hv : Value.okWide Try.prog W r base' 29 v) (h : DataW.Trod enc Try.prog W base sp held 29 v d ps) :
    ∃ a b, v = .agg #[.int .u8 a, .int .u8 b] ∧ 0 ≤ a ∧ a ≤ 255 ∧ 0 ≤ b ∧ b ≤ 255 := by
  obtain ⟨cs, rfl, hsz, _⟩ : ∃ cs, v = .agg cs ∧ cs.size = Try.prog.cellsOf 29 ∧ _ := by
    unfold Value.okWide at hv
    rw [Try.underlying29] at hv
    exact hv
  obtain ⟨fuel, hf⟩ := h
  obtain ⟨h1, h2⟩ := trod_array_c Try.underlying29 hf
  rw [cells29] at hsz
  rw [cells5] at h2
  obtain ⟨f0, y0, t0⟩ := h2 0 (by omega)
  obtain ⟨f1, y1, t1⟩ := h2 1 (by omega)
  obtain ⟨a, ha, wa⟩ := trod_int_c Try.underlying5 t0
  obtain ⟨b, hb, wb⟩ := trod_int_c Try.underlying5 t1
  have e : cs = #[.int .u8 a, .int .u8 b] := by
    obtain ⟨l⟩ := cs
    simp only [Value.cells] at ha hb
    match l, hsz, ha, hb with
    | [x, y], _, ha, hb => simp at ha hb; rw [ha, hb]
  exact ⟨a, b, by rw [e], (wf_u8 wa).1, (wf_u8 wa).2, (wf_u8 wb).1, (wf_u8 wb).2⟩

theorem cells23 : Try.prog.cellsOf 23 = 5 := by kernel_rfl
theorem cells3 : Try.prog.cellsOf 3 = 1 := by kernel_rfl
theorem cells4 : Try.prog.cellsOf 4 = 1 := by kernel_rfl
theorem act_cells {H : Type} {enc : TypeId × Value → H} {W : World} {base : Nat} {sp : Nat → Bool} {held : Bool} {fuel : Nat} {cs : List Value} {x : DataW H × List MemPlace} (h : DataW.trod enc Try.prog W base sp held fuel 23 cs = some x) :
    ∃ f r c rs cs', cs = [.bool f, .int .i64 r, .int .i64 c, .int .i64 rs, .int .i64 cs'] ∧ (Lit.int .i64 r).wf = true ∧ (Lit.int .i64 c).wf = true ∧ (Lit.int .i64 rs).wf = true ∧ (Lit.int .i64 cs').wf = true := by
  obtain ⟨h1, h2⟩ := trod_struct_c Try.underlying23 h
  rw [cells23] at h1
  simp only [List.mem_cons, List.not_mem_nil, or_false, forall_eq_or_imp, forall_eq, cells3, cells4] at h2
  obtain ⟨⟨f0, y0, t0⟩, ⟨f1, y1, t1⟩, ⟨f2, y2, t2⟩, ⟨f3, y3, t3⟩, ⟨f4, y4, t4⟩⟩ := h2
  obtain ⟨b, hb⟩ := trod_bool_c Try.underlying4 t0
  obtain ⟨r, hr, wr⟩ := trod_int_c Try.underlying3 t1
  obtain ⟨c, hc, wc⟩ := trod_int_c Try.underlying3 t2
  obtain ⟨rs, hrs, wrs⟩ := trod_int_c Try.underlying3 t3
  obtain ⟨cs', hcs, wcs⟩ := trod_int_c Try.underlying3 t4
  match cs, h1, hb, hr, hc, hrs, hcs with
  | [x0, x1, x2, x3, x4], _, hb, hr, hc, hrs, hcs =>
    simp at hb hr hc hrs hcs
    exact ⟨b, r, c, rs, cs', by rw [hb, hr, hc, hrs, hcs], wr, wc, wrs, wcs⟩
theorem open_act {H : Type} {enc : TypeId × Value → H} {W : World} {r : Reach} {base base' : Nat} {sp : Nat → Bool} {held : Bool} {v : Value} {d : DataW H} {ps : List MemPlace} (hv : Value.okWide Try.prog W r base' 23 v) (h : DataW.Trod enc Try.prog W base sp held 23 v d ps) :
    ∃ f r c rs cs, v = .agg #[.bool f, .int .i64 r, .int .i64 c, .int .i64 rs, .int .i64 cs] := by
  obtain ⟨cs, rfl, _⟩ : ∃ cs, v = .agg cs ∧ _ := by
    unfold Value.okWide at hv
    rw [Try.underlying23] at hv
    exact hv
  obtain ⟨fuel, hf⟩ := h
  obtain ⟨f, r, c, rs, cs', e, _⟩ := act_cells hf
  refine ⟨f, r, c, rs, cs', ?_⟩
  obtain ⟨l⟩ := cs
  simp only [Value.cells] at e
  rw [e]
theorem pair_cells {H : Type} {enc : TypeId × Value → H} {W : World} {base : Nat} {sp : Nat → Bool} {held : Bool} {fuel : Nat} {cs : List Value} {x : DataW H × List MemPlace} (h : DataW.trod enc Try.prog W base sp held fuel 29 cs = some x) :
    ∃ a b, cs = [.int .u8 a, .int .u8 b] ∧ 0 ≤ a ∧ a ≤ 255 ∧ 0 ≤ b ∧ b ≤ 255 := by
  obtain ⟨h1, h2⟩ := trod_array_c Try.underlying29 h
  rw [cells29] at h1
  rw [cells5] at h2
  obtain ⟨f0, y0, t0⟩ := h2 0 (by omega)
  obtain ⟨f1, y1, t1⟩ := h2 1 (by omega)
  obtain ⟨a, ha, wa⟩ := trod_int_c Try.underlying5 t0
  obtain ⟨b, hb, wb⟩ := trod_int_c Try.underlying5 t1
  match cs, h1, ha, hb with
  | [x, y], _, ha, hb =>
    simp at ha hb
    exact ⟨a, b, by rw [ha, hb], (wf_u8 wa).1, (wf_u8 wa).2, (wf_u8 wb).1, (wf_u8 wb).2⟩
theorem open_pairs {H : Type} {enc : TypeId × Value → H} {W : World} {r : Reach} {base base' : Nat} {sp : Nat → Bool} {held : Bool} {v : Value} {d : DataW H} {ps : List MemPlace} (hv : Value.okWide Try.prog W r base' 24 v) (h : DataW.Trod enc Try.prog W base sp held 24 v d ps) :
    ∃ a cap l, v = .slice a l.length cap ∧ PairsAt W a l := by
  obtain ⟨a0, len0, cap0, rfl⟩ := okWide_slice Try.underlying24 hv
  obtain ⟨fuel, hf⟩ := h
  obtain ⟨a, len, cap, hcs, _, _, hat⟩ := slice_at (n := 2) Try.underlying24 cells29 (by omega) hf
  simp only [Value.cells, List.cons.injEq, Value.slice.injEq, and_true] at hcs
  obtain ⟨rfl, rfl, rfl⟩ := hcs
  by_cases h0 : 0 < len0
  · obtain ⟨b, off, rfl, hb, hall⟩ := hat h0
    obtain ⟨l, hl, hP⟩ := list_of_forall (Q := fun i (p : P2) => (W.cell? ⟨b, off + i * 2, none⟩ = some (.int .u8 p.1) ∧ W.cell? ⟨b, off + i * 2 + 1, none⟩ = some (.int .u8 p.2)) ∧ 0 ≤ p.1 ∧ p.1 ≤ 255 ∧ 0 ≤ p.2 ∧ p.2 ≤ 255) len0 (fun i hi => by
      obtain ⟨es, f', y, _, hc, ht⟩ := hall i hi
      obtain ⟨x, z, rfl, q⟩ := pair_cells ht
      have c0 := hc 0 (by omega)
      have c1 := hc 1 (by omega)
      exact ⟨(x, z), ⟨by simpa using c0, by simpa using c1⟩, q⟩)
    refine ⟨_, _, l, by rw [hl], fun p hp => ?_, fun _ => ⟨b, off, rfl, hb, fun i p hp => (hP i p hp).1⟩⟩
    obtain ⟨i, hi⟩ := List.mem_iff_getElem?.1 hp
    exact (hP i p hi).2
  · have : len0 = 0 := by omega
    subst this
    exact ⟨_, _, [], rfl, fun p hp => (by simp at hp), fun h => (by simp at h)⟩

theorem open_acts {H : Type} {enc : TypeId × Value → H} {W : World} {r : Reach} {base base' : Nat} {sp : Nat → Bool} {held : Bool} {v : Value} {d : DataW H} {ps : List MemPlace} (hv : Value.okWide Try.prog W r base' 34 v) (h : DataW.Trod enc Try.prog W base sp held 34 v d ps) :
    ∃ a cap l, v = .slice a l.length cap ∧ ActsAt W a l := by
  obtain ⟨a0, len0, cap0, rfl⟩ := okWide_slice Try.underlying34 hv
  obtain ⟨fuel, hf⟩ := h
  obtain ⟨a, len, cap, hcs, _, _, hat⟩ := slice_at (n := 5) Try.underlying34 cells23 (by omega) hf
  simp only [Value.cells, List.cons.injEq, Value.slice.injEq, and_true] at hcs
  obtain ⟨rfl, rfl, rfl⟩ := hcs
  by_cases h0 : 0 < len0
  · obtain ⟨b, off, rfl, hb, hall⟩ := hat h0
    obtain ⟨l, hl, hP⟩ := list_of_forall (Q := fun i (x : Ac) => W.cell? ⟨b, off + i * 5, none⟩ = some (.bool x.f) ∧ W.cell? ⟨b, off + i * 5 + 1, none⟩ = some (.int .i64 x.r) ∧ W.cell? ⟨b, off + i * 5 + 2, none⟩ = some (.int .i64 x.c) ∧ W.cell? ⟨b, off + i * 5 + 3, none⟩ = some (.int .i64 x.rs) ∧ W.cell? ⟨b, off + i * 5 + 4, none⟩ = some (.int .i64 x.cs)) len0 (fun i hi => by
      obtain ⟨es, f', y, _, hc, ht⟩ := hall i hi
      obtain ⟨f, r, c, rs, cs, rfl, _⟩ := act_cells ht
      have c0 := hc 0 (by omega)
      have c1 := hc 1 (by omega)
      have c2 := hc 2 (by omega)
      have c3 := hc 3 (by omega)
      have c4 := hc 4 (by omega)
      exact ⟨⟨f, r, c, rs, cs⟩, by simpa using c0, by simpa using c1, by simpa using c2, by simpa using c3, by simpa using c4⟩)
    exact ⟨_, _, l, by rw [hl], fun _ => ⟨b, off, rfl, hb, hP⟩⟩
  · have : len0 = 0 := by omega
    subst this
    exact ⟨_, _, [], rfl, fun h => (by simp at h)⟩
theorem open_byte {H : Type} {enc : TypeId × Value → H} {W : World} {r : Reach} {base base' : Nat} {sp : Nat → Bool} {held : Bool} {v : Value} {d : DataW H} {ps : List MemPlace} (hv : Value.okWide Try.prog W r base' 5 v) (h : DataW.Trod enc Try.prog W base sp held 5 v d ps) :
    ∃ a, v = .int .u8 a ∧ 0 ≤ a ∧ a ≤ 255 := by
  obtain ⟨n, rfl⟩ := okWide_int Try.underlying5 hv
  obtain ⟨fuel, hf⟩ := h
  obtain ⟨m, hm, wm⟩ := trod_int_c Try.underlying5 hf
  simp only [Value.cells, List.cons.injEq, Value.int.injEq, true_and, and_true] at hm
  subst hm
  exact ⟨n, rfl, wf_u8 wm⟩
end Go.Proofs.Ytihfmcadcojjnaa
