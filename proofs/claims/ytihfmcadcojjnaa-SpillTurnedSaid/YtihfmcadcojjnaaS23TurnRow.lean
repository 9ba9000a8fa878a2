/- SpillTurned: the row: for every two acts and every slice of pairs of bytes the law returns true, and the arguments read as before. No conditions. -/
import Derived.Test.YtihfmcadcojjnaaS23FreeRow
import Derived.Test.YtihfmcadcojjnaaS23Turn3
namespace Go.Proofs.Ytihfmcadcojjnaa
open Go.ChangeShapes Go.WideShapes Go.ChangeAt Go.RowKit
theorem cells23 : Try.prog.cellsOf 23 = 5 := by kernel_rfl
theorem cells3 : Try.prog.cellsOf 3 = 1 := by kernel_rfl
theorem cells4 : Try.prog.cellsOf 4 = 1 := by kernel_rfl
theorem act_cells {H : Type} {enc : TypeId × Value → H} {W : World} {base : Nat} {sp : Nat → Bool} {held : Bool} {fuel : Nat} {cs : List Value} {x : DataW H × List MemPlace} (h : DataW.trod enc Try.prog W base sp held fuel 23 cs = some x) :
    ∃ f r c rs cs', cs = [.bool f, .int .i64 r, .int .i64 c, .int .i64 rs, .int .i64 cs'] ∧ (Lit.int .i64 r).wf = true ∧ (Lit.int .i64 c).wf = true ∧ (Lit.int .i64 rs).wf = true ∧ (Lit.int .i64 cs').wf = true := by
  obtain ⟨h1, h2⟩ := trod_struct_c Try.underlying23 h
  rw [cells23] at h1
  simp only [List.mem_cons, List.not_mem_nil, or_false, forall_eq_or_imp, forall_eq, cells3, cells4] at h2
  obtain ⟨⟨f0, y0, t0⟩, ⟨f1, y1, t1⟩, ⟨f2, y2, t2⟩, ⟨f3, y3, t3⟩, ⟨f4, y4, t4⟩⟩ := h2
  obtain ⟨b, hb⟩ := trod_bool_c Try.underlying4 t0
  obtain ⟨r, hr, wr⟩ := trod_int_c Try.underlying3 t1
  obtain ⟨c, hc, wc⟩ := trod_int_c Try.underlying3 t2
  obtain ⟨rs, hrs, wrs⟩ := trod_int_c Try.underlying3 t3
  obtain ⟨cs', hcs, wcs⟩ := trod_int_c Try.underlying3 t4
  match cs, h1, hb, hr, hc, hrs, hcs with
  | [x0, x1, x2, x3, x4], _, hb, hr, hc, hrs, hcs =>
    simp at hb hr hc hrs hcs
    exact ⟨b, r, c, rs, cs', by rw [hb, hr, hc, hrs, hcs], wr, wc, wrs, wcs⟩
theorem open_act {H : Type} {enc : TypeId × Value → H} {W : World} {r : Reach} {base base' : Nat} {sp : Nat → Bool} {held : Bool} {v : Value} {d : DataW H} {ps : List MemPlace} (hv : Value.okWide Try.prog W r base' 23 v) (h : DataW.Trod enc Try.prog W base sp held 23 v d ps) :
    ∃ f r c rs cs, v = .agg #[.bool f, .int .i64 r, .int .i64 c, .int .i64 rs, .int .i64 cs] := by
  obtain ⟨cs, rfl, _⟩ : ∃ cs, v = .agg cs ∧ _ := by
    unfold Value.okWide at hv
    rw [Try.underlying23] at hv
    exact hv
  obtain ⟨fuel, hf⟩ := h
  obtain ⟨f, r, c, rs, cs', e, _⟩ := act_cells hf
  refine ⟨f, r, c, rs, cs', ?_⟩
  obtain ⟨l⟩ := cs
  simp only [Value.cells] at e
  rw [e]
theorem pair_cells {H : Type} {enc : TypeId × Value → H} {W : World} {base : Nat} {sp : Nat → Bool} {held : Bool} {fuel : Nat} {cs : List Value} {x : DataW H × List MemPlace} (h : DataW.trod enc Try.prog W base sp held fuel 29 cs = some x) :
    ∃ a b, cs = [.int .u8 a, .int .u8 b] ∧ 0 ≤ a ∧ a ≤ 255 ∧ 0 ≤ b ∧ b ≤ 255 := by
  obtain ⟨h1, h2⟩ := trod_array_c Try.underlying29 h
  rw [cells29] at h1
  rw [cells5] at h2
  obtain ⟨f0, y0, t0⟩ := h2 0 (by omega)
  obtain ⟨f1, y1, t1⟩ := h2 1 (by omega)
  obtain ⟨a, ha, wa⟩ := trod_int_c Try.underlying5 t0
  obtain ⟨b, hb, wb⟩ := trod_int_c Try.underlying5 t1
  match cs, h1, ha, hb with
  | [x, y], _, ha, hb =>
    simp at ha hb
    exact ⟨a, b, by rw [ha, hb], (wf_u8 wa).1, (wf_u8 wa).2, (wf_u8 wb).1, (wf_u8 wb).2⟩
theorem open_pairs {H : Type} {enc : TypeId × Value → H} {W : World} {r : Reach} {base base' : Nat} {sp : Nat → Bool} {held : Bool} {v : Value} {d : DataW H} {ps : List MemPlace} (hv : Value.okWide Try.prog W r base' 24 v) (h : DataW.Trod enc Try.prog W base sp held 24 v d ps) :
    ∃ a cap l, v = .slice a l.length cap ∧ PairsAt W a l := by
  obtain ⟨a0, len0, cap0, rfl⟩ := okWide_slice Try.underlying24 hv
  obtain ⟨fuel, hf⟩ := h
  obtain ⟨a, len, cap, hcs, _, _, hat⟩ := slice_at (n := 2) Try.underlying24 cells29 (by omega) hf
  simp only [Value.cells, List.cons.injEq, Value.slice.injEq, and_true] at hcs
  obtain ⟨rfl, rfl, rfl⟩ := hcs
  by_cases h0 : 0 < len0
  · obtain ⟨b, off, rfl, hb, hall⟩ := hat h0
    obtain ⟨l, hl, hP⟩ := list_of_forall (Q := fun i (p : P2) => (W.cell? ⟨b, off + i * 2, none⟩ = some (.int .u8 p.1) ∧ W.cell? ⟨b, off + i * 2 + 1, none⟩ = some (.int .u8 p.2)) ∧ 0 ≤ p.1 ∧ p.1 ≤ 255 ∧ 0 ≤ p.2 ∧ p.2 ≤ 255) len0 (fun i hi => by
      obtain ⟨es, f', y, _, hc, ht⟩ := hall i hi
      obtain ⟨x, z, rfl, q⟩ := pair_cells ht
      have c0 := hc 0 (by omega)
      have c1 := hc 1 (by omega)
      exact ⟨(x, z), ⟨by simpa using c0, by simpa using c1⟩, q⟩)
    refine ⟨_, _, l, by rw [hl], fun p hp => ?_, fun _ => ⟨b, off, rfl, hb, fun i p hp => (hP i p hp).1⟩⟩
    obtain ⟨i, hi⟩ := List.mem_iff_getElem?.1 hp
    exact (hP i p hi).2
  · have : len0 = 0 := by omega
    subst this
    exact ⟨_, _, [], rfl, fun p hp => (by simp at hp), fun h => (by simp at h)⟩

set_option maxRecDepth 100000 in
theorem spillTurned_lifted (os : Os) (started : os.Started) (H : Type) (enc : TypeId × Value → H) :
    ReturnsInHanded {} Try.checked os 3 .any (Rows.spillTurnedSpec.pre6 enc Try.prog Try.f3 [] false) (Rows.spillTurnedSpec.post enc Try.prog Try.f3 false true false false) := by
  refine law_lift (C := Try.checked) (fn := Try.f3) (s := Rows.spillTurnedSpec) (tb := 4) own_try started (by kernel_rfl) Try.func3
    (ChangeSpec.witness6 (enc := enc) (C := Try.checked) false ⟨#[], #[.agg #[.bool false, .int .i64 0, .int .i64 0, .int .i64 0, .int .i64 0], .agg #[.bool false, .int .i64 0, .int .i64 0, .int .i64 0, .int .i64 0], .slice none 0 0], []⟩ 8 (by kernel_rfl) (by kernel_rfl) (by kernel_rfl) (by kernel_rfl)) laid_try (by kernel_rfl) rfl Try.underlying4 rfl ?_ ?_
  · intro ds hd
    match ds, hd with
    | [d0, d1, d2], _ => exact ⟨rfl, rfl, rfl⟩
  · intro W base args ds p hval hA hlt hsz
    have hA' : DataW.TrodAll enc Try.prog W 0 (fun _ => true) true [23, 23, 24] args.toList ds p := hA
    obtain ⟨v0, v1, v2, d0, d1, d2, p0, p1, p2, rfl, rfl, rfl, h0, h1, h2⟩ := trodAll_three hA'
    obtain ⟨af, ar, ac, ars, acs, rfl⟩ := open_act (hval 0 23 v0 rfl rfl) h0
    obtain ⟨cf, cr, cc, crs, ccs, rfl⟩ := open_act (hval 1 23 v1 rfl rfl) h1
    obtain ⟨a, cap, l, rfl, hP⟩ := open_pairs (hval 2 24 v2 rfl rfl) h2
    exact turned_law af cf ar ac ars acs cr cc crs ccs a cap l W hP
theorem spillTurned_holds : Rows.SpillTurnedSaid :=
  OpenClaim.holds_of_wide 3 Try.f3 rfl rfl rfl rfl rfl rfl rfl ⟨rfl, rfl, rfl, rfl, rfl⟩ rfl rfl rfl rfl rfl (by kernel_rfl) Try.func3 (by kernel_rfl)
    (of_decide_eq_true (by kernel_rfl)) (by unfold Func.isWrapper; first | (rw [if_pos (by decide +kernel)]; kernel_rfl) | (rw [if_neg (by decide +kernel)]; exact ⟨rfl, rfl⟩))
    (fun os started H enc _ => spillTurned_lifted os started H enc)
end Go.Proofs.Ytihfmcadcojjnaa
