/- FlogicCalls: the row: for every name and every slice of arrays the law returns true, and the arguments read as before. No conditions. -/
import Derived.Test.YtgbedjeiihigaaaF13Open2
import Derived.Test.YtgbedjeiihigaaaF13CallsM
namespace Go.Proofs.Ytgbedjeiihigaaa
open Go.ChangeShapes Go.WideShapes Go.ChangeAt Go.RowKit
set_option maxRecDepth 100000 in
/-- A value, with the bounds of its number. -/
theorem value_cells2 {H : Type} {enc : TypeId × Value → H} {W : World} {base : Nat} {sp : Nat → Bool} {held : Bool} {fuel : Nat} {cs : List Value} {x : DataW H × List MemPlace} (h : DataW.trod enc Try.prog W base sp held fuel 36 cs = some x) :
    ∃ v : V, cs = vcells v ∧ I64 v.m := by
  obtain ⟨v, rfl, _⟩ := value_cells h
  refine ⟨v, rfl, ?_⟩
  obtain ⟨_, h2⟩ := trod_struct_c Try.underlying36 h
  simp only [List.mem_cons, List.not_mem_nil, or_false, forall_eq_or_imp, forall_eq, cells3, cells4, cells9, cells34] at h2
  obtain ⟨_, ⟨f1, y1, t1⟩, _⟩ := h2
  obtain ⟨_, h3⟩ := trod_struct_c Try.underlying34 t1
  simp only [List.mem_cons, List.not_mem_nil, or_false, forall_eq_or_imp, forall_eq, cells3] at h3
  obtain ⟨⟨g0, z0, s0⟩, _⟩ := h3
  obtain ⟨m, hm, wm⟩ := trod_int_c Try.underlying3 s0
  have e : v.m = m := by
    have : [Value.int .i64 v.m] = [.int .i64 m] := hm
    simpa using this
  rw [e]
  exact wf_i64 wm
set_option maxRecDepth 100000 in
theorem values_cells2 {H : Type} {enc : TypeId × Value → H} {W : World} {base : Nat} {sp : Nat → Bool} {held : Bool} {fuel : Nat} {cs : List Value} {x : DataW H × List MemPlace} (h : DataW.trod enc Try.prog W base sp held fuel 25 cs = some x) :
    ∃ a cap l, cs = [.slice a l.length cap] ∧ SlB 0 W a l ∧ ∀ v ∈ l, I64 v.m := by
  obtain ⟨a, len, cap, hcs, _, _, hat⟩ := slice_at (n := 6) Try.underlying25 cells36 (by omega) h
  by_cases h0 : 0 < len
  · obtain ⟨b, off, rfl, hb, hall⟩ := hat h0
    obtain ⟨l, hl, hP⟩ := list_of_forall (Q := fun i (v : V) => (∀ j, j < 6 → W.cell? ⟨b, off + i * 6 + j, none⟩ = (vcells v)[j]?) ∧ I64 v.m) len (fun i hi => by
      obtain ⟨es, f', y, _, hc, ht⟩ := hall i hi
      obtain ⟨v, rfl, hv⟩ := value_cells2 ht
      exact ⟨v, hc, hv⟩)
    refine ⟨_, _, l, by rw [hl]; exact hcs, fun _ => ⟨b, off, rfl, Nat.zero_le _, hb, fun i v hv => (hP i v hv).1⟩, fun v hv => ?_⟩
    obtain ⟨i, hi⟩ := List.mem_iff_getElem?.1 hv
    exact (hP i v hi).2
  · have : len = 0 := by omega
    subst this
    exact ⟨_, _, [], hcs, fun h => (by simp at h), fun v hv => (by simp at hv)⟩
set_option maxRecDepth 100000 in
theorem array_cells2 {H : Type} {enc : TypeId × Value → H} {W : World} {base : Nat} {sp : Nat → Bool} {held : Bool} {fuel : Nat} {cs : List Value} {x : DataW H × List MemPlace} (h : DataW.trod enc Try.prog W base sp held fuel 27 cs = some x) :
    ∃ (A : Arr) (a : Option Addr) (cap : Nat), cs = [.int .i64 A.r, .int .i64 A.c, .slice a A.l.length cap] ∧ SlB 0 W a A.l ∧ ∀ v ∈ A.l, I64 v.m := by
  obtain ⟨h1, h2⟩ := trod_struct_c Try.underlying27 h
  rw [cells27] at h1
  simp only [List.mem_cons, List.not_mem_nil, or_false, forall_eq_or_imp, forall_eq, cells3, cells25] at h2
  obtain ⟨⟨f0, y0, t0⟩, ⟨f1, y1, t1⟩, ⟨f2, y2, t2⟩⟩ := h2
  obtain ⟨r, hr, _⟩ := trod_int_c Try.underlying3 t0
  obtain ⟨c, hc, _⟩ := trod_int_c Try.underlying3 t1
  obtain ⟨a, cap, l, hl, hs, hi⟩ := values_cells2 t2
  match cs, h1, hr, hc, hl with
  | [x0, x1, x2], _, hr, hc, hl =>
    simp at hr hc hl
    exact ⟨⟨r, c, l⟩, a, cap, by rw [hr, hc, hl], hs, hi⟩
set_option maxRecDepth 100000 in
theorem open_arrays {H : Type} {enc : TypeId × Value → H} {W : World} {r : Reach} {base base' : Nat} {sp : Nat → Bool} {held : Bool} {v : Value} {d : DataW H} {ps : List MemPlace} (hv : Value.okWide Try.prog W r base' 24 v) (h : DataW.Trod enc Try.prog W base sp held 24 v d ps) :
    ∃ a cap l, v = .slice a l.length cap ∧ ArgsAt 0 W a l ∧ ∀ A ∈ l, ∀ u ∈ A.l, I64 u.m := by
  obtain ⟨a0, len0, cap0, rfl⟩ := okWide_slice Try.underlying24 hv
  obtain ⟨fuel, hf⟩ := h
  obtain ⟨a, len, cap, hcs, _, _, hat⟩ := slice_at (n := 3) Try.underlying24 cells27 (by omega) hf
  simp only [Value.cells, List.cons.injEq, and_true] at hcs
  by_cases h0 : 0 < len
  · obtain ⟨b, off, rfl, hb, hall⟩ := hat h0
    obtain ⟨l, hl, hP⟩ := list_of_forall (Q := fun i (A : Arr) => ∃ a' cap', (∀ j, j < 3 → W.cell? ⟨b, off + i * 3 + j, none⟩ = ([.int .i64 A.r, .int .i64 A.c, .slice a' A.l.length cap'] : List Value)[j]?) ∧ SlB 0 W a' A.l ∧ ∀ u ∈ A.l, I64 u.m) len (fun i hi => by
      obtain ⟨es, f', y, _, hc, ht⟩ := hall i hi
      obtain ⟨A, a', cap', rfl, hs, hm⟩ := array_cells2 ht
      exact ⟨A, a', cap', hc, hs, hm⟩)
    refine ⟨_, _, l, by rw [hl]; exact hcs, fun _ => ⟨b, off, rfl, Nat.zero_le _, hb, fun i A hA => ?_⟩, fun A hA => ?_⟩
    · obtain ⟨a', cap', hc, hs, _⟩ := hP i A hA
      exact ⟨a', cap', hc 0 (by omega), hc 1 (by omega), hc 2 (by omega), hs⟩
    · obtain ⟨i, hi⟩ := List.mem_iff_getElem?.1 hA
      obtain ⟨_, _, _, _, hm⟩ := hP i A hi
      exact hm
  · have : len = 0 := by omega
    subst this
    exact ⟨_, _, [], hcs, fun h => (by simp at h), fun A hA => (by simp at hA)⟩
set_option maxRecDepth 100000 in
theorem flogicCalls_lifted (os : Os) (started : os.Started) (H : Type) (enc : TypeId × Value → H) :
    ReturnsInHanded {} Try.checked os 7 .any (Rows.flogicCallsSpec.pre6 enc Try.prog Try.f7 [] false) (Rows.flogicCallsSpec.post enc Try.prog Try.f7 false true false false) := by
  refine law_lift (C := Try.checked) (fn := Try.f7) (s := Rows.flogicCallsSpec) (tb := 4) own_try started (by kernel_rfl) Try.func7
    (ChangeSpec.witness6 (enc := enc) (C := Try.checked) false ⟨#[], #[.string ⟨#[]⟩, .slice none 0 0], []⟩ 8 (by kernel_rfl) (by kernel_rfl) (by kernel_rfl) (by kernel_rfl)) laid_try (by kernel_rfl) rfl Try.underlying4 rfl ?_ ?_
  · intro ds hd
    match ds, hd with
    | [d0, d1], _ => exact ⟨rfl, rfl, rfl⟩
  · intro W base args ds p hval hA hlt hsz
    have hA' : DataW.TrodAll enc Try.prog W 0 (fun _ => true) true [9, 24] args.toList ds p := hA
    obtain ⟨v0, v1, d0, d1, p0, p1, rfl, rfl, rfl, _, h1⟩ := trodAll_two hA'
    obtain ⟨s, rfl⟩ := okWide_string Try.underlying9 (hval 0 9 v0 rfl rfl)
    obtain ⟨a, cap, l, rfl, hl, hi⟩ := open_arrays (hval 1 24 v1 rfl rfl) h1
    exact calls_law s a cap l W hl hi
theorem flogicCalls_holds : Rows.FlogicCallsSaid :=
  OpenClaim.holds_of_wide 7 Try.f7 rfl rfl rfl rfl rfl rfl rfl ⟨rfl, rfl, rfl, rfl, rfl⟩ rfl rfl rfl rfl rfl (by kernel_rfl) Try.func7 (by kernel_rfl)
    (of_decide_eq_true (by kernel_rfl)) (by unfold Func.isWrapper; first | (rw [if_pos (by decide +kernel)]; kernel_rfl) | (rw [if_neg (by decide +kernel)]; exact ⟨rfl, rfl⟩))
    (fun os started H enc _ => flogicCalls_lifted os started H enc)
end Go.Proofs.Ytgbedjeiihigaaa
