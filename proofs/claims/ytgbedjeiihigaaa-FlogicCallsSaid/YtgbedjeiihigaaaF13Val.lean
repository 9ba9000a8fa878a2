/- Values: Truth, Bad, ToTruth, Right. -/
import Derived.Test.YtgbedjeiihigaaaProg
import Derived.Test.YtgbedjeiihigaaaMulti
namespace Go.Proofs.Ytgbedjeiihigaaa
open Go.RowKit
/-- A value, as the program keeps it. -/
structure V where
  k : Int
  m : Int
  e : Int
  t : ByteArray
  b : Bool
  f : Int
def vagg (v : V) : Value := .agg #[.int .i64 v.k, .int .i64 v.m, .int .i64 v.e, .string v.t, .bool v.b, .int .i64 v.f]
def vTruth (b : Bool) : V := ⟨3, 0, 0, ⟨#[]⟩, b, 0⟩
def vBad (f : Int) : V := ⟨4, 0, 0, ⟨#[]⟩, false, if f < 1 ∨ 9 < f then 9 else f⟩
def vBlank : V := ⟨0, 0, 0, ⟨#[]⟩, false, 0⟩
set_option maxHeartbeats 400000 in
theorem truth_any (b : Bool) (w : World) : Calls Try.prog 53 #[.bool b] w fun e w' => e = .returned (vagg (vTruth b)) ∧ Below w.heap.size w w' := by
  go_enter Try.func53, Try.ntmps53
  go_wp2
  refine bodyPost_ret (v := vagg (vTruth b)) (by simp [results, Try.results53, go_sem, vagg, vTruth]) rfl ⟨rfl, ?_⟩
  (repeat (first | with_reducible exact Below.refl _ _ | with_reducible exact hBW | with_reducible refine Below.setCell ?_ ?_ _ | with_reducible refine Below.alloc ?_ ?_ _ | with_reducible refine belowN ?_ _ | with_reducible refine Below.drew ?_)); all_goals (first | omega | (dsimp only; omega) | ((repeat (first | with_reducible refine le_alloc ?_ | with_reducible refine le_setCell ?_ | with_reducible refine le_drew ?_ | with_reducible refine le_drewN ?_)); omega))
set_option maxHeartbeats 400000 in
theorem bad_any (f : Int) (w : World) : Calls Try.prog 40 #[.int .i64 f] w fun e w' => e = .returned (vagg (vBad f)) ∧ Below w.heap.size w w' := by
  by_cases h1 : f < 1
  · have e : vBad f = ⟨4, 0, 0, ⟨#[]⟩, false, 9⟩ := by unfold vBad; rw [if_pos (.inl h1)]
    rw [e]
    clear e
    go_enter Try.func40, Try.ntmps40
    go_wp2
    refine bodyPost_ret (v := vagg ⟨4, 0, 0, ⟨#[]⟩, false, 9⟩) (by simp [results, Try.results40, go_sem, vagg]) rfl ⟨rfl, ?_⟩
    (repeat (first | with_reducible exact Below.refl _ _ | with_reducible exact hBW | with_reducible refine Below.setCell ?_ ?_ _ | with_reducible refine Below.alloc ?_ ?_ _ | with_reducible refine belowN ?_ _ | with_reducible refine Below.drew ?_)); all_goals (first | omega | (dsimp only; omega) | ((repeat (first | with_reducible refine le_alloc ?_ | with_reducible refine le_setCell ?_ | with_reducible refine le_drew ?_ | with_reducible refine le_drewN ?_)); omega))
  · by_cases h2 : 9 < f
    · have e : vBad f = ⟨4, 0, 0, ⟨#[]⟩, false, 9⟩ := by unfold vBad; rw [if_pos (.inr h2)]
      rw [e]
      clear e
      go_enter Try.func40, Try.ntmps40
      go_wp2
      refine bodyPost_ret (v := vagg ⟨4, 0, 0, ⟨#[]⟩, false, 9⟩) (by simp [results, Try.results40, go_sem, vagg]) rfl ⟨rfl, ?_⟩
      (repeat (first | with_reducible exact Below.refl _ _ | with_reducible exact hBW | with_reducible refine Below.setCell ?_ ?_ _ | with_reducible refine Below.alloc ?_ ?_ _ | with_reducible refine belowN ?_ _ | with_reducible refine Below.drew ?_)); all_goals (first | omega | (dsimp only; omega) | ((repeat (first | with_reducible refine le_alloc ?_ | with_reducible refine le_setCell ?_ | with_reducible refine le_drew ?_ | with_reducible refine le_drewN ?_)); omega))
    · have e : vBad f = ⟨4, 0, 0, ⟨#[]⟩, false, f⟩ := by unfold vBad; rw [if_neg (by omega)]
      rw [e]
      clear e
      go_enter Try.func40, Try.ntmps40
      go_wp2
      refine bodyPost_ret (v := vagg ⟨4, 0, 0, ⟨#[]⟩, false, f⟩) (by simp [results, Try.results40, go_sem, vagg]) rfl ⟨rfl, ?_⟩
      (repeat (first | with_reducible exact Below.refl _ _ | with_reducible exact hBW | with_reducible refine Below.setCell ?_ ?_ _ | with_reducible refine Below.alloc ?_ ?_ _ | with_reducible refine belowN ?_ _ | with_reducible refine Below.drew ?_)); all_goals (first | omega | (dsimp only; omega) | ((repeat (first | with_reducible refine le_alloc ?_ | with_reducible refine le_setCell ?_ | with_reducible refine le_drew ?_ | with_reducible refine le_drewN ?_)); omega))
theorem ret_two {a b : Bool} {x y : Int} (h : a = b) (h' : x = y) : Ending.returned (.tuple #[.bool a, .int .i64 x]) = .returned (.tuple #[.bool b, .int .i64 y]) := by rw [h, h']
def toT (v : V) : Bool × Int := if v.k = 1 then (decide (v.m ≠ 0), 0) else if v.k = 3 then (v.b, 0) else if v.k = 4 then (false, v.f) else (false, 0)
set_option maxHeartbeats 400000 in
theorem totruth_plain (v : V) (hk2 : v.k ≠ 2) (w : World) : Calls Try.prog 52 #[vagg v] w fun e w' => e = .returned (.tuple #[.bool (toT v).1, .int .i64 (toT v).2]) ∧ Below w.heap.size w w' := by
  obtain ⟨k, m, e, t, b, f⟩ := v
  simp only at hk2
  unfold vagg toT
  simp only
  have n2 : (k == 2) = false := by simp [hk2]
  by_cases h1 : k = 1
  · subst h1
    go_enter Try.func52, Try.ntmps52
    go_wp2
    go_ret2
    refine ⟨ret_two (by by_cases h : m = 0 <;> simp [h]) rfl, ?_⟩
    (repeat (first | with_reducible exact Below.refl _ _ | with_reducible exact hBW | with_reducible refine Below.setCell ?_ ?_ _ | with_reducible refine Below.alloc ?_ ?_ _ | with_reducible refine belowN ?_ _ | with_reducible refine Below.drew ?_)); all_goals (first | omega | (dsimp only; omega) | ((repeat (first | with_reducible refine le_alloc ?_ | with_reducible refine le_setCell ?_ | with_reducible refine le_drew ?_ | with_reducible refine le_drewN ?_)); omega))
  · have n1 : (k == 1) = false := by simp [h1]
    by_cases h3 : k = 3
    · subst h3
      go_enter Try.func52, Try.ntmps52
      go_wp2
      go_ret2
      refine ⟨by simp, ?_⟩
      (repeat (first | with_reducible exact Below.refl _ _ | with_reducible exact hBW | with_reducible refine Below.setCell ?_ ?_ _ | with_reducible refine Below.alloc ?_ ?_ _ | with_reducible refine belowN ?_ _ | with_reducible refine Below.drew ?_)); all_goals (first | omega | (dsimp only; omega) | ((repeat (first | with_reducible refine le_alloc ?_ | with_reducible refine le_setCell ?_ | with_reducible refine le_drew ?_ | with_reducible refine le_drewN ?_)); omega))
    · have n3 : (k == 3) = false := by simp [h3]
      by_cases h4 : k = 4
      · subst h4
        go_enter Try.func52, Try.ntmps52
        go_wp2
        refine abs_world ?_
        intro W1 hW1
        have hB1 : Below w.heap.size w W1 := by rw [hW1]; (repeat (first | with_reducible exact Below.refl _ _ | with_reducible exact hBW | with_reducible refine Below.setCell ?_ ?_ _ | with_reducible refine Below.alloc ?_ ?_ _ | with_reducible refine belowN ?_ _ | with_reducible refine Below.drew ?_)); all_goals (first | omega | (dsimp only; omega) | ((repeat (first | with_reducible refine le_alloc ?_ | with_reducible refine le_setCell ?_ | with_reducible refine le_drew ?_ | with_reducible refine le_drewN ?_)); omega))
        have ev : W1.heap[w.heap.size]? = some (.cells #[.int .i64 4, .int .i64 m, .int .i64 e, .string t, .bool b, .int .i64 f] 36) := by rw [hW1]; (repeat (first | (with_reducible refine heap_alloc_at ?_ _; (first | rfl | (simp; done) | omega | (simp; omega)); done) | with_reducible refine heap_alloc_old ?_ _ | with_reducible refine heap_drew_old ?_ | with_reducible refine heap_drewN_old ?_))
        have hv1 : w.heap.size < W1.heap.size := lt_of_heap ev
        have k5 := cell_of_heap ev 5
        clear hW1 ev
        refine wp_region_multi [([0, 1, 2, 3], [], [])] (by kernel_rfl) (by kernel_rfl) ?_
        refine multi_phase (Below W1.heap.size W1) (Below.refl _ _).drew ?_
        iterate 4 (first | (apply first_step; (rw [List.getElem?_toArray]; (repeat rw [List.getElem?_cons_succ]); rw [List.getElem?_cons_zero]); rfl; (intro W hB; have hc := bcellB hB; go_simp; (first | done | rfl)); go_frame) | (apply first_skip; (rw [List.getElem?_toArray]; (repeat rw [List.getElem?_cons_succ]); rw [List.getElem?_cons_zero]); rfl; go_frame))
        refine first_done ?_
        refine forced_done ?_
        refine multi_done ?_
        go_wp2
        go_ret2
        exact ⟨by simp, hB1.drew⟩
      · have n4 : (k == 4) = false := by simp [h4]
        simp only [h1, h3, h4, if_false]
        go_enter Try.func52, Try.ntmps52
        go_wp2
        go_ret2
        refine ⟨rfl, ?_⟩
        (repeat (first | with_reducible exact Below.refl _ _ | with_reducible exact hBW | with_reducible refine Below.setCell ?_ ?_ _ | with_reducible refine Below.alloc ?_ ?_ _ | with_reducible refine belowN ?_ _ | with_reducible refine Below.drew ?_)); all_goals (first | omega | (dsimp only; omega) | ((repeat (first | with_reducible refine le_alloc ?_ | with_reducible refine le_setCell ?_ | with_reducible refine le_drew ?_ | with_reducible refine le_drewN ?_)); omega))
theorem eq_v (w : World) (a b : V) : (binOp .eql 36 (vagg a) (vagg b)).run Try.prog w = .ok (.bool (decide (a.k = b.k ∧ a.m = b.m ∧ a.e = b.e ∧ a.t = b.t ∧ a.b = b.b ∧ a.f = b.f))) w := by
  obtain ⟨a1, a2, a3, a4, a5, a6⟩ := a
  obtain ⟨b1, b2, b3, b4, b5, b6⟩ := b
  unfold vagg
  have h4' : a4.toList = b4.toList ↔ a4 = b4 := by
    constructor
    · intro h
      rw [ByteArray.toList_eq, ByteArray.toList_eq] at h
      obtain ⟨⟨x⟩⟩ := a4
      obtain ⟨⟨y⟩⟩ := b4
      simp at h
      rw [h]
    · intro h; rw [h]
  simp [go_sem, h4']
  by_cases h1 : a1 = b1 <;> by_cases h2 : a2 = b2 <;> by_cases h3 : a3 = b3 <;> by_cases h4 : a4 = b4 <;> by_cases h5 : a5 = b5 <;> by_cases h6 : a6 = b6 <;> simp [h1, h2, h3, h4, h5, h6]
/-- May a value be that is no number and no text? -/
def rightP (v : V) : Bool := decide (v.m = 0 ∧ v.e = 0 ∧ v.t = ⟨#[]⟩) && ((decide (v.k = 0) && decide (v.b = false ∧ v.f = 0)) || (decide (v.k = 3) && decide (v.f = 0)) || (decide (v.k = 4) && decide (v.b = false ∧ 1 ≤ v.f ∧ v.f ≤ 9)))
set_option maxHeartbeats 1000000 in
theorem right_plain (v : V) (h1 : v.k ≠ 1) (h2 : v.k ≠ 2) (w : World) : Calls Try.prog 42 #[vagg v] w fun e w' => e = .returned (.bool (rightP v)) ∧ Below w.heap.size w w' := by
  have EQ := eq_v
  obtain ⟨k, m, e, t, b, f⟩ := v
  simp only at h1 h2
  have n1 : (k == 1) = false := by simp [h1]
  have n2 : (k == 2) = false := by simp [h2]
  by_cases h0 : k = 0
  · subst h0
    have hr : rightP ⟨0, m, e, t, b, f⟩ = decide ((0 : Int) = 0 ∧ m = 0 ∧ e = 0 ∧ t = ⟨#[]⟩ ∧ b = false ∧ f = 0) := by
      unfold rightP
      simp [Bool.and_assoc]
    have eq0 : ∀ W, (binOp .eql 36 (.agg #[.int .i64 0, .int .i64 m, .int .i64 e, .string t, .bool b, .int .i64 f]) (.agg #[.int .i64 0, .int .i64 0, .int .i64 0, .string ⟨#[]⟩, .bool false, .int .i64 0])).run Try.prog W = .ok (.bool (rightP ⟨0, m, e, t, b, f⟩)) W := fun W => by
      rw [hr]
      exact EQ W ⟨0, m, e, t, b, f⟩ vBlank
    clear EQ hr
    generalize rightP ⟨0, m, e, t, b, f⟩ = R at eq0 ⊢
    unfold vagg
    go_enter Try.func42, Try.ntmps42
    go_wp2
    go_ret
    refine ⟨rfl, ?_⟩
    (repeat (first | with_reducible exact Below.refl _ _ | with_reducible exact hBW | with_reducible refine Below.setCell ?_ ?_ _ | with_reducible refine Below.alloc ?_ ?_ _ | with_reducible refine belowN ?_ _ | with_reducible refine Below.drew ?_)); all_goals (first | omega | (dsimp only; omega) | ((repeat (first | with_reducible refine le_alloc ?_ | with_reducible refine le_setCell ?_ | with_reducible refine le_drew ?_ | with_reducible refine le_drewN ?_)); omega))
  · have n0 : (k == 0) = false := by simp [h0]
    by_cases h3 : k = 3
    · subst h3
      have hr : rightP ⟨3, m, e, t, b, f⟩ = decide ((3 : Int) = 3 ∧ m = 0 ∧ e = 0 ∧ t = ⟨#[]⟩ ∧ b = b ∧ f = 0) := by
        unfold rightP
        simp [Bool.and_assoc]
      have eq0 : ∀ W, (binOp .eql 36 (.agg #[.int .i64 3, .int .i64 m, .int .i64 e, .string t, .bool b, .int .i64 f]) (vagg (vTruth b))).run Try.prog W = .ok (.bool (rightP ⟨3, m, e, t, b, f⟩)) W := fun W => by
        rw [hr]
        exact EQ W ⟨3, m, e, t, b, f⟩ (vTruth b)
      clear EQ hr
      generalize rightP ⟨3, m, e, t, b, f⟩ = R at eq0 ⊢
      have hvt : vagg (vTruth b) = .agg #[.int .i64 3, .int .i64 0, .int .i64 0, .string ⟨#[]⟩, .bool b, .int .i64 0] := rfl
      rw [hvt] at eq0
      rw [show vagg ⟨3, m, e, t, b, f⟩ = .agg #[.int .i64 3, .int .i64 m, .int .i64 e, .string t, .bool b, .int .i64 f] from rfl]
      have HVT := Lib.hid hvt
      clear hvt
      go_enter Try.func42, Try.ntmps42
      go_wp2
      refine abs_world ?_
      intro W1 hW1
      have hB1 : Hid (Below w.heap.size w W1) := by rw [hW1]; unfold Hid; (repeat (first | with_reducible exact Below.refl _ _ | with_reducible exact hBW | with_reducible refine Below.setCell ?_ ?_ _ | with_reducible refine Below.alloc ?_ ?_ _ | with_reducible refine belowN ?_ _ | with_reducible refine Below.drew ?_)); all_goals (first | omega | (dsimp only; omega) | ((repeat (first | with_reducible refine le_alloc ?_ | with_reducible refine le_setCell ?_ | with_reducible refine le_drew ?_ | with_reducible refine le_drewN ?_)); omega))
      have hv1 : w.heap.size < W1.heap.size := lt_of_heap (b := w.heap.size) (o := .cells #[.int .i64 3, .int .i64 m, .int .i64 e, .string t, .bool b, .int .i64 f] 36) (by rw [hW1]; (repeat (first | (with_reducible refine heap_alloc_at ?_ _; (first | rfl | (simp; done) | omega | (simp; omega)); done) | with_reducible refine heap_alloc_old ?_ _ | with_reducible refine heap_drew_old ?_ | with_reducible refine heap_drewN_old ?_)))
      have ev : W1.heap[w.heap.size]? = some (.cells #[.int .i64 3, .int .i64 m, .int .i64 e, .string t, .bool b, .int .i64 f] 36) := by rw [hW1]; (repeat (first | (with_reducible refine heap_alloc_at ?_ _; (first | rfl | (simp; done) | omega | (simp; omega)); done) | with_reducible refine heap_alloc_old ?_ _ | with_reducible refine heap_drew_old ?_ | with_reducible refine heap_drewN_old ?_))
      have k0 := cell_of_heap ev 0
      have k1 := cell_of_heap ev 1
      have k2 := cell_of_heap ev 2
      have k3 := cell_of_heap ev 3
      have k4 := cell_of_heap ev 4
      have k5 := cell_of_heap ev 5
      clear hW1 ev
      refine wp_region_multi [([1, 2, 0], [3], [4, 5]), ([4, 5], [], [])] (by kernel_rfl) (by kernel_rfl) ?_
      refine multi_phase (Below W1.heap.size W1) (Below.refl _ _).drew ?_
      iterate 3 (first | (apply first_step; (rw [List.getElem?_toArray]; (repeat rw [List.getElem?_cons_succ]); rw [List.getElem?_cons_zero]); rfl; (intro W hB; have hc := bcellB hB; go_simp; (first | done | rfl)); go_frame) | (apply first_skip; (rw [List.getElem?_toArray]; (repeat rw [List.getElem?_cons_succ]); rw [List.getElem?_cons_zero]); rfl; go_frame))
      refine first_done ?_
      apply forced_step; (rw [List.getElem?_toArray]; (repeat rw [List.getElem?_cons_succ]); rw [List.getElem?_cons_zero]); rfl; intro K hK; go_simp
      refine (truth_any b _).mono ?_
      rintro e' W2 ⟨rfl, hb2⟩
      rw [HVT.out]
      refine hK _ _ (fun _ => (Below.refl _ W1).drew.trans hb2) ?_
      clear hK K
      refine forced_done ?_
      have hB2 : Hid (Below w.heap.size w W2) := hB1.out.trans ((hb2 : Below W1.heap.size W1.drew W2).mono (Nat.le_of_lt hv1) |> fun h => (Below.refl _ W1).drew.trans h)
      clear hb2 k0 k1 k2 k3 k4 k5
      refine multi_phase (fun _ => True) trivial ?_
      iterate 2 (apply first_step; (rw [List.getElem?_toArray]; (repeat rw [List.getElem?_cons_succ]); rw [List.getElem?_cons_zero]); rfl; (intro W hB; go_simp; (first | done | rfl)); go_frame)
      refine first_done ?_
      refine forced_done ?_
      refine multi_done ?_
      go_wp2
      go_ret
      exact ⟨rfl, hB2.out⟩
    · have n3 : (k == 3) = false := by simp [h3]
      by_cases h4 : k = 4
      · subst h4
        have hr : rightP ⟨4, m, e, t, b, f⟩ = decide ((4 : Int) = 4 ∧ m = 0 ∧ e = 0 ∧ t = ⟨#[]⟩ ∧ b = false ∧ f = (if f < 1 ∨ 9 < f then 9 else f)) := by
          have hf : (f = (if f < 1 ∨ 9 < f then 9 else f)) ↔ (1 ≤ f ∧ f ≤ 9) := by
            by_cases h : f < 1 ∨ 9 < f
            · rw [if_pos h]; omega
            · rw [if_neg h]; omega
          have hd : decide ((4 : Int) = 4 ∧ m = 0 ∧ e = 0 ∧ t = ⟨#[]⟩ ∧ b = false ∧ f = (if f < 1 ∨ 9 < f then 9 else f)) = decide ((4 : Int) = 4 ∧ m = 0 ∧ e = 0 ∧ t = ⟨#[]⟩ ∧ b = false ∧ (1 ≤ f ∧ f ≤ 9)) := by
            apply decide_eq_decide.2
            rw [hf]
          rw [hd]
          unfold rightP
          simp [Bool.and_assoc]
        have eq0 : ∀ W, (binOp .eql 36 (.agg #[.int .i64 4, .int .i64 m, .int .i64 e, .string t, .bool b, .int .i64 f]) (vagg (vBad f))).run Try.prog W = .ok (.bool (rightP ⟨4, m, e, t, b, f⟩)) W := fun W => by
          rw [hr]
          exact EQ W ⟨4, m, e, t, b, f⟩ (vBad f)
        clear EQ hr
        generalize rightP ⟨4, m, e, t, b, f⟩ = R at eq0 ⊢
        obtain ⟨f9, hvt⟩ : ∃ f9 : Int, vagg (vBad f) = .agg #[.int .i64 4, .int .i64 0, .int .i64 0, .string ⟨#[]⟩, .bool false, .int .i64 f9] := ⟨_, rfl⟩
        rw [hvt] at eq0
        rw [show vagg ⟨4, m, e, t, b, f⟩ = .agg #[.int .i64 4, .int .i64 m, .int .i64 e, .string t, .bool b, .int .i64 f] from rfl]
        have HVT := Lib.hid hvt
        clear hvt
        go_enter Try.func42, Try.ntmps42
        go_wp2
        refine abs_world ?_
        intro W1 hW1
        have hB1 : Hid (Below w.heap.size w W1) := by rw [hW1]; unfold Hid; (repeat (first | with_reducible exact Below.refl _ _ | with_reducible exact hBW | with_reducible refine Below.setCell ?_ ?_ _ | with_reducible refine Below.alloc ?_ ?_ _ | with_reducible refine belowN ?_ _ | with_reducible refine Below.drew ?_)); all_goals (first | omega | (dsimp only; omega) | ((repeat (first | with_reducible refine le_alloc ?_ | with_reducible refine le_setCell ?_ | with_reducible refine le_drew ?_ | with_reducible refine le_drewN ?_)); omega))
        have hv1 : w.heap.size < W1.heap.size := lt_of_heap (b := w.heap.size) (o := .cells #[.int .i64 4, .int .i64 m, .int .i64 e, .string t, .bool b, .int .i64 f] 36) (by rw [hW1]; (repeat (first | (with_reducible refine heap_alloc_at ?_ _; (first | rfl | (simp; done) | omega | (simp; omega)); done) | with_reducible refine heap_alloc_old ?_ _ | with_reducible refine heap_drew_old ?_ | with_reducible refine heap_drewN_old ?_)))
        have ev : W1.heap[w.heap.size]? = some (.cells #[.int .i64 4, .int .i64 m, .int .i64 e, .string t, .bool b, .int .i64 f] 36) := by rw [hW1]; (repeat (first | (with_reducible refine heap_alloc_at ?_ _; (first | rfl | (simp; done) | omega | (simp; omega)); done) | with_reducible refine heap_alloc_old ?_ _ | with_reducible refine heap_drew_old ?_ | with_reducible refine heap_drewN_old ?_))
        have k0 := cell_of_heap ev 0
        have k1 := cell_of_heap ev 1
        have k2 := cell_of_heap ev 2
        have k3 := cell_of_heap ev 3
        have k4 := cell_of_heap ev 4
        have k5 := cell_of_heap ev 5
        clear hW1 ev
        refine wp_region_multi [([1, 2, 0], [3], [4, 5]), ([4, 5], [], [])] (by kernel_rfl) (by kernel_rfl) ?_
        refine multi_phase (Below W1.heap.size W1) (Below.refl _ _).drew ?_
        iterate 3 (first | (apply first_step; (rw [List.getElem?_toArray]; (repeat rw [List.getElem?_cons_succ]); rw [List.getElem?_cons_zero]); rfl; (intro W hB; have hc := bcellB hB; go_simp; (first | done | rfl)); go_frame) | (apply first_skip; (rw [List.getElem?_toArray]; (repeat rw [List.getElem?_cons_succ]); rw [List.getElem?_cons_zero]); rfl; go_frame))
        refine first_done ?_
        apply forced_step; (rw [List.getElem?_toArray]; (repeat rw [List.getElem?_cons_succ]); rw [List.getElem?_cons_zero]); rfl; intro K hK; go_simp
        refine (bad_any f _).mono ?_
        rintro e' W2 ⟨rfl, hb2⟩
        rw [HVT.out]
        refine hK _ _ (fun _ => (Below.refl _ W1).drew.trans hb2) ?_
        clear hK K
        refine forced_done ?_
        have hB2 : Hid (Below w.heap.size w W2) := hB1.out.trans ((hb2 : Below W1.heap.size W1.drew W2).mono (Nat.le_of_lt hv1) |> fun h => (Below.refl _ W1).drew.trans h)
        clear hb2 k0 k1 k2 k3 k4 k5
        refine multi_phase (fun _ => True) trivial ?_
        iterate 2 (apply first_step; (rw [List.getElem?_toArray]; (repeat rw [List.getElem?_cons_succ]); rw [List.getElem?_cons_zero]); rfl; (intro W hB; go_simp; (first | done | rfl)); go_frame)
        refine first_done ?_
        refine forced_done ?_
        refine multi_done ?_
        go_wp2
        go_ret
        exact ⟨rfl, hB2.out⟩
      · have n4 : (k == 4) = false := by simp [h4]
        have hr : rightP ⟨k, m, e, t, b, f⟩ = false := by unfold rightP; simp [h0, h3, h4]
        rw [hr]
        clear hr EQ
        unfold vagg
        go_enter Try.func42, Try.ntmps42
        go_wp2
        go_ret
        refine ⟨rfl, ?_⟩
        (repeat (first | with_reducible exact Below.refl _ _ | with_reducible exact hBW | with_reducible refine Below.setCell ?_ ?_ _ | with_reducible refine Below.alloc ?_ ?_ _ | with_reducible refine belowN ?_ _ | with_reducible refine Below.drew ?_)); all_goals (first | omega | (dsimp only; omega) | ((repeat (first | with_reducible refine le_alloc ?_ | with_reducible refine le_setCell ?_ | with_reducible refine le_drew ?_ | with_reducible refine le_drewN ?_)); omega))
end Go.Proofs.Ytgbedjeiihigaaa
