/- value.Right. -/
import Derived.Test.YtlcglkanlhmmdaaGreatProg
import Derived.WalkSpells
import Derived.Test.YtlcglkanlhmmdaaGreatQBase
import Derived.Test.YtlcglkanlhmmdaaGreatQN17Tree
import Derived.Test.YtlcglkanlhmmdaaGreatQN17Num
namespace Go.Proofs.YtlcglkanlhmmdaaGreat
open Go.RowKit
def vTruth (b : Bool) : V := ⟨3, 0, 0, ⟨#[]⟩, b, 0⟩
def vBad (f : Int) : V := ⟨4, 0, 0, ⟨#[]⟩, false, if f < 1 ∨ 9 < f then 9 else f⟩
def vBlank : V := ⟨0, 0, 0, ⟨#[]⟩, false, 0⟩
set_option maxHeartbeats 400000 in
theorem truth_any (b : Bool) (w : World) : Calls Tryz.prog 80 #[.bool b] w fun e w' => e = .returned (vagg (vTruth b)) ∧ Below w.heap.size w w' := by
  go_enter Tryz.func80, Tryz.ntmps80
  go_wp2
  refine bodyPost_ret (v := vagg (vTruth b)) (by simp [results, Tryz.results80, go_sem, vagg, vTruth]) rfl ⟨rfl, ?_⟩
  (repeat (first | with_reducible exact Below.refl _ _ | with_reducible exact hBW | with_reducible refine Below.setCell ?_ ?_ _ | with_reducible refine Below.alloc ?_ ?_ _ | with_reducible refine belowN ?_ _ | with_reducible refine Below.drew ?_)); all_goals (first | omega | (dsimp only; omega) | ((repeat (first | with_reducible refine le_alloc ?_ | with_reducible refine le_setCell ?_ | with_reducible refine le_drew ?_ | with_reducible refine le_drewN ?_)); omega))
set_option maxHeartbeats 400000 in
theorem bad_any (f : Int) (w : World) : Calls Tryz.prog 81 #[.int .i64 f] w fun e w' => e = .returned (vagg (vBad f)) ∧ Below w.heap.size w w' := by
  by_cases h1 : f < 1
  · have e : vBad f = ⟨4, 0, 0, ⟨#[]⟩, false, 9⟩ := by unfold vBad; rw [if_pos (.inl h1)]
    rw [e]
    clear e
    go_enter Tryz.func81, Tryz.ntmps81
    go_wp2
    refine bodyPost_ret (v := vagg ⟨4, 0, 0, ⟨#[]⟩, false, 9⟩) (by simp [results, Tryz.results81, go_sem, vagg]) rfl ⟨rfl, ?_⟩
    (repeat (first | with_reducible exact Below.refl _ _ | with_reducible exact hBW | with_reducible refine Below.setCell ?_ ?_ _ | with_reducible refine Below.alloc ?_ ?_ _ | with_reducible refine belowN ?_ _ | with_reducible refine Below.drew ?_)); all_goals (first | omega | (dsimp only; omega) | ((repeat (first | with_reducible refine le_alloc ?_ | with_reducible refine le_setCell ?_ | with_reducible refine le_drew ?_ | with_reducible refine le_drewN ?_)); omega))
  · by_cases h2 : 9 < f
    · have e : vBad f = ⟨4, 0, 0, ⟨#[]⟩, false, 9⟩ := by unfold vBad; rw [if_pos (.inr h2)]
      rw [e]
      clear e
      go_enter Tryz.func81, Tryz.ntmps81
      go_wp2
      refine bodyPost_ret (v := vagg ⟨4, 0, 0, ⟨#[]⟩, false, 9⟩) (by simp [results, Tryz.results81, go_sem, vagg]) rfl ⟨rfl, ?_⟩
      (repeat (first | with_reducible exact Below.refl _ _ | with_reducible exact hBW | with_reducible refine Below.setCell ?_ ?_ _ | with_reducible refine Below.alloc ?_ ?_ _ | with_reducible refine belowN ?_ _ | with_reducible refine Below.drew ?_)); all_goals (first | omega | (dsimp only; omega) | ((repeat (first | with_reducible refine le_alloc ?_ | with_reducible refine le_setCell ?_ | with_reducible refine le_drew ?_ | with_reducible refine le_drewN ?_)); omega))
    · have e : vBad f = ⟨4, 0, 0, ⟨#[]⟩, false, f⟩ := by unfold vBad; rw [if_neg (by omega)]
      rw [e]
      clear e
      go_enter Tryz.func81, Tryz.ntmps81
      go_wp2
      refine bodyPost_ret (v := vagg ⟨4, 0, 0, ⟨#[]⟩, false, f⟩) (by simp [results, Tryz.results81, go_sem, vagg]) rfl ⟨rfl, ?_⟩
      (repeat (first | with_reducible exact Below.refl _ _ | with_reducible exact hBW | with_reducible refine Below.setCell ?_ ?_ _ | with_reducible refine Below.alloc ?_ ?_ _ | with_reducible refine belowN ?_ _ | with_reducible refine Below.drew ?_)); all_goals (first | omega | (dsimp only; omega) | ((repeat (first | with_reducible refine le_alloc ?_ | with_reducible refine le_setCell ?_ | with_reducible refine le_drew ?_ | with_reducible refine le_drewN ?_)); omega))
theorem eq_v6 (w : World) (a b : V) : (binOp .eql 33 (vagg a) (vagg b)).run Tryz.prog w = .ok (.bool (decide (a.k = b.k ∧ a.m = b.m ∧ a.e = b.e ∧ a.t = b.t ∧ a.b = b.b ∧ a.f = b.f))) w := by
  obtain ⟨a1, a2, a3, a4, a5, a6⟩ := a
  obtain ⟨b1, b2, b3, b4, b5, b6⟩ := b
  unfold vagg
  have h4' : a4.toList = b4.toList ↔ a4 = b4 := by
    constructor
    · intro h
      rw [ByteArray.toList_eq, ByteArray.toList_eq] at h
      obtain ⟨⟨x⟩⟩ := a4
      obtain ⟨⟨y⟩⟩ := b4
      simp at h
      rw [h]
    · intro h; rw [h]
  simp [go_sem, h4']
  by_cases h1 : a1 = b1 <;> by_cases h2 : a2 = b2 <;> by_cases h3 : a3 = b3 <;> by_cases h4 : a4 = b4 <;> by_cases h5 : a5 = b5 <;> by_cases h6 : a6 = b6 <;> simp [h1, h2, h3, h4, h5, h6]
/-- May a value be that is no number and no text? -/
def rightP (v : V) : Bool := decide (v.m = 0 ∧ v.e = 0 ∧ v.t = ⟨#[]⟩) && ((decide (v.k = 0) && decide (v.b = false ∧ v.f = 0)) || (decide (v.k = 3) && decide (v.f = 0)) || (decide (v.k = 4) && decide (v.b = false ∧ 1 ≤ v.f ∧ v.f ≤ 9)))
set_option maxHeartbeats 1000000 in
theorem right_plain (v : V) (h1 : v.k ≠ 1) (h2 : v.k ≠ 2) (w : World) : Calls Tryz.prog 63 #[vagg v] w fun e w' => e = .returned (.bool (rightP v)) ∧ Below w.heap.size w w' := by
  have EQ := eq_v6
  obtain ⟨k, m, e, t, b, f⟩ := v
  simp only at h1 h2
  have n1 : (k == 1) = false := by simp [h1]
  have n2 : (k == 2) = false := by simp [h2]
  by_cases h0 : k = 0
  · subst h0
    have hr : rightP ⟨0, m, e, t, b, f⟩ = decide ((0 : Int) = 0 ∧ m = 0 ∧ e = 0 ∧ t = ⟨#[]⟩ ∧ b = false ∧ f = 0) := by
      unfold rightP
      simp [Bool.and_assoc]
    have eq0 : ∀ W, (binOp .eql 33 (.agg #[.int .i64 0, .int .i64 m, .int .i64 e, .string t, .bool b, .int .i64 f]) (.agg #[.int .i64 0, .int .i64 0, .int .i64 0, .string ⟨#[]⟩, .bool false, .int .i64 0])).run Tryz.prog W = .ok (.bool (rightP ⟨0, m, e, t, b, f⟩)) W := fun W => by
      rw [hr]
      exact EQ W ⟨0, m, e, t, b, f⟩ vBlank
    clear EQ hr
    generalize rightP ⟨0, m, e, t, b, f⟩ = R at eq0 ⊢
    unfold vagg
    go_enter Tryz.func63, Tryz.ntmps63
    go_wp2
    go_ret
    refine ⟨rfl, ?_⟩
    (repeat (first | with_reducible exact Below.refl _ _ | with_reducible exact hBW | with_reducible refine Below.setCell ?_ ?_ _ | with_reducible refine Below.alloc ?_ ?_ _ | with_reducible refine belowN ?_ _ | with_reducible refine Below.drew ?_)); all_goals (first | omega | (dsimp only; omega) | ((repeat (first | with_reducible refine le_alloc ?_ | with_reducible refine le_setCell ?_ | with_reducible refine le_drew ?_ | with_reducible refine le_drewN ?_)); omega))
  · have n0 : (k == 0) = false := by simp [h0]
    by_cases h3 : k = 3
    · subst h3
      have hr : rightP ⟨3, m, e, t, b, f⟩ = decide ((3 : Int) = 3 ∧ m = 0 ∧ e = 0 ∧ t = ⟨#[]⟩ ∧ b = b ∧ f = 0) := by
        unfold rightP
        simp [Bool.and_assoc]
      have eq0 : ∀ W, (binOp .eql 33 (.agg #[.int .i64 3, .int .i64 m, .int .i64 e, .string t, .bool b, .int .i64 f]) (vagg (vTruth b))).run Tryz.prog W = .ok (.bool (rightP ⟨3, m, e, t, b, f⟩)) W := fun W => by
        rw [hr]
        exact EQ W ⟨3, m, e, t, b, f⟩ (vTruth b)
      clear EQ hr
      generalize rightP ⟨3, m, e, t, b, f⟩ = R at eq0 ⊢
      have hvt : vagg (vTruth b) = .agg #[.int .i64 3, .int .i64 0, .int .i64 0, .string ⟨#[]⟩, .bool b, .int .i64 0] := rfl
      rw [hvt] at eq0
      rw [show vagg ⟨3, m, e, t, b, f⟩ = .agg #[.int .i64 3, .int .i64 m, .int .i64 e, .string t, .bool b, .int .i64 f] from rfl]
      have HVT := Lib.hid hvt
      clear hvt
      go_enter Tryz.func63, Tryz.ntmps63
      go_wp2
      refine abs_world ?_
      intro W1 hW1
      have hB1 : Hid (Below w.heap.size w W1) := by rw [hW1]; unfold Hid; (repeat (first | with_reducible exact Below.refl _ _ | with_reducible exact hBW | with_reducible refine Below.setCell ?_ ?_ _ | with_reducible refine Below.alloc ?_ ?_ _ | with_reducible refine belowN ?_ _ | with_reducible refine Below.drew ?_)); all_goals (first | omega | (dsimp only; omega) | ((repeat (first | with_reducible refine le_alloc ?_ | with_reducible refine le_setCell ?_ | with_reducible refine le_drew ?_ | with_reducible refine le_drewN ?_)); omega))
      have hv1 : w.heap.size < W1.heap.size := lt_of_heap (b := w.heap.size) (o := .cells #[.int .i64 3, .int .i64 m, .int .i64 e, .string t, .bool b, .int .i64 f] 33) (by rw [hW1]; (repeat (first | (with_reducible refine heap_alloc_at ?_ _; (first | rfl | (simp; done) | omega | (simp; omega)); done) | with_reducible refine heap_alloc_old ?_ _ | with_reducible refine heap_drew_old ?_ | with_reducible refine heap_drewN_old ?_)))
      have ev : W1.heap[w.heap.size]? = some (.cells #[.int .i64 3, .int .i64 m, .int .i64 e, .string t, .bool b, .int .i64 f] 33) := by rw [hW1]; (repeat (first | (with_reducible refine heap_alloc_at ?_ _; (first | rfl | (simp; done) | omega | (simp; omega)); done) | with_reducible refine heap_alloc_old ?_ _ | with_reducible refine heap_drew_old ?_ | with_reducible refine heap_drewN_old ?_))
      have k0 := cell_of_heap ev 0
      have k1 := cell_of_heap ev 1
      have k2 := cell_of_heap ev 2
      have k3 := cell_of_heap ev 3
      have k4 := cell_of_heap ev 4
      have k5 := cell_of_heap ev 5
      clear hW1 ev
      refine wp_region_multi [([1, 2, 0], [3], [4, 5]), ([4, 5], [], [])] (by kernel_rfl) (by kernel_rfl) ?_
      refine multi_phase (Below W1.heap.size W1) (Below.refl _ _).drew ?_
      iterate 3 (first | (apply first_step; (rw [List.getElem?_toArray]; (repeat rw [List.getElem?_cons_succ]); rw [List.getElem?_cons_zero]); rfl; (intro W hB; have hc := bcellB hB; go_simp; (first | done | rfl)); go_frame) | (apply first_skip; (rw [List.getElem?_toArray]; (repeat rw [List.getElem?_cons_succ]); rw [List.getElem?_cons_zero]); rfl; go_frame))
      refine first_done ?_
      apply forced_step; (rw [List.getElem?_toArray]; (repeat rw [List.getElem?_cons_succ]); rw [List.getElem?_cons_zero]); rfl; intro K hK; go_simp
      refine (truth_any b _).mono ?_
      rintro e' W2 ⟨rfl, hb2⟩
      rw [HVT.out]
      refine hK _ _ (fun _ => (Below.refl _ W1).drew.trans hb2) ?_
      clear hK K
      refine forced_done ?_
      have hB2 : Hid (Below w.heap.size w W2) := hB1.out.trans ((hb2 : Below W1.heap.size W1.drew W2).mono (Nat.le_of_lt hv1) |> fun h => (Below.refl _ W1).drew.trans h)
      clear hb2 k0 k1 k2 k3 k4 k5
      refine multi_phase (fun _ => True) trivial ?_
      iterate 2 (apply first_step; (rw [List.getElem?_toArray]; (repeat rw [List.getElem?_cons_succ]); rw [List.getElem?_cons_zero]); rfl; (intro W hB; go_simp; (first | done | rfl)); go_frame)
      refine first_done ?_
      refine forced_done ?_
      refine multi_done ?_
      go_wp2
      go_ret
      exact ⟨rfl, hB2.out⟩
    · have n3 : (k == 3) = false := by simp [h3]
      by_cases h4 : k = 4
      · subst h4
        have hr : rightP ⟨4, m, e, t, b, f⟩ = decide ((4 : Int) = 4 ∧ m = 0 ∧ e = 0 ∧ t = ⟨#[]⟩ ∧ b = false ∧ f = (if f < 1 ∨ 9 < f then 9 else f)) := by
          have hf : (f = (if f < 1 ∨ 9 < f then 9 else f)) ↔ (1 ≤ f ∧ f ≤ 9) := by
            by_cases h : f < 1 ∨ 9 < f
            · rw [if_pos h]; omega
            · rw [if_neg h]; omega
          have hd : decide ((4 : Int) = 4 ∧ m = 0 ∧ e = 0 ∧ t = ⟨#[]⟩ ∧ b = false ∧ f = (if f < 1 ∨ 9 < f then 9 else f)) = decide ((4 : Int) = 4 ∧ m = 0 ∧ e = 0 ∧ t = ⟨#[]⟩ ∧ b = false ∧ (1 ≤ f ∧ f ≤ 9)) := by
            apply decide_eq_decide.2
            rw [hf]
          rw [hd]
          unfold rightP
          simp [Bool.and_assoc]
        have eq0 : ∀ W, (binOp .eql 33 (.agg #[.int .i64 4, .int .i64 m, .int .i64 e, .string t, .bool b, .int .i64 f]) (vagg (vBad f))).run Tryz.prog W = .ok (.bool (rightP ⟨4, m, e, t, b, f⟩)) W := fun W => by
          rw [hr]
          exact EQ W ⟨4, m, e, t, b, f⟩ (vBad f)
        clear EQ hr
        generalize rightP ⟨4, m, e, t, b, f⟩ = R at eq0 ⊢
        obtain ⟨f9, hvt⟩ : ∃ f9 : Int, vagg (vBad f) = .agg #[.int .i64 4, .int .i64 0, .int .i64 0, .string ⟨#[]⟩, .bool false, .int .i64 f9] := ⟨_, rfl⟩
        rw [hvt] at eq0
        rw [show vagg ⟨4, m, e, t, b, f⟩ = .agg #[.int .i64 4, .int .i64 m, .int .i64 e, .string t, .bool b, .int .i64 f] from rfl]
        have HVT := Lib.hid hvt
        clear hvt
        go_enter Tryz.func63, Tryz.ntmps63
        go_wp2
        refine abs_world ?_
        intro W1 hW1
        have hB1 : Hid (Below w.heap.size w W1) := by rw [hW1]; unfold Hid; (repeat (first | with_reducible exact Below.refl _ _ | with_reducible exact hBW | with_reducible refine Below.setCell ?_ ?_ _ | with_reducible refine Below.alloc ?_ ?_ _ | with_reducible refine belowN ?_ _ | with_reducible refine Below.drew ?_)); all_goals (first | omega | (dsimp only; omega) | ((repeat (first | with_reducible refine le_alloc ?_ | with_reducible refine le_setCell ?_ | with_reducible refine le_drew ?_ | with_reducible refine le_drewN ?_)); omega))
        have hv1 : w.heap.size < W1.heap.size := lt_of_heap (b := w.heap.size) (o := .cells #[.int .i64 4, .int .i64 m, .int .i64 e, .string t, .bool b, .int .i64 f] 33) (by rw [hW1]; (repeat (first | (with_reducible refine heap_alloc_at ?_ _; (first | rfl | (simp; done) | omega | (simp; omega)); done) | with_reducible refine heap_alloc_old ?_ _ | with_reducible refine heap_drew_old ?_ | with_reducible refine heap_drewN_old ?_)))
        have ev : W1.heap[w.heap.size]? = some (.cells #[.int .i64 4, .int .i64 m, .int .i64 e, .string t, .bool b, .int .i64 f] 33) := by rw [hW1]; (repeat (first | (with_reducible refine heap_alloc_at ?_ _; (first | rfl | (simp; done) | omega | (simp; omega)); done) | with_reducible refine heap_alloc_old ?_ _ | with_reducible refine heap_drew_old ?_ | with_reducible refine heap_drewN_old ?_))
        have k0 := cell_of_heap ev 0
        have k1 := cell_of_heap ev 1
        have k2 := cell_of_heap ev 2
        have k3 := cell_of_heap ev 3
        have k4 := cell_of_heap ev 4
        have k5 := cell_of_heap ev 5
        clear hW1 ev
        refine wp_region_multi [([1, 2, 0], [3], [4, 5]), ([4, 5], [], [])] (by kernel_rfl) (by kernel_rfl) ?_
        refine multi_phase (Below W1.heap.size W1) (Below.refl _ _).drew ?_
        iterate 3 (first | (apply first_step; (rw [List.getElem?_toArray]; (repeat rw [List.getElem?_cons_succ]); rw [List.getElem?_cons_zero]); rfl; (intro W hB; have hc := bcellB hB; go_simp; (first | done | rfl)); go_frame) | (apply first_skip; (rw [List.getElem?_toArray]; (repeat rw [List.getElem?_cons_succ]); rw [List.getElem?_cons_zero]); rfl; go_frame))
        refine first_done ?_
        apply forced_step; (rw [List.getElem?_toArray]; (repeat rw [List.getElem?_cons_succ]); rw [List.getElem?_cons_zero]); rfl; intro K hK; go_simp
        refine (bad_any f _).mono ?_
        rintro e' W2 ⟨rfl, hb2⟩
        rw [HVT.out]
        refine hK _ _ (fun _ => (Below.refl _ W1).drew.trans hb2) ?_
        clear hK K
        refine forced_done ?_
        have hB2 : Hid (Below w.heap.size w W2) := hB1.out.trans ((hb2 : Below W1.heap.size W1.drew W2).mono (Nat.le_of_lt hv1) |> fun h => (Below.refl _ W1).drew.trans h)
        clear hb2 k0 k1 k2 k3 k4 k5
        refine multi_phase (fun _ => True) trivial ?_
        iterate 2 (apply first_step; (rw [List.getElem?_toArray]; (repeat rw [List.getElem?_cons_succ]); rw [List.getElem?_cons_zero]); rfl; (intro W hB; go_simp; (first | done | rfl)); go_frame)
        refine first_done ?_
        refine forced_done ?_
        refine multi_done ?_
        go_wp2
        go_ret
        exact ⟨rfl, hB2.out⟩
      · have n4 : (k == 4) = false := by simp [h4]
        have hr : rightP ⟨k, m, e, t, b, f⟩ = false := by unfold rightP; simp [h0, h3, h4]
        rw [hr]
        clear hr EQ
        unfold vagg
        go_enter Tryz.func63, Tryz.ntmps63
        go_wp2
        go_ret
        refine ⟨rfl, ?_⟩
        (repeat (first | with_reducible exact Below.refl _ _ | with_reducible exact hBW | with_reducible refine Below.setCell ?_ ?_ _ | with_reducible refine Below.alloc ?_ ?_ _ | with_reducible refine belowN ?_ _ | with_reducible refine Below.drew ?_)); all_goals (first | omega | (dsimp only; omega) | ((repeat (first | with_reducible refine le_alloc ?_ | with_reducible refine le_setCell ?_ | with_reducible refine le_drew ?_ | with_reducible refine le_drewN ?_)); omega))
def refR (v : V) : Bool :=
  (decide (v.k = 1) || decide (v.m = 0 ∧ v.e = 0)) && (decide (v.k = 2) || decide (v.t = ⟨#[]⟩)) && (decide (v.k = 3) || !v.b) && (decide (v.k = 4) || decide (v.f = 0)) &&
  (if v.k = 1 then numR v.m v.e else if v.k = 2 then decide (v.t.size ≤ 255) else decide (v.k = 0 ∨ v.k = 3 ∨ (v.k = 4 ∧ 1 ≤ v.f ∧ v.f ≤ 9)))
set_option maxHeartbeats 400000 in
theorem Of_any (m e : Int) (w : World) : Calls Tryz.prog 78 #[.agg #[.int .i64 m, .int .i64 e]] w fun r w' => r = .returned (.agg #[.int .i64 1, .int .i64 m, .int .i64 e, .string ⟨#[]⟩, .bool false, .int .i64 0]) ∧ Below w.heap.size w w' := by
  go_enter Tryz.func78, Tryz.ntmps78
  go_wp2
  refine bodyPost_ret (v := .agg #[.int .i64 1, .int .i64 m, .int .i64 e, .string ⟨#[]⟩, .bool false, .int .i64 0]) (by simp [results, Tryz.results78, go_sem]) rfl ⟨rfl, ?_⟩
  (repeat (first | with_reducible exact Below.refl _ _ | with_reducible exact hBW | with_reducible refine Below.setCell ?_ ?_ _ | with_reducible refine Below.alloc ?_ ?_ _ | with_reducible refine belowN ?_ _ | with_reducible refine Below.drew ?_)); all_goals (first | omega | (dsimp only; omega) | ((repeat (first | with_reducible refine le_alloc ?_ | with_reducible refine le_setCell ?_ | with_reducible refine le_drew ?_ | with_reducible refine le_drewN ?_)); omega))
set_option maxHeartbeats 400000 in
theorem Text_any (t : ByteArray) (h : t.size ≤ 255) (w : World) : Calls Tryz.prog 79 #[.string t] w fun r w' => r = .returned (.agg #[.int .i64 2, .int .i64 0, .int .i64 0, .string t, .bool false, .int .i64 0]) ∧ Below w.heap.size w w' := by
  go_enter Tryz.func79, Tryz.ntmps79
  go_wp2
  refine bodyPost_ret (v := .agg #[.int .i64 2, .int .i64 0, .int .i64 0, .string t, .bool false, .int .i64 0]) (by simp [results, Tryz.results79, go_sem]) rfl ⟨rfl, ?_⟩
  (repeat (first | with_reducible exact Below.refl _ _ | with_reducible exact hBW | with_reducible refine Below.setCell ?_ ?_ _ | with_reducible refine Below.alloc ?_ ?_ _ | with_reducible refine belowN ?_ _ | with_reducible refine Below.drew ?_)); all_goals (first | omega | (dsimp only; omega) | ((repeat (first | with_reducible refine le_alloc ?_ | with_reducible refine le_setCell ?_ | with_reducible refine le_drew ?_ | with_reducible refine le_drewN ?_)); omega))
theorem refR_plain {v : V} (h1 : v.k ≠ 1) (h2 : v.k ≠ 2) : rightP v = refR v := by
  obtain ⟨k, m, e, t, b, f⟩ := v
  simp only at h1 h2
  unfold rightP refR
  simp only [h1, h2, if_false, decide_false, Bool.false_or]
  by_cases hm : m = 0 <;> by_cases he : e = 0 <;> by_cases ht : t = ⟨#[]⟩ <;> by_cases k0 : k = 0 <;> by_cases k3 : k = 3 <;> by_cases k4 : k = 4 <;> by_cases hf : f = 0 <;> cases b <;> simp [hm, he, ht, k0, k3, k4, hf] <;> omega
section
variable (m e : Int) (t : ByteArray) (b : Bool) (f : Int) (w : World)
set_option maxHeartbeats 1000000
set_option maxRecDepth 100000
theorem right_1no (HN : ∀ w : World, Calls Tryz.prog 77 #[.agg #[.int .i64 m, .int .i64 e]] w fun r w' => r = .returned (.bool false) ∧ Below w.heap.size w w') : Calls Tryz.prog 63 #[.agg #[.int .i64 1, .int .i64 m, .int .i64 e, .string t, .bool b, .int .i64 f]] w fun r w' => r = .returned (.bool false) ∧ Below w.heap.size w w' := by
  have HN := Lib.hid HN
  go_enter Tryz.func63, Tryz.ntmps63
  go_wp2_with fail
  refine abs_world ?_
  intro W1 hW1
  have hB1 : Hid (Below w.heap.size w W1) := by rw [hW1]; unfold Hid; (repeat (first | with_reducible exact Below.refl _ _ | with_reducible exact hBW | with_reducible refine Below.setCell ?_ ?_ _ | with_reducible refine Below.alloc ?_ ?_ _ | with_reducible refine belowN ?_ _ | with_reducible refine Below.drew ?_)); all_goals (first | omega | (dsimp only; omega) | ((repeat (first | with_reducible refine le_alloc ?_ | with_reducible refine le_setCell ?_ | with_reducible refine le_drew ?_ | with_reducible refine le_drewN ?_)); omega))
  have ev : W1.heap[w.heap.size]? = some (.cells #[.int .i64 1, .int .i64 m, .int .i64 e, .string t, .bool b, .int .i64 f] 33) := by rw [hW1]; (repeat (first | (with_reducible refine heap_alloc_at ?_ _; (first | rfl | (simp; done) | omega | (simp; omega)); done) | with_reducible refine heap_alloc_old ?_ _ | with_reducible refine heap_drew_old ?_ | with_reducible refine heap_drewN_old ?_))
  have k0 := cell_of_heap ev 0
  have k1 := cell_of_heap ev 1
  have k2 := cell_of_heap ev 2
  have k3 := cell_of_heap ev 3
  have k4 := cell_of_heap ev 4
  have k5 := cell_of_heap ev 5
  have z1 := lt_of_heap ev
  clear hW1 ev
  refine wp_region_multiR [([0, 1], [2], [2, 3, 4, 5, 6, 7, 8, 9, 10]), ([3, 5, 6, 4], [7], [8, 9, 10]), ([8, 9, 10], [], [])] (by kernel_rfl) (by kernel_rfl) ?_
  refine multi_phase (Below W1.heap.size W1) (Below.refl _ _).drew ?_
  iterate 2 (first | (apply first_step; (rw [List.getElem?_toArray]; (repeat rw [List.getElem?_cons_succ]); rw [List.getElem?_cons_zero]); rfl; (intro W hB; have hc := bcellB hB; go_simp; (first | done | rfl)); go_frame) | (apply first_skip; (rw [List.getElem?_toArray]; (repeat rw [List.getElem?_cons_succ]); rw [List.getElem?_cons_zero]); rfl; go_frame))
  refine first_done ?_
  apply forced_step; (rw [List.getElem?_toArray]; (repeat rw [List.getElem?_cons_succ]); rw [List.getElem?_cons_zero]); rfl; intro K hK; go_simp
  refine (HN.out _).mono ?_
  rintro r w2 ⟨rfl, hb2⟩
  have HB2 : Hid (Below W1.heap.size W1 w2) := (Below.refl _ W1).drew.trans hb2
  refine hK _ _ (fun h => absurd (by decide) h) ?_
  clear hK K hb2
  refine forced_done ?_
  refine multi_phase (Below W1.heap.size W1) HB2.out ?_
  iterate 4 (first | (apply first_step; (rw [List.getElem?_toArray]; (repeat rw [List.getElem?_cons_succ]); rw [List.getElem?_cons_zero]); rfl; (intro W hB; have hc := bcellB hB; go_simp; (first | done | rfl)); go_frame) | (apply first_skip; (rw [List.getElem?_toArray]; (repeat rw [List.getElem?_cons_succ]); rw [List.getElem?_cons_zero]); rfl; go_frame))
  refine first_done ?_
  apply forced_skip; (rw [List.getElem?_toArray]; (repeat rw [List.getElem?_cons_succ]); rw [List.getElem?_cons_zero]); rfl
  · exact fun _ => HB2.out
  refine forced_done ?_
  refine multi_phase (Below W1.heap.size W1) HB2.out ?_
  iterate 3 (first | (apply first_step; (rw [List.getElem?_toArray]; (repeat rw [List.getElem?_cons_succ]); rw [List.getElem?_cons_zero]); rfl; (intro W hB; have hc := bcellB hB; go_simp; (first | done | rfl)); go_frame) | (apply first_skip; (rw [List.getElem?_toArray]; (repeat rw [List.getElem?_cons_succ]); rw [List.getElem?_cons_zero]); rfl; go_frame))
  refine first_done ?_
  refine forced_done ?_
  refine multi_done ?_
  clear k0 k1 k2 k3 k4 k5
  go_wp2_with fail
  go_ret
  exact ⟨rfl, hB1.out.trans (HB2.out.mono hB1.out.size)⟩
theorem right_1eq (R : Bool) (HN : ∀ w : World, Calls Tryz.prog 77 #[.agg #[.int .i64 m, .int .i64 e]] w fun r w' => r = .returned (.bool true) ∧ Below w.heap.size w w')
    (HEQ : ∀ W, (binOp .eql 33 (.agg #[.int .i64 1, .int .i64 m, .int .i64 e, .string t, .bool b, .int .i64 f]) (.agg #[.int .i64 1, .int .i64 m, .int .i64 e, .string ⟨#[]⟩, .bool false, .int .i64 0])).run Tryz.prog W = .ok (.bool R) W) :
    Calls Tryz.prog 63 #[.agg #[.int .i64 1, .int .i64 m, .int .i64 e, .string t, .bool b, .int .i64 f]] w fun r w' => r = .returned (.bool R) ∧ Below w.heap.size w w' := by
  have HN := Lib.hid HN
  have HEQ := Lib.hid HEQ
  go_enter Tryz.func63, Tryz.ntmps63
  go_wp2_with fail
  refine abs_world ?_
  intro W1 hW1
  have hB1 : Hid (Below w.heap.size w W1) := by rw [hW1]; unfold Hid; (repeat (first | with_reducible exact Below.refl _ _ | with_reducible exact hBW | with_reducible refine Below.setCell ?_ ?_ _ | with_reducible refine Below.alloc ?_ ?_ _ | with_reducible refine belowN ?_ _ | with_reducible refine Below.drew ?_)); all_goals (first | omega | (dsimp only; omega) | ((repeat (first | with_reducible refine le_alloc ?_ | with_reducible refine le_setCell ?_ | with_reducible refine le_drew ?_ | with_reducible refine le_drewN ?_)); omega))
  have ev : W1.heap[w.heap.size]? = some (.cells #[.int .i64 1, .int .i64 m, .int .i64 e, .string t, .bool b, .int .i64 f] 33) := by rw [hW1]; (repeat (first | (with_reducible refine heap_alloc_at ?_ _; (first | rfl | (simp; done) | omega | (simp; omega)); done) | with_reducible refine heap_alloc_old ?_ _ | with_reducible refine heap_drew_old ?_ | with_reducible refine heap_drewN_old ?_))
  have k0 := cell_of_heap ev 0
  have k1 := cell_of_heap ev 1
  have k2 := cell_of_heap ev 2
  have k3 := cell_of_heap ev 3
  have k4 := cell_of_heap ev 4
  have k5 := cell_of_heap ev 5
  have z1 := lt_of_heap ev
  clear hW1 ev
  refine wp_region_multiR [([0, 1], [2], [2, 3, 4, 5, 6, 7, 8, 9, 10]), ([3, 5, 6, 4], [7], [8, 9, 10]), ([8, 9, 10], [], [])] (by kernel_rfl) (by kernel_rfl) ?_
  refine multi_phase (Below W1.heap.size W1) (Below.refl _ _).drew ?_
  iterate 2 (first | (apply first_step; (rw [List.getElem?_toArray]; (repeat rw [List.getElem?_cons_succ]); rw [List.getElem?_cons_zero]); rfl; (intro W hB; have hc := bcellB hB; go_simp; (first | done | rfl)); go_frame) | (apply first_skip; (rw [List.getElem?_toArray]; (repeat rw [List.getElem?_cons_succ]); rw [List.getElem?_cons_zero]); rfl; go_frame))
  refine first_done ?_
  apply forced_step; (rw [List.getElem?_toArray]; (repeat rw [List.getElem?_cons_succ]); rw [List.getElem?_cons_zero]); rfl; intro K hK; go_simp
  refine (HN.out _).mono ?_
  rintro r w2 ⟨rfl, hb2⟩
  have HB2 : Hid (Below W1.heap.size W1 w2) := (Below.refl _ W1).drew.trans hb2
  refine hK _ _ (fun h => absurd (by decide) h) ?_
  clear hK K hb2
  refine forced_done ?_
  refine multi_phase (Below W1.heap.size W1) HB2.out ?_
  iterate 4 (first | (apply first_step; (rw [List.getElem?_toArray]; (repeat rw [List.getElem?_cons_succ]); rw [List.getElem?_cons_zero]); rfl; (intro W hB; have hc := bcellB hB; go_simp; (first | done | rfl)); go_frame) | (apply first_skip; (rw [List.getElem?_toArray]; (repeat rw [List.getElem?_cons_succ]); rw [List.getElem?_cons_zero]); rfl; go_frame))
  refine first_done ?_
  apply forced_step; (rw [List.getElem?_toArray]; (repeat rw [List.getElem?_cons_succ]); rw [List.getElem?_cons_zero]); rfl; intro K hK; go_simp
  refine (Of_any m e _).mono ?_
  rintro r w3 ⟨rfl, hb3⟩
  have HB3 : Hid (Below W1.heap.size W1 w3) := HB2.out.trans (hb3.mono HB2.out.size)
  refine hK _ _ (fun _ => HB3.out) ?_
  clear hK K hb3
  refine forced_done ?_
  have EQ := HEQ.out
  refine multi_phase (Below W1.heap.size W1) HB3.out ?_
  iterate 3 (first | (apply first_step; (rw [List.getElem?_toArray]; (repeat rw [List.getElem?_cons_succ]); rw [List.getElem?_cons_zero]); rfl; (intro W hB; have hc := bcellB hB; go_simp; (first | done | rfl)); go_frame) | (apply first_skip; (rw [List.getElem?_toArray]; (repeat rw [List.getElem?_cons_succ]); rw [List.getElem?_cons_zero]); rfl; go_frame))
  refine first_done ?_
  refine forced_done ?_
  refine multi_done ?_
  clear EQ k0 k1 k2 k3 k4 k5
  go_wp2_with fail
  go_ret
  exact ⟨rfl, hB1.out.trans (HB3.out.mono hB1.out.size)⟩
theorem Text_long (h : 255 < t.size) : Calls Tryz.prog 79 #[.string t] w fun r w' => r = .returned (.agg #[.int .i64 4, .int .i64 0, .int .i64 0, .string ⟨#[]⟩, .bool false, .int .i64 2]) ∧ Below w.heap.size w w' := by
  have HB := Lib.hid (bad_any 2)
  go_enter Tryz.func79, Tryz.ntmps79
  go_wp2_with fail
  refine (HB.out _).mono ?_
  rintro r w1 ⟨rfl, hb⟩
  have hs1 : w.heap.size + 1 ≤ w1.heap.size := by have := hb.size; simpa using this
  have g0 : w1.heap[w.heap.size]? = some (.cells #[.int .i64 0, .int .i64 0, .int .i64 0, .string ⟨#[]⟩, .bool false, .int .i64 0] 33) := (hb.block _ (by simp)).trans (by (repeat (first | (with_reducible refine heap_alloc_at ?_ _; (first | rfl | (simp; done) | omega | (simp; omega)); done) | with_reducible refine heap_alloc_old ?_ _ | with_reducible refine heap_drew_old ?_ | with_reducible refine heap_drewN_old ?_)))
  have hBW : Below w.heap.size w w1 := by
    refine Below.trans ?_ (hb.mono (by simp))
    (repeat (first | with_reducible exact Below.refl _ _ | with_reducible exact hBW | with_reducible refine Below.setCell ?_ ?_ _ | with_reducible refine Below.alloc ?_ ?_ _ | with_reducible refine belowN ?_ _ | with_reducible refine Below.drew ?_)); all_goals (first | omega | (dsimp only; omega) | ((repeat (first | with_reducible refine le_alloc ?_ | with_reducible refine le_setCell ?_ | with_reducible refine le_drew ?_ | with_reducible refine le_drewN ?_)); omega))
  have x0 := cell_of_heap g0
  have y0 := frozen_of_heap g0
  clear hb g0
  unfold vagg vBad
  go_wp2_with fail
  refine bodyPost_ret (v := .agg #[.int .i64 4, .int .i64 0, .int .i64 0, .string ⟨#[]⟩, .bool false, .int .i64 2]) (by simp [results, Tryz.results79, go_sem, x0]) rfl ⟨rfl, ?_⟩
  (repeat (first | with_reducible exact Below.refl _ _ | with_reducible exact hBW | with_reducible refine Below.setCell ?_ ?_ _ | with_reducible refine Below.alloc ?_ ?_ _ | with_reducible refine belowN ?_ _ | with_reducible refine Below.drew ?_)); all_goals (first | omega | (dsimp only; omega) | ((repeat (first | with_reducible refine le_alloc ?_ | with_reducible refine le_setCell ?_ | with_reducible refine le_drew ?_ | with_reducible refine le_drewN ?_)); omega))
theorem right_2eq (R : Bool) (u : V) (HN : ∀ w : World, Calls Tryz.prog 79 #[.string t] w fun r w' => r = .returned (vagg u) ∧ Below w.heap.size w w')
    (HEQ : ∀ W, (binOp .eql 33 (vagg ⟨2, m, e, t, b, f⟩) (vagg u)).run Tryz.prog W = .ok (.bool R) W) :
    Calls Tryz.prog 63 #[.agg #[.int .i64 2, .int .i64 m, .int .i64 e, .string t, .bool b, .int .i64 f]] w fun r w' => r = .returned (.bool R) ∧ Below w.heap.size w w' := by
  unfold vagg at HN HEQ
  have HN := Lib.hid HN
  have HEQ := Lib.hid HEQ
  go_enter Tryz.func63, Tryz.ntmps63
  go_wp2_with fail
  refine abs_world ?_
  intro W1 hW1
  have hB1 : Hid (Below w.heap.size w W1) := by rw [hW1]; unfold Hid; (repeat (first | with_reducible exact Below.refl _ _ | with_reducible exact hBW | with_reducible refine Below.setCell ?_ ?_ _ | with_reducible refine Below.alloc ?_ ?_ _ | with_reducible refine belowN ?_ _ | with_reducible refine Below.drew ?_)); all_goals (first | omega | (dsimp only; omega) | ((repeat (first | with_reducible refine le_alloc ?_ | with_reducible refine le_setCell ?_ | with_reducible refine le_drew ?_ | with_reducible refine le_drewN ?_)); omega))
  have ev : W1.heap[w.heap.size]? = some (.cells #[.int .i64 2, .int .i64 m, .int .i64 e, .string t, .bool b, .int .i64 f] 33) := by rw [hW1]; (repeat (first | (with_reducible refine heap_alloc_at ?_ _; (first | rfl | (simp; done) | omega | (simp; omega)); done) | with_reducible refine heap_alloc_old ?_ _ | with_reducible refine heap_drew_old ?_ | with_reducible refine heap_drewN_old ?_))
  have k0 := cell_of_heap ev 0
  have k1 := cell_of_heap ev 1
  have k2 := cell_of_heap ev 2
  have k3 := cell_of_heap ev 3
  have k4 := cell_of_heap ev 4
  have k5 := cell_of_heap ev 5
  have z1 := lt_of_heap ev
  clear hW1 ev
  refine wp_region_multiR [([1, 2, 0], [3], [4, 5]), ([4, 5], [], [])] (by kernel_rfl) (by kernel_rfl) ?_
  refine multi_phase (Below W1.heap.size W1) (Below.refl _ _).drew ?_
  iterate 3 (first | (apply first_step; (rw [List.getElem?_toArray]; (repeat rw [List.getElem?_cons_succ]); rw [List.getElem?_cons_zero]); rfl; (intro W hB; have hc := bcellB hB; go_simp; (first | done | rfl)); go_frame) | (apply first_skip; (rw [List.getElem?_toArray]; (repeat rw [List.getElem?_cons_succ]); rw [List.getElem?_cons_zero]); rfl; go_frame))
  refine first_done ?_
  apply forced_step; (rw [List.getElem?_toArray]; (repeat rw [List.getElem?_cons_succ]); rw [List.getElem?_cons_zero]); rfl; intro K hK; go_simp
  refine (HN.out _).mono ?_
  rintro r w2 ⟨rfl, hb2⟩
  have HB2 : Hid (Below W1.heap.size W1 w2) := (Below.refl _ W1).drew.trans hb2
  refine hK _ _ (fun _ => HB2.out) ?_
  clear hK K hb2
  refine forced_done ?_
  have EQ := HEQ.out
  refine multi_phase (Below W1.heap.size W1) HB2.out ?_
  iterate 2 (first | (apply first_step; (rw [List.getElem?_toArray]; (repeat rw [List.getElem?_cons_succ]); rw [List.getElem?_cons_zero]); rfl; (intro W hB; have hc := bcellB hB; go_simp; (first | done | rfl)); go_frame) | (apply first_skip; (rw [List.getElem?_toArray]; (repeat rw [List.getElem?_cons_succ]); rw [List.getElem?_cons_zero]); rfl; go_frame))
  refine first_done ?_
  refine forced_done ?_
  refine multi_done ?_
  clear EQ k0 k1 k2 k3 k4 k5
  go_wp2_with fail
  go_ret
  exact ⟨rfl, hB1.out.trans (HB2.out.mono hB1.out.size)⟩
end
theorem right_all (v : V) (h : I64 v.m) (w : World) : Calls Tryz.prog 63 #[vagg v] w fun r w' => r = .returned (.bool (refR v)) ∧ Below w.heap.size w w' := by
  by_cases k1 : v.k = 1
  · obtain ⟨k, m, e, t, b, f⟩ := v
    simp only at k1 h
    subst k1
    cases hn : numR m e with
    | false =>
      have hr : refR ⟨1, m, e, t, b, f⟩ = false := by unfold refR; simp [hn]
      rw [hr]
      exact right_1no m e t b f w (fun w => by have := num_all m e h w; rw [hn] at this; exact this)
    | true =>
      refine right_1eq m e t b f w (refR ⟨1, m, e, t, b, f⟩) (fun w => by have := num_all m e h w; rw [hn] at this; exact this) (fun W => ?_)
      have := eq_v6 W ⟨1, m, e, t, b, f⟩ ⟨1, m, e, ⟨#[]⟩, false, 0⟩
      unfold vagg at this
      rw [this]
      have hr : refR ⟨1, m, e, t, b, f⟩ = decide ((1 : Int) = 1 ∧ m = m ∧ e = e ∧ t = ⟨#[]⟩ ∧ b = false ∧ f = 0) := by
        unfold refR
        cases b <;> simp [hn]
      rw [hr]
  · by_cases k2 : v.k = 2
    · obtain ⟨k, m, e, t, b, f⟩ := v
      simp only at k1 k2 h
      subst k2
      by_cases ht : t.size ≤ 255
      · refine right_2eq m e t b f w (refR ⟨2, m, e, t, b, f⟩) ⟨2, 0, 0, t, false, 0⟩ (Text_any t ht) (fun W => ?_)
        rw [eq_v6]
        have hr : refR ⟨2, m, e, t, b, f⟩ = decide ((2 : Int) = 2 ∧ m = 0 ∧ e = 0 ∧ t = t ∧ b = false ∧ f = 0) := by
          unfold refR
          by_cases hm : m = 0 <;> by_cases he : e = 0 <;> cases b <;> simp [ht, hm, he]
        rw [hr]
      · refine right_2eq m e t b f w (refR ⟨2, m, e, t, b, f⟩) ⟨4, 0, 0, ⟨#[]⟩, false, 2⟩ (fun w => Text_long t w (by omega)) (fun W => ?_)
        rw [eq_v6]
        have hr : refR ⟨2, m, e, t, b, f⟩ = false := by
          unfold refR
          simp [ht]
        rw [hr]
        simp
    · rw [← refR_plain k1 k2]
      exact right_plain v k1 k2 w
end Go.Proofs.YtlcglkanlhmmdaaGreat
/- Texts: letters, digits; how many a text begins with. -/
namespace Go.Proofs.YtlcglkanlhmmdaaGreat
open Go.RowKit
def isL (c : Nat) : Bool := decide (65 ≤ c ∧ c ≤ 90)
def isD (c : Nat) : Bool := decide (48 ≤ c ∧ c ≤ 57)
/-- A text's bytes. -/
def bl (s : ByteArray) : List Nat := s.data.toList.map UInt8.toNat
theorem bl_len (s : ByteArray) : (bl s).length = s.size := by
  unfold bl
  rw [List.length_map, Array.length_toList]
  rfl
theorem bl_at {s : ByteArray} {k c : Nat} (h : (bl s)[k]? = some c) (hk : k < s.size) : (s[k]'hk).toNat = c := by
  unfold bl at h
  rw [List.getElem?_map, Array.getElem?_toList] at h
  have : s.data[k]? = some (s[k]'hk) := by
    have hk' : k < s.data.size := hk
    rw [Array.getElem?_eq_getElem hk']
    rfl
  rw [this] at h
  simpa using h
theorem bl_lt (s : ByteArray) {c k : Nat} (h : (bl s)[k]? = some c) : c < 256 := by
  have := List.mem_of_getElem? h
  simp only [bl, List.mem_map] at this
  obtain ⟨a, _, rfl⟩ := this
  exact a.toNat_lt
theorem bl_get {s : ByteArray} {k : Nat} (h : k < s.size) : ∃ c, (bl s)[k]? = some c := ⟨_, List.getElem?_eq_getElem (by rw [bl_len]; exact h)⟩
theorem bl_extract (s : ByteArray) (k : Nat) : bl (s.extract k s.size) = (bl s).drop k := by
  simp only [bl, ByteArray.data_extract, Array.toList_extract]
  rw [List.extract_eq_take_drop, List.take_of_length_le, List.map_drop]
  rw [List.length_drop, Array.length_toList]
  exact Nat.le_refl _
/-- So many at the beginning. -/
def cnt (p : Nat → Bool) (l : List Nat) : Nat := (l.takeWhile p).length
theorem cnt_nil (p : Nat → Bool) : cnt p [] = 0 := rfl
theorem cnt_yes {p : Nat → Bool} {l : List Nat} {k c : Nat} (h : l[k]? = some c) (hp : p c = true) : cnt p (l.drop k) = cnt p (l.drop (k + 1)) + 1 := by
  rw [List.drop_eq_getElem?_toList_append, h]
  simp [cnt, hp]
theorem cnt_no {p : Nat → Bool} {l : List Nat} {k c : Nat} (h : l[k]? = some c) (hp : p c = false) : cnt p (l.drop k) = 0 := by
  rw [List.drop_eq_getElem?_toList_append, h]
  simp [cnt, hp]
theorem cnt_end {p : Nat → Bool} {l : List Nat} {k : Nat} (h : l.length ≤ k) : cnt p (l.drop k) = 0 := by
  rw [List.drop_of_length_le h]; rfl
theorem cnt_le (p : Nat → Bool) (l : List Nat) : cnt p l ≤ l.length := List.Sublist.length_le (List.takeWhile_sublist p)
theorem cnt_all {p : Nat → Bool} {l : List Nat} : cnt p l = l.length ↔ l.all p = true := by
  induction l with
  | nil => simp [cnt]
  | cons a r ih =>
    cases h : p a
    · simp [cnt, h]
    · simp only [cnt, List.takeWhile_cons, h, if_true, List.length_cons, List.all_cons, Bool.true_and] at ih ⊢
      rw [← ih]
      omega
theorem ret_bool {a b : Bool} (h : a = b) : Ending.returned (.bool a) = .returned (.bool b) := by rw [h]
theorem letter_any (c : Nat) (w : World) : Calls Tryz.prog 22 #[.int .u8 c] w fun e w' => e = .returned (.bool (isL c)) ∧ w = w' := by
  unfold isL
  by_cases h1 : 65 ≤ c
  · by_cases h2 : c ≤ 90
    · go_enter Tryz.func22, Tryz.ntmps22
      go_wp2
      go_ret
      exact ⟨ret_bool (by first | rfl | (rw [Bool.eq_iff_iff]; simp only [decide_eq_true_eq]; omega)), rfl⟩
    · go_enter Tryz.func22, Tryz.ntmps22
      go_wp2
      go_ret
      exact ⟨ret_bool (by first | rfl | (rw [Bool.eq_iff_iff]; simp only [decide_eq_true_eq]; omega)), rfl⟩
  · go_enter Tryz.func22, Tryz.ntmps22
    go_wp2
    go_ret
    exact ⟨ret_bool (by first | rfl | (rw [Bool.eq_iff_iff]; simp only [decide_eq_true_eq]; omega)), rfl⟩
theorem capital_any (c : Nat) (w : World) : Calls Tryz.prog 65 #[.int .u8 c] w fun e w' => e = .returned (.bool (isL c)) ∧ w = w' := by
  unfold isL
  by_cases h1 : 65 ≤ c
  · by_cases h2 : c ≤ 90
    · go_enter Tryz.func65, Tryz.ntmps65
      go_wp2
      go_ret
      exact ⟨ret_bool (by first | rfl | (rw [Bool.eq_iff_iff]; simp only [decide_eq_true_eq]; omega)), rfl⟩
    · go_enter Tryz.func65, Tryz.ntmps65
      go_wp2
      go_ret
      exact ⟨ret_bool (by first | rfl | (rw [Bool.eq_iff_iff]; simp only [decide_eq_true_eq]; omega)), rfl⟩
  · go_enter Tryz.func65, Tryz.ntmps65
    go_wp2
    go_ret
    exact ⟨ret_bool (by first | rfl | (rw [Bool.eq_iff_iff]; simp only [decide_eq_true_eq]; omega)), rfl⟩
theorem digit_any (c : Nat) (w : World) : Calls Tryz.prog 24 #[.int .u8 c] w fun e w' => e = .returned (.bool (isD c)) ∧ w = w' := by
  unfold isD
  by_cases h1 : 48 ≤ c
  · by_cases h2 : c ≤ 57
    · go_enter Tryz.func24, Tryz.ntmps24
      go_wp2
      go_ret
      exact ⟨ret_bool (by first | rfl | (rw [Bool.eq_iff_iff]; simp only [decide_eq_true_eq]; omega)), rfl⟩
    · go_enter Tryz.func24, Tryz.ntmps24
      go_wp2
      go_ret
      exact ⟨ret_bool (by first | rfl | (rw [Bool.eq_iff_iff]; simp only [decide_eq_true_eq]; omega)), rfl⟩
  · go_enter Tryz.func24, Tryz.ntmps24
    go_wp2
    go_ret
    exact ⟨ret_bool (by first | rfl | (rw [Bool.eq_iff_iff]; simp only [decide_eq_true_eq]; omega)), rfl⟩
theorem isDigit_any (c : Nat) (w : World) : Calls Tryz.prog 66 #[.int .u8 c] w fun e w' => e = .returned (.bool (isD c)) ∧ w = w' := by
  unfold isD
  by_cases h1 : 48 ≤ c
  · by_cases h2 : c ≤ 57
    · go_enter Tryz.func66, Tryz.ntmps66
      go_wp2
      go_ret
      exact ⟨ret_bool (by first | rfl | (rw [Bool.eq_iff_iff]; simp only [decide_eq_true_eq]; omega)), rfl⟩
    · go_enter Tryz.func66, Tryz.ntmps66
      go_wp2
      go_ret
      exact ⟨ret_bool (by first | rfl | (rw [Bool.eq_iff_iff]; simp only [decide_eq_true_eq]; omega)), rfl⟩
  · go_enter Tryz.func66, Tryz.ntmps66
    go_wp2
    go_ret
    exact ⟨ret_bool (by first | rfl | (rw [Bool.eq_iff_iff]; simp only [decide_eq_true_eq]; omega)), rfl⟩
theorem digits_all (s : ByteArray) (hs : s.size ≤ 1048576) (w : World) : Calls Tryz.prog 37 #[.string s] w fun e w' => e = .returned (.bool ((bl s).all isD)) ∧ w = w' := by
  go_enter Tryz.func37, Tryz.ntmps37
  go_wp2_with fail
  go_loop [3] (fun x => ∃ k : Nat, x = .int .i64 k ∧ k ≤ s.size ∧ Hid ((bl s).all isD = ((bl s).drop k).all isD)) (fun x => s.size - (intOf x).toNat)
  case atStart => exact ⟨0, rfl, Nat.zero_le _, rfl⟩
  case round =>
    obtain ⟨k, rfl, hk, hS⟩ := hrel
    by_cases hlt : k < s.size
    · obtain ⟨c, hc⟩ := bl_get hlt
      have hcc := bl_at hc
      have HC : Hid ((bl s).all isD = (isD c && ((bl s).drop (k + 1)).all isD)) := by
        unfold Hid
        rw [hS.out, List.drop_eq_getElem?_toList_append, hc]
        rfl
      clear hS hc
      go_wp2_with fail
      refine (digit_any c _).mono ?_
      rintro e w1 ⟨rfl, rfl⟩
      cases hd : isD c with
      | true =>
        rw [hd, Bool.true_and] at HC
        go_wp2_with fail
        go_round
        case rel => exact ⟨k + 1, by go_num, by omega, HC⟩
        case measure => simp [intOf]; omega
      | false =>
        rw [hd, Bool.false_and] at HC
        go_wp2_with fail
        go_ret
        exact ⟨by rw [HC.out]; rfl, rfl⟩
    · have HC : Hid ((bl s).all isD = true) := by
        unfold Hid
        rw [hS.out, List.drop_of_length_le (by rw [bl_len]; omega)]
        rfl
      clear hS
      go_wp2_with fail
      go_ret
      exact ⟨by rw [HC.out]; rfl, rfl⟩
/-- tree.digitsOf. -/
theorem digitsOf_any (s : ByteArray) (hs : s.size ≤ 1048576) (w : World) : Calls Tryz.prog 82 #[.string s] w fun e w' => e = .returned (.int .i64 (cnt isD (bl s))) ∧ w = w' := by
  go_enter Tryz.func82, Tryz.ntmps82
  go_wp2_with fail
  go_loop [3] (fun x => ∃ k : Nat, x = .int .i64 k ∧ k ≤ s.size ∧ Hid (cnt isD (bl s) = k + cnt isD ((bl s).drop k))) (fun x => s.size - (intOf x).toNat)
  case atStart => exact ⟨0, rfl, Nat.zero_le _, by unfold Hid; simp⟩
  case round =>
    obtain ⟨k, rfl, hk, hS⟩ := hrel
    by_cases hlt : k < s.size
    · obtain ⟨c, hc⟩ := bl_get hlt
      have hcc := bl_at hc
      have HC := Lib.hid hc
      clear hc
      go_wp2_with fail
      refine (isDigit_any c _).mono ?_
      rintro e w1 ⟨rfl, rfl⟩
      cases hd : isD c with
      | true =>
        have HN : Hid (cnt isD (bl s) = (k + 1) + cnt isD ((bl s).drop (k + 1))) := by
          have h1 := hS.out
          rw [cnt_yes HC.out hd] at h1
          unfold Hid
          omega
        clear hS
        go_wp2_with fail
        go_round
        case rel => exact ⟨k + 1, by go_num, by omega, HN⟩
        case measure => simp [intOf]; omega
      | false =>
        have HN : Hid (cnt isD (bl s) = k) := by
          have h1 := hS.out
          rw [cnt_no HC.out hd] at h1
          unfold Hid
          omega
        clear hS
        go_wp2_with fail
        go_ret
        exact ⟨by rw [HN.out]; rfl, rfl⟩
    · have HN : Hid (cnt isD (bl s) = k) := by
        have h1 := hS.out
        rw [cnt_end (by rw [bl_len]; omega)] at h1
        unfold Hid
        omega
      clear hS
      go_wp2_with fail
      go_ret
      exact ⟨by rw [HN.out]; rfl, rfl⟩
end Go.Proofs.YtlcglkanlhmmdaaGreat
