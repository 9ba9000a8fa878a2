/- num.Right of any number, value.Right of any value. -/
import Derived.Test.YtgbedjeiihigaaaF13Ref
namespace Go.Proofs.Ytgbedjeiihigaaa
open Go.RowKit
def I64 (n : Int) : Prop := -9223372036854775808 ≤ n ∧ n ≤ 9223372036854775807
set_option maxHeartbeats 400000 in
theorem size_all (m : Int) (h : I64 m) (w : World) : Calls Try.prog 70 #[.int .i64 m] w fun e w' => e = .returned (.int .u64 (m.natAbs : Nat)) ∧ w = w' := by
  unfold I64 at h
  by_cases h0 : m < 0
  · go_enter Try.func70, Try.ntmps70
    go_wp2_with fail
    go_ret
    refine ⟨ret_int ?_, rfl⟩
    simp only [IntKind.wrap, IntKind.signed, IntKind.bits]
    simp
    omega
  · go_enter Try.func70, Try.ntmps70
    go_wp2_with fail
    go_ret
    exact ⟨ret_int (by omega), rfl⟩
section
variable (m e : Int) (M : Nat) (w : World)
set_option maxHeartbeats 1000000
set_option maxRecDepth 100000
theorem numN_1 (n0 : (m == 0) = false) (hbig : decide ((1000000000000000 : Int) ≤ (M : Int)) = true) (HS : ∀ w : World, Calls Try.prog 70 #[.int .i64 m] w fun e w' => e = .returned (.int .u64 (M : Nat)) ∧ w = w') : Calls Try.prog 58 #[.agg #[.int .i64 m, .int .i64 e]] w fun r w' => r = .returned (.bool false) ∧ Below w.heap.size w w' := by
  have HS := Lib.hid HS
  go_enter Try.func58, Try.ntmps58
  go_wp2_with fail
  refine (HS.out _).mono ?_
  rintro r w1 ⟨rfl, rfl⟩
  go_wp2_with fail
  go_ret
  refine ⟨rfl, ?_⟩
  (repeat (first | with_reducible exact Below.refl _ _ | with_reducible exact hBW | with_reducible refine Below.setCell ?_ ?_ _ | with_reducible refine Below.alloc ?_ ?_ _ | with_reducible refine belowN ?_ _ | with_reducible refine Below.drew ?_)); all_goals (first | omega | (dsimp only; omega) | ((repeat (first | with_reducible refine le_alloc ?_ | with_reducible refine le_setCell ?_ | with_reducible refine le_drew ?_ | with_reducible refine le_drewN ?_)); omega))
theorem numN_2 (n0 : (m == 0) = false) (hbig : decide ((1000000000000000 : Int) ≤ (M : Int)) = false) (n1 : ((M : Int) % 10 == 0) = true) (HS : ∀ w : World, Calls Try.prog 70 #[.int .i64 m] w fun e w' => e = .returned (.int .u64 (M : Nat)) ∧ w = w') : Calls Try.prog 58 #[.agg #[.int .i64 m, .int .i64 e]] w fun r w' => r = .returned (.bool false) ∧ Below w.heap.size w w' := by
  have HS := Lib.hid HS
  go_enter Try.func58, Try.ntmps58
  go_wp2_with fail
  refine (HS.out _).mono ?_
  rintro r w1 ⟨rfl, rfl⟩
  go_wp2_with fail
  go_ret
  refine ⟨rfl, ?_⟩
  (repeat (first | with_reducible exact Below.refl _ _ | with_reducible exact hBW | with_reducible refine Below.setCell ?_ ?_ _ | with_reducible refine Below.alloc ?_ ?_ _ | with_reducible refine belowN ?_ _ | with_reducible refine Below.drew ?_)); all_goals (first | omega | (dsimp only; omega) | ((repeat (first | with_reducible refine le_alloc ?_ | with_reducible refine le_setCell ?_ | with_reducible refine le_drew ?_ | with_reducible refine le_drewN ?_)); omega))
theorem numN_3 (n0 : (m == 0) = false) (hbig : decide ((1000000000000000 : Int) ≤ (M : Int)) = false) (n1 : ((M : Int) % 10 == 0) = false) (he : decide (e < -40) = true) (HS : ∀ w : World, Calls Try.prog 70 #[.int .i64 m] w fun e w' => e = .returned (.int .u64 (M : Nat)) ∧ w = w') : Calls Try.prog 58 #[.agg #[.int .i64 m, .int .i64 e]] w fun r w' => r = .returned (.bool false) ∧ Below w.heap.size w w' := by
  have HS := Lib.hid HS
  go_enter Try.func58, Try.ntmps58
  go_wp2_with fail
  refine (HS.out _).mono ?_
  rintro r w1 ⟨rfl, rfl⟩
  go_wp2_with fail
  go_ret
  refine ⟨rfl, ?_⟩
  (repeat (first | with_reducible exact Below.refl _ _ | with_reducible exact hBW | with_reducible refine Below.setCell ?_ ?_ _ | with_reducible refine Below.alloc ?_ ?_ _ | with_reducible refine belowN ?_ _ | with_reducible refine Below.drew ?_)); all_goals (first | omega | (dsimp only; omega) | ((repeat (first | with_reducible refine le_alloc ?_ | with_reducible refine le_setCell ?_ | with_reducible refine le_drew ?_ | with_reducible refine le_drewN ?_)); omega))
theorem numN_4 (n0 : (m == 0) = false) (hbig : decide ((1000000000000000 : Int) ≤ (M : Int)) = false) (n1 : ((M : Int) % 10 == 0) = false) (he : decide (e < -40) = false) (he2 : decide (40 ≤ e) = true) (HS : ∀ w : World, Calls Try.prog 70 #[.int .i64 m] w fun e w' => e = .returned (.int .u64 (M : Nat)) ∧ w = w') : Calls Try.prog 58 #[.agg #[.int .i64 m, .int .i64 e]] w fun r w' => r = .returned (.bool false) ∧ Below w.heap.size w w' := by
  have HS := Lib.hid HS
  go_enter Try.func58, Try.ntmps58
  go_wp2_with fail
  refine (HS.out _).mono ?_
  rintro r w1 ⟨rfl, rfl⟩
  go_wp2_with fail
  go_ret
  refine ⟨rfl, ?_⟩
  (repeat (first | with_reducible exact Below.refl _ _ | with_reducible exact hBW | with_reducible refine Below.setCell ?_ ?_ _ | with_reducible refine Below.alloc ?_ ?_ _ | with_reducible refine belowN ?_ _ | with_reducible refine Below.drew ?_)); all_goals (first | omega | (dsimp only; omega) | ((repeat (first | with_reducible refine le_alloc ?_ | with_reducible refine le_setCell ?_ | with_reducible refine le_drew ?_ | with_reducible refine le_drewN ?_)); omega))
theorem numN_5 (D : Nat) (n0 : (m == 0) = false) (hbig : decide ((1000000000000000 : Int) ≤ (M : Int)) = false) (n1 : ((M : Int) % 10 == 0) = false) (he : decide (e < -40) = false) (he2 : decide (40 ≤ e) = false) (hD : D ≤ 15) (wl : decide ((D : Int) + e ≤ 40) = false) (HS : ∀ w : World, Calls Try.prog 70 #[.int .i64 m] w fun e w' => e = .returned (.int .u64 (M : Nat)) ∧ w = w') (HC : ∀ w : World, Calls Try.prog 71 #[.int .u64 M] w fun e w' => e = .returned (.int .i64 D) ∧ w = w') : Calls Try.prog 58 #[.agg #[.int .i64 m, .int .i64 e]] w fun r w' => r = .returned (.bool false) ∧ Below w.heap.size w w' := by
  have HS := Lib.hid HS
  have HC := Lib.hid HC
  go_enter Try.func58, Try.ntmps58
  go_wp2_with fail
  refine (HS.out _).mono ?_
  rintro r w1 ⟨rfl, rfl⟩
  go_wp2_with fail
  refine abs_world ?_
  intro W1 hW1
  have hB1 : Hid (Below w.heap.size w W1) := by rw [hW1]; unfold Hid; (repeat (first | with_reducible exact Below.refl _ _ | with_reducible exact hBW | with_reducible refine Below.setCell ?_ ?_ _ | with_reducible refine Below.alloc ?_ ?_ _ | with_reducible refine belowN ?_ _ | with_reducible refine Below.drew ?_)); all_goals (first | omega | (dsimp only; omega) | ((repeat (first | with_reducible refine le_alloc ?_ | with_reducible refine le_setCell ?_ | with_reducible refine le_drew ?_ | with_reducible refine le_drewN ?_)); omega))
  have ev : W1.heap[w.heap.size]? = some (.cells #[.int .i64 m, .int .i64 e] 34) := by rw [hW1]; (repeat (first | (with_reducible refine heap_alloc_at ?_ _; (first | rfl | (simp; done) | omega | (simp; omega)); done) | with_reducible refine heap_alloc_old ?_ _ | with_reducible refine heap_drew_old ?_ | with_reducible refine heap_drewN_old ?_))
  have k1 := cell_of_heap ev 1
  have z1 := lt_of_heap ev
  have wd : IntKind.i64.wrap ((D : Int) + e) = (D : Int) + e := IntWalk.i64_in _ (by simp at he he2; omega)
  clear hW1 ev n0 n1 hbig
  refine wp_region_mix [0, 2, 3] [1, 4, 5, 6] [4, 5, 6] (Below W1.heap.size W1) (by kernel_rfl) (by kernel_rfl) (Below.refl _ _).drew ?_
  iterate 3 (first | (apply first_step; (rw [List.getElem?_toArray]; (repeat rw [List.getElem?_cons_succ]); rw [List.getElem?_cons_zero]); rfl; (intro W hB; have hc := bcellB hB; go_simp; (first | done | rfl)); go_frame) | (apply first_skip; (rw [List.getElem?_toArray]; (repeat rw [List.getElem?_cons_succ]); rw [List.getElem?_cons_zero]); rfl; go_frame))
  refine first_done ?_
  apply tail_step; (rw [List.getElem?_toArray]; (repeat rw [List.getElem?_cons_succ]); rw [List.getElem?_cons_zero]); rfl; rfl; intro K hK; go_simp
  refine (HC.out _).mono ?_
  rintro r w2 ⟨rfl, rfl⟩
  refine hK _ _ (fun _ => (Below.refl _ W1).drew) ?_
  clear hK K
  (apply tail_step; (rw [List.getElem?_toArray]; (repeat rw [List.getElem?_cons_succ]); rw [List.getElem?_cons_zero]); rfl; rfl; intro K hK; go_simp; refine hK _ _ (fun h => absurd (by decide) h) ?_; clear hK K)
  (apply tail_step; (rw [List.getElem?_toArray]; (repeat rw [List.getElem?_cons_succ]); rw [List.getElem?_cons_zero]); rfl; rfl; intro K hK; go_simp; refine hK _ _ (fun h => absurd (by decide) h) ?_; clear hK K)
  (apply tail_step; (rw [List.getElem?_toArray]; (repeat rw [List.getElem?_cons_succ]); rw [List.getElem?_cons_zero]); rfl; rfl; intro K hK; go_simp; refine hK _ _ (fun h => absurd (by decide) h) ?_; clear hK K)
  refine tail_done ?_
  go_wp2_with fail
  go_ret
  exact ⟨rfl, hB1.out.drew⟩
theorem numN_0 (he : (e == 0) = false) : Calls Try.prog 58 #[.agg #[.int .i64 0, .int .i64 e]] w fun r w' => r = .returned (.bool false) ∧ Below w.heap.size w w' := by
  go_enter Try.func58, Try.ntmps58
  go_wp2_with fail
  go_ret
  refine ⟨rfl, ?_⟩
  (repeat (first | with_reducible exact Below.refl _ _ | with_reducible exact hBW | with_reducible refine Below.setCell ?_ ?_ _ | with_reducible refine Below.alloc ?_ ?_ _ | with_reducible refine belowN ?_ _ | with_reducible refine Below.drew ?_)); all_goals (first | omega | (dsimp only; omega) | ((repeat (first | with_reducible refine le_alloc ?_ | with_reducible refine le_setCell ?_ | with_reducible refine le_drew ?_ | with_reducible refine le_drewN ?_)); omega))
end
theorem num_all (m e : Int) (h : I64 m) (w : World) : Calls Try.prog 58 #[.agg #[.int .i64 m, .int .i64 e]] w fun r w' => r = .returned (.bool (numR m e)) ∧ Below w.heap.size w w' := by
  by_cases hT : numR m e = true
  · rw [hT]; exact numRight_yes m e hT w
  · have hF : numR m e = false := by simpa using hT
    rw [hF]
    by_cases h0 : m = 0
    · subst h0
      refine numN_0 e w ?_
      unfold numR at hF
      simpa using hF
    · have n0 : (m == 0) = false := by simpa using h0
      unfold numR at hF
      rw [if_neg h0] at hF
      have hF' := of_decide_eq_false hF
      have HS := size_all m h
      by_cases c1 : (1000000000000000 : Int) ≤ (m.natAbs : Int)
      · exact numN_1 m e m.natAbs w n0 (by simpa using c1) HS
      by_cases c2 : m.natAbs % 10 = 0
      · exact numN_2 m e m.natAbs w n0 (by simpa using c1) (by simp; omega) HS
      by_cases c3 : e < -40
      · exact numN_3 m e m.natAbs w n0 (by simpa using c1) (by simp; omega) (by simpa using c3) HS
      by_cases c4 : 40 ≤ e
      · exact numN_4 m e m.natAbs w n0 (by simpa using c1) (by simp; omega) (by simpa using c3) (by simpa using c4) HS
      · have hd15 := nd_le 15 m.natAbs (by omega)
        refine numN_5 m e m.natAbs w (nd m.natAbs) n0 (by simpa using c1) (by simp; omega) (by simpa using c3) (by simpa using c4) hd15 ?_ HS (count_any m.natAbs (by omega) (by omega))
        simp only [decide_eq_false_iff_not]
        intro h5
        exact hF' ⟨by omega, c2, by omega, by omega, h5⟩
end Go.Proofs.Ytgbedjeiihigaaa
