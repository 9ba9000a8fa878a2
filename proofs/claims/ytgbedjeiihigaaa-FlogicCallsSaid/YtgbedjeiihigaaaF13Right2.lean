/- value.Right of numbers and of texts. -/
import Derived.Test.YtgbedjeiihigaaaF13Num2
import Derived.Test.YtgbedjeiihigaaaMultiR
namespace Go.Proofs.Ytgbedjeiihigaaa
open Go.RowKit
set_option maxHeartbeats 400000 in
theorem Of_any (m e : Int) (w : World) : Calls Try.prog 59 #[.agg #[.int .i64 m, .int .i64 e]] w fun r w' => r = .returned (.agg #[.int .i64 1, .int .i64 m, .int .i64 e, .string ⟨#[]⟩, .bool false, .int .i64 0]) ∧ Below w.heap.size w w' := by
  go_enter Try.func59, Try.ntmps59
  go_wp2
  refine bodyPost_ret (v := .agg #[.int .i64 1, .int .i64 m, .int .i64 e, .string ⟨#[]⟩, .bool false, .int .i64 0]) (by simp [results, Try.results59, go_sem]) rfl ⟨rfl, ?_⟩
  (repeat (first | with_reducible exact Below.refl _ _ | with_reducible exact hBW | with_reducible refine Below.setCell ?_ ?_ _ | with_reducible refine Below.alloc ?_ ?_ _ | with_reducible refine belowN ?_ _ | with_reducible refine Below.drew ?_)); all_goals (first | omega | (dsimp only; omega) | ((repeat (first | with_reducible refine le_alloc ?_ | with_reducible refine le_setCell ?_ | with_reducible refine le_drew ?_ | with_reducible refine le_drewN ?_)); omega))
set_option maxHeartbeats 400000 in
theorem Text_any (t : ByteArray) (h : t.size ≤ 255) (w : World) : Calls Try.prog 60 #[.string t] w fun r w' => r = .returned (.agg #[.int .i64 2, .int .i64 0, .int .i64 0, .string t, .bool false, .int .i64 0]) ∧ Below w.heap.size w w' := by
  go_enter Try.func60, Try.ntmps60
  go_wp2
  refine bodyPost_ret (v := .agg #[.int .i64 2, .int .i64 0, .int .i64 0, .string t, .bool false, .int .i64 0]) (by simp [results, Try.results60, go_sem]) rfl ⟨rfl, ?_⟩
  (repeat (first | with_reducible exact Below.refl _ _ | with_reducible exact hBW | with_reducible refine Below.setCell ?_ ?_ _ | with_reducible refine Below.alloc ?_ ?_ _ | with_reducible refine belowN ?_ _ | with_reducible refine Below.drew ?_)); all_goals (first | omega | (dsimp only; omega) | ((repeat (first | with_reducible refine le_alloc ?_ | with_reducible refine le_setCell ?_ | with_reducible refine le_drew ?_ | with_reducible refine le_drewN ?_)); omega))
theorem eq_same (v : V) (W : World) : (binOp .eql 36 (vagg v) (vagg v)).run Try.prog W = .ok (.bool true) W := by
  rw [eq_v]
  simp
set_option maxHeartbeats 1000000 in
set_option maxRecDepth 100000 in
theorem right_num (m e : Int) (h : numR m e = true) : RightOk ⟨1, m, e, ⟨#[]⟩, false, 0⟩ := fun w => by
  have EQ := eq_same ⟨1, m, e, ⟨#[]⟩, false, 0⟩
  unfold vagg at EQ ⊢
  simp only at EQ ⊢
  have HN := Lib.hid (numRight_yes m e h)
  have HEQ := Lib.hid EQ
  clear EQ h
  go_enter Try.func42, Try.ntmps42
  go_wp2_with fail
  refine abs_world ?_
  intro W1 hW1
  have hB1 : Hid (Below w.heap.size w W1) := by rw [hW1]; unfold Hid; (repeat (first | with_reducible exact Below.refl _ _ | with_reducible exact hBW | with_reducible refine Below.setCell ?_ ?_ _ | with_reducible refine Below.alloc ?_ ?_ _ | with_reducible refine belowN ?_ _ | with_reducible refine Below.drew ?_)); all_goals (first | omega | (dsimp only; omega) | ((repeat (first | with_reducible refine le_alloc ?_ | with_reducible refine le_setCell ?_ | with_reducible refine le_drew ?_ | with_reducible refine le_drewN ?_)); omega))
  have ev : W1.heap[w.heap.size]? = some (.cells #[.int .i64 1, .int .i64 m, .int .i64 e, .string ⟨#[]⟩, .bool false, .int .i64 0] 36) := by rw [hW1]; (repeat (first | (with_reducible refine heap_alloc_at ?_ _; (first | rfl | (simp; done) | omega | (simp; omega)); done) | with_reducible refine heap_alloc_old ?_ _ | with_reducible refine heap_drew_old ?_ | with_reducible refine heap_drewN_old ?_))
  have k0 := cell_of_heap ev 0
  have k1 := cell_of_heap ev 1
  have k2 := cell_of_heap ev 2
  have k3 := cell_of_heap ev 3
  have k4 := cell_of_heap ev 4
  have k5 := cell_of_heap ev 5
  have z1 := lt_of_heap ev
  clear hW1 ev
  refine wp_region_multiR [([0, 1], [2], [2, 3, 4, 5, 6, 7, 8, 9, 10]), ([3, 5, 6, 4], [7], [8, 9, 10]), ([8, 9, 10], [], [])] (by kernel_rfl) (by kernel_rfl) ?_
  refine multi_phase (Below W1.heap.size W1) (Below.refl _ _).drew ?_
  iterate 2 (first | (apply first_step; (rw [List.getElem?_toArray]; (repeat rw [List.getElem?_cons_succ]); rw [List.getElem?_cons_zero]); rfl; (intro W hB; have hc := bcellB hB; go_simp; (first | done | rfl)); go_frame) | (apply first_skip; (rw [List.getElem?_toArray]; (repeat rw [List.getElem?_cons_succ]); rw [List.getElem?_cons_zero]); rfl; go_frame))
  refine first_done ?_
  apply forced_step; (rw [List.getElem?_toArray]; (repeat rw [List.getElem?_cons_succ]); rw [List.getElem?_cons_zero]); rfl; intro K hK; go_simp
  refine (HN.out _).mono ?_
  rintro r w2 ⟨rfl, hb2⟩
  have HB2 : Hid (Below W1.heap.size W1 w2) := (Below.refl _ W1).drew.trans hb2
  refine hK _ _ (fun h => absurd (by decide) h) ?_
  clear hK K hb2
  refine forced_done ?_
  refine multi_phase (Below W1.heap.size W1) HB2.out ?_
  iterate 4 (first | (apply first_step; (rw [List.getElem?_toArray]; (repeat rw [List.getElem?_cons_succ]); rw [List.getElem?_cons_zero]); rfl; (intro W hB; have hc := bcellB hB; go_simp; (first | done | rfl)); go_frame) | (apply first_skip; (rw [List.getElem?_toArray]; (repeat rw [List.getElem?_cons_succ]); rw [List.getElem?_cons_zero]); rfl; go_frame))
  refine first_done ?_
  apply forced_step; (rw [List.getElem?_toArray]; (repeat rw [List.getElem?_cons_succ]); rw [List.getElem?_cons_zero]); rfl; intro K hK; go_simp
  refine (Of_any m e _).mono ?_
  rintro r w3 ⟨rfl, hb3⟩
  have HB3 : Hid (Below W1.heap.size W1 w3) := HB2.out.trans (hb3.mono HB2.out.size)
  refine hK _ _ (fun _ => HB3.out) ?_
  clear hK K hb3
  refine forced_done ?_
  have EQ := HEQ.out
  refine multi_phase (Below W1.heap.size W1) HB3.out ?_
  iterate 3 (first | (apply first_step; (rw [List.getElem?_toArray]; (repeat rw [List.getElem?_cons_succ]); rw [List.getElem?_cons_zero]); rfl; (intro W hB; have hc := bcellB hB; go_simp; (first | done | rfl)); go_frame) | (apply first_skip; (rw [List.getElem?_toArray]; (repeat rw [List.getElem?_cons_succ]); rw [List.getElem?_cons_zero]); rfl; go_frame))
  refine first_done ?_
  refine forced_done ?_
  refine multi_done ?_
  clear EQ k0 k1 k2 k3 k4 k5
  go_wp2_with fail
  go_ret
  exact ⟨rfl, hB1.out.trans (HB3.out.mono hB1.out.size)⟩
set_option maxHeartbeats 1000000 in
set_option maxRecDepth 100000 in
theorem right_text (t : ByteArray) (h : t.size ≤ 255) : RightOk ⟨2, 0, 0, t, false, 0⟩ := fun w => by
  have EQ := eq_same ⟨2, 0, 0, t, false, 0⟩
  unfold vagg at EQ ⊢
  simp only at EQ ⊢
  have HN := Lib.hid (Text_any t h)
  have HEQ := Lib.hid EQ
  clear EQ h
  go_enter Try.func42, Try.ntmps42
  go_wp2_with fail
  refine abs_world ?_
  intro W1 hW1
  have hB1 : Hid (Below w.heap.size w W1) := by rw [hW1]; unfold Hid; (repeat (first | with_reducible exact Below.refl _ _ | with_reducible exact hBW | with_reducible refine Below.setCell ?_ ?_ _ | with_reducible refine Below.alloc ?_ ?_ _ | with_reducible refine belowN ?_ _ | with_reducible refine Below.drew ?_)); all_goals (first | omega | (dsimp only; omega) | ((repeat (first | with_reducible refine le_alloc ?_ | with_reducible refine le_setCell ?_ | with_reducible refine le_drew ?_ | with_reducible refine le_drewN ?_)); omega))
  have ev : W1.heap[w.heap.size]? = some (.cells #[.int .i64 2, .int .i64 0, .int .i64 0, .string t, .bool false, .int .i64 0] 36) := by rw [hW1]; (repeat (first | (with_reducible refine heap_alloc_at ?_ _; (first | rfl | (simp; done) | omega | (simp; omega)); done) | with_reducible refine heap_alloc_old ?_ _ | with_reducible refine heap_drew_old ?_ | with_reducible refine heap_drewN_old ?_))
  have k0 := cell_of_heap ev 0
  have k1 := cell_of_heap ev 1
  have k2 := cell_of_heap ev 2
  have k3 := cell_of_heap ev 3
  have k4 := cell_of_heap ev 4
  have k5 := cell_of_heap ev 5
  have z1 := lt_of_heap ev
  clear hW1 ev
  refine wp_region_multiR [([1, 2, 0], [3], [4, 5]), ([4, 5], [], [])] (by kernel_rfl) (by kernel_rfl) ?_
  refine multi_phase (Below W1.heap.size W1) (Below.refl _ _).drew ?_
  iterate 3 (first | (apply first_step; (rw [List.getElem?_toArray]; (repeat rw [List.getElem?_cons_succ]); rw [List.getElem?_cons_zero]); rfl; (intro W hB; have hc := bcellB hB; go_simp; (first | done | rfl)); go_frame) | (apply first_skip; (rw [List.getElem?_toArray]; (repeat rw [List.getElem?_cons_succ]); rw [List.getElem?_cons_zero]); rfl; go_frame))
  refine first_done ?_
  apply forced_step; (rw [List.getElem?_toArray]; (repeat rw [List.getElem?_cons_succ]); rw [List.getElem?_cons_zero]); rfl; intro K hK; go_simp
  refine (HN.out _).mono ?_
  rintro r w2 ⟨rfl, hb2⟩
  have HB2 : Hid (Below W1.heap.size W1 w2) := (Below.refl _ W1).drew.trans hb2
  refine hK _ _ (fun _ => HB2.out) ?_
  clear hK K hb2
  refine forced_done ?_
  have EQ := HEQ.out
  refine multi_phase (Below W1.heap.size W1) HB2.out ?_
  iterate 2 (first | (apply first_step; (rw [List.getElem?_toArray]; (repeat rw [List.getElem?_cons_succ]); rw [List.getElem?_cons_zero]); rfl; (intro W hB; have hc := bcellB hB; go_simp; (first | done | rfl)); go_frame) | (apply first_skip; (rw [List.getElem?_toArray]; (repeat rw [List.getElem?_cons_succ]); rw [List.getElem?_cons_zero]); rfl; go_frame))
  refine first_done ?_
  refine forced_done ?_
  refine multi_done ?_
  clear EQ k0 k1 k2 k3 k4 k5
  go_wp2_with fail
  go_ret
  exact ⟨rfl, hB1.out.trans (HB2.out.mono hB1.out.size)⟩
end Go.Proofs.Ytgbedjeiihigaaa
