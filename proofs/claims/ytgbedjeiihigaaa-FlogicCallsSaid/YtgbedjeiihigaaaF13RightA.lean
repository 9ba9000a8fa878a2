/- value.Right, shape.Right: the document's answer, of whatever value and array. -/
import Derived.Test.YtgbedjeiihigaaaF13NumA
import Derived.Test.YtgbedjeiihigaaaF13R09b
namespace Go.Proofs.Ytgbedjeiihigaaa
open Go.RowKit
theorem refR_plain {v : V} (h1 : v.k ≠ 1) (h2 : v.k ≠ 2) : rightP v = refR v := by
  obtain ⟨k, m, e, t, b, f⟩ := v
  simp only at h1 h2
  unfold rightP refR
  simp only [h1, h2, if_false, decide_false, Bool.false_or]
  by_cases hm : m = 0 <;> by_cases he : e = 0 <;> by_cases ht : t = ⟨#[]⟩ <;> by_cases k0 : k = 0 <;> by_cases k3 : k = 3 <;> by_cases k4 : k = 4 <;> by_cases hf : f = 0 <;> cases b <;> simp [hm, he, ht, k0, k3, k4, hf] <;> omega
section
variable (m e : Int) (t : ByteArray) (b : Bool) (f : Int) (w : World)
set_option maxHeartbeats 1000000
set_option maxRecDepth 100000
theorem right_1no (HN : ∀ w : World, Calls Try.prog 58 #[.agg #[.int .i64 m, .int .i64 e]] w fun r w' => r = .returned (.bool false) ∧ Below w.heap.size w w') : Calls Try.prog 42 #[.agg #[.int .i64 1, .int .i64 m, .int .i64 e, .string t, .bool b, .int .i64 f]] w fun r w' => r = .returned (.bool false) ∧ Below w.heap.size w w' := by
  have HN := Lib.hid HN
  go_enter Try.func42, Try.ntmps42
  go_wp2_with fail
  refine abs_world ?_
  intro W1 hW1
  have hB1 : Hid (Below w.heap.size w W1) := by rw [hW1]; unfold Hid; (repeat (first | with_reducible exact Below.refl _ _ | with_reducible exact hBW | with_reducible refine Below.setCell ?_ ?_ _ | with_reducible refine Below.alloc ?_ ?_ _ | with_reducible refine belowN ?_ _ | with_reducible refine Below.drew ?_)); all_goals (first | omega | (dsimp only; omega) | ((repeat (first | with_reducible refine le_alloc ?_ | with_reducible refine le_setCell ?_ | with_reducible refine le_drew ?_ | with_reducible refine le_drewN ?_)); omega))
  have ev : W1.heap[w.heap.size]? = some (.cells #[.int .i64 1, .int .i64 m, .int .i64 e, .string t, .bool b, .int .i64 f] 36) := by rw [hW1]; (repeat (first | (with_reducible refine heap_alloc_at ?_ _; (first | rfl | (simp; done) | omega | (simp; omega)); done) | with_reducible refine heap_alloc_old ?_ _ | with_reducible refine heap_drew_old ?_ | with_reducible refine heap_drewN_old ?_))
  have k0 := cell_of_heap ev 0
  have k1 := cell_of_heap ev 1
  have k2 := cell_of_heap ev 2
  have k3 := cell_of_heap ev 3
  have k4 := cell_of_heap ev 4
  have k5 := cell_of_heap ev 5
  have z1 := lt_of_heap ev
  clear hW1 ev
  refine wp_region_multiR [([0, 1], [2], [2, 3, 4, 5, 6, 7, 8, 9, 10]), ([3, 5, 6, 4], [7], [8, 9, 10]), ([8, 9, 10], [], [])] (by kernel_rfl) (by kernel_rfl) ?_
  refine multi_phase (Below W1.heap.size W1) (Below.refl _ _).drew ?_
  iterate 2 (first | (apply first_step; (rw [List.getElem?_toArray]; (repeat rw [List.getElem?_cons_succ]); rw [List.getElem?_cons_zero]); rfl; (intro W hB; have hc := bcellB hB; go_simp; (first | done | rfl)); go_frame) | (apply first_skip; (rw [List.getElem?_toArray]; (repeat rw [List.getElem?_cons_succ]); rw [List.getElem?_cons_zero]); rfl; go_frame))
  refine first_done ?_
  apply forced_step; (rw [List.getElem?_toArray]; (repeat rw [List.getElem?_cons_succ]); rw [List.getElem?_cons_zero]); rfl; intro K hK; go_simp
  refine (HN.out _).mono ?_
  rintro r w2 ⟨rfl, hb2⟩
  have HB2 : Hid (Below W1.heap.size W1 w2) := (Below.refl _ W1).drew.trans hb2
  refine hK _ _ (fun h => absurd (by decide) h) ?_
  clear hK K hb2
  refine forced_done ?_
  refine multi_phase (Below W1.heap.size W1) HB2.out ?_
  iterate 4 (first | (apply first_step; (rw [List.getElem?_toArray]; (repeat rw [List.getElem?_cons_succ]); rw [List.getElem?_cons_zero]); rfl; (intro W hB; have hc := bcellB hB; go_simp; (first | done | rfl)); go_frame) | (apply first_skip; (rw [List.getElem?_toArray]; (repeat rw [List.getElem?_cons_succ]); rw [List.getElem?_cons_zero]); rfl; go_frame))
  refine first_done ?_
  apply forced_skip; (rw [List.getElem?_toArray]; (repeat rw [List.getElem?_cons_succ]); rw [List.getElem?_cons_zero]); rfl
  · exact fun _ => HB2.out
  refine forced_done ?_
  refine multi_phase (Below W1.heap.size W1) HB2.out ?_
  iterate 3 (first | (apply first_step; (rw [List.getElem?_toArray]; (repeat rw [List.getElem?_cons_succ]); rw [List.getElem?_cons_zero]); rfl; (intro W hB; have hc := bcellB hB; go_simp; (first | done | rfl)); go_frame) | (apply first_skip; (rw [List.getElem?_toArray]; (repeat rw [List.getElem?_cons_succ]); rw [List.getElem?_cons_zero]); rfl; go_frame))
  refine first_done ?_
  refine forced_done ?_
  refine multi_done ?_
  clear k0 k1 k2 k3 k4 k5
  go_wp2_with fail
  go_ret
  exact ⟨rfl, hB1.out.trans (HB2.out.mono hB1.out.size)⟩
theorem right_1eq (R : Bool) (HN : ∀ w : World, Calls Try.prog 58 #[.agg #[.int .i64 m, .int .i64 e]] w fun r w' => r = .returned (.bool true) ∧ Below w.heap.size w w')
    (HEQ : ∀ W, (binOp .eql 36 (.agg #[.int .i64 1, .int .i64 m, .int .i64 e, .string t, .bool b, .int .i64 f]) (.agg #[.int .i64 1, .int .i64 m, .int .i64 e, .string ⟨#[]⟩, .bool false, .int .i64 0])).run Try.prog W = .ok (.bool R) W) :
    Calls Try.prog 42 #[.agg #[.int .i64 1, .int .i64 m, .int .i64 e, .string t, .bool b, .int .i64 f]] w fun r w' => r = .returned (.bool R) ∧ Below w.heap.size w w' := by
  have HN := Lib.hid HN
  have HEQ := Lib.hid HEQ
  go_enter Try.func42, Try.ntmps42
  go_wp2_with fail
  refine abs_world ?_
  intro W1 hW1
  have hB1 : Hid (Below w.heap.size w W1) := by rw [hW1]; unfold Hid; (repeat (first | with_reducible exact Below.refl _ _ | with_reducible exact hBW | with_reducible refine Below.setCell ?_ ?_ _ | with_reducible refine Below.alloc ?_ ?_ _ | with_reducible refine belowN ?_ _ | with_reducible refine Below.drew ?_)); all_goals (first | omega | (dsimp only; omega) | ((repeat (first | with_reducible refine le_alloc ?_ | with_reducible refine le_setCell ?_ | with_reducible refine le_drew ?_ | with_reducible refine le_drewN ?_)); omega))
  have ev : W1.heap[w.heap.size]? = some (.cells #[.int .i64 1, .int .i64 m, .int .i64 e, .string t, .bool b, .int .i64 f] 36) := by rw [hW1]; (repeat (first | (with_reducible refine heap_alloc_at ?_ _; (first | rfl | (simp; done) | omega | (simp; omega)); done) | with_reducible refine heap_alloc_old ?_ _ | with_reducible refine heap_drew_old ?_ | with_reducible refine heap_drewN_old ?_))
  have k0 := cell_of_heap ev 0
  have k1 := cell_of_heap ev 1
  have k2 := cell_of_heap ev 2
  have k3 := cell_of_heap ev 3
  have k4 := cell_of_heap ev 4
  have k5 := cell_of_heap ev 5
  have z1 := lt_of_heap ev
  clear hW1 ev
  refine wp_region_multiR [([0, 1], [2], [2, 3, 4, 5, 6, 7, 8, 9, 10]), ([3, 5, 6, 4], [7], [8, 9, 10]), ([8, 9, 10], [], [])] (by kernel_rfl) (by kernel_rfl) ?_
  refine multi_phase (Below W1.heap.size W1) (Below.refl _ _).drew ?_
  iterate 2 (first | (apply first_step; (rw [List.getElem?_toArray]; (repeat rw [List.getElem?_cons_succ]); rw [List.getElem?_cons_zero]); rfl; (intro W hB; have hc := bcellB hB; go_simp; (first | done | rfl)); go_frame) | (apply first_skip; (rw [List.getElem?_toArray]; (repeat rw [List.getElem?_cons_succ]); rw [List.getElem?_cons_zero]); rfl; go_frame))
  refine first_done ?_
  apply forced_step; (rw [List.getElem?_toArray]; (repeat rw [List.getElem?_cons_succ]); rw [List.getElem?_cons_zero]); rfl; intro K hK; go_simp
  refine (HN.out _).mono ?_
  rintro r w2 ⟨rfl, hb2⟩
  have HB2 : Hid (Below W1.heap.size W1 w2) := (Below.refl _ W1).drew.trans hb2
  refine hK _ _ (fun h => absurd (by decide) h) ?_
  clear hK K hb2
  refine forced_done ?_
  refine multi_phase (Below W1.heap.size W1) HB2.out ?_
  iterate 4 (first | (apply first_step; (rw [List.getElem?_toArray]; (repeat rw [List.getElem?_cons_succ]); rw [List.getElem?_cons_zero]); rfl; (intro W hB; have hc := bcellB hB; go_simp; (first | done | rfl)); go_frame) | (apply first_skip; (rw [List.getElem?_toArray]; (repeat rw [List.getElem?_cons_succ]); rw [List.getElem?_cons_zero]); rfl; go_frame))
  refine first_done ?_
  apply forced_step; (rw [List.getElem?_toArray]; (repeat rw [List.getElem?_cons_succ]); rw [List.getElem?_cons_zero]); rfl; intro K hK; go_simp
  refine (Of_any m e _).mono ?_
  rintro r w3 ⟨rfl, hb3⟩
  have HB3 : Hid (Below W1.heap.size W1 w3) := HB2.out.trans (hb3.mono HB2.out.size)
  refine hK _ _ (fun _ => HB3.out) ?_
  clear hK K hb3
  refine forced_done ?_
  have EQ := HEQ.out
  refine multi_phase (Below W1.heap.size W1) HB3.out ?_
  iterate 3 (first | (apply first_step; (rw [List.getElem?_toArray]; (repeat rw [List.getElem?_cons_succ]); rw [List.getElem?_cons_zero]); rfl; (intro W hB; have hc := bcellB hB; go_simp; (first | done | rfl)); go_frame) | (apply first_skip; (rw [List.getElem?_toArray]; (repeat rw [List.getElem?_cons_succ]); rw [List.getElem?_cons_zero]); rfl; go_frame))
  refine first_done ?_
  refine forced_done ?_
  refine multi_done ?_
  clear EQ k0 k1 k2 k3 k4 k5
  go_wp2_with fail
  go_ret
  exact ⟨rfl, hB1.out.trans (HB3.out.mono hB1.out.size)⟩
theorem Text_long (h : 255 < t.size) : Calls Try.prog 60 #[.string t] w fun r w' => r = .returned (.agg #[.int .i64 4, .int .i64 0, .int .i64 0, .string ⟨#[]⟩, .bool false, .int .i64 2]) ∧ Below w.heap.size w w' := by
  have HB := Lib.hid (bad_any 2)
  go_enter Try.func60, Try.ntmps60
  go_wp2_with fail
  refine (HB.out _).mono ?_
  rintro r w1 ⟨rfl, hb⟩
  have hs1 : w.heap.size + 1 ≤ w1.heap.size := by have := hb.size; simpa using this
  have g0 : w1.heap[w.heap.size]? = some (.cells #[.int .i64 0, .int .i64 0, .int .i64 0, .string ⟨#[]⟩, .bool false, .int .i64 0] 36) := (hb.block _ (by simp)).trans (by (repeat (first | (with_reducible refine heap_alloc_at ?_ _; (first | rfl | (simp; done) | omega | (simp; omega)); done) | with_reducible refine heap_alloc_old ?_ _ | with_reducible refine heap_drew_old ?_ | with_reducible refine heap_drewN_old ?_)))
  have hBW : Below w.heap.size w w1 := by
    refine Below.trans ?_ (hb.mono (by simp))
    (repeat (first | with_reducible exact Below.refl _ _ | with_reducible exact hBW | with_reducible refine Below.setCell ?_ ?_ _ | with_reducible refine Below.alloc ?_ ?_ _ | with_reducible refine belowN ?_ _ | with_reducible refine Below.drew ?_)); all_goals (first | omega | (dsimp only; omega) | ((repeat (first | with_reducible refine le_alloc ?_ | with_reducible refine le_setCell ?_ | with_reducible refine le_drew ?_ | with_reducible refine le_drewN ?_)); omega))
  have x0 := cell_of_heap g0
  have y0 := frozen_of_heap g0
  clear hb g0
  unfold vagg vBad
  go_wp2_with fail
  refine bodyPost_ret (v := .agg #[.int .i64 4, .int .i64 0, .int .i64 0, .string ⟨#[]⟩, .bool false, .int .i64 2]) (by simp [results, Try.results60, go_sem, x0]) rfl ⟨rfl, ?_⟩
  (repeat (first | with_reducible exact Below.refl _ _ | with_reducible exact hBW | with_reducible refine Below.setCell ?_ ?_ _ | with_reducible refine Below.alloc ?_ ?_ _ | with_reducible refine belowN ?_ _ | with_reducible refine Below.drew ?_)); all_goals (first | omega | (dsimp only; omega) | ((repeat (first | with_reducible refine le_alloc ?_ | with_reducible refine le_setCell ?_ | with_reducible refine le_drew ?_ | with_reducible refine le_drewN ?_)); omega))
theorem right_2eq (R : Bool) (u : V) (HN : ∀ w : World, Calls Try.prog 60 #[.string t] w fun r w' => r = .returned (vagg u) ∧ Below w.heap.size w w')
    (HEQ : ∀ W, (binOp .eql 36 (vagg ⟨2, m, e, t, b, f⟩) (vagg u)).run Try.prog W = .ok (.bool R) W) :
    Calls Try.prog 42 #[.agg #[.int .i64 2, .int .i64 m, .int .i64 e, .string t, .bool b, .int .i64 f]] w fun r w' => r = .returned (.bool R) ∧ Below w.heap.size w w' := by
  unfold vagg at HN HEQ
  have HN := Lib.hid HN
  have HEQ := Lib.hid HEQ
  go_enter Try.func42, Try.ntmps42
  go_wp2_with fail
  refine abs_world ?_
  intro W1 hW1
  have hB1 : Hid (Below w.heap.size w W1) := by rw [hW1]; unfold Hid; (repeat (first | with_reducible exact Below.refl _ _ | with_reducible exact hBW | with_reducible refine Below.setCell ?_ ?_ _ | with_reducible refine Below.alloc ?_ ?_ _ | with_reducible refine belowN ?_ _ | with_reducible refine Below.drew ?_)); all_goals (first | omega | (dsimp only; omega) | ((repeat (first | with_reducible refine le_alloc ?_ | with_reducible refine le_setCell ?_ | with_reducible refine le_drew ?_ | with_reducible refine le_drewN ?_)); omega))
  have ev : W1.heap[w.heap.size]? = some (.cells #[.int .i64 2, .int .i64 m, .int .i64 e, .string t, .bool b, .int .i64 f] 36) := by rw [hW1]; (repeat (first | (with_reducible refine heap_alloc_at ?_ _; (first | rfl | (simp; done) | omega | (simp; omega)); done) | with_reducible refine heap_alloc_old ?_ _ | with_reducible refine heap_drew_old ?_ | with_reducible refine heap_drewN_old ?_))
  have k0 := cell_of_heap ev 0
  have k1 := cell_of_heap ev 1
  have k2 := cell_of_heap ev 2
  have k3 := cell_of_heap ev 3
  have k4 := cell_of_heap ev 4
  have k5 := cell_of_heap ev 5
  have z1 := lt_of_heap ev
  clear hW1 ev
  refine wp_region_multiR [([1, 2, 0], [3], [4, 5]), ([4, 5], [], [])] (by kernel_rfl) (by kernel_rfl) ?_
  refine multi_phase (Below W1.heap.size W1) (Below.refl _ _).drew ?_
  iterate 3 (first | (apply first_step; (rw [List.getElem?_toArray]; (repeat rw [List.getElem?_cons_succ]); rw [List.getElem?_cons_zero]); rfl; (intro W hB; have hc := bcellB hB; go_simp; (first | done | rfl)); go_frame) | (apply first_skip; (rw [List.getElem?_toArray]; (repeat rw [List.getElem?_cons_succ]); rw [List.getElem?_cons_zero]); rfl; go_frame))
  refine first_done ?_
  apply forced_step; (rw [List.getElem?_toArray]; (repeat rw [List.getElem?_cons_succ]); rw [List.getElem?_cons_zero]); rfl; intro K hK; go_simp
  refine (HN.out _).mono ?_
  rintro r w2 ⟨rfl, hb2⟩
  have HB2 : Hid (Below W1.heap.size W1 w2) := (Below.refl _ W1).drew.trans hb2
  refine hK _ _ (fun _ => HB2.out) ?_
  clear hK K hb2
  refine forced_done ?_
  have EQ := HEQ.out
  refine multi_phase (Below W1.heap.size W1) HB2.out ?_
  iterate 2 (first | (apply first_step; (rw [List.getElem?_toArray]; (repeat rw [List.getElem?_cons_succ]); rw [List.getElem?_cons_zero]); rfl; (intro W hB; have hc := bcellB hB; go_simp; (first | done | rfl)); go_frame) | (apply first_skip; (rw [List.getElem?_toArray]; (repeat rw [List.getElem?_cons_succ]); rw [List.getElem?_cons_zero]); rfl; go_frame))
  refine first_done ?_
  refine forced_done ?_
  refine multi_done ?_
  clear EQ k0 k1 k2 k3 k4 k5
  go_wp2_with fail
  go_ret
  exact ⟨rfl, hB1.out.trans (HB2.out.mono hB1.out.size)⟩
end
theorem right_all (v : V) (h : I64 v.m) (w : World) : Calls Try.prog 42 #[vagg v] w fun r w' => r = .returned (.bool (refR v)) ∧ Below w.heap.size w w' := by
  by_cases k1 : v.k = 1
  · obtain ⟨k, m, e, t, b, f⟩ := v
    simp only at k1 h
    subst k1
    cases hn : numR m e with
    | false =>
      have hr : refR ⟨1, m, e, t, b, f⟩ = false := by unfold refR; simp [hn]
      rw [hr]
      exact right_1no m e t b f w (fun w => by have := num_all m e h w; rw [hn] at this; exact this)
    | true =>
      refine right_1eq m e t b f w (refR ⟨1, m, e, t, b, f⟩) (fun w => by have := num_all m e h w; rw [hn] at this; exact this) (fun W => ?_)
      have := eq_v W ⟨1, m, e, t, b, f⟩ ⟨1, m, e, ⟨#[]⟩, false, 0⟩
      unfold vagg at this
      rw [this]
      have hr : refR ⟨1, m, e, t, b, f⟩ = decide ((1 : Int) = 1 ∧ m = m ∧ e = e ∧ t = ⟨#[]⟩ ∧ b = false ∧ f = 0) := by
        unfold refR
        cases b <;> simp [hn]
      rw [hr]
  · by_cases k2 : v.k = 2
    · obtain ⟨k, m, e, t, b, f⟩ := v
      simp only at k1 k2 h
      subst k2
      by_cases ht : t.size ≤ 255
      · refine right_2eq m e t b f w (refR ⟨2, m, e, t, b, f⟩) ⟨2, 0, 0, t, false, 0⟩ (Text_any t ht) (fun W => ?_)
        rw [eq_v]
        have hr : refR ⟨2, m, e, t, b, f⟩ = decide ((2 : Int) = 2 ∧ m = 0 ∧ e = 0 ∧ t = t ∧ b = false ∧ f = 0) := by
          unfold refR
          by_cases hm : m = 0 <;> by_cases he : e = 0 <;> cases b <;> simp [ht, hm, he]
        rw [hr]
      · refine right_2eq m e t b f w (refR ⟨2, m, e, t, b, f⟩) ⟨4, 0, 0, ⟨#[]⟩, false, 2⟩ (fun w => Text_long t w (by omega)) (fun W => ?_)
        rw [eq_v]
        have hr : refR ⟨2, m, e, t, b, f⟩ = false := by
          unfold refR
          simp [ht]
        rw [hr]
        simp
    · rw [← refR_plain k1 k2]
      exact right_plain v k1 k2 w
end Go.Proofs.Ytgbedjeiihigaaa
