/- When a number may be: the document's answer; a value's answer. -/
import Derived.Test.YtgbedjeiihigaaaF13Num
namespace Go.Proofs.Ytgbedjeiihigaaa
open Go.RowKit
set_option maxHeartbeats 1000000 in
set_option maxRecDepth 100000 in
theorem of_any (m e : Int) (h : Small m) (w : World) : Calls Try.prog 43 #[.agg #[.int .i64 m, .int .i64 e]] w fun r w' => (∃ b a cap, r = .returned (.agg #[.bool b, .slice a (nd m.natAbs) cap, .int .i64 e])) ∧ Below w.heap.size w w' := by
  have HD := Lib.hid (digits_any m h)
  clear h
  generalize nd m.natAbs = N at HD ⊢
  go_enter Try.func43, Try.ntmps43
  go_wp2_with fail
  refine abs_world ?_
  intro W1 hW1
  have hB1 : Hid (Below w.heap.size w W1) := by rw [hW1]; unfold Hid; (repeat (first | with_reducible exact Below.refl _ _ | with_reducible exact hBW | with_reducible refine Below.setCell ?_ ?_ _ | with_reducible refine Below.alloc ?_ ?_ _ | with_reducible refine belowN ?_ _ | with_reducible refine Below.drew ?_)); all_goals (first | omega | (dsimp only; omega) | ((repeat (first | with_reducible refine le_alloc ?_ | with_reducible refine le_setCell ?_ | with_reducible refine le_drew ?_ | with_reducible refine le_drewN ?_)); omega))
  have ev : W1.heap[w.heap.size]? = some (.cells #[.int .i64 m, .int .i64 e] 34) := by rw [hW1]; (repeat (first | (with_reducible refine heap_alloc_at ?_ _; (first | rfl | (simp; done) | omega | (simp; omega)); done) | with_reducible refine heap_alloc_old ?_ _ | with_reducible refine heap_drew_old ?_ | with_reducible refine heap_drewN_old ?_))
  have er : W1.heap[w.heap.size + 1]? = some (.cells #[.bool false, .slice none 0 0, .int .i64 0] 70) := by rw [hW1]; (repeat (first | (with_reducible refine heap_alloc_at ?_ _; (first | rfl | (simp; done) | omega | (simp; omega)); done) | with_reducible refine heap_alloc_old ?_ _ | with_reducible refine heap_drew_old ?_ | with_reducible refine heap_drewN_old ?_))
  have k0 := cell_of_heap ev 0
  have k1 := cell_of_heap ev 1
  have z1 := lt_of_heap ev
  have ER := Lib.hid er
  clear hW1 ev er
  refine wp_region_mix [0, 1, 2, 3, 4, 6, 7] [5, 8, 9] [8, 9] (Below W1.heap.size W1) (by kernel_rfl) (by kernel_rfl) (Below.refl _ _).drew ?_
  iterate 7 (first | (apply first_step; (rw [List.getElem?_toArray]; (repeat rw [List.getElem?_cons_succ]); rw [List.getElem?_cons_zero]); rfl; (intro W hB; have hc := bcellB hB; go_simp; (first | done | rfl)); go_frame) | (apply first_skip; (rw [List.getElem?_toArray]; (repeat rw [List.getElem?_cons_succ]); rw [List.getElem?_cons_zero]); rfl; go_frame))
  refine first_done ?_
  apply tail_step; (rw [List.getElem?_toArray]; (repeat rw [List.getElem?_cons_succ]); rw [List.getElem?_cons_zero]); rfl; rfl; intro K hK; go_simp
  refine (HD.out _).mono ?_
  rintro r w2 ⟨⟨a, cap, rfl⟩, hb2⟩
  have hb2' : Below W1.heap.size W1 w2 := (Below.refl _ W1).drew.trans hb2
  refine hK _ _ (fun _ => hb2') ?_
  clear hK K
  have er2 := (hb2'.block _ (lt_of_heap ER.out)).trans ER.out
  have x2 := cell_of_heap er2
  have y2 := frozen_of_heap er2
  have z2 := lt_of_heap er2
  have HB2 := Lib.hid (hB1.out.trans (hb2'.mono hB1.out.size))
  clear hb2 hb2' er2 k0 k1
  (apply tail_step; (rw [List.getElem?_toArray]; (repeat rw [List.getElem?_cons_succ]); rw [List.getElem?_cons_zero]); rfl; rfl; intro K hK; go_simp; refine hK _ _ (fun h => absurd (by decide) h) ?_; clear hK K)
  (apply tail_step; (rw [List.getElem?_toArray]; (repeat rw [List.getElem?_cons_succ]); rw [List.getElem?_cons_zero]); rfl; rfl; intro K hK; go_simp; refine hK _ _ (fun h => absurd (by decide) h) ?_; clear hK K)
  refine tail_done ?_
  go_wp2_with fail
  have hBW := HB2.out
  refine bodyPost_ret (v := .agg #[.bool (decide (m < 0)), .slice a N cap, .int .i64 e]) (by simp [results, Try.results43, go_sem, x2]) rfl ⟨⟨_, _, _, rfl⟩, ?_⟩
  (repeat (first | with_reducible exact Below.refl _ _ | with_reducible exact hBW | with_reducible refine Below.setCell ?_ ?_ _ | with_reducible refine Below.alloc ?_ ?_ _ | with_reducible refine belowN ?_ _ | with_reducible refine Below.drew ?_)); all_goals (first | omega | (dsimp only; omega) | ((repeat (first | with_reducible refine le_alloc ?_ | with_reducible refine le_setCell ?_ | with_reducible refine le_drew ?_ | with_reducible refine le_drewN ?_)); omega))
theorem numR_no {m e : Int} (h0 : m ≠ 0) (h : ¬ (m.natAbs < 1000000000000000 ∧ m.natAbs % 10 ≠ 0 ∧ -40 ≤ e ∧ e ≤ 40 ∧ (nd m.natAbs : Int) + e ≤ 40)) : numR m e = false := by
  unfold numR
  rw [if_neg h0]
  exact decide_eq_false h
theorem numR_at {m e : Int} (h0 : m ≠ 0) (h1 : m.natAbs < 1000000000000000) (h2 : m.natAbs % 10 ≠ 0) (h3 : -40 ≤ e) (h4 : e ≤ 40) : numR m e = decide ((nd m.natAbs : Int) + e ≤ 40) := by
  unfold numR
  rw [if_neg h0]
  apply decide_eq_decide.2
  exact ⟨fun h => h.2.2.2.2, fun h => ⟨h1, h2, h3, h4, h⟩⟩
theorem tmod10 (m : Int) : m.tmod 10 = 0 ↔ m.natAbs % 10 = 0 := by
  rw [← Int.natAbs_eq_zero, Int.natAbs_tmod]
  rfl
set_option maxHeartbeats 1000000 in
set_option maxRecDepth 100000 in
theorem refNum_any (m e : Int) (w : World) : Calls Try.prog 23 #[.agg #[.int .i64 m, .int .i64 e]] w fun r w' => r = .returned (.bool (numR m e)) ∧ Below w.heap.size w w' := by
  by_cases h0 : m = 0
  · subst h0
    have hr : numR 0 e = (e == 0) := by unfold numR; rw [if_pos rfl]; by_cases h : e = 0 <;> simp [h]
    rw [hr]
    clear hr
    go_enter Try.func23, Try.ntmps23
    go_wp2_with fail
    go_ret
    refine ⟨rfl, ?_⟩
    (repeat (first | with_reducible exact Below.refl _ _ | with_reducible exact hBW | with_reducible refine Below.setCell ?_ ?_ _ | with_reducible refine Below.alloc ?_ ?_ _ | with_reducible refine belowN ?_ _ | with_reducible refine Below.drew ?_)); all_goals (first | omega | (dsimp only; omega) | ((repeat (first | with_reducible refine le_alloc ?_ | with_reducible refine le_setCell ?_ | with_reducible refine le_drew ?_ | with_reducible refine le_drewN ?_)); omega))
  · have n0 : (m == 0) = false := by simpa using h0
    by_cases h1 : 1000000000000000 ≤ m
    · rw [numR_no h0 (by omega)]
      have t1 : decide (1000000000000000 ≤ m) = true := by simpa using h1
      clear h1
      go_enter Try.func23, Try.ntmps23
      go_wp2_with fail
      go_ret
      refine ⟨rfl, ?_⟩
      (repeat (first | with_reducible exact Below.refl _ _ | with_reducible exact hBW | with_reducible refine Below.setCell ?_ ?_ _ | with_reducible refine Below.alloc ?_ ?_ _ | with_reducible refine belowN ?_ _ | with_reducible refine Below.drew ?_)); all_goals (first | omega | (dsimp only; omega) | ((repeat (first | with_reducible refine le_alloc ?_ | with_reducible refine le_setCell ?_ | with_reducible refine le_drew ?_ | with_reducible refine le_drewN ?_)); omega))
    · have t1 : decide (1000000000000000 ≤ m) = false := by simpa using h1
      by_cases h2 : m ≤ -1000000000000000
      · rw [numR_no h0 (by omega)]
        have t2 : decide (m ≤ -1000000000000000) = true := by simpa using h2
        clear h1 h2
        go_enter Try.func23, Try.ntmps23
        go_wp2_with fail
        go_ret
        refine ⟨rfl, ?_⟩
        (repeat (first | with_reducible exact Below.refl _ _ | with_reducible exact hBW | with_reducible refine Below.setCell ?_ ?_ _ | with_reducible refine Below.alloc ?_ ?_ _ | with_reducible refine belowN ?_ _ | with_reducible refine Below.drew ?_)); all_goals (first | omega | (dsimp only; omega) | ((repeat (first | with_reducible refine le_alloc ?_ | with_reducible refine le_setCell ?_ | with_reducible refine le_drew ?_ | with_reducible refine le_drewN ?_)); omega))
      · have t2 : decide (m ≤ -1000000000000000) = false := by simpa using h2
        have hs : Small m := by unfold Small; omega
        by_cases h3 : m.tmod 10 = 0
        · rw [numR_no h0 (fun h => h.2.1 ((tmod10 m).1 h3))]
          clear h1 h2
          go_enter Try.func23, Try.ntmps23
          go_wp2_with fail
          go_ret
          refine ⟨rfl, ?_⟩
          (repeat (first | with_reducible exact Below.refl _ _ | with_reducible exact hBW | with_reducible refine Below.setCell ?_ ?_ _ | with_reducible refine Below.alloc ?_ ?_ _ | with_reducible refine belowN ?_ _ | with_reducible refine Below.drew ?_)); all_goals (first | omega | (dsimp only; omega) | ((repeat (first | with_reducible refine le_alloc ?_ | with_reducible refine le_setCell ?_ | with_reducible refine le_drew ?_ | with_reducible refine le_drewN ?_)); omega))
        · have h3' : m.natAbs % 10 ≠ 0 := fun h => h3 ((tmod10 m).2 h)
          have t3 : (m.tmod 10 == 0) = false := by simpa using h3
          by_cases h4 : e < -40
          · rw [numR_no h0 (by omega)]
            clear h1 h2 h3
            go_enter Try.func23, Try.ntmps23
            go_wp2_with fail
            go_ret
            refine ⟨rfl, ?_⟩
            (repeat (first | with_reducible exact Below.refl _ _ | with_reducible exact hBW | with_reducible refine Below.setCell ?_ ?_ _ | with_reducible refine Below.alloc ?_ ?_ _ | with_reducible refine belowN ?_ _ | with_reducible refine Below.drew ?_)); all_goals (first | omega | (dsimp only; omega) | ((repeat (first | with_reducible refine le_alloc ?_ | with_reducible refine le_setCell ?_ | with_reducible refine le_drew ?_ | with_reducible refine le_drewN ?_)); omega))
          · by_cases h5 : 40 < e
            · rw [numR_no h0 (by omega)]
              clear h1 h2 h3
              go_enter Try.func23, Try.ntmps23
              go_wp2_with fail
              go_ret
              refine ⟨rfl, ?_⟩
              (repeat (first | with_reducible exact Below.refl _ _ | with_reducible exact hBW | with_reducible refine Below.setCell ?_ ?_ _ | with_reducible refine Below.alloc ?_ ?_ _ | with_reducible refine belowN ?_ _ | with_reducible refine Below.drew ?_)); all_goals (first | omega | (dsimp only; omega) | ((repeat (first | with_reducible refine le_alloc ?_ | with_reducible refine le_setCell ?_ | with_reducible refine le_drew ?_ | with_reducible refine le_drewN ?_)); omega))
            · rw [numR_at h0 (by omega) h3' (by omega) (by omega)]
              have HO := Lib.hid (of_any m e hs)
              have hd15 := nd_le 15 m.natAbs (by unfold Small at hs; omega)
              generalize nd m.natAbs = D at HO hd15 ⊢
              clear h1 h2 h3 h3' hs
              go_enter Try.func23, Try.ntmps23
              go_wp2_with fail
              refine abs_world ?_
              intro W1 hW1
              have hB1 : Hid (Below w.heap.size w W1) := by rw [hW1]; unfold Hid; (repeat (first | with_reducible exact Below.refl _ _ | with_reducible exact hBW | with_reducible refine Below.setCell ?_ ?_ _ | with_reducible refine Below.alloc ?_ ?_ _ | with_reducible refine belowN ?_ _ | with_reducible refine Below.drew ?_)); all_goals (first | omega | (dsimp only; omega) | ((repeat (first | with_reducible refine le_alloc ?_ | with_reducible refine le_setCell ?_ | with_reducible refine le_drew ?_ | with_reducible refine le_drewN ?_)); omega))
              have ev : W1.heap[w.heap.size]? = some (.cells #[.int .i64 m, .int .i64 e] 34) := by rw [hW1]; (repeat (first | (with_reducible refine heap_alloc_at ?_ _; (first | rfl | (simp; done) | omega | (simp; omega)); done) | with_reducible refine heap_alloc_old ?_ _ | with_reducible refine heap_drew_old ?_ | with_reducible refine heap_drewN_old ?_))
              have k0 := cell_of_heap ev 0
              have k1 := cell_of_heap ev 1
              have z1 := lt_of_heap ev
              have wd : IntKind.i64.wrap ((D : Int) + e) = (D : Int) + e := IntWalk.i64_in _ (by omega)
              clear hW1 ev n0 t1 t2 t3
              refine wp_region_mix [0, 4, 5] [1, 2, 3, 6, 7, 8] [6, 7, 8] (Below W1.heap.size W1) (by kernel_rfl) (by kernel_rfl) (Below.refl _ _).drew ?_
              iterate 3 (first | (apply first_step; (rw [List.getElem?_toArray]; (repeat rw [List.getElem?_cons_succ]); rw [List.getElem?_cons_zero]); rfl; (intro W hB; have hc := bcellB hB; go_simp; (first | done | rfl)); go_frame) | (apply first_skip; (rw [List.getElem?_toArray]; (repeat rw [List.getElem?_cons_succ]); rw [List.getElem?_cons_zero]); rfl; go_frame))
              refine first_done ?_
              apply tail_step; (rw [List.getElem?_toArray]; (repeat rw [List.getElem?_cons_succ]); rw [List.getElem?_cons_zero]); rfl; rfl; intro K hK; go_simp
              refine (HO.out _).mono ?_
              rintro r w2 ⟨⟨b, a, cap, rfl⟩, hb2⟩
              have hb2' : Below W1.heap.size W1 w2 := (Below.refl _ W1).drew.trans hb2
              refine hK _ _ (fun _ => hb2') ?_
              clear hK K
              have HB2 := Lib.hid hb2'
              clear hb2 hb2' k0 k1
              apply tail_step; (rw [List.getElem?_toArray]; (repeat rw [List.getElem?_cons_succ]); rw [List.getElem?_cons_zero]); rfl; rfl; intro K hK; go_simp; refine hK _ _ (fun _ => HB2.out) ?_; clear hK K
              apply tail_step; (rw [List.getElem?_toArray]; (repeat rw [List.getElem?_cons_succ]); rw [List.getElem?_cons_zero]); rfl; rfl; intro K hK; go_simp; refine hK _ _ (fun _ => HB2.out) ?_; clear hK K
              (apply tail_step; (rw [List.getElem?_toArray]; (repeat rw [List.getElem?_cons_succ]); rw [List.getElem?_cons_zero]); rfl; rfl; intro K hK; go_simp; refine hK _ _ (fun h => absurd (by decide) h) ?_; clear hK K)
              (apply tail_step; (rw [List.getElem?_toArray]; (repeat rw [List.getElem?_cons_succ]); rw [List.getElem?_cons_zero]); rfl; rfl; intro K hK; go_simp; refine hK _ _ (fun h => absurd (by decide) h) ?_; clear hK K)
              (apply tail_step; (rw [List.getElem?_toArray]; (repeat rw [List.getElem?_cons_succ]); rw [List.getElem?_cons_zero]); rfl; rfl; intro K hK; go_simp; refine hK _ _ (fun h => absurd (by decide) h) ?_; clear hK K)
              refine tail_done ?_
              go_wp2_with fail
              go_ret
              exact ⟨rfl, hB1.out.trans (HB2.out.mono hB1.out.size)⟩
end Go.Proofs.Ytgbedjeiihigaaa
