/- DotOrder: for every three ids. (Printed by tools/gen34.py.) -/
import Derived.Test.YtebifjjghogboaaD34Open
namespace Go.Proofs.Ytebifjjghogboaa
open Go.RowKit Go.Shelf Go.Maps
set_option maxHeartbeats 4000000 in
set_option maxRecDepth 100000 in
theorem order_lt (a1 a2 b1 b2 c1 c2 : Int) (w : World) (AB : Hid (befB (a1, a2) (b1, b2) = true)) (BA : Hid (befB (b1, b2) (a1, a2) = false)) (AA : Hid (befB (a1, a2) (a1, a2) = false)) (NE : Hid (decide ((a1, a2) = (b1, b2)) = false)) (TR : Hid (befB (a1, a2) (b1, b2) = true → befB (b1, b2) (c1, c2) = true → befB (a1, a2) (c1, c2) = true)) :
    Calls Try.prog 5 #[.agg #[.int .i64 a1, .int .i64 a2], .agg #[.int .i64 b1, .int .i64 b2], .agg #[.int .i64 c1, .int .i64 c2]] w fun e w' => e = .returned (.bool true) ∧ Below w.heap.size w w' := by
  have nq := fun W => neq_id W (a1, a2) (b1, b2)
  rw [NE.out] at nq
  unfold encI at nq
  simp only at nq
  go_enter Try.func5, Try.ntmps5
  go_wp2_with fail
  refine (awake_any _).mono ?_
  rintro e w1 ⟨rfl, hb⟩
  have g0 : w1.heap[w.heap.size]? = some (.cells #[.int .i64 a1, .int .i64 a2] 24) := (hb.block _ (by simp; omega)).trans (by (repeat (first | (with_reducible refine heap_alloc_at ?_ _; (first | rfl | (simp; done) | omega | (simp; omega)); done) | with_reducible refine heap_alloc_old ?_ _ | with_reducible refine heap_drew_old ?_ | with_reducible refine heap_drewN_old ?_)))
  have g1 : w1.heap[w.heap.size + 1]? = some (.cells #[.int .i64 b1, .int .i64 b2] 24) := (hb.block _ (by simp)).trans (by (repeat (first | (with_reducible refine heap_alloc_at ?_ _; (first | rfl | (simp; done) | omega | (simp; omega)); done) | with_reducible refine heap_alloc_old ?_ _ | with_reducible refine heap_drew_old ?_ | with_reducible refine heap_drewN_old ?_)))
  have g2 : w1.heap[w.heap.size + 1 + 1]? = some (.cells #[.int .i64 c1, .int .i64 c2] 24) := (hb.block _ (by simp)).trans (by (repeat (first | (with_reducible refine heap_alloc_at ?_ _; (first | rfl | (simp; done) | omega | (simp; omega)); done) | with_reducible refine heap_alloc_old ?_ _ | with_reducible refine heap_drew_old ?_ | with_reducible refine heap_drewN_old ?_)))
  have FB : Hid (Below w.heap.size w w1) := by
    refine Below.trans ?_ (hb.mono (by simp; omega))
    (repeat (first | with_reducible exact Below.refl _ _ | with_reducible exact hBW | with_reducible refine Below.setCell ?_ ?_ _ | with_reducible refine Below.alloc ?_ ?_ _ | with_reducible refine belowN ?_ _ | with_reducible refine Below.drew ?_)); all_goals (first | omega | (dsimp only; omega) | ((repeat (first | with_reducible refine le_alloc ?_ | with_reducible refine le_setCell ?_ | with_reducible refine le_drew ?_ | with_reducible refine le_drewN ?_)); omega))
  have k0 := cell_of_heap g0 0
  have k1 := cell_of_heap g0 1
  have k2 := cell_of_heap g1 0
  have k3 := cell_of_heap g1 1
  have z0 := lt_of_heap g0
  have z1 := lt_of_heap g1
  have G0 := Lib.hid g0
  have G1 := Lib.hid g1
  have G2 := Lib.hid g2
  clear hb g0 g1 g2
  go_wp2_with fail
  refine abs_world ?_
  intro W1 hW1
  subst hW1
  refine wp_region_multiR [([0, 1, 3, 4], [2, 5], [5, 6, 7, 8, 9, 10, 11, 12, 13, 14, 15, 16, 17, 18, 19, 20, 21, 22, 23, 24, 25, 26, 27, 28, 29, 30, 31, 32, 33, 34, 35, 36, 37, 38]), ([6, 7, 8, 9], [10], [10, 11, 12, 13, 14, 15, 16, 17, 18, 19, 20, 21, 22, 23, 24, 25, 26, 27, 28, 29, 30, 31, 32, 33, 34, 35, 36, 37, 38]), ([11, 12, 13, 14], [15], [15, 16, 17, 18, 19, 20, 21, 22, 23, 24, 25, 26, 27, 28, 29, 30, 31, 32, 33, 34, 35, 36, 37, 38]), ([16, 17, 18], [19], [19, 20, 21, 22, 23, 24, 25, 26, 27, 28, 29, 30, 31, 32, 33, 34, 35, 36, 37, 38]), ([20, 21, 22, 23, 24, 25, 26, 27, 28], [29], [29, 30, 31, 32, 33, 34, 35, 36, 37, 38]), ([30, 31, 32, 33, 34], [35], [35, 36, 37, 38]), ([36, 37, 38], [], [])] (by kernel_rfl) (by kernel_rfl) ?_
  refine multi_phase (Below W1.heap.size W1) (Below.refl _ _).drew ?_
  iterate 4 (first | (apply first_step; (rw [List.getElem?_toArray]; (repeat rw [List.getElem?_cons_succ]); rw [List.getElem?_cons_zero]); rfl; (intro W hB; have hc := bcellB hB; go_simp; (first | done | rfl)); go_frame) | (apply first_skip; (rw [List.getElem?_toArray]; (repeat rw [List.getElem?_cons_succ]); rw [List.getElem?_cons_zero]); rfl; go_frame))
  refine first_done ?_
  apply forced_step; (rw [List.getElem?_toArray]; (repeat rw [List.getElem?_cons_succ]); rw [List.getElem?_cons_zero]); rfl; intro K hK; go_simp
  refine (before_any (a1, a2) (b1, b2) _).mono ?_
  rw [AB.out]
  rintro r v2 ⟨rfl, hb⟩
  have HB2 : Hid (Below W1.heap.size W1 v2) := (Below.refl _ W1).drew.trans hb
  refine hK _ _ (fun _ => HB2.out) ?_
  clear hK K hb
  apply forced_step; (rw [List.getElem?_toArray]; (repeat rw [List.getElem?_cons_succ]); rw [List.getElem?_cons_zero]); rfl; intro K hK; go_simp
  refine (refBefore_any (a1, a2) (b1, b2) _).mono ?_
  rw [AB.out]
  rintro r v3 ⟨rfl, hb⟩
  have HB3 : Hid (Below W1.heap.size W1 v3) := HB2.out.trans (hb.mono HB2.out.size)
  refine hK _ _ (fun h => absurd (by decide) h) ?_
  clear hK K hb
  refine forced_done ?_
  refine multi_phase (Below W1.heap.size W1) HB3.out ?_
  iterate 4 (first | (apply first_step; (rw [List.getElem?_toArray]; (repeat rw [List.getElem?_cons_succ]); rw [List.getElem?_cons_zero]); rfl; (intro W hB; have hc := bcellB hB; go_simp; (first | done | rfl)); go_frame) | (apply first_skip; (rw [List.getElem?_toArray]; (repeat rw [List.getElem?_cons_succ]); rw [List.getElem?_cons_zero]); rfl; go_frame))
  refine first_done ?_
  apply forced_step; (rw [List.getElem?_toArray]; (repeat rw [List.getElem?_cons_succ]); rw [List.getElem?_cons_zero]); rfl; intro K hK; go_simp
  refine (before_any (a1, a2) (a1, a2) _).mono ?_
  rw [AA.out]
  rintro r v4 ⟨rfl, hb⟩
  have HB4 : Hid (Below W1.heap.size W1 v4) := HB3.out.trans (hb.mono HB3.out.size)
  refine hK _ _ (fun h => absurd (by decide) h) ?_
  clear hK K hb
  refine forced_done ?_
  refine multi_phase (Below W1.heap.size W1) HB4.out ?_
  iterate 4 (first | (apply first_step; (rw [List.getElem?_toArray]; (repeat rw [List.getElem?_cons_succ]); rw [List.getElem?_cons_zero]); rfl; (intro W hB; have hc := bcellB hB; go_simp; (first | done | rfl)); go_frame) | (apply first_skip; (rw [List.getElem?_toArray]; (repeat rw [List.getElem?_cons_succ]); rw [List.getElem?_cons_zero]); rfl; go_frame))
  refine first_done ?_
  apply forced_step; (rw [List.getElem?_toArray]; (repeat rw [List.getElem?_cons_succ]); rw [List.getElem?_cons_zero]); rfl; intro K hK; go_simp
  refine (before_any (a1, a2) (b1, b2) _).mono ?_
  rw [AB.out]
  rintro r v5 ⟨rfl, hb⟩
  have HB5 : Hid (Below W1.heap.size W1 v5) := HB4.out.trans (hb.mono HB4.out.size)
  refine hK _ _ (fun h => absurd (by decide) h) ?_
  clear hK K hb
  refine forced_done ?_
  refine multi_phase (Below W1.heap.size W1) HB5.out ?_
  iterate 3 (first | (apply first_step; (rw [List.getElem?_toArray]; (repeat rw [List.getElem?_cons_succ]); rw [List.getElem?_cons_zero]); rfl; (intro W hB; have hc := bcellB hB; go_simp; (first | done | rfl)); go_frame) | (apply first_skip; (rw [List.getElem?_toArray]; (repeat rw [List.getElem?_cons_succ]); rw [List.getElem?_cons_zero]); rfl; go_frame))
  refine first_done ?_
  apply forced_step; (rw [List.getElem?_toArray]; (repeat rw [List.getElem?_cons_succ]); rw [List.getElem?_cons_zero]); rfl; intro K hK; go_simp
  refine (before_any (b1, b2) (a1, a2) _).mono ?_
  rw [BA.out]
  rintro r v6 ⟨rfl, hb⟩
  have HB6 : Hid (Below W1.heap.size W1 v6) := HB5.out.trans (hb.mono HB5.out.size)
  refine hK _ _ (fun h => absurd (by decide) h) ?_
  clear hK K hb
  refine forced_done ?_
  refine multi_phase (Below W1.heap.size W1) HB6.out ?_
  iterate 9 (first | (apply first_step; (rw [List.getElem?_toArray]; (repeat rw [List.getElem?_cons_succ]); rw [List.getElem?_cons_zero]); rfl; (intro W hB; have hc := bcellB hB; go_simp; (first | done | rfl)); go_frame) | (apply first_skip; (rw [List.getElem?_toArray]; (repeat rw [List.getElem?_cons_succ]); rw [List.getElem?_cons_zero]); rfl; go_frame))
  refine first_done ?_
  apply forced_step; (rw [List.getElem?_toArray]; (repeat rw [List.getElem?_cons_succ]); rw [List.getElem?_cons_zero]); rfl; intro K hK; go_simp
  refine (before_any (a1, a2) (b1, b2) _).mono ?_
  rw [AB.out]
  rintro r v7 ⟨rfl, hb⟩
  have HB7 : Hid (Below W1.heap.size W1 v7) := HB6.out.trans (hb.mono HB6.out.size)
  refine hK _ _ (fun h => absurd (by decide) h) ?_
  clear hK K hb
  refine forced_done ?_
  refine multi_phase (Below W1.heap.size W1) HB7.out ?_
  iterate 5 (first | (apply first_step; (rw [List.getElem?_toArray]; (repeat rw [List.getElem?_cons_succ]); rw [List.getElem?_cons_zero]); rfl; (intro W hB; have hc := bcellB hB; go_simp; (first | done | rfl)); go_frame) | (apply first_skip; (rw [List.getElem?_toArray]; (repeat rw [List.getElem?_cons_succ]); rw [List.getElem?_cons_zero]); rfl; go_frame))
  refine first_done ?_
  apply forced_skip; (rw [List.getElem?_toArray]; (repeat rw [List.getElem?_cons_succ]); rw [List.getElem?_cons_zero]); rfl
  exact fun h => absurd (by decide) h
  go_frame
  refine forced_done ?_
  refine multi_phase (Below W1.heap.size W1) HB7.out ?_
  iterate 3 (first | (apply first_step; (rw [List.getElem?_toArray]; (repeat rw [List.getElem?_cons_succ]); rw [List.getElem?_cons_zero]); rfl; (intro W hB; have hc := bcellB hB; go_simp; (first | done | rfl)); go_frame) | (apply first_skip; (rw [List.getElem?_toArray]; (repeat rw [List.getElem?_cons_succ]); rw [List.getElem?_cons_zero]); rfl; go_frame))
  refine first_done ?_
  refine forced_done ?_
  refine multi_done ?_
  clear k0 k1 k2 k3
  have hz : Hid (W1.heap.size ≤ v7.heap.size) := HB7.out.size
  have g0 := (HB7.out.block _ (lt_of_heap G0.out)).trans G0.out
  have g1 := (HB7.out.block _ (lt_of_heap G1.out)).trans G1.out
  have g2 := (HB7.out.block _ (lt_of_heap G2.out)).trans G2.out
  have F2 : Hid (Below w.heap.size w v7) := FB.out.trans (HB7.out.mono FB.out.size)
  have k0 := cell_of_heap g0
  have k2 := cell_of_heap g1
  have k4 := cell_of_heap g2
  have z0 := lt_of_heap g0
  have z1 := lt_of_heap g1
  have z2 := lt_of_heap g2
  clear nq
  go_wp2_with fail
  refine (before_any (a1, a2) (b1, b2) _).mono ?_
  rw [AB.out]
  rintro r u2 ⟨rfl, hb⟩
  have F3 : Hid (Below w.heap.size w u2) := F2.out.trans (hb.mono F2.out.size)
  have h0 := (hb.block _ z0).trans g0
  have h1 := (hb.block _ z1).trans g1
  have h2 := (hb.block _ z2).trans g2
  clear hb k0 k2 k4 g0 g1 g2
  have k0 := cell_of_heap h0
  have k2 := cell_of_heap h1
  have k4 := cell_of_heap h2
  have z0 := lt_of_heap h0
  have z1 := lt_of_heap h1
  have z2 := lt_of_heap h2
  go_wp2_with fail
  refine (before_any (b1, b2) (c1, c2) _).mono ?_
  cases hbc : befB (b1, b2) (c1, c2) with
  | false =>
    rintro r u3 ⟨rfl, hb⟩
    have F4 : Hid (Below w.heap.size w u3) := F3.out.trans (hb.mono F3.out.size)
    clear hb k0 k2 k4 hbc
    go_wp2_with fail
    go_ret
    exact ⟨rfl, F4.out⟩
  | true =>
    have HAC := Lib.hid (TR.out AB.out hbc)
    rintro r u3 ⟨rfl, hb⟩
    have F4 : Hid (Below w.heap.size w u3) := F3.out.trans (hb.mono F3.out.size)
    have i0 := (hb.block _ z0).trans h0
    have i2 := (hb.block _ z2).trans h2
    clear hb k0 k2 k4 hbc h0 h1 h2
    have k0 := cell_of_heap i0
    have k4 := cell_of_heap i2
    have z0 := lt_of_heap i0
    have z2 := lt_of_heap i2
    go_wp2_with fail
    refine (before_any (a1, a2) (c1, c2) _).mono ?_
    rw [HAC.out]
    rintro r u4 ⟨rfl, hb⟩
    have F5 : Hid (Below w.heap.size w u4) := F4.out.trans (hb.mono F4.out.size)
    clear hb k0 k4 i0 i2
    go_wp2_with fail
    go_ret
    exact ⟨rfl, F5.out⟩
set_option maxHeartbeats 4000000 in
set_option maxRecDepth 100000 in
theorem order_eq (a1 a2 b1 b2 c1 c2 : Int) (w : World) (AB : Hid (befB (a1, a2) (b1, b2) = false)) (_BA : Hid (befB (b1, b2) (a1, a2) = false)) (AA : Hid (befB (a1, a2) (a1, a2) = false)) (NE : Hid (decide ((a1, a2) = (b1, b2)) = true)) (_TR : Hid (befB (a1, a2) (b1, b2) = true → befB (b1, b2) (c1, c2) = true → befB (a1, a2) (c1, c2) = true)) :
    Calls Try.prog 5 #[.agg #[.int .i64 a1, .int .i64 a2], .agg #[.int .i64 b1, .int .i64 b2], .agg #[.int .i64 c1, .int .i64 c2]] w fun e w' => e = .returned (.bool true) ∧ Below w.heap.size w w' := by
  have nq := fun W => neq_id W (a1, a2) (b1, b2)
  rw [NE.out] at nq
  unfold encI at nq
  simp only at nq
  go_enter Try.func5, Try.ntmps5
  go_wp2_with fail
  refine (awake_any _).mono ?_
  rintro e w1 ⟨rfl, hb⟩
  have g0 : w1.heap[w.heap.size]? = some (.cells #[.int .i64 a1, .int .i64 a2] 24) := (hb.block _ (by simp; omega)).trans (by (repeat (first | (with_reducible refine heap_alloc_at ?_ _; (first | rfl | (simp; done) | omega | (simp; omega)); done) | with_reducible refine heap_alloc_old ?_ _ | with_reducible refine heap_drew_old ?_ | with_reducible refine heap_drewN_old ?_)))
  have g1 : w1.heap[w.heap.size + 1]? = some (.cells #[.int .i64 b1, .int .i64 b2] 24) := (hb.block _ (by simp)).trans (by (repeat (first | (with_reducible refine heap_alloc_at ?_ _; (first | rfl | (simp; done) | omega | (simp; omega)); done) | with_reducible refine heap_alloc_old ?_ _ | with_reducible refine heap_drew_old ?_ | with_reducible refine heap_drewN_old ?_)))
  have g2 : w1.heap[w.heap.size + 1 + 1]? = some (.cells #[.int .i64 c1, .int .i64 c2] 24) := (hb.block _ (by simp)).trans (by (repeat (first | (with_reducible refine heap_alloc_at ?_ _; (first | rfl | (simp; done) | omega | (simp; omega)); done) | with_reducible refine heap_alloc_old ?_ _ | with_reducible refine heap_drew_old ?_ | with_reducible refine heap_drewN_old ?_)))
  have FB : Hid (Below w.heap.size w w1) := by
    refine Below.trans ?_ (hb.mono (by simp; omega))
    (repeat (first | with_reducible exact Below.refl _ _ | with_reducible exact hBW | with_reducible refine Below.setCell ?_ ?_ _ | with_reducible refine Below.alloc ?_ ?_ _ | with_reducible refine belowN ?_ _ | with_reducible refine Below.drew ?_)); all_goals (first | omega | (dsimp only; omega) | ((repeat (first | with_reducible refine le_alloc ?_ | with_reducible refine le_setCell ?_ | with_reducible refine le_drew ?_ | with_reducible refine le_drewN ?_)); omega))
  have k0 := cell_of_heap g0 0
  have k1 := cell_of_heap g0 1
  have k2 := cell_of_heap g1 0
  have k3 := cell_of_heap g1 1
  have z0 := lt_of_heap g0
  have z1 := lt_of_heap g1
  have G0 := Lib.hid g0
  have G1 := Lib.hid g1
  have G2 := Lib.hid g2
  clear hb g0 g1 g2
  go_wp2_with fail
  refine abs_world ?_
  intro W1 hW1
  subst hW1
  refine wp_region_multiR [([0, 1, 3, 4], [2, 5], [5, 6, 7, 8, 9, 10, 11, 12, 13, 14, 15, 16, 17, 18, 19, 20, 21, 22, 23, 24, 25, 26, 27, 28, 29, 30, 31, 32, 33, 34, 35, 36, 37, 38]), ([6, 7, 8, 9], [10], [10, 11, 12, 13, 14, 15, 16, 17, 18, 19, 20, 21, 22, 23, 24, 25, 26, 27, 28, 29, 30, 31, 32, 33, 34, 35, 36, 37, 38]), ([11, 12, 13, 14], [15], [15, 16, 17, 18, 19, 20, 21, 22, 23, 24, 25, 26, 27, 28, 29, 30, 31, 32, 33, 34, 35, 36, 37, 38]), ([16, 17, 18], [19], [19, 20, 21, 22, 23, 24, 25, 26, 27, 28, 29, 30, 31, 32, 33, 34, 35, 36, 37, 38]), ([20, 21, 22, 23, 24, 25, 26, 27, 28], [29], [29, 30, 31, 32, 33, 34, 35, 36, 37, 38]), ([30, 31, 32, 33, 34], [35], [35, 36, 37, 38]), ([36, 37, 38], [], [])] (by kernel_rfl) (by kernel_rfl) ?_
  refine multi_phase (Below W1.heap.size W1) (Below.refl _ _).drew ?_
  iterate 4 (first | (apply first_step; (rw [List.getElem?_toArray]; (repeat rw [List.getElem?_cons_succ]); rw [List.getElem?_cons_zero]); rfl; (intro W hB; have hc := bcellB hB; go_simp; (first | done | rfl)); go_frame) | (apply first_skip; (rw [List.getElem?_toArray]; (repeat rw [List.getElem?_cons_succ]); rw [List.getElem?_cons_zero]); rfl; go_frame))
  refine first_done ?_
  apply forced_step; (rw [List.getElem?_toArray]; (repeat rw [List.getElem?_cons_succ]); rw [List.getElem?_cons_zero]); rfl; intro K hK; go_simp
  refine (before_any (a1, a2) (b1, b2) _).mono ?_
  rw [AB.out]
  rintro r v2 ⟨rfl, hb⟩
  have HB2 : Hid (Below W1.heap.size W1 v2) := (Below.refl _ W1).drew.trans hb
  refine hK _ _ (fun _ => HB2.out) ?_
  clear hK K hb
  apply forced_step; (rw [List.getElem?_toArray]; (repeat rw [List.getElem?_cons_succ]); rw [List.getElem?_cons_zero]); rfl; intro K hK; go_simp
  refine (refBefore_any (a1, a2) (b1, b2) _).mono ?_
  rw [AB.out]
  rintro r v3 ⟨rfl, hb⟩
  have HB3 : Hid (Below W1.heap.size W1 v3) := HB2.out.trans (hb.mono HB2.out.size)
  refine hK _ _ (fun h => absurd (by decide) h) ?_
  clear hK K hb
  refine forced_done ?_
  refine multi_phase (Below W1.heap.size W1) HB3.out ?_
  iterate 4 (first | (apply first_step; (rw [List.getElem?_toArray]; (repeat rw [List.getElem?_cons_succ]); rw [List.getElem?_cons_zero]); rfl; (intro W hB; have hc := bcellB hB; go_simp; (first | done | rfl)); go_frame) | (apply first_skip; (rw [List.getElem?_toArray]; (repeat rw [List.getElem?_cons_succ]); rw [List.getElem?_cons_zero]); rfl; go_frame))
  refine first_done ?_
  apply forced_step; (rw [List.getElem?_toArray]; (repeat rw [List.getElem?_cons_succ]); rw [List.getElem?_cons_zero]); rfl; intro K hK; go_simp
  refine (before_any (a1, a2) (a1, a2) _).mono ?_
  rw [AA.out]
  rintro r v4 ⟨rfl, hb⟩
  have HB4 : Hid (Below W1.heap.size W1 v4) := HB3.out.trans (hb.mono HB3.out.size)
  refine hK _ _ (fun h => absurd (by decide) h) ?_
  clear hK K hb
  refine forced_done ?_
  refine multi_phase (Below W1.heap.size W1) HB4.out ?_
  iterate 4 (first | (apply first_step; (rw [List.getElem?_toArray]; (repeat rw [List.getElem?_cons_succ]); rw [List.getElem?_cons_zero]); rfl; (intro W hB; have hc := bcellB hB; go_simp; (first | done | rfl)); go_frame) | (apply first_skip; (rw [List.getElem?_toArray]; (repeat rw [List.getElem?_cons_succ]); rw [List.getElem?_cons_zero]); rfl; go_frame))
  refine first_done ?_
  apply forced_step; (rw [List.getElem?_toArray]; (repeat rw [List.getElem?_cons_succ]); rw [List.getElem?_cons_zero]); rfl; intro K hK; go_simp
  refine (before_any (a1, a2) (b1, b2) _).mono ?_
  rw [AB.out]
  rintro r v5 ⟨rfl, hb⟩
  have HB5 : Hid (Below W1.heap.size W1 v5) := HB4.out.trans (hb.mono HB4.out.size)
  refine hK _ _ (fun h => absurd (by decide) h) ?_
  clear hK K hb
  refine forced_done ?_
  refine multi_phase (Below W1.heap.size W1) HB5.out ?_
  iterate 3 (first | (apply first_step; (rw [List.getElem?_toArray]; (repeat rw [List.getElem?_cons_succ]); rw [List.getElem?_cons_zero]); rfl; (intro W hB; have hc := bcellB hB; go_simp; (first | done | rfl)); go_frame) | (apply first_skip; (rw [List.getElem?_toArray]; (repeat rw [List.getElem?_cons_succ]); rw [List.getElem?_cons_zero]); rfl; go_frame))
  refine first_done ?_
  apply forced_skip; (rw [List.getElem?_toArray]; (repeat rw [List.getElem?_cons_succ]); rw [List.getElem?_cons_zero]); rfl
  exact fun h => absurd (by decide) h
  go_frame
  refine forced_done ?_
  refine multi_phase (Below W1.heap.size W1) HB5.out ?_
  iterate 9 (first | (apply first_step; (rw [List.getElem?_toArray]; (repeat rw [List.getElem?_cons_succ]); rw [List.getElem?_cons_zero]); rfl; (intro W hB; have hc := bcellB hB; go_simp; (first | done | rfl)); go_frame) | (apply first_skip; (rw [List.getElem?_toArray]; (repeat rw [List.getElem?_cons_succ]); rw [List.getElem?_cons_zero]); rfl; go_frame))
  refine first_done ?_
  apply forced_skip; (rw [List.getElem?_toArray]; (repeat rw [List.getElem?_cons_succ]); rw [List.getElem?_cons_zero]); rfl
  exact fun h => absurd (by decide) h
  go_frame
  refine forced_done ?_
  refine multi_phase (Below W1.heap.size W1) HB5.out ?_
  iterate 5 (first | (apply first_step; (rw [List.getElem?_toArray]; (repeat rw [List.getElem?_cons_succ]); rw [List.getElem?_cons_zero]); rfl; (intro W hB; have hc := bcellB hB; go_simp; (first | done | rfl)); go_frame) | (apply first_skip; (rw [List.getElem?_toArray]; (repeat rw [List.getElem?_cons_succ]); rw [List.getElem?_cons_zero]); rfl; go_frame))
  refine first_done ?_
  apply forced_skip; (rw [List.getElem?_toArray]; (repeat rw [List.getElem?_cons_succ]); rw [List.getElem?_cons_zero]); rfl
  exact fun h => absurd (by decide) h
  go_frame
  refine forced_done ?_
  refine multi_phase (Below W1.heap.size W1) HB5.out ?_
  iterate 3 (first | (apply first_step; (rw [List.getElem?_toArray]; (repeat rw [List.getElem?_cons_succ]); rw [List.getElem?_cons_zero]); rfl; (intro W hB; have hc := bcellB hB; go_simp; (first | done | rfl)); go_frame) | (apply first_skip; (rw [List.getElem?_toArray]; (repeat rw [List.getElem?_cons_succ]); rw [List.getElem?_cons_zero]); rfl; go_frame))
  refine first_done ?_
  refine forced_done ?_
  refine multi_done ?_
  clear k0 k1 k2 k3
  have hz : Hid (W1.heap.size ≤ v5.heap.size) := HB5.out.size
  have g0 := (HB5.out.block _ (lt_of_heap G0.out)).trans G0.out
  have g1 := (HB5.out.block _ (lt_of_heap G1.out)).trans G1.out
  have g2 := (HB5.out.block _ (lt_of_heap G2.out)).trans G2.out
  have F2 : Hid (Below w.heap.size w v5) := FB.out.trans (HB5.out.mono FB.out.size)
  have k0 := cell_of_heap g0
  have k2 := cell_of_heap g1
  have k4 := cell_of_heap g2
  have z0 := lt_of_heap g0
  have z1 := lt_of_heap g1
  have z2 := lt_of_heap g2
  clear nq
  go_wp2_with fail
  refine (before_any (a1, a2) (b1, b2) _).mono ?_
  rw [AB.out]
  rintro r u2 ⟨rfl, hb⟩
  have F3 : Hid (Below w.heap.size w u2) := F2.out.trans (hb.mono F2.out.size)
  clear hb k0 k2 k4
  go_wp2_with fail
  go_ret
  exact ⟨rfl, F3.out⟩
set_option maxHeartbeats 4000000 in
set_option maxRecDepth 100000 in
theorem order_gt (a1 a2 b1 b2 c1 c2 : Int) (w : World) (AB : Hid (befB (a1, a2) (b1, b2) = false)) (BA : Hid (befB (b1, b2) (a1, a2) = true)) (AA : Hid (befB (a1, a2) (a1, a2) = false)) (NE : Hid (decide ((a1, a2) = (b1, b2)) = false)) (_TR : Hid (befB (a1, a2) (b1, b2) = true → befB (b1, b2) (c1, c2) = true → befB (a1, a2) (c1, c2) = true)) :
    Calls Try.prog 5 #[.agg #[.int .i64 a1, .int .i64 a2], .agg #[.int .i64 b1, .int .i64 b2], .agg #[.int .i64 c1, .int .i64 c2]] w fun e w' => e = .returned (.bool true) ∧ Below w.heap.size w w' := by
  have nq := fun W => neq_id W (a1, a2) (b1, b2)
  rw [NE.out] at nq
  unfold encI at nq
  simp only at nq
  go_enter Try.func5, Try.ntmps5
  go_wp2_with fail
  refine (awake_any _).mono ?_
  rintro e w1 ⟨rfl, hb⟩
  have g0 : w1.heap[w.heap.size]? = some (.cells #[.int .i64 a1, .int .i64 a2] 24) := (hb.block _ (by simp; omega)).trans (by (repeat (first | (with_reducible refine heap_alloc_at ?_ _; (first | rfl | (simp; done) | omega | (simp; omega)); done) | with_reducible refine heap_alloc_old ?_ _ | with_reducible refine heap_drew_old ?_ | with_reducible refine heap_drewN_old ?_)))
  have g1 : w1.heap[w.heap.size + 1]? = some (.cells #[.int .i64 b1, .int .i64 b2] 24) := (hb.block _ (by simp)).trans (by (repeat (first | (with_reducible refine heap_alloc_at ?_ _; (first | rfl | (simp; done) | omega | (simp; omega)); done) | with_reducible refine heap_alloc_old ?_ _ | with_reducible refine heap_drew_old ?_ | with_reducible refine heap_drewN_old ?_)))
  have g2 : w1.heap[w.heap.size + 1 + 1]? = some (.cells #[.int .i64 c1, .int .i64 c2] 24) := (hb.block _ (by simp)).trans (by (repeat (first | (with_reducible refine heap_alloc_at ?_ _; (first | rfl | (simp; done) | omega | (simp; omega)); done) | with_reducible refine heap_alloc_old ?_ _ | with_reducible refine heap_drew_old ?_ | with_reducible refine heap_drewN_old ?_)))
  have FB : Hid (Below w.heap.size w w1) := by
    refine Below.trans ?_ (hb.mono (by simp; omega))
    (repeat (first | with_reducible exact Below.refl _ _ | with_reducible exact hBW | with_reducible refine Below.setCell ?_ ?_ _ | with_reducible refine Below.alloc ?_ ?_ _ | with_reducible refine belowN ?_ _ | with_reducible refine Below.drew ?_)); all_goals (first | omega | (dsimp only; omega) | ((repeat (first | with_reducible refine le_alloc ?_ | with_reducible refine le_setCell ?_ | with_reducible refine le_drew ?_ | with_reducible refine le_drewN ?_)); omega))
  have k0 := cell_of_heap g0 0
  have k1 := cell_of_heap g0 1
  have k2 := cell_of_heap g1 0
  have k3 := cell_of_heap g1 1
  have z0 := lt_of_heap g0
  have z1 := lt_of_heap g1
  have G0 := Lib.hid g0
  have G1 := Lib.hid g1
  have G2 := Lib.hid g2
  clear hb g0 g1 g2
  go_wp2_with fail
  refine abs_world ?_
  intro W1 hW1
  subst hW1
  refine wp_region_multiR [([0, 1, 3, 4], [2, 5], [5, 6, 7, 8, 9, 10, 11, 12, 13, 14, 15, 16, 17, 18, 19, 20, 21, 22, 23, 24, 25, 26, 27, 28, 29, 30, 31, 32, 33, 34, 35, 36, 37, 38]), ([6, 7, 8, 9], [10], [10, 11, 12, 13, 14, 15, 16, 17, 18, 19, 20, 21, 22, 23, 24, 25, 26, 27, 28, 29, 30, 31, 32, 33, 34, 35, 36, 37, 38]), ([11, 12, 13, 14], [15], [15, 16, 17, 18, 19, 20, 21, 22, 23, 24, 25, 26, 27, 28, 29, 30, 31, 32, 33, 34, 35, 36, 37, 38]), ([16, 17, 18], [19], [19, 20, 21, 22, 23, 24, 25, 26, 27, 28, 29, 30, 31, 32, 33, 34, 35, 36, 37, 38]), ([20, 21, 22, 23, 24, 25, 26, 27, 28], [29], [29, 30, 31, 32, 33, 34, 35, 36, 37, 38]), ([30, 31, 32, 33, 34], [35], [35, 36, 37, 38]), ([36, 37, 38], [], [])] (by kernel_rfl) (by kernel_rfl) ?_
  refine multi_phase (Below W1.heap.size W1) (Below.refl _ _).drew ?_
  iterate 4 (first | (apply first_step; (rw [List.getElem?_toArray]; (repeat rw [List.getElem?_cons_succ]); rw [List.getElem?_cons_zero]); rfl; (intro W hB; have hc := bcellB hB; go_simp; (first | done | rfl)); go_frame) | (apply first_skip; (rw [List.getElem?_toArray]; (repeat rw [List.getElem?_cons_succ]); rw [List.getElem?_cons_zero]); rfl; go_frame))
  refine first_done ?_
  apply forced_step; (rw [List.getElem?_toArray]; (repeat rw [List.getElem?_cons_succ]); rw [List.getElem?_cons_zero]); rfl; intro K hK; go_simp
  refine (before_any (a1, a2) (b1, b2) _).mono ?_
  rw [AB.out]
  rintro r v2 ⟨rfl, hb⟩
  have HB2 : Hid (Below W1.heap.size W1 v2) := (Below.refl _ W1).drew.trans hb
  refine hK _ _ (fun _ => HB2.out) ?_
  clear hK K hb
  apply forced_step; (rw [List.getElem?_toArray]; (repeat rw [List.getElem?_cons_succ]); rw [List.getElem?_cons_zero]); rfl; intro K hK; go_simp
  refine (refBefore_any (a1, a2) (b1, b2) _).mono ?_
  rw [AB.out]
  rintro r v3 ⟨rfl, hb⟩
  have HB3 : Hid (Below W1.heap.size W1 v3) := HB2.out.trans (hb.mono HB2.out.size)
  refine hK _ _ (fun h => absurd (by decide) h) ?_
  clear hK K hb
  refine forced_done ?_
  refine multi_phase (Below W1.heap.size W1) HB3.out ?_
  iterate 4 (first | (apply first_step; (rw [List.getElem?_toArray]; (repeat rw [List.getElem?_cons_succ]); rw [List.getElem?_cons_zero]); rfl; (intro W hB; have hc := bcellB hB; go_simp; (first | done | rfl)); go_frame) | (apply first_skip; (rw [List.getElem?_toArray]; (repeat rw [List.getElem?_cons_succ]); rw [List.getElem?_cons_zero]); rfl; go_frame))
  refine first_done ?_
  apply forced_step; (rw [List.getElem?_toArray]; (repeat rw [List.getElem?_cons_succ]); rw [List.getElem?_cons_zero]); rfl; intro K hK; go_simp
  refine (before_any (a1, a2) (a1, a2) _).mono ?_
  rw [AA.out]
  rintro r v4 ⟨rfl, hb⟩
  have HB4 : Hid (Below W1.heap.size W1 v4) := HB3.out.trans (hb.mono HB3.out.size)
  refine hK _ _ (fun h => absurd (by decide) h) ?_
  clear hK K hb
  refine forced_done ?_
  refine multi_phase (Below W1.heap.size W1) HB4.out ?_
  iterate 4 (first | (apply first_step; (rw [List.getElem?_toArray]; (repeat rw [List.getElem?_cons_succ]); rw [List.getElem?_cons_zero]); rfl; (intro W hB; have hc := bcellB hB; go_simp; (first | done | rfl)); go_frame) | (apply first_skip; (rw [List.getElem?_toArray]; (repeat rw [List.getElem?_cons_succ]); rw [List.getElem?_cons_zero]); rfl; go_frame))
  refine first_done ?_
  apply forced_step; (rw [List.getElem?_toArray]; (repeat rw [List.getElem?_cons_succ]); rw [List.getElem?_cons_zero]); rfl; intro K hK; go_simp
  refine (before_any (a1, a2) (b1, b2) _).mono ?_
  rw [AB.out]
  rintro r v5 ⟨rfl, hb⟩
  have HB5 : Hid (Below W1.heap.size W1 v5) := HB4.out.trans (hb.mono HB4.out.size)
  refine hK _ _ (fun h => absurd (by decide) h) ?_
  clear hK K hb
  refine forced_done ?_
  refine multi_phase (Below W1.heap.size W1) HB5.out ?_
  iterate 3 (first | (apply first_step; (rw [List.getElem?_toArray]; (repeat rw [List.getElem?_cons_succ]); rw [List.getElem?_cons_zero]); rfl; (intro W hB; have hc := bcellB hB; go_simp; (first | done | rfl)); go_frame) | (apply first_skip; (rw [List.getElem?_toArray]; (repeat rw [List.getElem?_cons_succ]); rw [List.getElem?_cons_zero]); rfl; go_frame))
  refine first_done ?_
  apply forced_skip; (rw [List.getElem?_toArray]; (repeat rw [List.getElem?_cons_succ]); rw [List.getElem?_cons_zero]); rfl
  exact fun h => absurd (by decide) h
  go_frame
  refine forced_done ?_
  refine multi_phase (Below W1.heap.size W1) HB5.out ?_
  iterate 9 (first | (apply first_step; (rw [List.getElem?_toArray]; (repeat rw [List.getElem?_cons_succ]); rw [List.getElem?_cons_zero]); rfl; (intro W hB; have hc := bcellB hB; go_simp; (first | done | rfl)); go_frame) | (apply first_skip; (rw [List.getElem?_toArray]; (repeat rw [List.getElem?_cons_succ]); rw [List.getElem?_cons_zero]); rfl; go_frame))
  refine first_done ?_
  apply forced_step; (rw [List.getElem?_toArray]; (repeat rw [List.getElem?_cons_succ]); rw [List.getElem?_cons_zero]); rfl; intro K hK; go_simp
  refine (before_any (a1, a2) (b1, b2) _).mono ?_
  rw [AB.out]
  rintro r v6 ⟨rfl, hb⟩
  have HB6 : Hid (Below W1.heap.size W1 v6) := HB5.out.trans (hb.mono HB5.out.size)
  refine hK _ _ (fun h => absurd (by decide) h) ?_
  clear hK K hb
  refine forced_done ?_
  refine multi_phase (Below W1.heap.size W1) HB6.out ?_
  iterate 5 (first | (apply first_step; (rw [List.getElem?_toArray]; (repeat rw [List.getElem?_cons_succ]); rw [List.getElem?_cons_zero]); rfl; (intro W hB; have hc := bcellB hB; go_simp; (first | done | rfl)); go_frame) | (apply first_skip; (rw [List.getElem?_toArray]; (repeat rw [List.getElem?_cons_succ]); rw [List.getElem?_cons_zero]); rfl; go_frame))
  refine first_done ?_
  apply forced_step; (rw [List.getElem?_toArray]; (repeat rw [List.getElem?_cons_succ]); rw [List.getElem?_cons_zero]); rfl; intro K hK; go_simp
  refine (before_any (b1, b2) (a1, a2) _).mono ?_
  rw [BA.out]
  rintro r v7 ⟨rfl, hb⟩
  have HB7 : Hid (Below W1.heap.size W1 v7) := HB6.out.trans (hb.mono HB6.out.size)
  refine hK _ _ (fun h => absurd (by decide) h) ?_
  clear hK K hb
  refine forced_done ?_
  refine multi_phase (Below W1.heap.size W1) HB7.out ?_
  iterate 3 (first | (apply first_step; (rw [List.getElem?_toArray]; (repeat rw [List.getElem?_cons_succ]); rw [List.getElem?_cons_zero]); rfl; (intro W hB; have hc := bcellB hB; go_simp; (first | done | rfl)); go_frame) | (apply first_skip; (rw [List.getElem?_toArray]; (repeat rw [List.getElem?_cons_succ]); rw [List.getElem?_cons_zero]); rfl; go_frame))
  refine first_done ?_
  refine forced_done ?_
  refine multi_done ?_
  clear k0 k1 k2 k3
  have hz : Hid (W1.heap.size ≤ v7.heap.size) := HB7.out.size
  have g0 := (HB7.out.block _ (lt_of_heap G0.out)).trans G0.out
  have g1 := (HB7.out.block _ (lt_of_heap G1.out)).trans G1.out
  have g2 := (HB7.out.block _ (lt_of_heap G2.out)).trans G2.out
  have F2 : Hid (Below w.heap.size w v7) := FB.out.trans (HB7.out.mono FB.out.size)
  have k0 := cell_of_heap g0
  have k2 := cell_of_heap g1
  have k4 := cell_of_heap g2
  have z0 := lt_of_heap g0
  have z1 := lt_of_heap g1
  have z2 := lt_of_heap g2
  clear nq
  go_wp2_with fail
  refine (before_any (a1, a2) (b1, b2) _).mono ?_
  rw [AB.out]
  rintro r u2 ⟨rfl, hb⟩
  have F3 : Hid (Below w.heap.size w u2) := F2.out.trans (hb.mono F2.out.size)
  clear hb k0 k2 k4
  go_wp2_with fail
  go_ret
  exact ⟨rfl, F3.out⟩
theorem order_law (a b c : Id2) (w : World) : Calls Try.prog 5 #[encI a, encI b, encI c] w fun e w' => e = .returned (.bool true) ∧ Below w.heap.size w w' := by
  obtain ⟨a1, a2⟩ := a
  obtain ⟨b1, b2⟩ := b
  obtain ⟨c1, c2⟩ := c
  have AA : Hid (befB (a1, a2) (a1, a2) = false) := by unfold Hid; simp [befB]
  have TR : Hid (befB (a1, a2) (b1, b2) = true → befB (b1, b2) (c1, c2) = true → befB (a1, a2) (c1, c2) = true) := by
    unfold Hid befB
    simp only [Bool.or_eq_true, Bool.and_eq_true, decide_eq_true_eq]
    omega
  by_cases h1 : befB (a1, a2) (b1, b2) = true
  · have BA : befB (b1, b2) (a1, a2) = false := by
      unfold befB at *
      simp only [Bool.or_eq_true, Bool.and_eq_true, decide_eq_true_eq] at h1
      rw [Bool.eq_false_iff]
      simp only [ne_eq, Bool.or_eq_true, Bool.and_eq_true, decide_eq_true_eq]
      omega
    have NE : decide ((a1, a2) = (b1, b2)) = false := by
      unfold befB at h1
      simp only [Bool.or_eq_true, Bool.and_eq_true, decide_eq_true_eq] at h1
      simp only [Prod.mk.injEq, decide_eq_false_iff_not]
      omega
    exact order_lt a1 a2 b1 b2 c1 c2 w h1 BA AA NE TR
  · have AB : befB (a1, a2) (b1, b2) = false := by simpa using h1
    by_cases h2 : (a1, a2) = (b1, b2)
    · have BA : befB (b1, b2) (a1, a2) = false := by
        rw [← h2]
        exact AA
      exact order_eq a1 a2 b1 b2 c1 c2 w AB BA AA (by rw [decide_eq_true h2]; rfl) TR
    · have BA : befB (b1, b2) (a1, a2) = true := by
        unfold befB at *
        simp only [Bool.or_eq_true, Bool.and_eq_true, decide_eq_true_eq] at *
        simp only [Prod.mk.injEq] at h2
        omega
      exact order_gt a1 a2 b1 b2 c1 c2 w AB BA AA (by rw [decide_eq_false h2]; rfl) TR
end Go.Proofs.Ytebifjjghogboaa
