/- value.Compare. -/
import Derived.Test.YtndhmahkglfopaaGreatDoorQT13Right
import Derived.Test.YtndhmahkglfopaaGreatDoorQT16P
import Derived.Test.YtndhmahkglfopaaGreatDoorQT16X
import Derived.Test.YtndhmahkglfopaaGreatDoorQT13R09
import Derived.Test.YtndhmahkglfopaaGreatDoorQT16ZA
namespace Go.Proofs.YtndhmahkglfopaaGreatDoor
open Go.RowKit
def CPost (w : World) (c : Int) (e : Ending) (w' : World) : Prop := e = .returned (.int .i64 c) ∧ Below w.heap.size w w'
theorem cprop {v : V} (h : refR v = true) : (v.k = 1 → numR v.m v.e = true) ∧ (v.k = 2 → v.t.size ≤ 255) := by
  unfold refR at h
  simp only [Bool.and_eq_true] at h
  have h5 := h.2
  refine ⟨fun hk => by rwa [if_pos hk] at h5, fun hk => ?_⟩
  rw [if_neg (by omega), if_pos hk] at h5
  exact of_decide_eq_true h5
section
variable (x y a b : V) (w : World)
set_option maxHeartbeats 4000000
set_option maxRecDepth 100000
/- the two calls of beside: a stands for x, b for y -/
theorem cmp_1 (HX : Hid (∀ w, Calls Tryz.prog 107 #[vagg x, vagg y] w fun e w' => e = .returned (vagg a) ∧ Below w.heap.size w w')) (HY : Hid (∀ w, Calls Tryz.prog 107 #[vagg y, vagg x] w fun e w' => e = .returned (vagg b) ∧ Below w.heap.size w w')) (n1 : (a.k != b.k) = true) (n2 : decide (a.k < b.k) = true) : Calls Tryz.prog 74 #[vagg x, vagg y] w (CPost w (-1)) := by
  unfold vagg at HX HY ⊢
  go_enter Tryz.func74, Tryz.ntmps74
  go_wp2_with fail
  refine abs_world ?_
  intro W1 hW1
  have hB1 : Below w.heap.size w W1 := by rw [hW1]; (repeat with_reducible (first | exact bw0 _ _ | exact hBW | refine bw1 ?_ ?_ _ | refine bw2 ?_ ?_ _ | refine bw3 ?_ _ | refine bw4 ?_)); all_goals (first | omega | (dsimp only; omega) | ((repeat with_reducible (first | refine lz1 ?_ | refine lz2 ?_ | refine lz3 ?_ | refine lz4 ?_)); omega))
  have ev : W1.heap[w.heap.size]? = some (.cells #[.int .i64 x.k, .int .i64 x.m, .int .i64 x.e, .string x.t, .bool x.b, .int .i64 x.f] 34) := by rw [hW1]; (repeat (first | (with_reducible refine bw5 ?_ _; (first | rfl | (simp; done) | omega | (simp; omega)); done) | with_reducible refine bw6 ?_ _ | with_reducible refine bw7 ?_ | with_reducible refine bw8 ?_))
  have eu : W1.heap[w.heap.size + 1]? = some (.cells #[.int .i64 y.k, .int .i64 y.m, .int .i64 y.e, .string y.t, .bool y.b, .int .i64 y.f] 34) := by rw [hW1]; (repeat (first | (with_reducible refine bw5 ?_ _; (first | rfl | (simp; done) | omega | (simp; omega)); done) | with_reducible refine bw6 ?_ _ | with_reducible refine bw7 ?_ | with_reducible refine bw8 ?_))
  have k0 := cell_of_heap ev
  have j0 := cell_of_heap eu
  have yk := frozen_of_heap ev
  have yj := frozen_of_heap eu
  have z0 := lt_of_heap ev
  have z1 := lt_of_heap eu
  have EV := Lib.hid ev
  have EU := Lib.hid eu
  have HB1 := Lib.hid hB1
  clear hW1 hB1 ev eu
  refine wp_region_mix [0, 1, 3, 4] [2, 5, 6, 7] [5, 6, 7] (Below W1.heap.size W1) (by kernel_rfl) (by kernel_rfl) (Below.refl _ _).drew ?_
  iterate 4 (first | (apply first_step; (rw [List.getElem?_toArray]; (repeat rw [List.getElem?_cons_succ]); rw [List.getElem?_cons_zero]); rfl; (intro W hB; have hc := bcellB hB; go_simp; (first | done | rfl)); go_frame) | (apply first_skip; (rw [List.getElem?_toArray]; (repeat rw [List.getElem?_cons_succ]); rw [List.getElem?_cons_zero]); rfl; go_frame))
  refine first_done ?_
  apply tail_step; (rw [List.getElem?_toArray]; (repeat rw [List.getElem?_cons_succ]); rw [List.getElem?_cons_zero]); rfl; rfl; intro K hK; go_simp
  refine (HX.out _).mono ?_
  rintro r w2 ⟨rfl, hb2⟩
  have hb2' : Below W1.heap.size W1 w2 := (Below.refl _ W1).drew.trans hb2
  refine hK _ _ (fun _ => hb2') ?_
  clear hK K
  have HB2 := Lib.hid hb2'
  clear hb2 hb2'
  apply tail_step; (rw [List.getElem?_toArray]; (repeat rw [List.getElem?_cons_succ]); rw [List.getElem?_cons_zero]); rfl; rfl; intro K hK; go_simp
  refine (HY.out _).mono ?_
  rintro r w3 ⟨rfl, hb3⟩
  have hb3' : Below W1.heap.size W1 w3 := HB2.out.trans (hb3.mono HB2.out.size)
  refine hK _ _ (fun h => absurd (by decide) h) ?_
  clear hK K
  have ev := (hb3'.block _ (lt_of_heap EV.out)).trans EV.out
  have eu := (hb3'.block _ (lt_of_heap EU.out)).trans EU.out
  have HB3 : Hid (Below w.heap.size w w3) := HB1.out.trans (hb3'.mono HB1.out.size)
  have hw3 := HB3.out.size
  clear k0 j0 yk yj z0 z1 hb3 hb3'
  have k0 := cell_of_heap ev
  have j0 := cell_of_heap eu
  have yk := frozen_of_heap ev
  have yj := frozen_of_heap eu
  have z0 := lt_of_heap ev
  have z1 := lt_of_heap eu
  clear ev eu
  iterate 2 (apply tail_step; (rw [List.getElem?_toArray]; (repeat rw [List.getElem?_cons_succ]); rw [List.getElem?_cons_zero]); rfl; rfl; intro K hK; go_simp; refine hK _ _ (fun h => absurd (by decide) h) ?_; clear hK K)
  refine tail_done ?_
  go_wp2_with fail
  go_ret
  refine ⟨rfl, ?_⟩
  have hBW := HB3.out
  (repeat with_reducible (first | exact bw0 _ _ | exact hBW | refine bw1 ?_ ?_ _ | refine bw2 ?_ ?_ _ | refine bw3 ?_ _ | refine bw4 ?_)); all_goals (first | omega | (dsimp only; omega) | ((repeat with_reducible (first | refine lz1 ?_ | refine lz2 ?_ | refine lz3 ?_ | refine lz4 ?_)); omega))
theorem cmp_2 (HX : Hid (∀ w, Calls Tryz.prog 107 #[vagg x, vagg y] w fun e w' => e = .returned (vagg a) ∧ Below w.heap.size w w')) (HY : Hid (∀ w, Calls Tryz.prog 107 #[vagg y, vagg x] w fun e w' => e = .returned (vagg b) ∧ Below w.heap.size w w')) (n1 : (a.k != b.k) = true) (n2 : decide (a.k < b.k) = false) : Calls Tryz.prog 74 #[vagg x, vagg y] w (CPost w 1) := by
  unfold vagg at HX HY ⊢
  go_enter Tryz.func74, Tryz.ntmps74
  go_wp2_with fail
  refine abs_world ?_
  intro W1 hW1
  have hB1 : Below w.heap.size w W1 := by rw [hW1]; (repeat with_reducible (first | exact bw0 _ _ | exact hBW | refine bw1 ?_ ?_ _ | refine bw2 ?_ ?_ _ | refine bw3 ?_ _ | refine bw4 ?_)); all_goals (first | omega | (dsimp only; omega) | ((repeat with_reducible (first | refine lz1 ?_ | refine lz2 ?_ | refine lz3 ?_ | refine lz4 ?_)); omega))
  have ev : W1.heap[w.heap.size]? = some (.cells #[.int .i64 x.k, .int .i64 x.m, .int .i64 x.e, .string x.t, .bool x.b, .int .i64 x.f] 34) := by rw [hW1]; (repeat (first | (with_reducible refine bw5 ?_ _; (first | rfl | (simp; done) | omega | (simp; omega)); done) | with_reducible refine bw6 ?_ _ | with_reducible refine bw7 ?_ | with_reducible refine bw8 ?_))
  have eu : W1.heap[w.heap.size + 1]? = some (.cells #[.int .i64 y.k, .int .i64 y.m, .int .i64 y.e, .string y.t, .bool y.b, .int .i64 y.f] 34) := by rw [hW1]; (repeat (first | (with_reducible refine bw5 ?_ _; (first | rfl | (simp; done) | omega | (simp; omega)); done) | with_reducible refine bw6 ?_ _ | with_reducible refine bw7 ?_ | with_reducible refine bw8 ?_))
  have k0 := cell_of_heap ev
  have j0 := cell_of_heap eu
  have yk := frozen_of_heap ev
  have yj := frozen_of_heap eu
  have z0 := lt_of_heap ev
  have z1 := lt_of_heap eu
  have EV := Lib.hid ev
  have EU := Lib.hid eu
  have HB1 := Lib.hid hB1
  clear hW1 hB1 ev eu
  refine wp_region_mix [0, 1, 3, 4] [2, 5, 6, 7] [5, 6, 7] (Below W1.heap.size W1) (by kernel_rfl) (by kernel_rfl) (Below.refl _ _).drew ?_
  iterate 4 (first | (apply first_step; (rw [List.getElem?_toArray]; (repeat rw [List.getElem?_cons_succ]); rw [List.getElem?_cons_zero]); rfl; (intro W hB; have hc := bcellB hB; go_simp; (first | done | rfl)); go_frame) | (apply first_skip; (rw [List.getElem?_toArray]; (repeat rw [List.getElem?_cons_succ]); rw [List.getElem?_cons_zero]); rfl; go_frame))
  refine first_done ?_
  apply tail_step; (rw [List.getElem?_toArray]; (repeat rw [List.getElem?_cons_succ]); rw [List.getElem?_cons_zero]); rfl; rfl; intro K hK; go_simp
  refine (HX.out _).mono ?_
  rintro r w2 ⟨rfl, hb2⟩
  have hb2' : Below W1.heap.size W1 w2 := (Below.refl _ W1).drew.trans hb2
  refine hK _ _ (fun _ => hb2') ?_
  clear hK K
  have HB2 := Lib.hid hb2'
  clear hb2 hb2'
  apply tail_step; (rw [List.getElem?_toArray]; (repeat rw [List.getElem?_cons_succ]); rw [List.getElem?_cons_zero]); rfl; rfl; intro K hK; go_simp
  refine (HY.out _).mono ?_
  rintro r w3 ⟨rfl, hb3⟩
  have hb3' : Below W1.heap.size W1 w3 := HB2.out.trans (hb3.mono HB2.out.size)
  refine hK _ _ (fun h => absurd (by decide) h) ?_
  clear hK K
  have ev := (hb3'.block _ (lt_of_heap EV.out)).trans EV.out
  have eu := (hb3'.block _ (lt_of_heap EU.out)).trans EU.out
  have HB3 : Hid (Below w.heap.size w w3) := HB1.out.trans (hb3'.mono HB1.out.size)
  have hw3 := HB3.out.size
  clear k0 j0 yk yj z0 z1 hb3 hb3'
  have k0 := cell_of_heap ev
  have j0 := cell_of_heap eu
  have yk := frozen_of_heap ev
  have yj := frozen_of_heap eu
  have z0 := lt_of_heap ev
  have z1 := lt_of_heap eu
  clear ev eu
  iterate 2 (apply tail_step; (rw [List.getElem?_toArray]; (repeat rw [List.getElem?_cons_succ]); rw [List.getElem?_cons_zero]); rfl; rfl; intro K hK; go_simp; refine hK _ _ (fun h => absurd (by decide) h) ?_; clear hK K)
  refine tail_done ?_
  go_wp2_with fail
  go_ret
  refine ⟨rfl, ?_⟩
  have hBW := HB3.out
  (repeat with_reducible (first | exact bw0 _ _ | exact hBW | refine bw1 ?_ ?_ _ | refine bw2 ?_ ?_ _ | refine bw3 ?_ _ | refine bw4 ?_)); all_goals (first | omega | (dsimp only; omega) | ((repeat with_reducible (first | refine lz1 ?_ | refine lz2 ?_ | refine lz3 ?_ | refine lz4 ?_)); omega))
theorem cmp_k0 (HX : Hid (∀ w, Calls Tryz.prog 107 #[vagg x, vagg y] w fun e w' => e = .returned (vagg a) ∧ Below w.heap.size w w')) (HY : Hid (∀ w, Calls Tryz.prog 107 #[vagg y, vagg x] w fun e w' => e = .returned (vagg b) ∧ Below w.heap.size w w')) (n1 : (a.k != b.k) = false) (e1 : (a.k == 1) = false) (e2 : (a.k == 2) = false) (e3 : (a.k == 3) = false) (e4 : (a.k == 4) = false) : Calls Tryz.prog 74 #[vagg x, vagg y] w (CPost w 0) := by
  unfold vagg at HX HY ⊢
  go_enter Tryz.func74, Tryz.ntmps74
  go_wp2_with fail
  refine abs_world ?_
  intro W1 hW1
  have hB1 : Below w.heap.size w W1 := by rw [hW1]; (repeat with_reducible (first | exact bw0 _ _ | exact hBW | refine bw1 ?_ ?_ _ | refine bw2 ?_ ?_ _ | refine bw3 ?_ _ | refine bw4 ?_)); all_goals (first | omega | (dsimp only; omega) | ((repeat with_reducible (first | refine lz1 ?_ | refine lz2 ?_ | refine lz3 ?_ | refine lz4 ?_)); omega))
  have ev : W1.heap[w.heap.size]? = some (.cells #[.int .i64 x.k, .int .i64 x.m, .int .i64 x.e, .string x.t, .bool x.b, .int .i64 x.f] 34) := by rw [hW1]; (repeat (first | (with_reducible refine bw5 ?_ _; (first | rfl | (simp; done) | omega | (simp; omega)); done) | with_reducible refine bw6 ?_ _ | with_reducible refine bw7 ?_ | with_reducible refine bw8 ?_))
  have eu : W1.heap[w.heap.size + 1]? = some (.cells #[.int .i64 y.k, .int .i64 y.m, .int .i64 y.e, .string y.t, .bool y.b, .int .i64 y.f] 34) := by rw [hW1]; (repeat (first | (with_reducible refine bw5 ?_ _; (first | rfl | (simp; done) | omega | (simp; omega)); done) | with_reducible refine bw6 ?_ _ | with_reducible refine bw7 ?_ | with_reducible refine bw8 ?_))
  have k0 := cell_of_heap ev
  have j0 := cell_of_heap eu
  have yk := frozen_of_heap ev
  have yj := frozen_of_heap eu
  have z0 := lt_of_heap ev
  have z1 := lt_of_heap eu
  have EV := Lib.hid ev
  have EU := Lib.hid eu
  have HB1 := Lib.hid hB1
  clear hW1 hB1 ev eu
  refine wp_region_mix [0, 1, 3, 4] [2, 5, 6, 7] [5, 6, 7] (Below W1.heap.size W1) (by kernel_rfl) (by kernel_rfl) (Below.refl _ _).drew ?_
  iterate 4 (first | (apply first_step; (rw [List.getElem?_toArray]; (repeat rw [List.getElem?_cons_succ]); rw [List.getElem?_cons_zero]); rfl; (intro W hB; have hc := bcellB hB; go_simp; (first | done | rfl)); go_frame) | (apply first_skip; (rw [List.getElem?_toArray]; (repeat rw [List.getElem?_cons_succ]); rw [List.getElem?_cons_zero]); rfl; go_frame))
  refine first_done ?_
  apply tail_step; (rw [List.getElem?_toArray]; (repeat rw [List.getElem?_cons_succ]); rw [List.getElem?_cons_zero]); rfl; rfl; intro K hK; go_simp
  refine (HX.out _).mono ?_
  rintro r w2 ⟨rfl, hb2⟩
  have hb2' : Below W1.heap.size W1 w2 := (Below.refl _ W1).drew.trans hb2
  refine hK _ _ (fun _ => hb2') ?_
  clear hK K
  have HB2 := Lib.hid hb2'
  clear hb2 hb2'
  apply tail_step; (rw [List.getElem?_toArray]; (repeat rw [List.getElem?_cons_succ]); rw [List.getElem?_cons_zero]); rfl; rfl; intro K hK; go_simp
  refine (HY.out _).mono ?_
  rintro r w3 ⟨rfl, hb3⟩
  have hb3' : Below W1.heap.size W1 w3 := HB2.out.trans (hb3.mono HB2.out.size)
  refine hK _ _ (fun h => absurd (by decide) h) ?_
  clear hK K
  have ev := (hb3'.block _ (lt_of_heap EV.out)).trans EV.out
  have eu := (hb3'.block _ (lt_of_heap EU.out)).trans EU.out
  have HB3 : Hid (Below w.heap.size w w3) := HB1.out.trans (hb3'.mono HB1.out.size)
  have hw3 := HB3.out.size
  clear k0 j0 yk yj z0 z1 hb3 hb3'
  have k0 := cell_of_heap ev
  have j0 := cell_of_heap eu
  have yk := frozen_of_heap ev
  have yj := frozen_of_heap eu
  have z0 := lt_of_heap ev
  have z1 := lt_of_heap eu
  clear ev eu
  iterate 2 (apply tail_step; (rw [List.getElem?_toArray]; (repeat rw [List.getElem?_cons_succ]); rw [List.getElem?_cons_zero]); rfl; rfl; intro K hK; go_simp; refine hK _ _ (fun h => absurd (by decide) h) ?_; clear hK K)
  refine tail_done ?_
  go_wp2_with fail
  go_ret
  refine ⟨rfl, ?_⟩
  have hBW := HB3.out
  (repeat with_reducible (first | exact bw0 _ _ | exact hBW | refine bw1 ?_ ?_ _ | refine bw2 ?_ ?_ _ | refine bw3 ?_ _ | refine bw4 ?_)); all_goals (first | omega | (dsimp only; omega) | ((repeat with_reducible (first | refine lz1 ?_ | refine lz2 ?_ | refine lz3 ?_ | refine lz4 ?_)); omega))
theorem cmp_k1 (HX : Hid (∀ w, Calls Tryz.prog 107 #[vagg x, vagg y] w fun e w' => e = .returned (vagg a) ∧ Below w.heap.size w w')) (HY : Hid (∀ w, Calls Tryz.prog 107 #[vagg y, vagg x] w fun e w' => e = .returned (vagg b) ∧ Below w.heap.size w w')) (n1 : (a.k != b.k) = false) (e1 : (a.k == 1) = true) (HC : Hid (∀ w, Calls Tryz.prog 108 #[.agg #[.int .i64 a.m, .int .i64 a.e], .agg #[.int .i64 b.m, .int .i64 b.e]] w fun r w' => r = .returned (.int .i64 (cmpN a.m a.e b.m b.e)) ∧ Below w.heap.size w w')) : Calls Tryz.prog 74 #[vagg x, vagg y] w (CPost w (cmpN a.m a.e b.m b.e)) := by
  generalize cmpN a.m a.e b.m b.e = R at HC ⊢
  unfold vagg at HX HY ⊢
  go_enter Tryz.func74, Tryz.ntmps74
  go_wp2_with fail
  refine abs_world ?_
  intro W1 hW1
  have hB1 : Below w.heap.size w W1 := by rw [hW1]; (repeat with_reducible (first | exact bw0 _ _ | exact hBW | refine bw1 ?_ ?_ _ | refine bw2 ?_ ?_ _ | refine bw3 ?_ _ | refine bw4 ?_)); all_goals (first | omega | (dsimp only; omega) | ((repeat with_reducible (first | refine lz1 ?_ | refine lz2 ?_ | refine lz3 ?_ | refine lz4 ?_)); omega))
  have ev : W1.heap[w.heap.size]? = some (.cells #[.int .i64 x.k, .int .i64 x.m, .int .i64 x.e, .string x.t, .bool x.b, .int .i64 x.f] 34) := by rw [hW1]; (repeat (first | (with_reducible refine bw5 ?_ _; (first | rfl | (simp; done) | omega | (simp; omega)); done) | with_reducible refine bw6 ?_ _ | with_reducible refine bw7 ?_ | with_reducible refine bw8 ?_))
  have eu : W1.heap[w.heap.size + 1]? = some (.cells #[.int .i64 y.k, .int .i64 y.m, .int .i64 y.e, .string y.t, .bool y.b, .int .i64 y.f] 34) := by rw [hW1]; (repeat (first | (with_reducible refine bw5 ?_ _; (first | rfl | (simp; done) | omega | (simp; omega)); done) | with_reducible refine bw6 ?_ _ | with_reducible refine bw7 ?_ | with_reducible refine bw8 ?_))
  have k0 := cell_of_heap ev
  have j0 := cell_of_heap eu
  have yk := frozen_of_heap ev
  have yj := frozen_of_heap eu
  have z0 := lt_of_heap ev
  have z1 := lt_of_heap eu
  have EV := Lib.hid ev
  have EU := Lib.hid eu
  have HB1 := Lib.hid hB1
  clear hW1 hB1 ev eu
  refine wp_region_mix [0, 1, 3, 4] [2, 5, 6, 7] [5, 6, 7] (Below W1.heap.size W1) (by kernel_rfl) (by kernel_rfl) (Below.refl _ _).drew ?_
  iterate 4 (first | (apply first_step; (rw [List.getElem?_toArray]; (repeat rw [List.getElem?_cons_succ]); rw [List.getElem?_cons_zero]); rfl; (intro W hB; have hc := bcellB hB; go_simp; (first | done | rfl)); go_frame) | (apply first_skip; (rw [List.getElem?_toArray]; (repeat rw [List.getElem?_cons_succ]); rw [List.getElem?_cons_zero]); rfl; go_frame))
  refine first_done ?_
  apply tail_step; (rw [List.getElem?_toArray]; (repeat rw [List.getElem?_cons_succ]); rw [List.getElem?_cons_zero]); rfl; rfl; intro K hK; go_simp
  refine (HX.out _).mono ?_
  rintro r w2 ⟨rfl, hb2⟩
  have hb2' : Below W1.heap.size W1 w2 := (Below.refl _ W1).drew.trans hb2
  refine hK _ _ (fun _ => hb2') ?_
  clear hK K
  have HB2 := Lib.hid hb2'
  clear hb2 hb2'
  apply tail_step; (rw [List.getElem?_toArray]; (repeat rw [List.getElem?_cons_succ]); rw [List.getElem?_cons_zero]); rfl; rfl; intro K hK; go_simp
  refine (HY.out _).mono ?_
  rintro r w3 ⟨rfl, hb3⟩
  have hb3' : Below W1.heap.size W1 w3 := HB2.out.trans (hb3.mono HB2.out.size)
  refine hK _ _ (fun h => absurd (by decide) h) ?_
  clear hK K
  have ev := (hb3'.block _ (lt_of_heap EV.out)).trans EV.out
  have eu := (hb3'.block _ (lt_of_heap EU.out)).trans EU.out
  have HB3 : Hid (Below w.heap.size w w3) := HB1.out.trans (hb3'.mono HB1.out.size)
  have hw3 := HB3.out.size
  clear k0 j0 yk yj z0 z1 hb3 hb3'
  have k0 := cell_of_heap ev
  have j0 := cell_of_heap eu
  have yk := frozen_of_heap ev
  have yj := frozen_of_heap eu
  have z0 := lt_of_heap ev
  have z1 := lt_of_heap eu
  clear ev eu
  iterate 2 (apply tail_step; (rw [List.getElem?_toArray]; (repeat rw [List.getElem?_cons_succ]); rw [List.getElem?_cons_zero]); rfl; rfl; intro K hK; go_simp; refine hK _ _ (fun h => absurd (by decide) h) ?_; clear hK K)
  refine tail_done ?_
  go_wp2_with fail
  refine (HC.out _).mono ?_
  rintro r w4 ⟨rfl, hb4⟩
  have HB4 : Hid (Below w.heap.size w w4) := by
    refine Below.trans ?_ (hb4.mono (by simp; exact hw3))
    have hBW := HB3.out
    (repeat with_reducible (first | exact bw0 _ _ | exact hBW | refine bw1 ?_ ?_ _ | refine bw2 ?_ ?_ _ | refine bw3 ?_ _ | refine bw4 ?_)); all_goals (first | omega | (dsimp only; omega) | ((repeat with_reducible (first | refine lz1 ?_ | refine lz2 ?_ | refine lz3 ?_ | refine lz4 ?_)); omega))
  clear hb4 k0 j0 yk yj z0 z1
  go_wp2_with fail
  go_ret
  exact ⟨rfl, HB4.out⟩
theorem cmp_k3 (HX : Hid (∀ w, Calls Tryz.prog 107 #[vagg x, vagg y] w fun e w' => e = .returned (vagg a) ∧ Below w.heap.size w w')) (HY : Hid (∀ w, Calls Tryz.prog 107 #[vagg y, vagg x] w fun e w' => e = .returned (vagg b) ∧ Below w.heap.size w w')) (n1 : (a.k != b.k) = false) (e1 : (a.k == 1) = false) (e2 : (a.k == 2) = false) (e3 : (a.k == 3) = true) : Calls Tryz.prog 74 #[vagg x, vagg y] w (CPost w (bOrd a.b b.b)) := by
  have HC := Lib.hid (truthOrder_any a.b b.b)
  generalize bOrd a.b b.b = R at HC ⊢
  unfold vagg at HX HY ⊢
  go_enter Tryz.func74, Tryz.ntmps74
  go_wp2_with fail
  refine abs_world ?_
  intro W1 hW1
  have hB1 : Below w.heap.size w W1 := by rw [hW1]; (repeat with_reducible (first | exact bw0 _ _ | exact hBW | refine bw1 ?_ ?_ _ | refine bw2 ?_ ?_ _ | refine bw3 ?_ _ | refine bw4 ?_)); all_goals (first | omega | (dsimp only; omega) | ((repeat with_reducible (first | refine lz1 ?_ | refine lz2 ?_ | refine lz3 ?_ | refine lz4 ?_)); omega))
  have ev : W1.heap[w.heap.size]? = some (.cells #[.int .i64 x.k, .int .i64 x.m, .int .i64 x.e, .string x.t, .bool x.b, .int .i64 x.f] 34) := by rw [hW1]; (repeat (first | (with_reducible refine bw5 ?_ _; (first | rfl | (simp; done) | omega | (simp; omega)); done) | with_reducible refine bw6 ?_ _ | with_reducible refine bw7 ?_ | with_reducible refine bw8 ?_))
  have eu : W1.heap[w.heap.size + 1]? = some (.cells #[.int .i64 y.k, .int .i64 y.m, .int .i64 y.e, .string y.t, .bool y.b, .int .i64 y.f] 34) := by rw [hW1]; (repeat (first | (with_reducible refine bw5 ?_ _; (first | rfl | (simp; done) | omega | (simp; omega)); done) | with_reducible refine bw6 ?_ _ | with_reducible refine bw7 ?_ | with_reducible refine bw8 ?_))
  have k0 := cell_of_heap ev
  have j0 := cell_of_heap eu
  have yk := frozen_of_heap ev
  have yj := frozen_of_heap eu
  have z0 := lt_of_heap ev
  have z1 := lt_of_heap eu
  have EV := Lib.hid ev
  have EU := Lib.hid eu
  have HB1 := Lib.hid hB1
  clear hW1 hB1 ev eu
  refine wp_region_mix [0, 1, 3, 4] [2, 5, 6, 7] [5, 6, 7] (Below W1.heap.size W1) (by kernel_rfl) (by kernel_rfl) (Below.refl _ _).drew ?_
  iterate 4 (first | (apply first_step; (rw [List.getElem?_toArray]; (repeat rw [List.getElem?_cons_succ]); rw [List.getElem?_cons_zero]); rfl; (intro W hB; have hc := bcellB hB; go_simp; (first | done | rfl)); go_frame) | (apply first_skip; (rw [List.getElem?_toArray]; (repeat rw [List.getElem?_cons_succ]); rw [List.getElem?_cons_zero]); rfl; go_frame))
  refine first_done ?_
  apply tail_step; (rw [List.getElem?_toArray]; (repeat rw [List.getElem?_cons_succ]); rw [List.getElem?_cons_zero]); rfl; rfl; intro K hK; go_simp
  refine (HX.out _).mono ?_
  rintro r w2 ⟨rfl, hb2⟩
  have hb2' : Below W1.heap.size W1 w2 := (Below.refl _ W1).drew.trans hb2
  refine hK _ _ (fun _ => hb2') ?_
  clear hK K
  have HB2 := Lib.hid hb2'
  clear hb2 hb2'
  apply tail_step; (rw [List.getElem?_toArray]; (repeat rw [List.getElem?_cons_succ]); rw [List.getElem?_cons_zero]); rfl; rfl; intro K hK; go_simp
  refine (HY.out _).mono ?_
  rintro r w3 ⟨rfl, hb3⟩
  have hb3' : Below W1.heap.size W1 w3 := HB2.out.trans (hb3.mono HB2.out.size)
  refine hK _ _ (fun h => absurd (by decide) h) ?_
  clear hK K
  have ev := (hb3'.block _ (lt_of_heap EV.out)).trans EV.out
  have eu := (hb3'.block _ (lt_of_heap EU.out)).trans EU.out
  have HB3 : Hid (Below w.heap.size w w3) := HB1.out.trans (hb3'.mono HB1.out.size)
  have hw3 := HB3.out.size
  clear k0 j0 yk yj z0 z1 hb3 hb3'
  have k0 := cell_of_heap ev
  have j0 := cell_of_heap eu
  have yk := frozen_of_heap ev
  have yj := frozen_of_heap eu
  have z0 := lt_of_heap ev
  have z1 := lt_of_heap eu
  clear ev eu
  iterate 2 (apply tail_step; (rw [List.getElem?_toArray]; (repeat rw [List.getElem?_cons_succ]); rw [List.getElem?_cons_zero]); rfl; rfl; intro K hK; go_simp; refine hK _ _ (fun h => absurd (by decide) h) ?_; clear hK K)
  refine tail_done ?_
  go_wp2_with fail
  refine (HC.out _).mono ?_
  rintro r w4 ⟨rfl, rfl⟩
  go_wp2_with fail
  go_ret
  refine ⟨rfl, ?_⟩
  have hBW := HB3.out
  (repeat with_reducible (first | exact bw0 _ _ | exact hBW | refine bw1 ?_ ?_ _ | refine bw2 ?_ ?_ _ | refine bw3 ?_ _ | refine bw4 ?_)); all_goals (first | omega | (dsimp only; omega) | ((repeat with_reducible (first | refine lz1 ?_ | refine lz2 ?_ | refine lz3 ?_ | refine lz4 ?_)); omega))
theorem cmp_k4a (HX : Hid (∀ w, Calls Tryz.prog 107 #[vagg x, vagg y] w fun e w' => e = .returned (vagg a) ∧ Below w.heap.size w w')) (HY : Hid (∀ w, Calls Tryz.prog 107 #[vagg y, vagg x] w fun e w' => e = .returned (vagg b) ∧ Below w.heap.size w w')) (n1 : (a.k != b.k) = false) (e1 : (a.k == 1) = false) (e2 : (a.k == 2) = false) (e3 : (a.k == 3) = false) (e4 : (a.k == 4) = true) (f1 : decide (a.f < b.f) = true) : Calls Tryz.prog 74 #[vagg x, vagg y] w (CPost w (-1)) := by
  unfold vagg at HX HY ⊢
  go_enter Tryz.func74, Tryz.ntmps74
  go_wp2_with fail
  refine abs_world ?_
  intro W1 hW1
  have hB1 : Below w.heap.size w W1 := by rw [hW1]; (repeat with_reducible (first | exact bw0 _ _ | exact hBW | refine bw1 ?_ ?_ _ | refine bw2 ?_ ?_ _ | refine bw3 ?_ _ | refine bw4 ?_)); all_goals (first | omega | (dsimp only; omega) | ((repeat with_reducible (first | refine lz1 ?_ | refine lz2 ?_ | refine lz3 ?_ | refine lz4 ?_)); omega))
  have ev : W1.heap[w.heap.size]? = some (.cells #[.int .i64 x.k, .int .i64 x.m, .int .i64 x.e, .string x.t, .bool x.b, .int .i64 x.f] 34) := by rw [hW1]; (repeat (first | (with_reducible refine bw5 ?_ _; (first | rfl | (simp; done) | omega | (simp; omega)); done) | with_reducible refine bw6 ?_ _ | with_reducible refine bw7 ?_ | with_reducible refine bw8 ?_))
  have eu : W1.heap[w.heap.size + 1]? = some (.cells #[.int .i64 y.k, .int .i64 y.m, .int .i64 y.e, .string y.t, .bool y.b, .int .i64 y.f] 34) := by rw [hW1]; (repeat (first | (with_reducible refine bw5 ?_ _; (first | rfl | (simp; done) | omega | (simp; omega)); done) | with_reducible refine bw6 ?_ _ | with_reducible refine bw7 ?_ | with_reducible refine bw8 ?_))
  have k0 := cell_of_heap ev
  have j0 := cell_of_heap eu
  have yk := frozen_of_heap ev
  have yj := frozen_of_heap eu
  have z0 := lt_of_heap ev
  have z1 := lt_of_heap eu
  have EV := Lib.hid ev
  have EU := Lib.hid eu
  have HB1 := Lib.hid hB1
  clear hW1 hB1 ev eu
  refine wp_region_mix [0, 1, 3, 4] [2, 5, 6, 7] [5, 6, 7] (Below W1.heap.size W1) (by kernel_rfl) (by kernel_rfl) (Below.refl _ _).drew ?_
  iterate 4 (first | (apply first_step; (rw [List.getElem?_toArray]; (repeat rw [List.getElem?_cons_succ]); rw [List.getElem?_cons_zero]); rfl; (intro W hB; have hc := bcellB hB; go_simp; (first | done | rfl)); go_frame) | (apply first_skip; (rw [List.getElem?_toArray]; (repeat rw [List.getElem?_cons_succ]); rw [List.getElem?_cons_zero]); rfl; go_frame))
  refine first_done ?_
  apply tail_step; (rw [List.getElem?_toArray]; (repeat rw [List.getElem?_cons_succ]); rw [List.getElem?_cons_zero]); rfl; rfl; intro K hK; go_simp
  refine (HX.out _).mono ?_
  rintro r w2 ⟨rfl, hb2⟩
  have hb2' : Below W1.heap.size W1 w2 := (Below.refl _ W1).drew.trans hb2
  refine hK _ _ (fun _ => hb2') ?_
  clear hK K
  have HB2 := Lib.hid hb2'
  clear hb2 hb2'
  apply tail_step; (rw [List.getElem?_toArray]; (repeat rw [List.getElem?_cons_succ]); rw [List.getElem?_cons_zero]); rfl; rfl; intro K hK; go_simp
  refine (HY.out _).mono ?_
  rintro r w3 ⟨rfl, hb3⟩
  have hb3' : Below W1.heap.size W1 w3 := HB2.out.trans (hb3.mono HB2.out.size)
  refine hK _ _ (fun h => absurd (by decide) h) ?_
  clear hK K
  have ev := (hb3'.block _ (lt_of_heap EV.out)).trans EV.out
  have eu := (hb3'.block _ (lt_of_heap EU.out)).trans EU.out
  have HB3 : Hid (Below w.heap.size w w3) := HB1.out.trans (hb3'.mono HB1.out.size)
  have hw3 := HB3.out.size
  clear k0 j0 yk yj z0 z1 hb3 hb3'
  have k0 := cell_of_heap ev
  have j0 := cell_of_heap eu
  have yk := frozen_of_heap ev
  have yj := frozen_of_heap eu
  have z0 := lt_of_heap ev
  have z1 := lt_of_heap eu
  clear ev eu
  iterate 2 (apply tail_step; (rw [List.getElem?_toArray]; (repeat rw [List.getElem?_cons_succ]); rw [List.getElem?_cons_zero]); rfl; rfl; intro K hK; go_simp; refine hK _ _ (fun h => absurd (by decide) h) ?_; clear hK K)
  refine tail_done ?_
  go_wp2_with fail
  go_ret
  refine ⟨rfl, ?_⟩
  have hBW := HB3.out
  (repeat with_reducible (first | exact bw0 _ _ | exact hBW | refine bw1 ?_ ?_ _ | refine bw2 ?_ ?_ _ | refine bw3 ?_ _ | refine bw4 ?_)); all_goals (first | omega | (dsimp only; omega) | ((repeat with_reducible (first | refine lz1 ?_ | refine lz2 ?_ | refine lz3 ?_ | refine lz4 ?_)); omega))
theorem cmp_k4b (HX : Hid (∀ w, Calls Tryz.prog 107 #[vagg x, vagg y] w fun e w' => e = .returned (vagg a) ∧ Below w.heap.size w w')) (HY : Hid (∀ w, Calls Tryz.prog 107 #[vagg y, vagg x] w fun e w' => e = .returned (vagg b) ∧ Below w.heap.size w w')) (n1 : (a.k != b.k) = false) (e1 : (a.k == 1) = false) (e2 : (a.k == 2) = false) (e3 : (a.k == 3) = false) (e4 : (a.k == 4) = true) (f1 : decide (a.f < b.f) = false) (f2 : decide (b.f < a.f) = true) : Calls Tryz.prog 74 #[vagg x, vagg y] w (CPost w 1) := by
  unfold vagg at HX HY ⊢
  go_enter Tryz.func74, Tryz.ntmps74
  go_wp2_with fail
  refine abs_world ?_
  intro W1 hW1
  have hB1 : Below w.heap.size w W1 := by rw [hW1]; (repeat with_reducible (first | exact bw0 _ _ | exact hBW | refine bw1 ?_ ?_ _ | refine bw2 ?_ ?_ _ | refine bw3 ?_ _ | refine bw4 ?_)); all_goals (first | omega | (dsimp only; omega) | ((repeat with_reducible (first | refine lz1 ?_ | refine lz2 ?_ | refine lz3 ?_ | refine lz4 ?_)); omega))
  have ev : W1.heap[w.heap.size]? = some (.cells #[.int .i64 x.k, .int .i64 x.m, .int .i64 x.e, .string x.t, .bool x.b, .int .i64 x.f] 34) := by rw [hW1]; (repeat (first | (with_reducible refine bw5 ?_ _; (first | rfl | (simp; done) | omega | (simp; omega)); done) | with_reducible refine bw6 ?_ _ | with_reducible refine bw7 ?_ | with_reducible refine bw8 ?_))
  have eu : W1.heap[w.heap.size + 1]? = some (.cells #[.int .i64 y.k, .int .i64 y.m, .int .i64 y.e, .string y.t, .bool y.b, .int .i64 y.f] 34) := by rw [hW1]; (repeat (first | (with_reducible refine bw5 ?_ _; (first | rfl | (simp; done) | omega | (simp; omega)); done) | with_reducible refine bw6 ?_ _ | with_reducible refine bw7 ?_ | with_reducible refine bw8 ?_))
  have k0 := cell_of_heap ev
  have j0 := cell_of_heap eu
  have yk := frozen_of_heap ev
  have yj := frozen_of_heap eu
  have z0 := lt_of_heap ev
  have z1 := lt_of_heap eu
  have EV := Lib.hid ev
  have EU := Lib.hid eu
  have HB1 := Lib.hid hB1
  clear hW1 hB1 ev eu
  refine wp_region_mix [0, 1, 3, 4] [2, 5, 6, 7] [5, 6, 7] (Below W1.heap.size W1) (by kernel_rfl) (by kernel_rfl) (Below.refl _ _).drew ?_
  iterate 4 (first | (apply first_step; (rw [List.getElem?_toArray]; (repeat rw [List.getElem?_cons_succ]); rw [List.getElem?_cons_zero]); rfl; (intro W hB; have hc := bcellB hB; go_simp; (first | done | rfl)); go_frame) | (apply first_skip; (rw [List.getElem?_toArray]; (repeat rw [List.getElem?_cons_succ]); rw [List.getElem?_cons_zero]); rfl; go_frame))
  refine first_done ?_
  apply tail_step; (rw [List.getElem?_toArray]; (repeat rw [List.getElem?_cons_succ]); rw [List.getElem?_cons_zero]); rfl; rfl; intro K hK; go_simp
  refine (HX.out _).mono ?_
  rintro r w2 ⟨rfl, hb2⟩
  have hb2' : Below W1.heap.size W1 w2 := (Below.refl _ W1).drew.trans hb2
  refine hK _ _ (fun _ => hb2') ?_
  clear hK K
  have HB2 := Lib.hid hb2'
  clear hb2 hb2'
  apply tail_step; (rw [List.getElem?_toArray]; (repeat rw [List.getElem?_cons_succ]); rw [List.getElem?_cons_zero]); rfl; rfl; intro K hK; go_simp
  refine (HY.out _).mono ?_
  rintro r w3 ⟨rfl, hb3⟩
  have hb3' : Below W1.heap.size W1 w3 := HB2.out.trans (hb3.mono HB2.out.size)
  refine hK _ _ (fun h => absurd (by decide) h) ?_
  clear hK K
  have ev := (hb3'.block _ (lt_of_heap EV.out)).trans EV.out
  have eu := (hb3'.block _ (lt_of_heap EU.out)).trans EU.out
  have HB3 : Hid (Below w.heap.size w w3) := HB1.out.trans (hb3'.mono HB1.out.size)
  have hw3 := HB3.out.size
  clear k0 j0 yk yj z0 z1 hb3 hb3'
  have k0 := cell_of_heap ev
  have j0 := cell_of_heap eu
  have yk := frozen_of_heap ev
  have yj := frozen_of_heap eu
  have z0 := lt_of_heap ev
  have z1 := lt_of_heap eu
  clear ev eu
  iterate 2 (apply tail_step; (rw [List.getElem?_toArray]; (repeat rw [List.getElem?_cons_succ]); rw [List.getElem?_cons_zero]); rfl; rfl; intro K hK; go_simp; refine hK _ _ (fun h => absurd (by decide) h) ?_; clear hK K)
  refine tail_done ?_
  go_wp2_with fail
  go_ret
  refine ⟨rfl, ?_⟩
  have hBW := HB3.out
  (repeat with_reducible (first | exact bw0 _ _ | exact hBW | refine bw1 ?_ ?_ _ | refine bw2 ?_ ?_ _ | refine bw3 ?_ _ | refine bw4 ?_)); all_goals (first | omega | (dsimp only; omega) | ((repeat with_reducible (first | refine lz1 ?_ | refine lz2 ?_ | refine lz3 ?_ | refine lz4 ?_)); omega))
theorem cmp_k4c (HX : Hid (∀ w, Calls Tryz.prog 107 #[vagg x, vagg y] w fun e w' => e = .returned (vagg a) ∧ Below w.heap.size w w')) (HY : Hid (∀ w, Calls Tryz.prog 107 #[vagg y, vagg x] w fun e w' => e = .returned (vagg b) ∧ Below w.heap.size w w')) (n1 : (a.k != b.k) = false) (e1 : (a.k == 1) = false) (e2 : (a.k == 2) = false) (e3 : (a.k == 3) = false) (e4 : (a.k == 4) = true) (f1 : decide (a.f < b.f) = false) (f2 : decide (b.f < a.f) = false) : Calls Tryz.prog 74 #[vagg x, vagg y] w (CPost w 0) := by
  unfold vagg at HX HY ⊢
  go_enter Tryz.func74, Tryz.ntmps74
  go_wp2_with fail
  refine abs_world ?_
  intro W1 hW1
  have hB1 : Below w.heap.size w W1 := by rw [hW1]; (repeat with_reducible (first | exact bw0 _ _ | exact hBW | refine bw1 ?_ ?_ _ | refine bw2 ?_ ?_ _ | refine bw3 ?_ _ | refine bw4 ?_)); all_goals (first | omega | (dsimp only; omega) | ((repeat with_reducible (first | refine lz1 ?_ | refine lz2 ?_ | refine lz3 ?_ | refine lz4 ?_)); omega))
  have ev : W1.heap[w.heap.size]? = some (.cells #[.int .i64 x.k, .int .i64 x.m, .int .i64 x.e, .string x.t, .bool x.b, .int .i64 x.f] 34) := by rw [hW1]; (repeat (first | (with_reducible refine bw5 ?_ _; (first | rfl | (simp; done) | omega | (simp; omega)); done) | with_reducible refine bw6 ?_ _ | with_reducible refine bw7 ?_ | with_reducible refine bw8 ?_))
  have eu : W1.heap[w.heap.size + 1]? = some (.cells #[.int .i64 y.k, .int .i64 y.m, .int .i64 y.e, .string y.t, .bool y.b, .int .i64 y.f] 34) := by rw [hW1]; (repeat (first | (with_reducible refine bw5 ?_ _; (first | rfl | (simp; done) | omega | (simp; omega)); done) | with_reducible refine bw6 ?_ _ | with_reducible refine bw7 ?_ | with_reducible refine bw8 ?_))
  have k0 := cell_of_heap ev
  have j0 := cell_of_heap eu
  have yk := frozen_of_heap ev
  have yj := frozen_of_heap eu
  have z0 := lt_of_heap ev
  have z1 := lt_of_heap eu
  have EV := Lib.hid ev
  have EU := Lib.hid eu
  have HB1 := Lib.hid hB1
  clear hW1 hB1 ev eu
  refine wp_region_mix [0, 1, 3, 4] [2, 5, 6, 7] [5, 6, 7] (Below W1.heap.size W1) (by kernel_rfl) (by kernel_rfl) (Below.refl _ _).drew ?_
  iterate 4 (first | (apply first_step; (rw [List.getElem?_toArray]; (repeat rw [List.getElem?_cons_succ]); rw [List.getElem?_cons_zero]); rfl; (intro W hB; have hc := bcellB hB; go_simp; (first | done | rfl)); go_frame) | (apply first_skip; (rw [List.getElem?_toArray]; (repeat rw [List.getElem?_cons_succ]); rw [List.getElem?_cons_zero]); rfl; go_frame))
  refine first_done ?_
  apply tail_step; (rw [List.getElem?_toArray]; (repeat rw [List.getElem?_cons_succ]); rw [List.getElem?_cons_zero]); rfl; rfl; intro K hK; go_simp
  refine (HX.out _).mono ?_
  rintro r w2 ⟨rfl, hb2⟩
  have hb2' : Below W1.heap.size W1 w2 := (Below.refl _ W1).drew.trans hb2
  refine hK _ _ (fun _ => hb2') ?_
  clear hK K
  have HB2 := Lib.hid hb2'
  clear hb2 hb2'
  apply tail_step; (rw [List.getElem?_toArray]; (repeat rw [List.getElem?_cons_succ]); rw [List.getElem?_cons_zero]); rfl; rfl; intro K hK; go_simp
  refine (HY.out _).mono ?_
  rintro r w3 ⟨rfl, hb3⟩
  have hb3' : Below W1.heap.size W1 w3 := HB2.out.trans (hb3.mono HB2.out.size)
  refine hK _ _ (fun h => absurd (by decide) h) ?_
  clear hK K
  have ev := (hb3'.block _ (lt_of_heap EV.out)).trans EV.out
  have eu := (hb3'.block _ (lt_of_heap EU.out)).trans EU.out
  have HB3 : Hid (Below w.heap.size w w3) := HB1.out.trans (hb3'.mono HB1.out.size)
  have hw3 := HB3.out.size
  clear k0 j0 yk yj z0 z1 hb3 hb3'
  have k0 := cell_of_heap ev
  have j0 := cell_of_heap eu
  have yk := frozen_of_heap ev
  have yj := frozen_of_heap eu
  have z0 := lt_of_heap ev
  have z1 := lt_of_heap eu
  clear ev eu
  iterate 2 (apply tail_step; (rw [List.getElem?_toArray]; (repeat rw [List.getElem?_cons_succ]); rw [List.getElem?_cons_zero]); rfl; rfl; intro K hK; go_simp; refine hK _ _ (fun h => absurd (by decide) h) ?_; clear hK K)
  refine tail_done ?_
  go_wp2_with fail
  go_ret
  refine ⟨rfl, ?_⟩
  have hBW := HB3.out
  (repeat with_reducible (first | exact bw0 _ _ | exact hBW | refine bw1 ?_ ?_ _ | refine bw2 ?_ ?_ _ | refine bw3 ?_ _ | refine bw4 ?_)); all_goals (first | omega | (dsimp only; omega) | ((repeat with_reducible (first | refine lz1 ?_ | refine lz2 ?_ | refine lz3 ?_ | refine lz4 ?_)); omega))
theorem cmp_k2 (HX : Hid (∀ w, Calls Tryz.prog 107 #[vagg x, vagg y] w fun e w' => e = .returned (vagg a) ∧ Below w.heap.size w w')) (HY : Hid (∀ w, Calls Tryz.prog 107 #[vagg y, vagg x] w fun e w' => e = .returned (vagg b) ∧ Below w.heap.size w w')) (n1 : (a.k != b.k) = false) (e1 : (a.k == 1) = false) (e2 : (a.k == 2) = true) (hta : a.t.size ≤ 255) (htb : b.t.size ≤ 255) : Calls Tryz.prog 74 #[vagg x, vagg y] w (CPost w (Lib.compareBytes (upL a.t.data.toList) (upL b.t.data.toList))) := by
  have HFA := Lib.hid (fold_any a.t hta)
  have HFB := Lib.hid (fold_any b.t htb)
  have HC := Lib.hid (fun w => Tryz.strings_Compare ⟨(upL a.t.data.toList).toArray⟩ ⟨(upL b.t.data.toList).toArray⟩ w)
  simp only at HC
  generalize Lib.compareBytes (upL a.t.data.toList) (upL b.t.data.toList) = R at HC ⊢
  generalize (⟨(upL a.t.data.toList).toArray⟩ : ByteArray) = TA at HFA HC
  generalize (⟨(upL b.t.data.toList).toArray⟩ : ByteArray) = TB at HFB HC
  unfold vagg at HX HY ⊢
  go_enter Tryz.func74, Tryz.ntmps74
  go_wp2_with fail
  refine abs_world ?_
  intro W1 hW1
  have hB1 : Below w.heap.size w W1 := by rw [hW1]; (repeat with_reducible (first | exact bw0 _ _ | exact hBW | refine bw1 ?_ ?_ _ | refine bw2 ?_ ?_ _ | refine bw3 ?_ _ | refine bw4 ?_)); all_goals (first | omega | (dsimp only; omega) | ((repeat with_reducible (first | refine lz1 ?_ | refine lz2 ?_ | refine lz3 ?_ | refine lz4 ?_)); omega))
  have ev : W1.heap[w.heap.size]? = some (.cells #[.int .i64 x.k, .int .i64 x.m, .int .i64 x.e, .string x.t, .bool x.b, .int .i64 x.f] 34) := by rw [hW1]; (repeat (first | (with_reducible refine bw5 ?_ _; (first | rfl | (simp; done) | omega | (simp; omega)); done) | with_reducible refine bw6 ?_ _ | with_reducible refine bw7 ?_ | with_reducible refine bw8 ?_))
  have eu : W1.heap[w.heap.size + 1]? = some (.cells #[.int .i64 y.k, .int .i64 y.m, .int .i64 y.e, .string y.t, .bool y.b, .int .i64 y.f] 34) := by rw [hW1]; (repeat (first | (with_reducible refine bw5 ?_ _; (first | rfl | (simp; done) | omega | (simp; omega)); done) | with_reducible refine bw6 ?_ _ | with_reducible refine bw7 ?_ | with_reducible refine bw8 ?_))
  have k0 := cell_of_heap ev
  have j0 := cell_of_heap eu
  have yk := frozen_of_heap ev
  have yj := frozen_of_heap eu
  have z0 := lt_of_heap ev
  have z1 := lt_of_heap eu
  have EV := Lib.hid ev
  have EU := Lib.hid eu
  have HB1 := Lib.hid hB1
  clear hW1 hB1 ev eu
  refine wp_region_mix [0, 1, 3, 4] [2, 5, 6, 7] [5, 6, 7] (Below W1.heap.size W1) (by kernel_rfl) (by kernel_rfl) (Below.refl _ _).drew ?_
  iterate 4 (first | (apply first_step; (rw [List.getElem?_toArray]; (repeat rw [List.getElem?_cons_succ]); rw [List.getElem?_cons_zero]); rfl; (intro W hB; have hc := bcellB hB; go_simp; (first | done | rfl)); go_frame) | (apply first_skip; (rw [List.getElem?_toArray]; (repeat rw [List.getElem?_cons_succ]); rw [List.getElem?_cons_zero]); rfl; go_frame))
  refine first_done ?_
  apply tail_step; (rw [List.getElem?_toArray]; (repeat rw [List.getElem?_cons_succ]); rw [List.getElem?_cons_zero]); rfl; rfl; intro K hK; go_simp
  refine (HX.out _).mono ?_
  rintro r w2 ⟨rfl, hb2⟩
  have hb2' : Below W1.heap.size W1 w2 := (Below.refl _ W1).drew.trans hb2
  refine hK _ _ (fun _ => hb2') ?_
  clear hK K
  have HB2 := Lib.hid hb2'
  clear hb2 hb2'
  apply tail_step; (rw [List.getElem?_toArray]; (repeat rw [List.getElem?_cons_succ]); rw [List.getElem?_cons_zero]); rfl; rfl; intro K hK; go_simp
  refine (HY.out _).mono ?_
  rintro r w3 ⟨rfl, hb3⟩
  have hb3' : Below W1.heap.size W1 w3 := HB2.out.trans (hb3.mono HB2.out.size)
  refine hK _ _ (fun h => absurd (by decide) h) ?_
  clear hK K
  have ev := (hb3'.block _ (lt_of_heap EV.out)).trans EV.out
  have eu := (hb3'.block _ (lt_of_heap EU.out)).trans EU.out
  have HB3 : Hid (Below w.heap.size w w3) := HB1.out.trans (hb3'.mono HB1.out.size)
  have hw3 := HB3.out.size
  clear k0 j0 yk yj z0 z1 hb3 hb3'
  have k0 := cell_of_heap ev
  have j0 := cell_of_heap eu
  have yk := frozen_of_heap ev
  have yj := frozen_of_heap eu
  have z0 := lt_of_heap ev
  have z1 := lt_of_heap eu
  clear ev eu
  iterate 2 (apply tail_step; (rw [List.getElem?_toArray]; (repeat rw [List.getElem?_cons_succ]); rw [List.getElem?_cons_zero]); rfl; rfl; intro K hK; go_simp; refine hK _ _ (fun h => absurd (by decide) h) ?_; clear hK K)
  refine tail_done ?_
  go_wp2_with fail
  refine abs_world ?_
  intro W4 hW4
  have hB4 : Below w.heap.size w W4 := by rw [hW4]; have hBW := HB3.out; (repeat with_reducible (first | exact bw0 _ _ | exact hBW | refine bw1 ?_ ?_ _ | refine bw2 ?_ ?_ _ | refine bw3 ?_ _ | refine bw4 ?_)); all_goals (first | omega | (dsimp only; omega) | ((repeat with_reducible (first | refine lz1 ?_ | refine lz2 ?_ | refine lz3 ?_ | refine lz4 ?_)); omega))
  have c3 : W4.cell? ⟨w.heap.size, 3, none⟩ = some (.string a.t) := by rw [hW4]; go_simp
  have d3 : W4.cell? ⟨w.heap.size + 1, 3, none⟩ = some (.string b.t) := by rw [hW4]; go_simp
  have z4 : w.heap.size < W4.heap.size := World.block_lt_of_cell? W4 _ c3
  have z5 : w.heap.size + 1 < W4.heap.size := World.block_lt_of_cell? W4 _ d3
  have HB4 := Lib.hid hB4
  clear hW4 hB4 k0 j0 yk yj z0 z1
  refine wp_region_mix [0, 1, 3, 4] [2, 5, 6, 7] [5, 6, 7] (Below W4.heap.size W4) (by kernel_rfl) (by kernel_rfl) (Below.refl _ _).drew ?_
  iterate 4 (first | (apply first_step; (rw [List.getElem?_toArray]; (repeat rw [List.getElem?_cons_succ]); rw [List.getElem?_cons_zero]); rfl; (intro W hB; have hc := bcellB hB; go_simp; (first | done | rfl)); go_frame) | (apply first_skip; (rw [List.getElem?_toArray]; (repeat rw [List.getElem?_cons_succ]); rw [List.getElem?_cons_zero]); rfl; go_frame))
  refine first_done ?_
  apply tail_step; (rw [List.getElem?_toArray]; (repeat rw [List.getElem?_cons_succ]); rw [List.getElem?_cons_zero]); rfl; rfl; intro K hK; go_simp
  refine (HFA.out _).mono ?_
  rintro r w5 ⟨rfl, hb5⟩
  have hb5' : Below W4.heap.size W4 w5 := (Below.refl _ W4).drew.trans hb5
  refine hK _ _ (fun _ => hb5') ?_
  clear hK K
  have HB5 := Lib.hid hb5'
  clear hb5 hb5'
  apply tail_step; (rw [List.getElem?_toArray]; (repeat rw [List.getElem?_cons_succ]); rw [List.getElem?_cons_zero]); rfl; rfl; intro K hK; go_simp
  refine (HFB.out _).mono ?_
  rintro r w6 ⟨rfl, hb6⟩
  have HB6 : Hid (Below w.heap.size w w6) := HB4.out.trans ((HB5.out.trans (hb6.mono HB5.out.size)).mono HB4.out.size)
  refine hK _ _ (fun h => absurd (by decide) h) ?_
  clear hK K hb6
  apply tail_step; (rw [List.getElem?_toArray]; (repeat rw [List.getElem?_cons_succ]); rw [List.getElem?_cons_zero]); rfl; rfl; intro K hK; go_simp
  refine (HC.out _).mono ?_
  rintro r w7 ⟨rfl, rfl⟩
  refine hK _ _ (fun h => absurd (by decide) h) ?_
  clear hK K
  (apply tail_step; (rw [List.getElem?_toArray]; (repeat rw [List.getElem?_cons_succ]); rw [List.getElem?_cons_zero]); rfl; rfl; intro K hK; go_simp; refine hK _ _ (fun h => absurd (by decide) h) ?_; clear hK K)
  refine tail_done ?_
  clear c3 d3 z4 z5
  go_wp2_with fail
  go_ret
  exact ⟨rfl, HB6.out⟩
end
theorem Compare_any (x y : V) (hx : refR x = true) (hy : refR y = true) (w : World) : Calls Tryz.prog 74 #[vagg x, vagg y] w (CPost w (cmpV x y)) := by
  have HX := Lib.hid (beside_any x y)
  have HY := Lib.hid (beside_any y x)
  have ha : refR (besV x y) = true := bes_right hx
  have hb : refR (besV y x) = true := bes_right hy
  unfold cmpV
  generalize besV x y = a at HX ha ⊢
  generalize besV y x = b at HY hb ⊢
  unfold cmpB
  by_cases h : a.k = b.k
  · rw [if_neg (by simpa using h)]
    have n1 : (a.k != b.k) = false := by simpa using h
    unfold sameK
    by_cases k1 : a.k = 1
    · rw [if_pos k1]
      exact cmp_k1 x y a b w HX HY n1 (by simpa using k1) (Lib.hid (fun w => Cmp_any a.m a.e b.m b.e ((cprop ha).1 k1) ((cprop hb).1 (by omega)) w))
    rw [if_neg k1]
    by_cases k2 : a.k = 2
    · rw [if_pos k2]
      exact cmp_k2 x y a b w HX HY n1 (by simpa using k1) (by simpa using k2) ((cprop ha).2 k2) ((cprop hb).2 (by omega))
    rw [if_neg k2]
    by_cases k3 : a.k = 3
    · rw [if_pos k3]
      exact cmp_k3 x y a b w HX HY n1 (by simpa using k1) (by simpa using k2) (by simpa using k3)
    rw [if_neg k3]
    by_cases k4 : a.k = 4
    · rw [if_pos k4]
      by_cases f1 : a.f < b.f
      · rw [if_pos f1]
        exact cmp_k4a x y a b w HX HY n1 (by simpa using k1) (by simpa using k2) (by simpa using k3) (by simpa using k4) (decide_eq_true f1)
      rw [if_neg f1]
      by_cases f2 : b.f < a.f
      · rw [if_pos f2]
        exact cmp_k4b x y a b w HX HY n1 (by simpa using k1) (by simpa using k2) (by simpa using k3) (by simpa using k4) (decide_eq_false f1) (decide_eq_true f2)
      · rw [if_neg f2]
        exact cmp_k4c x y a b w HX HY n1 (by simpa using k1) (by simpa using k2) (by simpa using k3) (by simpa using k4) (decide_eq_false f1) (decide_eq_false f2)
    rw [if_neg k4]
    exact cmp_k0 x y a b w HX HY n1 (by simpa using k1) (by simpa using k2) (by simpa using k3) (by simpa using k4)
  · rw [if_pos h]
    have n1 : (a.k != b.k) = true := by simpa using h
    by_cases f1 : a.k < b.k
    · rw [if_pos f1]
      exact cmp_1 x y a b w HX HY n1 (decide_eq_true f1)
    · rw [if_neg f1]
      exact cmp_2 x y a b w HX HY n1 (decide_eq_false f1)
end Go.Proofs.YtndhmahkglfopaaGreatDoor
/- oper: what holder makes; the six questions. -/
namespace Go.Proofs.YtndhmahkglfopaaGreatDoor
open Go.RowKit
def IsOk (g : Nat) (is : Int → Bool) : Prop := ∀ (o : Int) (W : World), Calls Tryz.prog g #[.int .i64 o] W fun e w' => e = .returned (.bool (is o)) ∧ W = w'
section
set_option maxHeartbeats 2000000
set_option maxRecDepth 100000
theorem is33 : IsOk 33 (fun o => decide (o = 0)) := fun o W => by
  go_enter Tryz.func33, Tryz.ntmps33
  go_wp2_with fail
  go_ret
  exact ⟨congrArg (fun b => Ending.returned (.bool b)) (by by_cases h : o = 0 <;> simp [h]), rfl⟩
theorem is34 : IsOk 34 (fun o => decide (o ≠ 0)) := fun o W => by
  go_enter Tryz.func34, Tryz.ntmps34
  go_wp2_with fail
  go_ret
  exact ⟨congrArg (fun b => Ending.returned (.bool b)) (by by_cases h : o = 0 <;> simp [h]), rfl⟩
theorem is35 : IsOk 35 (fun o => decide (o < 0)) := fun o W => by
  go_enter Tryz.func35, Tryz.ntmps35
  go_wp2_with fail
  go_ret
  exact ⟨by simp, rfl⟩
theorem is36 : IsOk 36 (fun o => decide (o ≤ 0)) := fun o W => by
  go_enter Tryz.func36, Tryz.ntmps36
  go_wp2_with fail
  go_ret
  exact ⟨by simp, rfl⟩
theorem is37 : IsOk 37 (fun o => decide (0 < o)) := fun o W => by
  go_enter Tryz.func37, Tryz.ntmps37
  go_wp2_with fail
  go_ret
  exact ⟨by simp, rfl⟩
theorem is38 : IsOk 38 (fun o => decide (0 ≤ o)) := fun o W => by
  go_enter Tryz.func38, Tryz.ntmps38
  go_wp2_with fail
  go_ret
  exact ⟨by simp, rfl⟩
end
section
variable (x y : V) (w : World)
set_option maxHeartbeats 2000000
set_option maxRecDepth 100000
theorem hold_x (fb : Nat) (n1 : (x.k == 4) = true) : Calls Tryz.prog 72 #[vagg x, vagg y, .pointer (some ⟨fb, 0, none⟩)] w (VPost w x) := by
  unfold vagg
  go_enter Tryz.func72, Tryz.ntmps72
  go_wp2_with fail
  refine bodyPost_ret (v := vagg x) (by simp [results, Tryz.results72, go_sem, vagg]) rfl ⟨rfl, ?_⟩
  (repeat with_reducible (first | exact bw0 _ _ | exact hBW | refine bw1 ?_ ?_ _ | refine bw2 ?_ ?_ _ | refine bw3 ?_ _ | refine bw4 ?_)); all_goals (first | omega | (dsimp only; omega) | ((repeat with_reducible (first | refine lz1 ?_ | refine lz2 ?_ | refine lz3 ?_ | refine lz4 ?_)); omega))
theorem hold_y (fb : Nat) (n1 : (x.k == 4) = false) (n2 : (y.k == 4) = true) : Calls Tryz.prog 72 #[vagg x, vagg y, .pointer (some ⟨fb, 0, none⟩)] w (VPost w y) := by
  unfold vagg
  go_enter Tryz.func72, Tryz.ntmps72
  go_wp2_with fail
  refine bodyPost_ret (v := vagg y) (by simp [results, Tryz.results72, go_sem, vagg]) rfl ⟨rfl, ?_⟩
  (repeat with_reducible (first | exact bw0 _ _ | exact hBW | refine bw1 ?_ ?_ _ | refine bw2 ?_ ?_ _ | refine bw3 ?_ _ | refine bw4 ?_)); all_goals (first | omega | (dsimp only; omega) | ((repeat with_reducible (first | refine lz1 ?_ | refine lz2 ?_ | refine lz3 ?_ | refine lz4 ?_)); omega))
theorem hold_c {g : Nat} {is : Int → Bool} (hE : Ent g) (hI : IsOk g is) (fb : Nat) (hf : w.heap[fb]? = some (.cells #[.func (.func g) #[] #[]] 65)) (n1 : (x.k == 4) = false) (n2 : (y.k == 4) = false) (c : Int) (hC : ∀ w, Calls Tryz.prog 74 #[vagg x, vagg y] w (CPost w c)) : Calls Tryz.prog 72 #[vagg x, vagg y, .pointer (some ⟨fb, 0, none⟩)] w (VPost w (vTruth (is c))) := by
  have HC := Lib.hid hC
  have HI := Lib.hid (hI c)
  have HT := Lib.hid (truth_any (is c))
  have HE := Lib.hid hE
  have HF := Lib.hid hf
  generalize is c = b at HI HT ⊢
  unfold CPost vagg at HC
  obtain ⟨u, hu⟩ : ∃ u, u = vTruth b := ⟨_, rfl⟩
  rw [← hu] at HT ⊢
  unfold vagg
  rw [vagg_eq u] at HT
  clear hC hI hE hf hu
  go_enter Tryz.func72, Tryz.ntmps72
  go_wp2_with fail
  refine abs_world ?_
  intro W1 hW1
  have hB1 : Below w.heap.size w W1 := by rw [hW1]; (repeat with_reducible (first | exact bw0 _ _ | exact hBW | refine bw1 ?_ ?_ _ | refine bw2 ?_ ?_ _ | refine bw3 ?_ _ | refine bw4 ?_)); all_goals (first | omega | (dsimp only; omega) | ((repeat with_reducible (first | refine lz1 ?_ | refine lz2 ?_ | refine lz3 ?_ | refine lz4 ?_)); omega))
  have ev : W1.heap[w.heap.size]? = some (.cells #[.int .i64 x.k, .int .i64 x.m, .int .i64 x.e, .string x.t, .bool x.b, .int .i64 x.f] 34) := by rw [hW1]; (repeat (first | (with_reducible refine bw5 ?_ _; (first | rfl | (simp; done) | omega | (simp; omega)); done) | with_reducible refine bw6 ?_ _ | with_reducible refine bw7 ?_ | with_reducible refine bw8 ?_))
  have eu : W1.heap[w.heap.size + 1]? = some (.cells #[.int .i64 y.k, .int .i64 y.m, .int .i64 y.e, .string y.t, .bool y.b, .int .i64 y.f] 34) := by rw [hW1]; (repeat (first | (with_reducible refine bw5 ?_ _; (first | rfl | (simp; done) | omega | (simp; omega)); done) | with_reducible refine bw6 ?_ _ | with_reducible refine bw7 ?_ | with_reducible refine bw8 ?_))
  have e2 : W1.heap[w.heap.size + 1 + 1]? = some (.cells #[.int .i64 0, .int .i64 0, .int .i64 0, .string ⟨#[]⟩, .bool false, .int .i64 0] 34) := by rw [hW1]; (repeat (first | (with_reducible refine bw5 ?_ _; (first | rfl | (simp; done) | omega | (simp; omega)); done) | with_reducible refine bw6 ?_ _ | with_reducible refine bw7 ?_ | with_reducible refine bw8 ?_))
  have hf1 := (hB1.block fb (lt_of_heap HF.out)).trans HF.out
  have f0 : W1.cell? ⟨fb, 0, none⟩ = some (.func (.func g) #[] #[]) := cell_of_heap hf1 0
  have zf := lt_of_heap hf1
  have k0 := cell_of_heap ev
  have j0 := cell_of_heap eu
  have z0 := lt_of_heap ev
  have z1 := lt_of_heap eu
  have E2 := Lib.hid e2
  have HB1 := Lib.hid hB1
  clear hW1 hB1 ev eu e2 hf1
  refine wp_region_mix [0, 1, 2] [3, 4, 5, 6] [4, 5, 6] (Below W1.heap.size W1) (by kernel_rfl) (by kernel_rfl) (Below.refl _ _).drew ?_
  iterate 3 (first | (apply first_step; (rw [List.getElem?_toArray]; (repeat rw [List.getElem?_cons_succ]); rw [List.getElem?_cons_zero]); rfl; (intro W hB; have hc := bcellB hB; go_simp; (first | done | rfl)); go_frame) | (apply first_skip; (rw [List.getElem?_toArray]; (repeat rw [List.getElem?_cons_succ]); rw [List.getElem?_cons_zero]); rfl; go_frame))
  refine first_done ?_
  apply tail_step; (rw [List.getElem?_toArray]; (repeat rw [List.getElem?_cons_succ]); rw [List.getElem?_cons_zero]); rfl; rfl; intro K hK; go_simp
  refine (HC.out _).mono ?_
  rintro r w2 ⟨rfl, hb2⟩
  have hb2' : Below W1.heap.size W1 w2 := (Below.refl _ W1).drew.trans hb2
  refine hK _ _ (fun _ => hb2') ?_
  clear hK K
  have HB2 := Lib.hid hb2'
  clear hb2 hb2' f0 zf k0 j0 z0 z1
  have ent := HE.out
  unfold Ent at ent
  apply tail_step; (rw [List.getElem?_toArray]; (repeat rw [List.getElem?_cons_succ]); rw [List.getElem?_cons_zero]); rfl; rfl; intro K hK; go_simp
  clear ent
  refine (HI.out _).mono ?_
  rintro r w3 ⟨rfl, rfl⟩
  refine hK _ _ (fun h => absurd (by decide) h) ?_
  clear hK K
  apply tail_step; (rw [List.getElem?_toArray]; (repeat rw [List.getElem?_cons_succ]); rw [List.getElem?_cons_zero]); rfl; rfl; intro K hK; go_simp
  refine (HT.out _).mono ?_
  rintro r w3 ⟨rfl, hb3⟩
  refine hK _ _ (fun h => absurd (by decide) h) ?_
  clear hK K
  have hb3' : Below W1.heap.size W1 w3 := HB2.out.trans (hb3.mono HB2.out.size)
  have q2 := (hb3'.block _ (lt_of_heap E2.out)).trans E2.out
  have HBW := Lib.hid (HB1.out.trans (hb3'.mono HB1.out.size))
  have x2 := cell_of_heap q2
  have y2 := frozen_of_heap q2
  have z2 := lt_of_heap q2
  clear hb3 hb3' q2
  (apply tail_step; (rw [List.getElem?_toArray]; (repeat rw [List.getElem?_cons_succ]); rw [List.getElem?_cons_zero]); rfl; rfl; intro K hK; go_simp; refine hK _ _ (fun h => absurd (by decide) h) ?_; clear hK K)
  refine tail_done ?_
  have hBW := HBW.out
  go_wp2_with fail
  refine bodyPost_ret (v := .agg #[.int .i64 u.k, .int .i64 u.m, .int .i64 u.e, .string u.t, .bool u.b, .int .i64 u.f]) (by simp [results, Tryz.results72, go_sem, x2]) rfl ⟨rfl, ?_⟩
  (repeat with_reducible (first | exact bw0 _ _ | exact hBW | refine bw1 ?_ ?_ _ | refine bw2 ?_ ?_ _ | refine bw3 ?_ _ | refine bw4 ?_)); all_goals (first | omega | (dsimp only; omega) | ((repeat with_reducible (first | refine lz1 ?_ | refine lz2 ?_ | refine lz3 ?_ | refine lz4 ?_)); omega))
end
theorem holder1_any {g : Nat} {is : Int → Bool} (hE : Ent g) (hI : IsOk g is) (x y : V) (hx : refR x = true) (hy : refR y = true) (w : World) (fb : Nat) (hf : w.heap[fb]? = some (.cells #[.func (.func g) #[] #[]] 65)) : Calls Tryz.prog 72 #[vagg x, vagg y, .pointer (some ⟨fb, 0, none⟩)] w (VPost w (holdV is x y)) := by
  unfold holdV
  by_cases h1 : x.k = 4
  · rw [if_pos h1]; exact hold_x x y w fb (by simpa using h1)
  rw [if_neg h1]
  by_cases h2 : y.k = 4
  · rw [if_pos h2]; exact hold_y x y w fb (by simpa using h1) (by simpa using h2)
  rw [if_neg h2]
  exact hold_c x y w hE hI fb hf (by simpa using h1) (by simpa using h2) (cmpV x y) (Compare_any x y hx hy)
end Go.Proofs.YtndhmahkglfopaaGreatDoor
/- Turned, all is turned: plainly. -/
namespace Go.Proofs.YtndhmahkglfopaaGreatDoor
/-- The value of an array at a place of a common shape. -/
def atI (n : Int) (i : Nat) : Nat := if n = 1 then 0 else i
def atP (A : Arr) (i j : Nat) : Option V := if (atI A.r i : Int) < A.r ∧ (atI A.c j : Int) < A.c then A.l[atI A.r i * A.c.toNat + atI A.c j]? else none
def bothU (F : V → V → V) (A B : Arr) (i j : Nat) : V := match atP A i j, atP B i j with
  | some x, some y => F x y
  | _, _ => vBad 6
def bothV (F : V → V → V) (A B : Arr) : Arr := ⟨max A.r B.r, max A.c B.c, grid (bothU F A B) (max A.r B.r).toNat (max A.c B.c).toNat⟩
end Go.Proofs.YtndhmahkglfopaaGreatDoor
