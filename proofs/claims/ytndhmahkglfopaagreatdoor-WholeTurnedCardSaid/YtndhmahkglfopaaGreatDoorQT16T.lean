/- num.Round. -/
import Derived.Test.YtndhmahkglfopaaGreatDoorQT13Fold2
namespace Go.Proofs.YtndhmahkglfopaaGreatDoor
open Go.RowKit
section
variable (m e p : Int) (w : World)
set_option maxHeartbeats 4000000
set_option maxRecDepth 100000
def RoPost (w : World) (n : Int × Int) (r : Ending) (w' : World) : Prop := r = .returned (.agg #[.int .i64 n.1, .int .i64 n.2]) ∧ Below w.heap.size w w'
theorem rnd_a (h : numR m e = true) (hp : p < -40) : Calls Tryz.prog 248 #[.agg #[.int .i64 m, .int .i64 e], .int .i64 p] w (RoPost w (0, 0)) := by
  have HR := Lib.hid (right_yes h)
  clear h
  go_enter Tryz.func248, Tryz.ntmps248
  go_wp2_with fail
  refine (HR.out _).mono ?_
  rintro r w1 ⟨rfl, hb1⟩
  have ev0 : w1.heap[w.heap.size]? = some (.cells #[.int .i64 m, .int .i64 e] 32 (0, 0)) := (hb1.block _ (by simp; omega)).trans (by (repeat (first | (with_reducible refine bw5 ?_ _; (first | rfl | (simp; done) | omega | (simp; omega)); done) | with_reducible refine bw6 ?_ _ | with_reducible refine bw7 ?_ | with_reducible refine bw8 ?_)))
  have ev1 : w1.heap[w.heap.size + 1]? = some (.cells #[.int .i64 0, .int .i64 0] 32 (0, 0)) := (hb1.block _ (by simp)).trans (by (repeat (first | (with_reducible refine bw5 ?_ _; (first | rfl | (simp; done) | omega | (simp; omega)); done) | with_reducible refine bw6 ?_ _ | with_reducible refine bw7 ?_ | with_reducible refine bw8 ?_)))
  have FB1 : Hid (Below w.heap.size w w1) := by
    refine Below.trans ?_ (hb1.mono (by simp; omega))
    (repeat with_reducible (first | exact bw0 _ _ | exact hBW | refine bw1 ?_ ?_ _ | refine bw2 ?_ ?_ _ | refine bw3 ?_ _ | refine bw4 ?_)); all_goals (first | omega | (dsimp only; omega) | ((repeat with_reducible (first | refine lz1 ?_ | refine lz2 ?_ | refine lz3 ?_ | refine lz4 ?_)); omega))
  have k0 := cell_of_heap ev0 0
  have k1 := cell_of_heap ev0 1
  have z0 := lt_of_heap ev0
  have x1 := cell_of_heap ev1
  have y1 := frozen_of_heap ev1
  have z1 := lt_of_heap ev1
  have EV0 := Lib.hid ev0
  have EV1 := Lib.hid ev1
  clear hb1 ev0 ev1 HR
  go_wp2_with fail
  refine bodyPost_ret (v := .agg #[.int .i64 0, .int .i64 0]) (by simp [results, Tryz.results248, go_sem, x1]) rfl ⟨rfl, ?_⟩
  have hBW := FB1.out
  (repeat with_reducible (first | exact bw0 _ _ | exact hBW | refine bw1 ?_ ?_ _ | refine bw2 ?_ ?_ _ | refine bw3 ?_ _ | refine bw4 ?_)); all_goals (first | omega | (dsimp only; omega) | ((repeat with_reducible (first | refine lz1 ?_ | refine lz2 ?_ | refine lz3 ?_ | refine lz4 ?_)); omega))
theorem rnd_b (h : numR m e = true) (hp : 40 ≤ p) : Calls Tryz.prog 248 #[.agg #[.int .i64 m, .int .i64 e], .int .i64 p] w (RoPost w (m, e)) := by
  have HR := Lib.hid (right_yes h)
  clear h
  go_enter Tryz.func248, Tryz.ntmps248
  go_wp2_with fail
  refine (HR.out _).mono ?_
  rintro r w1 ⟨rfl, hb1⟩
  have ev0 : w1.heap[w.heap.size]? = some (.cells #[.int .i64 m, .int .i64 e] 32 (0, 0)) := (hb1.block _ (by simp; omega)).trans (by (repeat (first | (with_reducible refine bw5 ?_ _; (first | rfl | (simp; done) | omega | (simp; omega)); done) | with_reducible refine bw6 ?_ _ | with_reducible refine bw7 ?_ | with_reducible refine bw8 ?_)))
  have ev1 : w1.heap[w.heap.size + 1]? = some (.cells #[.int .i64 0, .int .i64 0] 32 (0, 0)) := (hb1.block _ (by simp)).trans (by (repeat (first | (with_reducible refine bw5 ?_ _; (first | rfl | (simp; done) | omega | (simp; omega)); done) | with_reducible refine bw6 ?_ _ | with_reducible refine bw7 ?_ | with_reducible refine bw8 ?_)))
  have FB1 : Hid (Below w.heap.size w w1) := by
    refine Below.trans ?_ (hb1.mono (by simp; omega))
    (repeat with_reducible (first | exact bw0 _ _ | exact hBW | refine bw1 ?_ ?_ _ | refine bw2 ?_ ?_ _ | refine bw3 ?_ _ | refine bw4 ?_)); all_goals (first | omega | (dsimp only; omega) | ((repeat with_reducible (first | refine lz1 ?_ | refine lz2 ?_ | refine lz3 ?_ | refine lz4 ?_)); omega))
  have k0 := cell_of_heap ev0 0
  have k1 := cell_of_heap ev0 1
  have z0 := lt_of_heap ev0
  have x1 := cell_of_heap ev1
  have y1 := frozen_of_heap ev1
  have z1 := lt_of_heap ev1
  have EV0 := Lib.hid ev0
  have EV1 := Lib.hid ev1
  clear hb1 ev0 ev1 HR
  go_wp2_with fail
  refine bodyPost_ret (v := .agg #[.int .i64 m, .int .i64 e]) (by simp [results, Tryz.results248, go_sem, x1]) rfl ⟨rfl, ?_⟩
  have hBW := FB1.out
  (repeat with_reducible (first | exact bw0 _ _ | exact hBW | refine bw1 ?_ ?_ _ | refine bw2 ?_ ?_ _ | refine bw3 ?_ _ | refine bw4 ?_)); all_goals (first | omega | (dsimp only; omega) | ((repeat with_reducible (first | refine lz1 ?_ | refine lz2 ?_ | refine lz3 ?_ | refine lz4 ?_)); omega))
theorem rnd_c (h : numR m e = true) (hp : -40 ≤ p) (hp2 : p < 40) (hq : -p ≤ e) : Calls Tryz.prog 248 #[.agg #[.int .i64 m, .int .i64 e], .int .i64 p] w (RoPost w (m, e)) := by
  have HR := Lib.hid (right_yes h)
  clear h
  go_enter Tryz.func248, Tryz.ntmps248
  go_wp2_with fail
  refine (HR.out _).mono ?_
  rintro r w1 ⟨rfl, hb1⟩
  have ev0 : w1.heap[w.heap.size]? = some (.cells #[.int .i64 m, .int .i64 e] 32 (0, 0)) := (hb1.block _ (by simp; omega)).trans (by (repeat (first | (with_reducible refine bw5 ?_ _; (first | rfl | (simp; done) | omega | (simp; omega)); done) | with_reducible refine bw6 ?_ _ | with_reducible refine bw7 ?_ | with_reducible refine bw8 ?_)))
  have ev1 : w1.heap[w.heap.size + 1]? = some (.cells #[.int .i64 0, .int .i64 0] 32 (0, 0)) := (hb1.block _ (by simp)).trans (by (repeat (first | (with_reducible refine bw5 ?_ _; (first | rfl | (simp; done) | omega | (simp; omega)); done) | with_reducible refine bw6 ?_ _ | with_reducible refine bw7 ?_ | with_reducible refine bw8 ?_)))
  have FB1 : Hid (Below w.heap.size w w1) := by
    refine Below.trans ?_ (hb1.mono (by simp; omega))
    (repeat with_reducible (first | exact bw0 _ _ | exact hBW | refine bw1 ?_ ?_ _ | refine bw2 ?_ ?_ _ | refine bw3 ?_ _ | refine bw4 ?_)); all_goals (first | omega | (dsimp only; omega) | ((repeat with_reducible (first | refine lz1 ?_ | refine lz2 ?_ | refine lz3 ?_ | refine lz4 ?_)); omega))
  have k0 := cell_of_heap ev0 0
  have k1 := cell_of_heap ev0 1
  have z0 := lt_of_heap ev0
  have x1 := cell_of_heap ev1
  have y1 := frozen_of_heap ev1
  have z1 := lt_of_heap ev1
  have EV0 := Lib.hid ev0
  have EV1 := Lib.hid ev1
  clear hb1 ev0 ev1 HR
  go_wp2_with fail
  refine bodyPost_ret (v := .agg #[.int .i64 m, .int .i64 e]) (by simp [results, Tryz.results248, go_sem, x1]) rfl ⟨rfl, ?_⟩
  have hBW := FB1.out
  (repeat with_reducible (first | exact bw0 _ _ | exact hBW | refine bw1 ?_ ?_ _ | refine bw2 ?_ ?_ _ | refine bw3 ?_ _ | refine bw4 ?_)); all_goals (first | omega | (dsimp only; omega) | ((repeat with_reducible (first | refine lz1 ?_ | refine lz2 ?_ | refine lz3 ?_ | refine lz4 ?_)); omega))
theorem rnd_d (h : numR m e = true) (hp : -40 ≤ p) (hp2 : p < 40) (hd : 15 < -p - e) : Calls Tryz.prog 248 #[.agg #[.int .i64 m, .int .i64 e], .int .i64 p] w (RoPost w (0, 0)) := by
  have HR := Lib.hid (right_yes h)
  have hb := numR_small h
  have hb2 := hb.2
  clear h hb
  go_enter Tryz.func248, Tryz.ntmps248
  go_wp2_with fail
  refine (HR.out _).mono ?_
  rintro r w1 ⟨rfl, hb1⟩
  have ev0 : w1.heap[w.heap.size]? = some (.cells #[.int .i64 m, .int .i64 e] 32 (0, 0)) := (hb1.block _ (by simp; omega)).trans (by (repeat (first | (with_reducible refine bw5 ?_ _; (first | rfl | (simp; done) | omega | (simp; omega)); done) | with_reducible refine bw6 ?_ _ | with_reducible refine bw7 ?_ | with_reducible refine bw8 ?_)))
  have ev1 : w1.heap[w.heap.size + 1]? = some (.cells #[.int .i64 0, .int .i64 0] 32 (0, 0)) := (hb1.block _ (by simp)).trans (by (repeat (first | (with_reducible refine bw5 ?_ _; (first | rfl | (simp; done) | omega | (simp; omega)); done) | with_reducible refine bw6 ?_ _ | with_reducible refine bw7 ?_ | with_reducible refine bw8 ?_)))
  have FB1 : Hid (Below w.heap.size w w1) := by
    refine Below.trans ?_ (hb1.mono (by simp; omega))
    (repeat with_reducible (first | exact bw0 _ _ | exact hBW | refine bw1 ?_ ?_ _ | refine bw2 ?_ ?_ _ | refine bw3 ?_ _ | refine bw4 ?_)); all_goals (first | omega | (dsimp only; omega) | ((repeat with_reducible (first | refine lz1 ?_ | refine lz2 ?_ | refine lz3 ?_ | refine lz4 ?_)); omega))
  have k0 := cell_of_heap ev0 0
  have k1 := cell_of_heap ev0 1
  have z0 := lt_of_heap ev0
  have x1 := cell_of_heap ev1
  have y1 := frozen_of_heap ev1
  have z1 := lt_of_heap ev1
  have EV0 := Lib.hid ev0
  have EV1 := Lib.hid ev1
  clear hb1 ev0 ev1 HR
  go_wp2_with fail
  refine bodyPost_ret (v := .agg #[.int .i64 0, .int .i64 0]) (by simp [results, Tryz.results248, go_sem, x1]) rfl ⟨rfl, ?_⟩
  have hBW := FB1.out
  (repeat with_reducible (first | exact bw0 _ _ | exact hBW | refine bw1 ?_ ?_ _ | refine bw2 ?_ ?_ _ | refine bw3 ?_ _ | refine bw4 ?_)); all_goals (first | omega | (dsimp only; omega) | ((repeat with_reducible (first | refine lz1 ?_ | refine lz2 ?_ | refine lz3 ?_ | refine lz4 ?_)); omega))
theorem rnd_e (h : numR m e = true) (hp : -40 ≤ p) (hp2 : p < 40) (hq : e < -p) (d : Nat) (hd : -p - e = d) (hd2 : d ≤ 15) : Calls Tryz.prog 248 #[.agg #[.int .i64 m, .int .i64 e], .int .i64 p] w (RoPost w (if numR (trimM (decide (m < 0)) (roundW m d)) (trimX (roundW m d) (-p)) then (trimM (decide (m < 0)) (roundW m d), trimX (roundW m d) (-p)) else (m, e))) := by
  have HR := Lib.hid (right_yes h)
  have hb := numR_small h
  have hb2 := hb.2
  have HS := Lib.hid (size_all m (numR_i64 h))
  have HP := Lib.hid (power_any d hd2)
  obtain ⟨n, hn⟩ : ∃ n, n = m.natAbs := ⟨_, rfl⟩
  obtain ⟨N, hN⟩ : ∃ N, N = roundW m d := ⟨_, rfl⟩
  have hNle : N ≤ n + 1 := by
    rw [hN]
    unfold roundW
    rw [← hn]
    have := Nat.div_le_self n (10 ^ d)
    split <;> omega
  have hNB : N < 10000000000000000 := by omega
  have HT := Lib.hid (fun w => trimmed_any (decide (m < 0)) N (by omega) (-p) (by omega) (by omega) w)
  have hM : I64 (trimM (decide (m < 0)) N) := by
    have := trimW_le N N (Nat.le_refl _)
    unfold I64 trimM
    split <;> omega
  have HN := Lib.hid (num_all (trimM (decide (m < 0)) N) (trimX N (-p)) hM)
  have hND : Hid (N = if 10 ^ d ≤ (n % 10 ^ d) * 2 then n / 10 ^ d + 1 else n / 10 ^ d) := by rw [hN, hn]; rfl
  rw [← hN]
  rw [← hn] at HS
  generalize trimM (decide (m < 0)) N = rm at HT HN ⊢
  generalize trimX N (-p) = rx at HT HN ⊢
  generalize numR rm rx = R at HN ⊢
  obtain ⟨T, hT⟩ : ∃ T : Int × Int, T = (if R then (rm, rx) else (m, e)) := ⟨_, rfl⟩
  rw [← hT]
  have HTT := Lib.hid hT
  clear hT
  obtain ⟨u, hu⟩ : ∃ u, u = 10 ^ d := ⟨_, rfl⟩
  rw [← hu] at HP hND
  have hu0 : 0 < u := by rw [hu]; exact Nat.pow_pos (by omega)
  have hu2 : u ≤ 1000000000000000 := by rw [hu]; exact Nat.le_trans (Nat.pow_le_pow_right (by omega) hd2) (by decide)
  obtain ⟨W, hW⟩ : ∃ W, W = n / u := ⟨_, rfl⟩
  obtain ⟨Q, hQ⟩ : ∃ Q, Q = n % u := ⟨_, rfl⟩
  have hWle : W ≤ n := by rw [hW]; exact Nat.div_le_self _ _
  have hQle : Q < u := by rw [hQ]; exact Nat.mod_lt _ hu0
  have tq : Int.tdiv (n : Int) (u : Int) = (W : Int) := by rw [hW]; exact (Int.ofNat_tdiv n u).symm
  have tr : Int.tmod (n : Int) (u : Int) = (Q : Int) := by rw [hQ]; exact (Int.ofNat_tmod n u).symm
  rw [← hW, ← hQ] at hND
  have hn2 : n < 1000000000000000 := by omega
  have hpz : ¬ ((u : Int) = 0) := by omega
  have hpz2 : ¬ u = 0 := by omega
  have hpz3 : ((u : Int) == 0) = false := by simp; omega
  have hpz4 : (u == 0) = false := by simp; omega
  have wW : IntKind.u64.wrap (W : Int) = (W : Int) := IntWalk.u64_in _ (by omega)
  have wW1 : IntKind.u64.wrap ((W : Int) + 1) = (W : Int) + 1 := IntWalk.u64_in _ (by omega)
  have wQ : IntKind.u64.wrap (Q : Int) = (Q : Int) := IntWalk.u64_in _ (by omega)
  have wQ2 : IntKind.u64.wrap ((Q : Int) * 2) = (Q : Int) * 2 := IntWalk.u64_in _ (by omega)
  have wp1 : IntKind.i64.wrap (-p) = -p := IntWalk.i64_in _ (by omega)
  have wp2 : wrap64 (-p) = -p := IntWalk.wrap64_in _ (by omega)
  have wd1 : IntKind.i64.wrap (-p - e) = (d : Int) := by rw [hd]; exact IntWalk.i64_in _ (by omega)
  have wd2 : wrap64 (-p - e) = (d : Int) := by rw [hd]; exact IntWalk.wrap64_in _ (by omega)
  have hdd : ¬ (15 < (d : Int)) := by omega
  clear h hb hn hN hNle hM hW hQ hu hd
  go_enter Tryz.func248, Tryz.ntmps248
  go_wp2_with fail
  refine (HR.out _).mono ?_
  rintro r w1 ⟨rfl, hb1⟩
  have ev0 : w1.heap[w.heap.size]? = some (.cells #[.int .i64 m, .int .i64 e] 32 (0, 0)) := (hb1.block _ (by simp; omega)).trans (by (repeat (first | (with_reducible refine bw5 ?_ _; (first | rfl | (simp; done) | omega | (simp; omega)); done) | with_reducible refine bw6 ?_ _ | with_reducible refine bw7 ?_ | with_reducible refine bw8 ?_)))
  have ev1 : w1.heap[w.heap.size + 1]? = some (.cells #[.int .i64 0, .int .i64 0] 32 (0, 0)) := (hb1.block _ (by simp)).trans (by (repeat (first | (with_reducible refine bw5 ?_ _; (first | rfl | (simp; done) | omega | (simp; omega)); done) | with_reducible refine bw6 ?_ _ | with_reducible refine bw7 ?_ | with_reducible refine bw8 ?_)))
  have FB1 : Hid (Below w.heap.size w w1) := by
    refine Below.trans ?_ (hb1.mono (by simp; omega))
    (repeat with_reducible (first | exact bw0 _ _ | exact hBW | refine bw1 ?_ ?_ _ | refine bw2 ?_ ?_ _ | refine bw3 ?_ _ | refine bw4 ?_)); all_goals (first | omega | (dsimp only; omega) | ((repeat with_reducible (first | refine lz1 ?_ | refine lz2 ?_ | refine lz3 ?_ | refine lz4 ?_)); omega))
  have k0 := cell_of_heap ev0 0
  have k1 := cell_of_heap ev0 1
  have z0 := lt_of_heap ev0
  have x1 := cell_of_heap ev1
  have y1 := frozen_of_heap ev1
  have z1 := lt_of_heap ev1
  have EV0 := Lib.hid ev0
  have EV1 := Lib.hid ev1
  clear hb1 ev0 ev1 HR
  go_wp2_with fail
  refine wp_region_mix [0, 2, 3] [1, 4, 5, 6] [4, 5, 6] (Below w1.heap.size w1) (by kernel_rfl) (by kernel_rfl) (Below.refl _ _).drew ?_
  iterate 3 (first | (apply first_step; (rw [List.getElem?_toArray]; (repeat rw [List.getElem?_cons_succ]); rw [List.getElem?_cons_zero]); rfl; (intro W hB; have hc := bcellB hB; go_simp; (first | done | rfl)); go_frame) | (apply first_skip; (rw [List.getElem?_toArray]; (repeat rw [List.getElem?_cons_succ]); rw [List.getElem?_cons_zero]); rfl; go_frame))
  refine first_done ?_
  apply tail_step; (rw [List.getElem?_toArray]; (repeat rw [List.getElem?_cons_succ]); rw [List.getElem?_cons_zero]); rfl; rfl; intro K hK; go_simp
  refine (HP.out _).mono ?_
  rintro r w3 ⟨rfl, rfl⟩
  refine hK _ _ (fun _ => (Below.refl _ w1).drew) ?_
  clear hK K
  apply tail_step; (rw [List.getElem?_toArray]; (repeat rw [List.getElem?_cons_succ]); rw [List.getElem?_cons_zero]); rfl; rfl; intro K hK; go_simp
  refine (HS.out _).mono ?_
  rintro r w3 ⟨rfl, rfl⟩
  refine hK _ _ (fun h => absurd (by decide) h) ?_
  clear hK K
  iterate 2 (apply tail_step; (rw [List.getElem?_toArray]; (repeat rw [List.getElem?_cons_succ]); rw [List.getElem?_cons_zero]); rfl; rfl; intro K hK; go_simp; refine hK _ _ (fun h => absurd (by decide) h) ?_; clear hK K)
  refine tail_done ?_
  by_cases hc : u ≤ Q * 2
  · have EN : Hid ((N : Int) = (W : Int) + 1) := by have := hND.out; rw [if_pos hc] at this; unfold Hid; rw [this]; rfl
    have dc : decide ((u : Int) ≤ (Q : Int) * 2) = true := by simp; omega
    clear hc hND
    rw [EN.out] at HT
    go_wp2_with fail
    refine (HT.out _).mono ?_
    rintro r w3 ⟨rfl, hb3⟩
    have HB3 : Hid (Below w1.heap.size w1 w3) := (Below.refl _ w1).drew.trans hb3
    have q0 := (HB3.out.block _ (lt_of_heap EV0.out)).trans EV0.out
    have q1 := (HB3.out.block _ (lt_of_heap EV1.out)).trans EV1.out
    have FB3 := Lib.hid (FB1.out.trans (HB3.out.mono FB1.out.size))
    clear hb3 k0 k1 z0 x1 y1 z1
    have k0 := cell_of_heap q0 0
    have k1 := cell_of_heap q0 1
    have z0 := lt_of_heap q0
    have EV03 := Lib.hid q0
    have EV13 := Lib.hid q1
    clear q0 q1 HT
    go_wp2_with fail
    refine (HN.out _).mono ?_
    rintro r w4 ⟨rfl, hb4⟩
    have g9 : w4.heap[w3.heap.size]? = some (.cells #[.int .i64 rm, .int .i64 rx] 32) := (hb4.block _ (by simp)).trans (by (repeat (first | (with_reducible refine bw5 ?_ _; (first | rfl | (simp; done) | omega | (simp; omega)); done) | with_reducible refine bw6 ?_ _ | with_reducible refine bw7 ?_ | with_reducible refine bw8 ?_)))
    have hB4 : Below w3.heap.size w3 w4 := by
      refine Below.trans ?_ (hb4.mono (by simp))
      (repeat with_reducible (first | exact bw0 _ _ | exact hBW | refine bw1 ?_ ?_ _ | refine bw2 ?_ ?_ _ | refine bw3 ?_ _ | refine bw4 ?_)); all_goals (first | omega | (dsimp only; omega) | ((repeat with_reducible (first | refine lz1 ?_ | refine lz2 ?_ | refine lz3 ?_ | refine lz4 ?_)); omega))
    have q0 := (hB4.block _ (lt_of_heap EV03.out)).trans EV03.out
    have q1 := (hB4.block _ (lt_of_heap EV13.out)).trans EV13.out
    have HBW := Lib.hid (FB3.out.trans (hB4.mono FB3.out.size))
    clear k0 k1 z0 hb4 hB4
    have k0 := cell_of_heap q0 0
    have k1 := cell_of_heap q0 1
    have z0 := lt_of_heap q0
    have x1 := cell_of_heap q1
    have y1 := frozen_of_heap q1
    have z1 := lt_of_heap q1
    have x9 := cell_of_heap g9
    have z9 := lt_of_heap g9
    clear q0 q1 g9
    cases R with
    | true =>
      have TE : Hid (T = (rm, rx)) := by have := HTT.out; rw [if_pos rfl] at this; exact this
      go_wp2_with fail
      refine bodyPost_ret (v := .agg #[.int .i64 rm, .int .i64 rx]) (by simp [results, Tryz.results248, go_sem, x1]) rfl ⟨by rw [TE.out], ?_⟩
      have hBW := HBW.out
      (repeat with_reducible (first | exact bw0 _ _ | exact hBW | refine bw1 ?_ ?_ _ | refine bw2 ?_ ?_ _ | refine bw3 ?_ _ | refine bw4 ?_)); all_goals (first | omega | (dsimp only; omega) | ((repeat with_reducible (first | refine lz1 ?_ | refine lz2 ?_ | refine lz3 ?_ | refine lz4 ?_)); omega))
    | false =>
      have TE : Hid (T = (m, e)) := by have := HTT.out; rw [if_neg (by simp)] at this; exact this
      go_wp2_with fail
      refine bodyPost_ret (v := .agg #[.int .i64 m, .int .i64 e]) (by simp [results, Tryz.results248, go_sem, x1]) rfl ⟨by rw [TE.out], ?_⟩
      have hBW := HBW.out
      (repeat with_reducible (first | exact bw0 _ _ | exact hBW | refine bw1 ?_ ?_ _ | refine bw2 ?_ ?_ _ | refine bw3 ?_ _ | refine bw4 ?_)); all_goals (first | omega | (dsimp only; omega) | ((repeat with_reducible (first | refine lz1 ?_ | refine lz2 ?_ | refine lz3 ?_ | refine lz4 ?_)); omega))
  · have EN : Hid ((N : Int) = (W : Int)) := by have := hND.out; rw [if_neg hc] at this; unfold Hid; rw [this]
    have dc : decide ((u : Int) ≤ (Q : Int) * 2) = false := by simp; omega
    clear hc hND
    rw [EN.out] at HT
    go_wp2_with fail
    refine (HT.out _).mono ?_
    rintro r w3 ⟨rfl, hb3⟩
    have HB3 : Hid (Below w1.heap.size w1 w3) := (Below.refl _ w1).drew.trans hb3
    have q0 := (HB3.out.block _ (lt_of_heap EV0.out)).trans EV0.out
    have q1 := (HB3.out.block _ (lt_of_heap EV1.out)).trans EV1.out
    have FB3 := Lib.hid (FB1.out.trans (HB3.out.mono FB1.out.size))
    clear hb3 k0 k1 z0 x1 y1 z1
    have k0 := cell_of_heap q0 0
    have k1 := cell_of_heap q0 1
    have z0 := lt_of_heap q0
    have EV03 := Lib.hid q0
    have EV13 := Lib.hid q1
    clear q0 q1 HT
    go_wp2_with fail
    refine (HN.out _).mono ?_
    rintro r w4 ⟨rfl, hb4⟩
    have g9 : w4.heap[w3.heap.size]? = some (.cells #[.int .i64 rm, .int .i64 rx] 32) := (hb4.block _ (by simp)).trans (by (repeat (first | (with_reducible refine bw5 ?_ _; (first | rfl | (simp; done) | omega | (simp; omega)); done) | with_reducible refine bw6 ?_ _ | with_reducible refine bw7 ?_ | with_reducible refine bw8 ?_)))
    have hB4 : Below w3.heap.size w3 w4 := by
      refine Below.trans ?_ (hb4.mono (by simp))
      (repeat with_reducible (first | exact bw0 _ _ | exact hBW | refine bw1 ?_ ?_ _ | refine bw2 ?_ ?_ _ | refine bw3 ?_ _ | refine bw4 ?_)); all_goals (first | omega | (dsimp only; omega) | ((repeat with_reducible (first | refine lz1 ?_ | refine lz2 ?_ | refine lz3 ?_ | refine lz4 ?_)); omega))
    have q0 := (hB4.block _ (lt_of_heap EV03.out)).trans EV03.out
    have q1 := (hB4.block _ (lt_of_heap EV13.out)).trans EV13.out
    have HBW := Lib.hid (FB3.out.trans (hB4.mono FB3.out.size))
    clear k0 k1 z0 hb4 hB4
    have k0 := cell_of_heap q0 0
    have k1 := cell_of_heap q0 1
    have z0 := lt_of_heap q0
    have x1 := cell_of_heap q1
    have y1 := frozen_of_heap q1
    have z1 := lt_of_heap q1
    have x9 := cell_of_heap g9
    have z9 := lt_of_heap g9
    clear q0 q1 g9
    cases R with
    | true =>
      have TE : Hid (T = (rm, rx)) := by have := HTT.out; rw [if_pos rfl] at this; exact this
      go_wp2_with fail
      refine bodyPost_ret (v := .agg #[.int .i64 rm, .int .i64 rx]) (by simp [results, Tryz.results248, go_sem, x1]) rfl ⟨by rw [TE.out], ?_⟩
      have hBW := HBW.out
      (repeat with_reducible (first | exact bw0 _ _ | exact hBW | refine bw1 ?_ ?_ _ | refine bw2 ?_ ?_ _ | refine bw3 ?_ _ | refine bw4 ?_)); all_goals (first | omega | (dsimp only; omega) | ((repeat with_reducible (first | refine lz1 ?_ | refine lz2 ?_ | refine lz3 ?_ | refine lz4 ?_)); omega))
    | false =>
      have TE : Hid (T = (m, e)) := by have := HTT.out; rw [if_neg (by simp)] at this; exact this
      go_wp2_with fail
      refine bodyPost_ret (v := .agg #[.int .i64 m, .int .i64 e]) (by simp [results, Tryz.results248, go_sem, x1]) rfl ⟨by rw [TE.out], ?_⟩
      have hBW := HBW.out
      (repeat with_reducible (first | exact bw0 _ _ | exact hBW | refine bw1 ?_ ?_ _ | refine bw2 ?_ ?_ _ | refine bw3 ?_ _ | refine bw4 ?_)); all_goals (first | omega | (dsimp only; omega) | ((repeat with_reducible (first | refine lz1 ?_ | refine lz2 ?_ | refine lz3 ?_ | refine lz4 ?_)); omega))
end
theorem Round_any (m e p : Int) (h : numR m e = true) (w : World) : Calls Tryz.prog 248 #[.agg #[.int .i64 m, .int .i64 e], .int .i64 p] w (RoPost w (roundR m e p)) := by
  unfold roundR
  by_cases h1 : p < -40
  · rw [if_pos h1]; exact rnd_a m e p w h h1
  rw [if_neg h1]
  by_cases h2 : 40 ≤ p ∨ -p ≤ e
  · rw [if_pos h2]
    by_cases h3 : 40 ≤ p
    · exact rnd_b m e p w h h3
    · exact rnd_c m e p w h (by omega) (by omega) (by omega)
  rw [if_neg h2]
  by_cases h3 : 15 < -p - e
  · rw [if_pos h3]; exact rnd_d m e p w h (by omega) (by omega) h3
  rw [if_neg h3]
  exact rnd_e m e p w h (by omega) (by omega) (by omega) (-p - e).toNat (by omega) (by omega)
end Go.Proofs.YtndhmahkglfopaaGreatDoor
