/- num.Add. -/
import Derived.Test.YtndhmahkglfopaaGreatDoorQT16H
import Derived.Test.YtndhmahkglfopaaGreatDoorQT13Fold2
namespace Go.Proofs.YtndhmahkglfopaaGreatDoor
open Go.RowKit
section
variable (m e m' e' : Int) (w : World)
set_option maxHeartbeats 1000000
set_option maxRecDepth 100000
theorem add_no1 (HN : ∀ w : World, Calls Tryz.prog 54 #[.agg #[.int .i64 m, .int .i64 e]] w fun r w' => r = .returned (.bool false) ∧ Below w.heap.size w w') :
    Calls Tryz.prog 26 #[.agg #[.int .i64 m, .int .i64 e], .agg #[.int .i64 m', .int .i64 e']] w (NumPost w ((0, 0), false)) := by
  have HR := Lib.hid HN
  go_enter Tryz.func26, Tryz.ntmps26
  go_wp2_with fail
  refine (HR.out _).mono ?_
  rintro r w1 ⟨rfl, hb1⟩
  have ev0 : w1.heap[w.heap.size]? = some (.cells #[.int .i64 m, .int .i64 e] 32 (0, 0)) := (hb1.block _ (by simp; omega)).trans (by (repeat (first | (with_reducible refine bw5 ?_ _; (first | rfl | (simp; done) | omega | (simp; omega)); done) | with_reducible refine bw6 ?_ _ | with_reducible refine bw7 ?_ | with_reducible refine bw8 ?_)))
  have ev1 : w1.heap[w.heap.size + 1]? = some (.cells #[.int .i64 m', .int .i64 e'] 32 (0, 0)) := (hb1.block _ (by simp)).trans (by (repeat (first | (with_reducible refine bw5 ?_ _; (first | rfl | (simp; done) | omega | (simp; omega)); done) | with_reducible refine bw6 ?_ _ | with_reducible refine bw7 ?_ | with_reducible refine bw8 ?_)))
  have ev2 : w1.heap[w.heap.size + 1 + 1]? = some (.cells #[.int .i64 0, .int .i64 0] 32 (0, 0)) := (hb1.block _ (by simp)).trans (by (repeat (first | (with_reducible refine bw5 ?_ _; (first | rfl | (simp; done) | omega | (simp; omega)); done) | with_reducible refine bw6 ?_ _ | with_reducible refine bw7 ?_ | with_reducible refine bw8 ?_)))
  have FB1 : Hid (Below w.heap.size w w1) := by
    refine Below.trans ?_ (hb1.mono (by simp; omega))
    (repeat with_reducible (first | exact bw0 _ _ | exact hBW | refine bw1 ?_ ?_ _ | refine bw2 ?_ ?_ _ | refine bw3 ?_ _ | refine bw4 ?_)); all_goals (first | omega | (dsimp only; omega) | ((repeat with_reducible (first | refine lz1 ?_ | refine lz2 ?_ | refine lz3 ?_ | refine lz4 ?_)); omega))
  have EV0 := Lib.hid ev0
  have EV1 := Lib.hid ev1
  have EV2 := Lib.hid ev2
  clear hb1
  have x0 := cell_of_heap ev2
  have y0 := frozen_of_heap ev2
  have z0 := lt_of_heap ev2
  clear ev0 ev1 ev2 EV0 EV1 EV2
  go_wp2_with fail
  refine bodyPost_ret (v := .tuple #[.agg #[.int .i64 0, .int .i64 0], .bool false]) (by simp [results, Tryz.results26, go_sem, x0]) rfl ⟨rfl, ?_⟩
  have hBW := FB1.out
  (repeat with_reducible (first | exact bw0 _ _ | exact hBW | refine bw1 ?_ ?_ _ | refine bw2 ?_ ?_ _ | refine bw3 ?_ _ | refine bw4 ?_)); all_goals (first | omega | (dsimp only; omega) | ((repeat with_reducible (first | refine lz1 ?_ | refine lz2 ?_ | refine lz3 ?_ | refine lz4 ?_)); omega))
theorem add_no2 (HY : ∀ w : World, Calls Tryz.prog 54 #[.agg #[.int .i64 m, .int .i64 e]] w fun r w' => r = .returned (.bool true) ∧ Below w.heap.size w w') (HN : ∀ w : World, Calls Tryz.prog 54 #[.agg #[.int .i64 m', .int .i64 e']] w fun r w' => r = .returned (.bool false) ∧ Below w.heap.size w w') :
    Calls Tryz.prog 26 #[.agg #[.int .i64 m, .int .i64 e], .agg #[.int .i64 m', .int .i64 e']] w (NumPost w ((0, 0), false)) := by
  have HR := Lib.hid HY
  have HR2 := Lib.hid HN
  go_enter Tryz.func26, Tryz.ntmps26
  go_wp2_with fail
  refine (HR.out _).mono ?_
  rintro r w1 ⟨rfl, hb1⟩
  have ev0 : w1.heap[w.heap.size]? = some (.cells #[.int .i64 m, .int .i64 e] 32 (0, 0)) := (hb1.block _ (by simp; omega)).trans (by (repeat (first | (with_reducible refine bw5 ?_ _; (first | rfl | (simp; done) | omega | (simp; omega)); done) | with_reducible refine bw6 ?_ _ | with_reducible refine bw7 ?_ | with_reducible refine bw8 ?_)))
  have ev1 : w1.heap[w.heap.size + 1]? = some (.cells #[.int .i64 m', .int .i64 e'] 32 (0, 0)) := (hb1.block _ (by simp)).trans (by (repeat (first | (with_reducible refine bw5 ?_ _; (first | rfl | (simp; done) | omega | (simp; omega)); done) | with_reducible refine bw6 ?_ _ | with_reducible refine bw7 ?_ | with_reducible refine bw8 ?_)))
  have ev2 : w1.heap[w.heap.size + 1 + 1]? = some (.cells #[.int .i64 0, .int .i64 0] 32 (0, 0)) := (hb1.block _ (by simp)).trans (by (repeat (first | (with_reducible refine bw5 ?_ _; (first | rfl | (simp; done) | omega | (simp; omega)); done) | with_reducible refine bw6 ?_ _ | with_reducible refine bw7 ?_ | with_reducible refine bw8 ?_)))
  have FB1 : Hid (Below w.heap.size w w1) := by
    refine Below.trans ?_ (hb1.mono (by simp; omega))
    (repeat with_reducible (first | exact bw0 _ _ | exact hBW | refine bw1 ?_ ?_ _ | refine bw2 ?_ ?_ _ | refine bw3 ?_ _ | refine bw4 ?_)); all_goals (first | omega | (dsimp only; omega) | ((repeat with_reducible (first | refine lz1 ?_ | refine lz2 ?_ | refine lz3 ?_ | refine lz4 ?_)); omega))
  have EV0 := Lib.hid ev0
  have EV1 := Lib.hid ev1
  have EV2 := Lib.hid ev2
  clear hb1
  have k0 := cell_of_heap ev1 0
  have k1 := cell_of_heap ev1 1
  have z1 := lt_of_heap ev1
  clear ev0 ev1 ev2 EV0 EV1
  go_wp2_with fail
  refine (HR2.out _).mono ?_
  rintro r w2 ⟨rfl, hb2⟩
  have ev2 := (hb2.block _ (lt_of_heap EV2.out)).trans EV2.out
  have FB2 : Hid (Below w.heap.size w w2) := FB1.out.trans (hb2.mono FB1.out.size)
  have x0 := cell_of_heap ev2
  have y0 := frozen_of_heap ev2
  have z0 := lt_of_heap ev2
  clear hb2 ev2 k0 k1 z1
  go_wp2_with fail
  refine bodyPost_ret (v := .tuple #[.agg #[.int .i64 0, .int .i64 0], .bool false]) (by simp [results, Tryz.results26, go_sem, x0]) rfl ⟨rfl, ?_⟩
  have hBW := FB2.out
  (repeat with_reducible (first | exact bw0 _ _ | exact hBW | refine bw1 ?_ ?_ _ | refine bw2 ?_ ?_ _ | refine bw3 ?_ _ | refine bw4 ?_)); all_goals (first | omega | (dsimp only; omega) | ((repeat with_reducible (first | refine lz1 ?_ | refine lz2 ?_ | refine lz3 ?_ | refine lz4 ?_)); omega))
set_option maxHeartbeats 6000000 in
theorem add_yes (h : numR m e = true) (h' : numR m' e' = true) (htab : Tab w) : Calls Tryz.prog 26 #[.agg #[.int .i64 m, .int .i64 e], .agg #[.int .i64 m', .int .i64 e']] w (NumPost w (addR m e m' e')) := by
  have HR := Lib.hid (fun w => by have := num_all m e (numR_i64 h) w; rw [h] at this; exact this : ∀ w : World, Calls Tryz.prog 54 #[.agg #[.int .i64 m, .int .i64 e]] w fun r w' => r = .returned (.bool true) ∧ Below w.heap.size w w')
  have HR2 := Lib.hid (fun w => by have := num_all m' e' (numR_i64 h') w; rw [h'] at this; exact this : ∀ w : World, Calls Tryz.prog 54 #[.agg #[.int .i64 m', .int .i64 e']] w fun r w' => r = .returned (.bool true) ∧ Below w.heap.size w w')
  have hb := numR_small h
  have hb' := numR_small h'
  obtain ⟨low, hlow⟩ : ∃ low, low = min e e' := ⟨_, rfl⟩
  obtain ⟨k, hk⟩ : ∃ k : Nat, e - low = k := ⟨(e - low).toNat, by omega⟩
  obtain ⟨k', hk'⟩ : ∃ k' : Nat, e' - low = k' := ⟨(e' - low).toNat, by omega⟩
  have HSX := Lib.hid (spread_any m e low h k hk (by omega))
  have HSY := Lib.hid (spread_any m' e' low h' k' hk' (by omega))
  go_enter Tryz.func26, Tryz.ntmps26
  go_wp2_with fail
  refine (HR.out _).mono ?_
  rintro r w1 ⟨rfl, hb1⟩
  have ev0 : w1.heap[w.heap.size]? = some (.cells #[.int .i64 m, .int .i64 e] 32 (0, 0)) := (hb1.block _ (by simp; omega)).trans (by (repeat (first | (with_reducible refine bw5 ?_ _; (first | rfl | (simp; done) | omega | (simp; omega)); done) | with_reducible refine bw6 ?_ _ | with_reducible refine bw7 ?_ | with_reducible refine bw8 ?_)))
  have ev1 : w1.heap[w.heap.size + 1]? = some (.cells #[.int .i64 m', .int .i64 e'] 32 (0, 0)) := (hb1.block _ (by simp)).trans (by (repeat (first | (with_reducible refine bw5 ?_ _; (first | rfl | (simp; done) | omega | (simp; omega)); done) | with_reducible refine bw6 ?_ _ | with_reducible refine bw7 ?_ | with_reducible refine bw8 ?_)))
  have ev2 : w1.heap[w.heap.size + 1 + 1]? = some (.cells #[.int .i64 0, .int .i64 0] 32 (0, 0)) := (hb1.block _ (by simp)).trans (by (repeat (first | (with_reducible refine bw5 ?_ _; (first | rfl | (simp; done) | omega | (simp; omega)); done) | with_reducible refine bw6 ?_ _ | with_reducible refine bw7 ?_ | with_reducible refine bw8 ?_)))
  have FB1 : Hid (Below w.heap.size w w1) := by
    refine Below.trans ?_ (hb1.mono (by simp; omega))
    (repeat with_reducible (first | exact bw0 _ _ | exact hBW | refine bw1 ?_ ?_ _ | refine bw2 ?_ ?_ _ | refine bw3 ?_ _ | refine bw4 ?_)); all_goals (first | omega | (dsimp only; omega) | ((repeat with_reducible (first | refine lz1 ?_ | refine lz2 ?_ | refine lz3 ?_ | refine lz4 ?_)); omega))
  have EV0 := Lib.hid ev0
  have EV1 := Lib.hid ev1
  have EV2 := Lib.hid ev2
  clear hb1
  have k0 := cell_of_heap ev1 0
  have k1 := cell_of_heap ev1 1
  have z1 := lt_of_heap ev1
  clear ev0 ev1 ev2
  go_wp2_with fail
  refine (HR2.out _).mono ?_
  rintro r w2 ⟨rfl, hb2⟩
  have ev0 := (hb2.block _ (lt_of_heap EV0.out)).trans EV0.out
  have ev1 := (hb2.block _ (lt_of_heap EV1.out)).trans EV1.out
  have FB2 : Hid (Below w.heap.size w w2) := FB1.out.trans (hb2.mono FB1.out.size)
  clear k0 k1 z1
  have k0 := cell_of_heap ev0 0
  have k1 := cell_of_heap ev0 1
  have j0 := cell_of_heap ev1 0
  have j1 := cell_of_heap ev1 1
  have z0 := lt_of_heap ev0
  have z1 := lt_of_heap ev1
  have EV0 := Lib.hid ev0
  have EV1 := Lib.hid ev1
  have EV2 := Lib.hid ((hb2.block _ (lt_of_heap EV2.out)).trans EV2.out)
  have HT2 := Lib.hid (htab.below FB2.out)
  clear hb2 ev0 ev1 htab
  go_wp2_with fail
  rw [← hlow]
  have hl1 : -40 ≤ low ∧ low ≤ 40 := by omega
  obtain ⟨X, hX⟩ : ∃ X, X = sprP m.natAbs k := ⟨_, rfl⟩
  obtain ⟨Y, hY⟩ : ∃ Y, Y = sprP m'.natAbs k' := ⟨_, rfl⟩
  have bX := spr_bd m.natAbs k (by omega) (by omega)
  have bY := spr_bd m'.natAbs k' (by omega) (by omega)
  obtain ⟨n, hn⟩ : ∃ n, n = max X.length Y.length + 1 := ⟨_, rfl⟩
  obtain ⟨R, hR⟩ : ∃ R, R = addR m e m' e' := ⟨_, rfl⟩
  have ER : Hid (R = roundP (settleP (gatP (decide (m' < 0)) (gatP (decide (m < 0)) (List.replicate n 0) X) Y)).2 (settleP (gatP (decide (m' < 0)) (gatP (decide (m < 0)) (List.replicate n 0) X) Y)).1 low) := by
    unfold Hid
    rw [hR]
    unfold addR
    simp only
    rw [← hlow, hk, hk', Int.toNat_natCast, Int.toNat_natCast, ← hX, ← hY, ← hn]
  have HRR := Lib.hid hR
  rw [← hX] at HSX bX
  rw [← hY] at HSY bY
  have wn : IntKind.i64.wrap (max (X.length : Int) (Y.length : Int) + 1) = (n : Int) := by
    rw [show max (X.length : Int) (Y.length : Int) + 1 = (n : Int) by omega]
    exact IntWalk.i64_in _ (by omega)
  have hnX : X.length ≤ n := by omega
  have hnY : Y.length ≤ n := by omega
  have hn0 : 0 < n := by omega
  have hnb : n ≤ 1000000 := by omega
  have hnb2 : n ≤ 100000 := by omega
  clear hlow hk hk' hX hY hn hR hb hb' h h'
  refine wp_region_mix [0, 1, 3, 4] [2, 5, 6, 7] [5, 6, 7] (Below w2.heap.size w2) (by kernel_rfl) (by kernel_rfl) (Below.refl _ _).drew ?_
  iterate 4 (first | (apply first_step; (rw [List.getElem?_toArray]; (repeat rw [List.getElem?_cons_succ]); rw [List.getElem?_cons_zero]); rfl; (intro W hB; have hc := bcellB hB; go_simp; (first | done | rfl)); go_frame) | (apply first_skip; (rw [List.getElem?_toArray]; (repeat rw [List.getElem?_cons_succ]); rw [List.getElem?_cons_zero]); rfl; go_frame))
  refine first_done ?_
  apply tail_step; (rw [List.getElem?_toArray]; (repeat rw [List.getElem?_cons_succ]); rw [List.getElem?_cons_zero]); rfl; rfl; intro K hK; go_simp
  refine (HSX.out _ (HT2.out.below (by (repeat with_reducible (first | exact bw0 _ _ | exact hBW | refine bw1 ?_ ?_ _ | refine bw2 ?_ ?_ _ | refine bw3 ?_ _ | refine bw4 ?_)); all_goals (first | omega | (dsimp only; omega) | ((repeat with_reducible (first | refine lz1 ?_ | refine lz2 ?_ | refine lz3 ?_ | refine lz4 ?_)); omega))))).mono ?_
  rintro r w3 ⟨v3, rfl, hown3, hb3⟩
  have hb3' : Below w2.heap.size w2 w3 := (Below.refl _ w2).drew.trans hb3
  refine hK _ _ (fun _ => hb3') ?_
  clear hK K
  have HOWN3 := Lib.hid hown3
  have HB3 := Lib.hid hb3'
  clear hown3 hb3 hb3'
  apply tail_step; (rw [List.getElem?_toArray]; (repeat rw [List.getElem?_cons_succ]); rw [List.getElem?_cons_zero]); rfl; rfl; intro K hK; go_simp
  refine (HSY.out _ (HT2.out.below HB3.out)).mono ?_
  rintro r w4 ⟨v4, rfl, hown4, hb4⟩
  refine hK _ _ (fun h => absurd (by decide) h) ?_
  clear hK K
  have HB4 := Lib.hid (HB3.out.trans (hb4.mono HB3.out.size))
  have HOWN4 := Lib.hid hown4
  obtain ⟨gx, cx, rfl, dx⟩ := dgs_of_own HOWN3.out bX.2.2 bX.1
  obtain ⟨gy, cy, rfl, dy⟩ := dgs_of_own HOWN4.out bY.2.2 bY.1
  have DX := Lib.hid (dx.below hb4)
  have DY := Lib.hid dy
  clear hown4 hb4 dx dy HOWN3 HOWN4 k0 k1 j0 j1 z0 z1 HB3
  (apply tail_step; (rw [List.getElem?_toArray]; (repeat rw [List.getElem?_cons_succ]); rw [List.getElem?_cons_zero]); rfl; rfl; intro K hK; go_simp; refine hK _ _ (fun h => absurd (by decide) h) ?_; clear hK K)
  (apply tail_step; (rw [List.getElem?_toArray]; (repeat rw [List.getElem?_cons_succ]); rw [List.getElem?_cons_zero]); rfl; rfl; intro K hK; go_simp; refine hK _ _ (fun h => absurd (by decide) h) ?_; clear hK K)
  refine tail_done ?_
  go_wp2_with fail
  obtain ⟨i0, hi, hz0, hz1, hz2⟩ := info_parts info3
  obtain ⟨wm, hmk, hownm, hgrm⟩ := run_make_full (P := Tryz.prog) w4 w4.heap.size 75 3 i0 (.int .i64 0) 1 Tryz.underlying75 hi hz0 hz1 .i64 .i64 n (by rw [hz2]; omega) (by unfold maxLen; omega) (Nat.le_refl _)
  rw [hmk]
  have hbm : Below w4.heap.size w4 wm := (Below.refl _ w4).grown hgrm (Nat.le_refl _) (fun k e => by cases e)
  have IVM : Hid (IvS wm w4.heap.size (List.replicate n 0)) := by
    unfold Hid IvS
    rw [make_block hownm]
    congr 2
    rw [made_one rfl, Nat.mul_one]
    simp [iv]
  have HBM := Lib.hid (HB4.out.trans (hbm.mono HB4.out.size))
  have hz4 := HB4.out.size
  obtain ⟨sb, hsb⟩ : ∃ sb, sb = w4.heap.size := ⟨_, rfl⟩
  have hsb2 : w2.heap.size ≤ sb := by omega
  have DXm := Lib.hid (DX.out.below hbm)
  have DYm := Lib.hid (DY.out.below hbm)
  have q0 := (HBM.out.block _ (lt_of_heap EV0.out)).trans EV0.out
  have hsbm : sb < wm.heap.size := by rw [hsb]; exact IVM.out.lt
  have a0 := cell_of_heap q0 0
  have zz0 := lt_of_heap q0
  rw [← hsb] at IVM ⊢
  clear hi hz0 hz1 hz2 hmk hownm hgrm hbm DX DY q0 hsb HB4 hz4 wn
  go_wp2_with fail
  refine (gather_any _ (decide (m < 0)) IVM.out DXm.out (by simp) rfl hnX hnb).mono ?_
  rintro r w5 ⟨rfl, iv5, f5⟩
  have HB5 : Hid (Below w2.heap.size w2 w5) := HBM.out.trans (f5.below HBM.out.size (fun k hk => by rw [hk]; exact hsb2))
  have DY5 := Lib.hid (DYm.out.of_block (f5.block _ DYm.out.lt (IVM.out.ne DYm.out)))
  have IV5 := Lib.hid iv5
  have l5 : Hid ((gatP (decide (m < 0)) (List.replicate n 0) X).length = n) := by unfold gatP Hid; rw [gatK_len]; simp
  have q1 := (HB5.out.block _ (lt_of_heap EV1.out)).trans EV1.out
  have b0 := cell_of_heap q1 0
  have zz1 := lt_of_heap q1
  clear iv5 f5 a0 zz0 q1 hsbm DXm DYm IVM HBM
  go_wp2_with fail
  refine (gather_any _ (decide (m' < 0)) IV5.out DY5.out l5.out rfl hnY hnb).mono ?_
  rintro r w6 ⟨rfl, iv6, f6⟩
  have HB6 : Hid (Below w2.heap.size w2 w6) := HB5.out.trans (f6.below HB5.out.size (fun k hk => by rw [hk]; exact hsb2))
  have l6 : Hid ((gatP (decide (m' < 0)) (gatP (decide (m < 0)) (List.replicate n 0) X) Y).length = n) := by unfold gatP Hid; rw [gatK_len]; exact l5.out
  generalize gatP (decide (m' < 0)) (gatP (decide (m < 0)) (List.replicate n 0) X) Y = S at iv6 l6 ER
  have IV6 := Lib.hid iv6
  clear iv6 f6 b0 zz1 DY5 IV5 l5 HB5
  go_wp2_with fail
  refine (settle_any _ IV6.out l6.out hnb).mono ?_
  rintro r w7 ⟨g, rfl, d7, hb7⟩
  have hr7 : (settleP S).1.length = n := by unfold settleP; rw [setK_len]; exact l6.out
  generalize settleP S = q at d7 hr7 ER ⊢
  obtain ⟨R1, ng⟩ := q
  simp only at d7 hr7 ER ⊢
  have HB7 : Hid (Below w2.heap.size w2 w7) := HB6.out.trans (hb7.mono HB6.out.size)
  have D7 := Lib.hid d7
  have hgb := d7.le
  have hz6 := HB6.out.size
  have hl7 : R1.length ≤ 100000 := by rw [hr7]; exact hnb2
  have hz7 := hb7.size
  clear d7 hb7 HB6 IV6 l6
  go_wp2_with fail
  have HRN := round_any ng low _ hz7 D7.out hl7 (by omega)
  rw [hr7] at HRN
  refine HRN.mono ?_
  clear HRN
  rintro r w8 ⟨rfl, f8⟩
  have HB8 : Hid (Below w2.heap.size w2 w8) := HB7.out.trans (f8.below HB7.out.size (fun k hk => by rw [hk]; omega))
  generalize roundP ng R1 low = RR at ER ⊢
  obtain ⟨⟨rm, rx⟩, rk⟩ := RR
  have ER2 : Hid (addR m e m' e' = ((rm, rx), rk)) := by unfold Hid; rw [← HRR.out]; exact ER.out
  have q2 := (HB8.out.block _ (lt_of_heap EV2.out)).trans EV2.out
  have x0 := cell_of_heap q2
  have y0 := frozen_of_heap q2
  have z0 := lt_of_heap q2
  have HBW : Hid (Below w.heap.size w w8) := FB2.out.trans (HB8.out.mono FB2.out.size)
  clear f8 q2 D7 HB7 ER HRR EV0 EV1 EV2 HB8 hgb hz6 hz7
  unfold NumV
  simp only
  go_wp2_with fail
  refine bodyPost_ret (v := .tuple #[.agg #[.int .i64 rm, .int .i64 rx], .bool rk]) (by simp [results, Tryz.results26, go_sem, x0]) rfl ⟨ret_numv ER2.out, ?_⟩
  have hBW := HBW.out
  (repeat with_reducible (first | exact bw0 _ _ | exact hBW | refine bw1 ?_ ?_ _ | refine bw2 ?_ ?_ _ | refine bw3 ?_ _ | refine bw4 ?_)); all_goals (first | omega | (dsimp only; omega) | ((repeat with_reducible (first | refine lz1 ?_ | refine lz2 ?_ | refine lz3 ?_ | refine lz4 ?_)); omega))
end
theorem Add_any (m e m' e' : Int) (hm : I64 m) (hm' : I64 m') (w : World) (htab : Tab w) : Calls Tryz.prog 26 #[.agg #[.int .i64 m, .int .i64 e], .agg #[.int .i64 m', .int .i64 e']] w (NumPost w (addP m e m' e')) := by
  unfold addP
  cases h : numR m e with
  | false =>
    rw [Bool.false_and, if_neg (by simp)]
    exact add_no1 m e m' e' w (fun w => by have := num_all m e hm w; rw [h] at this; exact this)
  | true =>
    cases h' : numR m' e' with
    | false =>
      rw [Bool.and_false, if_neg (by simp)]
      exact add_no2 m e m' e' w (fun w => by have := num_all m e hm w; rw [h] at this; exact this) (fun w => by have := num_all m' e' hm' w; rw [h'] at this; exact this)
    | true =>
      rw [Bool.and_true, if_pos rfl]
      exact add_yes m e m' e' w h h' htab
end Go.Proofs.YtndhmahkglfopaaGreatDoor
/- num.Sub, num.Int, num.Floor. -/
namespace Go.Proofs.YtndhmahkglfopaaGreatDoor
open Go.RowKit
section
variable (m e m' e' : Int) (w : World)
set_option maxHeartbeats 4000000
set_option maxRecDepth 100000
theorem sub_yes (h : numR m e = true) (h' : numR m' e' = true) (htab : Tab w) : Calls Tryz.prog 27 #[.agg #[.int .i64 m, .int .i64 e], .agg #[.int .i64 m', .int .i64 e']] w (NumPost w (addR m e (-m') e')) := by
  have HR := Lib.hid (right_yes h)
  have HR2 := Lib.hid (right_yes h')
  have HNG := Lib.hid (neg_any m' e' h')
  have HA := Lib.hid (fun w => add_yes m e (-m') e' w h (numR_neg h'))
  obtain ⟨R, hR⟩ : ∃ R, R = addR m e (-m') e' := ⟨_, rfl⟩
  have ER := Lib.hid hR
  rw [← hR] at HA ⊢
  clear h h' hR
  go_enter Tryz.func27, Tryz.ntmps27
  go_wp2_with fail
  refine (HR.out _).mono ?_
  rintro r w1 ⟨rfl, hb1⟩
  have ev0 : w1.heap[w.heap.size]? = some (.cells #[.int .i64 m, .int .i64 e] 32 (0, 0)) := (hb1.block _ (by simp; omega)).trans (by (repeat (first | (with_reducible refine bw5 ?_ _; (first | rfl | (simp; done) | omega | (simp; omega)); done) | with_reducible refine bw6 ?_ _ | with_reducible refine bw7 ?_ | with_reducible refine bw8 ?_)))
  have ev1 : w1.heap[w.heap.size + 1]? = some (.cells #[.int .i64 m', .int .i64 e'] 32 (0, 0)) := (hb1.block _ (by simp)).trans (by (repeat (first | (with_reducible refine bw5 ?_ _; (first | rfl | (simp; done) | omega | (simp; omega)); done) | with_reducible refine bw6 ?_ _ | with_reducible refine bw7 ?_ | with_reducible refine bw8 ?_)))
  have ev2 : w1.heap[w.heap.size + 1 + 1]? = some (.cells #[.int .i64 0, .int .i64 0] 32 (0, 0)) := (hb1.block _ (by simp)).trans (by (repeat (first | (with_reducible refine bw5 ?_ _; (first | rfl | (simp; done) | omega | (simp; omega)); done) | with_reducible refine bw6 ?_ _ | with_reducible refine bw7 ?_ | with_reducible refine bw8 ?_)))
  have FB1 : Hid (Below w.heap.size w w1) := by
    refine Below.trans ?_ (hb1.mono (by simp; omega))
    (repeat with_reducible (first | exact bw0 _ _ | exact hBW | refine bw1 ?_ ?_ _ | refine bw2 ?_ ?_ _ | refine bw3 ?_ _ | refine bw4 ?_)); all_goals (first | omega | (dsimp only; omega) | ((repeat with_reducible (first | refine lz1 ?_ | refine lz2 ?_ | refine lz3 ?_ | refine lz4 ?_)); omega))
  have EV0 := Lib.hid ev0
  have EV1 := Lib.hid ev1
  have EV2 := Lib.hid ev2
  clear hb1
  have k0 := cell_of_heap ev1 0
  have k1 := cell_of_heap ev1 1
  have z1 := lt_of_heap ev1
  clear ev0 ev1 ev2
  go_wp2_with fail
  refine (HR2.out _).mono ?_
  rintro r w2 ⟨rfl, hb2⟩
  have ev0 := (hb2.block _ (lt_of_heap EV0.out)).trans EV0.out
  have ev1 := (hb2.block _ (lt_of_heap EV1.out)).trans EV1.out
  have FB2 : Hid (Below w.heap.size w w2) := FB1.out.trans (hb2.mono FB1.out.size)
  clear k0 k1 z1
  have k0 := cell_of_heap ev0 0
  have k1 := cell_of_heap ev0 1
  have j0 := cell_of_heap ev1 0
  have j1 := cell_of_heap ev1 1
  have z0 := lt_of_heap ev0
  have z1 := lt_of_heap ev1
  have EV0 := Lib.hid ev0
  have EV1 := Lib.hid ev1
  have EV2 := Lib.hid ((hb2.block _ (lt_of_heap EV2.out)).trans EV2.out)
  clear hb2 ev0 ev1
  have HT2 := Lib.hid (htab.below FB2.out)
  clear htab
  obtain ⟨⟨rm, rx⟩, rk⟩ := R
  unfold NumPost NumV at HA
  simp only at HA
  go_wp2_with fail
  refine wp_region_mix3 [0, 1] [2, 3, 4, 5, 6, 7] [3, 4, 5, 6, 7] [4] (Below w2.heap.size w2) (by kernel_rfl) (by kernel_rfl) (Below.refl _ _).drew ?_
  iterate 2 (first | (apply first_step; (rw [List.getElem?_toArray]; (repeat rw [List.getElem?_cons_succ]); rw [List.getElem?_cons_zero]); rfl; (intro W hB; have hc := bcellB hB; go_simp; (first | done | rfl)); go_frame) | (apply first_skip; (rw [List.getElem?_toArray]; (repeat rw [List.getElem?_cons_succ]); rw [List.getElem?_cons_zero]); rfl; go_frame))
  refine first_done ?_
  apply tail_step; (rw [List.getElem?_toArray]; (repeat rw [List.getElem?_cons_succ]); rw [List.getElem?_cons_zero]); rfl; rfl; intro K hK; go_simp
  refine (HNG.out _).mono ?_
  rintro r w3 ⟨rfl, hb3⟩
  have hb3' : Below w2.heap.size w2 w3 := (Below.refl _ w2).drew.trans hb3
  refine hK _ _ (fun _ => hb3') ?_
  clear hK K
  have HB3 := Lib.hid hb3'
  clear hb3 hb3'
  apply tail_step; (rw [List.getElem?_toArray]; (repeat rw [List.getElem?_cons_succ]); rw [List.getElem?_cons_zero]); rfl; rfl; intro K hK; go_simp
  refine (HA.out _ (HT2.out.below HB3.out)).mono ?_
  rintro r w4 ⟨rfl, hb4⟩
  refine hK _ _ (fun h => absurd (by decide) h) ?_
  clear hK K
  have HB4 := Lib.hid (HB3.out.trans (hb4.mono HB3.out.size))
  have q2 := (HB4.out.block _ (lt_of_heap EV2.out)).trans EV2.out
  have x0 := cell_of_heap q2
  have y0 := frozen_of_heap q2
  have z2 := lt_of_heap q2
  clear hb4 q2 k0 k1 j0 j1 z0 z1
  (apply tail_pure; (rw [List.getElem?_toArray]; (repeat rw [List.getElem?_cons_succ]); rw [List.getElem?_cons_zero]); rfl; rfl; (intro W; go_simp; (first | done | rfl)); go_frame)
  iterate 3 (apply tail_step; (rw [List.getElem?_toArray]; (repeat rw [List.getElem?_cons_succ]); rw [List.getElem?_cons_zero]); rfl; rfl; intro K hK; go_simp; refine hK _ _ (fun h => absurd (by decide) h) ?_; clear hK K)
  refine tail_done ?_
  have HBW : Hid (Below w.heap.size w w4) := FB2.out.trans (HB4.out.mono FB2.out.size)
  go_wp2_with fail
  refine bodyPost_ret (v := .tuple #[.agg #[.int .i64 rm, .int .i64 rx], .bool rk]) (by simp [results, Tryz.results27, go_sem, x0]) rfl ⟨rfl, ?_⟩
  have hBW := HBW.out
  (repeat with_reducible (first | exact bw0 _ _ | exact hBW | refine bw1 ?_ ?_ _ | refine bw2 ?_ ?_ _ | refine bw3 ?_ _ | refine bw4 ?_)); all_goals (first | omega | (dsimp only; omega) | ((repeat with_reducible (first | refine lz1 ?_ | refine lz2 ?_ | refine lz3 ?_ | refine lz4 ?_)); omega))
theorem int_no1 (HN : ∀ w : World, Calls Tryz.prog 54 #[.agg #[.int .i64 m, .int .i64 e]] w fun r w' => r = .returned (.bool false) ∧ Below w.heap.size w w') :
    Calls Tryz.prog 68 #[.agg #[.int .i64 m, .int .i64 e]] w fun r w' => r = .returned (.tuple #[.int .i64 0, .bool false]) ∧ Below w.heap.size w w' := by
  have HR := Lib.hid HN
  clear HN
  go_enter Tryz.func68, Tryz.ntmps68
  go_wp2_with fail
  refine (HR.out _).mono ?_
  rintro r w1 ⟨rfl, hb1⟩
  have ev0 : w1.heap[w.heap.size]? = some (.cells #[.int .i64 m, .int .i64 e] 32 (0, 0)) := (hb1.block _ (by simp; try omega)).trans (by (repeat (first | (with_reducible refine bw5 ?_ _; (first | rfl | (simp; done) | omega | (simp; omega)); done) | with_reducible refine bw6 ?_ _ | with_reducible refine bw7 ?_ | with_reducible refine bw8 ?_)))
  have FB1 : Hid (Below w.heap.size w w1) := by
    refine Below.trans ?_ (hb1.mono (by simp; try omega))
    (repeat with_reducible (first | exact bw0 _ _ | exact hBW | refine bw1 ?_ ?_ _ | refine bw2 ?_ ?_ _ | refine bw3 ?_ _ | refine bw4 ?_)); all_goals (first | omega | (dsimp only; omega) | ((repeat with_reducible (first | refine lz1 ?_ | refine lz2 ?_ | refine lz3 ?_ | refine lz4 ?_)); omega))
  have k0 := cell_of_heap ev0 0
  have k1 := cell_of_heap ev0 1
  have z0 := lt_of_heap ev0
  have EV0 := Lib.hid ev0
  clear hb1 ev0
  go_wp2_with fail
  go_ret2
  refine ⟨rfl, ?_⟩
  have hBW := FB1.out
  (repeat with_reducible (first | exact bw0 _ _ | exact hBW | refine bw1 ?_ ?_ _ | refine bw2 ?_ ?_ _ | refine bw3 ?_ _ | refine bw4 ?_)); all_goals (first | omega | (dsimp only; omega) | ((repeat with_reducible (first | refine lz1 ?_ | refine lz2 ?_ | refine lz3 ?_ | refine lz4 ?_)); omega))
theorem int_no2 (HN : ∀ w : World, Calls Tryz.prog 54 #[.agg #[.int .i64 m, .int .i64 e]] w fun r w' => r = .returned (.bool true) ∧ Below w.heap.size w w') (he : e < 0) :
    Calls Tryz.prog 68 #[.agg #[.int .i64 m, .int .i64 e]] w fun r w' => r = .returned (.tuple #[.int .i64 0, .bool false]) ∧ Below w.heap.size w w' := by
  have HR := Lib.hid HN
  clear HN
  go_enter Tryz.func68, Tryz.ntmps68
  go_wp2_with fail
  refine (HR.out _).mono ?_
  rintro r w1 ⟨rfl, hb1⟩
  have ev0 : w1.heap[w.heap.size]? = some (.cells #[.int .i64 m, .int .i64 e] 32 (0, 0)) := (hb1.block _ (by simp; try omega)).trans (by (repeat (first | (with_reducible refine bw5 ?_ _; (first | rfl | (simp; done) | omega | (simp; omega)); done) | with_reducible refine bw6 ?_ _ | with_reducible refine bw7 ?_ | with_reducible refine bw8 ?_)))
  have FB1 : Hid (Below w.heap.size w w1) := by
    refine Below.trans ?_ (hb1.mono (by simp; try omega))
    (repeat with_reducible (first | exact bw0 _ _ | exact hBW | refine bw1 ?_ ?_ _ | refine bw2 ?_ ?_ _ | refine bw3 ?_ _ | refine bw4 ?_)); all_goals (first | omega | (dsimp only; omega) | ((repeat with_reducible (first | refine lz1 ?_ | refine lz2 ?_ | refine lz3 ?_ | refine lz4 ?_)); omega))
  have k0 := cell_of_heap ev0 0
  have k1 := cell_of_heap ev0 1
  have z0 := lt_of_heap ev0
  have EV0 := Lib.hid ev0
  clear hb1 ev0
  go_wp2_with fail
  go_ret2
  refine ⟨rfl, ?_⟩
  have hBW := FB1.out
  (repeat with_reducible (first | exact bw0 _ _ | exact hBW | refine bw1 ?_ ?_ _ | refine bw2 ?_ ?_ _ | refine bw3 ?_ _ | refine bw4 ?_)); all_goals (first | omega | (dsimp only; omega) | ((repeat with_reducible (first | refine lz1 ?_ | refine lz2 ?_ | refine lz3 ?_ | refine lz4 ?_)); omega))
def intV (o : Option Int) : Value := .tuple #[.int .i64 (o.getD 0), .bool o.isSome]
theorem int_go (E : Nat) (hE : E ≤ 100) (h : numR m E = true) :
    Calls Tryz.prog 68 #[.agg #[.int .i64 m, .int .i64 E]] w fun r w' => r = .returned (intV (intL E m)) ∧ Below w.heap.size w w' := by
  have hmI := numR_i64 h
  obtain ⟨e, he⟩ : ∃ e : Int, e = E := ⟨_, rfl⟩
  have HE := Lib.hid he
  have he0 : 0 ≤ e := by omega
  rw [← he] at h ⊢
  have HR := Lib.hid (right_yes h)
  clear h he
  go_enter Tryz.func68, Tryz.ntmps68
  go_wp2_with fail
  refine (HR.out _).mono ?_
  rintro r w1 ⟨rfl, hb1⟩
  have ev0 : w1.heap[w.heap.size]? = some (.cells #[.int .i64 m, .int .i64 e] 32 (0, 0)) := (hb1.block _ (by simp; try omega)).trans (by (repeat (first | (with_reducible refine bw5 ?_ _; (first | rfl | (simp; done) | omega | (simp; omega)); done) | with_reducible refine bw6 ?_ _ | with_reducible refine bw7 ?_ | with_reducible refine bw8 ?_)))
  have FB1 : Hid (Below w.heap.size w w1) := by
    refine Below.trans ?_ (hb1.mono (by simp; try omega))
    (repeat with_reducible (first | exact bw0 _ _ | exact hBW | refine bw1 ?_ ?_ _ | refine bw2 ?_ ?_ _ | refine bw3 ?_ _ | refine bw4 ?_)); all_goals (first | omega | (dsimp only; omega) | ((repeat with_reducible (first | refine lz1 ?_ | refine lz2 ?_ | refine lz3 ?_ | refine lz4 ?_)); omega))
  have k0 := cell_of_heap ev0 0
  have k1 := cell_of_heap ev0 1
  have z0 := lt_of_heap ev0
  have EV0 := Lib.hid ev0
  clear hb1 ev0
  clear k0 k1 z0
  have k0 := cell_of_heap EV0.out 0
  have k1 := cell_of_heap EV0.out 1
  have z0 := lt_of_heap EV0.out
  have HMI := Lib.hid hmI
  clear hmI
  go_wp2_with fail
  clear k0 k1 z0
  obtain rfl := HE.out
  clear he0
  have L0 : Hid (intL (E - 0) m = intL E m ∧ I64 m) := ⟨rfl, HMI.out⟩
  go_loop [4, 19] (fun n i => ∃ (k : Nat) (q : Int), n = .int .i64 q ∧ i = .int .i64 k ∧ k ≤ E ∧ Hid (intL (E - k) q = intL E m ∧ I64 q)) (fun _ i => E - (intOf i).toNat)
  case atStart => exact ⟨0, m, rfl, rfl, Nat.zero_le _, L0⟩
  case round =>
    clear L0
    obtain ⟨k, q, rfl, rfl, hk, hL⟩ := hrel
    have HS := Lib.hid (size_all q hL.out.2)
    by_cases hlt : k < E
    · have hI := hL.out.2
      unfold I64 at hI
      have HM := Lib.hid (fun w => Tryz.bits_Mul64 q.natAbs 10 (by omega) (by omega) w)
      obtain ⟨j, hj⟩ : ∃ j, E - k = j + 1 := ⟨E - k - 1, by omega⟩
      have hE2 := hL.out.1
      rw [hj] at hE2
      obtain ⟨hi, hhi⟩ : ∃ hi, hi = q.natAbs * 10 / 18446744073709551616 := ⟨_, rfl⟩
      obtain ⟨lo, hlo⟩ : ∃ lo, lo = q.natAbs * 10 % 18446744073709551616 := ⟨_, rfl⟩
      rw [← hhi, ← hlo] at HM
      obtain ⟨n, hn⟩ : ∃ n, n = q.natAbs := ⟨_, rfl⟩
      rw [← hn] at HM HS
      by_cases hc : 9223372036854775807 < q.natAbs * 10
      · have EN : Hid (intL E m = none) := by
          unfold Hid
          rw [← hE2, intL, if_pos hc]
        by_cases h1 : hi = 0
        · have n1 : ((hi : Int) != 0) = false := by simp; omega
          have n2 : 9223372036854775807 < (lo : Int) := by omega
          clear hc hhi hlo hn h1 hI hE2 hj hL
          go_wp2_with fail
          refine (HS.out _).mono ?_
          rintro r w2 ⟨rfl, rfl⟩
          go_wp2_with fail
          refine (HM.out _).mono ?_
          rintro r w2 ⟨rfl, rfl⟩
          go_wp2_with fail
          go_ret2
          refine ⟨by simp [intV, EN.out], ?_⟩
          have hBW := FB1.out
          (repeat with_reducible (first | exact bw0 _ _ | exact hBW | refine bw1 ?_ ?_ _ | refine bw2 ?_ ?_ _ | refine bw3 ?_ _ | refine bw4 ?_)); all_goals (first | omega | (dsimp only; omega) | ((repeat with_reducible (first | refine lz1 ?_ | refine lz2 ?_ | refine lz3 ?_ | refine lz4 ?_)); omega))
        · have n1 : ((hi : Int) != 0) = true := by simp; omega
          clear hc hhi hlo hn h1 hI hE2 hj hL
          go_wp2_with fail
          refine (HS.out _).mono ?_
          rintro r w2 ⟨rfl, rfl⟩
          go_wp2_with fail
          refine (HM.out _).mono ?_
          rintro r w2 ⟨rfl, rfl⟩
          go_wp2_with fail
          go_ret2
          refine ⟨by simp [intV, EN.out], ?_⟩
          have hBW := FB1.out
          (repeat with_reducible (first | exact bw0 _ _ | exact hBW | refine bw1 ?_ ?_ _ | refine bw2 ?_ ?_ _ | refine bw3 ?_ _ | refine bw4 ?_)); all_goals (first | omega | (dsimp only; omega) | ((repeat with_reducible (first | refine lz1 ?_ | refine lz2 ?_ | refine lz3 ?_ | refine lz4 ?_)); omega))
      · have h1 : hi = 0 := by omega
        have n1 : ((hi : Int) != 0) = false := by simp; omega
        have n2 : ¬ 9223372036854775807 < (lo : Int) := by omega
        have wq : IntKind.i64.wrap (q * 10) = q * 10 := IntWalk.i64_in _ (by omega)
        have HL2 : Hid (intL (E - (k + 1)) (q * 10) = intL E m ∧ I64 (q * 10)) := by
          refine ⟨?_, by unfold I64; omega⟩
          rw [← hE2, intL, if_neg hc, show E - (k + 1) = j by omega]
        clear hc hhi hlo hn h1 hI hE2 hj hL
        go_wp2_with fail
        refine (HS.out _).mono ?_
        rintro r w2 ⟨rfl, rfl⟩
        go_wp2_with fail
        refine (HM.out _).mono ?_
        rintro r w2 ⟨rfl, rfl⟩
        go_wp2_with fail
        go_round
        case rel => exact ⟨k + 1, q * 10, by go_num, by go_num, by omega, HL2⟩
        case measure => simp [intOf]; omega
    · have EQ : Hid (intL E m = some q) := by
        have := hL.out.1
        rw [show E - k = 0 by omega] at this
        unfold Hid
        rw [← this]
        rfl
      clear hL HS
      go_wp2_with fail
      go_ret2
      refine ⟨by simp [intV, EQ.out], ?_⟩
      have hBW := FB1.out
      (repeat with_reducible (first | exact bw0 _ _ | exact hBW | refine bw1 ?_ ?_ _ | refine bw2 ?_ ?_ _ | refine bw3 ?_ _ | refine bw4 ?_)); all_goals (first | omega | (dsimp only; omega) | ((repeat with_reducible (first | refine lz1 ?_ | refine lz2 ?_ | refine lz3 ?_ | refine lz4 ?_)); omega))
theorem floor_hi (h : numR m e = true) (he : 0 ≤ e) : Calls Tryz.prog 67 #[.agg #[.int .i64 m, .int .i64 e]] w fun r w' => r = .returned (.agg #[.int .i64 m, .int .i64 e]) ∧ Below w.heap.size w w' := by
  have HR := Lib.hid (right_yes h)
  clear h
  go_enter Tryz.func67, Tryz.ntmps67
  go_wp2_with fail
  have EVR : True := trivial
  refine (HR.out _).mono ?_
  rintro r w1 ⟨rfl, hb1⟩
  have ev0 : w1.heap[w.heap.size]? = some (.cells #[.int .i64 m, .int .i64 e] 32 (0, 0)) := (hb1.block _ (by simp; omega)).trans (by (repeat (first | (with_reducible refine bw5 ?_ _; (first | rfl | (simp; done) | omega | (simp; omega)); done) | with_reducible refine bw6 ?_ _ | with_reducible refine bw7 ?_ | with_reducible refine bw8 ?_)))
  have ev1 : w1.heap[w.heap.size + 1]? = some (.cells #[.int .i64 0, .int .i64 0] 32 (0, 0)) := (hb1.block _ (by simp)).trans (by (repeat (first | (with_reducible refine bw5 ?_ _; (first | rfl | (simp; done) | omega | (simp; omega)); done) | with_reducible refine bw6 ?_ _ | with_reducible refine bw7 ?_ | with_reducible refine bw8 ?_)))
  have FB1 : Hid (Below w.heap.size w w1) := by
    refine Below.trans ?_ (hb1.mono (by simp; omega))
    (repeat with_reducible (first | exact bw0 _ _ | exact hBW | refine bw1 ?_ ?_ _ | refine bw2 ?_ ?_ _ | refine bw3 ?_ _ | refine bw4 ?_)); all_goals (first | omega | (dsimp only; omega) | ((repeat with_reducible (first | refine lz1 ?_ | refine lz2 ?_ | refine lz3 ?_ | refine lz4 ?_)); omega))
  have k0 := cell_of_heap ev0 0
  have k1 := cell_of_heap ev0 1
  have z0 := lt_of_heap ev0
  have x0 := cell_of_heap ev1
  have y0 := frozen_of_heap ev1
  have z1 := lt_of_heap ev1
  clear hb1 ev0 ev1 EVR
  go_wp2_with fail
  refine bodyPost_ret (v := .agg #[.int .i64 m, .int .i64 e]) (by simp [results, Tryz.results67, go_sem, x0]) rfl ⟨rfl, ?_⟩
  have hBW := FB1.out
  (repeat with_reducible (first | exact bw0 _ _ | exact hBW | refine bw1 ?_ ?_ _ | refine bw2 ?_ ?_ _ | refine bw3 ?_ _ | refine bw4 ?_)); all_goals (first | omega | (dsimp only; omega) | ((repeat with_reducible (first | refine lz1 ?_ | refine lz2 ?_ | refine lz3 ?_ | refine lz4 ?_)); omega))
theorem floor_lo (h : numR m e = true) (he : e < 0) : Calls Tryz.prog 67 #[.agg #[.int .i64 m, .int .i64 e]] w fun r w' => r = .returned (.agg #[.int .i64 (trimM (decide (m < 0)) (floorN m e)), .int .i64 (trimX (floorN m e) 0)]) ∧ Below w.heap.size w w' := by
  have hsm := numR_small h
  have HR := Lib.hid (right_yes h)
  have HS := Lib.hid (size_all m (numR_i64 h))
  have hWN : floorW m e ≤ m.natAbs := by
    unfold floorW
    split
    · exact Nat.div_le_self _ _
    · omega
  have hNN : floorN m e ≤ m.natAbs + 1 := by unfold floorN; split <;> omega
  have HT := Lib.hid (fun w => trimmed_any (decide (m < 0)) (floorN m e) (by omega) 0 (by omega) (by omega) w)
  obtain ⟨rm, hrm⟩ : ∃ x, x = trimM (decide (m < 0)) (floorN m e) := ⟨_, rfl⟩
  obtain ⟨rx, hrx⟩ : ∃ x, x = trimX (floorN m e) 0 := ⟨_, rfl⟩
  rw [← hrm, ← hrx] at HT ⊢
  obtain ⟨d, hd⟩ : ∃ d : Nat, -e = d := ⟨(-e).toNat, by omega⟩
  have wn : IntKind.i64.wrap (-e) = (d : Int) := by rw [hd]; exact IntWalk.i64_in _ (by omega)
  have HD := Lib.hid hd
  obtain ⟨n, hn⟩ : ∃ n, n = m.natAbs := ⟨_, rfl⟩
  have hn2 : n < 1000000000000000 := by omega
  obtain ⟨N, hN⟩ : ∃ N, N = floorN m e := ⟨_, rfl⟩
  have hND : Hid (N = if m < 0 ∧ floorQ m e ≠ 0 then floorW m e + 1 else floorW m e) := by rw [hN]; rfl
  rw [← hN] at HT
  rw [← hn] at HS
  have HN := Lib.hid hn
  clear h hrm hrx hNN hN hd
  go_enter Tryz.func67, Tryz.ntmps67
  go_wp2_with fail
  refine (HR.out _).mono ?_
  rintro r w1 ⟨rfl, hb1⟩
  have ev0 : w1.heap[w.heap.size]? = some (.cells #[.int .i64 m, .int .i64 e] 32 (0, 0)) := (hb1.block _ (by simp; omega)).trans (by (repeat (first | (with_reducible refine bw5 ?_ _; (first | rfl | (simp; done) | omega | (simp; omega)); done) | with_reducible refine bw6 ?_ _ | with_reducible refine bw7 ?_ | with_reducible refine bw8 ?_)))
  have ev1 : w1.heap[w.heap.size + 1]? = some (.cells #[.int .i64 0, .int .i64 0] 32 (0, 0)) := (hb1.block _ (by simp)).trans (by (repeat (first | (with_reducible refine bw5 ?_ _; (first | rfl | (simp; done) | omega | (simp; omega)); done) | with_reducible refine bw6 ?_ _ | with_reducible refine bw7 ?_ | with_reducible refine bw8 ?_)))
  have FB1 : Hid (Below w.heap.size w w1) := by
    refine Below.trans ?_ (hb1.mono (by simp; omega))
    (repeat with_reducible (first | exact bw0 _ _ | exact hBW | refine bw1 ?_ ?_ _ | refine bw2 ?_ ?_ _ | refine bw3 ?_ _ | refine bw4 ?_)); all_goals (first | omega | (dsimp only; omega) | ((repeat with_reducible (first | refine lz1 ?_ | refine lz2 ?_ | refine lz3 ?_ | refine lz4 ?_)); omega))
  have k0 := cell_of_heap ev0 0
  have k1 := cell_of_heap ev0 1
  have z0 := lt_of_heap ev0
  have EV1 := Lib.hid ev1
  clear hb1 ev0 ev1 HR
  go_wp2_with fail
  refine (HS.out _).mono ?_
  rintro r w2 ⟨rfl, rfl⟩
  clear HS
  by_cases h15 : d ≤ 15
  · have HP := Lib.hid (power_any d h15)
    obtain ⟨p, hp⟩ : ∃ p, p = 10 ^ d := ⟨_, rfl⟩
    have hp0 : 0 < p := by rw [hp]; exact Nat.pow_pos (by omega)
    obtain ⟨W, hW⟩ : ∃ W, W = n / p := ⟨_, rfl⟩
    obtain ⟨Q, hQ⟩ : ∃ Q, Q = n % p := ⟨_, rfl⟩
    have hWle : W ≤ n := by rw [hW]; exact Nat.div_le_self _ _
    have hND2 : Hid (N = if m < 0 ∧ Q ≠ 0 then W + 1 else W) := by
      have := hND.out
      unfold floorQ floorW at this
      have h15' : -e ≤ 15 := by rw [HD.out]; omega
      simp only [h15', if_true] at this
      rw [HD.out, Int.toNat_natCast, ← hp, ← HN.out, ← hW, ← hQ] at this
      exact this
    have tq : Int.tdiv (n : Int) (p : Int) = (W : Int) := by rw [hW]; exact (Int.ofNat_tdiv n p).symm
    have tr : Int.tmod (n : Int) (p : Int) = (Q : Int) := by rw [hQ]; exact (Int.ofNat_tmod n p).symm
    have hpz : ¬ ((p : Int) = 0) := by omega
    have hpz2 : ¬ p = 0 := by omega
    have hpz3 : ((p : Int) == 0) = false := by simp; omega
    have hpz4 : (p == 0) = false := by simp; omega
    have wW : IntKind.u64.wrap (W : Int) = (W : Int) := IntWalk.u64_in _ (by omega)
    have wW1 : IntKind.u64.wrap ((W : Int) + 1) = (W : Int) + 1 := IntWalk.u64_in _ (by omega)
    rw [← hp] at HP
    clear hND hW hQ hp hsm hWN hn
    go_wp2_with fail
    refine (HP.out _).mono ?_
    rintro r w2 ⟨rfl, rfl⟩
    go_wp2_with fail
    refine wp_region_mix [0, 1, 2, 3, 4, 5, 6, 7] [] [] (Below w1.heap.size w1) (by kernel_rfl) (by kernel_rfl) (Below.refl _ _).drew ?_
    iterate 8 (first | (apply first_step; (rw [List.getElem?_toArray]; (repeat rw [List.getElem?_cons_succ]); rw [List.getElem?_cons_zero]); rfl; (intro W hB; have hc := bcellB hB; go_simp; (first | done | rfl)); go_frame) | (apply first_skip; (rw [List.getElem?_toArray]; (repeat rw [List.getElem?_cons_succ]); rw [List.getElem?_cons_zero]); rfl; go_frame))
    refine first_done ?_
    refine tail_done ?_
    by_cases hm : m < 0
    · by_cases hq : Q = 0
      · have n1 : ((Q : Int) != 0) = false := by simp; omega
        have dm : decide (m < 0) = true := by simp; omega
        have EN : Hid ((N : Int) = W) := by have := hND2.out; unfold Hid; simp [hq] at this; rw [this]
        rw [dm] at HT
        rw [EN.out] at HT
        clear hND2 hq EN
        go_wp2_with fail
        refine (HT.out _).mono ?_
        rintro r w2 ⟨rfl, hb2⟩
        have q1 := (hb2.block _ (lt_of_heap EV1.out)).trans EV1.out
        have x0 := cell_of_heap q1
        have y0 := frozen_of_heap q1
        have z1 := lt_of_heap q1
        have HBW : Hid (Below w.heap.size w w2) := by first | exact FB1.out.trans (hb2.mono FB1.out.size) | exact FB1.out.trans (((Below.refl _ w1).drew.trans hb2).mono FB1.out.size)
        clear hb2 q1 k0 k1 z0
        go_wp2_with fail
        refine bodyPost_ret (v := .agg #[.int .i64 rm, .int .i64 rx]) (by simp [results, Tryz.results67, go_sem, x0]) rfl ⟨rfl, ?_⟩
        have hBW := HBW.out
        (repeat with_reducible (first | exact bw0 _ _ | exact hBW | refine bw1 ?_ ?_ _ | refine bw2 ?_ ?_ _ | refine bw3 ?_ _ | refine bw4 ?_)); all_goals (first | omega | (dsimp only; omega) | ((repeat with_reducible (first | refine lz1 ?_ | refine lz2 ?_ | refine lz3 ?_ | refine lz4 ?_)); omega))
      · have n1 : ((Q : Int) != 0) = true := by simp; omega
        have dm : decide (m < 0) = true := by simp; omega
        have EN : Hid ((N : Int) = W + 1) := by have := hND2.out; rw [if_pos ⟨hm, hq⟩] at this; unfold Hid; rw [this]; rfl
        rw [dm] at HT
        rw [EN.out] at HT
        clear hND2 hq EN
        go_wp2_with fail
        refine (HT.out _).mono ?_
        rintro r w2 ⟨rfl, hb2⟩
        have q1 := (hb2.block _ (lt_of_heap EV1.out)).trans EV1.out
        have x0 := cell_of_heap q1
        have y0 := frozen_of_heap q1
        have z1 := lt_of_heap q1
        have HBW : Hid (Below w.heap.size w w2) := by first | exact FB1.out.trans (hb2.mono FB1.out.size) | exact FB1.out.trans (((Below.refl _ w1).drew.trans hb2).mono FB1.out.size)
        clear hb2 q1 k0 k1 z0
        go_wp2_with fail
        refine bodyPost_ret (v := .agg #[.int .i64 rm, .int .i64 rx]) (by simp [results, Tryz.results67, go_sem, x0]) rfl ⟨rfl, ?_⟩
        have hBW := HBW.out
        (repeat with_reducible (first | exact bw0 _ _ | exact hBW | refine bw1 ?_ ?_ _ | refine bw2 ?_ ?_ _ | refine bw3 ?_ _ | refine bw4 ?_)); all_goals (first | omega | (dsimp only; omega) | ((repeat with_reducible (first | refine lz1 ?_ | refine lz2 ?_ | refine lz3 ?_ | refine lz4 ?_)); omega))
    · have dm : decide (m < 0) = false := by simp; omega
      have EN : Hid ((N : Int) = W) := by have := hND2.out; rw [if_neg (fun h => hm h.1)] at this; unfold Hid; rw [this]
      rw [dm] at HT
      rw [EN.out] at HT
      clear hND2 EN
      go_wp2_with fail
      refine (HT.out _).mono ?_
      rintro r w2 ⟨rfl, hb2⟩
      have q1 := (hb2.block _ (lt_of_heap EV1.out)).trans EV1.out
      have x0 := cell_of_heap q1
      have y0 := frozen_of_heap q1
      have z1 := lt_of_heap q1
      have HBW : Hid (Below w.heap.size w w2) := by first | exact FB1.out.trans (hb2.mono FB1.out.size) | exact FB1.out.trans (((Below.refl _ w1).drew.trans hb2).mono FB1.out.size)
      clear hb2 q1 k0 k1 z0
      go_wp2_with fail
      refine bodyPost_ret (v := .agg #[.int .i64 rm, .int .i64 rx]) (by simp [results, Tryz.results67, go_sem, x0]) rfl ⟨rfl, ?_⟩
      have hBW := HBW.out
      (repeat with_reducible (first | exact bw0 _ _ | exact hBW | refine bw1 ?_ ?_ _ | refine bw2 ?_ ?_ _ | refine bw3 ?_ _ | refine bw4 ?_)); all_goals (first | omega | (dsimp only; omega) | ((repeat with_reducible (first | refine lz1 ?_ | refine lz2 ?_ | refine lz3 ?_ | refine lz4 ?_)); omega))
  · have hND2 : Hid (N = if m < 0 ∧ n ≠ 0 then 1 else 0) := by
      have := hND.out
      unfold floorQ floorW at this
      have h15' : ¬ -e ≤ 15 := by rw [HD.out]; omega
      simp only [h15', if_false] at this
      rw [← HN.out] at this
      exact this
    clear hND hsm hWN hn
    by_cases hm : m < 0
    · have n1 : ((n : Int) != 0) = true := by have := HN.out; simp; omega
      have dm : decide (m < 0) = true := by simp; omega
      have EN : Hid ((N : Int) = 1) := by have := hND2.out; have h0 := HN.out; rw [if_pos ⟨hm, by omega⟩] at this; unfold Hid; rw [this]; rfl
      rw [dm] at HT
      rw [EN.out] at HT
      clear hND2 EN
      go_wp2_with fail
      refine (HT.out _).mono ?_
      rintro r w2 ⟨rfl, hb2⟩
      have q1 := (hb2.block _ (lt_of_heap EV1.out)).trans EV1.out
      have x0 := cell_of_heap q1
      have y0 := frozen_of_heap q1
      have z1 := lt_of_heap q1
      have HBW : Hid (Below w.heap.size w w2) := by first | exact FB1.out.trans (hb2.mono FB1.out.size) | exact FB1.out.trans (((Below.refl _ w1).drew.trans hb2).mono FB1.out.size)
      clear hb2 q1 k0 k1 z0
      go_wp2_with fail
      refine bodyPost_ret (v := .agg #[.int .i64 rm, .int .i64 rx]) (by simp [results, Tryz.results67, go_sem, x0]) rfl ⟨rfl, ?_⟩
      have hBW := HBW.out
      (repeat with_reducible (first | exact bw0 _ _ | exact hBW | refine bw1 ?_ ?_ _ | refine bw2 ?_ ?_ _ | refine bw3 ?_ _ | refine bw4 ?_)); all_goals (first | omega | (dsimp only; omega) | ((repeat with_reducible (first | refine lz1 ?_ | refine lz2 ?_ | refine lz3 ?_ | refine lz4 ?_)); omega))
    · have dm : decide (m < 0) = false := by simp; omega
      have EN : Hid ((N : Int) = 0) := by have := hND2.out; rw [if_neg (fun h => hm h.1)] at this; unfold Hid; rw [this]; rfl
      rw [dm] at HT
      rw [EN.out] at HT
      clear hND2 EN
      go_wp2_with fail
      refine (HT.out _).mono ?_
      rintro r w2 ⟨rfl, hb2⟩
      have q1 := (hb2.block _ (lt_of_heap EV1.out)).trans EV1.out
      have x0 := cell_of_heap q1
      have y0 := frozen_of_heap q1
      have z1 := lt_of_heap q1
      have HBW : Hid (Below w.heap.size w w2) := by first | exact FB1.out.trans (hb2.mono FB1.out.size) | exact FB1.out.trans (((Below.refl _ w1).drew.trans hb2).mono FB1.out.size)
      clear hb2 q1 k0 k1 z0
      go_wp2_with fail
      refine bodyPost_ret (v := .agg #[.int .i64 rm, .int .i64 rx]) (by simp [results, Tryz.results67, go_sem, x0]) rfl ⟨rfl, ?_⟩
      have hBW := HBW.out
      (repeat with_reducible (first | exact bw0 _ _ | exact hBW | refine bw1 ?_ ?_ _ | refine bw2 ?_ ?_ _ | refine bw3 ?_ _ | refine bw4 ?_)); all_goals (first | omega | (dsimp only; omega) | ((repeat with_reducible (first | refine lz1 ?_ | refine lz2 ?_ | refine lz3 ?_ | refine lz4 ?_)); omega))
end
end Go.Proofs.YtndhmahkglfopaaGreatDoor
