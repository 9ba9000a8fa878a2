/- oper: told, numbers, reckoned. -/
import Derived.Test.YtndhmahkglfopaaGreatDoorQT13Right
import Derived.Test.YtndhmahkglfopaaGreatDoorQT16P
import Derived.Test.YtndhmahkglfopaaGreatDoorQT16H
import Derived.Test.YtndhmahkglfopaaGreatDoorQT13R09
namespace Go.Proofs.YtndhmahkglfopaaGreatDoor
open Go.RowKit
def VPost (w : World) (u : V) (e : Ending) (w' : World) : Prop := e = .returned (vagg u) ∧ Below w.heap.size w w'
theorem heap_set2 {w : World} {b : Nat} {x y u v : Value} {t : TypeId} {fz : Nat × Nat} (h : w.heap[b]? = some (.cells #[x, y] t fz)) : ((w.setCell ⟨b, 0, none⟩ u).setCell ⟨b, 1, none⟩ v).heap[b]? = some (.cells #[u, v] t fz) := heap_setCell_at (heap_setCell_at h 0 u) 1 v
theorem heap_set2_ne {w : World} {b c : Nat} {u v : Value} (h : b ≠ c) : ((w.setCell ⟨c, 0, none⟩ u).setCell ⟨c, 1, none⟩ v).heap[b]? = w.heap[b]? := (Below.heap_setCell _ _ _ _ h).trans (Below.heap_setCell _ _ _ _ h)
theorem body_abs {P : Program} {fn : Func} {R : Ending → World → Prop} {x : Exit} {a : Act} {w : World} (h : ∀ W, W = w → bodyPost P fn R x a W) : bodyPost P fn R x a w := h w rfl
section
variable (w : World)
set_option maxHeartbeats 2000000
set_option maxRecDepth 100000
/- the end of numbers: what stands in the two results ($1 $2, $3 $4), the fault $5; HBx -/
/- the result blocks and the second value's block, behind a world $1; HBx: Below w.heap.size w $1 -/
end
end Go.Proofs.YtndhmahkglfopaaGreatDoor
/- oper: reckoned, quotient. -/
namespace Go.Proofs.YtndhmahkglfopaaGreatDoor
open Go.RowKit
def Ent (g : Nat) : Prop := ∀ (args : Array Value) (W : World), (callFunc g args).run Tryz.prog W = .ok (.enter g args) W
section
variable (x y : V) (w : World)
set_option maxHeartbeats 2000000
set_option maxRecDepth 100000
/- through numbers; $1: the function; then the blocks of the two numbers lie at w1's end -/
/- behind a call whose world is $1 (hb$2 : Below .. from the world before, HB: Below w .. $1): the result's store, the end; $3: the function, u: the value -/
/- a call of Bad with fault $2 at world W0 (HBW0: Below w W0, EW0: the result's block), $1: the function -/
/- the reckoning at the two numbers, then told -/
end
end Go.Proofs.YtndhmahkglfopaaGreatDoor
/- num.Add. -/
namespace Go.Proofs.YtndhmahkglfopaaGreatDoor
open Go.RowKit
section
variable (m e m' e' : Int) (w : World)
set_option maxHeartbeats 1000000
set_option maxRecDepth 100000
set_option maxHeartbeats 6000000 in
theorem add_yes (h : numR m e = true) (h' : numR m' e' = true) (htab : Tab w) : Calls Tryz.prog 26 #[.agg #[.int .i64 m, .int .i64 e], .agg #[.int .i64 m', .int .i64 e']] w (NumPost w (addR m e m' e')) := by
  have HR := Lib.hid (fun w => by have := num_all m e (numR_i64 h) w; rw [h] at this; exact this : ∀ w : World, Calls Tryz.prog 54 #[.agg #[.int .i64 m, .int .i64 e]] w fun r w' => r = .returned (.bool true) ∧ Below w.heap.size w w')
  have HR2 := Lib.hid (fun w => by have := num_all m' e' (numR_i64 h') w; rw [h'] at this; exact this : ∀ w : World, Calls Tryz.prog 54 #[.agg #[.int .i64 m', .int .i64 e']] w fun r w' => r = .returned (.bool true) ∧ Below w.heap.size w w')
  have hb := numR_small h
  have hb' := numR_small h'
  obtain ⟨low, hlow⟩ : ∃ low, low = min e e' := ⟨_, rfl⟩
  obtain ⟨k, hk⟩ : ∃ k : Nat, e - low = k := ⟨(e - low).toNat, by omega⟩
  obtain ⟨k', hk'⟩ : ∃ k' : Nat, e' - low = k' := ⟨(e' - low).toNat, by omega⟩
  have HSX := Lib.hid (spread_any m e low h k hk (by omega))
  have HSY := Lib.hid (spread_any m' e' low h' k' hk' (by omega))
  go_enter Tryz.func26, Tryz.ntmps26
  go_wp2_with fail
  refine (HR.out _).mono ?_
  rintro r w1 ⟨rfl, hb1⟩
  have ev0 : w1.heap[w.heap.size]? = some (.cells #[.int .i64 m, .int .i64 e] 32 (0, 0)) := (hb1.block _ (by simp; omega)).trans (by (repeat (first | (with_reducible refine bw5 ?_ _; (first | rfl | (simp; done) | omega | (simp; omega)); done) | with_reducible refine bw6 ?_ _ | with_reducible refine bw7 ?_ | with_reducible refine bw8 ?_)))
  have ev1 : w1.heap[w.heap.size + 1]? = some (.cells #[.int .i64 m', .int .i64 e'] 32 (0, 0)) := (hb1.block _ (by simp)).trans (by (repeat (first | (with_reducible refine bw5 ?_ _; (first | rfl | (simp; done) | omega | (simp; omega)); done) | with_reducible refine bw6 ?_ _ | with_reducible refine bw7 ?_ | with_reducible refine bw8 ?_)))
  have ev2 : w1.heap[w.heap.size + 1 + 1]? = some (.cells #[.int .i64 0, .int .i64 0] 32 (0, 0)) := (hb1.block _ (by simp)).trans (by (repeat (first | (with_reducible refine bw5 ?_ _; (first | rfl | (simp; done) | omega | (simp; omega)); done) | with_reducible refine bw6 ?_ _ | with_reducible refine bw7 ?_ | with_reducible refine bw8 ?_)))
  have FB1 : Hid (Below w.heap.size w w1) := by
    refine Below.trans ?_ (hb1.mono (by simp; omega))
    (repeat with_reducible (first | exact bw0 _ _ | exact hBW | refine bw1 ?_ ?_ _ | refine bw2 ?_ ?_ _ | refine bw3 ?_ _ | refine bw4 ?_)); all_goals (first | omega | (dsimp only; omega) | ((repeat with_reducible (first | refine lz1 ?_ | refine lz2 ?_ | refine lz3 ?_ | refine lz4 ?_)); omega))
  have EV0 := Lib.hid ev0
  have EV1 := Lib.hid ev1
  have EV2 := Lib.hid ev2
  clear hb1
  have k0 := cell_of_heap ev1 0
  have k1 := cell_of_heap ev1 1
  have z1 := lt_of_heap ev1
  clear ev0 ev1 ev2
  go_wp2_with fail
  refine (HR2.out _).mono ?_
  rintro r w2 ⟨rfl, hb2⟩
  have ev0 := (hb2.block _ (lt_of_heap EV0.out)).trans EV0.out
  have ev1 := (hb2.block _ (lt_of_heap EV1.out)).trans EV1.out
  have FB2 : Hid (Below w.heap.size w w2) := FB1.out.trans (hb2.mono FB1.out.size)
  clear k0 k1 z1
  have k0 := cell_of_heap ev0 0
  have k1 := cell_of_heap ev0 1
  have j0 := cell_of_heap ev1 0
  have j1 := cell_of_heap ev1 1
  have z0 := lt_of_heap ev0
  have z1 := lt_of_heap ev1
  have EV0 := Lib.hid ev0
  have EV1 := Lib.hid ev1
  have EV2 := Lib.hid ((hb2.block _ (lt_of_heap EV2.out)).trans EV2.out)
  have HT2 := Lib.hid (htab.below FB2.out)
  clear hb2 ev0 ev1 htab
  go_wp2_with fail
  rw [← hlow]
  have hl1 : -40 ≤ low ∧ low ≤ 40 := by omega
  obtain ⟨X, hX⟩ : ∃ X, X = sprP m.natAbs k := ⟨_, rfl⟩
  obtain ⟨Y, hY⟩ : ∃ Y, Y = sprP m'.natAbs k' := ⟨_, rfl⟩
  have bX := spr_bd m.natAbs k (by omega) (by omega)
  have bY := spr_bd m'.natAbs k' (by omega) (by omega)
  obtain ⟨n, hn⟩ : ∃ n, n = max X.length Y.length + 1 := ⟨_, rfl⟩
  obtain ⟨R, hR⟩ : ∃ R, R = addR m e m' e' := ⟨_, rfl⟩
  have ER : Hid (R = roundP (settleP (gatP (decide (m' < 0)) (gatP (decide (m < 0)) (List.replicate n 0) X) Y)).2 (settleP (gatP (decide (m' < 0)) (gatP (decide (m < 0)) (List.replicate n 0) X) Y)).1 low) := by
    unfold Hid
    rw [hR]
    unfold addR
    simp only
    rw [← hlow, hk, hk', Int.toNat_natCast, Int.toNat_natCast, ← hX, ← hY, ← hn]
  have HRR := Lib.hid hR
  rw [← hX] at HSX bX
  rw [← hY] at HSY bY
  have wn : IntKind.i64.wrap (max (X.length : Int) (Y.length : Int) + 1) = (n : Int) := by
    rw [show max (X.length : Int) (Y.length : Int) + 1 = (n : Int) by omega]
    exact IntWalk.i64_in _ (by omega)
  have hnX : X.length ≤ n := by omega
  have hnY : Y.length ≤ n := by omega
  have hn0 : 0 < n := by omega
  have hnb : n ≤ 1000000 := by omega
  have hnb2 : n ≤ 100000 := by omega
  clear hlow hk hk' hX hY hn hR hb hb' h h'
  refine wp_region_mix [0, 1, 3, 4] [2, 5, 6, 7] [5, 6, 7] (Below w2.heap.size w2) (by kernel_rfl) (by kernel_rfl) (Below.refl _ _).drew ?_
  iterate 4 (first | (apply first_step; (rw [List.getElem?_toArray]; (repeat rw [List.getElem?_cons_succ]); rw [List.getElem?_cons_zero]); rfl; (intro W hB; have hc := bcellB hB; go_simp; (first | done | rfl)); go_frame) | (apply first_skip; (rw [List.getElem?_toArray]; (repeat rw [List.getElem?_cons_succ]); rw [List.getElem?_cons_zero]); rfl; go_frame))
  refine first_done ?_
  apply tail_step; (rw [List.getElem?_toArray]; (repeat rw [List.getElem?_cons_succ]); rw [List.getElem?_cons_zero]); rfl; rfl; intro K hK; go_simp
  refine (HSX.out _ (HT2.out.below (by (repeat with_reducible (first | exact bw0 _ _ | exact hBW | refine bw1 ?_ ?_ _ | refine bw2 ?_ ?_ _ | refine bw3 ?_ _ | refine bw4 ?_)); all_goals (first | omega | (dsimp only; omega) | ((repeat with_reducible (first | refine lz1 ?_ | refine lz2 ?_ | refine lz3 ?_ | refine lz4 ?_)); omega))))).mono ?_
  rintro r w3 ⟨v3, rfl, hown3, hb3⟩
  have hb3' : Below w2.heap.size w2 w3 := (Below.refl _ w2).drew.trans hb3
  refine hK _ _ (fun _ => hb3') ?_
  clear hK K
  have HOWN3 := Lib.hid hown3
  have HB3 := Lib.hid hb3'
  clear hown3 hb3 hb3'
  apply tail_step; (rw [List.getElem?_toArray]; (repeat rw [List.getElem?_cons_succ]); rw [List.getElem?_cons_zero]); rfl; rfl; intro K hK; go_simp
  refine (HSY.out _ (HT2.out.below HB3.out)).mono ?_
  rintro r w4 ⟨v4, rfl, hown4, hb4⟩
  refine hK _ _ (fun h => absurd (by decide) h) ?_
  clear hK K
  have HB4 := Lib.hid (HB3.out.trans (hb4.mono HB3.out.size))
  have HOWN4 := Lib.hid hown4
  obtain ⟨gx, cx, rfl, dx⟩ := dgs_of_own HOWN3.out bX.2.2 bX.1
  obtain ⟨gy, cy, rfl, dy⟩ := dgs_of_own HOWN4.out bY.2.2 bY.1
  have DX := Lib.hid (dx.below hb4)
  have DY := Lib.hid dy
  clear hown4 hb4 dx dy HOWN3 HOWN4 k0 k1 j0 j1 z0 z1 HB3
  (apply tail_step; (rw [List.getElem?_toArray]; (repeat rw [List.getElem?_cons_succ]); rw [List.getElem?_cons_zero]); rfl; rfl; intro K hK; go_simp; refine hK _ _ (fun h => absurd (by decide) h) ?_; clear hK K)
  (apply tail_step; (rw [List.getElem?_toArray]; (repeat rw [List.getElem?_cons_succ]); rw [List.getElem?_cons_zero]); rfl; rfl; intro K hK; go_simp; refine hK _ _ (fun h => absurd (by decide) h) ?_; clear hK K)
  refine tail_done ?_
  go_wp2_with fail
  obtain ⟨i0, hi, hz0, hz1, hz2⟩ := info_parts info3
  obtain ⟨wm, hmk, hownm, hgrm⟩ := run_make_full (P := Tryz.prog) w4 w4.heap.size 75 3 i0 (.int .i64 0) 1 Tryz.underlying75 hi hz0 hz1 .i64 .i64 n (by rw [hz2]; omega) (by unfold maxLen; omega) (Nat.le_refl _)
  rw [hmk]
  have hbm : Below w4.heap.size w4 wm := (Below.refl _ w4).grown hgrm (Nat.le_refl _) (fun k e => by cases e)
  have IVM : Hid (IvS wm w4.heap.size (List.replicate n 0)) := by
    unfold Hid IvS
    rw [make_block hownm]
    congr 2
    rw [made_one rfl, Nat.mul_one]
    simp [iv]
  have HBM := Lib.hid (HB4.out.trans (hbm.mono HB4.out.size))
  have hz4 := HB4.out.size
  obtain ⟨sb, hsb⟩ : ∃ sb, sb = w4.heap.size := ⟨_, rfl⟩
  have hsb2 : w2.heap.size ≤ sb := by omega
  have DXm := Lib.hid (DX.out.below hbm)
  have DYm := Lib.hid (DY.out.below hbm)
  have q0 := (HBM.out.block _ (lt_of_heap EV0.out)).trans EV0.out
  have hsbm : sb < wm.heap.size := by rw [hsb]; exact IVM.out.lt
  have a0 := cell_of_heap q0 0
  have zz0 := lt_of_heap q0
  rw [← hsb] at IVM ⊢
  clear hi hz0 hz1 hz2 hmk hownm hgrm hbm DX DY q0 hsb HB4 hz4 wn
  go_wp2_with fail
  refine (gather_any _ (decide (m < 0)) IVM.out DXm.out (by simp) rfl hnX hnb).mono ?_
  rintro r w5 ⟨rfl, iv5, f5⟩
  have HB5 : Hid (Below w2.heap.size w2 w5) := HBM.out.trans (f5.below HBM.out.size (fun k hk => by rw [hk]; exact hsb2))
  have DY5 := Lib.hid (DYm.out.of_block (f5.block _ DYm.out.lt (IVM.out.ne DYm.out)))
  have IV5 := Lib.hid iv5
  have l5 : Hid ((gatP (decide (m < 0)) (List.replicate n 0) X).length = n) := by unfold gatP Hid; rw [gatK_len]; simp
  have q1 := (HB5.out.block _ (lt_of_heap EV1.out)).trans EV1.out
  have b0 := cell_of_heap q1 0
  have zz1 := lt_of_heap q1
  clear iv5 f5 a0 zz0 q1 hsbm DXm DYm IVM HBM
  go_wp2_with fail
  refine (gather_any _ (decide (m' < 0)) IV5.out DY5.out l5.out rfl hnY hnb).mono ?_
  rintro r w6 ⟨rfl, iv6, f6⟩
  have HB6 : Hid (Below w2.heap.size w2 w6) := HB5.out.trans (f6.below HB5.out.size (fun k hk => by rw [hk]; exact hsb2))
  have l6 : Hid ((gatP (decide (m' < 0)) (gatP (decide (m < 0)) (List.replicate n 0) X) Y).length = n) := by unfold gatP Hid; rw [gatK_len]; exact l5.out
  generalize gatP (decide (m' < 0)) (gatP (decide (m < 0)) (List.replicate n 0) X) Y = S at iv6 l6 ER
  have IV6 := Lib.hid iv6
  clear iv6 f6 b0 zz1 DY5 IV5 l5 HB5
  go_wp2_with fail
  refine (settle_any _ IV6.out l6.out hnb).mono ?_
  rintro r w7 ⟨g, rfl, d7, hb7⟩
  have hr7 : (settleP S).1.length = n := by unfold settleP; rw [setK_len]; exact l6.out
  generalize settleP S = q at d7 hr7 ER ⊢
  obtain ⟨R1, ng⟩ := q
  simp only at d7 hr7 ER ⊢
  have HB7 : Hid (Below w2.heap.size w2 w7) := HB6.out.trans (hb7.mono HB6.out.size)
  have D7 := Lib.hid d7
  have hgb := d7.le
  have hz6 := HB6.out.size
  have hl7 : R1.length ≤ 100000 := by rw [hr7]; exact hnb2
  have hz7 := hb7.size
  clear d7 hb7 HB6 IV6 l6
  go_wp2_with fail
  have HRN := round_any ng low _ hz7 D7.out hl7 (by omega)
  rw [hr7] at HRN
  refine HRN.mono ?_
  clear HRN
  rintro r w8 ⟨rfl, f8⟩
  have HB8 : Hid (Below w2.heap.size w2 w8) := HB7.out.trans (f8.below HB7.out.size (fun k hk => by rw [hk]; omega))
  generalize roundP ng R1 low = RR at ER ⊢
  obtain ⟨⟨rm, rx⟩, rk⟩ := RR
  have ER2 : Hid (addR m e m' e' = ((rm, rx), rk)) := by unfold Hid; rw [← HRR.out]; exact ER.out
  have q2 := (HB8.out.block _ (lt_of_heap EV2.out)).trans EV2.out
  have x0 := cell_of_heap q2
  have y0 := frozen_of_heap q2
  have z0 := lt_of_heap q2
  have HBW : Hid (Below w.heap.size w w8) := FB2.out.trans (HB8.out.mono FB2.out.size)
  clear f8 q2 D7 HB7 ER HRR EV0 EV1 EV2 HB8 hgb hz6 hz7
  unfold NumV
  simp only
  go_wp2_with fail
  refine bodyPost_ret (v := .tuple #[.agg #[.int .i64 rm, .int .i64 rx], .bool rk]) (by simp [results, Tryz.results26, go_sem, x0]) rfl ⟨ret_numv ER2.out, ?_⟩
  have hBW := HBW.out
  (repeat with_reducible (first | exact bw0 _ _ | exact hBW | refine bw1 ?_ ?_ _ | refine bw2 ?_ ?_ _ | refine bw3 ?_ _ | refine bw4 ?_)); all_goals (first | omega | (dsimp only; omega) | ((repeat with_reducible (first | refine lz1 ?_ | refine lz2 ?_ | refine lz3 ?_ | refine lz4 ?_)); omega))
end
end Go.Proofs.YtndhmahkglfopaaGreatDoor
/- num.Text. -/
namespace Go.Proofs.YtndhmahkglfopaaGreatDoor
open Go.RowKit
theorem ba_app (x y : List UInt8) : (⟨x.toArray⟩ : ByteArray) ++ ⟨y.toArray⟩ = ⟨(x ++ y).toArray⟩ := by
  apply ByteArray.ext
  simp
theorem ret_str {x y : ByteArray} (h : x = y) : Ending.returned (.string x) = .returned (.string y) := by rw [h]
section
variable (m e : Int) (w : World)
set_option maxHeartbeats 2000000
set_option maxRecDepth 100000
end
end Go.Proofs.YtndhmahkglfopaaGreatDoor
