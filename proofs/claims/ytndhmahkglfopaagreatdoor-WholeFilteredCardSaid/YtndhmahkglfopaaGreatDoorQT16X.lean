/- num.cmpSize, num.Cmp. -/
import Derived.Test.YtndhmahkglfopaaGreatDoorQT13NumA
import Derived.Test.YtndhmahkglfopaaGreatDoorQT16W
import Derived.Test.YtndhmahkglfopaaGreatDoorQT16H
namespace Go.Proofs.YtndhmahkglfopaaGreatDoor
open Go.RowKit
theorem numR_pos {m e : Int} (h : numR m e = true) (h0 : m ≠ 0) : 1 ≤ nd m.natAbs ∧ nd m.natAbs ≤ 15 ∧ m.natAbs * 10 ^ (15 - nd m.natAbs) < 1000000000000000 := by
  have hb := numR_small h
  have h1 := nd_pos (n := m.natAbs) (by omega)
  have h2 := nd_le 15 m.natAbs (by omega)
  refine ⟨by omega, h2, ?_⟩
  have h3 := lt_pow_nd _ m.natAbs (Nat.le_refl _)
  have h4 : 10 ^ nd m.natAbs * 10 ^ (15 - nd m.natAbs) = 1000000000000000 := by
    rw [← Nat.pow_add, show nd m.natAbs + (15 - nd m.natAbs) = 15 by omega]
  rw [← h4]
  exact Nat.mul_lt_mul_of_pos_right h3 (Nat.pow_pos (by omega))
/-- Two sizes held against each other: digits and powers. -/
def cszD (x : Nat) (d : Nat) (e : Int) (y : Nat) (d' : Nat) (e' : Int) : Int :=
  if d + e ≠ d' + e' then (if d + e < d' + e' then -1 else 1) else if x < y then -1 else if y < x then 1 else 0
def cmpZ (m e m' e' : Int) : Int :=
  if m = 0 then 0 else cszD (m.natAbs * 10 ^ (15 - nd m.natAbs)) (nd m.natAbs) e (m'.natAbs * 10 ^ (15 - nd m'.natAbs)) (nd m'.natAbs) e'
section
variable (m e m' e' : Int) (w : World)
set_option maxHeartbeats 1000000
set_option maxRecDepth 100000
theorem cmpSize_0 : Calls Tryz.prog 133 #[.agg #[.int .i64 0, .int .i64 e], .agg #[.int .i64 m', .int .i64 e']] w fun r w' => r = .returned (.int .i64 0) ∧ Below w.heap.size w w' := by
  go_enter Tryz.func133, Tryz.ntmps133
  go_wp2_with fail
  go_ret
  refine ⟨rfl, ?_⟩
  (repeat with_reducible (first | exact bw0 _ _ | exact hBW | refine bw1 ?_ ?_ _ | refine bw2 ?_ ?_ _ | refine bw3 ?_ _ | refine bw4 ?_)); all_goals (first | omega | (dsimp only; omega) | ((repeat with_reducible (first | refine lz1 ?_ | refine lz2 ?_ | refine lz3 ?_ | refine lz4 ?_)); omega))
theorem cmpSize_D (M D M' D' P P' : Nat) (n0 : (m == 0) = false) (hD : 1 ≤ D) (hD2 : D ≤ 15) (hD' : 1 ≤ D') (hD2' : D' ≤ 15) (he : -40 ≤ e ∧ e ≤ 40) (he' : -40 ≤ e' ∧ e' ≤ 40)
    (hx : M * P < 1000000000000000) (hy : M' * P' < 1000000000000000)
    (HS : ∀ w : World, Calls Tryz.prog 61 #[.int .i64 m] w fun e w' => e = .returned (.int .u64 (M : Nat)) ∧ w = w')
    (HS' : ∀ w : World, Calls Tryz.prog 61 #[.int .i64 m'] w fun e w' => e = .returned (.int .u64 (M' : Nat)) ∧ w = w')
    (HC : ∀ w : World, Calls Tryz.prog 97 #[.int .u64 M] w fun e w' => e = .returned (.int .i64 D) ∧ w = w')
    (HC' : ∀ w : World, Calls Tryz.prog 97 #[.int .u64 M'] w fun e w' => e = .returned (.int .i64 D') ∧ w = w')
    (HP : ∀ w : World, Calls Tryz.prog 105 #[.int .i64 (15 - (D : Int))] w fun e w' => e = .returned (.int .u64 P) ∧ w = w')
    (HP' : ∀ w : World, Calls Tryz.prog 105 #[.int .i64 (15 - (D' : Int))] w fun e w' => e = .returned (.int .u64 P') ∧ w = w') :
    Calls Tryz.prog 133 #[.agg #[.int .i64 m, .int .i64 e], .agg #[.int .i64 m', .int .i64 e']] w fun r w' => r = .returned (.int .i64 (cszD (M * P) D e (M' * P') D' e')) ∧ Below w.heap.size w w' := by
  have HS := Lib.hid HS
  have HS' := Lib.hid HS'
  have HC := Lib.hid HC
  have HC' := Lib.hid HC'
  have HP := Lib.hid HP
  have HP' := Lib.hid HP'
  have HX := Lib.hid hx
  have HY := Lib.hid hy
  have wd : IntKind.i64.wrap ((D : Int) + e) = (D : Int) + e := IntWalk.i64_in _ (by omega)
  have wd' : IntKind.i64.wrap ((D' : Int) + e') = (D' : Int) + e' := IntWalk.i64_in _ (by omega)
  obtain ⟨R, hR⟩ : ∃ R, R = cszD (M * P) D e (M' * P') D' e' := ⟨_, rfl⟩
  rw [← hR]
  have HR := Lib.hid hR
  clear hx hy hR
  go_enter Tryz.func133, Tryz.ntmps133
  go_wp2_with fail
  refine abs_world ?_
  intro W1 hW1
  have hB1 : Hid (Below w.heap.size w W1) := by rw [hW1]; unfold Hid; (repeat with_reducible (first | exact bw0 _ _ | exact hBW | refine bw1 ?_ ?_ _ | refine bw2 ?_ ?_ _ | refine bw3 ?_ _ | refine bw4 ?_)); all_goals (first | omega | (dsimp only; omega) | ((repeat with_reducible (first | refine lz1 ?_ | refine lz2 ?_ | refine lz3 ?_ | refine lz4 ?_)); omega))
  have ev : W1.heap[w.heap.size]? = some (.cells #[.int .i64 m, .int .i64 e] 32) := by rw [hW1]; (repeat (first | (with_reducible refine bw5 ?_ _; (first | rfl | (simp; done) | omega | (simp; omega)); done) | with_reducible refine bw6 ?_ _ | with_reducible refine bw7 ?_ | with_reducible refine bw8 ?_))
  have ev' : W1.heap[w.heap.size + 1]? = some (.cells #[.int .i64 m', .int .i64 e'] 32) := by rw [hW1]; (repeat (first | (with_reducible refine bw5 ?_ _; (first | rfl | (simp; done) | omega | (simp; omega)); done) | with_reducible refine bw6 ?_ _ | with_reducible refine bw7 ?_ | with_reducible refine bw8 ?_))
  have k0 := cell_of_heap ev 0
  have k1 := cell_of_heap ev 1
  have j0 := cell_of_heap ev' 0
  have j1 := cell_of_heap ev' 1
  have z1 := lt_of_heap ev
  have z2 := lt_of_heap ev'
  clear hW1 ev ev' n0
  refine wp_region_mix [0, 1, 3, 4] [2, 5, 6, 7] [5, 6, 7] (Below W1.heap.size W1) (by kernel_rfl) (by kernel_rfl) (Below.refl _ _).drew ?_
  iterate 4 (first | (apply first_step; (rw [List.getElem?_toArray]; (repeat rw [List.getElem?_cons_succ]); rw [List.getElem?_cons_zero]); rfl; (intro W hB; have hc := bcellB hB; go_simp; (first | done | rfl)); go_frame) | (apply first_skip; (rw [List.getElem?_toArray]; (repeat rw [List.getElem?_cons_succ]); rw [List.getElem?_cons_zero]); rfl; go_frame))
  refine first_done ?_
  apply tail_step; (rw [List.getElem?_toArray]; (repeat rw [List.getElem?_cons_succ]); rw [List.getElem?_cons_zero]); rfl; rfl; intro K hK; go_simp
  refine (HS.out _).mono ?_
  rintro r w2 ⟨rfl, rfl⟩
  refine hK _ _ (fun _ => (Below.refl _ W1).drew) ?_
  clear hK K
  apply tail_step; (rw [List.getElem?_toArray]; (repeat rw [List.getElem?_cons_succ]); rw [List.getElem?_cons_zero]); rfl; rfl; intro K hK; go_simp
  refine (HS'.out _).mono ?_
  rintro r w2 ⟨rfl, rfl⟩
  refine hK _ _ (fun h => absurd (by decide) h) ?_
  clear hK K
  (apply tail_step; (rw [List.getElem?_toArray]; (repeat rw [List.getElem?_cons_succ]); rw [List.getElem?_cons_zero]); rfl; rfl; intro K hK; go_simp; refine hK _ _ (fun h => absurd (by decide) h) ?_; clear hK K)
  (apply tail_step; (rw [List.getElem?_toArray]; (repeat rw [List.getElem?_cons_succ]); rw [List.getElem?_cons_zero]); rfl; rfl; intro K hK; go_simp; refine hK _ _ (fun h => absurd (by decide) h) ?_; clear hK K)
  refine tail_done ?_
  go_wp2_with fail
  refine (HC.out _).mono ?_
  rintro r w2 ⟨rfl, rfl⟩
  go_wp2_with fail
  refine (HC'.out _).mono ?_
  rintro r w2 ⟨rfl, rfl⟩
  go_wp2_with fail
  refine wp_region_mix [0, 1, 2, 3, 4, 5, 6, 7, 8, 9] [] [] (Below W1.heap.size W1) (by kernel_rfl) (by kernel_rfl) (Below.refl _ _).drew.drew ?_
  iterate 10 (first | (apply first_step; (rw [List.getElem?_toArray]; (repeat rw [List.getElem?_cons_succ]); rw [List.getElem?_cons_zero]); rfl; (intro W hB; have hc := bcellB hB; go_simp; (first | done | rfl)); go_frame) | (apply first_skip; (rw [List.getElem?_toArray]; (repeat rw [List.getElem?_cons_succ]); rw [List.getElem?_cons_zero]); rfl; go_frame))
  refine first_done ?_
  refine tail_done ?_
  clear k0 k1 j0 j1
  by_cases c1 : (D : Int) + e = D' + e'
  · have n1 : ((D : Int) + e != D' + e') = false := by simpa using c1
    have wp1 : IntKind.i64.wrap (15 - (D : Int)) = 15 - (D : Int) := IntWalk.i64_in _ (by omega)
    have wp2 : IntKind.i64.wrap (15 - (D' : Int)) = 15 - (D' : Int) := IntWalk.i64_in _ (by omega)
    have EC : R = if M * P < M' * P' then -1 else if M' * P' < M * P then 1 else 0 := by rw [HR.out]; unfold cszD; rw [if_neg (by omega)]
    clear HR c1
    obtain ⟨X, hX⟩ : ∃ X : Nat, X = M * P := ⟨_, rfl⟩
    obtain ⟨Y, hY⟩ : ∃ Y : Nat, Y = M' * P' := ⟨_, rfl⟩
    have wq : IntKind.u64.wrap ((M : Int) * P) = (X : Int) := by rw [hX, Int.natCast_mul]; exact IntWalk.u64_in _ (by rw [← Int.natCast_mul]; have := HX.out; omega)
    have wq' : IntKind.u64.wrap ((M' : Int) * P') = (Y : Int) := by rw [hY, Int.natCast_mul]; exact IntWalk.u64_in _ (by rw [← Int.natCast_mul]; have := HY.out; omega)
    rw [← hX, ← hY] at EC
    have EC := Lib.hid EC
    clear hX hY
    go_wp2_with fail
    refine (HP.out _).mono ?_
    rintro r w2 ⟨rfl, rfl⟩
    go_wp2_with fail
    refine (HP'.out _).mono ?_
    rintro r w2 ⟨rfl, rfl⟩
    by_cases c2 : X < Y
    · have EC' : Hid (R = -1) := by unfold Hid; rw [EC.out, if_pos c2]
      have c2' : decide ((X : Int) < Y) = true := by simpa using c2
      go_wp2_with fail
      go_ret
      exact ⟨ret_int EC'.out.symm, hB1.out.drew.drew⟩
    · have c2' : decide ((X : Int) < Y) = false := by simpa using c2
      by_cases c3 : Y < X
      · have EC' : Hid (R = 1) := by unfold Hid; rw [EC.out, if_neg c2, if_pos c3]
        have c3' : decide ((Y : Int) < X) = true := by simpa using c3
        go_wp2_with fail
        go_ret
        exact ⟨ret_int EC'.out.symm, hB1.out.drew.drew⟩
      · have EC' : Hid (R = 0) := by unfold Hid; rw [EC.out, if_neg c2, if_neg c3]
        have c3' : decide ((Y : Int) < X) = false := by simpa using c3
        go_wp2_with fail
        go_ret
        exact ⟨ret_int EC'.out.symm, hB1.out.drew.drew⟩
  · have n1 : ((D : Int) + e != D' + e') = true := by simpa using c1
    by_cases c2 : (D : Int) + e < D' + e'
    · have EC : Hid (R = -1) := by unfold Hid; rw [HR.out]; unfold cszD; rw [if_pos c1, if_pos c2]
      clear HR c1
      go_wp2_with fail
      go_ret
      exact ⟨ret_int EC.out.symm, hB1.out.drew.drew⟩
    · have EC : Hid (R = 1) := by unfold Hid; rw [HR.out]; unfold cszD; rw [if_pos c1, if_neg c2]
      clear HR c1
      go_wp2_with fail
      go_ret
      exact ⟨ret_int EC.out.symm, hB1.out.drew.drew⟩
end
theorem cmpSize_any (m e m' e' : Int) (h : numR m e = true) (h' : numR m' e' = true) (hz : m ≠ 0 → m' ≠ 0) (w : World) :
    Calls Tryz.prog 133 #[.agg #[.int .i64 m, .int .i64 e], .agg #[.int .i64 m', .int .i64 e']] w fun r w' => r = .returned (.int .i64 (cmpZ m e m' e')) ∧ Below w.heap.size w w' := by
  by_cases h0 : m = 0
  · have hz : cmpZ m e m' e' = 0 := by unfold cmpZ; rw [if_pos h0]
    rw [hz, h0]
    exact cmpSize_0 e m' e' w
  · have ez : cmpZ m e m' e' = cszD (m.natAbs * 10 ^ (15 - nd m.natAbs)) (nd m.natAbs) e (m'.natAbs * 10 ^ (15 - nd m'.natAbs)) (nd m'.natAbs) e' := by unfold cmpZ; rw [if_neg h0]
    rw [ez]
    have b := numR_small h
    have b' := numR_small h'
    have p := numR_pos h h0
    have p' := numR_pos h' (hz h0)
    have c1 : (15 - (nd m.natAbs : Int)) = ((15 - nd m.natAbs : Nat) : Int) := by omega
    have c2 : (15 - (nd m'.natAbs : Int)) = ((15 - nd m'.natAbs : Nat) : Int) := by omega
    refine cmpSize_D m e m' e' w m.natAbs _ m'.natAbs _ _ _ (by simpa using h0) p.1 p.2.1 p'.1 p'.2.1 b.2 b'.2 p.2.2 p'.2.2 (size_all m (numR_i64 h)) (size_all m' (numR_i64 h')) (count_any _ (by omega) b.1) (count_any _ (by have := hz h0; omega) b'.1) ?_ ?_
    · rw [c1]; exact power_any _ (by omega)
    · rw [c2]; exact power_any _ (by omega)
def cmpN (m e m' e' : Int) : Int := if sgn m ≠ sgn m' then (if sgn m < sgn m' then -1 else 1) else sgn m * cmpZ m e m' e'
theorem sgn_cases (m : Int) : sgn m = -1 ∨ sgn m = 0 ∨ sgn m = 1 := by unfold sgn; split; exact .inl rfl; split; exact .inr (.inr rfl); exact .inr (.inl rfl)
theorem sgn_zero {m : Int} : sgn m = 0 ↔ m = 0 := by unfold sgn; split; omega; split <;> omega
theorem cmpZ_cases (m e m' e' : Int) : cmpZ m e m' e' = -1 ∨ cmpZ m e m' e' = 0 ∨ cmpZ m e m' e' = 1 := by
  unfold cmpZ cszD
  (repeat' split) <;> simp
section
variable (m e m' e' : Int) (w : World)
set_option maxHeartbeats 1000000
set_option maxRecDepth 100000
theorem Cmp_D (s s' Z : Int) (hs : s = -1 ∨ s = 0 ∨ s = 1) (hZ : Z = -1 ∨ Z = 0 ∨ Z = 1)
    (HR : ∀ w : World, Calls Tryz.prog 54 #[.agg #[.int .i64 m, .int .i64 e]] w fun r w' => r = .returned (.bool true) ∧ Below w.heap.size w w')
    (HR' : ∀ w : World, Calls Tryz.prog 54 #[.agg #[.int .i64 m', .int .i64 e']] w fun r w' => r = .returned (.bool true) ∧ Below w.heap.size w w')
    (HS : ∀ w : World, Calls Tryz.prog 132 #[.agg #[.int .i64 m, .int .i64 e]] w fun r w' => r = .returned (.int .i64 s) ∧ Below w.heap.size w w')
    (HS' : ∀ w : World, Calls Tryz.prog 132 #[.agg #[.int .i64 m', .int .i64 e']] w fun r w' => r = .returned (.int .i64 s') ∧ Below w.heap.size w w')
    (HZ : s = s' → ∀ w : World, Calls Tryz.prog 133 #[.agg #[.int .i64 m, .int .i64 e], .agg #[.int .i64 m', .int .i64 e']] w fun r w' => r = .returned (.int .i64 Z) ∧ Below w.heap.size w w') :
    Calls Tryz.prog 108 #[.agg #[.int .i64 m, .int .i64 e], .agg #[.int .i64 m', .int .i64 e']] w fun r w' => r = .returned (.int .i64 (if s ≠ s' then (if s < s' then -1 else 1) else s * Z)) ∧ Below w.heap.size w w' := by
  have HR := Lib.hid HR
  have HR' := Lib.hid HR'
  have HS := Lib.hid HS
  have HS' := Lib.hid HS'
  have HZ := Lib.hid HZ
  have HHS := Lib.hid hs
  have HHZ := Lib.hid hZ
  obtain ⟨R, hR⟩ : ∃ R, R = (if s ≠ s' then (if s < s' then -1 else 1) else s * Z) := ⟨_, rfl⟩
  rw [← hR]
  have HRR := Lib.hid hR
  clear hs hZ hR
  go_enter Tryz.func108, Tryz.ntmps108
  go_wp2_with fail
  refine (HR.out _).mono ?_
  rintro r w1 ⟨rfl, hb1⟩
  have ev : w1.heap[w.heap.size]? = some (.cells #[.int .i64 m, .int .i64 e] 32) := (hb1.block _ (by simp; omega)).trans (by (repeat (first | (with_reducible refine bw5 ?_ _; (first | rfl | (simp; done) | omega | (simp; omega)); done) | with_reducible refine bw6 ?_ _ | with_reducible refine bw7 ?_ | with_reducible refine bw8 ?_)))
  have ev' : w1.heap[w.heap.size + 1]? = some (.cells #[.int .i64 m', .int .i64 e'] 32) := (hb1.block _ (by simp)).trans (by (repeat (first | (with_reducible refine bw5 ?_ _; (first | rfl | (simp; done) | omega | (simp; omega)); done) | with_reducible refine bw6 ?_ _ | with_reducible refine bw7 ?_ | with_reducible refine bw8 ?_)))
  have FB1 : Hid (Below w.heap.size w w1) := by
    refine Below.trans ?_ (hb1.mono (by simp; omega))
    (repeat with_reducible (first | exact bw0 _ _ | exact hBW | refine bw1 ?_ ?_ _ | refine bw2 ?_ ?_ _ | refine bw3 ?_ _ | refine bw4 ?_)); all_goals (first | omega | (dsimp only; omega) | ((repeat with_reducible (first | refine lz1 ?_ | refine lz2 ?_ | refine lz3 ?_ | refine lz4 ?_)); omega))
  have k0 := cell_of_heap ev' 0
  have k1 := cell_of_heap ev' 1
  have EV := Lib.hid ev
  have EV' := Lib.hid ev'
  have z2 := lt_of_heap ev'
  clear hb1 ev ev'
  go_wp2_with fail
  refine (HR'.out _).mono ?_
  rintro r w2 ⟨rfl, hb2⟩
  have FB2 : Hid (Below w.heap.size w w2) := FB1.out.trans (hb2.mono FB1.out.size)
  have ev := (hb2.block _ (lt_of_heap EV.out)).trans EV.out
  have ev' := (hb2.block _ (lt_of_heap EV'.out)).trans EV'.out
  clear k0 k1 z2 hb2 EV EV' FB1
  have k0 := cell_of_heap ev 0
  have k1 := cell_of_heap ev 1
  have j0 := cell_of_heap ev' 0
  have j1 := cell_of_heap ev' 1
  have EV := Lib.hid ev
  have EV' := Lib.hid ev'
  have z1 := lt_of_heap ev
  have z2 := lt_of_heap ev'
  clear ev ev'
  go_wp2_with fail
  refine wp_region_mix [0, 2] [1, 3, 4, 5] [3, 4, 5] (Below w2.heap.size w2) (by kernel_rfl) (by kernel_rfl) (Below.refl _ _).drew ?_
  iterate 2 (first | (apply first_step; (rw [List.getElem?_toArray]; (repeat rw [List.getElem?_cons_succ]); rw [List.getElem?_cons_zero]); rfl; (intro W hB; have hc := bcellB hB; go_simp; (first | done | rfl)); go_frame) | (apply first_skip; (rw [List.getElem?_toArray]; (repeat rw [List.getElem?_cons_succ]); rw [List.getElem?_cons_zero]); rfl; go_frame))
  refine first_done ?_
  apply tail_step; (rw [List.getElem?_toArray]; (repeat rw [List.getElem?_cons_succ]); rw [List.getElem?_cons_zero]); rfl; rfl; intro K hK; go_simp
  refine (HS.out _).mono ?_
  rintro r w3 ⟨rfl, hb3⟩
  have hb3' : Below w2.heap.size w2 w3 := (Below.refl _ w2).drew.trans hb3
  refine hK _ _ (fun _ => hb3') ?_
  clear hK K
  apply tail_step; (rw [List.getElem?_toArray]; (repeat rw [List.getElem?_cons_succ]); rw [List.getElem?_cons_zero]); rfl; rfl; intro K hK; go_simp
  refine (HS'.out _).mono ?_
  rintro r w4 ⟨rfl, hb4⟩
  refine hK _ _ (fun h => absurd (by decide) h) ?_
  clear hK K
  have hb4' : Below w2.heap.size w2 w4 := hb3'.trans (hb4.mono hb3'.size)
  have FB4 : Hid (Below w.heap.size w w4) := FB2.out.trans (hb4'.mono FB2.out.size)
  have ev := (hb4'.block _ (lt_of_heap EV.out)).trans EV.out
  have ev' := (hb4'.block _ (lt_of_heap EV'.out)).trans EV'.out
  clear k0 k1 j0 j1 z1 z2 hb3 hb4 hb3' hb4' EV EV' FB2
  have k0 := cell_of_heap ev 0
  have k1 := cell_of_heap ev 1
  have j0 := cell_of_heap ev' 0
  have j1 := cell_of_heap ev' 1
  have z1 := lt_of_heap ev
  have z2 := lt_of_heap ev'
  clear ev ev'
  (apply tail_step; (rw [List.getElem?_toArray]; (repeat rw [List.getElem?_cons_succ]); rw [List.getElem?_cons_zero]); rfl; rfl; intro K hK; go_simp; refine hK _ _ (fun h => absurd (by decide) h) ?_; clear hK K)
  (apply tail_step; (rw [List.getElem?_toArray]; (repeat rw [List.getElem?_cons_succ]); rw [List.getElem?_cons_zero]); rfl; rfl; intro K hK; go_simp; refine hK _ _ (fun h => absurd (by decide) h) ?_; clear hK K)
  refine tail_done ?_
  by_cases c : s = s'
  · have HZ2 := Lib.hid (HZ.out c)
    clear HZ
    subst c
    have n1 : (s != s) = false := by simp
    have ER : Hid (R = s * Z) := by unfold Hid; rw [HRR.out, if_neg (by simp)]
    clear HRR
    have ws : IntKind.i64.wrap (s * Z) = s * Z := IntWalk.i64_in _ (by rcases HHS.out with h | h | h <;> rcases HHZ.out with h' | h' | h' <;> rw [h, h'] <;> decide)
    go_wp2_with fail
    refine wp_region_mix [0, 2, 3] [1, 4, 5, 6] [4, 5, 6] (Below w4.heap.size w4) (by kernel_rfl) (by kernel_rfl) (Below.refl _ _).drew ?_
    iterate 3 (first | (apply first_step; (rw [List.getElem?_toArray]; (repeat rw [List.getElem?_cons_succ]); rw [List.getElem?_cons_zero]); rfl; (intro W hB; have hc := bcellB hB; go_simp; (first | done | rfl)); go_frame) | (apply first_skip; (rw [List.getElem?_toArray]; (repeat rw [List.getElem?_cons_succ]); rw [List.getElem?_cons_zero]); rfl; go_frame))
    refine first_done ?_
    apply tail_step; (rw [List.getElem?_toArray]; (repeat rw [List.getElem?_cons_succ]); rw [List.getElem?_cons_zero]); rfl; rfl; intro K hK; go_simp
    refine (HS.out _).mono ?_
    rintro r w5 ⟨rfl, hb5⟩
    have HB5 : Hid (Below w4.heap.size w4 w5) := (Below.refl _ w4).drew.trans hb5
    refine hK _ _ (fun _ => HB5.out) ?_
    clear hK K hb5
    apply tail_step; (rw [List.getElem?_toArray]; (repeat rw [List.getElem?_cons_succ]); rw [List.getElem?_cons_zero]); rfl; rfl; intro K hK; go_simp
    refine (HZ2.out _).mono ?_
    rintro r w6 ⟨rfl, hb6⟩
    have HB6 : Hid (Below w4.heap.size w4 w6) := HB5.out.trans (hb6.mono HB5.out.size)
    refine hK _ _ (fun h => absurd (by decide) h) ?_
    clear hK K hb6 k0 k1 j0 j1
    (apply tail_step; (rw [List.getElem?_toArray]; (repeat rw [List.getElem?_cons_succ]); rw [List.getElem?_cons_zero]); rfl; rfl; intro K hK; go_simp; refine hK _ _ (fun h => absurd (by decide) h) ?_; clear hK K)
    (apply tail_step; (rw [List.getElem?_toArray]; (repeat rw [List.getElem?_cons_succ]); rw [List.getElem?_cons_zero]); rfl; rfl; intro K hK; go_simp; refine hK _ _ (fun h => absurd (by decide) h) ?_; clear hK K)
    refine tail_done ?_
    go_wp2_with fail
    go_ret
    exact ⟨ret_int ER.out.symm, FB4.out.trans (HB6.out.mono FB4.out.size)⟩
  · have n1 : (s != s') = true := by simpa using c
    clear k0 k1 j0 j1
    by_cases c2 : s < s'
    · have ER : Hid (R = -1) := by unfold Hid; rw [HRR.out, if_pos c, if_pos c2]
      clear HRR c
      go_wp2_with fail
      go_ret
      exact ⟨ret_int ER.out.symm, FB4.out⟩
    · have ER : Hid (R = 1) := by unfold Hid; rw [HRR.out, if_pos c, if_neg c2]
      clear HRR c
      go_wp2_with fail
      go_ret
      exact ⟨ret_int ER.out.symm, FB4.out⟩
end
theorem Cmp_any (m e m' e' : Int) (h : numR m e = true) (h' : numR m' e' = true) (w : World) :
    Calls Tryz.prog 108 #[.agg #[.int .i64 m, .int .i64 e], .agg #[.int .i64 m', .int .i64 e']] w fun r w' => r = .returned (.int .i64 (cmpN m e m' e')) ∧ Below w.heap.size w w' := by
  refine Cmp_D m e m' e' w (sgn m) (sgn m') (cmpZ m e m' e') (sgn_cases m) (cmpZ_cases m e m' e') ?_ ?_ (sign_any m e) (sign_any m' e') ?_
  · intro w; have := num_all m e (numR_i64 h) w; rw [h] at this; exact this
  · intro w; have := num_all m' e' (numR_i64 h') w; rw [h'] at this; exact this
  · intro hs
    exact cmpSize_any m e m' e' h h' (fun h0 hm => h0 (sgn_zero.1 (hs.trans (sgn_zero.2 hm))))
end Go.Proofs.YtndhmahkglfopaaGreatDoor
/- num.Parse. -/
namespace Go.Proofs.YtndhmahkglfopaaGreatDoor
open Go.RowKit
/-- What the loop keeps: the reader in block rb, the text's walk in block kb; k letters are read. -/
structure PaSt (w0 : World) (rb kb : Nat) (s : ByteArray) (k pos : Nat) (r : RS) (v : Value) (wr : World) : Prop where
  it : wr.heap[kb]? = some (.stringIter s pos)
  rd : RdAt rb rb r v wr
  ok : r.Ok k
  bel : Below rb w0 wr
  eq : readP s (s.size - k) pos r = readP s s.size 0 RS0
  kp : k ≤ pos
  ks : k ≤ s.size
theorem RdAt.iter {B rb kb : Nat} {r : RS} {v : Value} {W : World} {s : ByteArray} {pos : Nat} (h : RdAt B rb r v W) (hk : W.heap[kb]? = some (.stringIter s pos)) (pos' : Nat) : RdAt B rb r v (W.iterAt kb s pos') :=
  ⟨(Lib.iterAt_other W kb rb s pos' (fun e => by have := h.blk; rw [e, hk] at this; cases this)).trans h.blk, own_move h.own hk pos', by have := h.le; simpa [World.iterAt] using this⟩
theorem RdFr.bel {B rb : Nat} {r : RS} {v : Value} {W W' : World} (h : RdFr rb v W W') (hr : RdAt B rb r v W) (hB : B ≤ rb) : Below B W W' :=
  Fr.below h hr.le (fun k hk => by
    rcases hk with rfl | hk
    · exact hB
    · exact (hr.ne k hk).2)
section
variable (s : ByteArray) (w : World)
set_option maxHeartbeats 4000000
set_option maxRecDepth 100000
/- round's call and the end; $1: the exponent -/
theorem Parse_any (hs : s.size ≤ 255) : Calls Tryz.prog 130 #[.string s] w (NumPost w (parseP s)) := by
  obtain ⟨R, hR⟩ : ∃ R, R = parseP s := ⟨_, rfl⟩
  rw [← hR]
  have ER := Lib.hid hR
  have d255 : decide (255 < (s.size : Int)) = false := decide_eq_false (by omega)
  have HS := Lib.hid hs
  clear hR hs
  go_enter Tryz.func130, Tryz.ntmps130
  go_wp2_with fail
  refine abs_world ?_
  intro W0 hW0
  change W0 = World.alloc _ (.stringIter s 0) at hW0
  have hB0 : Below w.heap.size w W0 := by rw [hW0]; (repeat with_reducible (first | exact bw0 _ _ | exact hBW | refine bw1 ?_ ?_ _ | refine bw2 ?_ ?_ _ | refine bw3 ?_ _ | refine bw4 ?_)); all_goals (first | omega | (dsimp only; omega) | ((repeat with_reducible (first | refine lz1 ?_ | refine lz2 ?_ | refine lz3 ?_ | refine lz4 ?_)); omega))
  have e0 : W0.heap[w.heap.size]? = some (.cells #[.int .i64 0, .int .i64 0] 32 (0, 0)) := by rw [hW0]; (repeat (first | (with_reducible refine bw5 ?_ _; (first | rfl | (simp; done) | omega | (simp; omega)); done) | with_reducible refine bw6 ?_ _ | with_reducible refine bw7 ?_ | with_reducible refine bw8 ?_))
  have e1 : W0.heap[w.heap.size + 1]? = some (.cells #[.int .i64 0, .bool false, .bool false, .slice none 0 0, .int .i64 0, .int .i64 0] 194 (0, 0)) := by rw [hW0]; (repeat (first | (with_reducible refine bw5 ?_ _; (first | rfl | (simp; done) | omega | (simp; omega)); done) | with_reducible refine bw6 ?_ _ | with_reducible refine bw7 ?_ | with_reducible refine bw8 ?_))
  have e2 : W0.heap[w.heap.size + 1 + 1]? = some (.stringIter s 0) := by rw [hW0]; (repeat (first | (with_reducible refine bw5 ?_ _; (first | rfl | (simp; done) | omega | (simp; omega)); done) | with_reducible refine bw6 ?_ _ | with_reducible refine bw7 ?_ | with_reducible refine bw8 ?_))
  have R0 : Hid (RdAt (w.heap.size + 1) (w.heap.size + 1) RS0 (.slice none 0 0) W0) := ⟨e1, ⟨rfl, .inl ⟨rfl, rfl⟩⟩, Nat.le_of_lt (lt_of_heap e1)⟩
  have S0 : Hid (PaSt W0 (w.heap.size + 1) (w.heap.size + 1 + 1) s 0 0 RS0 (.slice none 0 0) W0) := ⟨e2, R0.out, RS.ok0, Below.refl _ _, rfl, Nat.le_refl _, Nat.zero_le _⟩
  have E0 := Lib.hid e0
  have HB0 := Lib.hid hB0
  have hw0 := lt_of_heap e0
  have hw1 : w.heap.size + 1 ≤ W0.heap.size := Nat.le_of_lt (lt_of_heap e1)
  clear hW0 hB0 e0 e1 e2 R0
  go_loopw [] (fun wr => ∃ (k pos : Nat) (r : RS) (v : Value), Hid (PaSt W0 (w.heap.size + 1) (w.heap.size + 1 + 1) s k pos r v wr)) (fun wr => s.size - wr.iterPos (w.heap.size + 1 + 1))
  case atStart => exact ⟨0, 0, RS0, _, S0⟩
  case round =>
    clear S0
    obtain ⟨k, pos, r, v, hS⟩ := hrel
    have hmu : wr.iterPos (w.heap.size + 1 + 1) = pos := by simp [World.iterPos, hS.out.it]
    by_cases hp : pos < s.size
    · obtain ⟨c, hc⟩ : ∃ c, c = (Utf8.decode s pos).1 := ⟨_, rfl⟩
      obtain ⟨wd, hwd⟩ : ∃ x, x = (Utf8.decode s pos).2 := ⟨_, rfl⟩
      have hw1 : 1 ≤ wd := by rw [hwd]; exact dec_width s pos hp
      have hnext : ∀ ty, (Instr.next (.pointer (some ⟨w.heap.size + 1 + 1, 0, none⟩)) true ty).run Tryz.prog wr = _ := fun ty => Lib.run_next_any_at wr (w.heap.size + 1 + 1) s pos ty hS.out.it hp
      rw [← hc, ← hwd] at hnext
      obtain ⟨j, hj⟩ : ∃ j, s.size - k = j + 1 := ⟨s.size - k - 1, by have := hS.out.kp; omega⟩
      have HJ : Hid (j = s.size - (k + 1) ∧ k + 1 ≤ pos + wd ∧ k + 1 ≤ s.size ∧ pos < pos + wd) := by have := hS.out.kp; exact ⟨by omega, by omega, by omega, by omega⟩
      have EQ : Hid (match takeP r c with
        | some r' => readP s j (pos + wd) r' = readP s s.size 0 RS0
        | none => readP s s.size 0 RS0 = none) := by
        have e := hS.out.eq
        rw [hj] at e
        unfold Hid
        cases ht : takeP r c with
        | some r' => rw [← e]; exact (by rw [readP_go hp (r' := r') (by rw [← hc]; exact ht), ← hwd])
        | none => rw [← e]; exact readP_no hp (by rw [← hc]; exact ht)
      have OK : Hid (∀ r', takeP r c = some r' → r'.Ok (k + 1)) := fun r' h => takeP_ok hS.out.ok h
      have hk1 := Lib.iterAt_heap wr (w.heap.size + 1 + 1) s pos (pos + wd) hS.out.it
      have hr1 := hS.out.rd.iter hS.out.it (pos + wd)
      have hbw1 : Below (w.heap.size + 1) W0 (wr.iterAt (w.heap.size + 1 + 1) s (pos + wd)) := Lib.below_iterAt hS.out.bel (by omega) s (pos + wd)
      have hk300 : k ≤ 300 := by have := hS.out.ks; have := HS.out; omega
      have HC := Lib.hid (take_any (c := c) hk300 hS.out.ok hr1)
      generalize wr.iterAt (w.heap.size + 1 + 1) s (pos + wd) = w1 at hnext hk1 hr1 hbw1 HC
      have HK1 := Lib.hid hk1
      have HR1 := Lib.hid hr1
      have HB1 := Lib.hid hbw1
      have HMU := Lib.hid hmu
      have HP := Lib.hid hp
      clear hk1 hr1 hbw1 hc hwd hw1 hj hS hmu hp
      cases ht : takeP r c with
      | none =>
        have EN : Hid (R = ((0, 0), false)) := by
          have e := EQ.out
          rw [ht] at e
          unfold Hid
          rw [ER.out]
          unfold parseP
          rw [e]
        rw [ht] at HC
        unfold TakeEnd TakeNo at HC
        simp only at HC
        clear ht EQ OK
        go_wp2_with fail
        refine HC.out.mono ?_
        rintro e w2 ⟨rfl, hf2⟩
        have HB2 := Lib.hid (HB1.out.trans (hf2.bel HR1.out (Nat.le_refl _)))
        clear hf2
        have q0 := (HB2.out.block _ (by simp)).trans E0.out
        have x0 := cell_of_heap q0
        have y0 := frozen_of_heap q0
        have z0 := lt_of_heap q0
        clear q0
        go_wp2_with fail
        refine bodyPost_ret (v := .tuple #[.agg #[.int .i64 0, .int .i64 0], .bool false]) (by simp [results, Tryz.results130, go_sem, x0]) rfl ⟨by rw [EN.out]; rfl, ?_⟩
        have hBW := HB0.out.trans (HB2.out.mono (Nat.le_succ _))
        (repeat with_reducible (first | exact bw0 _ _ | exact hBW | refine bw1 ?_ ?_ _ | refine bw2 ?_ ?_ _ | refine bw3 ?_ _ | refine bw4 ?_)); all_goals (first | omega | (dsimp only; omega) | ((repeat with_reducible (first | refine lz1 ?_ | refine lz2 ?_ | refine lz3 ?_ | refine lz4 ?_)); omega))
      | some r' =>
        have EQ2 : Hid (readP s j (pos + wd) r' = readP s s.size 0 RS0) := by have e := EQ.out; rw [ht] at e; exact e
        have OK2 := Lib.hid (OK.out r' ht)
        rw [ht] at HC
        unfold TakeEnd TakeYes at HC
        simp only at HC
        clear ht EQ OK
        go_wp2_with fail
        refine HC.out.mono ?_
        rintro e w2 ⟨rfl, v2, hr2, hf2⟩
        have hb2 := HB1.out.trans (hf2.bel HR1.out (Nat.le_refl _))
        have hk2 : w2.heap[w.heap.size + 1 + 1]? = some (.stringIter s (pos + wd)) := (Fr.block hf2 _ (lt_of_heap HK1.out) (fun h => by
          rcases h with h | h
          · omega
          · exact own_not_iter HR1.out.own HK1.out _ h rfl)).trans HK1.out
        have hmu2 : w2.iterPos (w.heap.size + 1 + 1) = pos + wd := by simp [World.iterPos, hk2]
        have S2 : Hid (PaSt W0 (w.heap.size + 1) (w.heap.size + 1 + 1) s (k + 1) (pos + wd) r' v2 w2) := ⟨hk2, hr2, OK2.out, hb2, by rw [← HJ.out.1]; exact EQ2.out, HJ.out.2.1, HJ.out.2.2.1⟩
        clear hr2 hf2 hb2 hk2
        go_wp2_with fail
        go_roundw
        case rel => exact ⟨k + 1, pos + wd, r', v2, S2⟩
        case measure =>
          rw [HMU.out, hmu2]
          have := HJ.out.2.2.2
          have := HP.out
          omega
    · have EE : Hid (R = endP r) := by
        have e := hS.out.eq
        rw [readP_end hp] at e
        unfold Hid
        rw [ER.out]
        unfold parseP
        rw [← e]
      have hnext : ∀ ty, (Instr.next (.pointer (some ⟨w.heap.size + 1 + 1, 0, none⟩)) true ty).run Tryz.prog wr = _ := fun ty => Lib.run_next_end_at wr (w.heap.size + 1 + 1) s pos ty hS.out.it hp
      have HBR := Lib.hid hS.out.bel
      have HRD := Lib.hid hS.out.rd
      have HOK := Lib.hid hS.out.ok
      have hk255 : k ≤ 255 := by have := hS.out.ks; have := HS.out; omega
      clear hS hmu hp
      have x0 := cell_of_heap HRD.out.blk 0
      have x1 := cell_of_heap HRD.out.blk 1
      have x2 := cell_of_heap HRD.out.blk 2
      have x3 := cell_of_heap HRD.out.blk 3
      have x4 := cell_of_heap HRD.out.blk 4
      have x5 := cell_of_heap HRD.out.blk 5
      have yr := frozen_of_heap HRD.out.blk
      have zr := lt_of_heap HRD.out.blk
      by_cases hst : r.st = 2 ∨ r.st = 4 ∨ r.st = 7
      · have hD : r.D ≠ [] := HOK.out.some (by omega)
        have hlen := HOK.out.len
        have hpw := HOK.out.pw
        have hbh := HOK.out.bh
        obtain ⟨g6, c6, rfl, d6⟩ := dgs_of_own HRD.out.own (fun d hd => by have := HOK.out.small d hd; omega) (List.length_pos_iff.2 hD)
        have D6 := Lib.hid d6
        clear d6 hD
        cases hnp : r.np with
        | true =>
          have EN : Hid (R = roundP r.ng r.D (-(r.pw : Int) - r.bh)) := by
            unfold Hid
            rw [EE.out]
            unfold endP
            rw [if_pos hst, hnp, if_pos rfl]
          rw [hnp] at x2
          have wn1 : IntKind.i64.wrap (-(r.pw : Int)) = -(r.pw : Int) := IntWalk.i64_in _ (by omega)
          have wn2 : wrap64 (-(r.pw : Int)) = -(r.pw : Int) := IntWalk.wrap64_in _ (by omega)
          have wn3 : IntKind.i64.wrap (-(r.pw : Int) - (r.bh : Int)) = -(r.pw : Int) - (r.bh : Int) := IntWalk.i64_in _ (by omega)
          have wn4 : wrap64 (-(r.pw : Int) - (r.bh : Int)) = -(r.pw : Int) - (r.bh : Int) := IntWalk.wrap64_in _ (by omega)
          have hne := HRD.out.ne g6 rfl
          have D7 : Hid (DgS (w.heap.size + 1) (wr.setCell ⟨w.heap.size + 1, 5, none⟩ (.int .i64 (-(r.pw : Int)))) g6 0 c6 r.D) := D6.out.of_block (Below.heap_setCell _ _ _ _ hne.1)
          have HB7 : Hid (Below (w.heap.size + 1) W0 (wr.setCell ⟨w.heap.size + 1, 5, none⟩ (.int .i64 (-(r.pw : Int))))) := HBR.out.setCell (p := ⟨w.heap.size + 1, 5, none⟩) (Nat.le_refl _) _
          clear hnp D6 hne
          rcases hst with h | h | h
          · rw [h] at x0
            go_wp2_with fail
            have hsz7 := Nat.le_trans hw1 HB7.out.size
            refine (round_any r.ng (-(r.pw : Int) - (r.bh : Int)) _ hsz7 D7.out (by omega) (by omega)).mono ?_
            rintro e w8 ⟨rfl, f8⟩
            have hle := D7.out.le
            have HB8 : Hid (Below (w.heap.size + 1) W0 w8) := HB7.out.trans (f8.below hsz7 (fun k hk => by rw [hk]; exact hle))
            generalize roundP r.ng r.D (-(r.pw : Int) - (r.bh : Int)) = RR at EN ⊢
            obtain ⟨⟨rm, rx⟩, rk⟩ := RR
            have q0 := (HB8.out.block _ (by simp)).trans E0.out
            have u0 := cell_of_heap q0
            have v0 := frozen_of_heap q0
            have z0 := lt_of_heap q0
            clear f8 q0 x0 x1 x2 x3 x4 x5 yr zr D7 HB7
            unfold NumV
            simp only
            go_wp2_with fail
            refine bodyPost_ret (v := .tuple #[.agg #[.int .i64 rm, .int .i64 rx], .bool rk]) (by simp [results, Tryz.results130, go_sem, u0]) rfl ⟨by rw [EN.out]; rfl, ?_⟩
            have hBW := HB0.out.trans (HB8.out.mono (Nat.le_succ _))
            (repeat with_reducible (first | exact bw0 _ _ | exact hBW | refine bw1 ?_ ?_ _ | refine bw2 ?_ ?_ _ | refine bw3 ?_ _ | refine bw4 ?_)); all_goals (first | omega | (dsimp only; omega) | ((repeat with_reducible (first | refine lz1 ?_ | refine lz2 ?_ | refine lz3 ?_ | refine lz4 ?_)); omega))
          · rw [h] at x0
            go_wp2_with fail
            have hsz7 := Nat.le_trans hw1 HB7.out.size
            refine (round_any r.ng (-(r.pw : Int) - (r.bh : Int)) _ hsz7 D7.out (by omega) (by omega)).mono ?_
            rintro e w8 ⟨rfl, f8⟩
            have hle := D7.out.le
            have HB8 : Hid (Below (w.heap.size + 1) W0 w8) := HB7.out.trans (f8.below hsz7 (fun k hk => by rw [hk]; exact hle))
            generalize roundP r.ng r.D (-(r.pw : Int) - (r.bh : Int)) = RR at EN ⊢
            obtain ⟨⟨rm, rx⟩, rk⟩ := RR
            have q0 := (HB8.out.block _ (by simp)).trans E0.out
            have u0 := cell_of_heap q0
            have v0 := frozen_of_heap q0
            have z0 := lt_of_heap q0
            clear f8 q0 x0 x1 x2 x3 x4 x5 yr zr D7 HB7
            unfold NumV
            simp only
            go_wp2_with fail
            refine bodyPost_ret (v := .tuple #[.agg #[.int .i64 rm, .int .i64 rx], .bool rk]) (by simp [results, Tryz.results130, go_sem, u0]) rfl ⟨by rw [EN.out]; rfl, ?_⟩
            have hBW := HB0.out.trans (HB8.out.mono (Nat.le_succ _))
            (repeat with_reducible (first | exact bw0 _ _ | exact hBW | refine bw1 ?_ ?_ _ | refine bw2 ?_ ?_ _ | refine bw3 ?_ _ | refine bw4 ?_)); all_goals (first | omega | (dsimp only; omega) | ((repeat with_reducible (first | refine lz1 ?_ | refine lz2 ?_ | refine lz3 ?_ | refine lz4 ?_)); omega))
          · rw [h] at x0
            go_wp2_with fail
            have hsz7 := Nat.le_trans hw1 HB7.out.size
            refine (round_any r.ng (-(r.pw : Int) - (r.bh : Int)) _ hsz7 D7.out (by omega) (by omega)).mono ?_
            rintro e w8 ⟨rfl, f8⟩
            have hle := D7.out.le
            have HB8 : Hid (Below (w.heap.size + 1) W0 w8) := HB7.out.trans (f8.below hsz7 (fun k hk => by rw [hk]; exact hle))
            generalize roundP r.ng r.D (-(r.pw : Int) - (r.bh : Int)) = RR at EN ⊢
            obtain ⟨⟨rm, rx⟩, rk⟩ := RR
            have q0 := (HB8.out.block _ (by simp)).trans E0.out
            have u0 := cell_of_heap q0
            have v0 := frozen_of_heap q0
            have z0 := lt_of_heap q0
            clear f8 q0 x0 x1 x2 x3 x4 x5 yr zr D7 HB7
            unfold NumV
            simp only
            go_wp2_with fail
            refine bodyPost_ret (v := .tuple #[.agg #[.int .i64 rm, .int .i64 rx], .bool rk]) (by simp [results, Tryz.results130, go_sem, u0]) rfl ⟨by rw [EN.out]; rfl, ?_⟩
            have hBW := HB0.out.trans (HB8.out.mono (Nat.le_succ _))
            (repeat with_reducible (first | exact bw0 _ _ | exact hBW | refine bw1 ?_ ?_ _ | refine bw2 ?_ ?_ _ | refine bw3 ?_ _ | refine bw4 ?_)); all_goals (first | omega | (dsimp only; omega) | ((repeat with_reducible (first | refine lz1 ?_ | refine lz2 ?_ | refine lz3 ?_ | refine lz4 ?_)); omega))
        | false =>
          have EN : Hid (R = roundP r.ng r.D ((r.pw : Int) - r.bh)) := by
            unfold Hid
            rw [EE.out]
            unfold endP
            rw [if_pos hst, hnp, if_neg (by simp)]
          rw [hnp] at x2
          have wn3 : IntKind.i64.wrap ((r.pw : Int) - (r.bh : Int)) = (r.pw : Int) - (r.bh : Int) := IntWalk.i64_in _ (by omega)
          have wn4 : wrap64 ((r.pw : Int) - (r.bh : Int)) = (r.pw : Int) - (r.bh : Int) := IntWalk.wrap64_in _ (by omega)
          have D7 := D6
          have HB7 := HBR
          clear hnp D6
          rcases hst with h | h | h
          · rw [h] at x0
            go_wp2_with fail
            have hsz7 := Nat.le_trans hw1 HB7.out.size
            refine (round_any r.ng ((r.pw : Int) - (r.bh : Int)) _ hsz7 D7.out (by omega) (by omega)).mono ?_
            rintro e w8 ⟨rfl, f8⟩
            have hle := D7.out.le
            have HB8 : Hid (Below (w.heap.size + 1) W0 w8) := HB7.out.trans (f8.below hsz7 (fun k hk => by rw [hk]; exact hle))
            generalize roundP r.ng r.D ((r.pw : Int) - (r.bh : Int)) = RR at EN ⊢
            obtain ⟨⟨rm, rx⟩, rk⟩ := RR
            have q0 := (HB8.out.block _ (by simp)).trans E0.out
            have u0 := cell_of_heap q0
            have v0 := frozen_of_heap q0
            have z0 := lt_of_heap q0
            clear f8 q0 x0 x1 x2 x3 x4 x5 yr zr D7 HB7
            unfold NumV
            simp only
            go_wp2_with fail
            refine bodyPost_ret (v := .tuple #[.agg #[.int .i64 rm, .int .i64 rx], .bool rk]) (by simp [results, Tryz.results130, go_sem, u0]) rfl ⟨by rw [EN.out]; rfl, ?_⟩
            have hBW := HB0.out.trans (HB8.out.mono (Nat.le_succ _))
            (repeat with_reducible (first | exact bw0 _ _ | exact hBW | refine bw1 ?_ ?_ _ | refine bw2 ?_ ?_ _ | refine bw3 ?_ _ | refine bw4 ?_)); all_goals (first | omega | (dsimp only; omega) | ((repeat with_reducible (first | refine lz1 ?_ | refine lz2 ?_ | refine lz3 ?_ | refine lz4 ?_)); omega))
          · rw [h] at x0
            go_wp2_with fail
            have hsz7 := Nat.le_trans hw1 HB7.out.size
            refine (round_any r.ng ((r.pw : Int) - (r.bh : Int)) _ hsz7 D7.out (by omega) (by omega)).mono ?_
            rintro e w8 ⟨rfl, f8⟩
            have hle := D7.out.le
            have HB8 : Hid (Below (w.heap.size + 1) W0 w8) := HB7.out.trans (f8.below hsz7 (fun k hk => by rw [hk]; exact hle))
            generalize roundP r.ng r.D ((r.pw : Int) - (r.bh : Int)) = RR at EN ⊢
            obtain ⟨⟨rm, rx⟩, rk⟩ := RR
            have q0 := (HB8.out.block _ (by simp)).trans E0.out
            have u0 := cell_of_heap q0
            have v0 := frozen_of_heap q0
            have z0 := lt_of_heap q0
            clear f8 q0 x0 x1 x2 x3 x4 x5 yr zr D7 HB7
            unfold NumV
            simp only
            go_wp2_with fail
            refine bodyPost_ret (v := .tuple #[.agg #[.int .i64 rm, .int .i64 rx], .bool rk]) (by simp [results, Tryz.results130, go_sem, u0]) rfl ⟨by rw [EN.out]; rfl, ?_⟩
            have hBW := HB0.out.trans (HB8.out.mono (Nat.le_succ _))
            (repeat with_reducible (first | exact bw0 _ _ | exact hBW | refine bw1 ?_ ?_ _ | refine bw2 ?_ ?_ _ | refine bw3 ?_ _ | refine bw4 ?_)); all_goals (first | omega | (dsimp only; omega) | ((repeat with_reducible (first | refine lz1 ?_ | refine lz2 ?_ | refine lz3 ?_ | refine lz4 ?_)); omega))
          · rw [h] at x0
            go_wp2_with fail
            have hsz7 := Nat.le_trans hw1 HB7.out.size
            refine (round_any r.ng ((r.pw : Int) - (r.bh : Int)) _ hsz7 D7.out (by omega) (by omega)).mono ?_
            rintro e w8 ⟨rfl, f8⟩
            have hle := D7.out.le
            have HB8 : Hid (Below (w.heap.size + 1) W0 w8) := HB7.out.trans (f8.below hsz7 (fun k hk => by rw [hk]; exact hle))
            generalize roundP r.ng r.D ((r.pw : Int) - (r.bh : Int)) = RR at EN ⊢
            obtain ⟨⟨rm, rx⟩, rk⟩ := RR
            have q0 := (HB8.out.block _ (by simp)).trans E0.out
            have u0 := cell_of_heap q0
            have v0 := frozen_of_heap q0
            have z0 := lt_of_heap q0
            clear f8 q0 x0 x1 x2 x3 x4 x5 yr zr D7 HB7
            unfold NumV
            simp only
            go_wp2_with fail
            refine bodyPost_ret (v := .tuple #[.agg #[.int .i64 rm, .int .i64 rx], .bool rk]) (by simp [results, Tryz.results130, go_sem, u0]) rfl ⟨by rw [EN.out]; rfl, ?_⟩
            have hBW := HB0.out.trans (HB8.out.mono (Nat.le_succ _))
            (repeat with_reducible (first | exact bw0 _ _ | exact hBW | refine bw1 ?_ ?_ _ | refine bw2 ?_ ?_ _ | refine bw3 ?_ _ | refine bw4 ?_)); all_goals (first | omega | (dsimp only; omega) | ((repeat with_reducible (first | refine lz1 ?_ | refine lz2 ?_ | refine lz3 ?_ | refine lz4 ?_)); omega))
      · have EN : Hid (R = ((0, 0), false)) := by unfold Hid; rw [EE.out]; unfold endP; rw [if_neg hst]
        have n2 : (r.st != 2) = true := by simp; omega
        have n4 : (r.st != 4) = true := by simp; omega
        have n7 : (r.st != 7) = true := by simp; omega
        have q0 := (HBR.out.block _ (by simp)).trans E0.out
        have u0 := cell_of_heap q0
        have v0 := frozen_of_heap q0
        have z0 := lt_of_heap q0
        clear q0
        go_wp2_with fail
        refine bodyPost_ret (v := .tuple #[.agg #[.int .i64 0, .int .i64 0], .bool false]) (by simp [results, Tryz.results130, go_sem, u0]) rfl ⟨by rw [EN.out]; rfl, ?_⟩
        have hBW := HB0.out.trans (HBR.out.mono (Nat.le_succ _))
        (repeat with_reducible (first | exact bw0 _ _ | exact hBW | refine bw1 ?_ ?_ _ | refine bw2 ?_ ?_ _ | refine bw3 ?_ _ | refine bw4 ?_)); all_goals (first | omega | (dsimp only; omega) | ((repeat with_reducible (first | refine lz1 ?_ | refine lz2 ?_ | refine lz3 ?_ | refine lz4 ?_)); omega))
end
end Go.Proofs.YtndhmahkglfopaaGreatDoor
