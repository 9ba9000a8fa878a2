/- num.Div. -/
import Derived.Test.YtndhmahkglfopaaGreatDoorQT13Right
import Derived.Test.YtndhmahkglfopaaGreatDoorQT13Fold2
namespace Go.Proofs.YtndhmahkglfopaaGreatDoor
open Go.RowKit
/-- What the loop keeps. -/
structure DivSt (w2 : World) (u : Nat) (D0 : List Nat) (x0 : Int) (r0 : Nat) (k : Nat) (v : Value) (D : List Nat) (x : Int) (r : Nat) (wr : World) : Prop where
  own : wr.ownsRow w2.heap.size 5 1 v D.length (D.map dv)
  bel : Below w2.heap.size w2 wr
  eq : divL u (32 - k) D x r = divL u 32 D0 x0 r0
  pos : 0 < D.length
  len : D.length ≤ 20 + k
  small : ∀ d ∈ D, d < 256
  lo : -200 ≤ x + k
  hi : x + k ≤ 200
theorem DivSt.step {w2 wr wN : World} {u : Nat} {D0 D : List Nat} {x0 x : Int} {r0 r k : Nat} {v v' : Value} (h : DivSt w2 u D0 x0 r0 k v D x r wr) (hr : r ≠ 0) (hru : r < u) (hk : k < 32)
    (hown : wN.ownsRow w2.heap.size 5 1 v' (D.length + 1) (D.map dv ++ [.int .u8 ((r * 10 / u : Nat) : Int)])) (hb : Below w2.heap.size w2 wN) : DivSt w2 u D0 x0 r0 (k + 1) v' (D ++ [r * 10 / u]) (x - 1) (r * 10 % u) wN := by
  refine ⟨by rw [List.length_append, List.map_append]; exact hown, hb, ?_, by simp, by have := h.len; simp; omega, ?_, by have := h.lo; omega, by have := h.hi; omega⟩
  · have e := h.eq
    rw [show 32 - k = (32 - (k + 1)) + 1 by omega, divL_go u _ D x hr] at e
    exact e
  · intro d hd
    rcases List.mem_append.1 hd with hd | hd
    · exact h.small d hd
    · rw [List.mem_singleton.1 hd]
      have : r * 10 / u < 10 := Nat.div_lt_of_lt_mul (by omega)
      omega
section
variable (m e m' e' : Int) (w : World)
set_option maxHeartbeats 4000000
set_option maxRecDepth 100000
theorem div_zero2 (h : numR m e = true) (h' : numR 0 e' = true) : Calls Tryz.prog 66 #[.agg #[.int .i64 m, .int .i64 e], .agg #[.int .i64 0, .int .i64 e']] w (NumPost w noR) := by
  have HR := Lib.hid (right_yes h)
  have HR2 := Lib.hid (right_yes h')
  obtain ⟨m', hm'⟩ : ∃ m' : Int, m' = 0 := ⟨_, rfl⟩
  rw [← hm'] at HR2 ⊢
  have n0 : (m' == 0) = true := by simpa using hm'
  clear h h' hm'
  go_enter Tryz.func66, Tryz.ntmps66
  go_wp2_with fail
  refine (HR.out _).mono ?_
  rintro r w1 ⟨rfl, hb1⟩
  have ev0 : w1.heap[w.heap.size]? = some (.cells #[.int .i64 m, .int .i64 e] 32 (0, 0)) := (hb1.block _ (by simp; omega)).trans (by (repeat (first | (with_reducible refine bw5 ?_ _; (first | rfl | (simp; done) | omega | (simp; omega)); done) | with_reducible refine bw6 ?_ _ | with_reducible refine bw7 ?_ | with_reducible refine bw8 ?_)))
  have ev1 : w1.heap[w.heap.size + 1]? = some (.cells #[.int .i64 m', .int .i64 e'] 32 (0, 0)) := (hb1.block _ (by simp)).trans (by (repeat (first | (with_reducible refine bw5 ?_ _; (first | rfl | (simp; done) | omega | (simp; omega)); done) | with_reducible refine bw6 ?_ _ | with_reducible refine bw7 ?_ | with_reducible refine bw8 ?_)))
  have ev2 : w1.heap[w.heap.size + 1 + 1]? = some (.cells #[.int .i64 0, .int .i64 0] 32 (0, 0)) := (hb1.block _ (by simp)).trans (by (repeat (first | (with_reducible refine bw5 ?_ _; (first | rfl | (simp; done) | omega | (simp; omega)); done) | with_reducible refine bw6 ?_ _ | with_reducible refine bw7 ?_ | with_reducible refine bw8 ?_)))
  have FB1 : Hid (Below w.heap.size w w1) := by
    refine Below.trans ?_ (hb1.mono (by simp; omega))
    (repeat with_reducible (first | exact bw0 _ _ | exact hBW | refine bw1 ?_ ?_ _ | refine bw2 ?_ ?_ _ | refine bw3 ?_ _ | refine bw4 ?_)); all_goals (first | omega | (dsimp only; omega) | ((repeat with_reducible (first | refine lz1 ?_ | refine lz2 ?_ | refine lz3 ?_ | refine lz4 ?_)); omega))
  have EV0 := Lib.hid ev0
  have EV1 := Lib.hid ev1
  have EV2 := Lib.hid ev2
  clear hb1
  have k0 := cell_of_heap ev1 0
  have k1 := cell_of_heap ev1 1
  have z1 := lt_of_heap ev1
  clear ev0 ev1 ev2
  go_wp2_with fail
  refine (HR2.out _).mono ?_
  rintro r w2 ⟨rfl, hb2⟩
  have ev0 := (hb2.block _ (lt_of_heap EV0.out)).trans EV0.out
  have ev1 := (hb2.block _ (lt_of_heap EV1.out)).trans EV1.out
  have FB2 : Hid (Below w.heap.size w w2) := FB1.out.trans (hb2.mono FB1.out.size)
  clear k0 k1 z1
  have k0 := cell_of_heap ev0 0
  have k1 := cell_of_heap ev0 1
  have j0 := cell_of_heap ev1 0
  have j1 := cell_of_heap ev1 1
  have z0 := lt_of_heap ev0
  have z1 := lt_of_heap ev1
  have EV0 := Lib.hid ev0
  have EV1 := Lib.hid ev1
  have EV2 := Lib.hid ((hb2.block _ (lt_of_heap EV2.out)).trans EV2.out)
  clear hb2 ev0 ev1
  have x2 := cell_of_heap EV2.out
  have y2 := frozen_of_heap EV2.out
  have z2 := lt_of_heap EV2.out
  go_wp2_with fail
  refine bodyPost_ret (v := .tuple #[.agg #[.int .i64 0, .int .i64 0], .bool false]) (by simp [results, Tryz.results66, go_sem, x2]) rfl ⟨rfl, ?_⟩
  have hBW := FB2.out
  (repeat with_reducible (first | exact bw0 _ _ | exact hBW | refine bw1 ?_ ?_ _ | refine bw2 ?_ ?_ _ | refine bw3 ?_ _ | refine bw4 ?_)); all_goals (first | omega | (dsimp only; omega) | ((repeat with_reducible (first | refine lz1 ?_ | refine lz2 ?_ | refine lz3 ?_ | refine lz4 ?_)); omega))
/- from region 17 on: the world $1, the digits $2 (DgS: D6 g6 c6), the exponent $3; HBT: Below w2 $1, ERT, lenT, expT -/
theorem div_yes (h : numR m e = true) (h' : numR m' e' = true) (h0 : m' ≠ 0) (htab : Tab w) : Calls Tryz.prog 66 #[.agg #[.int .i64 m, .int .i64 e], .agg #[.int .i64 m', .int .i64 e']] w (NumPost w (divR m e m' e')) := by
  have HR := Lib.hid (right_yes h)
  have HR2 := Lib.hid (right_yes h')
  have hb := numR_small h
  have hb' := numR_small h'
  have HS := Lib.hid (size_all m (numR_i64 h))
  have HS2 := Lib.hid (size_all m' (numR_i64 h'))
  have n0 : (m' == 0) = false := by simpa using h0
  have wee : IntKind.i64.wrap (e - e') = e - e' := IntWalk.i64_in _ (by omega)
  have wee2 : wrap64 (e - e') = e - e' := IntWalk.wrap64_in _ (by omega)
  have hx0 : -100 ≤ e - e' ∧ e - e' ≤ 100 := by omega
  obtain ⟨a, ha⟩ : ∃ a, a = m.natAbs := ⟨_, rfl⟩
  obtain ⟨b, hb2⟩ : ∃ b, b = m'.natAbs := ⟨_, rfl⟩
  obtain ⟨R, hR⟩ : ∃ R, R = divR m e m' e' := ⟨_, rfl⟩
  rw [← hR]
  unfold divR at hR
  rw [if_neg h0, ← ha, ← hb2] at hR
  rw [← ha] at HS
  rw [← hb2] at HS2
  have hb0 : 0 < b := by omega
  have hbm : b < 1000000000000000 := by omega
  have ham : a < 1000000000000000 := by omega
  obtain ⟨q, hq⟩ : ∃ q, q = a / b := ⟨_, rfl⟩
  obtain ⟨r0, hr0⟩ : ∃ r, r = a % b := ⟨_, rfl⟩
  have hqa : q ≤ a := by rw [hq]; exact Nat.div_le_self _ _
  have hrb : r0 < b := by rw [hr0]; exact Nat.mod_lt _ hb0
  have tq : Int.tdiv (a : Int) (b : Int) = (q : Int) := by rw [hq]; exact (Int.ofNat_tdiv a b).symm
  have tr : Int.tmod (a : Int) (b : Int) = (r0 : Int) := by rw [hr0]; exact (Int.ofNat_tmod a b).symm
  have wq : IntKind.u64.wrap (q : Int) = (q : Int) := IntWalk.u64_in _ (by omega)
  have wr0 : IntKind.u64.wrap (r0 : Int) = (r0 : Int) := IntWalk.u64_in _ (by omega)
  have hpz : ¬ ((b : Int) = 0) := by omega
  have hpz2 : ¬ b = 0 := by omega
  have hpz3 : ((b : Int) == 0) = false := by simp; omega
  have hpz4 : (b == 0) = false := by simp; omega
  rw [← hq, ← hr0] at hR
  have bd := digs_bd' q (by omega)
  have HD := Lib.hid (digitsOf_any q (by omega))
  generalize digs q = D0 at hR bd HD
  obtain ⟨X0, hX0⟩ : ∃ X0, X0 = e - e' := ⟨_, rfl⟩
  rw [← hX0] at hR wee wee2 hx0
  have wee3 : IntKind.i64.wrap (e - e') = X0 := by rw [hX0]; rw [hX0] at wee; exact wee
  have wee4 : wrap64 (e - e') = X0 := by rw [hX0]; rw [hX0] at wee2; exact wee2
  have ER := Lib.hid hR
  clear h h' h0 hb hb' ha hb2 hR hq hr0 wee wee2 hX0
  go_enter Tryz.func66, Tryz.ntmps66
  go_wp2_with fail
  refine (HR.out _).mono ?_
  rintro r w1 ⟨rfl, hb1⟩
  have ev0 : w1.heap[w.heap.size]? = some (.cells #[.int .i64 m, .int .i64 e] 32 (0, 0)) := (hb1.block _ (by simp; omega)).trans (by (repeat (first | (with_reducible refine bw5 ?_ _; (first | rfl | (simp; done) | omega | (simp; omega)); done) | with_reducible refine bw6 ?_ _ | with_reducible refine bw7 ?_ | with_reducible refine bw8 ?_)))
  have ev1 : w1.heap[w.heap.size + 1]? = some (.cells #[.int .i64 m', .int .i64 e'] 32 (0, 0)) := (hb1.block _ (by simp)).trans (by (repeat (first | (with_reducible refine bw5 ?_ _; (first | rfl | (simp; done) | omega | (simp; omega)); done) | with_reducible refine bw6 ?_ _ | with_reducible refine bw7 ?_ | with_reducible refine bw8 ?_)))
  have ev2 : w1.heap[w.heap.size + 1 + 1]? = some (.cells #[.int .i64 0, .int .i64 0] 32 (0, 0)) := (hb1.block _ (by simp)).trans (by (repeat (first | (with_reducible refine bw5 ?_ _; (first | rfl | (simp; done) | omega | (simp; omega)); done) | with_reducible refine bw6 ?_ _ | with_reducible refine bw7 ?_ | with_reducible refine bw8 ?_)))
  have FB1 : Hid (Below w.heap.size w w1) := by
    refine Below.trans ?_ (hb1.mono (by simp; omega))
    (repeat with_reducible (first | exact bw0 _ _ | exact hBW | refine bw1 ?_ ?_ _ | refine bw2 ?_ ?_ _ | refine bw3 ?_ _ | refine bw4 ?_)); all_goals (first | omega | (dsimp only; omega) | ((repeat with_reducible (first | refine lz1 ?_ | refine lz2 ?_ | refine lz3 ?_ | refine lz4 ?_)); omega))
  have EV0 := Lib.hid ev0
  have EV1 := Lib.hid ev1
  have EV2 := Lib.hid ev2
  clear hb1
  have k0 := cell_of_heap ev1 0
  have k1 := cell_of_heap ev1 1
  have z1 := lt_of_heap ev1
  clear ev0 ev1 ev2
  go_wp2_with fail
  refine (HR2.out _).mono ?_
  rintro r w2 ⟨rfl, hb2⟩
  have ev0 := (hb2.block _ (lt_of_heap EV0.out)).trans EV0.out
  have ev1 := (hb2.block _ (lt_of_heap EV1.out)).trans EV1.out
  have FB2 : Hid (Below w.heap.size w w2) := FB1.out.trans (hb2.mono FB1.out.size)
  clear k0 k1 z1
  have k0 := cell_of_heap ev0 0
  have k1 := cell_of_heap ev0 1
  have j0 := cell_of_heap ev1 0
  have j1 := cell_of_heap ev1 1
  have z0 := lt_of_heap ev0
  have z1 := lt_of_heap ev1
  have EV0 := Lib.hid ev0
  have EV1 := Lib.hid ev1
  have EV2 := Lib.hid ((hb2.block _ (lt_of_heap EV2.out)).trans EV2.out)
  clear hb2 ev0 ev1
  have HT2 := Lib.hid (htab.below FB2.out)
  clear htab
  go_wp2_with fail
  refine wp_region_mix [0, 1, 3, 4] [2, 5, 6, 7] [5, 6, 7] (Below w2.heap.size w2) (by kernel_rfl) (by kernel_rfl) (Below.refl _ _).drew ?_
  iterate 4 (first | (apply first_step; (rw [List.getElem?_toArray]; (repeat rw [List.getElem?_cons_succ]); rw [List.getElem?_cons_zero]); rfl; (intro W hB; have hc := bcellB hB; go_simp; (first | done | rfl)); go_frame) | (apply first_skip; (rw [List.getElem?_toArray]; (repeat rw [List.getElem?_cons_succ]); rw [List.getElem?_cons_zero]); rfl; go_frame))
  refine first_done ?_
  apply tail_step; (rw [List.getElem?_toArray]; (repeat rw [List.getElem?_cons_succ]); rw [List.getElem?_cons_zero]); rfl; rfl; intro K hK; go_simp
  refine (HS.out _).mono ?_
  rintro r w3 ⟨rfl, rfl⟩
  refine hK _ _ (fun _ => (Below.refl _ w2).drew) ?_
  clear hK K
  apply tail_step; (rw [List.getElem?_toArray]; (repeat rw [List.getElem?_cons_succ]); rw [List.getElem?_cons_zero]); rfl; rfl; intro K hK; go_simp
  refine (HS2.out _).mono ?_
  rintro r w3 ⟨rfl, rfl⟩
  refine hK _ _ (fun h => absurd (by decide) h) ?_
  clear hK K
  iterate 2 (apply tail_step; (rw [List.getElem?_toArray]; (repeat rw [List.getElem?_cons_succ]); rw [List.getElem?_cons_zero]); rfl; rfl; intro K hK; go_simp; refine hK _ _ (fun h => absurd (by decide) h) ?_; clear hK K)
  refine tail_done ?_
  go_wp2_with fail
  refine wp_region_mix [0, 1, 2, 4, 5, 6, 7, 8] [3, 9, 10] [10] (Below w2.heap.size w2) (by kernel_rfl) (by kernel_rfl) (Below.refl _ _).drew.drew ?_
  iterate 8 (first | (apply first_step; (rw [List.getElem?_toArray]; (repeat rw [List.getElem?_cons_succ]); rw [List.getElem?_cons_zero]); rfl; (intro W hB; have hc := bcellB hB; go_simp; (first | done | rfl)); go_frame) | (apply first_skip; (rw [List.getElem?_toArray]; (repeat rw [List.getElem?_cons_succ]); rw [List.getElem?_cons_zero]); rfl; go_frame))
  refine first_done ?_
  apply tail_step; (rw [List.getElem?_toArray]; (repeat rw [List.getElem?_cons_succ]); rw [List.getElem?_cons_zero]); rfl; rfl; intro K hK; go_simp
  refine (HD.out _ (HT2.out.below (by (repeat with_reducible (first | exact bw0 _ _ | exact hBW | refine bw1 ?_ ?_ _ | refine bw2 ?_ ?_ _ | refine bw3 ?_ _ | refine bw4 ?_)); all_goals (first | omega | (dsimp only; omega) | ((repeat with_reducible (first | refine lz1 ?_ | refine lz2 ?_ | refine lz3 ?_ | refine lz4 ?_)); omega))))).mono ?_
  rintro r w3 ⟨v3, rfl, hown3, hb3⟩
  have hBW : Below w2.heap.size w2 w3 := (Below.refl _ w2).drew.drew.trans hb3
  refine hK _ _ (fun _ => hBW) ?_
  clear hK K
  have S0 : Hid (DivSt w2 b D0 X0 r0 0 v3 D0 X0 r0 w3) := ⟨hown3, hBW, rfl, bd.1, by have := bd.2.1; omega, bd.2.2, by omega, by omega⟩
  obtain ⟨i0, hi, hz0, hz1, hz2⟩ := info_parts info5
  have HI := Lib.hid hi
  have HZ0 := Lib.hid hz0
  have HZ1 := Lib.hid hz1
  have HZ2 := Lib.hid hz2
  (apply tail_step; (rw [List.getElem?_toArray]; (repeat rw [List.getElem?_cons_succ]); rw [List.getElem?_cons_zero]); rfl; rfl; intro K hK; go_simp; refine hK _ _ ?_ ?_; (focus (first | (intro h; exact absurd (by decide) h) | (intro _; clear hK; (repeat with_reducible (first | exact bw0 _ _ | exact hBW | refine bw1 ?_ ?_ _ | refine bw2 ?_ ?_ _ | refine bw3 ?_ _ | refine bw4 ?_)); all_goals (first | omega | (dsimp only; omega) | ((repeat with_reducible (first | refine lz1 ?_ | refine lz2 ?_ | refine lz3 ?_ | refine lz4 ?_)); omega))))); clear hK K)
  (apply tail_step; (rw [List.getElem?_toArray]; (repeat rw [List.getElem?_cons_succ]); rw [List.getElem?_cons_zero]); rfl; rfl; intro K hK; go_simp; refine hK _ _ (fun h => absurd (by decide) h) ?_; clear hK K)
  refine tail_done ?_
  clear hown3 hb3 hBW k0 k1 j0 j1 z0 z1 hi hz0 hz1 hz2 bd wee3 wee4 HD HS HS2
  go_wp2_with fail
  clear tq wq tr wr0
  go_loopw [8, 9, 10, 43] (fun x8 x9 x10 x43 wr => ∃ (k : Nat) (v : Value) (D : List Nat) (x : Int) (r : Nat), x8 = v ∧ x9 = .int .i64 x ∧ x10 = .int .u64 r ∧ x43 = .int .i64 k ∧ k ≤ 32 ∧ r < b ∧ Hid (DivSt w2 b D0 X0 r0 k v D x r wr)) (fun _ _ _ x43 _ => 32 - (intOf x43).toNat)
  case atStart => exact ⟨0, v3, D0, X0, r0, rfl, rfl, rfl, rfl, by omega, hrb, S0⟩
  case round =>
    clear S0 hrb
    obtain ⟨k, v, D, x, r, rfl, rfl, rfl, rfl, hk, hrb, hS⟩ := hrel
    by_cases hlt : k < 32
    · by_cases hr : r = 0
      · subst hr
        have HBT := Lib.hid hS.out.bel
        have ERT : Hid (R = roundP (decide (m < 0) != decide (m' < 0)) D x) := by
          unfold Hid
          rw [ER.out, ← hS.out.eq, divL_zero]
          rfl
        obtain ⟨g6, c6, rfl, d6⟩ := dgs_of_own hS.out.own hS.out.small hS.out.pos
        have D6 := Lib.hid d6
        have lenT : D.length ≤ 100000 := by have := hS.out.len; omega
        have expT : -2000000 ≤ x := by have := hS.out.lo; omega
        clear hS d6
        have q0 := (HBT.out.block _ (lt_of_heap EV0.out)).trans EV0.out
        have q1 := (HBT.out.block _ (lt_of_heap EV1.out)).trans EV1.out
        have k0 := cell_of_heap q0 0
        have j0 := cell_of_heap q1 0
        have z0 := lt_of_heap q0
        have z1 := lt_of_heap q1
        clear q0 q1
        go_wp2_with fail
        have HRN := round_any (!(decide (m < 0) == decide (m' < 0))) x wr HBT.out.size D6.out lenT expT
        refine HRN.mono ?_
        clear HRN
        rintro r w8 ⟨rfl, f8⟩
        have hgb := D6.out.le
        have HB8 : Hid (Below w2.heap.size w2 w8) := HBT.out.trans (f8.below HBT.out.size (fun k hk => by rw [hk]; omega))
        have ER1 : Hid (R = roundP (!(decide (m < 0) == decide (m' < 0))) D x) := ERT.out
        generalize roundP (!(decide (m < 0) == decide (m' < 0))) D x = RR at ER1 ⊢
        obtain ⟨⟨rm, rx⟩, rk⟩ := RR
        have q2 := (HB8.out.block _ (lt_of_heap EV2.out)).trans EV2.out
        have x0 := cell_of_heap q2
        have y0 := frozen_of_heap q2
        have z2 := lt_of_heap q2
        have HBW : Hid (Below w.heap.size w w8) := FB2.out.trans (HB8.out.mono FB2.out.size)
        clear f8 q2 D6 HB8 hgb k0 j0 z0 z1 ERT HBT
        unfold NumV
        simp only
        go_wp2_with fail
        refine bodyPost_ret (v := .tuple #[.agg #[.int .i64 rm, .int .i64 rx], .bool rk]) (by simp [results, Tryz.results66, go_sem, x0]) rfl ⟨by rw [ER1.out]; rfl, ?_⟩
        have hBW := HBW.out
        (repeat with_reducible (first | exact bw0 _ _ | exact hBW | refine bw1 ?_ ?_ _ | refine bw2 ?_ ?_ _ | refine bw3 ?_ _ | refine bw4 ?_)); all_goals (first | omega | (dsimp only; omega) | ((repeat with_reducible (first | refine lz1 ?_ | refine lz2 ?_ | refine lz3 ?_ | refine lz4 ?_)); omega))
      · have hd10 : r * 10 / b < 10 := Nat.div_lt_of_lt_mul (by omega)
        have hm10 : r * 10 % b < b := Nat.mod_lt _ (by omega)
        have tq : Int.tdiv ((r : Int) * 10) (b : Int) = ((r * 10 / b : Nat) : Int) := by rw [show (r : Int) * 10 = ((r * 10 : Nat) : Int) by omega]; exact (Int.ofNat_tdiv (r * 10) b).symm
        have tr : Int.tmod ((r : Int) * 10) (b : Int) = ((r * 10 % b : Nat) : Int) := by rw [show (r : Int) * 10 = ((r * 10 : Nat) : Int) by omega]; exact (Int.ofNat_tmod (r * 10) b).symm
        have NX := fun (v' : Value) (wN : World) => hS.out.step (v' := v') (wN := wN) hr hrb hlt
        have NXH := Lib.hid NX
        clear NX
        generalize r * 10 / b = d at hd10 tq NXH
        generalize r * 10 % b = r2 at hm10 tr NXH
        have w10 : IntKind.u64.wrap ((r : Int) * 10) = (r : Int) * 10 := IntWalk.u64_in _ (by omega)
        have wd : IntKind.u64.wrap (d : Int) = (d : Int) := IntWalk.u64_in _ (by omega)
        have wd8 : IntKind.u8.wrap (d : Int) = (d : Int) := IntWalk.u8_in _ (by omega)
        have wr2 : IntKind.u64.wrap (r2 : Int) = (r2 : Int) := IntWalk.u64_in _ (by omega)
        have hxl := hS.out.lo
        have hxh := hS.out.hi
        have wx : IntKind.i64.wrap (x - 1) = x - 1 := IntWalk.i64_in _ (by omega)
        have wx2 : wrap64 (x - 1) = x - 1 := IntWalk.wrap64_in _ (by omega)
        have HOWN := Lib.hid hS.out.own
        have HBW := Lib.hid hS.out.bel
        have hlen := hS.out.len
        have hsz := hS.out.bel.size
        have n1 : ((r : Int) == 0) = false := by simp; omega
        clear hS hr
        go_wp2_with (at_builtin; refine wpList_append_own_at _ rfl _ _ 87 rfl w2.heap.size 5 i0 (.int .u8 0) 1 1 Tryz.underlying87 HI.out HZ0.out HZ1.out HZ2.out rfl (by decide) _ _ _ rfl (HOWN.out.alloc _) ⟨_, 0, none⟩ 1 1 [.int .u8 d] rfl rfl (fun j u hj => cells_new wr #[.int .u8 d] 5 j u hj) (by simp [Value.oneCell']) (by unfold maxLen; omega) (by omega) (by simp; omega) ?_; intro v' wN hown hgrow _ _)
        have hbN : Below w2.heap.size w2 wN := (HBW.out.alloc hsz _).grown hgrow (by simp; omega) (fun k e => (HOWN.out.lt k e).1)
        go_roundw
        case rel => exact ⟨k + 1, v', D ++ [d], x - 1, r2, rfl, rfl, rfl, by go_num, by omega, hm10, NXH.out v' wN hown hbN⟩
        case measure => simp [intOf]; omega
    · by_cases hr : r = 0
      · subst hr
        have HBT := Lib.hid hS.out.bel
        have ERT : Hid (R = roundP (decide (m < 0) != decide (m' < 0)) D x) := by
          unfold Hid
          rw [ER.out, ← hS.out.eq, divL_zero]
          rfl
        obtain ⟨g6, c6, rfl, d6⟩ := dgs_of_own hS.out.own hS.out.small hS.out.pos
        have D6 := Lib.hid d6
        have lenT : D.length ≤ 100000 := by have := hS.out.len; omega
        have expT : -2000000 ≤ x := by have := hS.out.lo; omega
        clear hS d6
        have q0 := (HBT.out.block _ (lt_of_heap EV0.out)).trans EV0.out
        have q1 := (HBT.out.block _ (lt_of_heap EV1.out)).trans EV1.out
        have k0 := cell_of_heap q0 0
        have j0 := cell_of_heap q1 0
        have z0 := lt_of_heap q0
        have z1 := lt_of_heap q1
        clear q0 q1
        go_wp2_with fail
        have HRN := round_any (!(decide (m < 0) == decide (m' < 0))) x wr HBT.out.size D6.out lenT expT
        refine HRN.mono ?_
        clear HRN
        rintro r w8 ⟨rfl, f8⟩
        have hgb := D6.out.le
        have HB8 : Hid (Below w2.heap.size w2 w8) := HBT.out.trans (f8.below HBT.out.size (fun k hk => by rw [hk]; omega))
        have ER1 : Hid (R = roundP (!(decide (m < 0) == decide (m' < 0))) D x) := ERT.out
        generalize roundP (!(decide (m < 0) == decide (m' < 0))) D x = RR at ER1 ⊢
        obtain ⟨⟨rm, rx⟩, rk⟩ := RR
        have q2 := (HB8.out.block _ (lt_of_heap EV2.out)).trans EV2.out
        have x0 := cell_of_heap q2
        have y0 := frozen_of_heap q2
        have z2 := lt_of_heap q2
        have HBW : Hid (Below w.heap.size w w8) := FB2.out.trans (HB8.out.mono FB2.out.size)
        clear f8 q2 D6 HB8 hgb k0 j0 z0 z1 ERT HBT
        unfold NumV
        simp only
        go_wp2_with fail
        refine bodyPost_ret (v := .tuple #[.agg #[.int .i64 rm, .int .i64 rx], .bool rk]) (by simp [results, Tryz.results66, go_sem, x0]) rfl ⟨by rw [ER1.out]; rfl, ?_⟩
        have hBW := HBW.out
        (repeat with_reducible (first | exact bw0 _ _ | exact hBW | refine bw1 ?_ ?_ _ | refine bw2 ?_ ?_ _ | refine bw3 ?_ _ | refine bw4 ?_)); all_goals (first | omega | (dsimp only; omega) | ((repeat with_reducible (first | refine lz1 ?_ | refine lz2 ?_ | refine lz3 ?_ | refine lz4 ?_)); omega))
      · have n1 : ((r : Int) != 0) = true := by simp; omega
        have HBW := Lib.hid hS.out.bel
        have ERT : Hid (R = roundP (decide (m < 0) != decide (m' < 0)) (D ++ [1]) (x - 1)) := by
          unfold Hid
          have e := hS.out.eq
          rw [show 32 - k = 0 by omega] at e
          rw [ER.out, ← e]
          unfold divL divE
          simp only
          rw [if_neg hr]
        have hxl := hS.out.lo
        have hxh := hS.out.hi
        have wx : IntKind.i64.wrap (x - 1) = x - 1 := IntWalk.i64_in _ (by omega)
        have wx2 : wrap64 (x - 1) = x - 1 := IntWalk.wrap64_in _ (by omega)
        have HOWN := Lib.hid hS.out.own
        have hlen := hS.out.len
        have hsz := hS.out.bel.size
        have HSM := Lib.hid hS.out.small
        clear hS hr
        go_wp2_with (
          at_builtin
          refine wpList_append_own_at _ rfl _ _ 87 rfl w2.heap.size 5 i0 (.int .u8 0) 1 1 Tryz.underlying87 HI.out HZ0.out HZ1.out HZ2.out rfl (by decide) _ _ _ rfl (HOWN.out.alloc _) ⟨_, 0, none⟩ 1 1 [.int .u8 1] rfl rfl (fun j u hj => cells_new wr #[.int .u8 1] 5 j u hj) (by simp [Value.oneCell']) (by unfold maxLen; omega) (by omega) (by simp; omega) ?_
          intro v' wN hown hgrow _ _
          have hbN : Below w2.heap.size w2 wN := (HBW.out.alloc hsz _).grown hgrow (by simp; omega) (fun k e => (HOWN.out.lt k e).1)
          have HBT := Lib.hid hbN
          have hown2 : wN.ownsRow w2.heap.size 5 1 v' (D ++ [1]).length ((D ++ [1]).map dv) := by rw [List.length_append, List.map_append]; exact hown
          obtain ⟨g6, c6, rfl, d6⟩ := dgs_of_own hown2 (by
            intro d hd
            rcases List.mem_append.1 hd with hd | hd
            · exact HSM.out d hd
            · rw [List.mem_singleton.1 hd]; omega) (by simp)
          have D6 := Lib.hid d6
          have lenT : (D ++ [1]).length ≤ 100000 := by simp; omega
          have expT : -2000000 ≤ x - 1 := by omega
          clear hown hown2 d6 hbN hgrow HOWN HBW
          generalize D ++ [1] = DT at ERT D6 lenT ⊢
          have q0 := (HBT.out.block _ (lt_of_heap EV0.out)).trans EV0.out
          have q1 := (HBT.out.block _ (lt_of_heap EV1.out)).trans EV1.out
          have k0 := cell_of_heap q0 0
          have j0 := cell_of_heap q1 0
          have z0 := lt_of_heap q0
          have z1 := lt_of_heap q1
          clear q0 q1
          skip)
        have HRN := round_any (!(decide (m < 0) == decide (m' < 0))) (x - 1) wN HBT.out.size D6.out lenT expT
        refine HRN.mono ?_
        clear HRN
        rintro r w8 ⟨rfl, f8⟩
        have hgb := D6.out.le
        have HB8 : Hid (Below w2.heap.size w2 w8) := HBT.out.trans (f8.below HBT.out.size (fun k hk => by rw [hk]; omega))
        have ER1 : Hid (R = roundP (!(decide (m < 0) == decide (m' < 0))) DT (x - 1)) := ERT.out
        generalize roundP (!(decide (m < 0) == decide (m' < 0))) DT (x - 1) = RR at ER1 ⊢
        obtain ⟨⟨rm, rx⟩, rk⟩ := RR
        have q2 := (HB8.out.block _ (lt_of_heap EV2.out)).trans EV2.out
        have x0 := cell_of_heap q2
        have y0 := frozen_of_heap q2
        have z2 := lt_of_heap q2
        have HBW : Hid (Below w.heap.size w w8) := FB2.out.trans (HB8.out.mono FB2.out.size)
        clear f8 q2 D6 HB8 hgb k0 j0 z0 z1 ERT HBT
        unfold NumV
        simp only
        go_wp2_with fail
        refine bodyPost_ret (v := .tuple #[.agg #[.int .i64 rm, .int .i64 rx], .bool rk]) (by simp [results, Tryz.results66, go_sem, x0]) rfl ⟨by rw [ER1.out]; rfl, ?_⟩
        have hBW := HBW.out
        (repeat with_reducible (first | exact bw0 _ _ | exact hBW | refine bw1 ?_ ?_ _ | refine bw2 ?_ ?_ _ | refine bw3 ?_ _ | refine bw4 ?_)); all_goals (first | omega | (dsimp only; omega) | ((repeat with_reducible (first | refine lz1 ?_ | refine lz2 ?_ | refine lz3 ?_ | refine lz4 ?_)); omega))
end
end Go.Proofs.YtndhmahkglfopaaGreatDoor
