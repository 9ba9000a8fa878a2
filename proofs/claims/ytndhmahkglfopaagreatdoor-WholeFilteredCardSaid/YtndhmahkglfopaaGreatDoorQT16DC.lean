/- The document's Near at whole numbers. -/
import Derived.Test.YtndhmahkglfopaaGreatDoorQT16DA
namespace Go.Proofs.YtndhmahkglfopaaGreatDoor
open Go.RowKit
theorem rdg_ten : ∀ (k n : Nat), n ≤ k → ∀ d ∈ rdg n, d < 10
  | 0, 0, _ => by rw [rdg_zero]; intro d hd; cases hd
  | k + 1, n, hk => by
    by_cases h : n = 0
    · subst h; rw [rdg_zero]; intro d hd; cases hd
    · rw [rdg_pos h]
      intro d hd
      rcases List.mem_append.1 hd with hd | hd
      · exact rdg_ten k (n / 10) (by omega) d hd
      · rw [List.mem_singleton.1 hd]; omega
theorem valR_lt : ∀ (D : List Nat), (∀ d ∈ D, d < 10) → ∀ a, D.foldl (fun a d => 10 * a + d) a < (a + 1) * 10 ^ D.length
  | [], _, a => by simp
  | x :: D, h, a => by
    have h1 := valR_lt D (fun d hd => h d (List.mem_cons_of_mem _ hd)) (10 * a + x)
    have hx := h x List.mem_cons_self
    rw [List.foldl_cons, List.length_cons, Nat.pow_succ]
    refine Nat.lt_of_lt_of_le h1 ?_
    have : (10 * a + x + 1) * 10 ^ D.length ≤ ((a + 1) * 10) * 10 ^ D.length := Nat.mul_le_mul_right _ (by omega)
    rw [Nat.mul_comm (10 ^ D.length) 10, ← Nat.mul_assoc]
    exact this
theorem valR_bd {D : List Nat} (h : ∀ d ∈ D, d < 10) (i : Nat) (hl : D.length ≤ 15) : valR (D.take i) < 1000000000000000 := by
  have h1 := valR_lt (D.take i) (fun d hd => h d (List.mem_of_mem_take hd)) 0
  unfold valR
  refine Nat.lt_of_lt_of_le h1 ?_
  rw [Nat.zero_add, Nat.one_mul]
  exact Nat.le_trans (Nat.pow_le_pow_right (by decide) (show (D.take i).length ≤ 15 by simp; omega)) (by decide)
/-- What the loop that drops noughts keeps. -/
structure NrSt (N q t : Nat) : Prop where
  q0 : q ≠ 0
  pre : ∀ (i d : Nat), (rdg q)[i]? = some d → (rdg N)[i]? = some d
  tw : trimW q = trimW N
  te : t + trimE q = trimE N
  len : t + (rdg q).length = (rdg N).length
theorem NrSt.step {N q t : Nat} (h : NrSt N q t) (hd : q % 10 = 0) : NrSt N (q / 10) (t + 1) ∧ (rdg q).length = (rdg (q / 10)).length + 1 := by
  have hl : (rdg q).length = (rdg (q / 10)).length + 1 := by rw [rdg_pos h.q0]; simp
  refine ⟨⟨by have := h.q0; omega, fun i d hi => h.pre i d ?_, by rw [← h.tw, trimW_go h.q0 hd], by have := h.te; rw [trimE_go h.q0 hd] at this; omega, by have := h.len; omega⟩, hl⟩
  rw [rdg_pos h.q0, List.getElem?_append_left (List.getElem?_eq_some_iff.1 hi).1]
  exact hi
section
variable (w : World)
set_option maxHeartbeats 4000000
set_option maxRecDepth 100000
/- behind the loop of noughts: the digits are those of q; $1: the sign -/
theorem Near_any (neg : Bool) (N : Nat) (hN : N ≠ 0) (hs : N < 1000000000000000) (b cap : Nat) (hcap : (rdg N).length ≤ cap) (hD : RdS w b (rdg N)) : Calls Tryz.prog 48 #[.agg #[.bool neg, .slice (some ⟨b, 0, none⟩) (rdg N).length cap, .int .i64 0], .bool false] w fun e w' => e = .returned (.tuple #[.agg #[.int .i64 (trimM neg N), .int .i64 (trimX N 0)], .bool true]) ∧ Below w.heap.size w w' := by
  obtain ⟨d0, hd0, hz0⟩ := rdg_head N N (Nat.le_refl _) hN
  have hl15 : (rdg N).length ≤ 15 := by rw [rdg_len N N (Nat.le_refl _)]; exact nd_le 15 N hs
  have HST := Lib.hid (fun w hD => strip_no w b (rdg N) cap d0 hD hd0 hz0)
  have HD := Lib.hid hD
  have S0 : Hid (NrSt N N 0) := ⟨hN, fun i d h => h, rfl, Nat.zero_add _, Nat.zero_add _⟩
  obtain ⟨L, hL⟩ : ∃ L, L = (rdg N).length := ⟨_, rfl⟩
  have EL := Lib.hid hL
  have EM : Hid (trimM neg N = if neg then -(trimW N : Int) else trimW N) := rfl
  have EX : Hid (trimX N 0 = (trimE N : Int)) := by unfold Hid trimX; rw [if_neg hN]; omega
  rw [← hL] at HST hcap hl15 ⊢
  generalize trimM neg N = RM at EM ⊢
  generalize trimX N 0 = RX at EX ⊢
  have d15 : decide (15 < (L : Int)) = false := decide_eq_false (by omega)
  clear hD hd0 hz0 hN hs hL
  go_enter Tryz.func48, Tryz.ntmps48
  go_wp2_with fail
  refine (HST.out _ (HD.out.below (by (repeat with_reducible (first | exact bw0 _ _ | exact hBW | refine bw1 ?_ ?_ _ | refine bw2 ?_ ?_ _ | refine bw3 ?_ _ | refine bw4 ?_)); all_goals (first | omega | (dsimp only; omega) | ((repeat with_reducible (first | refine lz1 ?_ | refine lz2 ?_ | refine lz3 ?_ | refine lz4 ?_)); omega))))).mono ?_
  rintro e w1 ⟨rfl, hw⟩
  have hB1 : Below w.heap.size w w1 := by rw [← hw]; (repeat with_reducible (first | exact bw0 _ _ | exact hBW | refine bw1 ?_ ?_ _ | refine bw2 ?_ ?_ _ | refine bw3 ?_ _ | refine bw4 ?_)); all_goals (first | omega | (dsimp only; omega) | ((repeat with_reducible (first | refine lz1 ?_ | refine lz2 ?_ | refine lz3 ?_ | refine lz4 ?_)); omega))
  have e0 : w1.heap[w.heap.size]? = some (.cells #[.bool neg, .slice (some ⟨b, 0, none⟩) L cap, .int .i64 0] 78) := by rw [← hw]; (repeat (first | (with_reducible refine bw5 ?_ _; (first | rfl | (simp; done) | omega | (simp; omega)); done) | with_reducible refine bw6 ?_ _ | with_reducible refine bw7 ?_ | with_reducible refine bw8 ?_))
  have e1 : w1.heap[w.heap.size + 1]? = some (.cells #[.int .i64 0, .int .i64 0] 32) := by rw [← hw]; (repeat (first | (with_reducible refine bw5 ?_ _; (first | rfl | (simp; done) | omega | (simp; omega)); done) | with_reducible refine bw6 ?_ _ | with_reducible refine bw7 ?_ | with_reducible refine bw8 ?_))
  have k0 := cell_of_heap e0 0
  have k2 := cell_of_heap e0 2
  have z0 := lt_of_heap e0
  have x1 := cell_of_heap e1
  have y1 := frozen_of_heap e1
  have z1 := lt_of_heap e1
  have HD1 := Lib.hid (HD.out.below hB1)
  have hbl := HD1.out.1
  have HB1 := Lib.hid hB1
  clear hw hB1 e0 e1
  go_wp2_with fail
  go_loop [6, 7] (fun v x => ∃ q t j : Nat, v = .slice (some ⟨b, 0, none⟩) (j + 1) cap ∧ x = .int .i64 t ∧ j + 1 ≤ L ∧ Hid (NrSt N q t ∧ (rdg q).length = j + 1)) (fun v _ => match v with | .slice _ n _ => n | _ => 0)
  case atStart =>
    obtain ⟨j, hj⟩ : ∃ j, L = j + 1 := ⟨L - 1, by have := rdg_pos S0.out.q0; have h2 := EL.out; rw [this] at h2; simp at h2; omega⟩
    exact ⟨N, 0, j, by rw [hj], rfl, by omega, S0.out, by rw [← EL.out, hj]⟩
  case round =>
    clear S0
    obtain ⟨q, t, j, rfl, rfl, hjL, hS⟩ := hrel
    have hq := hS.out.1.q0
    have hlast : (rdg q)[j]? = some (q % 10) := by
      have h1 := hS.out.2
      rw [rdg_pos hq] at h1 ⊢
      simp at h1
      rw [List.getElem?_append_right (by omega)]
      simp [h1]
    have cj := HD1.out.2 j _ (hS.out.1.pre j _ hlast)
    have hjc : j ≤ cap := by omega
    obtain ⟨n, hn⟩ : ∃ n, n = j + 1 := ⟨_, rfl⟩
    have HNN := Lib.hid hn
    rw [← hn]
    have hp : decide (0 < (n : Int)) = true := decide_eq_true (by omega)
    have hp2 : decide (0 < n) = true := decide_eq_true (by omega)
    have hp3 : 0 < n := by omega
    have wj : wrap64 ((n : Int) - 1) = (j : Int) := by rw [show (n : Int) - 1 = (j : Int) by omega]; exact IntWalk.wrap64_in _ (by omega)
    have wj1 : IntKind.i64.wrap ((n : Int) - 1) = (j : Int) := by rw [show (n : Int) - 1 = (j : Int) by omega]; exact IntWalk.i64_in _ (by omega)
    have jb1 : (0 : Int) ≤ (j : Int) := by omega
    have jb2 : (j : Int) < (n : Int) := by omega
    have jb3 : j < n := by omega
    have jb4 : j ≤ n := by omega
    have hte := hS.out.1.len
    have htb : t ≤ 15 := by rw [← EL.out] at hte; omega
    by_cases hd : q % 10 = 0
    · have n1 : ((q % 10 : Nat) == 0) = true := by simpa using hd
      have n2 : (((q % 10 : Nat) : Int) == 0) = true := by simp; omega
      have hj0 : 0 < j := by
        have h2 := hS.out.2
        have h3 := rdg_pos hq
        have h4 := rdg_pos (n := q / 10) (by omega)
        rw [h3, h4] at h2
        simp at h2
        omega
      obtain ⟨j2, hj2⟩ : ∃ j2, j = j2 + 1 := ⟨j - 1, by omega⟩
      have HJ2 := Lib.hid hj2
      have NX : Hid (NrSt N (q / 10) (t + 1) ∧ (rdg (q / 10)).length = j) := ⟨(hS.out.1.step hd).1, by have h1 := (hS.out.1.step hd).2; have := hS.out.2; omega⟩
      have wt : wrap64 ((t : Int) + 1) = (t : Int) + 1 := IntWalk.wrap64_in _ (by omega)
      rw [hd] at cj
      have cj0 : w1.cell? ⟨b, j, none⟩ = some (.int .i64 0) := cj
      clear cj
      clear hS hlast hte hq hd hj2 n1 n2 hn htb
      go_wp2_with fail
      go_round
      case rel => exact ⟨q / 10, t + 1, j2, by rw [← HJ2.out], by go_num, by have := HJ2.out; omega, NX.out.1, by rw [← HJ2.out]; exact NX.out.2⟩
      case measure => simp; omega
    · have n2 : (((q % 10 : Nat) : Int) == 0) = false := by simp; omega
      have jn : (j : Int) + 1 = (n : Int) := by omega
      have hlq : (rdg q).length = n := by rw [hS.out.2, hn]
      have EW : Hid (trimW N = q) := by rw [← hS.out.1.tw, trimW_at hd]; rfl
      have ET : Hid (trimE N = t) := by have := hS.out.1.te; rw [trimE_at hd] at this; unfold Hid; omega
      have PRE := Lib.hid hS.out.1.pre
      have LEN := Lib.hid hlq
      have h40 : decide (40 < (n : Int) + (t : Int)) = false := decide_eq_false (by rw [← EL.out] at hte; have := hS.out.2; omega)
      have wjt : wrap64 ((n : Int) + (t : Int)) = (n : Int) + (t : Int) := IntWalk.wrap64_in _ (by omega)
      have hn15 : n ≤ 15 := by rw [hn]; omega
      have hnc : n ≤ cap := by rw [hn]; omega
      have hnz : ((n : Int) == 0) = false := by simp; omega
      have h10 := rdg_ten q q (Nat.le_refl _)
      have HV : Hid (∀ i, valR ((rdg q).take i) < 1000000000000000) := fun i => valR_bd h10 i (by have := hS.out.2; omega)
      have HVL : Hid (valR ((rdg q).take n) = q) := by
        unfold Hid
        rw [List.take_of_length_le (by rw [LEN.out]; exact Nat.le_refl _)]
        exact valR_rdg q q (Nat.le_refl _)
      generalize q % 10 = d at cj n2 hlast hd
      clear hS hte h10 hlast hd hn jn hlq htb hq
      go_wp2_with fail
      clear wj wj1 jb1 jb2 jb3 jb4 hp hp2 h40 wjt n2 cj d15
      go_loop [10, 11] (fun x y => ∃ i : Nat, x = .int .i64 (valR ((rdg q).take i) : Int) ∧ y = .int .i64 i ∧ i ≤ n) (fun _ y => n - (intOf y).toNat)
      case atStart => exact ⟨0, rfl, rfl, Nat.zero_le _⟩
      case round =>
        obtain ⟨i, rfl, rfl, hi⟩ := hrel
        by_cases hlt : i < n
        · obtain ⟨x, hx⟩ : ∃ x, (rdg q)[i]? = some x := ⟨_, List.getElem?_eq_getElem (by rw [LEN.out]; exact hlt)⟩
          have ci := HD1.out.2 i x (PRE.out i x hx)
          have hv1 := HV.out i
          have hv2 := HV.out (i + 1)
          have EV := Lib.hid (valR_take hx)
          have hv3 : 10 * valR ((rdg q).take i) + x < 1000000000000000 := by rw [← EV.out]; exact hv2
          obtain ⟨M, hM⟩ : ∃ M : Int, M = (valR ((rdg q).take i) : Int) := ⟨_, rfl⟩
          obtain ⟨X, hX⟩ : ∃ X : Int, X = (x : Int) := ⟨_, rfl⟩
          rw [← hM]
          have HM := Lib.hid hM
          have HX := Lib.hid hX
          rw [← hX] at ci
          have i1 : (0 : Int) ≤ (i : Int) := by omega
          have i2 : (i : Int) < (n : Int) := by omega
          have i0 : decide ((i : Int) < (n : Int)) = true := decide_eq_true (by omega)
          have i3 : i < n := hlt
          have i4 : i ≤ cap := by omega
          have wi : wrap64 ((i : Int) + 1) = (i : Int) + 1 := IntWalk.wrap64_in _ (by omega)
          have wM : wrap64 (10 * M) = 10 * M := IntWalk.wrap64_in _ (by omega)
          have wM2 : wrap64 (10 * M + X) = 10 * M + X := IntWalk.wrap64_in _ (by omega)
          clear hx hM hX hv2 hv3 hv1 k0 k2 y1 z0 z1
          go_wp2_with fail
          go_round
          case rel => exact ⟨i + 1, by rw [EV.out, wM2, HM.out, HX.out]; go_num, by go_num, by omega⟩
          case measure => simp [intOf]; omega
        · have hie : i = n := by omega
          have EVQ : Hid ((valR ((rdg q).take i) : Int) = (q : Int)) := by rw [hie, HVL.out]; rfl
          rw [EVQ.out]
          have hqb : q < 1000000000000000 := by have := HV.out n; rw [HVL.out] at this; exact this
          have wn : wrap64 (-(q : Int)) = -(q : Int) := IntWalk.wrap64_in _ (by omega)
          clear hie EVQ
          cases neg with
          | true =>
            have ERM : Hid (-(q : Int) = RM) := by rw [EM.out, if_pos rfl, EW.out]; rfl
            have ERX : Hid ((t : Int) = RX) := by rw [EX.out, ET.out]; rfl
            go_wp2_with fail
            refine bodyPost_ret (v := .tuple #[.agg #[.int .i64 (-(q : Int)), .int .i64 t], .bool true]) (by simp [results, Tryz.results48, go_sem, x1]) rfl ⟨by rw [ERM.out, ERX.out], ?_⟩
            have hBW := HB1.out
            (repeat with_reducible (first | exact bw0 _ _ | exact hBW | refine bw1 ?_ ?_ _ | refine bw2 ?_ ?_ _ | refine bw3 ?_ _ | refine bw4 ?_)); all_goals (first | omega | (dsimp only; omega) | ((repeat with_reducible (first | refine lz1 ?_ | refine lz2 ?_ | refine lz3 ?_ | refine lz4 ?_)); omega))
          | false =>
            have ERM : Hid ((q : Int) = RM) := by rw [EM.out, if_neg (by simp), EW.out]; rfl
            have ERX : Hid ((t : Int) = RX) := by rw [EX.out, ET.out]; rfl
            go_wp2_with fail
            refine bodyPost_ret (v := .tuple #[.agg #[.int .i64 (q : Int), .int .i64 t], .bool true]) (by simp [results, Tryz.results48, go_sem, x1]) rfl ⟨by rw [ERM.out, ERX.out], ?_⟩
            have hBW := HB1.out
            (repeat with_reducible (first | exact bw0 _ _ | exact hBW | refine bw1 ?_ ?_ _ | refine bw2 ?_ ?_ _ | refine bw3 ?_ _ | refine bw4 ?_)); all_goals (first | omega | (dsimp only; omega) | ((repeat with_reducible (first | refine lz1 ?_ | refine lz2 ?_ | refine lz3 ?_ | refine lz4 ?_)); omega))
end
end Go.Proofs.YtndhmahkglfopaaGreatDoor
/- The document's Make at whole numbers, Number, and top's count. -/
namespace Go.Proofs.YtndhmahkglfopaaGreatDoor
open Go.RowKit
/-- The number that Make makes of a whole number. -/
def mkM (m : Int) : Int := if m = 0 then 0 else trimM (decide (m < 0)) m.natAbs
def mkX (m : Int) : Int := if m = 0 then 0 else trimX m.natAbs 0
section
variable (w : World)
set_option maxHeartbeats 4000000
set_option maxRecDepth 100000
theorem Make_any (m : Int) (h : Small m) : Calls Tryz.prog 19 #[.int .i64 m, .int .i64 0] w fun e w' => e = .returned (.tuple #[.agg #[.int .i64 (mkM m), .int .i64 (mkX m)], .bool true]) ∧ Below w.heap.size w w' := by
  by_cases h0 : m = 0
  · subst h0
    go_enter Tryz.func19, Tryz.ntmps19
    go_wp2_with fail
    refine bodyPost_ret (v := .tuple #[.agg #[.int .i64 (mkM 0), .int .i64 (mkX 0)], .bool true]) (by simp [results, Tryz.results19, go_sem, mkM, mkX]) rfl ⟨rfl, ?_⟩
    (repeat with_reducible (first | exact bw0 _ _ | exact hBW | refine bw1 ?_ ?_ _ | refine bw2 ?_ ?_ _ | refine bw3 ?_ _ | refine bw4 ?_)); all_goals (first | omega | (dsimp only; omega) | ((repeat with_reducible (first | refine lz1 ?_ | refine lz2 ?_ | refine lz3 ?_ | refine lz4 ?_)); omega))
  · have n0 : (m == 0) = false := by simpa using h0
    have HDG := Lib.hid (digitsC_any m h)
    have EM : Hid (mkM m = trimM (decide (m < 0)) m.natAbs) := by unfold Hid mkM; rw [if_neg h0]
    have EX : Hid (mkX m = trimX m.natAbs 0) := by unfold Hid mkX; rw [if_neg h0]
    have HA : Hid (m.natAbs ≠ 0) := by unfold Hid; omega
    have HS : Hid (m.natAbs < 1000000000000000) := by unfold Hid; unfold Small at h; omega
    generalize mkM m = RM at EM ⊢
    generalize mkX m = RX at EX ⊢
    clear h h0
    go_enter Tryz.func19, Tryz.ntmps19
    go_wp2_with fail
    refine (HDG.out _).mono ?_
    rintro e w1 ⟨⟨v, rfl, hv⟩, hb⟩
    have hp : 0 < (rdg m.natAbs).length := by rw [rdg_pos HA.out]; simp
    obtain ⟨b, cap, rfl, hcap, hR⟩ := rds_of_own (by simpa using hv) hp
    have HB : Hid (Below w.heap.size w w1) := by
      refine Below.trans ?_ (hb.mono (by simp))
      (repeat with_reducible (first | exact bw0 _ _ | exact hBW | refine bw1 ?_ ?_ _ | refine bw2 ?_ ?_ _ | refine bw3 ?_ _ | refine bw4 ?_)); all_goals (first | omega | (dsimp only; omega) | ((repeat with_reducible (first | refine lz1 ?_ | refine lz2 ?_ | refine lz3 ?_ | refine lz4 ?_)); omega))
    have E1 := Lib.hid ((hb.block w.heap.size (by simp)).trans (show _ = some (.cells #[.int .i64 0, .int .i64 0] 32 (0, 0)) by (repeat (first | (with_reducible refine bw5 ?_ _; (first | rfl | (simp; done) | omega | (simp; omega)); done) | with_reducible refine bw6 ?_ _ | with_reducible refine bw7 ?_ | with_reducible refine bw8 ?_))))
    have HN := Lib.hid (fun w => Near_any w (decide (m < 0)) m.natAbs)
    have HR := Lib.hid hR
    have HC := Lib.hid hcap
    clear hb hv hp hR hcap
    go_wp2_with fail
    refine (HN.out _ HA.out HS.out b cap HC.out HR.out).mono ?_
    rintro e w2 ⟨rfl, hb2⟩
    have hz := lt_of_heap E1.out
    have e2 := (hb2.block w.heap.size hz).trans E1.out
    have x0 := cell_of_heap e2
    have y0 := frozen_of_heap e2
    have z0 := lt_of_heap e2
    have HB2 := Lib.hid (HB.out.trans (hb2.mono HB.out.size))
    clear hb2 e2 hz
    go_wp2_with fail
    refine bodyPost_ret (v := .tuple #[.agg #[.int .i64 (trimM (decide (m < 0)) m.natAbs), .int .i64 (trimX m.natAbs 0)], .bool true]) (by simp [results, Tryz.results19, go_sem, x0]) rfl ⟨by rw [EM.out, EX.out], ?_⟩
    have hBW := HB2.out
    (repeat with_reducible (first | exact bw0 _ _ | exact hBW | refine bw1 ?_ ?_ _ | refine bw2 ?_ ?_ _ | refine bw3 ?_ _ | refine bw4 ?_)); all_goals (first | omega | (dsimp only; omega) | ((repeat with_reducible (first | refine lz1 ?_ | refine lz2 ?_ | refine lz3 ?_ | refine lz4 ?_)); omega))
theorem Number_any (m e : Int) : Calls Tryz.prog 20 #[.agg #[.int .i64 m, .int .i64 e]] w fun r w' => r = .returned (.agg #[.int .i64 1, .int .i64 m, .int .i64 e, .string ⟨#[]⟩, .bool false, .int .i64 0]) ∧ Below w.heap.size w w' := by
  go_enter Tryz.func20, Tryz.ntmps20
  go_wp2_with fail
  refine bodyPost_ret (v := .agg #[.int .i64 1, .int .i64 m, .int .i64 e, .string ⟨#[]⟩, .bool false, .int .i64 0]) (by simp [results, Tryz.results20, go_sem]) rfl ⟨rfl, ?_⟩
  (repeat with_reducible (first | exact bw0 _ _ | exact hBW | refine bw1 ?_ ?_ _ | refine bw2 ?_ ?_ _ | refine bw3 ?_ _ | refine bw4 ?_)); all_goals (first | omega | (dsimp only; omega) | ((repeat with_reducible (first | refine lz1 ?_ | refine lz2 ?_ | refine lz3 ?_ | refine lz4 ?_)); omega))
/-- top's count: a whole number's value. -/
theorem topcount_any (m : Int) (h : Small m) : Calls Tryz.prog 10 #[.int .i64 m] w fun r w' => r = .returned (.agg #[.int .i64 1, .int .i64 (mkM m), .int .i64 (mkX m), .string ⟨#[]⟩, .bool false, .int .i64 0]) ∧ Below w.heap.size w w' := by
  have HM := Lib.hid (fun w => Make_any w m h)
  clear h
  generalize mkM m = RM at HM ⊢
  generalize mkX m = RX at HM ⊢
  go_enter Tryz.func10, Tryz.ntmps10
  go_wp2_with fail
  refine (HM.out _).mono ?_
  rintro e w1 ⟨rfl, hb⟩
  have HB : Hid (Below w.heap.size w w1) := by
    refine Below.trans ?_ (hb.mono (by simp))
    (repeat with_reducible (first | exact bw0 _ _ | exact hBW | refine bw1 ?_ ?_ _ | refine bw2 ?_ ?_ _ | refine bw3 ?_ _ | refine bw4 ?_)); all_goals (first | omega | (dsimp only; omega) | ((repeat with_reducible (first | refine lz1 ?_ | refine lz2 ?_ | refine lz3 ?_ | refine lz4 ?_)); omega))
  have E1 := Lib.hid ((hb.block w.heap.size (by simp)).trans (show _ = some (.cells #[.int .i64 0, .int .i64 0, .int .i64 0, .string ⟨#[]⟩, .bool false, .int .i64 0] 34 (0, 0)) by (repeat (first | (with_reducible refine bw5 ?_ _; (first | rfl | (simp; done) | omega | (simp; omega)); done) | with_reducible refine bw6 ?_ _ | with_reducible refine bw7 ?_ | with_reducible refine bw8 ?_))))
  clear hb
  have hz := lt_of_heap E1.out
  go_wp2_with fail
  refine (Number_any _ RM RX).mono ?_
  rintro e w2 ⟨rfl, hb2⟩
  have e1 : (w1.alloc (.cells #[.int .i64 RM, .int .i64 RX] 32)).heap[w.heap.size]? = some (.cells #[.int .i64 0, .int .i64 0, .int .i64 0, .string ⟨#[]⟩, .bool false, .int .i64 0] 34 (0, 0)) := by
    refine heap_alloc_old ?_ _
    exact E1.out
  have e2 := (hb2.block w.heap.size (by simp; omega)).trans e1
  have x0 := cell_of_heap e2
  have y0 := frozen_of_heap e2
  have z0 := lt_of_heap e2
  have HB2 : Hid (Below w.heap.size w w2) := by
    have hBW := HB.out
    have hsz := hBW.size
    refine Below.trans ?_ (hb2.mono (by simp; omega))
    (repeat with_reducible (first | exact bw0 _ _ | exact hBW | refine bw1 ?_ ?_ _ | refine bw2 ?_ ?_ _ | refine bw3 ?_ _ | refine bw4 ?_)); all_goals (first | omega | (dsimp only; omega) | ((repeat with_reducible (first | refine lz1 ?_ | refine lz2 ?_ | refine lz3 ?_ | refine lz4 ?_)); omega))
  clear hb2 e1 e2 hz
  go_wp2_with fail
  refine bodyPost_ret (v := .agg #[.int .i64 1, .int .i64 RM, .int .i64 RX, .string ⟨#[]⟩, .bool false, .int .i64 0]) (by simp [results, Tryz.results10, go_sem, x0]) rfl ⟨rfl, ?_⟩
  have hBW := HB2.out
  (repeat with_reducible (first | exact bw0 _ _ | exact hBW | refine bw1 ?_ ?_ _ | refine bw2 ?_ ?_ _ | refine bw3 ?_ _ | refine bw4 ?_)); all_goals (first | omega | (dsimp only; omega) | ((repeat with_reducible (first | refine lz1 ?_ | refine lz2 ?_ | refine lz3 ?_ | refine lz4 ?_)); omega))
end
end Go.Proofs.YtndhmahkglfopaaGreatDoor
