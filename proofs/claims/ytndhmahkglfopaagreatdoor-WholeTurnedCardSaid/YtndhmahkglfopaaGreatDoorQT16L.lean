/- bits.Div64 by ten to the power of 15. -/
import Derived.Deep.Upon
import Derived.Test.YtndhmahkglfopaaGreatDoorQBase
import Derived.Test.YtndhmahkglfopaaGreatDoorQT13NumA
namespace Go.Proofs.YtndhmahkglfopaaGreatDoor
open Go.RowKit
/-- One half of Div64's quotient, corrected. -/
def dvL (u : Nat) : Nat → Nat → Nat → Nat
  | 0, q, _ => q
  | n + 1, q, r => if 4294967296 ≤ q ∨ 4294967296 * r + u < q * 2684354560 then (if 4294967296 ≤ r + 3814697265 then q - 1 else dvL u n (q - 1) (r + 3814697265)) else q
theorem dvL_stop {u n q r : Nat} (h : ¬ (4294967296 ≤ q ∨ 4294967296 * r + u < q * 2684354560)) : dvL u n q r = q := by
  cases n with
  | zero => rfl
  | succ n => rw [dvL, if_neg h]
theorem dvL_le (u : Nat) : ∀ n q r, dvL u n q r ≤ q
  | 0, q, _ => Nat.le_refl _
  | n + 1, q, r => by
    unfold dvL
    split
    · split
      · omega
      · exact Nat.le_trans (dvL_le u n _ _) (by omega)
    · exact Nat.le_refl _
theorem wrapN (x : Int) : ∃ n : Nat, IntKind.u64.wrap x = n ∧ n < 18446744073709551616 := by
  have := wrap_within .u64 x
  have h1 : IntKind.u64.min = 0 := by decide
  have h2 : IntKind.u64.max = 18446744073709551615 := by decide
  rw [h1, h2] at this
  exact ⟨(IntKind.u64.wrap x).toNat, by omega, by omega⟩
theorem bitsN (op : BinOp) (x y : Int) : ∃ n : Nat, bits op .u64 x y = n ∧ n < 18446744073709551616 := by
  have := bits_within op .u64 x y
  have h1 : IntKind.u64.min = 0 := by decide
  have h2 : IntKind.u64.max = 18446744073709551615 := by decide
  rw [h1, h2] at this
  exact ⟨(bits op .u64 x y).toNat, by omega, by omega⟩
def GeC (c k r : Nat) : Prop := k * c ≤ r
theorem GeC.zero (c r : Nat) : GeC c 0 r := by unfold GeC; rw [Nat.zero_mul]; exact Nat.zero_le _
theorem GeC.step {c k r : Nat} (h : GeC c k r) : GeC c (k + 1) (r + c) := by
  unfold GeC at *
  rw [Nat.succ_mul]
  exact Nat.add_le_add_right h c
theorem GeC.two {c k r : Nat} (h : GeC c k r) (hk : 2 ≤ k) : c + c ≤ r := by
  unfold GeC at h
  have := Nat.mul_le_mul_right c hk
  omega
/-- So often the step has been added. -/
def GeK (k r : Nat) : Prop := GeC 3814697265 k r
theorem GeK.zero (r : Nat) : GeK 0 r := GeC.zero _ r
theorem GeK.step {k r : Nat} (h : GeK k r) : GeK (k + 1) (r + 3814697265) := GeC.step (c := 3814697265) h
theorem GeK.le {k r : Nat} (h : GeK k r) (hr : r < 4294967296) : k ≤ 1 := by
  refine Nat.le_of_not_lt fun hk => ?_
  have := GeC.two (c := 3814697265) h hk
  omega
def DvPost (q t : Nat) (w : World) (r : Ending) (w' : World) : Prop := r = .returned (.tuple #[.int .u64 q, .int .u64 t]) ∧ Below w.heap.size w w'
set_option maxHeartbeats 1000000 in
theorem div_zero (lo : Nat) (hl : lo < 18446744073709551616) (w : World) : Calls Tryz.prog 62 #[.int .u64 0, .int .u64 lo, .int .u64 1000000000000000] w (DvPost (lo / 1000000000000000) (lo % 1000000000000000) w) := by
  have tq : Int.tdiv (lo : Int) 1000000000000000 = ((lo / 1000000000000000 : Nat) : Int) := (Int.ofNat_tdiv lo 1000000000000000).symm
  have tr : Int.tmod (lo : Int) 1000000000000000 = ((lo % 1000000000000000 : Nat) : Int) := (Int.ofNat_tmod lo 1000000000000000).symm
  obtain ⟨W, hW⟩ : ∃ W, W = lo / 1000000000000000 := ⟨_, rfl⟩
  obtain ⟨Q, hQ⟩ : ∃ W, W = lo % 1000000000000000 := ⟨_, rfl⟩
  rw [← hW] at tq ⊢
  rw [← hQ] at tr ⊢
  have wW : IntKind.u64.wrap (W : Int) = (W : Int) := IntWalk.u64_in _ (by omega)
  have wQ : IntKind.u64.wrap (Q : Int) = (Q : Int) := IntWalk.u64_in _ (by omega)
  clear hW hQ
  go_enter Tryz.func62, Tryz.ntmps62
  go_wp2_with fail
  refine wp_region_mix [0, 1, 2, 3, 4, 5, 6, 7] [] [] (Below w.heap.size w) (by kernel_rfl) (by kernel_rfl) (Below.refl _ _).drew ?_
  iterate 8 (first | (apply first_step; (rw [List.getElem?_toArray]; (repeat rw [List.getElem?_cons_succ]); rw [List.getElem?_cons_zero]); rfl; (intro W hB; have hc := bcellB hB; go_simp; (first | done | rfl)); go_frame) | (apply first_skip; (rw [List.getElem?_toArray]; (repeat rw [List.getElem?_cons_succ]); rw [List.getElem?_cons_zero]); rfl; go_frame))
  refine first_done ?_
  refine tail_done ?_
  go_wp2_with fail
  exact bodyPost_ret (v := .tuple #[.int .u64 W, .int .u64 Q]) (by simp [results, Tryz.results62, go_sem]) rfl ⟨rfl, (Below.refl _ w).drew⟩
/- the loop over the half of slots $1 (quotient) and $2 (rest), with $3 behind it; HW: what is told of the values -/
theorem dv_half (U : Nat) (bU : U < 18446744073709551616) : ∃ q r : Nat, q < 8589934592 ∧ r < 4294967296 ∧ (U : Int).tdiv 3814697265 = (q : Int) ∧ IntKind.u64.wrap (q : Int) = (q : Int) ∧ IntKind.u64.wrap ((q : Int) * 3814697265) = (q : Int) * 3814697265 ∧ IntKind.u64.wrap ((U : Int) - (q : Int) * 3814697265) = (r : Int) := by
  have hq : U / 3814697265 < 8589934592 := by omega
  have hr : U % 3814697265 < 4294967296 := by omega
  have he := Nat.div_add_mod U 3814697265
  have ht := (Int.ofNat_tdiv U 3814697265).symm
  generalize U / 3814697265 = q at *
  generalize U % 3814697265 = r at *
  refine ⟨q, r, hq, hr, ht, IntWalk.u64_in _ (by omega), IntWalk.u64_in _ (by omega), ?_⟩
  rw [show (U : Int) - (q : Int) * 3814697265 = (r : Int) by omega]
  exact IntWalk.u64_in _ (by omega)
theorem and_low (A : Nat) (bA : A < 18446744073709551616) : ∃ u : Nat, bits .and .u64 (A : Int) 4294967295 = (u : Int) ∧ u < 4294967296 := by
  have h2 := bits_and_u64_nat A 4294967295 bA (by omega)
  have h3 : A &&& 4294967295 ≤ 4294967295 := Nat.and_le_right
  generalize A &&& 4294967295 = u at *
  exact ⟨u, h2, by omega⟩
theorem and_low0 : bits .and .u64 16384000000000000000 4294967295 = 2684354560 := by kernel_rfl
theorem shr_high (A : Nat) (bA : A < 18446744073709551616) : ∃ u : Nat, (A : Int) / 4294967296 = (u : Int) ∧ u < 4294967296 := ⟨A / 4294967296, by omega, by omega⟩
theorem wrap_hi {hi : Nat} (hh : hi < 1000000000000000) : IntKind.u64.wrap ((hi : Int) * 16384) = (hi : Int) * 16384 := IntWalk.u64_in _ (by omega)
/- a loop's round: $1 the low half, $2 the answer, $3 what follows -/
/- behind the first loop: its quotient is $1 -/
/- behind the second loop: its quotient is $1 -/
set_option maxHeartbeats 2000000 in
set_option maxRecDepth 100000 in
theorem div_pos (HL : ∀ w, Calls Tryz.prog 101 #[.int .u64 1000000000000000] w fun e w' => e = .returned (.int .i64 14) ∧ w' = w) (hi lo : Nat) (h0 : 0 < hi) (hh : hi < 1000000000000000) :
    ∃ q t : Nat, q < 18446744073709551616 ∧ t < 1125899906842624 ∧ ∀ w, Calls Tryz.prog 62 #[.int .u64 hi, .int .u64 lo, .int .u64 1000000000000000] w (DvPost q t w) := by
  obtain ⟨U, hU, bU⟩ := bitsN .or ((hi : Int) * 16384) ((lo : Int) / 1125899906842624)
  obtain ⟨A, hA, bA⟩ := wrapN ((lo : Int) * 16384)
  obtain ⟨u0, hu0, bu0⟩ := and_low A bA
  obtain ⟨u1, e1, bu1⟩ := shr_high A bA
  obtain ⟨q0, r0, bq0, br0, d1, x1, x2, x3⟩ := dv_half U bU
  obtain ⟨Q1, hQ1⟩ : ∃ Q, Q = dvL u1 3 q0 r0 := ⟨_, rfl⟩
  obtain ⟨N, hN, bN⟩ := wrapN (IntKind.u64.wrap (IntKind.u64.wrap ((U : Int) * 4294967296) + (u1 : Int)) - IntKind.u64.wrap ((Q1 : Int) * 16384000000000000000))
  obtain ⟨p0, s0, bp0, bs0, d2, v1, v2, v3⟩ := dv_half N bN
  obtain ⟨P1, hP1⟩ : ∃ Q, Q = dvL u0 3 p0 s0 := ⟨_, rfl⟩
  obtain ⟨R1, hR1, bR1⟩ := wrapN (IntKind.u64.wrap ((Q1 : Int) * 4294967296) + (P1 : Int))
  obtain ⟨M, hM, bM⟩ := wrapN (IntKind.u64.wrap (IntKind.u64.wrap ((N : Int) * 4294967296) + (u0 : Int)) - IntKind.u64.wrap ((P1 : Int) * 16384000000000000000))
  obtain ⟨M4, hM4⟩ : ∃ x, x = M / 16384 := ⟨_, rfl⟩
  have HM4 : Hid ((M : Int) / 16384 = (M4 : Int)) := by unfold Hid; clear hU hA hu0 hN hR1 hM d1 d2 x1 x2 x3 v1 v2 v3; omega
  refine ⟨R1, M4, bR1, by clear hU hA hu0 hN hR1 hM d1 d2 x1 x2 x3 v1 v2 v3; omega, fun w => ?_⟩
  have c0 := and_low0
  have h1 : ¬ (1000000000000000 ≤ (hi : Int)) := by clear hU hA hu0 hN hR1 hM d1 d2 x1 x2 x3 v1 v2 v3; omega
  have h2 : ((hi : Int) == 0) = false := by simp; clear hU hA hu0 hN hR1 hM d1 d2 x1 x2 x3 v1 v2 v3; omega
  have wh := wrap_hi hh
  have HQ1 := Lib.hid hQ1.symm
  have HP1 := Lib.hid hP1.symm
  have HN := Lib.hid hN
  have HR1 := Lib.hid hR1
  have HM := Lib.hid hM
  have D2 := Lib.hid d2
  have V1 := Lib.hid v1
  have V2 := Lib.hid v2
  have V3 := Lib.hid v3
  clear hQ1 hP1 hN hR1 hM hM4 d2 v1 v2 v3
  go_enter Tryz.func62, Tryz.ntmps62
  go_wp2_with fail
  refine (HL _).mono ?_
  rintro r w1 ⟨rfl, rfl⟩
  go_wp2_with fail
  clear hU hA hu0 c0 h1 h2 wh e1 d1 x1 x2 x3
  go_loop [15, 16] (fun x y => ∃ (k q r : Nat), x = .int .u64 q ∧ y = .int .u64 r ∧ r < 4294967296 ∧ q < 8589934592 ∧ Hid (GeK k r ∧ dvL u1 (3 - k) q r = Q1)) (fun _ y => 4294967296 - (intOf y).toNat)
  case atStart => exact ⟨0, q0, r0, rfl, rfl, br0, bq0, GeK.zero _, HQ1.out⟩
  case round =>
    obtain ⟨k, q, r, rfl, rfl, hr, hq, hD⟩ := hrel
    have w2 : IntKind.u64.wrap (4294967296 * (r : Int)) = 4294967296 * (r : Int) := IntWalk.u64_in _ (by omega)
    have w3 : IntKind.u64.wrap (4294967296 * (r : Int) + (u1 : Int)) = 4294967296 * (r : Int) + (u1 : Int) := IntWalk.u64_in _ (by omega)
    by_cases hc : 4294967296 ≤ q ∨ 4294967296 * r + u1 < q * 2684354560
    · have hk : k ≤ 1 := hD.out.1.le hr
      obtain ⟨j, hj⟩ : ∃ j, 3 - k = j + 1 := ⟨2 - k, by omega⟩
      obtain ⟨p, hp⟩ : ∃ p : Nat, p = q - 1 := ⟨_, rfl⟩
      obtain ⟨s, hs⟩ : ∃ s : Nat, s = r + 3814697265 := ⟨_, rfl⟩
      have wp : IntKind.u64.wrap ((q : Int) - 1) = (p : Int) := by rw [show (q : Int) - 1 = (p : Int) by omega]; exact IntWalk.u64_in _ (by omega)
      have ws : IntKind.u64.wrap ((r : Int) + 3814697265) = (s : Int) := by rw [show (r : Int) + 3814697265 = (s : Int) by omega]; exact IntWalk.u64_in _ (by omega)
      have hE : (if 4294967296 ≤ s then p else dvL u1 j p s) = Q1 := by
        have := hD.out.2
        rw [hj, dvL, if_pos hc, ← hp, ← hs] at this
        exact this
      have hp2 : p < 8589934592 := by omega
      have hr0 : r < s := by omega
      have HJ : Hid (j = 3 - (k + 1) ∧ GeK (k + 1) s) := ⟨by omega, by rw [hs]; exact hD.out.1.step⟩
      clear hk hj hp hs hD
      have hc' : 4294967296 ≤ q ∨ (q < 4294967296 ∧ 4294967296 * r + u1 < q * 2684354560) := by omega
      clear hc
      rcases hc' with hc | ⟨hc, hc2⟩
      · have g1 : decide (4294967296 ≤ (q : Int)) = true := by simp; omega
        clear hc
        by_cases hs : 4294967296 ≤ s
        · have EQ : Hid (p = Q1) := by rw [if_pos hs] at hE; exact hE
          have g3 : decide (4294967296 ≤ (s : Int)) = true := by simp; omega
          clear hE HJ hs
          obtain rfl := EQ.out
          have hN := HN.out
          have d2 := D2.out
          have v1 := V1.out
          have v2 := V2.out
          have v3 := V3.out
          go_wp2_with fail
          clear hN d2 v1 v2 v3
          go_loop [18, 16] (fun x y => ∃ (k q r : Nat), x = .int .u64 q ∧ y = .int .u64 r ∧ r < 4294967296 ∧ q < 8589934592 ∧ Hid (GeK k r ∧ dvL u0 (3 - k) q r = P1)) (fun _ y => 4294967296 - (intOf y).toNat)
          case atStart => exact ⟨0, p0, s0, rfl, rfl, bs0, bp0, GeK.zero _, HP1.out⟩
          case round =>
            obtain ⟨k, q, r, rfl, rfl, hr, hq, hD⟩ := hrel
            have w2 : IntKind.u64.wrap (4294967296 * (r : Int)) = 4294967296 * (r : Int) := IntWalk.u64_in _ (by omega)
            have w3 : IntKind.u64.wrap (4294967296 * (r : Int) + (u0 : Int)) = 4294967296 * (r : Int) + (u0 : Int) := IntWalk.u64_in _ (by omega)
            by_cases hc : 4294967296 ≤ q ∨ 4294967296 * r + u0 < q * 2684354560
            · have hk : k ≤ 1 := hD.out.1.le hr
              obtain ⟨j, hj⟩ : ∃ j, 3 - k = j + 1 := ⟨2 - k, by omega⟩
              obtain ⟨p, hp⟩ : ∃ p : Nat, p = q - 1 := ⟨_, rfl⟩
              obtain ⟨s, hs⟩ : ∃ s : Nat, s = r + 3814697265 := ⟨_, rfl⟩
              have wp : IntKind.u64.wrap ((q : Int) - 1) = (p : Int) := by rw [show (q : Int) - 1 = (p : Int) by omega]; exact IntWalk.u64_in _ (by omega)
              have ws : IntKind.u64.wrap ((r : Int) + 3814697265) = (s : Int) := by rw [show (r : Int) + 3814697265 = (s : Int) by omega]; exact IntWalk.u64_in _ (by omega)
              have hE : (if 4294967296 ≤ s then p else dvL u0 j p s) = P1 := by
                have := hD.out.2
                rw [hj, dvL, if_pos hc, ← hp, ← hs] at this
                exact this
              have hp2 : p < 8589934592 := by omega
              have hr0 : r < s := by omega
              have HJ : Hid (j = 3 - (k + 1) ∧ GeK (k + 1) s) := ⟨by omega, by rw [hs]; exact hD.out.1.step⟩
              clear hk hj hp hs hD
              have hc' : 4294967296 ≤ q ∨ (q < 4294967296 ∧ 4294967296 * r + u0 < q * 2684354560) := by omega
              clear hc
              rcases hc' with hc | ⟨hc, hc2⟩
              · have g1 : decide (4294967296 ≤ (q : Int)) = true := by simp; omega
                clear hc
                by_cases hs : 4294967296 ≤ s
                · have EQ : Hid (p = P1) := by rw [if_pos hs] at hE; exact hE
                  have g3 : decide (4294967296 ≤ (s : Int)) = true := by simp; omega
                  clear hE HJ hs
                  obtain rfl := EQ.out
                  have hR1 := HR1.out
                  have hM := HM.out
                  have hM4 := HM4.out
                  go_wp2_with fail
                  exact bodyPost_ret (v := .tuple #[.int .u64 R1, .int .u64 M4]) (by simp [results, Tryz.results62, go_sem]) rfl ⟨rfl, Below.refl _ _⟩
                · have EQ : Hid (dvL u0 j p s = P1) := by rw [if_neg hs] at hE; exact hE
                  have g3 : decide (4294967296 ≤ (s : Int)) = false := by simp; omega
                  have hs2 : s < 4294967296 := by omega
                  clear hE hs
                  go_wp2_with fail
                  go_round
                  case rel => exact ⟨k + 1, p, s, rfl, rfl, hs2, hp2, HJ.out.2, by rw [← HJ.out.1]; exact EQ.out⟩
                  case measure => simp [intOf]; omega
              · have g1 : decide (4294967296 ≤ (q : Int)) = false := by simp; omega
                have g2 : decide (4294967296 * (r : Int) + (u0 : Int) < (q : Int) * 2684354560) = true := by simp; omega
                have wb : IntKind.u64.wrap ((q : Int) * 2684354560) = (q : Int) * 2684354560 := IntWalk.u64_in _ (by omega)
                clear hc hc2
                by_cases hs : 4294967296 ≤ s
                · have EQ : Hid (p = P1) := by rw [if_pos hs] at hE; exact hE
                  have g3 : decide (4294967296 ≤ (s : Int)) = true := by simp; omega
                  clear hE HJ hs
                  obtain rfl := EQ.out
                  have hR1 := HR1.out
                  have hM := HM.out
                  have hM4 := HM4.out
                  go_wp2_with fail
                  exact bodyPost_ret (v := .tuple #[.int .u64 R1, .int .u64 M4]) (by simp [results, Tryz.results62, go_sem]) rfl ⟨rfl, Below.refl _ _⟩
                · have EQ : Hid (dvL u0 j p s = P1) := by rw [if_neg hs] at hE; exact hE
                  have g3 : decide (4294967296 ≤ (s : Int)) = false := by simp; omega
                  have hs2 : s < 4294967296 := by omega
                  clear hE hs
                  go_wp2_with fail
                  go_round
                  case rel => exact ⟨k + 1, p, s, rfl, rfl, hs2, hp2, HJ.out.2, by rw [← HJ.out.1]; exact EQ.out⟩
                  case measure => simp [intOf]; omega
            · have EQ : Hid (q = P1) := by have := hD.out.2; rw [dvL_stop hc] at this; exact this
              obtain ⟨hc1, hc2⟩ := not_or.1 hc
              have wb : IntKind.u64.wrap ((q : Int) * 2684354560) = (q : Int) * 2684354560 := IntWalk.u64_in _ (by omega)
              have g1 : decide (4294967296 ≤ (q : Int)) = false := by simp; omega
              have g2 : decide (4294967296 * (r : Int) + (u0 : Int) < (q : Int) * 2684354560) = false := by simp; omega
              clear hD hc hc1 hc2
              obtain rfl := EQ.out
              have hR1 := HR1.out
              have hM := HM.out
              have hM4 := HM4.out
              go_wp2_with fail
              exact bodyPost_ret (v := .tuple #[.int .u64 R1, .int .u64 M4]) (by simp [results, Tryz.results62, go_sem]) rfl ⟨rfl, Below.refl _ _⟩
        · have EQ : Hid (dvL u1 j p s = Q1) := by rw [if_neg hs] at hE; exact hE
          have g3 : decide (4294967296 ≤ (s : Int)) = false := by simp; omega
          have hs2 : s < 4294967296 := by omega
          clear hE hs
          go_wp2_with fail
          go_round
          case rel => exact ⟨k + 1, p, s, rfl, rfl, hs2, hp2, HJ.out.2, by rw [← HJ.out.1]; exact EQ.out⟩
          case measure => simp [intOf]; omega
      · have g1 : decide (4294967296 ≤ (q : Int)) = false := by simp; omega
        have g2 : decide (4294967296 * (r : Int) + (u1 : Int) < (q : Int) * 2684354560) = true := by simp; omega
        have wb : IntKind.u64.wrap ((q : Int) * 2684354560) = (q : Int) * 2684354560 := IntWalk.u64_in _ (by omega)
        clear hc hc2
        by_cases hs : 4294967296 ≤ s
        · have EQ : Hid (p = Q1) := by rw [if_pos hs] at hE; exact hE
          have g3 : decide (4294967296 ≤ (s : Int)) = true := by simp; omega
          clear hE HJ hs
          obtain rfl := EQ.out
          have hN := HN.out
          have d2 := D2.out
          have v1 := V1.out
          have v2 := V2.out
          have v3 := V3.out
          go_wp2_with fail
          clear hN d2 v1 v2 v3
          go_loop [18, 16] (fun x y => ∃ (k q r : Nat), x = .int .u64 q ∧ y = .int .u64 r ∧ r < 4294967296 ∧ q < 8589934592 ∧ Hid (GeK k r ∧ dvL u0 (3 - k) q r = P1)) (fun _ y => 4294967296 - (intOf y).toNat)
          case atStart => exact ⟨0, p0, s0, rfl, rfl, bs0, bp0, GeK.zero _, HP1.out⟩
          case round =>
            obtain ⟨k, q, r, rfl, rfl, hr, hq, hD⟩ := hrel
            have w2 : IntKind.u64.wrap (4294967296 * (r : Int)) = 4294967296 * (r : Int) := IntWalk.u64_in _ (by omega)
            have w3 : IntKind.u64.wrap (4294967296 * (r : Int) + (u0 : Int)) = 4294967296 * (r : Int) + (u0 : Int) := IntWalk.u64_in _ (by omega)
            by_cases hc : 4294967296 ≤ q ∨ 4294967296 * r + u0 < q * 2684354560
            · have hk : k ≤ 1 := hD.out.1.le hr
              obtain ⟨j, hj⟩ : ∃ j, 3 - k = j + 1 := ⟨2 - k, by omega⟩
              obtain ⟨p, hp⟩ : ∃ p : Nat, p = q - 1 := ⟨_, rfl⟩
              obtain ⟨s, hs⟩ : ∃ s : Nat, s = r + 3814697265 := ⟨_, rfl⟩
              have wp : IntKind.u64.wrap ((q : Int) - 1) = (p : Int) := by rw [show (q : Int) - 1 = (p : Int) by omega]; exact IntWalk.u64_in _ (by omega)
              have ws : IntKind.u64.wrap ((r : Int) + 3814697265) = (s : Int) := by rw [show (r : Int) + 3814697265 = (s : Int) by omega]; exact IntWalk.u64_in _ (by omega)
              have hE : (if 4294967296 ≤ s then p else dvL u0 j p s) = P1 := by
                have := hD.out.2
                rw [hj, dvL, if_pos hc, ← hp, ← hs] at this
                exact this
              have hp2 : p < 8589934592 := by omega
              have hr0 : r < s := by omega
              have HJ : Hid (j = 3 - (k + 1) ∧ GeK (k + 1) s) := ⟨by omega, by rw [hs]; exact hD.out.1.step⟩
              clear hk hj hp hs hD
              have hc' : 4294967296 ≤ q ∨ (q < 4294967296 ∧ 4294967296 * r + u0 < q * 2684354560) := by omega
              clear hc
              rcases hc' with hc | ⟨hc, hc2⟩
              · have g1 : decide (4294967296 ≤ (q : Int)) = true := by simp; omega
                clear hc
                by_cases hs : 4294967296 ≤ s
                · have EQ : Hid (p = P1) := by rw [if_pos hs] at hE; exact hE
                  have g3 : decide (4294967296 ≤ (s : Int)) = true := by simp; omega
                  clear hE HJ hs
                  obtain rfl := EQ.out
                  have hR1 := HR1.out
                  have hM := HM.out
                  have hM4 := HM4.out
                  go_wp2_with fail
                  exact bodyPost_ret (v := .tuple #[.int .u64 R1, .int .u64 M4]) (by simp [results, Tryz.results62, go_sem]) rfl ⟨rfl, Below.refl _ _⟩
                · have EQ : Hid (dvL u0 j p s = P1) := by rw [if_neg hs] at hE; exact hE
                  have g3 : decide (4294967296 ≤ (s : Int)) = false := by simp; omega
                  have hs2 : s < 4294967296 := by omega
                  clear hE hs
                  go_wp2_with fail
                  go_round
                  case rel => exact ⟨k + 1, p, s, rfl, rfl, hs2, hp2, HJ.out.2, by rw [← HJ.out.1]; exact EQ.out⟩
                  case measure => simp [intOf]; omega
              · have g1 : decide (4294967296 ≤ (q : Int)) = false := by simp; omega
                have g2 : decide (4294967296 * (r : Int) + (u0 : Int) < (q : Int) * 2684354560) = true := by simp; omega
                have wb : IntKind.u64.wrap ((q : Int) * 2684354560) = (q : Int) * 2684354560 := IntWalk.u64_in _ (by omega)
                clear hc hc2
                by_cases hs : 4294967296 ≤ s
                · have EQ : Hid (p = P1) := by rw [if_pos hs] at hE; exact hE
                  have g3 : decide (4294967296 ≤ (s : Int)) = true := by simp; omega
                  clear hE HJ hs
                  obtain rfl := EQ.out
                  have hR1 := HR1.out
                  have hM := HM.out
                  have hM4 := HM4.out
                  go_wp2_with fail
                  exact bodyPost_ret (v := .tuple #[.int .u64 R1, .int .u64 M4]) (by simp [results, Tryz.results62, go_sem]) rfl ⟨rfl, Below.refl _ _⟩
                · have EQ : Hid (dvL u0 j p s = P1) := by rw [if_neg hs] at hE; exact hE
                  have g3 : decide (4294967296 ≤ (s : Int)) = false := by simp; omega
                  have hs2 : s < 4294967296 := by omega
                  clear hE hs
                  go_wp2_with fail
                  go_round
                  case rel => exact ⟨k + 1, p, s, rfl, rfl, hs2, hp2, HJ.out.2, by rw [← HJ.out.1]; exact EQ.out⟩
                  case measure => simp [intOf]; omega
            · have EQ : Hid (q = P1) := by have := hD.out.2; rw [dvL_stop hc] at this; exact this
              obtain ⟨hc1, hc2⟩ := not_or.1 hc
              have wb : IntKind.u64.wrap ((q : Int) * 2684354560) = (q : Int) * 2684354560 := IntWalk.u64_in _ (by omega)
              have g1 : decide (4294967296 ≤ (q : Int)) = false := by simp; omega
              have g2 : decide (4294967296 * (r : Int) + (u0 : Int) < (q : Int) * 2684354560) = false := by simp; omega
              clear hD hc hc1 hc2
              obtain rfl := EQ.out
              have hR1 := HR1.out
              have hM := HM.out
              have hM4 := HM4.out
              go_wp2_with fail
              exact bodyPost_ret (v := .tuple #[.int .u64 R1, .int .u64 M4]) (by simp [results, Tryz.results62, go_sem]) rfl ⟨rfl, Below.refl _ _⟩
        · have EQ : Hid (dvL u1 j p s = Q1) := by rw [if_neg hs] at hE; exact hE
          have g3 : decide (4294967296 ≤ (s : Int)) = false := by simp; omega
          have hs2 : s < 4294967296 := by omega
          clear hE hs
          go_wp2_with fail
          go_round
          case rel => exact ⟨k + 1, p, s, rfl, rfl, hs2, hp2, HJ.out.2, by rw [← HJ.out.1]; exact EQ.out⟩
          case measure => simp [intOf]; omega
    · have EQ : Hid (q = Q1) := by have := hD.out.2; rw [dvL_stop hc] at this; exact this
      obtain ⟨hc1, hc2⟩ := not_or.1 hc
      have wb : IntKind.u64.wrap ((q : Int) * 2684354560) = (q : Int) * 2684354560 := IntWalk.u64_in _ (by omega)
      have g1 : decide (4294967296 ≤ (q : Int)) = false := by simp; omega
      have g2 : decide (4294967296 * (r : Int) + (u1 : Int) < (q : Int) * 2684354560) = false := by simp; omega
      clear hD hc hc1 hc2
      obtain rfl := EQ.out
      have hN := HN.out
      have d2 := D2.out
      have v1 := V1.out
      have v2 := V2.out
      have v3 := V3.out
      go_wp2_with fail
      clear hN d2 v1 v2 v3
      go_loop [18, 16] (fun x y => ∃ (k q r : Nat), x = .int .u64 q ∧ y = .int .u64 r ∧ r < 4294967296 ∧ q < 8589934592 ∧ Hid (GeK k r ∧ dvL u0 (3 - k) q r = P1)) (fun _ y => 4294967296 - (intOf y).toNat)
      case atStart => exact ⟨0, p0, s0, rfl, rfl, bs0, bp0, GeK.zero _, HP1.out⟩
      case round =>
        obtain ⟨k, q, r, rfl, rfl, hr, hq, hD⟩ := hrel
        have w2 : IntKind.u64.wrap (4294967296 * (r : Int)) = 4294967296 * (r : Int) := IntWalk.u64_in _ (by omega)
        have w3 : IntKind.u64.wrap (4294967296 * (r : Int) + (u0 : Int)) = 4294967296 * (r : Int) + (u0 : Int) := IntWalk.u64_in _ (by omega)
        by_cases hc : 4294967296 ≤ q ∨ 4294967296 * r + u0 < q * 2684354560
        · have hk : k ≤ 1 := hD.out.1.le hr
          obtain ⟨j, hj⟩ : ∃ j, 3 - k = j + 1 := ⟨2 - k, by omega⟩
          obtain ⟨p, hp⟩ : ∃ p : Nat, p = q - 1 := ⟨_, rfl⟩
          obtain ⟨s, hs⟩ : ∃ s : Nat, s = r + 3814697265 := ⟨_, rfl⟩
          have wp : IntKind.u64.wrap ((q : Int) - 1) = (p : Int) := by rw [show (q : Int) - 1 = (p : Int) by omega]; exact IntWalk.u64_in _ (by omega)
          have ws : IntKind.u64.wrap ((r : Int) + 3814697265) = (s : Int) := by rw [show (r : Int) + 3814697265 = (s : Int) by omega]; exact IntWalk.u64_in _ (by omega)
          have hE : (if 4294967296 ≤ s then p else dvL u0 j p s) = P1 := by
            have := hD.out.2
            rw [hj, dvL, if_pos hc, ← hp, ← hs] at this
            exact this
          have hp2 : p < 8589934592 := by omega
          have hr0 : r < s := by omega
          have HJ : Hid (j = 3 - (k + 1) ∧ GeK (k + 1) s) := ⟨by omega, by rw [hs]; exact hD.out.1.step⟩
          clear hk hj hp hs hD
          have hc' : 4294967296 ≤ q ∨ (q < 4294967296 ∧ 4294967296 * r + u0 < q * 2684354560) := by omega
          clear hc
          rcases hc' with hc | ⟨hc, hc2⟩
          · have g1 : decide (4294967296 ≤ (q : Int)) = true := by simp; omega
            clear hc
            by_cases hs : 4294967296 ≤ s
            · have EQ : Hid (p = P1) := by rw [if_pos hs] at hE; exact hE
              have g3 : decide (4294967296 ≤ (s : Int)) = true := by simp; omega
              clear hE HJ hs
              obtain rfl := EQ.out
              have hR1 := HR1.out
              have hM := HM.out
              have hM4 := HM4.out
              go_wp2_with fail
              exact bodyPost_ret (v := .tuple #[.int .u64 R1, .int .u64 M4]) (by simp [results, Tryz.results62, go_sem]) rfl ⟨rfl, Below.refl _ _⟩
            · have EQ : Hid (dvL u0 j p s = P1) := by rw [if_neg hs] at hE; exact hE
              have g3 : decide (4294967296 ≤ (s : Int)) = false := by simp; omega
              have hs2 : s < 4294967296 := by omega
              clear hE hs
              go_wp2_with fail
              go_round
              case rel => exact ⟨k + 1, p, s, rfl, rfl, hs2, hp2, HJ.out.2, by rw [← HJ.out.1]; exact EQ.out⟩
              case measure => simp [intOf]; omega
          · have g1 : decide (4294967296 ≤ (q : Int)) = false := by simp; omega
            have g2 : decide (4294967296 * (r : Int) + (u0 : Int) < (q : Int) * 2684354560) = true := by simp; omega
            have wb : IntKind.u64.wrap ((q : Int) * 2684354560) = (q : Int) * 2684354560 := IntWalk.u64_in _ (by omega)
            clear hc hc2
            by_cases hs : 4294967296 ≤ s
            · have EQ : Hid (p = P1) := by rw [if_pos hs] at hE; exact hE
              have g3 : decide (4294967296 ≤ (s : Int)) = true := by simp; omega
              clear hE HJ hs
              obtain rfl := EQ.out
              have hR1 := HR1.out
              have hM := HM.out
              have hM4 := HM4.out
              go_wp2_with fail
              exact bodyPost_ret (v := .tuple #[.int .u64 R1, .int .u64 M4]) (by simp [results, Tryz.results62, go_sem]) rfl ⟨rfl, Below.refl _ _⟩
            · have EQ : Hid (dvL u0 j p s = P1) := by rw [if_neg hs] at hE; exact hE
              have g3 : decide (4294967296 ≤ (s : Int)) = false := by simp; omega
              have hs2 : s < 4294967296 := by omega
              clear hE hs
              go_wp2_with fail
              go_round
              case rel => exact ⟨k + 1, p, s, rfl, rfl, hs2, hp2, HJ.out.2, by rw [← HJ.out.1]; exact EQ.out⟩
              case measure => simp [intOf]; omega
        · have EQ : Hid (q = P1) := by have := hD.out.2; rw [dvL_stop hc] at this; exact this
          obtain ⟨hc1, hc2⟩ := not_or.1 hc
          have wb : IntKind.u64.wrap ((q : Int) * 2684354560) = (q : Int) * 2684354560 := IntWalk.u64_in _ (by omega)
          have g1 : decide (4294967296 ≤ (q : Int)) = false := by simp; omega
          have g2 : decide (4294967296 * (r : Int) + (u0 : Int) < (q : Int) * 2684354560) = false := by simp; omega
          clear hD hc hc1 hc2
          obtain rfl := EQ.out
          have hR1 := HR1.out
          have hM := HM.out
          have hM4 := HM4.out
          go_wp2_with fail
          exact bodyPost_ret (v := .tuple #[.int .u64 R1, .int .u64 M4]) (by simp [results, Tryz.results62, go_sem]) rfl ⟨rfl, Below.refl _ _⟩
/-- g tells what Div64 by ten to the power of 15 tells. -/
def DivOk (g : Nat → Nat → Nat × Nat) : Prop := ∀ hi lo : Nat, hi < 1000000000000000 → lo < 18446744073709551616 → (g hi lo).1 < 18446744073709551616 ∧ (g hi lo).2 < 1125899906842624 ∧ ∀ w : World, Calls Tryz.prog 62 #[.int .u64 hi, .int .u64 lo, .int .u64 1000000000000000] w (DvPost (g hi lo).1 (g hi lo).2 w)
theorem div_ok (HL : ∀ w, Calls Tryz.prog 101 #[.int .u64 1000000000000000] w fun e w' => e = .returned (.int .i64 14) ∧ w' = w) : ∃ g, DivOk g := by
  have h : ∀ hi lo : Nat, ∃ p : Nat × Nat, hi < 1000000000000000 → lo < 18446744073709551616 → p.1 < 18446744073709551616 ∧ p.2 < 1125899906842624 ∧ ∀ w : World, Calls Tryz.prog 62 #[.int .u64 hi, .int .u64 lo, .int .u64 1000000000000000] w (DvPost p.1 p.2 w) := by
    intro hi lo
    by_cases h0 : hi = 0
    · subst h0
      exact ⟨(lo / 1000000000000000, lo % 1000000000000000), fun _ hl => ⟨by simp only; omega, by simp only; omega, fun w => div_zero lo hl w⟩⟩
    · by_cases hh : hi < 1000000000000000
      · obtain ⟨q, t, h1, h2, h3⟩ := div_pos HL hi lo (by omega) hh
        exact ⟨(q, t), fun _ _ => ⟨h1, h2, h3⟩⟩
      · exact ⟨(0, 0), fun h => absurd h hh⟩
  exact ⟨fun hi lo => (h hi lo).choose, fun hi lo => (h hi lo).choose_spec⟩
end Go.Proofs.YtndhmahkglfopaaGreatDoor
/- append of a slice, of no element too, to a row of the call's own. -/
namespace Go.Proofs.YtndhmahkglfopaaGreatDoor
open Go.RowKit
section
variable {P : Program} {w : World} {o : Oper} {a : Act} {Q : Exit → Act → World → Prop}
theorem wp_append_src {K : Act → World → Prop} (s x : Operand) (t : TypeId)
    (ho : o.op = .call { callee := .builtin .append, args := #[s, x], argTypes := #[t, t] })
    (base : Nat) (e : TypeId) (i : TypeInfo) (z : Value) (size bytes : Nat) (ht : P.underlying t = some (.slice e)) (hi : P.info? e = some i) (hz : i.zero = some z)
    (hsize : i.size = size) (hby : i.bytes = bytes) (hzs : z.cells.size = size) (hsz : 0 < size)
    (v : Value) (n : Nat) (xs : List Value) (hs : a.eval s = v) (hown : w.ownsRow base e size v n xs)
    (sx : Option Addr) (m c : Nat) (news : List Value) (hx : a.eval x = .slice sx m c) (hl : news.length = m * size) (hsrc : 0 < m → ∃ ad, sx = some ad ∧ ∀ j u, news[j]? = some u → w.cell? (ad.add j) = some u) (h1 : ∀ u ∈ news, u.oneCell' = true)
    (h63 : n + m ≤ maxLen) (hbytes : (n + m) * bytes ≤ 140737488355328) (hbase : base ≤ w.heap.size)
    (h : ∀ v' w', w'.ownsRow base e size v' (n + m) (xs ++ news) → w.grownBy w' v.ownBlock → K (a.put o.dst v') w') : o.wp P a w K Q := by
  by_cases hm : 0 < m
  · obtain ⟨ad, rfl, hn⟩ := hsrc hm
    exact wp_append_at s x t ho base e i z size bytes ht hi hz hsize hby hzs hsz v n xs hs hown ad m c news hx hl hn h1 h63 hbytes hbase fun v' w' p1 p2 _ => h v' w' p1 p2
  · have hm0 : m = 0 := by omega
    subst hm0
    have hnil : news = [] := List.length_eq_zero_iff.1 (by rw [hl]; exact Nat.zero_mul _)
    subst hnil
    have hS : Src P i.size t (.slice sx 0 c) 0 [] w := by
      cases sx with
      | none => exact Src.ofNil w ht c
      | some ad => exact Src.ofSlice w ht ad 0 c [] (by simp) (by simp) (by simp)
    have hform : ∃ b cap, v = .slice b n cap ∧ n ≤ cap := by
      rcases hown.2 with ⟨h2, h3⟩ | ⟨g, cap, cur, h2, _, _, h3, _⟩
      · exact ⟨none, 0, by rw [h2, h3], by omega⟩
      · exact ⟨_, _, h2, h3⟩
    obtain ⟨b, cap, rfl, hle⟩ := hform
    have hr := run_append_nothing w t t o.type e i ht hi b n cap hle (.slice sx 0 c) hS
    unfold Oper.wp execOp
    simp only [ho, resolve, invoke, builtin, Sem.run_bind, Sem.run_pure, Result.andThen_ok, List.map_toArray, List.map_cons, List.map_nil, hs, hx, hr]
    exact h _ w (by simpa using hown) ⟨rfl, rfl, rfl, Nat.le_refl _, fun _ _ _ => rfl⟩
theorem wpList_append_src {ops : Array Oper} {rest : List Oper} (hw : Region.wanted o (yielded ops a.tmps) = true) (s x : Operand) (t : TypeId)
    (ho : o.op = .call { callee := .builtin .append, args := #[s, x], argTypes := #[t, t] })
    (base : Nat) (e : TypeId) (i : TypeInfo) (z : Value) (size bytes : Nat) (ht : P.underlying t = some (.slice e)) (hi : P.info? e = some i) (hz : i.zero = some z)
    (hsize : i.size = size) (hby : i.bytes = bytes) (hzs : z.cells.size = size) (hsz : 0 < size)
    (v : Value) (n : Nat) (xs : List Value) (hs : a.eval s = v) (hown : w.ownsRow base e size v n xs)
    (sx : Option Addr) (m c : Nat) (news : List Value) (hx : a.eval x = .slice sx m c) (hl : news.length = m * size) (hsrc : 0 < m → ∃ ad, sx = some ad ∧ ∀ j u, news[j]? = some u → w.cell? (ad.add j) = some u) (h1 : ∀ u ∈ news, u.oneCell' = true)
    (h63 : n + m ≤ maxLen) (hbytes : (n + m) * bytes ≤ 140737488355328) (hbase : base ≤ w.heap.size)
    (h : ∀ v' w', w'.ownsRow base e size v' (n + m) (xs ++ news) → w.grownBy w' v.ownBlock → wpList P ops Q rest (a.put o.dst v') w') : wpList P ops Q (o :: rest) a w :=
  wpList_step fun K hK => by
    rw [if_pos hw]
    exact wp_append_src s x t ho base e i z size bytes ht hi hz hsize hby hzs hsz v n xs hs hown sx m c news hx hl hsrc h1 h63 hbytes hbase fun v' w' p1 p2 => hK _ _ (h v' w' p1 p2)
end
end Go.Proofs.YtndhmahkglfopaaGreatDoor
