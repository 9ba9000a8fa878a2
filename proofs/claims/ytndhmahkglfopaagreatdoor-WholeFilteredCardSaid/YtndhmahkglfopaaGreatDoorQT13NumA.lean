/- num.Right of any number, value.Right of any value. -/
import Derived.ArgAppend
import Derived.Test.YtndhmahkglfopaaGreatDoorQBase
import Derived.Test.YtndhmahkglfopaaGreatDoorQT13Ref
namespace Go.Proofs.YtndhmahkglfopaaGreatDoor
open Go.RowKit
def I64 (n : Int) : Prop := -9223372036854775808 ≤ n ∧ n ≤ 9223372036854775807
set_option maxHeartbeats 400000 in
theorem size_all (m : Int) (h : I64 m) (w : World) : Calls Tryz.prog 61 #[.int .i64 m] w fun e w' => e = .returned (.int .u64 (m.natAbs : Nat)) ∧ w = w' := by
  unfold I64 at h
  by_cases h0 : m < 0
  · go_enter Tryz.func61, Tryz.ntmps61
    go_wp2_with fail
    go_ret
    refine ⟨ret_int ?_, rfl⟩
    simp only [IntKind.wrap, IntKind.signed, IntKind.bits]
    simp
    omega
  · go_enter Tryz.func61, Tryz.ntmps61
    go_wp2_with fail
    go_ret
    exact ⟨ret_int (by omega), rfl⟩
section
variable (m e : Int) (M : Nat) (w : World)
set_option maxHeartbeats 1000000
set_option maxRecDepth 100000
theorem numN_1 (n0 : (m == 0) = false) (hbig : decide ((1000000000000000 : Int) ≤ (M : Int)) = true) (HS : ∀ w : World, Calls Tryz.prog 61 #[.int .i64 m] w fun e w' => e = .returned (.int .u64 (M : Nat)) ∧ w = w') : Calls Tryz.prog 54 #[.agg #[.int .i64 m, .int .i64 e]] w fun r w' => r = .returned (.bool false) ∧ Below w.heap.size w w' := by
  have HS := Lib.hid HS
  go_enter Tryz.func54, Tryz.ntmps54
  go_wp2_with fail
  refine (HS.out _).mono ?_
  rintro r w1 ⟨rfl, rfl⟩
  go_wp2_with fail
  go_ret
  refine ⟨rfl, ?_⟩
  (repeat with_reducible (first | exact bw0 _ _ | exact hBW | refine bw1 ?_ ?_ _ | refine bw2 ?_ ?_ _ | refine bw3 ?_ _ | refine bw4 ?_)); all_goals (first | omega | (dsimp only; omega) | ((repeat with_reducible (first | refine lz1 ?_ | refine lz2 ?_ | refine lz3 ?_ | refine lz4 ?_)); omega))
theorem numN_2 (n0 : (m == 0) = false) (hbig : decide ((1000000000000000 : Int) ≤ (M : Int)) = false) (n1 : ((M : Int) % 10 == 0) = true) (HS : ∀ w : World, Calls Tryz.prog 61 #[.int .i64 m] w fun e w' => e = .returned (.int .u64 (M : Nat)) ∧ w = w') : Calls Tryz.prog 54 #[.agg #[.int .i64 m, .int .i64 e]] w fun r w' => r = .returned (.bool false) ∧ Below w.heap.size w w' := by
  have HS := Lib.hid HS
  go_enter Tryz.func54, Tryz.ntmps54
  go_wp2_with fail
  refine (HS.out _).mono ?_
  rintro r w1 ⟨rfl, rfl⟩
  go_wp2_with fail
  go_ret
  refine ⟨rfl, ?_⟩
  (repeat with_reducible (first | exact bw0 _ _ | exact hBW | refine bw1 ?_ ?_ _ | refine bw2 ?_ ?_ _ | refine bw3 ?_ _ | refine bw4 ?_)); all_goals (first | omega | (dsimp only; omega) | ((repeat with_reducible (first | refine lz1 ?_ | refine lz2 ?_ | refine lz3 ?_ | refine lz4 ?_)); omega))
theorem numN_3 (n0 : (m == 0) = false) (hbig : decide ((1000000000000000 : Int) ≤ (M : Int)) = false) (n1 : ((M : Int) % 10 == 0) = false) (he : decide (e < -40) = true) (HS : ∀ w : World, Calls Tryz.prog 61 #[.int .i64 m] w fun e w' => e = .returned (.int .u64 (M : Nat)) ∧ w = w') : Calls Tryz.prog 54 #[.agg #[.int .i64 m, .int .i64 e]] w fun r w' => r = .returned (.bool false) ∧ Below w.heap.size w w' := by
  have HS := Lib.hid HS
  go_enter Tryz.func54, Tryz.ntmps54
  go_wp2_with fail
  refine (HS.out _).mono ?_
  rintro r w1 ⟨rfl, rfl⟩
  go_wp2_with fail
  go_ret
  refine ⟨rfl, ?_⟩
  (repeat with_reducible (first | exact bw0 _ _ | exact hBW | refine bw1 ?_ ?_ _ | refine bw2 ?_ ?_ _ | refine bw3 ?_ _ | refine bw4 ?_)); all_goals (first | omega | (dsimp only; omega) | ((repeat with_reducible (first | refine lz1 ?_ | refine lz2 ?_ | refine lz3 ?_ | refine lz4 ?_)); omega))
theorem numN_4 (n0 : (m == 0) = false) (hbig : decide ((1000000000000000 : Int) ≤ (M : Int)) = false) (n1 : ((M : Int) % 10 == 0) = false) (he : decide (e < -40) = false) (he2 : decide (40 ≤ e) = true) (HS : ∀ w : World, Calls Tryz.prog 61 #[.int .i64 m] w fun e w' => e = .returned (.int .u64 (M : Nat)) ∧ w = w') : Calls Tryz.prog 54 #[.agg #[.int .i64 m, .int .i64 e]] w fun r w' => r = .returned (.bool false) ∧ Below w.heap.size w w' := by
  have HS := Lib.hid HS
  go_enter Tryz.func54, Tryz.ntmps54
  go_wp2_with fail
  refine (HS.out _).mono ?_
  rintro r w1 ⟨rfl, rfl⟩
  go_wp2_with fail
  go_ret
  refine ⟨rfl, ?_⟩
  (repeat with_reducible (first | exact bw0 _ _ | exact hBW | refine bw1 ?_ ?_ _ | refine bw2 ?_ ?_ _ | refine bw3 ?_ _ | refine bw4 ?_)); all_goals (first | omega | (dsimp only; omega) | ((repeat with_reducible (first | refine lz1 ?_ | refine lz2 ?_ | refine lz3 ?_ | refine lz4 ?_)); omega))
theorem numN_5 (D : Nat) (n0 : (m == 0) = false) (hbig : decide ((1000000000000000 : Int) ≤ (M : Int)) = false) (n1 : ((M : Int) % 10 == 0) = false) (he : decide (e < -40) = false) (he2 : decide (40 ≤ e) = false) (hD : D ≤ 15) (wl : decide ((D : Int) + e ≤ 40) = false) (HS : ∀ w : World, Calls Tryz.prog 61 #[.int .i64 m] w fun e w' => e = .returned (.int .u64 (M : Nat)) ∧ w = w') (HC : ∀ w : World, Calls Tryz.prog 97 #[.int .u64 M] w fun e w' => e = .returned (.int .i64 D) ∧ w = w') : Calls Tryz.prog 54 #[.agg #[.int .i64 m, .int .i64 e]] w fun r w' => r = .returned (.bool false) ∧ Below w.heap.size w w' := by
  have HS := Lib.hid HS
  have HC := Lib.hid HC
  go_enter Tryz.func54, Tryz.ntmps54
  go_wp2_with fail
  refine (HS.out _).mono ?_
  rintro r w1 ⟨rfl, rfl⟩
  go_wp2_with fail
  refine abs_world ?_
  intro W1 hW1
  have hB1 : Hid (Below w.heap.size w W1) := by rw [hW1]; unfold Hid; (repeat with_reducible (first | exact bw0 _ _ | exact hBW | refine bw1 ?_ ?_ _ | refine bw2 ?_ ?_ _ | refine bw3 ?_ _ | refine bw4 ?_)); all_goals (first | omega | (dsimp only; omega) | ((repeat with_reducible (first | refine lz1 ?_ | refine lz2 ?_ | refine lz3 ?_ | refine lz4 ?_)); omega))
  have ev : W1.heap[w.heap.size]? = some (.cells #[.int .i64 m, .int .i64 e] 32) := by rw [hW1]; (repeat (first | (with_reducible refine bw5 ?_ _; (first | rfl | (simp; done) | omega | (simp; omega)); done) | with_reducible refine bw6 ?_ _ | with_reducible refine bw7 ?_ | with_reducible refine bw8 ?_))
  have k1 := cell_of_heap ev 1
  have z1 := lt_of_heap ev
  have wd : IntKind.i64.wrap ((D : Int) + e) = (D : Int) + e := IntWalk.i64_in _ (by simp at he he2; omega)
  clear hW1 ev n0 n1 hbig
  refine wp_region_mix [0, 2, 3] [1, 4, 5, 6] [4, 5, 6] (Below W1.heap.size W1) (by kernel_rfl) (by kernel_rfl) (Below.refl _ _).drew ?_
  iterate 3 (first | (apply first_step; (rw [List.getElem?_toArray]; (repeat rw [List.getElem?_cons_succ]); rw [List.getElem?_cons_zero]); rfl; (intro W hB; have hc := bcellB hB; go_simp; (first | done | rfl)); go_frame) | (apply first_skip; (rw [List.getElem?_toArray]; (repeat rw [List.getElem?_cons_succ]); rw [List.getElem?_cons_zero]); rfl; go_frame))
  refine first_done ?_
  apply tail_step; (rw [List.getElem?_toArray]; (repeat rw [List.getElem?_cons_succ]); rw [List.getElem?_cons_zero]); rfl; rfl; intro K hK; go_simp
  refine (HC.out _).mono ?_
  rintro r w2 ⟨rfl, rfl⟩
  refine hK _ _ (fun _ => (Below.refl _ W1).drew) ?_
  clear hK K
  (apply tail_step; (rw [List.getElem?_toArray]; (repeat rw [List.getElem?_cons_succ]); rw [List.getElem?_cons_zero]); rfl; rfl; intro K hK; go_simp; refine hK _ _ (fun h => absurd (by decide) h) ?_; clear hK K)
  (apply tail_step; (rw [List.getElem?_toArray]; (repeat rw [List.getElem?_cons_succ]); rw [List.getElem?_cons_zero]); rfl; rfl; intro K hK; go_simp; refine hK _ _ (fun h => absurd (by decide) h) ?_; clear hK K)
  (apply tail_step; (rw [List.getElem?_toArray]; (repeat rw [List.getElem?_cons_succ]); rw [List.getElem?_cons_zero]); rfl; rfl; intro K hK; go_simp; refine hK _ _ (fun h => absurd (by decide) h) ?_; clear hK K)
  refine tail_done ?_
  go_wp2_with fail
  go_ret
  exact ⟨rfl, hB1.out.drew⟩
theorem numN_0 (he : (e == 0) = false) : Calls Tryz.prog 54 #[.agg #[.int .i64 0, .int .i64 e]] w fun r w' => r = .returned (.bool false) ∧ Below w.heap.size w w' := by
  go_enter Tryz.func54, Tryz.ntmps54
  go_wp2_with fail
  go_ret
  refine ⟨rfl, ?_⟩
  (repeat with_reducible (first | exact bw0 _ _ | exact hBW | refine bw1 ?_ ?_ _ | refine bw2 ?_ ?_ _ | refine bw3 ?_ _ | refine bw4 ?_)); all_goals (first | omega | (dsimp only; omega) | ((repeat with_reducible (first | refine lz1 ?_ | refine lz2 ?_ | refine lz3 ?_ | refine lz4 ?_)); omega))
end
theorem num_all (m e : Int) (h : I64 m) (w : World) : Calls Tryz.prog 54 #[.agg #[.int .i64 m, .int .i64 e]] w fun r w' => r = .returned (.bool (numR m e)) ∧ Below w.heap.size w w' := by
  by_cases hT : numR m e = true
  · rw [hT]; exact numRight_yes m e hT w
  · have hF : numR m e = false := by simpa using hT
    rw [hF]
    by_cases h0 : m = 0
    · subst h0
      refine numN_0 e w ?_
      unfold numR at hF
      simpa using hF
    · have n0 : (m == 0) = false := by simpa using h0
      unfold numR at hF
      rw [if_neg h0] at hF
      have hF' := of_decide_eq_false hF
      have HS := size_all m h
      by_cases c1 : (1000000000000000 : Int) ≤ (m.natAbs : Int)
      · exact numN_1 m e m.natAbs w n0 (by simpa using c1) HS
      by_cases c2 : m.natAbs % 10 = 0
      · exact numN_2 m e m.natAbs w n0 (by simpa using c1) (by simp; omega) HS
      by_cases c3 : e < -40
      · exact numN_3 m e m.natAbs w n0 (by simpa using c1) (by simp; omega) (by simpa using c3) HS
      by_cases c4 : 40 ≤ e
      · exact numN_4 m e m.natAbs w n0 (by simpa using c1) (by simp; omega) (by simpa using c3) (by simpa using c4) HS
      · have hd15 := nd_le 15 m.natAbs (by omega)
        refine numN_5 m e m.natAbs w (nd m.natAbs) n0 (by simpa using c1) (by simp; omega) (by simpa using c3) (by simpa using c4) hd15 ?_ HS (count_any m.natAbs (by omega) (by omega))
        simp only [decide_eq_false_iff_not]
        intro h5
        exact hF' ⟨by omega, c2, by omega, by omega, h5⟩
end Go.Proofs.YtndhmahkglfopaaGreatDoor
/- num: power, sign, Neg, trimmed. -/
namespace Go.Proofs.YtndhmahkglfopaaGreatDoor
open Go.RowKit
theorem lt_pow_nd : ∀ (k n : Nat), n ≤ k → n < 10 ^ nd n
  | 0, n, h => by
    have : n = 0 := by omega
    rw [this, nd_zero]
    exact Nat.one_pos
  | k + 1, n, h => by
    by_cases h0 : n = 0
    · rw [h0, nd_zero]; exact Nat.one_pos
    · rw [nd_pos h0, Nat.pow_succ]
      have := lt_pow_nd k (n / 10) (by omega)
      omega
set_option maxHeartbeats 400000 in
theorem power_any (n : Nat) (h : n ≤ 15) (w : World) : Calls Tryz.prog 105 #[.int .i64 n] w fun e w' => e = .returned (.int .u64 (10 ^ n : Nat)) ∧ w = w' := by
  go_enter Tryz.func105, Tryz.ntmps105
  go_wp2_with fail
  go_loop [3, 5] (fun p i => ∃ k q : Nat, p = .int .u64 q ∧ i = .int .i64 k ∧ k ≤ n ∧ q ≤ 1000000000000000 ∧ Hid (q = 10 ^ k)) (fun _ i => n - (intOf i).toNat)
  case atStart => exact ⟨0, 1, rfl, rfl, Nat.zero_le _, by omega, rfl⟩
  case round =>
    obtain ⟨k, q, rfl, rfl, hk, hq, hS⟩ := hrel
    by_cases hlt : k < n
    · have HS : Hid (q * 10 = 10 ^ (k + 1)) := by unfold Hid; rw [Nat.pow_succ, ← hS.out]
      have hb : q * 10 ≤ 1000000000000000 := by
        rw [HS.out]
        exact Nat.le_trans (Nat.pow_le_pow_right (by omega) (show k + 1 ≤ 15 by omega)) (by decide)
      clear hS
      go_wp2_with fail
      go_round
      case rel => exact ⟨k + 1, q * 10, by go_num, by go_num, by omega, by omega, HS⟩
      case measure => simp [intOf]; omega
    · have EQ : Hid (q = 10 ^ n) := by have := hS.out; rw [show k = n by omega] at this; exact this
      clear hS
      go_wp2_with fail
      go_ret
      exact ⟨ret_int (by rw [EQ.out]; simp), rfl⟩
def sgn (m : Int) : Int := if m < 0 then -1 else if 0 < m then 1 else 0
set_option maxHeartbeats 400000 in
theorem sign_any (m e : Int) (w : World) : Calls Tryz.prog 132 #[.agg #[.int .i64 m, .int .i64 e]] w fun r w' => r = .returned (.int .i64 (sgn m)) ∧ Below w.heap.size w w' := by
  by_cases h1 : m < 0
  · have hs : sgn m = -1 := by unfold sgn; rw [if_pos h1]
    rw [hs]
    clear hs
    go_enter Tryz.func132, Tryz.ntmps132
    go_wp2_with fail
    go_ret
    refine ⟨rfl, ?_⟩
    (repeat with_reducible (first | exact bw0 _ _ | exact hBW | refine bw1 ?_ ?_ _ | refine bw2 ?_ ?_ _ | refine bw3 ?_ _ | refine bw4 ?_)); all_goals (first | omega | (dsimp only; omega) | ((repeat with_reducible (first | refine lz1 ?_ | refine lz2 ?_ | refine lz3 ?_ | refine lz4 ?_)); omega))
  · by_cases h2 : 0 < m
    · have hs : sgn m = 1 := by unfold sgn; rw [if_neg h1, if_pos h2]
      rw [hs]
      clear hs
      go_enter Tryz.func132, Tryz.ntmps132
      go_wp2_with fail
      go_ret
      refine ⟨rfl, ?_⟩
      (repeat with_reducible (first | exact bw0 _ _ | exact hBW | refine bw1 ?_ ?_ _ | refine bw2 ?_ ?_ _ | refine bw3 ?_ _ | refine bw4 ?_)); all_goals (first | omega | (dsimp only; omega) | ((repeat with_reducible (first | refine lz1 ?_ | refine lz2 ?_ | refine lz3 ?_ | refine lz4 ?_)); omega))
    · have hs : sgn m = 0 := by unfold sgn; rw [if_neg h1, if_neg h2]
      rw [hs]
      clear hs
      go_enter Tryz.func132, Tryz.ntmps132
      go_wp2_with fail
      go_ret
      refine ⟨rfl, ?_⟩
      (repeat with_reducible (first | exact bw0 _ _ | exact hBW | refine bw1 ?_ ?_ _ | refine bw2 ?_ ?_ _ | refine bw3 ?_ _ | refine bw4 ?_)); all_goals (first | omega | (dsimp only; omega) | ((repeat with_reducible (first | refine lz1 ?_ | refine lz2 ?_ | refine lz3 ?_ | refine lz4 ?_)); omega))
theorem numR_small {m e : Int} (h : numR m e = true) : m.natAbs < 1000000000000000 ∧ -40 ≤ e ∧ e ≤ 40 := by
  unfold numR at h
  by_cases h0 : m = 0
  · rw [if_pos h0] at h
    have : e = 0 := by simpa using h
    omega
  · rw [if_neg h0] at h
    have := of_decide_eq_true h
    omega
theorem numR_i64 {m e : Int} (h : numR m e = true) : I64 m := by
  have := numR_small h
  unfold I64
  omega
theorem ret_num {a b c d : Int} (h : a = c) (h' : b = d) : Ending.returned (.agg #[.int .i64 a, .int .i64 b]) = .returned (.agg #[.int .i64 c, .int .i64 d]) := by rw [h, h']
/-- Without noughts at its end; how many there were. -/
def trimW (n : Nat) : Nat := if h : n ≠ 0 ∧ n % 10 = 0 then trimW (n / 10) else n
def trimE (n : Nat) : Nat := if h : n ≠ 0 ∧ n % 10 = 0 then trimE (n / 10) + 1 else 0
theorem trimW_go {n : Nat} (h : n ≠ 0) (h2 : n % 10 = 0) : trimW n = trimW (n / 10) := by rw [trimW]; simp [h, h2]
theorem trimE_go {n : Nat} (h : n ≠ 0) (h2 : n % 10 = 0) : trimE n = trimE (n / 10) + 1 := by rw [trimE]; simp [h, h2]
theorem trimW_at {n : Nat} (h2 : n % 10 ≠ 0) : trimW n = n := by rw [trimW]; simp [h2]
theorem trimE_at {n : Nat} (h2 : n % 10 ≠ 0) : trimE n = 0 := by rw [trimE]; simp [h2]
theorem trimW_le : ∀ (k n : Nat), n ≤ k → trimW n ≤ n
  | 0, n, h => by
    have : n = 0 := by omega
    rw [this, trimW]; simp
  | k + 1, n, h => by
    by_cases h0 : n ≠ 0 ∧ n % 10 = 0
    · rw [trimW_go h0.1 h0.2]
      have := trimW_le k (n / 10) (by omega)
      omega
    · rw [trimW]; simp [h0]
def trimM (neg : Bool) (n : Nat) : Int := if neg then -(trimW n : Int) else trimW n
def trimX (n : Nat) (e : Int) : Int := if n = 0 then 0 else e + trimE n
set_option maxHeartbeats 1000000 in
theorem trimmed_any (neg : Bool) (n : Nat) (hn : n < 1000000000000000000) (e : Int) (he : -1000000 ≤ e) (he2 : e ≤ 1000000) (w : World) :
    Calls Tryz.prog 100 #[.bool neg, .int .u64 n, .int .i64 e] w fun r w' => r = .returned (.agg #[.int .i64 (trimM neg n), .int .i64 (trimX n e)]) ∧ Below w.heap.size w w' := by
  by_cases h0 : n = 0
  · subst h0
    have hm : trimM neg 0 = 0 := by unfold trimM; rw [trimW]; simp
    have hx : trimX 0 e = 0 := by unfold trimX; simp
    rw [hm, hx]
    clear hm hx
    go_enter Tryz.func100, Tryz.ntmps100
    go_wp2_with fail
    refine bodyPost_ret (v := .agg #[.int .i64 0, .int .i64 0]) (by simp [results, Tryz.results100, go_sem]) rfl ⟨rfl, ?_⟩
    (repeat with_reducible (first | exact bw0 _ _ | exact hBW | refine bw1 ?_ ?_ _ | refine bw2 ?_ ?_ _ | refine bw3 ?_ _ | refine bw4 ?_)); all_goals (first | omega | (dsimp only; omega) | ((repeat with_reducible (first | refine lz1 ?_ | refine lz2 ?_ | refine lz3 ?_ | refine lz4 ?_)); omega))
  · have n0 : ((n : Int) == 0) = false := by simp; omega
    have EX : Hid (trimX n e = e + trimE n) := by unfold trimX Hid; rw [if_neg h0]
    go_enter Tryz.func100, Tryz.ntmps100
    go_wp2_with fail
    clear n0
    go_loop [1, 2] (fun x y => ∃ (m : Nat) (f : Int), x = .int .u64 m ∧ y = .int .i64 f ∧ 1 ≤ m ∧ m ≤ n ∧ Hid (trimW m = trimW n) ∧ Hid (f + trimE m = e + trimE n ∧ e ≤ f ∧ (f - e) + m ≤ n)) (fun x _ => (intOf x).toNat)
    case atStart => exact ⟨n, e, rfl, rfl, by omega, Nat.le_refl _, rfl, ⟨rfl, by omega, by omega⟩⟩
    case round =>
      obtain ⟨m, f, rfl, rfl, hm, hmn, hW, hE⟩ := hrel
      obtain ⟨q1, q2, q3⟩ := hE.out
      by_cases h10 : m % 10 = 0
      · have n1 : ((m : Int) % 10 == 0) = true := by simp; omega
        have HW : Hid (trimW (m / 10) = trimW n) := by unfold Hid; rw [← trimW_go (by omega) h10]; exact hW.out
        have HE : Hid (f + 1 + trimE (m / 10) = e + trimE n ∧ e ≤ f + 1 ∧ (f + 1 - e) + (m / 10 : Nat) ≤ n) := by
          rw [trimE_go (by omega) h10] at q1
          exact ⟨by omega, by omega, by omega⟩
        have hf : f ≤ 2000000000000000000 := by omega
        have hf2 : -1000000 ≤ f := by omega
        have QL : Hid (m / 10 < m ∧ 1 ≤ m / 10) := by unfold Hid; omega
        clear q1 q2 q3 hW hE h10
        go_wp2_with fail
        go_round
        case rel => exact ⟨m / 10, f + 1, by go_num, by go_num, QL.out.2, by have := QL.out.1; omega, HW, HE⟩
        case measure => have := QL.out.1; simp [intOf]; omega
      · have n1 : ((m : Int) % 10 == 0) = false := by simp; omega
        have EW : Hid ((trimW n : Int) = m) := by unfold Hid; rw [← hW.out, trimW_at h10]
        have EF : Hid (f = e + trimE n) := by rw [trimE_at h10] at q1; unfold Hid; omega
        have hf : f ≤ 2000000000000000000 := by omega
        have wm1 : IntKind.i64.wrap (m : Int) = m := IntWalk.i64_in _ (by omega)
        have wm2 : IntKind.i64.wrap (-(m : Int)) = -(m : Int) := IntWalk.i64_in _ (by omega)
        have wm3 : wrap64 (m : Int) = m := IntWalk.wrap64_in _ (by omega)
        have wm4 : wrap64 (-(m : Int)) = -(m : Int) := IntWalk.wrap64_in _ (by omega)
        clear q1 q2 q3 hW hE h10
        cases neg with
        | true =>
          have hm' : Hid (trimM true n = -(m : Int)) := by unfold trimM Hid; rw [if_pos rfl, EW.out]
          go_wp2_with fail
          refine bodyPost_ret (v := .agg #[.int .i64 (-(m : Int)), .int .i64 f]) (by simp [results, Tryz.results100, go_sem]) rfl ⟨ret_num hm'.out.symm (by rw [EX.out, ← EF.out]), ?_⟩
          (repeat with_reducible (first | exact bw0 _ _ | exact hBW | refine bw1 ?_ ?_ _ | refine bw2 ?_ ?_ _ | refine bw3 ?_ _ | refine bw4 ?_)); all_goals (first | omega | (dsimp only; omega) | ((repeat with_reducible (first | refine lz1 ?_ | refine lz2 ?_ | refine lz3 ?_ | refine lz4 ?_)); omega))
        | false =>
          have hm' : Hid (trimM false n = (m : Int)) := by unfold trimM Hid; rw [if_neg (by simp), EW.out]
          go_wp2_with fail
          refine bodyPost_ret (v := .agg #[.int .i64 (m : Int), .int .i64 f]) (by simp [results, Tryz.results100, go_sem]) rfl ⟨ret_num hm'.out.symm (by rw [EX.out, ← EF.out]), ?_⟩
          (repeat with_reducible (first | exact bw0 _ _ | exact hBW | refine bw1 ?_ ?_ _ | refine bw2 ?_ ?_ _ | refine bw3 ?_ _ | refine bw4 ?_)); all_goals (first | omega | (dsimp only; omega) | ((repeat with_reducible (first | refine lz1 ?_ | refine lz2 ?_ | refine lz3 ?_ | refine lz4 ?_)); omega))
end Go.Proofs.YtndhmahkglfopaaGreatDoor
/- num: digits in memory; bare. -/
namespace Go.Proofs.YtndhmahkglfopaaGreatDoor
open Go.RowKit
/-- Without noughts ahead. -/
def bareP : List Nat → List Nat
  | [] => []
  | d :: r => if d = 0 then bareP r else d :: r
/-- Digits, each a byte, in block b from off on, in a slice of capacity cap that may be written. -/
structure DgS (B : Nat) (w : World) (b off cap : Nat) (D : List Nat) : Prop where
  le : B ≤ b
  len : D.length ≤ cap
  small : ∀ d ∈ D, d < 256
  ex : ∃ arr : Array Value, w.heap[b]? = some (.cells arr 5 (0, 0)) ∧ off + cap ≤ arr.size ∧ ∀ (i d : Nat), D[i]? = some d → arr[off + i]? = some (.int .u8 (d : Int))
section
variable {B : Nat} {w w' : World} {b off cap : Nat} {D : List Nat}
theorem DgS.cell (h : DgS B w b off cap D) {i d : Nat} (hd : D[i]? = some d) : w.cell? ⟨b, off + i, none⟩ = some (.int .u8 (d : Int)) := by
  obtain ⟨arr, h1, _, h2⟩ := h.ex
  rw [cell_of_heap h1]
  exact h2 i d hd
theorem DgS.frozen (h : DgS B w b off cap D) (i : Nat) : w.frozen? ⟨b, i, none⟩ = false := by
  obtain ⟨arr, h1, _⟩ := h.ex
  exact frozen_of_heap h1 i
theorem DgS.lt (h : DgS B w b off cap D) : b < w.heap.size := by
  obtain ⟨arr, h1, _⟩ := h.ex
  exact lt_of_heap h1
theorem DgS.of_block (h : DgS B w b off cap D) (hb : w'.heap[b]? = w.heap[b]?) : DgS B w' b off cap D := by
  obtain ⟨arr, h1, h2⟩ := h.ex
  exact ⟨h.le, h.len, h.small, arr, hb.trans h1, h2⟩
theorem DgS.below (h : DgS B w b off cap D) (hb : Below w.heap.size w w') : DgS B w' b off cap D := h.of_block (hb.block b h.lt)
theorem DgS.mono {B' : Nat} (h : DgS B w b off cap D) (hB : B' ≤ B) : DgS B' w b off cap D := ⟨Nat.le_trans hB h.le, h.len, h.small, h.ex⟩
theorem DgS.drop (h : DgS B w b off cap D) (k : Nat) (hk : k ≤ D.length) : DgS B w b (off + k) (cap - k) (D.drop k) := by
  obtain ⟨arr, h1, h2, h3⟩ := h.ex
  have := h.len
  refine ⟨h.le, by simp; omega, fun d hd => h.small d (List.mem_of_mem_drop hd), arr, h1, by omega, fun i d hd => ?_⟩
  rw [List.getElem?_drop] at hd
  rw [Nat.add_assoc]
  exact h3 _ _ hd
theorem DgS.take (h : DgS B w b off cap D) (n : Nat) (hn : n ≤ D.length) : DgS B w b off n (D.take n) := by
  obtain ⟨arr, h1, h2, h3⟩ := h.ex
  have := h.len
  refine ⟨h.le, by simp; omega, fun d hd => h.small d (List.mem_of_mem_take hd), arr, h1, by omega, fun i d hd => ?_⟩
  by_cases hi : i < n
  · rw [List.getElem?_take_of_lt hi] at hd
    exact h3 _ _ hd
  · rw [List.getElem?_take, if_neg hi] at hd
    cases hd
theorem DgS.set (h : DgS B w b off cap D) {i x : Nat} (hi : i < D.length) (hx : x < 256) : DgS B (w.setCell ⟨b, off + i, none⟩ (.int .u8 (x : Int))) b off cap (D.set i x) := by
  obtain ⟨arr, h1, h2, h3⟩ := h.ex
  have := h.len
  refine ⟨h.le, by simpa using h.len, fun d hd => ?_, arr.setIfInBounds (off + i) (.int .u8 (x : Int)), heap_setCell_at h1 _ _, by simpa using h2, fun j d hd => ?_⟩
  · rcases List.mem_or_eq_of_mem_set hd with hd | hd
    · exact h.small d hd
    · rw [hd]; exact hx
  · rw [List.getElem?_set] at hd
    rw [Array.getElem?_setIfInBounds]
    by_cases hij : i = j
    · subst hij
      simp [hi] at hd
      rw [if_pos rfl, if_pos (by omega), hd]
    · rw [if_neg hij] at hd
      rw [if_neg (by omega)]
      exact h3 j d hd
end
def slLen : Value → Nat
  | .slice _ n _ => n
  | _ => 0
section
variable {B : Nat} {b off cap : Nat} {D : List Nat} (w : World)
set_option maxHeartbeats 1000000
set_option maxRecDepth 100000
theorem bare_any (hD : DgS B w b off cap D) : Calls Tryz.prog 98 #[.slice (some ⟨b, off, none⟩) D.length cap] w fun e w' =>
    (∃ off' cap', e = .returned (.slice (some ⟨b, off', none⟩) (bareP D).length cap') ∧ DgS B w b off' cap' (bareP D)) ∧ w = w' := by
  have HD := Lib.hid hD
  clear hD
  go_enter Tryz.func98, Tryz.ntmps98
  go_wp2_with fail
  go_loop [0] (fun x => ∃ (L : List Nat) (off' cap' : Nat), x = .slice (some ⟨b, off', none⟩) L.length cap' ∧ Hid (DgS B w b off' cap' L) ∧ Hid (bareP L = bareP D)) (fun x => slLen x)
  case atStart => exact ⟨D, off, cap, rfl, HD, rfl⟩
  case round =>
    obtain ⟨L, off', cap', rfl, hL, hS⟩ := hrel
    cases L with
    | cons d r =>
      have hc := hL.out.cell (i := 0) (d := d) rfl
      have hlen := hL.out.len
      rw [Nat.add_zero] at hc
      rw [List.length_cons] at hlen ⊢
      by_cases h0 : d = 0
      · subst h0
        have HS : Hid (bareP r = bareP D) := hS.out
        have HL : Hid (DgS B w b (off' + 1) (cap' - 1) r) := hL.out.drop 1 (by simp)
        clear hS
        go_wp2_with fail
        by_cases hc1 : cap' = 1
        · have e1 : (if cap' = 1 then (some ⟨b, off', none⟩ : Option Addr) else some ⟨b, off' + 1, none⟩) = some ⟨b, off', none⟩ := if_pos hc1
          have HL' : Hid (DgS B w b off' (cap' - 1) r) := by
            obtain ⟨arr, a1, a2, a3⟩ := HL.out.ex
            have hr : r = [] := by
              have := HL.out.len
              rw [hc1] at this
              exact List.eq_nil_of_length_eq_zero (by omega)
            subst hr
            exact ⟨HL.out.le, by simp, HL.out.small, arr, a1, by omega, fun i d hd => by simp at hd⟩
          go_round
          case rel => exact ⟨r, off', cap' - 1, by rw [e1], HL', HS⟩
          case measure => simp [slLen]
        · have e1 : (if cap' = 1 then (some ⟨b, off', none⟩ : Option Addr) else some ⟨b, off' + 1, none⟩) = some ⟨b, off' + 1, none⟩ := if_neg hc1
          go_round
          case rel => exact ⟨r, off' + 1, cap' - 1, by rw [e1], HL, HS⟩
          case measure => simp [slLen]
      · have n0 : ((d : Int) == 0) = false := by simp; omega
        have ED : Hid (bareP D = d :: r) := by have := hS.out; unfold Hid; rw [← this]; unfold bareP; rw [if_neg h0]
        clear hS h0
        go_wp2_with fail
        go_ret
        exact ⟨⟨off', cap', by rw [ED.out]; rfl, by rw [ED.out]; exact hL.out⟩, rfl⟩
    | nil =>
      have ED : Hid (bareP D = []) := hS.out.symm
      clear hS
      go_wp2_with fail
      go_ret
      exact ⟨⟨off', cap', by rw [ED.out]; rfl, by rw [ED.out]; exact hL.out⟩, rfl⟩
end
end Go.Proofs.YtndhmahkglfopaaGreatDoor
/- num.cut. -/
namespace Go.Proofs.YtndhmahkglfopaaGreatDoor
open Go.RowKit
def dv (d : Nat) : Value := .int .u8 (d : Int)
theorem dgs_of_own {B : Nat} {w : World} {v : Value} {D : List Nat} (h : w.ownsRow B 5 1 v D.length (D.map dv)) (hs : ∀ d ∈ D, d < 256) (h0 : 0 < D.length) :
    ∃ b cap, v = .slice (some ⟨b, 0, none⟩) D.length cap ∧ DgS B w b 0 cap D := by
  rcases h.2 with ⟨e, h1⟩ | ⟨gb, cap, cur, hv, hB, hh, hn, _, hsz, ht⟩
  · omega
  · refine ⟨gb, cap, hv, hB, hn, hs, cur, hh, by omega, fun i d hd => ?_⟩
    have hlt : i < D.length := (List.getElem?_eq_some_iff.1 hd).1
    have : (D.map dv)[i]? = some (dv d) := by simp [hd]
    rw [← ht, List.getElem?_take_of_lt (by omega)] at this
    simpa [dv] using this
/-- Whether the digits from n on round up. -/
def upP (D : List Nat) (n : Nat) : Bool :=
  if D.getD n 0 = 5 then (decide (0 < (bareP (D.drop (n + 1))).length) || (decide (0 < n) && decide (D.getD (n - 1) 0 % 2 = 1))) else decide (5 < D.getD n 0)
def incAt : Nat → List Nat → List Nat × Bool
  | 0, h => (h, true)
  | i + 1, h => if h.getD i 0 < 9 then (h.set i (h.getD i 0 + 1), false) else incAt i (h.set i 0)
def cutP (D : List Nat) (n : Nat) : List Nat :=
  if upP D n then (if (incAt n (D.take n)).2 then (if n = 0 then [1] else (incAt n (D.take n)).1.set 0 1 ++ [0]) else (incAt n (D.take n)).1) else D.take n
def CutPost (B : Nat) (w : World) (b : Nat) (R : List Nat) (e : Ending) (w' : World) : Prop :=
  ∃ b' off' cap', e = .returned (.slice (some ⟨b', off', none⟩) R.length cap') ∧ DgS B w' b' off' cap' R ∧ Fr (fun k => k = b) w w' ∧ (b' = b ∨ w.heap.size ≤ b')
theorem dgs_one {B : Nat} {w : World} {g x : Nat} (hx : x < 256) (hB : B ≤ g) (h : w.heap[g]? = some (.cells #[.int .u8 (x : Int)] 5 (0, 0))) : DgS B w g 0 1 [x] :=
  ⟨hB, by simp, fun d hd => by rw [List.mem_singleton.1 hd]; exact hx, _, h, by simp, fun i d hd => by
    cases i with
    | zero => simp at hd; simp [hd]
    | succ i => simp at hd⟩
theorem info5 : (Tryz.prog.info? 5).map (fun i => (i.zero, i.size, i.bytes)) = some (some (.int .u8 0), 1, 1) := by kernel_rfl
theorem upP_ne {D : List Nat} {n d : Nat} (hd : D[n]? = some d) (h : d ≠ 5) : upP D n = decide (5 < d) := by
  unfold upP
  rw [List.getD_eq_getElem?_getD, hd]
  simp [h]
theorem upP_5 {D : List Nat} {n : Nat} (hd : D[n]? = some 5) : upP D n = (decide (0 < (bareP (D.drop (n + 1))).length) || (decide (0 < n) && decide (D.getD (n - 1) 0 % 2 = 1))) := by
  unfold upP
  rw [List.getD_eq_getElem?_getD, hd]
  simp
theorem cutP_up {D : List Nat} {n : Nat} (h : upP D n = true) : cutP D n = if (incAt n (D.take n)).2 then (if n = 0 then [1] else (incAt n (D.take n)).1.set 0 1 ++ [0]) else (incAt n (D.take n)).1 := by
  unfold cutP; rw [if_pos h]
theorem cutP_no {D : List Nat} {n : Nat} (h : upP D n = false) : cutP D n = D.take n := by
  unfold cutP; rw [h]; simp
theorem DgS.tail {B : Nat} {w : World} {b off cap d : Nat} {r : List Nat} (h : DgS B w b off cap (d :: r)) : ∃ off', (if cap = 1 then (some ⟨b, off, none⟩ : Option Addr) else some ⟨b, off + 1, none⟩) = some ⟨b, off', none⟩ ∧ DgS B w b off' (cap - 1) r := by
  by_cases hc1 : cap = 1
  · refine ⟨off, if_pos hc1, ?_⟩
    obtain ⟨arr, a1, a2, a3⟩ := h.ex
    have hr : r = [] := by
      have := h.len
      rw [hc1, List.length_cons] at this
      exact List.eq_nil_of_length_eq_zero (by omega)
    subst hr
    exact ⟨h.le, by simp, fun d hd => by simp at hd, arr, a1, by omega, fun i d hd => by simp at hd⟩
  · exact ⟨off + 1, if_neg hc1, h.drop 1 (by simp)⟩
section
variable {B : Nat} {b off cap : Nat} {D : List Nat} (n : Nat) (w : World)
set_option maxHeartbeats 1000000
set_option maxRecDepth 100000
theorem cut_lo (hB : B ≤ w.heap.size) (hD : DgS B w b off cap D) (hn : n < D.length) (d : Nat) (hd : D[n]? = some d) (h5 : d < 5) (hnb : n < 1000000) : Calls Tryz.prog 99 #[.slice (some ⟨b, off, none⟩) D.length cap, .int .i64 n] w (CutPost B w b (D.take n)) := by
  have HNB := Lib.hid hnb
  clear hnb
  have HD := Lib.hid hD
  have HT := Lib.hid (hD.take n (by omega))
  have hlen := hD.len
  have hc := hD.cell hd
  have hlt := hD.lt
  have hcn : n < cap := by omega
  have hle1 : n ≤ cap := by omega
  have hle2 : n ≤ D.length := by omega
  have hne : ¬ cap = n := by omega
  have hnn : ¬ cap ≤ n := by omega
  have hnz : ¬ cap - n = 0 := by omega
  have wn : wrap64 ((n : Int) - 1) = (n : Int) - 1 := IntWalk.wrap64_in _ (by have := HNB.out; omega)
  have HB := Lib.hid hB
  have HLT := Lib.hid hlt
  clear hD hd
  go_enter Tryz.func99, Tryz.ntmps99
  go_wp2_with fail
  refine wp_region_mix [0, 1, 2, 3, 4, 5, 6, 7, 8] [] [] (Below w.heap.size w) (by kernel_rfl) (by kernel_rfl) (Below.refl _ _).drew ?_
  iterate 9 (first | (apply first_step; (rw [List.getElem?_toArray]; (repeat rw [List.getElem?_cons_succ]); rw [List.getElem?_cons_zero]); rfl; (intro W hB; have hc := bcellB hB; go_simp; (first | done | rfl)); go_frame) | (apply first_skip; (rw [List.getElem?_toArray]; (repeat rw [List.getElem?_cons_succ]); rw [List.getElem?_cons_zero]); rfl; go_frame))
  refine first_done ?_
  refine tail_done ?_
  have hc : w.drew.cell? ⟨b, off + n, none⟩ = some (.int .u8 (d : Int)) := hc
  have n5 : ((d : Int) == 5) = false := by simp; omega
  have n6 : decide ((5 : Int) < (d : Int)) = false := by simp; omega
  have n7 : ¬ 5 < d := by omega
  go_wp2_with fail
  go_ret
  refine ⟨b, off, n, by rw [List.length_take, Nat.min_eq_left hle2]; rfl, HT.out.below (by (repeat with_reducible (first | exact bw0 _ _ | exact hBW | refine bw1 ?_ ?_ _ | refine bw2 ?_ ?_ _ | refine bw3 ?_ _ | refine bw4 ?_)); all_goals (first | omega | (dsimp only; omega) | ((repeat with_reducible (first | refine lz1 ?_ | refine lz2 ?_ | refine lz3 ?_ | refine lz4 ?_)); omega))), .of_below (by (repeat with_reducible (first | exact bw0 _ _ | exact hBW | refine bw1 ?_ ?_ _ | refine bw2 ?_ ?_ _ | refine bw3 ?_ _ | refine bw4 ?_)); all_goals (first | omega | (dsimp only; omega) | ((repeat with_reducible (first | refine lz1 ?_ | refine lz2 ?_ | refine lz3 ?_ | refine lz4 ?_)); omega))), .inl rfl⟩
theorem cut_hi (hB : B ≤ w.heap.size) (hD : DgS B w b off cap D) (hn : n < D.length) (d : Nat) (hd : D[n]? = some d) (h5 : 5 < d) (hnb : n < 1000000) : Calls Tryz.prog 99 #[.slice (some ⟨b, off, none⟩) D.length cap, .int .i64 n] w (CutPost B w b (cutP D n)) := by
  obtain ⟨R, hR⟩ : ∃ R, R = cutP D n := ⟨_, rfl⟩
  rw [← hR]
  have HTL : Hid ((D.take n).length = n) := by unfold Hid; rw [List.length_take, Nat.min_eq_left (by omega)]
  rw [cutP_up (by rw [upP_ne hd (by omega)]; simpa using h5)] at hR
  have HR := Lib.hid hR
  have HNB := Lib.hid hnb
  obtain ⟨i0, hi, hz0, hz1, hz2⟩ := info_parts info5
  have HI := Lib.hid hi
  have HZ0 := Lib.hid hz0
  have HZ1 := Lib.hid hz1
  have HZ2 := Lib.hid hz2
  clear hi hz0 hz1 hz2 hR hnb
  have HD := Lib.hid hD
  have HT := Lib.hid (hD.take n (by omega))
  have hlen := hD.len
  have hc := hD.cell hd
  have hlt := hD.lt
  have hcn : n < cap := by omega
  have hle1 : n ≤ cap := by omega
  have hle2 : n ≤ D.length := by omega
  have hne : ¬ cap = n := by omega
  have hnn : ¬ cap ≤ n := by omega
  have hnz : ¬ cap - n = 0 := by omega
  have wn : wrap64 ((n : Int) - 1) = (n : Int) - 1 := IntWalk.wrap64_in _ (by have := HNB.out; omega)
  have HB := Lib.hid hB
  have HLT := Lib.hid hlt
  clear hD hd
  go_enter Tryz.func99, Tryz.ntmps99
  go_wp2_with fail
  refine wp_region_mix [0, 1, 2, 3, 4, 5, 6, 7, 8] [] [] (Below w.heap.size w) (by kernel_rfl) (by kernel_rfl) (Below.refl _ _).drew ?_
  iterate 9 (first | (apply first_step; (rw [List.getElem?_toArray]; (repeat rw [List.getElem?_cons_succ]); rw [List.getElem?_cons_zero]); rfl; (intro W hB; have hc := bcellB hB; go_simp; (first | done | rfl)); go_frame) | (apply first_skip; (rw [List.getElem?_toArray]; (repeat rw [List.getElem?_cons_succ]); rw [List.getElem?_cons_zero]); rfl; go_frame))
  refine first_done ?_
  refine tail_done ?_
  have hc : w.drew.cell? ⟨b, off + n, none⟩ = some (.int .u8 (d : Int)) := hc
  have n5 : ((d : Int) == 5) = false := by simp; omega
  have n6 : decide ((5 : Int) < (d : Int)) = true := by simp; omega
  go_wp2_with fail
  clear n5 n6 h5
  have F0 : Hid (Fr (fun k => k = b) w w.drew) := .of_below (by (repeat with_reducible (first | exact bw0 _ _ | exact hBW | refine bw1 ?_ ?_ _ | refine bw2 ?_ ?_ _ | refine bw3 ?_ _ | refine bw4 ?_)); all_goals (first | omega | (dsimp only; omega) | ((repeat with_reducible (first | refine lz1 ?_ | refine lz2 ?_ | refine lz3 ?_ | refine lz4 ?_)); omega)))
  have D0 : Hid (DgS B w.drew b off n (D.take n)) := HT.out.below (by (repeat with_reducible (first | exact bw0 _ _ | exact hBW | refine bw1 ?_ ?_ _ | refine bw2 ?_ ?_ _ | refine bw3 ?_ _ | refine bw4 ?_)); all_goals (first | omega | (dsimp only; omega) | ((repeat with_reducible (first | refine lz1 ?_ | refine lz2 ?_ | refine lz3 ?_ | refine lz4 ?_)); omega)))
  clear HT hc hcn hle1 hle2 hne hnn hnz hlt hn hlen HD
  go_loopw [8] (fun x wr => ∃ (i : Nat) (h : List Nat), x = .int .i64 ((i : Int) - 1) ∧ i ≤ n ∧ h.length = n ∧ Hid (DgS B wr b off n h) ∧ Hid (incAt i h = incAt n (D.take n)) ∧ Hid (Fr (fun k => k = b) w wr)) (fun x _ => (intOf x + 1).toNat)
  case atStart => exact ⟨n, D.take n, by rw [wn], Nat.le_refl _, HTL.out, D0, rfl, F0⟩
  case round =>
    clear D0 F0 wn
    obtain ⟨i, h, rfl, hi, hhn, hDh, hI, hF⟩ := hrel
    have hbz := hDh.out.lt
    cases i with
    | zero =>
      have ER : Hid (R = if n = 0 then [1] else h.set 0 1 ++ [0]) := by unfold Hid; rw [HR.out, ← hI.out]; rfl
      clear hI HR
      have hm1 : (((0 : Nat) : Int) - 1) = -1 := rfl
      rw [hm1]
      by_cases hn0 : n = 0
      · subst hn0
        go_wp2_with fail
        go_ret
        refine ⟨wr.heap.size, 0, 1, by rw [ER.out]; rfl, by rw [ER.out]; exact dgs_one (by omega) (Nat.le_trans HB.out hF.out.size) (heap_alloc_new wr _), hF.out.trans (.of_below (Below.alloc (Below.refl _ _) (Nat.le_refl _) _)) (fun _ _ h => h), .inr hF.out.size⟩
      · have h0 : 0 < n := by omega
        obtain ⟨d0, hd0⟩ : ∃ d0, h[0]? = some d0 := ⟨_, List.getElem?_eq_getElem (by omega)⟩
        have c0 := hDh.out.cell hd0
        have z0 := hDh.out.frozen (off + 0)
        rw [Nat.add_zero] at c0 z0
        have S1 : Hid (DgS B (wr.setCell ⟨b, off, none⟩ (.int .u8 1)) b off n (h.set 0 1)) := hDh.out.set (i := 0) (x := 1) (by omega) (by omega)
        have F1 : Hid (Fr (fun k => k = b) w (wr.setCell ⟨b, off, none⟩ (.int .u8 1))) := hF.out.trans (Fr.setCell wr ⟨b, off, none⟩ _) (fun _ _ h => h)
        clear hDh hF hd0
        have HOLD : Hid (∀ (j : Nat) (u : Value), ((h.set 0 1).map dv)[j]? = some u → ((wr.setCell ⟨b, off, none⟩ (.int .u8 1)).alloc (.cells #[.int .u8 0] 5)).cell? ⟨b, off + j, none⟩ = some u) := fun j u hj => by
          rw [List.getElem?_map] at hj
          cases hx : (h.set 0 1)[j]? with
          | none => rw [hx] at hj; cases hj
          | some x =>
            rw [hx] at hj
            have := (S1.out.below (below_alloc _ (.cells #[.int .u8 0] 5) _ (Nat.le_refl _))).cell hx
            rw [this]
            exact hj
        have HNEW : Hid (∀ (j : Nat) (u : Value), ([.int .u8 0] : List Value)[j]? = some u → ((wr.setCell ⟨b, off, none⟩ (.int .u8 1)).alloc (.cells #[.int .u8 0] 5)).cell? ((⟨wr.heap.size, 0, none⟩ : Addr).add j) = some u) := fun j u hj => by
          have := cells_new (wr.setCell ⟨b, off, none⟩ (.int .u8 1)) #[.int .u8 0] 5 j u hj
          rwa [World.size_setCell] at this
        have ho : Hid (1 ≤ maxLen - n) := by unfold Hid maxLen; have := HNB.out; omega
        have hsz : Hid (((h.set 0 1).map dv).length = n * 1) := by unfold Hid; simp; exact hhn
        go_wp2_with (at_builtin; refine wpList_append_arg _ rfl _ _ 87 rfl 5 i0 (.int .u8 0) 1 1 Tryz.underlying87 HI.out HZ0.out HZ1.out HZ2.out rfl (by decide) b off n n ((h.set 0 1).map dv) rfl hsz.out HOLD.out ⟨_, 0, none⟩ 1 1 [.int .u8 0] rfl rfl HNEW.out (by simp [Value.oneCell']) (fun h => by omega) (by have := ho.out; omega) (by have := HNB.out; omega) (fun h => by omega) ?_; intro _ v' wN hown hgrow)
        have HS2 : Hid (∀ d ∈ h.set 0 1 ++ [0], d < 256) := fun d hd => by
          rcases List.mem_append.1 hd with hd | hd
          · exact S1.out.small d hd
          · rw [List.mem_singleton.1 hd]; omega
        have hl2 : (h.set 0 1 ++ [0]).length = n + 1 := by simp; exact hhn
        obtain ⟨g, cap2, rfl, hd2⟩ := dgs_of_own (D := h.set 0 1 ++ [0]) (by rw [hl2, List.map_append]; exact hown) HS2.out (by omega)
        go_ret
        have hs1 := F1.out.size
        have hgl := hd2.le
        rw [World.size_alloc] at hgl
        refine ⟨g, 0, cap2, by rw [ER.out, if_neg hn0]; rfl, ?_, ?_, .inr (by omega)⟩
        · rw [ER.out, if_neg hn0]
          refine hd2.mono ?_
          rw [World.size_alloc]
          have := HB.out
          omega
        · exact (F1.out.trans (.of_below (below_alloc _ _ _ (Nat.le_refl _))) (fun _ _ h => h)).trans (Fr.grown hgrow) (fun i _ h => by cases h)
    | succ i =>
      obtain ⟨d', hd'⟩ : ∃ d', h[i]? = some d' := ⟨_, List.getElem?_eq_getElem (by omega)⟩
      have hgd : h.getD i 0 = d' := by rw [List.getD_eq_getElem?_getD, hd']; rfl
      have c0 := hDh.out.cell hd'
      have z0 := hDh.out.frozen (off + i)
      have hii : i < n := by omega
      have hm1 : (((i + 1 : Nat) : Int) - 1) = (i : Int) := by omega
      have wi : wrap64 ((i : Int) - 1) = (i : Int) - 1 := IntWalk.wrap64_in _ (by have := HNB.out; omega)
      rw [hm1]
      by_cases h9 : d' < 9
      · have ER : Hid (R = h.set i (d' + 1)) := by
          unfold Hid
          rw [HR.out, ← hI.out, incAt, hgd, if_pos h9]
          rfl
        have wu : IntKind.u8.wrap ((d' : Int) + 1) = ((d' + 1 : Nat) : Int) := by rw [show ((d' : Int) + 1) = ((d' + 1 : Nat) : Int) by omega]; exact IntWalk.u8_in _ (by omega)
        have S1 : Hid (DgS B (wr.setCell ⟨b, off + i, none⟩ (.int .u8 ((d' + 1 : Nat) : Int))) b off n (h.set i (d' + 1))) := hDh.out.set (i := i) (x := d' + 1) (by omega) (by omega)
        have F1 : Hid (Fr (fun k => k = b) w (wr.setCell ⟨b, off + i, none⟩ (.int .u8 ((d' + 1 : Nat) : Int)))) := hF.out.trans (Fr.setCell wr ⟨b, off + i, none⟩ _) (fun _ _ h => h)
        have hll : Hid ((h.set i (d' + 1)).length = n) := by unfold Hid; simp; exact hhn
        have h9' : decide ((d' : Int) < 9) = true := by simp; omega
        clear hDh hF hd' hI HR
        go_wp2_with fail
        go_ret
        exact ⟨b, off, n, by rw [ER.out, hll.out]; rfl, by rw [ER.out]; exact S1.out, F1.out, .inl rfl⟩
      · have HI2 : Hid (incAt i (h.set i 0) = incAt n (D.take n)) := by
          have := hI.out
          rw [incAt, hgd, if_neg h9] at this
          exact this
        have S1 : Hid (DgS B (wr.setCell ⟨b, off + i, none⟩ (.int .u8 0)) b off n (h.set i 0)) := hDh.out.set (i := i) (x := 0) (by omega) (by omega)
        have F1 : Hid (Fr (fun k => k = b) w (wr.setCell ⟨b, off + i, none⟩ (.int .u8 0))) := hF.out.trans (Fr.setCell wr ⟨b, off + i, none⟩ _) (fun _ _ h => h)
        have hll : Hid ((h.set i 0).length = n) := by unfold Hid; simp; exact hhn
        have h9' : decide ((d' : Int) < 9) = false := by simp; omega
        clear hDh hF hd' hI
        go_wp2_with fail
        go_roundw
        case rel => exact ⟨i, h.set i 0, by rw [wi], by omega, hll.out, S1, HI2, F1⟩
        case measure => rw [wi]; simp [intOf]
theorem cut_5a (hB : B ≤ w.heap.size) (hD : DgS B w b off cap D) (hn : n < D.length) (hd : D[n]? = some 5) (hnb : n < 1000000) (hup : 0 < (bareP (D.drop (n + 1))).length) : Calls Tryz.prog 99 #[.slice (some ⟨b, off, none⟩) D.length cap, .int .i64 n] w (CutPost B w b (cutP D n)) := by
  obtain ⟨R, hR⟩ : ∃ R, R = cutP D n := ⟨_, rfl⟩
  rw [← hR]
  have HTL : Hid ((D.take n).length = n) := by unfold Hid; rw [List.length_take, Nat.min_eq_left (by omega)]
  rw [cutP_up (by rw [upP_5 hd]; simp [hup])] at hR
  have HR := Lib.hid hR
  have HNB := Lib.hid hnb
  obtain ⟨i0, hi, hz0, hz1, hz2⟩ := info_parts info5
  have HI := Lib.hid hi
  have HZ0 := Lib.hid hz0
  have HZ1 := Lib.hid hz1
  have HZ2 := Lib.hid hz2
  clear hi hz0 hz1 hz2 hR hnb
  obtain ⟨r, hr⟩ : ∃ r, D.drop n = 5 :: r := ⟨D.drop (n + 1), by
    have hlt' : n < D.length := by omega
    rw [List.drop_eq_getElem_cons hlt']
    congr 1
    rw [List.getElem?_eq_getElem hlt'] at hd
    exact Option.some.inj hd⟩
  have hl : D.length - n = r.length + 1 := by rw [← List.length_drop, hr]; rfl
  have hr1 : D.drop (n + 1) = r := by rw [← List.drop_drop, hr]; rfl
  have hdr := hD.drop n (by omega)
  rw [hr] at hdr
  have hl2 := hdr.len
  rw [List.length_cons] at hl2
  obtain ⟨o1, he1, hd1⟩ := hdr.tail
  have HD1 := Lib.hid hd1
  have HE1 := Lib.hid he1
  clear hdr hd1 he1
  have hx1 : n < cap := by omega
  have HD := Lib.hid hD
  have HT := Lib.hid (hD.take n (by omega))
  have hlen := hD.len
  have hc := hD.cell hd
  have hlt := hD.lt
  have hcn : n < cap := by omega
  have hle1 : n ≤ cap := by omega
  have hle2 : n ≤ D.length := by omega
  have hne : ¬ cap = n := by omega
  have hnn : ¬ cap ≤ n := by omega
  have hnz : ¬ cap - n = 0 := by omega
  have wn : wrap64 ((n : Int) - 1) = (n : Int) - 1 := IntWalk.wrap64_in _ (by have := HNB.out; omega)
  have HB := Lib.hid hB
  have HLT := Lib.hid hlt
  clear hD hd
  go_enter Tryz.func99, Tryz.ntmps99
  go_wp2_with fail
  refine wp_region_mix [0, 1, 2, 3, 4, 5, 6, 7, 8] [] [] (Below w.heap.size w) (by kernel_rfl) (by kernel_rfl) (Below.refl _ _).drew ?_
  iterate 9 (first | (apply first_step; (rw [List.getElem?_toArray]; (repeat rw [List.getElem?_cons_succ]); rw [List.getElem?_cons_zero]); rfl; (intro W hB; have hc := bcellB hB; go_simp; (first | done | rfl)); go_frame) | (apply first_skip; (rw [List.getElem?_toArray]; (repeat rw [List.getElem?_cons_succ]); rw [List.getElem?_cons_zero]); rfl; go_frame))
  refine first_done ?_
  refine tail_done ?_
  have hc : w.drew.cell? ⟨b, off + n, none⟩ = some (.int .u8 5) := hc
  have he1 := HE1.out
  have hD1 : DgS B w.drew b o1 (cap - n - 1) r := HD1.out.below (by (repeat with_reducible (first | exact bw0 _ _ | exact hBW | refine bw1 ?_ ?_ _ | refine bw2 ?_ ?_ _ | refine bw3 ?_ _ | refine bw4 ?_)); all_goals (first | omega | (dsimp only; omega) | ((repeat with_reducible (first | refine lz1 ?_ | refine lz2 ?_ | refine lz3 ?_ | refine lz4 ?_)); omega)))
  go_wp2_with fail
  refine (bare_any _ hD1).mono ?_
  rintro e w2 ⟨⟨o2, c3, rfl, hd2⟩, rfl⟩
  clear hd2 he1
  rw [hr1] at hup
  generalize (bareP r).length = q at hup ⊢
  go_wp2_with fail
  have F0 : Hid (Fr (fun k => k = b) w w.drew) := .of_below (by (repeat with_reducible (first | exact bw0 _ _ | exact hBW | refine bw1 ?_ ?_ _ | refine bw2 ?_ ?_ _ | refine bw3 ?_ _ | refine bw4 ?_)); all_goals (first | omega | (dsimp only; omega) | ((repeat with_reducible (first | refine lz1 ?_ | refine lz2 ?_ | refine lz3 ?_ | refine lz4 ?_)); omega)))
  have D0 : Hid (DgS B w.drew b off n (D.take n)) := HT.out.below (by (repeat with_reducible (first | exact bw0 _ _ | exact hBW | refine bw1 ?_ ?_ _ | refine bw2 ?_ ?_ _ | refine bw3 ?_ _ | refine bw4 ?_)); all_goals (first | omega | (dsimp only; omega) | ((repeat with_reducible (first | refine lz1 ?_ | refine lz2 ?_ | refine lz3 ?_ | refine lz4 ?_)); omega)))
  clear HT hc hcn hle1 hle2 hne hnn hnz hlt hn hlen HD
  go_loopw [8] (fun x wr => ∃ (i : Nat) (h : List Nat), x = .int .i64 ((i : Int) - 1) ∧ i ≤ n ∧ h.length = n ∧ Hid (DgS B wr b off n h) ∧ Hid (incAt i h = incAt n (D.take n)) ∧ Hid (Fr (fun k => k = b) w wr)) (fun x _ => (intOf x + 1).toNat)
  case atStart => exact ⟨n, D.take n, by rw [wn], Nat.le_refl _, HTL.out, D0, rfl, F0⟩
  case round =>
    clear D0 F0 wn
    obtain ⟨i, h, rfl, hi, hhn, hDh, hI, hF⟩ := hrel
    have hbz := hDh.out.lt
    cases i with
    | zero =>
      have ER : Hid (R = if n = 0 then [1] else h.set 0 1 ++ [0]) := by unfold Hid; rw [HR.out, ← hI.out]; rfl
      clear hI HR
      have hm1 : (((0 : Nat) : Int) - 1) = -1 := rfl
      rw [hm1]
      by_cases hn0 : n = 0
      · subst hn0
        go_wp2_with fail
        go_ret
        refine ⟨wr.heap.size, 0, 1, by rw [ER.out]; rfl, by rw [ER.out]; exact dgs_one (by omega) (Nat.le_trans HB.out hF.out.size) (heap_alloc_new wr _), hF.out.trans (.of_below (Below.alloc (Below.refl _ _) (Nat.le_refl _) _)) (fun _ _ h => h), .inr hF.out.size⟩
      · have h0 : 0 < n := by omega
        obtain ⟨d0, hd0⟩ : ∃ d0, h[0]? = some d0 := ⟨_, List.getElem?_eq_getElem (by omega)⟩
        have c0 := hDh.out.cell hd0
        have z0 := hDh.out.frozen (off + 0)
        rw [Nat.add_zero] at c0 z0
        have S1 : Hid (DgS B (wr.setCell ⟨b, off, none⟩ (.int .u8 1)) b off n (h.set 0 1)) := hDh.out.set (i := 0) (x := 1) (by omega) (by omega)
        have F1 : Hid (Fr (fun k => k = b) w (wr.setCell ⟨b, off, none⟩ (.int .u8 1))) := hF.out.trans (Fr.setCell wr ⟨b, off, none⟩ _) (fun _ _ h => h)
        clear hDh hF hd0
        have HOLD : Hid (∀ (j : Nat) (u : Value), ((h.set 0 1).map dv)[j]? = some u → ((wr.setCell ⟨b, off, none⟩ (.int .u8 1)).alloc (.cells #[.int .u8 0] 5)).cell? ⟨b, off + j, none⟩ = some u) := fun j u hj => by
          rw [List.getElem?_map] at hj
          cases hx : (h.set 0 1)[j]? with
          | none => rw [hx] at hj; cases hj
          | some x =>
            rw [hx] at hj
            have := (S1.out.below (below_alloc _ (.cells #[.int .u8 0] 5) _ (Nat.le_refl _))).cell hx
            rw [this]
            exact hj
        have HNEW : Hid (∀ (j : Nat) (u : Value), ([.int .u8 0] : List Value)[j]? = some u → ((wr.setCell ⟨b, off, none⟩ (.int .u8 1)).alloc (.cells #[.int .u8 0] 5)).cell? ((⟨wr.heap.size, 0, none⟩ : Addr).add j) = some u) := fun j u hj => by
          have := cells_new (wr.setCell ⟨b, off, none⟩ (.int .u8 1)) #[.int .u8 0] 5 j u hj
          rwa [World.size_setCell] at this
        have ho : Hid (1 ≤ maxLen - n) := by unfold Hid maxLen; have := HNB.out; omega
        have hsz : Hid (((h.set 0 1).map dv).length = n * 1) := by unfold Hid; simp; exact hhn
        go_wp2_with (at_builtin; refine wpList_append_arg _ rfl _ _ 87 rfl 5 i0 (.int .u8 0) 1 1 Tryz.underlying87 HI.out HZ0.out HZ1.out HZ2.out rfl (by decide) b off n n ((h.set 0 1).map dv) rfl hsz.out HOLD.out ⟨_, 0, none⟩ 1 1 [.int .u8 0] rfl rfl HNEW.out (by simp [Value.oneCell']) (fun h => by omega) (by have := ho.out; omega) (by have := HNB.out; omega) (fun h => by omega) ?_; intro _ v' wN hown hgrow)
        have HS2 : Hid (∀ d ∈ h.set 0 1 ++ [0], d < 256) := fun d hd => by
          rcases List.mem_append.1 hd with hd | hd
          · exact S1.out.small d hd
          · rw [List.mem_singleton.1 hd]; omega
        have hl2 : (h.set 0 1 ++ [0]).length = n + 1 := by simp; exact hhn
        obtain ⟨g, cap2, rfl, hd2⟩ := dgs_of_own (D := h.set 0 1 ++ [0]) (by rw [hl2, List.map_append]; exact hown) HS2.out (by omega)
        go_ret
        have hs1 := F1.out.size
        have hgl := hd2.le
        rw [World.size_alloc] at hgl
        refine ⟨g, 0, cap2, by rw [ER.out, if_neg hn0]; rfl, ?_, ?_, .inr (by omega)⟩
        · rw [ER.out, if_neg hn0]
          refine hd2.mono ?_
          rw [World.size_alloc]
          have := HB.out
          omega
        · exact (F1.out.trans (.of_below (below_alloc _ _ _ (Nat.le_refl _))) (fun _ _ h => h)).trans (Fr.grown hgrow) (fun i _ h => by cases h)
    | succ i =>
      obtain ⟨d', hd'⟩ : ∃ d', h[i]? = some d' := ⟨_, List.getElem?_eq_getElem (by omega)⟩
      have hgd : h.getD i 0 = d' := by rw [List.getD_eq_getElem?_getD, hd']; rfl
      have c0 := hDh.out.cell hd'
      have z0 := hDh.out.frozen (off + i)
      have hii : i < n := by omega
      have hm1 : (((i + 1 : Nat) : Int) - 1) = (i : Int) := by omega
      have wi : wrap64 ((i : Int) - 1) = (i : Int) - 1 := IntWalk.wrap64_in _ (by have := HNB.out; omega)
      rw [hm1]
      by_cases h9 : d' < 9
      · have ER : Hid (R = h.set i (d' + 1)) := by
          unfold Hid
          rw [HR.out, ← hI.out, incAt, hgd, if_pos h9]
          rfl
        have wu : IntKind.u8.wrap ((d' : Int) + 1) = ((d' + 1 : Nat) : Int) := by rw [show ((d' : Int) + 1) = ((d' + 1 : Nat) : Int) by omega]; exact IntWalk.u8_in _ (by omega)
        have S1 : Hid (DgS B (wr.setCell ⟨b, off + i, none⟩ (.int .u8 ((d' + 1 : Nat) : Int))) b off n (h.set i (d' + 1))) := hDh.out.set (i := i) (x := d' + 1) (by omega) (by omega)
        have F1 : Hid (Fr (fun k => k = b) w (wr.setCell ⟨b, off + i, none⟩ (.int .u8 ((d' + 1 : Nat) : Int)))) := hF.out.trans (Fr.setCell wr ⟨b, off + i, none⟩ _) (fun _ _ h => h)
        have hll : Hid ((h.set i (d' + 1)).length = n) := by unfold Hid; simp; exact hhn
        have h9' : decide ((d' : Int) < 9) = true := by simp; omega
        clear hDh hF hd' hI HR
        go_wp2_with fail
        go_ret
        exact ⟨b, off, n, by rw [ER.out, hll.out]; rfl, by rw [ER.out]; exact S1.out, F1.out, .inl rfl⟩
      · have HI2 : Hid (incAt i (h.set i 0) = incAt n (D.take n)) := by
          have := hI.out
          rw [incAt, hgd, if_neg h9] at this
          exact this
        have S1 : Hid (DgS B (wr.setCell ⟨b, off + i, none⟩ (.int .u8 0)) b off n (h.set i 0)) := hDh.out.set (i := i) (x := 0) (by omega) (by omega)
        have F1 : Hid (Fr (fun k => k = b) w (wr.setCell ⟨b, off + i, none⟩ (.int .u8 0))) := hF.out.trans (Fr.setCell wr ⟨b, off + i, none⟩ _) (fun _ _ h => h)
        have hll : Hid ((h.set i 0).length = n) := by unfold Hid; simp; exact hhn
        have h9' : decide ((d' : Int) < 9) = false := by simp; omega
        clear hDh hF hd' hI
        go_wp2_with fail
        go_roundw
        case rel => exact ⟨i, h.set i 0, by rw [wi], by omega, hll.out, S1, HI2, F1⟩
        case measure => rw [wi]; simp [intOf]
theorem cut_5z (r : List Nat) (hD : DgS B w b off cap (5 :: r)) (hup : (bareP r).length = 0) : Calls Tryz.prog 99 #[.slice (some ⟨b, off, none⟩) (r.length + 1) cap, .int .i64 0] w (CutPost B w b []) := by
  have hlen := hD.len
  rw [List.length_cons] at hlen
  obtain ⟨o1, he1, hd1⟩ := hD.tail
  have hc := hD.cell (i := 0) (d := 5) rfl
  rw [Nat.add_zero] at hc
  have HT := Lib.hid (hD.take 0 (by simp))
  have HD1 := Lib.hid hd1
  have HE1 := Lib.hid he1
  have hlt := hD.lt
  have hnz : ¬ cap = 0 := by omega
  clear hD hd1 he1
  go_enter Tryz.func99, Tryz.ntmps99
  go_wp2_with fail
  refine wp_region_mix [0, 1, 2, 3, 4, 5, 6, 7, 8] [] [] (Below w.heap.size w) (by kernel_rfl) (by kernel_rfl) (Below.refl _ _).drew ?_
  iterate 9 (first | (apply first_step; (rw [List.getElem?_toArray]; (repeat rw [List.getElem?_cons_succ]); rw [List.getElem?_cons_zero]); rfl; (intro W hB; have hc := bcellB hB; go_simp; (first | done | rfl)); go_frame) | (apply first_skip; (rw [List.getElem?_toArray]; (repeat rw [List.getElem?_cons_succ]); rw [List.getElem?_cons_zero]); rfl; go_frame))
  refine first_done ?_
  refine tail_done ?_
  have hc : w.drew.cell? ⟨b, off, none⟩ = some (.int .u8 5) := hc
  have he1 := HE1.out
  have hD1 : DgS B w.drew b o1 (cap - 1) r := HD1.out.below (by (repeat with_reducible (first | exact bw0 _ _ | exact hBW | refine bw1 ?_ ?_ _ | refine bw2 ?_ ?_ _ | refine bw3 ?_ _ | refine bw4 ?_)); all_goals (first | omega | (dsimp only; omega) | ((repeat with_reducible (first | refine lz1 ?_ | refine lz2 ?_ | refine lz3 ?_ | refine lz4 ?_)); omega)))
  go_wp2_with fail
  refine (bare_any _ hD1).mono ?_
  rintro e w2 ⟨⟨o2, c3, rfl, hd2⟩, rfl⟩
  clear hd2 he1
  rw [hup]
  go_wp2_with fail
  go_ret
  refine ⟨b, off, 0, rfl, HT.out.below (by (repeat with_reducible (first | exact bw0 _ _ | exact hBW | refine bw1 ?_ ?_ _ | refine bw2 ?_ ?_ _ | refine bw3 ?_ _ | refine bw4 ?_)); all_goals (first | omega | (dsimp only; omega) | ((repeat with_reducible (first | refine lz1 ?_ | refine lz2 ?_ | refine lz3 ?_ | refine lz4 ?_)); omega))), .of_below (by (repeat with_reducible (first | exact bw0 _ _ | exact hBW | refine bw1 ?_ ?_ _ | refine bw2 ?_ ?_ _ | refine bw3 ?_ _ | refine bw4 ?_)); all_goals (first | omega | (dsimp only; omega) | ((repeat with_reducible (first | refine lz1 ?_ | refine lz2 ?_ | refine lz3 ?_ | refine lz4 ?_)); omega))), .inl rfl⟩
theorem cut_5e (hn1 : 0 < n) (hB : B ≤ w.heap.size) (hD : DgS B w b off cap D) (hn : n < D.length) (hd : D[n]? = some 5) (hnb : n < 1000000) (hup : (bareP (D.drop (n + 1))).length = 0) (d1 : Nat) (hd1 : D[n - 1]? = some d1) (he : d1 % 2 ≠ 1) : Calls Tryz.prog 99 #[.slice (some ⟨b, off, none⟩) D.length cap, .int .i64 n] w (CutPost B w b (D.take n)) := by
  have HNB := Lib.hid hnb
  have HTL : Hid ((D.take n).length = n) := by unfold Hid; rw [List.length_take, Nat.min_eq_left (by omega)]
  have cm := hD.cell hd1
  clear hnb hd1
  obtain ⟨r, hr⟩ : ∃ r, D.drop n = 5 :: r := ⟨D.drop (n + 1), by
    have hlt' : n < D.length := by omega
    rw [List.drop_eq_getElem_cons hlt']
    congr 1
    rw [List.getElem?_eq_getElem hlt'] at hd
    exact Option.some.inj hd⟩
  have hl : D.length - n = r.length + 1 := by rw [← List.length_drop, hr]; rfl
  have hr1 : D.drop (n + 1) = r := by rw [← List.drop_drop, hr]; rfl
  have hdr := hD.drop n (by omega)
  rw [hr] at hdr
  have hl2 := hdr.len
  rw [List.length_cons] at hl2
  obtain ⟨o1, he1, hd1⟩ := hdr.tail
  have HD1 := Lib.hid hd1
  have HE1 := Lib.hid he1
  clear hdr hd1 he1
  have hx1 : n < cap := by omega
  have HD := Lib.hid hD
  have HT := Lib.hid (hD.take n (by omega))
  have hlen := hD.len
  have hc := hD.cell hd
  have hlt := hD.lt
  have hcn : n < cap := by omega
  have hle1 : n ≤ cap := by omega
  have hle2 : n ≤ D.length := by omega
  have hne : ¬ cap = n := by omega
  have hnn : ¬ cap ≤ n := by omega
  have hnz : ¬ cap - n = 0 := by omega
  have wn : wrap64 ((n : Int) - 1) = (n : Int) - 1 := IntWalk.wrap64_in _ (by have := HNB.out; omega)
  have HB := Lib.hid hB
  have HLT := Lib.hid hlt
  clear hD hd
  go_enter Tryz.func99, Tryz.ntmps99
  go_wp2_with fail
  refine wp_region_mix [0, 1, 2, 3, 4, 5, 6, 7, 8] [] [] (Below w.heap.size w) (by kernel_rfl) (by kernel_rfl) (Below.refl _ _).drew ?_
  iterate 9 (first | (apply first_step; (rw [List.getElem?_toArray]; (repeat rw [List.getElem?_cons_succ]); rw [List.getElem?_cons_zero]); rfl; (intro W hB; have hc := bcellB hB; go_simp; (first | done | rfl)); go_frame) | (apply first_skip; (rw [List.getElem?_toArray]; (repeat rw [List.getElem?_cons_succ]); rw [List.getElem?_cons_zero]); rfl; go_frame))
  refine first_done ?_
  refine tail_done ?_
  have hc : w.drew.cell? ⟨b, off + n, none⟩ = some (.int .u8 5) := hc
  have he1 := HE1.out
  have hD1 : DgS B w.drew b o1 (cap - n - 1) r := HD1.out.below (by (repeat with_reducible (first | exact bw0 _ _ | exact hBW | refine bw1 ?_ ?_ _ | refine bw2 ?_ ?_ _ | refine bw3 ?_ _ | refine bw4 ?_)); all_goals (first | omega | (dsimp only; omega) | ((repeat with_reducible (first | refine lz1 ?_ | refine lz2 ?_ | refine lz3 ?_ | refine lz4 ?_)); omega)))
  go_wp2_with fail
  refine (bare_any _ hD1).mono ?_
  rintro e w2 ⟨⟨o2, c3, rfl, hd2⟩, rfl⟩
  clear hd2 he1
  rw [hr1] at hup
  rw [hup]
  have hod : ((d1 : Int) % 2 == 1) = false := by simp; omega
  have cm : w.drew.cell? ⟨b, off + (n - 1), none⟩ = some (.int .u8 (d1 : Int)) := cm
  go_wp2_with fail
  go_ret
  refine ⟨b, off, n, by rw [HTL.out]; rfl, HT.out.below (by (repeat with_reducible (first | exact bw0 _ _ | exact hBW | refine bw1 ?_ ?_ _ | refine bw2 ?_ ?_ _ | refine bw3 ?_ _ | refine bw4 ?_)); all_goals (first | omega | (dsimp only; omega) | ((repeat with_reducible (first | refine lz1 ?_ | refine lz2 ?_ | refine lz3 ?_ | refine lz4 ?_)); omega))), .of_below (by (repeat with_reducible (first | exact bw0 _ _ | exact hBW | refine bw1 ?_ ?_ _ | refine bw2 ?_ ?_ _ | refine bw3 ?_ _ | refine bw4 ?_)); all_goals (first | omega | (dsimp only; omega) | ((repeat with_reducible (first | refine lz1 ?_ | refine lz2 ?_ | refine lz3 ?_ | refine lz4 ?_)); omega))), .inl rfl⟩
theorem cut_5o (hn1 : 0 < n) (hB : B ≤ w.heap.size) (hD : DgS B w b off cap D) (hn : n < D.length) (hd : D[n]? = some 5) (hnb : n < 1000000) (hup : (bareP (D.drop (n + 1))).length = 0) (d1 : Nat) (hd1 : D[n - 1]? = some d1) (he : d1 % 2 = 1) : Calls Tryz.prog 99 #[.slice (some ⟨b, off, none⟩) D.length cap, .int .i64 n] w (CutPost B w b (cutP D n)) := by
  obtain ⟨R, hR⟩ : ∃ R, R = cutP D n := ⟨_, rfl⟩
  rw [← hR]
  have HTL : Hid ((D.take n).length = n) := by unfold Hid; rw [List.length_take, Nat.min_eq_left (by omega)]
  rw [cutP_up (by rw [upP_5 hd, List.getD_eq_getElem?_getD, hd1]; simp [he, hn1])] at hR
  have HR := Lib.hid hR
  have HNB := Lib.hid hnb
  obtain ⟨i0, hi, hz0, hz1, hz2⟩ := info_parts info5
  have HI := Lib.hid hi
  have HZ0 := Lib.hid hz0
  have HZ1 := Lib.hid hz1
  have HZ2 := Lib.hid hz2
  have cm := hD.cell hd1
  clear hi hz0 hz1 hz2 hR hnb hd1
  obtain ⟨r, hr⟩ : ∃ r, D.drop n = 5 :: r := ⟨D.drop (n + 1), by
    have hlt' : n < D.length := by omega
    rw [List.drop_eq_getElem_cons hlt']
    congr 1
    rw [List.getElem?_eq_getElem hlt'] at hd
    exact Option.some.inj hd⟩
  have hl : D.length - n = r.length + 1 := by rw [← List.length_drop, hr]; rfl
  have hr1 : D.drop (n + 1) = r := by rw [← List.drop_drop, hr]; rfl
  have hdr := hD.drop n (by omega)
  rw [hr] at hdr
  have hl2 := hdr.len
  rw [List.length_cons] at hl2
  obtain ⟨o1, he1, hd1⟩ := hdr.tail
  have HD1 := Lib.hid hd1
  have HE1 := Lib.hid he1
  clear hdr hd1 he1
  have hx1 : n < cap := by omega
  have HD := Lib.hid hD
  have HT := Lib.hid (hD.take n (by omega))
  have hlen := hD.len
  have hc := hD.cell hd
  have hlt := hD.lt
  have hcn : n < cap := by omega
  have hle1 : n ≤ cap := by omega
  have hle2 : n ≤ D.length := by omega
  have hne : ¬ cap = n := by omega
  have hnn : ¬ cap ≤ n := by omega
  have hnz : ¬ cap - n = 0 := by omega
  have wn : wrap64 ((n : Int) - 1) = (n : Int) - 1 := IntWalk.wrap64_in _ (by have := HNB.out; omega)
  have HB := Lib.hid hB
  have HLT := Lib.hid hlt
  clear hD hd
  go_enter Tryz.func99, Tryz.ntmps99
  go_wp2_with fail
  refine wp_region_mix [0, 1, 2, 3, 4, 5, 6, 7, 8] [] [] (Below w.heap.size w) (by kernel_rfl) (by kernel_rfl) (Below.refl _ _).drew ?_
  iterate 9 (first | (apply first_step; (rw [List.getElem?_toArray]; (repeat rw [List.getElem?_cons_succ]); rw [List.getElem?_cons_zero]); rfl; (intro W hB; have hc := bcellB hB; go_simp; (first | done | rfl)); go_frame) | (apply first_skip; (rw [List.getElem?_toArray]; (repeat rw [List.getElem?_cons_succ]); rw [List.getElem?_cons_zero]); rfl; go_frame))
  refine first_done ?_
  refine tail_done ?_
  have hc : w.drew.cell? ⟨b, off + n, none⟩ = some (.int .u8 5) := hc
  have he1 := HE1.out
  have hD1 : DgS B w.drew b o1 (cap - n - 1) r := HD1.out.below (by (repeat with_reducible (first | exact bw0 _ _ | exact hBW | refine bw1 ?_ ?_ _ | refine bw2 ?_ ?_ _ | refine bw3 ?_ _ | refine bw4 ?_)); all_goals (first | omega | (dsimp only; omega) | ((repeat with_reducible (first | refine lz1 ?_ | refine lz2 ?_ | refine lz3 ?_ | refine lz4 ?_)); omega)))
  go_wp2_with fail
  refine (bare_any _ hD1).mono ?_
  rintro e w2 ⟨⟨o2, c3, rfl, hd2⟩, rfl⟩
  clear hd2 he1
  rw [hr1] at hup
  rw [hup]
  have hod : ((d1 : Int) % 2 == 1) = true := by simp; omega
  have cm : w.drew.cell? ⟨b, off + (n - 1), none⟩ = some (.int .u8 (d1 : Int)) := cm
  go_wp2_with fail
  clear cm hod hn1
  have F0 : Hid (Fr (fun k => k = b) w w.drew) := .of_below (by (repeat with_reducible (first | exact bw0 _ _ | exact hBW | refine bw1 ?_ ?_ _ | refine bw2 ?_ ?_ _ | refine bw3 ?_ _ | refine bw4 ?_)); all_goals (first | omega | (dsimp only; omega) | ((repeat with_reducible (first | refine lz1 ?_ | refine lz2 ?_ | refine lz3 ?_ | refine lz4 ?_)); omega)))
  have D0 : Hid (DgS B w.drew b off n (D.take n)) := HT.out.below (by (repeat with_reducible (first | exact bw0 _ _ | exact hBW | refine bw1 ?_ ?_ _ | refine bw2 ?_ ?_ _ | refine bw3 ?_ _ | refine bw4 ?_)); all_goals (first | omega | (dsimp only; omega) | ((repeat with_reducible (first | refine lz1 ?_ | refine lz2 ?_ | refine lz3 ?_ | refine lz4 ?_)); omega)))
  clear HT hc hcn hle1 hle2 hne hnn hnz hlt hn hlen HD
  go_loopw [8] (fun x wr => ∃ (i : Nat) (h : List Nat), x = .int .i64 ((i : Int) - 1) ∧ i ≤ n ∧ h.length = n ∧ Hid (DgS B wr b off n h) ∧ Hid (incAt i h = incAt n (D.take n)) ∧ Hid (Fr (fun k => k = b) w wr)) (fun x _ => (intOf x + 1).toNat)
  case atStart => exact ⟨n, D.take n, by rw [wn], Nat.le_refl _, HTL.out, D0, rfl, F0⟩
  case round =>
    clear D0 F0 wn
    obtain ⟨i, h, rfl, hi, hhn, hDh, hI, hF⟩ := hrel
    have hbz := hDh.out.lt
    cases i with
    | zero =>
      have ER : Hid (R = if n = 0 then [1] else h.set 0 1 ++ [0]) := by unfold Hid; rw [HR.out, ← hI.out]; rfl
      clear hI HR
      have hm1 : (((0 : Nat) : Int) - 1) = -1 := rfl
      rw [hm1]
      by_cases hn0 : n = 0
      · subst hn0
        go_wp2_with fail
        go_ret
        refine ⟨wr.heap.size, 0, 1, by rw [ER.out]; rfl, by rw [ER.out]; exact dgs_one (by omega) (Nat.le_trans HB.out hF.out.size) (heap_alloc_new wr _), hF.out.trans (.of_below (Below.alloc (Below.refl _ _) (Nat.le_refl _) _)) (fun _ _ h => h), .inr hF.out.size⟩
      · have h0 : 0 < n := by omega
        obtain ⟨d0, hd0⟩ : ∃ d0, h[0]? = some d0 := ⟨_, List.getElem?_eq_getElem (by omega)⟩
        have c0 := hDh.out.cell hd0
        have z0 := hDh.out.frozen (off + 0)
        rw [Nat.add_zero] at c0 z0
        have S1 : Hid (DgS B (wr.setCell ⟨b, off, none⟩ (.int .u8 1)) b off n (h.set 0 1)) := hDh.out.set (i := 0) (x := 1) (by omega) (by omega)
        have F1 : Hid (Fr (fun k => k = b) w (wr.setCell ⟨b, off, none⟩ (.int .u8 1))) := hF.out.trans (Fr.setCell wr ⟨b, off, none⟩ _) (fun _ _ h => h)
        clear hDh hF hd0
        have HOLD : Hid (∀ (j : Nat) (u : Value), ((h.set 0 1).map dv)[j]? = some u → ((wr.setCell ⟨b, off, none⟩ (.int .u8 1)).alloc (.cells #[.int .u8 0] 5)).cell? ⟨b, off + j, none⟩ = some u) := fun j u hj => by
          rw [List.getElem?_map] at hj
          cases hx : (h.set 0 1)[j]? with
          | none => rw [hx] at hj; cases hj
          | some x =>
            rw [hx] at hj
            have := (S1.out.below (below_alloc _ (.cells #[.int .u8 0] 5) _ (Nat.le_refl _))).cell hx
            rw [this]
            exact hj
        have HNEW : Hid (∀ (j : Nat) (u : Value), ([.int .u8 0] : List Value)[j]? = some u → ((wr.setCell ⟨b, off, none⟩ (.int .u8 1)).alloc (.cells #[.int .u8 0] 5)).cell? ((⟨wr.heap.size, 0, none⟩ : Addr).add j) = some u) := fun j u hj => by
          have := cells_new (wr.setCell ⟨b, off, none⟩ (.int .u8 1)) #[.int .u8 0] 5 j u hj
          rwa [World.size_setCell] at this
        have ho : Hid (1 ≤ maxLen - n) := by unfold Hid maxLen; have := HNB.out; omega
        have hsz : Hid (((h.set 0 1).map dv).length = n * 1) := by unfold Hid; simp; exact hhn
        go_wp2_with (at_builtin; refine wpList_append_arg _ rfl _ _ 87 rfl 5 i0 (.int .u8 0) 1 1 Tryz.underlying87 HI.out HZ0.out HZ1.out HZ2.out rfl (by decide) b off n n ((h.set 0 1).map dv) rfl hsz.out HOLD.out ⟨_, 0, none⟩ 1 1 [.int .u8 0] rfl rfl HNEW.out (by simp [Value.oneCell']) (fun h => by omega) (by have := ho.out; omega) (by have := HNB.out; omega) (fun h => by omega) ?_; intro _ v' wN hown hgrow)
        have HS2 : Hid (∀ d ∈ h.set 0 1 ++ [0], d < 256) := fun d hd => by
          rcases List.mem_append.1 hd with hd | hd
          · exact S1.out.small d hd
          · rw [List.mem_singleton.1 hd]; omega
        have hl2 : (h.set 0 1 ++ [0]).length = n + 1 := by simp; exact hhn
        obtain ⟨g, cap2, rfl, hd2⟩ := dgs_of_own (D := h.set 0 1 ++ [0]) (by rw [hl2, List.map_append]; exact hown) HS2.out (by omega)
        go_ret
        have hs1 := F1.out.size
        have hgl := hd2.le
        rw [World.size_alloc] at hgl
        refine ⟨g, 0, cap2, by rw [ER.out, if_neg hn0]; rfl, ?_, ?_, .inr (by omega)⟩
        · rw [ER.out, if_neg hn0]
          refine hd2.mono ?_
          rw [World.size_alloc]
          have := HB.out
          omega
        · exact (F1.out.trans (.of_below (below_alloc _ _ _ (Nat.le_refl _))) (fun _ _ h => h)).trans (Fr.grown hgrow) (fun i _ h => by cases h)
    | succ i =>
      obtain ⟨d', hd'⟩ : ∃ d', h[i]? = some d' := ⟨_, List.getElem?_eq_getElem (by omega)⟩
      have hgd : h.getD i 0 = d' := by rw [List.getD_eq_getElem?_getD, hd']; rfl
      have c0 := hDh.out.cell hd'
      have z0 := hDh.out.frozen (off + i)
      have hii : i < n := by omega
      have hm1 : (((i + 1 : Nat) : Int) - 1) = (i : Int) := by omega
      have wi : wrap64 ((i : Int) - 1) = (i : Int) - 1 := IntWalk.wrap64_in _ (by have := HNB.out; omega)
      rw [hm1]
      by_cases h9 : d' < 9
      · have ER : Hid (R = h.set i (d' + 1)) := by
          unfold Hid
          rw [HR.out, ← hI.out, incAt, hgd, if_pos h9]
          rfl
        have wu : IntKind.u8.wrap ((d' : Int) + 1) = ((d' + 1 : Nat) : Int) := by rw [show ((d' : Int) + 1) = ((d' + 1 : Nat) : Int) by omega]; exact IntWalk.u8_in _ (by omega)
        have S1 : Hid (DgS B (wr.setCell ⟨b, off + i, none⟩ (.int .u8 ((d' + 1 : Nat) : Int))) b off n (h.set i (d' + 1))) := hDh.out.set (i := i) (x := d' + 1) (by omega) (by omega)
        have F1 : Hid (Fr (fun k => k = b) w (wr.setCell ⟨b, off + i, none⟩ (.int .u8 ((d' + 1 : Nat) : Int)))) := hF.out.trans (Fr.setCell wr ⟨b, off + i, none⟩ _) (fun _ _ h => h)
        have hll : Hid ((h.set i (d' + 1)).length = n) := by unfold Hid; simp; exact hhn
        have h9' : decide ((d' : Int) < 9) = true := by simp; omega
        clear hDh hF hd' hI HR
        go_wp2_with fail
        go_ret
        exact ⟨b, off, n, by rw [ER.out, hll.out]; rfl, by rw [ER.out]; exact S1.out, F1.out, .inl rfl⟩
      · have HI2 : Hid (incAt i (h.set i 0) = incAt n (D.take n)) := by
          have := hI.out
          rw [incAt, hgd, if_neg h9] at this
          exact this
        have S1 : Hid (DgS B (wr.setCell ⟨b, off + i, none⟩ (.int .u8 0)) b off n (h.set i 0)) := hDh.out.set (i := i) (x := 0) (by omega) (by omega)
        have F1 : Hid (Fr (fun k => k = b) w (wr.setCell ⟨b, off + i, none⟩ (.int .u8 0))) := hF.out.trans (Fr.setCell wr ⟨b, off + i, none⟩ _) (fun _ _ h => h)
        have hll : Hid ((h.set i 0).length = n) := by unfold Hid; simp; exact hhn
        have h9' : decide ((d' : Int) < 9) = false := by simp; omega
        clear hDh hF hd' hI
        go_wp2_with fail
        go_roundw
        case rel => exact ⟨i, h.set i 0, by rw [wi], by omega, hll.out, S1, HI2, F1⟩
        case measure => rw [wi]; simp [intOf]
end
theorem cut_any {B : Nat} {b off cap : Nat} {D : List Nat} (n : Nat) (w : World) (hB : B ≤ w.heap.size) (hD : DgS B w b off cap D) (hn : n < D.length) (hnb : n < 1000000) : Calls Tryz.prog 99 #[.slice (some ⟨b, off, none⟩) D.length cap, .int .i64 n] w (CutPost B w b (cutP D n)) := by
  obtain ⟨d, hd⟩ : ∃ d, D[n]? = some d := ⟨_, List.getElem?_eq_getElem hn⟩
  by_cases h5 : d = 5
  · subst h5
    by_cases hup : 0 < (bareP (D.drop (n + 1))).length
    · exact cut_5a n w hB hD hn hd hnb hup
    · have hup0 : (bareP (D.drop (n + 1))).length = 0 := by omega
      cases n with
      | zero =>
        rw [cutP_no (by rw [upP_5 hd, hup0]; simp)]
        cases D with
        | nil => simp at hn
        | cons d0 r =>
          have hd0 : d0 = 5 := by simpa using hd
          subst hd0
          exact cut_5z w r hD hup0
      | succ m =>
        obtain ⟨d1, hd1⟩ : ∃ d1, D[m]? = some d1 := ⟨_, List.getElem?_eq_getElem (by omega)⟩
        by_cases he : d1 % 2 = 1
        · exact cut_5o (m + 1) w (by omega) hB hD hn hd hnb hup0 d1 hd1 he
        · rw [cutP_no (by rw [upP_5 hd, List.getD_eq_getElem?_getD, show m + 1 - 1 = m by omega, hd1]; simp [hup0, he])]
          exact cut_5e (m + 1) w (by omega) hB hD hn hd hnb hup0 d1 hd1 he
  · by_cases h6 : 5 < d
    · exact cut_hi n w hB hD hn d hd h6 hnb
    · rw [cutP_no (by rw [upP_ne hd h5]; simpa using h6)]
      exact cut_lo n w hB hD hn d hd (by omega) hnb
end Go.Proofs.YtndhmahkglfopaaGreatDoor
