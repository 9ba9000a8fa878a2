/- awake16, plainly. -/
import Derived.Test.YtndhmahkglfopaaGreatDoorQT13Fold2
namespace Go.Proofs.YtndhmahkglfopaaGreatDoor
theorem dec1 {n : Nat} (h : n < 10) : Lib.decDigits n = [UInt8.ofNat (48 + n)] := by rw [Lib.decDigits]; simp [h]
theorem digs1 {n : Nat} (h : n < 10) : digs n = [n] := by
  unfold digs
  rw [dec1 h]
  simp [UInt8.toNat_ofNat']
  omega
theorem nd1 {n : Nat} (h0 : n ≠ 0) (h : n < 10) : nd n = 1 := by
  have e : n / 10 = 0 := by omega
  have z : nd 0 = 0 := by rw [nd]; simp
  rw [nd]
  simp [h0, e, z]
theorem trimW1 {n : Nat} (_h0 : n ≠ 0) (_h : n < 10) : trimW n = n := by
  rw [trimW]
  have : ¬ (n ≠ 0 ∧ n % 10 = 0) := by omega
  simp [this]
theorem trimE1 {n : Nat} (_h0 : n ≠ 0) (_h : n < 10) : trimE n = 0 := by
  rw [trimE]
  have : ¬ (n ≠ 0 ∧ n % 10 = 0) := by omega
  simp [this]
theorem round1 {n : Nat} (h0 : n ≠ 0) (h : n < 10) : roundP false [0, n] 0 = (((n : Int), 0), true) := by
  have hv : valD [n] = n := by simp [valD]
  have hb : bareP [0, n] = [n] := by simp [bareP, h0]
  have hr : numR n 0 = true := by
    unfold numR
    rw [if_neg (by omega), Int.natAbs_natCast, nd1 h0 h]
    simp
    omega
  unfold roundP
  rw [hb]
  simp only [List.length_singleton]
  rw [if_neg (by omega), if_neg (by omega)]
  unfold stg1
  rw [if_neg (by simp)]
  unfold stg2
  rw [if_neg (by omega)]
  unfold finP
  rw [hv]
  have e1 : trimM false n = n := by unfold trimM; simp [trimW1 h0 h]
  have e2 : trimX n 0 = 0 := by unfold trimX; simp [h0, trimE1 h0 h]
  rw [e1, e2, if_pos hr]
theorem add01 : addR 0 0 1 0 = ((1, 0), true) := by
  unfold addR
  simp only [sprP, digs1 (n := 0) (by omega), Int.natAbs_zero, show (1 : Int).natAbs = 1 from rfl, digs1 (n := 1) (by omega), Int.min_self, Int.sub_self, Int.toNat_zero, List.replicate_zero, List.append_nil, List.length_singleton, Nat.max_self]
  have e : settleP (gatP false (gatP false [0, 0] [0]) [1]) = ([0, 1], false) := by kernel_rfl
  exact (congrArg (fun q => roundP q.2 q.1 0) e).trans (round1 (n := 1) (by omega) (by omega))
theorem add12 : addR 1 0 2 0 = ((3, 0), true) := by
  unfold addR
  simp only [sprP, show (2 : Int).natAbs = 2 from rfl, digs1 (n := 2) (by omega), show (1 : Int).natAbs = 1 from rfl, digs1 (n := 1) (by omega), Int.min_self, Int.sub_self, Int.toNat_zero, List.replicate_zero, List.append_nil, List.length_singleton, Nat.max_self]
  have e : settleP (gatP false (gatP false [0, 0] [1]) [2]) = ([0, 3], false) := by kernel_rfl
  exact (congrArg (fun q => roundP q.2 q.1 0) e).trans (round1 (n := 3) (by omega) (by omega))
theorem add33 : addR 3 0 3 0 = ((6, 0), true) := by
  unfold addR
  simp only [sprP, show (3 : Int).natAbs = 3 from rfl, digs1 (n := 3) (by omega), Int.min_self, Int.sub_self, Int.toNat_zero, List.replicate_zero, List.append_nil, List.length_singleton, Nat.max_self]
  have e : settleP (gatP false (gatP false [0, 0] [3]) [3]) = ([0, 6], false) := by kernel_rfl
  exact (congrArg (fun q => roundP q.2 q.1 0) e).trans (round1 (n := 6) (by omega) (by omega))
end Go.Proofs.YtndhmahkglfopaaGreatDoor
