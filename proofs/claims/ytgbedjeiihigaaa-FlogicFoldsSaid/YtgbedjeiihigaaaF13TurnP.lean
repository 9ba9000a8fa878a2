/- Plain: AND, OR, XOR of truths. -/
import Derived.Test.YtgbedjeiihigaaaF13RowsA
namespace Go.Proofs.Ytgbedjeiihigaaa
open Go.RowKit
theorem scan_truths (l : List Bool) (y a : Int) : scan (l.map vTruth) y a = .ok (y + (l.count true : Nat), a + (l.length : Nat)) := by
  induction l generalizing y a with
  | nil => simp [scan]
  | cons b r ih =>
    have h1 : (TT (vTruth b)).2 = 0 := by simp [TT, toT, vTruth]
    have h2 : (TT (vTruth b)).1 = b := by simp [TT, toT, vTruth]
    have h3 : (vTruth b).k ≠ 0 := by simp [vTruth]
    simp only [List.map_cons, scan]
    rw [if_neg (by simp [h1]), if_neg h3, ih, h2]
    cases b with
    | true => simp; omega
    | false => simp; omega
theorem allV_arrs (l : List V) : allV (arrs l) = l := by
  unfold allV arrs
  induction l with
  | nil => rfl
  | cons a r ih => simp [List.flatMap_cons, ih]
theorem truths_of (fn : Int → Int → Bool) (l : List Bool) (h : l ≠ []) : truthsV fn (arrs (l.map vTruth)) = vTruth (fn (l.count true : Nat) (l.length : Nat)) := by
  unfold truthsV
  rw [allV_arrs, scan_truths]
  have : (l.length : Int) ≠ 0 := by
    have := List.length_pos_iff.2 h
    omega
  simp only [Int.zero_add]
  rw [if_neg this]
theorem not_truth (b : Bool) : notV (vTruth b) = vTruth (!b) := by simp [notV, TT, toT, vTruth]
theorem count_not (l : List Bool) : (l.map (!·)).count true = l.length - l.count true := by
  induction l with
  | nil => rfl
  | cons b r ih =>
    have := List.count_le_length (a := true) (l := r)
    cases b <;> simp [ih] <;> omega
/-- AND is not the OR of the others. -/
theorem and_nor (l : List Bool) (h : l ≠ []) : truthsV andF (arrs (l.map vTruth)) = notV (truthsV orF (arrs ((l.map (!·)).map vTruth))) := by
  rw [truths_of _ _ h, truths_of _ _ (by simpa using h), not_truth, count_not]
  congr 1
  unfold andF orF
  have := List.count_le_length (a := true) (l := l)
  by_cases hc : l.count true = l.length
  · simp [hc]
  · have h1 : ¬ ((l.count true : Int) = (l.length : Int)) := by omega
    have h2 : (0 : Int) < ((l.length - l.count true : Nat) : Int) := by omega
    simp [h1]
    omega
def oddOf (l : List Bool) : Bool := l.foldl (fun o b => o != b) false
theorem oddOf_snoc (l : List Bool) (b : Bool) : oddOf (l ++ [b]) = (oddOf l != b) := by simp [oddOf]
theorem oddOf_eq (l : List Bool) : oddOf l = decide (l.count true % 2 = 1) := by
  have key : ∀ (l : List Bool) (o : Bool), l.foldl (fun o b => o != b) o = (o != decide (l.count true % 2 = 1)) := by
    intro l
    induction l with
    | nil => intro o; simp
    | cons b r ih =>
      intro o
      rw [List.foldl_cons, ih]
      by_cases hc : r.count true % 2 = 1
      · have h2 : ¬ ((r.count true + 1) % 2 = 1) := by omega
        cases b <;> cases o <;> simp [hc, h2]
      · have h2 : (r.count true + 1) % 2 = 1 := by omega
        cases b <;> cases o <;> simp [hc, h2]
  unfold oddOf
  rw [key]
  simp
theorem xor_odd (l : List Bool) (h : l ≠ []) : truthsV xorF (arrs (l.map vTruth)) = vTruth (oddOf l) := by
  rw [truths_of _ _ h, oddOf_eq]
  congr 1
  unfold xorF
  apply decide_eq_decide.2
  omega
/-- Turned by k. -/
def rot (l : List Bool) (k n : Nat) : List Bool := (List.range n).map fun i => l.getD ((i + k) % l.length) false
theorem rot_snoc (l : List Bool) (k n : Nat) : rot l k (n + 1) = rot l k n ++ [l.getD ((n + k) % l.length) false] := by simp [rot, List.range_succ]
theorem rot_len (l : List Bool) (k n : Nat) : (rot l k n).length = n := by simp [rot]
theorem rot_eq (l : List Bool) (k : Nat) (hk : k < l.length) : rot l k l.length = l.drop k ++ l.take k := by
  apply List.ext_getElem
  · simp [rot]; omega
  · intro i h1 h2
    simp only [rot_len] at h1
    have e : (rot l k l.length)[i] = l.getD ((i + k) % l.length) false := by simp [rot]
    rw [e]
    by_cases hi : i + k < l.length
    · rw [Nat.mod_eq_of_lt hi, List.getElem_append_left (by simp; omega)]
      have hi' : k + i < l.length := by omega
      simp [Nat.add_comm i k, hi']
    · have hm : (i + k) % l.length = i + k - l.length := by
        rw [Nat.mod_eq_sub_mod (by omega), Nat.mod_eq_of_lt (by omega)]
      rw [hm, List.getElem_append_right (by simp; omega)]
      have hlt : i + k - l.length < l.length := by omega
      simp [hlt]
      congr 1
      omega
theorem rot_truths (fn : Int → Int → Bool) (l : List Bool) (k : Nat) (hk : k < l.length) : truthsV fn (arrs ((rot l k l.length).map vTruth)) = truthsV fn (arrs (l.map vTruth)) := by
  have h : l ≠ [] := fun e => by rw [e] at hk; simp at hk
  have hr : rot l k l.length ≠ [] := fun e => by
    have := rot_len l k l.length
    rw [e] at this
    simp at this
    omega
  rw [truths_of _ _ h, truths_of _ _ hr, rot_len, rot_eq l k hk, List.count_append]
  have : (l.drop k).count true + (l.take k).count true = l.count true := by
    conv => rhs; rw [← List.take_append_drop k l, List.count_append]
    omega
  rw [this]
end Go.Proofs.Ytgbedjeiihigaaa
