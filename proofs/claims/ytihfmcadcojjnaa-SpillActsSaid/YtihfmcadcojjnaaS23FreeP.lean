/- Plain: whose cells are, and what becomes of a lone rect. -/
import Derived.Test.YtihfmcadcojjnaaS23Awake
namespace Go.Proofs.Ytihfmcadcojjnaa
open Go.RowKit
theorem mem_rowOf {r c : Int} {cs i : Nat} {x y : Int} : (x, y) ∈ rowOf r c cs i ↔ x = r + (i : Int) ∧ c ≤ y ∧ y < c + (cs : Int) := by
  unfold rowOf
  simp only [List.mem_map, List.mem_range, Prod.mk.injEq]
  constructor
  · rintro ⟨j, hj, h1, h2⟩; omega
  · rintro ⟨h1, h2, h3⟩; exact ⟨(y - c).toNat, by omega, by omega, by omega⟩
theorem mem_cellsOf {r c : Int} {rs cs : Nat} {x y : Int} : (x, y) ∈ cellsOf r c rs cs ↔ r ≤ x ∧ x < r + (rs : Int) ∧ c ≤ y ∧ y < c + (cs : Int) := by
  unfold cellsOf
  simp only [List.mem_flatMap, List.mem_range, mem_rowOf]
  constructor
  · rintro ⟨i, hi, h1, h2, h3⟩; omega
  · rintro ⟨h1, h2, h3, h4⟩; exact ⟨(x - r).toNat, by omega, by omega, h3, h4⟩
theorem getL_own (o : List (P2 × R4)) (q : R4) (l : List P2) (x : P2) : getL (own o q l) x = if x ∈ l then some q else getL o x := by
  induction l generalizing o with
  | nil => simp [own]
  | cons a r ih =>
    have : own o q (a :: r) = own (putL o a q) q r := rfl
    rw [this, ih, getL_putL]
    by_cases h1 : x ∈ r
    · simp [h1]
    · by_cases h2 : a = x
      · simp [h2]
      · have h3 : x ≠ a := fun e => h2 e.symm
        simp [h1, h2, h3]
def gF (rows cols row col : Int) : G := gFill (gNew rows cols) row col
structure FreeH (rows cols row col R C : Int) : Prop where
  h1 : 1 ≤ rows
  h2 : rows ≤ 10
  h3 : 1 ≤ cols
  h4 : cols ≤ 10
  h5 : 0 ≤ row
  h6 : row < rows
  h7 : 0 ≤ col
  h8 : col < cols
  h9 : 1 ≤ R
  h10 : R ≤ 12
  h11 : 1 ≤ C
  h12 : C ≤ 12
section
variable {rows cols row col R C : Int}
theorem free_ok (H : FreeH rows cols row col R C) : okFill (gNew rows cols) row col = true := by
  obtain ⟨h1, h2, h3, h4, h5, h6, h7, h8, h9, h10, h11, h12⟩ := id H
  have e1 : clamp rows = rows := by unfold clamp; rw [if_neg (by omega), if_neg (by omega)]
  have e2 : clamp cols = cols := by unfold clamp; rw [if_neg (by omega), if_neg (by omega)]
  simp [okFill, gNew, G.has, e1, e2, h5, h6, h7, h8]
theorem free_g (H : FreeH rows cols row col R C) : gF rows cols row col = ⟨rows, cols, [((row, col), true)], [], [], []⟩ := by
  obtain ⟨h1, h2, h3, h4, h5, h6, h7, h8, h9, h10, h11, h12⟩ := id H
  have e1 : clamp rows = rows := by unfold clamp; rw [if_neg (by omega), if_neg (by omega)]
  have e2 : clamp cols = cols := by unfold clamp; rw [if_neg (by omega), if_neg (by omega)]
  unfold gF gFill
  rw [free_ok H, if_pos rfl]
  simp [gNew, putL, e1, e2]
theorem free_err (H : FreeH rows cols row col R C) : gErr (gF rows cols row col) row col R C = 0 := by
  obtain ⟨h1, h2, h3, h4, h5, h6, h7, h8, h9, h10, h11, h12⟩ := id H
  rw [free_g H]
  have hq : R ≤ 4096 / C := by
    rw [Int.le_ediv_iff_mul_le (by omega)]
    have : R * C ≤ 12 * C := Int.mul_le_mul_of_nonneg_right h10 (by omega)
    omega
  unfold gErr
  rw [if_neg (by simp [G.has, h5, h6, h7, h8]; omega), if_neg (by simp [getL]), if_neg (by simp [getL])]
theorem free_judge (H : FreeH rows cols row col R C) : (gJudge (gF rows cols row col) row col R C).st = (decide (R ≤ rows - row) && decide (C ≤ cols - col)) ∧ (gJudge (gF rows cols row col) row col R C).kn = false := by
  obtain ⟨h1, h2, h3, h4, h5, h6, h7, h8, h9, h10, h11, h12⟩ := id H
  rw [free_g H]
  cases hb : beyond ⟨rows, cols, [((row, col), true)], [], [], []⟩ row col R C with
  | true =>
    unfold gJudge
    rw [hb]
    refine ⟨?_, rfl⟩
    unfold beyond at hb
    simp at hb
    have : ¬ (R ≤ rows - row ∧ C ≤ cols - col) := by omega
    simp only [if_true]
    symm
    simpa using this
  | false =>
    rw [judge_free hb]
    · unfold beyond at hb
      simp at hb
      refine ⟨?_, rfl⟩
      symm
      simp
      omega
    · intro x _
      unfold blocked
      simp only [getL, Bool.false_or]
      by_cases hx : (row, col) = x
      · simp [hx.symm]
      · simp [hx]
theorem free_stands (H : FreeH rows cols row col R C) : gStands (gF rows cols row col) row col R C = (decide (R ≤ rows - row) && decide (C ≤ cols - col)) := by
  unfold gStands
  rw [free_err H, (free_judge H).1]
  simp
theorem free_owner (H : FreeH rows cols row col R C) (i k : Int) : getL (gDecide (gF rows cols row col) row col R C).O (i, k) =
    if (decide (R ≤ rows - row) && decide (C ≤ cols - col)) = true ∧ row ≤ i ∧ i < row + R ∧ col ≤ k ∧ k < col + C then some (row, col, R, C) else none := by
  obtain ⟨h1, h2, h3, h4, h5, h6, h7, h8, h9, h10, h11, h12⟩ := id H
  unfold gDecide
  rw [if_pos (free_err H)]
  simp only [(free_judge H).1]
  have hO : (gF rows cols row col).O = [] := by rw [free_g H]
  cases hf : (decide (R ≤ rows - row) && decide (C ≤ cols - col)) with
  | true =>
    simp only [if_true, getL_own, mem_cellsOf, hO, getL]
    have e1 : (R.toNat : Int) = R := by omega
    have e2 : (C.toNat : Int) = C := by omega
    rw [e1, e2]
    simp
  | false => simp [hO, getL]
theorem free_bar (H : FreeH rows cols row col R C) : (verdictOf (gDecide (gF rows cols row col) row col R C) row col).kn = false := by
  have hA : (gF rows cols row col).A = [] := by rw [free_g H]
  have hL : (gF rows cols row col).L = [] := by rw [free_g H]
  unfold gDecide verdictOf
  rw [if_pos (free_err H)]
  simp only [hA, hL, putL, getL, if_true]
  simpa using (free_judge H).2
theorem free_len (H : FreeH rows cols row col R C) : (gDecide (gF rows cols row col) row col R C).L.length ≤ 1000000 := by
  have := len_decide (gF rows cols row col) row col R C
  have hL : (gF rows cols row col).L = [] := by rw [free_g H]
  rw [hL] at this
  simp at this
  omega
theorem free_wf (rows cols row col R C : Int) : WfA (gDecide (gF rows cols row col) row col R C) := wfA_decide (wfA_fill (wfA_new _ _) _ _) _ _ _ _
end
end Go.Proofs.Ytihfmcadcojjnaa
