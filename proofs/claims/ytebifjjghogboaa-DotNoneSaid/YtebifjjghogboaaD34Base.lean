/- Ids: may, writes, Before; the document's May and Before. -/
import Derived.Test.YtebifjjghogboaaProg
import Derived.Test.YtebifjjghogboaaMix
namespace Go.Proofs.Ytebifjjghogboaa
open Go.RowKit
/-- An id: its author, its number. -/
abbrev Id2 := Int × Int
def encI (i : Id2) : Value := .agg #[.int .i64 i.1, .int .i64 i.2]
def mayB (i : Id2) : Bool := decide (1 ≤ i.1) && decide (i.1 ≤ 1000) && decide (1 ≤ i.2)
def befB (a b : Id2) : Bool := decide (a.2 < b.2) || (decide (a.2 = b.2) && decide (a.1 < b.1))
set_option maxHeartbeats 400000 in
theorem writes_any (a : Int) (w : World) : Calls Try.prog 30 #[.int .i64 a] w fun e w' => e = .returned (.bool (decide (1 ≤ a) && decide (a ≤ 1000))) ∧ w = w' := by
  by_cases h1 : 1 ≤ a
  · by_cases h2 : a ≤ 1000
    · have e : (decide (1 ≤ a) && decide (a ≤ 1000)) = true := by simp [h1, h2]
      rw [e]
      clear e
      go_enter Try.func30, Try.ntmps30
      go_wp2
      go_ret
      exact ⟨rfl, rfl⟩
    · have e : (decide (1 ≤ a) && decide (a ≤ 1000)) = false := by simp [h2]
      have t2 : decide (a ≤ 1000) = false := by simpa using h2
      rw [e]
      clear e h2
      go_enter Try.func30, Try.ntmps30
      go_wp2
      go_ret
      exact ⟨rfl, rfl⟩
  · have e : (decide (1 ≤ a) && decide (a ≤ 1000)) = false := by simp [h1]
    have t1 : decide (1 ≤ a) = false := by simpa using h1
    rw [e]
    clear e h1
    go_enter Try.func30, Try.ntmps30
    go_wp2
    go_ret
    exact ⟨rfl, rfl⟩
set_option maxHeartbeats 400000 in
theorem may_any (i : Id2) (w : World) : Calls Try.prog 28 #[encI i] w fun e w' => e = .returned (.bool (mayB i)) ∧ Below w.heap.size w w' := by
  obtain ⟨a, n⟩ := i
  unfold encI mayB
  simp only
  have HW := Lib.hid (writes_any a)
  generalize (decide (1 ≤ a) && decide (a ≤ 1000)) = B at HW ⊢
  cases B with
  | true =>
    simp only [Bool.true_and]
    go_enter Try.func28, Try.ntmps28
    go_wp2_with fail
    refine (HW.out _).mono ?_
    rintro e w1 ⟨rfl, rfl⟩
    go_wp2_with fail
    go_ret
    refine ⟨rfl, ?_⟩
    (repeat (first | with_reducible exact Below.refl _ _ | with_reducible exact hBW | with_reducible refine Below.setCell ?_ ?_ _ | with_reducible refine Below.alloc ?_ ?_ _ | with_reducible refine belowN ?_ _ | with_reducible refine Below.drew ?_)); all_goals (first | omega | (dsimp only; omega) | ((repeat (first | with_reducible refine le_alloc ?_ | with_reducible refine le_setCell ?_ | with_reducible refine le_drew ?_ | with_reducible refine le_drewN ?_)); omega))
  | false =>
    simp only [Bool.false_and]
    go_enter Try.func28, Try.ntmps28
    go_wp2_with fail
    refine (HW.out _).mono ?_
    rintro e w1 ⟨rfl, rfl⟩
    go_wp2_with fail
    go_ret
    refine ⟨rfl, ?_⟩
    (repeat (first | with_reducible exact Below.refl _ _ | with_reducible exact hBW | with_reducible refine Below.setCell ?_ ?_ _ | with_reducible refine Below.alloc ?_ ?_ _ | with_reducible refine belowN ?_ _ | with_reducible refine Below.drew ?_)); all_goals (first | omega | (dsimp only; omega) | ((repeat (first | with_reducible refine le_alloc ?_ | with_reducible refine le_setCell ?_ | with_reducible refine le_drew ?_ | with_reducible refine le_drewN ?_)); omega))
set_option maxHeartbeats 400000 in
theorem before_any (a b : Id2) (w : World) : Calls Try.prog 20 #[encI a, encI b] w fun e w' => e = .returned (.bool (befB a b)) ∧ Below w.heap.size w w' := by
  obtain ⟨a1, a2⟩ := a
  obtain ⟨b1, b2⟩ := b
  unfold encI befB
  simp only
  by_cases h1 : a2 < b2
  · have e : (decide (a2 < b2) || (decide (a2 = b2) && decide (a1 < b1))) = true := by simp [h1]
    rw [e]
    clear e
    go_enter Try.func20, Try.ntmps20
    go_wp2
    go_ret
    refine ⟨rfl, ?_⟩
    (repeat (first | with_reducible exact Below.refl _ _ | with_reducible exact hBW | with_reducible refine Below.setCell ?_ ?_ _ | with_reducible refine Below.alloc ?_ ?_ _ | with_reducible refine belowN ?_ _ | with_reducible refine Below.drew ?_)); all_goals (first | omega | (dsimp only; omega) | ((repeat (first | with_reducible refine le_alloc ?_ | with_reducible refine le_setCell ?_ | with_reducible refine le_drew ?_ | with_reducible refine le_drewN ?_)); omega))
  · have t1 : decide (a2 < b2) = false := by simpa using h1
    by_cases h2 : a2 = b2
    · subst h2
      have e : (decide (a2 < a2) || (decide (a2 = a2) && decide (a1 < b1))) = decide (a1 < b1) := by simp
      have t2 : (a2 == a2) = true := by simp
      rw [e]
      clear e h1
      go_enter Try.func20, Try.ntmps20
      go_wp2
      go_ret
      refine ⟨rfl, ?_⟩
      (repeat (first | with_reducible exact Below.refl _ _ | with_reducible exact hBW | with_reducible refine Below.setCell ?_ ?_ _ | with_reducible refine Below.alloc ?_ ?_ _ | with_reducible refine belowN ?_ _ | with_reducible refine Below.drew ?_)); all_goals (first | omega | (dsimp only; omega) | ((repeat (first | with_reducible refine le_alloc ?_ | with_reducible refine le_setCell ?_ | with_reducible refine le_drew ?_ | with_reducible refine le_drewN ?_)); omega))
    · have e : (decide (a2 < b2) || (decide (a2 = b2) && decide (a1 < b1))) = false := by simp [h1, h2]
      have t2 : (a2 == b2) = false := by simpa using h2
      rw [e]
      clear e h1 h2
      go_enter Try.func20, Try.ntmps20
      go_wp2
      go_ret
      refine ⟨rfl, ?_⟩
      (repeat (first | with_reducible exact Below.refl _ _ | with_reducible exact hBW | with_reducible refine Below.setCell ?_ ?_ _ | with_reducible refine Below.alloc ?_ ?_ _ | with_reducible refine belowN ?_ _ | with_reducible refine Below.drew ?_)); all_goals (first | omega | (dsimp only; omega) | ((repeat (first | with_reducible refine le_alloc ?_ | with_reducible refine le_setCell ?_ | with_reducible refine le_drew ?_ | with_reducible refine le_drewN ?_)); omega))
set_option maxHeartbeats 400000 in
theorem refBefore_any (a b : Id2) (w : World) : Calls Try.prog 21 #[encI a, encI b] w fun e w' => e = .returned (.bool (befB a b)) ∧ Below w.heap.size w w' := by
  obtain ⟨a1, a2⟩ := a
  obtain ⟨b1, b2⟩ := b
  unfold encI befB
  simp only
  by_cases h1 : a2 < b2
  · have e : (decide (a2 < b2) || (decide (a2 = b2) && decide (a1 < b1))) = true := by simp [h1]
    rw [e]
    clear e
    go_enter Try.func21, Try.ntmps21
    go_wp2
    go_ret
    refine ⟨rfl, ?_⟩
    (repeat (first | with_reducible exact Below.refl _ _ | with_reducible exact hBW | with_reducible refine Below.setCell ?_ ?_ _ | with_reducible refine Below.alloc ?_ ?_ _ | with_reducible refine belowN ?_ _ | with_reducible refine Below.drew ?_)); all_goals (first | omega | (dsimp only; omega) | ((repeat (first | with_reducible refine le_alloc ?_ | with_reducible refine le_setCell ?_ | with_reducible refine le_drew ?_ | with_reducible refine le_drewN ?_)); omega))
  · have t1 : decide (a2 < b2) = false := by simpa using h1
    by_cases h2 : a2 = b2
    · subst h2
      have e : (decide (a2 < a2) || (decide (a2 = a2) && decide (a1 < b1))) = decide (a1 < b1) := by simp
      have t2 : (a2 == a2) = true := by simp
      rw [e]
      clear e h1
      go_enter Try.func21, Try.ntmps21
      go_wp2
      go_ret
      refine ⟨rfl, ?_⟩
      (repeat (first | with_reducible exact Below.refl _ _ | with_reducible exact hBW | with_reducible refine Below.setCell ?_ ?_ _ | with_reducible refine Below.alloc ?_ ?_ _ | with_reducible refine belowN ?_ _ | with_reducible refine Below.drew ?_)); all_goals (first | omega | (dsimp only; omega) | ((repeat (first | with_reducible refine le_alloc ?_ | with_reducible refine le_setCell ?_ | with_reducible refine le_drew ?_ | with_reducible refine le_drewN ?_)); omega))
    · have e : (decide (a2 < b2) || (decide (a2 = b2) && decide (a1 < b1))) = false := by simp [h1, h2]
      have t2 : (a2 == b2) = false := by simpa using h2
      rw [e]
      clear e h1 h2
      go_enter Try.func21, Try.ntmps21
      go_wp2
      go_ret
      refine ⟨rfl, ?_⟩
      (repeat (first | with_reducible exact Below.refl _ _ | with_reducible exact hBW | with_reducible refine Below.setCell ?_ ?_ _ | with_reducible refine Below.alloc ?_ ?_ _ | with_reducible refine belowN ?_ _ | with_reducible refine Below.drew ?_)); all_goals (first | omega | (dsimp only; omega) | ((repeat (first | with_reducible refine le_alloc ?_ | with_reducible refine le_setCell ?_ | with_reducible refine le_drew ?_ | with_reducible refine le_drewN ?_)); omega))
set_option maxHeartbeats 400000 in
theorem refMay_any (i : Id2) (w : World) : Calls Try.prog 27 #[encI i] w fun e w' => e = .returned (.bool (mayB i)) ∧ Below w.heap.size w w' := by
  obtain ⟨a, n⟩ := i
  unfold encI mayB
  simp only
  by_cases h1 : 1 ≤ a
  · by_cases h2 : a ≤ 1000
    · have e : (decide (1 ≤ a) && decide (a ≤ 1000) && decide (1 ≤ n)) = decide (1 ≤ n) := by simp [h1, h2]
      rw [e]
      clear e
      go_enter Try.func27, Try.ntmps27
      go_wp2
      go_ret
      refine ⟨rfl, ?_⟩
      (repeat (first | with_reducible exact Below.refl _ _ | with_reducible exact hBW | with_reducible refine Below.setCell ?_ ?_ _ | with_reducible refine Below.alloc ?_ ?_ _ | with_reducible refine belowN ?_ _ | with_reducible refine Below.drew ?_)); all_goals (first | omega | (dsimp only; omega) | ((repeat (first | with_reducible refine le_alloc ?_ | with_reducible refine le_setCell ?_ | with_reducible refine le_drew ?_ | with_reducible refine le_drewN ?_)); omega))
    · have e : (decide (1 ≤ a) && decide (a ≤ 1000) && decide (1 ≤ n)) = false := by simp [h2]
      have t2 : decide (a ≤ 1000) = false := by simpa using h2
      rw [e]
      clear e h2
      go_enter Try.func27, Try.ntmps27
      go_wp2
      go_ret
      refine ⟨rfl, ?_⟩
      (repeat (first | with_reducible exact Below.refl _ _ | with_reducible exact hBW | with_reducible refine Below.setCell ?_ ?_ _ | with_reducible refine Below.alloc ?_ ?_ _ | with_reducible refine belowN ?_ _ | with_reducible refine Below.drew ?_)); all_goals (first | omega | (dsimp only; omega) | ((repeat (first | with_reducible refine le_alloc ?_ | with_reducible refine le_setCell ?_ | with_reducible refine le_drew ?_ | with_reducible refine le_drewN ?_)); omega))
  · have e : (decide (1 ≤ a) && decide (a ≤ 1000) && decide (1 ≤ n)) = false := by simp [h1]
    have t1 : decide (1 ≤ a) = false := by simpa using h1
    rw [e]
    clear e h1
    go_enter Try.func27, Try.ntmps27
    go_wp2
    go_ret
    refine ⟨rfl, ?_⟩
    (repeat (first | with_reducible exact Below.refl _ _ | with_reducible exact hBW | with_reducible refine Below.setCell ?_ ?_ _ | with_reducible refine Below.alloc ?_ ?_ _ | with_reducible refine belowN ?_ _ | with_reducible refine Below.drew ?_)); all_goals (first | omega | (dsimp only; omega) | ((repeat (first | with_reducible refine le_alloc ?_ | with_reducible refine le_setCell ?_ | with_reducible refine le_drew ?_ | with_reducible refine le_drewN ?_)); omega))
end Go.Proofs.Ytebifjjghogboaa
