/- The document's answer: when a value may be. (Written by tools/gen_ref02.py.) -/
import Derived.Test.YtndhmahkglfopaaGreatDoorQT13Num2
namespace Go.Proofs.YtndhmahkglfopaaGreatDoor
open Go.RowKit
def refR (v : V) : Bool :=
  (decide (v.k = 1) || decide (v.m = 0 ∧ v.e = 0)) && (decide (v.k = 2) || decide (v.t = ⟨#[]⟩)) && (decide (v.k = 3) || !v.b) && (decide (v.k = 4) || decide (v.f = 0)) &&
  (if v.k = 1 then numR v.m v.e else if v.k = 2 then decide (v.t.size ≤ 255) else decide (v.k = 0 ∨ v.k = 3 ∨ (v.k = 4 ∧ 1 ≤ v.f ∧ v.f ≤ 9)))
/-- What may be, may be. -/
theorem refR_right {v : V} (h : refR v = true) : RightOk v := by
  obtain ⟨k, m, e, t, b, f⟩ := v
  unfold refR at h
  simp only [Bool.and_eq_true, Bool.or_eq_true, decide_eq_true_eq, Bool.not_eq_true'] at h
  obtain ⟨⟨⟨⟨h1, h2⟩, h3⟩, h4⟩, h5⟩ := h
  by_cases k1 : k = 1
  · subst k1
    simp at h2 h3 h4 h5
    subst h2 h3 h4
    exact right_num m e h5
  · by_cases k2 : k = 2
    · subst k2
      simp at h1 h3 h4 h5
      obtain ⟨rfl, rfl⟩ := h1
      subst h3 h4
      exact right_text t h5
    · simp [k1, k2] at h1 h2 h5
      obtain ⟨rfl, rfl⟩ := h1
      subst h2
      rcases h5 with rfl | rfl | ⟨rfl, h6, h7⟩
      · simp at h3 h4
        subst h3 h4
        exact rightOk_blank
      · simp at h4
        subst h4
        exact rightOk_truth b
      · simp at h3
        subst h3
        refine rightOk_plain (by simp) (by simp) ?_
        simp [rightP, h6, h7]
theorem ne_facts {t : ByteArray} (h : t ≠ ⟨#[]⟩) : t.toList ≠ [] := by
  intro e
  rw [ByteArray.toList_eq] at e
  obtain ⟨⟨x⟩⟩ := t
  simp at e
  subst e
  exact h rfl
structure KOther (k : Int) : Prop where
  x0 : (k == 0) = false
  x1 : (k == 1) = false
  x2 : (k == 2) = false
  x3 : (k == 3) = false
  x4 : (k == 4) = false
  y1 : (k != 1) = true
  y2 : (k != 2) = true
  y3 : (k != 3) = true
  y4 : (k != 4) = true
section
set_option maxHeartbeats 2000000
set_option maxRecDepth 100000
theorem r_0_m (m e f : Int) (t : ByteArray) (b : Bool) (w : World) (h : (m == 0) = false) : Calls Tryz.prog 23 #[.agg #[.int .i64 0, .int .i64 m, .int .i64 e, .string t, .bool b, .int .i64 f]] w fun r w' => r = .returned (.bool false) ∧ Below w.heap.size w w' := by
  go_enter Tryz.func23, Tryz.ntmps23
  go_wp2_with fail
  go_ret
  refine ⟨rfl, ?_⟩
  (repeat with_reducible (first | exact bw0 _ _ | exact hBW | refine bw1 ?_ ?_ _ | refine bw2 ?_ ?_ _ | refine bw3 ?_ _ | refine bw4 ?_)); all_goals (first | omega | (dsimp only; omega) | ((repeat with_reducible (first | refine lz1 ?_ | refine lz2 ?_ | refine lz3 ?_ | refine lz4 ?_)); omega))
theorem r_0_e (e f : Int) (t : ByteArray) (b : Bool) (w : World) (h : (e == 0) = false) : Calls Tryz.prog 23 #[.agg #[.int .i64 0, .int .i64 0, .int .i64 e, .string t, .bool b, .int .i64 f]] w fun r w' => r = .returned (.bool false) ∧ Below w.heap.size w w' := by
  go_enter Tryz.func23, Tryz.ntmps23
  go_wp2_with fail
  go_ret
  refine ⟨rfl, ?_⟩
  (repeat with_reducible (first | exact bw0 _ _ | exact hBW | refine bw1 ?_ ?_ _ | refine bw2 ?_ ?_ _ | refine bw3 ?_ _ | refine bw4 ?_)); all_goals (first | omega | (dsimp only; omega) | ((repeat with_reducible (first | refine lz1 ?_ | refine lz2 ?_ | refine lz3 ?_ | refine lz4 ?_)); omega))
theorem r_0_t (f : Int) (t : ByteArray) (b : Bool) (w : World) (h : t ≠ ⟨#[]⟩) : Calls Tryz.prog 23 #[.agg #[.int .i64 0, .int .i64 0, .int .i64 0, .string t, .bool b, .int .i64 f]] w fun r w' => r = .returned (.bool false) ∧ Below w.heap.size w w' := by
  have s1 := ne_facts h
  have s2 : t.toList.isEmpty = false := by simpa using s1
  clear h
  go_enter Tryz.func23, Tryz.ntmps23
  go_wp2_with fail
  go_ret
  refine ⟨rfl, ?_⟩
  (repeat with_reducible (first | exact bw0 _ _ | exact hBW | refine bw1 ?_ ?_ _ | refine bw2 ?_ ?_ _ | refine bw3 ?_ _ | refine bw4 ?_)); all_goals (first | omega | (dsimp only; omega) | ((repeat with_reducible (first | refine lz1 ?_ | refine lz2 ?_ | refine lz3 ?_ | refine lz4 ?_)); omega))
theorem r_0_b (f : Int) (w : World) : Calls Tryz.prog 23 #[.agg #[.int .i64 0, .int .i64 0, .int .i64 0, .string ⟨#[]⟩, .bool true, .int .i64 f]] w fun r w' => r = .returned (.bool false) ∧ Below w.heap.size w w' := by
  go_enter Tryz.func23, Tryz.ntmps23
  go_wp2_with fail
  go_ret
  refine ⟨rfl, ?_⟩
  (repeat with_reducible (first | exact bw0 _ _ | exact hBW | refine bw1 ?_ ?_ _ | refine bw2 ?_ ?_ _ | refine bw3 ?_ _ | refine bw4 ?_)); all_goals (first | omega | (dsimp only; omega) | ((repeat with_reducible (first | refine lz1 ?_ | refine lz2 ?_ | refine lz3 ?_ | refine lz4 ?_)); omega))
theorem r_0_f (f : Int) (w : World) (h : (f != 0) = true) : Calls Tryz.prog 23 #[.agg #[.int .i64 0, .int .i64 0, .int .i64 0, .string ⟨#[]⟩, .bool false, .int .i64 f]] w fun r w' => r = .returned (.bool false) ∧ Below w.heap.size w w' := by
  go_enter Tryz.func23, Tryz.ntmps23
  go_wp2_with fail
  go_ret
  refine ⟨rfl, ?_⟩
  (repeat with_reducible (first | exact bw0 _ _ | exact hBW | refine bw1 ?_ ?_ _ | refine bw2 ?_ ?_ _ | refine bw3 ?_ _ | refine bw4 ?_)); all_goals (first | omega | (dsimp only; omega) | ((repeat with_reducible (first | refine lz1 ?_ | refine lz2 ?_ | refine lz3 ?_ | refine lz4 ?_)); omega))
theorem r_0_ok  (w : World) : Calls Tryz.prog 23 #[.agg #[.int .i64 0, .int .i64 0, .int .i64 0, .string ⟨#[]⟩, .bool false, .int .i64 0]] w fun r w' => r = .returned (.bool true) ∧ Below w.heap.size w w' := by
  go_enter Tryz.func23, Tryz.ntmps23
  go_wp2_with fail
  go_ret
  refine ⟨rfl, ?_⟩
  (repeat with_reducible (first | exact bw0 _ _ | exact hBW | refine bw1 ?_ ?_ _ | refine bw2 ?_ ?_ _ | refine bw3 ?_ _ | refine bw4 ?_)); all_goals (first | omega | (dsimp only; omega) | ((repeat with_reducible (first | refine lz1 ?_ | refine lz2 ?_ | refine lz3 ?_ | refine lz4 ?_)); omega))
theorem r_2_m (m e f : Int) (t : ByteArray) (b : Bool) (w : World) (h : (m == 0) = false) : Calls Tryz.prog 23 #[.agg #[.int .i64 2, .int .i64 m, .int .i64 e, .string t, .bool b, .int .i64 f]] w fun r w' => r = .returned (.bool false) ∧ Below w.heap.size w w' := by
  go_enter Tryz.func23, Tryz.ntmps23
  go_wp2_with fail
  go_ret
  refine ⟨rfl, ?_⟩
  (repeat with_reducible (first | exact bw0 _ _ | exact hBW | refine bw1 ?_ ?_ _ | refine bw2 ?_ ?_ _ | refine bw3 ?_ _ | refine bw4 ?_)); all_goals (first | omega | (dsimp only; omega) | ((repeat with_reducible (first | refine lz1 ?_ | refine lz2 ?_ | refine lz3 ?_ | refine lz4 ?_)); omega))
theorem r_2_e (e f : Int) (t : ByteArray) (b : Bool) (w : World) (h : (e == 0) = false) : Calls Tryz.prog 23 #[.agg #[.int .i64 2, .int .i64 0, .int .i64 e, .string t, .bool b, .int .i64 f]] w fun r w' => r = .returned (.bool false) ∧ Below w.heap.size w w' := by
  go_enter Tryz.func23, Tryz.ntmps23
  go_wp2_with fail
  go_ret
  refine ⟨rfl, ?_⟩
  (repeat with_reducible (first | exact bw0 _ _ | exact hBW | refine bw1 ?_ ?_ _ | refine bw2 ?_ ?_ _ | refine bw3 ?_ _ | refine bw4 ?_)); all_goals (first | omega | (dsimp only; omega) | ((repeat with_reducible (first | refine lz1 ?_ | refine lz2 ?_ | refine lz3 ?_ | refine lz4 ?_)); omega))
theorem r_2_b (t : ByteArray) (f : Int) (w : World) : Calls Tryz.prog 23 #[.agg #[.int .i64 2, .int .i64 0, .int .i64 0, .string t, .bool true, .int .i64 f]] w fun r w' => r = .returned (.bool false) ∧ Below w.heap.size w w' := by
  go_enter Tryz.func23, Tryz.ntmps23
  go_wp2_with fail
  go_ret
  refine ⟨rfl, ?_⟩
  (repeat with_reducible (first | exact bw0 _ _ | exact hBW | refine bw1 ?_ ?_ _ | refine bw2 ?_ ?_ _ | refine bw3 ?_ _ | refine bw4 ?_)); all_goals (first | omega | (dsimp only; omega) | ((repeat with_reducible (first | refine lz1 ?_ | refine lz2 ?_ | refine lz3 ?_ | refine lz4 ?_)); omega))
theorem r_2_f (t : ByteArray) (f : Int) (w : World) (h : (f != 0) = true) : Calls Tryz.prog 23 #[.agg #[.int .i64 2, .int .i64 0, .int .i64 0, .string t, .bool false, .int .i64 f]] w fun r w' => r = .returned (.bool false) ∧ Below w.heap.size w w' := by
  go_enter Tryz.func23, Tryz.ntmps23
  go_wp2_with fail
  go_ret
  refine ⟨rfl, ?_⟩
  (repeat with_reducible (first | exact bw0 _ _ | exact hBW | refine bw1 ?_ ?_ _ | refine bw2 ?_ ?_ _ | refine bw3 ?_ _ | refine bw4 ?_)); all_goals (first | omega | (dsimp only; omega) | ((repeat with_reducible (first | refine lz1 ?_ | refine lz2 ?_ | refine lz3 ?_ | refine lz4 ?_)); omega))
theorem r_2_ok (t : ByteArray)  (w : World) : Calls Tryz.prog 23 #[.agg #[.int .i64 2, .int .i64 0, .int .i64 0, .string t, .bool false, .int .i64 0]] w fun r w' => r = .returned (.bool (decide ((t.size : Int) ≤ 255))) ∧ Below w.heap.size w w' := by
  go_enter Tryz.func23, Tryz.ntmps23
  go_wp2_with fail
  go_ret
  refine ⟨rfl, ?_⟩
  (repeat with_reducible (first | exact bw0 _ _ | exact hBW | refine bw1 ?_ ?_ _ | refine bw2 ?_ ?_ _ | refine bw3 ?_ _ | refine bw4 ?_)); all_goals (first | omega | (dsimp only; omega) | ((repeat with_reducible (first | refine lz1 ?_ | refine lz2 ?_ | refine lz3 ?_ | refine lz4 ?_)); omega))
theorem r_3_m (m e f : Int) (t : ByteArray) (b : Bool) (w : World) (h : (m == 0) = false) : Calls Tryz.prog 23 #[.agg #[.int .i64 3, .int .i64 m, .int .i64 e, .string t, .bool b, .int .i64 f]] w fun r w' => r = .returned (.bool false) ∧ Below w.heap.size w w' := by
  go_enter Tryz.func23, Tryz.ntmps23
  go_wp2_with fail
  go_ret
  refine ⟨rfl, ?_⟩
  (repeat with_reducible (first | exact bw0 _ _ | exact hBW | refine bw1 ?_ ?_ _ | refine bw2 ?_ ?_ _ | refine bw3 ?_ _ | refine bw4 ?_)); all_goals (first | omega | (dsimp only; omega) | ((repeat with_reducible (first | refine lz1 ?_ | refine lz2 ?_ | refine lz3 ?_ | refine lz4 ?_)); omega))
theorem r_3_e (e f : Int) (t : ByteArray) (b : Bool) (w : World) (h : (e == 0) = false) : Calls Tryz.prog 23 #[.agg #[.int .i64 3, .int .i64 0, .int .i64 e, .string t, .bool b, .int .i64 f]] w fun r w' => r = .returned (.bool false) ∧ Below w.heap.size w w' := by
  go_enter Tryz.func23, Tryz.ntmps23
  go_wp2_with fail
  go_ret
  refine ⟨rfl, ?_⟩
  (repeat with_reducible (first | exact bw0 _ _ | exact hBW | refine bw1 ?_ ?_ _ | refine bw2 ?_ ?_ _ | refine bw3 ?_ _ | refine bw4 ?_)); all_goals (first | omega | (dsimp only; omega) | ((repeat with_reducible (first | refine lz1 ?_ | refine lz2 ?_ | refine lz3 ?_ | refine lz4 ?_)); omega))
theorem r_3_t (f : Int) (t : ByteArray) (b : Bool) (w : World) (h : t ≠ ⟨#[]⟩) : Calls Tryz.prog 23 #[.agg #[.int .i64 3, .int .i64 0, .int .i64 0, .string t, .bool b, .int .i64 f]] w fun r w' => r = .returned (.bool false) ∧ Below w.heap.size w w' := by
  have s1 := ne_facts h
  have s2 : t.toList.isEmpty = false := by simpa using s1
  clear h
  go_enter Tryz.func23, Tryz.ntmps23
  go_wp2_with fail
  go_ret
  refine ⟨rfl, ?_⟩
  (repeat with_reducible (first | exact bw0 _ _ | exact hBW | refine bw1 ?_ ?_ _ | refine bw2 ?_ ?_ _ | refine bw3 ?_ _ | refine bw4 ?_)); all_goals (first | omega | (dsimp only; omega) | ((repeat with_reducible (first | refine lz1 ?_ | refine lz2 ?_ | refine lz3 ?_ | refine lz4 ?_)); omega))
theorem r_3_f (b : Bool) (f : Int) (w : World) (h : (f != 0) = true) : Calls Tryz.prog 23 #[.agg #[.int .i64 3, .int .i64 0, .int .i64 0, .string ⟨#[]⟩, .bool b, .int .i64 f]] w fun r w' => r = .returned (.bool false) ∧ Below w.heap.size w w' := by
  go_enter Tryz.func23, Tryz.ntmps23
  go_wp2_with fail
  go_ret
  refine ⟨rfl, ?_⟩
  (repeat with_reducible (first | exact bw0 _ _ | exact hBW | refine bw1 ?_ ?_ _ | refine bw2 ?_ ?_ _ | refine bw3 ?_ _ | refine bw4 ?_)); all_goals (first | omega | (dsimp only; omega) | ((repeat with_reducible (first | refine lz1 ?_ | refine lz2 ?_ | refine lz3 ?_ | refine lz4 ?_)); omega))
theorem r_3_ok (b : Bool)  (w : World) : Calls Tryz.prog 23 #[.agg #[.int .i64 3, .int .i64 0, .int .i64 0, .string ⟨#[]⟩, .bool b, .int .i64 0]] w fun r w' => r = .returned (.bool true) ∧ Below w.heap.size w w' := by
  go_enter Tryz.func23, Tryz.ntmps23
  go_wp2_with fail
  go_ret
  refine ⟨rfl, ?_⟩
  (repeat with_reducible (first | exact bw0 _ _ | exact hBW | refine bw1 ?_ ?_ _ | refine bw2 ?_ ?_ _ | refine bw3 ?_ _ | refine bw4 ?_)); all_goals (first | omega | (dsimp only; omega) | ((repeat with_reducible (first | refine lz1 ?_ | refine lz2 ?_ | refine lz3 ?_ | refine lz4 ?_)); omega))
theorem r_4_m (m e f : Int) (t : ByteArray) (b : Bool) (w : World) (h : (m == 0) = false) : Calls Tryz.prog 23 #[.agg #[.int .i64 4, .int .i64 m, .int .i64 e, .string t, .bool b, .int .i64 f]] w fun r w' => r = .returned (.bool false) ∧ Below w.heap.size w w' := by
  go_enter Tryz.func23, Tryz.ntmps23
  go_wp2_with fail
  go_ret
  refine ⟨rfl, ?_⟩
  (repeat with_reducible (first | exact bw0 _ _ | exact hBW | refine bw1 ?_ ?_ _ | refine bw2 ?_ ?_ _ | refine bw3 ?_ _ | refine bw4 ?_)); all_goals (first | omega | (dsimp only; omega) | ((repeat with_reducible (first | refine lz1 ?_ | refine lz2 ?_ | refine lz3 ?_ | refine lz4 ?_)); omega))
theorem r_4_e (e f : Int) (t : ByteArray) (b : Bool) (w : World) (h : (e == 0) = false) : Calls Tryz.prog 23 #[.agg #[.int .i64 4, .int .i64 0, .int .i64 e, .string t, .bool b, .int .i64 f]] w fun r w' => r = .returned (.bool false) ∧ Below w.heap.size w w' := by
  go_enter Tryz.func23, Tryz.ntmps23
  go_wp2_with fail
  go_ret
  refine ⟨rfl, ?_⟩
  (repeat with_reducible (first | exact bw0 _ _ | exact hBW | refine bw1 ?_ ?_ _ | refine bw2 ?_ ?_ _ | refine bw3 ?_ _ | refine bw4 ?_)); all_goals (first | omega | (dsimp only; omega) | ((repeat with_reducible (first | refine lz1 ?_ | refine lz2 ?_ | refine lz3 ?_ | refine lz4 ?_)); omega))
theorem r_4_t (f : Int) (t : ByteArray) (b : Bool) (w : World) (h : t ≠ ⟨#[]⟩) : Calls Tryz.prog 23 #[.agg #[.int .i64 4, .int .i64 0, .int .i64 0, .string t, .bool b, .int .i64 f]] w fun r w' => r = .returned (.bool false) ∧ Below w.heap.size w w' := by
  have s1 := ne_facts h
  have s2 : t.toList.isEmpty = false := by simpa using s1
  clear h
  go_enter Tryz.func23, Tryz.ntmps23
  go_wp2_with fail
  go_ret
  refine ⟨rfl, ?_⟩
  (repeat with_reducible (first | exact bw0 _ _ | exact hBW | refine bw1 ?_ ?_ _ | refine bw2 ?_ ?_ _ | refine bw3 ?_ _ | refine bw4 ?_)); all_goals (first | omega | (dsimp only; omega) | ((repeat with_reducible (first | refine lz1 ?_ | refine lz2 ?_ | refine lz3 ?_ | refine lz4 ?_)); omega))
theorem r_4_b (f : Int) (w : World) : Calls Tryz.prog 23 #[.agg #[.int .i64 4, .int .i64 0, .int .i64 0, .string ⟨#[]⟩, .bool true, .int .i64 f]] w fun r w' => r = .returned (.bool false) ∧ Below w.heap.size w w' := by
  go_enter Tryz.func23, Tryz.ntmps23
  go_wp2_with fail
  go_ret
  refine ⟨rfl, ?_⟩
  (repeat with_reducible (first | exact bw0 _ _ | exact hBW | refine bw1 ?_ ?_ _ | refine bw2 ?_ ?_ _ | refine bw3 ?_ _ | refine bw4 ?_)); all_goals (first | omega | (dsimp only; omega) | ((repeat with_reducible (first | refine lz1 ?_ | refine lz2 ?_ | refine lz3 ?_ | refine lz4 ?_)); omega))
theorem r_4_lo (f : Int)  (w : World) (h : f < 1) : Calls Tryz.prog 23 #[.agg #[.int .i64 4, .int .i64 0, .int .i64 0, .string ⟨#[]⟩, .bool false, .int .i64 f]] w fun r w' => r = .returned (.bool false) ∧ Below w.heap.size w w' := by
  go_enter Tryz.func23, Tryz.ntmps23
  go_wp2_with fail
  go_ret
  refine ⟨rfl, ?_⟩
  (repeat with_reducible (first | exact bw0 _ _ | exact hBW | refine bw1 ?_ ?_ _ | refine bw2 ?_ ?_ _ | refine bw3 ?_ _ | refine bw4 ?_)); all_goals (first | omega | (dsimp only; omega) | ((repeat with_reducible (first | refine lz1 ?_ | refine lz2 ?_ | refine lz3 ?_ | refine lz4 ?_)); omega))
theorem r_4_hi (f : Int)  (w : World) (h0 : 1 ≤ f) (h : 9 < f) : Calls Tryz.prog 23 #[.agg #[.int .i64 4, .int .i64 0, .int .i64 0, .string ⟨#[]⟩, .bool false, .int .i64 f]] w fun r w' => r = .returned (.bool false) ∧ Below w.heap.size w w' := by
  have h9 : decide (f ≤ 9) = false := by simpa using h
  clear h
  go_enter Tryz.func23, Tryz.ntmps23
  go_wp2_with fail
  go_ret
  refine ⟨rfl, ?_⟩
  (repeat with_reducible (first | exact bw0 _ _ | exact hBW | refine bw1 ?_ ?_ _ | refine bw2 ?_ ?_ _ | refine bw3 ?_ _ | refine bw4 ?_)); all_goals (first | omega | (dsimp only; omega) | ((repeat with_reducible (first | refine lz1 ?_ | refine lz2 ?_ | refine lz3 ?_ | refine lz4 ?_)); omega))
theorem r_4_ok (f : Int)  (w : World) (h0 : 1 ≤ f) (h : f ≤ 9) : Calls Tryz.prog 23 #[.agg #[.int .i64 4, .int .i64 0, .int .i64 0, .string ⟨#[]⟩, .bool false, .int .i64 f]] w fun r w' => r = .returned (.bool true) ∧ Below w.heap.size w w' := by
  go_enter Tryz.func23, Tryz.ntmps23
  go_wp2_with fail
  go_ret
  refine ⟨rfl, ?_⟩
  (repeat with_reducible (first | exact bw0 _ _ | exact hBW | refine bw1 ?_ ?_ _ | refine bw2 ?_ ?_ _ | refine bw3 ?_ _ | refine bw4 ?_)); all_goals (first | omega | (dsimp only; omega) | ((repeat with_reducible (first | refine lz1 ?_ | refine lz2 ?_ | refine lz3 ?_ | refine lz4 ?_)); omega))
theorem r_k_m (k : Int) (m e f : Int) (t : ByteArray) (b : Bool) (w : World) (hx : KOther k) (h : (m == 0) = false) : Calls Tryz.prog 23 #[.agg #[.int .i64 k, .int .i64 m, .int .i64 e, .string t, .bool b, .int .i64 f]] w fun r w' => r = .returned (.bool false) ∧ Below w.heap.size w w' := by
  obtain ⟨x0, x1, x2, x3, x4, y1, y2, y3, y4⟩ := hx
  go_enter Tryz.func23, Tryz.ntmps23
  go_wp2_with fail
  go_ret
  refine ⟨rfl, ?_⟩
  (repeat with_reducible (first | exact bw0 _ _ | exact hBW | refine bw1 ?_ ?_ _ | refine bw2 ?_ ?_ _ | refine bw3 ?_ _ | refine bw4 ?_)); all_goals (first | omega | (dsimp only; omega) | ((repeat with_reducible (first | refine lz1 ?_ | refine lz2 ?_ | refine lz3 ?_ | refine lz4 ?_)); omega))
theorem r_k_e (k : Int) (e f : Int) (t : ByteArray) (b : Bool) (w : World) (hx : KOther k) (h : (e == 0) = false) : Calls Tryz.prog 23 #[.agg #[.int .i64 k, .int .i64 0, .int .i64 e, .string t, .bool b, .int .i64 f]] w fun r w' => r = .returned (.bool false) ∧ Below w.heap.size w w' := by
  obtain ⟨x0, x1, x2, x3, x4, y1, y2, y3, y4⟩ := hx
  go_enter Tryz.func23, Tryz.ntmps23
  go_wp2_with fail
  go_ret
  refine ⟨rfl, ?_⟩
  (repeat with_reducible (first | exact bw0 _ _ | exact hBW | refine bw1 ?_ ?_ _ | refine bw2 ?_ ?_ _ | refine bw3 ?_ _ | refine bw4 ?_)); all_goals (first | omega | (dsimp only; omega) | ((repeat with_reducible (first | refine lz1 ?_ | refine lz2 ?_ | refine lz3 ?_ | refine lz4 ?_)); omega))
theorem r_k_t (k : Int) (f : Int) (t : ByteArray) (b : Bool) (w : World) (hx : KOther k) (h : t ≠ ⟨#[]⟩) : Calls Tryz.prog 23 #[.agg #[.int .i64 k, .int .i64 0, .int .i64 0, .string t, .bool b, .int .i64 f]] w fun r w' => r = .returned (.bool false) ∧ Below w.heap.size w w' := by
  obtain ⟨x0, x1, x2, x3, x4, y1, y2, y3, y4⟩ := hx
  have s1 := ne_facts h
  have s2 : t.toList.isEmpty = false := by simpa using s1
  clear h
  go_enter Tryz.func23, Tryz.ntmps23
  go_wp2_with fail
  go_ret
  refine ⟨rfl, ?_⟩
  (repeat with_reducible (first | exact bw0 _ _ | exact hBW | refine bw1 ?_ ?_ _ | refine bw2 ?_ ?_ _ | refine bw3 ?_ _ | refine bw4 ?_)); all_goals (first | omega | (dsimp only; omega) | ((repeat with_reducible (first | refine lz1 ?_ | refine lz2 ?_ | refine lz3 ?_ | refine lz4 ?_)); omega))
theorem r_k_b (k : Int) (f : Int) (w : World) (hx : KOther k) : Calls Tryz.prog 23 #[.agg #[.int .i64 k, .int .i64 0, .int .i64 0, .string ⟨#[]⟩, .bool true, .int .i64 f]] w fun r w' => r = .returned (.bool false) ∧ Below w.heap.size w w' := by
  obtain ⟨x0, x1, x2, x3, x4, y1, y2, y3, y4⟩ := hx
  go_enter Tryz.func23, Tryz.ntmps23
  go_wp2_with fail
  go_ret
  refine ⟨rfl, ?_⟩
  (repeat with_reducible (first | exact bw0 _ _ | exact hBW | refine bw1 ?_ ?_ _ | refine bw2 ?_ ?_ _ | refine bw3 ?_ _ | refine bw4 ?_)); all_goals (first | omega | (dsimp only; omega) | ((repeat with_reducible (first | refine lz1 ?_ | refine lz2 ?_ | refine lz3 ?_ | refine lz4 ?_)); omega))
theorem r_k_f (k : Int) (f : Int) (w : World) (hx : KOther k) (h : (f != 0) = true) : Calls Tryz.prog 23 #[.agg #[.int .i64 k, .int .i64 0, .int .i64 0, .string ⟨#[]⟩, .bool false, .int .i64 f]] w fun r w' => r = .returned (.bool false) ∧ Below w.heap.size w w' := by
  obtain ⟨x0, x1, x2, x3, x4, y1, y2, y3, y4⟩ := hx
  go_enter Tryz.func23, Tryz.ntmps23
  go_wp2_with fail
  go_ret
  refine ⟨rfl, ?_⟩
  (repeat with_reducible (first | exact bw0 _ _ | exact hBW | refine bw1 ?_ ?_ _ | refine bw2 ?_ ?_ _ | refine bw3 ?_ _ | refine bw4 ?_)); all_goals (first | omega | (dsimp only; omega) | ((repeat with_reducible (first | refine lz1 ?_ | refine lz2 ?_ | refine lz3 ?_ | refine lz4 ?_)); omega))
theorem r_k_ok (k : Int)  (w : World) (hx : KOther k) : Calls Tryz.prog 23 #[.agg #[.int .i64 k, .int .i64 0, .int .i64 0, .string ⟨#[]⟩, .bool false, .int .i64 0]] w fun r w' => r = .returned (.bool false) ∧ Below w.heap.size w w' := by
  obtain ⟨x0, x1, x2, x3, x4, y1, y2, y3, y4⟩ := hx
  go_enter Tryz.func23, Tryz.ntmps23
  go_wp2_with fail
  go_ret
  refine ⟨rfl, ?_⟩
  (repeat with_reducible (first | exact bw0 _ _ | exact hBW | refine bw1 ?_ ?_ _ | refine bw2 ?_ ?_ _ | refine bw3 ?_ _ | refine bw4 ?_)); all_goals (first | omega | (dsimp only; omega) | ((repeat with_reducible (first | refine lz1 ?_ | refine lz2 ?_ | refine lz3 ?_ | refine lz4 ?_)); omega))
theorem r_1n_t (m e : Int) (f : Int) (t : ByteArray) (b : Bool) (w : World) (h1 : (m == 0) = false) (h : t ≠ ⟨#[]⟩) : Calls Tryz.prog 23 #[.agg #[.int .i64 1, .int .i64 m, .int .i64 e, .string t, .bool b, .int .i64 f]] w fun r w' => r = .returned (.bool false) ∧ Below w.heap.size w w' := by
  have s1 := ne_facts h
  have s2 : t.toList.isEmpty = false := by simpa using s1
  clear h
  go_enter Tryz.func23, Tryz.ntmps23
  go_wp2_with fail
  go_ret
  refine ⟨rfl, ?_⟩
  (repeat with_reducible (first | exact bw0 _ _ | exact hBW | refine bw1 ?_ ?_ _ | refine bw2 ?_ ?_ _ | refine bw3 ?_ _ | refine bw4 ?_)); all_goals (first | omega | (dsimp only; omega) | ((repeat with_reducible (first | refine lz1 ?_ | refine lz2 ?_ | refine lz3 ?_ | refine lz4 ?_)); omega))
theorem r_1n_b (m e : Int) (f : Int) (w : World) (h1 : (m == 0) = false) : Calls Tryz.prog 23 #[.agg #[.int .i64 1, .int .i64 m, .int .i64 e, .string ⟨#[]⟩, .bool true, .int .i64 f]] w fun r w' => r = .returned (.bool false) ∧ Below w.heap.size w w' := by
  go_enter Tryz.func23, Tryz.ntmps23
  go_wp2_with fail
  go_ret
  refine ⟨rfl, ?_⟩
  (repeat with_reducible (first | exact bw0 _ _ | exact hBW | refine bw1 ?_ ?_ _ | refine bw2 ?_ ?_ _ | refine bw3 ?_ _ | refine bw4 ?_)); all_goals (first | omega | (dsimp only; omega) | ((repeat with_reducible (first | refine lz1 ?_ | refine lz2 ?_ | refine lz3 ?_ | refine lz4 ?_)); omega))
theorem r_1n_f (m e : Int) (f : Int) (w : World) (h1 : (m == 0) = false) (h : (f != 0) = true) : Calls Tryz.prog 23 #[.agg #[.int .i64 1, .int .i64 m, .int .i64 e, .string ⟨#[]⟩, .bool false, .int .i64 f]] w fun r w' => r = .returned (.bool false) ∧ Below w.heap.size w w' := by
  go_enter Tryz.func23, Tryz.ntmps23
  go_wp2_with fail
  go_ret
  refine ⟨rfl, ?_⟩
  (repeat with_reducible (first | exact bw0 _ _ | exact hBW | refine bw1 ?_ ?_ _ | refine bw2 ?_ ?_ _ | refine bw3 ?_ _ | refine bw4 ?_)); all_goals (first | omega | (dsimp only; omega) | ((repeat with_reducible (first | refine lz1 ?_ | refine lz2 ?_ | refine lz3 ?_ | refine lz4 ?_)); omega))
theorem r_1n_ok (m e : Int)  (w : World) (h1 : (m == 0) = false) : Calls Tryz.prog 23 #[.agg #[.int .i64 1, .int .i64 m, .int .i64 e, .string ⟨#[]⟩, .bool false, .int .i64 0]] w fun r w' => r = .returned (.bool (numR m e)) ∧ Below w.heap.size w w' := by
  have HN := Lib.hid (refNum_any m e)
  generalize numR m e = R at HN ⊢
  go_enter Tryz.func23, Tryz.ntmps23
  go_wp2_with fail
  refine (HN.out _).mono ?_
  rintro r w1 ⟨rfl, hb⟩
  have hB : Hid (Below w.heap.size w w1) := by
    refine Below.trans ?_ (hb.mono (by simp))
    (repeat with_reducible (first | exact bw0 _ _ | exact hBW | refine bw1 ?_ ?_ _ | refine bw2 ?_ ?_ _ | refine bw3 ?_ _ | refine bw4 ?_)); all_goals (first | omega | (dsimp only; omega) | ((repeat with_reducible (first | refine lz1 ?_ | refine lz2 ?_ | refine lz3 ?_ | refine lz4 ?_)); omega))
  clear hb
  go_wp2_with fail
  go_ret
  exact ⟨rfl, hB.out⟩
theorem r_1e_t (e : Int) (f : Int) (t : ByteArray) (b : Bool) (w : World) (h1 : (e == 0) = false) (h : t ≠ ⟨#[]⟩) : Calls Tryz.prog 23 #[.agg #[.int .i64 1, .int .i64 0, .int .i64 e, .string t, .bool b, .int .i64 f]] w fun r w' => r = .returned (.bool false) ∧ Below w.heap.size w w' := by
  have s1 := ne_facts h
  have s2 : t.toList.isEmpty = false := by simpa using s1
  clear h
  go_enter Tryz.func23, Tryz.ntmps23
  go_wp2_with fail
  go_ret
  refine ⟨rfl, ?_⟩
  (repeat with_reducible (first | exact bw0 _ _ | exact hBW | refine bw1 ?_ ?_ _ | refine bw2 ?_ ?_ _ | refine bw3 ?_ _ | refine bw4 ?_)); all_goals (first | omega | (dsimp only; omega) | ((repeat with_reducible (first | refine lz1 ?_ | refine lz2 ?_ | refine lz3 ?_ | refine lz4 ?_)); omega))
theorem r_1e_b (e : Int) (f : Int) (w : World) (h1 : (e == 0) = false) : Calls Tryz.prog 23 #[.agg #[.int .i64 1, .int .i64 0, .int .i64 e, .string ⟨#[]⟩, .bool true, .int .i64 f]] w fun r w' => r = .returned (.bool false) ∧ Below w.heap.size w w' := by
  go_enter Tryz.func23, Tryz.ntmps23
  go_wp2_with fail
  go_ret
  refine ⟨rfl, ?_⟩
  (repeat with_reducible (first | exact bw0 _ _ | exact hBW | refine bw1 ?_ ?_ _ | refine bw2 ?_ ?_ _ | refine bw3 ?_ _ | refine bw4 ?_)); all_goals (first | omega | (dsimp only; omega) | ((repeat with_reducible (first | refine lz1 ?_ | refine lz2 ?_ | refine lz3 ?_ | refine lz4 ?_)); omega))
theorem r_1e_f (e : Int) (f : Int) (w : World) (h1 : (e == 0) = false) (h : (f != 0) = true) : Calls Tryz.prog 23 #[.agg #[.int .i64 1, .int .i64 0, .int .i64 e, .string ⟨#[]⟩, .bool false, .int .i64 f]] w fun r w' => r = .returned (.bool false) ∧ Below w.heap.size w w' := by
  go_enter Tryz.func23, Tryz.ntmps23
  go_wp2_with fail
  go_ret
  refine ⟨rfl, ?_⟩
  (repeat with_reducible (first | exact bw0 _ _ | exact hBW | refine bw1 ?_ ?_ _ | refine bw2 ?_ ?_ _ | refine bw3 ?_ _ | refine bw4 ?_)); all_goals (first | omega | (dsimp only; omega) | ((repeat with_reducible (first | refine lz1 ?_ | refine lz2 ?_ | refine lz3 ?_ | refine lz4 ?_)); omega))
theorem r_1e_ok (e : Int)  (w : World) (h1 : (e == 0) = false) : Calls Tryz.prog 23 #[.agg #[.int .i64 1, .int .i64 0, .int .i64 e, .string ⟨#[]⟩, .bool false, .int .i64 0]] w fun r w' => r = .returned (.bool (numR 0 e)) ∧ Below w.heap.size w w' := by
  have HN := Lib.hid (refNum_any 0 e)
  generalize numR 0 e = R at HN ⊢
  go_enter Tryz.func23, Tryz.ntmps23
  go_wp2_with fail
  refine (HN.out _).mono ?_
  rintro r w1 ⟨rfl, hb⟩
  have hB : Hid (Below w.heap.size w w1) := by
    refine Below.trans ?_ (hb.mono (by simp))
    (repeat with_reducible (first | exact bw0 _ _ | exact hBW | refine bw1 ?_ ?_ _ | refine bw2 ?_ ?_ _ | refine bw3 ?_ _ | refine bw4 ?_)); all_goals (first | omega | (dsimp only; omega) | ((repeat with_reducible (first | refine lz1 ?_ | refine lz2 ?_ | refine lz3 ?_ | refine lz4 ?_)); omega))
  clear hb
  go_wp2_with fail
  go_ret
  exact ⟨rfl, hB.out⟩
theorem r_1z_t (f : Int) (t : ByteArray) (b : Bool) (w : World) (h : t ≠ ⟨#[]⟩) : Calls Tryz.prog 23 #[.agg #[.int .i64 1, .int .i64 0, .int .i64 0, .string t, .bool b, .int .i64 f]] w fun r w' => r = .returned (.bool false) ∧ Below w.heap.size w w' := by
  have s1 := ne_facts h
  have s2 : t.toList.isEmpty = false := by simpa using s1
  clear h
  go_enter Tryz.func23, Tryz.ntmps23
  go_wp2_with fail
  go_ret
  refine ⟨rfl, ?_⟩
  (repeat with_reducible (first | exact bw0 _ _ | exact hBW | refine bw1 ?_ ?_ _ | refine bw2 ?_ ?_ _ | refine bw3 ?_ _ | refine bw4 ?_)); all_goals (first | omega | (dsimp only; omega) | ((repeat with_reducible (first | refine lz1 ?_ | refine lz2 ?_ | refine lz3 ?_ | refine lz4 ?_)); omega))
theorem r_1z_b (f : Int) (w : World) : Calls Tryz.prog 23 #[.agg #[.int .i64 1, .int .i64 0, .int .i64 0, .string ⟨#[]⟩, .bool true, .int .i64 f]] w fun r w' => r = .returned (.bool false) ∧ Below w.heap.size w w' := by
  go_enter Tryz.func23, Tryz.ntmps23
  go_wp2_with fail
  go_ret
  refine ⟨rfl, ?_⟩
  (repeat with_reducible (first | exact bw0 _ _ | exact hBW | refine bw1 ?_ ?_ _ | refine bw2 ?_ ?_ _ | refine bw3 ?_ _ | refine bw4 ?_)); all_goals (first | omega | (dsimp only; omega) | ((repeat with_reducible (first | refine lz1 ?_ | refine lz2 ?_ | refine lz3 ?_ | refine lz4 ?_)); omega))
theorem r_1z_f (f : Int) (w : World) (h : (f != 0) = true) : Calls Tryz.prog 23 #[.agg #[.int .i64 1, .int .i64 0, .int .i64 0, .string ⟨#[]⟩, .bool false, .int .i64 f]] w fun r w' => r = .returned (.bool false) ∧ Below w.heap.size w w' := by
  go_enter Tryz.func23, Tryz.ntmps23
  go_wp2_with fail
  go_ret
  refine ⟨rfl, ?_⟩
  (repeat with_reducible (first | exact bw0 _ _ | exact hBW | refine bw1 ?_ ?_ _ | refine bw2 ?_ ?_ _ | refine bw3 ?_ _ | refine bw4 ?_)); all_goals (first | omega | (dsimp only; omega) | ((repeat with_reducible (first | refine lz1 ?_ | refine lz2 ?_ | refine lz3 ?_ | refine lz4 ?_)); omega))
theorem r_1z_ok  (w : World) : Calls Tryz.prog 23 #[.agg #[.int .i64 1, .int .i64 0, .int .i64 0, .string ⟨#[]⟩, .bool false, .int .i64 0]] w fun r w' => r = .returned (.bool (numR 0 0)) ∧ Below w.heap.size w w' := by
  have HN := Lib.hid (refNum_any 0 0)
  generalize numR 0 0 = R at HN ⊢
  go_enter Tryz.func23, Tryz.ntmps23
  go_wp2_with fail
  refine (HN.out _).mono ?_
  rintro r w1 ⟨rfl, hb⟩
  have hB : Hid (Below w.heap.size w w1) := by
    refine Below.trans ?_ (hb.mono (by simp))
    (repeat with_reducible (first | exact bw0 _ _ | exact hBW | refine bw1 ?_ ?_ _ | refine bw2 ?_ ?_ _ | refine bw3 ?_ _ | refine bw4 ?_)); all_goals (first | omega | (dsimp only; omega) | ((repeat with_reducible (first | refine lz1 ?_ | refine lz2 ?_ | refine lz3 ?_ | refine lz4 ?_)); omega))
  clear hb
  go_wp2_with fail
  go_ret
  exact ⟨rfl, hB.out⟩
end
theorem kOther {k : Int} (h0 : k ≠ 0) (h1 : k ≠ 1) (h2 : k ≠ 2) (h3 : k ≠ 3) (h4 : k ≠ 4) : KOther k := ⟨by simpa using h0, by simpa using h1, by simpa using h2, by simpa using h3, by simpa using h4, by simpa using h1, by simpa using h2, by simpa using h3, by simpa using h4⟩
theorem ref02_any (v : V) (w : World) : Calls Tryz.prog 23 #[vagg v] w fun r w' => r = .returned (.bool (refR v)) ∧ Below w.heap.size w w' := by
  obtain ⟨k, m, e, t, b, f⟩ := v
  unfold vagg
  simp only
  by_cases k1 : k = 1
  · subst k1
    have key : ∀ (R : Bool), refR ⟨1, m, e, t, b, f⟩ = R → (Calls Tryz.prog 23 #[.agg #[.int .i64 1, .int .i64 m, .int .i64 e, .string t, .bool b, .int .i64 f]] w fun r w' => r = .returned (.bool R) ∧ Below w.heap.size w w') → (Calls Tryz.prog 23 #[.agg #[.int .i64 1, .int .i64 m, .int .i64 e, .string t, .bool b, .int .i64 f]] w fun r w' => r = .returned (.bool (refR ⟨1, m, e, t, b, f⟩)) ∧ Below w.heap.size w w') := fun R h hc => by rw [h]; exact hc
    by_cases ht : t = ⟨#[]⟩
    · cases b with
      | true =>
        subst ht
        refine key false (by simp [refR]) ?_
        by_cases hm : m = 0
        · subst hm
          by_cases he : e = 0
          · subst he; exact r_1z_b f w
          · exact r_1e_b e f w (by simpa using he)
        · exact r_1n_b m e f w (by simpa using hm)
      | false =>
        subst ht
        by_cases hf : f = 0
        · subst hf
          refine key (numR m e) (by simp [refR]) ?_
          by_cases hm : m = 0
          · subst hm
            by_cases he : e = 0
            · subst he; exact r_1z_ok w
            · exact r_1e_ok e w (by simpa using he)
          · exact r_1n_ok m e w (by simpa using hm)
        · refine key false (by simp [refR, hf]) ?_
          by_cases hm : m = 0
          · subst hm
            by_cases he : e = 0
            · subst he; exact r_1z_f f w (by simpa using hf)
            · exact r_1e_f e f w (by simpa using he) (by simpa using hf)
          · exact r_1n_f m e f w (by simpa using hm) (by simpa using hf)
    · refine key false (by simp [refR, ht]) ?_
      by_cases hm : m = 0
      · subst hm
        by_cases he : e = 0
        · subst he; exact r_1z_t f t b w ht
        · exact r_1e_t e f t b w (by simpa using he) ht
      · exact r_1n_t m e f t b w (by simpa using hm) ht
  · by_cases hm : m = 0
    case neg =>
      have hr : refR ⟨k, m, e, t, b, f⟩ = false := by simp [refR, k1, hm]
      rw [hr]
      by_cases k0 : k = 0
      · subst k0; exact r_0_m m e f t b w (by simpa using hm)
      · by_cases k2 : k = 2
        · subst k2; exact r_2_m m e f t b w (by simpa using hm)
        · by_cases k3 : k = 3
          · subst k3; exact r_3_m m e f t b w (by simpa using hm)
          · by_cases k4 : k = 4
            · subst k4; exact r_4_m m e f t b w (by simpa using hm)
            · exact r_k_m k m e f t b w (kOther k0 k1 k2 k3 k4) (by simpa using hm)
    subst hm
    by_cases he : e = 0
    case neg =>
      have hr : refR ⟨k, 0, e, t, b, f⟩ = false := by simp [refR, k1, he]
      rw [hr]
      by_cases k0 : k = 0
      · subst k0; exact r_0_e e f t b w (by simpa using he)
      · by_cases k2 : k = 2
        · subst k2; exact r_2_e e f t b w (by simpa using he)
        · by_cases k3 : k = 3
          · subst k3; exact r_3_e e f t b w (by simpa using he)
          · by_cases k4 : k = 4
            · subst k4; exact r_4_e e f t b w (by simpa using he)
            · exact r_k_e k e f t b w (kOther k0 k1 k2 k3 k4) (by simpa using he)
    subst he
    by_cases k2 : k = 2
    · subst k2
      cases b with
      | true =>
        have hr : refR ⟨2, 0, 0, t, true, f⟩ = false := by simp [refR]
        rw [hr]; exact r_2_b t f w
      | false =>
        by_cases hf : f = 0
        · subst hf
          have hr : refR ⟨2, 0, 0, t, false, 0⟩ = decide ((t.size : Int) ≤ 255) := by
            simp [refR]
            omega
          rw [hr]; exact r_2_ok t w
        · have hr : refR ⟨2, 0, 0, t, false, f⟩ = false := by simp [refR, hf]
          rw [hr]; exact r_2_f t f w (by simpa using hf)
    · by_cases ht : t = ⟨#[]⟩
      case neg =>
        have hr : refR ⟨k, 0, 0, t, b, f⟩ = false := by simp [refR, k1, k2, ht]
        rw [hr]
        by_cases k0 : k = 0
        · subst k0; exact r_0_t f t b w ht
        · by_cases k3 : k = 3
          · subst k3; exact r_3_t f t b w ht
          · by_cases k4 : k = 4
            · subst k4; exact r_4_t f t b w ht
            · exact r_k_t k f t b w (kOther k0 k1 k2 k3 k4) ht
      subst ht
      by_cases k3 : k = 3
      · subst k3
        by_cases hf : f = 0
        · subst hf
          have hr : refR ⟨3, 0, 0, ⟨#[]⟩, b, 0⟩ = true := by simp [refR]
          rw [hr]; exact r_3_ok b w
        · have hr : refR ⟨3, 0, 0, ⟨#[]⟩, b, f⟩ = false := by simp [refR, hf]
          rw [hr]; exact r_3_f b f w (by simpa using hf)
      · cases b with
        | true =>
          have hr : refR ⟨k, 0, 0, ⟨#[]⟩, true, f⟩ = false := by simp [refR, k1, k2, k3]
          rw [hr]
          by_cases k0 : k = 0
          · subst k0; exact r_0_b f w
          · by_cases k4 : k = 4
            · subst k4; exact r_4_b f w
            · exact r_k_b k f w (kOther k0 k1 k2 k3 k4)
        | false =>
          by_cases k4 : k = 4
          · subst k4
            by_cases h1 : f < 1
            · have hr : refR ⟨4, 0, 0, ⟨#[]⟩, false, f⟩ = false := by simp [refR]; omega
              rw [hr]; exact r_4_lo f w h1
            · by_cases h9 : 9 < f
              · have hr : refR ⟨4, 0, 0, ⟨#[]⟩, false, f⟩ = false := by simp [refR]; omega
                rw [hr]; exact r_4_hi f w (by omega) h9
              · have hr : refR ⟨4, 0, 0, ⟨#[]⟩, false, f⟩ = true := by simp [refR]; omega
                rw [hr]; exact r_4_ok f w (by omega) (by omega)
          · by_cases hf : f = 0
            · subst hf
              by_cases k0 : k = 0
              · subst k0
                have hr : refR ⟨0, 0, 0, ⟨#[]⟩, false, 0⟩ = true := by simp [refR]
                rw [hr]; exact r_0_ok w
              · have hr : refR ⟨k, 0, 0, ⟨#[]⟩, false, 0⟩ = false := by simp [refR, k0, k1, k2, k3, k4]
                rw [hr]; exact r_k_ok k w (kOther k0 k1 k2 k3 k4)
            · have hr : refR ⟨k, 0, 0, ⟨#[]⟩, false, f⟩ = false := by simp [refR, k4, hf]
              rw [hr]
              by_cases k0 : k = 0
              · subst k0; exact r_0_f f w (by simpa using hf)
              · exact r_k_f k f w (kOther k0 k1 k2 k3 k4) (by simpa using hf)
end Go.Proofs.YtndhmahkglfopaaGreatDoor
