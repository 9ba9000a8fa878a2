/- A board above a base; the document's example. -/
import Derived.Test.YtihfmcadcojjnaaS23Calls
namespace Go.Proofs.Ytihfmcadcojjnaa
open Go.RowKit
/-- A board all of whose blocks lie from B on. -/
def OBd (w : World) (p B : Nat) (g : G) : Prop := B ≤ w.heap.size ∧ B ≤ p ∧ ∃ S, IsBd w p S g ∧ ∀ k, S k → B ≤ k
theorem OBd.below {w w' : World} {p B : Nat} {g : G} (h : OBd w p B g) (hb : Below w.heap.size w w') : OBd w' p B g := by
  obtain ⟨h1, h2, S, h3, h4⟩ := h
  exact ⟨Nat.le_trans h1 hb.size, h2, S, h3.below hb, h4⟩
theorem OBd.mono {w : World} {p B B' : Nat} {g : G} (h : OBd w p B g) (hb : B' ≤ B) : OBd w p B' g := by
  obtain ⟨h1, h2, S, h3, h4⟩ := h
  exact ⟨by omega, by omega, S, h3, fun k hk => Nat.le_trans hb (h4 k hk)⟩
theorem new_o (rows cols : Int) (w : World) :
    Calls Try.prog 10 #[.int .i64 rows, .int .i64 cols] w fun e w' => e = .returned (.pointer (some ⟨w.heap.size + 3, 0, none⟩)) ∧ OBd w' (w.heap.size + 3) w.heap.size (gNew rows cols) ∧ Below w.heap.size w w' ∧ w'.heap.size = w.heap.size + 4 :=
  (new_any rows cols w).mono fun _ _ ⟨h1, h2, h3, h4⟩ => ⟨h1, ⟨h3.size, by omega, _, h2, fun k hk => hk.1⟩, h3, h4⟩
theorem fill_o {w : World} {p B : Nat} {g : G} (h : OBd w p B g) (r c : Int) :
    Calls Try.prog 11 #[.pointer (some ⟨p, 0, none⟩), .int .i64 r, .int .i64 c] w fun e w' => e = .returned (.bool (okFill g r c)) ∧ OBd w' p B (gFill g r c) ∧ Below B w w' := by
  obtain ⟨h1, h2, S, h3, h4⟩ := h
  exact (fill_any h3 r c).mono fun _ _ ⟨e1, e2, e3⟩ => ⟨e1, ⟨Nat.le_trans h1 e3.size, h2, S, e2, h4⟩, e3.below h1 h4⟩
theorem decide_o {w : World} {p B : Nat} {g : G} (h : OBd w p B g) (hL : g.L.length ≤ 1000000) (r c rs cs : Int) :
    Calls Try.prog 12 #[.pointer (some ⟨p, 0, none⟩), .int .i64 r, .int .i64 c, .int .i64 rs, .int .i64 cs] w fun e w' => e = .returned (.tuple #[.bool (gStands g r c rs cs), .int .i64 (gErr g r c rs cs)]) ∧ OBd w' p B (gDecide g r c rs cs) ∧ Below B w w' := by
  obtain ⟨h1, h2, S, h3, h4⟩ := h
  exact (decide_any h3 hL r c rs cs).mono fun _ _ ⟨e1, e2, e3⟩ => ⟨e1, ⟨Nat.le_trans h1 e3.size, h2, _, e2, fun k hk => hk.elim (h4 k) (fun h => Nat.le_trans h1 h.1)⟩, e3.below h1 h4⟩
theorem owner_o {w : World} {p B : Nat} {g : G} (h : OBd w p B g) (r c : Int) :
    Calls Try.prog 13 #[.pointer (some ⟨p, 0, none⟩), .int .i64 r, .int .i64 c] w fun e w' => e = .returned (.tuple #[encR (ownerR g r c), .bool (getL g.O (r, c)).isSome]) ∧ OBd w' p B g ∧ Below w.heap.size w w' := by
  obtain ⟨h1, h2, S, h3, h4⟩ := h
  exact (owner_any h3 r c).mono fun _ _ ⟨e1, e2⟩ => ⟨e1, OBd.below ⟨h1, h2, S, h3, h4⟩ e2, e2⟩
theorem blocker_o {w : World} {p B : Nat} {g : G} (h : OBd w p B g) (hA : WfA g) (hL : g.L.length ≤ 1000000) (r c : Int) :
    Calls Try.prog 14 #[.pointer (some ⟨p, 0, none⟩), .int .i64 r, .int .i64 c] w fun e w' => e = .returned (.tuple #[.int .i64 (verdictOf g r c).br, .int .i64 (verdictOf g r c).bc, .bool (verdictOf g r c).kn]) ∧ OBd w' p B g ∧ Below w.heap.size w w' := by
  obtain ⟨h1, h2, S, h3, h4⟩ := h
  exact (blocker_any h3 hA hL r c).mono fun _ _ ⟨e1, e2⟩ => ⟨e1, OBd.below ⟨h1, h2, S, h3, h4⟩ e2, e2⟩

/-! ### the map of anchors leads into the list, always -/
theorem wfA_new (rows cols : Int) : WfA (gNew rows cols) := fun k n h => by simp [gNew, getL] at h
theorem wfA_fill {g : G} (h : WfA g) (r c : Int) : WfA (gFill g r c) := by
  unfold gFill
  split
  · exact h
  · exact h
theorem wfA_decide {g : G} (h : WfA g) (r c rs cs : Int) : WfA (gDecide g r c rs cs) := by
  unfold gDecide
  split
  · intro k n hk
    simp only [getL_putL] at hk
    by_cases hkk : (r, c) = k
    · rw [if_pos hkk] at hk
      simp at hk
      obtain ⟨st, kn, br, bc, hj⟩ := judge_form g r c rs cs
      refine ⟨g.L.length, hk.symm, gJudge g r c rs cs, by simp, ?_⟩
      rw [hj]
      exact hkk
    · rw [if_neg hkk] at hk
      obtain ⟨m, hm, v, hv, hvk⟩ := h k n hk
      refine ⟨m, hm, v, ?_, hvk⟩
      have hlt := (List.getElem?_eq_some_iff.1 hv).1
      simp only
      rw [List.getElem?_append_left hlt]
      exact hv
  · exact h
theorem len_decide (g : G) (r c rs cs : Int) : (gDecide g r c rs cs).L.length ≤ g.L.length + 1 := by
  unfold gDecide
  split <;> simp
theorem len_fill (g : G) (r c : Int) : (gFill g r c).L.length = g.L.length := by
  unfold gFill
  split <;> rfl

def ex0 : G := gNew 3 3
def ex1 : G := gFill ex0 0 0
def ex2 : G := gFill ex1 2 1
def ex3 : G := gDecide ex2 0 0 3 2
def ex4 : G := gDecide ex3 2 1 1 2
theorem ex_a : gStands ex2 0 0 3 2 = false := by decide
theorem ex_b : gErr ex2 0 0 3 2 = 0 := by decide
theorem ex_c : gStands ex3 2 1 1 2 = true := by decide
theorem ex_d : gErr ex3 2 1 1 2 = 0 := by decide
theorem ex_e : verdictOf ex4 0 0 = ⟨0, 0, 3, 2, false, true, 2, 1⟩ := by decide

set_option maxHeartbeats 1000000 in
theorem awake_any (w : World) : Calls Try.prog 9 #[] w fun e w' => e = .returned (.bool true) ∧ Below w.heap.size w w' := by
  go_enter Try.func9, Try.ntmps9
  go_wp2_with fail
  refine (new_o 3 3 w).mono ?_
  rintro e w1 ⟨rfl, b1, f1, _⟩
  go_wp2_with fail
  refine (fill_o b1 0 0).mono ?_
  rintro e w2 ⟨rfl, b2, f2⟩
  go_wp2_with fail
  refine (fill_o b2 2 1).mono ?_
  rintro e w3 ⟨rfl, b3, f3⟩
  go_wp2_with fail
  refine (decide_o b3 (by decide) 0 0 3 2).mono ?_
  rintro e w4 ⟨rfl, b4, f4⟩
  change OBd w4 _ _ ex3 at b4
  rw [show gStands (gFill (gFill (gNew 3 3) 0 0) 2 1) 0 0 3 2 = false from ex_a, show gErr (gFill (gFill (gNew 3 3) 0 0) 2 1) 0 0 3 2 = 0 from ex_b]
  go_wp2_with fail
  refine (decide_o b4 (by decide) 2 1 1 2).mono ?_
  rintro e w5 ⟨rfl, b5, f5⟩
  change OBd w5 _ _ ex4 at b5
  rw [ex_c, ex_d]
  go_wp2_with fail
  refine (blocker_o b5 (wfA_decide (wfA_decide (wfA_fill (wfA_fill (wfA_new _ _) _ _) _ _) _ _ _ _) _ _ _ _) (by decide) 0 0).mono ?_
  rintro e w6 ⟨rfl, b6, f6⟩
  rw [ex_e]
  have hB : Below w.heap.size w w6 := f1.trans (f2.trans (f3.trans (f4.trans (f5.trans (f6.mono b5.1)))))
  clear b1 b2 b3 b4 b5 b6 f1 f2 f3 f4 f5 f6
  go_wp2_with fail
  go_ret
  exact ⟨rfl, hB⟩
end Go.Proofs.Ytihfmcadcojjnaa
