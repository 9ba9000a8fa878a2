/- Plain: on a board whose content came ahead of the decisions no rect that stands has a cell with content but its anchor. -/
import Derived.Test.YtihfmcadcojjnaaS23TurnP
namespace Go.Proofs.Ytihfmcadcojjnaa
open Go.RowKit
structure Ac where
  f : Bool
  r : Int
  c : Int
  rs : Int
  cs : Int
/-- Whoever owns a cell with content has it as its anchor. -/
def OwnF (g : G) : Prop := ∀ p q, getL g.O p = some q → (getL g.F p).getD false = true → (q.1, q.2.1) = p
theorem judge_st {g : G} {r c rs cs : Int} (h : (gJudge g r c rs cs).st = true) : beyond g r c rs cs = false ∧ ∀ x ∈ cellsOf r c rs.toNat cs.toNat, blocked g (r, c, rs, cs) x = false := by
  unfold gJudge at h
  cases hb : beyond g r c rs cs with
  | true => rw [hb] at h; simp at h
  | false =>
    refine ⟨rfl, ?_⟩
    rw [hb] at h
    simp only [Bool.false_eq_true, if_false] at h
    cases hf : (cellsOf r c rs.toNat cs.toNat).find? (blocked g (r, c, rs, cs)) with
    | some p => rw [hf] at h; simp at h
    | none =>
      rw [List.find?_eq_none] at hf
      intro x hx
      simpa using hf x hx
theorem ownF_new (rows cols : Int) : OwnF (gNew rows cols) := fun p q h => by simp [gNew, getL] at h
theorem decide_F (g : G) (r c rs cs : Int) : (gDecide g r c rs cs).F = g.F := by unfold gDecide; split <;> rfl
theorem ownF_decide {g : G} (h : OwnF g) (r c rs cs : Int) : OwnF (gDecide g r c rs cs) := by
  intro p q hq hf
  rw [decide_F] at hf
  unfold gDecide at hq
  split at hq
  · simp only at hq
    split at hq
    · rename_i hst
      rw [getL_own] at hq
      split at hq
      · rename_i hm
        have hb := (judge_st hst).2 p hm
        unfold blocked at hb
        simp only [Bool.or_eq_false_iff, hf, Bool.true_and, decide_eq_false_iff_not, ne_eq, Decidable.not_not] at hb
        cases hq
        exact hb.2.symm
      · exact h p q hq hf
    · exact h p q hq hf
  · exact h p q hq hf
theorem fillAll_O (g : G) (l : List P2) : (fillAll g l).O = g.O := by
  induction l generalizing g with
  | nil => rfl
  | cons a r ih =>
    show (fillAll (gFill g a.1 a.2) r).O = _
    rw [ih]
    unfold gFill
    split <;> rfl
def decAll (g : G) (l : List Ac) : G := l.foldl (fun g a => gDecide g a.r a.c a.rs a.cs) g
theorem decAll_snoc (g : G) (l : List Ac) (a : Ac) : decAll g (l ++ [a]) = gDecide (decAll g l) a.r a.c a.rs a.cs := by simp [decAll]
theorem decAll_F (g : G) (l : List Ac) : (decAll g l).F = g.F := by
  induction l generalizing g with
  | nil => rfl
  | cons a r ih =>
    show (decAll (gDecide g a.r a.c a.rs a.cs) r).F = _
    rw [ih, decide_F]
theorem decAll_ownF {g : G} (h : OwnF g) (l : List Ac) : OwnF (decAll g l) := by
  induction l generalizing g with
  | nil => exact h
  | cons a r ih => exact ih (ownF_decide h _ _ _ _)
theorem decAll_len (g : G) (l : List Ac) : (decAll g l).L.length ≤ g.L.length + l.length := by
  induction l generalizing g with
  | nil => exact Nat.le_refl _
  | cons a r ih =>
    have h1 := ih (gDecide g a.r a.c a.rs a.cs)
    have h2 := len_decide g a.r a.c a.rs a.cs
    show (decAll (gDecide g a.r a.c a.rs a.cs) r).L.length ≤ _
    simp only [List.length_cons]
    omega
theorem decide_pos {g : G} {r c rs cs : Int} (h : gErr g r c rs cs = 0 ∨ 0 < g.L.length) : 0 < (gDecide g r c rs cs).L.length := by
  unfold gDecide
  split
  · simp
  · rcases h with h | h
    · contradiction
    · exact h
theorem fill_late {g : G} (h : 0 < g.L.length) (r c : Int) : okFill g r c = false ∧ gFill g r c = g := by
  have h1 : okFill g r c = false := by
    unfold okFill
    have : g.L.isEmpty = false := by
      cases hl : g.L with
      | nil => rw [hl] at h; simp at h
      | cons a r => rfl
    rw [this]
    simp
  exact ⟨h1, by unfold gFill; rw [h1]; rfl⟩
/-- What was filled is content. -/
theorem fill_full {g : G} {r c : Int} (h : okFill g r c = true) : (getL (gFill g r c).F (r, c)).getD false = true := by
  unfold gFill
  rw [h]
  simp [getL_putL]
theorem fill_keeps {g : G} {p : P2} (h : (getL g.F p).getD false = true) (r c : Int) : (getL (gFill g r c).F p).getD false = true := by
  unfold gFill
  split
  · simp only [getL_putL]
    split
    · rfl
    · exact h
  · exact h
end Go.Proofs.Ytihfmcadcojjnaa
