/- Plain: what holds of every board on which acts were done. -/
import Derived.Test.YtihfmcadcojjnaaS23Kept
namespace Go.Proofs.Ytihfmcadcojjnaa
open Go.RowKit
def gAct (g : G) (a : Ac) : G := if a.f then gFill g a.r a.c else gDecide g a.r a.c a.rs a.cs
def actAll (g : G) (l : List Ac) : G := l.foldl gAct g
theorem actAll_snoc (g : G) {l : List Ac} {k : Nat} {a : Ac} (h : l[k]? = some a) : actAll g (l.take (k + 1)) = gAct (actAll g (l.take k)) a := by
  rw [List.take_add_one, h]
  simp [actAll]
theorem actAll_len (g : G) (l : List Ac) : (actAll g l).L.length ≤ g.L.length + l.length := by
  induction l generalizing g with
  | nil => exact Nat.le_refl _
  | cons a r ih =>
    have h1 := ih (gAct g a)
    have h2 : (gAct g a).L.length ≤ g.L.length + 1 := by
      unfold gAct
      split
      · rw [len_fill]; omega
      · exact len_decide _ _ _ _ _
    show (actAll (gAct g a) r).L.length ≤ _
    simp only [List.length_cons]
    omega
def Ver.q (v : Ver) : R4 := (v.r, v.c, v.rs, v.cs)
def Ver.cells (v : Ver) : List P2 := cellsOf v.r v.c v.rs.toNat v.cs.toNat
/-- A verdict on a board of that size. -/
structure VOk (rows cols : Int) (v : Ver) : Prop where
  r0 : 0 ≤ v.r
  r1 : v.r < rows
  c0 : 0 ≤ v.c
  c1 : v.c < cols
  a0 : 1 ≤ v.rs
  a1 : v.rs ≤ 4096
  b0 : 1 ≤ v.cs
  b1 : v.cs ≤ 4096
  kin : v.kn = true → v.r ≤ v.br ∧ v.c ≤ v.bc ∧ v.br - v.r < v.rs ∧ v.bc - v.c < v.cs
  kno : v.kn = false → v.br = 0 ∧ v.bc = 0
  st : v.st = true → v.kn = false ∧ v.rs ≤ rows - v.r ∧ v.cs ≤ cols - v.c
  no : v.st = false → (v.kn = true ↔ (v.rs ≤ rows - v.r ∧ v.cs ≤ cols - v.c))
structure BInv (g : G) : Prop where
  wf : WfA g
  at_ : ∀ (i : Nat) v, g.L[i]? = some v → getL g.A (v.r, v.c) = some (i : Int)
  ok : ∀ v ∈ g.L, VOk g.rows g.cols v
  own : ∀ v ∈ g.L, v.st = true → ∀ x ∈ v.cells, getL g.O x = some v.q
  owner : ∀ x o, getL g.O x = some o → ∃ v ∈ g.L, v.st = true ∧ v.q = o ∧ x ∈ v.cells
theorem bInv_new (rows cols : Int) : BInv (gNew rows cols) :=
  ⟨wfA_new _ _, fun i v h => by simp [gNew] at h, fun v h => by simp [gNew] at h, fun v h => by simp [gNew] at h, fun x o h => by simp [gNew, getL] at h⟩
theorem bInv_fill {g : G} (h : BInv g) (r c : Int) : BInv (gFill g r c) := by
  have hw := wfA_fill h.wf r c
  unfold gFill at hw ⊢
  split
  · exact ⟨by rename_i ho; rw [if_pos ho] at hw; exact hw, h.at_, h.ok, h.own, h.owner⟩
  · exact h
theorem judge_ok {g : G} {r c rs cs : Int} (he : gErr g r c rs cs = 0) : VOk g.rows g.cols (gJudge g r c rs cs) := by
  obtain ⟨hh, h1, h2, h3⟩ := err_ok (by rw [he]; decide)
  obtain ⟨p1, p2, p3, p4⟩ := G.has_iff.1 hh
  obtain ⟨p5, p6⟩ := cs_le h1 h2 h3
  unfold gJudge
  cases hb : beyond g r c rs cs with
  | true =>
    simp only [if_true]
    unfold beyond at hb
    simp only [Bool.or_eq_true, decide_eq_true_eq] at hb
    exact ⟨p1, p2, p3, p4, h1, p5, h2, p6, fun h => (by cases h), fun _ => ⟨rfl, rfl⟩, fun h => (by cases h), fun _ => ⟨fun h => (by cases h), fun h => absurd h (by simp only; omega)⟩⟩
  | false =>
    simp only [Bool.false_eq_true, if_false]
    unfold beyond at hb
    simp only [Bool.or_eq_false_iff, decide_eq_false_iff_not] at hb
    cases hf : (cellsOf r c rs.toNat cs.toNat).find? (blocked g (r, c, rs, cs)) with
    | some p =>
      obtain ⟨x, y⟩ := p
      have hm := mem_cellsOf.1 (List.mem_of_find?_eq_some hf)
      exact ⟨p1, p2, p3, p4, h1, p5, h2, p6, fun _ => (by simp only; omega), fun h => (by cases h), fun h => (by cases h), fun _ => ⟨fun _ => (by simp only; omega), fun _ => rfl⟩⟩
    | none => exact ⟨p1, p2, p3, p4, h1, p5, h2, p6, fun h => (by cases h), fun _ => ⟨rfl, rfl⟩, fun _ => ⟨rfl, by simp only; omega⟩, fun h => (by cases h)⟩
theorem judge_q (g : G) (r c rs cs : Int) : (gJudge g r c rs cs).q = (r, c, rs, cs) ∧ (gJudge g r c rs cs).cells = cellsOf r c rs.toNat cs.toNat := by
  obtain ⟨st, kn, br, bc, hj⟩ := judge_form g r c rs cs
  rw [hj]
  exact ⟨rfl, rfl⟩
theorem bInv_decide {g : G} (h : BInv g) (r c rs cs : Int) : BInv (gDecide g r c rs cs) := by
  have hw := wfA_decide h.wf r c rs cs
  by_cases he : gErr g r c rs cs = 0
  · have hA : getL g.A (r, c) = none := (err_zero he).2
    have hJ := judge_ok he
    obtain ⟨hq, hc⟩ := judge_q g r c rs cs
    have hrc : ((gJudge g r c rs cs).r, (gJudge g r c rs cs).c) = (r, c) := by
      obtain ⟨st, kn, br, bc, hj⟩ := judge_form g r c rs cs
      rw [hj]
    have hst := @judge_st g r c rs cs
    have hold : ∀ x ∈ cellsOf r c rs.toNat cs.toNat, (gJudge g r c rs cs).st = true → getL g.O x = none := fun x hx hs => by
      have hb := (hst hs).2 x hx
      cases ho : getL g.O x with
      | none => rfl
      | some o =>
        exfalso
        unfold blocked at hb
        rw [ho] at hb
        simp only [Bool.or_eq_false_iff, decide_eq_false_iff_not, ne_eq, Decidable.not_not] at hb
        obtain ⟨v, hv, _, hvq, _⟩ := h.owner x o ho
        obtain ⟨i, hi⟩ := List.mem_iff_getElem?.1 hv
        have := h.at_ i v hi
        rw [hb.1] at hvq
        simp only [Ver.q, Prod.mk.injEq] at hvq
        rw [hvq.1, hvq.2.1, hA] at this
        cases this
    unfold gDecide at hw ⊢
    rw [if_pos he] at hw ⊢
    refine ⟨hw, fun i v hi => ?_, fun v hv => ?_, fun v hv hs x hx => ?_, fun x o ho => ?_⟩
    · simp only [getL_putL]
      simp only at hi
      by_cases hlt : i < g.L.length
      · rw [List.getElem?_append_left hlt] at hi
        have := h.at_ i v hi
        rw [if_neg (fun e => by rw [← e, hA] at this; cases this)]
        exact this
      · have hi0 : i = g.L.length := by
          have h1 := (List.getElem?_eq_some_iff.1 hi).1
          simp at h1
          omega
        subst hi0
        simp at hi
        rw [← hi, hrc, if_pos rfl]
    · simp only at hv
      rcases List.mem_append.1 hv with hv | hv
      · exact h.ok v hv
      · rw [List.mem_singleton.1 hv]; exact hJ
    · simp only at hv ⊢
      rcases List.mem_append.1 hv with hv | hv
      · have h1 := h.own v hv hs x hx
        split
        · rename_i hs'
          rw [getL_own, if_neg (fun hm => by rw [hold x hm hs'] at h1; cases h1)]
          exact h1
        · exact h1
      · have hv' := List.mem_singleton.1 hv
        subst hv'
        rw [hs, if_pos rfl, getL_own, if_pos (by rw [hc] at hx; exact hx), hq]
    · simp only at ho ⊢
      split at ho
      · rename_i hs'
        rw [getL_own] at ho
        split at ho
        · rename_i hm
          cases ho
          exact ⟨_, List.mem_append_right _ (by simp), hs', hq, by rw [hc]; exact hm⟩
        · obtain ⟨v, hv, h1⟩ := h.owner x o ho
          exact ⟨v, List.mem_append_left _ hv, h1⟩
      · obtain ⟨v, hv, h1⟩ := h.owner x o ho
        exact ⟨v, List.mem_append_left _ hv, h1⟩
  · unfold gDecide
    rw [if_neg he]
    exact h
theorem bInv_all {g : G} (h : BInv g) (l : List Ac) : BInv (actAll g l) := by
  induction l generalizing g with
  | nil => exact h
  | cons a r ih =>
    refine ih ?_
    unfold gAct
    split
    · exact bInv_fill h _ _
    · exact bInv_decide h _ _ _ _
theorem actAll_size (g : G) (l : List Ac) : (actAll g l).rows = g.rows ∧ (actAll g l).cols = g.cols := by
  induction l generalizing g with
  | nil => exact ⟨rfl, rfl⟩
  | cons a r ih =>
    have h := ih (gAct g a)
    have h2 : (gAct g a).rows = g.rows ∧ (gAct g a).cols = g.cols := by
      unfold gAct gFill gDecide
      split
      · split <;> exact ⟨rfl, rfl⟩
      · split <;> exact ⟨rfl, rfl⟩
    exact ⟨h.1.trans h2.1, h.2.trans h2.2⟩
theorem verdict_at {g : G} (h : BInv g) {v : Ver} (hv : v ∈ g.L) : verdictOf g v.r v.c = v := by
  obtain ⟨i, hi⟩ := List.mem_iff_getElem?.1 hv
  unfold verdictOf
  rw [h.at_ i v hi]
  simp [hi]
/-- Two rects that stand and have a cell in common are one. -/
theorem apart_at {g : G} (h : BInv g) {i j : Nat} {v u : Ver} (hi : g.L[i]? = some v) (hj : g.L[j]? = some u) (hv : v.st = true) (hu : u.st = true)
    (hm : v.r < u.r + u.rs ∧ u.r < v.r + v.rs ∧ v.c < u.c + u.cs ∧ u.c < v.c + v.cs) : i = j := by
  have ov := h.ok v (List.mem_of_getElem? hi)
  have ou := h.ok u (List.mem_of_getElem? hj)
  have a0 := ov.a0
  have b0 := ov.b0
  have a0' := ou.a0
  have b0' := ou.b0
  have hx : (max v.r u.r, max v.c u.c) ∈ v.cells := mem_cellsOf.2 (by omega)
  have hy : (max v.r u.r, max v.c u.c) ∈ u.cells := mem_cellsOf.2 (by omega)
  have e1 := h.own v (List.mem_of_getElem? hi) hv _ hx
  have e2 := h.own u (List.mem_of_getElem? hj) hu _ hy
  rw [e1] at e2
  simp only [Option.some.injEq, Ver.q, Prod.mk.injEq] at e2
  have f1 := h.at_ i v hi
  have f2 := h.at_ j u hj
  rw [e2.1, e2.2.1, f2] at f1
  simp at f1
  omega
end Go.Proofs.Ytihfmcadcojjnaa
