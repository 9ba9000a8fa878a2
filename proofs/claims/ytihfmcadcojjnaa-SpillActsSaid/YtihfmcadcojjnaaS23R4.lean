/- The document's Decide: plain facts. -/
import Derived.Test.YtihfmcadcojjnaaS23R3
import Derived.Test.YtihfmcadcojjnaaS23PlayP
namespace Go.Proofs.Ytihfmcadcojjnaa
open Go.RowKit
/-- The board and the document's board are one. -/
structure Rel (g : G) (F : List P2) (L : List Ver) : Prop where
  inv : BInv g
  l : g.L = L
  f : ∀ r c, fHas F r c = (getL g.F (r, c)).getD false
  r0 : 0 ≤ g.rows
  r1 : g.rows ≤ 1000
  c0 : 0 ≤ g.cols
  c1 : g.cols ≤ 1000
theorem on_has (g : G) (r c : Int) : onB g.rows g.cols r c = g.has r c := rfl
theorem Rel.anch {g : G} {F : List P2} {L : List Ver} (h : Rel g F L) : Anch L := fun v hv => by
  rw [← h.l] at hv
  exact ⟨(h.inv.ok v hv).r0, (h.inv.ok v hv).c0⟩
theorem inB_iff {rows cols : Int} {v : Ver} (h : VOk rows cols v) (x y : Int) : inB x y v = true ↔ (x, y) ∈ v.cells := by
  unfold inB Ver.cells
  rw [mem_cellsOf]
  have a0 := h.a0
  have b0 := h.b0
  simp only [Bool.and_eq_true, decide_eq_true_eq]
  omega
theorem of_some {g : G} {F : List P2} {L : List Ver} (h : Rel g F L) {r c m : Int} (hm : IdxOf (ofB r c) L m) :
    (0 ≤ m ∧ ∃ (k : Nat) (v : Ver), m = (k : Int) ∧ L[k]? = some v ∧ v.r = r ∧ v.c = c ∧ getL g.A (r, c) = some (k : Int)) ∨ (m = -1 ∧ getL g.A (r, c) = none) := by
  rcases hm with ⟨k, v, rfl, hk, hv⟩ | ⟨rfl, hn⟩
  · unfold ofB at hv
    simp only [Bool.and_eq_true, decide_eq_true_eq] at hv
    refine .inl ⟨by omega, k, v, rfl, hk, hv.1, hv.2, ?_⟩
    have := h.inv.at_ k v (by rw [h.l]; exact hk)
    rwa [hv.1, hv.2] at this
  · refine .inr ⟨rfl, ?_⟩
    cases e : getL g.A (r, c) with
    | none => rfl
    | some n =>
      obtain ⟨j, _, v, hv, hq⟩ := h.inv.wf _ _ e
      have hf := hn v (by rw [← h.l]; exact List.mem_of_getElem? hv)
      simp only [Prod.mk.injEq] at hq
      simp [ofB, hq] at hf
theorem ow_some {g : G} {F : List P2} {L : List Ver} (h : Rel g F L) {x y m : Int} (hm : IdxOf (owB x y) L m) :
    (0 ≤ m ∧ ∃ (k : Nat) (v : Ver), m = (k : Int) ∧ L[k]? = some v ∧ getL g.O (x, y) = some v.q) ∨ (m = -1 ∧ getL g.O (x, y) = none) := by
  rcases hm with ⟨k, v, rfl, hk, hv⟩ | ⟨rfl, hn⟩
  · unfold owB at hv
    simp only [Bool.and_eq_true] at hv
    have hmem : v ∈ g.L := by rw [h.l]; exact List.mem_of_getElem? hk
    exact .inl ⟨by omega, k, v, rfl, hk, h.inv.own v hmem hv.1 _ ((inB_iff (h.inv.ok v hmem) x y).1 hv.2)⟩
  · refine .inr ⟨rfl, ?_⟩
    cases e : getL g.O (x, y) with
    | none => rfl
    | some o =>
      obtain ⟨v, hv, hst, _, hc⟩ := h.inv.owner _ _ e
      have hf := hn v (by rw [← h.l]; exact hv)
      simp [owB, hst, (inB_iff (h.inv.ok v hv) x y).2 hc] at hf
theorem blocked_eq {g : G} {F : List P2} {L : List Ver} (h : Rel g F L) {r c rs cs x y m : Int} (hA : getL g.A (r, c) = none) (hm : IdxOf (owB x y) L m) :
    blocked g (r, c, rs, cs) (x, y) = (decide (0 ≤ m) || (fHas F x y && !(decide (x = r) && decide (y = c)))) := by
  unfold blocked
  rw [h.f]
  have e2 : decide ((x, y) ≠ (r, c)) = !(decide (x = r) && decide (y = c)) := by
    by_cases h1 : x = r <;> by_cases h2 : y = c <;> simp [h1, h2]
  rcases ow_some h hm with ⟨h0, k, v, rfl, hk, hO⟩ | ⟨rfl, hO⟩
  · rw [hO]
    have hne : v.q ≠ (r, c, rs, cs) := fun e => by
      have := h.inv.at_ k v (by rw [h.l]; exact hk)
      simp only [Ver.q, Prod.mk.injEq] at e
      rw [e.1, e.2.1, hA] at this
      cases this
    simp [hne]
  · rw [hO]
    simp only [Bool.false_or]
    rw [show decide ((0 : Int) ≤ -1) = false from rfl, Bool.false_or]
    exact congrArg _ e2
theorem blocked_has {g : G} {F : List P2} {L : List Ver} (h : Rel g F L) {r c rs cs x y : Int} (hf : fHas F x y = true) (hne : ¬ (x = r ∧ y = c)) : blocked g (r, c, rs, cs) (x, y) = true := by
  unfold blocked
  rw [← h.f, hf]
  have : decide ((x, y) ≠ (r, c)) = true := decide_eq_true (fun e => hne ⟨congrArg Prod.fst e, congrArg Prod.snd e⟩)
  simp only [Bool.true_and, Bool.or_eq_true]
  exact .inr this
theorem err_two {g : G} {r c rs cs : Int} (h : g.has r c = false ∨ rs < 1 ∨ cs < 1 ∨ 4096 < rs ∨ 4096 < cs ∨ 4096 < rs * cs) : gErr g r c rs cs = 2 := by
  unfold gErr
  rw [if_pos]
  by_cases h1 : g.has r c = false
  · exact .inl h1
  · by_cases h2 : rs < 1
    · exact .inr (.inl h2)
    · by_cases h3 : cs < 1
      · exact .inr (.inr (.inl h3))
      · refine .inr (.inr (.inr ?_))
        have hmul : 4096 < rs * cs := by
          rcases h with h | h | h | h | h | h
          · exact absurd h h1
          · omega
          · omega
          · have : rs * 1 ≤ rs * cs := Int.mul_le_mul_of_nonneg_left (by omega) (by omega)
            omega
          · have : 1 * cs ≤ rs * cs := Int.mul_le_mul_of_nonneg_right (by omega) (by omega)
            omega
          · exact h
        exact Int.ediv_lt_of_lt_mul (by omega) hmul
theorem err_not_two {g : G} {r c rs cs : Int} (h1 : g.has r c = true) (h2 : ¬ rs < 1) (h3 : ¬ cs < 1) (h4 : ¬ 4096 < rs * cs) :
    gErr g r c rs cs = if (getL g.F (r, c)).getD false = false then 3 else if (getL g.A (r, c)).isSome then 4 else 0 := by
  unfold gErr
  rw [if_neg]
  rintro (h | h | h | h)
  · rw [h1] at h; cases h
  · exact h2 h
  · exact h3 h
  · have := Int.lt_mul_of_ediv_lt (by omega) h
    omega
theorem dec_same {g : G} {r c rs cs : Int} (h : gErr g r c rs cs ≠ 0) : gDecide g r c rs cs = g := by unfold gDecide; rw [if_neg h]
theorem dec_L {g : G} {r c rs cs : Int} (h : gErr g r c rs cs = 0) : (gDecide g r c rs cs).L = g.L ++ [gJudge g r c rs cs] := by unfold gDecide; rw [if_pos h]
end Go.Proofs.Ytihfmcadcojjnaa
