/- Plain facts for the laws on ids. -/
import Derived.Test.YtebifjjghogboaaD34Awake
namespace Go.Proofs.Ytebifjjghogboaa
open Go.RowKit
theorem hasB_iff {L : List Id2} {i : Id2} : hasB L i = true ↔ mayB i = true ∧ i.2 ≤ mo L i.1 := by
  unfold hasB
  simp only [Bool.and_eq_true, decide_eq_true_eq]
theorem may_pos {i : Id2} (h : mayB i = true) : 1 ≤ i.1 ∧ i.1 ≤ 1000 ∧ 1 ≤ i.2 := by
  unfold mayB at h
  simp only [Bool.and_eq_true, decide_eq_true_eq] at h
  exact ⟨h.1.1, h.1.2, h.2⟩
theorem cov_iff {s t : List Id2} (hs : Good s) (ht : Good t) : covL s t = true ↔ ∀ a, mo t a ≤ mo s a := by
  unfold covL
  rw [List.all_eq_true]
  constructor
  · intro h a
    by_cases e : mo t a = 0
    · rw [e]; exact (mo_bound hs a).1
    · have := (hasB_iff.1 (h _ (mo_pos e))).2
      exact this
  · intro h p hp
    refine hasB_iff.2 ⟨ht.may p hp, ?_⟩
    rw [← mo_mem ht hp]
    exact h p.1
theorem cov_refl {s : List Id2} (hs : Good s) : covL s s = true := (cov_iff hs hs).2 fun _ => Int.le_refl _
theorem cov_join_l {s t : List Id2} (hs : Good s) (ht : Good t) : covL (joinL s t) s = true := (cov_iff (good_joinL hs ht) hs).2 fun a => by rw [mo_joinL hs ht]; omega
theorem cov_join_r {s t : List Id2} (hs : Good s) (ht : Good t) : covL (joinL s t) t = true := (cov_iff (good_joinL hs ht) ht).2 fun a => by rw [mo_joinL hs ht]; omega
theorem joinL_comm {s t : List Id2} (hs : Good s) (ht : Good t) : joinL s t = joinL t s := eq_of_mo (good_joinL hs ht) (good_joinL ht hs) fun a => by
  rw [mo_joinL hs ht, mo_joinL ht hs]; omega
def stepM (a : Int) (m : Int) (p : Id2) : Int := if a = p.1 ∧ mayB p = true then max m p.2 else m
theorem mo_foldl (a : Int) : ∀ (M s : List Id2), Good s → (∀ p ∈ M, InI p) → mo (M.foldl addL s) a = M.foldl (stepM a) (mo s a)
  | [], s, _, _ => rfl
  | x :: r, s, hs, h => by
    rw [List.foldl_cons, List.foldl_cons, mo_foldl a r (addL s x) (good_addL hs (h x (by simp))) (fun p hp => h p (List.mem_cons_of_mem _ hp)), mo_addL hs]
    rfl
theorem stepM_comm (a m : Int) (x y : Id2) : stepM a (stepM a m x) y = stepM a (stepM a m y) x := by
  unfold stepM
  split <;> split <;> omega
theorem ofL_perm {M N : List Id2} (h : M.Perm N) (hM : ∀ p ∈ M, InI p) : ofL M = ofL N := by
  have hN : ∀ p ∈ N, InI p := fun p hp => hM p (h.symm.subset hp)
  refine eq_of_mo (ofL_good hM) (ofL_good hN) fun a => ?_
  unfold ofL
  rw [mo_foldl a M [] good_nil hM, mo_foldl a N [] good_nil hN]
  exact h.foldl_eq' (fun x _ y _ z => stepM_comm a z x y) _
theorem join_one {c : List Id2} (hc : Good c) {x : Id2} (hx : InI x) : joinL c (addL [] x) = addL c x := by
  have h1 := good_addL good_nil hx
  refine eq_of_mo (good_joinL hc h1) (good_addL hc hx) fun a => ?_
  rw [mo_joinL hc h1, mo_addL good_nil, mo_addL hc, mo_nil]
  have := mo_bound hc a
  split
  · rename_i h
    have := may_pos h.2
    omega
  · omega
theorem mem_foldl {p : Id2} : ∀ (M s : List Id2), p ∈ M.foldl addL s → p ∈ s ∨ p ∈ M
  | [], s, h => .inl h
  | x :: r, s, h => by
    rw [List.foldl_cons] at h
    rcases mem_foldl r _ h with h | h
    · unfold addL at h
      split at h
      · rcases mem_insL h with rfl | h
        · exact .inr (by simp)
        · exact .inl h
      · exact .inl h
    · exact .inr (List.mem_cons_of_mem _ h)
theorem above_all {S M : List Id2} (hS : Good S) (hM : ∀ p ∈ M, InI p) : covL S (ofL M) = M.all (fun i => hasB S i || !hasB (ofL M) i) := by
  have hT := ofL_good hM
  rw [Bool.eq_iff_iff, cov_iff hS hT, List.all_eq_true]
  constructor
  · intro h p _
    cases e : hasB (ofL M) p with
    | false => simp
    | true =>
      obtain ⟨h1, h2⟩ := hasB_iff.1 e
      have : hasB S p = true := hasB_iff.2 ⟨h1, Int.le_trans h2 (h p.1)⟩
      simp [this]
  · intro h a
    by_cases e : mo (ofL M) a = 0
    · rw [e]; exact (mo_bound hS a).1
    · have hm := mo_pos e
      have hM' : (a, mo (ofL M) a) ∈ M := (mem_foldl M [] hm).resolve_left (by simp)
      have := h _ hM'
      have hb : hasB (ofL M) (a, mo (ofL M) a) = true := hasB_iff.2 ⟨hT.may _ hm, Int.le_refl _⟩
      rw [hb] at this
      simp only [Bool.not_true, Bool.or_false] at this
      exact (hasB_iff.1 this).2
theorem cov_trans {s t u : List Id2} (hs : Good s) (ht : Good t) (hu : Good u) (h1 : covL s t = true) (h2 : covL t u = true) : covL s u = true :=
  (cov_iff hs hu).2 fun a => Int.le_trans ((cov_iff ht hu).1 h2 a) ((cov_iff hs ht).1 h1 a)
theorem foldl_most (M : List Id2) : ∀ m : Int, m ≤ M.foldl (fun m p => max m p.2) m ∧ (∀ p ∈ M, p.2 ≤ M.foldl (fun m p => max m p.2) m) ∧ ∀ k, m ≤ k → (∀ p ∈ M, p.2 ≤ k) → M.foldl (fun m p => max m p.2) m ≤ k := by
  induction M with
  | nil => intro m; exact ⟨Int.le_refl _, by simp, fun k h _ => h⟩
  | cons x r ih =>
    intro m
    obtain ⟨h1, h2, h3⟩ := ih (max m x.2)
    rw [List.foldl_cons]
    refine ⟨by omega, fun p hp => ?_, fun k hk hp => h3 k (by have := hp x (by simp); omega) (fun p hp' => hp p (List.mem_cons_of_mem _ hp'))⟩
    rcases List.mem_cons.1 hp with rfl | hp
    · omega
    · exact h2 p hp
theorem le_most {L : List Id2} {p : Id2} (h : p ∈ L) : p.2 ≤ most L := (foldl_most L 0).2.1 p h
theorem most_le {L : List Id2} {k : Int} (h0 : 0 ≤ k) (h : ∀ p ∈ L, p.2 ≤ k) : most L ≤ k := (foldl_most L 0).2.2 k h0 h
theorem mo_le_most {L : List Id2} (a : Int) : mo L a ≤ most L := by
  by_cases e : mo L a = 0
  · rw [e]; exact (foldl_most L 0).1
  · have := le_most (mo_pos e)
    exact this
theorem mem_insL_self {L : List Id2} {i : Id2} : i ∈ insL L i := by
  induction L with
  | nil => simp [insL]
  | cons x r ih =>
    unfold insL
    split
    · exact List.mem_cons_of_mem _ ih
    · split <;> simp
theorem most_ins {L : List Id2} {i : Id2} (h : most L ≤ i.2) : most (insL L i) = i.2 := by
  have h0 : 0 ≤ most L := (foldl_most L 0).1
  refine Int.le_antisymm (most_le (by omega) fun p hp => ?_) (le_most mem_insL_self)
  rcases mem_insL hp with rfl | hp
  · exact Int.le_refl _
  · have := le_most hp; omega
/-- What comes next, where there is such a one. -/
theorem later_facts {L : List Id2} (hL : Good L) {x : Int} (hne : nextL L x ≠ (0, 0)) :
    nextL L x = (x, most L + 1) ∧ InI (nextL L x) ∧ (∀ i, hasB L i = true → befB i (nextL L x) = true) ∧ hasB L (nextL L x) = false ∧ newB L (nextL L x) = true ∧
    hasB (addL L (nextL L x)) (nextL L x) = true ∧ newB (addL L (nextL L x)) (nextL L x) = false ∧ (most L + 1 ≠ 9223372036854775807 → befB (nextL L x) (nextL (addL L (nextL L x)) x) = true) := by
  have hb := most_bound hL (fun p hp => hp)
  have hc : ((decide (1 ≤ x) && decide (x ≤ 1000)) && !decide (most L = 9223372036854775807)) = true := by
    apply Classical.byContradiction
    intro h
    exact hne (by unfold nextL; rw [if_neg h])
  have hn : nextL L x = (x, most L + 1) := by unfold nextL; rw [if_pos hc]
  simp only [Bool.and_eq_true, decide_eq_true_eq, Bool.not_eq_true', decide_eq_false_iff_not] at hc
  obtain ⟨⟨x1, x2⟩, x3⟩ := hc
  have hm : mayB (x, most L + 1) = true := by
    unfold mayB
    simp only [Bool.and_eq_true, decide_eq_true_eq]
    omega
  have hI : InI (x, most L + 1) := ⟨by show _ ≤ x; omega, by show x ≤ _; omega, by show _ ≤ most L + 1; omega, by show most L + 1 ≤ _; omega⟩
  have hno : ¬ most L + 1 ≤ mo L x := by have := mo_le_most (L := L) x; omega
  have hnew : newB L (x, most L + 1) = true := by
    unfold newB
    rw [hm]
    simpa using hno
  have hadd : addL L (x, most L + 1) = insL L (x, most L + 1) := by unfold addL; rw [if_pos hnew]
  have hmo : mo (insL L (x, most L + 1)) x = most L + 1 := by rw [mo_insL hL, if_pos rfl]
  rw [hn, hadd]
  refine ⟨rfl, hI, fun i hi => ?_, ?_, hnew, ?_, ?_, fun hne2 => ?_⟩
  · obtain ⟨_, h2⟩ := hasB_iff.1 hi
    have := mo_le_most (L := L) i.1
    unfold befB
    simp only [Bool.or_eq_true, Bool.and_eq_true, decide_eq_true_eq]
    omega
  · rw [Bool.eq_false_iff]
    intro h
    exact hno (hasB_iff.1 h).2
  · exact hasB_iff.2 ⟨hm, by show most L + 1 ≤ mo _ x; rw [hmo]; exact Int.le_refl _⟩
  · unfold newB
    rw [show mo (insL L (x, most L + 1)) (x, most L + 1).1 = most L + 1 from hmo]
    simp
  · have hmi : most (insL L (x, most L + 1)) = most L + 1 := most_ins (by show most L ≤ most L + 1; omega)
    have : nextL (insL L (x, most L + 1)) x = (x, most L + 1 + 1) := by
      unfold nextL
      rw [hmi, if_pos]
      simp only [Bool.and_eq_true, decide_eq_true_eq, Bool.not_eq_true', decide_eq_false_iff_not]
      exact ⟨⟨x1, x2⟩, hne2⟩
    rw [this]
    unfold befB
    simp only [Bool.or_eq_true, Bool.and_eq_true, decide_eq_true_eq]
    omega
theorem hasB_nil (i : Id2) : hasB [] i = false := by
  rw [Bool.eq_false_iff]
  intro h
  obtain ⟨h1, h2⟩ := hasB_iff.1 h
  rw [mo_nil] at h2
  have := may_pos h1
  omega
theorem covL_nil (s : List Id2) : covL s [] = true := rfl
theorem nil_covL {s : List Id2} : covL [] s = decide (s.length = 0) := by
  cases s with
  | nil => rfl
  | cons x r => simp [covL, hasB_nil]
theorem newB_nil (i : Id2) : newB [] i = mayB i := by rw [newB_eq, hasB_nil]; simp
end Go.Proofs.Ytebifjjghogboaa
