/- CycleTurned, plain: pairs of who reaches whom, counted. -/
import Derived.Test.YtcjohhminiedfaaQC21MoreP
namespace Go.Proofs.Ytcjohhminiedfaa
open Classical in
/-- Whom i reaches, rising. -/
noncomputable def rowR (n : Nat) (T : List (List Nat)) (i : Nat) : List Nat := (List.range n).filter fun y => decide (Rch T i y)
theorem mem_rowR {n : Nat} {T : List (List Nat)} {i y : Nat} : y ∈ rowR n T i ↔ y < n ∧ Rch T i y := by
  unfold rowR
  rw [List.mem_filter, List.mem_range, @decide_eq_true_iff _ (Classical.propDecidable _)]
theorem rch_lt {n : Nat} {T : List (List Nat)} (hT : TOk n T) {i y : Nat} (hi : i < n) (h : Rch T i y) : y < n :=
  h.stay (P := fun y => y < n) hi fun _ _ _ hv => hT.at hv
theorem rowR_rise (n : Nat) (T : List (List Nat)) (i : Nat) : (rowR n T i).Pairwise (· < ·) := List.pairwise_lt_range.sublist List.filter_sublist
theorem rowR_nodup (n : Nat) (T : List (List Nat)) (i : Nat) : (rowR n T i).Nodup := List.nodup_range.sublist List.filter_sublist
theorem ReachR.row {n : Nat} {T : List (List Nat)} (hT : TOk n T) {i : Nat} {r : List Nat} (hi : i < n) (h : ReachR n T [(i : Int)] r) : r = rowR n T i := by
  refine rise_eq h.1 (rowR_rise n T i) fun y => ?_
  rw [h.2, mem_rowR]
  constructor
  · rintro ⟨s, hs, hr⟩
    obtain ⟨h1, h2⟩ := mem_nodesI.1 hs
    have e : s = i := by
      have := List.mem_singleton.1 h2
      omega
    rw [e] at hr
    exact ⟨rch_lt hT hi hr, hr⟩
  · exact fun ⟨_, hr⟩ => ⟨i, mem_nodesI.2 ⟨hi, List.mem_singleton.2 rfl⟩, hr⟩
/-- The pairs of who reaches whom, of the first k. -/
noncomputable def prs (n : Nat) (T : List (List Nat)) (k : Nat) : List (Nat × Nat) := (List.range k).flatMap fun i => (rowR n T i).map fun x => (i, x)
theorem prs_zero (n : Nat) (T : List (List Nat)) : prs n T 0 = [] := rfl
theorem prs_succ (n : Nat) (T : List (List Nat)) (k : Nat) : prs n T (k + 1) = prs n T k ++ (rowR n T k).map fun x => (k, x) := by
  unfold prs
  rw [List.range_succ, List.flatMap_append]
  simp
theorem mem_prs {n : Nat} {T : List (List Nat)} {k a b : Nat} : (a, b) ∈ prs n T k ↔ a < k ∧ b < n ∧ Rch T a b := by
  unfold prs
  rw [List.mem_flatMap]
  constructor
  · rintro ⟨i, hi, h⟩
    obtain ⟨x, hx, e⟩ := List.mem_map.1 h
    injection e with e1 e2
    subst e1 e2
    exact ⟨List.mem_range.1 hi, mem_rowR.1 hx⟩
  · exact fun ⟨h1, h2⟩ => ⟨a, List.mem_range.2 h1, List.mem_map.2 ⟨b, mem_rowR.2 h2, rfl⟩⟩
theorem prs_nodup (n : Nat) (T : List (List Nat)) (k : Nat) : (prs n T k).Nodup := by
  induction k with
  | zero => exact List.nodup_nil
  | succ k ih =>
    rw [prs_succ]
    refine List.nodup_append.2 ⟨ih, ?_, fun p hp q hq e => ?_⟩
    · unfold List.Nodup
      rw [List.pairwise_map]
      exact (rowR_nodup n T k).imp fun h e => h (by injection e)
    · obtain ⟨x, _, rfl⟩ := List.mem_map.1 hq
      rw [e] at hp
      have := (mem_prs.1 hp).1
      omega
/-- Pairs, the last row under way. -/
noncomputable def prsJ (n : Nat) (T : List (List Nat)) (k j : Nat) : List (Nat × Nat) := prs n T k ++ ((rowR n T k).take j).map fun x => (k, x)
theorem prsJ_zero (n : Nat) (T : List (List Nat)) (k : Nat) : prsJ n T k 0 = prs n T k := by simp [prsJ]
theorem prsJ_all (n : Nat) (T : List (List Nat)) (k : Nat) : prsJ n T k (rowR n T k).length = prs n T (k + 1) := by
  unfold prsJ
  rw [List.take_length, prs_succ]
theorem prsJ_push {n : Nat} {T : List (List Nat)} {k j x : Nat} (h : (rowR n T k)[j]? = some x) : prsJ n T k (j + 1) = prsJ n T k j ++ [(k, x)] := by
  unfold prsJ
  rw [List.take_add_one, h]
  simp
theorem prsJ_new {n : Nat} {T : List (List Nat)} {k j x : Nat} (h : (rowR n T k)[j]? = some x) : (k, x) ∉ prsJ n T k j := by
  unfold prsJ
  intro hm
  rcases List.mem_append.1 hm with h1 | h1
  · have := (mem_prs.1 h1).1
    omega
  · obtain ⟨y, hy, e⟩ := List.mem_map.1 h1
    injection e with _ e
    subst e
    obtain ⟨i, hi⟩ := List.mem_iff_getElem?.1 hy
    have hij : i < j := by
      have := (List.getElem?_eq_some_iff.1 hi).1
      rw [List.length_take] at this
      omega
    rw [List.getElem?_take, if_pos hij] at hi
    obtain ⟨i1, i2⟩ := List.getElem?_eq_some_iff.1 hi
    obtain ⟨j1, j2⟩ := List.getElem?_eq_some_iff.1 h
    have := (List.nodup_iff_pairwise_ne.1 (rowR_nodup n T k))
    have := List.pairwise_iff_getElem.1 this i j i1 j1 hij
    rw [i2, j2] at this
    exact this rfl
theorem prsJ_len (n : Nat) (T : List (List Nat)) (k j : Nat) (hj : j ≤ (rowR n T k).length) : (prsJ n T k j).length = (prs n T k).length + j := by
  unfold prsJ
  rw [List.length_append, List.length_map, List.length_take]
  omega
theorem rowR_len (n : Nat) (T : List (List Nat)) (i : Nat) : (rowR n T i).length ≤ n := by
  unfold rowR
  have := List.length_filter_le (fun y => @decide (Rch T i y) (Classical.propDecidable _)) (List.range n)
  rw [List.length_range] at this
  exact this
theorem prs_len (n : Nat) (T : List (List Nat)) (k : Nat) : (prs n T k).length ≤ k * n := by
  induction k with
  | zero => simp [prs_zero]
  | succ k ih =>
    rw [prs_succ, List.length_append, List.length_map, Nat.succ_mul]
    have := rowR_len n T k
    omega
theorem prs_mono (n : Nat) (T : List (List Nat)) {k m : Nat} (h : k ≤ m) : (prs n T k).length ≤ (prs n T m).length := by
  induction m with
  | zero =>
    have : k = 0 := by omega
    rw [this]
    exact Nat.le_refl _
  | succ m ih =>
    by_cases e : k = m + 1
    · rw [e]
      exact Nat.le_refl _
    · have := ih (by omega)
      rw [prs_succ, List.length_append]
      omega
/-- As many pairs one way as the other. -/
theorem prs_turn {n : Nat} {T T' : List (List Nat)} (h : ∀ x y, Rch T x y ↔ Rch T' y x) : (prs n T n).length = (prs n T' n).length := by
  have hn : ((prs n T' n).map fun p => (p.2, p.1)).Nodup := by
    unfold List.Nodup
    rw [List.pairwise_map]
    exact (prs_nodup n T' n).imp fun {a b} h e => h (by
      injection e with e1 e2
      exact Prod.ext e2 e1)
  have hp : (prs n T n).Perm ((prs n T' n).map fun p => (p.2, p.1)) := by
    refine (List.perm_ext_iff_of_nodup (prs_nodup n T n) hn).2 fun p => ?_
    obtain ⟨a, b⟩ := p
    rw [mem_prs, List.mem_map]
    constructor
    · exact fun ⟨h1, h2, h3⟩ => ⟨(b, a), mem_prs.2 ⟨h2, h1, (h a b).1 h3⟩, rfl⟩
    · rintro ⟨⟨c, d⟩, hm, e⟩
      injection e with e1 e2
      have e1 : d = a := e1
      have e2 : c = b := e2
      subst e1 e2
      obtain ⟨k1, k2, k3⟩ := mem_prs.1 hm
      exact ⟨k2, k1, (h _ _).2 k3⟩
  rw [hp.length_eq, List.length_map]
end Go.Proofs.Ytcjohhminiedfaa
