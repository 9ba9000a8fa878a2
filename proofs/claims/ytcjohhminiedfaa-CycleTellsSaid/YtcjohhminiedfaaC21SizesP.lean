/- CycleSizes, plain. -/
import Derived.Test.YtcjohhminiedfaaC21Reach
namespace Go.Proofs.Ytcjohhminiedfaa
theorem flat_all {n : Nat} {T L : List (List Nat)} (hs : SCC n T L) {O : List Nat} (h1 : O.Nodup) (h2 : ∀ i, i ∈ O ↔ i < L.length) : (O.flatMap fun i => L.getD i []).length = n := by
  obtain ⟨k1, k2⟩ := flat_nodup hs O h1 fun i hi => (h2 i).1 hi
  have hp : (O.flatMap fun i => L.getD i []).Perm (List.range n) := by
    refine (List.perm_ext_iff_of_nodup k1 List.nodup_range).2 fun y => ?_
    rw [List.mem_range]
    refine ⟨k2 y, fun hy => ?_⟩
    obtain ⟨p, hp, hyp⟩ := hs.of_at hy
    refine List.mem_flatMap.2 ⟨ofL L y, (h2 _).2 (hs.of_lt hy), ?_⟩
    rw [List.getD_eq_getElem?_getD, hp]
    exact hyp
  rw [hp.length_eq, List.length_range]
theorem order_len {n : Nat} {T L : List (List Nat)} {O : List Nat} (hT : TOk n T) (hL : PartsR n T L) (hO : IsOrd T L O) : (O.flatMap fun i => L.getD i []).length = n := flat_all (hL.pl hT).scc hO.nod hO.all
theorem rch_nil {n x y : Nat} (h : Rch (tos n []) x y) : x = y := by
  cases h with
  | refl => rfl
  | step e _ =>
    rw [mem_tos (EOk.nil n)] at e
    cases e
theorem sum_ones {α : Type} (l : List α) : (l.map fun _ => 1).sum = l.length := by
  induction l with
  | nil => rfl
  | cons a r ih =>
    rw [List.map_cons, List.sum_cons, ih, List.length_cons]
    omega
theorem parts_len {n : Nat} {L : List (List Nat)} (hL : PartsR n (tos n []) L) : L.length = n := by
  have hp := hL.pl (tos_ok (EOk.nil n))
  have h1 := flat_all hp.scc (O := List.range L.length) List.nodup_range fun i => List.mem_range
  rw [List.length_flatMap] at h1
  have h2 : (List.range L.length).map (fun i => (L.getD i []).length) = (List.range L.length).map fun _ => 1 := by
    refine List.map_congr_left fun i hi => ?_
    have hi := List.mem_range.1 hi
    have hl : L[i]? = some (L.getD i []) := by rw [List.getD_eq_getElem?_getD, List.getElem?_eq_getElem hi]; rfl
    have hm := List.mem_of_getElem? hl
    generalize L.getD i [] = p at *
    have hne := hp.scc.ne p hm
    have hnd := hp.scc.nod p hm
    have hb := hp.scc.both p hm
    match p, hne, hnd, hb with
    | [a], _, _, _ => rfl
    | a :: b :: r, _, hnd, hb =>
      have := rch_nil (hb a (by simp) b (by simp))
      subst this
      simp at hnd
  rw [h2, sum_ones, List.length_range] at h1
  exact h1
theorem reach_len {n : Nat} {x : Int} {r : List Nat} (h : ReachR n (tos n []) [x] r) : r.length = if 0 ≤ x ∧ x < (n : Int) then 1 else 0 := by
  by_cases hx : 0 ≤ x ∧ x < (n : Int)
  · rw [if_pos hx]
    have : r = [x.toNat] := by
      refine rise_eq h.1 (List.pairwise_singleton _ _) fun y => ?_
      rw [h.2]
      constructor
      · rintro ⟨s, hs, hr⟩
        obtain ⟨h1, h2⟩ := mem_nodesI.1 hs
        have := rch_nil hr
        simp only [List.mem_singleton] at h2 ⊢
        omega
      · intro hy
        rw [List.mem_singleton] at hy
        exact ⟨y, mem_nodesI.2 ⟨by omega, by simp; omega⟩, .refl y⟩
    rw [this]
    rfl
  · rw [if_neg hx]
    refine List.length_eq_zero_iff.2 (List.eq_nil_iff_forall_not_mem.2 fun y hy => ?_)
    obtain ⟨s, hs, _⟩ := (h.2 y).1 hy
    obtain ⟨h1, h2⟩ := mem_nodesI.1 hs
    simp only [List.mem_singleton] at h2
    omega
theorem round_len0 {n x : Nat} {f : Nat → Int} {r : List Nat} (h : RoundR n (adjE []) f x r) : r.length = 0 := by
  rcases h with ⟨l, rfl, h1⟩ | ⟨rfl, _⟩
  · obtain ⟨z, hz⟩ := h1.first
    have := hz.edge
    simp [adjE] at this
  · rfl
theorem round_len1 {n x : Nat} {f : Nat → Int} {r : List Nat} (hx : x < n) (hf : Dist n (adjE [(x, x)]) x f) (h : RoundR n (adjE [(x, x)]) f x r) : r.length = 1 := by
  rcases h with ⟨l, rfl, h1⟩ | ⟨rfl, h1⟩
  · cases h1 with
    | stop _ => rfl
    | go k1 k2 _ =>
      have := k1.edge
      simp [adjE] at this
      exact absurd this k2
  · have := h1 x hx (by simp [adjE])
    rw [hf.zero] at this
    omega
theorem none_ok : TOk 0 [] := ⟨rfl, fun l hl => by cases hl⟩
theorem parts_none {L : List (List Nat)} (hL : PartsR 0 [] L) : L.length = 0 := parts_len (n := 0) hL
theorem order_none {L : List (List Nat)} {O : List Nat} (hL : PartsR 0 [] L) (hO : IsOrd [] L O) : (O.flatMap fun i => L.getD i []).length = 0 := order_len none_ok hL hO
theorem reach_none {x : Int} {r : List Nat} (h : ReachR 0 [] [x] r) : r.length = 0 := by
  have := reach_len (n := 0) h
  rw [if_neg (by omega)] at this
  exact this
theorem okE_nil {n : Nat} (x : Int) : okE n [] x x = decide (0 ≤ x ∧ x < (n : Int)) := by
  unfold okE
  simp
theorem addE_nil {n : Nat} {x : Int} (hx : 0 ≤ x ∧ x < (n : Int)) : addE n [] x x = [(x.toNat, x.toNat)] := by
  unfold addE
  rw [okE_nil, if_pos (by simpa using hx)]
  rfl
end Go.Proofs.Ytcjohhminiedfaa
