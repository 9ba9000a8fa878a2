/- Cycle: the parts in their order, plain. -/
import Derived.Test.YtcjohhminiedfaaQC21T
import Derived.Test.YtcjohhminiedfaaQC21Parts
namespace Go.Proofs.Ytcjohhminiedfaa
theorem sortN_perm (l : List Nat) : (sortN l).Perm l := List.mergeSort_perm l _
theorem sortN_sorted (l : List Nat) : (sortN l).Pairwise (· ≤ ·) := by
  have := List.pairwise_mergeSort (le := fun a b : Nat => decide (a ≤ b)) (fun a b c h1 h2 => by simp at *; omega) (fun a b => by simp; omega) l
  exact this.imp fun h => by simpa using h
theorem strict_of {l : List Nat} (h : l.Pairwise (· ≤ ·)) (hn : l.Nodup) : l.Pairwise (· < ·) := by
  induction l with
  | nil => exact List.Pairwise.nil
  | cons a r ih =>
    rw [List.pairwise_cons] at h ⊢
    rw [List.nodup_cons] at hn
    exact ⟨fun b hb => Nat.lt_of_le_of_ne (h.1 b hb) fun e => hn.1 (by rw [e]; exact hb), ih h.2 hn.2⟩
/-- Two rows that rise and have the same members are one. -/
theorem rise_eq {l m : List Nat} (hl : l.Pairwise (· < ·)) (hm : m.Pairwise (· < ·)) (h : ∀ x, x ∈ l ↔ x ∈ m) : l = m := by
  have n1 : l.Nodup := hl.imp fun h e => by omega
  have n2 : m.Nodup := hm.imp fun h e => by omega
  exact ((List.perm_ext_iff_of_nodup n1 n2).2 h).eq_of_pairwise (le := (· < ·)) (fun a b _ _ h1 h2 => by omega) hl hm
/-- All parts, each rising, in the order of their least nodes. -/
structure PL (n : Nat) (T L : List (List Nat)) : Prop where
  scc : SCC n T L
  rise : ∀ l ∈ L, l.Pairwise (· < ·)
  ord : L.Pairwise fun a b => hd a < hd b
theorem hd_mem {l : List Nat} (h : l ≠ []) : hd l ∈ l := by
  cases l with
  | nil => exact absurd rfl h
  | cons a r => simp [hd]
theorem PartsR.pl {n : Nat} {T L : List (List Nat)} (hT : TOk n T) (h : PartsR n T L) : PL n T L := by
  obtain ⟨h1, _⟩ := found_scc hT
  obtain ⟨hp, hs⟩ := h
  have hmem : ∀ l, l ∈ L ↔ ∃ p ∈ foundF n T, sortN p = l := fun l => by rw [hp.mem_iff, List.mem_map]
  have hdis : ((foundF n T).map sortN).Pairwise fun p q => ∀ y ∈ p, y ∉ q := by
    rw [List.pairwise_map]
    refine h1.dis.imp fun hpq y hy hy2 => ?_
    exact hpq y ((sortN_perm _).mem_iff.1 hy) ((sortN_perm _).mem_iff.1 hy2)
  have hne : ∀ l ∈ L, l ≠ [] := fun l hl e => by
    obtain ⟨p, hpm, e2⟩ := (hmem l).1 hl
    exact h1.ne p hpm (List.length_eq_zero_iff.1 (by rw [← sortN_length p, e2, e]; rfl))
  have hdisL : L.Pairwise fun p q => ∀ y ∈ p, y ∉ q := hp.symm.pairwise hdis fun {x y} hxy z hz hz2 => hxy z hz2 hz
  refine ⟨⟨fun y hy => ?_, fun l hl y hy => ?_, hne, hdisL, fun l hl => ?_, fun l hl y hy z hz => ?_, fun l hl y hy z h3 h4 => ?_⟩, fun l hl => ?_, ?_⟩
  · obtain ⟨p, hpm, hyp⟩ := h1.cover y hy
    exact ⟨sortN p, (hmem _).2 ⟨p, hpm, rfl⟩, (sortN_perm p).mem_iff.2 hyp⟩
  · obtain ⟨p, hpm, rfl⟩ := (hmem l).1 hl
    exact h1.lt p hpm y ((sortN_perm p).mem_iff.1 hy)
  · obtain ⟨p, hpm, rfl⟩ := (hmem l).1 hl
    exact (sortN_perm p).symm.nodup (h1.nod p hpm)
  · obtain ⟨p, hpm, rfl⟩ := (hmem l).1 hl
    exact h1.both p hpm y ((sortN_perm p).mem_iff.1 hy) z ((sortN_perm p).mem_iff.1 hz)
  · obtain ⟨p, hpm, rfl⟩ := (hmem l).1 hl
    exact (sortN_perm p).mem_iff.2 (h1.max p hpm y ((sortN_perm p).mem_iff.1 hy) z h3 h4)
  · obtain ⟨p, hpm, rfl⟩ := (hmem l).1 hl
    exact strict_of (sortN_sorted p) ((sortN_perm p).symm.nodup (h1.nod p hpm))
  · refine (hs.and hdisL).imp_of_mem fun {a b} ha hb hab => ?_
    exact Nat.lt_of_le_of_ne hab.1 fun e => hab.2 (hd a) (hd_mem (hne a ha)) (by rw [e]; exact hd_mem (hne b hb))
theorem SCC.same {n : Nat} {T L : List (List Nat)} (h : SCC n T L) {i j x : Nat} {p q : List Nat} (hp : L[i]? = some p) (hq : L[j]? = some q) (hx : x ∈ p) (hx2 : x ∈ q) : i = j := by
  obtain ⟨i1, i2⟩ := List.getElem?_eq_some_iff.1 hp
  obtain ⟨j1, j2⟩ := List.getElem?_eq_some_iff.1 hq
  have hd := List.pairwise_iff_getElem.1 h.dis
  rcases Nat.lt_trichotomy i j with h1 | h1 | h1
  · exact absurd (by rw [j2]; exact hx2) (hd i j i1 j1 h1 x (by rw [i2]; exact hx))
  · exact h1
  · exact absurd (by rw [i2]; exact hx) (hd j i j1 i1 h1 x (by rw [j2]; exact hx2))
/-- Whose part x is of. -/
def ofL (L : List (List Nat)) (x : Nat) : Nat := L.findIdx fun l => l.contains x
theorem SCC.of_eq {n : Nat} {T L : List (List Nat)} (h : SCC n T L) {i x : Nat} {p : List Nat} (hp : L[i]? = some p) (hx : x ∈ p) : ofL L x = i := by
  have hlt : ofL L x < L.length := List.findIdx_lt_length_of_exists ⟨p, List.mem_of_getElem? hp, by simpa using hx⟩
  have h2 := List.findIdx_getElem (xs := L) (p := fun l : List Nat => l.contains x) (w := hlt)
  exact h.same (List.getElem?_eq_getElem hlt) hp (show x ∈ L[ofL L x] from List.contains_iff_mem.1 h2) hx
theorem SCC.of_at {n : Nat} {T L : List (List Nat)} (h : SCC n T L) {x : Nat} (hx : x < n) : ∃ p, L[ofL L x]? = some p ∧ x ∈ p := by
  obtain ⟨p, hp, hxp⟩ := h.cover x hx
  obtain ⟨i, hi⟩ := List.mem_iff_getElem?.1 hp
  rw [h.of_eq hi hxp]
  exact ⟨p, hi, hxp⟩
theorem SCC.of_lt {n : Nat} {T L : List (List Nat)} (h : SCC n T L) {x : Nat} (hx : x < n) : ofL L x < L.length := by
  obtain ⟨p, hp, _⟩ := h.of_at hx
  exact (List.getElem?_eq_some_iff.1 hp).1
/-- The parts are told apart by who stands in them. -/
theorem PL.uniq {n : Nat} {T L M : List (List Nat)} (h : PL n T L) (k : PL n T M) (hLM : ∀ l ∈ L, l ∈ M) (hML : ∀ l ∈ M, l ∈ L) : L = M := by
  have key : ∀ (L M : List (List Nat)), L.Pairwise (fun a b => hd a < hd b) → M.Pairwise (fun a b => hd a < hd b) → (∀ l, l ∈ L ↔ l ∈ M) → L = M := by
    intro L
    induction L with
    | nil =>
      intro M _ _ hm
      cases M with
      | nil => rfl
      | cons b s => exact absurd ((hm b).2 List.mem_cons_self) (by simp)
    | cons a r ih =>
      intro M h1 h2 hm
      cases M with
      | nil => exact absurd ((hm a).1 List.mem_cons_self) (by simp)
      | cons b s =>
        rw [List.pairwise_cons] at h1 h2
        have hab : a = b := by
          rcases List.mem_cons.1 ((hm a).1 List.mem_cons_self) with e | e
          · exact e
          · rcases List.mem_cons.1 ((hm b).2 List.mem_cons_self) with e2 | e2
            · exact e2.symm
            · have := h2.1 a e
              have := h1.1 b e2
              omega
        subst hab
        rw [ih s h1.2 h2.2 fun l => ⟨fun hl => ?_, fun hl => ?_⟩]
        · rcases List.mem_cons.1 ((hm l).1 (List.mem_cons_of_mem _ hl)) with e | e
          · have := h1.1 l hl
            rw [e] at this
            omega
          · exact e
        · rcases List.mem_cons.1 ((hm l).2 (List.mem_cons_of_mem _ hl)) with e | e
          · have := h2.1 l hl
            rw [e] at this
            omega
          · exact e
  exact key L M h.ord k.ord fun l => ⟨hLM l, hML l⟩
/-- A part is who reaches it and is reached. -/
theorem SCC.part {n : Nat} {T L : List (List Nat)} (h : SCC n T L) {p : List Nat} {x y : Nat} (hp : p ∈ L) (hx : x ∈ p) : y ∈ p ↔ Rch T x y ∧ Rch T y x :=
  ⟨fun hyp => ⟨h.both p hp x hx y hyp, h.both p hp y hyp x hx⟩, fun ⟨h1, h2⟩ => h.max p hp x hx y h1 h2⟩
end Go.Proofs.Ytcjohhminiedfaa
