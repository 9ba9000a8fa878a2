/- What is seen, in plain words: a row of pairs (author, number), rising by authors. -/
import Derived.Test.YtebifjjghogboaaD34Base
namespace Go.Proofs.Ytebifjjghogboaa
open Go.RowKit
def Good (L : List Id2) : Prop := L.Pairwise (fun p q => p.1 < q.1) ∧ ∀ p ∈ L, 1 ≤ p.1 ∧ p.1 ≤ 1000 ∧ 1 ≤ p.2 ∧ p.2 ≤ 9223372036854775807
/-- An id's two numbers are ints. -/
def InI (i : Id2) : Prop := -9223372036854775808 ≤ i.1 ∧ i.1 ≤ 9223372036854775807 ∧ -9223372036854775808 ≤ i.2 ∧ i.2 ≤ 9223372036854775807
def mo (L : List Id2) (a : Int) : Int := (getL L a).getD 0
def hasB (L : List Id2) (i : Id2) : Bool := mayB i && decide (i.2 ≤ mo L i.1)
def insL : List Id2 → Id2 → List Id2
  | [], i => [i]
  | x :: r, i => if x.1 < i.1 then x :: insL r i else if x.1 = i.1 then i :: r else i :: x :: r
def newB (L : List Id2) (i : Id2) : Bool := mayB i && !decide (i.2 ≤ mo L i.1)
def addL (L : List Id2) (i : Id2) : List Id2 := if newB L i then insL L i else L
def joinL (s t : List Id2) : List Id2 := t.foldl addL s
def covL (s t : List Id2) : Bool := t.all (hasB s)
def most (L : List Id2) : Int := L.foldl (fun m p => max m p.2) 0
def nextL (L : List Id2) (x : Int) : Id2 := if (decide (1 ≤ x) && decide (x ≤ 1000)) && !decide (most L = 9223372036854775807) then (x, most L + 1) else (0, 0)
theorem good_nil : Good [] := ⟨List.Pairwise.nil, by simp⟩
theorem Good.tail {x : Id2} {r : List Id2} (h : Good (x :: r)) : Good r := ⟨h.1.of_cons, fun p hp => h.2 p (List.mem_cons_of_mem _ hp)⟩
theorem Good.nodup {L : List Id2} (h : Good L) : (L.map Prod.fst).Nodup := by
  refine List.pairwise_map.2 (h.1.imp fun {a b} hab => ?_)
  omega
theorem Good.prefix {L M : List Id2} (h : Good L) (hp : M <+: L) : Good M := ⟨h.1.sublist hp.sublist, fun p hm => h.2 p (hp.subset hm)⟩
theorem mo_nil (a : Int) : mo [] a = 0 := rfl
theorem mo_mem {L : List Id2} (h : Good L) {p : Id2} (hp : p ∈ L) : mo L p.1 = p.2 := by
  obtain ⟨j, hj, hjp⟩ := List.mem_iff_getElem.1 hp
  have : getL L p.1 = some p.2 := getL_of_at (j := j) h.nodup (by rw [List.getElem?_eq_getElem hj, hjp])
  simp [mo, this]
theorem mo_pos {L : List Id2} {a : Int} (hm : mo L a ≠ 0) : (a, mo L a) ∈ L := by
  unfold mo at *
  cases e : getL L a with
  | none => simp [e] at hm
  | some v => simpa using mem_of_getL e
theorem mo_bound {L : List Id2} (h : Good L) (a : Int) : 0 ≤ mo L a ∧ mo L a ≤ 9223372036854775807 := by
  by_cases e : mo L a = 0
  · omega
  · have := h.2 _ (mo_pos e)
    simp only at this
    omega
theorem mo_may {L : List Id2} (h : Good L) {a : Int} (hm : 1 ≤ mo L a) : 1 ≤ a ∧ a ≤ 1000 := by
  have := h.2 _ (mo_pos (a := a) (by omega))
  simp only at this
  omega
theorem mem_insL {L : List Id2} {i p : Id2} (h : p ∈ insL L i) : p = i ∨ p ∈ L := by
  induction L with
  | nil => simp [insL] at h; exact .inl h
  | cons x r ih =>
    unfold insL at h
    split at h
    · rcases List.mem_cons.1 h with rfl | h
      · exact .inr (by simp)
      · rcases ih h with h | h
        · exact .inl h
        · exact .inr (List.mem_cons_of_mem _ h)
    · split at h
      · rcases List.mem_cons.1 h with rfl | h
        · exact .inl rfl
        · exact .inr (List.mem_cons_of_mem _ h)
      · rcases List.mem_cons.1 h with rfl | h
        · exact .inl rfl
        · exact .inr h
theorem good_insL {L : List Id2} {i : Id2} (h : Good L) (hm : mayB i = true) (hi : InI i) : Good (insL L i) := by
  obtain ⟨h1, h2⟩ := h
  unfold mayB at hm
  simp only [Bool.and_eq_true, decide_eq_true_eq] at hm
  obtain ⟨⟨m1, m2⟩, m3⟩ := hm
  obtain ⟨_, _, _, i4⟩ := hi
  refine ⟨?_, fun p hp => ?_⟩
  · clear h2
    induction L with
    | nil => simp [insL]
    | cons x r ih =>
      have h1' := List.pairwise_cons.1 h1
      unfold insL
      split
      · rename_i hlt
        refine List.pairwise_cons.2 ⟨fun q hq => ?_, ih h1'.2⟩
        rcases mem_insL hq with rfl | hq
        · exact hlt
        · exact h1'.1 q hq
      · split
        · rename_i he
          exact List.pairwise_cons.2 ⟨fun q hq => by have := h1'.1 q hq; omega, h1'.2⟩
        · refine List.pairwise_cons.2 ⟨fun q hq => ?_, h1⟩
          rcases List.mem_cons.1 hq with rfl | hq
          · omega
          · have := h1'.1 q hq; omega
  · rcases mem_insL hp with rfl | hp
    · exact ⟨m1, m2, m3, i4⟩
    · exact h2 p hp
theorem getL_insL {L : List Id2} (h : Good L) (i : Id2) (a : Int) : getL (insL L i) a = if a = i.1 then some i.2 else getL L a := by
  obtain ⟨b, n⟩ := i
  induction L with
  | nil =>
    simp only [insL, getL]
    by_cases e : b = a
    · rw [if_pos e, if_pos e.symm]
    · rw [if_neg e, if_neg (fun h => e h.symm)]
  | cons x r ih =>
    obtain ⟨x1, x2⟩ := x
    unfold insL
    simp only
    split
    · rename_i hlt
      simp only [getL, ih h.tail]
      by_cases e : x1 = a
      · rw [if_pos e, if_neg (by omega), if_pos e]
      · rw [if_neg e, if_neg e]
    · split
      · rename_i he
        simp only [getL]
        by_cases e : b = a
        · rw [if_pos e, if_pos e.symm]
        · rw [if_neg e, if_neg (fun h => e h.symm), if_neg (by omega)]
      · simp only [getL]
        by_cases e : b = a
        · rw [if_pos e, if_pos e.symm]
        · rw [if_neg e]
          by_cases e2 : x1 = a
          · rw [if_pos e2, if_neg (fun h => e h.symm)]
          · rw [if_neg e2, if_neg (fun h => e h.symm)]
theorem mo_insL {L : List Id2} (h : Good L) (i : Id2) (a : Int) : mo (insL L i) a = if a = i.1 then i.2 else mo L a := by
  unfold mo
  rw [getL_insL h]
  split <;> rfl
theorem good_addL {L : List Id2} (h : Good L) {i : Id2} (hi : InI i) : Good (addL L i) := by
  unfold addL
  split
  · rename_i hn
    unfold newB at hn
    simp only [Bool.and_eq_true] at hn
    exact good_insL h hn.1 hi
  · exact h
theorem mo_addL {L : List Id2} (h : Good L) (i : Id2) (a : Int) : mo (addL L i) a = if a = i.1 ∧ mayB i = true then max (mo L a) i.2 else mo L a := by
  unfold addL newB
  by_cases hm : mayB i = true
  · rw [hm]
    by_cases hn : i.2 ≤ mo L i.1
    · simp only [hn, decide_true, Bool.not_true, Bool.and_false, Bool.false_eq_true, ↓reduceIte, and_true]
      split
      · rename_i e
        subst e
        omega
      · rfl
    · simp only [hn, decide_false, Bool.not_false, Bool.and_self, ↓reduceIte, and_true]
      rw [mo_insL h]
      split
      · rename_i e
        subst e
        omega
      · rfl
  · simp [hm]
theorem good_foldl {t : List Id2} {s : List Id2} (h : Good s) (ht : ∀ p ∈ t, InI p) : Good (t.foldl addL s) := by
  induction t generalizing s with
  | nil => exact h
  | cons x r ih => exact ih (good_addL h (ht x (by simp))) (fun p hp => ht p (List.mem_cons_of_mem _ hp))
theorem Good.inI {L : List Id2} (h : Good L) : ∀ p ∈ L, InI p := fun p hp => by
  obtain ⟨h1, h2, h3, h4⟩ := h.2 p hp
  exact ⟨by omega, by omega, by omega, h4⟩
theorem Good.may {L : List Id2} (h : Good L) : ∀ p ∈ L, mayB p = true := fun p hp => by
  obtain ⟨h1, h2, h3, h4⟩ := h.2 p hp
  simp [mayB, h1, h2, h3]
theorem good_joinL {s t : List Id2} (hs : Good s) (ht : Good t) : Good (joinL s t) := good_foldl hs ht.inI
theorem mo_cons {x : Id2} {r : List Id2} (a : Int) : mo (x :: r) a = if x.1 = a then x.2 else mo r a := by
  unfold mo
  simp only [getL]
  split <;> rfl
theorem mo_joinL {s t : List Id2} (hs : Good s) (ht : Good t) (a : Int) : mo (joinL s t) a = max (mo s a) (mo t a) := by
  unfold joinL
  induction t generalizing s with
  | nil => rw [mo_nil]; have := mo_bound hs a; simp only [List.foldl_nil]; omega
  | cons x r ih =>
    rw [List.foldl_cons, ih (good_addL hs (ht.inI x (by simp))) ht.tail, mo_addL hs, mo_cons]
    have hm := ht.may x (by simp)
    have hb := ht.2 x (by simp)
    by_cases e : x.1 = a
    · subst e
      have h0 : mo r x.1 = 0 := by
        apply Classical.byContradiction
        intro hne
        have := (List.pairwise_cons.1 ht.1).1 _ (mo_pos hne)
        simp only at this
        omega
      rw [if_pos ⟨rfl, hm⟩, if_pos rfl, h0]
      omega
    · rw [if_neg (fun h => e h.1.symm), if_neg e]
/-- Two such rows that tell the same of every author are the same. -/
theorem perm_of_mo {L M : List Id2} (hL : (L.map Prod.fst).Nodup) (hM : (M.map Prod.fst).Nodup) (h : ∀ a, getL L a = getL M a) : L.Perm M := by
  have nd : ∀ {X : List Id2}, (X.map Prod.fst).Nodup → X.Nodup := fun {X} hX => (List.pairwise_map.1 hX).imp (fun hne e => hne (by rw [e]))
  have key : ∀ {X Y : List Id2}, (X.map Prod.fst).Nodup → (∀ a, getL X a = getL Y a) → ∀ p ∈ X, p ∈ Y := fun {X Y} hX hxy p hp => by
    obtain ⟨j, hj, hjp⟩ := List.mem_iff_getElem.1 hp
    have : getL X p.1 = some p.2 := getL_of_at (j := j) hX (by rw [List.getElem?_eq_getElem hj, hjp])
    exact mem_of_getL ((hxy _).symm.trans this)
  exact (List.perm_ext_iff_of_nodup (nd hL) (nd hM)).2 fun p => ⟨key hL h p, key hM (fun a => (h a).symm) p⟩
theorem perm_good {L M : List Id2} (hL : Good L) (hM : Good M) (h : L.Perm M) : L = M :=
  List.Perm.eq_of_pairwise (le := fun p q => p.1 < q.1) (fun a b _ _ h1 h2 => by omega) hL.1 hM.1 h
theorem getL_of_mo {L : List Id2} (hL : Good L) (a : Int) : getL L a = if mo L a = 0 then none else some (mo L a) := by
  unfold mo
  cases e : getL L a with
  | none => rfl
  | some v =>
    have := hL.2 _ (mem_of_getL e)
    simp only at this
    have hv : v ≠ 0 := by omega
    simp [hv]
theorem eq_of_mo {L M : List Id2} (hL : Good L) (hM : Good M) (h : ∀ a, mo L a = mo M a) : L = M :=
  perm_good hL hM (perm_of_mo hL.nodup hM.nodup fun a => by rw [getL_of_mo hL, getL_of_mo hM, h])
theorem getL_of_perm {l L : List Id2} (h : l.Perm L) (hl : (l.map Prod.fst).Nodup) (a : Int) : getL l a = getL L a := by
  have hL : (L.map Prod.fst).Nodup := (h.map Prod.fst).nodup hl
  have mem : ∀ {X : List Id2}, (X.map Prod.fst).Nodup → ∀ {v}, (a, v) ∈ X → getL X a = some v := fun {X} hX {v} hp => by
    obtain ⟨j, hj, hjp⟩ := List.mem_iff_getElem.1 hp
    exact getL_of_at (j := j) hX (by rw [List.getElem?_eq_getElem hj, hjp])
  cases e : getL l a with
  | some v => exact (mem hL (h.subset (mem_of_getL e))).symm
  | none =>
    cases e2 : getL L a with
    | none => rfl
    | some v => rw [mem hl (h.symm.subset (mem_of_getL e2))] at e; cases e
theorem perm_put {l L : List Id2} (h : l.Perm L) (hl : (l.map Prod.fst).Nodup) (hL : Good L) {i : Id2} (hm : mayB i = true) (hi : InI i) : (putL l i.1 i.2).Perm (insL L i) := by
  refine perm_of_mo (nodup_putL hl) (good_insL hL hm hi).nodup fun a => ?_
  rw [getL_putL, getL_insL hL, getL_of_perm h hl]
  by_cases e : a = i.1
  · rw [if_pos e, if_pos e.symm]
  · rw [if_neg e, if_neg (fun h => e h.symm)]
/-! ### the document's rows -/
def rHas (L : List Id2) (i : Id2) : Bool := L.any fun x => mayB i && decide (x.1 = i.1) && decide (i.2 ≤ x.2)
theorem rHas_good {L : List Id2} (h : Good L) (i : Id2) : rHas L i = hasB L i := by
  unfold rHas hasB
  rw [Bool.eq_iff_iff, List.any_eq_true]
  simp only [Bool.and_eq_true, decide_eq_true_eq]
  constructor
  · rintro ⟨x, hx, ⟨hm, e⟩, hle⟩
    refine ⟨hm, ?_⟩
    rw [← e, mo_mem h hx]
    exact hle
  · rintro ⟨hm, hle⟩
    have h1 : 1 ≤ i.2 := by
      unfold mayB at hm
      simp only [Bool.and_eq_true, decide_eq_true_eq] at hm
      exact hm.2
    exact ⟨_, mo_pos (a := i.1) (by omega), ⟨hm, rfl⟩, hle⟩
def stepA (i : Id2) (s : List Id2 × Bool) (x : Id2) : List Id2 × Bool :=
  if x.1 = i.1 then s else if !s.2 && decide (i.1 < x.1) then (s.1 ++ [i, x], true) else (s.1 ++ [x], s.2)
def endA (i : Id2) (s : List Id2 × Bool) : List Id2 := if s.2 then s.1 else s.1 ++ [i]
theorem stepA_done {i : Id2} {L out : List Id2} (h : ∀ x ∈ L, x.1 ≠ i.1) : L.foldl (stepA i) (out, true) = (out ++ L, true) := by
  induction L generalizing out with
  | nil => simp
  | cons x r ih =>
    rw [List.foldl_cons]
    have : stepA i (out, true) x = (out ++ [x], true) := by simp [stepA, h x (by simp)]
    rw [this, ih (fun y hy => h y (List.mem_cons_of_mem _ hy))]
    simp
theorem stepA_late {i : Id2} {L out : List Id2} (h : ∀ x ∈ L, i.1 < x.1) : endA i (L.foldl (stepA i) (out, false)) = out ++ i :: L := by
  cases L with
  | nil => simp [endA]
  | cons x r =>
    rw [List.foldl_cons]
    have hx := h x (by simp)
    have : stepA i (out, false) x = (out ++ [i, x], true) := by
      have e : x.1 ≠ i.1 := by omega
      simp [stepA, e, hx]
    rw [this, stepA_done (fun y hy => by have := h y (List.mem_cons_of_mem _ hy); omega)]
    simp [endA]
theorem stepA_ins {i : Id2} {L out : List Id2} (h : Good L) : endA i (L.foldl (stepA i) (out, false)) = out ++ insL L i := by
  induction L generalizing out with
  | nil => simp [endA, insL]
  | cons x r ih =>
    rw [List.foldl_cons]
    have hp := List.pairwise_cons.1 h.1
    unfold insL
    by_cases h1 : x.1 < i.1
    · have e : x.1 ≠ i.1 := by omega
      have e2 : ¬ i.1 < x.1 := by omega
      have : stepA i (out, false) x = (out ++ [x], false) := by simp [stepA, e, e2]
      rw [this, ih h.tail, if_pos h1]
      simp
    · rw [if_neg h1]
      by_cases h2 : x.1 = i.1
      · have : stepA i (out, false) x = (out, false) := by simp [stepA, h2]
        rw [this, if_pos h2]
        exact stepA_late (fun y hy => by have := hp.1 y hy; omega)
      · have h3 : i.1 < x.1 := by omega
        rw [if_neg h2]
        have : stepA i (out, false) x = (out ++ [i, x], true) := by simp [stepA, h2, h3]
        rw [this, stepA_done (fun y hy => by have := hp.1 y hy; omega)]
        simp [endA]
theorem insL_good {L : List Id2} (h : Good L) (i : Id2) : endA i (L.foldl (stepA i) ([], false)) = insL L i := by rw [stepA_ins h]; rfl
theorem newB_eq {L : List Id2} (i : Id2) : newB L i = (mayB i && !hasB L i) := by
  unfold newB hasB
  cases mayB i <;> simp
end Go.Proofs.Ytebifjjghogboaa
