/- Cycle: whom some reach, plain. -/
import Derived.Test.YtcjohhminiedfaaC21Awake
namespace Go.Proofs.Ytcjohhminiedfaa
def cmL (n : Nat) (l : List Nat) : List Bool := (List.range n).map fun y => l.contains y
theorem cmL_at {n y : Nat} (l : List Nat) (hy : y < n) : (cmL n l)[y]? = some (l.contains y) := by
  unfold cmL
  rw [List.getElem?_map, List.getElem?_range hy]
  rfl
theorem cmL_len (n : Nat) (l : List Nat) : (cmL n l).length = n := by simp [cmL]
theorem cmL_nil (n : Nat) : cmL n [] = List.replicate n false := by
  apply List.ext_getElem?
  intro i
  by_cases hi : i < n
  · rw [cmL_at _ hi, List.getElem?_replicate, if_pos hi]
    rfl
  · rw [List.getElem?_eq_none (by rw [cmL_len]; omega), List.getElem?_eq_none (by simp; omega)]
theorem cmL_push {n x : Nat} (l : List Nat) (hx : x < n) : (cmL n l).set x true = cmL n (l ++ [x]) := by
  apply List.ext_getElem?
  intro i
  by_cases hi : i < n
  · rw [cmL_at _ hi, List.getElem?_set]
    by_cases e : x = i
    · subst e
      rw [if_pos rfl, if_pos (by rw [cmL_len]; exact hx)]
      simp
    · rw [if_neg e, cmL_at _ hi]
      have : i ∈ l ++ [x] ↔ i ∈ l := by simp [Ne.symm e]
      simp [this]
  · rw [List.getElem?_eq_none (by rw [List.length_set, cmL_len]; omega), List.getElem?_eq_none (by rw [cmL_len]; omega)]
/-- take. -/
def takeI (n : Nat) (l : List Nat) (x : Int) : List Nat := if 0 ≤ x ∧ x < (n : Int) ∧ x.toNat ∉ l then l ++ [x.toNat] else l
structure LOk (n : Nat) (l : List Nat) : Prop where
  nod : l.Nodup
  lt : ∀ y ∈ l, y < n
theorem LOk.le {n : Nat} {l : List Nat} (h : LOk n l) : l.length ≤ n := by
  have := h.nod.length_le_of_subset (l₂ := List.range n) fun j hj => List.mem_range.2 (h.lt j hj)
  simpa using this
theorem LOk.nil (n : Nat) : LOk n [] := ⟨List.nodup_nil, fun y hy => by cases hy⟩
theorem LOk.take {n : Nat} {l : List Nat} (h : LOk n l) (x : Int) : LOk n (takeI n l x) := by
  unfold takeI
  split
  · rename_i hx
    refine ⟨List.nodup_append.2 ⟨h.nod, by simp, fun a ha b hb e => hx.2.2 (by rw [List.mem_singleton.1 hb] at e; rw [← e]; exact ha)⟩, fun y hy => ?_⟩
    rcases List.mem_append.1 hy with hy | hy
    · exact h.lt y hy
    · rw [List.mem_singleton.1 hy]
      omega
  · exact h
theorem take_mem {n : Nat} {l : List Nat} {x : Int} {y : Nat} : y ∈ takeI n l x ↔ y ∈ l ∨ (0 ≤ x ∧ x < (n : Int) ∧ y = x.toNat) := by
  unfold takeI
  split
  · rename_i hx
    rw [List.mem_append, List.mem_singleton]
    constructor
    · rintro (h | h)
      · exact .inl h
      · exact .inr ⟨hx.1, hx.2.1, h⟩
    · rintro (h | ⟨_, _, h⟩)
      · exact .inl h
      · exact .inr h
  · rename_i hx
    constructor
    · exact .inl
    · rintro (h | ⟨h1, h2, h3⟩)
      · exact h
      · rw [h3]
        exact Classical.byContradiction fun h => hx ⟨h1, h2, h⟩
theorem take_pre {n : Nat} {l : List Nat} (x : Int) : ∃ m, takeI n l x = l ++ m := by
  unfold takeI
  split
  · exact ⟨_, rfl⟩
  · exact ⟨[], by simp⟩
/-- Who of these numbers is a node. -/
def nodesI (n : Nat) (S : List Int) : List Nat := (S.filter fun x => decide (0 ≤ x ∧ x < (n : Int))).map Int.toNat
theorem mem_nodesI {n : Nat} {S : List Int} {y : Nat} : y ∈ nodesI n S ↔ y < n ∧ (y : Int) ∈ S := by
  unfold nodesI
  rw [List.mem_map]
  constructor
  · rintro ⟨x, hx, rfl⟩
    obtain ⟨h1, h2⟩ := List.mem_filter.1 hx
    have h3 : 0 ≤ x ∧ x < (n : Int) := by simpa using h2
    refine ⟨by omega, ?_⟩
    rw [show (x.toNat : Int) = x by omega]
    exact h1
  · rintro ⟨h1, h2⟩
    exact ⟨(y : Int), List.mem_filter.2 ⟨h2, by simpa using h1⟩, by simp⟩
/-- What holds while Reach goes: whom S reaches; i: whose edges are looked at; done: those that were. -/
structure RInv (n : Nat) (T : List (List Nat)) (S : List Nat) (i : Nat) (done l : List Nat) : Prop where
  ok : LOk n l
  src : ∀ y ∈ l, ∃ s ∈ S, Rch T s y
  st : ∀ s ∈ S, s ∈ l
  seen : ∀ (a p : Nat), a < i → l[a]? = some p → ∀ y ∈ T.getD p [], y ∈ l
  part : ∀ (p : Nat), l[i]? = some p → ∀ y ∈ done, y ∈ l
theorem RInv.take {n : Nat} {T : List (List Nat)} {S : List Nat} {i y p : Nat} {done l : List Nat} (h : RInv n T S i done l) (hp : l[i]? = some p) (hy : y ∈ T.getD p []) (hyn : y < n) : RInv n T S i (done ++ [y]) (takeI n l (y : Int)) ∧ (takeI n l (y : Int))[i]? = some p := by
  obtain ⟨m, hm⟩ := take_pre (n := n) (l := l) (y : Int)
  have hil := (List.getElem?_eq_some_iff.1 hp).1
  have hpp : ∀ (a q : Nat), a ≤ i → (takeI n l (y : Int))[a]? = some q → l[a]? = some q := fun a q ha hq => by
    rw [hm, List.getElem?_append_left (by omega)] at hq
    exact hq
  refine ⟨⟨h.ok.take _, fun z hz => ?_, fun s hs => take_mem.2 (.inl (h.st s hs)), fun a q ha hq z hz => take_mem.2 (.inl (h.seen a q ha (hpp a q (by omega) hq) z hz)), fun q hq z hz => ?_⟩, by rw [hm, List.getElem?_append_left hil]; exact hp⟩
  · rcases take_mem.1 hz with hz | ⟨_, _, rfl⟩
    · exact h.src z hz
    · obtain ⟨s, hs, hr⟩ := h.src p (List.mem_of_getElem? hp)
      exact ⟨s, hs, hr.trans (.one (by simpa using hy))⟩
  · rcases List.mem_append.1 hz with hz | hz
    · exact take_mem.2 (.inl (h.part q (hpp i q (Nat.le_refl _) hq) z hz))
    · rw [List.mem_singleton.1 hz]
      exact take_mem.2 (.inr ⟨by omega, by omega, by simp⟩)
theorem RInv.next {n : Nat} {T : List (List Nat)} {S : List Nat} {i p : Nat} {done l : List Nat} (h : RInv n T S i done l) (hp : l[i]? = some p) (hd : ∀ y ∈ T.getD p [], y ∈ done) : RInv n T S (i + 1) [] l := by
  refine ⟨h.ok, h.src, h.st, fun a q ha hq y hy => ?_, fun q _ y hy => by cases hy⟩
  by_cases e : a = i
  · subst e
    rw [hp] at hq
    cases hq
    exact h.part p hp y (hd y hy)
  · exact h.seen a q (by omega) hq y hy
theorem RInv.end {n : Nat} {T : List (List Nat)} {S : List Nat} {i : Nat} {l : List Nat} (h : RInv n T S i [] l) (hi : l.length ≤ i) (y : Nat) : y ∈ l ↔ ∃ s ∈ S, Rch T s y := by
  refine ⟨h.src y, fun ⟨s, hs, hr⟩ => ?_⟩
  refine hr.stay (P := fun z => z ∈ l) (h.st s hs) fun u hu v hv => ?_
  obtain ⟨a, ha⟩ := List.mem_iff_getElem?.1 hu
  exact h.seen a u (by have := (List.getElem?_eq_some_iff.1 ha).1; omega) ha v hv
/-- What Reach tells. -/
def ReachR (n : Nat) (T : List (List Nat)) (S : List Int) (r : List Nat) : Prop := r.Pairwise (· < ·) ∧ ∀ y, y ∈ r ↔ ∃ s ∈ nodesI n S, Rch T s y
theorem ReachR.uniq {n : Nat} {T : List (List Nat)} {S : List Int} {r s : List Nat} (h : ReachR n T S r) (k : ReachR n T S s) : r = s := rise_eq h.1 k.1 fun x => by rw [h.2, k.2]
theorem RInv.reach {n : Nat} {T : List (List Nat)} {S : List Int} {i : Nat} {l : List Nat} (h : RInv n T (nodesI n S) i [] l) (hi : l.length ≤ i) : ReachR n T S (sortN l) := by
  refine ⟨strict_of (sortN_sorted l) ((sortN_perm l).symm.nodup h.ok.nod), fun y => ?_⟩
  rw [(sortN_perm l).mem_iff, h.end hi]
end Go.Proofs.Ytcjohhminiedfaa
