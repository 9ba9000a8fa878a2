/- Cycle: breadth first, plain: what away's loops keep. far: a row of n numbers; l: who came; i: whose edges are looked at; done: those of its edges that were looked at. -/
import Derived.Test.YtcjohhminiedfaaC21P
namespace Go.Proofs.Ytcjohhminiedfaa
structure Bfs (n : Nat) (adj : Nat → Nat → Bool) (x i : Nat) (done : List Nat) (far : List Int) (l : List Nat) : Prop where
  len : far.length = n
  nod : l.Nodup
  lt : ∀ y ∈ l, y < n
  low : ∀ (y : Nat) (v : Int), far[y]? = some v → -1 ≤ v
  up : ∀ (y : Nat) (v : Int), far[y]? = some v → v ≤ (l.length : Int)
  mem : ∀ (y : Nat) (v : Int), far[y]? = some v → (0 ≤ v ↔ y ∈ l)
  head : l[0]? = some x
  zero : far[x]? = some 0
  sort : ∀ (a b p q : Nat) (u v : Int), a ≤ b → l[a]? = some p → l[b]? = some q → far[p]? = some u → far[q]? = some v → u ≤ v
  near : ∀ (a b p q : Nat) (u v : Int), i ≤ a → l[a]? = some p → l[b]? = some q → far[p]? = some u → far[q]? = some v → v ≤ u + 1
  from' : ∀ y ∈ l, y ≠ x → ∃ k ∈ l, adj y k = true ∧ ∃ u v : Int, far[y]? = some v ∧ far[k]? = some u ∧ v = u + 1
  seen : ∀ (a p : Nat), a < i → l[a]? = some p → ∀ y, y < n → adj y p = true → ∃ u v : Int, far[y]? = some v ∧ far[p]? = some u ∧ 0 ≤ v ∧ v ≤ u + 1
  part : ∀ (p : Nat), l[i]? = some p → ∀ y ∈ done, ∃ u v : Int, far[y]? = some v ∧ far[p]? = some u ∧ 0 ≤ v ∧ v ≤ u + 1
theorem Bfs.end {n : Nat} {adj : Nat → Nat → Bool} {x i : Nat} {far : List Int} {l : List Nat} (h : Bfs n adj x i [] far l) (hi : l.length ≤ i) : Dist n adj x (fun y => far.getD y (-1)) := by
  have hat : ∀ y, y < n → ∃ v, far[y]? = some v ∧ far.getD y (-1) = v := fun y hy => by
    have hl : y < far.length := by rw [h.len]; exact hy
    exact ⟨far[y], List.getElem?_eq_getElem hl, by simp [hl]⟩
  refine ⟨by simp [h.zero], fun y hy => ?_, fun y hy hx => ?_, fun y k hy hk ha h0 => ?_⟩
  · obtain ⟨v, h1, h2⟩ := hat y hy
    show -1 ≤ far.getD y (-1)
    rw [h2]
    exact h.low y v h1
  · obtain ⟨v, h1, h2⟩ := hat y hy
    show far.getD y (-1) = -1 ∨ _
    rw [h2]
    by_cases hv : 0 ≤ v
    · obtain ⟨k, hkl, ha, u, v', e1, e2, e3⟩ := h.from' y ((h.mem y v h1).1 hv) hx
      rw [h1] at e1
      cases e1
      have hu : far.getD k (-1) = u := by simp [e2]
      refine .inr ⟨k, h.lt k hkl, ha, ?_, ?_⟩
      · show 0 ≤ far.getD k (-1)
        rw [hu]
        exact (h.mem k u e2).2 hkl
      · show v = far.getD k (-1) + 1
        rw [hu, e3]
    · have := h.low y v h1
      exact .inl (by omega)
  · obtain ⟨u, h1, h2⟩ := hat k hk
    have h0' : 0 ≤ u := by rw [← h2]; exact h0
    obtain ⟨a, ha'⟩ := List.mem_iff_getElem?.1 ((h.mem k u h1).1 h0')
    have hal := (List.getElem?_eq_some_iff.1 ha').1
    obtain ⟨u', v, e1, e2, e3, e4⟩ := h.seen a k (by omega) ha' y hy ha
    rw [h1] at e2
    cases e2
    show 0 ≤ far.getD y (-1) ∧ far.getD y (-1) ≤ far.getD k (-1) + 1
    rw [h2, show far.getD y (-1) = v from by simp [e1]]
    exact ⟨e3, e4⟩
theorem Bfs.start {n : Nat} (adj : Nat → Nat → Bool) {x : Nat} (hx : x < n) : Bfs n adj x 0 [] ((List.replicate n (-1)).set x 0) [x] := by
  have hat : ∀ (y : Nat) (v : Int), ((List.replicate n (-1 : Int)).set x 0)[y]? = some v → (y = x ∧ v = 0) ∨ (y ≠ x ∧ v = -1) := fun y v h => by
    by_cases e : x = y
    · subst e
      rw [List.getElem?_set_self (by simpa using hx)] at h
      cases h
      exact .inl ⟨rfl, rfl⟩
    · rw [List.getElem?_set_ne e, List.getElem?_replicate] at h
      split at h
      · cases h
        exact .inr ⟨fun e2 => e e2.symm, rfl⟩
      · cases h
  have hx0 : ((List.replicate n (-1 : Int)).set x 0)[x]? = some 0 := List.getElem?_set_self (by simpa using hx)
  have one : ∀ (a p : Nat), [x][a]? = some p → p = x ∧ a = 0 := fun a p h => by
    cases a with
    | zero => simp at h; exact ⟨h.symm, rfl⟩
    | succ a => simp at h
  refine ⟨by simp, by simp, fun y hy => by rw [List.mem_singleton.1 hy]; exact hx, fun y v h => ?_, fun y v h => ?_, fun y v h => ?_, rfl, hx0, fun a b p q u v _ h1 h2 h3 h4 => ?_, fun a b p q u v _ h1 h2 h3 h4 => ?_, fun y hy hne => absurd (List.mem_singleton.1 hy) hne, fun a p h => by omega, fun p _ y hy => by cases hy⟩
  · rcases hat y v h with ⟨_, rfl⟩ | ⟨_, rfl⟩ <;> omega
  · rcases hat y v h with ⟨_, rfl⟩ | ⟨_, rfl⟩ <;> simp
  · rcases hat y v h with ⟨rfl, rfl⟩ | ⟨h1, rfl⟩
    · simp
    · simp [h1]
  · obtain ⟨rfl, _⟩ := one a p h1
    obtain ⟨rfl, _⟩ := one b q h2
    rw [h3] at h4
    cases h4
    exact Int.le_refl _
  · obtain ⟨rfl, _⟩ := one a p h1
    obtain ⟨rfl, _⟩ := one b q h2
    rw [h3] at h4
    cases h4
    omega
section
variable {n x i p y : Nat} {adj : Nat → Nat → Bool} {done : List Nat} {far : List Int} {l : List Nat} {u v : Int}
theorem Bfs.skip (h : Bfs n adj x i done far l) (hp : l[i]? = some p) (hu : far[p]? = some u) (hy : far[y]? = some v) (hv : 0 ≤ v) : Bfs n adj x i (done ++ [y]) far l := by
  refine ⟨h.len, h.nod, h.lt, h.low, h.up, h.mem, h.head, h.zero, h.sort, h.near, h.from', h.seen, fun p' hp' z hz => ?_⟩
  rcases List.mem_append.1 hz with hz | hz
  · exact h.part p' hp' z hz
  · rw [List.mem_singleton.1 hz]
    rw [hp] at hp'
    cases hp'
    obtain ⟨b, hb⟩ := List.mem_iff_getElem?.1 ((h.mem y v hy).1 hv)
    exact ⟨u, v, hy, hu, hv, h.near i b p y u v (Nat.le_refl _) hp hb hu hy⟩
theorem Bfs.add (h : Bfs n adj x i done far l) (hp : l[i]? = some p) (hu : far[p]? = some u) (hy : far[y]? = some v) (hv : v < 0) (hyn : y < n) (ha : adj y p = true) : Bfs n adj x i (done ++ [y]) (far.set y (u + 1)) (l ++ [y]) := by
  have hyl : y ∉ l := fun e => by have := (h.mem y v hy).2 e; omega
  have hil : i < l.length := (List.getElem?_eq_some_iff.1 hp).1
  have hpl : p ∈ l := List.mem_of_getElem? hp
  have hu0 : 0 ≤ u := (h.mem p u hu).2 hpl
  have hylen : y < far.length := (List.getElem?_eq_some_iff.1 hy).1
  have self : (far.set y (u + 1))[y]? = some (u + 1) := List.getElem?_set_self hylen
  have other : ∀ z, z ≠ y → (far.set y (u + 1))[z]? = far[z]? := fun z hz => List.getElem?_set_ne (Ne.symm hz)
  have oldl : ∀ z, z ∈ l → z ≠ y := fun z hz e => hyl (e ▸ hz)
  have hat : ∀ (a q : Nat), (l ++ [y])[a]? = some q → (l[a]? = some q ∧ q ≠ y) ∨ (a = l.length ∧ q = y) := fun a q h => by
    by_cases hal : a < l.length
    · rw [List.getElem?_append_left hal] at h
      exact .inl ⟨h, oldl q (List.mem_of_getElem? h)⟩
    · rw [List.getElem?_append_right (by omega)] at h
      by_cases e : a - l.length = 0
      · rw [e] at h
        simp at h
        exact .inr ⟨by omega, h.symm⟩
      · rw [List.getElem?_eq_none (by simp; omega)] at h
        cases h
  have huy : u ≤ (l.length : Int) := h.up p u hu
  refine ⟨by rw [List.length_set]; exact h.len, ?_, fun z hz => ?_, fun z w hz => ?_, fun z w hz => ?_, fun z w hz => ?_, ?_, ?_, fun a b q r s t hab e1 e2 e3 e4 => ?_, fun a b q r s t hab e1 e2 e3 e4 => ?_, fun z hz hzx => ?_, fun a q haq e1 z hz haz => ?_, fun q hq z hz => ?_⟩
  · exact List.nodup_append.2 ⟨h.nod, by simp, fun a ha b hb e => hyl (by rw [List.mem_singleton.1 hb] at e; rw [← e]; exact ha)⟩
  · rcases List.mem_append.1 hz with hz | hz
    · exact h.lt z hz
    · rw [List.mem_singleton.1 hz]
      exact hyn
  · by_cases e : z = y
    · rw [e, self] at hz
      cases hz
      omega
    · rw [other z e] at hz
      exact h.low z w hz
  · rw [List.length_append, List.length_singleton]
    by_cases e : z = y
    · rw [e, self] at hz
      cases hz
      omega
    · rw [other z e] at hz
      have := h.up z w hz
      omega
  · by_cases e : z = y
    · rw [e, self] at hz
      cases hz
      rw [e]
      simp
      omega
    · rw [other z e] at hz
      rw [h.mem z w hz, List.mem_append, List.mem_singleton]
      simp [e]
  · rw [List.getElem?_append_left (by omega)]
    exact h.head
  · rw [other x (oldl x (List.mem_of_getElem? h.head))]
    exact h.zero
  · rcases hat a q e1 with ⟨e1, hqy⟩ | ⟨ea, eq⟩
    · rw [other q hqy] at e3
      rcases hat b r e2 with ⟨e2, hry⟩ | ⟨eb, er⟩
      · rw [other r hry] at e4
        exact h.sort a b q r s t hab e1 e2 e3 e4
      · rw [er, self] at e4
        cases e4
        exact h.near i a p q u s (Nat.le_refl _) hp e1 hu e3
    · rw [eq, self] at e3
      cases e3
      rcases hat b r e2 with ⟨e2, hry⟩ | ⟨eb, er⟩
      · have := (List.getElem?_eq_some_iff.1 e2).1
        omega
      · rw [er, self] at e4
        cases e4
        exact Int.le_refl _
  · rcases hat a q e1 with ⟨e1, hqy⟩ | ⟨ea, eq⟩
    · rw [other q hqy] at e3
      rcases hat b r e2 with ⟨e2, hry⟩ | ⟨eb, er⟩
      · rw [other r hry] at e4
        exact h.near a b q r s t hab e1 e2 e3 e4
      · rw [er, self] at e4
        cases e4
        have := h.sort i a p q u s hab hp e1 hu e3
        omega
    · rw [eq, self] at e3
      cases e3
      rcases hat b r e2 with ⟨e2, hry⟩ | ⟨eb, er⟩
      · rw [other r hry] at e4
        have := h.near i b p r u t (Nat.le_refl _) hp e2 hu e4
        omega
      · rw [er, self] at e4
        cases e4
        omega
  · rcases List.mem_append.1 hz with hz | hz
    · obtain ⟨k, hk, h1, a, b, h2, h3, h4⟩ := h.from' z hz hzx
      exact ⟨k, List.mem_append_left _ hk, h1, a, b, by rw [other z (oldl z hz)]; exact h2, by rw [other k (oldl k hk)]; exact h3, h4⟩
    · rw [List.mem_singleton.1 hz]
      exact ⟨p, List.mem_append_left _ hpl, ha, u, u + 1, self, by rw [other p (oldl p hpl)]; exact hu, rfl⟩
  · rcases hat a q e1 with ⟨e1, hqy⟩ | ⟨ea, eq⟩
    · obtain ⟨s, t, h1, h2, h3, h4⟩ := h.seen a q haq e1 z hz haz
      have hzy : z ≠ y := fun e => by
        rw [e, hy] at h1
        cases h1
        omega
      exact ⟨s, t, by rw [other z hzy]; exact h1, by rw [other q hqy]; exact h2, h3, h4⟩
    · omega
  · rcases hat i q hq with ⟨e1, hqy⟩ | ⟨ea, eq⟩
    · rw [hp] at e1
      cases e1
      rcases List.mem_append.1 hz with hz | hz
      · obtain ⟨s, t, h1, h2, h3, h4⟩ := h.part p hp z hz
        have hzy : z ≠ y := fun e => by
          rw [e, hy] at h1
          cases h1
          omega
        exact ⟨s, t, by rw [other z hzy]; exact h1, by rw [other p hqy]; exact h2, h3, h4⟩
      · rw [List.mem_singleton.1 hz]
        exact ⟨u, u + 1, self, by rw [other p hqy]; exact hu, by omega, Int.le_refl _⟩
    · omega
theorem Bfs.next (h : Bfs n adj x i done far l) (hp : l[i]? = some p) (hd : ∀ y, y < n → adj y p = true → y ∈ done) : Bfs n adj x (i + 1) [] far l := by
  refine ⟨h.len, h.nod, h.lt, h.low, h.up, h.mem, h.head, h.zero, h.sort, fun a b q r s t hab => h.near a b q r s t (by omega), h.from', fun a q haq e1 z hz haz => ?_, fun q _ z hz => by cases hz⟩
  by_cases e : a = i
  · subst e
    rw [hp] at e1
    cases e1
    exact h.part p hp z (hd z hz haz)
  · exact h.seen a q (by omega) e1 z hz haz
theorem Bfs.len_le' (h : Bfs n adj x i done far l) : l.length ≤ n := by
  have := h.nod.length_le_of_subset (l₂ := List.range n) fun j hj => List.mem_range.2 (h.lt j hj)
  simpa using this
end
end Go.Proofs.Ytcjohhminiedfaa
