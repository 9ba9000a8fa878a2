/- Cycle: distances, plain. -/
import Derived.Test.YtcjohhminiedfaaChecked
namespace Go.Proofs.Ytcjohhminiedfaa
/-- f tells of each node how many edges it is away from x, going to x; -1: it doesn't reach it. -/
structure Dist (n : Nat) (adj : Nat → Nat → Bool) (x : Nat) (f : Nat → Int) : Prop where
  zero : f x = 0
  low : ∀ y, y < n → -1 ≤ f y
  pos : ∀ y, y < n → y ≠ x → f y = -1 ∨ ∃ k, k < n ∧ adj y k = true ∧ 0 ≤ f k ∧ f y = f k + 1
  edge : ∀ y k, y < n → k < n → adj y k = true → 0 ≤ f k → 0 ≤ f y ∧ f y ≤ f k + 1
theorem Dist.le {n : Nat} {adj : Nat → Nat → Bool} {x : Nat} {f g : Nat → Int} (hf : Dist n adj x f) (hg : Dist n adj x g) : ∀ (d : Nat) (y : Nat), y < n → f y = (d : Int) → 0 ≤ g y ∧ g y ≤ (d : Int) := by
  intro d
  induction d with
  | zero =>
    intro y hy h
    by_cases hx : y = x
    · subst hx
      rw [hg.zero]
      omega
    · rcases hf.pos y hy hx with e | ⟨k, _, _, h0, e⟩ <;> omega
  | succ d ih =>
    intro y hy h
    by_cases hx : y = x
    · subst hx
      rw [hf.zero] at h
      omega
    · rcases hf.pos y hy hx with e | ⟨k, hk, ha, h0, e⟩
      · omega
      · obtain ⟨h1, h2⟩ := ih k hk (by omega)
        obtain ⟨h3, h4⟩ := hg.edge y k hy hk ha h1
        omega
theorem Dist.uniq {n : Nat} {adj : Nat → Nat → Bool} {x : Nat} {f g : Nat → Int} (hf : Dist n adj x f) (hg : Dist n adj x g) (y : Nat) (hy : y < n) : f y = g y := by
  have h1 := hf.low y hy
  have h2 := hg.low y hy
  by_cases h3 : 0 ≤ f y
  · obtain ⟨h4, h5⟩ := hf.le hg (f y).toNat y hy (by omega)
    obtain ⟨h6, h7⟩ := hg.le hf (g y).toNat y hy (by omega)
    omega
  · by_cases h4 : 0 ≤ g y
    · obtain ⟨h6, h7⟩ := hg.le hf (g y).toNat y hy (by omega)
      omega
    · omega
end Go.Proofs.Ytcjohhminiedfaa
/- Cycle: breadth first, plain: what away's loops keep. far: a row of n numbers; l: who came; i: whose edges are looked at; done: those of its edges that were looked at. -/
namespace Go.Proofs.Ytcjohhminiedfaa
structure Bfs (n : Nat) (adj : Nat → Nat → Bool) (x i : Nat) (done : List Nat) (far : List Int) (l : List Nat) : Prop where
  len : far.length = n
  nod : l.Nodup
  lt : ∀ y ∈ l, y < n
  low : ∀ (y : Nat) (v : Int), far[y]? = some v → -1 ≤ v
  up : ∀ (y : Nat) (v : Int), far[y]? = some v → v ≤ (l.length : Int)
  mem : ∀ (y : Nat) (v : Int), far[y]? = some v → (0 ≤ v ↔ y ∈ l)
  head : l[0]? = some x
  zero : far[x]? = some 0
  sort : ∀ (a b p q : Nat) (u v : Int), a ≤ b → l[a]? = some p → l[b]? = some q → far[p]? = some u → far[q]? = some v → u ≤ v
  near : ∀ (a b p q : Nat) (u v : Int), i ≤ a → l[a]? = some p → l[b]? = some q → far[p]? = some u → far[q]? = some v → v ≤ u + 1
  from' : ∀ y ∈ l, y ≠ x → ∃ k ∈ l, adj y k = true ∧ ∃ u v : Int, far[y]? = some v ∧ far[k]? = some u ∧ v = u + 1
  seen : ∀ (a p : Nat), a < i → l[a]? = some p → ∀ y, y < n → adj y p = true → ∃ u v : Int, far[y]? = some v ∧ far[p]? = some u ∧ 0 ≤ v ∧ v ≤ u + 1
  part : ∀ (p : Nat), l[i]? = some p → ∀ y ∈ done, ∃ u v : Int, far[y]? = some v ∧ far[p]? = some u ∧ 0 ≤ v ∧ v ≤ u + 1
theorem Bfs.end {n : Nat} {adj : Nat → Nat → Bool} {x i : Nat} {far : List Int} {l : List Nat} (h : Bfs n adj x i [] far l) (hi : l.length ≤ i) : Dist n adj x (fun y => far.getD y (-1)) := by
  have hat : ∀ y, y < n → ∃ v, far[y]? = some v ∧ far.getD y (-1) = v := fun y hy => by
    have hl : y < far.length := by rw [h.len]; exact hy
    exact ⟨far[y], List.getElem?_eq_getElem hl, by simp [hl]⟩
  refine ⟨by simp [h.zero], fun y hy => ?_, fun y hy hx => ?_, fun y k hy hk ha h0 => ?_⟩
  · obtain ⟨v, h1, h2⟩ := hat y hy
    show -1 ≤ far.getD y (-1)
    rw [h2]
    exact h.low y v h1
  · obtain ⟨v, h1, h2⟩ := hat y hy
    show far.getD y (-1) = -1 ∨ _
    rw [h2]
    by_cases hv : 0 ≤ v
    · obtain ⟨k, hkl, ha, u, v', e1, e2, e3⟩ := h.from' y ((h.mem y v h1).1 hv) hx
      rw [h1] at e1
      cases e1
      have hu : far.getD k (-1) = u := by simp [e2]
      refine .inr ⟨k, h.lt k hkl, ha, ?_, ?_⟩
      · show 0 ≤ far.getD k (-1)
        rw [hu]
        exact (h.mem k u e2).2 hkl
      · show v = far.getD k (-1) + 1
        rw [hu, e3]
    · have := h.low y v h1
      exact .inl (by omega)
  · obtain ⟨u, h1, h2⟩ := hat k hk
    have h0' : 0 ≤ u := by rw [← h2]; exact h0
    obtain ⟨a, ha'⟩ := List.mem_iff_getElem?.1 ((h.mem k u h1).1 h0')
    have hal := (List.getElem?_eq_some_iff.1 ha').1
    obtain ⟨u', v, e1, e2, e3, e4⟩ := h.seen a k (by omega) ha' y hy ha
    rw [h1] at e2
    cases e2
    show 0 ≤ far.getD y (-1) ∧ far.getD y (-1) ≤ far.getD k (-1) + 1
    rw [h2, show far.getD y (-1) = v from by simp [e1]]
    exact ⟨e3, e4⟩
theorem Bfs.start {n : Nat} (adj : Nat → Nat → Bool) {x : Nat} (hx : x < n) : Bfs n adj x 0 [] ((List.replicate n (-1)).set x 0) [x] := by
  have hat : ∀ (y : Nat) (v : Int), ((List.replicate n (-1 : Int)).set x 0)[y]? = some v → (y = x ∧ v = 0) ∨ (y ≠ x ∧ v = -1) := fun y v h => by
    by_cases e : x = y
    · subst e
      rw [List.getElem?_set_self (by simpa using hx)] at h
      cases h
      exact .inl ⟨rfl, rfl⟩
    · rw [List.getElem?_set_ne e, List.getElem?_replicate] at h
      split at h
      · cases h
        exact .inr ⟨fun e2 => e e2.symm, rfl⟩
      · cases h
  have hx0 : ((List.replicate n (-1 : Int)).set x 0)[x]? = some 0 := List.getElem?_set_self (by simpa using hx)
  have one : ∀ (a p : Nat), [x][a]? = some p → p = x ∧ a = 0 := fun a p h => by
    cases a with
    | zero => simp at h; exact ⟨h.symm, rfl⟩
    | succ a => simp at h
  refine ⟨by simp, by simp, fun y hy => by rw [List.mem_singleton.1 hy]; exact hx, fun y v h => ?_, fun y v h => ?_, fun y v h => ?_, rfl, hx0, fun a b p q u v _ h1 h2 h3 h4 => ?_, fun a b p q u v _ h1 h2 h3 h4 => ?_, fun y hy hne => absurd (List.mem_singleton.1 hy) hne, fun a p h => by omega, fun p _ y hy => by cases hy⟩
  · rcases hat y v h with ⟨_, rfl⟩ | ⟨_, rfl⟩ <;> omega
  · rcases hat y v h with ⟨_, rfl⟩ | ⟨_, rfl⟩ <;> simp
  · rcases hat y v h with ⟨rfl, rfl⟩ | ⟨h1, rfl⟩
    · simp
    · simp [h1]
  · obtain ⟨rfl, _⟩ := one a p h1
    obtain ⟨rfl, _⟩ := one b q h2
    rw [h3] at h4
    cases h4
    exact Int.le_refl _
  · obtain ⟨rfl, _⟩ := one a p h1
    obtain ⟨rfl, _⟩ := one b q h2
    rw [h3] at h4
    cases h4
    omega
section
variable {n x i p y : Nat} {adj : Nat → Nat → Bool} {done : List Nat} {far : List Int} {l : List Nat} {u v : Int}
theorem Bfs.skip (h : Bfs n adj x i done far l) (hp : l[i]? = some p) (hu : far[p]? = some u) (hy : far[y]? = some v) (hv : 0 ≤ v) : Bfs n adj x i (done ++ [y]) far l := by
  refine ⟨h.len, h.nod, h.lt, h.low, h.up, h.mem, h.head, h.zero, h.sort, h.near, h.from', h.seen, fun p' hp' z hz => ?_⟩
  rcases List.mem_append.1 hz with hz | hz
  · exact h.part p' hp' z hz
  · rw [List.mem_singleton.1 hz]
    rw [hp] at hp'
    cases hp'
    obtain ⟨b, hb⟩ := List.mem_iff_getElem?.1 ((h.mem y v hy).1 hv)
    exact ⟨u, v, hy, hu, hv, h.near i b p y u v (Nat.le_refl _) hp hb hu hy⟩
theorem Bfs.add (h : Bfs n adj x i done far l) (hp : l[i]? = some p) (hu : far[p]? = some u) (hy : far[y]? = some v) (hv : v < 0) (hyn : y < n) (ha : adj y p = true) : Bfs n adj x i (done ++ [y]) (far.set y (u + 1)) (l ++ [y]) := by
  have hyl : y ∉ l := fun e => by have := (h.mem y v hy).2 e; omega
  have hil : i < l.length := (List.getElem?_eq_some_iff.1 hp).1
  have hpl : p ∈ l := List.mem_of_getElem? hp
  have hu0 : 0 ≤ u := (h.mem p u hu).2 hpl
  have hylen : y < far.length := (List.getElem?_eq_some_iff.1 hy).1
  have self : (far.set y (u + 1))[y]? = some (u + 1) := List.getElem?_set_self hylen
  have other : ∀ z, z ≠ y → (far.set y (u + 1))[z]? = far[z]? := fun z hz => List.getElem?_set_ne (Ne.symm hz)
  have oldl : ∀ z, z ∈ l → z ≠ y := fun z hz e => hyl (e ▸ hz)
  have hat : ∀ (a q : Nat), (l ++ [y])[a]? = some q → (l[a]? = some q ∧ q ≠ y) ∨ (a = l.length ∧ q = y) := fun a q h => by
    by_cases hal : a < l.length
    · rw [List.getElem?_append_left hal] at h
      exact .inl ⟨h, oldl q (List.mem_of_getElem? h)⟩
    · rw [List.getElem?_append_right (by omega)] at h
      by_cases e : a - l.length = 0
      · rw [e] at h
        simp at h
        exact .inr ⟨by omega, h.symm⟩
      · rw [List.getElem?_eq_none (by simp; omega)] at h
        cases h
  have huy : u ≤ (l.length : Int) := h.up p u hu
  refine ⟨by rw [List.length_set]; exact h.len, ?_, fun z hz => ?_, fun z w hz => ?_, fun z w hz => ?_, fun z w hz => ?_, ?_, ?_, fun a b q r s t hab e1 e2 e3 e4 => ?_, fun a b q r s t hab e1 e2 e3 e4 => ?_, fun z hz hzx => ?_, fun a q haq e1 z hz haz => ?_, fun q hq z hz => ?_⟩
  · exact List.nodup_append.2 ⟨h.nod, by simp, fun a ha b hb e => hyl (by rw [List.mem_singleton.1 hb] at e; rw [← e]; exact ha)⟩
  · rcases List.mem_append.1 hz with hz | hz
    · exact h.lt z hz
    · rw [List.mem_singleton.1 hz]
      exact hyn
  · by_cases e : z = y
    · rw [e, self] at hz
      cases hz
      omega
    · rw [other z e] at hz
      exact h.low z w hz
  · rw [List.length_append, List.length_singleton]
    by_cases e : z = y
    · rw [e, self] at hz
      cases hz
      omega
    · rw [other z e] at hz
      have := h.up z w hz
      omega
  · by_cases e : z = y
    · rw [e, self] at hz
      cases hz
      rw [e]
      simp
      omega
    · rw [other z e] at hz
      rw [h.mem z w hz, List.mem_append, List.mem_singleton]
      simp [e]
  · rw [List.getElem?_append_left (by omega)]
    exact h.head
  · rw [other x (oldl x (List.mem_of_getElem? h.head))]
    exact h.zero
  · rcases hat a q e1 with ⟨e1, hqy⟩ | ⟨ea, eq⟩
    · rw [other q hqy] at e3
      rcases hat b r e2 with ⟨e2, hry⟩ | ⟨eb, er⟩
      · rw [other r hry] at e4
        exact h.sort a b q r s t hab e1 e2 e3 e4
      · rw [er, self] at e4
        cases e4
        exact h.near i a p q u s (Nat.le_refl _) hp e1 hu e3
    · rw [eq, self] at e3
      cases e3
      rcases hat b r e2 with ⟨e2, hry⟩ | ⟨eb, er⟩
      · have := (List.getElem?_eq_some_iff.1 e2).1
        omega
      · rw [er, self] at e4
        cases e4
        exact Int.le_refl _
  · rcases hat a q e1 with ⟨e1, hqy⟩ | ⟨ea, eq⟩
    · rw [other q hqy] at e3
      rcases hat b r e2 with ⟨e2, hry⟩ | ⟨eb, er⟩
      · rw [other r hry] at e4
        exact h.near a b q r s t hab e1 e2 e3 e4
      · rw [er, self] at e4
        cases e4
        have := h.sort i a p q u s hab hp e1 hu e3
        omega
    · rw [eq, self] at e3
      cases e3
      rcases hat b r e2 with ⟨e2, hry⟩ | ⟨eb, er⟩
      · rw [other r hry] at e4
        have := h.near i b p r u t (Nat.le_refl _) hp e2 hu e4
        omega
      · rw [er, self] at e4
        cases e4
        omega
  · rcases List.mem_append.1 hz with hz | hz
    · obtain ⟨k, hk, h1, a, b, h2, h3, h4⟩ := h.from' z hz hzx
      exact ⟨k, List.mem_append_left _ hk, h1, a, b, by rw [other z (oldl z hz)]; exact h2, by rw [other k (oldl k hk)]; exact h3, h4⟩
    · rw [List.mem_singleton.1 hz]
      exact ⟨p, List.mem_append_left _ hpl, ha, u, u + 1, self, by rw [other p (oldl p hpl)]; exact hu, rfl⟩
  · rcases hat a q e1 with ⟨e1, hqy⟩ | ⟨ea, eq⟩
    · obtain ⟨s, t, h1, h2, h3, h4⟩ := h.seen a q haq e1 z hz haz
      have hzy : z ≠ y := fun e => by
        rw [e, hy] at h1
        cases h1
        omega
      exact ⟨s, t, by rw [other z hzy]; exact h1, by rw [other q hqy]; exact h2, h3, h4⟩
    · omega
  · rcases hat i q hq with ⟨e1, hqy⟩ | ⟨ea, eq⟩
    · rw [hp] at e1
      cases e1
      rcases List.mem_append.1 hz with hz | hz
      · obtain ⟨s, t, h1, h2, h3, h4⟩ := h.part p hp z hz
        have hzy : z ≠ y := fun e => by
          rw [e, hy] at h1
          cases h1
          omega
        exact ⟨s, t, by rw [other z hzy]; exact h1, by rw [other p hqy]; exact h2, h3, h4⟩
      · rw [List.mem_singleton.1 hz]
        exact ⟨u, u + 1, self, by rw [other p hqy]; exact hu, by omega, Int.le_refl _⟩
    · omega
theorem Bfs.next (h : Bfs n adj x i done far l) (hp : l[i]? = some p) (hd : ∀ y, y < n → adj y p = true → y ∈ done) : Bfs n adj x (i + 1) [] far l := by
  refine ⟨h.len, h.nod, h.lt, h.low, h.up, h.mem, h.head, h.zero, h.sort, fun a b q r s t hab => h.near a b q r s t (by omega), h.from', fun a q haq e1 z hz haz => ?_, fun q _ z hz => by cases hz⟩
  by_cases e : a = i
  · subst e
    rw [hp] at e1
    cases e1
    exact h.part p hp z (hd z hz haz)
  · exact h.seen a q (by omega) e1 z hz haz
theorem Bfs.len_le' (h : Bfs n adj x i done far l) : l.length ≤ n := by
  have := h.nod.length_le_of_subset (l₂ := List.range n) fun j hj => List.mem_range.2 (h.lt j hj)
  simpa using this
end
end Go.Proofs.Ytcjohhminiedfaa
/- Cycle: the least of the shortest rings, plain. -/
namespace Go.Proofs.Ytcjohhminiedfaa
/-- z comes next behind at: b, if it isn't negative, is how far it is. -/
structure IsNext (n : Nat) (adj : Nat → Nat → Bool) (f : Nat → Int) (b : Int) (at' z : Nat) : Prop where
  lt : z < n
  edge : adj at' z = true
  pos : 0 ≤ f z
  eq : 0 ≤ b → f z = b
  least : ∀ y, y < n → adj at' y = true → 0 ≤ f y → (0 ≤ b → f y = b) → f z < f y ∨ (f z = f y ∧ z ≤ y)
theorem IsNext.uniq {n : Nat} {adj : Nat → Nat → Bool} {f : Nat → Int} {b : Int} {a z y : Nat} (h : IsNext n adj f b a z) (k : IsNext n adj f b a y) : z = y := by
  have h1 := h.least y k.lt k.edge k.pos k.eq
  have h2 := k.least z h.lt h.edge h.pos h.eq
  omega
inductive Ring (n : Nat) (adj : Nat → Nat → Bool) (f : Nat → Int) (x : Nat) : Int → Nat → List Nat → Prop
  | stop {b : Int} {a : Nat} : IsNext n adj f b a x → Ring n adj f x b a []
  | go {b : Int} {a z : Nat} {l : List Nat} : IsNext n adj f b a z → z ≠ x → Ring n adj f x (f z - 1) z l → Ring n adj f x b a (z :: l)
/-- What Round tells. -/
def RoundR (n : Nat) (adj : Nat → Nat → Bool) (f : Nat → Int) (x : Nat) (ring : List Nat) : Prop := (∃ l, ring = x :: l ∧ Ring n adj f x (-1) x l) ∨ (ring = [] ∧ ∀ y, y < n → adj x y = true → f y < 0)
theorem Ring.uniq {n : Nat} {adj : Nat → Nat → Bool} {f : Nat → Int} {x : Nat} {b : Int} {a : Nat} {l m : List Nat} (h : Ring n adj f x b a l) (k : Ring n adj f x b a m) : l = m := by
  induction h generalizing m with
  | stop h1 =>
    cases k with
    | stop _ => rfl
    | go k1 k2 _ => exact absurd (k1.uniq h1) k2
  | go h1 h2 _ ih =>
    cases k with
    | stop k1 => exact absurd (h1.uniq k1) h2
    | go k1 k2 k3 =>
      have e := h1.uniq k1
      subst e
      rw [ih k3]
theorem Ring.first {n : Nat} {adj : Nat → Nat → Bool} {f : Nat → Int} {x : Nat} {b : Int} {a : Nat} {l : List Nat} (h : Ring n adj f x b a l) : ∃ z, IsNext n adj f b a z := by
  cases h with
  | stop h1 => exact ⟨x, h1⟩
  | go h1 _ _ => exact ⟨_, h1⟩
theorem RoundR.uniq {n : Nat} {adj : Nat → Nat → Bool} {f : Nat → Int} {x : Nat} {r s : List Nat} (h : RoundR n adj f x r) (k : RoundR n adj f x s) : r = s := by
  rcases h with ⟨l, rfl, h1⟩ | ⟨rfl, h1⟩
  · rcases k with ⟨m, rfl, k1⟩ | ⟨rfl, k1⟩
    · rw [h1.uniq k1]
    · obtain ⟨z, hz⟩ := h1.first
      have := k1 z hz.lt hz.edge
      have := hz.pos
      omega
  · rcases k with ⟨m, rfl, k1⟩ | ⟨rfl, _⟩
    · obtain ⟨z, hz⟩ := k1.first
      have := h1 z hz.lt hz.edge
      have := hz.pos
      omega
    · rfl
/-- It hangs on how far the nodes are alone. -/
theorem IsNext.congr {n : Nat} {adj : Nat → Nat → Bool} {f g : Nat → Int} {b : Int} {a z : Nat} (hfg : ∀ y, y < n → f y = g y) (h : IsNext n adj f b a z) : IsNext n adj g b a z := by
  have hz := hfg z h.lt
  refine ⟨h.lt, h.edge, by rw [← hz]; exact h.pos, fun hb => by rw [← hz]; exact h.eq hb, fun y hy ha h0 he => ?_⟩
  rw [← hz, ← hfg y hy]
  exact h.least y hy ha (by rw [hfg y hy]; exact h0) (fun hb => by rw [hfg y hy]; exact he hb)
theorem Ring.congr {n : Nat} {adj : Nat → Nat → Bool} {f g : Nat → Int} {x : Nat} {b : Int} {a : Nat} {l : List Nat} (hfg : ∀ y, y < n → f y = g y) (h : Ring n adj f x b a l) : Ring n adj g x b a l := by
  induction h with
  | stop h1 => exact .stop (h1.congr hfg)
  | go h1 h2 _ ih =>
    rw [hfg _ h1.lt] at ih
    exact .go (h1.congr hfg) h2 ih
theorem RoundR.congr {n : Nat} {adj : Nat → Nat → Bool} {f g : Nat → Int} {x : Nat} {r : List Nat} (hfg : ∀ y, y < n → f y = g y) (h : RoundR n adj f x r) : RoundR n adj g x r := by
  rcases h with ⟨l, rfl, h1⟩ | ⟨rfl, h1⟩
  · exact .inl ⟨l, rfl, h1.congr hfg⟩
  · exact .inr ⟨rfl, fun y hy ha => by rw [← hfg y hy]; exact h1 y hy ha⟩
/-! the best of a row -/
/-- The best of those of the row that were looked at; -1: none. -/
def Best (f : Nat → Int) (b : Int) (L : List Nat) (nx : Int) : Prop := (nx = -1 ∧ ∀ y ∈ L, 0 ≤ f y → (0 ≤ b → f y = b) → False) ∨ ∃ z : Nat, nx = (z : Int) ∧ z ∈ L ∧ 0 ≤ f z ∧ (0 ≤ b → f z = b) ∧ ∀ y ∈ L, 0 ≤ f y → (0 ≤ b → f y = b) → f z < f y ∨ (f z = f y ∧ z ≤ y)
theorem Best.nil (f : Nat → Int) (b : Int) : Best f b [] (-1) := .inl ⟨rfl, fun y hy => by cases hy⟩
theorem Best.skip {f : Nat → Int} {b : Int} {L : List Nat} {nx : Int} {y : Nat} (h : Best f b L nx) (hy : f y < 0 ∨ (0 ≤ b ∧ f y ≠ b)) : Best f b (L ++ [y]) nx := by
  have hno : 0 ≤ f y → (0 ≤ b → f y = b) → False := fun h1 h2 => by
    rcases hy with h3 | ⟨h3, h4⟩
    · omega
    · exact h4 (h2 h3)
  rcases h with ⟨rfl, h1⟩ | ⟨z, rfl, h1, h2, h3, h4⟩
  · refine .inl ⟨rfl, fun u hu => ?_⟩
    rcases List.mem_append.1 hu with hu | hu
    · exact h1 u hu
    · rw [List.mem_singleton.1 hu]
      exact hno
  · refine .inr ⟨z, rfl, List.mem_append_left _ h1, h2, h3, fun u hu k1 k2 => ?_⟩
    rcases List.mem_append.1 hu with hu | hu
    · exact h4 u hu k1 k2
    · rw [List.mem_singleton.1 hu] at k1 k2
      exact (hno k1 k2).elim
theorem Best.take {f : Nat → Int} {b : Int} {L : List Nat} {nx : Int} {y : Nat} (h : Best f b L nx) (h0 : 0 ≤ f y) (hb : 0 ≤ b → f y = b) (hnx : nx = -1 ∨ ∃ z : Nat, nx = (z : Int) ∧ (f y < f z ∨ (f y = f z ∧ y < z))) : Best f b (L ++ [y]) (y : Int) := by
  refine .inr ⟨y, rfl, by simp, h0, hb, fun u hu k1 k2 => ?_⟩
  rcases List.mem_append.1 hu with hu | hu
  · rcases h with ⟨rfl, h1⟩ | ⟨z, rfl, h1, h2, h3, h4⟩
    · exact (h1 u hu k1 k2).elim
    · have h5 := h4 u hu k1 k2
      rcases hnx with h6 | ⟨z', h6, h7⟩
      · omega
      · have : z' = z := by omega
        subst this
        omega
  · rw [List.mem_singleton.1 hu]
    omega
theorem Best.keep {f : Nat → Int} {b : Int} {L : List Nat} {y z : Nat} (h : Best f b L (z : Int)) (hz : ¬ (f y < f z ∨ (f y = f z ∧ y < z))) : Best f b (L ++ [y]) (z : Int) := by
  rcases h with ⟨h0, _⟩ | ⟨z', e, h1, h2, h3, h4⟩
  · omega
  · have : z' = z := by omega
    subst this
    refine .inr ⟨z', rfl, List.mem_append_left _ h1, h2, h3, fun u hu k1 k2 => ?_⟩
    rcases List.mem_append.1 hu with hu | hu
    · exact h4 u hu k1 k2
    · rw [List.mem_singleton.1 hu]
      omega
theorem Best.next {n : Nat} {adj : Nat → Nat → Bool} {f : Nat → Int} {b : Int} {a z : Nat} {L : List Nat} (h : Best f b L (z : Int)) (hL : ∀ y, y ∈ L ↔ y < n ∧ adj a y = true) : IsNext n adj f b a z := by
  rcases h with ⟨h0, _⟩ | ⟨z', e, h1, h2, h3, h4⟩
  · omega
  · have : z' = z := by omega
    subst this
    obtain ⟨k1, k2⟩ := (hL z').1 h1
    exact ⟨k1, k2, h2, h3, fun y hy ha => h4 y ((hL y).2 ⟨hy, ha⟩)⟩
/-- What was told so far: ring, at last at, and what is still to come. -/
def RoundSo (n : Nat) (adj : Nat → Nat → Bool) (f : Nat → Int) (x : Nat) (ring : List Nat) (b : Int) (a : Nat) : Prop := ∃ m, ring = x :: m ∧ ∀ l, Ring n adj f x b a l → Ring n adj f x (-1) x (m ++ l)
theorem RoundSo.start (n : Nat) (adj : Nat → Nat → Bool) (f : Nat → Int) (x : Nat) : RoundSo n adj f x [x] (-1) x := ⟨[], rfl, fun _ h => h⟩
theorem RoundSo.push {n : Nat} {adj : Nat → Nat → Bool} {f : Nat → Int} {x : Nat} {ring : List Nat} {b : Int} {a z : Nat} (h : RoundSo n adj f x ring b a) (hz : IsNext n adj f b a z) (hx : z ≠ x) : RoundSo n adj f x (ring ++ [z]) (f z - 1) z := by
  obtain ⟨m, rfl, h1⟩ := h
  exact ⟨m ++ [z], by simp, fun l hl => by rw [List.append_assoc]; exact h1 _ (.go hz hx hl)⟩
theorem RoundSo.done {n : Nat} {adj : Nat → Nat → Bool} {f : Nat → Int} {x : Nat} {ring : List Nat} {b : Int} {a : Nat} (h : RoundSo n adj f x ring b a) (hz : IsNext n adj f b a x) : RoundR n adj f x ring := by
  obtain ⟨m, rfl, h1⟩ := h
  have := h1 [] (.stop hz)
  rw [List.append_nil] at this
  exact .inl ⟨m, rfl, this⟩
/-! what a ring is -/
theorem Dist.le_n {n : Nat} {adj : Nat → Nat → Bool} {x : Nat} {f : Nat → Int} (hf : Dist n adj x f) : ∀ (d : Nat) (y : Nat), y < n → f y = (d : Int) → ∃ l : List Nat, l.length = d + 1 ∧ l.Nodup ∧ (∀ z ∈ l, z < n) ∧ ∀ z ∈ l, f z ≤ (d : Int) := by
  intro d
  induction d with
  | zero =>
    intro y hy h
    exact ⟨[y], rfl, by simp, fun z hz => by rw [List.mem_singleton.1 hz]; exact hy, fun z hz => by rw [List.mem_singleton.1 hz, h]; exact Int.le_refl _⟩
  | succ d ih =>
    intro y hy h
    have hyx : y ≠ x := fun e => by
      have := hf.zero
      rw [e, this] at h
      omega
    rcases hf.pos y hy hyx with e | ⟨k, hk, _, _, e⟩
    · omega
    · obtain ⟨l, h1, h2, h3, h4⟩ := ih k hk (by omega)
      refine ⟨y :: l, by simp [h1], List.nodup_cons.2 ⟨fun hm => by have := h4 y hm; omega, h2⟩, fun z hz => ?_, fun z hz => ?_⟩
      · rcases List.mem_cons.1 hz with e2 | e2
        · rw [e2]
          exact hy
        · exact h3 z e2
      · rcases List.mem_cons.1 hz with e2 | e2
        · rw [e2, h]
          exact Int.le_refl _
        · have := h4 z e2
          omega
theorem Dist.lt_n {n : Nat} {adj : Nat → Nat → Bool} {x : Nat} {f : Nat → Int} (hf : Dist n adj x f) {y : Nat} (hy : y < n) : f y < (n : Int) := by
  by_cases h0 : 0 ≤ f y
  · obtain ⟨d, hd⟩ : ∃ d : Nat, f y = (d : Int) := ⟨(f y).toNat, by omega⟩
    obtain ⟨l, h1, h2, h3, _⟩ := hf.le_n d y hy hd
    have := h2.length_le_of_subset (l₂ := List.range n) fun j hj => List.mem_range.2 (h3 j hj)
    rw [List.length_range] at this
    omega
  · omega
end Go.Proofs.Ytcjohhminiedfaa
/- Cycle: the document's distances, plain. -/
namespace Go.Proofs.Ytcjohhminiedfaa
/-- While far goes: N: which distance is told next; all edges of those ahead of i, and those of i to those ahead of k, were looked at. -/
structure FarJ (n : Nat) (A : Nat → Nat → Bool) (x N i k : Nat) (f : Nat → Int) : Prop where
  zero : f x = 0
  low : ∀ y, y < n → -1 ≤ f y
  up : ∀ y, y < n → f y ≤ (N : Int) + 1
  pos : ∀ y, y < n → y ≠ x → f y = -1 ∨ ∃ k, k < n ∧ A y k = true ∧ 0 ≤ f k ∧ f y = f k + 1
  edge : ∀ y k, y < n → k < n → A y k = true → 0 ≤ f k → f k < (N : Int) → 0 ≤ f y ∧ f y ≤ f k + 1
  part : ∀ y j, y < n → j < n → (y < i ∨ (y = i ∧ j < k)) → A y j = true → f j = (N : Int) → 0 ≤ f y
section
variable {n x N i k : Nat} {A : Nat → Nat → Bool} {f g : Nat → Int}
theorem FarJ.start (h0 : f x = 0) (h1 : ∀ y, y < n → y ≠ x → f y = -1) : FarJ n A x 0 0 0 f := by
  have hlow : ∀ y, y < n → f y = 0 ∨ f y = -1 := fun y hy => by
    by_cases e : y = x
    · rw [e]; exact .inl h0
    · exact .inr (h1 y hy e)
  refine ⟨h0, fun y hy => ?_, fun y hy => ?_, fun y hy e => .inl (h1 y hy e), fun y k _ _ _ h2 h3 => by omega, fun y j _ _ h => by omega⟩
  · rcases hlow y hy with e | e <;> omega
  · rcases hlow y hy with e | e <;> omega
theorem FarJ.skip (h : FarJ n A x N i k f) (hno : f i < 0 → A i k = true → f k = (N : Int) → False) : FarJ n A x N i (k + 1) f := by
  refine ⟨h.zero, h.low, h.up, h.pos, h.edge, fun y j hy hj hp ha hf => ?_⟩
  by_cases e : y = i ∧ j = k
  · obtain ⟨rfl, rfl⟩ := e
    exact Classical.byContradiction fun h2 => hno (by omega) ha hf
  · exact h.part y j hy hj (by omega) ha hf
theorem FarJ.set (h : FarJ n A x N i k f) (hk : k < n) (hi : f i < 0) (ha : A i k = true) (hf : f k = (N : Int)) (hg : g i = (N : Int) + 1) (ho : ∀ y, y ≠ i → g y = f y) : FarJ n A x N i (k + 1) g := by
  have hix : i ≠ x := fun e => by rw [e, h.zero] at hi; omega
  have hik : k ≠ i := fun e => by rw [e] at hf; omega
  refine ⟨by rw [ho x (Ne.symm hix)]; exact h.zero, fun y hy => ?_, fun y hy => ?_, fun y hy hyx => ?_, fun y j hy hj hA h0 h1 => ?_, fun y j hy hj hp hA h1 => ?_⟩
  · by_cases e : y = i
    · rw [e, hg]; omega
    · rw [ho y e]; exact h.low y hy
  · by_cases e : y = i
    · rw [e, hg]; omega
    · rw [ho y e]; exact h.up y hy
  · by_cases e : y = i
    · rw [e]
      exact .inr ⟨k, hk, ha, by rw [ho k hik]; omega, by rw [hg, ho k hik, hf]⟩
    · rw [ho y e]
      rcases h.pos y hy hyx with h2 | ⟨j, j1, j2, j3, j4⟩
      · exact .inl h2
      · have hji : j ≠ i := fun e2 => by rw [e2] at j3; omega
        exact .inr ⟨j, j1, j2, by rw [ho j hji]; exact j3, by rw [ho j hji]; exact j4⟩
  · have hji : j ≠ i := fun e => by rw [e, hg] at h1; omega
    rw [ho j hji] at h0 h1 ⊢
    have h2 := h.edge y j hy hj hA h0 h1
    by_cases e : y = i
    · rw [e] at h2
      omega
    · rw [ho y e]
      exact h2
  · by_cases e : y = i
    · rw [e, hg]; omega
    · have hji : j ≠ i := fun e2 => by rw [e2, hg] at h1; omega
      rw [ho j hji] at h1
      rw [ho y e]
      exact h.part y j hy hj (by omega) hA h1
theorem FarJ.nextI (h : FarJ n A x N i n f) : FarJ n A x N (i + 1) 0 f :=
  ⟨h.zero, h.low, h.up, h.pos, h.edge, fun y j hy hj hp => h.part y j hy hj (by omega)⟩
theorem FarJ.nextN (h : FarJ n A x N n 0 f) : FarJ n A x (N + 1) 0 0 f ∧ ∀ y, y < n → f y ≤ ((N + 1 : Nat) : Int) := by
  refine ⟨⟨h.zero, h.low, fun y hy => ?_, h.pos, fun y j hy hj ha h0 h1 => ?_, fun y j _ _ hp => by omega⟩, fun y hy => ?_⟩
  · have := h.up y hy
    omega
  · by_cases e : f j < (N : Int)
    · exact h.edge y j hy hj ha h0 e
    · have e2 : f j = (N : Int) := by omega
      have h2 := h.part y j hy hj (.inl hy) ha e2
      have := h.up y hy
      omega
  · have := h.up y hy
    omega
theorem FarJ.end (h : FarJ n A x n 0 0 f) (hup : ∀ y, y < n → f y ≤ (n : Int)) : Dist n A x f := by
  have hd : Dist n (fun y k => A y k && decide (f k < (n : Int))) x f := by
    refine ⟨h.zero, h.low, fun y hy hyx => ?_, fun y k hy hk ha h0 => ?_⟩
    · rcases h.pos y hy hyx with e | ⟨k, k1, k2, k3, k4⟩
      · exact .inl e
      · have := hup y hy
        exact .inr ⟨k, k1, by simp [k2]; omega, k3, k4⟩
    · simp only [Bool.and_eq_true, decide_eq_true_eq] at ha
      exact h.edge y k hy hk ha.1 h0 ha.2
  exact ⟨h.zero, h.low, h.pos, fun y k hy hk ha h0 => h.edge y k hy hk ha h0 (hd.lt_n hk)⟩
end
/-! Round -/
theorem Dist.one_le' {n : Nat} {adj : Nat → Nat → Bool} {x y : Nat} {f : Nat → Int} (hf : Dist n adj x f) (hy : y < n) (h0 : 0 ≤ f y) (hx : y ≠ x) : 1 ≤ f y := by
  rcases hf.pos y hy hx with h | ⟨k, _, _, h1, h2⟩ <;> omega
/-- How far the next one is. -/
structure Lft (n : Nat) (A : Nat → Nat → Bool) (f : Nat → Int) (b : Int) (a : Nat) (left : Int) : Prop where
  pos : 0 ≤ left
  b : b = left ∨ (b < 0 ∧ ∀ y, y < n → A a y = true → 0 ≤ f y → left ≤ f y)
  ex : ∃ z, z < n ∧ A a z = true ∧ f z = left
theorem Lft.next {n : Nat} {A : Nat → Nat → Bool} {f : Nat → Int} {b left : Int} {a z : Nat} (h : Lft n A f b a left) (hz : z < n) (ha : A a z = true) (hf : f z = left) (hno : ∀ y, y < z → A a y = true → f y ≠ left) : IsNext n A f b a z := by
  have hp := h.pos
  refine ⟨hz, ha, by omega, fun hb => ?_, fun y hy hA h0 he => ?_⟩
  · rcases h.b with e | ⟨e, _⟩ <;> omega
  · have hle : left ≤ f y := by
      rcases h.b with e | ⟨_, e⟩
      · have := he (by omega)
        omega
      · exact e y hy hA h0
    by_cases e : f y = left
    · refine .inr ⟨by omega, Classical.byContradiction fun h2 => ?_⟩
      exact hno y (by omega) hA e
    · exact .inl (by omega)
theorem Lft.step {n : Nat} {A : Nat → Nat → Bool} {f : Nat → Int} {x z : Nat} {left : Int} (hd : Dist n A x f) (hz : z < n) (hf : f z = left) (h0 : 0 < left) : Lft n A f (f z - 1) z (left - 1) := by
  have hzx : z ≠ x := fun e => by rw [e, hd.zero] at hf; omega
  rcases hd.pos z hz hzx with e | ⟨k, k1, k2, k3, k4⟩
  · omega
  · exact ⟨by omega, .inl (by omega), k, k1, k2, by omega⟩
theorem Lft.done {n : Nat} {A : Nat → Nat → Bool} {f : Nat → Int} {x a : Nat} {b : Int} (hd : Dist n A x f) (h : Lft n A f b a 0) : IsNext n A f b a x := by
  obtain ⟨z, h1, h2, h3⟩ := h.ex
  have e : z = x := Classical.byContradiction fun e => by
    have := hd.one_le' h1 (by omega) e
    omega
  subst e
  refine h.next h1 h2 h3 fun y hy _ hf => ?_
  have := hd.one_le' (y := y) (by omega) (by omega) (by omega)
  omega
/-- The least so far: of those ahead of k. -/
def LeastK (n : Nat) (A : Nat → Nat → Bool) (f : Nat → Int) (a k : Nat) (left : Int) : Prop := (left = -1 ∧ ∀ y, y < k → y < n → A a y = true → f y < 0) ∨ (0 ≤ left ∧ (∃ z, z < n ∧ A a z = true ∧ f z = left) ∧ ∀ y, y < k → y < n → A a y = true → 0 ≤ f y → left ≤ f y)
theorem LeastK.start (n : Nat) (A : Nat → Nat → Bool) (f : Nat → Int) (a : Nat) : LeastK n A f a 0 (-1) := .inl ⟨rfl, fun y hy => by omega⟩
theorem LeastK.skip {n : Nat} {A : Nat → Nat → Bool} {f : Nat → Int} {a k : Nat} {left : Int} (h : LeastK n A f a k left) (hno : A a k = true → 0 ≤ f k → 0 ≤ left ∧ left ≤ f k) : LeastK n A f a (k + 1) left := by
  rcases h with ⟨h1, h2⟩ | ⟨h1, h2, h3⟩
  · refine .inl ⟨h1, fun y hy hyn ha => ?_⟩
    by_cases e : y = k
    · subst e
      refine Classical.byContradiction fun h4 => ?_
      have := hno ha (by omega)
      omega
    · exact h2 y (by omega) hyn ha
  · refine .inr ⟨h1, h2, fun y hy hyn ha h0 => ?_⟩
    by_cases e : y = k
    · subst e
      exact (hno ha h0).2
    · exact h3 y (by omega) hyn ha h0
theorem LeastK.take {n : Nat} {A : Nat → Nat → Bool} {f : Nat → Int} {a k : Nat} {left : Int} (h : LeastK n A f a k left) (hk : k < n) (ha : A a k = true) (h0 : 0 ≤ f k) (hl : left < 0 ∨ f k < left) : LeastK n A f a (k + 1) (f k) := by
  refine .inr ⟨h0, ⟨k, hk, ha, rfl⟩, fun y hy hyn hA hf => ?_⟩
  by_cases e : y = k
  · rw [e]; exact Int.le_refl _
  · rcases h with ⟨_, h2⟩ | ⟨h1, _, h3⟩
    · have := h2 y (by omega) hyn hA
      omega
    · have := h3 y (by omega) hyn hA hf
      omega
theorem LeastK.none {n : Nat} {A : Nat → Nat → Bool} {f : Nat → Int} {x : Nat} {left : Int} (h : LeastK n A f x n left) (hl : left < 0) : RoundR n A f x [] := by
  rcases h with ⟨_, h2⟩ | ⟨h1, _⟩
  · exact .inr ⟨rfl, fun y hy ha => h2 y hy hy ha⟩
  · omega
theorem LeastK.lft {n : Nat} {A : Nat → Nat → Bool} {f : Nat → Int} {x : Nat} {left : Int} (h : LeastK n A f x n left) (hl : 0 ≤ left) : Lft n A f (-1) x left := by
  rcases h with ⟨h1, _⟩ | ⟨h1, h2, h3⟩
  · omega
  · exact ⟨h1, .inr ⟨by omega, fun y hy => h3 y hy hy⟩, h2⟩
end Go.Proofs.Ytcjohhminiedfaa
