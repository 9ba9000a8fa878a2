/- Cycle: the least of the shortest rings, plain. -/
import Derived.Test.YtcjohhminiedfaaC21Bfs
namespace Go.Proofs.Ytcjohhminiedfaa
/-- z comes next behind at: b, if it isn't negative, is how far it is. -/
structure IsNext (n : Nat) (adj : Nat → Nat → Bool) (f : Nat → Int) (b : Int) (at' z : Nat) : Prop where
  lt : z < n
  edge : adj at' z = true
  pos : 0 ≤ f z
  eq : 0 ≤ b → f z = b
  least : ∀ y, y < n → adj at' y = true → 0 ≤ f y → (0 ≤ b → f y = b) → f z < f y ∨ (f z = f y ∧ z ≤ y)
theorem IsNext.uniq {n : Nat} {adj : Nat → Nat → Bool} {f : Nat → Int} {b : Int} {a z y : Nat} (h : IsNext n adj f b a z) (k : IsNext n adj f b a y) : z = y := by
  have h1 := h.least y k.lt k.edge k.pos k.eq
  have h2 := k.least z h.lt h.edge h.pos h.eq
  omega
inductive Ring (n : Nat) (adj : Nat → Nat → Bool) (f : Nat → Int) (x : Nat) : Int → Nat → List Nat → Prop
  | stop {b : Int} {a : Nat} : IsNext n adj f b a x → Ring n adj f x b a []
  | go {b : Int} {a z : Nat} {l : List Nat} : IsNext n adj f b a z → z ≠ x → Ring n adj f x (f z - 1) z l → Ring n adj f x b a (z :: l)
/-- What Round tells. -/
def RoundR (n : Nat) (adj : Nat → Nat → Bool) (f : Nat → Int) (x : Nat) (ring : List Nat) : Prop := (∃ l, ring = x :: l ∧ Ring n adj f x (-1) x l) ∨ (ring = [] ∧ ∀ y, y < n → adj x y = true → f y < 0)
theorem Ring.uniq {n : Nat} {adj : Nat → Nat → Bool} {f : Nat → Int} {x : Nat} {b : Int} {a : Nat} {l m : List Nat} (h : Ring n adj f x b a l) (k : Ring n adj f x b a m) : l = m := by
  induction h generalizing m with
  | stop h1 =>
    cases k with
    | stop _ => rfl
    | go k1 k2 _ => exact absurd (k1.uniq h1) k2
  | go h1 h2 _ ih =>
    cases k with
    | stop k1 => exact absurd (h1.uniq k1) h2
    | go k1 k2 k3 =>
      have e := h1.uniq k1
      subst e
      rw [ih k3]
theorem Ring.first {n : Nat} {adj : Nat → Nat → Bool} {f : Nat → Int} {x : Nat} {b : Int} {a : Nat} {l : List Nat} (h : Ring n adj f x b a l) : ∃ z, IsNext n adj f b a z := by
  cases h with
  | stop h1 => exact ⟨x, h1⟩
  | go h1 _ _ => exact ⟨_, h1⟩
theorem RoundR.uniq {n : Nat} {adj : Nat → Nat → Bool} {f : Nat → Int} {x : Nat} {r s : List Nat} (h : RoundR n adj f x r) (k : RoundR n adj f x s) : r = s := by
  rcases h with ⟨l, rfl, h1⟩ | ⟨rfl, h1⟩
  · rcases k with ⟨m, rfl, k1⟩ | ⟨rfl, k1⟩
    · rw [h1.uniq k1]
    · obtain ⟨z, hz⟩ := h1.first
      have := k1 z hz.lt hz.edge
      have := hz.pos
      omega
  · rcases k with ⟨m, rfl, k1⟩ | ⟨rfl, _⟩
    · obtain ⟨z, hz⟩ := k1.first
      have := h1 z hz.lt hz.edge
      have := hz.pos
      omega
    · rfl
/-- It hangs on how far the nodes are alone. -/
theorem IsNext.congr {n : Nat} {adj : Nat → Nat → Bool} {f g : Nat → Int} {b : Int} {a z : Nat} (hfg : ∀ y, y < n → f y = g y) (h : IsNext n adj f b a z) : IsNext n adj g b a z := by
  have hz := hfg z h.lt
  refine ⟨h.lt, h.edge, by rw [← hz]; exact h.pos, fun hb => by rw [← hz]; exact h.eq hb, fun y hy ha h0 he => ?_⟩
  rw [← hz, ← hfg y hy]
  exact h.least y hy ha (by rw [hfg y hy]; exact h0) (fun hb => by rw [hfg y hy]; exact he hb)
theorem Ring.congr {n : Nat} {adj : Nat → Nat → Bool} {f g : Nat → Int} {x : Nat} {b : Int} {a : Nat} {l : List Nat} (hfg : ∀ y, y < n → f y = g y) (h : Ring n adj f x b a l) : Ring n adj g x b a l := by
  induction h with
  | stop h1 => exact .stop (h1.congr hfg)
  | go h1 h2 _ ih =>
    rw [hfg _ h1.lt] at ih
    exact .go (h1.congr hfg) h2 ih
theorem RoundR.congr {n : Nat} {adj : Nat → Nat → Bool} {f g : Nat → Int} {x : Nat} {r : List Nat} (hfg : ∀ y, y < n → f y = g y) (h : RoundR n adj f x r) : RoundR n adj g x r := by
  rcases h with ⟨l, rfl, h1⟩ | ⟨rfl, h1⟩
  · exact .inl ⟨l, rfl, h1.congr hfg⟩
  · exact .inr ⟨rfl, fun y hy ha => by rw [← hfg y hy]; exact h1 y hy ha⟩
/-! the best of a row -/
/-- The best of those of the row that were looked at; -1: none. -/
def Best (f : Nat → Int) (b : Int) (L : List Nat) (nx : Int) : Prop := (nx = -1 ∧ ∀ y ∈ L, 0 ≤ f y → (0 ≤ b → f y = b) → False) ∨ ∃ z : Nat, nx = (z : Int) ∧ z ∈ L ∧ 0 ≤ f z ∧ (0 ≤ b → f z = b) ∧ ∀ y ∈ L, 0 ≤ f y → (0 ≤ b → f y = b) → f z < f y ∨ (f z = f y ∧ z ≤ y)
theorem Best.nil (f : Nat → Int) (b : Int) : Best f b [] (-1) := .inl ⟨rfl, fun y hy => by cases hy⟩
theorem Best.skip {f : Nat → Int} {b : Int} {L : List Nat} {nx : Int} {y : Nat} (h : Best f b L nx) (hy : f y < 0 ∨ (0 ≤ b ∧ f y ≠ b)) : Best f b (L ++ [y]) nx := by
  have hno : 0 ≤ f y → (0 ≤ b → f y = b) → False := fun h1 h2 => by
    rcases hy with h3 | ⟨h3, h4⟩
    · omega
    · exact h4 (h2 h3)
  rcases h with ⟨rfl, h1⟩ | ⟨z, rfl, h1, h2, h3, h4⟩
  · refine .inl ⟨rfl, fun u hu => ?_⟩
    rcases List.mem_append.1 hu with hu | hu
    · exact h1 u hu
    · rw [List.mem_singleton.1 hu]
      exact hno
  · refine .inr ⟨z, rfl, List.mem_append_left _ h1, h2, h3, fun u hu k1 k2 => ?_⟩
    rcases List.mem_append.1 hu with hu | hu
    · exact h4 u hu k1 k2
    · rw [List.mem_singleton.1 hu] at k1 k2
      exact (hno k1 k2).elim
theorem Best.take {f : Nat → Int} {b : Int} {L : List Nat} {nx : Int} {y : Nat} (h : Best f b L nx) (h0 : 0 ≤ f y) (hb : 0 ≤ b → f y = b) (hnx : nx = -1 ∨ ∃ z : Nat, nx = (z : Int) ∧ (f y < f z ∨ (f y = f z ∧ y < z))) : Best f b (L ++ [y]) (y : Int) := by
  refine .inr ⟨y, rfl, by simp, h0, hb, fun u hu k1 k2 => ?_⟩
  rcases List.mem_append.1 hu with hu | hu
  · rcases h with ⟨rfl, h1⟩ | ⟨z, rfl, h1, h2, h3, h4⟩
    · exact (h1 u hu k1 k2).elim
    · have h5 := h4 u hu k1 k2
      rcases hnx with h6 | ⟨z', h6, h7⟩
      · omega
      · have : z' = z := by omega
        subst this
        omega
  · rw [List.mem_singleton.1 hu]
    omega
theorem Best.keep {f : Nat → Int} {b : Int} {L : List Nat} {y z : Nat} (h : Best f b L (z : Int)) (hz : ¬ (f y < f z ∨ (f y = f z ∧ y < z))) : Best f b (L ++ [y]) (z : Int) := by
  rcases h with ⟨h0, _⟩ | ⟨z', e, h1, h2, h3, h4⟩
  · omega
  · have : z' = z := by omega
    subst this
    refine .inr ⟨z', rfl, List.mem_append_left _ h1, h2, h3, fun u hu k1 k2 => ?_⟩
    rcases List.mem_append.1 hu with hu | hu
    · exact h4 u hu k1 k2
    · rw [List.mem_singleton.1 hu]
      omega
theorem Best.next {n : Nat} {adj : Nat → Nat → Bool} {f : Nat → Int} {b : Int} {a z : Nat} {L : List Nat} (h : Best f b L (z : Int)) (hL : ∀ y, y ∈ L ↔ y < n ∧ adj a y = true) : IsNext n adj f b a z := by
  rcases h with ⟨h0, _⟩ | ⟨z', e, h1, h2, h3, h4⟩
  · omega
  · have : z' = z := by omega
    subst this
    obtain ⟨k1, k2⟩ := (hL z').1 h1
    exact ⟨k1, k2, h2, h3, fun y hy ha => h4 y ((hL y).2 ⟨hy, ha⟩)⟩
/-- What was told so far: ring, at last at, and what is still to come. -/
def RoundSo (n : Nat) (adj : Nat → Nat → Bool) (f : Nat → Int) (x : Nat) (ring : List Nat) (b : Int) (a : Nat) : Prop := ∃ m, ring = x :: m ∧ ∀ l, Ring n adj f x b a l → Ring n adj f x (-1) x (m ++ l)
theorem RoundSo.start (n : Nat) (adj : Nat → Nat → Bool) (f : Nat → Int) (x : Nat) : RoundSo n adj f x [x] (-1) x := ⟨[], rfl, fun _ h => h⟩
theorem RoundSo.push {n : Nat} {adj : Nat → Nat → Bool} {f : Nat → Int} {x : Nat} {ring : List Nat} {b : Int} {a z : Nat} (h : RoundSo n adj f x ring b a) (hz : IsNext n adj f b a z) (hx : z ≠ x) : RoundSo n adj f x (ring ++ [z]) (f z - 1) z := by
  obtain ⟨m, rfl, h1⟩ := h
  exact ⟨m ++ [z], by simp, fun l hl => by rw [List.append_assoc]; exact h1 _ (.go hz hx hl)⟩
theorem RoundSo.done {n : Nat} {adj : Nat → Nat → Bool} {f : Nat → Int} {x : Nat} {ring : List Nat} {b : Int} {a : Nat} (h : RoundSo n adj f x ring b a) (hz : IsNext n adj f b a x) : RoundR n adj f x ring := by
  obtain ⟨m, rfl, h1⟩ := h
  have := h1 [] (.stop hz)
  rw [List.append_nil] at this
  exact .inl ⟨m, rfl, this⟩
/-! what a ring is -/
theorem Dist.le_n {n : Nat} {adj : Nat → Nat → Bool} {x : Nat} {f : Nat → Int} (hf : Dist n adj x f) : ∀ (d : Nat) (y : Nat), y < n → f y = (d : Int) → ∃ l : List Nat, l.length = d + 1 ∧ l.Nodup ∧ (∀ z ∈ l, z < n) ∧ ∀ z ∈ l, f z ≤ (d : Int) := by
  intro d
  induction d with
  | zero =>
    intro y hy h
    exact ⟨[y], rfl, by simp, fun z hz => by rw [List.mem_singleton.1 hz]; exact hy, fun z hz => by rw [List.mem_singleton.1 hz, h]; exact Int.le_refl _⟩
  | succ d ih =>
    intro y hy h
    have hyx : y ≠ x := fun e => by
      have := hf.zero
      rw [e, this] at h
      omega
    rcases hf.pos y hy hyx with e | ⟨k, hk, _, _, e⟩
    · omega
    · obtain ⟨l, h1, h2, h3, h4⟩ := ih k hk (by omega)
      refine ⟨y :: l, by simp [h1], List.nodup_cons.2 ⟨fun hm => by have := h4 y hm; omega, h2⟩, fun z hz => ?_, fun z hz => ?_⟩
      · rcases List.mem_cons.1 hz with e2 | e2
        · rw [e2]
          exact hy
        · exact h3 z e2
      · rcases List.mem_cons.1 hz with e2 | e2
        · rw [e2, h]
          exact Int.le_refl _
        · have := h4 z e2
          omega
theorem Dist.lt_n {n : Nat} {adj : Nat → Nat → Bool} {x : Nat} {f : Nat → Int} (hf : Dist n adj x f) {y : Nat} (hy : y < n) : f y < (n : Int) := by
  by_cases h0 : 0 ≤ f y
  · obtain ⟨d, hd⟩ : ∃ d : Nat, f y = (d : Int) := ⟨(f y).toNat, by omega⟩
    obtain ⟨l, h1, h2, h3, _⟩ := hf.le_n d y hy hd
    have := h2.length_le_of_subset (l₂ := List.range n) fun j hj => List.mem_range.2 (h3 j hj)
    rw [List.length_range] at this
    omega
  · omega
end Go.Proofs.Ytcjohhminiedfaa
