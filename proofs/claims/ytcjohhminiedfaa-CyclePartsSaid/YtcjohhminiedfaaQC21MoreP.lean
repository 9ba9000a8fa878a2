/- CycleMore and CycleTurned, plain: rings' lengths, walks, graphs that have more edges, graphs turned. -/
import Derived.Test.YtcjohhminiedfaaQC21Laid
namespace Go.Proofs.Ytcjohhminiedfaa
/-! more edges -/
theorem rch_mono {n : Nat} {E E' : List (Nat × Nat)} (h : EOk n E) (h' : EOk n E') (hs : ∀ e ∈ E, e ∈ E') {x y : Nat} (hr : Rch (tos n E) x y) : Rch (tos n E') x y := by
  induction hr with
  | refl => exact .refl _
  | step e _ ih => exact .step ((mem_tos h').2 (hs _ ((mem_tos h).1 e))) ih
theorem parts_more {n : Nat} {T T' L L' : List (List Nat)} (h : PL n T L) (h' : PL n T' L') (hr : ∀ x y, Rch T x y → Rch T' x y) : L'.length ≤ L.length := by
  have hne : ∀ p ∈ L', p ≠ [] := h'.scc.ne
  have hlen : (L'.map fun p => ofL L (hd p)).length ≤ L.length := by
    refine len_le (fun j => List.nodup_iff_count.1 ?_ j) fun j hj => ?_
    · unfold List.Nodup
      rw [List.pairwise_map]
      refine (h'.ord.and h'.scc.dis).imp_of_mem fun {p q} hp hq hpq e => ?_
      have p1 := hd_mem (hne p hp)
      have q1 := hd_mem (hne q hq)
      have pn := h'.scc.lt p hp _ p1
      have qn := h'.scc.lt q hq _ q1
      obtain ⟨a, a1, a2⟩ := h.scc.of_at pn
      obtain ⟨b, b1, b2⟩ := h.scc.of_at qn
      rw [e, b1] at a1
      injection a1 with a1
      rw [← a1] at a2
      have hm := List.mem_of_getElem? b1
      have k1 := hr _ _ (h.scc.both b hm _ a2 _ b2)
      have k2 := hr _ _ (h.scc.both b hm _ b2 _ a2)
      have := h'.scc.max p hp _ p1 _ k1 k2
      exact hpq.2 _ this q1
    · obtain ⟨p, hp, rfl⟩ := List.mem_map.1 hj
      exact h.scc.of_lt (h'.scc.lt p hp _ (hd_mem (hne p hp)))
  rw [List.length_map] at hlen
  exact hlen
theorem addE_sub {n : Nat} {E : List (Nat × Nat)} {x y : Int} : ∀ e ∈ E, e ∈ addE n E x y := fun e he => by
  unfold addE
  split
  · exact List.mem_append_left _ he
  · exact he
theorem addE_mem {n : Nat} {E : List (Nat × Nat)} {a b : Nat} (ha : a < n) (hb : b < n) : (a, b) ∈ addE n E (a : Int) (b : Int) := by
  unfold addE
  by_cases h : okE n E (a : Int) (b : Int) = true
  · rw [if_pos h]
    simp
  · rw [if_neg h]
    unfold okE at h
    simp only [Bool.and_eq_true, decide_eq_true_eq, Bool.not_eq_true', not_and, Bool.not_eq_false] at h
    have := h ⟨⟨by omega, by omega⟩, by omega, by omega⟩
    simpa using this
/-! how far -/
theorem Dist.of_rch {n : Nat} {E : List (Nat × Nat)} {x y : Nat} {f : Nat → Int} (hE : EOk n E) (hf : Dist n (adjE E) x f) (h : Rch (tos n E) y x) : 0 ≤ f y := by
  induction h with
  | refl => rw [hf.zero]; exact Int.le_refl _
  | step e _ ih =>
    have h1 := (mem_tos hE).1 e
    obtain ⟨k1, k2⟩ := hE.lt _ h1
    exact (hf.edge _ _ k1 k2 (adjE_mem.2 h1) (ih hf)).1
theorem Dist.one_le {n : Nat} {adj : Nat → Nat → Bool} {x y : Nat} {f : Nat → Int} (hf : Dist n adj x f) (hy : y < n) (h0 : 0 ≤ f y) (hx : y ≠ x) : 1 ≤ f y := by
  rcases hf.pos y hy hx with h | ⟨k, _, _, h1, h2⟩ <;> omega
theorem Ring.bound {n : Nat} {adj : Nat → Nat → Bool} {x : Nat} {f : Nat → Int} (hf : Dist n adj x f) {b : Int} {a : Nat} {l : List Nat} (h : Ring n adj f x b a l) : l.Nodup ∧ (∀ z ∈ l, z < n ∧ z ≠ x ∧ (0 ≤ b → f z ≤ b)) ∧ ∃ z, IsNext n adj f b a z ∧ (l.length : Int) = f z := by
  induction h with
  | stop h1 => exact ⟨List.nodup_nil, fun z hz => (by cases hz), x, h1, by rw [hf.zero]; rfl⟩
  | @go b a z l h1 h2 _ ih =>
    obtain ⟨i1, i2, z', i3, i4⟩ := ih
    have h3 := hf.one_le h1.lt h1.pos h2
    have h4 := i3.eq (by omega)
    refine ⟨List.nodup_cons.2 ⟨fun hm => ?_, i1⟩, fun y hy => ?_, z, h1, by rw [List.length_cons]; omega⟩
    · have := (i2 z hm).2.2 (by omega)
      omega
    · rcases List.mem_cons.1 hy with rfl | hy
      · exact ⟨h1.lt, h2, fun hb => by rw [h1.eq hb]; exact Int.le_refl _⟩
      · obtain ⟨k1, k2, k3⟩ := i2 y hy
        refine ⟨k1, k2, fun hb => ?_⟩
        have := k3 (by omega)
        have := h1.eq hb
        omega
theorem RoundR.le {n : Nat} {adj : Nat → Nat → Bool} {x : Nat} {f : Nat → Int} (hf : Dist n adj x f) (hx : x < n) {r : List Nat} (h : RoundR n adj f x r) : r.length ≤ n := by
  rcases h with ⟨l, rfl, h1⟩ | ⟨rfl, _⟩
  · obtain ⟨k1, k2, _⟩ := h1.bound hf
    have hn : (x :: l).Nodup := List.nodup_cons.2 ⟨fun hm => (k2 x hm).2.1 rfl, k1⟩
    have := hn.length_le_of_subset (l₂ := List.range n) fun j hj => List.mem_range.2 (by
      rcases List.mem_cons.1 hj with rfl | hj
      · exact hx
      · exact (k2 j hj).1)
    rw [List.length_range] at this
    exact this
  · exact Nat.zero_le _
theorem RoundR.some' {n : Nat} {adj : Nat → Nat → Bool} {x y : Nat} {f : Nat → Int} {r : List Nat} (h : RoundR n adj f x r) (hy : y < n) (ha : adj x y = true) (h0 : 0 ≤ f y) : 0 < r.length := by
  rcases h with ⟨l, rfl, _⟩ | ⟨_, h1⟩
  · simp
  · have := h1 y hy ha
    omega
/-! walks -/
inductive Walk (adj : Nat → Nat → Bool) (n : Nat) : Nat → Nat → Nat → Prop
  | nil (x : Nat) : Walk adj n 0 x x
  | cons {k x y z : Nat} : y < n → adj x y = true → Walk adj n k y z → Walk adj n (k + 1) x z
theorem Walk.snoc {adj : Nat → Nat → Bool} {n k x y z : Nat} (h : Walk adj n k x y) (hz : z < n) (ha : adj y z = true) : Walk adj n (k + 1) x z := by
  induction h with
  | nil => exact .cons hz ha (.nil _)
  | cons h1 h2 _ ih => exact .cons h1 h2 (ih ha)
theorem Dist.walk {n : Nat} {adj : Nat → Nat → Bool} {x : Nat} {f : Nat → Int} (hf : Dist n adj x f) : ∀ (d y : Nat), y < n → f y = (d : Int) → Walk adj n d y x := by
  intro d
  induction d with
  | zero =>
    intro y hy h
    by_cases e : y = x
    · rw [e]
      exact .nil x
    · have := hf.one_le hy (by omega) e
      omega
  | succ d ih =>
    intro y hy h
    have hyx : y ≠ x := fun e => by
      have := hf.zero
      rw [e, this] at h
      omega
    rcases hf.pos y hy hyx with e | ⟨k, hk, ha, h0, e⟩
    · omega
    · exact .cons hk ha (ih k hk (by omega))
theorem Dist.of_walk {n : Nat} {adj : Nat → Nat → Bool} {x y k : Nat} {f : Nat → Int} (hf : Dist n adj x f) (hy : y < n) (h : Walk adj n k y x) : 0 ≤ f y ∧ f y ≤ (k : Int) := by
  induction h with
  | nil => rw [hf.zero]; exact ⟨Int.le_refl _, Int.le_refl _⟩
  | cons h1 h2 _ ih =>
    obtain ⟨k1, k2⟩ := ih hf h1
    have := hf.edge _ _ hy h1 h2 k1
    omega
/-- A ring is as long as the shortest way round. -/
theorem RoundR.len {n : Nat} {adj : Nat → Nat → Bool} {x : Nat} {f : Nat → Int} (hf : Dist n adj x f) {r : List Nat} (h : RoundR n adj f x r) : (r.length = 0 ∧ ∀ k, ¬ Walk adj n (k + 1) x x) ∨ (0 < r.length ∧ Walk adj n r.length x x ∧ ∀ k, Walk adj n (k + 1) x x → r.length ≤ k + 1) := by
  rcases h with ⟨l, rfl, h1⟩ | ⟨rfl, h1⟩
  · obtain ⟨_, _, z, k1, k2⟩ := h1.bound hf
    refine .inr ⟨by simp, ?_, fun k hk => ?_⟩
    · rw [List.length_cons]
      exact .cons k1.lt k1.edge (hf.walk l.length z k1.lt k2.symm)
    · cases hk with
      | cons w1 w2 w3 =>
        obtain ⟨q1, q2⟩ := hf.of_walk w1 w3
        have := k1.least _ w1 w2 q1 (fun h => by omega)
        rw [List.length_cons]
        omega
  · refine .inl ⟨rfl, fun k hk => ?_⟩
    cases hk with
    | cons w1 w2 w3 =>
      have := (hf.of_walk w1 w3).1
      have := h1 _ w1 w2
      omega
/-! turned -/
theorem Walk.turn {adj adj' : Nat → Nat → Bool} {n k x y : Nat} (ht : ∀ a b, adj a b = true → adj' b a = true ∧ a < n ∧ b < n) (h : Walk adj n k x y) (hx : x < n) : Walk adj' n k y x := by
  induction h with
  | nil => exact .nil _
  | cons h1 h2 _ ih => exact (ih h1).snoc hx (ht _ _ h2).1
theorem RoundR.turn {n : Nat} {adj adj' : Nat → Nat → Bool} {x : Nat} {f g : Nat → Int} {r s : List Nat} (ht : ∀ a b, adj a b = true → adj' b a = true ∧ a < n ∧ b < n) (ht' : ∀ a b, adj' a b = true → adj b a = true ∧ a < n ∧ b < n) (hx : x < n) (hf : Dist n adj x f) (hg : Dist n adj' x g) (hr : RoundR n adj f x r) (hs : RoundR n adj' g x s) : r.length = s.length := by
  rcases hr.len hf with ⟨h1, h2⟩ | ⟨h1, h2, h3⟩ <;> rcases hs.len hg with ⟨k1, k2⟩ | ⟨k1, k2, k3⟩
  · omega
  · obtain ⟨m, hm⟩ : ∃ m, s.length = m + 1 := ⟨s.length - 1, by omega⟩
    rw [hm] at k2
    exact absurd (k2.turn ht' hx) (h2 m)
  · obtain ⟨m, hm⟩ : ∃ m, r.length = m + 1 := ⟨r.length - 1, by omega⟩
    rw [hm] at h2
    exact absurd (h2.turn ht hx) (k2 m)
  · obtain ⟨m, hm⟩ : ∃ m, r.length = m + 1 := ⟨r.length - 1, by omega⟩
    obtain ⟨p, hp⟩ : ∃ p, s.length = p + 1 := ⟨s.length - 1, by omega⟩
    rw [hm] at h2
    rw [hp] at k2
    have q1 := k3 m (h2.turn ht hx)
    have q2 := h3 p (k2.turn ht' hx)
    omega
theorem addE_turn {n : Nat} {E E' : List (Nat × Nat)} (h : ∀ a b, (a, b) ∈ E ↔ (b, a) ∈ E') (x y : Int) (a b : Nat) : (a, b) ∈ addE n E x y ↔ (b, a) ∈ addE n E' y x := by
  have hok : okE n E x y = okE n E' y x := by
    unfold okE
    have : E.contains (x.toNat, y.toNat) = E'.contains (y.toNat, x.toNat) := by
      rw [Bool.eq_iff_iff, List.contains_iff_mem, List.contains_iff_mem]
      exact h _ _
    rw [this, Bool.and_comm (decide (0 ≤ x ∧ x < (n : Int)))]
  unfold addE
  rw [hok]
  split
  · rw [List.mem_append, List.mem_append, h, List.mem_singleton, List.mem_singleton, Prod.mk.injEq, Prod.mk.injEq]
    constructor
    · rintro (h1 | ⟨h1, h2⟩)
      · exact .inl h1
      · exact .inr ⟨h2, h1⟩
    · rintro (h1 | ⟨h1, h2⟩)
      · exact .inl h1
      · exact .inr ⟨h2, h1⟩
  · exact h a b
theorem laidE_turn (n : Nat) (l : List (Int × Int)) (a b : Nat) : (a, b) ∈ laidE n false l ↔ (b, a) ∈ laidE n true l := by
  have key : ∀ (l : List (Int × Int)) (E E' : List (Nat × Nat)), (∀ a b, (a, b) ∈ E ↔ (b, a) ∈ E') → ∀ a b, (a, b) ∈ l.foldl (stepE n false) E ↔ (b, a) ∈ l.foldl (stepE n true) E' := by
    intro l
    induction l with
    | nil => intro E E' h; exact h
    | cons p r ih => intro E E' h; exact ih _ _ fun a b => addE_turn h p.1 p.2 a b
  exact key l [] [] (fun a b => by simp) a b
theorem rch_turn {n : Nat} {E E' : List (Nat × Nat)} (h : EOk n E) (h' : EOk n E') (ht : ∀ a b, (a, b) ∈ E → (b, a) ∈ E') {x y : Nat} (hr : Rch (tos n E) x y) : Rch (tos n E') y x := by
  induction hr with
  | refl => exact .refl _
  | step e _ ih => exact ih.trans (.one ((mem_tos h').2 (ht _ _ ((mem_tos h).1 e))))
theorem parts_turn {n : Nat} {T T' L L' : List (List Nat)} (h : PL n T L) (h' : PL n T' L') (hr : ∀ x y, Rch T x y ↔ Rch T' y x) : L = L' := by
  have hs : SCC n T L' := ⟨h'.scc.cover, h'.scc.lt, h'.scc.ne, h'.scc.dis, h'.scc.nod, fun p hp y hy z hz => (hr y z).2 (h'.scc.both p hp z hz y hy), fun p hp y hy z h1 h2 => h'.scc.max p hp y hy z ((hr z y).1 h2) ((hr y z).1 h1)⟩
  have hp : PL n T L' := ⟨hs, h'.rise, h'.ord⟩
  have key : ∀ {A B : List (List Nat)}, PL n T A → PL n T B → ∀ l ∈ A, l ∈ B := fun {A B} hA hB l hl => by
    have hne := hA.scc.ne l hl
    have hm := hd_mem hne
    obtain ⟨q, hq, hmq⟩ := hB.scc.cover _ (hA.scc.lt l hl _ hm)
    have : l = q := rise_eq (hA.rise l hl) (hB.rise q hq) fun x => by rw [hA.scc.part hl hm, hB.scc.part hq hmq]
    rw [this]
    exact hq
  exact h.uniq hp (key h hp) (key hp h)
/-- Parts are told by whom each node reaches. -/
theorem PL.only {n : Nat} {T L L' : List (List Nat)} (h : PL n T L) (h' : PL n T L') : L = L' := by
  have key : ∀ {A B : List (List Nat)}, PL n T A → PL n T B → ∀ l ∈ A, l ∈ B := fun {A B} hA hB l hl => by
    have hne := hA.scc.ne l hl
    have hm := hd_mem hne
    obtain ⟨q, hq, hmq⟩ := hB.scc.cover _ (hA.scc.lt l hl _ hm)
    have : l = q := rise_eq (hA.rise l hl) (hB.rise q hq) fun x => by rw [hA.scc.part hl hm, hB.scc.part hq hmq]
    rw [this]
    exact hq
  exact h.uniq h' (key h h') (key h' h)
end Go.Proofs.Ytcjohhminiedfaa
