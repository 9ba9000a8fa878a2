/- CycleTells, plain: who is in a ring, what a ring is, who comes first. -/
import Derived.Test.YtcjohhminiedfaaC21MoreP
namespace Go.Proofs.Ytcjohhminiedfaa
theorem PL.same {n : Nat} {T L : List (List Nat)} (h : PL n T L) {x y : Nat} (hx : x < n) (hy : y < n) : ofL L x = ofL L y ↔ Rch T x y ∧ Rch T y x := by
  obtain ⟨p, p1, p2⟩ := h.scc.of_at hx
  obtain ⟨q, q1, q2⟩ := h.scc.of_at hy
  constructor
  · intro e
    rw [e, q1] at p1
    injection p1 with p1
    rw [← p1] at p2
    have hm := List.mem_of_getElem? q1
    exact ⟨h.scc.both q hm _ p2 _ q2, h.scc.both q hm _ q2 _ p2⟩
  · rintro ⟨h1, h2⟩
    have hm := List.mem_of_getElem? p1
    exact (h.scc.of_eq p1 (h.scc.max p hm _ p2 _ h1 h2)).symm
theorem order_place {n : Nat} {T L : List (List Nat)} {O : List Nat} (hL : PL n T L) (hO : IsOrd T L O) {a b i j : Nat} (ha : a < n) (hb : b < n) (he : b ∈ T.getD a []) (hne : ofL L a ≠ ofL L b) (hi : (O.flatMap fun i => L.getD i [])[i]? = some a) (hj : (O.flatMap fun i => L.getD i [])[j]? = some b) : j < i := by
  obtain ⟨p, p1, p2⟩ := hL.scc.of_at ha
  obtain ⟨q, q1, q2⟩ := hL.scc.of_at hb
  have hpO : ofL L a ∈ O := (hO.all _).2 (List.getElem?_eq_some_iff.1 p1).1
  obtain ⟨A, B, e⟩ := List.append_of_mem hpO
  have h0 := (hO.ord A _ B e).1
  have ho : ofL L b ∈ outs T L (ofL L a) := by
    unfold outs
    refine List.mem_flatMap.2 ⟨a, by rw [List.getD_eq_getElem?_getD, p1]; exact p2, ?_⟩
    unfold jsOf
    exact List.mem_filter.2 ⟨List.mem_map.2 ⟨b, he, rfl⟩, by simpa using Ne.symm hne⟩
  have hA : ofL L b ∈ A := by
    unfold rem at h0
    have := List.countP_eq_zero.1 h0 _ ho
    simpa using this
  obtain ⟨k1, _⟩ := flat_nodup hL.scc O hO.nod fun i hi => (hO.all i).1 hi
  rw [e, List.flatMap_append] at k1 hi hj
  obtain ⟨_, _, kd⟩ := List.nodup_append.1 k1
  have mb : b ∈ A.flatMap fun i => L.getD i [] := List.mem_flatMap.2 ⟨_, hA, by rw [List.getD_eq_getElem?_getD, q1]; exact q2⟩
  have ma : a ∈ (ofL L a :: B).flatMap fun i => L.getD i [] := List.mem_flatMap.2 ⟨_, List.mem_cons_self, by rw [List.getD_eq_getElem?_getD, p1]; exact p2⟩
  have c1 : ¬ i < (A.flatMap fun i => L.getD i []).length := fun h => by
    rw [List.getElem?_append_left h] at hi
    exact kd a (List.mem_of_getElem? hi) a ma rfl
  have c2 : j < (A.flatMap fun i => L.getD i []).length := Classical.byContradiction fun h => by
    rw [List.getElem?_append_right (by omega)] at hj
    exact kd b mb b (List.mem_of_getElem? hj) rfl
  omega
/-- x stands at an edge inside its part. -/
def InRing (L : List (List Nat)) (E : List (Nat × Nat)) (x : Nat) : Prop := ∃ e ∈ E, ofL L e.1 = ofL L e.2 ∧ (e.1 = x ∨ e.2 = x)
theorem Walk.rch {n : Nat} {E : List (Nat × Nat)} (hE : EOk n E) {k x y : Nat} (h : Walk (adjE E) n k x y) : Rch (tos n E) x y := by
  induction h with
  | nil => exact .refl _
  | cons _ h2 _ ih => exact .step ((mem_tos hE).2 (adjE_mem.1 h2)) ih
theorem Dist.rch {n : Nat} {E : List (Nat × Nat)} (hE : EOk n E) {x y : Nat} {f : Nat → Int} (hf : Dist n (adjE E) x f) (hy : y < n) (h0 : 0 ≤ f y) : Rch (tos n E) y x :=
  (hf.walk (f y).toNat y hy (by omega)).rch hE
theorem ring_iff {n : Nat} {E : List (Nat × Nat)} {L : List (List Nat)} {x : Nat} {f : Nat → Int} {r : List Nat} (hE : EOk n E) (hL : PL n (tos n E) L) (hx : x < n) (hf : Dist n (adjE E) x f) (h : RoundR n (adjE E) f x r) : 0 < r.length ↔ InRing L E x := by
  constructor
  · intro hr
    rcases h with ⟨l, rfl, h1⟩ | ⟨rfl, _⟩
    · obtain ⟨z, hz⟩ := h1.first
      have he := adjE_mem.1 hz.edge
      exact ⟨(x, z), he, (hL.same hx hz.lt).2 ⟨.one ((mem_tos hE).2 he), hf.rch hE hz.lt hz.pos⟩, .inl rfl⟩
    · simp at hr
  · rintro ⟨⟨a, b⟩, he, hp, h2⟩
    obtain ⟨l1, l2⟩ := hE.lt _ he
    obtain ⟨r1, r2⟩ := (hL.same l1 l2).1 hp
    rcases h2 with rfl | rfl
    · exact h.some' l2 (adjE_mem.2 he) (hf.of_rch hE r2)
    · cases r2 with
      | refl => exact h.some' hx (adjE_mem.2 he) (by rw [hf.zero]; exact Int.le_refl _)
      | step e k =>
        have e2 := (mem_tos hE).1 e
        exact h.some' (hE.lt _ e2).2 (adjE_mem.2 e2) (hf.of_rch hE (k.trans (.one ((mem_tos hE).2 he))))
theorem Ring.edges {n : Nat} {adj : Nat → Nat → Bool} {f : Nat → Int} {x : Nat} {b : Int} {a : Nat} {l : List Nat} (h : Ring n adj f x b a l) : ∀ (i y : Nat), (a :: l)[i]? = some y → ∃ z, (a :: l ++ [x])[i + 1]? = some z ∧ adj y z = true := by
  induction h with
  | @stop b a h1 =>
    intro i y hy
    cases i with
    | zero =>
      simp at hy
      subst hy
      exact ⟨x, rfl, h1.edge⟩
    | succ i => simp at hy
  | @go b a z l h1 _ _ ih =>
    intro i y hy
    cases i with
    | zero =>
      simp at hy
      subst hy
      exact ⟨z, rfl, h1.edge⟩
    | succ i => exact ih i y hy
theorem Ring.rch {n : Nat} {E : List (Nat × Nat)} (hE : EOk n E) {f : Nat → Int} {x : Nat} {b : Int} {a : Nat} {l : List Nat} (h : Ring n (adjE E) f x b a l) : ∀ y ∈ a :: l, Rch (tos n E) a y ∧ Rch (tos n E) y x := by
  induction h with
  | stop h1 =>
    intro y hy
    rw [List.mem_singleton.1 hy]
    exact ⟨.refl _, .one ((mem_tos hE).2 (adjE_mem.1 h1.edge))⟩
  | @go b a z l h1 _ _ ih =>
    have e := (mem_tos hE).2 (adjE_mem.1 h1.edge)
    intro y hy
    rcases List.mem_cons.1 hy with rfl | hy
    · exact ⟨.refl _, .step e (ih z List.mem_cons_self).2⟩
    · exact ⟨.step e (ih y hy).1, (ih y hy).2⟩
/-- What Round tells: each of it leads to the next, the last to the first; all are of one part. -/
theorem RoundR.ring {n : Nat} {E : List (Nat × Nat)} {L : List (List Nat)} {x : Nat} {f : Nat → Int} {r : List Nat} (hE : EOk n E) (hL : PL n (tos n E) L) (hx : x < n) (hf : Dist n (adjE E) x f) (h : RoundR n (adjE E) f x r) {i y : Nat} (hy : r[i]? = some y) : ∃ z, r[(i + 1) % r.length]? = some z ∧ (y, z) ∈ E ∧ ofL L y = ofL L x ∧ y < n ∧ z < n := by
  rcases h with ⟨l, rfl, h1⟩ | ⟨rfl, _⟩
  · have hi := (List.getElem?_eq_some_iff.1 hy).1
    have hyl : y < n := by
      rcases List.mem_cons.1 (List.mem_of_getElem? hy) with rfl | h2
      · exact hx
      · exact ((h1.bound hf).2.1 y h2).1
    obtain ⟨k1, k2⟩ := h1.rch hE y (List.mem_of_getElem? hy)
    obtain ⟨z, z1, z2⟩ := h1.edges i y hy
    have ze := adjE_mem.1 z2
    refine ⟨z, ?_, ze, (hL.same hyl hx).2 ⟨k2, k1⟩, hyl, (hE.lt _ ze).2⟩
    by_cases hl : i + 1 < (x :: l).length
    · rw [List.getElem?_append_left hl] at z1
      rw [Nat.mod_eq_of_lt hl]
      exact z1
    · have e : i + 1 = (x :: l).length := by omega
      rw [e, Nat.mod_self]
      rw [e, List.getElem?_append_right (Nat.le_refl _)] at z1
      simpa using z1
  · simp at hy
theorem RoundR.hd0 {n : Nat} {adj : Nat → Nat → Bool} {x : Nat} {f : Nat → Int} {r : List Nat} (h : RoundR n adj f x r) (h0 : 0 < r.length) : r[0]? = some x := by
  rcases h with ⟨l, rfl, _⟩ | ⟨rfl, _⟩
  · rfl
  · simp at h0
end Go.Proofs.Ytcjohhminiedfaa
/-! rows -/
namespace Go.Proofs.Ytcjohhminiedfaa
/-- A row told place by place. -/
def rowI (n : Nat) (f : Nat → Int) : List Int := (List.range n).map f
theorem rowI_len (n : Nat) (f : Nat → Int) : (rowI n f).length = n := by simp [rowI]
theorem rowI_at {n : Nat} (f : Nat → Int) {y : Nat} (hy : y < n) : (rowI n f)[y]? = some (f y) := by
  unfold rowI
  rw [List.getElem?_map, List.getElem?_range hy]
  rfl
theorem rowI_set {n : Nat} {f g : Nat → Int} {x : Nat} (_ : x < n) (h1 : ∀ y, y < n → y ≠ x → g y = f y) : (rowI n f).set x (g x) = rowI n g := by
  apply List.ext_getElem?
  intro i
  by_cases hi : i < n
  · rw [rowI_at g hi, List.getElem?_set]
    by_cases e : x = i
    · subst e
      rw [if_pos rfl, if_pos (by rw [rowI_len]; exact hi)]
    · rw [if_neg e, rowI_at f hi, h1 i hi (Ne.symm e)]
  · rw [List.getElem?_eq_none (by rw [List.length_set, rowI_len]; omega), List.getElem?_eq_none (by rw [rowI_len]; omega)]
theorem rowI_congr {n : Nat} {f g : Nat → Int} (h : ∀ y, y < n → f y = g y) : rowI n f = rowI n g := List.map_congr_left fun y hy => h y (List.mem_range.1 hy)
theorem rowI_const (n : Nat) (c : Int) : rowI n (fun _ => c) = List.replicate n c := by
  unfold rowI
  rw [List.map_const']
  simp
/-! parts -/
def ptF (L : List (List Nat)) (i j y : Nat) : Int := if ofL L y < i ∨ (ofL L y = i ∧ y ∈ (L.getD i []).take j) then (ofL L y : Int) else -1
theorem ptF_start (L : List (List Nat)) (y : Nat) : ptF L 0 0 y = -1 := by
  unfold ptF
  rw [if_neg (by simp)]
theorem ptF_take {n : Nat} {T L : List (List Nat)} (h : PL n T L) {i j x : Nat} {p : List Nat} (hp : L[i]? = some p) (hx : p[j]? = some x) : x < n ∧ ptF L i j x = -1 ∧ ptF L i (j + 1) x = (i : Int) ∧ ∀ y, y ≠ x → ptF L i (j + 1) y = ptF L i j y := by
  have hpm := List.mem_of_getElem? hp
  have hxm := List.mem_of_getElem? hx
  have hof := h.scc.of_eq hp hxm
  have hg : L.getD i [] = p := by rw [List.getD_eq_getElem?_getD, hp]; rfl
  have hno : x ∉ p.take j := fun hm => by
    obtain ⟨k, hk⟩ := List.mem_iff_getElem?.1 hm
    have hkj : k < j := by
      have := (List.getElem?_eq_some_iff.1 hk).1
      rw [List.length_take] at this
      omega
    rw [List.getElem?_take, if_pos hkj] at hk
    obtain ⟨k1, k2⟩ := List.getElem?_eq_some_iff.1 hk
    obtain ⟨j1, j2⟩ := List.getElem?_eq_some_iff.1 hx
    have := (List.getElem_inj (h.scc.nod p hpm)).1 (k2.trans j2.symm)
    omega
  have htk : p.take (j + 1) = p.take j ++ [x] := by
    rw [List.take_add_one, hx]
    rfl
  refine ⟨h.scc.lt p hpm x hxm, ?_, ?_, fun y hy => ?_⟩
  · unfold ptF
    rw [hg, hof, if_neg]
    rintro (h1 | ⟨_, h1⟩)
    · omega
    · exact hno h1
  · unfold ptF
    rw [hg, hof, if_pos (.inr ⟨rfl, by rw [htk]; simp⟩)]
  · unfold ptF
    rw [hg, htk]
    have : y ∈ p.take j ++ [x] ↔ y ∈ p.take j := by simp [hy]
    simp only [this]
theorem ptF_next {n : Nat} {T L : List (List Nat)} (h : PL n T L) {i : Nat} {p : List Nat} (hp : L[i]? = some p) {y : Nat} (hy : y < n) : ptF L i p.length y = ptF L (i + 1) 0 y := by
  have hg : L.getD i [] = p := by rw [List.getD_eq_getElem?_getD, hp]; rfl
  unfold ptF
  rw [hg, List.take_length]
  have : (ofL L y < i ∨ (ofL L y = i ∧ y ∈ p)) ↔ (ofL L y < i + 1 ∨ (ofL L y = i + 1 ∧ y ∈ (L.getD (i + 1) []).take 0)) := by
    constructor
    · rintro (h1 | ⟨h1, _⟩)
      · exact .inl (by omega)
      · exact .inl (by omega)
    · rintro (h1 | ⟨_, h1⟩)
      · by_cases e : ofL L y = i
        · obtain ⟨q, q1, q2⟩ := h.scc.of_at hy
          rw [e, hp] at q1
          injection q1 with q1
          exact .inr ⟨e, by rw [q1]; exact q2⟩
        · exact .inl (by omega)
      · simp at h1
  simp only [this]
theorem ptF_end {n : Nat} {T L : List (List Nat)} (h : PL n T L) {y : Nat} (hy : y < n) : ptF L L.length 0 y = (ofL L y : Int) := by
  unfold ptF
  rw [if_pos (.inl (h.scc.of_lt hy))]
/-! places -/
def plF (F : List Nat) (k y : Nat) : Int := if F.idxOf y < k then (F.idxOf y : Int) else -1
theorem plF_start (F : List Nat) (y : Nat) : plF F 0 y = -1 := by
  unfold plF
  rw [if_neg (Nat.not_lt_zero _)]
theorem idxOf_at {F : List Nat} (hF : F.Nodup) {k x : Nat} (hx : F[k]? = some x) : F.idxOf x = k := by
  have hm := List.mem_of_getElem? hx
  obtain ⟨k1, k2⟩ := List.getElem?_eq_some_iff.1 hx
  have h1 := List.idxOf_lt_length_iff.2 hm
  exact (List.getElem_inj hF).1 ((List.getElem_idxOf h1).trans k2.symm)
theorem plF_take {F : List Nat} (hF : F.Nodup) {k x : Nat} (hx : F[k]? = some x) : plF F k x = -1 ∧ plF F (k + 1) x = (k : Int) ∧ ∀ y, y ≠ x → plF F (k + 1) y = plF F k y := by
  have e := idxOf_at hF hx
  refine ⟨?_, ?_, fun y hy => ?_⟩
  · unfold plF
    rw [e, if_neg (Nat.lt_irrefl k)]
  · unfold plF
    rw [e, if_pos (Nat.lt_succ_self k)]
  · unfold plF
    have hne : F.idxOf y ≠ k := fun e2 => by
      obtain ⟨k1, k2⟩ := List.getElem?_eq_some_iff.1 hx
      have h1 : F.idxOf y < F.length := by omega
      have h2 := List.getElem_idxOf h1
      have h3 : F[F.idxOf y]? = some x := by rw [e2]; exact hx
      rw [List.getElem?_eq_getElem h1, h2] at h3
      injection h3 with h3
      exact hy h3
    by_cases h : F.idxOf y < k
    · rw [if_pos h, if_pos (by omega)]
    · rw [if_neg h, if_neg (by omega)]
theorem plF_end {F : List Nat} {y : Nat} (hy : y ∈ F) : plF F F.length y = (F.idxOf y : Int) := by
  unfold plF
  rw [if_pos (List.idxOf_lt_length_iff.2 hy)]
/-! rings -/
open Classical in
/-- Who stands at one of these edges inside its part. -/
noncomputable def rgL (n : Nat) (L : List (List Nat)) (D : List (Nat × Nat)) : List Bool := (List.range n).map fun y => decide (InRing L D y)
theorem rgL_len (n : Nat) (L : List (List Nat)) (D : List (Nat × Nat)) : (rgL n L D).length = n := by simp [rgL]
open Classical in
theorem rgL_at {n : Nat} (L : List (List Nat)) (D : List (Nat × Nat)) {y : Nat} (hy : y < n) : (rgL n L D)[y]? = some (decide (InRing L D y)) := by
  unfold rgL
  rw [List.getElem?_map, List.getElem?_range hy]
  rfl
open Classical in
theorem rgL_nil (n : Nat) (L : List (List Nat)) : rgL n L [] = List.replicate n false := by
  apply List.ext_getElem?
  intro i
  by_cases hi : i < n
  · rw [rgL_at L [] hi, List.getElem?_replicate, if_pos hi]
    congr 1
    rw [decide_eq_false_iff_not]
    rintro ⟨e, he, _⟩
    cases he
  · rw [List.getElem?_eq_none (by rw [rgL_len]; omega), List.getElem?_eq_none (by simp; omega)]
theorem inRing_push {L : List (List Nat)} {D : List (Nat × Nat)} {a b y : Nat} : InRing L (D ++ [(a, b)]) y ↔ InRing L D y ∨ (ofL L a = ofL L b ∧ (a = y ∨ b = y)) := by
  unfold InRing
  constructor
  · rintro ⟨e, he, h1, h2⟩
    rcases List.mem_append.1 he with he | he
    · exact .inl ⟨e, he, h1, h2⟩
    · rw [List.mem_singleton] at he
      subst he
      exact .inr ⟨h1, h2⟩
  · rintro (⟨e, he, h1, h2⟩ | ⟨h1, h2⟩)
    · exact ⟨e, List.mem_append_left _ he, h1, h2⟩
    · exact ⟨(a, b), by simp, h1, h2⟩
open Classical in
theorem rgL_same {n : Nat} {L : List (List Nat)} {D : List (Nat × Nat)} {a b : Nat} (h : ofL L a = ofL L b) : ((rgL n L D).set a true).set b true = rgL n L (D ++ [(a, b)]) := by
  apply List.ext_getElem?
  intro i
  by_cases hi : i < n
  · rw [rgL_at L _ hi, List.getElem?_set]
    by_cases e : b = i
    · subst e
      rw [if_pos rfl, if_pos (by rw [List.length_set, rgL_len]; exact hi)]
      congr 1
      exact (decide_eq_true (inRing_push.2 (.inr ⟨h, .inr rfl⟩))).symm
    · rw [if_neg e, List.getElem?_set]
      by_cases e2 : a = i
      · subst e2
        rw [if_pos rfl, if_pos (by rw [rgL_len]; exact hi)]
        congr 1
        exact (decide_eq_true (inRing_push.2 (.inr ⟨h, .inl rfl⟩))).symm
      · rw [if_neg e2, rgL_at L D hi]
        congr 1
        rw [decide_eq_decide]
        rw [inRing_push]
        constructor
        · exact .inl
        · rintro (h1 | ⟨_, h1 | h1⟩)
          · exact h1
          · exact absurd h1 e2
          · exact absurd h1 e
  · rw [List.getElem?_eq_none (by rw [List.length_set, List.length_set, rgL_len]; omega), List.getElem?_eq_none (by rw [rgL_len]; omega)]
open Classical in
theorem rgL_other {n : Nat} {L : List (List Nat)} {D : List (Nat × Nat)} {a b : Nat} (h : ofL L a ≠ ofL L b) : rgL n L D = rgL n L (D ++ [(a, b)]) := by
  unfold rgL
  refine List.map_congr_left fun y _ => ?_
  rw [decide_eq_decide, inRing_push]
  constructor
  · exact .inl
  · rintro (h1 | ⟨h1, _⟩)
    · exact h1
    · exact absurd h1 h
end Go.Proofs.Ytcjohhminiedfaa
