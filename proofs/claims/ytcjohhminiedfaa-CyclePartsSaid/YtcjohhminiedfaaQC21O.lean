/- Cycle: the order, plain. -/
import Derived.Test.YtcjohhminiedfaaQC21Push
import Derived.Test.YtcjohhminiedfaaQC21L
namespace Go.Proofs.Ytcjohhminiedfaa
/-- The other parts that a row's nodes are of. -/
def jsOf (L : List (List Nat)) (i : Nat) (row : List Nat) : List Nat := (row.map (ofL L)).filter fun j => j != i
def outs (T L : List (List Nat)) (i : Nat) : List Nat := (L.getD i []).flatMap fun x => jsOf L i (T.getD x [])
/-- How many edges of a part lead to parts that are not out yet. -/
def rem (T L : List (List Nat)) (O : List Nat) (j : Nat) : Nat := (outs T L j).countP fun k => decide (k ∉ O)
theorem sum_map_add {α : Type} (l : List α) (f g : α → Nat) : (l.map fun x => f x + g x).sum = (l.map f).sum + (l.map g).sum := by
  induction l with
  | nil => rfl
  | cons a r ih =>
    simp only [List.map_cons, List.sum_cons, ih]
    omega
theorem sum_zero {α : Type} (l : List α) : (l.map fun _ => 0).sum = 0 := by
  induction l with
  | nil => rfl
  | cons a r ih => simpa using ih
theorem sum_swap {α β : Type} (A : List α) (B : List β) (f : α → β → Nat) : (A.map fun x => (B.map fun y => f x y).sum).sum = (B.map fun y => (A.map fun x => f x y).sum).sum := by
  induction A with
  | nil =>
    simp only [List.map_nil, List.sum_nil]
    induction B with
    | nil => rfl
    | cons b s ih => simpa using ih
  | cons a r ih =>
    simp only [List.map_cons, List.sum_cons, ih, ← sum_map_add]
theorem sum_ind (l : List Nat) (z : Nat) : (l.map fun y => if z = y then 1 else 0).sum = l.count z := by
  induction l with
  | nil => rfl
  | cons a r ih =>
    rw [List.map_cons, List.sum_cons, ih, List.count_cons]
    by_cases e : z = a
    · subst e
      simp
      omega
    · have : (a == z) = false := by simpa using fun h => e h.symm
      simp [e, this]
theorem sum_congr {α : Type} {l : List α} {f g : α → Nat} (h : ∀ x ∈ l, f x = g x) : (l.map f).sum = (l.map g).sum := by
  rw [List.map_congr_left h]
theorem SCC.count_of {n : Nat} {T L : List (List Nat)} (h : SCC n T L) {j : Nat} {p : List Nat} (hp : L[j]? = some p) {row : List Nat} (hr : ∀ y ∈ row, y < n) : (row.map (ofL L)).count j = (p.map fun y => row.count y).sum := by
  induction row with
  | nil =>
    simp only [List.map_nil, List.count_nil]
    exact (sum_zero p).symm
  | cons z r ih =>
    have hz := hr z (by simp)
    rw [List.map_cons, List.count_cons, ih fun y hy => hr y (List.mem_cons_of_mem _ hy)]
    have e : (p.map fun y => (z :: r).count y) = p.map fun y => r.count y + if z = y then 1 else 0 := by
      refine List.map_congr_left fun y _ => ?_
      rw [List.count_cons]
      simp only [beq_iff_eq]
    rw [e, sum_map_add, sum_ind, (h.nod p (List.mem_of_getElem? hp)).count]
    congr 1
    by_cases hzp : z ∈ p
    · rw [if_pos hzp, h.of_eq hp hzp]
      simp
    · rw [if_neg hzp, if_neg]
      rw [beq_iff_eq]
      intro e
      obtain ⟨q, hq, hzq⟩ := h.of_at hz
      rw [e, hp] at hq
      cases hq
      exact hzp hzq
theorem count_outs {n : Nat} {T S L : List (List Nat)} (h : SCC n T L) (hS : TOk n S) {i j : Nat} (hij : j ≠ i) {p q : List Nat} (hp : L[i]? = some p) (hq : L[j]? = some q) : (outs S L i).count j = (p.map fun x => (q.map fun y => (S.getD x []).count y).sum).sum := by
  unfold outs
  rw [List.count_flatMap, List.getD_eq_getElem?_getD, hp]
  refine sum_congr fun x hx => ?_
  show (jsOf L i (S.getD x [])).count j = _
  unfold jsOf
  rw [List.count_filter (by simpa using hij), h.count_of hq fun y hy => hS.at hy]
/-- Edges from a part to another one, told by who comes in and by who goes out. -/
theorem flip_outs {n : Nat} {T F L : List (List Nat)} (h : SCC n T L) (hT : TOk n T) (hF : TOk n F) (hTF : ∀ x y, (F.getD x []).count y = (T.getD y []).count x) {i j : Nat} (hij : j ≠ i) (hi : i < L.length) (hj : j < L.length) : (outs F L i).count j = (outs T L j).count i := by
  have hp := List.getElem?_eq_getElem hi
  have hq := List.getElem?_eq_getElem hj
  rw [count_outs h hF hij hp hq, count_outs h hT hij.symm hq hp, sum_swap]
  exact sum_congr fun y _ => sum_congr fun x _ => hTF x y
theorem outs_lt {n : Nat} {T S L : List (List Nat)} (h : SCC n T L) (hS : TOk n S) {i j : Nat} (hj : j ∈ outs S L i) : j < L.length ∧ j ≠ i := by
  unfold outs at hj
  obtain ⟨x, _, hx⟩ := List.mem_flatMap.1 hj
  unfold jsOf at hx
  obtain ⟨h1, h2⟩ := List.mem_filter.1 hx
  obtain ⟨y, hy, rfl⟩ := List.mem_map.1 h1
  exact ⟨h.of_lt (hS.at hy), by simpa using h2⟩
theorem rem_push {T L : List (List Nat)} {O : List Nat} {i : Nat} (hi : i ∉ O) (j : Nat) : rem T L (O ++ [i]) j + (outs T L j).count i = rem T L O j := by
  unfold rem
  generalize outs T L j = l
  induction l with
  | nil => rfl
  | cons a r ih =>
    rw [List.countP_cons, List.countP_cons, List.count_cons]
    simp only [decide_eq_true_eq, beq_iff_eq, List.mem_append, List.mem_singleton, not_or] at ih ⊢
    by_cases h1 : a = i
    · subst h1
      simp only [hi, not_false_eq_true, not_true_eq_false, and_false, if_false, if_true]
      omega
    · simp only [h1, not_false_eq_true, and_true, if_false]
      omega
theorem rem_mono {T L : List (List Nat)} {O : List Nat} (B : List Nat) {j : Nat} (h : rem T L O j = 0) : rem T L (O ++ B) j = 0 := by
  unfold rem at *
  rw [List.countP_eq_zero] at h ⊢
  intro a ha h2
  exact h a ha (by simp only [decide_eq_true_eq, List.mem_append, not_or] at h2 ⊢; exact h2.1)
/-! What popping a part does -/
def dec1 (s : List Nat × List Nat) (j : Nat) : List Nat × List Nat := (s.1.set j (s.1.getD j 0 - 1), if s.1.getD j 0 - 1 = 0 then pushF s.2 j else s.2)
def runD (s : List Nat × List Nat) (D : List Nat) : List Nat × List Nat := D.foldl dec1 s
theorem runD_push (s : List Nat × List Nat) (D : List Nat) (j : Nat) : runD s (D ++ [j]) = dec1 (runD s D) j := by
  unfold runD
  rw [List.foldl_append]
  rfl
theorem runD_law : ∀ (D : List Nat) (s : List Nat × List Nat), IsHp s.2 → (∀ j ∈ D, j < s.1.length) → (∀ j, D.count j ≤ s.1.getD j 0) →
    IsHp (runD s D).2 ∧ (runD s D).1.length = s.1.length ∧ (∀ j, (runD s D).1.getD j 0 = s.1.getD j 0 - D.count j) ∧ ∀ j, (runD s D).2.count j = s.2.count j + if j ∈ D ∧ s.1.getD j 0 = D.count j then 1 else 0 := by
  intro D
  induction D with
  | nil =>
    intro s h1 _ _
    exact ⟨h1, rfl, fun j => rfl, fun j => by simp [runD]⟩
  | cons a r ih =>
    intro s h1 h2 h3
    have ha := h2 a (by simp)
    have hget : ∀ j, (dec1 s a).1.getD j 0 = if a = j then s.1.getD j 0 - 1 else s.1.getD j 0 := fun j => by
      show (s.1.set a _).getD j 0 = _
      by_cases e : a = j
      · subst e
        rw [if_pos rfl, getD_set_self ha]
      · rw [if_neg e, getD_set_other e]
    have hcnt : ∀ j, (a :: r).count j = r.count j + if a = j then 1 else 0 := fun j => by
      rw [List.count_cons]
      simp only [beq_iff_eq]
    have hpos : 0 < s.1.getD a 0 := by
      have := h3 a
      rw [hcnt, if_pos rfl] at this
      omega
    have hq : IsHp (dec1 s a).2 ∧ ∀ j, (dec1 s a).2.count j = s.2.count j + if s.1.getD a 0 = 1 ∧ a = j then 1 else 0 := by
      unfold dec1
      by_cases e : s.1.getD a 0 - 1 = 0
      · simp only [e, if_true]
        obtain ⟨p1, p2⟩ := push_law h1 a
        refine ⟨p1, fun j => ?_⟩
        rw [p2 j]
        have : s.1.getD a 0 = 1 := by omega
        simp only [this, true_and]
      · simp only [e, if_false]
        refine ⟨h1, fun j => ?_⟩
        rw [if_neg (by omega)]
        rfl
    obtain ⟨r1, r2, r3, r4⟩ := ih (dec1 s a) hq.1 (fun j hj => by
      show j < (s.1.set a _).length
      rw [List.length_set]
      exact h2 j (List.mem_cons_of_mem _ hj)) (fun j => by
      have := h3 j
      rw [hcnt] at this
      rw [hget]
      by_cases e : a = j
      · rw [if_pos e] at this ⊢
        omega
      · rw [if_neg e] at this ⊢
        omega)
    refine ⟨r1, r2.trans (by simp [dec1]), fun j => ?_, fun j => ?_⟩
    · show (runD (dec1 s a) r).1.getD j 0 = _
      rw [r3, hget, hcnt]
      by_cases e : a = j
      · rw [if_pos e, if_pos e]
        omega
      · rw [if_neg e, if_neg e]
        rfl
    · show (runD (dec1 s a) r).2.count j = _
      rw [r4, hq.2, hget, hcnt]
      by_cases e : a = j
      · subst e
        simp only [if_pos, true_and, and_true, List.mem_cons, true_or]
        by_cases hm : a ∈ r
        · have hc := List.count_pos_iff.2 hm
          have := h3 a
          rw [hcnt, if_pos rfl] at this
          rw [if_neg (by omega)]
          by_cases hx : s.1.getD a 0 - 1 = r.count a
          · rw [if_pos ⟨hm, hx⟩, if_pos (by omega)]
          · rw [if_neg (fun h => hx h.2), if_neg (by omega)]
        · have hc := List.count_eq_zero.2 hm
          simp only [hm, false_and, if_false, hc, Nat.zero_add, Nat.add_zero]
      · rw [if_neg (fun h => e h.2), if_neg e, if_neg e]
        have : (j ∈ a :: r) ↔ j ∈ r := by simp [Ne.symm e]
        simp only [this, Nat.add_zero]
/-- Who is out, what is waited for, who may come next. -/
structure OInv (T L : List (List Nat)) (O W h : List Nat) : Prop where
  nod : O.Nodup
  lt : ∀ i ∈ O, i < L.length
  len : W.length = L.length
  w : ∀ j, j < L.length → W.getD j 0 = rem T L O j
  hp : IsHp h
  cnt : ∀ j, h.count j = if j < L.length ∧ j ∉ O ∧ rem T L O j = 0 then 1 else 0
  ord : ∀ A i B, O = A ++ i :: B → rem T L A i = 0 ∧ ∀ j, j < i → j ∉ A → rem T L A j ≠ 0
theorem len_le {h : List Nat} {m : Nat} (h1 : ∀ j, h.count j ≤ 1) (h2 : ∀ j ∈ h, j < m) : h.length ≤ m := by
  have := (List.nodup_iff_count.2 h1).length_le_of_subset (l₂ := List.range m) fun j hj => List.mem_range.2 (h2 j hj)
  simpa using this
theorem OInv.hlen {T L : List (List Nat)} {O W h : List Nat} (hI : OInv T L O W h) : h.length ≤ L.length := by
  refine len_le (fun j => ?_) fun j hj => ?_
  · rw [hI.cnt]
    split <;> omega
  · have := List.count_pos_iff.2 hj
    rw [hI.cnt] at this
    split at this
    · rename_i h1
      exact h1.1
    · omega
theorem OInv.top {T L : List (List Nat)} {O W h : List Nat} (hI : OInv T L O W h) (h0 : 0 < h.length) : h.getD 0 0 < L.length ∧ h.getD 0 0 ∉ O ∧ rem T L O (h.getD 0 0) = 0 := by
  have hm : h.getD 0 0 ∈ h := by
    rw [getDn h0]
    exact List.getElem_mem h0
  have := List.count_pos_iff.2 hm
  rw [hI.cnt] at this
  split at this
  · rename_i h1
    exact h1
  · omega
/-- While the edges to i are taken off: D of them. -/
theorem OInv.mid {n : Nat} {T F L : List (List Nat)} {O W h D E : List Nat} (hI : OInv T L O W h) (hs : SCC n T L) (hT : TOk n T) (hF : TOk n F) (hTF : ∀ x y, (F.getD x []).count y = (T.getD y []).count x) (h0 : 0 < h.length) (hD : D ++ E = outs F L (h.getD 0 0)) :
    (runD (W, popF h) D).1.length = L.length ∧ (runD (W, popF h) D).2.length ≤ L.length ∧ (∀ j, j ∈ E → 0 < (runD (W, popF h) D).1.getD j 0) ∧ ∀ j, (runD (W, popF h) D).1.getD j 0 ≤ W.getD j 0 := by
  obtain ⟨t1, t2, t3⟩ := hI.top h0
  obtain ⟨p1, p2, _⟩ := pop_law hI.hp h0
  generalize hi : h.getD 0 0 = i at *
  have hall : ∀ j ∈ outs F L i, j < L.length ∧ j ≠ i := fun j hj => outs_lt hs hF hj
  have hle : ∀ j, (outs F L i).count j ≤ W.getD j 0 := fun j => by
    by_cases hj : j ∈ outs F L i
    · obtain ⟨j1, j2⟩ := hall j hj
      rw [flip_outs hs hT hF hTF j2 t1 j1, hI.w j j1, ← rem_push t2 j]
      omega
    · rw [List.count_eq_zero.2 hj]
      exact Nat.zero_le _
  have hDE : ∀ j, D.count j + E.count j = (outs F L i).count j := fun j => by rw [← hD, List.count_append]
  obtain ⟨r1, r2, r3, r4⟩ := runD_law D (W, popF h) p1 (fun j hj => by
    show j < W.length
    rw [hI.len]
    exact (hall j (by rw [← hD]; exact List.mem_append_left _ hj)).1) (fun j => by
    have h1 := hle j
    have h2 := hDE j
    show D.count j ≤ W.getD j 0
    omega)
  refine ⟨r2.trans hI.len, len_le (fun j => ?_) fun j hj => ?_, fun j hj => ?_, fun j => ?_⟩
  · rw [r4]
    have h1 := p2 j
    by_cases hjD : j ∈ D ∧ W.getD j 0 = D.count j
    · rw [if_pos hjD]
      obtain ⟨j1, j2⟩ := hall j (by rw [← hD]; exact List.mem_append_left _ hjD.1)
      have h2 := List.count_pos_iff.2 hjD.1
      have h3 := hI.w j j1
      have h4 := hI.cnt j
      rw [if_neg (fun h => by omega)] at h4
      show (popF h).count j + 1 ≤ 1
      omega
    · rw [if_neg hjD]
      have h4 := hI.cnt j
      have : h.count j ≤ 1 := by
        rw [h4]
        split <;> omega
      show (popF h).count j + 0 ≤ 1
      omega
  · have h1 := List.count_pos_iff.2 hj
    rw [r4] at h1
    by_cases hjD : j ∈ D ∧ W.getD j 0 = D.count j
    · exact (hall j (by rw [← hD]; exact List.mem_append_left _ hjD.1)).1
    · rw [if_neg hjD] at h1
      have h2 := p2 j
      have h4 := hI.cnt j
      change 0 < (popF h).count j + 0 at h1
      by_cases h5 : j < L.length ∧ j ∉ O ∧ rem T L O j = 0
      · exact h5.1
      · rw [if_neg h5] at h4
        omega
  · rw [r3]
    have h1 := hle j
    have h2 := hDE j
    have h3 := List.count_pos_iff.2 hj
    show 0 < W.getD j 0 - D.count j
    omega
  · rw [r3]
    exact Nat.sub_le _ _
theorem OInv.pop {n : Nat} {T F L : List (List Nat)} {O W h : List Nat} (hI : OInv T L O W h) (hs : SCC n T L) (hT : TOk n T) (hF : TOk n F) (hTF : ∀ x y, (F.getD x []).count y = (T.getD y []).count x) (h0 : 0 < h.length) :
    OInv T L (O ++ [h.getD 0 0]) (runD (W, popF h) (outs F L (h.getD 0 0))).1 (runD (W, popF h) (outs F L (h.getD 0 0))).2 := by
  obtain ⟨t1, t2, t3⟩ := hI.top h0
  obtain ⟨p1, p2, _⟩ := pop_law hI.hp h0
  have hleast : ∀ a ∈ h, h.getD 0 0 ≤ a := fun a ha => hI.hp.least ha
  generalize h.getD 0 0 = i at *
  have hall : ∀ j ∈ outs F L i, j < L.length ∧ j ≠ i := fun j hj => outs_lt hs hF hj
  have hcj : ∀ j, j < L.length → (outs F L i).count j = if j = i then 0 else (outs T L j).count i := fun j hj => by
    by_cases e : j = i
    · rw [if_pos e]
      exact List.count_eq_zero.2 fun h => (hall j h).2 e
    · rw [if_neg e]
      exact flip_outs hs hT hF hTF e t1 hj
  have hself : (outs T L i).count i = 0 := List.count_eq_zero.2 fun h => (outs_lt hs hT h).2 rfl
  have hcj' : ∀ j, j < L.length → (outs F L i).count j = (outs T L j).count i := fun j hj => by
    rw [hcj j hj]
    split
    · rename_i e
      rw [e, hself]
    · rfl
  have hrem : ∀ j, j < L.length → rem T L (O ++ [i]) j + (outs F L i).count j = rem T L O j := fun j hj => by
    rw [hcj' j hj]
    exact rem_push t2 j
  obtain ⟨r1, r2, r3, r4⟩ := runD_law (outs F L i) (W, popF h) p1 (fun j hj => by
    show j < W.length
    rw [hI.len]
    exact (hall j hj).1) (fun j => by
    show (outs F L i).count j ≤ W.getD j 0
    by_cases hj : j ∈ outs F L i
    · have h1 := hrem j (hall j hj).1
      rw [hI.w j (hall j hj).1]
      omega
    · rw [List.count_eq_zero.2 hj]
      exact Nat.zero_le _)
  refine ⟨?_, fun k hk => ?_, r2.trans hI.len, fun j hj => ?_, r1, fun j => ?_, fun A k B e => ?_⟩
  · rw [List.nodup_append]
    exact ⟨hI.nod, by simp, fun a ha b hb e => t2 (by rw [List.mem_singleton.1 hb] at e; rw [← e]; exact ha)⟩
  · rcases List.mem_append.1 hk with hk | hk
    · exact hI.lt k hk
    · rw [List.mem_singleton.1 hk]
      exact t1
  · rw [r3]
    show W.getD j 0 - _ = _
    rw [hI.w j hj]
    have := hrem j hj
    omega
  · rw [r4]
    show (popF h).count j + (if j ∈ outs F L i ∧ W.getD j 0 = _ then 1 else 0) = _
    have h1 := p2 j
    have h2 := hI.cnt j
    by_cases hjl : j < L.length
    · have h3 := hrem j hjl
      have h4 := hI.w j hjl
      by_cases hji : j = i
      · subst hji
        rw [if_neg (fun h => (hall j h.1).2 rfl), if_neg (fun h => h.2.1 (by simp))]
        rw [if_pos rfl] at h1
        rw [if_pos ⟨hjl, t2, t3⟩] at h2
        omega
      · rw [if_neg (fun e => hji e.symm)] at h1
        by_cases hjO : j ∈ O
        · obtain ⟨A, B, rfl⟩ := List.append_of_mem hjO
          have h5 := (hI.ord A j B rfl).1
          have h6 := rem_mono (T := T) (L := L) (j :: B) h5
          rw [if_neg (fun h => h.2.1 hjO)] at h2
          rw [if_neg (fun h => by have := List.count_pos_iff.2 h.1; omega), if_neg (fun h => h.2.1 (List.mem_append_left _ hjO))]
          omega
        · have hjO' : j ∉ O ++ [i] := by simp [hjO, hji]
          by_cases hz : rem T L O j = 0
          · rw [if_pos ⟨hjl, hjO, hz⟩] at h2
            rw [if_neg (fun h => by have := List.count_pos_iff.2 h.1; omega), if_pos ⟨hjl, hjO', by omega⟩]
            omega
          · rw [if_neg (fun h => hz h.2.2)] at h2
            by_cases hz' : rem T L (O ++ [i]) j = 0
            · rw [if_pos ⟨List.count_pos_iff.1 (by omega), by omega⟩, if_pos ⟨hjl, hjO', hz'⟩]
              omega
            · rw [if_neg (fun h => by omega), if_neg (fun h => hz' h.2.2)]
              omega
    · rw [if_neg (fun h => hjl h.1)] at h2
      rw [if_neg (fun h => hjl (hall j h.1).1), if_neg (fun h => hjl h.1)]
      omega
  · rcases List.eq_nil_or_concat B with rfl | ⟨B', b, rfl⟩
    · obtain ⟨rfl, e2⟩ := List.append_inj' e rfl
      cases e2
      refine ⟨t3, fun j hj hjA hz => ?_⟩
      have h2 := hI.cnt j
      rw [if_pos ⟨by omega, hjA, hz⟩] at h2
      have := hleast j (List.count_pos_iff.1 (by omega))
      omega
    · have e' : O ++ [i] = (A ++ k :: B') ++ [b] := by rw [e]; simp
      obtain ⟨rfl, _⟩ := List.append_inj' e' rfl
      exact hI.ord A k B' rfl
/-- The order of the parts. -/
structure IsOrd (T L : List (List Nat)) (O : List Nat) : Prop where
  nod : O.Nodup
  all : ∀ i, i ∈ O ↔ i < L.length
  ord : ∀ A i B, O = A ++ i :: B → rem T L A i = 0 ∧ ∀ j, j < i → j ∉ A → rem T L A j ≠ 0
theorem IsOrd.uniq {T L : List (List Nat)} {O P : List Nat} (h : IsOrd T L O) (k : IsOrd T L P) : O = P := by
  have hperm : O.Perm P := (List.perm_ext_iff_of_nodup h.nod k.nod).2 fun a => by rw [h.all, k.all]
  have key : ∀ (A X Y : List Nat), O = A ++ X → P = A ++ Y → X.length = Y.length → X = Y := by
    intro A X
    induction X generalizing A with
    | nil =>
      intro Y _ _ hl
      exact (List.length_eq_zero_iff.1 hl.symm).symm
    | cons i X ih =>
      intro Y e1 e2 hl
      cases Y with
      | nil => simp at hl
      | cons j Y =>
        have hi : i ∉ A := fun hm => by
          have := h.nod
          rw [e1, List.nodup_append] at this
          exact this.2.2 i hm i (by simp) rfl
        have hj : j ∉ A := fun hm => by
          have := k.nod
          rw [e2, List.nodup_append] at this
          exact this.2.2 j hm j (by simp) rfl
        obtain ⟨h1, h2⟩ := h.ord A i X e1
        obtain ⟨k1, k2⟩ := k.ord A j Y e2
        have hij : i = j := by
          rcases Nat.lt_trichotomy i j with h3 | h3 | h3
          · exact absurd h1 (k2 i h3 hi)
          · exact h3
          · exact absurd k1 (h2 j h3 hj)
        subst hij
        rw [ih (A ++ [i]) Y (by rw [e1]; simp) (by rw [e2]; simp) (by simpa using hl)]
  exact key [] O P rfl rfl hperm.length_eq
/-- As long as a part is not out, one of them may come next. -/
theorem progress {n : Nat} {T L P : List (List Nat)} (hs : SCC n T L) (hpo : PO T P) (hPL : ∀ l ∈ L, ∃ p ∈ P, ∀ x, x ∈ p ↔ x ∈ l) (hLP : ∀ p ∈ P, ∃ l ∈ L, ∀ x, x ∈ p ↔ x ∈ l) (O : List Nat) (hO : ∃ j, j < L.length ∧ j ∉ O) : ∃ j, j < L.length ∧ j ∉ O ∧ rem T L O j = 0 := by
  refine Classical.byContradiction fun hc => ?_
  have hno : ∀ j, j < L.length → j ∉ O → rem T L O j ≠ 0 := fun j h1 h2 h3 => hc ⟨j, h1, h2, h3⟩
  have key : ∀ (b : Nat) (A B : List (List Nat)) (p : List Nat), A.length < b → P = A ++ p :: B → ∀ j l, L[j]? = some l → (∀ x, x ∈ p ↔ x ∈ l) → j ∈ O := by
    intro b
    induction b with
    | zero => intro A B p h; omega
    | succ b ih =>
      intro A B p hb hP j l hl hpl
      refine Classical.byContradiction fun hj => ?_
      have h1 := hno j (List.getElem?_eq_some_iff.1 hl).1 hj
      unfold rem at h1
      obtain ⟨z, hz, hzO⟩ := List.countP_pos_iff.1 (Nat.pos_of_ne_zero h1)
      have hzO' : z ∉ O := by simpa using hzO
      unfold outs at hz
      obtain ⟨x, hx, hz2⟩ := List.mem_flatMap.1 hz
      rw [List.getD_eq_getElem?_getD, hl] at hx
      change x ∈ l at hx
      unfold jsOf at hz2
      obtain ⟨hz3, hz4⟩ := List.mem_filter.1 hz2
      obtain ⟨y, hy, rfl⟩ := List.mem_map.1 hz3
      have hzj : ofL L y ≠ j := by simpa using hz4
      rcases hpo A p B hP x ((hpl x).2 hx) y hy with h2 | ⟨q, hq, h2⟩
      · exact hzj (hs.of_eq hl ((hpl y).1 h2))
      · obtain ⟨A1, A2, rfl⟩ := List.append_of_mem hq
        obtain ⟨l', hl', hql⟩ := hLP q (by rw [hP]; simp)
        obtain ⟨j', hj'⟩ := List.mem_iff_getElem?.1 hl'
        have := ih A1 (A2 ++ p :: B) q (by simp at hb; omega) (by rw [hP]; simp) j' l' hj' hql
        rw [hs.of_eq hj' ((hql y).1 h2)] at hzO'
        exact hzO' this
  obtain ⟨j, h1, h2⟩ := hO
  obtain ⟨p, hp, hpl⟩ := hPL L[j] (List.getElem_mem h1)
  obtain ⟨A, B, hP⟩ := List.append_of_mem hp
  exact h2 (key (A.length + 1) A B p (by omega) hP j _ (List.getElem?_eq_getElem h1) hpl)
theorem OInv.fin {n : Nat} {T L : List (List Nat)} {O W : List Nat} (hT : TOk n T) (hI : OInv T L O W []) (hR : PartsR n T L) : IsOrd T L O := by
  refine ⟨hI.nod, fun i => ⟨hI.lt i, fun hi => Classical.byContradiction fun h => ?_⟩, hI.ord⟩
  have hp := hR.pl hT
  obtain ⟨_, hpo⟩ := found_scc hT
  have hmem : ∀ l, l ∈ L ↔ ∃ p ∈ foundF n T, sortN p = l := fun l => by rw [hR.1.mem_iff, List.mem_map]
  obtain ⟨j, h1, h2, h3⟩ := progress hp.scc hpo (fun l hl => by
    obtain ⟨p, hpm, rfl⟩ := (hmem l).1 hl
    exact ⟨p, hpm, fun x => (sortN_perm p).mem_iff.symm⟩) (fun p hpm => ⟨sortN p, (hmem _).2 ⟨p, hpm, rfl⟩, fun x => (sortN_perm p).mem_iff.symm⟩) O ⟨i, hi, h⟩
  have := hI.cnt j
  rw [if_pos ⟨h1, h2, h3⟩] at this
  simp at this
end Go.Proofs.Ytcjohhminiedfaa
