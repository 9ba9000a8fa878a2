/- Cycle: the heap's laws, plain. -/
import Derived.Test.YtcjohhminiedfaaC21Heap3
namespace Go.Proofs.Ytcjohhminiedfaa
theorem getDn {l : List Nat} {i : Nat} (h : i < l.length) : l.getD i 0 = l[i] := by rw [List.getD_eq_getElem?_getD, List.getElem?_eq_getElem h]; rfl
theorem swapN_at {h : List Nat} {i j k : Nat} (hi : i < h.length) (hj : j < h.length) : (swapN h i j).getD k 0 = if k = j then h.getD i 0 else if k = i then h.getD j 0 else h.getD k 0 := by
  unfold swapN
  simp only [List.getD_eq_getElem?_getD, List.getElem?_set, List.length_set]
  by_cases h1 : k = j
  · subst h1
    simp [hj]
  · rw [if_neg (fun e => h1 e.symm), if_neg h1]
    by_cases h2 : k = i
    · subst h2
      simp [hi]
    · rw [if_neg (fun e => h2 e.symm), if_neg h2]
theorem count_one {l : List Nat} {i v a : Nat} (hi : i < l.length) : (l.set i v).count a + (if l.getD i 0 = a then 1 else 0) = l.count a + if v = a then 1 else 0 := by
  rw [List.count_set hi, getDn hi]
  have h1 : (if (l[i] == a) = true then 1 else 0) ≤ l.count a := by
    split
    · rename_i e
      exact List.count_pos_iff.2 (by rw [← beq_iff_eq.1 e]; exact List.getElem_mem hi)
    · exact Nat.zero_le _
  simp only [beq_iff_eq] at h1 ⊢
  omega
theorem swapN_count {h : List Nat} {i j : Nat} (hi : i < h.length) (hj : j < h.length) (a : Nat) : (swapN h i j).count a = h.count a := by
  unfold swapN
  have h1 := count_one (l := h.set i (h.getD j 0)) (i := j) (v := h.getD i 0) (a := a) (by simpa using hj)
  have h2 := count_one (l := h) (i := i) (v := h.getD j 0) (a := a) hi
  have h3 : (h.set i (h.getD j 0)).getD j 0 = h.getD j 0 := by
    simp only [List.getD_eq_getElem?_getD, List.getElem?_set]
    split
    · rename_i e
      subst e
      first | rfl | (rw [if_pos hi]; rfl)
    · rfl
  rw [h3] at h1
  omega
/-- The least on top. -/
def IsHp (h : List Nat) : Prop := ∀ k, 0 < k → k < h.length → h.getD ((k - 1) / 2) 0 ≤ h.getD k 0
theorem IsHp.top {h : List Nat} (hh : IsHp h) : ∀ (b k : Nat), k < b → k < h.length → h.getD 0 0 ≤ h.getD k 0 := by
  intro b
  induction b with
  | zero => intro k hb; omega
  | succ b ih =>
    intro k hb hk
    by_cases h0 : k = 0
    · rw [h0]
      exact Nat.le_refl _
    · exact Nat.le_trans (ih ((k - 1) / 2) (by omega) (by omega)) (hh k (by omega) hk)
theorem IsHp.least {h : List Nat} (hh : IsHp h) {a : Nat} (ha : a ∈ h) : h.getD 0 0 ≤ a := by
  obtain ⟨k, hk⟩ := List.mem_iff_getElem?.1 ha
  obtain ⟨hk1, hk2⟩ := List.getElem?_eq_some_iff.1 hk
  have := hh.top (k + 1) k (Nat.lt_succ_self k) hk1
  rw [getDn hk1, hk2] at this
  exact this
theorem up_law : ∀ (f j : Nat) (h : List Nat), j < f → j < h.length → (∀ k, 0 < k → k < h.length → k ≠ j → h.getD ((k - 1) / 2) 0 ≤ h.getD k 0) → (∀ k, 0 < k → k < h.length → (k - 1) / 2 = j → 0 < j → h.getD ((j - 1) / 2) 0 ≤ h.getD k 0) →
    IsHp (upF f h j) ∧ ∀ a, (upF f h j).count a = h.count a := by
  intro f
  induction f with
  | zero => intro j h hf; omega
  | succ f ih =>
    intro j h hf hj h1 h2
    unfold upF
    obtain ⟨i, hi⟩ : ∃ i, (j - 1) / 2 = i := ⟨_, rfl⟩
    rw [hi]
    split
    · rename_i hc
      refine ⟨fun k k0 kl => ?_, fun _ => rfl⟩
      by_cases e : k = j
      · subst e
        rcases hc with hc | hc
        · omega
        · rw [hi]
          omega
      · exact h1 k k0 kl e
    · rename_i hc
      rw [not_or] at hc
      have hij : i < j := by omega
      have hil : i < h.length := by omega
      have hlt : h.getD j 0 < h.getD i 0 := Classical.not_not.1 hc.2
      have hs : ∀ k, (swapN h i j).getD k 0 = if k = j then h.getD i 0 else if k = i then h.getD j 0 else h.getD k 0 := fun k => swapN_at hil hj
      obtain ⟨r1, r2⟩ := ih i (swapN h i j) (by omega) (by rw [swapN_length]; exact hil) (fun k k0 kl ki => by
        rw [swapN_length] at kl
        rw [hs k, hs]
        by_cases e : k = j
        · subst e
          rw [if_pos rfl, hi, if_neg (by omega), if_pos rfl]
          omega
        · rw [if_neg e, if_neg ki]
          by_cases e1 : (k - 1) / 2 = j
          · rw [if_pos e1, ← hi]
            exact h2 k k0 kl e1 (by omega)
          · rw [if_neg e1]
            have h3 := h1 k k0 kl e
            by_cases e2 : (k - 1) / 2 = i
            · rw [if_pos e2]
              rw [e2] at h3
              omega
            · rw [if_neg e2]
              exact h3) (fun k k0 kl ki i0 => by
        rw [swapN_length] at kl
        have h4 := h1 i i0 hil (by omega)
        rw [hs ((i - 1) / 2), if_neg (by omega), if_neg (by omega), hs k]
        by_cases e : k = j
        · rw [if_pos e]
          exact h4
        · rw [if_neg e, if_neg (by omega)]
          have h3 := h1 k k0 kl e
          rw [ki] at h3
          omega)
      exact ⟨r1, fun a => by rw [r2 a, swapN_count hil hj]⟩
theorem push_law {h : List Nat} (hh : IsHp h) (x : Nat) : IsHp (pushF h x) ∧ ∀ a, (pushF h x).count a = h.count a + if x = a then 1 else 0 := by
  have at1 : ∀ k, k < h.length → (h ++ [x]).getD k 0 = h.getD k 0 := fun k hk => by
    simp only [List.getD_eq_getElem?_getD]
    rw [List.getElem?_append_left hk]
  obtain ⟨h1, h2⟩ := up_law (h.length + 1) h.length (h ++ [x]) (by omega) (by simp) (fun k k0 kl ke => by
    simp only [List.length_append, List.length_singleton] at kl
    rw [at1 k (by omega), at1 _ (by omega)]
    exact hh k k0 (by omega)) (fun k k0 kl ke _ => by
    simp only [List.length_append, List.length_singleton] at kl
    omega)
  refine ⟨h1, fun a => ?_⟩
  show (upF _ _ _).count a = _
  rw [h2 a, List.count_append, List.count_singleton]
  simp only [beq_iff_eq]
theorem down_law : ∀ (f n i : Nat) (h : List Nat), n < f + i → n ≤ h.length → i ≤ n → (∀ k, 0 < k → k < n → (k - 1) / 2 ≠ i → h.getD ((k - 1) / 2) 0 ≤ h.getD k 0) → (∀ k, 0 < k → k < n → (k - 1) / 2 = i → 0 < i → h.getD ((i - 1) / 2) 0 ≤ h.getD k 0) →
    (∀ k, 0 < k → k < n → (downF f n h i).getD ((k - 1) / 2) 0 ≤ (downF f n h i).getD k 0) ∧ (∀ a, (downF f n h i).count a = h.count a) ∧ (downF f n h i).length = h.length ∧ ∀ k, n ≤ k → (downF f n h i).getD k 0 = h.getD k 0 := by
  intro f
  induction f with
  | zero => intro n i h hf; omega
  | succ f ih =>
    intro n i h hf hn hin h1 h2
    by_cases hl : n ≤ 2 * i + 1
    · rw [downF_leaf hl]
      exact ⟨fun k k0 kn => h1 k k0 kn (by omega), fun _ => rfl, rfl, fun _ _ => rfl⟩
    · obtain ⟨j, hj⟩ : ∃ j, (if 2 * i + 2 < n ∧ h.getD (2 * i + 2) 0 < h.getD (2 * i + 1) 0 then 2 * i + 2 else 2 * i + 1) = j := ⟨_, rfl⟩
      rw [downF_node hl hj]
      have hjn : j < n ∧ (j - 1) / 2 = i ∧ 0 < j ∧ i < j := by
        rw [← hj]
        split <;> omega
      have hmin : ∀ k, 0 < k → k < n → (k - 1) / 2 = i → h.getD j 0 ≤ h.getD k 0 := fun k k0 kn ki => by
        rw [← hj]
        have hk : k = 2 * i + 1 ∨ k = 2 * i + 2 := by omega
        split
        · rename_i hc
          rcases hk with rfl | rfl <;> omega
        · rename_i hc
          rcases hk with rfl | rfl
          · exact Nat.le_refl _
          · exact Nat.not_lt.1 fun h3 => hc ⟨kn, h3⟩
      have hil : i < h.length := by omega
      have hjl : j < h.length := by omega
      have hs : ∀ k, (swapN h i j).getD k 0 = if k = j then h.getD i 0 else if k = i then h.getD j 0 else h.getD k 0 := fun k => swapN_at hil hjl
      split
      · rename_i hlt
        obtain ⟨r1, r2, r3, r4⟩ := ih n j (swapN h i j) (by omega) (by rw [swapN_length]; exact hn) (by omega) (fun k k0 kn kj => by
          rw [hs k, hs, if_neg kj]
          by_cases e1 : (k - 1) / 2 = i
          · rw [if_pos e1]
            by_cases e : k = j
            · rw [if_pos e]
              omega
            · rw [if_neg e, if_neg (by omega)]
              exact hmin k k0 kn e1
          · rw [if_neg e1, if_neg (fun e => e1 (by rw [e]; exact hjn.2.1))]
            by_cases e2 : k = i
            · rw [if_pos e2, e2]
              exact h2 j hjn.2.2.1 hjn.1 hjn.2.1 (by omega)
            · rw [if_neg e2]
              exact h1 k k0 kn e1) (fun k k0 kn kj j0 => by
          rw [hs k, hs, if_neg (by omega), if_pos hjn.2.1, if_neg (by omega), if_neg (by omega)]
          have := h1 k k0 kn (by omega)
          rw [kj] at this
          exact this)
        refine ⟨r1, fun a => by rw [r2 a, swapN_count hil hjl], by rw [r3, swapN_length], fun k hk => ?_⟩
        rw [r4 k hk, hs, if_neg (by omega), if_neg (by omega)]
      · rename_i hlt
        refine ⟨fun k k0 kn => ?_, fun _ => rfl, rfl, fun _ _ => rfl⟩
        by_cases e : (k - 1) / 2 = i
        · have := hmin k k0 kn e
          rw [e]
          omega
        · exact h1 k k0 kn e
/-- heap.Pop. -/
def pop2 (h : List Nat) : List Nat := downF (h.length - 1 + 1) (h.length - 1) (swapN h 0 (h.length - 1)) 0
def popF (h : List Nat) : List Nat := (pop2 h).take (h.length - 1)
theorem pop_law {h : List Nat} (hh : IsHp h) (h0 : 0 < h.length) : IsHp (popF h) ∧ (∀ a, h.count a = (popF h).count a + if h.getD 0 0 = a then 1 else 0) ∧ pop2 h = popF h ++ [h.getD 0 0] := by
  obtain ⟨n, hn⟩ : ∃ n, h.length - 1 = n := ⟨_, rfl⟩
  have hnl : n < h.length := by omega
  have hs : ∀ k, (swapN h 0 n).getD k 0 = if k = n then h.getD 0 0 else if k = 0 then h.getD n 0 else h.getD k 0 := fun k => swapN_at h0 hnl
  obtain ⟨r1, r2, r3, r4⟩ := down_law (n + 1) n 0 (swapN h 0 n) (by omega) (by rw [swapN_length]; omega) (by omega) (fun k k0 kn k1 => by
    rw [hs k, hs, if_neg (by omega), if_neg k1, if_neg (by omega), if_neg (by omega)]
    exact hh k k0 (by omega)) (fun k k0 kn k1 k2 => by omega)
  have hp2 : pop2 h = downF (n + 1) n (swapN h 0 n) 0 := by unfold pop2; rw [hn]
  rw [← hp2] at r1 r2 r3 r4
  have hlen : (pop2 h).length = n + 1 := by rw [r3, swapN_length]; omega
  have hlast : pop2 h = (pop2 h).take n ++ [h.getD 0 0] := by
    have h1 := r4 n (Nat.le_refl _)
    rw [hs, if_pos rfl, getDn (by omega)] at h1
    rw [← h1]
    conv => lhs; rw [← List.take_append_drop n (pop2 h), List.drop_eq_getElem_cons (show n < (pop2 h).length by omega), List.drop_of_length_le (by omega)]
  refine ⟨fun k k0 kl => ?_, fun a => ?_, by unfold popF; rw [hn]; exact hlast⟩
  · have hpl : (popF h).length = n := by unfold popF; rw [hn, List.length_take]; omega
    rw [hpl] at kl
    have at1 : ∀ k, k < n → (popF h).getD k 0 = (pop2 h).getD k 0 := fun k hk => by
      unfold popF
      rw [hn]
      simp only [List.getD_eq_getElem?_getD]
      rw [List.getElem?_take_of_lt hk]
    rw [at1 k kl, at1 _ (by omega)]
    exact r1 k k0 kl
  · rw [← swapN_count (i := 0) (j := n) h0 hnl a, ← r2 a]
    conv => lhs; rw [hlast]
    unfold popF
    rw [hn, List.count_append, List.count_singleton]
    simp only [beq_iff_eq]
end Go.Proofs.Ytcjohhminiedfaa
