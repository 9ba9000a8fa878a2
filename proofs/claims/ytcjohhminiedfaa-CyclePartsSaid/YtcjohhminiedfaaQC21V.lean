/- Cycle: what found and visit compute, plain. -/
import Derived.Test.YtcjohhminiedfaaQC21M
namespace Go.Proofs.Ytcjohhminiedfaa
/-- What visit works on. -/
structure VS where
  count : Nat
  met : List Nat
  low : List Nat
  opn : List Bool
  stack : List Nat
  parts : List (List Nat)
/-- Where x stands, looked for from a on, downwards. -/
def idxF (l : List Nat) (x : Nat) : Nat → Nat
  | 0 => 0
  | a + 1 => if l[a + 1]? = some x then a + 1 else idxF l x a
def VS.enter (x : Nat) (s : VS) : VS := { s with count := s.count + 1, met := s.met.set x (s.count + 1), low := s.low.set x (s.count + 1), opn := s.opn.set x true, stack := s.stack ++ [x] }
def VS.lowTo (x v : Nat) (s : VS) : VS := { s with low := s.low.set x (min (s.low.getD x 0) v) }
def VS.step (v : Nat → VS → VS) (x : Nat) (s : VS) (y : Nat) : VS :=
  if s.met.getD y 0 = 0 then (v y s).lowTo x ((v y s).low.getD y 0)
  else if s.opn.getD y false then s.lowTo x (s.met.getD y 0) else s
def VS.cut (x : Nat) (s : VS) : Nat := idxF s.stack x (s.stack.length - 1)
def VS.close (x : Nat) (s : VS) : VS :=
  if s.low.getD x 0 = s.met.getD x 0 then { s with stack := s.stack.take (s.cut x), opn := (s.stack.drop (s.cut x)).foldl (fun o y => o.set y false) s.opn, parts := s.parts ++ [s.stack.drop (s.cut x)] }
  else s
def visitF (T : List (List Nat)) : Nat → Nat → VS → VS
  | 0, _, s => s
  | f + 1, x, s => (((T.getD x []).foldl (VS.step (visitF T f) x) (s.enter x))).close x
/-- What holds of them all along. -/
structure VOk (n : Nat) (s : VS) : Prop where
  met : s.met.length = n
  low : s.low.length = n
  opn : s.opn.length = n
  stk : ∀ y ∈ s.stack, y < n
  num : s.count + s.met.count 0 = n
  met' : ∀ v ∈ s.met, v ≤ n
  low' : ∀ v ∈ s.low, v ≤ n
  slen : s.stack.length ≤ s.count
  pne : ∀ p ∈ s.parts, p ≠ []
  all : s.stack.length + (s.parts.map List.length).sum ≤ s.count
  plt : ∀ p ∈ s.parts, ∀ y ∈ p, y < n
theorem count_set {l : List Nat} {x v : Nat} (h : l[x]? = some 0) (hv : v ≠ 0) : (l.set x v).count 0 + 1 = l.count 0 := by
  induction l generalizing x with
  | nil => simp at h
  | cons a r ih =>
    cases x with
    | zero =>
      simp at h
      subst h
      simp [hv]
    | succ x =>
      simp only [List.getElem?_cons_succ] at h
      have := ih h
      simp only [List.set_cons_succ, List.count_cons]
      omega
theorem mem_set {α : Type} {l : List α} {x : Nat} {v y : α} (h : y ∈ l.set x v) : y = v ∨ y ∈ l := by
  rcases List.mem_or_eq_of_mem_set h with h | h
  · exact .inr h
  · exact .inl h
theorem VOk.enter {n x : Nat} {s : VS} (h : VOk n s) (hx : s.met[x]? = some 0) : VOk n (s.enter x) := by
  have hlt : x < n := by rw [← h.met]; exact (List.getElem?_eq_some_iff.1 hx).1
  have hc := count_set (v := s.count + 1) hx (by omega)
  have hn := h.num
  have h1 : s.count + 1 ≤ n := by omega
  exact ⟨by simp [VS.enter, h.met], by simp [VS.enter, h.low], by simp [VS.enter, h.opn], fun y hy => by
      simp only [VS.enter, List.mem_append, List.mem_singleton] at hy
      rcases hy with hy | rfl
      · exact h.stk y hy
      · exact hlt, by simp only [VS.enter]; omega, fun v hv => by
      rcases mem_set hv with rfl | hv
      · exact h1
      · exact h.met' v hv, fun v hv => by
      rcases mem_set hv with rfl | hv
      · exact h1
      · exact h.low' v hv, by simp only [VS.enter, List.length_append, List.length_singleton]; have := h.slen; omega, h.pne, by
      simp only [VS.enter, List.length_append, List.length_singleton]; have := h.all; omega, h.plt⟩
theorem VOk.lowTo {n x v : Nat} {s : VS} (h : VOk n s) (hv : v ≤ n) : VOk n (s.lowTo x v) :=
  ⟨h.met, by simp [VS.lowTo, h.low], h.opn, h.stk, h.num, h.met', fun u hu => by
    rcases mem_set hu with rfl | hu
    · omega
    · exact h.low' u hu, h.slen, h.pne, h.all, h.plt⟩
theorem getD_le {l : List Nat} {n y : Nat} (h : ∀ v ∈ l, v ≤ n) : l.getD y 0 ≤ n := by
  rw [List.getD_eq_getElem?_getD]
  cases hy : l[y]? with
  | none => simp
  | some v => exact h v (List.mem_of_getElem? hy)
theorem foldl_opn {l : List Nat} : ∀ (o : List Bool), (l.foldl (fun o y => o.set y false) o).length = o.length := by
  induction l with
  | nil => intro o; rfl
  | cons a r ih => intro o; rw [List.foldl_cons, ih]; simp
theorem idxF_le (l : List Nat) (x : Nat) : ∀ a, idxF l x a ≤ a
  | 0 => Nat.le_refl _
  | a + 1 => by
    unfold idxF
    split
    · exact Nat.le_refl _
    · exact Nat.le_succ_of_le (idxF_le l x a)
theorem idxF_at {l : List Nat} {x k : Nat} (hk : l[k]? = some x) : ∀ a, k ≤ a → k ≤ idxF l x a ∧ l[idxF l x a]? = some x
  | 0, h => by
    have : k = 0 := by omega
    subst this
    exact ⟨Nat.zero_le _, hk⟩
  | a + 1, h => by
    unfold idxF
    split
    · rename_i he
      exact ⟨h, he⟩
    · rename_i he
      by_cases hka : k = a + 1
      · subst hka
        exact absurd hk he
      · exact idxF_at hk a (by omega)
theorem cut_lt {x : Nat} {s : VS} (hs : s.stack ≠ []) : s.cut x < s.stack.length := by
  have := idxF_le s.stack x (s.stack.length - 1)
  have h0 := List.length_pos_iff.2 hs
  unfold VS.cut
  omega
theorem VOk.close {n x : Nat} {s : VS} (h : VOk n s) (hs : s.stack ≠ []) : VOk n (s.close x) := by
  have hcut := cut_lt (x := x) hs
  unfold VS.close
  split
  · have hl : (s.stack.take (s.cut x)).length + (s.stack.drop (s.cut x)).length = s.stack.length := by rw [← List.length_append, List.take_append_drop]
    refine ⟨h.met, h.low, by simp [foldl_opn, h.opn], fun y hy => h.stk y (List.mem_of_mem_take hy), h.num, h.met', h.low', ?_, ?_, ?_, ?_⟩
    · have := h.slen; simp only; omega
    · intro p hp
      simp only [List.mem_append, List.mem_singleton] at hp
      rcases hp with hp | rfl
      · exact h.pne p hp
      · simp only [ne_eq, List.drop_eq_nil_iff]
        omega
    · have := h.all
      simp only [List.map_append, List.map_cons, List.map_nil, List.sum_append, List.sum_cons, List.sum_nil]
      omega
    · intro p hp y hy
      simp only [List.mem_append, List.mem_singleton] at hp
      rcases hp with hp | rfl
      · exact h.plt p hp y hy
      · exact h.stk y (List.mem_of_mem_drop hy)
  · exact h
theorem parts_le {L : List (List Nat)} (h : ∀ p ∈ L, p ≠ []) : L.length ≤ (L.map List.length).sum := by
  induction L with
  | nil => simp
  | cons a r ih =>
    have h1 := List.length_pos_iff.2 (h a (by simp))
    have h2 := ih fun p hp => h p (by simp [hp])
    simp only [List.length_cons, List.map_cons, List.sum_cons]
    omega
/-- How s goes on. -/
structure VLe (s s' : VS) : Prop where
  stk : ∃ l, s'.stack = s.stack ++ l
  met : ∀ (y v : Nat), s.met[y]? = some v → v ≠ 0 → s'.met[y]? = some v
  zero : s'.met.count 0 ≤ s.met.count 0
  parts : ∃ l, s'.parts = s.parts ++ l
theorem VLe.refl (s : VS) : VLe s s := ⟨⟨[], by simp⟩, fun _ _ h _ => h, Nat.le_refl _, ⟨[], by simp⟩⟩
theorem VLe.trans {a b c : VS} (h : VLe a b) (k : VLe b c) : VLe a c := by
  obtain ⟨⟨l, h1⟩, h2, h3, ⟨m, h4⟩⟩ := h
  obtain ⟨⟨l', k1⟩, k2, k3, ⟨m', k4⟩⟩ := k
  exact ⟨⟨l ++ l', by rw [k1, h1, List.append_assoc]⟩, fun y v e0 e1 => k2 y v (h2 y v e0 e1) e1, Nat.le_trans k3 h3, ⟨m ++ m', by rw [k4, h4, List.append_assoc]⟩⟩
theorem VLe.lowTo (x v : Nat) (s : VS) : VLe s (s.lowTo x v) := ⟨⟨[], by simp [VS.lowTo]⟩, fun _ _ h _ => h, Nat.le_refl _, ⟨[], by simp [VS.lowTo]⟩⟩
theorem VLe.enter {x : Nat} {s : VS} (hx : s.met[x]? = some 0) : VLe s (s.enter x) := by
  refine ⟨⟨[x], rfl⟩, fun y v h hv => ?_, ?_, ⟨[], by simp [VS.enter]⟩⟩
  · have : x ≠ y := fun e => by
      subst e
      rw [hx] at h
      cases h
      exact hv rfl
    simp only [VS.enter, List.getElem?_set_ne this]
    exact h
  · have := count_set (v := s.count + 1) hx (by omega)
    simp only [VS.enter]
    omega
/-- The end of a visit: the stack from x on is the part. -/
theorem close_stk {x : Nat} {s0 s : VS} {l : List Nat} (h : s.stack = s0.stack ++ x :: l) (hle : VLe s0 s) : VLe s0 (s.close x) := by
  unfold VS.close
  split
  · have hk : s.stack[s0.stack.length]? = some x := by rw [h]; simp
    have hlt := (List.getElem?_eq_some_iff.1 hk).1
    obtain ⟨h1, _⟩ := idxF_at hk (s.stack.length - 1) (by omega)
    refine ⟨⟨(x :: l).take (s.cut x - s0.stack.length), ?_⟩, hle.met, hle.zero, ?_⟩
    · show s.stack.take (s.cut x) = _
      rw [h, List.take_append, List.take_of_length_le (by unfold VS.cut; exact h1)]
    · obtain ⟨m, hm⟩ := hle.parts
      exact ⟨m ++ [s.stack.drop (s.cut x)], by show s.parts ++ _ = _; rw [hm, List.append_assoc]⟩
  · exact hle
/-- The edges stay among n nodes. -/
def TOk (n : Nat) (T : List (List Nat)) : Prop := T.length = n ∧ ∀ l ∈ T, ∀ y ∈ l, y < n
theorem TOk.at {n : Nat} {T : List (List Nat)} (h : TOk n T) {x y : Nat} (hy : y ∈ T.getD x []) : y < n := by
  rw [List.getD_eq_getElem?_getD] at hy
  cases hx : T[x]? with
  | none => rw [hx] at hy; simp at hy
  | some l => rw [hx] at hy; exact h.2 l (List.mem_of_getElem? hx) y hy
theorem met_zero {n y : Nat} {s : VS} (h : VOk n s) (hy : y < n) (h0 : s.met.getD y 0 = 0) : s.met[y]? = some 0 := by
  have hl : y < s.met.length := by rw [h.met]; exact hy
  rw [List.getD_eq_getElem?_getD, List.getElem?_eq_getElem hl] at h0
  rw [List.getElem?_eq_getElem hl]
  simpa using h0
/-- A visit keeps all that holds. -/
theorem visit_ok {n : Nat} {T : List (List Nat)} (hT : TOk n T) : ∀ (f x : Nat) (s : VS), VOk n s → s.met[x]? = some 0 → s.met.count 0 ≤ f → VOk n (visitF T f x s) ∧ VLe s (visitF T f x s) := by
  intro f
  induction f with
  | zero =>
    intro x s _ hx hf
    have := count_set (v := 1) hx (by omega)
    omega
  | succ f ih =>
    intro x s h hx hf
    have hc := count_set (v := s.count + 1) hx (by omega)
    have key : ∀ (L : List Nat), (∀ y ∈ L, y < n) → ∀ (t : VS), VOk n t → VLe (s.enter x) t → VOk n (L.foldl (VS.step (visitF T f) x) t) ∧ VLe (s.enter x) (L.foldl (VS.step (visitF T f) x) t) := by
      intro L
      induction L with
      | nil => intro _ t h1 h2; exact ⟨h1, h2⟩
      | cons y r ihr =>
        intro hy t h1 h2
        rw [List.foldl_cons]
        have hy' := hy y (by simp)
        have hz : t.met.count 0 ≤ f := by
          have h3 := h2.zero
          have h4 : (s.enter x).met.count 0 = (s.met.set x (s.count + 1)).count 0 := rfl
          omega
        refine ihr (fun y hy2 => hy y (List.mem_cons_of_mem _ hy2)) _ ?_ ?_
        · unfold VS.step
          split
          · rename_i h0
            have := (ih y t h1 (met_zero h1 hy' h0) hz).1
            exact this.lowTo (getD_le this.low')
          · split
            · exact h1.lowTo (getD_le h1.met')
            · exact h1
        · unfold VS.step
          split
          · rename_i h0
            exact h2.trans ((ih y t h1 (met_zero h1 hy' h0) hz).2.trans (VLe.lowTo _ _ _))
          · split
            · exact h2.trans (VLe.lowTo _ _ _)
            · exact h2
    obtain ⟨k1, k2⟩ := key (T.getD x []) (fun y hy => hT.at hy) (s.enter x) (h.enter hx) (VLe.refl _)
    obtain ⟨l, hl⟩ := k2.stk
    have hl' : ((T.getD x []).foldl (VS.step (visitF T f) x) (s.enter x)).stack = s.stack ++ x :: l := by rw [hl]; simp [VS.enter]
    exact ⟨k1.close (by rw [hl']; simp), close_stk hl' ((VLe.enter hx).trans k2)⟩
/-- The state at edge k of a visit to x, by the states' names. -/
def midF (T : List (List Nat)) (f x : Nat) (s : VS) (k : Nat) : VS := ((T.getD x []).take k).foldl (VS.step (visitF T f) x) (s.enter x)
theorem mid_succ {T : List (List Nat)} {f x k y : Nat} {s : VS} (h : (T.getD x [])[k]? = some y) : midF T f x s (k + 1) = VS.step (visitF T f) x (midF T f x s k) y := by
  unfold midF
  rw [List.take_add_one, h, List.foldl_append]
  rfl
theorem mid_ok {n : Nat} {T : List (List Nat)} (hT : TOk n T) {f x : Nat} {s : VS} (h : VOk n s) (hx : s.met[x]? = some 0) (hf : s.met.count 0 ≤ f + 1) : ∀ k, VOk n (midF T f x s k) ∧ VLe (s.enter x) (midF T f x s k) ∧ (midF T f x s k).met.count 0 ≤ f := by
  have hc := count_set (v := s.count + 1) hx (by omega)
  have h4 : (s.enter x).met.count 0 = (s.met.set x (s.count + 1)).count 0 := rfl
  intro k
  induction k with
  | zero => exact ⟨h.enter hx, VLe.refl _, by show (s.enter x).met.count 0 ≤ f; omega⟩
  | succ k ih =>
    obtain ⟨h1, h2, h3⟩ := ih
    cases hy : (T.getD x [])[k]? with
    | none =>
      have : midF T f x s (k + 1) = midF T f x s k := by
        unfold midF
        have := List.getElem?_eq_none_iff.1 hy
        rw [List.take_of_length_le (by omega), List.take_of_length_le (by omega)]
      rw [this]
      exact ⟨h1, h2, h3⟩
    | some y =>
      rw [mid_succ hy]
      have hy' : y < n := hT.at (List.mem_of_getElem? hy)
      have r : VOk n (VS.step (visitF T f) x (midF T f x s k) y) ∧ VLe (midF T f x s k) (VS.step (visitF T f) x (midF T f x s k) y) := by
        unfold VS.step
        split
        · rename_i h0
          obtain ⟨i1, i2⟩ := visit_ok hT f y _ h1 (met_zero h1 hy' h0) h3
          exact ⟨i1.lowTo (getD_le i1.low'), i2.trans (VLe.lowTo _ _ _)⟩
        · split
          · exact ⟨h1.lowTo (getD_le h1.met'), VLe.lowTo _ _ _⟩
          · exact ⟨h1, VLe.refl _⟩
      exact ⟨r.1, h2.trans r.2, Nat.le_trans r.2.zero h3⟩
theorem visitF_succ (T : List (List Nat)) (f x : Nat) (s : VS) : visitF T (f + 1) x s = (midF T f x s (T.getD x []).length).close x := by
  unfold midF
  rw [List.take_of_length_le (Nat.le_refl _)]
  rfl
/-- found. -/
def VS.start (n : Nat) : VS := ⟨0, List.replicate n 0, List.replicate n 0, List.replicate n false, [], []⟩
def foundStep (T : List (List Nat)) (n : Nat) (s : VS) (x : Nat) : VS := if s.met.getD x 0 = 0 then visitF T n x s else s
def foundS (n : Nat) (T : List (List Nat)) (k : Nat) : VS := (List.range k).foldl (foundStep T n) (VS.start n)
def foundF (n : Nat) (T : List (List Nat)) : List (List Nat) := (foundS n T n).parts
theorem VOk.start (n : Nat) : VOk n (VS.start n) := by
  refine ⟨by simp [VS.start], by simp [VS.start], by simp [VS.start], by simp [VS.start], by simp [VS.start], ?_, ?_, by simp [VS.start], by simp [VS.start], by simp [VS.start], by simp [VS.start]⟩
  · intro v hv
    have := List.eq_of_mem_replicate hv
    omega
  · intro v hv
    have := List.eq_of_mem_replicate hv
    omega
theorem foundS_succ (n : Nat) (T : List (List Nat)) (k : Nat) : foundS n T (k + 1) = foundStep T n (foundS n T k) k := by
  unfold foundS
  rw [List.range_succ, List.foldl_append]
  rfl
theorem foundS_ok {n : Nat} {T : List (List Nat)} (hT : TOk n T) : ∀ k, k ≤ n → VOk n (foundS n T k) := by
  intro k
  induction k with
  | zero => intro _; exact VOk.start n
  | succ k ih =>
    intro hk
    have h := ih (by omega)
    rw [foundS_succ]
    unfold foundStep
    split
    · rename_i h0
      refine (visit_ok hT n k _ h (met_zero h (by omega) h0) ?_).1
      have := h.num
      omega
    · exact h
end Go.Proofs.Ytcjohhminiedfaa
