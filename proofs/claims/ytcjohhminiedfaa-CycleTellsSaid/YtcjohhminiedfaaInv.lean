/- A region that draws its order, walked by what holds between its operations; blocks that are laid in whatever order. -/
import Derived.Test.YtcjohhminiedfaaMultiR
namespace Go.Proofs.Ytcjohhminiedfaa
open Go.RowKit
section
variable {P : Program} {ops : Array Oper} {Q : Exit → Act → World → Prop}
theorem count_done {l : List Bool} {i : Nat} (h : l[i]? = some false) : (l.set i true).count false + 1 = l.count false := by
  induction l generalizing i with
  | nil => simp at h
  | cons a r ih =>
    cases i with
    | zero =>
      simp at h
      subst h
      simp
    | succ i =>
      simp only [List.getElem?_cons_succ] at h
      have := ih h
      simp only [List.set_cons_succ, List.count_cons]
      omega
theorem ready_false {listed : Array Bool} {i : Nat} (h : i ∈ Region.ready .any ops listed) : listed.toList[i]? = some false := by
  have h0 := (mem_ready.1 h).1
  rcases Nat.lt_or_ge i listed.size with h' | h'
  · simp [h'] at h0 ⊢; exact h0
  · simp [Array.getElem?_eq_none h'] at h0
theorem wpAnyG_inv {S : World → Prop} {ls : List Nat} (hS : ∀ W, S W) (I : Array Bool → Act → World → Prop)
    (hstep : ∀ listed a w i, I listed a w → i ∈ Region.ready .any ops listed → wpOp P ops Q i (fun a' w' => I (listed.setIfInBounds i true) a' w') a w)
    (hend : ∀ listed a w, I listed a w → Region.ready .any ops listed = [] → Q .normal a w) : ∀ (fuel : Nat) (listed : Array Bool) (a : Act) (w : World), listed.toList.count false ≤ fuel → I listed a w → wpAnyG P ops Q S ls fuel listed a w := by
  intro fuel
  induction fuel with
  | zero =>
    intro listed a w hc hI
    have hr : Region.ready .any ops listed = [] := by
      cases hr : Region.ready .any ops listed with
      | nil => rfl
      | cons i r =>
        have h1 := ready_false (ops := ops) (listed := listed) (i := i) (by rw [hr]; simp)
        have := count_done h1
        omega
    exact ⟨hr, hend _ _ _ hI hr⟩
  | succ fuel ih =>
    intro listed a w hc hI
    refine ⟨fun hr => hend _ _ _ hI hr, fun i hi => ?_⟩
    have h1 := count_done (ready_false hi)
    refine wpOp_mono (fun a' w' h' => ⟨fun _ => hS _, ih _ a' w' ?_ h'⟩) (hstep listed a w i hI hi)
    simp only [Array.toList_setIfInBounds]
    omega
def invB (ops : Array Oper) (fs : List Nat) : Bool :=
  Region.noSelect ops && decide (fs.length ≤ ops.size) && firstR ops (masks ops) [] fs (Array.replicate ops.size false) && decide ((listAll fs (Array.replicate ops.size false)).toList.count false + fs.length ≤ ops.size)
theorem wp_region_inv {id : Nat} {a : Act} {w : World} (fs : List Nat) (I : Array Bool → Act → World → Prop) (hm : P.follows .mixedOrders = true) (hB : invB ops fs = true)
    (h0 : wpFirst P ops (fun _ => True) (fun a' => I (listAll fs (Array.replicate ops.size false)) a' w.drew) fs a)
    (hstep : ∀ listed a w i, I listed a w → i ∈ Region.ready .any ops listed → wpOp P ops (NoPanic Q) i (fun a' w' => I (listed.setIfInBounds i true) a' w') a w)
    (hend : ∀ listed a w, I listed a w → Region.ready .any ops listed = [] → Q .normal a w) : (Code.region id ops true).wp P Q a w := by
  simp only [invB, Bool.and_eq_true, decide_eq_true_eq] at hB
  obtain ⟨⟨⟨b1, b2⟩, b3⟩, b4⟩ := hB
  refine wp_region_noPanic (wp_region_any hm (wpAny_of_G (S := fun _ => True) (ls := []) _ _ _ _ (wpAnyG_firstsR (Region.noSelect_spec b1) (fun _ _ _ _ _ h => h) fs ops.size _ a _ (by omega) (closed_none _) b3 trivial ?_ h0)))
  intro f1 a1 he1 hc1 hk1
  exact wpAnyG_inv (fun _ => trivial) I hstep (fun l a w h1 h2 => hend l a w h1 h2) f1 _ a1 _ (by omega) hk1
theorem inv_step {i : Nat} {a : Act} {w : World} {o : Oper} {K0 : Act → World → Prop} (ho : ops[i]? = some o) (hw : Region.wanted o (yielded ops a.tmps) = true)
    (h : ∀ K : Act → World → Prop, (∀ a w, K0 a w → K a w) → o.wp P a w K Q) : wpOp P ops Q i K0 a w := by
  unfold wpOp
  rw [ho]
  simp only [hw, if_true]
  exact .inl (h _ fun a w h1 => h1)
/-- Where nothing is ready all is listed. -/
theorem all_listed (hf : (List.range ops.size).all (fun j => match ops[j]? with | some o => o.after.all (fun e => decide (e.on < j)) | none => true) = true) {listed : Array Bool} (hs : listed.size = ops.size) (hr : Region.ready .any ops listed = []) : ∀ j, j < ops.size → listed.getD j false = true := by
  intro j
  induction j using Nat.strongRecOn with
  | ind j ih =>
    intro hj
    have hjl : j < listed.size := by omega
    cases hb : listed[j] with
    | true => simp [hjl, hb]
    | false =>
      exfalso
      have ho : ops[j]? = some ops[j] := Array.getElem?_eq_getElem hj
      have h1 := List.all_eq_true.1 hf j (by simp; exact hj)
      rw [ho] at h1
      have hm : j ∈ Region.ready .any ops listed := mem_ready.2 ⟨by simp [hjl, hb], ops[j], ho, fun e he _ => by
        have := Array.all_eq_true'.1 h1 e he
        simp only [decide_eq_true_eq] at this
        exact ih e.on this (by omega)⟩
      rw [hr] at hm
      cases hm
def depB (ops : Array Oper) (i j : Nat) : Bool := match ops[i]? with | some o => o.after.any (fun e => e.on == j && Region.binds .any e) | none => false
theorem dep_listed {listed : Array Bool} {i j : Nat} (hB : depB ops i j = true) (h : i ∈ Region.ready .any ops listed) : listed.getD j false = true := by
  obtain ⟨_, o, ho, hall⟩ := mem_ready.1 h
  unfold depB at hB
  rw [ho] at hB
  obtain ⟨e, he, h1⟩ := Array.any_eq_true'.1 hB
  simp only [Bool.and_eq_true, beq_iff_eq] at h1
  rw [← h1.1]
  exact hall e he h1.2
theorem ready_not {listed : Array Bool} {i : Nat} (h : i ∈ Region.ready .any ops listed) (hl : listed.getD i false = true) : False := by
  have h1 := ready_false h
  simp at h1
  simp [h1] at hl
theorem ready_lt {listed : Array Bool} {i : Nat} (h : i ∈ Region.ready .any ops listed) : i < ops.size := by
  obtain ⟨_, o, ho, _⟩ := mem_ready.1 h
  exact (Array.getElem?_eq_some_iff.1 ho).1
end
/-! ### blocks laid in whatever order -/
/-- Of the tags T those that are listed have their block b, their value v, and the block holds what obj says. -/
structure Slots (T : Nat → Prop) (val : Nat → Nat → Value) (obj : Array Bool → (Nat → Value) → Nat → Obj) (w0 : World) (listed : Array Bool) (b : Nat → Nat) (v : Nat → Value) (w : World) : Prop where
  bel : Below w0.heap.size w0 w
  inj : ∀ i j, T i → T j → listed.getD i false = true → listed.getD j false = true → b i = b j → i = j
  at' : ∀ i, T i → listed.getD i false = true → w0.heap.size ≤ b i ∧ v i = val i (b i) ∧ w.heap[b i]? = some (obj listed v i)
section
variable {T : Nat → Prop} {val : Nat → Nat → Value} {obj : Array Bool → (Nat → Value) → Nat → Obj} {w0 w : World} {listed : Array Bool} {b : Nat → Nat} {v : Nat → Value}
theorem getD_set_of {t i : Nat} (h : (listed.setIfInBounds t true).getD i false = true) : i = t ∨ listed.getD i false = true := by
  by_cases hit : t = i
  · exact .inl hit.symm
  · rw [getD_set_ne false hit] at h
    exact .inr h
theorem Slots.alloc (h : Slots T val obj w0 listed b v w) {t : Nat} (hn : listed.toList[t]? = some false) {o : Obj} (ho : obj (listed.setIfInBounds t true) (fun i => if i = t then val t w.heap.size else v i) t = o)
    (hob : ∀ i, i ≠ t → T i → listed.getD i false = true → obj (listed.setIfInBounds t true) (fun i => if i = t then val t w.heap.size else v i) i = obj listed v i) :
    Slots T val obj w0 (listed.setIfInBounds t true) (fun i => if i = t then w.heap.size else b i) (fun i => if i = t then val t w.heap.size else v i) (w.alloc o) := by
  have hno : listed.getD t false = false := by simp at hn; simp [hn]
  have lt : ∀ i, T i → listed.getD i false = true → b i < w.heap.size := fun i h1 h2 => lt_of_heap (h.at' i h1 h2).2.2
  refine ⟨h.bel.alloc h.bel.size _, fun i j hi hj li lj e => ?_, fun i hi li => ?_⟩
  · rcases getD_set_of li with rfl | li'
    · rcases getD_set_of lj with rfl | lj'
      · rfl
      · by_cases hji : j = i
        · exact hji.symm
        · simp only [if_true, if_neg hji] at e
          have := lt j hj lj'
          omega
    · by_cases hit : i = t
      · subst hit
        rw [hno] at li'
        cases li'
      · simp only [if_neg hit] at e
        rcases getD_set_of lj with rfl | lj'
        · simp only [if_true] at e
          have := lt i hi li'
          omega
        · by_cases hjt : j = t
          · subst hjt
            rw [hno] at lj'
            cases lj'
          · simp only [if_neg hjt] at e
            exact h.inj i j hi hj li' lj' e
  · by_cases hit : i = t
    · subst hit
      simp only [if_true]
      exact ⟨h.bel.size, trivial, by rw [ho]; exact heap_alloc_new _ _⟩
    · rcases getD_set_of li with rfl | li'
      · exact absurd rfl hit
      · obtain ⟨h1, h2, h3⟩ := h.at' i hi li'
        simp only [if_neg hit]
        exact ⟨h1, h2, by rw [hob i hit hi li']; exact heap_alloc_old h3 _⟩
/-- A store into the block of t, by operation q, which lays nothing. -/
theorem Slots.store (h : Slots T val obj w0 listed b v w) {t q : Nat} (ht : T t) (hq : ¬ T q) (hl : listed.getD t false = true) {p : Addr} (hp : p.block = b t) {u : Value} (ho : (w.setCell p u).heap[b t]? = some (obj (listed.setIfInBounds q true) v t))
    (hob : ∀ i, i ≠ t → T i → listed.getD i false = true → obj (listed.setIfInBounds q true) v i = obj listed v i) :
    Slots T val obj w0 (listed.setIfInBounds q true) b v (w.setCell p u) := by
  have hK : w0.heap.size ≤ p.block := by rw [hp]; exact (h.at' t ht hl).1
  have on : ∀ i, T i → (listed.setIfInBounds q true).getD i false = true → listed.getD i false = true := fun i hi li => by
    rcases getD_set_of li with rfl | li'
    · exact absurd hi hq
    · exact li'
  refine ⟨h.bel.setCell hK _, fun i j hi hj li lj e => h.inj i j hi hj (on i hi li) (on j hj lj) e, fun i hi li => ?_⟩
  obtain ⟨h1, h2, h3⟩ := h.at' i hi (on i hi li)
  refine ⟨h1, h2, ?_⟩
  by_cases hit : i = t
  · subst hit
    exact ho
  · rw [hob i hit hi (on i hi li), Below.heap_setCell _ _ _ _ (fun e => hit (h.inj i t hi ht (on i hi li) hl (e.trans hp)))]
    exact h3
end
end Go.Proofs.Ytcjohhminiedfaa
