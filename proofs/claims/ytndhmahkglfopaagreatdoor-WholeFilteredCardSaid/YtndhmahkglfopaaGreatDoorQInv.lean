/- A region that draws its order, walked by what holds between its operations; blocks that are laid in whatever order. -/
import Derived.Test.YtndhmahkglfopaaGreatDoorQT13Num2
namespace Go.Proofs.YtndhmahkglfopaaGreatDoor
open Go.RowKit
section
variable {P : Program} {ops : Array Oper} {Q : Exit → Act → World → Prop}
theorem count_done {l : List Bool} {i : Nat} (h : l[i]? = some false) : (l.set i true).count false + 1 = l.count false := by
  induction l generalizing i with
  | nil => simp at h
  | cons a r ih =>
    cases i with
    | zero =>
      simp at h
      subst h
      simp
    | succ i =>
      simp only [List.getElem?_cons_succ] at h
      have := ih h
      simp only [List.set_cons_succ, List.count_cons]
      omega
theorem ready_false {listed : Array Bool} {i : Nat} (h : i ∈ Region.ready .any ops listed) : listed.toList[i]? = some false := by
  have h0 := (mem_ready.1 h).1
  rcases Nat.lt_or_ge i listed.size with h' | h'
  · simp [h'] at h0 ⊢; exact h0
  · simp [Array.getElem?_eq_none h'] at h0
theorem inv_step {i : Nat} {a : Act} {w : World} {o : Oper} {K0 : Act → World → Prop} (ho : ops[i]? = some o) (hw : Region.wanted o (yielded ops a.tmps) = true)
    (h : ∀ K : Act → World → Prop, (∀ a w, K0 a w → K a w) → o.wp P a w K Q) : wpOp P ops Q i K0 a w := by
  unfold wpOp
  rw [ho]
  simp only [hw, if_true]
  exact .inl (h _ fun a w h1 => h1)
/-- Where nothing is ready all is listed. -/
theorem all_listed (hf : (List.range ops.size).all (fun j => match ops[j]? with | some o => o.after.all (fun e => decide (e.on < j)) | none => true) = true) {listed : Array Bool} (hs : listed.size = ops.size) (hr : Region.ready .any ops listed = []) : ∀ j, j < ops.size → listed.getD j false = true := by
  intro j
  induction j using Nat.strongRecOn with
  | ind j ih =>
    intro hj
    have hjl : j < listed.size := by omega
    cases hb : listed[j] with
    | true => simp [hjl, hb]
    | false =>
      exfalso
      have ho : ops[j]? = some ops[j] := Array.getElem?_eq_getElem hj
      have h1 := List.all_eq_true.1 hf j (by simp; exact hj)
      rw [ho] at h1
      have hm : j ∈ Region.ready .any ops listed := mem_ready.2 ⟨by simp [hjl, hb], ops[j], ho, fun e he _ => by
        have := Array.all_eq_true'.1 h1 e he
        simp only [decide_eq_true_eq] at this
        exact ih e.on this (by omega)⟩
      rw [hr] at hm
      cases hm
def depB (ops : Array Oper) (i j : Nat) : Bool := match ops[i]? with | some o => o.after.any (fun e => e.on == j && Region.binds .any e) | none => false
theorem dep_listed {listed : Array Bool} {i j : Nat} (hB : depB ops i j = true) (h : i ∈ Region.ready .any ops listed) : listed.getD j false = true := by
  obtain ⟨_, o, ho, hall⟩ := mem_ready.1 h
  unfold depB at hB
  rw [ho] at hB
  obtain ⟨e, he, h1⟩ := Array.any_eq_true'.1 hB
  simp only [Bool.and_eq_true, beq_iff_eq] at h1
  rw [← h1.1]
  exact hall e he h1.2
theorem ready_not {listed : Array Bool} {i : Nat} (h : i ∈ Region.ready .any ops listed) (hl : listed.getD i false = true) : False := by
  have h1 := ready_false h
  simp at h1
  simp [h1] at hl
theorem ready_lt {listed : Array Bool} {i : Nat} (h : i ∈ Region.ready .any ops listed) : i < ops.size := by
  obtain ⟨_, o, ho, _⟩ := mem_ready.1 h
  exact (Array.getElem?_eq_some_iff.1 ho).1
end
/-! ### blocks laid in whatever order -/
section
variable {T : Nat → Prop} {val : Nat → Nat → Value} {obj : Array Bool → (Nat → Value) → Nat → Obj} {w0 w : World} {listed : Array Bool} {b : Nat → Nat} {v : Nat → Value}
end
end Go.Proofs.YtndhmahkglfopaaGreatDoor
/- A region that draws its order, in which some operations come in one of a few orders: first the quiet ones, then a tree of orders. -/
namespace Go.Proofs.YtndhmahkglfopaaGreatDoor
open Go.RowKit
/-- Which operation comes: one, or either of two. -/
inductive OrdT
  | nil
  | one (i : Nat) (r : OrdT)
  | two (t u : Nat) (x y : OrdT)
section
variable {P : Program} {ops : Array Oper} {Q : Exit → Act → World → Prop} {S : World → Prop} {ls : List Nat}
def ordB (ops : Array Oper) : OrdT → Array Bool → Bool
  | .nil, l => (Region.ready .any ops l).isEmpty
  | .one i r, l => (Region.ready .any ops l == [i]) && ordB ops r (l.setIfInBounds i true)
  | .two t u x y, l => (Region.ready .any ops l == [t, u]) && ordB ops x (l.setIfInBounds t true) && ordB ops y (l.setIfInBounds u true)
def ordN : OrdT → Nat
  | .nil => 0
  | .one _ r => ordN r + 1
  | .two _ _ x y => max (ordN x) (ordN y) + 1
def wpOrd (P : Program) (ops : Array Oper) (Q : Exit → Act → World → Prop) (S : World → Prop) (ls : List Nat) : OrdT → Act → World → Prop
  | .nil, a, w => Q .normal a w
  | .one i r, a, w => wpOp P ops Q i (fun a' w' => (i ∉ ls → S w') ∧ wpOrd P ops Q S ls r a' w') a w
  | .two t u x y, a, w => wpOp P ops Q t (fun a' w' => (t ∉ ls → S w') ∧ wpOrd P ops Q S ls x a' w') a w ∧ wpOp P ops Q u (fun a' w' => (u ∉ ls → S w') ∧ wpOrd P ops Q S ls y a' w') a w
theorem wpAnyG_ord : ∀ (r : OrdT) (fuel : Nat) (listed : Array Bool) (a : Act) (w : World), ordN r ≤ fuel → ordB ops r listed = true → wpOrd P ops Q S ls r a w → wpAnyG P ops Q S ls fuel listed a w := by
  intro r
  induction r with
  | nil =>
    intro fuel listed a w _ hB h
    have hr : Region.ready .any ops listed = [] := by simpa [ordB] using hB
    cases fuel with
    | zero => exact ⟨hr, h⟩
    | succ fuel => exact ⟨fun _ => h, fun i hi => by rw [hr] at hi; cases hi⟩
  | one i r ih =>
    intro fuel listed a w hf hB h
    simp only [ordB, Bool.and_eq_true, beq_iff_eq] at hB
    cases fuel with
    | zero => simp [ordN] at hf
    | succ fuel =>
      refine ⟨fun h0 => (by rw [hB.1] at h0; cases h0), fun j hj => ?_⟩
      rw [hB.1, List.mem_singleton] at hj
      subst hj
      exact wpOp_mono (fun a' w' h' => ⟨h'.1, ih fuel _ a' w' (by simp [ordN] at hf; omega) hB.2 h'.2⟩) h
  | two t u x y ihx ihy =>
    intro fuel listed a w hf hB h
    simp only [ordB, Bool.and_eq_true, beq_iff_eq] at hB
    cases fuel with
    | zero => simp [ordN] at hf
    | succ fuel =>
      simp only [ordN] at hf
      refine ⟨fun h0 => (by rw [hB.1.1] at h0; cases h0), fun j hj => ?_⟩
      rw [hB.1.1] at hj
      rcases (by simpa using hj : j = t ∨ j = u) with rfl | rfl
      · exact wpOp_mono (fun a' w' h' => ⟨h'.1, ihx fuel _ a' w' (by omega) hB.1.2 h'.2⟩) h.1
      · exact wpOp_mono (fun a' w' h' => ⟨h'.1, ihy fuel _ a' w' (by omega) hB.2 h'.2⟩) h.2
def regOrdB (ops : Array Oper) (fs : List Nat) (r : OrdT) (ls : List Nat) : Bool :=
  Region.noSelect ops && decide (fs.length + ordN r ≤ ops.size) && firstR ops (masks ops) ls fs (Array.replicate ops.size false) && ordB ops r (listAll fs (Array.replicate ops.size false))
/-- First all of fs, which are quiet in every world of S; then the tree; S holds behind whatever is not of ls. -/
theorem wp_region_ord {id : Nat} {a : Act} {w : World} (fs : List Nat) (r : OrdT) (ls : List Nat) (S : World → Prop) (hm : P.follows .mixedOrders = true) (hB : regOrdB ops fs r ls = true) (hS : S w.drew)
    (h : wpFirst P ops S (fun a' => wpOrd P ops (NoPanic Q) S ls r a' w.drew) fs a) : (Code.region id ops true).wp P Q a w := by
  simp only [regOrdB, Bool.and_eq_true, decide_eq_true_eq] at hB
  obtain ⟨⟨⟨b1, b2⟩, b3⟩, b4⟩ := hB
  refine wp_region_noPanic (wp_region_any hm (wpAny_of_G (S := S) (ls := ls) _ _ _ _ (wpAnyG_firstsR (Region.noSelect_spec b1) (fun _ _ _ _ _ h => h) fs ops.size _ a _ (by omega) (closed_none _) b3 hS ?_ h)))
  intro f1 a1 he1 hc1 hk1
  exact wpAnyG_ord r f1 _ a1 _ (by omega) b4 hk1
theorem ord_step {i : Nat} {r : OrdT} {a : Act} {w : World} {o : Oper} (ho : ops[i]? = some o) (hw : Region.wanted o (yielded ops a.tmps) = true)
    (h : ∀ K : Act → World → Prop, (∀ a w, (i ∉ ls → S w) → wpOrd P ops Q S ls r a w → K a w) → o.wp P a w K Q) : wpOrd P ops Q S ls (.one i r) a w := inv_step ho hw fun K hK => h K fun a w h1 h2 => hK a w ⟨h1, h2⟩
theorem ord_done {a : Act} {w : World} (h : Q .normal a w) : wpOrd P ops (NoPanic Q) S ls .nil a w := h
theorem ord_two {t u : Nat} {x y : OrdT} {a : Act} {w : World} (h1 : wpOrd P ops Q S ls (.one t x) a w) (h2 : wpOrd P ops Q S ls (.one u y) a w) : wpOrd P ops Q S ls (.two t u x y) a w := ⟨h1, h2⟩
end
end Go.Proofs.YtndhmahkglfopaaGreatDoor
/- A region that draws its order, in which many operations have effects that turn nothing old: one word for each operation, whatever the order. -/
namespace Go.Proofs.YtndhmahkglfopaaGreatDoor
open Go.RowKit
section
variable {P : Program} {ops : Array Oper} {Q : Exit → Act → World → Prop}
def dstOf (ops : Array Oper) (i : Nat) : Option Tmp := (ops[i]?).bind (·.dst)
def putAll (ops : Array Oper) (vals : Nat → Value) : List Nat → Act → Act
  | [], a => a
  | i :: r, a => putAll ops vals r (a.put (dstOf ops i) (vals i))
theorem put_get (a : Act) (d e : Tmp) (v : Value) : (a.put (some d) v).tmps[e]? = if e = d ∧ d < a.tmps.size then some v else a.tmps[e]? := by
  show (a.tmps.setIfInBounds d v)[e]? = _
  rw [Array.getElem?_setIfInBounds]
  by_cases h : d = e
  · subst h
    by_cases h2 : d < a.tmps.size
    · simp [h2]
    · simp [h2]
  · rw [if_neg h, if_neg (fun h2 => h h2.1.symm)]
theorem put_size (a : Act) (d : Tmp) (v : Value) : (a.put (some d) v).tmps.size = a.tmps.size := by
  show (a.tmps.setIfInBounds d v).size = _
  simp
/-- All of F write, each a place of its own, within n places. -/
def dstsB (ops : Array Oper) (n : Nat) : List Nat → Bool
  | [] => true
  | i :: r => (match dstOf ops i with | some d => decide (d < n) | none => false) && r.all (fun j => dstOf ops j != dstOf ops i) && dstsB ops n r
theorem dsts_some {n : Nat} : ∀ {F : List Nat}, dstsB ops n F = true → ∀ i ∈ F, ∃ d, dstOf ops i = some d ∧ d < n
  | i :: r, h, j, hj => by
    simp only [dstsB, Bool.and_eq_true] at h
    rcases List.mem_cons.1 hj with rfl | hj
    · have h1 := h.1.1
      cases hd : dstOf ops j with
      | none => rw [hd] at h1; cases h1
      | some d => rw [hd] at h1; exact ⟨d, rfl, by simpa using h1⟩
    · exact dsts_some h.2 j hj
theorem dsts_inj {n : Nat} : ∀ {F : List Nat}, dstsB ops n F = true → ∀ i ∈ F, ∀ j ∈ F, dstOf ops i = dstOf ops j → i = j
  | k :: r, h, i, hi, j, hj, e => by
    simp only [dstsB, Bool.and_eq_true] at h
    have hne := List.all_eq_true.1 h.1.2
    rcases List.mem_cons.1 hi with e1 | hi2
    · rcases List.mem_cons.1 hj with e2 | hj2
      · rw [e1, e2]
      · have := hne j hj2
        rw [← e, e1] at this
        simp at this
    · rcases List.mem_cons.1 hj with e2 | hj2
      · have := hne i hi2
        rw [e, e2] at this
        simp at this
      · exact dsts_inj h.2 i hi2 j hj2 e
theorem putAll_spec (vals : Nat → Value) {n : Nat} : ∀ (F : List Nat) (a : Act), a.tmps.size = n → dstsB ops n F = true →
    (putAll ops vals F a).tmps.size = n ∧ (putAll ops vals F a).defers = a.defers ∧ (∀ d, (∀ i ∈ F, dstOf ops i ≠ some d) → (putAll ops vals F a).tmps[d]? = a.tmps[d]?) ∧ ∀ i ∈ F, ∀ d, dstOf ops i = some d → (putAll ops vals F a).tmps[d]? = some (vals i)
  | [], a, hn, _ => ⟨hn, rfl, fun _ _ => rfl, fun i hi => by cases hi⟩
  | i :: r, a, hn, hB => by
    obtain ⟨d, hd, hdn⟩ := dsts_some hB i (by simp)
    have hB2 := hB
    simp only [dstsB, Bool.and_eq_true] at hB2
    unfold putAll
    rw [hd]
    obtain ⟨k1, k2, k3, k4⟩ := putAll_spec vals r (a.put (some d) (vals i)) (by rw [put_size]; exact hn) hB2.2
    refine ⟨k1, k2, fun e he => ?_, fun j hj e he => ?_⟩
    · rw [k3 e (fun j hj => he j (List.mem_cons_of_mem _ hj)), put_get, if_neg (fun h => he i (by simp) (by rw [hd, h.1]))]
    · rcases List.mem_cons.1 hj with rfl | hj
      · rw [hd] at he
        cases he
        rw [k3 d (fun q hq heq => by
          have := List.all_eq_true.1 hB2.1.2 q hq
          rw [heq, hd] at this
          simp at this), put_get, if_pos ⟨rfl, by rw [hn]; exact hdn⟩]
      · exact k4 j hj e he
/-- What one operation owes: it runs wherever those ahead of it have run, turns nothing old, and T holds of what it yields. -/
def StepOk (P : Program) (ops : Array Oper) (Q : Exit → Act → World → Prop) (bx F : List Nat) (T : Nat → Value → World → Prop) (a0 : Act) (W0 : World) (i : Nat) : Prop :=
  ∃ o, ops[i]? = some o ∧ o.guard = none ∧ ∀ (a : Act) (w : World), Below W0.heap.size W0 w → (∀ d, (∀ j ∈ F, dstOf ops j ≠ some d) → a.tmps[d]? = a0.tmps[d]?) →
    (∀ j ∈ F, depB ops i j = true → ∃ d v, dstOf ops j = some d ∧ a.tmps[d]? = some v ∧ T j v w) →
    ∀ K : Act → World → Prop, (∀ v w', Below w.heap.size w w' → T i v w' → (i ∈ bx → ∀ j ∈ bx, ∀ x, T j x w → x ≠ v) → K (a.put o.dst v) w') → o.wp P a w K Q
def stepsOk (P : Program) (ops : Array Oper) (Q : Exit → Act → World → Prop) (bx F : List Nat) (T : Nat → Value → World → Prop) (a0 : Act) (W0 : World) : List Nat → Prop
  | [] => True
  | i :: r => StepOk P ops Q bx F T a0 W0 i ∧ stepsOk P ops Q bx F T a0 W0 r
theorem stepsOk_mem {bx F : List Nat} {T : Nat → Value → World → Prop} {a0 : Act} {W0 : World} : ∀ {l : List Nat}, stepsOk P ops Q bx F T a0 W0 l → ∀ i ∈ l, StepOk P ops Q bx F T a0 W0 i
  | j :: r, h, i, hi => by
    rcases List.mem_cons.1 hi with rfl | hi
    · exact h.1
    · exact stepsOk_mem h.2 i hi
/-- What a pure one owes. -/
def PureOk (P : Program) (ops : Array Oper) (F : List Nat) (T : Nat → Value → World → Prop) (i : Nat) : Prop :=
  ∃ o, ops[i]? = some o ∧ o.guard = none ∧ ∀ (a : Act) (w : World), (∀ j ∈ F, depB ops i j = true → ∃ d v, dstOf ops j = some d ∧ a.tmps[d]? = some v ∧ T j v w) → ∃ v, T i v w ∧ ∀ W, (execOp a.eval o).run P W = .ok (.value v) W
def puresOk (P : Program) (ops : Array Oper) (F : List Nat) (T : Nat → Value → World → Prop) : List Nat → Prop
  | [] => True
  | i :: r => PureOk P ops F T i ∧ puresOk P ops F T r
theorem puresOk_mem {F : List Nat} {T : Nat → Value → World → Prop} : ∀ {l : List Nat}, puresOk P ops F T l → ∀ i ∈ l, PureOk P ops F T i
  | j :: r, h, i, hi => by
    rcases List.mem_cons.1 hi with rfl | hi
    · exact h.1
    · exact puresOk_mem h.2 i hi
/-- Apart from whatever does not come right behind it. -/
def apartB (ops : Array Oper) (i : Nat) : Bool := match ops[i]? with
  | some oi => (List.range ops.size).all fun j => j == i || ((masks ops).getD i 0).testBit j || (match ops[j]? with | some oj => oj.after.any (fun e => Region.binds .any e && e.on == i) || oi.apart ops oj | none => true)
  | none => false
theorem apart_spec {i : Nat} {oi : Oper} {listed : Array Bool} (hc : Closed ops listed) (hr : i ∈ Region.ready .any ops listed) (ho : ops[i]? = some oi) (h : apartB ops i = true) : ∀ j oj, ops[j]? = some oj → j ≠ i → listed.getD j true = false → (∀ e ∈ oj.after, Region.binds .any e = true → e.on ≠ i) → oi.apart ops oj = true := fun j oj hj hne hun hno => by
  unfold apartB at h
  rw [ho] at h
  have h1 := List.all_eq_true.1 h j (List.mem_range.2 (Array.getElem?_eq_some_iff.1 hj).1)
  rw [hj] at h1
  simp only [Bool.or_eq_true, beq_iff_eq] at h1
  rcases h1 with (h1 | h1) | h1 | h1
  · exact absurd h1 hne
  · obtain ⟨_, oi', hoi, hal⟩ := mem_ready.1 hr
    have h2 := predR_listed hc (masks_pred h1) oi' hoi hal
    have h3 : j < listed.size := by
      rcases Nat.lt_or_ge j listed.size with h | h
      · exact h
      · simp [h] at h2
    simp [h3] at h2 hun
    rw [h2] at hun
    cases hun
  · obtain ⟨e, he, h2⟩ := Array.any_eq_true'.1 h1
    simp only [Bool.and_eq_true, beq_iff_eq] at h2
    exact absurd h2.2 (hno e he h2.1)
  · exact h1
theorem all_listed2 (hf : (List.range ops.size).all (fun j => match ops[j]? with | some o => o.after.all (fun e => !Region.binds .any e || decide (e.on < j)) | none => true) = true) {listed : Array Bool} (hs : listed.size = ops.size) (hr : Region.ready .any ops listed = []) : ∀ j, j < ops.size → listed.getD j false = true := by
  intro j
  induction j using Nat.strongRecOn with
  | ind j ih =>
    intro hj
    have hjl : j < listed.size := by omega
    cases hb : listed[j] with
    | true => simp [hjl, hb]
    | false =>
      exfalso
      have ho : ops[j]? = some ops[j] := Array.getElem?_eq_getElem hj
      have h1 := List.all_eq_true.1 hf j (by simp; exact hj)
      rw [ho] at h1
      have hm : j ∈ Region.ready .any ops listed := mem_ready.2 ⟨by simp [hjl, hb], ops[j], ho, fun e he hbd => by
        have := Array.all_eq_true'.1 h1 e he
        simp only [Bool.or_eq_true, Bool.not_eq_true', decide_eq_true_eq] at this
        rcases this with h2 | h2
        · rw [hbd] at h2; cases h2
        · exact ih e.on h2 (by omega)⟩
      rw [hr] at hm
      cases hm
structure ParI (ops : Array Oper) (bx F : List Nat) (T : Nat → Value → World → Prop) (a0 : Act) (W0 : World) (listed : Array Bool) (a : Act) (w : World) : Prop where
  bel : Below W0.heap.size W0 w
  siz : a.tmps.size = a0.tmps.size
  dfr : a.defers = a0.defers
  old : ∀ d, (∀ i ∈ F, listed.getD i false = true → dstOf ops i ≠ some d) → a.tmps[d]? = a0.tmps[d]?
  got : ∀ i ∈ F, listed.getD i false = true → ∃ d v, dstOf ops i = some d ∧ a.tmps[d]? = some v ∧ T i v w
  sub : ∀ i, listed.getD i false = true → i ∈ F
  cls : Closed ops listed
  lsz : listed.size = ops.size
  dis : ∀ i ∈ bx, ∀ j ∈ bx, i ≠ j → i ∈ F → j ∈ F → listed.getD i false = true → listed.getD j false = true → ∀ d e, dstOf ops i = some d → dstOf ops j = some e → a.tmps[d]? ≠ a.tmps[e]?
theorem getD_set_of2 {listed : Array Bool} {t i : Nat} (h : (listed.setIfInBounds t true).getD i false = true) : i = t ∨ listed.getD i false = true := by
  by_cases hit : t = i
  · exact .inl hit.symm
  · rw [getD_set_ne false hit] at h
    exact .inr h
theorem ParI.step {bx F : List Nat} {T : Nat → Value → World → Prop} {a0 : Act} {W0 : World} {listed : Array Bool} {a : Act} {w w' : World} (hD : dstsB ops a0.tmps.size F = true) (hT : ∀ i v w w', T i v w → Below w.heap.size w w' → T i v w')
    (h : ParI ops bx F T a0 W0 listed a w) {i : Nat} (hi : i ∈ F) (hr : i ∈ Region.ready .any ops listed) {v : Value} (hb : Below w.heap.size w w') (hv : T i v w') (hx : i ∈ bx → ∀ j ∈ bx, ∀ x, T j x w → x ≠ v) : ParI ops bx F T a0 W0 (listed.setIfInBounds i true) (a.put (dstOf ops i) v) w' := by
  obtain ⟨d, hd, hdn⟩ := dsts_some hD i hi
  rw [hd]
  have hno : listed.getD i false = false := by
    cases e : listed.getD i false with
    | false => rfl
    | true => exact absurd e (fun e => ready_not hr e)
  refine ⟨h.bel.trans (hb.mono h.bel.size), by rw [put_size]; exact h.siz, h.dfr, fun e he => ?_, fun j hj lj => ?_, fun j lj => ?_, h.cls.set hr, by simpa using h.lsz, fun p hp q hq hpq hpF hqF lp lq e1 e2 he1 he2 => ?_⟩
  · have hne : ¬ e = d := fun e2 => he i hi (by
      have : i < listed.size := by rw [h.lsz]; exact ready_lt hr
      simp [this]) (by rw [hd, e2])
    rw [put_get, if_neg (fun h2 => hne h2.1)]
    exact h.old e fun j hj lj => he j hj (getD_set_true lj)
  · rcases getD_set_of2 lj with rfl | lj'
    · exact ⟨d, v, hd, by rw [put_get, if_pos ⟨rfl, by rw [h.siz]; exact hdn⟩], hv⟩
    · obtain ⟨e, u, he, hu, ht⟩ := h.got j hj lj'
      have hne : ¬ e = d := fun e2 => by
        have := dsts_inj hD i hi j hj (by rw [hd, he, e2])
        subst this
        rw [hno] at lj'
        cases lj'
      exact ⟨e, u, he, by rw [put_get, if_neg (fun h2 => hne h2.1)]; exact hu, hT _ _ _ _ ht hb⟩
  · rcases getD_set_of2 lj with rfl | lj'
    · exact hi
    · exact h.sub j lj'
  · have at_i : (a.put (some d) v).tmps[d]? = some v := by rw [put_get, if_pos ⟨rfl, by rw [h.siz]; exact hdn⟩]
    have at_o : ∀ r ∈ F, r ≠ i → ∀ e, dstOf ops r = some e → (a.put (some d) v).tmps[e]? = a.tmps[e]? := fun r hr hne e he => by
      rw [put_get, if_neg (fun h2 => hne (dsts_inj hD r hr i hi (by rw [he, hd, h2.1])))]
    by_cases hpi : p = i
    · subst hpi
      have hqi : q ≠ p := fun e => hpq e.symm
      rw [hd] at he1
      cases he1
      rw [at_i, at_o q hqF hqi e2 he2]
      have lq' : listed.getD q false = true := by
        rcases getD_set_of2 lq with e | e
        · exact absurd e hqi
        · exact e
      obtain ⟨d', u, h1, h2, h3⟩ := h.got q hqF lq'
      rw [he2] at h1
      cases h1
      rw [h2]
      exact fun e => hx hp q hq u h3 (Option.some.inj e).symm
    · by_cases hqi : q = i
      · subst hqi
        rw [hd] at he2
        cases he2
        rw [at_i, at_o p hpF hpi e1 he1]
        have lp' : listed.getD p false = true := by
          rcases getD_set_of2 lp with e | e
          · exact absurd e hpi
          · exact e
        obtain ⟨d', u, h1, h2, h3⟩ := h.got p hpF lp'
        rw [he1] at h1
        cases h1
        rw [h2]
        exact fun e => hx hq p hp u h3 (Option.some.inj e)
      · rw [at_o p hpF hpi e1 he1, at_o q hqF hqi e2 he2]
        have lp' : listed.getD p false = true := by
          rcases getD_set_of2 lp with e | e
          · exact absurd e hpi
          · exact e
        have lq' : listed.getD q false = true := by
          rcases getD_set_of2 lq with e | e
          · exact absurd e hqi
          · exact e
        exact h.dis p hp q hq hpq hpF hqF lp' lq' e1 e2 he1 he2
/-- The others come behind all of F but the pure ones, in one order. -/
def parB (ops : Array Oper) (n : Nat) (Fs ps ts : List Nat) : Bool :=
  Region.noSelect ops && dstsB ops n (Fs ++ ps) && (Fs ++ ps).all (fun i => decide (i < ops.size)) && (List.range ops.size).all (fun t => (Fs ++ ps).contains t || Fs.all (fun f => ((masks ops).getD t 0).testBit f)) &&
    (List.range ops.size).all (fun j => match ops[j]? with | some o => o.after.all (fun e => !Region.binds .any e || decide (e.on < j)) | none => true) &&
    ps.all (fun p => apartB ops p && (match ops[p]? with | some o => o.after.all (fun e => !Region.binds .any e || Fs.contains e.on) | none => false)) &&
    mixT ops [] [] ts ((List.range ops.size).map (fun i => (Fs ++ ps).contains i)).toArray && decide (ts.length ≤ ((List.range ops.size).map (fun i => (Fs ++ ps).contains i)).count false)
theorem wpAnyG_ls {S S' : World → Prop} {ls ls' : List Nat} (hS : ∀ W, S' W) : ∀ (fuel : Nat) (listed : Array Bool) (a : Act) (w : World), wpAnyG P ops Q S ls fuel listed a w → wpAnyG P ops Q S' ls' fuel listed a w
  | 0, _, _, _, h => h
  | fuel + 1, _, _, _, h => ⟨h.1, fun i hi => wpOp_mono (fun a' w' h' => ⟨fun _ => hS _, wpAnyG_ls hS fuel _ a' w' h'.2⟩) (h.2 i hi)⟩
theorem wpAnyG_par {bx Fs ps ts : List Nat} {T : Nat → Value → World → Prop} {a0 : Act} {W0 : World} (hQ : ∀ c a w d v, Q (.panic c) (a.put d v) w → Q (.panic c) a w) (hB : parB ops a0.tmps.size Fs ps ts = true) (hT : ∀ i v w w', T i v w → Below w.heap.size w w' → T i v w')
    (hbx : ∀ p ∈ ps, p ∉ bx) (hbF : ∀ b ∈ bx, b ∈ Fs ++ ps) (hs : stepsOk P ops Q bx (Fs ++ ps) T a0 W0 Fs) (hp : puresOk P ops (Fs ++ ps) T ps) (he : ∀ (vals : Nat → Value) (w : World), Below W0.heap.size W0 w → (∀ i ∈ Fs ++ ps, T i (vals i) w) → (∀ i ∈ bx, ∀ j ∈ bx, i ≠ j → vals i ≠ vals j) → wpTail P ops Q (fun _ => True) [] [] ts (putAll ops vals (Fs ++ ps) a0) w) :
    ∀ (fuel : Nat) (listed : Array Bool) (a : Act) (w : World), listed.toList.count false ≤ fuel → ParI ops bx (Fs ++ ps) T a0 W0 listed a w → wpAnyG P ops Q (fun _ => True) [] fuel listed a w := by
  simp only [parB, Bool.and_eq_true] at hB
  obtain ⟨⟨⟨⟨⟨⟨⟨b1, b2⟩, b3⟩, b4⟩, b5⟩, b8⟩, b6⟩, b7⟩ := hB
  have done : ∀ (fuel : Nat) (listed : Array Bool) (a : Act) (w : World), listed.toList.count false ≤ fuel → ParI ops bx (Fs ++ ps) T a0 W0 listed a w → (∀ i ∈ Fs ++ ps, listed.getD i false = true) → wpAnyG P ops Q (fun _ => True) [] fuel listed a w := by
    intro fuel listed a w hc h hall
    have hl : listed = ((List.range ops.size).map (fun i => (Fs ++ ps).contains i)).toArray := by
      apply Array.ext
      · simp [h.lsz]
      · intro i h1 h2
        have h3 : listed.getD i false = listed[i] := by simp [h1]
        simp only [List.getElem_toArray, List.getElem_map, List.getElem_range]
        cases e : listed[i] with
        | true =>
          have := h.sub i (by rw [h3, e])
          exact (List.contains_iff_mem.2 this).symm
        | false =>
          cases e2 : (Fs ++ ps).contains i with
          | false => rfl
          | true =>
            have := hall i (List.contains_iff_mem.1 e2)
            rw [h3, e] at this
            cases this
    have hch : ∀ i : Nat, ∃ v, i ∈ Fs ++ ps → ∃ d, dstOf ops i = some d ∧ a.tmps[d]? = some v ∧ T i v w := fun i => by
      by_cases hi : i ∈ Fs ++ ps
      · obtain ⟨d, v, h1, h2, h3⟩ := h.got i hi (hall i hi)
        exact ⟨v, fun _ => ⟨d, h1, h2, h3⟩⟩
      · exact ⟨undef, fun h2 => absurd h2 hi⟩
    obtain ⟨vals, hvals⟩ := Classical.skolem.1 hch
    obtain ⟨k1, k2, k3, k4⟩ := putAll_spec vals (Fs ++ ps) a0 rfl b2
    have ha : a = putAll ops vals (Fs ++ ps) a0 := by
      have ht : a.tmps = (putAll ops vals (Fs ++ ps) a0).tmps := by
        apply Array.ext_getElem?
        intro d
        by_cases hd : ∃ i ∈ Fs ++ ps, dstOf ops i = some d
        · obtain ⟨i, hi, hd⟩ := hd
          obtain ⟨d', h1, h2, _⟩ := hvals i hi
          rw [hd] at h1
          cases h1
          rw [h2, k4 i hi d hd]
        · rw [k3 d (fun i hi e => hd ⟨i, hi, e⟩)]
          exact h.old d (fun i hi _ e => hd ⟨i, hi, e⟩)
      have hd : a.defers = (putAll ops vals (Fs ++ ps) a0).defers := h.dfr.trans k2.symm
      cases a
      cases hp : putAll ops vals (Fs ++ ps) a0
      rw [hp] at ht hd
      simp only at ht hd
      rw [ht, hd]
    rw [hl] at hc ⊢
    rw [ha]
    exact wpAnyG_tail (Region.noSelect_spec b1) hQ ts fuel _ _ w (Nat.le_trans (of_decide_eq_true b7) hc) b6 (he vals w h.bel (fun i hi => by
      obtain ⟨_, _, _, h3⟩ := hvals i hi
      exact h3) fun i hi j hj hij e => by
        obtain ⟨d1, h1, h2, _⟩ := hvals i (hbF i hi)
        obtain ⟨d2, h3, h4, _⟩ := hvals j (hbF j hj)
        exact h.dis i hi j hj hij (hbF i hi) (hbF j hj) (hall i (hbF i hi)) (hall j (hbF j hj)) d1 d2 h1 h3 (by rw [h2, h4, e]))
  intro fuel
  induction fuel with
  | zero =>
    intro listed a w hc h
    refine done 0 listed a w hc h fun i hi => ?_
    have hr : Region.ready .any ops listed = [] := by
      cases hr : Region.ready .any ops listed with
      | nil => rfl
      | cons i r =>
        have h1 := ready_false (ops := ops) (listed := listed) (i := i) (by rw [hr]; simp)
        have := count_done h1
        omega
    exact all_listed2 b5 h.lsz hr i (of_decide_eq_true (List.all_eq_true.1 b3 i hi))
  | succ fuel ih =>
    intro listed a w hc h
    by_cases hall : ∀ i ∈ Fs ++ ps, listed.getD i false = true
    · exact done _ listed a w hc h hall
    · by_cases hpr : ∃ p ∈ ps, p ∈ Region.ready .any ops listed
      · obtain ⟨p, hpp, hpr⟩ := hpr
        have hpF : p ∈ Fs ++ ps := List.mem_append_right _ hpp
        obtain ⟨o, ho, hg, hpure⟩ := puresOk_mem hp p hpp
        obtain ⟨v, hv, hrun⟩ := hpure a w (fun j hj hdep => h.got j hj (dep_listed hdep hpr))
        have hdst : dstOf ops p = o.dst := by unfold dstOf; rw [ho]; rfl
        have h8 := List.all_eq_true.1 b8 p hpp
        simp only [Bool.and_eq_true] at h8
        have h1 := count_done (ready_false hpr)
        refine wpAnyG_ls (fun _ => trivial) _ _ _ _ (wpAnyG_pure (S := fun _ => True) (ls := [p]) ho (Region.noSelect_spec b1) (fun c a w => hQ c a w _ _) (by simp) fuel listed a w (apart_spec h.cls hpr ho h8.1) hpr (.inl ⟨by unfold Region.wanted; rw [hg], fun W _ => hrun W⟩) (wpAnyG_ls (fun _ => trivial) _ _ _ _ (ih _ (a.put o.dst v) w ?_ ?_)))
        · simp only [Array.toList_setIfInBounds]
          omega
        · rw [← hdst]
          exact h.step b2 hT hpF hpr (Below.refl _ _) hv (fun hb => absurd hb (hbx p hpp))
      · refine ⟨fun hr => absurd (fun i hi => all_listed2 b5 h.lsz hr i (of_decide_eq_true (List.all_eq_true.1 b3 i hi))) hall, fun i hi => ?_⟩
        have hip : i ∉ ps := fun hc2 => hpr ⟨i, hc2, hi⟩
        have hiF : i ∈ Fs := by
          by_cases hc2 : i ∈ Fs
          · exact hc2
          · exfalso
            have h4 := List.all_eq_true.1 b4 i (List.mem_range.2 (ready_lt hi))
            simp only [Bool.or_eq_true] at h4
            have hFs : ∀ f ∈ Fs, listed.getD f false = true := fun f hf => by
              rcases h4 with h4 | h4
              · rcases List.mem_append.1 (List.contains_iff_mem.1 h4) with h5 | h5
                · exact absurd h5 hc2
                · exact absurd h5 hip
              · obtain ⟨_, oj, hoj, hal⟩ := mem_ready.1 hi
                exact predR_listed h.cls (masks_pred (List.all_eq_true.1 h4 f hf)) oj hoj hal
            refine hall fun f hf => ?_
            rcases List.mem_append.1 hf with hf | hf
            · exact hFs f hf
            · cases e : listed.getD f false with
              | true => rfl
              | false =>
                exfalso
                have h8 := List.all_eq_true.1 b8 f hf
                simp only [Bool.and_eq_true] at h8
                have hlt := of_decide_eq_true (List.all_eq_true.1 b3 f (List.mem_append_right _ hf))
                have ho : ops[f]? = some ops[f] := Array.getElem?_eq_getElem hlt
                have h9 := h8.2
                rw [ho] at h9
                refine hpr ⟨f, hf, mem_ready.2 ⟨?_, ops[f], ho, fun e he hbd => ?_⟩⟩
                · have hls : f < listed.size := by rw [h.lsz]; exact hlt
                  simp [hls] at e ⊢
                  exact e
                · have := Array.all_eq_true'.1 h9 e he
                  simp only [Bool.or_eq_true, Bool.not_eq_true'] at this
                  rcases this with h10 | h10
                  · rw [hbd] at h10; cases h10
                  · exact hFs _ (List.contains_iff_mem.1 h10)
        obtain ⟨o, ho, hg, hstep⟩ := stepsOk_mem hs i hiF
        have h1 := count_done (ready_false hi)
        have hdst : dstOf ops i = o.dst := by unfold dstOf; rw [ho]; rfl
        refine inv_step ho (by unfold Region.wanted; rw [hg]) fun K hK => ?_
        refine hstep a w h.bel (fun d hd => h.old d fun j hj _ => hd j hj) (fun j hj hdep => h.got j hj (dep_listed hdep hi)) K fun v w' hb hv hx => ?_
        refine hK _ _ ⟨fun _ => trivial, ih _ _ w' ?_ ?_⟩
        · simp only [Array.toList_setIfInBounds]
          omega
        · rw [← hdst]
          exact h.step b2 hT (List.mem_append_left _ hiF) hi hb hv hx
/-- Fs: those of whatever order; ps: pure ones; ts: those behind, in one order; T i: what holds of what i yields. -/
theorem wp_region_par {id : Nat} {a : Act} {w : World} (bx Fs ps ts : List Nat) (T : Nat → Value → World → Prop) (hm : P.follows .mixedOrders = true) (hB : parB ops a.tmps.size Fs ps ts = true) (hT : ∀ i v w w', T i v w → Below w.heap.size w w' → T i v w')
    (hbx : (ps.all (fun p => !bx.contains p) && bx.all (fun b => (Fs ++ ps).contains b)) = true) (hs : stepsOk P ops (NoPanic Q) bx (Fs ++ ps) T a w.drew Fs) (hp : puresOk P ops (Fs ++ ps) T ps) (he : ∀ (vals : Nat → Value) (w' : World), Below w.drew.heap.size w.drew w' → (∀ i ∈ Fs ++ ps, T i (vals i) w') → (∀ i ∈ bx, ∀ j ∈ bx, i ≠ j → vals i ≠ vals j) → wpTail P ops (NoPanic Q) (fun _ => True) [] [] ts (putAll ops vals (Fs ++ ps) a) w') : (Code.region id ops true).wp P Q a w := by
  simp only [Bool.and_eq_true] at hbx
  refine wp_region_noPanic (wp_region_any hm (wpAny_of_G (S := fun _ => True) (ls := []) _ _ _ _ (wpAnyG_par (bx := bx) (fun _ _ _ _ _ h => h) hB hT (fun p hp hb => by
    have := List.all_eq_true.1 hbx.1 p hp
    rw [List.contains_iff_mem.2 hb] at this
    cases this) (fun b hb => List.contains_iff_mem.1 (List.all_eq_true.1 hbx.2 b hb)) hs hp he ops.size _ a _ ?_ ?_)))
  · simp
  · refine ⟨Below.refl _ _, rfl, rfl, fun _ _ => rfl, fun i _ hl => ?_, fun i hl => ?_, closed_none _, by simp, fun i _ j _ _ _ _ hl _ => ?_⟩
    · rcases Nat.lt_or_ge i ops.size with h | h
      · simp [h] at hl
      · simp [h] at hl
    · rcases Nat.lt_or_ge i ops.size with h | h
      · simp [h] at hl
      · simp [h] at hl
    · rcases Nat.lt_or_ge i ops.size with h | h
      · simp [h] at hl
      · simp [h] at hl
end
end Go.Proofs.YtndhmahkglfopaaGreatDoor
