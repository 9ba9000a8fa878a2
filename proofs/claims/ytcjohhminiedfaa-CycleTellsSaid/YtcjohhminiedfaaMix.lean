/- A region that draws its order, where some operations yield one value in every world of a class and the others come in one order: walked once. -/
import Derived.Test.YtcjohhminiedfaaBase
import Derived.OrdersHeld
import Derived.Deep.RegionHeld3
namespace Go.Proofs.Ytcjohhminiedfaa
open Go.RowKit
section
variable {P : Program} {ops : Array Oper} {Q : Exit → Act → World → Prop} {S : World → Prop} {ls : List Nat}

/-- Whatever order is picked from here on; S holds behind every operation that is not one of ls. -/
def wpAnyG (P : Program) (ops : Array Oper) (Q : Exit → Act → World → Prop) (S : World → Prop) (ls : List Nat) : Nat → Array Bool → Act → World → Prop
  | 0, listed, a, w => Region.ready .any ops listed = [] ∧ Q .normal a w
  | fuel + 1, listed, a, w =>
    (Region.ready .any ops listed = [] → Q .normal a w) ∧
    ∀ i ∈ Region.ready .any ops listed, wpOp P ops Q i (fun a' w' => (i ∉ ls → S w') ∧ wpAnyG P ops Q S ls fuel (listed.setIfInBounds i true) a' w') a w

theorem wpAny_of_G : ∀ (fuel : Nat) (listed : Array Bool) (a : Act) (w : World), wpAnyG P ops Q S ls fuel listed a w → wpAny P .any ops Q fuel listed a w
  | 0, _, _, _, h => h
  | fuel + 1, _, _, _, h => ⟨h.1, fun i hi => wpOp_mono (fun a' w' h' => wpAny_of_G fuel _ a' w' h'.2) (h.2 i hi)⟩

/-- Number i comes ahead of number j, by edges that always bind. -/
def predB (ops : Array Oper) (i : Nat) : Nat → Nat → Bool
  | 0, _ => false
  | n + 1, j => match ops[j]? with
    | some o => o.after.any fun e => Region.binds .any e && (e.on == i || predB ops i n e.on)
    | none => false
def Closed (ops : Array Oper) (listed : Array Bool) : Prop :=
  ∀ (j : Nat) (oj : Oper), ops[j]? = some oj → listed.getD j false = true → ∀ e ∈ oj.after, Region.binds .any e = true → listed.getD e.on false = true
theorem pred_listed {listed : Array Bool} (hc : Closed ops listed) {i : Nat} : ∀ (n j : Nat) (oj : Oper), ops[j]? = some oj → (∀ e ∈ oj.after, Region.binds .any e = true → listed.getD e.on false = true) → predB ops i n j = true → listed.getD i false = true
  | 0, _, _, _, _, h => by cases h
  | n + 1, j, oj, hj, hall, h => by
    unfold predB at h
    rw [hj] at h
    obtain ⟨e, he, hb⟩ := Array.any_eq_true'.1 h
    simp only [Bool.and_eq_true, Bool.or_eq_true, beq_iff_eq] at hb
    have hl := hall e he hb.1
    rcases hb.2 with h1 | h1
    · rw [← h1]; exact hl
    · cases ho : ops[e.on]? with
      | none =>
        cases n with
        | zero => cases h1
        | succ n => unfold predB at h1; rw [ho] at h1; cases h1
      | some oe => exact pred_listed hc n e.on oe ho (hc e.on oe ho hl) h1
theorem Closed.set {listed : Array Bool} (hc : Closed ops listed) {i : Nat} (hi : i ∈ Region.ready .any ops listed) : Closed ops (listed.setIfInBounds i true) := by
  obtain ⟨_, oi, hoi, hall⟩ := mem_ready.1 hi
  intro j oj hj hl e he hb
  by_cases hij : i = j
  · subst hij
    have : oj = oi := Option.some.inj (hj.symm.trans hoi)
    subst this
    exact getD_set_true (hall e he hb)
  · rw [getD_set_ne false hij] at hl
    exact getD_set_true (hc j oj hj hl e he hb)

theorem wpAnyG_first {i : Nat} {oi : Oper} {v : Value} (hi : ops[i]? = some oi) (hsel : ∀ (j : Nat) (o : Oper) cs b, ops[j]? = some o → o.op ≠ .select cs b)
    (hQ : ∀ c a w, Q (.panic c) (a.put oi.dst v) w → Q (.panic c) a w) (hil : i ∉ ls) (hneed : ∀ j ∈ ls, predB ops i ops.size j = true) :
    ∀ (fuel : Nat) (listed : Array Bool) (a : Act) (w : World), Closed ops listed →
      (∀ j oj, ops[j]? = some oj → j ≠ i → listed.getD j true = false → (∀ e ∈ oj.after, Region.binds .any e = true → e.on ≠ i) → oi.apart ops oj = true) →
      i ∈ Region.ready .any ops listed → YieldsIf P ops S oi v a → S w →
      wpAnyG P ops Q S ls fuel (listed.setIfInBounds i true) (a.put oi.dst v) w → wpAnyG P ops Q S ls (fuel + 1) listed a w := by
  intro fuel
  induction fuel with
  | zero =>
    intro listed a w _ _ hr hy hS H
    refine ⟨fun h => (by rw [h] at hr; cases hr), fun j hj => ?_⟩
    by_cases hji : j = i
    · subst hji; exact hy.wpOp hi hS ⟨fun _ => hS, H⟩
    · have := ready_mono hj hji
      rw [H.1] at this
      cases this
  | succ fuel ih =>
    intro listed a w hcl hfree hr hy hS H
    refine ⟨fun h => (by rw [h] at hr; cases hr), fun j hj => ?_⟩
    by_cases hji : j = i
    · subst hji; exact hy.wpOp hi hS ⟨fun _ => hS, H⟩
    · have h1 := H.2 j (ready_mono hj hji)
      obtain ⟨hjun, oj, hoj, hall⟩ := mem_ready.1 hj
      have hiun : listed.getD i false = false := by
        have h0 := (mem_ready.1 hr).1
        rcases Nat.lt_or_ge i listed.size with h' | h'
        · simp [h'] at h0 ⊢; exact h0
        · simp [Array.getElem?_eq_none h'] at h0
      have hjl : j ∉ ls := fun hm => by
        have := pred_listed hcl _ j oj hoj hall (hneed j hm)
        rw [hiun] at this
        cases this
      have hnot : ∀ e ∈ oj.after, Region.binds .any e = true → e.on ≠ i := fun e he hb heq => by
        have h1 := hall e he hb
        rw [heq, hiun] at h1
        cases h1
      have h2 := wpOp_putIf hoj (hfree j oj hoj hji hjun hnot) (fun cs b => hsel i oi cs b hi) (fun cs b => hsel j oj cs b hoj) hQ hy h1
      have hfree' : ∀ k ok, ops[k]? = some ok → k ≠ i → (listed.setIfInBounds j true).getD k true = false →
          (∀ e ∈ ok.after, Region.binds .any e = true → e.on ≠ i) → oi.apart ops ok = true := fun k ok hk hki hun hno => by
        refine hfree k ok hk hki ?_ hno
        by_cases hjk : j = k
        · subst hjk; exact hjun
        · rw [getD_set_ne true hjk] at hun; exact hun
      refine wpOp_mono (fun a' w' h3 => ?_) h2
      obtain ⟨hy3, hS3, H3⟩ := h3
      refine ⟨hS3, ih (listed.setIfInBounds j true) a' w' (hcl.set hj) hfree' (ready_mono hr (Ne.symm hji)) hy3 (hS3 hjl) ?_⟩
      rw [Array.setIfInBounds_comm _ _ hji]
      exact H3

theorem wpAnyG_pure {i : Nat} {oi : Oper} {v : Value} (hi : ops[i]? = some oi) (hsel : ∀ (j : Nat) (o : Oper) cs b, ops[j]? = some o → o.op ≠ .select cs b)
    (hQ : ∀ c a w, Q (.panic c) (a.put oi.dst v) w → Q (.panic c) a w) (hil : i ∈ ls) :
    ∀ (fuel : Nat) (listed : Array Bool) (a : Act) (w : World),
      (∀ j oj, ops[j]? = some oj → j ≠ i → listed.getD j true = false → (∀ e ∈ oj.after, Region.binds .any e = true → e.on ≠ i) → oi.apart ops oj = true) →
      i ∈ Region.ready .any ops listed → YieldsIf P ops (fun _ => True) oi v a →
      wpAnyG P ops Q S ls fuel (listed.setIfInBounds i true) (a.put oi.dst v) w → wpAnyG P ops Q S ls (fuel + 1) listed a w := by
  intro fuel
  induction fuel with
  | zero =>
    intro listed a w _ hr hy H
    refine ⟨fun h => (by rw [h] at hr; cases hr), fun j hj => ?_⟩
    by_cases hji : j = i
    · subst hji; exact hy.wpOp hi trivial ⟨fun h => absurd hil h, H⟩
    · have := ready_mono hj hji
      rw [H.1] at this
      cases this
  | succ fuel ih =>
    intro listed a w hfree hr hy H
    refine ⟨fun h => (by rw [h] at hr; cases hr), fun j hj => ?_⟩
    by_cases hji : j = i
    · subst hji; exact hy.wpOp hi trivial ⟨fun h => absurd hil h, H⟩
    · have h1 := H.2 j (ready_mono hj hji)
      obtain ⟨hjun, oj, hoj, hall⟩ := mem_ready.1 hj
      have hiun : listed.getD i false = false := by
        have h0 := (mem_ready.1 hr).1
        rcases Nat.lt_or_ge i listed.size with h' | h'
        · simp [h'] at h0 ⊢; exact h0
        · simp [Array.getElem?_eq_none h'] at h0
      have hnot : ∀ e ∈ oj.after, Region.binds .any e = true → e.on ≠ i := fun e he hb heq => by
        have h1 := hall e he hb
        rw [heq, hiun] at h1
        cases h1
      have h2 := wpOp_putIf hoj (hfree j oj hoj hji hjun hnot) (fun cs b => hsel i oi cs b hi) (fun cs b => hsel j oj cs b hoj) hQ hy h1
      have hfree' : ∀ k ok, ops[k]? = some ok → k ≠ i → (listed.setIfInBounds j true).getD k true = false →
          (∀ e ∈ ok.after, Region.binds .any e = true → e.on ≠ i) → oi.apart ops ok = true := fun k ok hk hki hun hno => by
        refine hfree k ok hk hki ?_ hno
        by_cases hjk : j = k
        · subst hjk; exact hjun
        · rw [getD_set_ne true hjk] at hun; exact hun
      refine wpOp_mono (fun a' w' h3 => ?_) h2
      obtain ⟨hy3, hS3, H3⟩ := h3
      refine ⟨hS3, ih (listed.setIfInBounds j true) a' w' hfree' (ready_mono hr (Ne.symm hji)) hy3 ?_⟩
      rw [Array.setIfInBounds_comm _ _ hji]
      exact H3

/-- The first ones, each with one value in every world of the class. -/
def wpFirst (P : Program) (ops : Array Oper) (S : World → Prop) (K : Act → Prop) : List Nat → Act → Prop
  | [], a => K a
  | i :: rest, a => ∃ o v, ops[i]? = some o ∧ YieldsIf P ops S o v a ∧ wpFirst P ops S K rest (a.put o.dst v)
/-- The others, in their order; those of ps are pure and may stand beside others. -/
def wpTail (P : Program) (ops : Array Oper) (Q : Exit → Act → World → Prop) (S : World → Prop) (ls ps : List Nat) : List Nat → Act → World → Prop
  | [], a, w => Q .normal a w
  | i :: rest, a, w => if ps.contains i then ∃ o v, ops[i]? = some o ∧ YieldsIf P ops (fun _ => True) o v a ∧ wpTail P ops Q S ls ps rest (a.put o.dst v) w
    else wpOp P ops Q i (fun a' w' => (i ∉ ls → S w') ∧ wpTail P ops Q S ls ps rest a' w') a w

def mixT (ops : Array Oper) (ls ps : List Nat) : List Nat → Array Bool → Bool
  | t :: ts, listed => (if ps.contains t then Region.free .any ops listed t && (Region.ready .any ops listed).contains t && ls.contains t else Region.ready .any ops listed == [t]) && mixT ops ls ps ts (listed.setIfInBounds t true)
  | [], listed => (Region.ready .any ops listed).isEmpty
def mixB (ops : Array Oper) (ls ps : List Nat) (ts : List Nat) : List Nat → Array Bool → Bool
  | i :: fs, listed => Region.free .any ops listed i && (Region.ready .any ops listed).contains i && !ls.contains i && ls.all (predB ops i ops.size) && mixB ops ls ps ts fs (listed.setIfInBounds i true)
  | [], listed => mixT ops ls ps ts listed

theorem wpAnyG_tail {ps : List Nat} (hsel : ∀ (j : Nat) (o : Oper) cs b, ops[j]? = some o → o.op ≠ .select cs b) (hQ : ∀ c a w d v, Q (.panic c) (a.put d v) w → Q (.panic c) a w) :
    ∀ (ts : List Nat) (fuel : Nat) (listed : Array Bool) (a : Act) (w : World), ts.length ≤ fuel → mixT ops ls ps ts listed = true → wpTail P ops Q S ls ps ts a w → wpAnyG P ops Q S ls fuel listed a w
  | [], 0, listed, a, w, _, hB, h => ⟨by simpa [mixT] using hB, h⟩
  | [], fuel + 1, listed, a, w, _, hB, h => ⟨fun _ => h, fun i hi => by
      have : Region.ready .any ops listed = [] := by simpa [mixT] using hB
      rw [this] at hi; cases hi⟩
  | t :: ts, 0, listed, a, w, hf, hB, h => by simp at hf
  | t :: ts, fuel + 1, listed, a, w, hf, hB, h => by
    simp only [mixT, Bool.and_eq_true] at hB
    unfold wpTail at h
    cases hp : ps.contains t with
    | true =>
      rw [hp] at hB h
      simp only [if_true, Bool.and_eq_true] at hB h
      obtain ⟨o, v, ho, hy, hn⟩ := h
      obtain ⟨⟨⟨h1, h2⟩, h3⟩, h4⟩ := hB
      exact wpAnyG_pure ho hsel (fun c a w => hQ c a w _ _) (by simpa using h3) fuel listed a w (Region.free_spec ho h1) (by simpa using h2) hy
        (wpAnyG_tail hsel hQ ts fuel _ _ w (by simp at hf; omega) h4 hn)
    | false =>
      rw [hp] at hB h
      simp only [Bool.false_eq_true, if_false, beq_iff_eq] at hB h
      refine ⟨fun h0 => (by rw [hB.1] at h0; cases h0), fun i hi => ?_⟩
      rw [hB.1] at hi
      obtain rfl : i = t := by simpa using hi
      exact wpOp_mono (fun a' w' h' => ⟨h'.1, wpAnyG_tail hsel hQ ts fuel _ a' w' (by simp at hf; omega) hB.2 h'.2⟩) h

theorem wpAnyG_mix {ps : List Nat} (hsel : ∀ (j : Nat) (o : Oper) cs b, ops[j]? = some o → o.op ≠ .select cs b) (hQ : ∀ c a w d v, Q (.panic c) (a.put d v) w → Q (.panic c) a w) :
    ∀ (fs ts : List Nat) (fuel : Nat) (listed : Array Bool) (a : Act) (w : World), Closed ops listed → fs.length + ts.length ≤ fuel → mixB ops ls ps ts fs listed = true → S w →
      wpFirst P ops S (fun a' => wpTail P ops Q S ls ps ts a' w) fs a → wpAnyG P ops Q S ls fuel listed a w
  | [], ts, fuel, listed, a, w, _, hf, hB, _, h => wpAnyG_tail hsel hQ ts fuel listed a w (by simpa using hf) hB h
  | i :: fs, ts, 0, listed, a, w, _, hf, hB, _, h => by simp at hf
  | i :: fs, ts, fuel + 1, listed, a, w, hcl, hf, hB, hS, h => by
    obtain ⟨o, v, ho, hy, hn⟩ := h
    simp only [mixB, Bool.and_eq_true] at hB
    obtain ⟨⟨⟨⟨h1, h2⟩, h3⟩, h4⟩, h5⟩ := hB
    have hr : i ∈ Region.ready .any ops listed := by simpa using h2
    exact wpAnyG_first ho hsel (fun c a w => hQ c a w _ _) (by simpa using h3) (fun j hj => List.all_eq_true.1 h4 j hj) fuel listed a w hcl (Region.free_spec ho h1) hr hy hS
      (wpAnyG_mix hsel hQ fs ts fuel _ _ w (hcl.set hr) (by simp at hf; omega) h5 hS hn)

theorem closed_none (n : Nat) : Closed ops (Array.replicate n false) := fun j oj _ hl => by
  rcases Nat.lt_or_ge j n with h | h
  · simp [h] at hl
  · simp [h] at hl

theorem wp_region_mix3 {id : Nat} {a : Act} {w : World} (fs ts ls ps : List Nat) (S : World → Prop) (hm : P.follows .mixedOrders = true)
    (hB : (Region.noSelect ops && decide (fs.length + ts.length ≤ ops.size) && mixB ops ls ps ts fs (Array.replicate ops.size false)) = true)
    (hS : S w.drew) (h : wpFirst P ops S (fun a' => wpTail P ops (NoPanic Q) S ls ps ts a' w.drew) fs a) : (Code.region id ops true).wp P Q a w := by
  simp only [Bool.and_eq_true, decide_eq_true_eq] at hB
  exact wp_region_noPanic (wp_region_any hm (wpAny_of_G _ _ _ _ (wpAnyG_mix (Region.noSelect_spec hB.1.1) (fun _ _ _ _ _ h => h) fs ts ops.size _ a _ (closed_none _) hB.1.2 hB.2 hS h)))
theorem wp_region_mix {id : Nat} {a : Act} {w : World} (fs ts ls : List Nat) (S : World → Prop) (hm : P.follows .mixedOrders = true)
    (hB : (Region.noSelect ops && decide (fs.length + ts.length ≤ ops.size) && mixB ops ls [] ts fs (Array.replicate ops.size false)) = true)
    (hS : S w.drew) (h : wpFirst P ops S (fun a' => wpTail P ops (NoPanic Q) S ls [] ts a' w.drew) fs a) : (Code.region id ops true).wp P Q a w :=
  wp_region_mix3 fs ts ls [] S hm hB hS h

theorem ho_zero {o : Oper} {l : List Oper} : (o :: l).toArray[0]? = some o := by simp
theorem ho_succ {x o : Oper} {l : List Oper} {i : Nat} (h : l.toArray[i]? = some o) : (x :: l).toArray[i + 1]? = some o := by simpa using h
theorem first_step {K : Act → Prop} {i : Nat} {rest : List Nat} {a : Act} {o : Oper} {v : Value} (ho : ops[i]? = some o) (hw : Region.wanted o (yielded ops a.tmps) = true)
    (hv : ∀ W, S W → (execOp a.eval o).run P W = .ok (.value v) W) (h : wpFirst P ops S K rest (a.put o.dst v)) : wpFirst P ops S K (i :: rest) a :=
  ⟨o, v, ho, .inl ⟨hw, hv⟩, h⟩
theorem first_skip {K : Act → Prop} {i : Nat} {rest : List Nat} {a : Act} {o : Oper} (ho : ops[i]? = some o) (hw : Region.wanted o (yielded ops a.tmps) = false)
    (h : wpFirst P ops S K rest (a.put o.dst undef)) : wpFirst P ops S K (i :: rest) a :=
  ⟨o, undef, ho, .inr ⟨hw, rfl⟩, h⟩
theorem first_done {K : Act → Prop} {a : Act} (h : K a) : wpFirst P ops S K [] a := h
theorem tail_step {ps : List Nat} {i : Nat} {rest : List Nat} {a : Act} {w : World} {o : Oper} (ho : ops[i]? = some o) (hp : ps.contains i = false) (hw : Region.wanted o (yielded ops a.tmps) = true)
    (h : ∀ K : Act → World → Prop, (∀ a w, (i ∉ ls → S w) → wpTail P ops Q S ls ps rest a w → K a w) → o.wp P a w K Q) : wpTail P ops Q S ls ps (i :: rest) a w := by
  unfold wpTail
  rw [hp]
  simp only [Bool.false_eq_true, if_false]
  unfold wpOp
  rw [ho]
  simp only [hw, if_true]
  exact .inl (h _ fun a w h1 h2 => ⟨h1, h2⟩)
theorem tail_skip {ps : List Nat} {i : Nat} {rest : List Nat} {a : Act} {w : World} {o : Oper} (ho : ops[i]? = some o) (hp : ps.contains i = false) (hw : Region.wanted o (yielded ops a.tmps) = false)
    (hS : i ∉ ls → S w) (h : wpTail P ops Q S ls ps rest (a.put o.dst undef) w) : wpTail P ops Q S ls ps (i :: rest) a w := by
  unfold wpTail
  rw [hp]
  simp only [Bool.false_eq_true, if_false]
  unfold wpOp
  rw [ho]
  simp only [hw, Bool.false_eq_true, if_false]
  exact ⟨hS, h⟩
theorem tail_pure {ps : List Nat} {i : Nat} {rest : List Nat} {a : Act} {w : World} {o : Oper} {v : Value} (ho : ops[i]? = some o) (hp : ps.contains i = true) (hw : Region.wanted o (yielded ops a.tmps) = true)
    (hv : ∀ W, (execOp a.eval o).run P W = .ok (.value v) W) (h : wpTail P ops Q S ls ps rest (a.put o.dst v) w) : wpTail P ops Q S ls ps (i :: rest) a w := by
  unfold wpTail
  rw [hp]
  simp only [if_true]
  exact ⟨o, v, ho, .inl ⟨hw, fun W _ => hv W⟩, h⟩
theorem tail_done {ps : List Nat} {a : Act} {w : World} (h : Q .normal a w) : wpTail P ops (NoPanic Q) S ls ps [] a w := h
end
end Go.Proofs.Ytcjohhminiedfaa
