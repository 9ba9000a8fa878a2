/- A region that draws its order, walked in phases: in each phase some operations yield one value in every world of a class, then others come in one order. -/
import Derived.Test.YtcjohhminiedfaaMix
namespace Go.Proofs.Ytcjohhminiedfaa
open Go.RowKit
section
variable {P : Program} {ops : Array Oper} {Q : Exit → Act → World → Prop}
def wpForced (P : Program) (ops : Array Oper) (Q : Exit → Act → World → Prop) (S : World → Prop) (ls : List Nat) (K : Act → World → Prop) : List Nat → Act → World → Prop
  | [], a, w => K a w
  | i :: rest, a, w => wpOp P ops Q i (fun a' w' => (i ∉ ls → S w') ∧ wpForced P ops Q S ls K rest a' w') a w
def wpMulti (P : Program) (ops : Array Oper) (Q : Exit → Act → World → Prop) : List (List Nat × List Nat × List Nat) → Act → World → Prop
  | [], a, w => Q .normal a w
  | ph :: rest, a, w => ∃ S : World → Prop, S w ∧ wpFirst P ops S (fun a' => wpForced P ops Q S ph.2.2 (wpMulti P ops Q rest) ph.2.1 a' w) ph.1 a
def listAll : List Nat → Array Bool → Array Bool
  | [], l => l
  | i :: is, l => listAll is (l.setIfInBounds i true)
def forcedB (ops : Array Oper) : List Nat → Array Bool → Bool
  | t :: ts, listed => (Region.ready .any ops listed == [t]) && forcedB ops ts (listed.setIfInBounds t true)
  | [], _ => true
def firstB (ops : Array Oper) (ls : List Nat) : List Nat → Array Bool → Bool
  | i :: fs, listed => Region.free .any ops listed i && (Region.ready .any ops listed).contains i && !ls.contains i && ls.all (predB ops i ops.size) && firstB ops ls fs (listed.setIfInBounds i true)
  | [], _ => true
/-- All that is left is in ls. -/
def leftB (ops : Array Oper) (ls : List Nat) (listed : Array Bool) : Bool := (List.range ops.size).all fun j => listed.getD j false || ls.contains j
def multiB (ops : Array Oper) : List (List Nat × List Nat × List Nat) → Array Bool → Bool
  | ph :: rest, listed => firstB ops ph.2.2 ph.1 listed && forcedB ops ph.2.1 (listAll ph.1 listed) && leftB ops ph.2.2 (listAll ph.2.1 (listAll ph.1 listed)) && multiB ops rest (listAll ph.2.1 (listAll ph.1 listed))
  | [], listed => (Region.ready .any ops listed).isEmpty

theorem wpAnyG_of_any {S : World → Prop} {ls : List Nat} : ∀ (fuel : Nat) (listed : Array Bool) (a : Act) (w : World), (∀ j, j < ops.size → listed.getD j false = true ∨ j ∈ ls) → wpAny P .any ops Q fuel listed a w → wpAnyG P ops Q S ls fuel listed a w
  | 0, _, _, _, _, h => h
  | fuel + 1, listed, a, w, hl, h => ⟨h.1, fun i hi => wpOp_mono (fun a' w' h' => ⟨fun hn => by
      exfalso
      obtain ⟨h0, o, ho, _⟩ := mem_ready.1 hi
      have hlt : i < ops.size := (Array.getElem?_eq_some_iff.1 ho).1
      rcases hl i hlt with h1 | h1
      · rcases Nat.lt_or_ge i listed.size with h' | h'
        · simp [h'] at h0 h1; rw [h0] at h1; cases h1
        · simp [Array.getElem?_eq_none h'] at h1
      · exact hn h1, wpAnyG_of_any fuel _ a' w' (fun j hj => (hl j hj).imp (fun h => getD_set_true h) id) h'⟩) (h.2 i hi)⟩

theorem wpAnyG_forced {S : World → Prop} {ls : List Nat} {K : Act → World → Prop} : ∀ (ts : List Nat) (fuel : Nat) (listed : Array Bool) (a : Act) (w : World), ts.length ≤ fuel → Closed ops listed → forcedB ops ts listed = true →
    (∀ fuel' a' w', fuel' + ts.length = fuel → Closed ops (listAll ts listed) → K a' w' → wpAnyG P ops Q S ls fuel' (listAll ts listed) a' w') → wpForced P ops Q S ls K ts a w → wpAnyG P ops Q S ls fuel listed a w
  | [], fuel, listed, a, w, _, hc, _, hK, h => hK fuel a w (by simp) hc h
  | t :: ts, 0, listed, a, w, hf, _, _, _, _ => by simp at hf
  | t :: ts, fuel + 1, listed, a, w, hf, hc, hB, hK, h => by
    simp only [forcedB, Bool.and_eq_true, beq_iff_eq] at hB
    have hr : t ∈ Region.ready .any ops listed := by rw [hB.1]; simp
    refine ⟨fun h0 => (by rw [hB.1] at h0; cases h0), fun i hi => ?_⟩
    rw [hB.1] at hi
    obtain rfl : i = t := by simpa using hi
    exact wpOp_mono (fun a' w' h' => ⟨h'.1, wpAnyG_forced ts fuel _ a' w' (by simp at hf; omega) (hc.set hr) hB.2 (fun f' a'' w'' he hc' hk => hK f' a'' w'' (by simp; omega) hc' hk) h'.2⟩) h

theorem wpAnyG_firsts {S : World → Prop} {ls : List Nat} {K : Act → Prop} (hsel : ∀ (j : Nat) (o : Oper) cs b, ops[j]? = some o → o.op ≠ .select cs b) (hQ : ∀ c a w d v, Q (.panic c) (a.put d v) w → Q (.panic c) a w) :
    ∀ (fs : List Nat) (fuel : Nat) (listed : Array Bool) (a : Act) (w : World), fs.length ≤ fuel → Closed ops listed → firstB ops ls fs listed = true → S w →
      (∀ fuel' a', fuel' + fs.length = fuel → Closed ops (listAll fs listed) → K a' → wpAnyG P ops Q S ls fuel' (listAll fs listed) a' w) → wpFirst P ops S K fs a → wpAnyG P ops Q S ls fuel listed a w
  | [], fuel, listed, a, w, _, hc, _, _, hK, h => hK fuel a (by simp) hc h
  | i :: fs, 0, listed, a, w, hf, _, _, _, _, _ => by simp at hf
  | i :: fs, fuel + 1, listed, a, w, hf, hcl, hB, hS, hK, h => by
    obtain ⟨o, v, ho, hy, hn⟩ := h
    simp only [firstB, Bool.and_eq_true] at hB
    obtain ⟨⟨⟨⟨h1, h2⟩, h3⟩, h4⟩, h5⟩ := hB
    have hr : i ∈ Region.ready .any ops listed := by simpa using h2
    exact wpAnyG_first ho hsel (fun c a w => hQ c a w _ _) (by simpa using h3) (fun j hj => List.all_eq_true.1 h4 j hj) fuel listed a w hcl (Region.free_spec ho h1) hr hy hS
      (wpAnyG_firsts hsel hQ fs fuel _ _ w (by simp at hf; omega) (hcl.set hr) h5 hS (fun f' a' he hc' hk => hK f' a' (by simp; omega) hc' hk) hn)

def phLen : List (List Nat × List Nat × List Nat) → Nat
  | [] => 0
  | ph :: rest => ph.1.length + ph.2.1.length + phLen rest

theorem wpAny_multi (hsel : ∀ (j : Nat) (o : Oper) cs b, ops[j]? = some o → o.op ≠ .select cs b) (hQ : ∀ c a w d v, Q (.panic c) (a.put d v) w → Q (.panic c) a w) :
    ∀ (phs : List (List Nat × List Nat × List Nat)) (fuel : Nat) (listed : Array Bool) (a : Act) (w : World), phLen phs ≤ fuel → Closed ops listed → multiB ops phs listed = true → wpMulti P ops Q phs a w → wpAny P .any ops Q fuel listed a w
  | [], 0, listed, a, w, _, _, hB, h => ⟨by simpa [multiB] using hB, h⟩
  | [], fuel + 1, listed, a, w, _, _, hB, h => ⟨fun _ => h, fun i hi => by
      have : Region.ready .any ops listed = [] := by simpa [multiB] using hB
      rw [this] at hi; cases hi⟩
  | ph :: rest, fuel, listed, a, w, hf, hcl, hB, h => by
    obtain ⟨S, hS, h⟩ := h
    simp only [multiB, Bool.and_eq_true] at hB
    obtain ⟨⟨⟨h1, h2⟩, h3⟩, h4⟩ := hB
    simp only [phLen] at hf
    refine wpAny_of_G (S := S) (ls := ph.2.2) _ _ _ _ (wpAnyG_firsts hsel hQ ph.1 fuel listed a w (by omega) hcl h1 hS ?_ h)
    intro f1 a1 he1 hc1 hk1
    refine wpAnyG_forced ph.2.1 f1 _ a1 w (by omega) hc1 h2 ?_ hk1
    intro f2 a2 w2 he2 hc2 hk2
    refine wpAnyG_of_any f2 _ a2 w2 (fun j hj => ?_) (wpAny_multi hsel hQ rest f2 _ a2 w2 (by omega) hc2 h4 hk2)
    have := List.all_eq_true.1 h3 j (List.mem_range.2 hj)
    simpa using this

theorem wp_region_multi {id : Nat} {a : Act} {w : World} (phs : List (List Nat × List Nat × List Nat)) (hm : P.follows .mixedOrders = true)
    (hB : (Region.noSelect ops && decide (phLen phs ≤ ops.size) && multiB ops phs (Array.replicate ops.size false)) = true)
    (h : wpMulti P ops (NoPanic Q) phs a w.drew) : (Code.region id ops true).wp P Q a w := by
  simp only [Bool.and_eq_true, decide_eq_true_eq] at hB
  exact wp_region_noPanic (wp_region_any hm (wpAny_multi (Region.noSelect_spec hB.1.1) (fun _ _ _ _ _ h => h) phs ops.size _ a _ hB.1.2 (closed_none _) hB.2 h))

theorem multi_phase {fs ts ls : List Nat} {rest : List (List Nat × List Nat × List Nat)} {a : Act} {w : World} (S : World → Prop) (hS : S w)
    (h : wpFirst P ops S (fun a' => wpForced P ops Q S ls (wpMulti P ops Q rest) ts a' w) fs a) : wpMulti P ops Q ((fs, ts, ls) :: rest) a w := ⟨S, hS, h⟩
theorem multi_done {a : Act} {w : World} (h : Q .normal a w) : wpMulti P ops (NoPanic Q) [] a w := h
theorem forced_done {S : World → Prop} {ls : List Nat} {K : Act → World → Prop} {a : Act} {w : World} (h : K a w) : wpForced P ops Q S ls K [] a w := h
theorem forced_step {S : World → Prop} {ls : List Nat} {K : Act → World → Prop} {i : Nat} {rest : List Nat} {a : Act} {w : World} {o : Oper} (ho : ops[i]? = some o) (hw : Region.wanted o (yielded ops a.tmps) = true)
    (h : ∀ K' : Act → World → Prop, (∀ a w, (i ∉ ls → S w) → wpForced P ops Q S ls K rest a w → K' a w) → o.wp P a w K' Q) : wpForced P ops Q S ls K (i :: rest) a w := by
  unfold wpForced wpOp
  rw [ho]
  simp only [hw, if_true]
  exact .inl (h _ fun a w h1 h2 => ⟨h1, h2⟩)
theorem forced_skip {S : World → Prop} {ls : List Nat} {K : Act → World → Prop} {i : Nat} {rest : List Nat} {a : Act} {w : World} {o : Oper} (ho : ops[i]? = some o) (hw : Region.wanted o (yielded ops a.tmps) = false)
    (hS : i ∉ ls → S w) (h : wpForced P ops Q S ls K rest (a.put o.dst undef) w) : wpForced P ops Q S ls K (i :: rest) a w := by
  unfold wpForced wpOp
  rw [ho]
  simp only [hw, Bool.false_eq_true, if_false]
  exact ⟨hS, h⟩
end
end Go.Proofs.Ytcjohhminiedfaa
