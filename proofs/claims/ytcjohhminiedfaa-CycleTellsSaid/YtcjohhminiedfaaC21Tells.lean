/- CycleTells: the walk. -/
import Derived.Test.YtcjohhminiedfaaC21TellsP
import Derived.Test.YtcjohhminiedfaaC21MoreQ
import Derived.Test.YtcjohhminiedfaaMapRange
import Derived.Test.YtcjohhminiedfaaInv
import Derived.Deep.DeepCutAuto
namespace Go.Proofs.Ytcjohhminiedfaa
open Go.RowKit
inductive OT
  | nil
  | one (i : Nat) (r : OT)
  | two (t u : Nat) (x y : OT)
section
variable {P : Program} {ops : Array Oper} {Q : Exit → Act → World → Prop}
def trB (ops : Array Oper) : OT → Array Bool → Bool
  | .nil, l => (Region.ready .any ops l).isEmpty
  | .one i r, l => (Region.ready .any ops l == [i]) && trB ops r (l.setIfInBounds i true)
  | .two t u x y, l => (Region.ready .any ops l == [t, u]) && trB ops x (l.setIfInBounds t true) && trB ops y (l.setIfInBounds u true)
def trN : OT → Nat
  | .nil => 0
  | .one _ r => trN r + 1
  | .two _ _ x y => max (trN x) (trN y) + 1
def wpTr (P : Program) (ops : Array Oper) (Q : Exit → Act → World → Prop) : OT → Act → World → Prop
  | .nil, a, w => Q .normal a w
  | .one i r, a, w => wpOp P ops Q i (fun a' w' => wpTr P ops Q r a' w') a w
  | .two t u x y, a, w => wpOp P ops Q t (fun a' w' => wpTr P ops Q x a' w') a w ∧ wpOp P ops Q u (fun a' w' => wpTr P ops Q y a' w') a w
theorem wpAnyG_tr {S : World → Prop} {ls : List Nat} (hS : ∀ W, S W) : ∀ (r : OT) (fuel : Nat) (listed : Array Bool) (a : Act) (w : World), trN r ≤ fuel → trB ops r listed = true → wpTr P ops Q r a w → wpAnyG P ops Q S ls fuel listed a w := by
  intro r
  induction r with
  | nil =>
    intro fuel listed a w _ hB h
    have hr : Region.ready .any ops listed = [] := by simpa [trB] using hB
    cases fuel with
    | zero => exact ⟨hr, h⟩
    | succ fuel => exact ⟨fun _ => h, fun i hi => by rw [hr] at hi; cases hi⟩
  | one i r ih =>
    intro fuel listed a w hf hB h
    simp only [trB, Bool.and_eq_true, beq_iff_eq] at hB
    cases fuel with
    | zero => simp [trN] at hf
    | succ fuel =>
      refine ⟨fun h0 => (by rw [hB.1] at h0; cases h0), fun j hj => ?_⟩
      rw [hB.1, List.mem_singleton] at hj
      subst hj
      exact wpOp_mono (fun a' w' h' => ⟨fun _ => hS _, ih fuel _ a' w' (by simp [trN] at hf; omega) hB.2 h'⟩) h
  | two t u x y ihx ihy =>
    intro fuel listed a w hf hB h
    simp only [trB, Bool.and_eq_true, beq_iff_eq] at hB
    cases fuel with
    | zero => simp [trN] at hf
    | succ fuel =>
      simp only [trN] at hf
      refine ⟨fun h0 => (by rw [hB.1.1] at h0; cases h0), fun j hj => ?_⟩
      rw [hB.1.1] at hj
      rcases (by simpa using hj : j = t ∨ j = u) with rfl | rfl
      · exact wpOp_mono (fun a' w' h' => ⟨fun _ => hS _, ihx fuel _ a' w' (by omega) hB.1.2 h'⟩) h.1
      · exact wpOp_mono (fun a' w' h' => ⟨fun _ => hS _, ihy fuel _ a' w' (by omega) hB.2 h'⟩) h.2
def regTrB (ops : Array Oper) (fs : List Nat) (r : OT) : Bool :=
  Region.noSelect ops && decide (fs.length + trN r ≤ ops.size) && firstR ops (masks ops) [] fs (Array.replicate ops.size false) && trB ops r (listAll fs (Array.replicate ops.size false))
/-- First all of fs, which are quiet; then the tree. -/
theorem wp_region_tr {id : Nat} {a : Act} {w : World} (fs : List Nat) (r : OT) (hm : P.follows .mixedOrders = true) (hB : regTrB ops fs r = true)
    (h : wpFirst P ops (fun _ => True) (fun a' => wpTr P ops (NoPanic Q) r a' w.drew) fs a) : (Code.region id ops true).wp P Q a w := by
  simp only [regTrB, Bool.and_eq_true, decide_eq_true_eq] at hB
  obtain ⟨⟨⟨b1, b2⟩, b3⟩, b4⟩ := hB
  refine wp_region_noPanic (wp_region_any hm (wpAny_of_G (S := fun _ => True) (ls := []) _ _ _ _ (wpAnyG_firstsR (Region.noSelect_spec b1) (fun _ _ _ _ _ h => h) fs ops.size _ a _ (by omega) (closed_none _) b3 trivial ?_ h)))
  intro f1 a1 he1 hc1 hk1
  exact wpAnyG_tr (fun _ => trivial) r f1 _ a1 _ (by omega) b4 hk1
theorem tr_step {i : Nat} {r : OT} {a : Act} {w : World} {o : Oper} (ho : ops[i]? = some o) (hw : Region.wanted o (yielded ops a.tmps) = true)
    (h : ∀ K : Act → World → Prop, (∀ a w, wpTr P ops Q r a w → K a w) → o.wp P a w K Q) : wpTr P ops Q (.one i r) a w := inv_step ho hw h
theorem tr_done {a : Act} {w : World} (h : Q .normal a w) : wpTr P ops (NoPanic Q) .nil a w := h
theorem tr_two {t u : Nat} {x y : OT} {a : Act} {w : World} (h1 : wpTr P ops Q (.one t x) a w) (h2 : wpTr P ops Q (.one u y) a w) : wpTr P ops Q (.two t u x y) a w := ⟨h1, h2⟩
end
end Go.Proofs.Ytcjohhminiedfaa
