/- A range over a function, whose loop variable lies in a box of its own each round: the kit's law, with the box made plain. -/
import Derived.Test.YtihfmcadcojjnaaBase
import Derived.RangeFuncNested
import Derived.RangeFuncBound
import Derived.RangeFuncCalls
import Derived.RangeFuncLeaves
import Derived.Shelf.Abstract
import Derived.Shelf.RegionOpen
import Derived.OwnWalkIn
import Derived.TacticsInMore
import Derived.LoopNIn
import Derived.LoopIn
namespace Go.Proofs.Ytihfmcadcojjnaa
open Go.RowKit Go.Shelf
theorem range_box {P : Program} {n : Nat} {α : Type} {g : Operand} {ps : Array Tmp} {assign body : Code} {Q : Exit → Act → World → Prop} {a : Act} {w : World} {F : Fence}
    (hro : F.round = none) (h1 : 1 ≤ n) {gf : Nat} {lb : Array Value} (hg : a.eval g = .func (.func gf) #[] lb) (hFg : F.fn gf) (eg : ∀ args w, (callFunc gf args).run P w = .ok (.enter gf args) w)
    {encs : α → Array Value} {n₀ : Nat} {S Sp : List α → Prop} {N : Nat} (hseq : SeqStopsK F (n - 1) P gf lb encs (Below n₀) S Sp N w) (hn₀ : n₀ ≤ w.heap.size) (hps : ∀ x, (encs x).size = ps.size)
    (I : List α → World → Prop) (Ix : Code → List α → World → Prop) (hI : OwnFrom w.heap.size I) (hIx : ∀ c, OwnFrom w.heap.size (Ix c)) (h0 : I [] w)
    (hIs : ∀ pre W, I pre W → w.heap.size ≤ W.heap.size)
    (obj : α → Obj) (hobj : ∀ x, (obj x).isCells = true) (A : α → Nat → Act)
    (hassign : ∀ (l : Nat) (x : α) (W : World) (Bx : Nat) (K : Act → World → Prop), Bx = W.heap.size → K (A x Bx) (W.alloc (obj x)) →
      assign.wpIn (F.inRound l) (n - 1 - 1) P (Exit.then K (fun _ _ _ => False)) { tmps := (ps.zip (encs x)).foldl (fun t (p, v) => t.setIfInBounds p v) a.tmps, defers := [] } W)
    (hbody : ∀ (l : Nat) (pre : List α) (x : α) (Bx : Nat) (W : World), w.heap.size ≤ l → (∃ r, W.heap[l]? = some (.loop r)) → I pre W → w.heap.size ≤ Bx → W.heap[Bx]? = some (obj x) → pre.length < N → body.wpIn (F.inRound l) (n - 1 - 1) P (ownPostG w.heap.size (Below n₀) I Ix (pre ++ [x]) W) (A x Bx) W)
    (hdone : ∀ (D : Nat) (xs : List α) (W : World), w.heap.size ≤ D → S xs → I xs W → W.heap[D]? = some (.deferred (some [])) → Q .normal { a with defers := { target := .collected D, args := #[] } :: a.defers } W)
    (hstop : ∀ (D : Nat) (c : Code) (pre : List α) (W : World), w.heap.size ≤ D → Sp pre → Ix c pre W → W.heap[D]? = some (.deferred (some [])) → c.wpIn F n P Q { a with defers := { target := .collected D, args := #[] } :: a.defers } W) :
    (Code.rangeFunc g ps assign body).wpIn F n P Q a w := by
  refine wpIn_rangeFunc_ownH hro h1 hg hFg eg hseq belowK_t (belowK_b hn₀) (Below.refl _ _) hps I Ix hI hIx h0
    (fun x a' W => ∃ Bx, w.heap.size ≤ Bx ∧ W.heap[Bx]? = some (obj x) ∧ a' = A x Bx) ?_ ?_ ?_ hdone hstop
  · rintro x a' _ X Y row ⟨Bx, hB, hO, ha⟩ hgr hr
    refine ⟨Bx, hB, (hgr.block Bx (lt_of_heap hO) (fun e => ?_)).trans hO, ha⟩
    obtain ⟨_, o, ho, hc⟩ := hr Bx e.symm
    rw [hO] at ho
    cases ho
    rw [hobj] at hc
    cases hc
  · intro l pre x W K hi hK
    exact hassign l x W W.heap.size K rfl (hK _ _ ((KeepsOthers.alloc _ _).from _) ((Below.refl n₀ W).alloc (Nat.le_trans hn₀ (hIs pre W hi)) _) (hI.alloc _ hi) ⟨W.heap.size, hIs pre W hi, heap_alloc_new W _, rfl⟩)
  · rintro l pre x a' W hl hr hi ⟨Bx, hB, hO, rfl⟩ hlt
    exact hbody l pre x Bx W hl hr hi hB hO hlt
end Go.Proofs.Ytihfmcadcojjnaa
