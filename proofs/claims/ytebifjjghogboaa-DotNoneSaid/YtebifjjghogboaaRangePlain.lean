/- A range over a function whose loop variables are plain: the kit's law, where what must be kept is told by a set of blocks. -/
import Derived.Test.YtebifjjghogboaaD34All
namespace Go.Proofs.Ytebifjjghogboaa
open Go.RowKit Go.Shelf
theorem range_plain {P : Program} {n : Nat} {α : Type} {g : Operand} {ps : Array Tmp} {assign body : Code} {Q : Exit → Act → World → Prop} {a : Act} {w : World} {F : Fence}
    (hro : F.round = none) (h1 : 1 ≤ n) {gf : Nat} {lb : Array Value} (hg : a.eval g = .func (.func gf) #[] lb) (hFg : F.fn gf) (eg : ∀ args w, (callFunc gf args).run P w = .ok (.enter gf args) w)
    {encs : α → Array Value} {Z : Nat → Prop} {S Sp : List α → Prop} {N : Nat} (hseq : SeqStopsK F (n - 1) P gf lb encs (KZ Z) S Sp N w) (hps : ∀ x, (encs x).size = ps.size)
    (I : List α → World → Prop) (Ix : Code → List α → World → Prop) (hI : OwnFrom w.heap.size I) (hIx : ∀ c, OwnFrom w.heap.size (Ix c)) (h0 : I [] w)
    (A : α → Act)
    (hassign : ∀ (l : Nat) (x : α) (W : World) (K : Act → World → Prop), K (A x) W →
      assign.wpIn (F.inRound l) (n - 1 - 1) P (Exit.then K (fun _ _ _ => False)) { tmps := (ps.zip (encs x)).foldl (fun t (p, v) => t.setIfInBounds p v) a.tmps, defers := [] } W)
    (hbody : ∀ (l : Nat) (pre : List α) (x : α) (W : World), w.heap.size ≤ l → (∃ r, W.heap[l]? = some (.loop r)) → I pre W → pre.length < N → body.wpIn (F.inRound l) (n - 1 - 1) P (ownPostG w.heap.size (KZ Z) I Ix (pre ++ [x]) W) (A x) W)
    (hdone : ∀ (D : Nat) (xs : List α) (W : World), w.heap.size ≤ D → S xs → I xs W → W.heap[D]? = some (.deferred (some [])) → Q .normal { a with defers := { target := .collected D, args := #[] } :: a.defers } W)
    (hstop : ∀ (D : Nat) (c : Code) (pre : List α) (W : World), w.heap.size ≤ D → Sp pre → Ix c pre W → W.heap[D]? = some (.deferred (some [])) → c.wpIn F n P Q { a with defers := { target := .collected D, args := #[] } :: a.defers } W) :
    (Code.rangeFunc g ps assign body).wpIn F n P Q a w := by
  refine wpIn_rangeFunc_ownH hro h1 hg hFg eg hseq KZ.trans kz_b (Below.refl _ _) hps I Ix hI hIx h0
    (fun x a' _ => a' = A x) (fun _ _ _ _ _ _ h _ _ => h) ?_ ?_ hdone hstop
  · intro l pre x W K hi hK
    exact hassign l x W K (hK _ _ (KeepsFrom.refl _ _) (KZ.refl _ _) hi rfl)
  · rintro l pre x a' W hl hr hi rfl hlt
    exact hbody l pre x W hl hr hi hlt
theorem abs_worldIn {F : Fence} {n : Nat} {P : Program} {c : Code} {Q : Exit → Act → World → Prop} {a : Act} {w : World} (h : ∀ W, W = w → Code.wpIn F n P c Q a W) : Code.wpIn F n P c Q a w := h w rfl
theorem keep_put {W : World} {D k : Nat} {o o' : Obj} (hD : W.heap[D]? = some o) (hk : k < W.heap.size) (hne : k ≠ D) : (W.putObj D o').heap[k]? = W.heap[k]? := by
  have _ := hD
  exact (grownBy_putObj' W D o').block k hk (fun e => hne (by cases e; rfl))
theorem end_ret {n : Nat} {P : Program} {fn : Func} {tm : Array Value} {R : Ending → World → Prop} {D : Nat} {W : World} (hD : W.heap[D]? = some (.deferred (some []))) (v : Value)
    (hres : (results fn tm).run P (W.putObj D (.deferred none)) = .ok v (W.putObj D (.deferred none))) (hR : R (.returned v) (W.putObj D (.deferred none))) :
    bodyPostM Fence.wide n P fn R .ret { tmps := tm, defers := [{ target := .collected D, args := #[] }] } W := by
  refine ⟨by simp, .inl ⟨_, _, rfl, run_takeDeferred hD, ?_⟩⟩
  exact ⟨v, hres, hR⟩
theorem end_normal {n : Nat} {P : Program} {fn : Func} {tm : Array Value} {R : Ending → World → Prop} {D : Nat} {W : World} (hD : W.heap[D]? = some (.deferred (some []))) (v : Value)
    (hres : (results fn tm).run P (W.putObj D (.deferred none)) = .ok v (W.putObj D (.deferred none))) (hR : R (.returned v) (W.putObj D (.deferred none))) :
    bodyPostM Fence.wide n P fn R .normal { tmps := tm, defers := [{ target := .collected D, args := #[] }] } W := by
  refine ⟨by simp, .inl ⟨_, _, rfl, run_takeDeferred hD, ?_⟩⟩
  exact ⟨v, hres, hR⟩
theorem below_put {B : Nat} {w W : World} {D : Nat} (h : Below B w W) (hB : B ≤ w.heap.size) (o : Obj) (hD : B ≤ D) : Below B w (W.putObj D o) :=
  h.grown (grownBy_putObj' W D o) (Nat.le_trans hB h.size) (fun k e => by cases e; exact hD)
end Go.Proofs.Ytebifjjghogboaa
