/- What the body of a range over a function keeps: all cells and maps but a named few; the kit's law where the loop variables are plain. -/
import Derived.RangeFuncNested
import Derived.RangeFuncBound
import Derived.RangeFuncCalls
import Derived.RangeFuncLeaves
import Derived.Shelf.Abstract
import Derived.Shelf.RegionOpen
import Derived.OwnWalkIn
import Derived.TacticsInMore
import Derived.LoopNIn
import Derived.LoopIn
import Derived.OrdersIn
import Derived.TacticsIn
import Derived.Test.YtlcglkanlhmmdaaGreatQBase
namespace Go.Proofs.YtlcglkanlhmmdaaGreat
open Go.RowKit Go.Shelf Go.Maps
/-- All blocks of cells, and all maps, but those in Z are kept. -/
structure KZ (Z : Nat → Prop) (W W' : World) : Prop where
  size : W.heap.size ≤ W'.heap.size
  same : ∀ (k : Nat) (o : Obj), ¬ Z k → W.heap[k]? = some o → (o.isCells = true ∨ o.isWalk = true) → W'.heap[k]? = some o
theorem KZ.refl (Z : Nat → Prop) (W : World) : KZ Z W W := ⟨Nat.le_refl _, fun _ _ _ h _ => h⟩
theorem KZ.trans {Z : Nat → Prop} {A B C : World} (h : KZ Z A B) (k : KZ Z B C) : KZ Z A C :=
  ⟨Nat.le_trans h.size k.size, fun i o hz hi ho => k.same i o hz (h.same i o hz hi ho) ho⟩
theorem KZ.of_fr {Z : Nat → Prop} {A B : World} (h : Fr Z A B) : KZ Z A B := ⟨h.size, fun i _ hz hi _ => (h.block i (lt_of_heap hi) hz).trans hi⟩
theorem kz_b {Z : Nat → Prop} {w : World} (W : World) (l : Nat) (o o' : Obj) (_ : w.heap.size ≤ l) (h : W.heap[l]? = some o) (h1 : o.isCells = false) (h2 : o.isWalk = false) : KZ Z W (W.putObj l o') := by
  refine ⟨(grownBy_putObj' W l o').size, fun k q _ hk hq => ((grownBy_putObj' W l o').block k (lt_of_heap hk) (fun e => ?_)).trans hk⟩
  cases e
  rw [h] at hk
  cases hk
  rw [h1, h2] at hq
  rcases hq with h | h <;> cases h
theorem range_plain {P : Program} {n : Nat} {α : Type} {g : Operand} {ps : Array Tmp} {assign body : Code} {Q : Exit → Act → World → Prop} {a : Act} {w : World} {F : Fence}
    (hro : F.round = none) (h1 : 1 ≤ n) {gf : Nat} {lb : Array Value} (hg : a.eval g = .func (.func gf) #[] lb) (hFg : F.fn gf) (eg : ∀ args w, (callFunc gf args).run P w = .ok (.enter gf args) w)
    {encs : α → Array Value} {Z : Nat → Prop} {S Sp : List α → Prop} {N : Nat} (hseq : SeqStopsK F (n - 1) P gf lb encs (KZ Z) S Sp N w) (hps : ∀ x, (encs x).size = ps.size)
    (I : List α → World → Prop) (Ix : Code → List α → World → Prop) (hI : OwnFrom w.heap.size I) (hIx : ∀ c, OwnFrom w.heap.size (Ix c)) (h0 : I [] w)
    (A : α → Act)
    (hassign : ∀ (l : Nat) (x : α) (W : World) (K : Act → World → Prop), K (A x) W →
      assign.wpIn (F.inRound l) (n - 1 - 1) P (Exit.then K (fun _ _ _ => False)) { tmps := (ps.zip (encs x)).foldl (fun t (p, v) => t.setIfInBounds p v) a.tmps, defers := [] } W)
    (hbody : ∀ (l : Nat) (pre : List α) (x : α) (W : World), w.heap.size ≤ l → (∃ r, W.heap[l]? = some (.loop r)) → I pre W → pre.length < N → body.wpIn (F.inRound l) (n - 1 - 1) P (ownPostG w.heap.size (KZ Z) I Ix (pre ++ [x]) W) (A x) W)
    (hdone : ∀ (D : Nat) (xs : List α) (W : World), w.heap.size ≤ D → S xs → I xs W → W.heap[D]? = some (.deferred (some [])) → Q .normal { a with defers := { target := .collected D, args := #[] } :: a.defers } W)
    (hstop : ∀ (D : Nat) (c : Code) (pre : List α) (W : World), w.heap.size ≤ D → Sp pre → Ix c pre W → W.heap[D]? = some (.deferred (some [])) → c.wpIn F n P Q { a with defers := { target := .collected D, args := #[] } :: a.defers } W) :
    (Code.rangeFunc g ps assign body).wpIn F n P Q a w := by
  refine wpIn_rangeFunc_ownH hro h1 hg hFg eg hseq KZ.trans kz_b (Below.refl _ _) hps I Ix hI hIx h0
    (fun x a' _ => a' = A x) (fun _ _ _ _ _ _ h _ _ => h) ?_ ?_ hdone hstop
  · intro l pre x W K hi hK
    exact hassign l x W K (hK _ _ (KeepsFrom.refl _ _) (KZ.refl _ _) hi rfl)
  · rintro l pre x a' W hl hr hi rfl hlt
    exact hbody l pre x W hl hr hi hlt
theorem abs_worldIn {F : Fence} {n : Nat} {P : Program} {c : Code} {Q : Exit → Act → World → Prop} {a : Act} {w : World} (h : ∀ W, W = w → Code.wpIn F n P c Q a W) : Code.wpIn F n P c Q a w := h w rfl
theorem keep_put {W : World} {D k : Nat} {o o' : Obj} (hD : W.heap[D]? = some o) (hk : k < W.heap.size) (hne : k ≠ D) : (W.putObj D o').heap[k]? = W.heap[k]? := by
  have _ := hD
  exact (grownBy_putObj' W D o').block k hk (fun e => hne (by cases e; rfl))
theorem end_ret {n : Nat} {P : Program} {fn : Func} {tm : Array Value} {R : Ending → World → Prop} {D : Nat} {W : World} (hD : W.heap[D]? = some (.deferred (some []))) (v : Value)
    (hres : (results fn tm).run P (W.putObj D (.deferred none)) = .ok v (W.putObj D (.deferred none))) (hR : R (.returned v) (W.putObj D (.deferred none))) :
    bodyPostM Fence.wide n P fn R .ret { tmps := tm, defers := [{ target := .collected D, args := #[] }] } W := by
  refine ⟨by simp, .inl ⟨_, _, rfl, run_takeDeferred hD, ?_⟩⟩
  exact ⟨v, hres, hR⟩
theorem end_normal {n : Nat} {P : Program} {fn : Func} {tm : Array Value} {R : Ending → World → Prop} {D : Nat} {W : World} (hD : W.heap[D]? = some (.deferred (some []))) (v : Value)
    (hres : (results fn tm).run P (W.putObj D (.deferred none)) = .ok v (W.putObj D (.deferred none))) (hR : R (.returned v) (W.putObj D (.deferred none))) :
    bodyPostM Fence.wide n P fn R .normal { tmps := tm, defers := [{ target := .collected D, args := #[] }] } W := by
  refine ⟨by simp, .inl ⟨_, _, rfl, run_takeDeferred hD, ?_⟩⟩
  exact ⟨v, hres, hR⟩
theorem below_put {B : Nat} {w W : World} {D : Nat} (h : Below B w W) (hB : B ≤ w.heap.size) (o : Obj) (hD : B ≤ D) : Below B w (W.putObj D o) :=
  h.grown (grownBy_putObj' W D o) (Nat.le_trans hB h.size) (fun k e => by cases e; exact hD)
end Go.Proofs.YtlcglkanlhmmdaaGreat
/- A range over a function whose iterator has cells of its own: the caller's word speaks of blocks of before alone. -/
namespace Go.Proofs.YtlcglkanlhmmdaaGreat
open Go.RowKit Go.Shelf Go.Maps
/-- What speaks of blocks below B alone. -/
def LowFrom {β : Type} (B : Nat) (J : β → World → Prop) : Prop := ∀ s W W', J s W → Below B W W' → J s W'
def SeqLow {α : Type} (F : Fence) (n : Nat) (P : Program) (g : Nat) (lb : Array Value) (encs : α → Array Value) (Z : Nat → Prop) (S Sp : List α → Prop) (N : Nat) (w : World) : Prop :=
  ∀ (l : Nat) (J Jx : List α → World → Prop) (W : World), Below w.heap.size w W → LowFrom W.heap.size J → LowFrom W.heap.size Jx →
    (∀ pre x W1, J pre W1 → pre.length < N → YieldAt F (n - 1) P l (encs x) W1 fun e W' =>
      (e = .returned (.bool true) ∧ J (pre ++ [x]) W' ∧ KZ Z W1 W') ∨ (e = .returned (.bool false) ∧ Jx (pre ++ [x]) W')) →
    J [] W →
    CallsIn F n P g (#[.func (.yield l) #[] #[]] ++ lb) W fun e W' => (∃ v, e = .returned v) ∧ ((∃ xs, S xs ∧ J xs W') ∨ (∃ pre, Sp pre ∧ Jx pre W'))
theorem below_putO {B : Nat} (W : World) (k : Nat) (o : Obj) (hk : B ≤ k) : Below B W (W.putObj k o) :=
  ⟨(grownBy_putObj' W k o).os, (grownBy_putObj' W k o).tape, (grownBy_putObj' W k o).output, (grownBy_putObj' W k o).size, fun j hj => by
    by_cases h : j < W.heap.size
    · exact (grownBy_putObj' W k o).block j h (fun e => by cases e; omega)
    · have h1 : W.heap[j]? = none := Array.getElem?_eq_none (by omega)
      exact World.putObj_heap_other (by omega)⟩
theorem range_low {P : Program} {n : Nat} {α : Type} {g : Operand} {ps : Array Tmp} {assign body : Code} {Q : Exit → Act → World → Prop} {a : Act} {w : World} {F : Fence}
    (hro : F.round = none) (h1 : 1 ≤ n) {gf : Nat} {lb : Array Value} (hg : a.eval g = .func (.func gf) #[] lb) (hFg : F.fn gf) (eg : ∀ args w, (callFunc gf args).run P w = .ok (.enter gf args) w)
    {encs : α → Array Value} {Z : Nat → Prop} {S Sp : List α → Prop} {N : Nat} (hseq : SeqLow F (n - 1) P gf lb encs Z S Sp N w) (hps : ∀ x, (encs x).size = ps.size)
    (I : List α → World → Prop) (Ix : Code → List α → World → Prop) (hI : LowFrom w.heap.size I) (hIx : ∀ c, LowFrom w.heap.size (Ix c)) (h0 : I [] w)
    (A : α → Act)
    (hassign : ∀ (l : Nat) (x : α) (W : World) (K : Act → World → Prop), K (A x) W →
      assign.wpIn (F.inRound l) (n - 1 - 1) P (Exit.then K (fun _ _ _ => False)) { tmps := (ps.zip (encs x)).foldl (fun t (p, v) => t.setIfInBounds p v) a.tmps, defers := [] } W)
    (hbody : ∀ (l : Nat) (pre : List α) (x : α) (W : World), w.heap.size ≤ l → (∃ r, W.heap[l]? = some (.loop r)) → I pre W → pre.length < N → body.wpIn (F.inRound l) (n - 1 - 1) P (ownPostG w.heap.size (KZ Z) I Ix (pre ++ [x]) W) (A x) W)
    (hdone : ∀ (D : Nat) (xs : List α) (W : World), w.heap.size ≤ D → S xs → I xs W → W.heap[D]? = some (.deferred (some [])) → Q .normal { a with defers := { target := .collected D, args := #[] } :: a.defers } W)
    (hstop : ∀ (D : Nat) (c : Code) (pre : List α) (W : World), w.heap.size ≤ D → Sp pre → Ix c pre W → W.heap[D]? = some (.deferred (some [])) → c.wpIn F n P Q { a with defers := { target := .collected D, args := #[] } :: a.defers } W) :
    (Code.rangeFunc g ps assign body).wpIn F n P Q a w := by
  refine wpIn_rangeFunc fun fn hfn => ?_
  rw [hro]
  generalize hm : w.heap.size = m at *
  obtain ⟨rc, hrc⟩ : ∃ rc : LoopState → Option Code → Loop, rc = fun st pe => { state := st, pending := pe, fn, tmps := a.tmps, params := ps, assign, body, defers := m } := ⟨_, rfl⟩
  have hB1 : Below m w ((w.alloc (.deferred (some []))).alloc (.loop (rc .ready none))) := ((Below.refl _ w).alloc (by omega) _).alloc (by simp; omega) _
  have hL1 : ((w.alloc (.deferred (some []))).alloc (.loop (rc .ready none))).heap[m + 1]? = some (.loop (rc .ready none)) := heap_alloc_at (by simp [hm]) _
  have hD1 : ((w.alloc (.deferred (some []))).alloc (.loop (rc .ready none))).heap[m]? = some (.deferred (some [])) := heap_alloc_old (heap_alloc_at (by omega) _) _
  have hz1 : ((w.alloc (.deferred (some []))).alloc (.loop (rc .ready none))).heap.size = m + 2 := by simp [hm]
  refine ⟨m + 1, [{ target := .collected m, args := #[] }], (w.alloc (.deferred (some []))).alloc (.loop (rc .ready none)), { target := .fn (.func gf) lb, args := #[.func (.yield (m + 1)) #[] #[]] }, (w.alloc (.deferred (some []))).alloc (.loop (rc .ready none)), gf,
    #[.func (.yield (m + 1)) #[] #[]] ++ lb, (w.alloc (.deferred (some []))).alloc (.loop (rc .ready none)), ?_, ?_, ?_, ?_, fun _ => h1, ?_⟩
  · rw [hrc, ← hm]
    exact run_enterLoop_outer _ _ _ _ _
  · simp only [resolve, hg]
    simp [go_sem]
  · intro f' hf'
    simp [Target.leads] at hf'
    subst hf'
    exact hFg
  · simp [invoke, go_sem, eg]
  generalize (w.alloc (.deferred (some []))).alloc (.loop (rc .ready none)) = W1 at hB1 hL1 hD1 hz1 ⊢
  refine (hseq (m + 1) (fun pre W => I pre W ∧ W.heap[m + 1]? = some (.loop (rc .ready none)) ∧ W.heap[m]? = some (.deferred (some [])))
    (fun pre W => ∃ c, Ix c pre W ∧ W.heap[m + 1]? = some (.loop (rc .done (some c))) ∧ W.heap[m]? = some (.deferred (some []))) W1 (by rw [hm]; exact hB1) ?_ ?_ ?_ ⟨hI _ _ _ h0 hB1, hL1, hD1⟩).mono ?_
  · rintro s A B ⟨p1, p2, p3⟩ hb
    exact ⟨hI _ _ _ p1 (hb.mono (by omega)), (hb.block _ (by omega)).trans p2, (hb.block _ (by omega)).trans p3⟩
  · rintro s A B ⟨c, p1, p2, p3⟩ hb
    exact ⟨c, hIx c _ _ _ p1 (hb.mono (by omega)), (hb.block _ (by omega)).trans p2, (hb.block _ (by omega)).trans p3⟩
  · rintro pre x W ⟨hi, hl, hd⟩ hlen
    have hy := run_yield (P := P) (args := encs x) hl (by rw [hrc]; exact hps x)
    rw [hrc] at hy
    refine ⟨fn, _, assign, body, hy, roundIn_of_wpIn hfn (hassign _ x W _ ⟨_, run_beginRound hl (by rw [hrc]), ?_⟩)⟩
    clear hy
    have hlt := lt_of_heap hl
    have hl2 : (W.putObj (m + 1) (.loop { rc .ready none with state := .busy })).heap[m + 1]? = some (.loop { rc .ready none with state := .busy }) := World.putObj_heap_same hlt
    have hd2 : (W.putObj (m + 1) (.loop { rc .ready none with state := .busy })).heap[m]? = some (.deferred (some [])) := (World.putObj_heap_other (by omega)).trans hd
    have hk2 : KZ Z W (W.putObj (m + 1) (.loop { rc .ready none with state := .busy })) := kz_b (w := w) _ _ _ _ (by omega) hl rfl rfl
    refine wpIn_mono (hbody _ pre x _ (by omega) ⟨_, hl2⟩ (hI _ _ _ hi (below_putO _ _ _ (by omega))) hlen) ?_
    generalize W.putObj (m + 1) (.loop { rc .ready none with state := .busy }) = W2 at hl2 hd2 hk2
    have fin : ∀ (jump : Option Code) (W3 : World), KeepsFrom m W2 W3 →
        ∃ W4, (Instr.endRound (m + 1) jump).run P W3 = .ok (.bool jump.isNone) W4 ∧ KZ Z W3 W4 ∧ Below m W3 W4 ∧ W4.heap[m + 1]? = some (.loop (rc (if jump.isNone then .ready else .done) jump)) ∧ W4.heap[m]? = some (.deferred (some [])) := fun jump W3 hk3 => by
      have hl3 := hk3.same _ _ (by omega) hl2 rfl
      have hd3 := hk3.same _ _ (Nat.le_refl _) hd2 rfl
      have he := run_endRound (P := P) jump hl3
      refine ⟨_, he, kz_b (w := w) _ _ _ _ (by omega) hl3 rfl rfl, below_putO _ _ _ (by omega), ?_, (World.putObj_heap_other (by omega)).trans hd3⟩
      rw [World.putObj_heap_same (lt_of_heap hl3), hrc]
    rintro e a3 W3 hp
    cases e with
    | normal =>
      obtain ⟨hk3, hz3, hi3⟩ := hp
      obtain ⟨W4, q1, q2, q3, q4, q5⟩ := fin none W3 hk3
      exact ⟨_, W4, q1, .inl ⟨rfl, ⟨hI _ _ _ hi3 q3, q4, q5⟩, (hk2.trans hz3).trans q2⟩⟩
    | ret =>
      obtain ⟨hk3, hi3⟩ := hp
      obtain ⟨W4, q1, _, q3, q4, q5⟩ := fin (some .ret) W3 hk3
      exact ⟨_, W4, q1, .inr ⟨rfl, .ret, hIx _ _ _ _ hi3 q3, q4, q5⟩⟩
    | exit id =>
      obtain ⟨hk3, hi3⟩ := hp
      obtain ⟨W4, q1, _, q3, q4, q5⟩ := fin (some (.exit id)) W3 hk3
      exact ⟨_, W4, q1, .inr ⟨rfl, .exit id, hIx _ _ _ _ hi3 q3, q4, q5⟩⟩
    | goto t =>
      obtain ⟨hk3, hi3⟩ := hp
      obtain ⟨W4, q1, _, q3, q4, q5⟩ := fin (some (.goto t)) W3 hk3
      exact ⟨_, W4, q1, .inr ⟨rfl, .goto t, hIx _ _ _ _ hi3 q3, q4, q5⟩⟩
    | panic ch => exact hp.elim
    | outgrown => exact hp.elim
  · rintro e W2 ⟨⟨v, rfl⟩, (⟨xs, hS, hi, hl, hd⟩ | ⟨pre, hSp, c, hi, hl, hd⟩)⟩
    · refine ⟨none, _, by have := run_endLoop (P := P) hl (by rw [hrc]; simp); rw [hrc] at this; exact this, hdone m xs _ (Nat.le_refl _) hS (hI _ _ _ hi (below_putO _ _ _ (by omega))) ((World.putObj_heap_other (by omega)).trans hd)⟩
    · refine ⟨some c, _, by have := run_endLoop (P := P) hl (by rw [hrc]; simp); rw [hrc] at this; exact this, hstop m c pre _ (Nat.le_refl _) hSp (hIx c _ _ _ hi (below_putO _ _ _ (by omega))) ((World.putObj_heap_other (by omega)).trans hd)⟩
end Go.Proofs.YtlcglkanlhmmdaaGreat
/- Regions that draw their order, in the body of a range over a function: the laws of Mix and MultiR there. -/
namespace Go.Proofs.YtlcglkanlhmmdaaGreat
open Go.RowKit
section
variable {P : Program} {ops : Array Oper} {Q : Exit → Act → World → Prop}
def noDefer (ops : Array Oper) : Bool := ops.all fun o => match o.op with | .defer .. => false | _ => true
theorem noDefer_spec (h : noDefer ops = true) {j : Nat} {o : Oper} (ho : ops[j]? = some o) : ∀ c, o.op ≠ .defer c := by
  intro c heq
  have hm := Array.all_eq_true'.1 h o (Array.mem_of_getElem? ho)
  simp [heq] at hm
theorem uponIn_of {l n : Nat} {o : Oper} {a : Act} {K K' : Act → World → Prop} (hk : ∀ a w, K a w → K' a w) : ∀ r, o.upon P a K Q r → o.uponIn (Fence.wide.inRound l) n P a K' Q r
  | .ok (.value _) _, h => hk _ _ h
  | .ok .skip _, h => hk _ _ h
  | .ok (.defer _) _, h => hk _ _ h
  | .ok (.enter _ _) _, h => ⟨(fun h => by cases h), (CallsIn.inRound l (callsIn_wide.2 h)).mono (fun e w'' h => by cases e <;> first | exact hk _ _ h | exact h)⟩
  | .ok (.row _ _) _, h => ⟨(fun h => by cases h), fun c cs _ => let ⟨v, w', r, s⟩ := h c cs; ⟨v, w', hk _ _ r, stepsIn_wide.2 s⟩⟩
  | .halt (.panic _) _, h => h
theorem wpOpIn_of {l n i : Nat} {a : Act} {w : World} {K K' : Act → World → Prop} (hd : noDefer ops = true) (hlo : ¬ LetsOut Q) (hk : ∀ a w, K a w → K' a w) (h : wpOp P ops Q i K a w) : wpOpIn (Fence.wide.inRound l) n P ops Q i K' a w := by
  unfold wpOp at h
  unfold wpOpIn
  cases ho : ops[i]? with
  | none =>
    rw [ho] at h
    exact hk _ _ h
  | some o =>
    rw [ho] at h
    dsimp only at h ⊢
    split
    · rename_i hw
      rw [if_pos hw] at h
      rcases h with h | h
      · refine ⟨fun _ _ => trivial, ?_⟩
        rw [Fence.inRound_round, Oper.semAt_some _ _ _ (noDefer_spec hd ho)]
        exact uponIn_of hk _ h
      · exact (hlo h.2).elim
    · rename_i hw
      rw [if_neg hw] at h
      exact ⟨fun _ _ => trivial, hk _ _ h⟩
theorem wpAnyIn_of {l n : Nat} (hd : noDefer ops = true) (hlo : ¬ LetsOut Q) : ∀ (fuel : Nat) (listed : Array Bool) (a : Act) (w : World), wpAny P .any ops Q fuel listed a w → wpAnyIn (Fence.wide.inRound l) n P .any ops Q fuel listed a w
  | 0, _, _, _, h => h
  | fuel + 1, _, _, _, h => ⟨h.1, fun i hi => wpOpIn_of hd hlo (wpAnyIn_of hd hlo fuel _) (h.2 i hi)⟩
theorem wpIn_of_any {l n id : Nat} {a : Act} {w : World} (hm : P.follows .mixedOrders = true) (hd : noDefer ops = true) (hlo : ¬ LetsOut Q)
    (h : wpAny P .any ops (NoPanic Q) ops.size (Array.replicate ops.size false) a w.drew) : (Code.region id ops true).wpIn (Fence.wide.inRound l) n P Q a w :=
  wpIn_mono (Q := NoPanic Q) (wpIn_region_any hm (wpAnyIn_of (Q := NoPanic Q) hd (fun ⟨a, w, h⟩ => hlo ⟨a, w, h⟩) _ _ _ _ h)) NoPanic.imp
theorem wpIn_region_mix {l n id : Nat} {a : Act} {w : World} (fs ts ls : List Nat) (S : World → Prop) (hm : P.follows .mixedOrders = true)
    (hB : (Region.noSelect ops && decide (fs.length + ts.length ≤ ops.size) && mixB ops ls [] ts fs (Array.replicate ops.size false)) = true) (hd : noDefer ops = true) (hlo : ¬ LetsOut Q)
    (hS : S w.drew) (h : wpFirst P ops S (fun a' => wpTail P ops (NoPanic Q) S ls [] ts a' w.drew) fs a) : (Code.region id ops true).wpIn (Fence.wide.inRound l) n P Q a w := by
  simp only [Bool.and_eq_true, decide_eq_true_eq] at hB
  exact wpIn_of_any hm hd hlo (wpAny_of_G _ _ _ _ (wpAnyG_mix (Region.noSelect_spec hB.1.1) (fun _ _ _ _ _ h => h) fs ts ops.size _ a _ (closed_none _) hB.1.2 hB.2 hS h))
theorem wpIn_region_multiR {l n id : Nat} {a : Act} {w : World} (phs : List (List Nat × List Nat × List Nat)) (hm : P.follows .mixedOrders = true)
    (hB : (Region.noSelect ops && decide (phLen phs ≤ ops.size) && multiR ops (masks ops) phs (Array.replicate ops.size false)) = true) (hd : noDefer ops = true) (hlo : ¬ LetsOut Q)
    (h : wpMulti P ops (NoPanic Q) phs a w.drew) : (Code.region id ops true).wpIn (Fence.wide.inRound l) n P Q a w := by
  simp only [Bool.and_eq_true, decide_eq_true_eq] at hB
  exact wpIn_of_any hm hd hlo (wpAny_multiR (Region.noSelect_spec hB.1.1) (fun _ _ _ _ _ h => h) phs ops.size _ a _ hB.1.2 (closed_none _) hB.2 h)
end
end Go.Proofs.YtlcglkanlhmmdaaGreat
