/- A range over a function whose iterator has cells of its own and yields memory of its own: what comes is told where it comes; the round may write into it; the loop variables may lie in boxes. -/
import Derived.Shelf.SlIter.Nil
import Derived.Shelf.SortM.Plain
import Derived.Shelf.SortM.SortNone
import Derived.Ground.GgzProg
import Derived.Ground.SlgmProg
import Derived.Test.YtlcglkanlhmmdaaGreatProg
import Derived.StringKeys
import Derived.Test.YtlcglkanlhmmdaaGreatQKZ
import Derived.Test.YtlcglkanlhmmdaaGreatQN17Sep
import Derived.Test.YtlcglkanlhmmdaaGreatQN17Agree
namespace Go.Proofs.YtlcglkanlhmmdaaGreat
open Go.RowKit Go.Shelf Go.Maps
theorem KZ.mono {Z Z' : Nat → Prop} {A B : World} (h : KZ Z A B) (hz : ∀ k, Z k → Z' k) : KZ Z' A B := ⟨h.size, fun k o hk h1 h2 => h.same k o (fun e => hk (hz k e)) h1 h2⟩
theorem KZ.of_below {Z : Nat → Prop} {A B : World} (h : Below A.heap.size A B) : KZ Z A B := ⟨h.size, fun k _ _ h1 _ => (h.block k (lt_of_heap h1)).trans h1⟩
def SeqG {α : Type} (F : Fence) (n : Nat) (P : Program) (g : Nat) (lb : Array Value) (encs : α → Array Value) (own : α → Nat → Prop) (Z : Nat → Prop) (G : List α → α → World → Prop) (S Sp : List α → Prop) (N : Nat) (w : World) : Prop :=
  ∀ (l : Nat) (J Jx : List α → World → Prop) (W : World), Below w.heap.size w W → LowFrom W.heap.size J → LowFrom W.heap.size Jx →
    (∀ pre x W1, J pre W1 → pre.length < N → G pre x W1 → YieldAt F (n - 1) P l (encs x) W1 fun e W' =>
      (e = .returned (.bool true) ∧ J (pre ++ [x]) W' ∧ KZ (fun k => Z k ∨ own x k) W1 W') ∨ (e = .returned (.bool false) ∧ Jx (pre ++ [x]) W')) →
    J [] W →
    CallsIn F n P g (#[.func (.yield l) #[] #[]] ++ lb) W fun e W' => (∃ v, e = .returned v) ∧ ((∃ xs, S xs ∧ J xs W') ∨ (∃ pre, Sp pre ∧ Jx pre W'))
theorem range_g {P : Program} {n : Nat} {α : Type} {g : Operand} {ps : Array Tmp} {assign body : Code} {Q : Exit → Act → World → Prop} {a : Act} {w : World} {F : Fence}
    (hro : F.round = none) (h1 : 1 ≤ n) {gf : Nat} {lb : Array Value} (hg : a.eval g = .func (.func gf) #[] lb) (hFg : F.fn gf) (eg : ∀ args w, (callFunc gf args).run P w = .ok (.enter gf args) w)
    {encs : α → Array Value} {own : α → Nat → Prop} {Z : Nat → Prop} {G : List α → α → World → Prop} {S Sp : List α → Prop} {N : Nat} (hseq : SeqG F (n - 1) P gf lb encs own Z G S Sp N w) (hps : ∀ x, (encs x).size = ps.size)
    (hG : ∀ pre x W W', G pre x W → KZ (fun _ => False) W W' → G pre x W')
    (I : List α → World → Prop) (Ix : Code → List α → World → Prop) (hI : LowFrom w.heap.size I) (hIx : ∀ c, LowFrom w.heap.size (Ix c)) (h0 : I [] w)
    (Pst : α → Act → World → Prop) (hP : ∀ x a W W', Pst x a W → KZ (fun _ => False) W W' → Pst x a W')
    (hassign : ∀ (l : Nat) (pre : List α) (x : α) (W : World) (K : Act → World → Prop), G pre x W → (∀ a' W', Below W.heap.size W W' → Pst x a' W' → K a' W') →
      assign.wpIn (F.inRound l) (n - 1 - 1) P (Exit.then K (fun _ _ _ => False)) { tmps := (ps.zip (encs x)).foldl (fun t (p, v) => t.setIfInBounds p v) a.tmps, defers := [] } W)
    (hbody : ∀ (l : Nat) (pre : List α) (x : α) (a' : Act) (W : World), w.heap.size ≤ l → (∃ r, W.heap[l]? = some (.loop r)) → I pre W → pre.length < N → G pre x W → Pst x a' W → body.wpIn (F.inRound l) (n - 1 - 1) P (ownPostG w.heap.size (KZ fun k => Z k ∨ own x k) I Ix (pre ++ [x]) W) a' W)
    (hdone : ∀ (D : Nat) (xs : List α) (W : World), w.heap.size ≤ D → S xs → I xs W → W.heap[D]? = some (.deferred (some [])) → Q .normal { a with defers := { target := .collected D, args := #[] } :: a.defers } W)
    (hstop : ∀ (D : Nat) (c : Code) (pre : List α) (W : World), w.heap.size ≤ D → Sp pre → Ix c pre W → W.heap[D]? = some (.deferred (some [])) → c.wpIn F n P Q { a with defers := { target := .collected D, args := #[] } :: a.defers } W) :
    (Code.rangeFunc g ps assign body).wpIn F n P Q a w := by
  refine wpIn_rangeFunc fun fn hfn => ?_
  rw [hro]
  generalize hm : w.heap.size = m at *
  obtain ⟨rc, hrc⟩ : ∃ rc : LoopState → Option Code → Loop, rc = fun st pe => { state := st, pending := pe, fn, tmps := a.tmps, params := ps, assign, body, defers := m } := ⟨_, rfl⟩
  have hB1 : Below m w ((w.alloc (.deferred (some []))).alloc (.loop (rc .ready none))) := ((Below.refl _ w).alloc (by omega) _).alloc (by simp; omega) _
  have hL1 : ((w.alloc (.deferred (some []))).alloc (.loop (rc .ready none))).heap[m + 1]? = some (.loop (rc .ready none)) := heap_alloc_at (by simp [hm]) _
  have hD1 : ((w.alloc (.deferred (some []))).alloc (.loop (rc .ready none))).heap[m]? = some (.deferred (some [])) := heap_alloc_old (heap_alloc_at (by omega) _) _
  have hz1 : ((w.alloc (.deferred (some []))).alloc (.loop (rc .ready none))).heap.size = m + 2 := by simp [hm]
  refine ⟨m + 1, [{ target := .collected m, args := #[] }], (w.alloc (.deferred (some []))).alloc (.loop (rc .ready none)), { target := .fn (.func gf) lb, args := #[.func (.yield (m + 1)) #[] #[]] }, (w.alloc (.deferred (some []))).alloc (.loop (rc .ready none)), gf,
    #[.func (.yield (m + 1)) #[] #[]] ++ lb, (w.alloc (.deferred (some []))).alloc (.loop (rc .ready none)), ?_, ?_, ?_, ?_, fun _ => h1, ?_⟩
  · rw [hrc, ← hm]
    exact run_enterLoop_outer _ _ _ _ _
  · simp only [resolve, hg]
    simp [go_sem]
  · intro f' hf'
    simp [Target.leads] at hf'
    subst hf'
    exact hFg
  · simp [invoke, go_sem, eg]
  generalize (w.alloc (.deferred (some []))).alloc (.loop (rc .ready none)) = W1 at hB1 hL1 hD1 hz1 ⊢
  refine (hseq (m + 1) (fun pre W => I pre W ∧ W.heap[m + 1]? = some (.loop (rc .ready none)) ∧ W.heap[m]? = some (.deferred (some [])))
    (fun pre W => ∃ c, Ix c pre W ∧ W.heap[m + 1]? = some (.loop (rc .done (some c))) ∧ W.heap[m]? = some (.deferred (some []))) W1 (by rw [hm]; exact hB1) ?_ ?_ ?_ ⟨hI _ _ _ h0 hB1, hL1, hD1⟩).mono ?_
  · rintro s A B ⟨p1, p2, p3⟩ hb
    exact ⟨hI _ _ _ p1 (hb.mono (by omega)), (hb.block _ (by omega)).trans p2, (hb.block _ (by omega)).trans p3⟩
  · rintro s A B ⟨c, p1, p2, p3⟩ hb
    exact ⟨c, hIx c _ _ _ p1 (hb.mono (by omega)), (hb.block _ (by omega)).trans p2, (hb.block _ (by omega)).trans p3⟩
  · rintro pre x W ⟨hi, hl, hd⟩ hlen hgx
    have hy := run_yield (P := P) (args := encs x) hl (by rw [hrc]; exact hps x)
    rw [hrc] at hy
    refine ⟨fn, _, assign, body, hy, roundIn_of_wpIn hfn (hassign _ pre x W _ hgx fun a' Wa hba hpa => ?_)⟩
    have hsz := lt_of_heap hl
    have hla := (hba.block _ hsz).trans hl
    have hda := (hba.block _ (lt_of_heap hd)).trans hd
    have hia := hI _ _ _ hi (hba.mono (by omega))
    have hga := hG _ _ _ _ hgx (KZ.of_below hba)
    have hkW : KZ (fun k => Z k ∨ own x k) W Wa := KZ.of_below hba
    refine ⟨_, run_beginRound hla (by rw [hrc]), ?_⟩
    clear hy hl hd hi hgx hba hsz
    have hlt := lt_of_heap hla
    have hl2 : (Wa.putObj (m + 1) (.loop { rc .ready none with state := .busy })).heap[m + 1]? = some (.loop { rc .ready none with state := .busy }) := World.putObj_heap_same hlt
    have hd2 : (Wa.putObj (m + 1) (.loop { rc .ready none with state := .busy })).heap[m]? = some (.deferred (some [])) := (World.putObj_heap_other (by omega)).trans hda
    have hk0 : KZ (fun _ => False) Wa (Wa.putObj (m + 1) (.loop { rc .ready none with state := .busy })) := kz_b (w := w) _ _ _ _ (by omega) hla rfl rfl
    have hk2 : KZ (fun k => Z k ∨ own x k) Wa (Wa.putObj (m + 1) (.loop { rc .ready none with state := .busy })) := hk0.mono (fun _ h => h.elim)
    refine wpIn_mono (hbody _ pre x a' _ (by omega) ⟨_, hl2⟩ (hI _ _ _ hia (below_putO _ _ _ (by omega))) hlen (hG _ _ _ _ hga hk0) (hP _ _ _ _ hpa hk0)) ?_
    generalize Wa.putObj (m + 1) (.loop { rc .ready none with state := .busy }) = W2 at hl2 hd2 hk2
    have fin : ∀ (jump : Option Code) (W3 : World), KeepsFrom m W2 W3 →
        ∃ W4, (Instr.endRound (m + 1) jump).run P W3 = .ok (.bool jump.isNone) W4 ∧ KZ (fun k => Z k ∨ own x k) W3 W4 ∧ Below m W3 W4 ∧ W4.heap[m + 1]? = some (.loop (rc (if jump.isNone then .ready else .done) jump)) ∧ W4.heap[m]? = some (.deferred (some [])) := fun jump W3 hk3 => by
      have hl3 := hk3.same _ _ (by omega) hl2 rfl
      have hd3 := hk3.same _ _ (Nat.le_refl _) hd2 rfl
      have he := run_endRound (P := P) jump hl3
      refine ⟨_, he, kz_b (w := w) _ _ _ _ (by omega) hl3 rfl rfl, below_putO _ _ _ (by omega), ?_, (World.putObj_heap_other (by omega)).trans hd3⟩
      rw [World.putObj_heap_same (lt_of_heap hl3), hrc]
    rintro e a3 W3 hp
    cases e with
    | normal =>
      obtain ⟨hk3, hz3, hi3⟩ := hp
      obtain ⟨W4, q1, q2, q3, q4, q5⟩ := fin none W3 hk3
      exact ⟨_, W4, q1, .inl ⟨rfl, ⟨hI _ _ _ hi3 q3, q4, q5⟩, ((hkW.trans hk2).trans hz3).trans q2⟩⟩
    | ret =>
      obtain ⟨hk3, hi3⟩ := hp
      obtain ⟨W4, q1, _, q3, q4, q5⟩ := fin (some .ret) W3 hk3
      exact ⟨_, W4, q1, .inr ⟨rfl, .ret, hIx _ _ _ _ hi3 q3, q4, q5⟩⟩
    | exit id =>
      obtain ⟨hk3, hi3⟩ := hp
      obtain ⟨W4, q1, _, q3, q4, q5⟩ := fin (some (.exit id)) W3 hk3
      exact ⟨_, W4, q1, .inr ⟨rfl, .exit id, hIx _ _ _ _ hi3 q3, q4, q5⟩⟩
    | goto t =>
      obtain ⟨hk3, hi3⟩ := hp
      obtain ⟨W4, q1, _, q3, q4, q5⟩ := fin (some (.goto t)) W3 hk3
      exact ⟨_, W4, q1, .inr ⟨rfl, .goto t, hIx _ _ _ _ hi3 q3, q4, q5⟩⟩
    | panic ch => exact hp.elim
    | outgrown => exact hp.elim
  · rintro e W2 ⟨⟨v, rfl⟩, (⟨xs, hS, hi, hl, hd⟩ | ⟨pre, hSp, c, hi, hl, hd⟩)⟩
    · refine ⟨none, _, by have := run_endLoop (P := P) hl (by rw [hrc]; simp); rw [hrc] at this; exact this, hdone m xs _ (Nat.le_refl _) hS (hI _ _ _ hi (below_putO _ _ _ (by omega))) ((World.putObj_heap_other (by omega)).trans hd)⟩
    · refine ⟨some c, _, by have := run_endLoop (P := P) hl (by rw [hrc]; simp); rw [hrc] at this; exact this, hstop m c pre _ (Nat.le_refl _) hSp (hIx c _ _ _ hi (below_putO _ _ _ (by omega))) ((World.putObj_heap_other (by omega)).trans hd)⟩
/-- The same, where a round begins in a frame that its element and a new block tell. -/
theorem range_gb {P : Program} {n : Nat} {α : Type} {g : Operand} {ps : Array Tmp} {assign body : Code} {Q : Exit → Act → World → Prop} {a : Act} {w : World} {F : Fence}
    (hro : F.round = none) (h1 : 1 ≤ n) {gf : Nat} {lb : Array Value} (hg : a.eval g = .func (.func gf) #[] lb) (hFg : F.fn gf) (eg : ∀ args w, (callFunc gf args).run P w = .ok (.enter gf args) w)
    {encs : α → Array Value} {own : α → Nat → Prop} {Z : Nat → Prop} {G : List α → α → World → Prop} {S Sp : List α → Prop} {N : Nat} (hseq : SeqG F (n - 1) P gf lb encs own Z G S Sp N w) (hps : ∀ x, (encs x).size = ps.size)
    (hG : ∀ pre x W W', G pre x W → KZ (fun _ => False) W W' → G pre x W')
    (I : List α → World → Prop) (Ix : Code → List α → World → Prop) (hI : LowFrom w.heap.size I) (hIx : ∀ c, LowFrom w.heap.size (Ix c)) (h0 : I [] w)
    (A : α → Nat → Act) (Bx : α → Nat → World → Prop) (hP : ∀ x b W W', Bx x b W → KZ (fun _ => False) W W' → Bx x b W')
    (hassign : ∀ (l : Nat) (pre : List α) (x : α) (W : World) (K : Act → World → Prop), G pre x W → (∀ b W', b = W.heap.size → Below W.heap.size W W' → Bx x b W' → K (A x b) W') →
      assign.wpIn (F.inRound l) (n - 1 - 1) P (Exit.then K (fun _ _ _ => False)) { tmps := (ps.zip (encs x)).foldl (fun t (p, v) => t.setIfInBounds p v) a.tmps, defers := [] } W)
    (hbody : ∀ (l : Nat) (pre : List α) (x : α) (b : Nat) (W : World), w.heap.size ≤ l → (∃ r, W.heap[l]? = some (.loop r)) → I pre W → pre.length < N → G pre x W → Bx x b W → body.wpIn (F.inRound l) (n - 1 - 1) P (ownPostG w.heap.size (KZ fun k => Z k ∨ own x k) I Ix (pre ++ [x]) W) (A x b) W)
    (hdone : ∀ (D : Nat) (xs : List α) (W : World), w.heap.size ≤ D → S xs → I xs W → W.heap[D]? = some (.deferred (some [])) → Q .normal { a with defers := { target := .collected D, args := #[] } :: a.defers } W)
    (hstop : ∀ (D : Nat) (c : Code) (pre : List α) (W : World), w.heap.size ≤ D → Sp pre → Ix c pre W → W.heap[D]? = some (.deferred (some [])) → c.wpIn F n P Q { a with defers := { target := .collected D, args := #[] } :: a.defers } W) :
    (Code.rangeFunc g ps assign body).wpIn F n P Q a w := by
  refine range_g hro h1 hg hFg eg hseq hps hG I Ix hI hIx h0 (fun x a' W => ∃ b, a' = A x b ∧ Bx x b W) ?_ ?_ ?_ hdone hstop
  · rintro x a W W' ⟨b, e, h⟩ hk
    exact ⟨b, e, hP x b W W' h hk⟩
  · intro l pre x W K hg hK
    exact hassign l pre x W K hg fun b W' hb h1 h2 => hK _ _ h1 ⟨b, rfl, h2⟩
  · rintro l pre x a' W hl hr hi hlt hg ⟨b, rfl, h⟩
    exact hbody l pre x b W hl hr hi hlt hg h
end Go.Proofs.YtlcglkanlhmmdaaGreat
/- A load and a store of a node inside a fence. -/
namespace Go.Proofs.YtlcglkanlhmmdaaGreat
open Go.RowKit
section
variable {F : Fence} {n : Nat} {ops : Array Oper} {rest : List Oper} {op : Oper} {a : Act} {w : World} {Q : Exit → Act → World → Prop}
theorem wpListIn_load_g {P : Program} (hw : Region.wanted op (yielded ops a.tmps) = true) (ty : TypeId) (x : Operand) (ho : op.op = .load ty x)
    (b o : Nat) (hx : a.eval x = .pointer (some ⟨b, o, none⟩)) (cs : List Value) (d : TypeDesc) (hc : w.rangeAt b o cs)
    (hu : P.underlying ty = some d) (hd : d.isRow = true) (hi : (P.info? ty).map (·.size) = some cs.length)
    (h : wpListIn F n P ops Q rest (a.put op.dst (.agg cs.toArray)) w) : wpListIn F n P ops Q (op :: rest) a w :=
  wpListIn_step fun K hK => by
    rw [if_pos hw]
    refine ⟨fun f hf => (by unfold Oper.about at hf; rw [ho] at hf; cases hf), ?_⟩
    rw [Oper.semAt_plain F _ _ (by rw [ho]; intro c h; cases h)]
    have hr := run_loadAt_mid (P := P) w b o ty cs d hc hu hd hi
    unfold execOp
    simp only [ho, hx, Sem.run_bind, hr, Result.andThen_ok, Sem.run_pure]
    exact hK _ _ h
theorem wpListIn_store_nd (hw : Region.wanted op (yielded ops a.tmps) = true) (x y : Operand) (ho : op.op = .store 42 x y) (b off : Nat) (C : List Value) (ty : TypeId) (hb : w.heap[b]? = some (.cells C.toArray ty)) (hoff : off + 22 ≤ C.length) (o : Nd) (s : Value) (hs : s.oneCell' = true)
    (hx : a.eval x = .pointer (some ⟨b, off, none⟩)) (hy : a.eval y = .agg (ncells o s).toArray)
    (h : ∀ W', W'.heap[b]? = some (.cells (C.take off ++ ncells o s ++ C.drop (off + 22)).toArray ty) → Fr (fun k => k = b) w W' → W'.heap.size = w.heap.size → wpListIn F n Tryz.prog ops Q rest (a.put op.dst undef) W') : wpListIn F n Tryz.prog ops Q (op :: rest) a w :=
  wpListIn_step fun K hK => by
    rw [if_pos hw]
    refine ⟨fun f hf => (by unfold Oper.about at hf; rw [ho] at hf; cases hf), ?_⟩
    rw [Oper.semAt_plain F _ _ (by rw [ho]; intro c h; cases h)]
    have hl : (ncells o s).length = 22 := rfl
    have hst := run_storeCells_at Tryz.prog b off ty (ncells o s) 0 C.toArray w hb (by rw [hl]; simpa using hoff) (one_nd o hs)
    simp only [Nat.add_zero] at hst
    rw [hl] at hst
    have hi := info35
    cases hq : Tryz.prog.info? 42 with
    | none => rw [hq] at hi; simp at hi
    | some i =>
      have hsz : i.size = 22 := by rw [hq] at hi; simpa using hi
      have hsv : (storeVar 42 ⟨b, off, none⟩ (.agg (ncells o s).toArray)).run Tryz.prog w = .ok () (w.setRow b (C.toArray.toList.take off ++ ncells o s ++ C.toArray.toList.drop (off + 22)).toArray) := by
        have hc : (Value.agg (ncells o s).toArray).cells.size = i.size := by rw [hsz]; rfl
        have hc2 : (Value.agg (ncells o s).toArray).cells.toList = ncells o s := rfl
        simp [storeVar, sizeOf, typeInfo, hq, hc, hc2, hst]
      unfold execOp
      simp only [ho, hx, hy, Instr.storeAt, Instr.sureAddr, Sem.run_bind, Sem.run_pure, Result.andThen_ok, hsv]
      exact hK _ _ (h _ (setRow_heap w b _ _ ty _ hb) ⟨rfl, rfl, rfl, by simp [World.setRow], fun k _ hk => setRow_other w b k _ hk⟩ (by simp [World.setRow]))
end
end Go.Proofs.YtlcglkanlhmmdaaGreat
/-
  DERIVED: THE SHELF's CONTRACTS AT THIS DUMP, IN PLAIN WORDS (tools/lay-plain.mjs out of 'YtlcglkanlhmmdaaGreatN17ShelfP.lean', which tools/lay-shelf.mjs wrote): THE SAME DECLARATIONS UNDER THE SAME NAMES: 'import', 'namespace', 'open', 'def', 'theorem' AND NOTHING ELSE: no command of the shelf's: FOR A HAND-IN. Each laying: the table of numbers ('.._ren') and one theorem, a field a fact of the dump's own or the kernel's comparison; each contract: ONE APPLICATION.
-/
namespace Go.Proofs
open Go.Shelf
def Tryz.keysA_ren : Go.Shelf.Ren := ⟨fun | 7 => 48 | 10 => 62 | n => n, fun | 23 => 60 | 26 => 9 | 3 => 42 | 28 => 94 | 0 => 0 | 27 => 93 | 33 => 45 | 4 => 4 | n => n, fun | n => n⟩
theorem Tryz.keysA : Go.Proofs.SlLaysZ.n7 Tryz.prog Tryz.keysA_ren := {
  mixed := by kernel_rfl
  f7 := ⟨Tryz.f48.name, by decide, Tryz.func48.trans (congrArg some (by kernel_rfl))⟩
  f10 := ⟨Tryz.f62.name, by decide, Tryz.func62.trans (congrArg some (by kernel_rfl))⟩
  t0 := Tryz.underlying0
  a0 := Tryz.isAgg0
  z0 := Tryz.sizeOf0
  v0 := Tryz.zeroValue0
  t4 := Tryz.underlying4
  a4 := Tryz.isAgg4
  z4 := Tryz.sizeOf4
  v4 := Tryz.zeroValue4
  t23 := Tryz.underlying60
  a23 := Tryz.isAgg60
  z23 := Tryz.sizeOf60
  v23 := Tryz.zeroValue60
  t26 := Tryz.underlying9
  a26 := Tryz.isAgg9
  z26 := Tryz.sizeOf9
  v26 := Tryz.zeroValue9
  t27 := Tryz.underlying93
  a27 := Tryz.isAgg93
  z27 := Tryz.sizeOf93
  v27 := Tryz.zeroValue93
  t28 := Tryz.underlying94
  a28 := Tryz.isAgg94
  z28 := Tryz.sizeOf94
  v28 := Tryz.zeroValue94
  t33 := Tryz.underlying45
  a33 := Tryz.isAgg45
  z33 := Tryz.sizeOf45
  v33 := Tryz.zeroValue45 }
def Tryz.sortedA_ren : Go.Shelf.Ren := ⟨fun | 6 => 47 | 8 => 60 | 9 => 61 | 11 => 74 | 13 => 76 | 12 => 75 | 23 => 94 | 24 => 95 | 14 => 85 | 15 => 86 | 16 => 87 | 17 => 88 | 18 => 89 | 19 => 90 | 20 => 91 | 21 => 92 | 22 => 93 | 25 => 99 | 26 => 100 | 27 => 101 | 28 => 102 | 29 => 103 | 30 => 104 | 31 => 106 | n => n, fun | 26 => 9 | 28 => 94 | 24 => 66 | 0 => 0 | 3 => 3 | 37 => 114 | 48 => 131 | 50 => 133 | 4 => 4 | 40 => 123 | 39 => 122 | 45 => 128 | 5 => 5 | 9 => 9 | 51 => 135 | 55 => 87 | 57 => 144 | 58 => 145 | 33 => 45 | n => n, fun | n => n⟩
theorem Tryz.sortedA : Go.Proofs.SlLaysZ.n6 Tryz.prog Tryz.sortedA_ren := {
  mixed := by kernel_rfl
  f6 := ⟨Tryz.f47.name, by decide, Tryz.func47.trans (congrArg some (by kernel_rfl))⟩
  f8 := ⟨Tryz.f60.name, by decide, Tryz.func60.trans (congrArg some (by kernel_rfl))⟩
  f11 := ⟨Tryz.f74.name, by decide, Tryz.func74.trans (congrArg some (by kernel_rfl))⟩
  t0 := Tryz.underlying0
  a0 := Tryz.isAgg0
  z0 := Tryz.sizeOf0
  v0 := Tryz.zeroValue0
  t24 := Tryz.underlying66
  a24 := Tryz.isAgg66
  z24 := Tryz.sizeOf66
  v24 := Tryz.zeroValue66
  t26 := Tryz.underlying9
  a26 := Tryz.isAgg9
  z26 := Tryz.sizeOf9
  v26 := Tryz.zeroValue9
  t28 := Tryz.underlying94
  a28 := Tryz.isAgg94
  z28 := Tryz.sizeOf94
  v28 := Tryz.zeroValue94
  i26 := by kernel_rfl }
def Tryz.sortA_ren : Go.Shelf.Ren := ⟨fun | 6 => 61 | 8 => 76 | 9 => 75 | 19 => 94 | 20 => 95 | 21 => 85 | 22 => 86 | 23 => 87 | 24 => 88 | 25 => 89 | 26 => 90 | 27 => 91 | 28 => 92 | 29 => 93 | 36 => 99 | 31 => 100 | 32 => 101 | 37 => 102 | 38 => 103 | 39 => 104 | 41 => 106 | n => n, fun | 27 => 66 | 29 => 9 | 3 => 3 | 32 => 114 | 26 => 66 | 0 => 0 | 44 => 131 | 46 => 133 | 4 => 4 | 36 => 123 | 35 => 122 | 41 => 128 | 5 => 5 | 9 => 9 | 53 => 135 | 57 => 87 | 63 => 144 | 64 => 145 | n => n, fun | n => n⟩
theorem Tryz.sortA : Go.Proofs.SlLaysM.n6 Tryz.prog Tryz.sortA_ren := {
  mixed := by kernel_rfl
  f6 := ⟨Tryz.f61.name, by decide, Tryz.func61.trans (congrArg some (by kernel_rfl))⟩
  f8 := Tryz.func76.trans (congrArg some (by kernel_rfl))
  f9 := ⟨Tryz.f75.name, by decide, Tryz.func75.trans (congrArg some (by kernel_rfl))⟩
  f19 := Tryz.func94.trans (congrArg some (by kernel_rfl))
  f20 := Tryz.func95.trans (congrArg some (by kernel_rfl))
  f21 := ⟨Tryz.f85.name, by decide, Tryz.func85.trans (congrArg some (by kernel_rfl))⟩
  f22 := ⟨Tryz.f86.name, by decide, Tryz.func86.trans (congrArg some (by kernel_rfl))⟩
  f23 := ⟨Tryz.f87.name, by decide, Tryz.func87.trans (congrArg some (by kernel_rfl))⟩
  f24 := ⟨Tryz.f88.name, by decide, Tryz.func88.trans (congrArg some (by kernel_rfl))⟩
  f25 := ⟨Tryz.f89.name, by decide, Tryz.func89.trans (congrArg some (by kernel_rfl))⟩
  f26 := ⟨Tryz.f90.name, by decide, Tryz.func90.trans (congrArg some (by kernel_rfl))⟩
  f27 := ⟨Tryz.f91.name, by decide, Tryz.func91.trans (congrArg some (by kernel_rfl))⟩
  f28 := ⟨Tryz.f92.name, by decide, Tryz.func92.trans (congrArg some (by kernel_rfl))⟩
  f29 := ⟨Tryz.f93.name, by decide, Tryz.func93.trans (congrArg some (by kernel_rfl))⟩
  f31 := Tryz.func100.trans (congrArg some (by kernel_rfl))
  f32 := Tryz.func101.trans (congrArg some (by kernel_rfl))
  f36 := ⟨Tryz.f99.name, by decide, Tryz.func99.trans (congrArg some (by kernel_rfl))⟩
  f37 := ⟨Tryz.f102.name, by decide, Tryz.func102.trans (congrArg some (by kernel_rfl))⟩
  f38 := ⟨Tryz.f103.name, by decide, Tryz.func103.trans (congrArg some (by kernel_rfl))⟩
  f39 := ⟨Tryz.f104.name, by decide, Tryz.func104.trans (congrArg some (by kernel_rfl))⟩
  f41 := ⟨Tryz.f106.name, by decide, Tryz.func106.trans (congrArg some (by kernel_rfl))⟩
  t0 := Tryz.underlying0
  a0 := Tryz.isAgg0
  z0 := Tryz.sizeOf0
  v0 := Tryz.zeroValue0
  t3 := Tryz.underlying3
  a3 := Tryz.isAgg3
  z3 := Tryz.sizeOf3
  v3 := Tryz.zeroValue3
  t4 := Tryz.underlying4
  a4 := Tryz.isAgg4
  z4 := Tryz.sizeOf4
  v4 := Tryz.zeroValue4
  t5 := Tryz.underlying5
  a5 := Tryz.isAgg5
  z5 := Tryz.sizeOf5
  v5 := Tryz.zeroValue5
  t9 := Tryz.underlying9
  a9 := Tryz.isAgg9
  z9 := Tryz.sizeOf9
  v9 := Tryz.zeroValue9
  t26 := Tryz.underlying66
  a26 := Tryz.isAgg66
  z26 := Tryz.sizeOf66
  v26 := Tryz.zeroValue66
  t27 := Tryz.underlying66
  a27 := Tryz.isAgg66
  z27 := Tryz.sizeOf66
  v27 := Tryz.zeroValue66
  t29 := Tryz.underlying9
  a29 := Tryz.isAgg9
  z29 := Tryz.sizeOf9
  v29 := Tryz.zeroValue9
  t32 := Tryz.underlying114
  a32 := Tryz.isAgg114
  z32 := Tryz.sizeOf114
  v32 := Tryz.zeroValue114
  t35 := Tryz.underlying122
  a35 := Tryz.isAgg122
  z35 := Tryz.sizeOf122
  v35 := Tryz.zeroValue122
  t36 := Tryz.underlying123
  a36 := Tryz.isAgg123
  z36 := Tryz.sizeOf123
  v36 := Tryz.zeroValue123
  t41 := Tryz.underlying128
  a41 := Tryz.isAgg128
  z41 := Tryz.sizeOf128
  v41 := Tryz.zeroValue128
  t44 := Tryz.underlying131
  a44 := Tryz.isAgg131
  z44 := Tryz.sizeOf131
  v44 := Tryz.zeroValue131
  t46 := Tryz.underlying133
  a46 := Tryz.isAgg133
  z46 := Tryz.sizeOf133
  v46 := Tryz.zeroValue133
  t53 := Tryz.underlying135
  a53 := Tryz.isAgg135
  z53 := Tryz.sizeOf135
  v53 := Tryz.zeroValue135
  t57 := Tryz.underlying87
  a57 := Tryz.isAgg87
  z57 := Tryz.sizeOf87
  v57 := Tryz.zeroValue87
  t63 := Tryz.underlying144
  a63 := Tryz.isAgg144
  z63 := Tryz.sizeOf144
  v63 := Tryz.zeroValue144
  t64 := Tryz.underlying145
  a64 := Tryz.isAgg145
  z64 := Tryz.sizeOf145
  v64 := Tryz.zeroValue145 }
end Go.Proofs
/- names: All, and the keys of a table, sorted. -/
namespace Go.Proofs.YtlcglkanlhmmdaaGreat
open Go.RowKit Go.Shelf Go.Maps Go.WideMaps
theorem all20_any (pt : Nat) (w : World) : Calls Tryz.prog 30 #[.pointer (some ⟨pt, 0, none⟩)] w fun e w' => e = .returned (.func (.func 46) #[] #[.pointer (some ⟨w.heap.size, 0, none⟩)]) ∧ w' = w.alloc (.cells #[.pointer (some ⟨pt, 0, none⟩)] 25) := by
  go_enter Tryz.func30, Tryz.ntmps30
  go_wp2
  go_ret
  exact ⟨rfl, rfl⟩
def anyR : Value → Option (DataW Unit × List MemPlace) := fun _ => some (.nil, [])
theorem MapS.ownsStr {w : World} {b : Nat} {l : List (ByteArray × Value)} (h : MapS w b Value.string (id : Value → Value) l) (hr : ∀ p ∈ l, p.1.size ≤ maxLen) (hsz : l.length ≤ 1000) :
    ∃ D : DataW Unit, w.ownsMap Tryz.prog 9 anyR b l.length D ∧ Maps.size D = l.length ∧ (strKeys D).Perm (l.map fun p => p.1.data.toList) := by
  obtain ⟨es, clock, h1, h2, h3, h4⟩ := h
  have hlen : es.size = l.length := by
    have := congrArg List.length h2
    simpa using this
  have hent : ∀ x ∈ es.toList, ∃ p ∈ l, x.key = Value.string p.1 := fun x hx => by
    have : (x.key, x.val) ∈ l.map (fun p => (Value.string p.1, (id : Value → Value) p.2)) := by rw [← h2]; exact List.mem_map.2 ⟨x, hx, rfl⟩
    obtain ⟨p, hp, e⟩ := List.mem_map.1 this
    exact ⟨p, hp, (congrArg Prod.fst e).symm⟩
  have hrd : ∀ x ∈ es.toList, ∀ p ∈ l, x.key = Value.string p.1 → WideElems.rd Tryz.prog 9 anyR x = some (.string p.1.data.toList, .nil) := fun x _ p hp e => by
    unfold WideElems.rd
    rw [e, keyOf_string_mk Tryz.underlying9 (hr p hp)]
    rfl
  have hkeys : es.toList.map (·.key) = l.map (fun p => Value.string p.1) := by
    have := congrArg (List.map Prod.fst) h2
    rw [List.map_map, List.map_map] at this
    exact this
  have hrg : es.toList.map (WideElems.rg Tryz.prog 9 anyR) = l.map (fun p => ((Lit.string p.1.data.toList, .nil) : Lit × DataW Unit)) := by
    have e1 : es.toList.map (WideElems.rg Tryz.prog 9 anyR) = (es.toList.map (·.key)).map (fun v => ((keyOf Tryz.prog 9 v).map (fun k => (k, DataW.nil))).getD (.bool false, .nil)) := by
      rw [List.map_map]
      refine List.map_congr_left fun x hx => ?_
      obtain ⟨p, hp, e⟩ := hent x hx
      unfold WideElems.rg
      rw [hrd x hx p hp e, Function.comp_apply, e, keyOf_string_mk Tryz.underlying9 (hr p hp)]
      rfl
    rw [e1, hkeys, List.map_map]
    refine List.map_congr_left fun p hp => ?_
    rw [Function.comp_apply, keyOf_string_mk Tryz.underlying9 (hr p hp)]
    rfl
  refine ⟨.map ((es.toList.map (WideElems.rg Tryz.prog 9 anyR)).foldr DataW.insert []), ⟨es, clock, h1, ⟨?_, ?_, ?_⟩, by omega, rfl⟩, ?_, ?_⟩
  · have : (1000 : Nat) ≤ maxLen := by decide
    omega
  · refine ⟨h4.1, h4.2, ?_⟩
    rw [hkeys]
    refine List.pairwise_map.2 ((List.pairwise_map.1 h3).imp fun {a b} hne e => hne ?_)
    simpa using e
  · intro x hx
    obtain ⟨p, hp, e⟩ := hent x hx
    exact ⟨_, hrd x hx p hp e⟩
  · rw [size_eq, length_sorted]
    simp [hlen]
  · show ((_ : List (Lit × DataW Unit)).map fun p => Go.strOf p.1).Perm _
    refine ((WideShapes.sorted_perm _).map _).trans ?_
    rw [hrg, List.map_map]
    refine List.Perm.of_eq (List.map_congr_left fun p _ => ?_)
    rfl
theorem sortsA (m : Nat) : AnyZ.SortsIn Tryz.prog Tryz.sortedA_ren Fence.wide m :=
  ⟨fun blk off cap ss W hH hblk hsz => callsIn_wide.2 (AnyM.slices_Sort_string Tryz.sortA blk off cap ss W hH hblk hsz),
   fun p cap W => callsIn_wide.2 (AnyM.slices_Sort_string_none Tryz.sortA p cap W)⟩
theorem keys_of (mb : Option Nat) (W : World) : CallsIn Fence.wide 6 Tryz.prog 48 #[.map mb] W fun e w' => e = .returned (.func (.func 62) #[] #[.pointer (some ⟨W.heap.size, 0, none⟩)]) ∧ w' = W.alloc (.cells #[.map mb] 60) :=
  AnyZ.keys_in Tryz.keysA Fence.wide 6 trivial rfl mb W
/-- By names, rising. -/
def leN (p q : ByteArray × T) : Bool := decide (p.1.data.toList ≤ q.1.data.toList)
def sortP (L : List (ByteArray × T)) : List (ByteArray × T) := L.mergeSort leN
theorem sortP_perm (L : List (ByteArray × T)) : (sortP L).Perm L := List.mergeSort_perm L leN
theorem sortP_length (L : List (ByteArray × T)) : (sortP L).length = L.length := (sortP_perm L).length_eq
theorem sort_names {L : List (ByteArray × T)} {ss : List (List UInt8)} (h : ss.Perm (L.map fun p => p.1.data.toList)) : ss.mergeSort (fun x y => decide (x ≤ y)) = (sortP L).map fun p => p.1.data.toList := by
  rw [mergeSort_of_perm h]
  exact (List.map_mergeSort (r := leN) (f := fun p : ByteArray × T => p.1.data.toList) (fun a _ b _ => rfl)).symm
theorem enc_name (s : ByteArray) : encStr s.data.toList = .string s := by
  obtain ⟨a⟩ := s
  simp [encStr]
set_option maxHeartbeats 1000000 in
theorem sorted_of (W : World) (c : Nat) (L : List (ByteArray × T)) (vs : List (ByteArray × Value)) (hm : MapS W c Value.string (id : Value → Value) vs) (hk : vs.map Prod.fst = L.map Prod.fst) (hz : ∀ p ∈ L, p.1.size ≤ 1048576) (hl : L.length ≤ 1000) :
    CallsIn Fence.wide 6 Tryz.prog 47 #[.func (.func 62) #[] #[.pointer (some ⟨W.heap.size, 0, none⟩)]] (W.alloc (.cells #[.map (some c)] 60)) fun e w' => ∃ v : Value, e = .returned v ∧ w'.ownsRow W.heap.size 9 1 v L.length ((sortP L).map fun p => .string p.1) ∧ Below W.heap.size W w' := by
  have hlen : vs.length = L.length := by have := congrArg List.length hk; simpa using this
  have hnm : (vs.map fun p => p.1.data.toList) = L.map fun p => p.1.data.toList := by
    have := congrArg (List.map fun (s : ByteArray) => s.data.toList) hk
    rw [List.map_map, List.map_map] at this
    exact this
  obtain ⟨D, hown, hs, hkk⟩ := (hm.of_block (Below.heap_alloc W (.cells #[.map (some c)] 60) c hm.lt')).ownsStr (fun p hp => by
    have h1 : p.1 ∈ L.map Prod.fst := by rw [← hk]; exact List.mem_map.2 ⟨p, hp, rfl⟩
    obtain ⟨q, hq, e⟩ := List.mem_map.1 h1
    have h2 := hz q hq
    rw [e] at h2
    have : (1048576 : Nat) ≤ maxLen := by decide
    exact Nat.le_trans h2 this) (by omega)
  have hbox : (W.alloc (.cells #[.map (some c)] 60)).heap[W.heap.size]? = some (.cells #[.map (some c)] 60) := heap_alloc_new _ _
  rw [hlen] at hs hown
  have hmx : (1000 : Nat) ≤ maxLen := by decide
  have hseq : SeqGives Fence.wide 3 Tryz.prog 62 #[.pointer (some ⟨W.heap.size, 0, none⟩)] encStr (fun ss => ss.Perm (strKeys D)) (Maps.size D) (W.alloc (.cells #[.map (some c)] 60)) :=
    AnyZ.keys_gives (ρ := Tryz.keysA_ren) { Tryz.keysA with } Fence.wide _ trivial rfl (by omega) W.heap.size c L.length D _ (lt_of_heap hbox) (cell_of_heap hbox 0) hown
  have cS := AnyZ.sorted_in Tryz.sortedA Fence.wide 6 trivial trivial trivial trivial rfl (by omega) (sortsA _) (enters_of Tryz.func61 (by kernel_rfl) rfl) 62 #[.pointer (some ⟨W.heap.size, 0, none⟩)] trivial (enters_of Tryz.func62 (by kernel_rfl) rfl) _ _ (by omega) (by omega) _ hseq
  change CallsIn _ _ Tryz.prog 47 _ _ _ at cS
  refine cS.mono ?_
  rintro e w' ⟨v, ss, rfl, hS, hrow, _, hb⟩
  have hp : ss.Perm (L.map fun p => p.1.data.toList) := (hS.trans hkk).trans (List.Perm.of_eq hnm)
  have hss : ss.length = L.length := by rw [hp.length_eq, List.length_map]
  rw [sort_names hp, hss, List.map_map] at hrow
  have e : (sortP L).map (encStr ∘ fun p => p.1.data.toList) = (sortP L).map fun p => Value.string p.1 := List.map_congr_left fun p _ => enc_name p.1
  rw [e] at hrow
  exact ⟨v, rfl, ownsRow_base_a hrow (by simp), ((Below.refl _ W).alloc (Nat.le_refl _) _).trans (hb.mono (by simp))⟩
theorem sorted_nil (W : World) : CallsIn Fence.wide 6 Tryz.prog 47 #[.func (.func 62) #[] #[.pointer (some ⟨W.heap.size, 0, none⟩)]] (W.alloc (.cells #[.map none] 60)) fun e w' => e = .returned (.slice none 0 0) ∧ Below W.heap.size W w' := by
  have hbox : (W.alloc (.cells #[.map none] 60)).heap[W.heap.size]? = some (.cells #[.map none] 60) := heap_alloc_new _ _
  have hseq : SeqGives Fence.wide 3 Tryz.prog 62 #[.pointer (some ⟨W.heap.size, 0, none⟩)] encStr (fun ss : List (List UInt8) => ss = []) 0 (W.alloc (.cells #[.map none] 60)) :=
    AnyZ.keys_gives_nil (ρ := Tryz.keysA_ren) { Tryz.keysA with } Fence.wide _ trivial rfl W.heap.size _ (lt_of_heap hbox) (cell_of_heap hbox 0)
  have cS := AnyZ.sorted_in Tryz.sortedA Fence.wide 6 trivial trivial trivial trivial rfl (by omega) (sortsA _) (enters_of Tryz.func61 (by kernel_rfl) rfl) 62 #[.pointer (some ⟨W.heap.size, 0, none⟩)] trivial (enters_of Tryz.func62 (by kernel_rfl) rfl) _ 0 (Nat.zero_le _) (by omega) _ hseq
  change CallsIn _ _ Tryz.prog 47 _ _ _ at cS
  refine cS.mono ?_
  rintro e w' ⟨v, ss, rfl, rfl, _, hnil, hb⟩
  exact ⟨by rw [hnil.2 rfl], ((Below.refl _ W).alloc (Nat.le_refl _) _).trans (hb.mono (by simp))⟩
/-! ### what stays where cells and maps stay -/
theorem T.At.kz {Z : Nat → Prop} {w W : World} (hk : KZ Z w W) (hZ : ∀ k, Z k → k < w.heap.size → Thin w k) (t : T) : ∀ {a : Option Addr}, t.At w a → t.At W a := by
  induction t using T.ind with
  | h o l ih =>
    intro a h
    rw [T.at_mk] at h ⊢
    intro h0
    obtain ⟨b, off, e, h1, h2⟩ := h h0
    obtain ⟨a0, c0, h3, _⟩ := h2 0 l[0] (List.getElem?_eq_getElem h0)
    have h4 := h3 1 (by omega)
    have h5 : (ncells l[0].o (.slice a0 l[0].l.length c0))[1]? = some (.int .i64 l[0].o.v.k) := rfl
    rw [h5] at h4
    have hb : ¬ Z b := fun hb => by
      rw [hZ b hb h1 _ (by omega)] at h4
      cases h4
    obtain ⟨cs, ty, fz, hh⟩ := cells_of_cell h4
    have hW := hk.same b _ hb hh (.inl rfl)
    have hc : ∀ o, W.cell? ⟨b, o, none⟩ = w.cell? ⟨b, o, none⟩ := fun o => by rw [cell_of_heap hW, cell_of_heap hh]
    refine ⟨b, off, e, Nat.lt_of_lt_of_le h1 hk.size, fun i t ht => ?_⟩
    obtain ⟨a', c', h6, h7⟩ := h2 i t ht
    exact ⟨a', c', fun j hj => (hc _).trans (h6 j hj), ih t (List.mem_of_getElem? ht) h7⟩
theorem IsT.kz {Z : Nat → Prop} {w W : World} (hk : KZ Z w W) (hZ : ∀ k, Z k → k < w.heap.size → Thin w k) {v : Value} {t : T} (h : IsT w v t) : IsT W v t := by
  obtain ⟨a, cap, e, h⟩ := h
  exact ⟨a, cap, e, h.kz hk hZ t⟩
theorem T.Own.kz {Z : Nat → Prop} {w W : World} (hk : KZ Z w W) (t : T) : ∀ {a : Option Addr} {S : Nat → Prop}, (∀ k, S k → ¬ Z k) → t.Own w a S → t.Own W a S := by
  induction t using T.ind with
  | h o l ih =>
    intro a S hS h
    rw [T.own_mk] at h ⊢
    intro h0
    obtain ⟨b, es, Si, h1, h2, h3, h4, h5⟩ := h h0
    refine ⟨b, es, Si, h1, h2, hk.same b _ (hS b h2) h3 (.inl rfl), h4, fun i t ht => ?_⟩
    obtain ⟨⟨a', c', p1, p2⟩, p3⟩ := h5 i t ht
    exact ⟨⟨a', c', p1, ih t (List.mem_of_getElem? ht) (fun k hk' => hS k (p3 k hk').1) p2⟩, p3⟩
/-- There are cells there. -/
def CellsAt (w : World) (k : Nat) : Prop := ∃ cs ty fz, w.heap[k]? = some (.cells cs ty fz)
theorem T.Own.cells {w : World} (t : T) : ∀ {a : Option Addr} {S : Nat → Prop}, t.Own w a S → t.Own w a (fun k => S k ∧ CellsAt w k) := by
  induction t using T.ind with
  | h o l ih =>
    intro a S h
    rw [T.own_mk] at h ⊢
    intro h0
    obtain ⟨b, es, Si, h1, h2, h3, h4, h5⟩ := h h0
    refine ⟨b, es, fun i k => Si i k ∧ CellsAt w k, h1, ⟨h2, _, _, _, h3⟩, h3, h4, fun i t ht => ?_⟩
    obtain ⟨⟨a', c', p1, p2⟩, p3⟩ := h5 i t ht
    exact ⟨⟨a', c', p1, ih t (List.mem_of_getElem? ht) p2⟩, fun k hk => ⟨⟨(p3 k hk.1).1, hk.2⟩, (p3 k hk.1).2.1, fun j hj hh => (p3 k hk.1).2.2 j hj hh.1⟩⟩
theorem keeps_of_fr {B : Nat} {S : Nat → Prop} {W W' : World} (hf : Fr S W W') (hS : ∀ k, S k → CellsAt W k) : KeepsFrom B W W' := ⟨hf.size, fun k o _ hk ho => (hf.block k (lt_of_heap hk) (fun h => by
  obtain ⟨cs, ty, fz, e⟩ := hS k h
  rw [hk] at e
  cases e
  cases ho)).trans hk⟩
/-- A block of one cell. -/
def OneC (w : World) (k : Nat) : Prop := ∃ v ty fz, w.heap[k]? = some (.cells #[v] ty fz)
theorem OneC.thin {w : World} {k : Nat} (h : OneC w k) : Thin w k := by
  obtain ⟨v, ty, fz, h⟩ := h
  exact thin_cells h
theorem Tab.kz {Z : Nat → Prop} {w W : World} {pt : Nat} {L : List (ByteArray × T)} (h : Tab w pt L) (hk : KZ Z w W) (hZ : ∀ k, Z k → k < w.heap.size → OneC w k ∧ k ≠ pt) : Tab W pt L := by
  obtain ⟨mo, hp, hV⟩ := h
  have hth : ∀ k, Z k → k < w.heap.size → Thin w k := fun k h1 h2 => (hZ k h1 h2).1.thin
  refine ⟨mo, hk.same pt _ (fun h1 => (hZ pt h1 (lt_of_heap hp)).2 rfl) hp (.inl rfl), ?_⟩
  cases mo with
  | none => exact hV
  | some mt =>
    obtain ⟨vs, ⟨es, c, hm, h2⟩, h3, h4⟩ := hV
    refine ⟨vs, ⟨es, c, hk.same mt _ (fun h1 => ?_) hm (.inr rfl), h2⟩, h3, fun i s t hi => ?_⟩
    · obtain ⟨v, ty, fz, e⟩ := (hZ mt h1 (lt_of_heap hm)).1
      rw [hm] at e
      cases e
    · obtain ⟨v, p1, p2⟩ := h4 i s t hi
      exact ⟨v, p1, p2.kz hk hth⟩
end Go.Proofs.YtlcglkanlhmmdaaGreat
