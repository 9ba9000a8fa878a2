/- A range over a function whose iterator has cells of its own and yields memory of its own: what comes is told where it comes; the round may write into it; the loop variables may lie in boxes. -/
import Derived.Shelf.SlIter.Nil
import Derived.Shelf.SortM.Plain
import Derived.Shelf.SortM.SortNone
import Derived.Ground.GgzProg
import Derived.Ground.SlgmProg
import Derived.Test.YtlcglkanlhmmdaaProg
import Derived.StringKeys
import Derived.Test.YtlcglkanlhmmdaaQKZ
import Derived.Test.YtlcglkanlhmmdaaQN17Sep
import Derived.Test.YtlcglkanlhmmdaaQN17Agree
namespace Go.Proofs.Ytlcglkanlhmmdaa
open Go.RowKit Go.Shelf Go.Maps
theorem KZ.mono {Z Z' : Nat → Prop} {A B : World} (h : KZ Z A B) (hz : ∀ k, Z k → Z' k) : KZ Z' A B := ⟨h.size, fun k o hk h1 h2 => h.same k o (fun e => hk (hz k e)) h1 h2⟩
theorem KZ.of_below {Z : Nat → Prop} {A B : World} (h : Below A.heap.size A B) : KZ Z A B := ⟨h.size, fun k _ _ h1 _ => (h.block k (lt_of_heap h1)).trans h1⟩
def SeqG {α : Type} (F : Fence) (n : Nat) (P : Program) (g : Nat) (lb : Array Value) (encs : α → Array Value) (own : α → Nat → Prop) (Z : Nat → Prop) (G : List α → α → World → Prop) (S Sp : List α → Prop) (N : Nat) (w : World) : Prop :=
  ∀ (l : Nat) (J Jx : List α → World → Prop) (W : World), Below w.heap.size w W → LowFrom W.heap.size J → LowFrom W.heap.size Jx →
    (∀ pre x W1, J pre W1 → pre.length < N → G pre x W1 → YieldAt F (n - 1) P l (encs x) W1 fun e W' =>
      (e = .returned (.bool true) ∧ J (pre ++ [x]) W' ∧ KZ (fun k => Z k ∨ own x k) W1 W') ∨ (e = .returned (.bool false) ∧ Jx (pre ++ [x]) W')) →
    J [] W →
    CallsIn F n P g (#[.func (.yield l) #[] #[]] ++ lb) W fun e W' => (∃ v, e = .returned v) ∧ ((∃ xs, S xs ∧ J xs W') ∨ (∃ pre, Sp pre ∧ Jx pre W'))
theorem range_g {P : Program} {n : Nat} {α : Type} {g : Operand} {ps : Array Tmp} {assign body : Code} {Q : Exit → Act → World → Prop} {a : Act} {w : World} {F : Fence}
    (hro : F.round = none) (h1 : 1 ≤ n) {gf : Nat} {lb : Array Value} (hg : a.eval g = .func (.func gf) #[] lb) (hFg : F.fn gf) (eg : ∀ args w, (callFunc gf args).run P w = .ok (.enter gf args) w)
    {encs : α → Array Value} {own : α → Nat → Prop} {Z : Nat → Prop} {G : List α → α → World → Prop} {S Sp : List α → Prop} {N : Nat} (hseq : SeqG F (n - 1) P gf lb encs own Z G S Sp N w) (hps : ∀ x, (encs x).size = ps.size)
    (hG : ∀ pre x W W', G pre x W → KZ (fun _ => False) W W' → G pre x W')
    (I : List α → World → Prop) (Ix : Code → List α → World → Prop) (hI : LowFrom w.heap.size I) (hIx : ∀ c, LowFrom w.heap.size (Ix c)) (h0 : I [] w)
    (Pst : α → Act → World → Prop) (hP : ∀ x a W W', Pst x a W → KZ (fun _ => False) W W' → Pst x a W')
    (hassign : ∀ (l : Nat) (pre : List α) (x : α) (W : World) (K : Act → World → Prop), G pre x W → (∀ a' W', Below W.heap.size W W' → Pst x a' W' → K a' W') →
      assign.wpIn (F.inRound l) (n - 1 - 1) P (Exit.then K (fun _ _ _ => False)) { tmps := (ps.zip (encs x)).foldl (fun t (p, v) => t.setIfInBounds p v) a.tmps, defers := [] } W)
    (hbody : ∀ (l : Nat) (pre : List α) (x : α) (a' : Act) (W : World), w.heap.size ≤ l → (∃ r, W.heap[l]? = some (.loop r)) → I pre W → pre.length < N → G pre x W → Pst x a' W → body.wpIn (F.inRound l) (n - 1 - 1) P (ownPostG w.heap.size (KZ fun k => Z k ∨ own x k) I Ix (pre ++ [x]) W) a' W)
    (hdone : ∀ (D : Nat) (xs : List α) (W : World), w.heap.size ≤ D → S xs → I xs W → W.heap[D]? = some (.deferred (some [])) → Q .normal { a with defers := { target := .collected D, args := #[] } :: a.defers } W)
    (hstop : ∀ (D : Nat) (c : Code) (pre : List α) (W : World), w.heap.size ≤ D → Sp pre → Ix c pre W → W.heap[D]? = some (.deferred (some [])) → c.wpIn F n P Q { a with defers := { target := .collected D, args := #[] } :: a.defers } W) :
    (Code.rangeFunc g ps assign body).wpIn F n P Q a w := by
  refine wpIn_rangeFunc fun fn hfn => ?_
  rw [hro]
  generalize hm : w.heap.size = m at *
  obtain ⟨rc, hrc⟩ : ∃ rc : LoopState → Option Code → Loop, rc = fun st pe => { state := st, pending := pe, fn, tmps := a.tmps, params := ps, assign, body, defers := m } := ⟨_, rfl⟩
  have hB1 : Below m w ((w.alloc (.deferred (some []))).alloc (.loop (rc .ready none))) := ((Below.refl _ w).alloc (by omega) _).alloc (by simp; omega) _
  have hL1 : ((w.alloc (.deferred (some []))).alloc (.loop (rc .ready none))).heap[m + 1]? = some (.loop (rc .ready none)) := heap_alloc_at (by simp [hm]) _
  have hD1 : ((w.alloc (.deferred (some []))).alloc (.loop (rc .ready none))).heap[m]? = some (.deferred (some [])) := heap_alloc_old (heap_alloc_at (by omega) _) _
  have hz1 : ((w.alloc (.deferred (some []))).alloc (.loop (rc .ready none))).heap.size = m + 2 := by simp [hm]
  refine ⟨m + 1, [{ target := .collected m, args := #[] }], (w.alloc (.deferred (some []))).alloc (.loop (rc .ready none)), { target := .fn (.func gf) lb, args := #[.func (.yield (m + 1)) #[] #[]] }, (w.alloc (.deferred (some []))).alloc (.loop (rc .ready none)), gf,
    #[.func (.yield (m + 1)) #[] #[]] ++ lb, (w.alloc (.deferred (some []))).alloc (.loop (rc .ready none)), ?_, ?_, ?_, ?_, fun _ => h1, ?_⟩
  · rw [hrc, ← hm]
    exact run_enterLoop_outer _ _ _ _ _
  · simp only [resolve, hg]
    simp [go_sem]
  · intro f' hf'
    simp [Target.leads] at hf'
    subst hf'
    exact hFg
  · simp [invoke, go_sem, eg]
  generalize (w.alloc (.deferred (some []))).alloc (.loop (rc .ready none)) = W1 at hB1 hL1 hD1 hz1 ⊢
  refine (hseq (m + 1) (fun pre W => I pre W ∧ W.heap[m + 1]? = some (.loop (rc .ready none)) ∧ W.heap[m]? = some (.deferred (some [])))
    (fun pre W => ∃ c, Ix c pre W ∧ W.heap[m + 1]? = some (.loop (rc .done (some c))) ∧ W.heap[m]? = some (.deferred (some []))) W1 (by rw [hm]; exact hB1) ?_ ?_ ?_ ⟨hI _ _ _ h0 hB1, hL1, hD1⟩).mono ?_
  · rintro s A B ⟨p1, p2, p3⟩ hb
    exact ⟨hI _ _ _ p1 (hb.mono (by omega)), (hb.block _ (by omega)).trans p2, (hb.block _ (by omega)).trans p3⟩
  · rintro s A B ⟨c, p1, p2, p3⟩ hb
    exact ⟨c, hIx c _ _ _ p1 (hb.mono (by omega)), (hb.block _ (by omega)).trans p2, (hb.block _ (by omega)).trans p3⟩
  · rintro pre x W ⟨hi, hl, hd⟩ hlen hgx
    have hy := run_yield (P := P) (args := encs x) hl (by rw [hrc]; exact hps x)
    rw [hrc] at hy
    refine ⟨fn, _, assign, body, hy, roundIn_of_wpIn hfn (hassign _ pre x W _ hgx fun a' Wa hba hpa => ?_)⟩
    have hsz := lt_of_heap hl
    have hla := (hba.block _ hsz).trans hl
    have hda := (hba.block _ (lt_of_heap hd)).trans hd
    have hia := hI _ _ _ hi (hba.mono (by omega))
    have hga := hG _ _ _ _ hgx (KZ.of_below hba)
    have hkW : KZ (fun k => Z k ∨ own x k) W Wa := KZ.of_below hba
    refine ⟨_, run_beginRound hla (by rw [hrc]), ?_⟩
    clear hy hl hd hi hgx hba hsz
    have hlt := lt_of_heap hla
    have hl2 : (Wa.putObj (m + 1) (.loop { rc .ready none with state := .busy })).heap[m + 1]? = some (.loop { rc .ready none with state := .busy }) := World.putObj_heap_same hlt
    have hd2 : (Wa.putObj (m + 1) (.loop { rc .ready none with state := .busy })).heap[m]? = some (.deferred (some [])) := (World.putObj_heap_other (by omega)).trans hda
    have hk0 : KZ (fun _ => False) Wa (Wa.putObj (m + 1) (.loop { rc .ready none with state := .busy })) := kz_b (w := w) _ _ _ _ (by omega) hla rfl rfl
    have hk2 : KZ (fun k => Z k ∨ own x k) Wa (Wa.putObj (m + 1) (.loop { rc .ready none with state := .busy })) := hk0.mono (fun _ h => h.elim)
    refine wpIn_mono (hbody _ pre x a' _ (by omega) ⟨_, hl2⟩ (hI _ _ _ hia (below_putO _ _ _ (by omega))) hlen (hG _ _ _ _ hga hk0) (hP _ _ _ _ hpa hk0)) ?_
    generalize Wa.putObj (m + 1) (.loop { rc .ready none with state := .busy }) = W2 at hl2 hd2 hk2
    have fin : ∀ (jump : Option Code) (W3 : World), KeepsFrom m W2 W3 →
        ∃ W4, (Instr.endRound (m + 1) jump).run P W3 = .ok (.bool jump.isNone) W4 ∧ KZ (fun k => Z k ∨ own x k) W3 W4 ∧ Below m W3 W4 ∧ W4.heap[m + 1]? = some (.loop (rc (if jump.isNone then .ready else .done) jump)) ∧ W4.heap[m]? = some (.deferred (some [])) := fun jump W3 hk3 => by
      have hl3 := hk3.same _ _ (by omega) hl2 rfl
      have hd3 := hk3.same _ _ (Nat.le_refl _) hd2 rfl
      have he := run_endRound (P := P) jump hl3
      refine ⟨_, he, kz_b (w := w) _ _ _ _ (by omega) hl3 rfl rfl, below_putO _ _ _ (by omega), ?_, (World.putObj_heap_other (by omega)).trans hd3⟩
      rw [World.putObj_heap_same (lt_of_heap hl3), hrc]
    rintro e a3 W3 hp
    cases e with
    | normal =>
      obtain ⟨hk3, hz3, hi3⟩ := hp
      obtain ⟨W4, q1, q2, q3, q4, q5⟩ := fin none W3 hk3
      exact ⟨_, W4, q1, .inl ⟨rfl, ⟨hI _ _ _ hi3 q3, q4, q5⟩, ((hkW.trans hk2).trans hz3).trans q2⟩⟩
    | ret =>
      obtain ⟨hk3, hi3⟩ := hp
      obtain ⟨W4, q1, _, q3, q4, q5⟩ := fin (some .ret) W3 hk3
      exact ⟨_, W4, q1, .inr ⟨rfl, .ret, hIx _ _ _ _ hi3 q3, q4, q5⟩⟩
    | exit id =>
      obtain ⟨hk3, hi3⟩ := hp
      obtain ⟨W4, q1, _, q3, q4, q5⟩ := fin (some (.exit id)) W3 hk3
      exact ⟨_, W4, q1, .inr ⟨rfl, .exit id, hIx _ _ _ _ hi3 q3, q4, q5⟩⟩
    | goto t =>
      obtain ⟨hk3, hi3⟩ := hp
      obtain ⟨W4, q1, _, q3, q4, q5⟩ := fin (some (.goto t)) W3 hk3
      exact ⟨_, W4, q1, .inr ⟨rfl, .goto t, hIx _ _ _ _ hi3 q3, q4, q5⟩⟩
    | panic ch => exact hp.elim
    | outgrown => exact hp.elim
  · rintro e W2 ⟨⟨v, rfl⟩, (⟨xs, hS, hi, hl, hd⟩ | ⟨pre, hSp, c, hi, hl, hd⟩)⟩
    · refine ⟨none, _, by have := run_endLoop (P := P) hl (by rw [hrc]; simp); rw [hrc] at this; exact this, hdone m xs _ (Nat.le_refl _) hS (hI _ _ _ hi (below_putO _ _ _ (by omega))) ((World.putObj_heap_other (by omega)).trans hd)⟩
    · refine ⟨some c, _, by have := run_endLoop (P := P) hl (by rw [hrc]; simp); rw [hrc] at this; exact this, hstop m c pre _ (Nat.le_refl _) hSp (hIx c _ _ _ hi (below_putO _ _ _ (by omega))) ((World.putObj_heap_other (by omega)).trans hd)⟩
/-- The same, where a round begins in a frame that its element and a new block tell. -/
theorem range_gb {P : Program} {n : Nat} {α : Type} {g : Operand} {ps : Array Tmp} {assign body : Code} {Q : Exit → Act → World → Prop} {a : Act} {w : World} {F : Fence}
    (hro : F.round = none) (h1 : 1 ≤ n) {gf : Nat} {lb : Array Value} (hg : a.eval g = .func (.func gf) #[] lb) (hFg : F.fn gf) (eg : ∀ args w, (callFunc gf args).run P w = .ok (.enter gf args) w)
    {encs : α → Array Value} {own : α → Nat → Prop} {Z : Nat → Prop} {G : List α → α → World → Prop} {S Sp : List α → Prop} {N : Nat} (hseq : SeqG F (n - 1) P gf lb encs own Z G S Sp N w) (hps : ∀ x, (encs x).size = ps.size)
    (hG : ∀ pre x W W', G pre x W → KZ (fun _ => False) W W' → G pre x W')
    (I : List α → World → Prop) (Ix : Code → List α → World → Prop) (hI : LowFrom w.heap.size I) (hIx : ∀ c, LowFrom w.heap.size (Ix c)) (h0 : I [] w)
    (A : α → Nat → Act) (Bx : α → Nat → World → Prop) (hP : ∀ x b W W', Bx x b W → KZ (fun _ => False) W W' → Bx x b W')
    (hassign : ∀ (l : Nat) (pre : List α) (x : α) (W : World) (K : Act → World → Prop), G pre x W → (∀ b W', b = W.heap.size → Below W.heap.size W W' → Bx x b W' → K (A x b) W') →
      assign.wpIn (F.inRound l) (n - 1 - 1) P (Exit.then K (fun _ _ _ => False)) { tmps := (ps.zip (encs x)).foldl (fun t (p, v) => t.setIfInBounds p v) a.tmps, defers := [] } W)
    (hbody : ∀ (l : Nat) (pre : List α) (x : α) (b : Nat) (W : World), w.heap.size ≤ l → (∃ r, W.heap[l]? = some (.loop r)) → I pre W → pre.length < N → G pre x W → Bx x b W → body.wpIn (F.inRound l) (n - 1 - 1) P (ownPostG w.heap.size (KZ fun k => Z k ∨ own x k) I Ix (pre ++ [x]) W) (A x b) W)
    (hdone : ∀ (D : Nat) (xs : List α) (W : World), w.heap.size ≤ D → S xs → I xs W → W.heap[D]? = some (.deferred (some [])) → Q .normal { a with defers := { target := .collected D, args := #[] } :: a.defers } W)
    (hstop : ∀ (D : Nat) (c : Code) (pre : List α) (W : World), w.heap.size ≤ D → Sp pre → Ix c pre W → W.heap[D]? = some (.deferred (some [])) → c.wpIn F n P Q { a with defers := { target := .collected D, args := #[] } :: a.defers } W) :
    (Code.rangeFunc g ps assign body).wpIn F n P Q a w := by
  refine range_g hro h1 hg hFg eg hseq hps hG I Ix hI hIx h0 (fun x a' W => ∃ b, a' = A x b ∧ Bx x b W) ?_ ?_ ?_ hdone hstop
  · rintro x a W W' ⟨b, e, h⟩ hk
    exact ⟨b, e, hP x b W W' h hk⟩
  · intro l pre x W K hg hK
    exact hassign l pre x W K hg fun b W' hb h1 h2 => hK _ _ h1 ⟨b, rfl, h2⟩
  · rintro l pre x a' W hl hr hi hlt hg ⟨b, rfl, h⟩
    exact hbody l pre x b W hl hr hi hlt hg h
end Go.Proofs.Ytlcglkanlhmmdaa
/- A load and a store of a node inside a fence. -/
namespace Go.Proofs.Ytlcglkanlhmmdaa
open Go.RowKit
section
variable {F : Fence} {n : Nat} {ops : Array Oper} {rest : List Oper} {op : Oper} {a : Act} {w : World} {Q : Exit → Act → World → Prop}
theorem wpListIn_load_g {P : Program} (hw : Region.wanted op (yielded ops a.tmps) = true) (ty : TypeId) (x : Operand) (ho : op.op = .load ty x)
    (b o : Nat) (hx : a.eval x = .pointer (some ⟨b, o, none⟩)) (cs : List Value) (d : TypeDesc) (hc : w.rangeAt b o cs)
    (hu : P.underlying ty = some d) (hd : d.isRow = true) (hi : (P.info? ty).map (·.size) = some cs.length)
    (h : wpListIn F n P ops Q rest (a.put op.dst (.agg cs.toArray)) w) : wpListIn F n P ops Q (op :: rest) a w :=
  wpListIn_step fun K hK => by
    rw [if_pos hw]
    refine ⟨fun f hf => (by unfold Oper.about at hf; rw [ho] at hf; cases hf), ?_⟩
    rw [Oper.semAt_plain F _ _ (by rw [ho]; intro c h; cases h)]
    have hr := run_loadAt_mid (P := P) w b o ty cs d hc hu hd hi
    unfold execOp
    simp only [ho, hx, Sem.run_bind, hr, Result.andThen_ok, Sem.run_pure]
    exact hK _ _ h
theorem wpListIn_store_nd (hw : Region.wanted op (yielded ops a.tmps) = true) (x y : Operand) (ho : op.op = .store 35 x y) (b off : Nat) (C : List Value) (ty : TypeId) (hb : w.heap[b]? = some (.cells C.toArray ty)) (hoff : off + 22 ≤ C.length) (o : Nd) (s : Value) (hs : s.oneCell' = true)
    (hx : a.eval x = .pointer (some ⟨b, off, none⟩)) (hy : a.eval y = .agg (ncells o s).toArray)
    (h : ∀ W', W'.heap[b]? = some (.cells (C.take off ++ ncells o s ++ C.drop (off + 22)).toArray ty) → Fr (fun k => k = b) w W' → W'.heap.size = w.heap.size → wpListIn F n Try.prog ops Q rest (a.put op.dst undef) W') : wpListIn F n Try.prog ops Q (op :: rest) a w :=
  wpListIn_step fun K hK => by
    rw [if_pos hw]
    refine ⟨fun f hf => (by unfold Oper.about at hf; rw [ho] at hf; cases hf), ?_⟩
    rw [Oper.semAt_plain F _ _ (by rw [ho]; intro c h; cases h)]
    have hl : (ncells o s).length = 22 := rfl
    have hst := run_storeCells_at Try.prog b off ty (ncells o s) 0 C.toArray w hb (by rw [hl]; simpa using hoff) (one_nd o hs)
    simp only [Nat.add_zero] at hst
    rw [hl] at hst
    have hi := info35
    cases hq : Try.prog.info? 35 with
    | none => rw [hq] at hi; simp at hi
    | some i =>
      have hsz : i.size = 22 := by rw [hq] at hi; simpa using hi
      have hsv : (storeVar 35 ⟨b, off, none⟩ (.agg (ncells o s).toArray)).run Try.prog w = .ok () (w.setRow b (C.toArray.toList.take off ++ ncells o s ++ C.toArray.toList.drop (off + 22)).toArray) := by
        have hc : (Value.agg (ncells o s).toArray).cells.size = i.size := by rw [hsz]; rfl
        have hc2 : (Value.agg (ncells o s).toArray).cells.toList = ncells o s := rfl
        simp [storeVar, sizeOf, typeInfo, hq, hc, hc2, hst]
      unfold execOp
      simp only [ho, hx, hy, Instr.storeAt, Instr.sureAddr, Sem.run_bind, Sem.run_pure, Result.andThen_ok, hsv]
      exact hK _ _ (h _ (setRow_heap w b _ _ ty _ hb) ⟨rfl, rfl, rfl, by simp [World.setRow], fun k _ hk => setRow_other w b k _ hk⟩ (by simp [World.setRow]))
end
end Go.Proofs.Ytlcglkanlhmmdaa
/-
  DERIVED: THE SHELF's CONTRACTS AT THIS DUMP, IN PLAIN WORDS (tools/lay-plain.mjs out of 'YtlcglkanlhmmdaaN17Shelf.lean', which tools/lay-shelf.mjs wrote): THE SAME DECLARATIONS UNDER THE SAME NAMES: 'import', 'namespace', 'open', 'def', 'theorem' AND NOTHING ELSE: no command of the shelf's: FOR A HAND-IN. Each laying: the table of numbers ('.._ren') and one theorem, a field a fact of the dump's own or the kernel's comparison; each contract: ONE APPLICATION.
-/
namespace Go.Proofs
open Go.Shelf
def Try.keysA_ren : Go.Shelf.Ren := ⟨fun | 7 => 36 | 10 => 47 | n => n, fun | 23 => 69 | 26 => 9 | 3 => 35 | 28 => 86 | 0 => 0 | 27 => 85 | 33 => 65 | 4 => 4 | n => n, fun | n => n⟩
theorem Try.keysA : Go.Proofs.SlLaysZ.n7 Try.prog Try.keysA_ren := {
  mixed := by kernel_rfl
  f7 := ⟨Try.f36.name, by decide, Try.func36.trans (congrArg some (by kernel_rfl))⟩
  f10 := ⟨Try.f47.name, by decide, Try.func47.trans (congrArg some (by kernel_rfl))⟩
  t0 := Try.underlying0
  a0 := Try.isAgg0
  z0 := Try.sizeOf0
  v0 := Try.zeroValue0
  t4 := Try.underlying4
  a4 := Try.isAgg4
  z4 := Try.sizeOf4
  v4 := Try.zeroValue4
  t23 := Try.underlying69
  a23 := Try.isAgg69
  z23 := Try.sizeOf69
  v23 := Try.zeroValue69
  t26 := Try.underlying9
  a26 := Try.isAgg9
  z26 := Try.sizeOf9
  v26 := Try.zeroValue9
  t27 := Try.underlying85
  a27 := Try.isAgg85
  z27 := Try.sizeOf85
  v27 := Try.zeroValue85
  t28 := Try.underlying86
  a28 := Try.isAgg86
  z28 := Try.sizeOf86
  v28 := Try.zeroValue86
  t33 := Try.underlying65
  a33 := Try.isAgg65
  z33 := Try.sizeOf65
  v33 := Try.zeroValue65 }
def Try.sortedA_ren : Go.Shelf.Ren := ⟨fun | 6 => 35 | 8 => 45 | 9 => 46 | 11 => 62 | 13 => 64 | 12 => 63 | 23 => 82 | 24 => 83 | 14 => 73 | 15 => 74 | 16 => 75 | 17 => 76 | 18 => 77 | 19 => 78 | 20 => 79 | 21 => 80 | 22 => 81 | 25 => 95 | 26 => 96 | 27 => 97 | 28 => 98 | 29 => 99 | 30 => 100 | 31 => 105 | n => n, fun | 26 => 9 | 28 => 86 | 24 => 50 | 0 => 0 | 3 => 3 | 37 => 108 | 48 => 124 | 50 => 126 | 4 => 4 | 40 => 116 | 39 => 115 | 45 => 121 | 5 => 5 | 9 => 9 | 51 => 135 | 55 => 90 | 57 => 141 | 58 => 142 | 33 => 65 | n => n, fun | n => n⟩
theorem Try.sortedA : Go.Proofs.SlLaysZ.n6 Try.prog Try.sortedA_ren := {
  mixed := by kernel_rfl
  f6 := ⟨Try.f35.name, by decide, Try.func35.trans (congrArg some (by kernel_rfl))⟩
  f8 := ⟨Try.f45.name, by decide, Try.func45.trans (congrArg some (by kernel_rfl))⟩
  f11 := ⟨Try.f62.name, by decide, Try.func62.trans (congrArg some (by kernel_rfl))⟩
  t0 := Try.underlying0
  a0 := Try.isAgg0
  z0 := Try.sizeOf0
  v0 := Try.zeroValue0
  t24 := Try.underlying50
  a24 := Try.isAgg50
  z24 := Try.sizeOf50
  v24 := Try.zeroValue50
  t26 := Try.underlying9
  a26 := Try.isAgg9
  z26 := Try.sizeOf9
  v26 := Try.zeroValue9
  t28 := Try.underlying86
  a28 := Try.isAgg86
  z28 := Try.sizeOf86
  v28 := Try.zeroValue86
  i26 := by kernel_rfl }
def Try.sortA_ren : Go.Shelf.Ren := ⟨fun | 6 => 46 | 8 => 64 | 9 => 63 | 19 => 82 | 20 => 83 | 21 => 73 | 22 => 74 | 23 => 75 | 24 => 76 | 25 => 77 | 26 => 78 | 27 => 79 | 28 => 80 | 29 => 81 | 36 => 95 | 31 => 96 | 32 => 97 | 37 => 98 | 38 => 99 | 39 => 100 | 41 => 105 | n => n, fun | 27 => 50 | 29 => 9 | 3 => 3 | 32 => 108 | 26 => 50 | 0 => 0 | 44 => 124 | 46 => 126 | 4 => 4 | 36 => 116 | 35 => 115 | 41 => 121 | 5 => 5 | 9 => 9 | 53 => 135 | 57 => 90 | 63 => 141 | 64 => 142 | n => n, fun | n => n⟩
theorem Try.sortA : Go.Proofs.SlLaysM.n6 Try.prog Try.sortA_ren := {
  mixed := by kernel_rfl
  f6 := ⟨Try.f46.name, by decide, Try.func46.trans (congrArg some (by kernel_rfl))⟩
  f8 := Try.func64.trans (congrArg some (by kernel_rfl))
  f9 := ⟨Try.f63.name, by decide, Try.func63.trans (congrArg some (by kernel_rfl))⟩
  f19 := Try.func82.trans (congrArg some (by kernel_rfl))
  f20 := Try.func83.trans (congrArg some (by kernel_rfl))
  f21 := ⟨Try.f73.name, by decide, Try.func73.trans (congrArg some (by kernel_rfl))⟩
  f22 := ⟨Try.f74.name, by decide, Try.func74.trans (congrArg some (by kernel_rfl))⟩
  f23 := ⟨Try.f75.name, by decide, Try.func75.trans (congrArg some (by kernel_rfl))⟩
  f24 := ⟨Try.f76.name, by decide, Try.func76.trans (congrArg some (by kernel_rfl))⟩
  f25 := ⟨Try.f77.name, by decide, Try.func77.trans (congrArg some (by kernel_rfl))⟩
  f26 := ⟨Try.f78.name, by decide, Try.func78.trans (congrArg some (by kernel_rfl))⟩
  f27 := ⟨Try.f79.name, by decide, Try.func79.trans (congrArg some (by kernel_rfl))⟩
  f28 := ⟨Try.f80.name, by decide, Try.func80.trans (congrArg some (by kernel_rfl))⟩
  f29 := ⟨Try.f81.name, by decide, Try.func81.trans (congrArg some (by kernel_rfl))⟩
  f31 := Try.func96.trans (congrArg some (by kernel_rfl))
  f32 := Try.func97.trans (congrArg some (by kernel_rfl))
  f36 := ⟨Try.f95.name, by decide, Try.func95.trans (congrArg some (by kernel_rfl))⟩
  f37 := ⟨Try.f98.name, by decide, Try.func98.trans (congrArg some (by kernel_rfl))⟩
  f38 := ⟨Try.f99.name, by decide, Try.func99.trans (congrArg some (by kernel_rfl))⟩
  f39 := ⟨Try.f100.name, by decide, Try.func100.trans (congrArg some (by kernel_rfl))⟩
  f41 := ⟨Try.f105.name, by decide, Try.func105.trans (congrArg some (by kernel_rfl))⟩
  t0 := Try.underlying0
  a0 := Try.isAgg0
  z0 := Try.sizeOf0
  v0 := Try.zeroValue0
  t3 := Try.underlying3
  a3 := Try.isAgg3
  z3 := Try.sizeOf3
  v3 := Try.zeroValue3
  t4 := Try.underlying4
  a4 := Try.isAgg4
  z4 := Try.sizeOf4
  v4 := Try.zeroValue4
  t5 := Try.underlying5
  a5 := Try.isAgg5
  z5 := Try.sizeOf5
  v5 := Try.zeroValue5
  t9 := Try.underlying9
  a9 := Try.isAgg9
  z9 := Try.sizeOf9
  v9 := Try.zeroValue9
  t26 := Try.underlying50
  a26 := Try.isAgg50
  z26 := Try.sizeOf50
  v26 := Try.zeroValue50
  t27 := Try.underlying50
  a27 := Try.isAgg50
  z27 := Try.sizeOf50
  v27 := Try.zeroValue50
  t29 := Try.underlying9
  a29 := Try.isAgg9
  z29 := Try.sizeOf9
  v29 := Try.zeroValue9
  t32 := Try.underlying108
  a32 := Try.isAgg108
  z32 := Try.sizeOf108
  v32 := Try.zeroValue108
  t35 := Try.underlying115
  a35 := Try.isAgg115
  z35 := Try.sizeOf115
  v35 := Try.zeroValue115
  t36 := Try.underlying116
  a36 := Try.isAgg116
  z36 := Try.sizeOf116
  v36 := Try.zeroValue116
  t41 := Try.underlying121
  a41 := Try.isAgg121
  z41 := Try.sizeOf121
  v41 := Try.zeroValue121
  t44 := Try.underlying124
  a44 := Try.isAgg124
  z44 := Try.sizeOf124
  v44 := Try.zeroValue124
  t46 := Try.underlying126
  a46 := Try.isAgg126
  z46 := Try.sizeOf126
  v46 := Try.zeroValue126
  t53 := Try.underlying135
  a53 := Try.isAgg135
  z53 := Try.sizeOf135
  v53 := Try.zeroValue135
  t57 := Try.underlying90
  a57 := Try.isAgg90
  z57 := Try.sizeOf90
  v57 := Try.zeroValue90
  t63 := Try.underlying141
  a63 := Try.isAgg141
  z63 := Try.sizeOf141
  v63 := Try.zeroValue141
  t64 := Try.underlying142
  a64 := Try.isAgg142
  z64 := Try.sizeOf142
  v64 := Try.zeroValue142 }
end Go.Proofs
/- names: All, and the keys of a table, sorted. -/
namespace Go.Proofs.Ytlcglkanlhmmdaa
open Go.RowKit Go.Shelf Go.Maps Go.WideMaps
theorem all20_any (pt : Nat) (w : World) : Calls Try.prog 20 #[.pointer (some ⟨pt, 0, none⟩)] w fun e w' => e = .returned (.func (.func 34) #[] #[.pointer (some ⟨w.heap.size, 0, none⟩)]) ∧ w' = w.alloc (.cells #[.pointer (some ⟨pt, 0, none⟩)] 40) := by
  go_enter Try.func20, Try.ntmps20
  go_wp2
  go_ret
  exact ⟨rfl, rfl⟩
def anyR : Value → Option (DataW Unit × List MemPlace) := fun _ => some (.nil, [])
theorem MapS.ownsStr {w : World} {b : Nat} {l : List (ByteArray × Value)} (h : MapS w b Value.string (id : Value → Value) l) (hr : ∀ p ∈ l, p.1.size ≤ maxLen) (hsz : l.length ≤ 1000) :
    ∃ D : DataW Unit, w.ownsMap Try.prog 9 anyR b l.length D ∧ Maps.size D = l.length ∧ (strKeys D).Perm (l.map fun p => p.1.data.toList) := by
  obtain ⟨es, clock, h1, h2, h3, h4⟩ := h
  have hlen : es.size = l.length := by
    have := congrArg List.length h2
    simpa using this
  have hent : ∀ x ∈ es.toList, ∃ p ∈ l, x.key = Value.string p.1 := fun x hx => by
    have : (x.key, x.val) ∈ l.map (fun p => (Value.string p.1, (id : Value → Value) p.2)) := by rw [← h2]; exact List.mem_map.2 ⟨x, hx, rfl⟩
    obtain ⟨p, hp, e⟩ := List.mem_map.1 this
    exact ⟨p, hp, (congrArg Prod.fst e).symm⟩
  have hrd : ∀ x ∈ es.toList, ∀ p ∈ l, x.key = Value.string p.1 → WideElems.rd Try.prog 9 anyR x = some (.string p.1.data.toList, .nil) := fun x _ p hp e => by
    unfold WideElems.rd
    rw [e, keyOf_string_mk Try.underlying9 (hr p hp)]
    rfl
  have hkeys : es.toList.map (·.key) = l.map (fun p => Value.string p.1) := by
    have := congrArg (List.map Prod.fst) h2
    rw [List.map_map, List.map_map] at this
    exact this
  have hrg : es.toList.map (WideElems.rg Try.prog 9 anyR) = l.map (fun p => ((Lit.string p.1.data.toList, .nil) : Lit × DataW Unit)) := by
    have e1 : es.toList.map (WideElems.rg Try.prog 9 anyR) = (es.toList.map (·.key)).map (fun v => ((keyOf Try.prog 9 v).map (fun k => (k, DataW.nil))).getD (.bool false, .nil)) := by
      rw [List.map_map]
      refine List.map_congr_left fun x hx => ?_
      obtain ⟨p, hp, e⟩ := hent x hx
      unfold WideElems.rg
      rw [hrd x hx p hp e, Function.comp_apply, e, keyOf_string_mk Try.underlying9 (hr p hp)]
      rfl
    rw [e1, hkeys, List.map_map]
    refine List.map_congr_left fun p hp => ?_
    rw [Function.comp_apply, keyOf_string_mk Try.underlying9 (hr p hp)]
    rfl
  refine ⟨.map ((es.toList.map (WideElems.rg Try.prog 9 anyR)).foldr DataW.insert []), ⟨es, clock, h1, ⟨?_, ?_, ?_⟩, by omega, rfl⟩, ?_, ?_⟩
  · have : (1000 : Nat) ≤ maxLen := by decide
    omega
  · refine ⟨h4.1, h4.2, ?_⟩
    rw [hkeys]
    refine List.pairwise_map.2 ((List.pairwise_map.1 h3).imp fun {a b} hne e => hne ?_)
    simpa using e
  · intro x hx
    obtain ⟨p, hp, e⟩ := hent x hx
    exact ⟨_, hrd x hx p hp e⟩
  · rw [size_eq, length_sorted]
    simp [hlen]
  · show ((_ : List (Lit × DataW Unit)).map fun p => Go.strOf p.1).Perm _
    refine ((WideShapes.sorted_perm _).map _).trans ?_
    rw [hrg, List.map_map]
    refine List.Perm.of_eq (List.map_congr_left fun p _ => ?_)
    rfl
theorem sortsA (m : Nat) : AnyZ.SortsIn Try.prog Try.sortedA_ren Fence.wide m :=
  ⟨fun blk off cap ss W hH hblk hsz => callsIn_wide.2 (AnyM.slices_Sort_string Try.sortA blk off cap ss W hH hblk hsz),
   fun p cap W => callsIn_wide.2 (AnyM.slices_Sort_string_none Try.sortA p cap W)⟩
theorem keys_of (mb : Option Nat) (W : World) : CallsIn Fence.wide 6 Try.prog 36 #[.map mb] W fun e w' => e = .returned (.func (.func 47) #[] #[.pointer (some ⟨W.heap.size, 0, none⟩)]) ∧ w' = W.alloc (.cells #[.map mb] 69) :=
  AnyZ.keys_in Try.keysA Fence.wide 6 trivial rfl mb W
/-- By names, rising. -/
def leN (p q : ByteArray × T) : Bool := decide (p.1.data.toList ≤ q.1.data.toList)
def sortP (L : List (ByteArray × T)) : List (ByteArray × T) := L.mergeSort leN
theorem sortP_perm (L : List (ByteArray × T)) : (sortP L).Perm L := List.mergeSort_perm L leN
theorem sortP_length (L : List (ByteArray × T)) : (sortP L).length = L.length := (sortP_perm L).length_eq
theorem sort_names {L : List (ByteArray × T)} {ss : List (List UInt8)} (h : ss.Perm (L.map fun p => p.1.data.toList)) : ss.mergeSort (fun x y => decide (x ≤ y)) = (sortP L).map fun p => p.1.data.toList := by
  rw [mergeSort_of_perm h]
  exact (List.map_mergeSort (r := leN) (f := fun p : ByteArray × T => p.1.data.toList) (fun a _ b _ => rfl)).symm
theorem enc_name (s : ByteArray) : encStr s.data.toList = .string s := by
  obtain ⟨a⟩ := s
  simp [encStr]
set_option maxHeartbeats 1000000 in
theorem sorted_of (W : World) (c : Nat) (L : List (ByteArray × T)) (vs : List (ByteArray × Value)) (hm : MapS W c Value.string (id : Value → Value) vs) (hk : vs.map Prod.fst = L.map Prod.fst) (hz : ∀ p ∈ L, p.1.size ≤ 1048576) (hl : L.length ≤ 1000) :
    CallsIn Fence.wide 6 Try.prog 35 #[.func (.func 47) #[] #[.pointer (some ⟨W.heap.size, 0, none⟩)]] (W.alloc (.cells #[.map (some c)] 69)) fun e w' => ∃ v : Value, e = .returned v ∧ w'.ownsRow W.heap.size 9 1 v L.length ((sortP L).map fun p => .string p.1) ∧ Below W.heap.size W w' := by
  have hlen : vs.length = L.length := by have := congrArg List.length hk; simpa using this
  have hnm : (vs.map fun p => p.1.data.toList) = L.map fun p => p.1.data.toList := by
    have := congrArg (List.map fun (s : ByteArray) => s.data.toList) hk
    rw [List.map_map, List.map_map] at this
    exact this
  obtain ⟨D, hown, hs, hkk⟩ := (hm.of_block (Below.heap_alloc W (.cells #[.map (some c)] 69) c hm.lt')).ownsStr (fun p hp => by
    have h1 : p.1 ∈ L.map Prod.fst := by rw [← hk]; exact List.mem_map.2 ⟨p, hp, rfl⟩
    obtain ⟨q, hq, e⟩ := List.mem_map.1 h1
    have h2 := hz q hq
    rw [e] at h2
    have : (1048576 : Nat) ≤ maxLen := by decide
    exact Nat.le_trans h2 this) (by omega)
  have hbox : (W.alloc (.cells #[.map (some c)] 69)).heap[W.heap.size]? = some (.cells #[.map (some c)] 69) := heap_alloc_new _ _
  rw [hlen] at hs hown
  have hmx : (1000 : Nat) ≤ maxLen := by decide
  have hseq : SeqGives Fence.wide 3 Try.prog 47 #[.pointer (some ⟨W.heap.size, 0, none⟩)] encStr (fun ss => ss.Perm (strKeys D)) (Maps.size D) (W.alloc (.cells #[.map (some c)] 69)) :=
    AnyZ.keys_gives (ρ := Try.keysA_ren) { Try.keysA with } Fence.wide _ trivial rfl (by omega) W.heap.size c L.length D _ (lt_of_heap hbox) (cell_of_heap hbox 0) hown
  have cS := AnyZ.sorted_in Try.sortedA Fence.wide 6 trivial trivial trivial trivial rfl (by omega) (sortsA _) (enters_of Try.func46 (by kernel_rfl) rfl) 47 #[.pointer (some ⟨W.heap.size, 0, none⟩)] trivial (enters_of Try.func47 (by kernel_rfl) rfl) _ _ (by omega) (by omega) _ hseq
  change CallsIn _ _ Try.prog 35 _ _ _ at cS
  refine cS.mono ?_
  rintro e w' ⟨v, ss, rfl, hS, hrow, _, hb⟩
  have hp : ss.Perm (L.map fun p => p.1.data.toList) := (hS.trans hkk).trans (List.Perm.of_eq hnm)
  have hss : ss.length = L.length := by rw [hp.length_eq, List.length_map]
  rw [sort_names hp, hss, List.map_map] at hrow
  have e : (sortP L).map (encStr ∘ fun p => p.1.data.toList) = (sortP L).map fun p => Value.string p.1 := List.map_congr_left fun p _ => enc_name p.1
  rw [e] at hrow
  exact ⟨v, rfl, ownsRow_base_a hrow (by simp), ((Below.refl _ W).alloc (Nat.le_refl _) _).trans (hb.mono (by simp))⟩
theorem sorted_nil (W : World) : CallsIn Fence.wide 6 Try.prog 35 #[.func (.func 47) #[] #[.pointer (some ⟨W.heap.size, 0, none⟩)]] (W.alloc (.cells #[.map none] 69)) fun e w' => e = .returned (.slice none 0 0) ∧ Below W.heap.size W w' := by
  have hbox : (W.alloc (.cells #[.map none] 69)).heap[W.heap.size]? = some (.cells #[.map none] 69) := heap_alloc_new _ _
  have hseq : SeqGives Fence.wide 3 Try.prog 47 #[.pointer (some ⟨W.heap.size, 0, none⟩)] encStr (fun ss : List (List UInt8) => ss = []) 0 (W.alloc (.cells #[.map none] 69)) :=
    AnyZ.keys_gives_nil (ρ := Try.keysA_ren) { Try.keysA with } Fence.wide _ trivial rfl W.heap.size _ (lt_of_heap hbox) (cell_of_heap hbox 0)
  have cS := AnyZ.sorted_in Try.sortedA Fence.wide 6 trivial trivial trivial trivial rfl (by omega) (sortsA _) (enters_of Try.func46 (by kernel_rfl) rfl) 47 #[.pointer (some ⟨W.heap.size, 0, none⟩)] trivial (enters_of Try.func47 (by kernel_rfl) rfl) _ 0 (Nat.zero_le _) (by omega) _ hseq
  change CallsIn _ _ Try.prog 35 _ _ _ at cS
  refine cS.mono ?_
  rintro e w' ⟨v, ss, rfl, rfl, _, hnil, hb⟩
  exact ⟨by rw [hnil.2 rfl], ((Below.refl _ W).alloc (Nat.le_refl _) _).trans (hb.mono (by simp))⟩
/-! ### what stays where cells and maps stay -/
theorem T.At.kz {Z : Nat → Prop} {w W : World} (hk : KZ Z w W) (hZ : ∀ k, Z k → k < w.heap.size → Thin w k) (t : T) : ∀ {a : Option Addr}, t.At w a → t.At W a := by
  induction t using T.ind with
  | h o l ih =>
    intro a h
    rw [T.at_mk] at h ⊢
    intro h0
    obtain ⟨b, off, e, h1, h2⟩ := h h0
    obtain ⟨a0, c0, h3, _⟩ := h2 0 l[0] (List.getElem?_eq_getElem h0)
    have h4 := h3 1 (by omega)
    have h5 : (ncells l[0].o (.slice a0 l[0].l.length c0))[1]? = some (.int .i64 l[0].o.v.k) := rfl
    rw [h5] at h4
    have hb : ¬ Z b := fun hb => by
      rw [hZ b hb h1 _ (by omega)] at h4
      cases h4
    obtain ⟨cs, ty, fz, hh⟩ := cells_of_cell h4
    have hW := hk.same b _ hb hh (.inl rfl)
    have hc : ∀ o, W.cell? ⟨b, o, none⟩ = w.cell? ⟨b, o, none⟩ := fun o => by rw [cell_of_heap hW, cell_of_heap hh]
    refine ⟨b, off, e, Nat.lt_of_lt_of_le h1 hk.size, fun i t ht => ?_⟩
    obtain ⟨a', c', h6, h7⟩ := h2 i t ht
    exact ⟨a', c', fun j hj => (hc _).trans (h6 j hj), ih t (List.mem_of_getElem? ht) h7⟩
theorem IsT.kz {Z : Nat → Prop} {w W : World} (hk : KZ Z w W) (hZ : ∀ k, Z k → k < w.heap.size → Thin w k) {v : Value} {t : T} (h : IsT w v t) : IsT W v t := by
  obtain ⟨a, cap, e, h⟩ := h
  exact ⟨a, cap, e, h.kz hk hZ t⟩
theorem T.Own.kz {Z : Nat → Prop} {w W : World} (hk : KZ Z w W) (t : T) : ∀ {a : Option Addr} {S : Nat → Prop}, (∀ k, S k → ¬ Z k) → t.Own w a S → t.Own W a S := by
  induction t using T.ind with
  | h o l ih =>
    intro a S hS h
    rw [T.own_mk] at h ⊢
    intro h0
    obtain ⟨b, es, Si, h1, h2, h3, h4, h5⟩ := h h0
    refine ⟨b, es, Si, h1, h2, hk.same b _ (hS b h2) h3 (.inl rfl), h4, fun i t ht => ?_⟩
    obtain ⟨⟨a', c', p1, p2⟩, p3⟩ := h5 i t ht
    exact ⟨⟨a', c', p1, ih t (List.mem_of_getElem? ht) (fun k hk' => hS k (p3 k hk').1) p2⟩, p3⟩
/-- There are cells there. -/
def CellsAt (w : World) (k : Nat) : Prop := ∃ cs ty fz, w.heap[k]? = some (.cells cs ty fz)
theorem T.Own.cells {w : World} (t : T) : ∀ {a : Option Addr} {S : Nat → Prop}, t.Own w a S → t.Own w a (fun k => S k ∧ CellsAt w k) := by
  induction t using T.ind with
  | h o l ih =>
    intro a S h
    rw [T.own_mk] at h ⊢
    intro h0
    obtain ⟨b, es, Si, h1, h2, h3, h4, h5⟩ := h h0
    refine ⟨b, es, fun i k => Si i k ∧ CellsAt w k, h1, ⟨h2, _, _, _, h3⟩, h3, h4, fun i t ht => ?_⟩
    obtain ⟨⟨a', c', p1, p2⟩, p3⟩ := h5 i t ht
    exact ⟨⟨a', c', p1, ih t (List.mem_of_getElem? ht) p2⟩, fun k hk => ⟨⟨(p3 k hk.1).1, hk.2⟩, (p3 k hk.1).2.1, fun j hj hh => (p3 k hk.1).2.2 j hj hh.1⟩⟩
theorem keeps_of_fr {B : Nat} {S : Nat → Prop} {W W' : World} (hf : Fr S W W') (hS : ∀ k, S k → CellsAt W k) : KeepsFrom B W W' := ⟨hf.size, fun k o _ hk ho => (hf.block k (lt_of_heap hk) (fun h => by
  obtain ⟨cs, ty, fz, e⟩ := hS k h
  rw [hk] at e
  cases e
  cases ho)).trans hk⟩
/-- A block of one cell. -/
def OneC (w : World) (k : Nat) : Prop := ∃ v ty fz, w.heap[k]? = some (.cells #[v] ty fz)
theorem OneC.thin {w : World} {k : Nat} (h : OneC w k) : Thin w k := by
  obtain ⟨v, ty, fz, h⟩ := h
  exact thin_cells h
theorem Tab.kz {Z : Nat → Prop} {w W : World} {pt : Nat} {L : List (ByteArray × T)} (h : Tab w pt L) (hk : KZ Z w W) (hZ : ∀ k, Z k → k < w.heap.size → OneC w k ∧ k ≠ pt) : Tab W pt L := by
  obtain ⟨mo, hp, hV⟩ := h
  have hth : ∀ k, Z k → k < w.heap.size → Thin w k := fun k h1 h2 => (hZ k h1 h2).1.thin
  refine ⟨mo, hk.same pt _ (fun h1 => (hZ pt h1 (lt_of_heap hp)).2 rfl) hp (.inl rfl), ?_⟩
  cases mo with
  | none => exact hV
  | some mt =>
    obtain ⟨vs, ⟨es, c, hm, h2⟩, h3, h4⟩ := hV
    refine ⟨vs, ⟨es, c, hk.same mt _ (fun h1 => ?_) hm (.inr rfl), h2⟩, h3, fun i s t hi => ?_⟩
    · obtain ⟨v, ty, fz, e⟩ := (hZ mt h1 (lt_of_heap hm)).1
      rw [hm] at e
      cases e
    · obtain ⟨v, p1, p2⟩ := h4 i s t hi
      exact ⟨v, p1, p2.kz hk hth⟩
end Go.Proofs.Ytlcglkanlhmmdaa
