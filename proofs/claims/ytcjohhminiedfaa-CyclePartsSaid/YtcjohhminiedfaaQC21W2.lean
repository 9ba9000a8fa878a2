/- Cycle: slices.Clone of a row of numbers; visit's closing loops. -/
import Derived.Laws.Cover3
import Derived.Test.YtcjohhminiedfaaQC21W1
namespace Go.Proofs.Ytcjohhminiedfaa
open Go.RowKit
theorem info3 : (Try.prog.info? 3).map (fun i => (i.zero, i.size, i.bytes)) = some (some (.int .i64 0), 1, 8) := by kernel_rfl
theorem info31 : (Try.prog.info? 31).map (fun i => (i.zero, i.size, i.bytes)) = some (some (.slice none 0 0), 1, 24) := by kernel_rfl
theorem info_parts {P : Program} {e : TypeId} {z : Value} {s b : Nat} (h : (P.info? e).map (fun i => (i.zero, i.size, i.bytes)) = some (some z, s, b)) :
    ∃ i, P.info? e = some i ∧ i.zero = some z ∧ i.size = s ∧ i.bytes = b := by
  obtain ⟨i, hi, he⟩ := Option.map_eq_some_iff.1 h
  simp only [Prod.mk.injEq] at he
  exact ⟨i, hi, he.1, he.2.1, he.2.2⟩
theorem eql_nil (a : Option Addr) (l c : Nat) (w : World) : (binOp .eql 31 (.slice a l c) (.slice none 0 0)).run Try.prog w = .ok (.bool a.isNone) w := by
  have h := run_equal_slice_nil (P := Try.prog) (w := w) 31 3 a l c Try.underlying31
  simp [binOp, h]
theorem cells_iv {w : World} {b off : Nat} {l : List Nat} (hc : ∀ (j x : Nat), l[j]? = some x → w.cell? ⟨b, off + j, none⟩ = some (.int .i64 (x : Int))) : ∀ (j : Nat) (u : Value), (l.map iv)[j]? = some u → w.cell? ((⟨b, off, none⟩ : Addr).add j) = some u := by
  intro j u hu
  rw [List.getElem?_map] at hu
  cases hj : l[j]? with
  | none => rw [hj] at hu; cases hu
  | some x =>
    rw [hj] at hu
    cases hu
    have e : (⟨b, off, none⟩ : Addr).add j = ⟨b, off + j, none⟩ := by
      by_cases h0 : j = 0
      · subst h0; simp [Addr.add]
      · simp [Addr.add, h0]
    rw [e, hc j x hj]
    rfl
theorem abs_exit {Q : Exit → Act → World → Prop} {x : Exit} {a : Act} {w : World} (h : ∀ W, W = w → Q x a W) : Q x a w := h w rfl
theorem below_grown {w w0 w' : World} {row : Option Nat} (hb : Below w.heap.size w w0) (hg : w0.grownBy w' row) (hr : ∀ k, row = some k → w.heap.size ≤ k) : Below w.heap.size w w' :=
  hb.grown hg hb.size hr
theorem own_max {w : World} {base : Nat} {e : TypeId} {size : Nat} {v : Value} {n : Nat} {xs : List Value} (h : w.ownsRow base e size v n xs) : n ≤ maxLen := by
  rcases h.2 with ⟨_, rfl⟩ | ⟨g, cap, cur, _, _, _, h1, h2, _⟩
  · exact Nat.zero_le _
  · exact Nat.le_trans h1 h2
section
variable {K H n g m c : Nat} {B : Vb} {G : Gb} {T F : List (List Nat)} {w : World} {s : VS} {sv pv : Value} {pvs : List Value}
theorem set_other {w : World} {p : Addr} {v : Value} (k : Nat) (h : k ≠ p.block) : (w.setCell p v).heap[k]? = w.heap[k]? := Below.heap_setCell _ _ _ _ h
theorem VM.put_c (h : VM K H n B G T F w s sv pv pvs) {x : Nat} {v : Int} (hv : v = x) : VM K H n B G T F (w.setCell ⟨B.c, 0, none⟩ (.int .i64 v)) { s with count := x } sv pv pvs :=
  h.set_c x (by simp) (fun k _ hne => set_other k hne) (by rw [heap_setCell_at h.cc, hv]; rfl)
theorem VM.put_mb (h : VM K H n B G T F w s sv pv pvs) (y : Nat) {x : Nat} {v : Int} (hv : v = x) : VM K H n B G T F (w.setCell ⟨B.mb, y, none⟩ (.int .i64 v)) { s with met := s.met.set y x } sv pv pvs :=
  h.set_mb (s.met.set y x) (by simp) (fun k _ hne => set_other k hne) (by rw [heap_setCell_at h.bm, hv]; simp [List.map_set, iv])
theorem VM.put_lb (h : VM K H n B G T F w s sv pv pvs) (y : Nat) {x : Nat} {v : Int} (hv : v = x) : VM K H n B G T F (w.setCell ⟨B.lb, y, none⟩ (.int .i64 v)) { s with low := s.low.set y x } sv pv pvs :=
  h.set_lb (s.low.set y x) (by simp) (fun k _ hne => set_other k hne) (by rw [heap_setCell_at h.bl, hv]; simp [List.map_set, iv])
theorem VM.put_ob (h : VM K H n B G T F w s sv pv pvs) (y : Nat) (b : Bool) : VM K H n B G T F (w.setCell ⟨B.ob, y, none⟩ (.bool b)) { s with opn := s.opn.set y b } sv pv pvs :=
  h.set_ob (s.opn.set y b) (by simp) (fun k _ hne => set_other k hne) (by rw [heap_setCell_at h.bo]; simp [List.map_set])
theorem VM.met_at (h : VM K H n B G T F w s sv pv pvs) {y v : Nat} (hy : s.met[y]? = some v) : w.cell? ⟨B.mb, y, none⟩ = some (.int .i64 (v : Int)) := by
  rw [cell_of_heap h.bm]; simp [hy, iv]
theorem VM.low_at (h : VM K H n B G T F w s sv pv pvs) {y v : Nat} (hy : s.low[y]? = some v) : w.cell? ⟨B.lb, y, none⟩ = some (.int .i64 (v : Int)) := by
  rw [cell_of_heap h.bl]; simp [hy, iv]
theorem VM.opn_at (h : VM K H n B G T F w s sv pv pvs) {y : Nat} {b : Bool} (hy : s.opn[y]? = some b) : w.cell? ⟨B.ob, y, none⟩ = some (.bool b) := by
  rw [cell_of_heap h.bo]; simp [hy]
/-- All that is outside the three rows is as it was. -/
theorem VM.four (h : VM K H n B G T F w s sv pv pvs) {W : World} (hf : Fr (fun k => k = B.mb ∨ k = B.lb ∨ k = B.ob) w W) :
    W.cell? ⟨B.m, 0, none⟩ = some (.slice (some ⟨B.mb, 0, none⟩) n n) ∧ W.cell? ⟨B.lo, 0, none⟩ = some (.slice (some ⟨B.lb, 0, none⟩) n n) ∧ W.cell? ⟨B.op, 0, none⟩ = some (.slice (some ⟨B.ob, 0, none⟩) n n) ∧ W.cell? ⟨B.c, 0, none⟩ = some (.int .i64 (s.count : Int)) := by
  have key : ∀ {i : Nat} (hi : i < 11), i ≠ 5 → i ≠ 6 → i ≠ 7 → ¬ (B.l[i]'hi = B.mb ∨ B.l[i]'hi = B.lb ∨ B.l[i]'hi = B.ob) := fun {i} hi h5 h6 h7 e => by
    rcases e with e | e | e
    · exact Vb.ne h.nod hi (j := 5) (by decide) h5 e
    · exact Vb.ne h.nod hi (j := 6) (by decide) h6 e
    · exact Vb.ne h.nod hi (j := 7) (by decide) h7 e
  exact ⟨cell_of_heap ((hf.block _ (lt_of_heap h.cm) (key (i := 2) (by decide) (by decide) (by decide) (by decide))).trans h.cm) 0,
    cell_of_heap ((hf.block _ (lt_of_heap h.cl) (key (i := 3) (by decide) (by decide) (by decide) (by decide))).trans h.cl) 0,
    cell_of_heap ((hf.block _ (lt_of_heap h.co) (key (i := 4) (by decide) (by decide) (by decide) (by decide))).trans h.co) 0,
    cell_of_heap ((hf.block _ (lt_of_heap h.cc) (key (i := 9) (by decide) (by decide) (by decide) (by decide))).trans h.cc) 0⟩
theorem Fr.set3 {B : Vb} {W1 W : World} (h : Fr (fun k => k = B.mb ∨ k = B.lb ∨ k = B.ob) W1 W) {p : Addr} (hp : p.block = B.mb ∨ p.block = B.lb ∨ p.block = B.ob) (v : Value) : Fr (fun k => k = B.mb ∨ k = B.lb ∨ k = B.ob) W1 (W.setCell p v) :=
  h.trans (Fr.setCell W p v) fun i _ e => by subst e; exact hp
theorem VM.stBox (h : VM K H n B G T F w s sv pv pvs) {w' : World} (hs : w.heap.size ≤ w'.heap.size) (hk : ∀ k, k < w.heap.size → sv.ownBlock ≠ some k → w'.heap[k]? = w.heap[k]?) : w'.heap[B.st]? = some (.cells #[sv] 31) := by
  have _ := hs
  exact (hk _ (lt_of_heap h.cst) (fun e => by have h1 := h.st.lt _ e; have h2 := h.hi _ (h.in_l (i := 8) (by decide)); change B.st < H at h2; omega)).trans h.cst
theorem VM.push (h : VM K H n B G T F w s sv pv pvs) {w' : World} {o : Obj} {v' : Value} {x : Nat} (hown : w'.ownsRow H 3 1 v' (s.stack.length + 1) (s.stack.map iv ++ [iv x])) (hg : (w.alloc o).grownBy w' sv.ownBlock)
    (hloc : v'.ownBlock = sv.ownBlock ∨ v'.ownBlock = some (w.alloc o).heap.size) : w'.heap[B.st]? = some (.cells #[sv] 31) ∧ VM K H n B G T F (w'.setCell ⟨B.st, 0, none⟩ v') { s with stack := s.stack ++ [x] } v' pv pvs ∧ Fr (fun k => K ≤ k) w (w'.setCell ⟨B.st, 0, none⟩ v') := by
  have hz : w.heap.size ≤ w'.heap.size := Nat.le_trans (by simp) hg.size
  have hk : ∀ k, k < w.heap.size → sv.ownBlock ≠ some k → w'.heap[k]? = w.heap[k]? := fun k hk hn => (hg.block k (by simp; omega) (fun e => hn e.symm)).trans (Below.heap_alloc _ _ _ hk)
  have hb := h.stBox hz hk
  have hst : K ≤ B.st := h.lo' _ (h.in_l (i := 8) (by decide))
  have hsH : B.st < H := h.hi _ (h.in_l (i := 8) (by decide))
  refine ⟨hb, h.set_st (x := s.stack ++ [x]) (by simpa using hz) (fun k h1 h2 h3 => (set_other k h2).trans (hk k h1 h3)) (by rw [heap_setCell_at hb]; rfl) ?_ ?_, ?_⟩
  · unfold IR
    rw [List.map_append, List.length_append]
    exact own_block hown fun k e _ => set_other k (fun e2 => by have := (World.ownsRow.lt hown k e).1; change k = B.st at e2; omega)
  · intro k e
    rcases hloc with e1 | e1
    · exact .inl (e1 ▸ e)
    · rw [e1] at e
      cases e
      simp
  · refine ⟨hg.os, hg.tape, hg.output, by simpa using hz, fun k h1 h2 => (set_other k (fun e => by change k = B.st at e; omega)).trans (hk k h1 fun e => ?_)⟩
    have := h.st.lt k e
    omega
/-- The row of x in the graph, as found reads it. -/
theorem VM.row (h : VM K H n B G T F w s sv pv pvs) (hT : TOk n T) {x : Nat} (hx : x < n) : (T.getD x []).length ≤ maxLen ∧ ∃ (ta : Nat) (tc : Nat) (ra : Option Addr) (rc : Nat), w.cell? ⟨B.g, 0, none⟩ = some (.pointer (some ⟨G.p, 0, none⟩)) ∧ G.p < w.heap.size ∧
    w.cell? ⟨G.p, 0, none⟩ = some (.slice (some ⟨ta, 0, none⟩) n tc) ∧ ta < w.heap.size ∧ w.cell? ⟨ta, x, none⟩ = some (.slice ra (T.getD x []).length rc) ∧
    ∀ W, Below K w W → ∀ (k y : Nat), (T.getD x [])[k]? = some y → ∃ rg, ra = some ⟨rg, 0, none⟩ ∧ rg < W.heap.size ∧ W.cell? ⟨rg, k, none⟩ = some (.int .i64 (y : Int)) := by
  have h0n : 0 < n := by omega
  have hgr := h.gr h0n
  obtain ⟨a, cap, e1, _, hr⟩ := hgr.to.slice
  have hxl : x < T.length := by rw [hT.1]; exact hx
  have hx1 : T[x]? = some (T.getD x []) := by
    rw [List.getD_eq_getElem?_getD, List.getElem?_eq_getElem hxl]
    rfl
  obtain ⟨g, rfl, hg, a', c', hv, hc, hrow⟩ := hr x _ hx1
  refine ⟨own_max hrow, g, cap, a', c', (by rw [← hgr.ptr]; exact cell_of_heap h.cg 0), lt_of_heap hgr.blk, ?_, hg, hc, fun W hW k y hy => ?_⟩
  · have := cell_of_heap hgr.blk 0
    rw [this, ← hT.1, ← e1]
    rfl
  · obtain ⟨a2, cap2, e2, _, h2⟩ := hrow.slice
    cases e2
    have h0 : 0 < (T.getD x []).length := by have := (List.getElem?_eq_some_iff.1 hy).1; omega
    obtain ⟨rg, rfl, _, hlt, _, hcell⟩ := h2 h0
    have hK : rg < K := h.grK h0n rg (.inr (.inr (.inr (.inr (.inl ⟨x, _, hv, rfl⟩)))))
    exact ⟨rg, rfl, Nat.lt_of_lt_of_le hlt hW.size, (hW.cell (p := ⟨rg, k, none⟩) hK).trans (hcell k y hy)⟩
/-- The stack is cut: its first a numbers stay. -/
theorem VM.cutSt (h : VM K H n B G T F w s (.slice (some ⟨g, 0, none⟩) m c) pv pvs) {a : Nat} (ha : a ≤ s.stack.length) : VM K H n B G T F (w.setCell ⟨B.st, 0, none⟩ (.slice (some ⟨g, 0, none⟩) a c)) { s with stack := s.stack.take a } (.slice (some ⟨g, 0, none⟩) a c) pv pvs := by
  refine h.set_st (x := s.stack.take a) (by simp) (fun k _ h2 _ => set_other k h2) (by rw [heap_setCell_at h.cst]; rfl) ?_ (fun k e => .inl e)
  have hst := h.st
  obtain ⟨h1, h2⟩ := hst
  have hl : (s.stack.take a).length = a := by rw [List.length_take]; omega
  rcases h2 with ⟨e, _⟩ | ⟨g', cap, cur, e, hg, hh, hn, hc, hsz, ht⟩
  · cases e
  · cases e
    have hne : g ≠ B.st := fun e => by have h2 := h.hi _ (h.in_l (i := 8) (by decide)); change B.st < H at h2; omega
    refine ⟨by simp, .inr ⟨g, c, cur, by rw [hl], hg, (set_other g hne).trans hh, by omega, hc, hsz, ?_⟩⟩
    rw [hl, List.map_take, ← ht, List.take_take]
    congr 1
    omega
theorem at_push {α : Type} {l : List α} {a x : α} {i : Nat} (h : (l ++ [a])[i]? = some x) : (l[i]? = some x ∧ i < l.length) ∨ (i = l.length ∧ x = a) := by
  by_cases hi : i < l.length
  · rw [List.getElem?_append_left hi] at h
    exact .inl ⟨h, hi⟩
  · rw [List.getElem?_append_right (by omega)] at h
    have h0 : i - l.length = 0 := by
      have := (List.getElem?_eq_some_iff.1 h).1
      simp at this
      omega
    rw [h0] at h
    simp at h
    exact .inr ⟨by omega, h.symm⟩
/-- One part more. -/
theorem VM.pushPa (h : VM K H n B G T F w s sv pv pvs) {w' : World} {o : Obj} {v' cv : Value} {P : List Nat} (hcv : IR H w cv P) (hown : w'.ownsRow H 31 1 v' (s.parts.length + 1) (pvs ++ [cv])) (hg : (w.alloc o).grownBy w' pv.ownBlock)
    (hnew : ∀ k, cv.ownBlock = some k → sv.ownBlock ≠ some k ∧ ∀ (i : Nat) (u : Value), pvs[i]? = some u → u.ownBlock ≠ some k) :
    w'.heap[B.pa]? = some (.cells #[pv] 39) ∧ VM K H n B G T F (w'.setCell ⟨B.pa, 0, none⟩ v') { s with parts := s.parts ++ [P] } sv v' (pvs ++ [cv]) ∧ Fr (fun k => K ≤ k) w (w'.setCell ⟨B.pa, 0, none⟩ v') := by
  have hz : w.heap.size ≤ w'.heap.size := Nat.le_trans (by simp) hg.size
  have hk : ∀ k, k < w.heap.size → pv.ownBlock ≠ some k → w'.heap[k]? = w.heap[k]? := fun k hk hn => (hg.block k (by simp; omega) (fun e => hn e.symm)).trans (Below.heap_alloc _ _ _ hk)
  have hst : K ≤ B.pa := h.lo' _ (h.in_l (i := 1) (by decide))
  have hsH : B.pa < H := h.hi _ (h.in_l (i := 1) (by decide))
  have hb : w'.heap[B.pa]? = some (.cells #[pv] 39) := (hk _ (lt_of_heap h.cpa) (fun e => by have h1 := h.pa.row.lt _ e; omega)).trans h.cpa
  have hk2 : ∀ k, k < w.heap.size → k ≠ B.pa → pv.ownBlock ≠ some k → (w'.setCell ⟨B.pa, 0, none⟩ v').heap[k]? = w.heap[k]? := fun k h1 h2 h3 => (set_other k h2).trans (hk k h1 h3)
  have hir : ∀ {u : Value} {l : List Nat}, IR H w u l → IR H (w'.setCell ⟨B.pa, 0, none⟩ v') u l := fun hu => hu.block fun k e hlt => hk2 k hlt (fun e2 => by have := hu.lt k e; omega) (rr_ne h.pa hu e)
  refine ⟨hb, h.set_pa (x := s.parts ++ [P]) (pvs' := pvs ++ [cv]) (by simpa using hz) hk2 (by rw [heap_setCell_at hb]; rfl) ⟨?_, ?_⟩ ?_ ?_, ?_⟩
  · rw [List.length_append]
    exact own_block hown fun k e _ => set_other k (fun e2 => by have := (World.ownsRow.lt hown k e).1; change k = B.pa at e2; omega)
  · intro i l hl
    rcases at_push hl with ⟨h1, h2⟩ | ⟨h1, rfl⟩
    · obtain ⟨u, hu, hr⟩ := h.pa.each i l h1
      exact ⟨u, by rw [List.getElem?_append_left (by rw [h.pa.len]; exact h2)]; exact hu, hir hr⟩
    · exact ⟨cv, by rw [h1, ← h.pa.len]; simp, hir hcv⟩
  · intro i u k h1 h2
    rcases at_push h1 with ⟨h3, _⟩ | ⟨_, rfl⟩
    · exact h.apart i u k h3 h2
    · exact (hnew k h2).1
  · intro i j u v k h1 h2 h3 h4
    rcases at_push h1 with ⟨a1, a2⟩ | ⟨a1, rfl⟩
    · rcases at_push h2 with ⟨b1, _⟩ | ⟨b1, rfl⟩
      · exact h.pdis i j u v k a1 b1 h3 h4
      · exact absurd h3 ((hnew k h4).2 i u a1)
    · rcases at_push h2 with ⟨b1, _⟩ | ⟨b1, rfl⟩
      · exact absurd h4 ((hnew k h3).2 j v b1)
      · omega
  · refine ⟨hg.os, hg.tape, hg.output, by simpa using hz, fun k h1 h2 => hk2 k h1 (fun e => by omega) (fun e => ?_)⟩
    have := h.pa.row.lt k e
    omega
theorem opn_take {P : List Nat} {o : List Bool} {j y : Nat} (h : P[j]? = some y) : (P.take (j + 1)).foldl (fun o y => o.set y false) o = ((P.take j).foldl (fun o y => o.set y false) o).set y false := by
  rw [List.take_add_one, h, List.foldl_append]
  rfl
end
set_option maxHeartbeats 1000000 in
set_option maxRecDepth 100000 in
theorem clone_any (b off c : Nat) (l : List Nat) (w : World) (h0 : 0 < l.length) (hl : l.length ≤ 1000000) (hb : b < w.heap.size) (hc : ∀ (j x : Nat), l[j]? = some x → w.cell? ⟨b, off + j, none⟩ = some (.int .i64 (x : Int))) :
    Calls Try.prog 41 #[.slice (some ⟨b, off, none⟩) l.length c] w fun e w' => ∃ v, e = .returned v ∧ IR w.heap.size w' v l ∧ Below w.heap.size w w' := by
  obtain ⟨i0, hi, hz0, hz1, hz2⟩ := info_parts info3
  have HI := Lib.hid hi
  have HZ0 := Lib.hid hz0
  have HZ1 := Lib.hid hz1
  have HZ2 := Lib.hid hz2
  have HC := Lib.hid hc
  clear hi hz0 hz1 hz2 hc
  go_enter Try.func41, Try.ntmps41
  have EN := eql_nil (some ⟨b, off, none⟩) l.length c w
  go_wp2_with (at_builtin; refine wpList_append_own_at _ rfl _ _ 31 rfl w.heap.size 3 i0 (.int .i64 0) 1 8 Try.underlying31 HI.out HZ0.out HZ1.out HZ2.out rfl (by decide) _ _ _ rfl (World.ownsRow_lit w #[] 0 (Nat.le_refl _) (by decide) rfl) ⟨b, off, none⟩ l.length c (l.map iv) rfl (by simp) (cells_iv fun j x hx => (Below.alloc (Below.refl _ w) (Nat.le_refl _) _).cell (p := ⟨b, off + j, none⟩) hb |>.trans (HC.out j x hx)) (iv_one l) (by unfold maxLen; omega) (by omega) (by simp) ?_; intro v' w' hown hgrow _ _)
  refine bodyPost_ret (v := v') (by simp [results, Try.results41, go_sem]) rfl ⟨v', rfl, ?_, ?_⟩
  · have := hown
    rw [Nat.zero_add, List.nil_append] at this
    exact this
  · refine below_grown (Below.alloc (Below.refl _ w) (Nat.le_refl _) _) hgrow (fun k hk => ?_)
    cases hk
    exact Nat.le_refl _
end Go.Proofs.Ytcjohhminiedfaa
