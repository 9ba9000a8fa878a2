/- Cycle: found's boxes in memory, and what each store makes of them. (printed by gen21.py) -/
import Derived.Test.YtcjohhminiedfaaQC21V
namespace Go.Proofs.Ytcjohhminiedfaa
open Go.RowKit
/-- The boxes and the three rows of found. -/
structure Vb where
  g : Nat
  pa : Nat
  m : Nat
  lo : Nat
  op : Nat
  mb : Nat
  lb : Nat
  ob : Nat
  st : Nat
  c : Nat
  me : Nat
def Vb.l (B : Vb) : List Nat := [B.g, B.pa, B.m, B.lo, B.op, B.mb, B.lb, B.ob, B.st, B.c, B.me]
theorem nod_ne {l : List Nat} (h : l.Nodup) {i j : Nat} (hi : i < l.length) (hj : j < l.length) (hij : i ≠ j) : l[i] ≠ l[j] := by
  rcases Nat.lt_or_gt_of_ne hij with h1 | h1
  · exact List.pairwise_iff_getElem.1 h i j hi hj h1
  · exact fun e => List.pairwise_iff_getElem.1 h j i hj hi h1 e.symm
theorem Vb.ne {B : Vb} (h : B.l.Nodup) {i j : Nat} (hi : i < 11) (hj : j < 11) (hij : i ≠ j) : B.l[i]'hi ≠ B.l[j]'hj := nod_ne h hi hj hij
def pb (k : Nat) : Value := .pointer (some ⟨k, 0, none⟩)
/-- visit. -/
def fv40 (B : Vb) : Value := .func (.func 40) #[] #[pb B.c, pb B.m, pb B.lo, pb B.op, pb B.st, pb B.g, pb B.me, pb B.pa]
structure VM (K H n : Nat) (B : Vb) (G : Gb) (T F : List (List Nat)) (w : World) (s : VS) (sv pv : Value) (pvs : List Value) : Prop where
  nod : B.l.Nodup
  lo' : ∀ k ∈ B.l, K ≤ k
  hi : ∀ k ∈ B.l, k < H
  hH : H ≤ w.heap.size
  gr : 0 < n → GrR w G T F
  grK : 0 < n → ∀ k, G.has k → k < K
  cg : w.heap[B.g]? = some (.cells #[G.pv] 24)
  cc : w.heap[B.c]? = some (.cells #[.int .i64 (s.count : Int)] 3)
  cm : w.heap[B.m]? = some (.cells #[.slice (some ⟨B.mb, 0, none⟩) n n] 31)
  cl : w.heap[B.lo]? = some (.cells #[.slice (some ⟨B.lb, 0, none⟩) n n] 31)
  co : w.heap[B.op]? = some (.cells #[.slice (some ⟨B.ob, 0, none⟩) n n] 42)
  bm : w.heap[B.mb]? = some (.cells (s.met.map iv).toArray 3)
  bl : w.heap[B.lb]? = some (.cells (s.low.map iv).toArray 3)
  bo : w.heap[B.ob]? = some (.cells (s.opn.map Value.bool).toArray 4)
  cst : w.heap[B.st]? = some (.cells #[sv] 31)
  cme : w.heap[B.me]? = some (.cells #[fv40 B] 70)
  cpa : w.heap[B.pa]? = some (.cells #[pv] 39)
  st : IR H w sv s.stack
  pa : RR H w pv pvs s.parts
  apart : ∀ (i : Nat) (u : Value) (k : Nat), pvs[i]? = some u → u.ownBlock = some k → sv.ownBlock ≠ some k
  pdis : ∀ (i j : Nat) (u v : Value) (k : Nat), pvs[i]? = some u → pvs[j]? = some v → u.ownBlock = some k → v.ownBlock = some k → i = j
section
variable {K H n : Nat} {B : Vb} {G : Gb} {T F : List (List Nat)} {w w' : World} {s : VS} {sv pv : Value} {pvs : List Value}
/-- The parts' row is none of the rows of numbers. -/
theorem rr_ne {v : Value} {vs : List Value} {L : List (List Nat)} {u : Value} {l : List Nat} {k : Nat} (h : RR H w v vs L) (hu : IR H w u l) (hk : u.ownBlock = some k) : v.ownBlock ≠ some k := fun e => by
  rcases h.row.2 with ⟨e1, _⟩ | ⟨g, cap, cur, e1, _, hh, _⟩
  · rw [e1] at e; cases e
  · rcases hu.2 with ⟨e2, _⟩ | ⟨g', cap', cur', e2, _, hh', _⟩
    · rw [e2] at hk; cases hk
    · rw [e1] at e
      rw [e2] at hk
      simp only [Value.ownBlock, Option.some.injEq] at e hk
      subst e
      rw [← hk] at hh
      rw [hh'] at hh
      cases hh
theorem VM.in_l (_ : VM K H n B G T F w s sv pv pvs) {i : Nat} (hi : i < 11) : B.l[i]'hi ∈ B.l := List.getElem_mem _

theorem VM.set_c (h : VM K H n B G T F w s sv pv pvs) (x : Nat) (hs : w.heap.size ≤ w'.heap.size) (hk : ∀ k, k < w.heap.size → k ≠ B.c → w'.heap[k]? = w.heap[k]?)
    (hnew : w'.heap[B.c]? = some (.cells #[.int .i64 (x : Int)] 3)) : VM K H n B G T F w' { s with count := x } sv pv pvs :=
  ⟨h.nod, h.lo', h.hi, Nat.le_trans h.hH hs,
   fun h0 => (h.gr h0).keep fun k e hlt => hk k hlt (fun e2 => by have h1 := h.grK h0 k e; have h2 := h.lo' _ (h.in_l (i := 9) (by decide)); change K ≤ B.c at h2; omega),
   h.grK,
   (hk _ (lt_of_heap h.cg) (Vb.ne h.nod (i := 0) (j := 9) (by decide) (by decide) (by decide))).trans h.cg,
   hnew,
   (hk _ (lt_of_heap h.cm) (Vb.ne h.nod (i := 2) (j := 9) (by decide) (by decide) (by decide))).trans h.cm,
   (hk _ (lt_of_heap h.cl) (Vb.ne h.nod (i := 3) (j := 9) (by decide) (by decide) (by decide))).trans h.cl,
   (hk _ (lt_of_heap h.co) (Vb.ne h.nod (i := 4) (j := 9) (by decide) (by decide) (by decide))).trans h.co,
   (hk _ (lt_of_heap h.bm) (Vb.ne h.nod (i := 5) (j := 9) (by decide) (by decide) (by decide))).trans h.bm,
   (hk _ (lt_of_heap h.bl) (Vb.ne h.nod (i := 6) (j := 9) (by decide) (by decide) (by decide))).trans h.bl,
   (hk _ (lt_of_heap h.bo) (Vb.ne h.nod (i := 7) (j := 9) (by decide) (by decide) (by decide))).trans h.bo,
   (hk _ (lt_of_heap h.cst) (Vb.ne h.nod (i := 8) (j := 9) (by decide) (by decide) (by decide))).trans h.cst,
   (hk _ (lt_of_heap h.cme) (Vb.ne h.nod (i := 10) (j := 9) (by decide) (by decide) (by decide))).trans h.cme,
   (hk _ (lt_of_heap h.cpa) (Vb.ne h.nod (i := 1) (j := 9) (by decide) (by decide) (by decide))).trans h.cpa,
   h.st.block fun k e hlt => hk k hlt (fun e2 => by have h1 := h.st.lt k e; have h2 := h.hi _ (h.in_l (i := 9) (by decide)); change B.c < H at h2; omega),
   h.pa.block (fun k e hlt => hk k hlt (fun e2 => by have h1 := h.pa.row.lt k e; have h2 := h.hi _ (h.in_l (i := 9) (by decide)); change B.c < H at h2; omega)) fun i u k e1 e hlt => hk k hlt (fun e2 => by have h1 := h.pa.lt' e1 k e; have h2 := h.hi _ (h.in_l (i := 9) (by decide)); change B.c < H at h2; omega),
   h.apart,
   h.pdis⟩

theorem VM.set_mb (h : VM K H n B G T F w s sv pv pvs) (x : List Nat) (hs : w.heap.size ≤ w'.heap.size) (hk : ∀ k, k < w.heap.size → k ≠ B.mb → w'.heap[k]? = w.heap[k]?)
    (hnew : w'.heap[B.mb]? = some (.cells (x.map iv).toArray 3)) : VM K H n B G T F w' { s with met := x } sv pv pvs :=
  ⟨h.nod, h.lo', h.hi, Nat.le_trans h.hH hs,
   fun h0 => (h.gr h0).keep fun k e hlt => hk k hlt (fun e2 => by have h1 := h.grK h0 k e; have h2 := h.lo' _ (h.in_l (i := 5) (by decide)); change K ≤ B.mb at h2; omega),
   h.grK,
   (hk _ (lt_of_heap h.cg) (Vb.ne h.nod (i := 0) (j := 5) (by decide) (by decide) (by decide))).trans h.cg,
   (hk _ (lt_of_heap h.cc) (Vb.ne h.nod (i := 9) (j := 5) (by decide) (by decide) (by decide))).trans h.cc,
   (hk _ (lt_of_heap h.cm) (Vb.ne h.nod (i := 2) (j := 5) (by decide) (by decide) (by decide))).trans h.cm,
   (hk _ (lt_of_heap h.cl) (Vb.ne h.nod (i := 3) (j := 5) (by decide) (by decide) (by decide))).trans h.cl,
   (hk _ (lt_of_heap h.co) (Vb.ne h.nod (i := 4) (j := 5) (by decide) (by decide) (by decide))).trans h.co,
   hnew,
   (hk _ (lt_of_heap h.bl) (Vb.ne h.nod (i := 6) (j := 5) (by decide) (by decide) (by decide))).trans h.bl,
   (hk _ (lt_of_heap h.bo) (Vb.ne h.nod (i := 7) (j := 5) (by decide) (by decide) (by decide))).trans h.bo,
   (hk _ (lt_of_heap h.cst) (Vb.ne h.nod (i := 8) (j := 5) (by decide) (by decide) (by decide))).trans h.cst,
   (hk _ (lt_of_heap h.cme) (Vb.ne h.nod (i := 10) (j := 5) (by decide) (by decide) (by decide))).trans h.cme,
   (hk _ (lt_of_heap h.cpa) (Vb.ne h.nod (i := 1) (j := 5) (by decide) (by decide) (by decide))).trans h.cpa,
   h.st.block fun k e hlt => hk k hlt (fun e2 => by have h1 := h.st.lt k e; have h2 := h.hi _ (h.in_l (i := 5) (by decide)); change B.mb < H at h2; omega),
   h.pa.block (fun k e hlt => hk k hlt (fun e2 => by have h1 := h.pa.row.lt k e; have h2 := h.hi _ (h.in_l (i := 5) (by decide)); change B.mb < H at h2; omega)) fun i u k e1 e hlt => hk k hlt (fun e2 => by have h1 := h.pa.lt' e1 k e; have h2 := h.hi _ (h.in_l (i := 5) (by decide)); change B.mb < H at h2; omega),
   h.apart,
   h.pdis⟩

theorem VM.set_lb (h : VM K H n B G T F w s sv pv pvs) (x : List Nat) (hs : w.heap.size ≤ w'.heap.size) (hk : ∀ k, k < w.heap.size → k ≠ B.lb → w'.heap[k]? = w.heap[k]?)
    (hnew : w'.heap[B.lb]? = some (.cells (x.map iv).toArray 3)) : VM K H n B G T F w' { s with low := x } sv pv pvs :=
  ⟨h.nod, h.lo', h.hi, Nat.le_trans h.hH hs,
   fun h0 => (h.gr h0).keep fun k e hlt => hk k hlt (fun e2 => by have h1 := h.grK h0 k e; have h2 := h.lo' _ (h.in_l (i := 6) (by decide)); change K ≤ B.lb at h2; omega),
   h.grK,
   (hk _ (lt_of_heap h.cg) (Vb.ne h.nod (i := 0) (j := 6) (by decide) (by decide) (by decide))).trans h.cg,
   (hk _ (lt_of_heap h.cc) (Vb.ne h.nod (i := 9) (j := 6) (by decide) (by decide) (by decide))).trans h.cc,
   (hk _ (lt_of_heap h.cm) (Vb.ne h.nod (i := 2) (j := 6) (by decide) (by decide) (by decide))).trans h.cm,
   (hk _ (lt_of_heap h.cl) (Vb.ne h.nod (i := 3) (j := 6) (by decide) (by decide) (by decide))).trans h.cl,
   (hk _ (lt_of_heap h.co) (Vb.ne h.nod (i := 4) (j := 6) (by decide) (by decide) (by decide))).trans h.co,
   (hk _ (lt_of_heap h.bm) (Vb.ne h.nod (i := 5) (j := 6) (by decide) (by decide) (by decide))).trans h.bm,
   hnew,
   (hk _ (lt_of_heap h.bo) (Vb.ne h.nod (i := 7) (j := 6) (by decide) (by decide) (by decide))).trans h.bo,
   (hk _ (lt_of_heap h.cst) (Vb.ne h.nod (i := 8) (j := 6) (by decide) (by decide) (by decide))).trans h.cst,
   (hk _ (lt_of_heap h.cme) (Vb.ne h.nod (i := 10) (j := 6) (by decide) (by decide) (by decide))).trans h.cme,
   (hk _ (lt_of_heap h.cpa) (Vb.ne h.nod (i := 1) (j := 6) (by decide) (by decide) (by decide))).trans h.cpa,
   h.st.block fun k e hlt => hk k hlt (fun e2 => by have h1 := h.st.lt k e; have h2 := h.hi _ (h.in_l (i := 6) (by decide)); change B.lb < H at h2; omega),
   h.pa.block (fun k e hlt => hk k hlt (fun e2 => by have h1 := h.pa.row.lt k e; have h2 := h.hi _ (h.in_l (i := 6) (by decide)); change B.lb < H at h2; omega)) fun i u k e1 e hlt => hk k hlt (fun e2 => by have h1 := h.pa.lt' e1 k e; have h2 := h.hi _ (h.in_l (i := 6) (by decide)); change B.lb < H at h2; omega),
   h.apart,
   h.pdis⟩

theorem VM.set_ob (h : VM K H n B G T F w s sv pv pvs) (x : List Bool) (hs : w.heap.size ≤ w'.heap.size) (hk : ∀ k, k < w.heap.size → k ≠ B.ob → w'.heap[k]? = w.heap[k]?)
    (hnew : w'.heap[B.ob]? = some (.cells (x.map Value.bool).toArray 4)) : VM K H n B G T F w' { s with opn := x } sv pv pvs :=
  ⟨h.nod, h.lo', h.hi, Nat.le_trans h.hH hs,
   fun h0 => (h.gr h0).keep fun k e hlt => hk k hlt (fun e2 => by have h1 := h.grK h0 k e; have h2 := h.lo' _ (h.in_l (i := 7) (by decide)); change K ≤ B.ob at h2; omega),
   h.grK,
   (hk _ (lt_of_heap h.cg) (Vb.ne h.nod (i := 0) (j := 7) (by decide) (by decide) (by decide))).trans h.cg,
   (hk _ (lt_of_heap h.cc) (Vb.ne h.nod (i := 9) (j := 7) (by decide) (by decide) (by decide))).trans h.cc,
   (hk _ (lt_of_heap h.cm) (Vb.ne h.nod (i := 2) (j := 7) (by decide) (by decide) (by decide))).trans h.cm,
   (hk _ (lt_of_heap h.cl) (Vb.ne h.nod (i := 3) (j := 7) (by decide) (by decide) (by decide))).trans h.cl,
   (hk _ (lt_of_heap h.co) (Vb.ne h.nod (i := 4) (j := 7) (by decide) (by decide) (by decide))).trans h.co,
   (hk _ (lt_of_heap h.bm) (Vb.ne h.nod (i := 5) (j := 7) (by decide) (by decide) (by decide))).trans h.bm,
   (hk _ (lt_of_heap h.bl) (Vb.ne h.nod (i := 6) (j := 7) (by decide) (by decide) (by decide))).trans h.bl,
   hnew,
   (hk _ (lt_of_heap h.cst) (Vb.ne h.nod (i := 8) (j := 7) (by decide) (by decide) (by decide))).trans h.cst,
   (hk _ (lt_of_heap h.cme) (Vb.ne h.nod (i := 10) (j := 7) (by decide) (by decide) (by decide))).trans h.cme,
   (hk _ (lt_of_heap h.cpa) (Vb.ne h.nod (i := 1) (j := 7) (by decide) (by decide) (by decide))).trans h.cpa,
   h.st.block fun k e hlt => hk k hlt (fun e2 => by have h1 := h.st.lt k e; have h2 := h.hi _ (h.in_l (i := 7) (by decide)); change B.ob < H at h2; omega),
   h.pa.block (fun k e hlt => hk k hlt (fun e2 => by have h1 := h.pa.row.lt k e; have h2 := h.hi _ (h.in_l (i := 7) (by decide)); change B.ob < H at h2; omega)) fun i u k e1 e hlt => hk k hlt (fun e2 => by have h1 := h.pa.lt' e1 k e; have h2 := h.hi _ (h.in_l (i := 7) (by decide)); change B.ob < H at h2; omega),
   h.apart,
   h.pdis⟩

theorem VM.same (h : VM K H n B G T F w s sv pv pvs) (hs : w.heap.size ≤ w'.heap.size) (hk : ∀ k, k < w.heap.size → w'.heap[k]? = w.heap[k]?) : VM K H n B G T F w' s sv pv pvs :=
  ⟨h.nod, h.lo', h.hi, Nat.le_trans h.hH hs,
   fun h0 => (h.gr h0).keep fun k _ hlt => hk k hlt,
   h.grK,
   (hk _ (lt_of_heap h.cg)).trans h.cg,
   (hk _ (lt_of_heap h.cc)).trans h.cc,
   (hk _ (lt_of_heap h.cm)).trans h.cm,
   (hk _ (lt_of_heap h.cl)).trans h.cl,
   (hk _ (lt_of_heap h.co)).trans h.co,
   (hk _ (lt_of_heap h.bm)).trans h.bm,
   (hk _ (lt_of_heap h.bl)).trans h.bl,
   (hk _ (lt_of_heap h.bo)).trans h.bo,
   (hk _ (lt_of_heap h.cst)).trans h.cst,
   (hk _ (lt_of_heap h.cme)).trans h.cme,
   (hk _ (lt_of_heap h.cpa)).trans h.cpa,
   h.st.block fun k _ hlt => hk k hlt,
   h.pa.block (fun k _ hlt => hk k hlt) fun _ _ k _ _ hlt => hk k hlt,
   h.apart,
   h.pdis⟩
theorem VM.below (h : VM K H n B G T F w s sv pv pvs) (hb : Below w.heap.size w w') : VM K H n B G T F w' s sv pv pvs := h.same hb.size fun k hk => hb.block k hk
theorem VM.drew (h : VM K H n B G T F w s sv pv pvs) : VM K H n B G T F w.drew s sv pv pvs := h.same (Nat.le_refl _) fun _ _ => rfl

theorem VM.set_st (h : VM K H n B G T F w s sv pv pvs) {x : List Nat} {sv' : Value} (hs : w.heap.size ≤ w'.heap.size) (hk : ∀ k, k < w.heap.size → k ≠ B.st → sv.ownBlock ≠ some k → w'.heap[k]? = w.heap[k]?)
    (hnew : w'.heap[B.st]? = some (.cells #[sv'] 31)) (hrow : IR H w' sv' x) (hown : ∀ k, sv'.ownBlock = some k → sv.ownBlock = some k ∨ w.heap.size ≤ k) : VM K H n B G T F w' { s with stack := x } sv' pv pvs :=
  ⟨h.nod, h.lo', h.hi, Nat.le_trans h.hH hs,
   fun h0 => (h.gr h0).keep fun k e hlt => hk k hlt (fun e2 => by have h1 := h.grK h0 k e; have h2 := h.lo' _ (h.in_l (i := 8) (by decide)); change K ≤ B.st at h2; omega) (fun e2 => by have h1 := h.grK h0 k e; have h2 := h.lo' _ (h.in_l (i := 8) (by decide)); have h4 := h.hi _ (h.in_l (i := 8) (by decide)); have h3 := h.st.lt k e2; change K ≤ B.st at h2; change B.st < H at h4; omega),
   h.grK,
   (hk _ (lt_of_heap h.cg) (Vb.ne h.nod (i := 0) (j := 8) (by decide) (by decide) (by decide)) (fun e => by have h1 := h.st.lt _ e; have h2 := h.hi _ (h.in_l (i := 0) (by decide)); change B.g < H at h2; omega)).trans h.cg,
   (hk _ (lt_of_heap h.cc) (Vb.ne h.nod (i := 9) (j := 8) (by decide) (by decide) (by decide)) (fun e => by have h1 := h.st.lt _ e; have h2 := h.hi _ (h.in_l (i := 9) (by decide)); change B.c < H at h2; omega)).trans h.cc,
   (hk _ (lt_of_heap h.cm) (Vb.ne h.nod (i := 2) (j := 8) (by decide) (by decide) (by decide)) (fun e => by have h1 := h.st.lt _ e; have h2 := h.hi _ (h.in_l (i := 2) (by decide)); change B.m < H at h2; omega)).trans h.cm,
   (hk _ (lt_of_heap h.cl) (Vb.ne h.nod (i := 3) (j := 8) (by decide) (by decide) (by decide)) (fun e => by have h1 := h.st.lt _ e; have h2 := h.hi _ (h.in_l (i := 3) (by decide)); change B.lo < H at h2; omega)).trans h.cl,
   (hk _ (lt_of_heap h.co) (Vb.ne h.nod (i := 4) (j := 8) (by decide) (by decide) (by decide)) (fun e => by have h1 := h.st.lt _ e; have h2 := h.hi _ (h.in_l (i := 4) (by decide)); change B.op < H at h2; omega)).trans h.co,
   (hk _ (lt_of_heap h.bm) (Vb.ne h.nod (i := 5) (j := 8) (by decide) (by decide) (by decide)) (fun e => by have h1 := h.st.lt _ e; have h2 := h.hi _ (h.in_l (i := 5) (by decide)); change B.mb < H at h2; omega)).trans h.bm,
   (hk _ (lt_of_heap h.bl) (Vb.ne h.nod (i := 6) (j := 8) (by decide) (by decide) (by decide)) (fun e => by have h1 := h.st.lt _ e; have h2 := h.hi _ (h.in_l (i := 6) (by decide)); change B.lb < H at h2; omega)).trans h.bl,
   (hk _ (lt_of_heap h.bo) (Vb.ne h.nod (i := 7) (j := 8) (by decide) (by decide) (by decide)) (fun e => by have h1 := h.st.lt _ e; have h2 := h.hi _ (h.in_l (i := 7) (by decide)); change B.ob < H at h2; omega)).trans h.bo,
   hnew,
   (hk _ (lt_of_heap h.cme) (Vb.ne h.nod (i := 10) (j := 8) (by decide) (by decide) (by decide)) (fun e => by have h1 := h.st.lt _ e; have h2 := h.hi _ (h.in_l (i := 10) (by decide)); change B.me < H at h2; omega)).trans h.cme,
   (hk _ (lt_of_heap h.cpa) (Vb.ne h.nod (i := 1) (j := 8) (by decide) (by decide) (by decide)) (fun e => by have h1 := h.st.lt _ e; have h2 := h.hi _ (h.in_l (i := 1) (by decide)); change B.pa < H at h2; omega)).trans h.cpa,
   hrow,
   h.pa.block (fun k e hlt => hk k hlt (fun e2 => by have h1 := h.pa.row.lt k e; have h2 := h.hi _ (h.in_l (i := 8) (by decide)); change B.st < H at h2; omega) (fun e2 => rr_ne h.pa h.st e2 e)) fun i u k e1 e hlt => hk k hlt (fun e2 => by have h1 := h.pa.lt' e1 k e; have h2 := h.hi _ (h.in_l (i := 8) (by decide)); change B.st < H at h2; omega) (h.apart i u k e1 e),
   fun i u k e1 e2 e3 => by
    rcases hown k e3 with e4 | e4
    · exact h.apart i u k e1 e2 e4
    · have := (h.pa.lt' e1 k e2).2
      omega,
   h.pdis⟩

theorem VM.set_pa (h : VM K H n B G T F w s sv pv pvs) {x : List (List Nat)} {pv' : Value} {pvs' : List Value} (hs : w.heap.size ≤ w'.heap.size) (hk : ∀ k, k < w.heap.size → k ≠ B.pa → pv.ownBlock ≠ some k → w'.heap[k]? = w.heap[k]?)
    (hnew : w'.heap[B.pa]? = some (.cells #[pv'] 39)) (hrow : RR H w' pv' pvs' x) (hap : ∀ (i : Nat) (u : Value) (k : Nat), pvs'[i]? = some u → u.ownBlock = some k → sv.ownBlock ≠ some k)
    (hpd : ∀ (i j : Nat) (u v : Value) (k : Nat), pvs'[i]? = some u → pvs'[j]? = some v → u.ownBlock = some k → v.ownBlock = some k → i = j) : VM K H n B G T F w' { s with parts := x } sv pv' pvs' :=
  ⟨h.nod, h.lo', h.hi, Nat.le_trans h.hH hs,
   fun h0 => (h.gr h0).keep fun k e hlt => hk k hlt (fun e2 => by have h1 := h.grK h0 k e; have h2 := h.lo' _ (h.in_l (i := 1) (by decide)); change K ≤ B.pa at h2; omega) (fun e2 => by have h1 := h.grK h0 k e; have h2 := h.lo' _ (h.in_l (i := 1) (by decide)); have h4 := h.hi _ (h.in_l (i := 1) (by decide)); have h3 := h.pa.row.lt k e2; change K ≤ B.pa at h2; change B.pa < H at h4; omega),
   h.grK,
   (hk _ (lt_of_heap h.cg) (Vb.ne h.nod (i := 0) (j := 1) (by decide) (by decide) (by decide)) (fun e => by have h1 := h.pa.row.lt _ e; have h2 := h.hi _ (h.in_l (i := 0) (by decide)); change B.g < H at h2; omega)).trans h.cg,
   (hk _ (lt_of_heap h.cc) (Vb.ne h.nod (i := 9) (j := 1) (by decide) (by decide) (by decide)) (fun e => by have h1 := h.pa.row.lt _ e; have h2 := h.hi _ (h.in_l (i := 9) (by decide)); change B.c < H at h2; omega)).trans h.cc,
   (hk _ (lt_of_heap h.cm) (Vb.ne h.nod (i := 2) (j := 1) (by decide) (by decide) (by decide)) (fun e => by have h1 := h.pa.row.lt _ e; have h2 := h.hi _ (h.in_l (i := 2) (by decide)); change B.m < H at h2; omega)).trans h.cm,
   (hk _ (lt_of_heap h.cl) (Vb.ne h.nod (i := 3) (j := 1) (by decide) (by decide) (by decide)) (fun e => by have h1 := h.pa.row.lt _ e; have h2 := h.hi _ (h.in_l (i := 3) (by decide)); change B.lo < H at h2; omega)).trans h.cl,
   (hk _ (lt_of_heap h.co) (Vb.ne h.nod (i := 4) (j := 1) (by decide) (by decide) (by decide)) (fun e => by have h1 := h.pa.row.lt _ e; have h2 := h.hi _ (h.in_l (i := 4) (by decide)); change B.op < H at h2; omega)).trans h.co,
   (hk _ (lt_of_heap h.bm) (Vb.ne h.nod (i := 5) (j := 1) (by decide) (by decide) (by decide)) (fun e => by have h1 := h.pa.row.lt _ e; have h2 := h.hi _ (h.in_l (i := 5) (by decide)); change B.mb < H at h2; omega)).trans h.bm,
   (hk _ (lt_of_heap h.bl) (Vb.ne h.nod (i := 6) (j := 1) (by decide) (by decide) (by decide)) (fun e => by have h1 := h.pa.row.lt _ e; have h2 := h.hi _ (h.in_l (i := 6) (by decide)); change B.lb < H at h2; omega)).trans h.bl,
   (hk _ (lt_of_heap h.bo) (Vb.ne h.nod (i := 7) (j := 1) (by decide) (by decide) (by decide)) (fun e => by have h1 := h.pa.row.lt _ e; have h2 := h.hi _ (h.in_l (i := 7) (by decide)); change B.ob < H at h2; omega)).trans h.bo,
   (hk _ (lt_of_heap h.cst) (Vb.ne h.nod (i := 8) (j := 1) (by decide) (by decide) (by decide)) (fun e => by have h1 := h.pa.row.lt _ e; have h2 := h.hi _ (h.in_l (i := 8) (by decide)); change B.st < H at h2; omega)).trans h.cst,
   (hk _ (lt_of_heap h.cme) (Vb.ne h.nod (i := 10) (j := 1) (by decide) (by decide) (by decide)) (fun e => by have h1 := h.pa.row.lt _ e; have h2 := h.hi _ (h.in_l (i := 10) (by decide)); change B.me < H at h2; omega)).trans h.cme,
   hnew,
   h.st.block (fun k e hlt => hk k hlt (fun e2 => by have h1 := h.st.lt k e; have h2 := h.hi _ (h.in_l (i := 1) (by decide)); change B.pa < H at h2; omega) (rr_ne h.pa h.st e)),
   hrow,
   hap,
   hpd⟩

end
end Go.Proofs.Ytcjohhminiedfaa
