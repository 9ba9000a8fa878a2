/- Trees of nodes: plain, and in memory. -/
import Derived.Test.YtlcglkanlhmmdaaGreatProg
import Derived.Deep.MidRow
import Derived.Maps.AppendAt
import Derived.RangeFuncBox
import Derived.Test.YtlcglkanlhmmdaaGreatQBase
namespace Go.Proofs.YtlcglkanlhmmdaaGreat
open Go.RowKit
structure V where
  k : Int
  m : Int
  e : Int
  t : ByteArray
  b : Bool
  f : Int
deriving DecidableEq
/-- A corner. -/
structure Cn where
  ra : Int
  rn : Int
  ca : Int
  cn : Int
  fr : Bool
  fc : Bool
deriving DecidableEq
/-- A node, without those below it. -/
structure Nd where
  k : Int
  v : V
  nm : ByteArray
  a : Cn
  b : Cn
  rows : Int
deriving DecidableEq
/-- A tree. -/
inductive T where
  | mk (o : Nd) (l : List T) : T
def T.o : T → Nd
  | .mk o _ => o
def T.l : T → List T
  | .mk _ l => l
theorem T.eta (t : T) : T.mk t.o t.l = t := by cases t; rfl
theorem T.lt {t : T} {l : List T} {o : Nd} (h : t ∈ l) : SizeOf.sizeOf t < SizeOf.sizeOf (T.mk o l) := by
  have := List.sizeOf_lt_of_mem h
  simp only [T.mk.sizeOf_spec]
  omega
theorem T.ind {P : T → Prop} (h : ∀ o l, (∀ t ∈ l, P t) → P (.mk o l)) : ∀ t, P t
  | .mk o l => h o l fun t _ => T.ind h t
termination_by t => SizeOf.sizeOf t
decreasing_by rename_i hm; exact T.lt hm
/-- How many nodes. -/
def T.size : T → Nat
  | .mk _ l => 1 + (l.attach.map fun t => T.size t.1).sum
termination_by t => SizeOf.sizeOf t
decreasing_by exact T.lt t.2
theorem T.size_mk (o : Nd) (l : List T) : (T.mk o l).size = 1 + (l.map T.size).sum := by
  rw [T.size]
  congr 2
  rw [List.attach_map_val (f := T.size)]
/-- The same? -/
def T.same : T → T → Bool
  | .mk o l, .mk p m => decide (o = p) && decide (l.length = m.length) && ((l.attach.zip m).all fun x => T.same x.1.1 x.2)
termination_by t => SizeOf.sizeOf t
decreasing_by exact T.lt x.1.2
/-- A node's cells, but the slice. -/
def ocells (o : Nd) : List Value :=
  [.int .i64 o.k, .int .i64 o.v.k, .int .i64 o.v.m, .int .i64 o.v.e, .string o.v.t, .bool o.v.b, .int .i64 o.v.f, .string o.nm,
   .int .i64 o.a.ra, .int .i64 o.a.rn, .int .i64 o.a.ca, .int .i64 o.a.cn, .bool o.a.fr, .bool o.a.fc,
   .int .i64 o.b.ra, .int .i64 o.b.rn, .int .i64 o.b.ca, .int .i64 o.b.cn, .bool o.b.fr, .bool o.b.fc, .int .i64 o.rows]
def ncells (o : Nd) (s : Value) : List Value := ocells o ++ [s]
def nagg (o : Nd) (s : Value) : Value := .agg (ncells o s).toArray
theorem T.same_mk (o p : Nd) (l m : List T) : T.same (.mk o l) (.mk p m) = (decide (o = p) && decide (l.length = m.length) && ((l.zip m).all fun x => T.same x.1 x.2)) := by
  rw [T.same]
  congr 1
  have : l.zip m = (l.attach.zip m).map (Prod.map Subtype.val id) := by
    rw [← List.zip_map_left, List.attach_map_subtype_val]
  rw [this, List.all_map]
  rfl
theorem T.same_iff (t : T) : ∀ u : T, T.same t u = true ↔ t = u := by
  induction t using T.ind with
  | h o l ih =>
    rintro ⟨p, m⟩
    rw [T.same_mk]
    simp only [Bool.and_eq_true, decide_eq_true_eq, T.mk.injEq, List.all_eq_true]
    constructor
    · rintro ⟨⟨rfl, h1⟩, h2⟩
      refine ⟨rfl, List.ext_getElem h1 fun i hi hj => ?_⟩
      refine (ih _ (List.getElem_mem hi) _).1 (h2 (l[i], m[i]) ?_)
      have : (l.zip m)[i]'(by simp; omega) = (l[i], m[i]) := by simp
      rw [← this]
      exact List.getElem_mem _
    · rintro ⟨rfl, rfl⟩
      refine ⟨⟨rfl, rfl⟩, fun x hx => ?_⟩
      obtain ⟨i, hi, rfl⟩ := List.mem_iff_getElem.1 hx
      simp only [List.getElem_zip]
      exact (ih _ (List.getElem_mem _) _).2 rfl
/-- Those below lie at a. -/
def T.At (w : World) : T → Option Addr → Prop
  | .mk _ l, a => 0 < l.length → ∃ b off, a = some ⟨b, off, none⟩ ∧ b < w.heap.size ∧ ∀ (i : Nat) (hi : i < l.length), ∃ a' cap', (∀ j, j < 22 → w.cell? ⟨b, off + i * 22 + j, none⟩ = (ncells l[i].o (.slice a' l[i].l.length cap'))[j]?) ∧ T.At w l[i] a'
termination_by t => SizeOf.sizeOf t
decreasing_by exact T.lt (List.getElem_mem _)
theorem T.at_mk {w : World} {o : Nd} {l : List T} {a : Option Addr} : (T.mk o l).At w a ↔ (0 < l.length → ∃ b off, a = some ⟨b, off, none⟩ ∧ b < w.heap.size ∧ ∀ (i : Nat) (t : T), l[i]? = some t → ∃ a' cap', (∀ j, j < 22 → w.cell? ⟨b, off + i * 22 + j, none⟩ = (ncells t.o (.slice a' t.l.length cap'))[j]?) ∧ t.At w a') := by
  rw [T.At]
  constructor
  · intro h h0
    obtain ⟨b, off, e, h1, h2⟩ := h h0
    refine ⟨b, off, e, h1, fun i t ht => ?_⟩
    obtain ⟨hi, rfl⟩ := List.getElem?_eq_some_iff.1 ht
    exact h2 i hi
  · intro h h0
    obtain ⟨b, off, e, h1, h2⟩ := h h0
    exact ⟨b, off, e, h1, fun i hi => h2 i l[i] (List.getElem?_eq_getElem hi)⟩
theorem T.At.below {w w' : World} (hb : Below w.heap.size w w') (t : T) : ∀ {a : Option Addr}, t.At w a → t.At w' a := by
  induction t using T.ind with
  | h o l ih =>
    intro a h
    rw [T.at_mk] at h ⊢
    intro h0
    obtain ⟨b, off, e, h1, h2⟩ := h h0
    refine ⟨b, off, e, Nat.lt_of_lt_of_le h1 hb.size, fun i t ht => ?_⟩
    obtain ⟨a', cap', h3, h4⟩ := h2 i t ht
    exact ⟨a', cap', fun j hj => (hb.cell (p := ⟨b, off + i * 22 + j, none⟩) h1).trans (h3 j hj), ih t (List.mem_of_getElem? ht) h4⟩
/-- The value is the tree. -/
def IsT (w : World) (v : Value) (t : T) : Prop := ∃ a cap, v = nagg t.o (.slice a t.l.length cap) ∧ t.At w a
theorem IsT.below {w w' : World} {v : Value} {t : T} (h : IsT w v t) (hb : Below w.heap.size w w') : IsT w' v t := by
  obtain ⟨a, cap, e, h⟩ := h
  exact ⟨a, cap, e, h.below hb t⟩
theorem T.size_le {o : Nd} {l : List T} {t : T} (h : t ∈ l) : t.size < (T.mk o l).size := by
  rw [T.size_mk]
  have : t.size ≤ (l.map T.size).sum := by
    induction l with
    | nil => cases h
    | cons x r ih =>
      rw [List.map_cons, List.sum_cons]
      rcases List.mem_cons.1 h with rfl | h
      · omega
      · have := ih h
        omega
  omega
theorem T.len_le (o : Nd) (l : List T) : l.length < (T.mk o l).size := by
  rw [T.size_mk]
  have : l.length ≤ (l.map T.size).sum := by
    induction l with
    | nil => simp
    | cons t r ih =>
      have : 1 ≤ t.size := by cases t; rw [T.size_mk]; omega
      simp
      omega
  omega
end Go.Proofs.YtlcglkanlhmmdaaGreat
/- ref06.Same. -/
namespace Go.Proofs.YtlcglkanlhmmdaaGreat
open Go.RowKit
theorem nagg_eq (o : Nd) (s : Value) : nagg o s = .agg #[.int .i64 o.k, .int .i64 o.v.k, .int .i64 o.v.m, .int .i64 o.v.e, .string o.v.t, .bool o.v.b, .int .i64 o.v.f, .string o.nm,
   .int .i64 o.a.ra, .int .i64 o.a.rn, .int .i64 o.a.ca, .int .i64 o.a.cn, .bool o.a.fr, .bool o.a.fc,
   .int .i64 o.b.ra, .int .i64 o.b.rn, .int .i64 o.b.ca, .int .i64 o.b.cn, .bool o.b.fr, .bool o.b.fc, .int .i64 o.rows, s] := rfl
def vagg (v : V) : Value := .agg #[.int .i64 v.k, .int .i64 v.m, .int .i64 v.e, .string v.t, .bool v.b, .int .i64 v.f]
def aagg (a b : Cn) : Value := .agg #[.int .i64 a.ra, .int .i64 a.rn, .int .i64 a.ca, .int .i64 a.cn, .bool a.fr, .bool a.fc, .int .i64 b.ra, .int .i64 b.rn, .int .i64 b.ca, .int .i64 b.cn, .bool b.fr, .bool b.fc]
theorem str_eq {a b : ByteArray} : a.toList = b.toList ↔ a = b := by
  constructor
  · intro h
    rw [ByteArray.toList_eq, ByteArray.toList_eq] at h
    obtain ⟨⟨x⟩⟩ := a
    obtain ⟨⟨y⟩⟩ := b
    simp at h
    rw [h]
  · intro h; rw [h]
theorem eq_v (w : World) (a b : V) : (binOp .eql 33 (vagg a) (vagg b)).run Tryz.prog w = .ok (.bool (decide (a = b))) w := by
  obtain ⟨a1, a2, a3, a4, a5, a6⟩ := a
  obtain ⟨b1, b2, b3, b4, b5, b6⟩ := b
  unfold vagg
  simp [go_sem, str_eq]
  by_cases h1 : a1 = b1 <;> by_cases h2 : a2 = b2 <;> by_cases h3 : a3 = b3 <;> by_cases h4 : a4 = b4 <;> by_cases h5 : a5 = b5 <;> by_cases h6 : a6 = b6 <;> simp [h1, h2, h3, h4, h5, h6]
theorem neq_v (w : World) (a b : V) : (binOp .neq 33 (vagg a) (vagg b)).run Tryz.prog w = .ok (.bool (!decide (a = b))) w := by
  obtain ⟨a1, a2, a3, a4, a5, a6⟩ := a
  obtain ⟨b1, b2, b3, b4, b5, b6⟩ := b
  unfold vagg
  simp [go_sem, str_eq]
  by_cases h1 : a1 = b1 <;> by_cases h2 : a2 = b2 <;> by_cases h3 : a3 = b3 <;> by_cases h4 : a4 = b4 <;> by_cases h5 : a5 = b5 <;> by_cases h6 : a6 = b6 <;> simp [h1, h2, h3, h4, h5, h6]
theorem neq_a (w : World) (a b c d : Cn) : (binOp .neq 39 (aagg a b) (aagg c d)).run Tryz.prog w = .ok (.bool (!decide (a = c ∧ b = d))) w := by
  obtain ⟨a1, a2, a3, a4, a5, a6⟩ := a
  obtain ⟨b1, b2, b3, b4, b5, b6⟩ := b
  obtain ⟨c1, c2, c3, c4, c5, c6⟩ := c
  obtain ⟨d1, d2, d3, d4, d5, d6⟩ := d
  unfold aagg
  simp [go_sem]
  by_cases h1 : a1 = c1
  case neg => simp [h1]
  simp only [h1, if_true]
  by_cases h2 : a2 = c2
  case neg => simp [h2]
  simp only [h2, if_true]
  by_cases h3 : a3 = c3
  case neg => simp [h3]
  simp only [h3, if_true]
  by_cases h4 : a4 = c4
  case neg => simp [h4]
  simp only [h4, if_true]
  by_cases h5 : a5 = c5
  case neg => simp [h5]
  simp only [h5, if_true]
  by_cases h6 : a6 = c6
  case neg => simp [h6]
  simp only [h6, if_true]
  by_cases h7 : b1 = d1
  case neg => simp [h7]
  simp only [h7, if_true]
  by_cases h8 : b2 = d2
  case neg => simp [h8]
  simp only [h8, if_true]
  by_cases h9 : b3 = d3
  case neg => simp [h9]
  simp only [h9, if_true]
  by_cases h10 : b4 = d4
  case neg => simp [h10]
  simp only [h10, if_true]
  by_cases h11 : b5 = d5
  case neg => simp [h11]
  simp only [h11, if_true]
  by_cases h12 : b6 = d6 <;> simp [h12]
section
variable (o p : Nd) (a : Option Addr) (cap n m : Nat) (c : Option Addr) (cap' : Nat) (w : World)
set_option maxHeartbeats 4000000
set_option maxRecDepth 100000
theorem same_1 (hk : (o.k != p.k) = true) : Calls Tryz.prog 16 #[nagg o (.slice a n cap), nagg p (.slice c m cap')] w fun e w' => e = .returned (.bool false) ∧ Below w.heap.size w w' := by
  rw [nagg_eq, nagg_eq]
  go_enter Tryz.func16, Tryz.ntmps16
  go_wp2_with fail
  go_ret
  refine ⟨rfl, ?_⟩
  (repeat (first | with_reducible exact Below.refl _ _ | with_reducible exact hBW | with_reducible refine Below.setCell ?_ ?_ _ | with_reducible refine Below.alloc ?_ ?_ _ | with_reducible refine belowN ?_ _ | with_reducible refine Below.drew ?_)); all_goals (first | omega | (dsimp only; omega) | ((repeat (first | with_reducible refine le_alloc ?_ | with_reducible refine le_setCell ?_ | with_reducible refine le_drew ?_ | with_reducible refine le_drewN ?_)); omega))
theorem same_2 (hk : (o.k != p.k) = false) (hv : o.v ≠ p.v) : Calls Tryz.prog 16 #[nagg o (.slice a n cap), nagg p (.slice c m cap')] w fun e w' => e = .returned (.bool false) ∧ Below w.heap.size w w' := by
  have h1 := fun W => neq_v W o.v p.v
  rw [decide_eq_false hv] at h1
  unfold vagg at h1
  clear hv
  rw [nagg_eq, nagg_eq]
  go_enter Tryz.func16, Tryz.ntmps16
  go_wp2_with fail
  go_ret
  refine ⟨rfl, ?_⟩
  (repeat (first | with_reducible exact Below.refl _ _ | with_reducible exact hBW | with_reducible refine Below.setCell ?_ ?_ _ | with_reducible refine Below.alloc ?_ ?_ _ | with_reducible refine belowN ?_ _ | with_reducible refine Below.drew ?_)); all_goals (first | omega | (dsimp only; omega) | ((repeat (first | with_reducible refine le_alloc ?_ | with_reducible refine le_setCell ?_ | with_reducible refine le_drew ?_ | with_reducible refine le_drewN ?_)); omega))
theorem same_3 (hk : (o.k != p.k) = false) (hv : o.v = p.v) (hn : o.nm ≠ p.nm) : Calls Tryz.prog 16 #[nagg o (.slice a n cap), nagg p (.slice c m cap')] w fun e w' => e = .returned (.bool false) ∧ Below w.heap.size w w' := by
  have h1 := fun W => neq_v W o.v p.v
  rw [decide_eq_true hv] at h1
  unfold vagg at h1
  have h2 : (o.nm.toList != p.nm.toList) = true := by simpa [str_eq] using hn
  have h3 : (o.nm.toList == p.nm.toList) = false := by simpa [str_eq] using hn
  clear hv hn
  rw [nagg_eq, nagg_eq]
  go_enter Tryz.func16, Tryz.ntmps16
  go_wp2_with fail
  go_ret
  refine ⟨rfl, ?_⟩
  (repeat (first | with_reducible exact Below.refl _ _ | with_reducible exact hBW | with_reducible refine Below.setCell ?_ ?_ _ | with_reducible refine Below.alloc ?_ ?_ _ | with_reducible refine belowN ?_ _ | with_reducible refine Below.drew ?_)); all_goals (first | omega | (dsimp only; omega) | ((repeat (first | with_reducible refine le_alloc ?_ | with_reducible refine le_setCell ?_ | with_reducible refine le_drew ?_ | with_reducible refine le_drewN ?_)); omega))
theorem same_4 (hk : (o.k != p.k) = false) (hv : o.v = p.v) (hn : o.nm = p.nm) (ha : ¬ (o.a = p.a ∧ o.b = p.b)) : Calls Tryz.prog 16 #[nagg o (.slice a n cap), nagg p (.slice c m cap')] w fun e w' => e = .returned (.bool false) ∧ Below w.heap.size w w' := by
  have h1 := fun W => neq_v W o.v p.v
  rw [decide_eq_true hv] at h1
  unfold vagg at h1
  have h2 : (o.nm.toList != p.nm.toList) = false := by simpa [str_eq] using hn
  have h3 : (o.nm.toList == p.nm.toList) = true := by simpa [str_eq] using hn
  have h4 := fun W => neq_a W o.a o.b p.a p.b
  rw [decide_eq_false ha] at h4
  unfold aagg at h4
  clear hv hn ha
  rw [nagg_eq, nagg_eq]
  go_enter Tryz.func16, Tryz.ntmps16
  go_wp2_with fail
  go_ret
  refine ⟨rfl, ?_⟩
  (repeat (first | with_reducible exact Below.refl _ _ | with_reducible exact hBW | with_reducible refine Below.setCell ?_ ?_ _ | with_reducible refine Below.alloc ?_ ?_ _ | with_reducible refine belowN ?_ _ | with_reducible refine Below.drew ?_)); all_goals (first | omega | (dsimp only; omega) | ((repeat (first | with_reducible refine le_alloc ?_ | with_reducible refine le_setCell ?_ | with_reducible refine le_drew ?_ | with_reducible refine le_drewN ?_)); omega))
theorem same_5 (hk : (o.k != p.k) = false) (hv : o.v = p.v) (hn : o.nm = p.nm) (ha : o.a = p.a ∧ o.b = p.b) (hr : (o.rows != p.rows) = true) : Calls Tryz.prog 16 #[nagg o (.slice a n cap), nagg p (.slice c m cap')] w fun e w' => e = .returned (.bool false) ∧ Below w.heap.size w w' := by
  have h1 := fun W => neq_v W o.v p.v
  rw [decide_eq_true hv] at h1
  unfold vagg at h1
  have h2 : (o.nm.toList != p.nm.toList) = false := by simpa [str_eq] using hn
  have h3 : (o.nm.toList == p.nm.toList) = true := by simpa [str_eq] using hn
  have h4 := fun W => neq_a W o.a o.b p.a p.b
  rw [decide_eq_true ha] at h4
  unfold aagg at h4
  clear hv hn ha
  rw [nagg_eq, nagg_eq]
  go_enter Tryz.func16, Tryz.ntmps16
  go_wp2_with fail
  go_ret
  refine ⟨rfl, ?_⟩
  (repeat (first | with_reducible exact Below.refl _ _ | with_reducible exact hBW | with_reducible refine Below.setCell ?_ ?_ _ | with_reducible refine Below.alloc ?_ ?_ _ | with_reducible refine belowN ?_ _ | with_reducible refine Below.drew ?_)); all_goals (first | omega | (dsimp only; omega) | ((repeat (first | with_reducible refine le_alloc ?_ | with_reducible refine le_setCell ?_ | with_reducible refine le_drew ?_ | with_reducible refine le_drewN ?_)); omega))
theorem same_6 (hk : (o.k != p.k) = false) (hv : o.v = p.v) (hn : o.nm = p.nm) (ha : o.a = p.a ∧ o.b = p.b) (hr : (o.rows != p.rows) = false) (hl : ((n : Int) != (m : Int)) = true) : Calls Tryz.prog 16 #[nagg o (.slice a n cap), nagg p (.slice c m cap')] w fun e w' => e = .returned (.bool false) ∧ Below w.heap.size w w' := by
  have h1 := fun W => neq_v W o.v p.v
  rw [decide_eq_true hv] at h1
  unfold vagg at h1
  have h2 : (o.nm.toList != p.nm.toList) = false := by simpa [str_eq] using hn
  have h3 : (o.nm.toList == p.nm.toList) = true := by simpa [str_eq] using hn
  have h4 := fun W => neq_a W o.a o.b p.a p.b
  rw [decide_eq_true ha] at h4
  unfold aagg at h4
  clear hv hn ha
  rw [nagg_eq, nagg_eq]
  go_enter Tryz.func16, Tryz.ntmps16
  go_wp2_with fail
  go_ret
  refine ⟨rfl, ?_⟩
  (repeat (first | with_reducible exact Below.refl _ _ | with_reducible exact hBW | with_reducible refine Below.setCell ?_ ?_ _ | with_reducible refine Below.alloc ?_ ?_ _ | with_reducible refine belowN ?_ _ | with_reducible refine Below.drew ?_)); all_goals (first | omega | (dsimp only; omega) | ((repeat (first | with_reducible refine le_alloc ?_ | with_reducible refine le_setCell ?_ | with_reducible refine le_drew ?_ | with_reducible refine le_drewN ?_)); omega))
end
/-- A world in which two boxed nodes lie. -/
theorem node_cells {w : World} {b off : Nat} {o : Nd} {s : Value} (h : ∀ j, j < 22 → w.cell? ⟨b, off + j, none⟩ = (ncells o s)[j]?) :
    w.cell? ⟨b, off, none⟩ = some (.int .i64 o.k) ∧ w.cell? ⟨b, off + 1, none⟩ = some (.int .i64 o.v.k) ∧ w.cell? ⟨b, off + 2, none⟩ = some (.int .i64 o.v.m) ∧ w.cell? ⟨b, off + 3, none⟩ = some (.int .i64 o.v.e) ∧ w.cell? ⟨b, off + 4, none⟩ = some (.string o.v.t) ∧ w.cell? ⟨b, off + 5, none⟩ = some (.bool o.v.b) ∧ w.cell? ⟨b, off + 6, none⟩ = some (.int .i64 o.v.f) ∧ w.cell? ⟨b, off + 7, none⟩ = some (.string o.nm) ∧
    w.cell? ⟨b, off + 8, none⟩ = some (.int .i64 o.a.ra) ∧ w.cell? ⟨b, off + 9, none⟩ = some (.int .i64 o.a.rn) ∧ w.cell? ⟨b, off + 10, none⟩ = some (.int .i64 o.a.ca) ∧ w.cell? ⟨b, off + 11, none⟩ = some (.int .i64 o.a.cn) ∧ w.cell? ⟨b, off + 12, none⟩ = some (.bool o.a.fr) ∧ w.cell? ⟨b, off + 13, none⟩ = some (.bool o.a.fc) ∧
    w.cell? ⟨b, off + 14, none⟩ = some (.int .i64 o.b.ra) ∧ w.cell? ⟨b, off + 15, none⟩ = some (.int .i64 o.b.rn) ∧ w.cell? ⟨b, off + 16, none⟩ = some (.int .i64 o.b.ca) ∧ w.cell? ⟨b, off + 17, none⟩ = some (.int .i64 o.b.cn) ∧ w.cell? ⟨b, off + 18, none⟩ = some (.bool o.b.fr) ∧ w.cell? ⟨b, off + 19, none⟩ = some (.bool o.b.fc) ∧ w.cell? ⟨b, off + 20, none⟩ = some (.int .i64 o.rows) ∧ w.cell? ⟨b, off + 21, none⟩ = some s :=
  ⟨h 0 (by omega), h 1 (by omega), h 2 (by omega), h 3 (by omega), h 4 (by omega), h 5 (by omega), h 6 (by omega), h 7 (by omega), h 8 (by omega), h 9 (by omega), h 10 (by omega), h 11 (by omega), h 12 (by omega), h 13 (by omega), h 14 (by omega), h 15 (by omega), h 16 (by omega), h 17 (by omega), h 18 (by omega), h 19 (by omega), h 20 (by omega), h 21 (by omega)⟩
theorem info35 : (Tryz.prog.info? 42).map (·.size) = some 22 := by kernel_rfl
/-- A node is loaded. -/
theorem load_nd {w : World} {b off : Nat} {o : Nd} {s : Value} (hb : b < w.heap.size) (h : ∀ j, j < 22 → w.cell? ⟨b, off + j, none⟩ = (ncells o s)[j]?) :
    ∀ W, Below w.heap.size w W → (Instr.loadAt 42 (.pointer (some ⟨b, off, none⟩))).run Tryz.prog W = .ok (nagg o s) W := fun W hW => by
  refine run_loadAt_mid W b off 42 (ncells o s) _ (fun j v hv => ?_) Tryz.underlying42 rfl info35
  have hj : j < 22 := (List.getElem?_eq_some_iff.1 hv).1
  exact (hW.cell (p := ⟨b, off + j, none⟩) hb).trans ((h j hj).trans hv)
end Go.Proofs.YtlcglkanlhmmdaaGreat
/- A load of a whole struct in a region that draws, and in a list of operations, by a law. -/
namespace Go.Proofs.YtlcglkanlhmmdaaGreat
open Go.RowKit
section
variable {P : Program} {ops : Array Oper} {S : World → Prop}
theorem first_load {K : Act → Prop} {i : Nat} {rest : List Nat} {a : Act} {o : Oper} {v : Value} {ty : TypeId} {x : Operand} {p : Value} (ho : ops[i]? = some o) (hw : Region.wanted o (yielded ops a.tmps) = true)
    (hop : o.op = .load ty x) (hx : a.eval x = p) (hv : ∀ W, S W → (Instr.loadAt ty p).run P W = .ok v W) (h : wpFirst P ops S K rest (a.put o.dst v)) : wpFirst P ops S K (i :: rest) a := by
  refine first_step ho hw (fun W hW => ?_) h
  unfold execOp
  simp only [hop, hx, Sem.run_bind, hv W hW, Result.andThen_ok, Sem.run_pure]
theorem wpList_load_g {rest : List Oper} {op : Oper} {a : Act} {w : World} {Q : Exit → Act → World → Prop} (hw : Region.wanted op (yielded ops a.tmps) = true) (ty : TypeId) (x : Operand) (ho : op.op = .load ty x)
    (b o : Nat) (hx : a.eval x = .pointer (some ⟨b, o, none⟩)) (cs : List Value) (d : TypeDesc) (hc : w.rangeAt b o cs)
    (hu : P.underlying ty = some d) (hd : d.isRow = true) (hi : (P.info? ty).map (·.size) = some cs.length)
    (h : wpList P ops Q rest (a.put op.dst (.agg cs.toArray)) w) : wpList P ops Q (op :: rest) a w :=
  wpList_step fun K hK => by rw [if_pos hw]; exact wp_load_mid ty x ho b o hx cs d hc hu hd hi (hK _ _ h)
def setFrom : Array Value → Nat → List Value → Array Value
  | C, _, [] => C
  | C, o, v :: r => setFrom (C.setIfInBounds o v) (o + 1) r
theorem setFrom_list : ∀ (cs : List Value) (C : Array Value) (o : Nat), o + cs.length ≤ C.size → (setFrom C o cs).toList = C.toList.take o ++ cs ++ C.toList.drop (o + cs.length)
  | [], C, o, _ => by simp [setFrom]
  | v :: r, C, o, h => by
    simp only [List.length_cons] at h
    rw [setFrom, setFrom_list r _ _ (by simp; omega), Array.toList_setIfInBounds]
    have h1 : (C.toList.set o v).take (o + 1) = C.toList.take o ++ [v] := by
      rw [List.take_add_one, List.take_set_of_le (Nat.le_refl _), List.getElem?_set_self (by rw [Array.length_toList]; omega)]
      rfl
    rw [h1, List.drop_set_of_lt (by omega)]
    simp [Nat.add_comm, Nat.add_left_comm]
theorem setFrom_all {C : Array Value} {cs : List Value} (h : C.size = cs.length) : setFrom C 0 cs = cs.toArray := by
  apply Array.toList_inj.1
  rw [setFrom_list cs C 0 (by omega)]
  simp [← h]
theorem setCells_alloc (W : World) (t : TypeId) : ∀ (cs : List Value) (C : Array Value) (o : Nat), (W.alloc (.cells C t)).setCells W.heap.size o cs = W.alloc (.cells (setFrom C o cs) t)
  | [], _, _ => rfl
  | v :: r, C, o => by
    rw [World.setCells, World.setCell_alloc_at _ _ _ _ _ rfl, setCells_alloc W t r, setFrom]
/-- A store into all of a block that was just laid. -/
theorem wpList_store_new {rest : List Oper} {op : Oper} {a : Act} {W : World} {Q : Exit → Act → World → Prop} (hw : Region.wanted op (yielded ops a.tmps) = true) (ty : TypeId) (x y : Operand) (ho : op.op = .store ty x y)
    (b : Nat) (hb : b = W.heap.size) (z : Array Value) (cs : List Value) (t : TypeId) (hx : a.eval x = .pointer (some ⟨b, 0, none⟩)) (hy : a.eval y = .agg cs.toArray) (hz : z.size = cs.length) (hi : (P.info? ty).map (·.size) = some cs.length) (h1 : ∀ v ∈ cs, v.oneCell' = true)
    (h : wpList P ops Q rest (a.put op.dst undef) (W.alloc (.cells cs.toArray t))) : wpList P ops Q (op :: rest) a (W.alloc (.cells z t)) := by
  subst hb
  have hh := heap_alloc_new W (.cells z t)
  refine wpList_step fun K hK => ?_
  rw [if_pos hw]
  refine wp_store_mid ty x y ho W.heap.size 0 cs.toArray hx hy (fun j hj => ⟨?_, frozen_of_heap hh _⟩) (by simpa using hi) (all_oneCell_toArray h1) (hK _ _ ?_)
  · rw [cell_of_heap hh, Nat.zero_add]
    have : j < z.size := by simp at hj; omega
    simp [this]
  · rw [show cs.toArray.toList = cs from rfl, setCells_alloc, setFrom_all hz]
    exact h
end
end Go.Proofs.YtlcglkanlhmmdaaGreat
/- ref06.Same: the loop; the contract. -/
namespace Go.Proofs.YtlcglkanlhmmdaaGreat
open Go.RowKit
set_option maxHeartbeats 4000000 in
set_option maxRecDepth 100000 in
theorem same_7 (o : Nd) (l r : List T) (ih : ∀ t ∈ l, ∀ (u : T) (x y : Value) (w : World), IsT w x t → IsT w y u → Calls Tryz.prog 16 #[x, y] w fun e w' => e = .returned (.bool (T.same t u)) ∧ Below w.heap.size w w') (n : Nat) (hl : l.length = n) (hr' : r.length = n) (hlen : n ≤ 4194304)
    (a : Option Addr) (cap : Nat) (c : Option Addr) (cap' : Nat) (w : World) (hA : (T.mk o l).At w a) (hC : (T.mk o r).At w c) :
    Calls Tryz.prog 16 #[nagg o (.slice a n cap), nagg o (.slice c n cap')] w fun e w' => e = .returned (.bool ((l.zip r).all fun x => T.same x.1 x.2)) ∧ Below w.heap.size w w' := by
  have IH := Lib.hid ih
  have HL := Lib.hid hl
  have HR := Lib.hid hr'
  have HA := Lib.hid hA
  have HC := Lib.hid hC
  have h1 := fun W => neq_v W o.v o.v
  rw [decide_eq_true rfl] at h1
  unfold vagg at h1
  have h2 : (o.nm.toList != o.nm.toList) = false := by simp
  have h3 : (o.nm.toList == o.nm.toList) = true := by simp
  have h4 := fun W => neq_a W o.a o.b o.a o.b
  rw [decide_eq_true ⟨rfl, rfl⟩] at h4
  unfold aagg at h4
  have hk : (o.k != o.k) = false := by simp
  have hr : (o.rows != o.rows) = false := by simp
  have hll : ((n : Int) != (n : Int)) = false := by simp
  clear ih hA hC hl hr'
  rw [nagg_eq, nagg_eq]
  go_enter Tryz.func16, Tryz.ntmps16
  go_wp2_with fail
  clear h1 h2 h3 h4 hk hr hll
  refine abs_world ?_
  intro W0 hW0
  have hB0 : Hid (Below w.heap.size w W0) := by rw [hW0]; unfold Hid; (repeat (first | with_reducible exact Below.refl _ _ | with_reducible exact hBW | with_reducible refine Below.setCell ?_ ?_ _ | with_reducible refine Below.alloc ?_ ?_ _ | with_reducible refine belowN ?_ _ | with_reducible refine Below.drew ?_)); all_goals (first | omega | (dsimp only; omega) | ((repeat (first | with_reducible refine le_alloc ?_ | with_reducible refine le_setCell ?_ | with_reducible refine le_drew ?_ | with_reducible refine le_drewN ?_)); omega))
  have g0 : W0.heap[w.heap.size]? = some (.cells (ncells o (.slice a n cap)).toArray 42) := by rw [hW0]; exact heap_alloc_old (heap_alloc_new w _) _
  have g1 : W0.heap[w.heap.size + 1]? = some (.cells (ncells o (.slice c n cap')).toArray 42) := by rw [hW0]; exact heap_alloc_at (by simp) _
  have G0 := Lib.hid g0
  have G1 := Lib.hid g1
  clear hW0 g0 g1
  go_loopw [5] (fun i wr => ∃ k : Nat, i = .int .i64 k ∧ k ≤ n ∧ Hid (((l.take k).zip (r.take k)).all (fun x => T.same x.1 x.2) = true) ∧ Hid (Below W0.heap.size W0 wr)) (fun i _ => n - (intOf i).toNat)
  case atStart => exact ⟨0, rfl, Nat.zero_le _, rfl, Below.refl _ _⟩
  case round =>
    obtain ⟨k, rfl, hk, hS, hB⟩ := hrel
    have e0 := (hB.out.block w.heap.size (lt_of_heap G0.out)).trans G0.out
    have e1 := (hB.out.block (w.heap.size + 1) (lt_of_heap G1.out)).trans G1.out
    have x0 : wr.cell? ⟨w.heap.size, 21, none⟩ = some (.slice a n cap) := cell_of_heap e0 21
    have x1 : wr.cell? ⟨w.heap.size + 1, 21, none⟩ = some (.slice c n cap') := cell_of_heap e1 21
    have z0 := lt_of_heap e0
    have z1 := lt_of_heap e1
    have HBw : Hid (Below w.heap.size w wr) := hB0.out.trans (hB.out.mono hB0.out.size)
    clear e0 e1
    by_cases hlt : k < n
    · obtain ⟨t, ht⟩ : ∃ t, l[k]? = some t := ⟨_, List.getElem?_eq_getElem (by rw [HL.out]; exact hlt)⟩
      obtain ⟨u, hu⟩ : ∃ u, r[k]? = some u := ⟨_, List.getElem?_eq_getElem (by rw [HR.out]; exact hlt)⟩
      obtain ⟨b, off, rfl, hb, hall⟩ := T.at_mk.1 (HA.out.below HBw.out) (by rw [HL.out]; omega)
      obtain ⟨b', off', rfl, hb', hall'⟩ := T.at_mk.1 (HC.out.below HBw.out) (by rw [HR.out]; omega)
      obtain ⟨ta, tc, hc, hat⟩ := hall k t ht
      obtain ⟨ua, uc, hc', hat'⟩ := hall' k u hu
      have q1 := load_nd hb hc
      have q2 := load_nd hb' hc'
      have HAT := Lib.hid hat
      have HAT' := Lib.hid hat'
      have IHt := Lib.hid (IH.out t (List.mem_of_getElem? ht) u)
      have NX : Hid (∀ R : Bool, T.same t u = R → ((l.take (k + 1)).zip (r.take (k + 1))).all (fun x => T.same x.1 x.2) = R) := fun R hR => by
        rw [List.take_add_one, List.take_add_one, ht, hu]
        simp only [Option.toList_some]
        rw [List.zip_append (by simp [HL.out, HR.out]), List.all_append, hS.out]
        simp [hR]
      have NY : Hid (T.same t u = false → (l.zip r).all (fun x => T.same x.1 x.2) = false) := fun hR => by
        rw [List.all_eq_false]
        refine ⟨(t, u), ?_, by simp [hR]⟩
        have : (l.zip r)[k]? = some (t, u) := by rw [List.getElem?_zip_eq_some]; exact ⟨ht, hu⟩
        exact List.mem_of_getElem? this
      generalize T.same t u = R at IHt NX NY
      have j1 : (0 : Int) ≤ (k : Int) := by omega
      have j2 : (k : Int) < (n : Int) := by omega
      clear hall hall' hc hc' hat hat' ht hu hS
      go_wp2_with fail
      refine wp_region_multiR [([0, 1, 2, 3, 4, 5, 6, 7, 8, 9], [10], [10, 11]), ([11], [], [])] (by kernel_rfl) (by kernel_rfl) ?_
      refine multi_phase (Below wr.heap.size wr) (Below.refl _ _).drew ?_
      iterate 4 (first | (apply first_step; (rw [List.getElem?_toArray]; (repeat rw [List.getElem?_cons_succ]); rw [List.getElem?_cons_zero]); rfl; (intro W hB; have hc := bcellB hB; go_simp; (first | done | rfl)); go_frame) | (apply first_skip; (rw [List.getElem?_toArray]; (repeat rw [List.getElem?_cons_succ]); rw [List.getElem?_cons_zero]); rfl; go_frame))
      apply first_load; (rw [List.getElem?_toArray]; (repeat rw [List.getElem?_cons_succ]); rw [List.getElem?_cons_zero]); rfl; rfl; rfl; exact q1; go_frame
      iterate 4 (first | (apply first_step; (rw [List.getElem?_toArray]; (repeat rw [List.getElem?_cons_succ]); rw [List.getElem?_cons_zero]); rfl; (intro W hB; have hc := bcellB hB; go_simp; (first | done | rfl)); go_frame) | (apply first_skip; (rw [List.getElem?_toArray]; (repeat rw [List.getElem?_cons_succ]); rw [List.getElem?_cons_zero]); rfl; go_frame))
      apply first_load; (rw [List.getElem?_toArray]; (repeat rw [List.getElem?_cons_succ]); rw [List.getElem?_cons_zero]); rfl; rfl; rfl; exact q2; go_frame
      refine first_done ?_
      apply forced_step; (rw [List.getElem?_toArray]; (repeat rw [List.getElem?_cons_succ]); rw [List.getElem?_cons_zero]); rfl; intro K hK; go_simp
      refine (IHt.out _ _ _ ⟨ta, tc, rfl, HAT.out.below (Below.refl _ _).drew⟩ ⟨ua, uc, rfl, HAT'.out.below (Below.refl _ _).drew⟩).mono ?_
      rintro e w2 ⟨rfl, f2⟩
      have HB2 : Hid (Below W0.heap.size W0 w2) := hB.out.trans (((Below.refl _ wr).drew.trans f2).mono hB.out.size)
      refine hK _ _ (fun h => absurd (by decide) h) ?_
      clear hK K f2 q1 q2
      refine forced_done ?_
      refine multi_phase (fun _ => True) trivial ?_
      iterate 1 (apply first_step; (rw [List.getElem?_toArray]; (repeat rw [List.getElem?_cons_succ]); rw [List.getElem?_cons_zero]); rfl; (intro W hB; go_simp; (first | done | rfl)); go_frame)
      refine first_done ?_
      refine forced_done ?_
      refine multi_done ?_
      cases R with
      | true =>
        have HN := Lib.hid (NX.out true rfl)
        clear NX NY
        go_wp2_with fail
        go_roundw
        case rel => exact ⟨k + 1, by go_num, by omega, HN, HB2⟩
        case measure => simp [intOf]; omega
      | false =>
        have NZ := Lib.hid (NY.out rfl)
        clear NX NY
        go_wp2_with fail
        go_ret
        exact ⟨by rw [NZ.out]; rfl, hB0.out.trans (HB2.out.mono hB0.out.size)⟩
    · have HN : Hid ((l.zip r).all (fun x => T.same x.1 x.2) = true) := by
        have := hS.out
        rwa [List.take_of_length_le (by rw [HL.out]; omega), List.take_of_length_le (by rw [HR.out]; omega)] at this
      clear hS
      go_wp2_with fail
      go_ret
      exact ⟨by rw [HN.out]; rfl, HBw.out⟩
/-- Same: just if they are one tree. -/
theorem same_any (t : T) (hz : t.size ≤ 4194304) : ∀ (u : T) (x y : Value) (w : World), IsT w x t → IsT w y u → Calls Tryz.prog 16 #[x, y] w fun e w' => e = .returned (.bool (T.same t u)) ∧ Below w.heap.size w w' := by
  induction t using T.ind with
  | h o l ih =>
    rintro ⟨p, r⟩ x y w ⟨a, cap, rfl, hA⟩ ⟨c, cap', rfl, hC⟩
    rw [T.same_mk]
    change Calls Tryz.prog 16 #[nagg o (.slice a l.length cap), nagg p (.slice c r.length cap')] w _
    have hlen := T.len_le o l
    by_cases hk : o.k = p.k
    case neg => rw [decide_eq_false (fun e => hk (by rw [e])), Bool.false_and, Bool.false_and]; exact same_1 o p a cap _ _ c cap' w (by simpa using hk)
    have k1 : (o.k != p.k) = false := by simpa using hk
    by_cases hv : o.v = p.v
    case neg => rw [decide_eq_false (fun e => hv (by rw [e])), Bool.false_and, Bool.false_and]; exact same_2 o p a cap _ _ c cap' w k1 hv
    by_cases hn : o.nm = p.nm
    case neg => rw [decide_eq_false (fun e => hn (by rw [e])), Bool.false_and, Bool.false_and]; exact same_3 o p a cap _ _ c cap' w k1 hv hn
    by_cases ha : o.a = p.a ∧ o.b = p.b
    case neg => rw [decide_eq_false (fun e => ha (by rw [e]; exact ⟨rfl, rfl⟩)), Bool.false_and, Bool.false_and]; exact same_4 o p a cap _ _ c cap' w k1 hv hn ha
    by_cases hr : o.rows = p.rows
    case neg => rw [decide_eq_false (fun e => hr (by rw [e])), Bool.false_and, Bool.false_and]; exact same_5 o p a cap _ _ c cap' w k1 hv hn ha (by simpa using hr)
    by_cases hl : l.length = r.length
    case neg => rw [decide_eq_false hl, Bool.and_false, Bool.false_and]; exact same_6 o p a cap _ _ c cap' w k1 hv hn ha (by simpa using hr) (by simp; omega)
    have eo : o = p := by
      obtain ⟨o1, o2, o3, o4, o5, o6⟩ := o
      obtain ⟨p1, p2, p3, p4, p5, p6⟩ := p
      simp only at hk hv hn ha hr
      rw [hk, hv, hn, ha.1, ha.2, hr]
    subst eo
    rw [decide_eq_true rfl, decide_eq_true hl, Bool.true_and, Bool.true_and]
    rw [← hl]
    exact same_7 o l r (fun t ht => ih t ht (by have := T.size_le (o := o) ht; omega)) l.length rfl hl.symm (by omega) a cap c cap' w hA hC
end Go.Proofs.YtlcglkanlhmmdaaGreat
/- Slices that the call has made: append, told with where the new slice lies. -/
namespace Go.Proofs.YtlcglkanlhmmdaaGreat
open Go.RowKit
theorem wp_append_at {P : Program} {w : World} {o : Oper} {a : Act} {K : Act → World → Prop} {Q : Exit → Act → World → Prop} (s x : Operand) (t : TypeId)
    (ho : o.op = .call { callee := .builtin .append, args := #[s, x], argTypes := #[t, t] })
    (base : Nat) (e : TypeId) (i : TypeInfo) (z : Value) (size bytes : Nat) (ht : P.underlying t = some (.slice e)) (hi : P.info? e = some i) (hz : i.zero = some z)
    (hsize : i.size = size) (hby : i.bytes = bytes) (hzs : z.cells.size = size) (hsz : 0 < size)
    (v : Value) (n : Nat) (xs : List Value) (hs : a.eval s = v) (hown : w.ownsRow base e size v n xs)
    (ad : Addr) (m c : Nat) (news : List Value) (hx : a.eval x = .slice (some ad) m c) (hl : news.length = m * size) (hnews : ∀ j u, news[j]? = some u → w.cell? (ad.add j) = some u) (h1 : ∀ u ∈ news, u.oneCell' = true)
    (h63 : n + m ≤ maxLen) (hbytes : (n + m) * bytes ≤ 140737488355328) (hbase : base ≤ w.heap.size)
    (h : ∀ v' w', w'.ownsRow base e size v' (n + m) (xs ++ news) → w.grownBy w' v.ownBlock → (v'.ownBlock = v.ownBlock ∨ v'.ownBlock = some w.heap.size) → K (a.put o.dst v') w') : o.wp P a w K Q := by
  obtain ⟨v', w', hr, h2, h3, h4, h5⟩ := run_append_own_at (P := P) w base t o.type e i z size bytes ht hi hz hsize hby hzs hsz v n xs hown ad m c news hl hnews h1 h63 hbytes hbase
  unfold Oper.wp execOp
  simp only [ho, resolve, invoke, builtin, Sem.run_bind, Sem.run_pure, Result.andThen_ok, List.map_toArray, List.map_cons, List.map_nil, hs, hx, hr]
  exact h v' w' h2 h3 h5
theorem cells_new (w : World) (arr : Array Value) (t : TypeId) (j : Nat) (u : Value) (h : arr.toList[j]? = some u) : (w.alloc (.cells arr t)).cell? ((⟨w.heap.size, 0, none⟩ : Addr).add j) = some u := by
  have h' : arr[j]? = some u := by simpa using h
  have e : (⟨w.heap.size, 0, none⟩ : Addr).add j = ⟨w.heap.size, j, none⟩ := by
    by_cases hj : j = 0
    · subst hj; simp [Addr.add]
    · simp [Addr.add, hj]
  rw [e, cell_of_heap (heap_alloc_new w _)]
  exact h'
end Go.Proofs.YtlcglkanlhmmdaaGreat
