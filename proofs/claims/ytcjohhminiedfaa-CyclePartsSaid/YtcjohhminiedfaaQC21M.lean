/- Cycle: rows of numbers in memory, rows of rows, the blocks of the graph. -/
import Derived.Test.YtcjohhminiedfaaProg
import Derived.Test.YtcjohhminiedfaaQBase
namespace Go.Proofs.Ytcjohhminiedfaa
open Go.RowKit
/-- A number as a cell. -/
def iv (x : Nat) : Value := .int .i64 (x : Int)
theorem iv_one (l : List Nat) : ∀ u ∈ l.map iv, u.oneCell' = true := by simp [iv, Value.oneCell']
/-- A row of numbers of its own, in a block of at least B. -/
def IR (B : Nat) (w : World) (v : Value) (l : List Nat) : Prop := w.ownsRow B 3 1 v l.length (l.map iv)
theorem own_block {w w' : World} {base : Nat} {e : TypeId} {size : Nat} {v : Value} {n : Nat} {xs : List Value} (h : w.ownsRow base e size v n xs) (hb : ∀ k, v.ownBlock = some k → k < w.heap.size → w'.heap[k]? = w.heap[k]?) : w'.ownsRow base e size v n xs := by
  obtain ⟨h1, h2⟩ := h
  refine ⟨h1, ?_⟩
  rcases h2 with h2 | ⟨g, cap, cur, hv, hg, hh, r⟩
  · exact Or.inl h2
  · exact Or.inr ⟨g, cap, cur, hv, hg, by rw [hb g (by rw [hv]; rfl) (lt_of_heap hh)]; exact hh, r⟩
theorem own_base {w : World} {base base' : Nat} {e : TypeId} {size : Nat} {v : Value} {n : Nat} {xs : List Value} (h : w.ownsRow base e size v n xs) (hb : base' ≤ base) : w.ownsRow base' e size v n xs := by
  obtain ⟨h1, h2⟩ := h
  refine ⟨h1, ?_⟩
  rcases h2 with h2 | ⟨g, cap, cur, hv, hg, r⟩
  · exact Or.inl h2
  · exact Or.inr ⟨g, cap, cur, hv, Nat.le_trans hb hg, r⟩
theorem own_base_of {w : World} {base base' : Nat} {e : TypeId} {size : Nat} {v : Value} {n : Nat} {xs : List Value} (h : w.ownsRow base e size v n xs) (hb : ∀ k, v.ownBlock = some k → base' ≤ k) : w.ownsRow base' e size v n xs := by
  obtain ⟨h1, h2⟩ := h
  refine ⟨h1, ?_⟩
  rcases h2 with h2 | ⟨g, cap, cur, hv, hg, r⟩
  · exact Or.inl h2
  · exact Or.inr ⟨g, cap, cur, hv, hb g (by rw [hv]; rfl), r⟩
/-- How an own row looks. -/
theorem own_slice {w : World} {base : Nat} {e : TypeId} {size : Nat} {v : Value} {n : Nat} {xs : List Value} (h : w.ownsRow base e size v n xs) :
    ∃ a cap, v = .slice a n cap ∧ n ≤ cap ∧ (0 < n → ∃ g, a = some ⟨g, 0, none⟩ ∧ base ≤ g ∧ g < w.heap.size ∧ (∀ j, w.frozen? ⟨g, j, none⟩ = false) ∧ ∀ j u, xs[j]? = some u → w.cell? ⟨g, j, none⟩ = some u) := by
  rcases h.2 with ⟨rfl, rfl⟩ | ⟨g, cap, cur, rfl, hg, hh, hn, hc, hsz, ht⟩
  · exact ⟨none, 0, rfl, Nat.le_refl _, fun h => by omega⟩
  · refine ⟨_, cap, rfl, hn, fun _ => ⟨g, rfl, hg, lt_of_heap hh, fun j => frozen_of_heap hh j, fun j u hu => ?_⟩⟩
    have hj : j < n * size := by rw [← h.1]; exact (List.getElem?_eq_some_iff.1 hu).1
    rw [h.cellAt j hj, hu]
theorem IR.slice {B : Nat} {w : World} {v : Value} {l : List Nat} (h : IR B w v l) :
    ∃ a cap, v = .slice a l.length cap ∧ l.length ≤ cap ∧ (0 < l.length → ∃ g, a = some ⟨g, 0, none⟩ ∧ B ≤ g ∧ g < w.heap.size ∧ (∀ j, w.frozen? ⟨g, j, none⟩ = false) ∧ ∀ (j x : Nat), l[j]? = some x → w.cell? ⟨g, j, none⟩ = some (.int .i64 (x : Int))) := by
  obtain ⟨a, cap, e, h1, h2⟩ := own_slice h
  refine ⟨a, cap, e, h1, fun h0 => ?_⟩
  obtain ⟨g, e, hb, hg, hf, hc⟩ := h2 h0
  exact ⟨g, e, hb, hg, hf, fun j x hx => hc j (iv x) (by rw [List.getElem?_map, hx]; rfl)⟩
theorem IR.block {B : Nat} {w w' : World} {v : Value} {l : List Nat} (h : IR B w v l) (hb : ∀ k, v.ownBlock = some k → k < w.heap.size → w'.heap[k]? = w.heap[k]?) : IR B w' v l := own_block h hb
theorem IR.lt {B : Nat} {w : World} {v : Value} {l : List Nat} (h : IR B w v l) : ∀ k, v.ownBlock = some k → B ≤ k ∧ k < w.heap.size := World.ownsRow.lt h
theorem IR.below {B : Nat} {w w' : World} {v : Value} {l : List Nat} (h : IR B w v l) (hb : Below w.heap.size w w') : IR B w' v l := h.block fun k _ hk => hb.block k hk
theorem IR.base {B B' : Nat} {w : World} {v : Value} {l : List Nat} (h : IR B w v l) (hb : B' ≤ B) : IR B' w v l := own_base h hb
theorem IR.nil (B : Nat) (w : World) : IR B w (.slice none 0 0) [] := World.ownsRow_nil w B 3 1
/-- A row of rows of numbers: vs are the rows' values. -/
structure RR (B : Nat) (w : World) (v : Value) (vs : List Value) (L : List (List Nat)) : Prop where
  row : w.ownsRow B 31 1 v L.length vs
  each : ∀ (i : Nat) (l : List Nat), L[i]? = some l → ∃ u, vs[i]? = some u ∧ IR B w u l
theorem RR.len {B : Nat} {w : World} {v : Value} {vs : List Value} {L : List (List Nat)} (h : RR B w v vs L) : vs.length = L.length := by rw [h.row.1, Nat.mul_one]
theorem RR.block {B : Nat} {w w' : World} {v : Value} {vs : List Value} {L : List (List Nat)} (h : RR B w v vs L) (hb : ∀ k, v.ownBlock = some k → k < w.heap.size → w'.heap[k]? = w.heap[k]?)
    (hb' : ∀ (i : Nat) (u : Value) (k : Nat), vs[i]? = some u → u.ownBlock = some k → k < w.heap.size → w'.heap[k]? = w.heap[k]?) : RR B w' v vs L :=
  ⟨own_block h.row hb, fun i l hl => by
    obtain ⟨u, h1, h2⟩ := h.each i l hl
    exact ⟨u, h1, h2.block fun k hk hlt => hb' i u k h1 hk hlt⟩⟩
theorem RR.below {B : Nat} {w w' : World} {v : Value} {vs : List Value} {L : List (List Nat)} (h : RR B w v vs L) (hb : Below w.heap.size w w') : RR B w' v vs L := h.block (fun k _ hk => hb.block k hk) fun _ _ k _ _ hk => hb.block k hk
theorem RR.lt' {B : Nat} {w : World} {v : Value} {vs : List Value} {L : List (List Nat)} (h : RR B w v vs L) {i : Nat} {u : Value} (hu : vs[i]? = some u) : ∀ k, u.ownBlock = some k → B ≤ k ∧ k < w.heap.size := fun k hk => by
  have hi : i < L.length := by rw [← h.len]; exact (List.getElem?_eq_some_iff.1 hu).1
  obtain ⟨u', h1, h2⟩ := h.each i _ (List.getElem?_eq_getElem hi)
  rw [hu] at h1
  cases h1
  exact h2.lt k hk
/-- A row of rows as the walk reads it. -/
theorem RR.slice {B : Nat} {w : World} {v : Value} {vs : List Value} {L : List (List Nat)} (h : RR B w v vs L) : ∃ a cap, v = .slice a L.length cap ∧ L.length ≤ cap ∧
    ∀ (i : Nat) (l : List Nat), L[i]? = some l → ∃ g, a = some ⟨g, 0, none⟩ ∧ g < w.heap.size ∧ ∃ a' c', vs[i]? = some (.slice a' l.length c') ∧ w.cell? ⟨g, i, none⟩ = some (.slice a' l.length c') ∧ IR B w (.slice a' l.length c') l := by
  obtain ⟨a, cap, e, h1, h2⟩ := own_slice h.row
  refine ⟨a, cap, e, h1, fun i l hl => ?_⟩
  have hi : i < L.length := (List.getElem?_eq_some_iff.1 hl).1
  obtain ⟨g, e, _, hg, _, hc⟩ := h2 (by omega)
  obtain ⟨u, hu, hr⟩ := h.each i l hl
  obtain ⟨a', c', rfl, _⟩ := hr.slice
  exact ⟨g, e, hg, a', c', hu, hc i _ hu, hr⟩
/-- The blocks of a graph: its own, both tables, its map, all rows; pv points to it. -/
structure Gb where
  pv : Value
  p : Nat
  tv : Value
  ts : List Value
  fv : Value
  fs : List Value
  m : Option Nat
/-- Is k a block of the graph? -/
def Gb.has (G : Gb) (k : Nat) : Prop := k = G.p ∨ G.tv.ownBlock = some k ∨ G.fv.ownBlock = some k ∨ G.m = some k ∨ (∃ i : Nat, ∃ u : Value, G.ts[i]? = some u ∧ u.ownBlock = some k) ∨ ∃ i : Nat, ∃ u : Value, G.fs[i]? = some u ∧ u.ownBlock = some k
/-- The graph's tables in memory. -/
structure GrR (w : World) (G : Gb) (T F : List (List Nat)) : Prop where
  ptr : G.pv = .pointer (some ⟨G.p, 0, none⟩)
  blk : w.heap[G.p]? = some (.cells #[G.tv, G.fv, .map G.m] 50)
  to : RR 0 w G.tv G.ts T
  fr : RR 0 w G.fv G.fs F
theorem GrR.keep {w w' : World} {G : Gb} {T F : List (List Nat)} (h : GrR w G T F) (hk : ∀ k, G.has k → k < w.heap.size → w'.heap[k]? = w.heap[k]?) : GrR w' G T F :=
  ⟨h.ptr, (hk _ (.inl rfl) (lt_of_heap h.blk)).trans h.blk,
   h.to.block (fun k e => hk k (.inr (.inl e))) fun i u k e1 e2 => hk k (.inr (.inr (.inr (.inr (.inl ⟨i, u, e1, e2⟩))))),
   h.fr.block (fun k e => hk k (.inr (.inr (.inl e)))) fun i u k e1 e2 => hk k (.inr (.inr (.inr (.inr (.inr ⟨i, u, e1, e2⟩)))))⟩
theorem GrR.below {w w' : World} {G : Gb} {T F : List (List Nat)} (h : GrR w G T F) (hb : Below w.heap.size w w') : GrR w' G T F := h.keep fun k _ hk => hb.block k hk
/-- All blocks below K: whatever leaves these leaves the graph. -/
theorem GrR.belowK {w w' : World} {G : Gb} {T F : List (List Nat)} {K : Nat} (h : GrR w G T F) (hG : ∀ k, G.has k → k < w.heap.size → k < K) (hb : Below K w w') : GrR w' G T F := h.keep fun k h1 h2 => hb.block k (hG k h1 h2)
end Go.Proofs.Ytcjohhminiedfaa
