/- The document's Add. -/
import Derived.Test.YtebifjjghogboaaD34Ids
namespace Go.Proofs.Ytebifjjghogboaa
open Go.RowKit Go.Shelf Go.Maps
theorem info24 : (Try.prog.info? 24).map (fun i => (i.zero, i.size, i.bytes)) = some (some (.agg #[.int .i64 0, .int .i64 0]), 2, 16) := by kernel_rfl
theorem info_parts {P : Program} {e : TypeId} {z : Value} {s b : Nat} (h : (P.info? e).map (fun i => (i.zero, i.size, i.bytes)) = some (some z, s, b)) :
    ∃ i, P.info? e = some i ∧ i.zero = some z ∧ i.size = s ∧ i.bytes = b := by
  obtain ⟨i, hi, he⟩ := Option.map_eq_some_iff.1 h
  simp only [Prod.mk.injEq] at he
  exact ⟨i, hi, he.1, he.2.1, he.2.2⟩
def c2 (p : Id2) : List Value := [.int .i64 p.1, .int .i64 p.2]
theorem c2_get (l : List Id2) (n i : Nat) (v : Id2) (h : l[n]? = some v) (hi : i < 2) : (l.flatMap c2)[n * 2 + i]? = (c2 v)[i]? := by
  induction l generalizing n with
  | nil => simp at h
  | cons a r ih =>
    rw [List.flatMap_cons]
    have ha : (c2 a).length = 2 := rfl
    cases n with
    | zero =>
      simp at h
      subst h
      rw [List.getElem?_append_left (by omega)]
      simp
    | succ m =>
      simp only [List.getElem?_cons_succ] at h
      rw [List.getElem?_append_right (by omega), ← ih m h, ha]
      congr 1
      omega
theorem own_ids {w : World} {B : Nat} {v : Value} {l : List Id2} (h : w.ownsRow B 24 2 v l.length (l.flatMap c2)) : ∃ a cap, v = .slice a l.length cap ∧ IdsAt w a l := by
  rcases h.2 with ⟨e, h0⟩ | ⟨gb, cap, cur, hs, hB, hh, hn, _, hsz, ht⟩
  · exact ⟨none, 0, by rw [e, h0], fun h => by omega⟩
  · refine ⟨_, cap, hs, fun _ => ⟨gb, 0, rfl, lt_of_heap hh, fun i u hu => ?_⟩⟩
    have hlt : i < l.length := (List.getElem?_eq_some_iff.1 hu).1
    have key : ∀ j, j < 2 → w.cell? ⟨gb, 0 + i * 2 + j, none⟩ = (c2 u)[j]? := fun j hj => by
      rw [cell_of_heap hh, ← c2_get l i j u hu hj, ← ht, List.getElem?_take_of_lt (by omega)]
      simp
    exact ⟨key 0 (by omega), key 1 (by omega)⟩
/-- A row under way: beside the box of an id at B. -/
def RowSt (w wr : World) (i : Id2) (v : Value) (out : List Id2) : Prop :=
  Below w.heap.size w wr ∧ wr.heap[w.heap.size]? = some (.cells #[.int .i64 i.1, .int .i64 i.2] 24) ∧ wr.ownsRow (w.heap.size + 1) 24 2 v out.length (out.flatMap c2)
theorem own_of_block {w w' : World} {base : Nat} {e : TypeId} {size : Nat} {v : Value} {n : Nat} {xs : List Value} (h : w.ownsRow base e size v n xs) (hb : ∀ k, v.ownBlock = some k → k < w.heap.size → w'.heap[k]? = w.heap[k]?) : w'.ownsRow base e size v n xs := by
  obtain ⟨h1, h2⟩ := h
  refine ⟨h1, ?_⟩
  rcases h2 with h2 | ⟨g, cap, cur, hv, hg, hh, r⟩
  · exact Or.inl h2
  · exact Or.inr ⟨g, cap, cur, hv, hg, by rw [hb g (by rw [hv]; rfl) (lt_of_heap hh)]; exact hh, r⟩
theorem RowSt.below {w wr w' : World} {i : Id2} {v : Value} {out : List Id2} (h : RowSt w wr i v out) (hb : Below wr.heap.size wr w') : RowSt w w' i v out :=
  ⟨h.1.trans (hb.mono h.1.size), (hb.block _ (lt_of_heap h.2.1)).trans h.2.1, own_of_block h.2.2 (fun k _ hk => hb.block k hk)⟩
theorem RowSt.base {w wr : World} {i : Id2} {v : Value} {out : List Id2} (h : RowSt w wr i v out) : ∀ k, v.ownBlock = some k → w.heap.size + 1 ≤ k := fun k hk => by
  rcases h.2.2.2 with ⟨e, _⟩ | ⟨g, cap, cur, hv, hg, _⟩
  · rw [e] at hk; cases hk
  · rw [hv] at hk
    simp [Value.ownBlock] at hk
    omega
theorem RowSt.app {w wr w0 w' : World} {i : Id2} {v v' : Value} {out : List Id2} {x : Id2} (h : RowSt w wr i v out) (hb : Below wr.heap.size wr w0)
    (hown : w'.ownsRow (w.heap.size + 1) 24 2 v' (out.length + 1) (out.flatMap c2 ++ c2 x)) (hg : w0.grownBy w' v.ownBlock) : RowSt w w' i v' (out ++ [x]) := by
  have h0 := h.below hb
  have hB := h.base
  have hz := h0.1.size
  have hz2 := lt_of_heap h0.2.1
  refine ⟨h0.1.grown hg hz (fun k e => by have := hB k e; omega), (hg.block _ hz2 (fun e => by have := hB _ e.symm; omega)).trans h0.2.1, ?_⟩
  simpa using hown
theorem RowSt.slice {w wr : World} {i : Id2} {v : Value} {out : List Id2} (h : RowSt w wr i v out) : ∃ a cap, v = .slice a out.length cap ∧ IdsAt wr a out := own_ids h.2.2
theorem stepA_take {M : List Id2} {k : Nat} {x : Id2} (i : Id2) (h : M[k]? = some x) : (M.take (k + 1)).foldl (stepA i) ([], false) = stepA i ((M.take k).foldl (stepA i) ([], false)) x := by
  rw [List.take_add_one, h]
  simp
theorem stepA_len (i : Id2) : ∀ (M : List Id2) (s : List Id2 × Bool), (M.foldl (stepA i) s).1.length ≤ s.1.length + 2 * M.length
  | [], s => by simp
  | x :: r, s => by
    rw [List.foldl_cons]
    have h1 := stepA_len i r (stepA i s x)
    have h2 : (stepA i s x).1.length ≤ s.1.length + 2 := by
      unfold stepA
      split
      · omega
      · split <;> simp
    simp only [List.length_cons]
    omega
theorem ids_two {w wr : World} {i : Id2} {v : Value} {out : List Id2} (h : RowSt w wr i v out) (aa : Option Addr) {M : List Id2} (hM : IdsAt w aa M) : IdsAt wr aa M := hM.below h.1
end Go.Proofs.Ytebifjjghogboaa
