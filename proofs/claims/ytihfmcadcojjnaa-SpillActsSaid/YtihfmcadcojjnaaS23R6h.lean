/- The document's Decide, where a rect is decided: what is under way. (Printed by tools/gen23.py.) -/
import Derived.Test.YtihfmcadcojjnaaS23R5
import Derived.Laws.AppendOwnNone
namespace Go.Proofs.Ytihfmcadcojjnaa
open Go.RowKit
theorem DecSt.stand {w wr : World} {q : Nat} {rows cols : Int} {fa : Option Addr} {fn fc : Nat} {la : Option Addr} {ln lc : Nat} {v : Ver} (h : DecSt w wr q rows cols fa fn fc la ln lc v) (b : Bool) :
    DecSt w (wr.setCell ⟨q, 4, none⟩ (.bool b)) q rows cols fa fn fc la ln lc { v with st := b } := by
  have hq := h.q2
  refine ⟨?_, ?_, ?_, ?_, h.q2⟩
  · exact Below.setCell h.b (by show w.heap.size ≤ q; omega) _
  · rw [Below.heap_setCell _ _ _ _ (by show w.heap.size ≠ q; omega)]
    exact h.x
  · rw [Below.heap_setCell _ _ _ _ (by show w.heap.size + 1 ≠ q; omega)]
    exact h.a
  · exact (heap_setCell_at h.r 4 _).trans rfl
/-- Behind both appends. -/
theorem DecSt.fin {w wr y y2 : World} {q : Nat} {rows cols : Int} {fa : Option Addr} {fn fc : Nat} {la : Option Addr} {ln lc : Nat} {v u : Ver} {L : List Ver} {s s' : Value} (h : DecSt w wr q rows cols fa fn fc la ln lc u)
    (hy : y.ownsRow (w.heap.size + 2) 60 8 s L.length (L.flatMap rcl)) (hby : Below (w.heap.size + 2) wr y) (hown : y2.ownsRow (w.heap.size + 2) 60 8 s' (L.length + 1) (L.flatMap rcl ++ rcl v)) {o : Obj} (hgrow : (y.alloc o).grownBy y2 s.ownBlock) :
    ∃ la' lc', s' = .slice la' (L.length + 1) lc' ∧ Below w.heap.size w y2 ∧ y2.heap[w.heap.size]? = some (.cells #[.int .i64 rows, .int .i64 cols, .slice fa fn fc, .slice la ln lc] 53) ∧ y2.heap[w.heap.size + 1]? = some (.cells #[.int .i64 0, .int .i64 0, .slice none 0 0, .slice none 0 0] 53) ∧ RctAt y2 la' (L ++ [v]) ∧ ∀ ad, la' = some ad → w.heap.size + 2 ≤ ad.block := by
  have hown' : y2.ownsRow (w.heap.size + 2) 60 8 s' (L ++ [v]).length ((L ++ [v]).flatMap rcl) := by simpa using hown
  obtain ⟨la', lc', e, hP, hB⟩ := own_rct hown'
  have hlt := hy.lt
  have h1 := lt_of_heap h.a
  have hby2 : Below (w.heap.size + 2) wr y2 := (hby.alloc (Nat.le_trans (by omega) hby.size) _).grown hgrow (by have := hby.size; simp; omega) (fun k hk => (hlt k hk).1)
  exact ⟨la', lc', by simpa using e, h.b.trans (hby2.mono (by omega)), (hby2.block _ (by omega)).trans h.x, (hby2.block _ (by omega)).trans h.a, hP, hB⟩
end Go.Proofs.Ytihfmcadcojjnaa
