/- SpillTurned, walked: for every two acts and every slice of pairs of bytes. -/
import Derived.Test.YtihfmcadcojjnaaS23TurnP
namespace Go.Proofs.Ytihfmcadcojjnaa
open Go.RowKit
/-- A slice of pairs of bytes in memory. -/
def PairsAt (w : World) (a : Option Addr) (l : List P2) : Prop :=
  (∀ p ∈ l, 0 ≤ p.1 ∧ p.1 ≤ 255 ∧ 0 ≤ p.2 ∧ p.2 ≤ 255) ∧ (0 < l.length → ∃ b off, a = some ⟨b, off, none⟩ ∧ b < w.heap.size ∧ ∀ i p, l[i]? = some p → w.cell? ⟨b, off + i * 2, none⟩ = some (.int .u8 p.1) ∧ w.cell? ⟨b, off + i * 2 + 1, none⟩ = some (.int .u8 p.2))
theorem IsBd.disjoint {w w' : World} {p q : Nat} {S T : Nat → Prop} {g h : G} (_ : IsBd w p S g) (ht : IsBd w q T h) (hd : ∀ k, S k → T k → False) : ∀ k, T k → Grow S w w' k → False := by
  obtain ⟨_, _, _, _, H⟩ := ht
  intro k hk hg
  rcases hg with h1 | h1
  · exact hd k h1 hk
  · have := H.lt k hk; omega
set_option maxHeartbeats 2000000 in
set_option maxRecDepth 100000 in
theorem turned_long (af cf : Bool) (ar ac ars acs cr cc crs ccs : Int) (fa : Option Addr) (fcap : Nat) (l : List P2) (w : World) (hl : 60 < l.length) :
    Calls Try.prog 3 #[.agg #[.bool af, .int .i64 ar, .int .i64 ac, .int .i64 ars, .int .i64 acs], .agg #[.bool cf, .int .i64 cr, .int .i64 cc, .int .i64 crs, .int .i64 ccs], .slice fa l.length fcap] w fun e w' => e = .returned (.bool true) ∧ Below w.heap.size w w' := by
  go_enter Try.func3, Try.ntmps3
  go_wp2_with fail
  refine (awake_any _).mono ?_
  rintro e w1 ⟨rfl, hb⟩
  have hs1 : w.heap.size + 2 ≤ w1.heap.size := by have := hb.size; simpa using this
  have g0 : w1.heap[w.heap.size]? = some (.cells #[.bool af, .int .i64 ar, .int .i64 ac, .int .i64 ars, .int .i64 acs] 23) := (hb.block _ (by simp; omega)).trans (by (repeat (first | (with_reducible refine heap_alloc_at ?_ _; (first | rfl | (simp; done) | omega | (simp; omega)); done) | with_reducible refine heap_alloc_old ?_ _ | with_reducible refine heap_drew_old ?_ | with_reducible refine heap_drewN_old ?_)))
  have g1 : w1.heap[w.heap.size + 1]? = some (.cells #[.bool cf, .int .i64 cr, .int .i64 cc, .int .i64 crs, .int .i64 ccs] 23) := (hb.block _ (by simp)).trans (by (repeat (first | (with_reducible refine heap_alloc_at ?_ _; (first | rfl | (simp; done) | omega | (simp; omega)); done) | with_reducible refine heap_alloc_old ?_ _ | with_reducible refine heap_drew_old ?_ | with_reducible refine heap_drewN_old ?_)))
  have FB : Hid (Below w.heap.size w w1) := by
    refine Below.trans ?_ (hb.mono (by simp; omega))
    (repeat (first | with_reducible exact Below.refl _ _ | with_reducible exact hBW | with_reducible refine Below.setCell ?_ ?_ _ | with_reducible refine Below.alloc ?_ ?_ _ | with_reducible refine belowN ?_ _ | with_reducible refine Below.drew ?_)); all_goals (first | omega | (dsimp only; omega) | ((repeat (first | with_reducible refine le_alloc ?_ | with_reducible refine le_setCell ?_ | with_reducible refine le_drew ?_ | with_reducible refine le_drewN ?_)); omega))
  clear hb
  clear g0 g1
  go_wp2_with fail
  refine (awake_any _).mono ?_
  rintro e w2 ⟨rfl, hb⟩
  have FB2 := Lib.hid (FB.out.trans (hb.mono FB.out.size))
  clear hb
  go_wp2_with fail
  go_ret
  exact ⟨rfl, FB2.out⟩
end Go.Proofs.Ytihfmcadcojjnaa
