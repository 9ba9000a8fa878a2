/- SpillTurned where a number is out of bounds. -/
import Derived.Test.YtihfmcadcojjnaaS23Turn1
namespace Go.Proofs.Ytihfmcadcojjnaa
open Go.RowKit
set_option maxHeartbeats 2000000 in
set_option maxRecDepth 100000 in
theorem turned_out0 (af cf : Bool) (ar ac ars acs cr cc crs ccs : Int) (fa : Option Addr) (fcap : Nat) (l : List P2) (w : World) (hl : l.length ≤ 60)  (n0 : ar < 0) :
    Calls Try.prog 3 #[.agg #[.bool af, .int .i64 ar, .int .i64 ac, .int .i64 ars, .int .i64 acs], .agg #[.bool cf, .int .i64 cr, .int .i64 cc, .int .i64 crs, .int .i64 ccs], .slice fa l.length fcap] w fun e w' => e = .returned (.bool true) ∧ Below w.heap.size w w' := by
  go_enter Try.func3, Try.ntmps3
  go_wp2_with fail
  refine (awake_any _).mono ?_
  rintro e w1 ⟨rfl, hb⟩
  have hs1 : w.heap.size + 2 ≤ w1.heap.size := by have := hb.size; simpa using this
  have g0 : w1.heap[w.heap.size]? = some (.cells #[.bool af, .int .i64 ar, .int .i64 ac, .int .i64 ars, .int .i64 acs] 23) := (hb.block _ (by simp; omega)).trans (by (repeat (first | (with_reducible refine heap_alloc_at ?_ _; (first | rfl | (simp; done) | omega | (simp; omega)); done) | with_reducible refine heap_alloc_old ?_ _ | with_reducible refine heap_drew_old ?_ | with_reducible refine heap_drewN_old ?_)))
  have g1 : w1.heap[w.heap.size + 1]? = some (.cells #[.bool cf, .int .i64 cr, .int .i64 cc, .int .i64 crs, .int .i64 ccs] 23) := (hb.block _ (by simp)).trans (by (repeat (first | (with_reducible refine heap_alloc_at ?_ _; (first | rfl | (simp; done) | omega | (simp; omega)); done) | with_reducible refine heap_alloc_old ?_ _ | with_reducible refine heap_drew_old ?_ | with_reducible refine heap_drewN_old ?_)))
  have FB : Hid (Below w.heap.size w w1) := by
    refine Below.trans ?_ (hb.mono (by simp; omega))
    (repeat (first | with_reducible exact Below.refl _ _ | with_reducible exact hBW | with_reducible refine Below.setCell ?_ ?_ _ | with_reducible refine Below.alloc ?_ ?_ _ | with_reducible refine belowN ?_ _ | with_reducible refine Below.drew ?_)); all_goals (first | omega | (dsimp only; omega) | ((repeat (first | with_reducible refine le_alloc ?_ | with_reducible refine le_setCell ?_ | with_reducible refine le_drew ?_ | with_reducible refine le_drewN ?_)); omega))
  clear hb
  have x1 := cell_of_heap g0 1
  have x2 := cell_of_heap g0 2
  have x3 := cell_of_heap g0 3
  have x4 := cell_of_heap g0 4
  have y1 := cell_of_heap g1 1
  have y2 := cell_of_heap g1 2
  have y3 := cell_of_heap g1 3
  have y4 := cell_of_heap g1 4
  clear g0 g1
  go_wp2_with fail
  go_ret
  exact ⟨rfl, FB.out⟩
set_option maxHeartbeats 2000000 in
set_option maxRecDepth 100000 in
theorem turned_out1 (af cf : Bool) (ar ac ars acs cr cc crs ccs : Int) (fa : Option Addr) (fcap : Nat) (l : List P2) (w : World) (hl : l.length ≤ 60) (n0 : decide (ar < 0) = false) (n1 : ac < 0) :
    Calls Try.prog 3 #[.agg #[.bool af, .int .i64 ar, .int .i64 ac, .int .i64 ars, .int .i64 acs], .agg #[.bool cf, .int .i64 cr, .int .i64 cc, .int .i64 crs, .int .i64 ccs], .slice fa l.length fcap] w fun e w' => e = .returned (.bool true) ∧ Below w.heap.size w w' := by
  go_enter Try.func3, Try.ntmps3
  go_wp2_with fail
  refine (awake_any _).mono ?_
  rintro e w1 ⟨rfl, hb⟩
  have hs1 : w.heap.size + 2 ≤ w1.heap.size := by have := hb.size; simpa using this
  have g0 : w1.heap[w.heap.size]? = some (.cells #[.bool af, .int .i64 ar, .int .i64 ac, .int .i64 ars, .int .i64 acs] 23) := (hb.block _ (by simp; omega)).trans (by (repeat (first | (with_reducible refine heap_alloc_at ?_ _; (first | rfl | (simp; done) | omega | (simp; omega)); done) | with_reducible refine heap_alloc_old ?_ _ | with_reducible refine heap_drew_old ?_ | with_reducible refine heap_drewN_old ?_)))
  have g1 : w1.heap[w.heap.size + 1]? = some (.cells #[.bool cf, .int .i64 cr, .int .i64 cc, .int .i64 crs, .int .i64 ccs] 23) := (hb.block _ (by simp)).trans (by (repeat (first | (with_reducible refine heap_alloc_at ?_ _; (first | rfl | (simp; done) | omega | (simp; omega)); done) | with_reducible refine heap_alloc_old ?_ _ | with_reducible refine heap_drew_old ?_ | with_reducible refine heap_drewN_old ?_)))
  have FB : Hid (Below w.heap.size w w1) := by
    refine Below.trans ?_ (hb.mono (by simp; omega))
    (repeat (first | with_reducible exact Below.refl _ _ | with_reducible exact hBW | with_reducible refine Below.setCell ?_ ?_ _ | with_reducible refine Below.alloc ?_ ?_ _ | with_reducible refine belowN ?_ _ | with_reducible refine Below.drew ?_)); all_goals (first | omega | (dsimp only; omega) | ((repeat (first | with_reducible refine le_alloc ?_ | with_reducible refine le_setCell ?_ | with_reducible refine le_drew ?_ | with_reducible refine le_drewN ?_)); omega))
  clear hb
  have x1 := cell_of_heap g0 1
  have x2 := cell_of_heap g0 2
  have x3 := cell_of_heap g0 3
  have x4 := cell_of_heap g0 4
  have y1 := cell_of_heap g1 1
  have y2 := cell_of_heap g1 2
  have y3 := cell_of_heap g1 3
  have y4 := cell_of_heap g1 4
  clear g0 g1
  go_wp2_with fail
  go_ret
  exact ⟨rfl, FB.out⟩
set_option maxHeartbeats 2000000 in
set_option maxRecDepth 100000 in
theorem turned_out2 (af cf : Bool) (ar ac ars acs cr cc crs ccs : Int) (fa : Option Addr) (fcap : Nat) (l : List P2) (w : World) (hl : l.length ≤ 60) (n0 : decide (ar < 0) = false) (n1 : decide (ac < 0) = false) (n2 : cr < 0) :
    Calls Try.prog 3 #[.agg #[.bool af, .int .i64 ar, .int .i64 ac, .int .i64 ars, .int .i64 acs], .agg #[.bool cf, .int .i64 cr, .int .i64 cc, .int .i64 crs, .int .i64 ccs], .slice fa l.length fcap] w fun e w' => e = .returned (.bool true) ∧ Below w.heap.size w w' := by
  go_enter Try.func3, Try.ntmps3
  go_wp2_with fail
  refine (awake_any _).mono ?_
  rintro e w1 ⟨rfl, hb⟩
  have hs1 : w.heap.size + 2 ≤ w1.heap.size := by have := hb.size; simpa using this
  have g0 : w1.heap[w.heap.size]? = some (.cells #[.bool af, .int .i64 ar, .int .i64 ac, .int .i64 ars, .int .i64 acs] 23) := (hb.block _ (by simp; omega)).trans (by (repeat (first | (with_reducible refine heap_alloc_at ?_ _; (first | rfl | (simp; done) | omega | (simp; omega)); done) | with_reducible refine heap_alloc_old ?_ _ | with_reducible refine heap_drew_old ?_ | with_reducible refine heap_drewN_old ?_)))
  have g1 : w1.heap[w.heap.size + 1]? = some (.cells #[.bool cf, .int .i64 cr, .int .i64 cc, .int .i64 crs, .int .i64 ccs] 23) := (hb.block _ (by simp)).trans (by (repeat (first | (with_reducible refine heap_alloc_at ?_ _; (first | rfl | (simp; done) | omega | (simp; omega)); done) | with_reducible refine heap_alloc_old ?_ _ | with_reducible refine heap_drew_old ?_ | with_reducible refine heap_drewN_old ?_)))
  have FB : Hid (Below w.heap.size w w1) := by
    refine Below.trans ?_ (hb.mono (by simp; omega))
    (repeat (first | with_reducible exact Below.refl _ _ | with_reducible exact hBW | with_reducible refine Below.setCell ?_ ?_ _ | with_reducible refine Below.alloc ?_ ?_ _ | with_reducible refine belowN ?_ _ | with_reducible refine Below.drew ?_)); all_goals (first | omega | (dsimp only; omega) | ((repeat (first | with_reducible refine le_alloc ?_ | with_reducible refine le_setCell ?_ | with_reducible refine le_drew ?_ | with_reducible refine le_drewN ?_)); omega))
  clear hb
  have x1 := cell_of_heap g0 1
  have x2 := cell_of_heap g0 2
  have x3 := cell_of_heap g0 3
  have x4 := cell_of_heap g0 4
  have y1 := cell_of_heap g1 1
  have y2 := cell_of_heap g1 2
  have y3 := cell_of_heap g1 3
  have y4 := cell_of_heap g1 4
  clear g0 g1
  go_wp2_with fail
  go_ret
  exact ⟨rfl, FB.out⟩
set_option maxHeartbeats 2000000 in
set_option maxRecDepth 100000 in
theorem turned_out3 (af cf : Bool) (ar ac ars acs cr cc crs ccs : Int) (fa : Option Addr) (fcap : Nat) (l : List P2) (w : World) (hl : l.length ≤ 60) (n0 : decide (ar < 0) = false) (n1 : decide (ac < 0) = false) (n2 : decide (cr < 0) = false) (n3 : cc < 0) :
    Calls Try.prog 3 #[.agg #[.bool af, .int .i64 ar, .int .i64 ac, .int .i64 ars, .int .i64 acs], .agg #[.bool cf, .int .i64 cr, .int .i64 cc, .int .i64 crs, .int .i64 ccs], .slice fa l.length fcap] w fun e w' => e = .returned (.bool true) ∧ Below w.heap.size w w' := by
  go_enter Try.func3, Try.ntmps3
  go_wp2_with fail
  refine (awake_any _).mono ?_
  rintro e w1 ⟨rfl, hb⟩
  have hs1 : w.heap.size + 2 ≤ w1.heap.size := by have := hb.size; simpa using this
  have g0 : w1.heap[w.heap.size]? = some (.cells #[.bool af, .int .i64 ar, .int .i64 ac, .int .i64 ars, .int .i64 acs] 23) := (hb.block _ (by simp; omega)).trans (by (repeat (first | (with_reducible refine heap_alloc_at ?_ _; (first | rfl | (simp; done) | omega | (simp; omega)); done) | with_reducible refine heap_alloc_old ?_ _ | with_reducible refine heap_drew_old ?_ | with_reducible refine heap_drewN_old ?_)))
  have g1 : w1.heap[w.heap.size + 1]? = some (.cells #[.bool cf, .int .i64 cr, .int .i64 cc, .int .i64 crs, .int .i64 ccs] 23) := (hb.block _ (by simp)).trans (by (repeat (first | (with_reducible refine heap_alloc_at ?_ _; (first | rfl | (simp; done) | omega | (simp; omega)); done) | with_reducible refine heap_alloc_old ?_ _ | with_reducible refine heap_drew_old ?_ | with_reducible refine heap_drewN_old ?_)))
  have FB : Hid (Below w.heap.size w w1) := by
    refine Below.trans ?_ (hb.mono (by simp; omega))
    (repeat (first | with_reducible exact Below.refl _ _ | with_reducible exact hBW | with_reducible refine Below.setCell ?_ ?_ _ | with_reducible refine Below.alloc ?_ ?_ _ | with_reducible refine belowN ?_ _ | with_reducible refine Below.drew ?_)); all_goals (first | omega | (dsimp only; omega) | ((repeat (first | with_reducible refine le_alloc ?_ | with_reducible refine le_setCell ?_ | with_reducible refine le_drew ?_ | with_reducible refine le_drewN ?_)); omega))
  clear hb
  have x1 := cell_of_heap g0 1
  have x2 := cell_of_heap g0 2
  have x3 := cell_of_heap g0 3
  have x4 := cell_of_heap g0 4
  have y1 := cell_of_heap g1 1
  have y2 := cell_of_heap g1 2
  have y3 := cell_of_heap g1 3
  have y4 := cell_of_heap g1 4
  clear g0 g1
  go_wp2_with fail
  go_ret
  exact ⟨rfl, FB.out⟩
end Go.Proofs.Ytihfmcadcojjnaa
