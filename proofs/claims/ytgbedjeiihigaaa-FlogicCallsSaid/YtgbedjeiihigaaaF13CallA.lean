/- flogic.Call: no such name; too few or too many arguments; an argument that may not be; NA. -/
import Derived.Test.YtgbedjeiihigaaaF13ShapeA
import Derived.Test.YtgbedjeiihigaaaF13Call
namespace Go.Proofs.Ytgbedjeiihigaaa
open Go.RowKit
def CallP (w : World) (A : Arr) (ok : Bool) (e : Ending) (w' : World) : Prop := ∃ x, e = .returned (.tuple #[x, .bool ok]) ∧ IsArr w.heap.size w' x A ∧ Below w.heap.size w w'
theorem CallPost.p {w : World} {A : Arr} {e : Ending} {w' : World} (h : CallPost w A e w') : CallP w A true e w' := h
theorem callP_hand {w w1 : World} {b : Nat} {A : Arr} {a : Option Addr} {cap n : Nat} (hb : w.heap.size ≤ b) (hsl : SlB (b + 1) w1 a A.l) (hB : Below w.heap.size w w1) (x y z : Value) (ok : Bool) :
    CallP w A ok (.returned (.tuple #[.agg #[.int .i64 A.r, .int .i64 A.c, .slice a A.l.length cap], .bool ok])) ((((w1.setCell ⟨b, 0, none⟩ x).setCell ⟨b, 1, none⟩ y).setCell ⟨b, 2, none⟩ z).drewN n) := by
  obtain ⟨u, e, h1, h2⟩ := arr_hand (n := n) (cap := cap) hb hsl hB x y z
  cases e
  exact ⟨_, rfl, h1, h2⟩
def HasFn (s : ByteArray) (lo hi : Int) : Prop := ∀ (b1 b2 b3 b4 b5 b6 b7 b8 b9 : Nat), ∃ g cp, getL (tbl b1 b2 b3 b4 b5 b6 b7 b8 b9) s = some (fnV lo hi g cp)
section
variable (s : ByteArray) (a : Option Addr) (cap : Nat) (w : World)
set_option maxHeartbeats 2000000
set_option maxRecDepth 100000
theorem call_none (n : Nat) (hG : ∀ (b1 b2 b3 b4 b5 b6 b7 b8 b9 : Nat), getL (tbl b1 b2 b3 b4 b5 b6 b7 b8 b9) s = none) :
    Calls Try.prog 10 #[.string s, .slice a n cap] w (CallP w ⟨0, 0, []⟩ false) := by
  have HG := Lib.hid hG
  clear hG
  go_enter Try.func10, Try.ntmps10
  go_wp2_with fail
  refine (table_any _).mono ?_
  rintro e w1 ⟨B, b1, b2, b3, b4, b5, b6, b7, b8, b9, rfl, hTab, hb⟩
  have hl := hTab.map.look2 (string_fits Try.underlying9) Try.underlying50 (zero48 w1) s
  rw [HG.out b1 b2 b3 b4 b5 b6 b7 b8 b9] at hl
  simp only [Option.map_none, Option.getD_none, Option.isSome_none] at hl
  have g0 : w1.heap[w.heap.size]? = some (.cells #[.int .i64 0, .int .i64 0, .slice none 0 0] 27) := (hb.block _ (by simp)).trans (by (repeat (first | (with_reducible refine heap_alloc_at ?_ _; (first | rfl | (simp; done) | omega | (simp; omega)); done) | with_reducible refine heap_alloc_old ?_ _ | with_reducible refine heap_drew_old ?_ | with_reducible refine heap_drewN_old ?_)))
  have FB : Hid (Below w.heap.size w w1) := by
    refine Below.trans ?_ (hb.mono (by simp))
    (repeat (first | with_reducible exact Below.refl _ _ | with_reducible exact hBW | with_reducible refine Below.setCell ?_ ?_ _ | with_reducible refine Below.alloc ?_ ?_ _ | with_reducible refine belowN ?_ _ | with_reducible refine Below.drew ?_)); all_goals (first | omega | (dsimp only; omega) | ((repeat (first | with_reducible refine le_alloc ?_ | with_reducible refine le_setCell ?_ | with_reducible refine le_drew ?_ | with_reducible refine le_drewN ?_)); omega))
  have x0 := cell_of_heap g0
  have y0 := frozen_of_heap g0
  have hn0 : w.heap.size < w1.heap.size := lt_of_heap g0
  clear g0 hb hTab HG
  go_wp2_with fail
  clear hl
  refine bodyPost_ret (v := .tuple #[.agg #[.int .i64 0, .int .i64 0, .slice none 0 0], .bool false]) (by simp [results, Try.results10, go_sem, x0, hn0]) rfl ⟨_, rfl, ⟨none, 0, rfl, fun h => absurd h (by simp)⟩, ?_⟩
  have hBW := FB.out
  (repeat (first | with_reducible exact Below.refl _ _ | with_reducible exact hBW | with_reducible refine Below.setCell ?_ ?_ _ | with_reducible refine Below.alloc ?_ ?_ _ | with_reducible refine belowN ?_ _ | with_reducible refine Below.drew ?_)); all_goals (first | omega | (dsimp only; omega) | ((repeat (first | with_reducible refine le_alloc ?_ | with_reducible refine le_setCell ?_ | with_reducible refine le_drew ?_ | with_reducible refine le_drewN ?_)); omega))
theorem call_count {lo hi : Int} (n : Nat) (hG : HasFn s lo hi) (hc : (decide ((n : Int) < lo) || decide (hi < (n : Int))) = true) :
    Calls Try.prog 10 #[.string s, .slice a n cap] w (CallP w ⟨1, 1, [vBad 2]⟩ true) := by
  have HG := Lib.hid hG
  clear hG
  go_enter Try.func10, Try.ntmps10
  go_wp2_with fail
  refine (table_any _).mono ?_
  rintro e w1 ⟨B, b1, b2, b3, b4, b5, b6, b7, b8, b9, rfl, hTab, hb⟩
  obtain ⟨g, cp, hget⟩ := HG.out b1 b2 b3 b4 b5 b6 b7 b8 b9
  have hl := hTab.map.look2 (string_fits Try.underlying9) Try.underlying50 (zero48 w1) s
  rw [hget] at hl
  unfold fnV at hl
  simp only [Option.map_some, Option.getD_some, Option.isSome_some, id] at hl
  have g0 : w1.heap[w.heap.size]? = some (.cells #[.int .i64 0, .int .i64 0, .slice none 0 0] 27) := (hb.block _ (by simp)).trans (by (repeat (first | (with_reducible refine heap_alloc_at ?_ _; (first | rfl | (simp; done) | omega | (simp; omega)); done) | with_reducible refine heap_alloc_old ?_ _ | with_reducible refine heap_drew_old ?_ | with_reducible refine heap_drewN_old ?_)))
  have FB : Hid (Below w.heap.size w w1) := by
    refine Below.trans ?_ (hb.mono (by simp))
    (repeat (first | with_reducible exact Below.refl _ _ | with_reducible exact hBW | with_reducible refine Below.setCell ?_ ?_ _ | with_reducible refine Below.alloc ?_ ?_ _ | with_reducible refine belowN ?_ _ | with_reducible refine Below.drew ?_)); all_goals (first | omega | (dsimp only; omega) | ((repeat (first | with_reducible refine le_alloc ?_ | with_reducible refine le_setCell ?_ | with_reducible refine le_drew ?_ | with_reducible refine le_drewN ?_)); omega))
  have G0 := Lib.hid g0
  clear g0 hb hget hTab HG
  have q : (n : Int) < lo ∨ ¬ (n : Int) < lo := Decidable.em _
  rcases q with q | q
  · clear hc
    go_wp2_with fail
    clear hl
    have hB2 := Lib.hid (below_alloc w1 (.cells #[.int .i64 lo, .int .i64 hi, .func (.func g) #[] cp] 48) _ (Nat.le_refl _))
    refine (alone_any 2 _).mono ?_
    rintro e' w3 ⟨x3, rfl, ⟨a3, cap3, rfl, hsl3⟩, hb4⟩
    have hB3 : Below w1.heap.size w1 w3 := hB2.out.trans (hb4.mono hB2.out.size)
    have e0 := (hB3.block w.heap.size (lt_of_heap G0.out)).trans G0.out
    have x0 := cell_of_heap e0
    have y0 := frozen_of_heap e0
    have hn0 : w.heap.size < w3.heap.size := lt_of_heap e0
    have HSL3 := Lib.hid (hsl3.mono (B' := w.heap.size + 1) (Nat.le_trans (lt_of_heap G0.out) hB2.out.size))
    have HB3 := Lib.hid (FB.out.trans (hB3.mono FB.out.size))
    clear hsl3 hb4 hB3 e0
    go_wp2_with fail
    refine bodyPost_ret (v := .tuple #[.agg #[.int .i64 1, .int .i64 1, .slice a3 1 cap3], .bool true]) (by simp [results, Try.results10, go_sem, x0]) rfl ?_
    exact callP_hand (A := ⟨1, 1, [vBad 2]⟩) (n := 0) (Nat.le_refl _) HSL3.out HB3.out _ _ _ true
  · have q2 : hi < (n : Int) := by simp [q] at hc; exact hc
    clear hc
    go_wp2_with fail
    clear hl
    have hB2 := Lib.hid (below_alloc w1 (.cells #[.int .i64 lo, .int .i64 hi, .func (.func g) #[] cp] 48) _ (Nat.le_refl _))
    refine (alone_any 2 _).mono ?_
    rintro e' w3 ⟨x3, rfl, ⟨a3, cap3, rfl, hsl3⟩, hb4⟩
    have hB3 : Below w1.heap.size w1 w3 := hB2.out.trans (hb4.mono hB2.out.size)
    have e0 := (hB3.block w.heap.size (lt_of_heap G0.out)).trans G0.out
    have x0 := cell_of_heap e0
    have y0 := frozen_of_heap e0
    have hn0 : w.heap.size < w3.heap.size := lt_of_heap e0
    have HSL3 := Lib.hid (hsl3.mono (B' := w.heap.size + 1) (Nat.le_trans (lt_of_heap G0.out) hB2.out.size))
    have HB3 := Lib.hid (FB.out.trans (hB3.mono FB.out.size))
    clear hsl3 hb4 hB3 e0
    go_wp2_with fail
    refine bodyPost_ret (v := .tuple #[.agg #[.int .i64 1, .int .i64 1, .slice a3 1 cap3], .bool true]) (by simp [results, Try.results10, go_sem, x0]) rfl ?_
    exact callP_hand (A := ⟨1, 1, [vBad 2]⟩) (n := 0) (Nat.le_refl _) HSL3.out HB3.out _ _ _ true
end
end Go.Proofs.Ytgbedjeiihigaaa
