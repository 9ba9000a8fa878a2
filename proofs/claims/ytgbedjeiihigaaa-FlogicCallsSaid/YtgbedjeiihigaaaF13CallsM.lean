/- FlogicCalls: the law. -/
import Derived.Test.YtgbedjeiihigaaaF13CallsL
namespace Go.Proofs.Ytgbedjeiihigaaa
open Go.RowKit
set_option maxHeartbeats 2000000 in
set_option maxRecDepth 100000 in
theorem calls_law (s : ByteArray) (a : Option Addr) (cap : Nat) (l : List Arr) (w : World) (hA : ArgsAt 0 w a l) (hI : ∀ A ∈ l, ∀ v ∈ A.l, I64 v.m) :
    Calls Try.prog 7 #[.string s, .slice a l.length cap] w fun e w' => e = .returned (.bool true) ∧ Below w.heap.size w w' := by
  have HA := Lib.hid hA
  have HI := Lib.hid hI
  clear hA hI
  go_enter Try.func7, Try.ntmps7
  go_wp2_with fail
  refine (awake_any _).mono ?_
  rintro e w1 ⟨rfl, f1⟩
  have F1 := Lib.hid f1
  clear f1
  go_wp2_with fail
  refine (great_any s l a cap w1 (HA.out.below F1.out)).mono ?_
  rintro e w2 ⟨R, rfl, hR, f2⟩
  have F2 := Lib.hid (F1.out.trans (f2.mono F1.out.size))
  clear f2 F1
  cases R with
  | true =>
    clear hR
    go_wp2_with fail
    go_ret
    exact ⟨rfl, F2.out⟩
  | false =>
    obtain ⟨A, ok, hAl, hboth⟩ := both_any s l (hR rfl) HI.out
    have HAL := Lib.hid hAl
    have HBO := Lib.hid hboth
    clear hR hAl hboth
    go_wp2_with fail
    refine (HBO.out a cap w2 (HA.out.below F2.out)).1.mono ?_
    rintro e w3 ⟨x, rfl, ⟨xa, xc, rfl, hx⟩, f3⟩
    have F3 := Lib.hid (F2.out.trans (f3.mono F2.out.size))
    have HX := Lib.hid (hx.mono (Nat.zero_le _))
    clear f3 F2 hx
    go_wp2_with fail
    refine (HBO.out a cap _ (HA.out.below (F3.out.alloc F3.out.size _))).2.mono ?_
    rintro e w4 ⟨y, rfl, ⟨ya, yc, rfl, hy⟩, f4⟩
    have f4' := (below_alloc w3 (.cells #[.int .i64 A.r, .int .i64 A.c, .slice xa A.l.length xc] 27) _ (Nat.le_refl _)).trans (f4.mono (by simp))
    have F4 := Lib.hid (F3.out.trans (f4'.mono F3.out.size))
    have HX4 := Lib.hid (HX.out.below f4')
    have HY := Lib.hid (hy.mono (Nat.zero_le _))
    have g3 : w4.heap[w3.heap.size]? = some (.cells #[.int .i64 A.r, .int .i64 A.c, .slice xa A.l.length xc] 27) := (f4.block _ (by simp)).trans (heap_alloc_new _ _)
    have x3 := cell_of_heap g3
    have z3 := lt_of_heap g3
    clear f4 f4' hy g3
    have ok1 : (ok == ok) = true := by simp
    go_wp2_with fail
    refine (same_yes A _ _ _ ⟨xa, xc, rfl, HX4.out.below (below_alloc w4 _ _ (Nat.le_refl _))⟩ ⟨ya, yc, rfl, HY.out.below (below_alloc w4 _ _ (Nat.le_refl _))⟩ HAL.out).mono ?_
    rintro e w5 ⟨rfl, f5⟩
    have F5 : Hid (Below w.heap.size w w5) := (F4.out.alloc F4.out.size _).trans (f5.mono (le_alloc F4.out.size))
    clear f5 x3
    go_wp2_with fail
    refine (names_any w5).mono ?_
    rintro e w6 ⟨v6, rfl, h6, f6⟩
    have F6 := Lib.hid (F5.out.trans (f6.mono F5.out.size))
    have S6 := Lib.hid (strs_own h6)
    clear h6 f6
    go_wp2_with fail
    refine (rnames_any w6).mono ?_
    rintro e w7 ⟨v7, rfl, h7, f7⟩
    have F7 := Lib.hid (F6.out.trans (f7.mono F6.out.size))
    have S7 := Lib.hid (S6.out.below f7)
    have T7 := Lib.hid h7
    clear h7 f7
    go_wp2_with fail
    refine (texts_yes nameL (by decide) _ _ w7 S7.out T7.out).mono ?_
    rintro e w8 ⟨rfl, f8⟩
    have F8 := Lib.hid (F7.out.trans (f8.mono F7.out.size))
    clear f8
    go_wp2_with fail
    go_ret
    exact ⟨rfl, F8.out⟩
end Go.Proofs.Ytgbedjeiihigaaa
