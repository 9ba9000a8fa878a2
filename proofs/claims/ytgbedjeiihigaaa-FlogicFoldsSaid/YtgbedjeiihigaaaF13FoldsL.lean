/- FlogicFolds: every slice of values and every byte. -/
import Derived.Test.YtgbedjeiihigaaaF13Folds
namespace Go.Proofs.Ytgbedjeiihigaaa
open Go.RowKit
set_option maxHeartbeats 400000 in
theorem folds_none (a : Option Addr) (cap : Nat) (t : Int) (w : World) : Calls Try.prog 5 #[.slice a 0 cap, .int .u8 t] w fun e w' => e = .returned (.bool true) ∧ Below w.heap.size w w' := by
  go_enter Try.func5, Try.ntmps5
  go_wp2_with fail
  refine (awake_any _).mono ?_
  rintro e w1 ⟨rfl, f1⟩
  have F1 := Lib.hid f1
  clear f1
  go_wp2_with fail
  go_ret
  exact ⟨rfl, F1.out⟩
set_option maxHeartbeats 400000 in
theorem folds_long (a : Option Addr) (cap n : Nat) (t : Int) (w : World) (h : 30 < n) : Calls Try.prog 5 #[.slice a n cap, .int .u8 t] w fun e w' => e = .returned (.bool true) ∧ Below w.heap.size w w' := by
  have n0 : ((n : Int) == 0) = false := beq_eq_false_iff_ne.2 (by omega)
  go_enter Try.func5, Try.ntmps5
  go_wp2_with fail
  refine (awake_any _).mono ?_
  rintro e w1 ⟨rfl, f1⟩
  have F1 := Lib.hid f1
  clear f1
  go_wp2_with fail
  go_ret
  exact ⟨rfl, F1.out⟩
theorem folds_law (a : Option Addr) (cap : Nat) (l : List V) (t : Int) (w : World) (q1 : 0 ≤ t) (q2 : t ≤ 255) (hA : SlB 0 w a l) :
    Calls Try.prog 5 #[.slice a l.length cap, .int .u8 t] w fun e w' => e = .returned (.bool true) ∧ Below w.heap.size w w' := by
  by_cases h0 : l.length = 0
  · rw [h0]; exact folds_none a cap t w
  · by_cases h1 : 30 < l.length
    · exact folds_long a cap _ t w h1
    · exact folds_main a cap l t w q1 q2 (by omega) (by omega) hA
end Go.Proofs.Ytgbedjeiihigaaa
