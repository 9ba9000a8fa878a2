/- awake. -/
import Derived.Test.YtebifjjghogboaaD34Same
namespace Go.Proofs.Ytebifjjghogboaa
open Go.RowKit Go.Shelf Go.Maps
theorem aw1 : newB [] (2, 5) = true := by decide
theorem aw2 : addL [] (2, 5) = [(2, 5)] := by decide
theorem aw3 : nextL [(2, 5)] 1 = (1, 6) := by decide
theorem aw4 : hasB [(2, 5)] (2, 3) = true := by decide
theorem aw5 : hasB [(2, 5)] (1, 1) = false := by decide
theorem aw6 : befB (9, 1) (1, 2) = true := by decide
set_option maxHeartbeats 1000000 in
set_option maxRecDepth 100000 in
theorem awake_any (w : World) : Calls Try.prog 10 #[] w fun e w' => e = .returned (.bool true) ∧ Below w.heap.size w w' := by
  go_enter Try.func10, Try.ntmps10
  go_wp2_with fail
  refine (new_any _).mono ?_
  rintro e w1 ⟨rfl, s1, b1, z1⟩
  have S1 := Lib.hid s1
  have B1 := Lib.hid b1
  clear s1 b1 z1
  go_wp2_with fail
  refine (add_sn S1.out (2, 5) ⟨by decide, by decide, by decide, by decide⟩).mono ?_
  rw [aw1, aw2]
  rintro e w2 ⟨rfl, s2, f2⟩
  have S2 := Lib.hid s2
  have B2 : Hid (Below w.heap.size w w2) := B1.out.trans (f2.below B1.out.size (fun k h => by omega))
  clear s2 f2
  go_wp2_with fail
  refine (next_any 1 S2.out.v).mono ?_
  rw [aw3]
  rintro e w3 ⟨rfl, b3⟩
  have S3 := Lib.hid (S2.out.below b3)
  have B3 : Hid (Below w.heap.size w w3) := B2.out.trans (b3.mono B2.out.size)
  clear b3
  unfold encI
  go_wp2_with fail
  refine (has_any (2, 3) S3.out.v).mono ?_
  rw [aw4]
  rintro e w4 ⟨rfl, b4⟩
  have S4 := Lib.hid (S3.out.below b4)
  have B4 : Hid (Below w.heap.size w w4) := B3.out.trans (b4.mono B3.out.size)
  clear b4
  go_wp2_with fail
  refine (has_any (1, 1) S4.out.v).mono ?_
  rw [aw5]
  rintro e w5 ⟨rfl, b5⟩
  have B5 : Hid (Below w.heap.size w w5) := B4.out.trans (b5.mono B4.out.size)
  clear b5
  go_wp2_with fail
  refine (before_any (9, 1) (1, 2) _).mono ?_
  rw [aw6]
  rintro e w6 ⟨rfl, b6⟩
  have B6 : Hid (Below w.heap.size w w6) := B5.out.trans (b6.mono B5.out.size)
  clear b6
  go_wp2_with fail
  go_ret
  exact ⟨rfl, B6.out⟩
end Go.Proofs.Ytebifjjghogboaa
