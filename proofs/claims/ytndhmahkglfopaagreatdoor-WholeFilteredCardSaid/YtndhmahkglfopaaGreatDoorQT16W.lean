/- num's reader: take. (Written by a program: gen_take.) -/
import Derived.Test.YtndhmahkglfopaaGreatDoorQT16V
namespace Go.Proofs.YtndhmahkglfopaaGreatDoor
open Go.RowKit
def TakeYes (B rb : Nat) (r' : RS) (v : Value) (W : World) (e : Ending) (W' : World) : Prop := e = .returned (.bool true) ∧ ∃ v', RdAt B rb r' v' W' ∧ RdFr rb v W W'
def TakeNo (rb : Nat) (v : Value) (W : World) (e : Ending) (W' : World) : Prop := e = .returned (.bool false) ∧ RdFr rb v W W'
def TakeEnd (B rb : Nat) (o : Option RS) (v : Value) (W : World) (e : Ending) (W' : World) : Prop := match o with
  | some r' => TakeYes B rb r' v W e W'
  | none => TakeNo rb v W e W'
section
variable (B rb : Nat) (v : Value) (w : World) (r : RS)
set_option maxHeartbeats 2000000
set_option maxRecDepth 100000
theorem take_dig (c n : Nat) (hn : n ≤ 300) (hok : r.Ok n) (h : RdAt B rb r v w) (h48 : 48 ≤ c) (h57 : c ≤ 57) : Calls Tryz.prog 222 #[.pointer (some ⟨rb, 0, none⟩), .int .i32 c] w (TakeYes B rb (digitP r c) v w) := by
  have HC := Lib.hid (digit_any hn hok h h48 h57)
  have d1 : decide (48 ≤ (c : Int)) = true := decide_eq_true (by omega)
  have d2 : decide ((c : Int) ≤ 57) = true := decide_eq_true (by omega)
  clear hok h
  go_enter Tryz.func222, Tryz.ntmps222
  go_wp2_with fail
  refine HC.out.mono ?_
  rintro e w1 ⟨rfl, v', hr, hf⟩
  have HR := Lib.hid hr
  have HF := Lib.hid hf
  clear hr hf
  go_wp2_with fail
  go_ret
  exact ⟨rfl, v', HR.out, HF.out⟩
theorem take_45a (HR : Hid (RdAt B rb r v w)) (s0 : (r.st == 0) = true) : Calls Tryz.prog 222 #[.pointer (some ⟨rb, 0, none⟩), .int .i32 45] w (TakeYes B rb ⟨1, true, r.np, r.D, r.bh, r.pw⟩ v w) := by
  have x0 := cell_of_heap HR.out.blk 0
  have x1 := cell_of_heap HR.out.blk 1
  have x2 := cell_of_heap HR.out.blk 2
  have y0 := frozen_of_heap HR.out.blk
  have z0 := lt_of_heap HR.out.blk
  go_enter Tryz.func222, Tryz.ntmps222
  go_wp2_with fail
  go_ret
  exact ⟨rfl, v, ((HR.out.put (r' := ⟨r.st, true, r.np, r.D, r.bh, r.pw⟩) 1 (.bool true) rfl rfl).put (r' := ⟨1, true, r.np, r.D, r.bh, r.pw⟩) 0 (.int .i64 1) rfl rfl), (((RdFr.refl rb v w).put 1 (.bool true)).put 0 (.int .i64 1))⟩
theorem take_45b (HR : Hid (RdAt B rb r v w)) (s0 : (r.st == 0) = false) (s5 : (r.st == 5) = true) : Calls Tryz.prog 222 #[.pointer (some ⟨rb, 0, none⟩), .int .i32 45] w (TakeYes B rb ⟨6, r.ng, true, r.D, r.bh, r.pw⟩ v w) := by
  have x0 := cell_of_heap HR.out.blk 0
  have x1 := cell_of_heap HR.out.blk 1
  have x2 := cell_of_heap HR.out.blk 2
  have y0 := frozen_of_heap HR.out.blk
  have z0 := lt_of_heap HR.out.blk
  go_enter Tryz.func222, Tryz.ntmps222
  go_wp2_with fail
  go_ret
  exact ⟨rfl, v, ((HR.out.put (r' := ⟨r.st, r.ng, true, r.D, r.bh, r.pw⟩) 2 (.bool true) rfl rfl).put (r' := ⟨6, r.ng, true, r.D, r.bh, r.pw⟩) 0 (.int .i64 6) rfl rfl), (((RdFr.refl rb v w).put 2 (.bool true)).put 0 (.int .i64 6))⟩
theorem take_45c (HR : Hid (RdAt B rb r v w)) (s0 : (r.st == 0) = false) (s5 : (r.st == 5) = false) : Calls Tryz.prog 222 #[.pointer (some ⟨rb, 0, none⟩), .int .i32 45] w (TakeNo rb v w) := by
  have x0 := cell_of_heap HR.out.blk 0
  have x1 := cell_of_heap HR.out.blk 1
  have x2 := cell_of_heap HR.out.blk 2
  have y0 := frozen_of_heap HR.out.blk
  have z0 := lt_of_heap HR.out.blk
  go_enter Tryz.func222, Tryz.ntmps222
  go_wp2_with fail
  go_ret
  exact ⟨rfl, RdFr.refl rb v w⟩
theorem take_46a (HR : Hid (RdAt B rb r v w)) (s2 : (r.st == 2) = true) : Calls Tryz.prog 222 #[.pointer (some ⟨rb, 0, none⟩), .int .i32 46] w (TakeYes B rb ⟨3, r.ng, r.np, r.D, r.bh, r.pw⟩ v w) := by
  have x0 := cell_of_heap HR.out.blk 0
  have x1 := cell_of_heap HR.out.blk 1
  have x2 := cell_of_heap HR.out.blk 2
  have y0 := frozen_of_heap HR.out.blk
  have z0 := lt_of_heap HR.out.blk
  go_enter Tryz.func222, Tryz.ntmps222
  go_wp2_with fail
  go_ret
  exact ⟨rfl, v, (HR.out.put (r' := ⟨3, r.ng, r.np, r.D, r.bh, r.pw⟩) 0 (.int .i64 3) rfl rfl), ((RdFr.refl rb v w).put 0 (.int .i64 3))⟩
theorem take_46b (HR : Hid (RdAt B rb r v w)) (s2 : (r.st == 2) = false) (s1 : decide (r.st ≤ 1) = true) : Calls Tryz.prog 222 #[.pointer (some ⟨rb, 0, none⟩), .int .i32 46] w (TakeYes B rb ⟨3, r.ng, r.np, r.D, r.bh, r.pw⟩ v w) := by
  have x0 := cell_of_heap HR.out.blk 0
  have x1 := cell_of_heap HR.out.blk 1
  have x2 := cell_of_heap HR.out.blk 2
  have y0 := frozen_of_heap HR.out.blk
  have z0 := lt_of_heap HR.out.blk
  go_enter Tryz.func222, Tryz.ntmps222
  go_wp2_with fail
  go_ret
  exact ⟨rfl, v, (HR.out.put (r' := ⟨3, r.ng, r.np, r.D, r.bh, r.pw⟩) 0 (.int .i64 3) rfl rfl), ((RdFr.refl rb v w).put 0 (.int .i64 3))⟩
theorem take_46c (HR : Hid (RdAt B rb r v w)) (s2 : (r.st == 2) = false) (s1 : decide (r.st ≤ 1) = false) : Calls Tryz.prog 222 #[.pointer (some ⟨rb, 0, none⟩), .int .i32 46] w (TakeNo rb v w) := by
  have x0 := cell_of_heap HR.out.blk 0
  have x1 := cell_of_heap HR.out.blk 1
  have x2 := cell_of_heap HR.out.blk 2
  have y0 := frozen_of_heap HR.out.blk
  have z0 := lt_of_heap HR.out.blk
  go_enter Tryz.func222, Tryz.ntmps222
  go_wp2_with fail
  go_ret
  exact ⟨rfl, RdFr.refl rb v w⟩
theorem take_101a (HR : Hid (RdAt B rb r v w)) (s2 : (r.st == 2) = true) : Calls Tryz.prog 222 #[.pointer (some ⟨rb, 0, none⟩), .int .i32 101] w (TakeYes B rb ⟨5, r.ng, r.np, r.D, r.bh, r.pw⟩ v w) := by
  have x0 := cell_of_heap HR.out.blk 0
  have x1 := cell_of_heap HR.out.blk 1
  have x2 := cell_of_heap HR.out.blk 2
  have y0 := frozen_of_heap HR.out.blk
  have z0 := lt_of_heap HR.out.blk
  go_enter Tryz.func222, Tryz.ntmps222
  go_wp2_with fail
  go_ret
  exact ⟨rfl, v, (HR.out.put (r' := ⟨5, r.ng, r.np, r.D, r.bh, r.pw⟩) 0 (.int .i64 5) rfl rfl), ((RdFr.refl rb v w).put 0 (.int .i64 5))⟩
theorem take_101b (HR : Hid (RdAt B rb r v w)) (s2 : (r.st == 2) = false) (s4 : (r.st == 4) = true) : Calls Tryz.prog 222 #[.pointer (some ⟨rb, 0, none⟩), .int .i32 101] w (TakeYes B rb ⟨5, r.ng, r.np, r.D, r.bh, r.pw⟩ v w) := by
  have x0 := cell_of_heap HR.out.blk 0
  have x1 := cell_of_heap HR.out.blk 1
  have x2 := cell_of_heap HR.out.blk 2
  have y0 := frozen_of_heap HR.out.blk
  have z0 := lt_of_heap HR.out.blk
  go_enter Tryz.func222, Tryz.ntmps222
  go_wp2_with fail
  go_ret
  exact ⟨rfl, v, (HR.out.put (r' := ⟨5, r.ng, r.np, r.D, r.bh, r.pw⟩) 0 (.int .i64 5) rfl rfl), ((RdFr.refl rb v w).put 0 (.int .i64 5))⟩
theorem take_101c (HR : Hid (RdAt B rb r v w)) (s2 : (r.st == 2) = false) (s4 : (r.st == 4) = false) : Calls Tryz.prog 222 #[.pointer (some ⟨rb, 0, none⟩), .int .i32 101] w (TakeNo rb v w) := by
  have x0 := cell_of_heap HR.out.blk 0
  have x1 := cell_of_heap HR.out.blk 1
  have x2 := cell_of_heap HR.out.blk 2
  have y0 := frozen_of_heap HR.out.blk
  have z0 := lt_of_heap HR.out.blk
  go_enter Tryz.func222, Tryz.ntmps222
  go_wp2_with fail
  go_ret
  exact ⟨rfl, RdFr.refl rb v w⟩
theorem take_69a (HR : Hid (RdAt B rb r v w)) (s2 : (r.st == 2) = true) : Calls Tryz.prog 222 #[.pointer (some ⟨rb, 0, none⟩), .int .i32 69] w (TakeYes B rb ⟨5, r.ng, r.np, r.D, r.bh, r.pw⟩ v w) := by
  have x0 := cell_of_heap HR.out.blk 0
  have x1 := cell_of_heap HR.out.blk 1
  have x2 := cell_of_heap HR.out.blk 2
  have y0 := frozen_of_heap HR.out.blk
  have z0 := lt_of_heap HR.out.blk
  go_enter Tryz.func222, Tryz.ntmps222
  go_wp2_with fail
  go_ret
  exact ⟨rfl, v, (HR.out.put (r' := ⟨5, r.ng, r.np, r.D, r.bh, r.pw⟩) 0 (.int .i64 5) rfl rfl), ((RdFr.refl rb v w).put 0 (.int .i64 5))⟩
theorem take_69b (HR : Hid (RdAt B rb r v w)) (s2 : (r.st == 2) = false) (s4 : (r.st == 4) = true) : Calls Tryz.prog 222 #[.pointer (some ⟨rb, 0, none⟩), .int .i32 69] w (TakeYes B rb ⟨5, r.ng, r.np, r.D, r.bh, r.pw⟩ v w) := by
  have x0 := cell_of_heap HR.out.blk 0
  have x1 := cell_of_heap HR.out.blk 1
  have x2 := cell_of_heap HR.out.blk 2
  have y0 := frozen_of_heap HR.out.blk
  have z0 := lt_of_heap HR.out.blk
  go_enter Tryz.func222, Tryz.ntmps222
  go_wp2_with fail
  go_ret
  exact ⟨rfl, v, (HR.out.put (r' := ⟨5, r.ng, r.np, r.D, r.bh, r.pw⟩) 0 (.int .i64 5) rfl rfl), ((RdFr.refl rb v w).put 0 (.int .i64 5))⟩
theorem take_69c (HR : Hid (RdAt B rb r v w)) (s2 : (r.st == 2) = false) (s4 : (r.st == 4) = false) : Calls Tryz.prog 222 #[.pointer (some ⟨rb, 0, none⟩), .int .i32 69] w (TakeNo rb v w) := by
  have x0 := cell_of_heap HR.out.blk 0
  have x1 := cell_of_heap HR.out.blk 1
  have x2 := cell_of_heap HR.out.blk 2
  have y0 := frozen_of_heap HR.out.blk
  have z0 := lt_of_heap HR.out.blk
  go_enter Tryz.func222, Tryz.ntmps222
  go_wp2_with fail
  go_ret
  exact ⟨rfl, RdFr.refl rb v w⟩
theorem take_43a (HR : Hid (RdAt B rb r v w)) (s5 : (r.st == 5) = true) : Calls Tryz.prog 222 #[.pointer (some ⟨rb, 0, none⟩), .int .i32 43] w (TakeYes B rb ⟨6, r.ng, false, r.D, r.bh, r.pw⟩ v w) := by
  have x0 := cell_of_heap HR.out.blk 0
  have x1 := cell_of_heap HR.out.blk 1
  have x2 := cell_of_heap HR.out.blk 2
  have y0 := frozen_of_heap HR.out.blk
  have z0 := lt_of_heap HR.out.blk
  go_enter Tryz.func222, Tryz.ntmps222
  go_wp2_with fail
  go_ret
  exact ⟨rfl, v, ((HR.out.put (r' := ⟨r.st, r.ng, false, r.D, r.bh, r.pw⟩) 2 (.bool false) rfl rfl).put (r' := ⟨6, r.ng, false, r.D, r.bh, r.pw⟩) 0 (.int .i64 6) rfl rfl), (((RdFr.refl rb v w).put 2 (.bool false)).put 0 (.int .i64 6))⟩
theorem take_43b (HR : Hid (RdAt B rb r v w)) (s5 : (r.st == 5) = false) : Calls Tryz.prog 222 #[.pointer (some ⟨rb, 0, none⟩), .int .i32 43] w (TakeNo rb v w) := by
  have x0 := cell_of_heap HR.out.blk 0
  have x1 := cell_of_heap HR.out.blk 1
  have x2 := cell_of_heap HR.out.blk 2
  have y0 := frozen_of_heap HR.out.blk
  have z0 := lt_of_heap HR.out.blk
  go_enter Tryz.func222, Tryz.ntmps222
  go_wp2_with fail
  go_ret
  exact ⟨rfl, RdFr.refl rb v w⟩
theorem take_lo (c : Nat) (d1 : decide (48 ≤ (c : Int)) = false) (n43 : ((c : Int) == 43) = false) (n45 : ((c : Int) == 45) = false) (n46 : ((c : Int) == 46) = false) (n69 : ((c : Int) == 69) = false) (n101 : ((c : Int) == 101) = false) : Calls Tryz.prog 222 #[.pointer (some ⟨rb, 0, none⟩), .int .i32 c] w (TakeNo rb v w) := by
  go_enter Tryz.func222, Tryz.ntmps222
  go_wp2_with fail
  go_ret
  exact ⟨rfl, RdFr.refl rb v w⟩
theorem take_hi (c : Nat) (d1 : decide (48 ≤ (c : Int)) = true) (d2 : decide ((c : Int) ≤ 57) = false) (n43 : ((c : Int) == 43) = false) (n45 : ((c : Int) == 45) = false) (n46 : ((c : Int) == 46) = false) (n69 : ((c : Int) == 69) = false) (n101 : ((c : Int) == 101) = false) : Calls Tryz.prog 222 #[.pointer (some ⟨rb, 0, none⟩), .int .i32 c] w (TakeNo rb v w) := by
  go_enter Tryz.func222, Tryz.ntmps222
  go_wp2_with fail
  go_ret
  exact ⟨rfl, RdFr.refl rb v w⟩
end
theorem take_any {B rb c : Nat} {v : Value} {w : World} {r : RS} {n : Nat} (hn : n ≤ 300) (hok : r.Ok n) (h : RdAt B rb r v w) : Calls Tryz.prog 222 #[.pointer (some ⟨rb, 0, none⟩), .int .i32 c] w (TakeEnd B rb (takeP r c) v w) := by
  unfold takeP
  by_cases h1 : 48 ≤ c ∧ c ≤ 57
  · rw [if_pos h1]
    exact take_dig B rb v w r c n hn hok h h1.1 h1.2
  rw [if_neg h1]
  by_cases c45 : c = 45
  · subst c45
    by_cases s0 : r.st = 0
    · rw [if_pos ⟨rfl, s0⟩]
      exact take_45a B rb v w r h (by simpa using s0)
    rw [if_neg (fun h => s0 h.2), if_neg (by omega), if_neg (by omega)]
    by_cases s5 : r.st = 5
    · rw [if_pos ⟨by omega, s5⟩]
      exact take_45b B rb v w r h (by simpa using s0) (by simpa using s5)
    · rw [if_neg (fun h => s5 h.2)]
      exact take_45c B rb v w r h (by simpa using s0) (by simpa using s5)
  rw [if_neg (fun h => c45 h.1)]
  by_cases c46 : c = 46
  · subst c46
    by_cases s2 : r.st ≤ 2
    · rw [if_pos ⟨rfl, s2⟩]
      by_cases s22 : r.st = 2
      · exact take_46a B rb v w r h (by simpa using s22)
      · exact take_46b B rb v w r h (by simpa using s22) (decide_eq_true (by omega))
    · rw [if_neg (fun h => s2 h.2), if_neg (by omega), if_neg (by omega)]
      exact take_46c B rb v w r h (by simp; omega) (decide_eq_false (by omega))
  rw [if_neg (fun h => c46 h.1)]
  by_cases cE : c = 101 ∨ c = 69
  · by_cases sE : r.st = 2 ∨ r.st = 4
    · rw [if_pos ⟨cE, sE⟩]
      rcases cE with rfl | rfl
      · by_cases s2 : r.st = 2
        · exact take_101a B rb v w r h (by simpa using s2)
        · exact take_101b B rb v w r h (by simpa using s2) (by simp; omega)
      · by_cases s2 : r.st = 2
        · exact take_69a B rb v w r h (by simpa using s2)
        · exact take_69b B rb v w r h (by simpa using s2) (by simp; omega)
    · rw [if_neg (fun h => sE h.2), if_neg (by omega)]
      rcases cE with rfl | rfl
      · exact take_101c B rb v w r h (by simp; omega) (by simp; omega)
      · exact take_69c B rb v w r h (by simp; omega) (by simp; omega)
  rw [if_neg (fun h => cE h.1)]
  by_cases c43 : c = 43
  · subst c43
    by_cases s5 : r.st = 5
    · rw [if_pos ⟨by omega, s5⟩]
      exact take_43a B rb v w r h (by simpa using s5)
    · rw [if_neg (fun h => s5 h.2)]
      exact take_43b B rb v w r h (by simpa using s5)
  rw [if_neg (by omega)]
  have n43 : ((c : Int) == 43) = false := by simp; omega
  have n45 : ((c : Int) == 45) = false := by simp; omega
  have n46 : ((c : Int) == 46) = false := by simp; omega
  have n69 : ((c : Int) == 69) = false := by simp; omega
  have n101 : ((c : Int) == 101) = false := by simp; omega
  by_cases h48 : 48 ≤ c
  · exact take_hi rb v w c (decide_eq_true (by omega)) (decide_eq_false (by omega)) n43 n45 n46 n69 n101
  · exact take_lo rb v w c (decide_eq_false (by omega)) n43 n45 n46 n69 n101
end Go.Proofs.YtndhmahkglfopaaGreatDoor
