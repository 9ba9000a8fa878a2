/- FlogicKinds: for every value. -/
import Derived.Test.YtgbedjeiihigaaaF13Kind
import Derived.Test.YtgbedjeiihigaaaF13Awake
import Derived.Test.YtgbedjeiihigaaaF13Ref
namespace Go.Proofs.Ytgbedjeiihigaaa
open Go.RowKit
/-- How many of the first n kinds a value of kind k is of. -/
def cntK (k : Int) (n : Nat) : Int := if 0 ≤ k ∧ k < (n : Int) then 1 else 0
theorem cntK_succ (k : Int) (n : Nat) : cntK k (n + 1) = cntK k n + if k == (n : Int) then 1 else 0 := by
  unfold cntK
  by_cases h : k = (n : Int)
  · subst h
    simp
    omega
  · simp only [beq_iff_eq, h, if_false, Int.add_zero]
    by_cases h2 : 0 ≤ k ∧ k < (n : Int)
    · rw [if_pos h2, if_pos (by omega)]
    · rw [if_neg h2, if_neg (by omega)]
theorem cntK_bd (k : Int) (n : Nat) : 0 ≤ cntK k n ∧ cntK k n ≤ 1 := by unfold cntK; split <;> omega
theorem refR_kind {v : V} (h : refR v = true) : 0 ≤ v.k ∧ v.k < 5 := by
  unfold refR at h
  simp only [Bool.and_eq_true] at h
  have h5 := h.2
  by_cases k1 : v.k = 1
  · omega
  · rw [if_neg k1] at h5
    by_cases k2 : v.k = 2
    · omega
    · rw [if_neg k2] at h5
      simp at h5
      omega
set_option maxHeartbeats 2000000 in
set_option maxRecDepth 100000 in
theorem kinds_law (v : V) (w : World) : Calls Try.prog 4 #[vagg v] w fun e w' => e = .returned (.bool true) ∧ Below w.heap.size w w' := by
  have HR := Lib.hid (ref02_any v)
  have HY := Lib.hid (@refR_right v)
  have HKD := Lib.hid (@refR_kind v)
  have hva := vagg_eq v
  rw [hva]
  have HVA := Lib.hid hva
  clear hva
  cases hr : refR v with
  | false =>
    rw [hr] at HR
    have HR' := HR
    clear hr HY HKD
    go_enter Try.func4, Try.ntmps4
    go_wp2_with fail
    refine (awake_any _).mono ?_
    rintro e w1 ⟨rfl, f1⟩
    have hs1 : w.heap.size + 1 ≤ w1.heap.size := by have := f1.size; simpa using this
    have g0 : w1.heap[w.heap.size]? = some (.cells #[.int .i64 v.k, .int .i64 v.m, .int .i64 v.e, .string v.t, .bool v.b, .int .i64 v.f] 36) := (f1.block _ (by simp)).trans (by (repeat (first | (with_reducible refine heap_alloc_at ?_ _; (first | rfl | (simp; done) | omega | (simp; omega)); done) | with_reducible refine heap_alloc_old ?_ _ | with_reducible refine heap_drew_old ?_ | with_reducible refine heap_drewN_old ?_)))
    have F1 : Hid (Below w.heap.size w w1) := by
      refine Below.trans ?_ (f1.mono (by simp))
      (repeat (first | with_reducible exact Below.refl _ _ | with_reducible exact hBW | with_reducible refine Below.setCell ?_ ?_ _ | with_reducible refine Below.alloc ?_ ?_ _ | with_reducible refine belowN ?_ _ | with_reducible refine Below.drew ?_)); all_goals (first | omega | (dsimp only; omega) | ((repeat (first | with_reducible refine le_alloc ?_ | with_reducible refine le_setCell ?_ | with_reducible refine le_drew ?_ | with_reducible refine le_drewN ?_)); omega))
    have x0 := cell_of_heap g0
    have z0 := lt_of_heap g0
    clear f1 g0
    go_wp2_with fail
    refine (HR.out _).mono ?_
    rintro e w2 ⟨rfl, f2⟩
    have F2 := Lib.hid (F1.out.trans (f2.mono F1.out.size))
    clear f2 x0
    go_wp2_with fail
    go_ret
    exact ⟨rfl, F2.out⟩
  | true =>
    rw [hr] at HR
    have HOK := Lib.hid (HY.out hr)
    obtain ⟨kd1, kd2⟩ := HKD.out hr
    clear hr HY HKD
    go_enter Try.func4, Try.ntmps4
    go_wp2_with fail
    refine (awake_any _).mono ?_
    rintro e w1 ⟨rfl, f1⟩
    have hs1 : w.heap.size + 1 ≤ w1.heap.size := by have := f1.size; simpa using this
    have g0 : w1.heap[w.heap.size]? = some (.cells #[.int .i64 v.k, .int .i64 v.m, .int .i64 v.e, .string v.t, .bool v.b, .int .i64 v.f] 36) := (f1.block _ (by simp)).trans (by (repeat (first | (with_reducible refine heap_alloc_at ?_ _; (first | rfl | (simp; done) | omega | (simp; omega)); done) | with_reducible refine heap_alloc_old ?_ _ | with_reducible refine heap_drew_old ?_ | with_reducible refine heap_drewN_old ?_)))
    have F1 : Hid (Below w.heap.size w w1) := by
      refine Below.trans ?_ (f1.mono (by simp))
      (repeat (first | with_reducible exact Below.refl _ _ | with_reducible exact hBW | with_reducible refine Below.setCell ?_ ?_ _ | with_reducible refine Below.alloc ?_ ?_ _ | with_reducible refine belowN ?_ _ | with_reducible refine Below.drew ?_)); all_goals (first | omega | (dsimp only; omega) | ((repeat (first | with_reducible refine le_alloc ?_ | with_reducible refine le_setCell ?_ | with_reducible refine le_drew ?_ | with_reducible refine le_drewN ?_)); omega))
    have G0 := Lib.hid g0
    have x0 := cell_of_heap g0
    have z0 := lt_of_heap g0
    clear f1 g0
    go_wp2_with fail
    refine (HR.out _).mono ?_
    rintro e w2 ⟨rfl, f2⟩
    have F2 := Lib.hid (F1.out.trans (f2.mono F1.out.size))
    have G2 : Hid (w2.heap[w.heap.size]? = _) := (f2.block _ z0).trans G0.out
    clear f2 x0 z0 F1 G0 HR hs1
    go_wp2_with fail
    go_loopw [3, 4] (fun n x wr => ∃ i : Nat, n = .int .i64 (cntK v.k i) ∧ x = .int .i64 i ∧ i ≤ 5 ∧ Hid (Below w2.heap.size w2 wr)) (fun _ x _ => 5 - (intOf x).toNat)
    case atStart => exact ⟨0, by unfold cntK; rw [if_neg (by omega)], rfl, by omega, Below.refl _ _⟩
    case round =>
      obtain ⟨i, rfl, rfl, hi, hB⟩ := hrel
      have cb := cntK_bd v.k i
      by_cases hlt : i < 5
      · have e0 := (hB.out.block _ (lt_of_heap G2.out)).trans G2.out
        have x0 := cell_of_heap e0
        have z0 := lt_of_heap e0
        have CS := Lib.hid (cntK_succ v.k i)
        have KC := Lib.hid (call_kind i hlt ⟨1, 1, [v]⟩ (ok_one HOK.out))
        clear e0
        match i, hlt with
        | 0, _ =>
          generalize cntK v.k 0 = cn at cb CS ⊢
          go_wp2_with fail
          refine (one_any v _).mono ?_
          rintro e u1 ⟨y1, rfl, ⟨a1, c1, rfl, s1⟩, f1⟩
          have hu1 : Hid (Below wr.heap.size wr u1) := by
            refine Below.trans ?_ (f1.mono (by simp))
            (repeat (first | with_reducible exact Below.refl _ _ | with_reducible exact hBW | with_reducible refine Below.setCell ?_ ?_ _ | with_reducible refine Below.alloc ?_ ?_ _ | with_reducible refine belowN ?_ _ | with_reducible refine Below.drew ?_)); all_goals (first | omega | (dsimp only; omega) | ((repeat (first | with_reducible refine le_alloc ?_ | with_reducible refine le_setCell ?_ | with_reducible refine le_drew ?_ | with_reducible refine le_drewN ?_)); omega))
          have S1 := Lib.hid s1
          clear s1 f1 x0 z0
          go_wp2_with fail
          have hb2 := below_alloc u1 (.cells #[.int .i64 1, .int .i64 1, .slice a1 1 c1] 27) _ (Nat.le_refl _)
          have key := KC.out _ 1 _ (args_one (A1 := ⟨1, 1, [v]⟩) (heap_alloc_new u1 _) ((S1.out.mono (Nat.zero_le _)).below hb2))
          refine key.mono ?_
          clear key
          rintro e u2 ⟨y2, rfl, ⟨a2, c2, rfl, s2⟩, f2⟩
          have HB2 : Hid (Below w2.heap.size w2 u2) := hB.out.trans ((hu1.out.trans ((hb2.trans (f2.mono hb2.size)).mono hu1.out.size)).mono hB.out.size)
          obtain ⟨pb, off, rfl, hpb, d0, d1, d2, d3, d4, d5⟩ := s2.cells (i := 0) rfl
          simp only [List.length_cons, List.length_nil, List.map_cons, List.map_nil]
          simp only [Nat.zero_mul, Nat.add_zero] at d0 d1 d2 d3 d4 d5
          unfold kindV vTruth at d0 d1 d2 d3 d4 d5
          simp only at d0 d1 d2 d3 d4 d5
          clear s2 f2 hb2 S1 hu1 KC d1 d2 d3 d5
          by_cases hk : v.k = 0
          · have hk' : (v.k == ((0 : Nat) : Int)) = true := by simpa using hk
            rw [hk'] at d4
            have CS2 : Hid (cntK v.k (0 + 1) = cn + 1) := by have h := CS.out; rw [hk'] at h; exact h
            clear hk hk' CS
            go_wp2_with fail
            go_roundw
            case rel => exact ⟨0 + 1, by rw [CS2.out], by go_num, by omega, HB2.out.alloc HB2.out.size _⟩
            case measure => simp [intOf]
          · have hk' : (v.k == ((0 : Nat) : Int)) = false := by simpa using hk
            rw [hk'] at d4
            have CS2 : Hid (cntK v.k (0 + 1) = cn) := by have h := CS.out; rw [hk'] at h; unfold Hid; simpa using h
            clear hk hk' CS
            go_wp2_with fail
            go_roundw
            case rel => exact ⟨0 + 1, by rw [CS2.out], by go_num, by omega, HB2.out.alloc HB2.out.size _⟩
            case measure => simp [intOf]
        | 1, _ =>
          generalize cntK v.k 1 = cn at cb CS ⊢
          go_wp2_with fail
          refine (one_any v _).mono ?_
          rintro e u1 ⟨y1, rfl, ⟨a1, c1, rfl, s1⟩, f1⟩
          have hu1 : Hid (Below wr.heap.size wr u1) := by
            refine Below.trans ?_ (f1.mono (by simp))
            (repeat (first | with_reducible exact Below.refl _ _ | with_reducible exact hBW | with_reducible refine Below.setCell ?_ ?_ _ | with_reducible refine Below.alloc ?_ ?_ _ | with_reducible refine belowN ?_ _ | with_reducible refine Below.drew ?_)); all_goals (first | omega | (dsimp only; omega) | ((repeat (first | with_reducible refine le_alloc ?_ | with_reducible refine le_setCell ?_ | with_reducible refine le_drew ?_ | with_reducible refine le_drewN ?_)); omega))
          have S1 := Lib.hid s1
          clear s1 f1 x0 z0
          go_wp2_with fail
          have hb2 := below_alloc u1 (.cells #[.int .i64 1, .int .i64 1, .slice a1 1 c1] 27) _ (Nat.le_refl _)
          have key := KC.out _ 1 _ (args_one (A1 := ⟨1, 1, [v]⟩) (heap_alloc_new u1 _) ((S1.out.mono (Nat.zero_le _)).below hb2))
          refine key.mono ?_
          clear key
          rintro e u2 ⟨y2, rfl, ⟨a2, c2, rfl, s2⟩, f2⟩
          have HB2 : Hid (Below w2.heap.size w2 u2) := hB.out.trans ((hu1.out.trans ((hb2.trans (f2.mono hb2.size)).mono hu1.out.size)).mono hB.out.size)
          obtain ⟨pb, off, rfl, hpb, d0, d1, d2, d3, d4, d5⟩ := s2.cells (i := 0) rfl
          simp only [List.length_cons, List.length_nil, List.map_cons, List.map_nil]
          simp only [Nat.zero_mul, Nat.add_zero] at d0 d1 d2 d3 d4 d5
          unfold kindV vTruth at d0 d1 d2 d3 d4 d5
          simp only at d0 d1 d2 d3 d4 d5
          clear s2 f2 hb2 S1 hu1 KC d1 d2 d3 d5
          by_cases hk : v.k = 1
          · have hk' : (v.k == ((1 : Nat) : Int)) = true := by simpa using hk
            rw [hk'] at d4
            have CS2 : Hid (cntK v.k (1 + 1) = cn + 1) := by have h := CS.out; rw [hk'] at h; exact h
            clear hk hk' CS
            go_wp2_with fail
            go_roundw
            case rel => exact ⟨1 + 1, by rw [CS2.out], by go_num, by omega, HB2.out.alloc HB2.out.size _⟩
            case measure => simp [intOf]
          · have hk' : (v.k == ((1 : Nat) : Int)) = false := by simpa using hk
            rw [hk'] at d4
            have CS2 : Hid (cntK v.k (1 + 1) = cn) := by have h := CS.out; rw [hk'] at h; unfold Hid; simpa using h
            clear hk hk' CS
            go_wp2_with fail
            go_roundw
            case rel => exact ⟨1 + 1, by rw [CS2.out], by go_num, by omega, HB2.out.alloc HB2.out.size _⟩
            case measure => simp [intOf]
        | 2, _ =>
          generalize cntK v.k 2 = cn at cb CS ⊢
          go_wp2_with fail
          refine (one_any v _).mono ?_
          rintro e u1 ⟨y1, rfl, ⟨a1, c1, rfl, s1⟩, f1⟩
          have hu1 : Hid (Below wr.heap.size wr u1) := by
            refine Below.trans ?_ (f1.mono (by simp))
            (repeat (first | with_reducible exact Below.refl _ _ | with_reducible exact hBW | with_reducible refine Below.setCell ?_ ?_ _ | with_reducible refine Below.alloc ?_ ?_ _ | with_reducible refine belowN ?_ _ | with_reducible refine Below.drew ?_)); all_goals (first | omega | (dsimp only; omega) | ((repeat (first | with_reducible refine le_alloc ?_ | with_reducible refine le_setCell ?_ | with_reducible refine le_drew ?_ | with_reducible refine le_drewN ?_)); omega))
          have S1 := Lib.hid s1
          clear s1 f1 x0 z0
          go_wp2_with fail
          have hb2 := below_alloc u1 (.cells #[.int .i64 1, .int .i64 1, .slice a1 1 c1] 27) _ (Nat.le_refl _)
          have key := KC.out _ 1 _ (args_one (A1 := ⟨1, 1, [v]⟩) (heap_alloc_new u1 _) ((S1.out.mono (Nat.zero_le _)).below hb2))
          refine key.mono ?_
          clear key
          rintro e u2 ⟨y2, rfl, ⟨a2, c2, rfl, s2⟩, f2⟩
          have HB2 : Hid (Below w2.heap.size w2 u2) := hB.out.trans ((hu1.out.trans ((hb2.trans (f2.mono hb2.size)).mono hu1.out.size)).mono hB.out.size)
          obtain ⟨pb, off, rfl, hpb, d0, d1, d2, d3, d4, d5⟩ := s2.cells (i := 0) rfl
          simp only [List.length_cons, List.length_nil, List.map_cons, List.map_nil]
          simp only [Nat.zero_mul, Nat.add_zero] at d0 d1 d2 d3 d4 d5
          unfold kindV vTruth at d0 d1 d2 d3 d4 d5
          simp only at d0 d1 d2 d3 d4 d5
          clear s2 f2 hb2 S1 hu1 KC d1 d2 d3 d5
          by_cases hk : v.k = 2
          · have hk' : (v.k == ((2 : Nat) : Int)) = true := by simpa using hk
            rw [hk'] at d4
            have CS2 : Hid (cntK v.k (2 + 1) = cn + 1) := by have h := CS.out; rw [hk'] at h; exact h
            clear hk hk' CS
            go_wp2_with fail
            go_roundw
            case rel => exact ⟨2 + 1, by rw [CS2.out], by go_num, by omega, HB2.out.alloc HB2.out.size _⟩
            case measure => simp [intOf]
          · have hk' : (v.k == ((2 : Nat) : Int)) = false := by simpa using hk
            rw [hk'] at d4
            have CS2 : Hid (cntK v.k (2 + 1) = cn) := by have h := CS.out; rw [hk'] at h; unfold Hid; simpa using h
            clear hk hk' CS
            go_wp2_with fail
            go_roundw
            case rel => exact ⟨2 + 1, by rw [CS2.out], by go_num, by omega, HB2.out.alloc HB2.out.size _⟩
            case measure => simp [intOf]
        | 3, _ =>
          generalize cntK v.k 3 = cn at cb CS ⊢
          go_wp2_with fail
          refine (one_any v _).mono ?_
          rintro e u1 ⟨y1, rfl, ⟨a1, c1, rfl, s1⟩, f1⟩
          have hu1 : Hid (Below wr.heap.size wr u1) := by
            refine Below.trans ?_ (f1.mono (by simp))
            (repeat (first | with_reducible exact Below.refl _ _ | with_reducible exact hBW | with_reducible refine Below.setCell ?_ ?_ _ | with_reducible refine Below.alloc ?_ ?_ _ | with_reducible refine belowN ?_ _ | with_reducible refine Below.drew ?_)); all_goals (first | omega | (dsimp only; omega) | ((repeat (first | with_reducible refine le_alloc ?_ | with_reducible refine le_setCell ?_ | with_reducible refine le_drew ?_ | with_reducible refine le_drewN ?_)); omega))
          have S1 := Lib.hid s1
          clear s1 f1 x0 z0
          go_wp2_with fail
          have hb2 := below_alloc u1 (.cells #[.int .i64 1, .int .i64 1, .slice a1 1 c1] 27) _ (Nat.le_refl _)
          have key := KC.out _ 1 _ (args_one (A1 := ⟨1, 1, [v]⟩) (heap_alloc_new u1 _) ((S1.out.mono (Nat.zero_le _)).below hb2))
          refine key.mono ?_
          clear key
          rintro e u2 ⟨y2, rfl, ⟨a2, c2, rfl, s2⟩, f2⟩
          have HB2 : Hid (Below w2.heap.size w2 u2) := hB.out.trans ((hu1.out.trans ((hb2.trans (f2.mono hb2.size)).mono hu1.out.size)).mono hB.out.size)
          obtain ⟨pb, off, rfl, hpb, d0, d1, d2, d3, d4, d5⟩ := s2.cells (i := 0) rfl
          simp only [List.length_cons, List.length_nil, List.map_cons, List.map_nil]
          simp only [Nat.zero_mul, Nat.add_zero] at d0 d1 d2 d3 d4 d5
          unfold kindV vTruth at d0 d1 d2 d3 d4 d5
          simp only at d0 d1 d2 d3 d4 d5
          clear s2 f2 hb2 S1 hu1 KC d1 d2 d3 d5
          by_cases hk : v.k = 3
          · have hk' : (v.k == ((3 : Nat) : Int)) = true := by simpa using hk
            rw [hk'] at d4
            have CS2 : Hid (cntK v.k (3 + 1) = cn + 1) := by have h := CS.out; rw [hk'] at h; exact h
            clear hk hk' CS
            go_wp2_with fail
            go_roundw
            case rel => exact ⟨3 + 1, by rw [CS2.out], by go_num, by omega, HB2.out.alloc HB2.out.size _⟩
            case measure => simp [intOf]
          · have hk' : (v.k == ((3 : Nat) : Int)) = false := by simpa using hk
            rw [hk'] at d4
            have CS2 : Hid (cntK v.k (3 + 1) = cn) := by have h := CS.out; rw [hk'] at h; unfold Hid; simpa using h
            clear hk hk' CS
            go_wp2_with fail
            go_roundw
            case rel => exact ⟨3 + 1, by rw [CS2.out], by go_num, by omega, HB2.out.alloc HB2.out.size _⟩
            case measure => simp [intOf]
        | 4, _ =>
          generalize cntK v.k 4 = cn at cb CS ⊢
          go_wp2_with fail
          refine (one_any v _).mono ?_
          rintro e u1 ⟨y1, rfl, ⟨a1, c1, rfl, s1⟩, f1⟩
          have hu1 : Hid (Below wr.heap.size wr u1) := by
            refine Below.trans ?_ (f1.mono (by simp))
            (repeat (first | with_reducible exact Below.refl _ _ | with_reducible exact hBW | with_reducible refine Below.setCell ?_ ?_ _ | with_reducible refine Below.alloc ?_ ?_ _ | with_reducible refine belowN ?_ _ | with_reducible refine Below.drew ?_)); all_goals (first | omega | (dsimp only; omega) | ((repeat (first | with_reducible refine le_alloc ?_ | with_reducible refine le_setCell ?_ | with_reducible refine le_drew ?_ | with_reducible refine le_drewN ?_)); omega))
          have S1 := Lib.hid s1
          clear s1 f1 x0 z0
          go_wp2_with fail
          have hb2 := below_alloc u1 (.cells #[.int .i64 1, .int .i64 1, .slice a1 1 c1] 27) _ (Nat.le_refl _)
          have key := KC.out _ 1 _ (args_one (A1 := ⟨1, 1, [v]⟩) (heap_alloc_new u1 _) ((S1.out.mono (Nat.zero_le _)).below hb2))
          refine key.mono ?_
          clear key
          rintro e u2 ⟨y2, rfl, ⟨a2, c2, rfl, s2⟩, f2⟩
          have HB2 : Hid (Below w2.heap.size w2 u2) := hB.out.trans ((hu1.out.trans ((hb2.trans (f2.mono hb2.size)).mono hu1.out.size)).mono hB.out.size)
          obtain ⟨pb, off, rfl, hpb, d0, d1, d2, d3, d4, d5⟩ := s2.cells (i := 0) rfl
          simp only [List.length_cons, List.length_nil, List.map_cons, List.map_nil]
          simp only [Nat.zero_mul, Nat.add_zero] at d0 d1 d2 d3 d4 d5
          unfold kindV vTruth at d0 d1 d2 d3 d4 d5
          simp only at d0 d1 d2 d3 d4 d5
          clear s2 f2 hb2 S1 hu1 KC d1 d2 d3 d5
          by_cases hk : v.k = 4
          · have hk' : (v.k == ((4 : Nat) : Int)) = true := by simpa using hk
            rw [hk'] at d4
            have CS2 : Hid (cntK v.k (4 + 1) = cn + 1) := by have h := CS.out; rw [hk'] at h; exact h
            clear hk hk' CS
            go_wp2_with fail
            go_roundw
            case rel => exact ⟨4 + 1, by rw [CS2.out], by go_num, by omega, HB2.out.alloc HB2.out.size _⟩
            case measure => simp [intOf]
          · have hk' : (v.k == ((4 : Nat) : Int)) = false := by simpa using hk
            rw [hk'] at d4
            have CS2 : Hid (cntK v.k (4 + 1) = cn) := by have h := CS.out; rw [hk'] at h; unfold Hid; simpa using h
            clear hk hk' CS
            go_wp2_with fail
            go_roundw
            case rel => exact ⟨4 + 1, by rw [CS2.out], by go_num, by omega, HB2.out.alloc HB2.out.size _⟩
            case measure => simp [intOf]
      · have e : i = 5 := by omega
        have EC : Hid (cntK v.k i = 1) := by unfold Hid cntK; rw [if_pos (by omega)]
        rw [EC.out]
        clear e cb
        go_wp2_with fail
        go_ret
        exact ⟨rfl, F2.out.trans (hB.out.mono F2.out.size)⟩
end Go.Proofs.Ytgbedjeiihigaaa
