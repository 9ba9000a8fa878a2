/- SpillFree: for every three pairs of bytes. -/
import Derived.Test.YtihfmcadcojjnaaS23FreeP
namespace Go.Proofs.Ytihfmcadcojjnaa
open Go.RowKit
set_option maxHeartbeats 2000000 in
set_option maxRecDepth 100000 in
theorem free_law (s0 s1 a0 a1 z0 z1 : Int) (w : World) (q1 : 0 ≤ s0) (q2 : s0 ≤ 255) (q3 : 0 ≤ s1) (q4 : s1 ≤ 255) (q5 : 0 ≤ a0) (q6 : a0 ≤ 255) (q7 : 0 ≤ a1) (q8 : a1 ≤ 255) (q9 : 0 ≤ z0) (q10 : z0 ≤ 255) (q11 : 0 ≤ z1) (q12 : z1 ≤ 255) :
    Calls Try.prog 5 #[.agg #[.int .u8 s0, .int .u8 s1], .agg #[.int .u8 a0, .int .u8 a1], .agg #[.int .u8 z0, .int .u8 z1]] w fun e w' => e = .returned (.bool true) ∧ Below w.heap.size w w' := by
  go_enter Try.func5, Try.ntmps5
  go_wp2_with fail
  refine (awake_any _).mono ?_
  rintro e w1 ⟨rfl, hb⟩
  have hs1 : w.heap.size + 3 ≤ w1.heap.size := by have := hb.size; simpa using this
  have g0 : w1.heap[w.heap.size]? = some (.cells #[.int .u8 s0, .int .u8 s1] 29) := (hb.block _ (by simp; omega)).trans (by (repeat (first | (with_reducible refine heap_alloc_at ?_ _; (first | rfl | (simp; done) | omega | (simp; omega)); done) | with_reducible refine heap_alloc_old ?_ _ | with_reducible refine heap_drew_old ?_ | with_reducible refine heap_drewN_old ?_)))
  have g1 : w1.heap[w.heap.size + 1]? = some (.cells #[.int .u8 a0, .int .u8 a1] 29) := (hb.block _ (by simp)).trans (by (repeat (first | (with_reducible refine heap_alloc_at ?_ _; (first | rfl | (simp; done) | omega | (simp; omega)); done) | with_reducible refine heap_alloc_old ?_ _ | with_reducible refine heap_drew_old ?_ | with_reducible refine heap_drewN_old ?_)))
  have g2 : w1.heap[w.heap.size + 1 + 1]? = some (.cells #[.int .u8 z0, .int .u8 z1] 29) := (hb.block _ (by simp)).trans (by (repeat (first | (with_reducible refine heap_alloc_at ?_ _; (first | rfl | (simp; done) | omega | (simp; omega)); done) | with_reducible refine heap_alloc_old ?_ _ | with_reducible refine heap_drew_old ?_ | with_reducible refine heap_drewN_old ?_)))
  have FB : Hid (Below w.heap.size w w1) := by
    have hBW : Below w.heap.size w w1 := by
      refine Below.trans ?_ (hb.mono (by simp; omega))
      (repeat (first | with_reducible exact Below.refl _ _ | with_reducible exact hBW | with_reducible refine Below.setCell ?_ ?_ _ | with_reducible refine Below.alloc ?_ ?_ _ | with_reducible refine belowN ?_ _ | with_reducible refine Below.drew ?_)); all_goals (first | omega | (dsimp only; omega) | ((repeat (first | with_reducible refine le_alloc ?_ | with_reducible refine le_setCell ?_ | with_reducible refine le_drew ?_ | with_reducible refine le_drewN ?_)); omega))
    exact hBW
  clear hb
  have x0 := cell_of_heap g0 0
  have x1 := cell_of_heap g0 1
  have x2 := cell_of_heap g1 0
  have x3 := cell_of_heap g1 1
  have y0 : w.heap.size < w1.heap.size := by omega
  have y1 : w.heap.size + 1 < w1.heap.size := by omega
  have G2 := Lib.hid g2
  clear g0 g1 g2
  obtain ⟨rows, t1, t2, m0, t3, t4⟩ : ∃ rows, 1 ≤ rows ∧ rows ≤ 10 ∧ ∃ m0, s0.tmod 10 = m0 ∧ IntKind.i64.wrap (1 + m0) = rows := by
    rw [Int.tmod_eq_emod_of_nonneg q1]
    exact ⟨1 + s0 % 10, by omega, by omega, _, rfl, IntWalk.i64_in _ (by omega)⟩
  obtain ⟨cols, t5, t6, m1, t7, t8⟩ : ∃ cols, 1 ≤ cols ∧ cols ≤ 10 ∧ ∃ m1, s1.tmod 10 = m1 ∧ IntKind.i64.wrap (1 + m1) = cols := by
    rw [Int.tmod_eq_emod_of_nonneg q3]
    exact ⟨1 + s1 % 10, by omega, by omega, _, rfl, IntWalk.i64_in _ (by omega)⟩
  obtain ⟨row, u1, u2, u3⟩ : ∃ row, 0 ≤ row ∧ row < rows ∧ a0.tmod rows = row := ⟨_, by rw [Int.tmod_eq_emod_of_nonneg q5]; exact Int.emod_nonneg _ (by omega), by rw [Int.tmod_eq_emod_of_nonneg q5]; exact Int.emod_lt_of_pos _ (by omega), rfl⟩
  obtain ⟨col, u4, u5, u6⟩ : ∃ col, 0 ≤ col ∧ col < cols ∧ a1.tmod cols = col := ⟨_, by rw [Int.tmod_eq_emod_of_nonneg q7]; exact Int.emod_nonneg _ (by omega), by rw [Int.tmod_eq_emod_of_nonneg q7]; exact Int.emod_lt_of_pos _ (by omega), rfl⟩
  have i1 : IntKind.i64.wrap s0 = s0 := IntWalk.i64_in _ (by omega)
  have i2 : IntKind.i64.wrap s1 = s1 := IntWalk.i64_in _ (by omega)
  have i3 : IntKind.i64.wrap a0 = a0 := IntWalk.i64_in _ (by omega)
  have i4 : IntKind.i64.wrap a1 = a1 := IntWalk.i64_in _ (by omega)
  have n1 : (rows == 0) = false := by simp; omega
  have n2 : (cols == 0) = false := by simp; omega
  have n3 : ¬ rows = 0 := by omega
  have n4 : ¬ cols = 0 := by omega
  go_wp2_with fail
  refine wp_region_mix [0, 1, 2, 3, 4, 5, 6, 7, 8, 9, 10, 11] [] [] (Below w1.heap.size w1) (by kernel_rfl) (by kernel_rfl) (Below.refl _ _).drew ?_
  iterate 12 (first | (apply first_step; (rw [List.getElem?_toArray]; (repeat rw [List.getElem?_cons_succ]); rw [List.getElem?_cons_zero]); rfl; (intro W hB; have hc := bcellB hB; go_simp; (first | done | rfl)); go_frame) | (apply first_skip; (rw [List.getElem?_toArray]; (repeat rw [List.getElem?_cons_succ]); rw [List.getElem?_cons_zero]); rfl; go_frame))
  refine first_done ?_
  refine tail_done ?_
  go_wp2_with fail
  refine wp_region_mix [0, 1, 2, 3, 4, 5, 6, 7, 8, 9, 10, 11] [] [] (Below w1.heap.size w1) (by kernel_rfl) (by kernel_rfl) (Below.refl _ _).drew.drew ?_
  iterate 12 (first | (apply first_step; (rw [List.getElem?_toArray]; (repeat rw [List.getElem?_cons_succ]); rw [List.getElem?_cons_zero]); rfl; (intro W hB; have hc := bcellB hB; go_simp; (first | done | rfl)); go_frame) | (apply first_skip; (rw [List.getElem?_toArray]; (repeat rw [List.getElem?_cons_succ]); rw [List.getElem?_cons_zero]); rfl; go_frame))
  refine first_done ?_
  refine tail_done ?_
  clear t3 t4 t7 t8 u3 u6 i1 i2 i3 i4 n1 n2 n3 n4 x0 x1 x2 x3
  have x4 := cell_of_heap G2.out 0
  have x5 := cell_of_heap G2.out 1
  have y2 : w.heap.size + 1 + 1 < w1.heap.size := by omega
  obtain ⟨R, v1, v2, v3⟩ : ∃ R, 1 ≤ R ∧ R ≤ 12 ∧ 1 + z0 % 12 = R := ⟨_, by omega, by omega, rfl⟩
  obtain ⟨C, v4, v5, v6⟩ : ∃ C, 1 ≤ C ∧ C ≤ 12 ∧ 1 + z1 % 12 = C := ⟨_, by omega, by omega, rfl⟩
  have FH : Hid (FreeH rows cols row col R C) := ⟨t1, t2, t5, t6, u1, u2, u4, u5, v1, v2, v4, v5⟩
  go_wp2_with fail
  clear v3 v6 x4 x5
  obtain ⟨W2, hW2⟩ : ∃ W2, W2 = (w1.alloc (.cells #[.int .i64 row, .int .i64 col, .int .i64 R, .int .i64 C] 38)).drew.drew := ⟨_, rfl⟩
  have hs2 : w1.heap.size < W2.heap.size := by rw [hW2]; simp [heap_drew]
  have er : W2.heap[w1.heap.size]? = some (.cells #[.int .i64 row, .int .i64 col, .int .i64 R, .int .i64 C] 38) := by rw [hW2]; (repeat (first | (with_reducible refine heap_alloc_at ?_ _; (first | rfl | (simp; done) | omega | (simp; omega)); done) | with_reducible refine heap_alloc_old ?_ _ | with_reducible refine heap_drew_old ?_ | with_reducible refine heap_drewN_old ?_))
  have FB2 : Hid (Below w.heap.size w W2) := by
    rw [hW2]
    exact ((FB.out.alloc (by omega) _).drew).drew
  rw [← hW2]
  clear hW2
  refine (new_o rows cols W2).mono ?_
  rintro e w3 ⟨rfl, b3, f3, _⟩
  go_wp2_with fail
  refine (fill_o b3 row col).mono ?_
  rintro e w4 ⟨rfl, b4, f4⟩
  rw [free_ok FH.out]
  have er4 := ((f3.trans f4).block w1.heap.size (by omega)).trans er
  have k2 := cell_of_heap er4 2
  have k3 := cell_of_heap er4 3
  go_wp2_with fail
  refine (decide_o b4 (by rw [len_fill]; simp [gNew]) row col R C).mono ?_
  rintro e w5 ⟨rfl, b5, f5⟩
  rw [show gStands (gFill (gNew rows cols) row col) row col R C = _ from free_stands FH.out, show gErr (gFill (gNew rows cols) row col) row col R C = 0 from free_err FH.out]
  change OBd w5 _ _ (gDecide (gF rows cols row col) row col R C) at b5
  have f35 := f3.trans (f4.trans f5)
  have FB5 : Hid (Below w.heap.size w w5) := FB2.out.trans (f35.mono (by omega))
  have er5 := (f35.block w1.heap.size (by omega)).trans er
  have e2 := cell_of_heap er5 2
  have e3 := cell_of_heap er5 3
  have OW := Lib.hid (free_owner FH.out)
  have FR := Lib.hid (free_bar FH.out)
  have FL := Lib.hid (free_len FH.out)
  have FW := Lib.hid (free_wf rows cols row col R C)
  clear b3 b4 f3 f4 f5 f35 k2 k3 er4 FB FB2 er
  have B5 := Lib.hid b5
  have ER5 := Lib.hid er5
  clear b5 er5
  by_cases hA : R ≤ rows - row
  · by_cases hB : C ≤ cols - col
    · have hf : (decide (R ≤ rows - row) && decide (C ≤ cols - col)) = true := by simp [hA, hB]
      rw [hf] at OW ⊢
      clear hf
      go_wp2_with fail
      go_loopw [100] (fun x wr => ∃ i : Nat, x = .int .i64 i ∧ (i : Int) ≤ rows ∧ Below w5.heap.size w5 wr) (fun x _ => rows.toNat - (intOf x).toNat)
      case atStart => exact ⟨0, rfl, by omega, Below.refl _ _⟩
      case round =>
        obtain ⟨i, rfl, hi, hBi⟩ := hrel
        by_cases hlt : (i : Int) < rows
        · go_wp2_with fail
          obtain ⟨wo, rfl⟩ : ∃ wo : World, wo = wr := ⟨_, rfl⟩
          go_loopw [104] (fun x wr => ∃ j : Nat, x = .int .i64 j ∧ (j : Int) ≤ cols ∧ Below w5.heap.size w5 wr) (fun x _ => cols.toNat - (intOf x).toNat)
          case atStart => exact ⟨0, rfl, by omega, hBi⟩
          case round =>
            obtain ⟨j, rfl, hj, hBr⟩ := hrel
            clear hBi
            by_cases hjt : (j : Int) < cols
            · have ek := (hBr.block w1.heap.size (lt_of_heap ER5.out)).trans ER5.out
              have c0 := cell_of_heap ek 0
              have c1 := cell_of_heap ek 1
              have c2 := cell_of_heap ek 2
              have c3 := cell_of_heap ek 3
              have hq : w1.heap.size < wr.heap.size := lt_of_heap ek
              clear ek
              by_cases hc0 : row ≤ (i : Int)
              · by_cases hc1 : col ≤ (j : Int)
                · by_cases hc2 : (i : Int) - row < R
                  · by_cases hc3 : (j : Int) - col < C
                    · have HO : Hid (getL (gDecide (gF rows cols row col) row col R C).O ((i : Int), (j : Int)) = some (row, col, R, C)) := by
                        have := OW.out (i : Int) (j : Int)
                        rw [if_pos (by refine ⟨by simp, ?_⟩; omega)] at this
                        exact this
                      go_wp2_with fail
                      refine (owner_o (B5.out.below hBr) (i : Int) (j : Int)).mono ?_
                      rintro e w6 ⟨rfl, _, hb6⟩
                      unfold ownerR
                      rw [HO.out]
                      first | rw [Option.getD_none, Option.isSome_none] | rw [Option.getD_some, Option.isSome_some]
                      unfold encR
                      have hB6 := Lib.hid (hBr.trans (hb6.mono hBr.size))
                      have d0 := (hb6.cell (p := ⟨w1.heap.size, 0, none⟩) hq).trans c0
                      have d1 := (hb6.cell (p := ⟨w1.heap.size, 1, none⟩) hq).trans c1
                      have d2 := (hb6.cell (p := ⟨w1.heap.size, 2, none⟩) hq).trans c2
                      have d3 := (hb6.cell (p := ⟨w1.heap.size, 3, none⟩) hq).trans c3
                      have hq6 : w1.heap.size < w6.heap.size := Nat.lt_of_lt_of_le hq hb6.size
                      clear c0 c1 c2 c3 hb6 hBr HO hq
                      go_wp2_with fail
                      go_roundw
                      case rel =>
                        refine ⟨j + 1, by go_num, by omega, ?_⟩
                        have hBW := hB6.out
                        have hsz6 := hBW.size
                        (repeat (first | with_reducible exact Below.refl _ _ | with_reducible exact hBW | with_reducible refine Below.setCell ?_ ?_ _ | with_reducible refine Below.alloc ?_ ?_ _ | with_reducible refine belowN ?_ _ | with_reducible refine Below.drew ?_)); all_goals (first | omega | (dsimp only; omega) | ((repeat (first | with_reducible refine le_alloc ?_ | with_reducible refine le_setCell ?_ | with_reducible refine le_drew ?_ | with_reducible refine le_drewN ?_)); omega))
                      case measure => simp [intOf]; omega
                    · have HO : Hid (getL (gDecide (gF rows cols row col) row col R C).O ((i : Int), (j : Int)) = none) := by
                        have := OW.out (i : Int) (j : Int)
                        rw [if_neg (by rintro ⟨_, h⟩; omega)] at this
                        exact this
                      have hd3 : decide ((j : Int) - col < C) = false := by simpa using hc3
                      clear hc3
                      go_wp2_with fail
                      refine (owner_o (B5.out.below hBr) (i : Int) (j : Int)).mono ?_
                      rintro e w6 ⟨rfl, _, hb6⟩
                      unfold ownerR
                      rw [HO.out]
                      first | rw [Option.getD_none, Option.isSome_none] | rw [Option.getD_some, Option.isSome_some]
                      unfold encR
                      have hB6 := Lib.hid (hBr.trans (hb6.mono hBr.size))
                      have d0 := (hb6.cell (p := ⟨w1.heap.size, 0, none⟩) hq).trans c0
                      have d1 := (hb6.cell (p := ⟨w1.heap.size, 1, none⟩) hq).trans c1
                      have d2 := (hb6.cell (p := ⟨w1.heap.size, 2, none⟩) hq).trans c2
                      have d3 := (hb6.cell (p := ⟨w1.heap.size, 3, none⟩) hq).trans c3
                      have hq6 : w1.heap.size < w6.heap.size := Nat.lt_of_lt_of_le hq hb6.size
                      clear c0 c1 c2 c3 hb6 hBr HO hq
                      go_wp2_with fail
                      go_roundw
                      case rel =>
                        refine ⟨j + 1, by go_num, by omega, ?_⟩
                        have hBW := hB6.out
                        have hsz6 := hBW.size
                        (repeat (first | with_reducible exact Below.refl _ _ | with_reducible exact hBW | with_reducible refine Below.setCell ?_ ?_ _ | with_reducible refine Below.alloc ?_ ?_ _ | with_reducible refine belowN ?_ _ | with_reducible refine Below.drew ?_)); all_goals (first | omega | (dsimp only; omega) | ((repeat (first | with_reducible refine le_alloc ?_ | with_reducible refine le_setCell ?_ | with_reducible refine le_drew ?_ | with_reducible refine le_drewN ?_)); omega))
                      case measure => simp [intOf]; omega
                  · have HO : Hid (getL (gDecide (gF rows cols row col) row col R C).O ((i : Int), (j : Int)) = none) := by
                      have := OW.out (i : Int) (j : Int)
                      rw [if_neg (by rintro ⟨_, h⟩; omega)] at this
                      exact this
                    have hd2 : decide ((i : Int) - row < R) = false := by simpa using hc2
                    clear hc2
                    go_wp2_with fail
                    refine (owner_o (B5.out.below hBr) (i : Int) (j : Int)).mono ?_
                    rintro e w6 ⟨rfl, _, hb6⟩
                    unfold ownerR
                    rw [HO.out]
                    first | rw [Option.getD_none, Option.isSome_none] | rw [Option.getD_some, Option.isSome_some]
                    unfold encR
                    have hB6 := Lib.hid (hBr.trans (hb6.mono hBr.size))
                    have d0 := (hb6.cell (p := ⟨w1.heap.size, 0, none⟩) hq).trans c0
                    have d1 := (hb6.cell (p := ⟨w1.heap.size, 1, none⟩) hq).trans c1
                    have d2 := (hb6.cell (p := ⟨w1.heap.size, 2, none⟩) hq).trans c2
                    have d3 := (hb6.cell (p := ⟨w1.heap.size, 3, none⟩) hq).trans c3
                    have hq6 : w1.heap.size < w6.heap.size := Nat.lt_of_lt_of_le hq hb6.size
                    clear c0 c1 c2 c3 hb6 hBr HO hq
                    go_wp2_with fail
                    go_roundw
                    case rel =>
                      refine ⟨j + 1, by go_num, by omega, ?_⟩
                      have hBW := hB6.out
                      have hsz6 := hBW.size
                      (repeat (first | with_reducible exact Below.refl _ _ | with_reducible exact hBW | with_reducible refine Below.setCell ?_ ?_ _ | with_reducible refine Below.alloc ?_ ?_ _ | with_reducible refine belowN ?_ _ | with_reducible refine Below.drew ?_)); all_goals (first | omega | (dsimp only; omega) | ((repeat (first | with_reducible refine le_alloc ?_ | with_reducible refine le_setCell ?_ | with_reducible refine le_drew ?_ | with_reducible refine le_drewN ?_)); omega))
                    case measure => simp [intOf]; omega
                · have HO : Hid (getL (gDecide (gF rows cols row col) row col R C).O ((i : Int), (j : Int)) = none) := by
                    have := OW.out (i : Int) (j : Int)
                    rw [if_neg (by rintro ⟨_, h⟩; omega)] at this
                    exact this
                  have hd1 : decide (col ≤ (j : Int)) = false := by simpa using hc1
                  clear hc1
                  go_wp2_with fail
                  refine (owner_o (B5.out.below hBr) (i : Int) (j : Int)).mono ?_
                  rintro e w6 ⟨rfl, _, hb6⟩
                  unfold ownerR
                  rw [HO.out]
                  first | rw [Option.getD_none, Option.isSome_none] | rw [Option.getD_some, Option.isSome_some]
                  unfold encR
                  have hB6 := Lib.hid (hBr.trans (hb6.mono hBr.size))
                  have d0 := (hb6.cell (p := ⟨w1.heap.size, 0, none⟩) hq).trans c0
                  have d1 := (hb6.cell (p := ⟨w1.heap.size, 1, none⟩) hq).trans c1
                  have d2 := (hb6.cell (p := ⟨w1.heap.size, 2, none⟩) hq).trans c2
                  have d3 := (hb6.cell (p := ⟨w1.heap.size, 3, none⟩) hq).trans c3
                  have hq6 : w1.heap.size < w6.heap.size := Nat.lt_of_lt_of_le hq hb6.size
                  clear c0 c1 c2 c3 hb6 hBr HO hq
                  go_wp2_with fail
                  go_roundw
                  case rel =>
                    refine ⟨j + 1, by go_num, by omega, ?_⟩
                    have hBW := hB6.out
                    have hsz6 := hBW.size
                    (repeat (first | with_reducible exact Below.refl _ _ | with_reducible exact hBW | with_reducible refine Below.setCell ?_ ?_ _ | with_reducible refine Below.alloc ?_ ?_ _ | with_reducible refine belowN ?_ _ | with_reducible refine Below.drew ?_)); all_goals (first | omega | (dsimp only; omega) | ((repeat (first | with_reducible refine le_alloc ?_ | with_reducible refine le_setCell ?_ | with_reducible refine le_drew ?_ | with_reducible refine le_drewN ?_)); omega))
                  case measure => simp [intOf]; omega
              · have HO : Hid (getL (gDecide (gF rows cols row col) row col R C).O ((i : Int), (j : Int)) = none) := by
                  have := OW.out (i : Int) (j : Int)
                  rw [if_neg (by rintro ⟨_, h⟩; omega)] at this
                  exact this
                have hd0 : decide (row ≤ (i : Int)) = false := by simpa using hc0
                clear hc0
                go_wp2_with fail
                refine (owner_o (B5.out.below hBr) (i : Int) (j : Int)).mono ?_
                rintro e w6 ⟨rfl, _, hb6⟩
                unfold ownerR
                rw [HO.out]
                first | rw [Option.getD_none, Option.isSome_none] | rw [Option.getD_some, Option.isSome_some]
                unfold encR
                have hB6 := Lib.hid (hBr.trans (hb6.mono hBr.size))
                have d0 := (hb6.cell (p := ⟨w1.heap.size, 0, none⟩) hq).trans c0
                have d1 := (hb6.cell (p := ⟨w1.heap.size, 1, none⟩) hq).trans c1
                have d2 := (hb6.cell (p := ⟨w1.heap.size, 2, none⟩) hq).trans c2
                have d3 := (hb6.cell (p := ⟨w1.heap.size, 3, none⟩) hq).trans c3
                have hq6 : w1.heap.size < w6.heap.size := Nat.lt_of_lt_of_le hq hb6.size
                clear c0 c1 c2 c3 hb6 hBr HO hq
                go_wp2_with fail
                go_roundw
                case rel =>
                  refine ⟨j + 1, by go_num, by omega, ?_⟩
                  have hBW := hB6.out
                  have hsz6 := hBW.size
                  (repeat (first | with_reducible exact Below.refl _ _ | with_reducible exact hBW | with_reducible refine Below.setCell ?_ ?_ _ | with_reducible refine Below.alloc ?_ ?_ _ | with_reducible refine belowN ?_ _ | with_reducible refine Below.drew ?_)); all_goals (first | omega | (dsimp only; omega) | ((repeat (first | with_reducible refine le_alloc ?_ | with_reducible refine le_setCell ?_ | with_reducible refine le_drew ?_ | with_reducible refine le_drewN ?_)); omega))
                case measure => simp [intOf]; omega
            · have HBr := Lib.hid hBr
              clear hBr
              go_wp2_with fail
              go_roundw
              case rel => exact ⟨i + 1, by go_num, by omega, HBr.out⟩
              case measure => simp [intOf]; omega
        · go_wp2_with fail
          refine (blocker_o (B5.out.below hBi) FW.out FL.out row col).mono ?_
          rintro e w6 ⟨rfl, _, hb6⟩
          rw [FR.out]
          have hB6 := Lib.hid (FB5.out.trans ((hBi.trans (hb6.mono hBi.size)).mono FB5.out.size))
          clear hb6 hBi
          go_wp2_with fail
          go_ret
          exact ⟨rfl, hB6.out⟩
    · have hf : (decide (R ≤ rows - row) && decide (C ≤ cols - col)) = false := by simp [hB]
      rw [hf] at OW ⊢
      clear hf
      have hB' : decide (C ≤ cols - col) = false := by simpa using hB
      clear hB
      go_wp2_with fail
      go_loopw [100] (fun x wr => ∃ i : Nat, x = .int .i64 i ∧ (i : Int) ≤ rows ∧ Below w5.heap.size w5 wr) (fun x _ => rows.toNat - (intOf x).toNat)
      case atStart => exact ⟨0, rfl, by omega, Below.refl _ _⟩
      case round =>
        obtain ⟨i, rfl, hi, hBi⟩ := hrel
        by_cases hlt : (i : Int) < rows
        · go_wp2_with fail
          obtain ⟨wo, rfl⟩ : ∃ wo : World, wo = wr := ⟨_, rfl⟩
          go_loopw [104] (fun x wr => ∃ j : Nat, x = .int .i64 j ∧ (j : Int) ≤ cols ∧ Below w5.heap.size w5 wr) (fun x _ => cols.toNat - (intOf x).toNat)
          case atStart => exact ⟨0, rfl, by omega, hBi⟩
          case round =>
            obtain ⟨j, rfl, hj, hBr⟩ := hrel
            clear hBi
            by_cases hjt : (j : Int) < cols
            · have ek := (hBr.block w1.heap.size (lt_of_heap ER5.out)).trans ER5.out
              have c0 := cell_of_heap ek 0
              have c1 := cell_of_heap ek 1
              have c2 := cell_of_heap ek 2
              have c3 := cell_of_heap ek 3
              have hq : w1.heap.size < wr.heap.size := lt_of_heap ek
              clear ek
              have HO : Hid (getL (gDecide (gF rows cols row col) row col R C).O ((i : Int), (j : Int)) = none) := by
                have := OW.out (i : Int) (j : Int)
                rw [if_neg (by simp)] at this
                exact this
              go_wp2_with fail
              refine (owner_o (B5.out.below hBr) (i : Int) (j : Int)).mono ?_
              rintro e w6 ⟨rfl, _, hb6⟩
              unfold ownerR
              rw [HO.out]
              first | rw [Option.getD_none, Option.isSome_none] | rw [Option.getD_some, Option.isSome_some]
              unfold encR
              have hB6 := Lib.hid (hBr.trans (hb6.mono hBr.size))
              have d0 := (hb6.cell (p := ⟨w1.heap.size, 0, none⟩) hq).trans c0
              have d1 := (hb6.cell (p := ⟨w1.heap.size, 1, none⟩) hq).trans c1
              have d2 := (hb6.cell (p := ⟨w1.heap.size, 2, none⟩) hq).trans c2
              have d3 := (hb6.cell (p := ⟨w1.heap.size, 3, none⟩) hq).trans c3
              have hq6 : w1.heap.size < w6.heap.size := Nat.lt_of_lt_of_le hq hb6.size
              clear c0 c1 c2 c3 hb6 hBr HO hq
              go_wp2_with fail
              go_roundw
              case rel =>
                refine ⟨j + 1, by go_num, by omega, ?_⟩
                have hBW := hB6.out
                have hsz6 := hBW.size
                (repeat (first | with_reducible exact Below.refl _ _ | with_reducible exact hBW | with_reducible refine Below.setCell ?_ ?_ _ | with_reducible refine Below.alloc ?_ ?_ _ | with_reducible refine belowN ?_ _ | with_reducible refine Below.drew ?_)); all_goals (first | omega | (dsimp only; omega) | ((repeat (first | with_reducible refine le_alloc ?_ | with_reducible refine le_setCell ?_ | with_reducible refine le_drew ?_ | with_reducible refine le_drewN ?_)); omega))
              case measure => simp [intOf]; omega
            · have HBr := Lib.hid hBr
              clear hBr
              go_wp2_with fail
              go_roundw
              case rel => exact ⟨i + 1, by go_num, by omega, HBr.out⟩
              case measure => simp [intOf]; omega
        · go_wp2_with fail
          refine (blocker_o (B5.out.below hBi) FW.out FL.out row col).mono ?_
          rintro e w6 ⟨rfl, _, hb6⟩
          rw [FR.out]
          have hB6 := Lib.hid (FB5.out.trans ((hBi.trans (hb6.mono hBi.size)).mono FB5.out.size))
          clear hb6 hBi
          go_wp2_with fail
          go_ret
          exact ⟨rfl, hB6.out⟩
  · have hf : (decide (R ≤ rows - row) && decide (C ≤ cols - col)) = false := by simp [hA]
    rw [hf] at OW ⊢
    clear hf
    have hA' : decide (R ≤ rows - row) = false := by simpa using hA
    clear hA
    go_wp2_with fail
    go_loopw [100] (fun x wr => ∃ i : Nat, x = .int .i64 i ∧ (i : Int) ≤ rows ∧ Below w5.heap.size w5 wr) (fun x _ => rows.toNat - (intOf x).toNat)
    case atStart => exact ⟨0, rfl, by omega, Below.refl _ _⟩
    case round =>
      obtain ⟨i, rfl, hi, hBi⟩ := hrel
      by_cases hlt : (i : Int) < rows
      · go_wp2_with fail
        obtain ⟨wo, rfl⟩ : ∃ wo : World, wo = wr := ⟨_, rfl⟩
        go_loopw [104] (fun x wr => ∃ j : Nat, x = .int .i64 j ∧ (j : Int) ≤ cols ∧ Below w5.heap.size w5 wr) (fun x _ => cols.toNat - (intOf x).toNat)
        case atStart => exact ⟨0, rfl, by omega, hBi⟩
        case round =>
          obtain ⟨j, rfl, hj, hBr⟩ := hrel
          clear hBi
          by_cases hjt : (j : Int) < cols
          · have ek := (hBr.block w1.heap.size (lt_of_heap ER5.out)).trans ER5.out
            have c0 := cell_of_heap ek 0
            have c1 := cell_of_heap ek 1
            have c2 := cell_of_heap ek 2
            have c3 := cell_of_heap ek 3
            have hq : w1.heap.size < wr.heap.size := lt_of_heap ek
            clear ek
            have HO : Hid (getL (gDecide (gF rows cols row col) row col R C).O ((i : Int), (j : Int)) = none) := by
              have := OW.out (i : Int) (j : Int)
              rw [if_neg (by simp)] at this
              exact this
            go_wp2_with fail
            refine (owner_o (B5.out.below hBr) (i : Int) (j : Int)).mono ?_
            rintro e w6 ⟨rfl, _, hb6⟩
            unfold ownerR
            rw [HO.out]
            first | rw [Option.getD_none, Option.isSome_none] | rw [Option.getD_some, Option.isSome_some]
            unfold encR
            have hB6 := Lib.hid (hBr.trans (hb6.mono hBr.size))
            have d0 := (hb6.cell (p := ⟨w1.heap.size, 0, none⟩) hq).trans c0
            have d1 := (hb6.cell (p := ⟨w1.heap.size, 1, none⟩) hq).trans c1
            have d2 := (hb6.cell (p := ⟨w1.heap.size, 2, none⟩) hq).trans c2
            have d3 := (hb6.cell (p := ⟨w1.heap.size, 3, none⟩) hq).trans c3
            have hq6 : w1.heap.size < w6.heap.size := Nat.lt_of_lt_of_le hq hb6.size
            clear c0 c1 c2 c3 hb6 hBr HO hq
            go_wp2_with fail
            go_roundw
            case rel =>
              refine ⟨j + 1, by go_num, by omega, ?_⟩
              have hBW := hB6.out
              have hsz6 := hBW.size
              (repeat (first | with_reducible exact Below.refl _ _ | with_reducible exact hBW | with_reducible refine Below.setCell ?_ ?_ _ | with_reducible refine Below.alloc ?_ ?_ _ | with_reducible refine belowN ?_ _ | with_reducible refine Below.drew ?_)); all_goals (first | omega | (dsimp only; omega) | ((repeat (first | with_reducible refine le_alloc ?_ | with_reducible refine le_setCell ?_ | with_reducible refine le_drew ?_ | with_reducible refine le_drewN ?_)); omega))
            case measure => simp [intOf]; omega
          · have HBr := Lib.hid hBr
            clear hBr
            go_wp2_with fail
            go_roundw
            case rel => exact ⟨i + 1, by go_num, by omega, HBr.out⟩
            case measure => simp [intOf]; omega
      · go_wp2_with fail
        refine (blocker_o (B5.out.below hBi) FW.out FL.out row col).mono ?_
        rintro e w6 ⟨rfl, _, hb6⟩
        rw [FR.out]
        have hB6 := Lib.hid (FB5.out.trans ((hBi.trans (hb6.mono hBi.size)).mono FB5.out.size))
        clear hb6 hBi
        go_wp2_with fail
        go_ret
        exact ⟨rfl, hB6.out⟩
end Go.Proofs.Ytihfmcadcojjnaa
