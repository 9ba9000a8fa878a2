/- The document's Add: the walk. -/
import Derived.Test.YtebifjjghogboaaD34RAdd
namespace Go.Proofs.Ytebifjjghogboaa
open Go.RowKit Go.Shelf Go.Maps
set_option maxHeartbeats 2000000 in
set_option maxRecDepth 100000 in
theorem radd_bad (aa : Option Addr) (cap : Nat) (M : List Id2) (a n : Int) (w : World) (HY : Hid (∀ w, Calls Try.prog 27 #[.agg #[.int .i64 a, .int .i64 n]] w fun e w' => e = .returned (.bool false) ∧ Below w.heap.size w w')) :
    Calls Try.prog 12 #[.slice aa M.length cap, .agg #[.int .i64 a, .int .i64 n]] w fun e w' => e = .returned (.tuple #[.slice aa M.length cap, .bool false]) ∧ Below w.heap.size w w' := by
  go_enter Try.func12, Try.ntmps12
  go_wp2_with fail
  refine (HY.out _).mono ?_
  rintro e w1 ⟨rfl, hb⟩
  have HB : Hid (Below w.heap.size w w1) := (below_alloc w _ _ (Nat.le_refl _)).trans (hb.mono (by simp))
  clear hb
  go_wp2_with fail
  refine bodyPost_ret (v := .tuple #[.slice aa M.length cap, .bool false]) (by simp [results, Try.results12, go_sem]) rfl ⟨rfl, HB.out⟩
set_option maxHeartbeats 2000000 in
set_option maxRecDepth 100000 in
theorem radd_old (aa : Option Addr) (cap : Nat) (M : List Id2) (a n : Int) (w : World) (hM : Hid (IdsAt w aa M)) (hlen : M.length ≤ 100000) (HY : Hid (∀ w, Calls Try.prog 27 #[.agg #[.int .i64 a, .int .i64 n]] w fun e w' => e = .returned (.bool true) ∧ Below w.heap.size w w')) (hh : Hid (rHas M (a, n) = true)) :
    Calls Try.prog 12 #[.slice aa M.length cap, .agg #[.int .i64 a, .int .i64 n]] w fun e w' => e = .returned (.tuple #[.slice aa M.length cap, .bool false]) ∧ Below w.heap.size w w' := by
  go_enter Try.func12, Try.ntmps12
  go_wp2_with fail
  refine (HY.out _).mono ?_
  rintro e w1 ⟨rfl, hb⟩
  have HB : Hid (Below w.heap.size w w1) := (below_alloc w _ _ (Nat.le_refl _)).trans (hb.mono (by simp))
  have g0 : w1.heap[w.heap.size]? = some (.cells #[.int .i64 a, .int .i64 n] 24) := (hb.block _ (by simp)).trans (by (repeat (first | (with_reducible refine heap_alloc_at ?_ _; (first | rfl | (simp; done) | omega | (simp; omega)); done) | with_reducible refine heap_alloc_old ?_ _ | with_reducible refine heap_drew_old ?_ | with_reducible refine heap_drewN_old ?_)))
  have k0 := cell_of_heap g0 0
  have k1 := cell_of_heap g0 1
  have z1 := lt_of_heap g0
  clear hb g0
  go_wp2_with fail
  refine (refHas_any aa cap M (a, n) w1 (hM.out.below HB.out) hlen).mono ?_
  rw [hh.out]
  rintro e w2 ⟨rfl, hb2⟩
  have HB2 : Hid (Below w.heap.size w w2) := HB.out.trans (hb2.mono HB.out.size)
  clear hb2 k0 k1 z1
  go_wp2_with fail
  refine bodyPost_ret (v := .tuple #[.slice aa M.length cap, .bool false]) (by simp [results, Try.results12, go_sem]) rfl ⟨rfl, HB2.out⟩
set_option maxHeartbeats 4000000 in
set_option maxRecDepth 100000 in
theorem radd_new (aa : Option Addr) (cap : Nat) (M : List Id2) (a n : Int) (w : World) (hM : Hid (IdsAt w aa M)) (hlen : M.length ≤ 100000) (HY : Hid (∀ w, Calls Try.prog 27 #[.agg #[.int .i64 a, .int .i64 n]] w fun e w' => e = .returned (.bool true) ∧ Below w.heap.size w w')) (hh : Hid (rHas M (a, n) = false)) :
    Calls Try.prog 12 #[.slice aa M.length cap, .agg #[.int .i64 a, .int .i64 n]] w fun e w' => ∃ v, e = .returned (.tuple #[v, .bool true]) ∧ RowSt w w' (a, n) v (endA (a, n) (M.foldl (stepA (a, n)) ([], false))) := by
  obtain ⟨i0, hi, hz0, hz1, hz2⟩ := info_parts info24
  have HI := Lib.hid hi
  have HZ0 := Lib.hid hz0
  have HZ1 := Lib.hid hz1
  have HZ2 := Lib.hid hz2
  clear hi hz0 hz1 hz2
  go_enter Try.func12, Try.ntmps12
  go_wp2_with fail
  refine (HY.out _).mono ?_
  rintro e w1 ⟨rfl, hb⟩
  have HB : Hid (Below w.heap.size w w1) := (below_alloc w _ _ (Nat.le_refl _)).trans (hb.mono (by simp))
  have g0 : w1.heap[w.heap.size]? = some (.cells #[.int .i64 a, .int .i64 n] 24) := (hb.block _ (by simp)).trans (by (repeat (first | (with_reducible refine heap_alloc_at ?_ _; (first | rfl | (simp; done) | omega | (simp; omega)); done) | with_reducible refine heap_alloc_old ?_ _ | with_reducible refine heap_drew_old ?_ | with_reducible refine heap_drewN_old ?_)))
  have k0 := cell_of_heap g0 0
  have k1 := cell_of_heap g0 1
  have z1 := lt_of_heap g0
  have G0 := Lib.hid g0
  clear hb g0
  go_wp2_with fail
  refine (refHas_any aa cap M (a, n) w1 (hM.out.below HB.out) hlen).mono ?_
  rw [hh.out]
  rintro e w2 ⟨rfl, hb2⟩
  have HB2 : Hid (Below w.heap.size w w2) := HB.out.trans (hb2.mono HB.out.size)
  have G2 : Hid (w2.heap[w.heap.size]? = some (.cells #[.int .i64 a, .int .i64 n] 24)) := (hb2.block _ z1).trans G0.out
  have z2 : w.heap.size < w2.heap.size := lt_of_heap G2.out
  clear hb2 k0 k1 z1 G0 HB hh HY
  go_wp2_with fail
  have R0 : Hid (RowSt w (w2.alloc (.cells #[] 24)) (a, n) (.slice (some ⟨w2.heap.size, 0, none⟩) 0 0) []) :=
    ⟨HB2.out.alloc HB2.out.size _, heap_alloc_old G2.out _, rfl, .inr ⟨w2.heap.size, 0, #[], rfl, z2, heap_alloc_new _ _, Nat.le_refl _, Nat.zero_le _, rfl, rfl⟩⟩
  clear HB2 G2 z2
  go_loopw [6, 7, 8] (fun ov dv iv wr => ∃ (k : Nat) (out : List Id2) (dn : Bool), iv = .int .i64 k ∧ k ≤ M.length ∧ dv = .bool dn ∧ Hid ((M.take k).foldl (stepA (a, n)) ([], false) = (out, dn)) ∧ Hid (RowSt w wr (a, n) ov out)) (fun _ _ iv _ => M.length - (intOf iv).toNat)
  case atStart => exact ⟨0, [], false, rfl, Nat.zero_le _, rfl, rfl, R0⟩
  case round =>
    clear R0
    obtain ⟨k, out, dn, rfl, hk, rfl, hS, hR⟩ := hrel
    have hol : out.length ≤ 2 * k := by
      have h1 := stepA_len (a, n) (M.take k) ([], false)
      rw [hS.out, List.length_take] at h1
      simp only [List.length_nil] at h1
      omega
    by_cases hlt : k < M.length
    · obtain ⟨⟨x1, x2⟩, hx⟩ : ∃ x, M[k]? = some x := ⟨_, List.getElem?_eq_getElem hlt⟩
      obtain ⟨b, off, rfl, hb, d1, d2⟩ := (hM.out.below hR.out.1).at hx
      simp only at d1 d2
      have TK : Hid ((M.take (k + 1)).foldl (stepA (a, n)) ([], false) = stepA (a, n) (out, dn) (x1, x2)) := by
        unfold Hid
        rw [stepA_take (a, n) hx, hS.out]
      have j1 : (0 : Int) ≤ (k : Int) := by omega
      have j2 : (k : Int) < (M.length : Int) := by omega
      have k0 := cell_of_heap hR.out.2.1 0
      have k1 := cell_of_heap hR.out.2.1 1
      have z1 := lt_of_heap hR.out.2.1
      have HX := Lib.hid hx
      clear hx hS
      go_wp2_with fail
      by_cases h1 : x1 = a
      · subst h1
        have TN : Hid ((M.take (k + 1)).foldl (stepA (x1, n)) ([], false) = (out, dn)) := by unfold Hid; rw [TK.out]; simp [stepA]
        refine wp_region_mix [0, 1, 2, 3, 4, 5, 6, 7] [] [] (Below wr.heap.size wr) (by kernel_rfl) (by kernel_rfl) (Below.refl _ _).drew ?_
        iterate 8 (first | (apply first_step; (rw [List.getElem?_toArray]; (repeat rw [List.getElem?_cons_succ]); rw [List.getElem?_cons_zero]); rfl; (intro W hB; have hc := bcellB hB; go_simp; (first | done | rfl)); go_frame) | (apply first_skip; (rw [List.getElem?_toArray]; (repeat rw [List.getElem?_cons_succ]); rw [List.getElem?_cons_zero]); rfl; go_frame))
        refine first_done ?_
        refine tail_done ?_
        have RN := Lib.hid (hR.out.below (Below.refl _ wr).drew)
        clear d1 d2 k0 k1
        go_wp2
        go_roundw
        case rel => exact ⟨k + 1, out, dn, by go_num, by omega, rfl, TN, RN⟩
        case measure => simp [intOf]; omega
      · have t1 : (x1 == a) = false := by simpa using h1
        refine wp_region_mix [0, 1, 2, 3, 4, 5, 6, 7] [] [] (Below wr.heap.size wr) (by kernel_rfl) (by kernel_rfl) (Below.refl _ _).drew ?_
        iterate 8 (first | (apply first_step; (rw [List.getElem?_toArray]; (repeat rw [List.getElem?_cons_succ]); rw [List.getElem?_cons_zero]); rfl; (intro W hB; have hc := bcellB hB; go_simp; (first | done | rfl)); go_frame) | (apply first_skip; (rw [List.getElem?_toArray]; (repeat rw [List.getElem?_cons_succ]); rw [List.getElem?_cons_zero]); rfl; go_frame))
        refine first_done ?_
        refine tail_done ?_
        have RN := Lib.hid (hR.out.below (Below.refl _ wr).drew)
        clear t1 hR d1 d2 k0 k1 z1 hb
        go_wp2_with fail
        refine abs_world ?_
        intro W3 hW3
        rw [← hW3] at RN
        clear hW3
        obtain ⟨b_, off_, e_, hb, d1, d2⟩ := (hM.out.below RN.out.1).at HX.out
        simp only [Option.some.injEq, Addr.mk.injEq] at e_
        obtain ⟨rfl, rfl, _⟩ := e_
        simp only at d1 d2
        have k0 := cell_of_heap RN.out.2.1 0
        have k1 := cell_of_heap RN.out.2.1 1
        have z1 := lt_of_heap RN.out.2.1
        by_cases hc : dn = false ∧ a < x1
        · obtain ⟨rfl, h2⟩ := hc
          have TN : Hid ((M.take (k + 1)).foldl (stepA (a, n)) ([], false) = (out ++ [(a, n)] ++ [(x1, x2)], true)) := by unfold Hid; rw [TK.out]; simp [stepA, h1, h2]
          refine wp_region_mix [0, 1, 2, 3, 4, 5, 6, 7, 8, 9, 10, 11] [] [] (Below W3.heap.size W3) (by kernel_rfl) (by kernel_rfl) (Below.refl _ _).drew ?_
          iterate 12 (first | (apply first_step; (rw [List.getElem?_toArray]; (repeat rw [List.getElem?_cons_succ]); rw [List.getElem?_cons_zero]); rfl; (intro W hB; have hc := bcellB hB; go_simp; (first | done | rfl)); go_frame) | (apply first_skip; (rw [List.getElem?_toArray]; (repeat rw [List.getElem?_cons_succ]); rw [List.getElem?_cons_zero]); rfl; go_frame))
          refine first_done ?_
          refine tail_done ?_
          have RM := Lib.hid (RN.out.below (Below.refl _ W3).drew)
          clear TK
          have hl4 : (out ++ [(a, n)]).length = out.length + 1 := by simp
          go_wp2_with (first | (at_builtin; refine wpList_append_own_at _ rfl _ _ 22 rfl (w.heap.size + 1) 24 i0 (.agg #[.int .i64 0, .int .i64 0]) 2 16 Try.underlying22 HI.out HZ0.out HZ1.out HZ2.out rfl (by decide) _ _ _ rfl (R4.out.2.2.alloc _) ⟨w4.heap.size, 0, none⟩ 1 1 (c2 (x1, x2)) rfl rfl (cells_new _ #[.int .i64 x1, .int .i64 x2] 24) (by simp [c2, Value.oneCell']) (by unfold maxLen; omega) (by omega) (by have := lt_of_heap R4.out.2.1; simp; omega) ?_; intro v5 w5 hown hgrow _ _) | (at_builtin; refine wpList_append_own_at _ rfl _ _ 22 rfl (w.heap.size + 1) 24 i0 (.agg #[.int .i64 0, .int .i64 0]) 2 16 Try.underlying22 HI.out HZ0.out HZ1.out HZ2.out rfl (by decide) _ _ _ rfl (RM.out.2.2.alloc _) ⟨W3.drew.heap.size, 0, none⟩ 1 1 (c2 (a, n)) rfl rfl (cells_new _ #[.int .i64 a, .int .i64 n] 24) (by simp [c2, Value.oneCell']) (by unfold maxLen; omega) (by omega) (by have := lt_of_heap RM.out.2.1; simp; omega) ?_; intro v4 w4 hown hgrow _ _; have R4 := Lib.hid (RM.out.app (below_alloc _ _ _ (Nat.le_refl _)) hown hgrow); clear hown hgrow d1 d2 k0 k1 z1 hb; obtain ⟨b_, off_, e_, hb, d1, d2⟩ := (hM.out.below R4.out.1).at HX.out; simp only [Option.some.injEq, Addr.mk.injEq] at e_; obtain ⟨rfl, rfl, _⟩ := e_; simp only at d1 d2; have k0 := cell_of_heap R4.out.2.1 0; have k1 := cell_of_heap R4.out.2.1 1; have z1 := lt_of_heap R4.out.2.1))
          have R5 := Lib.hid (R4.out.app (below_alloc _ _ _ (Nat.le_refl _)) hown hgrow)
          clear hown hgrow d1 d2 k0 k1 z1 hb
          go_wp2
          go_roundw
          case rel => exact ⟨k + 1, _, _, by go_num, by omega, rfl, TN, R5⟩
          case measure => simp [intOf]; omega
        · have TN : Hid ((M.take (k + 1)).foldl (stepA (a, n)) ([], false) = (out ++ [(x1, x2)], dn)) := by
            unfold Hid
            rw [TK.out]
            cases dn with
            | true => simp [stepA, h1]
            | false =>
              have h2 : ¬ a < x1 := fun h => hc ⟨rfl, h⟩
              simp [stepA, h1, h2]
          clear TK
          cases dn with
          | true =>
            refine wp_region_mix [0, 1, 2, 3, 4, 5, 6, 7, 8, 9, 10, 11] [] [] (Below W3.heap.size W3) (by kernel_rfl) (by kernel_rfl) (Below.refl _ _).drew ?_
            iterate 12 (first | (apply first_step; (rw [List.getElem?_toArray]; (repeat rw [List.getElem?_cons_succ]); rw [List.getElem?_cons_zero]); rfl; (intro W hB; have hc := bcellB hB; go_simp; (first | done | rfl)); go_frame) | (apply first_skip; (rw [List.getElem?_toArray]; (repeat rw [List.getElem?_cons_succ]); rw [List.getElem?_cons_zero]); rfl; go_frame))
            refine first_done ?_
            refine tail_done ?_
            have RM := Lib.hid (RN.out.below (Below.refl _ W3).drew)
            go_wp2_with (at_builtin; refine wpList_append_own_at _ rfl _ _ 22 rfl (w.heap.size + 1) 24 i0 (.agg #[.int .i64 0, .int .i64 0]) 2 16 Try.underlying22 HI.out HZ0.out HZ1.out HZ2.out rfl (by decide) _ _ _ rfl (RM.out.2.2.alloc _) ⟨W3.drew.heap.size, 0, none⟩ 1 1 (c2 (x1, x2)) rfl rfl (cells_new _ #[.int .i64 x1, .int .i64 x2] 24) (by simp [c2, Value.oneCell']) (by unfold maxLen; omega) (by omega) (by have := lt_of_heap RM.out.2.1; simp; omega) ?_; intro v5 w5 hown hgrow _ _)
            have R5 := Lib.hid (RM.out.app (below_alloc _ _ _ (Nat.le_refl _)) hown hgrow)
            clear hown hgrow d1 d2 k0 k1 z1 hb
            go_wp2
            go_roundw
            case rel => exact ⟨k + 1, _, _, by go_num, by omega, rfl, TN, R5⟩
            case measure => simp [intOf]; omega
          | false =>
            have h2 : ¬ a < x1 := fun h => hc ⟨rfl, h⟩
            have t2 : decide (a < x1) = false := by simpa using h2
            refine wp_region_mix [0, 1, 2, 3, 4, 5, 6, 7, 8, 9, 10, 11] [] [] (Below W3.heap.size W3) (by kernel_rfl) (by kernel_rfl) (Below.refl _ _).drew ?_
            iterate 12 (first | (apply first_step; (rw [List.getElem?_toArray]; (repeat rw [List.getElem?_cons_succ]); rw [List.getElem?_cons_zero]); rfl; (intro W hB; have hc := bcellB hB; go_simp; (first | done | rfl)); go_frame) | (apply first_skip; (rw [List.getElem?_toArray]; (repeat rw [List.getElem?_cons_succ]); rw [List.getElem?_cons_zero]); rfl; go_frame))
            refine first_done ?_
            refine tail_done ?_
            have RM := Lib.hid (RN.out.below (Below.refl _ W3).drew)
            go_wp2_with (at_builtin; refine wpList_append_own_at _ rfl _ _ 22 rfl (w.heap.size + 1) 24 i0 (.agg #[.int .i64 0, .int .i64 0]) 2 16 Try.underlying22 HI.out HZ0.out HZ1.out HZ2.out rfl (by decide) _ _ _ rfl (RM.out.2.2.alloc _) ⟨W3.drew.heap.size, 0, none⟩ 1 1 (c2 (x1, x2)) rfl rfl (cells_new _ #[.int .i64 x1, .int .i64 x2] 24) (by simp [c2, Value.oneCell']) (by unfold maxLen; omega) (by omega) (by have := lt_of_heap RM.out.2.1; simp; omega) ?_; intro v5 w5 hown hgrow _ _)
            have R5 := Lib.hid (RM.out.app (below_alloc _ _ _ (Nat.le_refl _)) hown hgrow)
            clear hown hgrow d1 d2 k0 k1 z1 hb
            go_wp2
            go_roundw
            case rel => exact ⟨k + 1, _, _, by go_num, by omega, rfl, TN, R5⟩
            case measure => simp [intOf]; omega
    · rw [List.take_of_length_le (by omega)] at hS
      cases dn with
      | true =>
        have TE : Hid (endA (a, n) (M.foldl (stepA (a, n)) ([], false)) = out) := by unfold Hid; rw [hS.out]; rfl
        go_wp2_with fail
        refine bodyPost_ret (v := .tuple #[u6, .bool true]) (by simp [results, Try.results12, go_sem]) rfl ⟨_, rfl, ?_⟩
        rw [TE.out]
        exact hR.out
      | false =>
        have TE : Hid (endA (a, n) (M.foldl (stepA (a, n)) ([], false)) = out ++ [(a, n)]) := by unfold Hid; rw [hS.out]; rfl
        have k0 := cell_of_heap hR.out.2.1 0
        have k1 := cell_of_heap hR.out.2.1 1
        have z1 := lt_of_heap hR.out.2.1
        go_wp2_with (at_builtin; refine wpList_append_own_at _ rfl _ _ 22 rfl (w.heap.size + 1) 24 i0 (.agg #[.int .i64 0, .int .i64 0]) 2 16 Try.underlying22 HI.out HZ0.out HZ1.out HZ2.out rfl (by decide) _ _ _ rfl (hR.out.2.2.alloc _) ⟨wr.heap.size, 0, none⟩ 1 1 (c2 (a, n)) rfl rfl (cells_new _ #[.int .i64 a, .int .i64 n] 24) (by simp [c2, Value.oneCell']) (by unfold maxLen; omega) (by omega) (by have := lt_of_heap hR.out.2.1; simp; omega) ?_; intro v5 w5 hown hgrow _ _)
        have R5 := Lib.hid (hR.out.app (below_alloc _ _ _ (Nat.le_refl _)) hown hgrow)
        clear hown hgrow k0 k1 z1
        go_wp2_with fail
        refine bodyPost_ret (v := .tuple #[v5, .bool true]) (by simp [results, Try.results12, go_sem]) rfl ⟨_, rfl, ?_⟩
        rw [TE.out]
        exact R5.out
end Go.Proofs.Ytebifjjghogboaa
