/- The document's answers: truths and faults as values, what a value is as a truth, capital letters. -/
import Derived.Test.YtgbedjeiihigaaaF13RightA
import Derived.Test.YtgbedjeiihigaaaF13Fold2
namespace Go.Proofs.Ytgbedjeiihigaaa
open Go.RowKit
set_option maxHeartbeats 400000 in
theorem rTruth_any (b : Bool) (w : World) : Calls Try.prog 46 #[.bool b] w fun e w' => e = .returned (vagg (vTruth b)) ∧ Below w.heap.size w w' := by
  go_enter Try.func46, Try.ntmps46
  go_wp2
  refine bodyPost_ret (v := vagg (vTruth b)) (by simp [results, Try.results46, go_sem, vagg, vTruth]) rfl ⟨rfl, ?_⟩
  (repeat (first | with_reducible exact Below.refl _ _ | with_reducible exact hBW | with_reducible refine Below.setCell ?_ ?_ _ | with_reducible refine Below.alloc ?_ ?_ _ | with_reducible refine belowN ?_ _ | with_reducible refine Below.drew ?_)); all_goals (first | omega | (dsimp only; omega) | ((repeat (first | with_reducible refine le_alloc ?_ | with_reducible refine le_setCell ?_ | with_reducible refine le_drew ?_ | with_reducible refine le_drewN ?_)); omega))
set_option maxHeartbeats 400000 in
theorem rBad_in (f : Int) (w : World) (h1 : 1 ≤ f) (h2 : f ≤ 9) : Calls Try.prog 45 #[.int .i64 f] w fun e w' => e = .returned (vagg (vBad f)) ∧ Below w.heap.size w w' := by
  have hv : vBad f = ⟨4, 0, 0, ⟨#[]⟩, false, f⟩ := by unfold vBad; rw [if_neg (by omega)]
  rw [hv]
  go_enter Try.func45, Try.ntmps45
  go_wp2
  refine bodyPost_ret (v := vagg ⟨4, 0, 0, ⟨#[]⟩, false, f⟩) (by simp [results, Try.results45, go_sem, vagg]) rfl ⟨rfl, ?_⟩
  (repeat (first | with_reducible exact Below.refl _ _ | with_reducible exact hBW | with_reducible refine Below.setCell ?_ ?_ _ | with_reducible refine Below.alloc ?_ ?_ _ | with_reducible refine belowN ?_ _ | with_reducible refine Below.drew ?_)); all_goals (first | omega | (dsimp only; omega) | ((repeat (first | with_reducible refine le_alloc ?_ | with_reducible refine le_setCell ?_ | with_reducible refine le_drew ?_ | with_reducible refine le_drewN ?_)); omega))
set_option maxHeartbeats 400000 in
theorem r09Bad_any (f : Int) (w : World) : Calls Try.prog 25 #[.int .i64 f] w (ArrPost w ⟨1, 1, [⟨4, 0, 0, ⟨#[]⟩, false, f⟩]⟩) := by
  go_enter Try.func25, Try.ntmps25
  go_wp2_with fail
  refine bodyPost_ret (v := .agg #[.int .i64 1, .int .i64 1, .slice (some ⟨w.heap.size + 1, 0, none⟩) 1 1]) (by simp [results, Try.results25, go_sem]) rfl ⟨_, rfl, ⟨_, 1, rfl, slv_one (by omega) (by (repeat (first | (with_reducible refine heap_alloc_at ?_ _; (first | rfl | (simp; done) | omega | (simp; omega)); done) | with_reducible refine heap_alloc_old ?_ _ | with_reducible refine heap_drew_old ?_ | with_reducible refine heap_drewN_old ?_)))⟩, ?_⟩
  (repeat (first | with_reducible exact Below.refl _ _ | with_reducible exact hBW | with_reducible refine Below.setCell ?_ ?_ _ | with_reducible refine Below.alloc ?_ ?_ _ | with_reducible refine belowN ?_ _ | with_reducible refine Below.drew ?_)); all_goals (first | omega | (dsimp only; omega) | ((repeat (first | with_reducible refine le_alloc ?_ | with_reducible refine le_setCell ?_ | with_reducible refine le_drew ?_ | with_reducible refine le_drewN ?_)); omega))
set_option maxHeartbeats 400000 in
theorem r09One_any (v : V) (hR : refR v = true) (w : World) : Calls Try.prog 26 #[vagg v] w (ArrPost w ⟨1, 1, [v]⟩) := by
  have HR := Lib.hid (ref02_any v)
  rw [hR] at HR
  clear hR
  obtain ⟨k, m, e, t, b, f⟩ := v
  unfold vagg at HR ⊢
  simp only at HR ⊢
  go_enter Try.func26, Try.ntmps26
  go_wp2_with fail
  refine (HR.out _).mono ?_
  rintro e' w1 ⟨rfl, hb⟩
  have hs1 : w.heap.size + 1 + 1 ≤ w1.heap.size := by have := hb.size; simpa using this
  have g1 : w1.heap[w.heap.size]? = some (.cells #[.int .i64 k, .int .i64 m, .int .i64 e, .string t, .bool b, .int .i64 f] 36) := (hb.block _ (by simp; omega)).trans (by (repeat (first | (with_reducible refine heap_alloc_at ?_ _; (first | rfl | (simp; done) | omega | (simp; omega)); done) | with_reducible refine heap_alloc_old ?_ _ | with_reducible refine heap_drew_old ?_ | with_reducible refine heap_drewN_old ?_)))
  have g2 : w1.heap[w.heap.size + 1]? = some (.cells #[.int .i64 0, .int .i64 0, .slice none 0 0] 27) := (hb.block _ (by simp)).trans (by (repeat (first | (with_reducible refine heap_alloc_at ?_ _; (first | rfl | (simp; done) | omega | (simp; omega)); done) | with_reducible refine heap_alloc_old ?_ _ | with_reducible refine heap_drew_old ?_ | with_reducible refine heap_drewN_old ?_)))
  have FB : Hid (Below w.heap.size w w1) := by
    refine Below.trans ?_ (hb.mono (by simp; omega))
    (repeat (first | with_reducible exact Below.refl _ _ | with_reducible exact hBW | with_reducible refine Below.setCell ?_ ?_ _ | with_reducible refine Below.alloc ?_ ?_ _ | with_reducible refine belowN ?_ _ | with_reducible refine Below.drew ?_)); all_goals (first | omega | (dsimp only; omega) | ((repeat (first | with_reducible refine le_alloc ?_ | with_reducible refine le_setCell ?_ | with_reducible refine le_drew ?_ | with_reducible refine le_drewN ?_)); omega))
  have x1 := cell_of_heap g1
  have c1 := cell_of_heap g2
  have y1 := frozen_of_heap g2
  have hn1 : w.heap.size < w1.heap.size := by omega
  have hn2 : w.heap.size + 1 < w1.heap.size := by omega
  clear hb g1 g2
  go_wp2_with fail
  have hBW := FB.out
  refine bodyPost_ret (v := .agg #[.int .i64 1, .int .i64 1, .slice (some ⟨w1.heap.size, 0, none⟩) 1 1]) (by simp [results, Try.results26, go_sem, c1, hn2]) rfl ⟨_, rfl, ⟨_, 1, rfl, slv_one (by omega) (by (repeat (first | (with_reducible refine heap_alloc_at ?_ _; (first | rfl | (simp; done) | omega | (simp; omega)); done) | with_reducible refine heap_alloc_old ?_ _ | with_reducible refine heap_drew_old ?_ | with_reducible refine heap_drewN_old ?_)))⟩, ?_⟩
  (repeat (first | with_reducible exact Below.refl _ _ | with_reducible exact hBW | with_reducible refine Below.setCell ?_ ?_ _ | with_reducible refine Below.alloc ?_ ?_ _ | with_reducible refine belowN ?_ _ | with_reducible refine Below.drew ?_)); all_goals (first | omega | (dsimp only; omega) | ((repeat (first | with_reducible refine le_alloc ?_ | with_reducible refine le_setCell ?_ | with_reducible refine le_drew ?_ | with_reducible refine le_drewN ?_)); omega))
theorem conv1 (W : World) (c : UInt8) (x : Int) (hx : (c.toNat : Int) = x) : (convert 93 9 (.slice (some ⟨W.heap.size, 0, none⟩) 1 1)).run Try.prog (W.alloc (.cells #[.int .u8 x] 5)) = .ok (.string ⟨#[c]⟩) (W.alloc (.cells #[.int .u8 x] 5)) := by
  have := run_convert_bytes_back (P := Try.prog) (W.alloc (.cells #[.int .u8 x] 5)) 93 9 5 ⟨W.heap.size, 0, none⟩ 1 [c] Try.underlying93 Try.underlying5 Try.underlying9 (fun j hj => by
    have : j = 0 := by simp at hj; omega
    subst this
    show (W.alloc (.cells #[.int .u8 x] 5)).cell? ⟨W.heap.size, 0, none⟩ = _
    rw [cell_of_heap (heap_alloc_new W _)]
    simp [hx])
  simpa using this
theorem up_take {s : ByteArray} {k : Nat} {c : UInt8} (hc : s.data.toList[k]? = some c) : (⟨(upL (s.data.toList.take k)).toArray⟩ : ByteArray) ++ ⟨#[upB c]⟩ = ⟨(upL (s.data.toList.take (k + 1))).toArray⟩ := by
  apply ByteArray.ext
  rw [ByteArray.data_append]
  rw [List.take_add_one, hc]
  simp [upL]
set_option maxHeartbeats 1000000 in
set_option maxRecDepth 100000 in
theorem rfold_any (s : ByteArray) (hs : s.size ≤ 255) (w : World) : Calls Try.prog 62 #[.string s] w fun e w' => e = .returned (.string ⟨(upL s.data.toList).toArray⟩) ∧ Below w.heap.size w w' := by
  go_enter Try.func62, Try.ntmps62
  go_wp2_with fail
  go_loopw [4, 3] (fun i o wr => ∃ k : Nat, ∃ t : ByteArray, i = .int .i64 k ∧ k ≤ s.size ∧ o = .string t ∧ t.size ≤ 255 ∧ Hid (t = ⟨(upL (s.data.toList.take k)).toArray⟩) ∧ Hid (Below w.heap.size w wr)) (fun i _ _ => s.size - (intOf i).toNat)
  case atStart => exact ⟨0, ⟨#[]⟩, rfl, Nat.zero_le _, rfl, by decide, rfl, Below.refl _ _⟩
  case round =>
    obtain ⟨k, t, rfl, hk, rfl, ht, hT, hB⟩ := hrel
    have hsz : s.data.toList.length = s.size := by rw [Array.length_toList]; rfl
    by_cases hlt : k < s.size
    · have hc : s.data.toList[k]? = some s[k] := by
        rw [List.getElem?_eq_getElem (by omega)]
        rfl
      have NX : Hid (t ++ ⟨#[upB s[k]]⟩ = ⟨(upL (s.data.toList.take (k + 1))).toArray⟩) := by
        rw [hT.out]
        exact up_take hc
      have NS : (t ++ (⟨#[upB s[k]]⟩ : ByteArray)).size ≤ 255 := by
        rw [NX.out]
        show (upL (s.data.toList.take (k + 1))).toArray.size ≤ 255
        simp [upL]
        omega
      by_cases hu : (97 ≤ (s[k].toNat : Int) ∧ (s[k].toNat : Int) ≤ 122)
      · have hv := conv1 wr (upB s[k]) ((s[k].toNat : Int) - 32) (by rw [upB_hi hu.1 hu.2]; omega)
        obtain ⟨h1, h2⟩ := hu
        clear hc hT
        generalize upB s[k] = c at hv NX NS
        go_wp2_with fail
        go_roundw
        case rel => exact ⟨k + 1, _, by go_num, by omega, rfl, NS, NX, hB.out.alloc hB.out.size _⟩
        case measure => simp [intOf]; omega
      · have hv := conv1 wr (upB s[k]) (s[k].toNat : Int) (by rw [upB_lo hu])
        have hd : (decide (97 ≤ (s[k].toNat : Int)) && decide ((s[k].toNat : Int) ≤ 122)) = false := by
          by_cases h1 : 97 ≤ (s[k].toNat : Int)
          · have h2 : ¬ (s[k].toNat : Int) ≤ 122 := fun h => hu ⟨h1, h⟩
            simp [h2]
          · simp [h1]
        clear hc hT
        by_cases h1 : 97 ≤ (s[k].toNat : Int)
        · have h2 : ¬ (s[k].toNat : Int) ≤ 122 := fun h => hu ⟨h1, h⟩
          clear hu hd
          generalize upB s[k] = c at hv NX NS
          go_wp2_with fail
          go_roundw
          case rel => exact ⟨k + 1, _, by go_num, by omega, rfl, NS, NX, hB.out.alloc hB.out.size _⟩
          case measure => simp [intOf]; omega
        · clear hu hd
          generalize upB s[k] = c at hv NX NS
          go_wp2_with fail
          go_roundw
          case rel => exact ⟨k + 1, _, by go_num, by omega, rfl, NS, NX, hB.out.alloc hB.out.size _⟩
          case measure => simp [intOf]; omega
    · have ET : Hid (t = ⟨(upL s.data.toList).toArray⟩) := by
        have := hT.out
        rwa [List.take_of_length_le (by omega)] at this
      clear hT
      go_wp2_with fail
      go_ret
      exact ⟨by rw [← ET.out]; rfl, hB.out⟩
section
variable (m e : Int) (t : ByteArray) (b : Bool) (f : Int) (w : World)
set_option maxHeartbeats 1000000
set_option maxRecDepth 100000
theorem rtt_4 : Calls Try.prog 44 #[.agg #[.int .i64 4, .int .i64 m, .int .i64 e, .string t, .bool b, .int .i64 f]] w fun r w' => r = .returned (.tuple #[.bool false, .int .i64 f]) ∧ Below w.heap.size w w' := by
  go_enter Try.func44, Try.ntmps44
  go_wp2
  refine abs_world ?_
  intro W1 hW1
  have hB1 : Below w.heap.size w W1 := by rw [hW1]; (repeat (first | with_reducible exact Below.refl _ _ | with_reducible exact hBW | with_reducible refine Below.setCell ?_ ?_ _ | with_reducible refine Below.alloc ?_ ?_ _ | with_reducible refine belowN ?_ _ | with_reducible refine Below.drew ?_)); all_goals (first | omega | (dsimp only; omega) | ((repeat (first | with_reducible refine le_alloc ?_ | with_reducible refine le_setCell ?_ | with_reducible refine le_drew ?_ | with_reducible refine le_drewN ?_)); omega))
  have ev : W1.heap[w.heap.size]? = some (.cells #[.int .i64 4, .int .i64 m, .int .i64 e, .string t, .bool b, .int .i64 f] 36) := by rw [hW1]; (repeat (first | (with_reducible refine heap_alloc_at ?_ _; (first | rfl | (simp; done) | omega | (simp; omega)); done) | with_reducible refine heap_alloc_old ?_ _ | with_reducible refine heap_drew_old ?_ | with_reducible refine heap_drewN_old ?_))
  have hv1 : w.heap.size < W1.heap.size := lt_of_heap ev
  have k5 := cell_of_heap ev 5
  clear hW1 ev
  refine wp_region_multi [([0, 1, 2, 3], [], [])] (by kernel_rfl) (by kernel_rfl) ?_
  refine multi_phase (Below W1.heap.size W1) (Below.refl _ _).drew ?_
  iterate 4 (first | (apply first_step; (rw [List.getElem?_toArray]; (repeat rw [List.getElem?_cons_succ]); rw [List.getElem?_cons_zero]); rfl; (intro W hB; have hc := bcellB hB; go_simp; (first | done | rfl)); go_frame) | (apply first_skip; (rw [List.getElem?_toArray]; (repeat rw [List.getElem?_cons_succ]); rw [List.getElem?_cons_zero]); rfl; go_frame))
  refine first_done ?_
  refine forced_done ?_
  refine multi_done ?_
  go_wp2
  go_ret2
  exact ⟨by simp, hB1.drew⟩
theorem rtt_o (k : Int) (h4 : (k == 4) = false) (h2 : (k == 2) = false) : Calls Try.prog 44 #[.agg #[.int .i64 k, .int .i64 m, .int .i64 e, .string t, .bool b, .int .i64 f]] w fun r w' => r = .returned (.tuple #[.bool (b || (m != 0)), .int .i64 0]) ∧ Below w.heap.size w w' := by
  cases b with
  | true =>
    go_enter Try.func44, Try.ntmps44
    go_wp2
    go_ret2
    refine ⟨rfl, ?_⟩
    (repeat (first | with_reducible exact Below.refl _ _ | with_reducible exact hBW | with_reducible refine Below.setCell ?_ ?_ _ | with_reducible refine Below.alloc ?_ ?_ _ | with_reducible refine belowN ?_ _ | with_reducible refine Below.drew ?_)); all_goals (first | omega | (dsimp only; omega) | ((repeat (first | with_reducible refine le_alloc ?_ | with_reducible refine le_setCell ?_ | with_reducible refine le_drew ?_ | with_reducible refine le_drewN ?_)); omega))
  | false =>
    go_enter Try.func44, Try.ntmps44
    go_wp2
    go_ret2
    refine ⟨rfl, ?_⟩
    (repeat (first | with_reducible exact Below.refl _ _ | with_reducible exact hBW | with_reducible refine Below.setCell ?_ ?_ _ | with_reducible refine Below.alloc ?_ ?_ _ | with_reducible refine belowN ?_ _ | with_reducible refine Below.drew ?_)); all_goals (first | omega | (dsimp only; omega) | ((repeat (first | with_reducible refine le_alloc ?_ | with_reducible refine le_setCell ?_ | with_reducible refine le_drew ?_ | with_reducible refine le_drewN ?_)); omega))
theorem rtt_2 (U : List UInt8) (HF : ∀ w : World, Calls Try.prog 62 #[.string t] w fun e w' => e = .returned (.string ⟨U.toArray⟩) ∧ Below w.heap.size w w') : Calls Try.prog 44 #[.agg #[.int .i64 2, .int .i64 m, .int .i64 e, .string t, .bool b, .int .i64 f]] w fun r w' => r = .returned (.tuple #[.bool (if U = [84, 82, 85, 69] then (true, (0 : Int)) else if U = [70, 65, 76, 83, 69] then (false, 0) else (false, 2)).1, .int .i64 (if U = [84, 82, 85, 69] then (true, (0 : Int)) else if U = [70, 65, 76, 83, 69] then (false, 0) else (false, 2)).2]) ∧ Below w.heap.size w w' := by
  have HF := Lib.hid HF
  by_cases h1 : U = [84, 82, 85, 69]
  · rw [if_pos h1]
    subst h1
    go_enter Try.func44, Try.ntmps44
    go_wp2_with fail
    refine (HF.out _).mono ?_
    rintro r w1 ⟨rfl, f1⟩
    have F1 : Hid (Below w.heap.size w w1) := by
      refine Below.trans ?_ (f1.mono (by simp))
      (repeat (first | with_reducible exact Below.refl _ _ | with_reducible exact hBW | with_reducible refine Below.setCell ?_ ?_ _ | with_reducible refine Below.alloc ?_ ?_ _ | with_reducible refine belowN ?_ _ | with_reducible refine Below.drew ?_)); all_goals (first | omega | (dsimp only; omega) | ((repeat (first | with_reducible refine le_alloc ?_ | with_reducible refine le_setCell ?_ | with_reducible refine le_drew ?_ | with_reducible refine le_drewN ?_)); omega))
    clear f1
    go_wp2_with fail
    go_ret2
    exact ⟨rfl, F1.out⟩
  by_cases h2 : U = [70, 65, 76, 83, 69]
  · rw [if_neg h1, if_pos h2]
    subst h2
    clear h1
    go_enter Try.func44, Try.ntmps44
    go_wp2_with fail
    refine (HF.out _).mono ?_
    rintro r w1 ⟨rfl, f1⟩
    have F1 : Hid (Below w.heap.size w w1) := by
      refine Below.trans ?_ (f1.mono (by simp))
      (repeat (first | with_reducible exact Below.refl _ _ | with_reducible exact hBW | with_reducible refine Below.setCell ?_ ?_ _ | with_reducible refine Below.alloc ?_ ?_ _ | with_reducible refine belowN ?_ _ | with_reducible refine Below.drew ?_)); all_goals (first | omega | (dsimp only; omega) | ((repeat (first | with_reducible refine le_alloc ?_ | with_reducible refine le_setCell ?_ | with_reducible refine le_drew ?_ | with_reducible refine le_drewN ?_)); omega))
    clear f1
    go_wp2_with fail
    go_ret2
    exact ⟨rfl, F1.out⟩
  · rw [if_neg h1, if_neg h2]
    have e : ByteArray.toList ⟨U.toArray⟩ = U := by rw [ByteArray.toList_eq]
    have n1 : (ByteArray.toList ⟨U.toArray⟩ == [84, 82, 85, 69]) = false := by rw [e]; simpa using h1
    have n2 : (ByteArray.toList ⟨U.toArray⟩ == [70, 65, 76, 83, 69]) = false := by rw [e]; simpa using h2
    have n3 : ¬ ByteArray.toList ⟨U.toArray⟩ = [84, 82, 85, 69] := by rw [e]; exact h1
    have n4 : ¬ ByteArray.toList ⟨U.toArray⟩ = [70, 65, 76, 83, 69] := by rw [e]; exact h2
    have n5 : (ByteArray.toList ⟨U.toArray⟩ != [84, 82, 85, 69]) = true := by rw [e]; simpa using h1
    have n6 : (ByteArray.toList ⟨U.toArray⟩ != [70, 65, 76, 83, 69]) = true := by rw [e]; simpa using h2
    have m1 : (U == [84, 82, 85, 69]) = false := by simpa using h1
    have m2 : (U == [70, 65, 76, 83, 69]) = false := by simpa using h2
    have m5 : (U != [84, 82, 85, 69]) = true := by simpa using h1
    have m6 : (U != [70, 65, 76, 83, 69]) = true := by simpa using h2
    clear e
    go_enter Try.func44, Try.ntmps44
    go_wp2_with fail
    refine (HF.out _).mono ?_
    rintro r w1 ⟨rfl, f1⟩
    have F1 : Hid (Below w.heap.size w w1) := by
      refine Below.trans ?_ (f1.mono (by simp))
      (repeat (first | with_reducible exact Below.refl _ _ | with_reducible exact hBW | with_reducible refine Below.setCell ?_ ?_ _ | with_reducible refine Below.alloc ?_ ?_ _ | with_reducible refine belowN ?_ _ | with_reducible refine Below.drew ?_)); all_goals (first | omega | (dsimp only; omega) | ((repeat (first | with_reducible refine le_alloc ?_ | with_reducible refine le_setCell ?_ | with_reducible refine le_drew ?_ | with_reducible refine le_drewN ?_)); omega))
    clear f1
    go_wp2_with fail
    go_ret2
    exact ⟨rfl, F1.out⟩
end
theorem rTT_any (v : V) (h : refR v = true) (w : World) : Calls Try.prog 44 #[vagg v] w fun r w' => r = .returned (.tuple #[.bool (TT v).1, .int .i64 (TT v).2]) ∧ Below w.heap.size w w' := by
  have hk := h
  obtain ⟨k, m, e, t, b, f⟩ := v
  unfold refR at hk
  simp only [Bool.and_eq_true, Bool.or_eq_true, decide_eq_true_eq, Bool.not_eq_true'] at hk
  obtain ⟨⟨⟨⟨h1, h2⟩, h3⟩, h4⟩, h5⟩ := hk
  unfold vagg
  by_cases k4 : k = 4
  · subst k4
    have e1 : TT ⟨4, m, e, t, b, f⟩ = (false, f) := rfl
    rw [e1]
    exact rtt_4 m e t b f w
  by_cases k2 : k = 2
  · subst k2
    simp at h5
    exact rtt_2 m e t b f w (upL t.data.toList) (rfold_any t h5)
  · have e1 : TT ⟨k, m, e, t, b, f⟩ = (b || (m != 0), 0) := by
      unfold TT toT
      simp only [k2, k4, if_false]
      by_cases k1 : k = 1
      · subst k1
        simp at h3
        subst h3
        by_cases hm : m = 0 <;> simp [hm]
      · simp [k1] at h1
        by_cases k3 : k = 3
        · subst k3
          simp [h1.1]
        · simp [k3] at h3
          simp [k1, k3, h1.1, h3]
    rw [e1]
    exact rtt_o m e t b f w k (by simpa using k4) (by simpa using k2)
end Go.Proofs.Ytgbedjeiihigaaa
