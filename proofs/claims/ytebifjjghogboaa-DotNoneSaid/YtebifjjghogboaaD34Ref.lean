/- The document's Add, Next, Covers, Join. -/
import Derived.Test.YtebifjjghogboaaD34RAdd2
namespace Go.Proofs.Ytebifjjghogboaa
open Go.RowKit Go.Shelf Go.Maps
theorem refAdd_any (aa : Option Addr) (cap : Nat) (M : List Id2) (i : Id2) (w : World) (hM : IdsAt w aa M) (hG : Good M) :
    Calls Try.prog 12 #[.slice aa M.length cap, encI i] w fun e w' => ∃ aa' cap', e = .returned (.tuple #[.slice aa' (addL M i).length cap', .bool (newB M i)]) ∧ IdsAt w' aa' (addL M i) ∧ Below w.heap.size w w' := by
  have HY := refMay_any i
  have hl := hG.length
  have hr := rHas_good hG i
  obtain ⟨a, n⟩ := i
  unfold encI at *
  simp only at *
  unfold addL
  rw [newB_eq]
  by_cases hm : mayB (a, n) = true
  · rw [hm] at HY
    by_cases hh : hasB M (a, n) = true
    · refine (radd_old aa cap M a n w hM (by omega) HY (hr.trans hh)).mono ?_
      rintro e w' ⟨rfl, hb⟩
      rw [hh]
      exact ⟨aa, cap, by simp, by simpa using hM.below hb, hb⟩
    · have hf : hasB M (a, n) = false := by simpa using hh
      refine (radd_new aa cap M a n w hM (by omega) HY (hr.trans hf)).mono ?_
      rintro e w' ⟨v, rfl, hS⟩
      rw [insL_good hG] at hS
      obtain ⟨aa', cap', rfl, hI⟩ := hS.slice
      rw [hf, hm]
      exact ⟨aa', cap', by simp, by simpa using hI, hS.1⟩
  · have hm' : mayB (a, n) = false := by simpa using hm
    rw [hm'] at HY
    refine (radd_bad aa cap M a n w HY).mono ?_
    rintro e w' ⟨rfl, hb⟩
    rw [hm']
    exact ⟨aa, cap, by simp, by simpa using hM.below hb, hb⟩
theorem most_take {M : List Id2} {k : Nat} {x : Id2} (h : M[k]? = some x) : most (M.take (k + 1)) = max (most (M.take k)) x.2 := by
  rw [List.take_add_one, h]
  exact most_append _ _
set_option maxHeartbeats 2000000 in
set_option maxRecDepth 100000 in
theorem refNext_any (aa : Option Addr) (cap : Nat) (M : List Id2) (x : Int) (w : World) (hM : IdsAt w aa M) (hG : Good M) :
    Calls Try.prog 18 #[.slice aa M.length cap, .int .i64 x] w fun e w' => e = .returned (encI (nextL M x)) ∧ Below w.heap.size w w' := by
  have HM := Lib.hid hM
  have HG := Lib.hid hG
  have hlen := hG.length
  clear hM hG
  have hE : nextL M x = if (decide (1 ≤ x) && decide (x ≤ 1000)) && !decide (most M = 9223372036854775807) then (x, most M + 1) else (0, 0) := rfl
  have HE := Lib.hid hE
  generalize nextL M x = N at HE ⊢
  clear hE
  go_enter Try.func18, Try.ntmps18
  go_wp2_with fail
  have HB0 : Hid (Below w.heap.size w (w.alloc (.cells #[.int .i64 0, .int .i64 0] 24)) ∧ (w.alloc (.cells #[.int .i64 0, .int .i64 0] 24)).heap[w.heap.size]? = some (.cells #[.int .i64 0, .int .i64 0] 24)) := ⟨by (repeat (first | with_reducible exact Below.refl _ _ | with_reducible exact hBW | with_reducible refine Below.setCell ?_ ?_ _ | with_reducible refine Below.alloc ?_ ?_ _ | with_reducible refine belowN ?_ _ | with_reducible refine Below.drew ?_)); all_goals (first | omega | (dsimp only; omega) | ((repeat (first | with_reducible refine le_alloc ?_ | with_reducible refine le_setCell ?_ | with_reducible refine le_drew ?_ | with_reducible refine le_drewN ?_)); omega)), by (repeat (first | (with_reducible refine heap_alloc_at ?_ _; (first | rfl | (simp; done) | omega | (simp; omega)); done) | with_reducible refine heap_alloc_old ?_ _ | with_reducible refine heap_drew_old ?_ | with_reducible refine heap_drewN_old ?_))⟩
  go_loopw [5, 6] (fun m i wr => ∃ k : Nat, i = .int .i64 k ∧ k ≤ M.length ∧ m = .int .i64 (most (M.take k)) ∧ Hid (Below w.heap.size w wr ∧ wr.heap[w.heap.size]? = some (.cells #[.int .i64 0, .int .i64 0] 24))) (fun _ i _ => M.length - (intOf i).toNat)
  case atStart => exact ⟨0, rfl, Nat.zero_le _, rfl, HB0⟩
  case round =>
    obtain ⟨k, rfl, hk, rfl, hS⟩ := hrel
    by_cases hlt : k < M.length
    · obtain ⟨⟨x1, x2⟩, hx⟩ : ∃ x, M[k]? = some x := ⟨_, List.getElem?_eq_getElem hlt⟩
      obtain ⟨b, off, rfl, hb, d1, d2⟩ := (HM.out.below hS.out.1).at hx
      simp only at d1 d2
      have TK := Lib.hid (most_take hx)
      have j1 : (0 : Int) ≤ (k : Int) := by omega
      have j2 : (k : Int) < (M.length : Int) := by omega
      clear hx
      generalize most (M.take k) = mm at TK ⊢
      by_cases hc : mm < x2
      · have HN : Hid (most (M.take (k + 1)) = x2) := by unfold Hid; rw [TK.out]; show max mm x2 = x2; omega
        go_wp2
        go_roundw
        case rel => exact ⟨k + 1, by go_num, by omega, by rw [HN.out], hS⟩
        case measure => simp [intOf]; omega
      · have HN : Hid (most (M.take (k + 1)) = mm) := by unfold Hid; rw [TK.out]; show max mm x2 = mm; omega
        go_wp2
        go_roundw
        case rel => exact ⟨k + 1, by go_num, by omega, by rw [HN.out], hS⟩
        case measure => simp [intOf]; omega
    · rw [List.take_of_length_le (by omega)]
      have hmb := most_bound HG.out (fun p hp => hp)
      generalize most M = mm at HE hmb ⊢
      have g3 := frozen_of_heap hS.out.2
      have g5 := cell_of_heap hS.out.2
      have g6 := lt_of_heap hS.out.2
      have fin : Hid (∀ y1 y2 : Int, N = (y1, y2) → ∀ W : World, W = (wr.setCell ⟨w.heap.size, 0, none⟩ (.int .i64 y1)).setCell ⟨w.heap.size, 1, none⟩ (.int .i64 y2) → W.cell? ⟨w.heap.size, 0, none⟩ = some (.int .i64 y1) ∧ W.cell? ⟨w.heap.size, 1, none⟩ = some (.int .i64 y2) ∧ Below w.heap.size w W) := by
        intro y1 y2 _ W hW
        subst hW
        have h2 := cell_of_heap (heap_setCell_at (heap_setCell_at hS.out.2 0 (.int .i64 y1)) 1 (.int .i64 y2))
        refine ⟨(h2 0).trans rfl, (h2 1).trans rfl, ?_⟩
        refine Below.setCell (Below.setCell hS.out.1 ?_ _) ?_ _ <;> exact Nat.le_refl _
      by_cases h1 : x < 1
      · have HN : Hid (N = (0, 0)) := by
          unfold Hid; rw [HE.out]
          have : ¬ 1 ≤ x := by omega
          simp [this]
        go_wp2
        obtain ⟨r1, r2, r3⟩ := fin.out 0 0 HN.out _ rfl
        refine bodyPost_ret (v := encI (0, 0)) (by simp [results, Try.results18, go_sem, r1, r2, encI]) rfl ⟨by rw [HN.out], r3⟩
      · by_cases h2 : 1000 < x
        · have HN : Hid (N = (0, 0)) := by
            unfold Hid; rw [HE.out]
            have : ¬ x ≤ 1000 := by omega
            simp [this]
          go_wp2
          obtain ⟨r1, r2, r3⟩ := fin.out 0 0 HN.out _ rfl
          refine bodyPost_ret (v := encI (0, 0)) (by simp [results, Try.results18, go_sem, r1, r2, encI]) rfl ⟨by rw [HN.out], r3⟩
        · by_cases h3 : mm = 9223372036854775807
          · have HN : Hid (N = (0, 0)) := by
              unfold Hid; rw [HE.out]
              simp [h3]
            subst h3
            go_wp2
            obtain ⟨r1, r2, r3⟩ := fin.out 0 0 HN.out _ rfl
            refine bodyPost_ret (v := encI (0, 0)) (by simp [results, Try.results18, go_sem, r1, r2, encI]) rfl ⟨by rw [HN.out], r3⟩
          · have HN : Hid (N = (x, mm + 1)) := by
              unfold Hid; rw [HE.out]
              have a1 : 1 ≤ x := by omega
              have a2 : x ≤ 1000 := by omega
              simp [h3, a1, a2]
            have t3 : (mm == 9223372036854775807) = false := by simpa using h3
            go_wp2
            obtain ⟨r1, r2, r3⟩ := fin.out x (mm + 1) HN.out _ rfl
            refine bodyPost_ret (v := encI (x, mm + 1)) (by simp [results, Try.results18, go_sem, r1, r2, encI]) rfl ⟨by rw [HN.out], r3⟩
theorem all_take {α : Type} {p : α → Bool} {M : List α} {k : Nat} {x : α} (h : (M.take k).all p = true) (hx : M[k]? = some x) (hp : p x = true) : (M.take (k + 1)).all p = true := by
  rw [List.take_add_one, hx, List.all_append, h]
  simp [hp]
set_option maxHeartbeats 2000000 in
set_option maxRecDepth 100000 in
theorem refCovers_any (aa bb : Option Addr) (cap cap2 : Nat) (L M : List Id2) (w : World) (hL : IdsAt w aa L) (hG : Good L) (hM : IdsAt w bb M) (hGM : Good M) :
    Calls Try.prog 24 #[.slice aa L.length cap, .slice bb M.length cap2] w fun e w' => e = .returned (.bool (covL L M)) ∧ Below w.heap.size w w' := by
  have HL := Lib.hid hL
  have HM := Lib.hid hM
  have HG := Lib.hid hG
  have hlen := hG.length
  have hlenM := hGM.length
  have HC : Hid (covL L M = M.all (hasB L)) := rfl
  generalize covL L M = C at HC ⊢
  clear hL hM hG hGM
  go_enter Try.func24, Try.ntmps24
  go_wp2_with fail
  have HB0 : Hid (Below w.heap.size w w) := Below.refl _ _
  go_loopw [5] (fun i wr => ∃ k : Nat, i = .int .i64 k ∧ k ≤ M.length ∧ Hid ((M.take k).all (hasB L) = true) ∧ Hid (Below w.heap.size w wr)) (fun i _ => M.length - (intOf i).toNat)
  case atStart => exact ⟨0, rfl, Nat.zero_le _, rfl, HB0⟩
  case round =>
    obtain ⟨k, rfl, hk, hA, hS⟩ := hrel
    by_cases hlt : k < M.length
    · obtain ⟨⟨x1, x2⟩, hx⟩ : ∃ x, M[k]? = some x := ⟨_, List.getElem?_eq_getElem hlt⟩
      obtain ⟨b, off, rfl, hb, d1, d2⟩ := (HM.out.below hS.out).at hx
      simp only at d1 d2
      have HX := Lib.hid hx
      have j1 : (0 : Int) ≤ (k : Int) := by omega
      have j2 : (k : Int) < (M.length : Int) := by omega
      clear hx
      go_wp2_with fail
      refine (refHas_any aa cap L (x1, x2) wr (HL.out.below hS.out) (by omega)).mono ?_
      rw [rHas_good HG.out]
      rintro e w2 ⟨rfl, hb2⟩
      have HS2 : Hid (Below w.heap.size w w2) := hS.out.trans (hb2.mono hS.out.size)
      clear hb2 d1 d2
      cases hh : hasB L (x1, x2) with
      | true =>
        have HN := Lib.hid (all_take hA.out HX.out hh)
        clear hh
        go_wp2
        go_roundw
        case rel => exact ⟨k + 1, by go_num, by omega, HN, HS2⟩
        case measure => simp [intOf]; omega
      | false =>
        have HN : Hid (C = false) := by
          unfold Hid
          rw [HC.out, List.all_eq_false]
          exact ⟨_, List.mem_of_getElem? HX.out, by simp [hh]⟩
        clear hh
        go_wp2
        refine bodyPost_ret (v := .bool false) (by simp [results, Try.results24, go_sem]) rfl ⟨by rw [HN.out], HS2.out⟩
    · have HN : Hid (C = true) := by
        unfold Hid
        rw [HC.out, ← hA.out, List.take_of_length_le (by omega)]
      go_wp2
      go_ret
      exact ⟨by rw [HN.out]; rfl, hS.out⟩
theorem foldl_take {M : List Id2} {k : Nat} {x : Id2} (L : List Id2) (h : M[k]? = some x) : joinL L (M.take (k + 1)) = addL (joinL L (M.take k)) x := by
  rw [List.take_add_one, h]
  exact joinL_append _ _ _
set_option maxHeartbeats 2000000 in
set_option maxRecDepth 100000 in
theorem refJoin_any (aa bb : Option Addr) (cap cap2 : Nat) (L M : List Id2) (w : World) (hL : IdsAt w aa L) (hG : Good L) (hM : IdsAt w bb M) (hGM : Good M) :
    Calls Try.prog 26 #[.slice aa L.length cap, .slice bb M.length cap2] w fun e w' => ∃ aa' cap', e = .returned (.slice aa' (joinL L M).length cap') ∧ IdsAt w' aa' (joinL L M) ∧ Below w.heap.size w w' := by
  have HL := Lib.hid hL
  have HM := Lib.hid hM
  have HG := Lib.hid hG
  have HGM := Lib.hid hGM
  have hlenM := hGM.length
  clear hL hM hG hGM
  go_enter Try.func26, Try.ntmps26
  go_wp2_with fail
  go_loopw [0, 5] (fun s i wr => ∃ (k : Nat) (a' : Option Addr) (c' : Nat), i = .int .i64 k ∧ k ≤ M.length ∧ s = .slice a' (joinL L (M.take k)).length c' ∧ Hid (IdsAt wr a' (joinL L (M.take k))) ∧ Hid (Below w.heap.size w wr)) (fun _ i _ => M.length - (intOf i).toNat)
  case atStart => exact ⟨0, aa, cap, rfl, Nat.zero_le _, rfl, HL, Below.refl _ _⟩
  case round =>
    obtain ⟨k, a', c', rfl, hk, rfl, hI, hS⟩ := hrel
    by_cases hlt : k < M.length
    · obtain ⟨⟨x1, x2⟩, hx⟩ : ∃ x, M[k]? = some x := ⟨_, List.getElem?_eq_getElem hlt⟩
      obtain ⟨b, off, rfl, hb, d1, d2⟩ := (HM.out.below hS.out).at hx
      simp only at d1 d2
      have TK := Lib.hid (foldl_take L hx)
      have GJ : Hid (Good (joinL L (M.take k))) := good_joinL HG.out (HGM.out.prefix (List.take_prefix _ _))
      have j1 : (0 : Int) ≤ (k : Int) := by omega
      have j2 : (k : Int) < (M.length : Int) := by omega
      clear hx
      generalize joinL L (M.take k) = J at TK GJ hI ⊢
      go_wp2_with fail
      refine (refAdd_any a' c' J (x1, x2) wr hI.out GJ.out).mono ?_
      rintro e w2 ⟨a2, c2, rfl, hI2, hb2⟩
      rw [← TK.out] at hI2 ⊢
      have HI2 := Lib.hid hI2
      have HS2 : Hid (Below w.heap.size w w2) := hS.out.trans (hb2.mono hS.out.size)
      clear hb2 d1 d2 hI2
      go_wp2
      go_roundw
      case rel => exact ⟨k + 1, a2, c2, by go_num, by omega, rfl, HI2, HS2⟩
      case measure => simp [intOf]; omega
    · rw [List.take_of_length_le (by omega)] at hI ⊢
      go_wp2
      go_ret
      exact ⟨a', c', rfl, hI.out, hS.out⟩
end Go.Proofs.Ytebifjjghogboaa
