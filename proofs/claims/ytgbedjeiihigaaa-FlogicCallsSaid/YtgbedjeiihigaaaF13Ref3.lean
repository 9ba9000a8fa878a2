/- The document's answers: how many arguments, which kind, what a function tells of one value. (Printed by tools/gen13.py.) -/
import Derived.Test.YtgbedjeiihigaaaF13Ref2
import Derived.Test.YtgbedjeiihigaaaF13Kind
namespace Go.Proofs.Ytgbedjeiihigaaa
open Go.RowKit
theorem tl_ne {s : ByteArray} {l : List UInt8} (h : s ≠ ⟨l.toArray⟩) : (s.toList == l) = false := by
  rw [ByteArray.toList_eq]
  apply beq_eq_false_iff_ne.2
  intro e
  apply h
  rw [← e]
/-- No one of the ten names. -/
structure Oth (s : ByteArray) : Prop where
  nAND : (s.toList == [65, 78, 68]) = false
  nOR : (s.toList == [79, 82]) = false
  nXOR : (s.toList == [88, 79, 82]) = false
  nNOT : (s.toList == [78, 79, 84]) = false
  nBLANK : (s.toList == [73, 83, 66, 76, 65, 78, 75]) = false
  nNUMBER : (s.toList == [73, 83, 78, 85, 77, 66, 69, 82]) = false
  nTEXT : (s.toList == [73, 83, 84, 69, 88, 84]) = false
  nLOGICAL : (s.toList == [73, 83, 76, 79, 71, 73, 67, 65, 76]) = false
  nERROR : (s.toList == [73, 83, 69, 82, 82, 79, 82]) = false
  nNA : (s.toList == [78, 65]) = false
theorem oth_of {s : ByteArray} (hAND : s ≠ sAND) (hOR : s ≠ sOR) (hXOR : s ≠ sXOR) (hNOT : s ≠ sNOT) (hBLANK : s ≠ sBLANK) (hNUMBER : s ≠ sNUMBER) (hTEXT : s ≠ sTEXT) (hLOGICAL : s ≠ sLOGICAL) (hERROR : s ≠ sERROR) (hNA : s ≠ sNA) : Oth s := ⟨tl_ne hAND, tl_ne hOR, tl_ne hXOR, tl_ne hNOT, tl_ne hBLANK, tl_ne hNUMBER, tl_ne hTEXT, tl_ne hLOGICAL, tl_ne hERROR, tl_ne hNA⟩
section
variable (w : World)
set_option maxHeartbeats 1000000
set_option maxRecDepth 100000
theorem cnt_AND : Calls Try.prog 24 #[.string sAND] w fun e w' => e = .returned (.tuple #[.int .i64 1, .int .i64 32, .bool true]) ∧ w = w' := by
  unfold sAND
  go_enter Try.func24, Try.ntmps24
  go_wp2
  go_ret3
  exact ⟨rfl, rfl⟩
theorem cnt_OR : Calls Try.prog 24 #[.string sOR] w fun e w' => e = .returned (.tuple #[.int .i64 1, .int .i64 32, .bool true]) ∧ w = w' := by
  unfold sOR
  go_enter Try.func24, Try.ntmps24
  go_wp2
  go_ret3
  exact ⟨rfl, rfl⟩
theorem cnt_XOR : Calls Try.prog 24 #[.string sXOR] w fun e w' => e = .returned (.tuple #[.int .i64 1, .int .i64 32, .bool true]) ∧ w = w' := by
  unfold sXOR
  go_enter Try.func24, Try.ntmps24
  go_wp2
  go_ret3
  exact ⟨rfl, rfl⟩
theorem cnt_NOT : Calls Try.prog 24 #[.string sNOT] w fun e w' => e = .returned (.tuple #[.int .i64 1, .int .i64 1, .bool true]) ∧ w = w' := by
  unfold sNOT
  go_enter Try.func24, Try.ntmps24
  go_wp2
  go_ret3
  exact ⟨rfl, rfl⟩
theorem cnt_BLANK : Calls Try.prog 24 #[.string sBLANK] w fun e w' => e = .returned (.tuple #[.int .i64 1, .int .i64 1, .bool true]) ∧ w = w' := by
  unfold sBLANK
  go_enter Try.func24, Try.ntmps24
  go_wp2
  go_ret3
  exact ⟨rfl, rfl⟩
theorem cnt_NUMBER : Calls Try.prog 24 #[.string sNUMBER] w fun e w' => e = .returned (.tuple #[.int .i64 1, .int .i64 1, .bool true]) ∧ w = w' := by
  unfold sNUMBER
  go_enter Try.func24, Try.ntmps24
  go_wp2
  go_ret3
  exact ⟨rfl, rfl⟩
theorem cnt_TEXT : Calls Try.prog 24 #[.string sTEXT] w fun e w' => e = .returned (.tuple #[.int .i64 1, .int .i64 1, .bool true]) ∧ w = w' := by
  unfold sTEXT
  go_enter Try.func24, Try.ntmps24
  go_wp2
  go_ret3
  exact ⟨rfl, rfl⟩
theorem cnt_LOGICAL : Calls Try.prog 24 #[.string sLOGICAL] w fun e w' => e = .returned (.tuple #[.int .i64 1, .int .i64 1, .bool true]) ∧ w = w' := by
  unfold sLOGICAL
  go_enter Try.func24, Try.ntmps24
  go_wp2
  go_ret3
  exact ⟨rfl, rfl⟩
theorem cnt_ERROR : Calls Try.prog 24 #[.string sERROR] w fun e w' => e = .returned (.tuple #[.int .i64 1, .int .i64 1, .bool true]) ∧ w = w' := by
  unfold sERROR
  go_enter Try.func24, Try.ntmps24
  go_wp2
  go_ret3
  exact ⟨rfl, rfl⟩
theorem cnt_NA : Calls Try.prog 24 #[.string sNA] w fun e w' => e = .returned (.tuple #[.int .i64 0, .int .i64 0, .bool true]) ∧ w = w' := by
  unfold sNA
  go_enter Try.func24, Try.ntmps24
  go_wp2
  go_ret3
  exact ⟨rfl, rfl⟩
theorem cnt_oth (s : ByteArray) (h : Oth s) : Calls Try.prog 24 #[.string s] w fun e w' => e = .returned (.tuple #[.int .i64 0, .int .i64 0, .bool false]) ∧ w = w' := by
  obtain ⟨h1, h2, h3, h4, h5, h6, h7, h8, h9, h10⟩ := h
  go_enter Try.func24, Try.ntmps24
  go_wp2
  go_ret3
  exact ⟨rfl, rfl⟩
theorem rkind_BLANK : Calls Try.prog 47 #[.string sBLANK] w fun e w' => e = .returned (.int .i64 0) ∧ w = w' := by
  unfold sBLANK
  go_enter Try.func47, Try.ntmps47
  go_wp2
  go_ret
  exact ⟨rfl, rfl⟩
theorem rkind_NUMBER : Calls Try.prog 47 #[.string sNUMBER] w fun e w' => e = .returned (.int .i64 1) ∧ w = w' := by
  unfold sNUMBER
  go_enter Try.func47, Try.ntmps47
  go_wp2
  go_ret
  exact ⟨rfl, rfl⟩
theorem rkind_TEXT : Calls Try.prog 47 #[.string sTEXT] w fun e w' => e = .returned (.int .i64 2) ∧ w = w' := by
  unfold sTEXT
  go_enter Try.func47, Try.ntmps47
  go_wp2
  go_ret
  exact ⟨rfl, rfl⟩
theorem rkind_LOGICAL : Calls Try.prog 47 #[.string sLOGICAL] w fun e w' => e = .returned (.int .i64 3) ∧ w = w' := by
  unfold sLOGICAL
  go_enter Try.func47, Try.ntmps47
  go_wp2
  go_ret
  exact ⟨rfl, rfl⟩
theorem rkind_ERROR : Calls Try.prog 47 #[.string sERROR] w fun e w' => e = .returned (.int .i64 4) ∧ w = w' := by
  unfold sERROR
  go_enter Try.func47, Try.ntmps47
  go_wp2
  go_ret
  exact ⟨rfl, rfl⟩
theorem rkind_NOT : Calls Try.prog 47 #[.string sNOT] w fun e w' => e = .returned (.int .i64 (-1)) ∧ w = w' := by
  unfold sNOT
  go_enter Try.func47, Try.ntmps47
  go_wp2
  go_ret
  exact ⟨rfl, rfl⟩
/-- of, at a name that asks for kind i. -/
theorem of_kind (s : ByteArray) (i : Nat) (HK : ∀ w : World, Calls Try.prog 47 #[.string s] w fun e w' => e = .returned (.int .i64 i) ∧ w = w') (v : V) : Calls Try.prog 28 #[.string s, vagg v] w fun e w' => e = .returned (vagg (kindV i v)) ∧ Below w.heap.size w w' := by
  have HK := Lib.hid HK
  obtain ⟨k, m, e, t, b, f⟩ := v
  have hv : kindV i ⟨k, m, e, t, b, f⟩ = ⟨3, 0, 0, ⟨#[]⟩, k == (i : Int), 0⟩ := rfl
  rw [hv]
  clear hv
  unfold vagg
  simp only
  go_enter Try.func28, Try.ntmps28
  go_wp2_with fail
  refine (HK.out _).mono ?_
  rintro r w1 ⟨rfl, rfl⟩
  go_wp2_with fail
  refine abs_world ?_
  intro W1 hW1
  have hB1 : Hid (Below w.heap.size w W1) := by rw [hW1]; unfold Hid; (repeat (first | with_reducible exact Below.refl _ _ | with_reducible exact hBW | with_reducible refine Below.setCell ?_ ?_ _ | with_reducible refine Below.alloc ?_ ?_ _ | with_reducible refine belowN ?_ _ | with_reducible refine Below.drew ?_)); all_goals (first | omega | (dsimp only; omega) | ((repeat (first | with_reducible refine le_alloc ?_ | with_reducible refine le_setCell ?_ | with_reducible refine le_drew ?_ | with_reducible refine le_drewN ?_)); omega))
  have ev : W1.heap[w.heap.size]? = some (.cells #[.int .i64 k, .int .i64 m, .int .i64 e, .string t, .bool b, .int .i64 f] 36) := by rw [hW1]; (repeat (first | (with_reducible refine heap_alloc_at ?_ _; (first | rfl | (simp; done) | omega | (simp; omega)); done) | with_reducible refine heap_alloc_old ?_ _ | with_reducible refine heap_drew_old ?_ | with_reducible refine heap_drewN_old ?_))
  have er : W1.heap[w.heap.size + 1]? = some (.cells #[.int .i64 0, .int .i64 0, .int .i64 0, .string ⟨#[]⟩, .bool false, .int .i64 0] 36) := by rw [hW1]; (repeat (first | (with_reducible refine heap_alloc_at ?_ _; (first | rfl | (simp; done) | omega | (simp; omega)); done) | with_reducible refine heap_alloc_old ?_ _ | with_reducible refine heap_drew_old ?_ | with_reducible refine heap_drewN_old ?_))
  have k0 := cell_of_heap ev 0
  have z1 := lt_of_heap ev
  have ER := Lib.hid er
  clear hW1 ev er
  refine wp_region_multiR [([2, 0, 1], [3], [4, 5, 6]), ([4], [5, 6], [5, 6])] (by kernel_rfl) (by kernel_rfl) ?_
  refine multi_phase (Below W1.heap.size W1) (Below.refl _ _).drew ?_
  iterate 3 (first | (apply first_step; (rw [List.getElem?_toArray]; (repeat rw [List.getElem?_cons_succ]); rw [List.getElem?_cons_zero]); rfl; (intro W hB; have hc := bcellB hB; go_simp; (first | done | rfl)); go_frame) | (apply first_skip; (rw [List.getElem?_toArray]; (repeat rw [List.getElem?_cons_succ]); rw [List.getElem?_cons_zero]); rfl; go_frame))
  refine first_done ?_
  apply forced_step; (rw [List.getElem?_toArray]; (repeat rw [List.getElem?_cons_succ]); rw [List.getElem?_cons_zero]); rfl; intro K hK; go_simp
  refine (HK.out _).mono ?_
  rintro r w2 ⟨rfl, rfl⟩
  refine hK _ _ (fun _ => (Below.refl _ W1).drew) ?_
  clear hK K
  refine forced_done ?_
  refine multi_phase (Below W1.heap.size W1) (Below.refl _ _).drew ?_
  iterate 1 (first | (apply first_step; (rw [List.getElem?_toArray]; (repeat rw [List.getElem?_cons_succ]); rw [List.getElem?_cons_zero]); rfl; (intro W hB; have hc := bcellB hB; go_simp; (first | done | rfl)); go_frame) | (apply first_skip; (rw [List.getElem?_toArray]; (repeat rw [List.getElem?_cons_succ]); rw [List.getElem?_cons_zero]); rfl; go_frame))
  refine first_done ?_
  apply forced_step; (rw [List.getElem?_toArray]; (repeat rw [List.getElem?_cons_succ]); rw [List.getElem?_cons_zero]); rfl; intro K hK; go_simp
  refine (rTruth_any _ _).mono ?_
  rintro r w3 ⟨rfl, hb3⟩
  have HB3 : Hid (Below W1.heap.size W1 w3) := (Below.refl _ W1).drew.trans hb3
  refine hK _ _ (fun h => absurd (by decide) h) ?_
  clear hK K hb3
  have er3 := (HB3.out.block _ (lt_of_heap ER.out)).trans ER.out
  have x3 := cell_of_heap er3
  have y3 := frozen_of_heap er3
  have z3 := lt_of_heap er3
  clear er3 k0
  unfold vagg vTruth
  simp only
  apply forced_step; (rw [List.getElem?_toArray]; (repeat rw [List.getElem?_cons_succ]); rw [List.getElem?_cons_zero]); rfl; intro K hK; go_simp
  refine hK _ _ (fun h => absurd (by decide) h) ?_
  clear hK K
  refine forced_done ?_
  refine multi_done ?_
  go_wp2_with fail
  have hBW := hB1.out.trans (HB3.out.mono hB1.out.size)
  refine bodyPost_ret (v := .agg #[.int .i64 3, .int .i64 0, .int .i64 0, .string ⟨#[]⟩, .bool (k == (i : Int)), .int .i64 0]) (by simp [results, Try.results28, go_sem, x3]) rfl ⟨rfl, ?_⟩
  (repeat (first | with_reducible exact Below.refl _ _ | with_reducible exact hBW | with_reducible refine Below.setCell ?_ ?_ _ | with_reducible refine Below.alloc ?_ ?_ _ | with_reducible refine belowN ?_ _ | with_reducible refine Below.drew ?_)); all_goals (first | omega | (dsimp only; omega) | ((repeat (first | with_reducible refine le_alloc ?_ | with_reducible refine le_setCell ?_ | with_reducible refine le_drew ?_ | with_reducible refine le_drewN ?_)); omega))
theorem of_not (v : V) (hR : refR v = true) : Calls Try.prog 28 #[.string sNOT, vagg v] w fun e w' => e = .returned (vagg (notV v)) ∧ Below w.heap.size w w' := by
  have HK := Lib.hid rkind_NOT
  have HT := Lib.hid (rTT_any v hR)
  have HF : Hid ((TT v).2 ≠ 0 → 1 ≤ (TT v).2 ∧ (TT v).2 ≤ 9) := fun h => by
    unfold refR at hR
    simp only [Bool.and_eq_true, Bool.or_eq_true, decide_eq_true_eq] at hR
    obtain ⟨⟨_, h4⟩, h5⟩ := hR
    unfold TT at h ⊢
    by_cases k2 : v.k = 2
    · simp only [k2, if_true] at h ⊢
      split at h
      · exact absurd rfl h
      · split at h
        · exact absurd rfl h
        · rename_i a b
          rw [if_neg a, if_neg b]
          simp
    · rw [if_neg k2] at h ⊢
      unfold toT at h ⊢
      by_cases k1 : v.k = 1
      · rw [if_pos k1] at h; exact absurd rfl h
      · rw [if_neg k1] at h ⊢
        by_cases k3 : v.k = 3
        · rw [if_pos k3] at h; exact absurd rfl h
        · rw [if_neg k3] at h ⊢
          by_cases k4 : v.k = 4
          · rw [if_pos k4] at h ⊢
            simp [k4] at h5
            exact h5
          · rw [if_neg k4] at h; exact absurd rfl h
  clear hR
  have hn : notV v = if (TT v).2 ≠ 0 then vBad (TT v).2 else vTruth (!(TT v).1) := rfl
  rw [hn]
  clear hn
  obtain ⟨tb, tf, ht⟩ : ∃ tb tf, TT v = (tb, tf) := ⟨_, _, rfl⟩
  rw [ht] at HT HF ⊢
  simp only at HT HF ⊢
  obtain ⟨k, m, e, t, b, f⟩ := v
  clear ht
  unfold vagg at HT ⊢
  simp only at HT ⊢
  unfold sNOT at HK ⊢
  by_cases h0 : tf = 0
  · subst h0
    rw [if_neg (by simp)]
    go_enter Try.func28, Try.ntmps28
    go_wp2_with fail
    refine (HK.out _).mono ?_
    rintro r w1 ⟨rfl, rfl⟩
    go_wp2_with fail
    refine (HT.out _).mono ?_
    rintro r w2 ⟨rfl, hb⟩
    have hs1 : w.heap.size + 1 + 1 ≤ w2.heap.size := by have := hb.size; simpa using this
    have g2 : w2.heap[w.heap.size + 1]? = some (.cells #[.int .i64 0, .int .i64 0, .int .i64 0, .string ⟨#[]⟩, .bool false, .int .i64 0] 36) := (hb.block _ (by simp)).trans (by (repeat (first | (with_reducible refine heap_alloc_at ?_ _; (first | rfl | (simp; done) | omega | (simp; omega)); done) | with_reducible refine heap_alloc_old ?_ _ | with_reducible refine heap_drew_old ?_ | with_reducible refine heap_drewN_old ?_)))
    have FB : Hid (Below w.heap.size w w2) := by
      refine Below.trans ?_ (hb.mono (by simp; omega))
      (repeat (first | with_reducible exact Below.refl _ _ | with_reducible exact hBW | with_reducible refine Below.setCell ?_ ?_ _ | with_reducible refine Below.alloc ?_ ?_ _ | with_reducible refine belowN ?_ _ | with_reducible refine Below.drew ?_)); all_goals (first | omega | (dsimp only; omega) | ((repeat (first | with_reducible refine le_alloc ?_ | with_reducible refine le_setCell ?_ | with_reducible refine le_drew ?_ | with_reducible refine le_drewN ?_)); omega))
    have G2 := Lib.hid g2
    clear hb g2
    go_wp2_with fail
    refine (rTruth_any _ _).mono ?_
    rintro r w3 ⟨rfl, hb3⟩
    have er3 := (hb3.block _ (lt_of_heap G2.out)).trans G2.out
    have x3 := cell_of_heap er3
    have y3 := frozen_of_heap er3
    have z3 := lt_of_heap er3
    have hBW := FB.out.trans (hb3.mono FB.out.size)
    have HBW := Lib.hid hBW
    clear er3 hb3 hBW
    unfold vagg vTruth
    simp only
    go_wp2_with fail
    have hBW := HBW.out
    refine bodyPost_ret (v := .agg #[.int .i64 3, .int .i64 0, .int .i64 0, .string ⟨#[]⟩, .bool (!tb), .int .i64 0]) (by simp [results, Try.results28, go_sem, x3]) rfl ⟨rfl, ?_⟩
    (repeat (first | with_reducible exact Below.refl _ _ | with_reducible exact hBW | with_reducible refine Below.setCell ?_ ?_ _ | with_reducible refine Below.alloc ?_ ?_ _ | with_reducible refine belowN ?_ _ | with_reducible refine Below.drew ?_)); all_goals (first | omega | (dsimp only; omega) | ((repeat (first | with_reducible refine le_alloc ?_ | with_reducible refine le_setCell ?_ | with_reducible refine le_drew ?_ | with_reducible refine le_drewN ?_)); omega))
  · have n0 : (tf != 0) = true := by simpa using h0
    obtain ⟨f1, f2⟩ := HF.out h0
    rw [if_pos h0]
    clear h0
    have hv : vBad tf = ⟨4, 0, 0, ⟨#[]⟩, false, tf⟩ := by unfold vBad; rw [if_neg (by omega)]
    have HBD := Lib.hid (fun w => rBad_in tf w f1 f2)
    rw [hv] at HBD ⊢
    unfold vagg at HBD
    simp only at HBD ⊢
    clear hv f1 f2
    go_enter Try.func28, Try.ntmps28
    go_wp2_with fail
    refine (HK.out _).mono ?_
    rintro r w1 ⟨rfl, rfl⟩
    go_wp2_with fail
    refine (HT.out _).mono ?_
    rintro r w2 ⟨rfl, hb⟩
    have hs1 : w.heap.size + 1 + 1 ≤ w2.heap.size := by have := hb.size; simpa using this
    have g2 : w2.heap[w.heap.size + 1]? = some (.cells #[.int .i64 0, .int .i64 0, .int .i64 0, .string ⟨#[]⟩, .bool false, .int .i64 0] 36) := (hb.block _ (by simp)).trans (by (repeat (first | (with_reducible refine heap_alloc_at ?_ _; (first | rfl | (simp; done) | omega | (simp; omega)); done) | with_reducible refine heap_alloc_old ?_ _ | with_reducible refine heap_drew_old ?_ | with_reducible refine heap_drewN_old ?_)))
    have FB : Hid (Below w.heap.size w w2) := by
      refine Below.trans ?_ (hb.mono (by simp; omega))
      (repeat (first | with_reducible exact Below.refl _ _ | with_reducible exact hBW | with_reducible refine Below.setCell ?_ ?_ _ | with_reducible refine Below.alloc ?_ ?_ _ | with_reducible refine belowN ?_ _ | with_reducible refine Below.drew ?_)); all_goals (first | omega | (dsimp only; omega) | ((repeat (first | with_reducible refine le_alloc ?_ | with_reducible refine le_setCell ?_ | with_reducible refine le_drew ?_ | with_reducible refine le_drewN ?_)); omega))
    have G2 := Lib.hid g2
    clear hb g2
    go_wp2_with fail
    refine (HBD.out _).mono ?_
    rintro r w3 ⟨rfl, hb3⟩
    have er3 := (hb3.block _ (lt_of_heap G2.out)).trans G2.out
    have x3 := cell_of_heap er3
    have y3 := frozen_of_heap er3
    have z3 := lt_of_heap er3
    have hBW := FB.out.trans (hb3.mono FB.out.size)
    have HBW := Lib.hid hBW
    clear er3 hb3 hBW
    go_wp2_with fail
    have hBW := HBW.out
    refine bodyPost_ret (v := .agg #[.int .i64 4, .int .i64 0, .int .i64 0, .string ⟨#[]⟩, .bool false, .int .i64 tf]) (by simp [results, Try.results28, go_sem, x3]) rfl ⟨rfl, ?_⟩
    (repeat (first | with_reducible exact Below.refl _ _ | with_reducible exact hBW | with_reducible refine Below.setCell ?_ ?_ _ | with_reducible refine Below.alloc ?_ ?_ _ | with_reducible refine belowN ?_ _ | with_reducible refine Below.drew ?_)); all_goals (first | omega | (dsimp only; omega) | ((repeat (first | with_reducible refine le_alloc ?_ | with_reducible refine le_setCell ?_ | with_reducible refine le_drew ?_ | with_reducible refine le_drewN ?_)); omega))
end
def gName : Nat → ByteArray
  | 0 => sNOT
  | i + 1 => kName i
def gF : Nat → V → V
  | 0 => notV
  | i + 1 => kindV i
theorem of_g (j : Nat) (hj : j < 6) (v : V) (hR : refR v = true) (w : World) : Calls Try.prog 28 #[.string (gName j), vagg v] w fun e w' => e = .returned (vagg (gF j v)) ∧ Below w.heap.size w w' := by
  match j, hj with
  | 0, _ => exact of_not w v hR
  | 1, _ => exact of_kind w _ 0 rkind_BLANK v
  | 2, _ => exact of_kind w _ 1 rkind_NUMBER v
  | 3, _ => exact of_kind w _ 2 rkind_TEXT v
  | 4, _ => exact of_kind w _ 3 rkind_LOGICAL v
  | 5, _ => exact of_kind w _ 4 rkind_ERROR v
theorem cnt_g (j : Nat) (hj : j < 6) (w : World) : Calls Try.prog 24 #[.string (gName j)] w fun e w' => e = .returned (.tuple #[.int .i64 1, .int .i64 1, .bool true]) ∧ w = w' := by
  match j, hj with
  | 0, _ => exact cnt_NOT w
  | 1, _ => exact cnt_BLANK w
  | 2, _ => exact cnt_NUMBER w
  | 3, _ => exact cnt_TEXT w
  | 4, _ => exact cnt_LOGICAL w
  | 5, _ => exact cnt_ERROR w
end Go.Proofs.Ytgbedjeiihigaaa
