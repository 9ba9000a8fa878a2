/- not, sound, kind's function: functions of one value. -/
import Derived.Test.YtgbedjeiihigaaaF13Truths
namespace Go.Proofs.Ytgbedjeiihigaaa
open Go.RowKit
def notV (v : V) : V := if (TT v).2 ≠ 0 then vBad (TT v).2 else vTruth (!(TT v).1)
theorem rightOk_not (v : V) : RightOk (notV v) := by
  unfold notV
  split
  · exact rightOk_bad _
  · exact rightOk_truth _
set_option maxHeartbeats 400000 in
theorem not_any (v : V) (hT : TOk v) (w : World) : Calls Try.prog 36 #[vagg v] w fun e w' => e = .returned (vagg (notV v)) ∧ Below w.heap.size w w' := by
  have HT := Lib.hid hT
  clear hT
  obtain ⟨tb, tf, ht⟩ : ∃ tb tf, TT v = (tb, tf) := ⟨_, _, rfl⟩
  have HTT := Lib.hid ht
  have HN : Hid (notV v = if tf ≠ 0 then vBad tf else vTruth (!tb)) := by unfold Hid notV; rw [ht]
  clear ht
  obtain ⟨R, hR⟩ : ∃ R, vagg (notV v) = R := ⟨_, rfl⟩
  rw [hR]
  have HR := Lib.hid hR
  clear hR
  have hva : vagg v = .agg #[.int .i64 v.k, .int .i64 v.m, .int .i64 v.e, .string v.t, .bool v.b, .int .i64 v.f] := rfl
  have HVA := Lib.hid hva
  rw [hva]
  clear hva
  go_enter Try.func36, Try.ntmps36
  go_wp2_with fail
  refine (HT.out _).mono ?_
  rintro e' w1 ⟨rfl, hb⟩
  rw [HTT.out]
  have hs1 : w.heap.size + 2 ≤ w1.heap.size := by have := hb.size; simpa using this
  have g1 : w1.heap[w.heap.size + 1]? = some (.cells #[.int .i64 0, .int .i64 0, .int .i64 0, .string ⟨#[]⟩, .bool false, .int .i64 0] 36) := (hb.block _ (by simp)).trans (by (repeat (first | (with_reducible refine heap_alloc_at ?_ _; (first | rfl | (simp; done) | omega | (simp; omega)); done) | with_reducible refine heap_alloc_old ?_ _ | with_reducible refine heap_drew_old ?_ | with_reducible refine heap_drewN_old ?_)))
  have FB : Hid (Below w.heap.size w w1) := by
    refine Below.trans ?_ (hb.mono (by simp; omega))
    (repeat (first | with_reducible exact Below.refl _ _ | with_reducible exact hBW | with_reducible refine Below.setCell ?_ ?_ _ | with_reducible refine Below.alloc ?_ ?_ _ | with_reducible refine belowN ?_ _ | with_reducible refine Below.drew ?_)); all_goals (first | omega | (dsimp only; omega) | ((repeat (first | with_reducible refine le_alloc ?_ | with_reducible refine le_setCell ?_ | with_reducible refine le_drew ?_ | with_reducible refine le_drewN ?_)); omega))
  have G1 := Lib.hid g1
  clear hb g1
  by_cases hf : tf = 0
  · subst hf
    go_wp2_with fail
    refine (truth_any (!tb) _).mono ?_
    rintro e' w2 ⟨rfl, hb2⟩
    unfold vagg vTruth
    have e0 := (hb2.block _ (lt_of_heap G1.out)).trans G1.out
    have x0 := cell_of_heap e0
    have y0 := frozen_of_heap e0
    have hn0 : w.heap.size + 1 < w2.heap.size := lt_of_heap e0
    have FB2 := Lib.hid (FB.out.trans (hb2.mono FB.out.size))
    clear hb2 e0
    go_wp2_with fail
    have hBW := FB2.out
    refine bodyPost_ret (v := .agg #[.int .i64 3, .int .i64 0, .int .i64 0, .string ⟨#[]⟩, .bool (!tb), .int .i64 0]) (by simp [results, Try.results36, go_sem, x0]) rfl ⟨by rw [← HR.out, HN.out, if_neg (by simp)]; rfl, ?_⟩
    (repeat (first | with_reducible exact Below.refl _ _ | with_reducible exact hBW | with_reducible refine Below.setCell ?_ ?_ _ | with_reducible refine Below.alloc ?_ ?_ _ | with_reducible refine belowN ?_ _ | with_reducible refine Below.drew ?_)); all_goals (first | omega | (dsimp only; omega) | ((repeat (first | with_reducible refine le_alloc ?_ | with_reducible refine le_setCell ?_ | with_reducible refine le_drew ?_ | with_reducible refine le_drewN ?_)); omega))
  · have n0 : (tf != 0) = true := by simp [hf]
    go_wp2_with fail
    refine (bad_any tf _).mono ?_
    rintro e' w2 ⟨rfl, hb2⟩
    have HR2 : Hid (vagg (vBad tf) = R) := by rw [← HR.out, HN.out, if_pos hf]; rfl
    clear HR
    unfold Hid vagg vBad at HR2
    unfold vagg vBad
    generalize (if tf < 1 ∨ 9 < tf then (9 : Int) else tf) = tg at HR2 ⊢
    have HR3 := Lib.hid HR2
    clear HR2
    have e0 := (hb2.block _ (lt_of_heap G1.out)).trans G1.out
    have x0 := cell_of_heap e0
    have y0 := frozen_of_heap e0
    have hn0 : w.heap.size + 1 < w2.heap.size := lt_of_heap e0
    have FB2 := Lib.hid (FB.out.trans (hb2.mono FB.out.size))
    clear hb2 e0 hf n0
    go_wp2_with fail
    have hBW := FB2.out
    refine bodyPost_ret (v := .agg #[.int .i64 4, .int .i64 0, .int .i64 0, .string ⟨#[]⟩, .bool false, .int .i64 tg]) (by simp [results, Try.results36, go_sem, x0]) rfl ⟨by rw [← HR3.out], ?_⟩
    (repeat (first | with_reducible exact Below.refl _ _ | with_reducible exact hBW | with_reducible refine Below.setCell ?_ ?_ _ | with_reducible refine Below.alloc ?_ ?_ _ | with_reducible refine belowN ?_ _ | with_reducible refine Below.drew ?_)); all_goals (first | omega | (dsimp only; omega) | ((repeat (first | with_reducible refine le_alloc ?_ | with_reducible refine le_setCell ?_ | with_reducible refine le_drew ?_ | with_reducible refine le_drewN ?_)); omega))
set_option maxHeartbeats 400000 in
theorem sound_ok (v : V) (hR : RightOk v) (w : World) : Calls Try.prog 69 #[vagg v] w fun e w' => e = .returned (vagg v) ∧ Below w.heap.size w w' := by
  have HR := Lib.hid hR
  clear hR
  have hva : vagg v = .agg #[.int .i64 v.k, .int .i64 v.m, .int .i64 v.e, .string v.t, .bool v.b, .int .i64 v.f] := rfl
  have HVA := Lib.hid hva
  rw [hva]
  clear hva
  go_enter Try.func69, Try.ntmps69
  go_wp2_with fail
  refine (HR.out _).mono ?_
  rintro e' w1 ⟨rfl, hb⟩
  have hs1 : w.heap.size + 2 ≤ w1.heap.size := by have := hb.size; simpa using this
  have g0 : w1.heap[w.heap.size]? = some (.cells #[.int .i64 v.k, .int .i64 v.m, .int .i64 v.e, .string v.t, .bool v.b, .int .i64 v.f] 36) := (hb.block _ (by simp; omega)).trans (by (repeat (first | (with_reducible refine heap_alloc_at ?_ _; (first | rfl | (simp; done) | omega | (simp; omega)); done) | with_reducible refine heap_alloc_old ?_ _ | with_reducible refine heap_drew_old ?_ | with_reducible refine heap_drewN_old ?_)))
  have g1 : w1.heap[w.heap.size + 1]? = some (.cells #[.int .i64 0, .int .i64 0, .int .i64 0, .string ⟨#[]⟩, .bool false, .int .i64 0] 36) := (hb.block _ (by simp)).trans (by (repeat (first | (with_reducible refine heap_alloc_at ?_ _; (first | rfl | (simp; done) | omega | (simp; omega)); done) | with_reducible refine heap_alloc_old ?_ _ | with_reducible refine heap_drew_old ?_ | with_reducible refine heap_drewN_old ?_)))
  have FB : Hid (Below w.heap.size w w1) := by
    refine Below.trans ?_ (hb.mono (by simp; omega))
    (repeat (first | with_reducible exact Below.refl _ _ | with_reducible exact hBW | with_reducible refine Below.setCell ?_ ?_ _ | with_reducible refine Below.alloc ?_ ?_ _ | with_reducible refine belowN ?_ _ | with_reducible refine Below.drew ?_)); all_goals (first | omega | (dsimp only; omega) | ((repeat (first | with_reducible refine le_alloc ?_ | with_reducible refine le_setCell ?_ | with_reducible refine le_drew ?_ | with_reducible refine le_drewN ?_)); omega))
  have x0 := cell_of_heap g0
  have x1 := cell_of_heap g1
  have y1 := frozen_of_heap g1
  have hn0 : w.heap.size < w1.heap.size := by omega
  have hn1 : w.heap.size + 1 < w1.heap.size := by omega
  clear hb g0 g1
  go_wp2_with fail
  have hBW := FB.out
  refine bodyPost_ret (v := .agg #[.int .i64 v.k, .int .i64 v.m, .int .i64 v.e, .string v.t, .bool v.b, .int .i64 v.f]) (by simp [results, Try.results69, go_sem, x1]) rfl ⟨rfl, ?_⟩
  (repeat (first | with_reducible exact Below.refl _ _ | with_reducible exact hBW | with_reducible refine Below.setCell ?_ ?_ _ | with_reducible refine Below.alloc ?_ ?_ _ | with_reducible refine belowN ?_ _ | with_reducible refine Below.drew ?_)); all_goals (first | omega | (dsimp only; omega) | ((repeat (first | with_reducible refine le_alloc ?_ | with_reducible refine le_setCell ?_ | with_reducible refine le_drew ?_ | with_reducible refine le_drewN ?_)); omega))
end Go.Proofs.Ytgbedjeiihigaaa
