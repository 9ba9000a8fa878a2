/- flogic.Call: an argument that may not be; NA. -/
import Derived.Test.YtgbedjeiihigaaaF13CallA
namespace Go.Proofs.Ytgbedjeiihigaaa
open Go.RowKit
section
variable (s : ByteArray) (a : Option Addr) (cap : Nat) (w : World)
set_option maxHeartbeats 2000000
set_option maxRecDepth 100000
theorem call_wrong {lo hi : Int} (hG : HasFn s lo hi) (l : List Arr) (h1 : lo ≤ (l.length : Int)) (h2 : (l.length : Int) ≤ hi) (hl : l.length ≤ 40) (hI : ∀ A ∈ l, ∀ v ∈ A.l, I64 v.m) (hN : ¬ ∀ A ∈ l, ArrR A) (hA : ArgsAt 0 w a l) :
    Calls Try.prog 10 #[.string s, .slice a l.length cap] w (CallP w ⟨1, 1, [vBad 9]⟩ true) := by
  have HG := Lib.hid hG
  have HI := Lib.hid hI
  have HN := Lib.hid hN
  have HA := Lib.hid hA
  clear hG hI hN hA
  go_enter Try.func10, Try.ntmps10
  go_wp2_with fail
  refine (table_any _).mono ?_
  rintro e w1 ⟨B, b1, b2, b3, b4, b5, b6, b7, b8, b9, rfl, hTab, hb⟩
  obtain ⟨g, cp, hget⟩ := HG.out b1 b2 b3 b4 b5 b6 b7 b8 b9
  have hlk := hTab.map.look2 (string_fits Try.underlying9) Try.underlying50 (zero48 w1) s
  rw [hget] at hlk
  unfold fnV at hlk
  simp only [Option.map_some, Option.getD_some, Option.isSome_some, id] at hlk
  have g0 : w1.heap[w.heap.size]? = some (.cells #[.int .i64 0, .int .i64 0, .slice none 0 0] 27) := (hb.block _ (by simp)).trans (by (repeat (first | (with_reducible refine heap_alloc_at ?_ _; (first | rfl | (simp; done) | omega | (simp; omega)); done) | with_reducible refine heap_alloc_old ?_ _ | with_reducible refine heap_drew_old ?_ | with_reducible refine heap_drewN_old ?_)))
  have FB : Hid (Below w.heap.size w w1) := by
    refine Below.trans ?_ (hb.mono (by simp))
    (repeat (first | with_reducible exact Below.refl _ _ | with_reducible exact hBW | with_reducible refine Below.setCell ?_ ?_ _ | with_reducible refine Below.alloc ?_ ?_ _ | with_reducible refine belowN ?_ _ | with_reducible refine Below.drew ?_)); all_goals (first | omega | (dsimp only; omega) | ((repeat (first | with_reducible refine le_alloc ?_ | with_reducible refine le_setCell ?_ | with_reducible refine le_drew ?_ | with_reducible refine le_drewN ?_)); omega))
  have G0 := Lib.hid g0
  clear g0 hb hget hTab HG
  go_wp2_with fail
  clear hlk
  refine abs_world ?_
  intro W2 hW2
  have hB2 : Hid (Below w1.heap.size w1 W2) := by rw [hW2]; unfold Hid; (repeat (first | with_reducible exact Below.refl _ _ | with_reducible exact hBW | with_reducible refine Below.setCell ?_ ?_ _ | with_reducible refine Below.alloc ?_ ?_ _ | with_reducible refine belowN ?_ _ | with_reducible refine Below.drew ?_)); all_goals (first | omega | (dsimp only; omega) | ((repeat (first | with_reducible refine le_alloc ?_ | with_reducible refine le_setCell ?_ | with_reducible refine le_drew ?_ | with_reducible refine le_drewN ?_)); omega))
  clear hW2
  go_loopw [34] (fun i wr => ∃ k : Nat, i = .int .i64 k ∧ k ≤ l.length ∧ Hid (∀ A ∈ l.take k, ArrR A) ∧ Hid (Below W2.heap.size W2 wr)) (fun i _ => l.length - (intOf i).toNat)
  case atStart => exact ⟨0, rfl, Nat.zero_le _, fun A hA => (by simp at hA), Below.refl _ _⟩
  case round =>
    obtain ⟨k, rfl, hk, hR, hB⟩ := hrel
    have HBw : Hid (Below w.heap.size w wr) := FB.out.trans ((hB2.out.trans (hB.out.mono hB2.out.size)).mono FB.out.size)
    by_cases hlt : k < l.length
    · obtain ⟨A, hAk⟩ : ∃ A, l[k]? = some A := ⟨_, List.getElem?_eq_getElem hlt⟩
      obtain ⟨b, off, rfl, _, hb, hall⟩ := (HA.out.below HBw.out) (by omega)
      obtain ⟨a', cap', c0, c1, c2, hsl⟩ := hall k A hAk
      have HAk := Lib.hid hAk
      have HSL := Lib.hid hsl
      clear hall hAk hsl
      go_wp2_with fail
      refine (shape_all A a' cap' _ (HI.out A (List.mem_of_getElem? HAk.out)) (HSL.out.below (below_alloc wr _ _ (Nat.le_refl _)))).mono ?_
      rintro e' w3 ⟨R, rfl, hRR, hb3⟩
      have HB3 : Hid (Below W2.heap.size W2 w3) := hB.out.trans (((below_alloc wr _ _ (Nat.le_refl _)).trans (hb3.mono (by simp))).mono hB.out.size)
      have HRR := Lib.hid hRR
      clear hb3 c0 c1 c2 hRR
      cases R with
      | true =>
        have HR2 : Hid (∀ A ∈ l.take (k + 1), ArrR A) := fun X hX => by
          rw [List.take_add_one, HAk.out] at hX
          rcases List.mem_append.1 hX with hX | hX
          · exact hR.out X hX
          · simp at hX; rw [hX]; exact HRR.out.1 rfl
        clear hR
        go_wp2_with fail
        go_roundw
        case rel => exact ⟨k + 1, by go_num, by omega, HR2, HB3⟩
        case measure => simp [intOf]; omega
      | false =>
        go_wp2_with fail
        refine (alone_any 9 _).mono ?_
        rintro e' w4 ⟨x3, rfl, ⟨a3, cap3, rfl, hsl3⟩, hb4⟩
        have hB4 : Below w1.heap.size w1 w4 := hB2.out.trans ((HB3.out.trans (hb4.mono HB3.out.size)).mono hB2.out.size)
        have e0 := (hB4.block w.heap.size (lt_of_heap G0.out)).trans G0.out
        have x0 := cell_of_heap e0
        have y0 := frozen_of_heap e0
        have hn0 : w.heap.size < w4.heap.size := lt_of_heap e0
        have HSL3 := Lib.hid (hsl3.mono (B' := w.heap.size + 1) (Nat.le_trans (lt_of_heap G0.out) (Nat.le_trans hB2.out.size HB3.out.size)))
        have HB4 := Lib.hid (FB.out.trans (hB4.mono FB.out.size))
        clear hsl3 hb4 hB4 e0
        go_wp2_with fail
        refine bodyPost_ret (v := .tuple #[.agg #[.int .i64 1, .int .i64 1, .slice a3 1 cap3], .bool true]) (by simp [results, Try.results10, go_sem, x0]) rfl ?_
        exact callP_hand (A := ⟨1, 1, [vBad 9]⟩) (n := 0) (Nat.le_refl _) HSL3.out HB4.out _ _ _ true
    · exact absurd (by have := hR.out; rwa [List.take_of_length_le (by omega)] at this) HN.out
theorem na38_any (v : Value) : Calls Try.prog 38 #[v] w (ArrPost w ⟨1, 1, [vBad 6]⟩) := by
  have HR := Lib.hid (alone_any 6 (w.alloc (.cells #[.int .i64 0, .int .i64 0, .slice none 0 0] 27)))
  go_enter Try.func38, Try.ntmps38
  go_wp2_with fail
  refine HR.out.mono ?_
  rintro e' w1 ⟨y, rfl, ⟨a, cap, rfl, hsl⟩, hb⟩
  have hs1 : w.heap.size + 1 ≤ w1.heap.size := by have := hb.size; simpa using this
  have g1 : w1.heap[w.heap.size]? = some (.cells #[.int .i64 0, .int .i64 0, .slice none 0 0] 27) := (hb.block _ (by simp)).trans (by (repeat (first | (with_reducible refine heap_alloc_at ?_ _; (first | rfl | (simp; done) | omega | (simp; omega)); done) | with_reducible refine heap_alloc_old ?_ _ | with_reducible refine heap_drew_old ?_ | with_reducible refine heap_drewN_old ?_)))
  have FB : Hid (Below w.heap.size w w1) := by
    refine Below.trans ?_ (hb.mono (by simp))
    (repeat (first | with_reducible exact Below.refl _ _ | with_reducible exact hBW | with_reducible refine Below.setCell ?_ ?_ _ | with_reducible refine Below.alloc ?_ ?_ _ | with_reducible refine belowN ?_ _ | with_reducible refine Below.drew ?_)); all_goals (first | omega | (dsimp only; omega) | ((repeat (first | with_reducible refine le_alloc ?_ | with_reducible refine le_setCell ?_ | with_reducible refine le_drew ?_ | with_reducible refine le_drewN ?_)); omega))
  have c1 := cell_of_heap g1
  have y1 := frozen_of_heap g1
  have hn1 : w.heap.size < w1.heap.size := by omega
  rw [World.size_alloc] at hsl
  have HSL := Lib.hid hsl
  clear hb g1 hsl
  go_wp2_with fail
  refine bodyPost_ret (v := .agg #[.int .i64 1, .int .i64 1, .slice a 1 cap]) (by simp [results, Try.results38, go_sem, c1]) rfl ?_
  exact arr_hand (n := 0) (Nat.le_refl _) HSL.out FB.out _ _ _
theorem hget_na (b1 b2 b3 b4 b5 b6 b7 b8 b9 : Nat) : getL (tbl b1 b2 b3 b4 b5 b6 b7 b8 b9) sNA = some (fnV 0 0 38 #[]) := rfl
theorem call_na : Calls Try.prog 10 #[.string sNA, .slice a 0 cap] w (CallP w ⟨1, 1, [vBad 6]⟩ true) := by
  go_enter Try.func10, Try.ntmps10
  go_wp2_with fail
  refine (table_any _).mono ?_
  rintro e w1 ⟨B, b1, b2, b3, b4, b5, b6, b7, b8, b9, rfl, hTab, hb⟩
  have hlk := hTab.map.look2 (string_fits Try.underlying9) Try.underlying50 (zero48 w1) sNA
  rw [hget_na] at hlk
  unfold fnV at hlk
  simp only [Option.map_some, Option.getD_some, Option.isSome_some, id] at hlk
  have g0 : w1.heap[w.heap.size]? = some (.cells #[.int .i64 0, .int .i64 0, .slice none 0 0] 27) := (hb.block _ (by simp)).trans (by (repeat (first | (with_reducible refine heap_alloc_at ?_ _; (first | rfl | (simp; done) | omega | (simp; omega)); done) | with_reducible refine heap_alloc_old ?_ _ | with_reducible refine heap_drew_old ?_ | with_reducible refine heap_drewN_old ?_)))
  have FB : Hid (Below w.heap.size w w1) := by
    refine Below.trans ?_ (hb.mono (by simp))
    (repeat (first | with_reducible exact Below.refl _ _ | with_reducible exact hBW | with_reducible refine Below.setCell ?_ ?_ _ | with_reducible refine Below.alloc ?_ ?_ _ | with_reducible refine belowN ?_ _ | with_reducible refine Below.drew ?_)); all_goals (first | omega | (dsimp only; omega) | ((repeat (first | with_reducible refine le_alloc ?_ | with_reducible refine le_setCell ?_ | with_reducible refine le_drew ?_ | with_reducible refine le_drewN ?_)); omega))
  have G0 := Lib.hid g0
  clear g0 hb hTab
  go_wp2_with fail
  clear hlk
  refine abs_world ?_
  intro W2 hW2
  have hB2 : Hid (Below w1.heap.size w1 W2) := by rw [hW2]; unfold Hid; (repeat (first | with_reducible exact Below.refl _ _ | with_reducible exact hBW | with_reducible refine Below.setCell ?_ ?_ _ | with_reducible refine Below.alloc ?_ ?_ _ | with_reducible refine belowN ?_ _ | with_reducible refine Below.drew ?_)); all_goals (first | omega | (dsimp only; omega) | ((repeat (first | with_reducible refine le_alloc ?_ | with_reducible refine le_setCell ?_ | with_reducible refine le_drew ?_ | with_reducible refine le_drewN ?_)); omega))
  have e6 : W2.heap[w1.heap.size]? = some (.cells #[.int .i64 0, .int .i64 0, .func (.func 38) #[] #[]] 48) := by rw [hW2]; (repeat (first | (with_reducible refine heap_alloc_at ?_ _; (first | rfl | (simp; done) | omega | (simp; omega)); done) | with_reducible refine heap_alloc_old ?_ _ | with_reducible refine heap_drew_old ?_ | with_reducible refine heap_drewN_old ?_))
  have x6 := cell_of_heap e6 2
  have z6 := lt_of_heap e6
  clear hW2 e6
  go_loopw [34] (fun i wr => i = .int .i64 0 ∧ wr = W2) (fun _ _ => 0)
  case atStart => exact ⟨rfl, rfl⟩
  case round =>
    obtain ⟨rfl, rfl⟩ := hrel
    go_wp2_with fail
    refine (na38_any _ _).mono ?_
    rintro e' w4 ⟨x3, rfl, ⟨a3, cap3, rfl, hsl3⟩, hb4⟩
    have hB4 : Below w1.heap.size w1 w4 := hB2.out.trans (hb4.mono hB2.out.size)
    have e0 := (hB4.block w.heap.size (lt_of_heap G0.out)).trans G0.out
    have x0 := cell_of_heap e0
    have y0 := frozen_of_heap e0
    have hn0 : w.heap.size < w4.heap.size := lt_of_heap e0
    have HSL3 := Lib.hid (hsl3.mono (B' := w.heap.size + 1) (Nat.le_trans (lt_of_heap G0.out) hB2.out.size))
    have HB4 := Lib.hid (FB.out.trans (hB4.mono FB.out.size))
    clear hsl3 hb4 hB4 e0 x6 z6
    go_wp2_with fail
    refine bodyPost_ret (v := .tuple #[.agg #[.int .i64 1, .int .i64 1, .slice a3 1 cap3], .bool true]) (by simp [results, Try.results10, go_sem, x0]) rfl ?_
    exact callP_hand (A := ⟨1, 1, [vBad 6]⟩) (n := 0) (Nat.le_refl _) HSL3.out HB4.out _ _ _ true
end
end Go.Proofs.Ytgbedjeiihigaaa
