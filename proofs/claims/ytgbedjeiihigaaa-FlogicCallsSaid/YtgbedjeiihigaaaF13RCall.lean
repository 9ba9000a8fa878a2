/- The document's answer: Call. -/
import Derived.Test.YtgbedjeiihigaaaF13All
import Derived.Test.YtgbedjeiihigaaaF13CallA
namespace Go.Proofs.Ytgbedjeiihigaaa
open Go.RowKit
/-- Count's answer. -/
def CntIs (s : ByteArray) (lo hi : Int) (ok : Bool) : Prop := ∀ w : World, Calls Try.prog 24 #[.string s] w fun e w' => e = .returned (.tuple #[.int .i64 lo, .int .i64 hi, .bool ok]) ∧ w = w'
section
variable (s : ByteArray) (a : Option Addr) (cap : Nat) (w : World)
set_option maxHeartbeats 2000000
set_option maxRecDepth 100000
theorem rcall_none {lo hi : Int} (n : Nat) (hC : CntIs s lo hi false) : Calls Try.prog 16 #[.string s, .slice a n cap] w (CallP w ⟨0, 0, []⟩ false) := by
  have HC : Hid (∀ w : World, Calls Try.prog 24 #[.string s] w fun e w' => e = .returned (.tuple #[.int .i64 lo, .int .i64 hi, .bool false]) ∧ w = w') := hC
  clear hC
  go_enter Try.func16, Try.ntmps16
  go_wp2_with fail
  refine (HC.out _).mono ?_
  rintro e w1 ⟨rfl, rfl⟩
  go_wp2_with fail
  refine bodyPost_ret (v := .tuple #[.agg #[.int .i64 0, .int .i64 0, .slice none 0 0], .bool false]) (by simp [results, Try.results16, go_sem]) rfl ⟨_, rfl, ⟨none, 0, rfl, fun h => absurd h (by simp)⟩, ?_⟩
  (repeat (first | with_reducible exact Below.refl _ _ | with_reducible exact hBW | with_reducible refine Below.setCell ?_ ?_ _ | with_reducible refine Below.alloc ?_ ?_ _ | with_reducible refine belowN ?_ _ | with_reducible refine Below.drew ?_)); all_goals (first | omega | (dsimp only; omega) | ((repeat (first | with_reducible refine le_alloc ?_ | with_reducible refine le_setCell ?_ | with_reducible refine le_drew ?_ | with_reducible refine le_drewN ?_)); omega))
theorem rcall_count {lo hi : Int} (n : Nat) (hC : CntIs s lo hi true) (hc : (decide ((n : Int) < lo) || decide (hi < (n : Int))) = true) :
    Calls Try.prog 16 #[.string s, .slice a n cap] w (CallP w ⟨1, 1, [vBad 2]⟩ true) := by
  have HC : Hid (∀ w : World, Calls Try.prog 24 #[.string s] w fun e w' => e = .returned (.tuple #[.int .i64 lo, .int .i64 hi, .bool true]) ∧ w = w') := hC
  clear hC
  have q : (n : Int) < lo ∨ ¬ (n : Int) < lo := Decidable.em _
  go_enter Try.func16, Try.ntmps16
  go_wp2_with fail
  refine (HC.out _).mono ?_
  rintro e w1 ⟨rfl, rfl⟩
  rcases q with q | q
  · clear hc
    go_wp2_with fail
    refine (r09Bad_any 2 _).mono ?_
    rintro e' w1 ⟨x3, rfl, ⟨a3, cap3, rfl, hsl⟩, hb⟩
    have hs1 : w.heap.size + 1 ≤ w1.heap.size := by have := hb.size; simpa using this
    have g1 : w1.heap[w.heap.size]? = some (.cells #[.int .i64 0, .int .i64 0, .slice none 0 0] 27) := (hb.block _ (by simp)).trans (by (repeat (first | (with_reducible refine heap_alloc_at ?_ _; (first | rfl | (simp; done) | omega | (simp; omega)); done) | with_reducible refine heap_alloc_old ?_ _ | with_reducible refine heap_drew_old ?_ | with_reducible refine heap_drewN_old ?_)))
    have FB : Hid (Below w.heap.size w w1) := by
      refine Below.trans ?_ (hb.mono (by simp))
      (repeat (first | with_reducible exact Below.refl _ _ | with_reducible exact hBW | with_reducible refine Below.setCell ?_ ?_ _ | with_reducible refine Below.alloc ?_ ?_ _ | with_reducible refine belowN ?_ _ | with_reducible refine Below.drew ?_)); all_goals (first | omega | (dsimp only; omega) | ((repeat (first | with_reducible refine le_alloc ?_ | with_reducible refine le_setCell ?_ | with_reducible refine le_drew ?_ | with_reducible refine le_drewN ?_)); omega))
    have c1 := cell_of_heap g1
    have y1 := frozen_of_heap g1
    have hn1 : w.heap.size < w1.heap.size := by omega
    rw [World.size_alloc] at hsl
    have HSL := Lib.hid hsl
    clear hb g1 hsl
    go_wp2_with fail
    refine bodyPost_ret (v := .tuple #[.agg #[.int .i64 1, .int .i64 1, .slice a3 1 cap3], .bool true]) (by simp [results, Try.results16, go_sem, c1]) rfl ?_
    exact callP_hand (A := ⟨1, 1, [vBad 2]⟩) (n := 0) (Nat.le_refl _) HSL.out FB.out _ _ _ true
  · have q2 : hi < (n : Int) := by simp at hc; omega
    clear hc
    go_wp2_with fail
    refine (r09Bad_any 2 _).mono ?_
    rintro e' w1 ⟨x3, rfl, ⟨a3, cap3, rfl, hsl⟩, hb⟩
    have hs1 : w.heap.size + 1 ≤ w1.heap.size := by have := hb.size; simpa using this
    have g1 : w1.heap[w.heap.size]? = some (.cells #[.int .i64 0, .int .i64 0, .slice none 0 0] 27) := (hb.block _ (by simp)).trans (by (repeat (first | (with_reducible refine heap_alloc_at ?_ _; (first | rfl | (simp; done) | omega | (simp; omega)); done) | with_reducible refine heap_alloc_old ?_ _ | with_reducible refine heap_drew_old ?_ | with_reducible refine heap_drewN_old ?_)))
    have FB : Hid (Below w.heap.size w w1) := by
      refine Below.trans ?_ (hb.mono (by simp))
      (repeat (first | with_reducible exact Below.refl _ _ | with_reducible exact hBW | with_reducible refine Below.setCell ?_ ?_ _ | with_reducible refine Below.alloc ?_ ?_ _ | with_reducible refine belowN ?_ _ | with_reducible refine Below.drew ?_)); all_goals (first | omega | (dsimp only; omega) | ((repeat (first | with_reducible refine le_alloc ?_ | with_reducible refine le_setCell ?_ | with_reducible refine le_drew ?_ | with_reducible refine le_drewN ?_)); omega))
    have c1 := cell_of_heap g1
    have y1 := frozen_of_heap g1
    have hn1 : w.heap.size < w1.heap.size := by omega
    rw [World.size_alloc] at hsl
    have HSL := Lib.hid hsl
    clear hb g1 hsl
    go_wp2_with fail
    refine bodyPost_ret (v := .tuple #[.agg #[.int .i64 1, .int .i64 1, .slice a3 1 cap3], .bool true]) (by simp [results, Try.results16, go_sem, c1]) rfl ?_
    exact callP_hand (A := ⟨1, 1, [vBad 2]⟩) (n := 0) (Nat.le_refl _) HSL.out FB.out _ _ _ true
theorem rcall_na : Calls Try.prog 16 #[.string sNA, .slice a 0 cap] w (CallP w ⟨1, 1, [vBad 6]⟩ true) := by
  have HC := Lib.hid cnt_NA
  unfold sNA at HC ⊢
  go_enter Try.func16, Try.ntmps16
  go_wp2_with fail
  refine (HC.out _).mono ?_
  rintro e w1 ⟨rfl, rfl⟩
  go_wp2_with fail
  refine abs_world ?_
  intro W2 hW2
  have hB2 : Hid (Below w.heap.size w W2) := by rw [hW2]; unfold Hid; (repeat (first | with_reducible exact Below.refl _ _ | with_reducible exact hBW | with_reducible refine Below.setCell ?_ ?_ _ | with_reducible refine Below.alloc ?_ ?_ _ | with_reducible refine belowN ?_ _ | with_reducible refine Below.drew ?_)); all_goals (first | omega | (dsimp only; omega) | ((repeat (first | with_reducible refine le_alloc ?_ | with_reducible refine le_setCell ?_ | with_reducible refine le_drew ?_ | with_reducible refine le_drewN ?_)); omega))
  have g0 : W2.heap[w.heap.size]? = some (.cells #[.int .i64 0, .int .i64 0, .slice none 0 0] 27) := by rw [hW2]; (repeat (first | (with_reducible refine heap_alloc_at ?_ _; (first | rfl | (simp; done) | omega | (simp; omega)); done) | with_reducible refine heap_alloc_old ?_ _ | with_reducible refine heap_drew_old ?_ | with_reducible refine heap_drewN_old ?_))
  have G0 := Lib.hid g0
  clear hW2 g0
  go_loopw [9] (fun i wr => i = .int .i64 0 ∧ wr = W2) (fun _ _ => 0)
  case atStart => exact ⟨rfl, rfl⟩
  case round =>
    obtain ⟨rfl, rfl⟩ := hrel
    go_wp2_with fail
    refine (r09Bad_any 6 _).mono ?_
    rintro e' w3 ⟨x3, rfl, ⟨a3, cap3, rfl, hsl3⟩, hb4⟩
    have hB3 := hb4
    have e0 := (hB3.block w.heap.size (lt_of_heap G0.out)).trans G0.out
    have x0 := cell_of_heap e0
    have y0 := frozen_of_heap e0
    have hn0 : w.heap.size < w3.heap.size := lt_of_heap e0
    have HSL3 := Lib.hid (hsl3.mono (B' := w.heap.size + 1) (lt_of_heap G0.out))
    have HB3 := Lib.hid (hB2.out.trans (hB3.mono hB2.out.size))
    clear hsl3 hb4 hB3 e0
    go_wp2_with fail
    refine bodyPost_ret (v := .tuple #[.agg #[.int .i64 1, .int .i64 1, .slice a3 1 cap3], .bool true]) (by simp [results, Try.results16, go_sem, x0]) rfl ?_
    exact callP_hand (A := ⟨1, 1, [vBad 6]⟩) (n := 0) (Nat.le_refl _) HSL3.out HB3.out _ _ _ true
theorem rcall_wrong {lo hi : Int} (hC : CntIs s lo hi true) (l : List Arr) (h1 : lo ≤ (l.length : Int)) (h2 : (l.length : Int) ≤ hi) (hl : l.length ≤ 40) (hN : ¬ ∀ A ∈ l, ArrR A) (hA : ArgsAt 0 w a l) :
    Calls Try.prog 16 #[.string s, .slice a l.length cap] w (CallP w ⟨1, 1, [vBad 9]⟩ true) := by
  have HC : Hid (∀ w : World, Calls Try.prog 24 #[.string s] w fun e w' => e = .returned (.tuple #[.int .i64 lo, .int .i64 hi, .bool true]) ∧ w = w') := hC
  have HN := Lib.hid hN
  have HA := Lib.hid hA
  clear hC hN hA
  go_enter Try.func16, Try.ntmps16
  go_wp2_with fail
  refine (HC.out _).mono ?_
  rintro e w1 ⟨rfl, rfl⟩
  go_wp2_with fail
  refine abs_world ?_
  intro W2 hW2
  have hB2 : Hid (Below w.heap.size w W2) := by rw [hW2]; unfold Hid; (repeat (first | with_reducible exact Below.refl _ _ | with_reducible exact hBW | with_reducible refine Below.setCell ?_ ?_ _ | with_reducible refine Below.alloc ?_ ?_ _ | with_reducible refine belowN ?_ _ | with_reducible refine Below.drew ?_)); all_goals (first | omega | (dsimp only; omega) | ((repeat (first | with_reducible refine le_alloc ?_ | with_reducible refine le_setCell ?_ | with_reducible refine le_drew ?_ | with_reducible refine le_drewN ?_)); omega))
  have g0 : W2.heap[w.heap.size]? = some (.cells #[.int .i64 0, .int .i64 0, .slice none 0 0] 27) := by rw [hW2]; (repeat (first | (with_reducible refine heap_alloc_at ?_ _; (first | rfl | (simp; done) | omega | (simp; omega)); done) | with_reducible refine heap_alloc_old ?_ _ | with_reducible refine heap_drew_old ?_ | with_reducible refine heap_drewN_old ?_))
  have G0 := Lib.hid g0
  clear hW2 g0
  go_loopw [9] (fun i wr => ∃ k : Nat, i = .int .i64 k ∧ k ≤ l.length ∧ Hid (∀ A ∈ l.take k, ArrR A) ∧ Hid (Below W2.heap.size W2 wr)) (fun i _ => l.length - (intOf i).toNat)
  case atStart => exact ⟨0, rfl, Nat.zero_le _, fun A hA => (by simp at hA), Below.refl _ _⟩
  case round =>
    obtain ⟨k, rfl, hk, hR, hB⟩ := hrel
    have HBw : Hid (Below w.heap.size w wr) := hB2.out.trans (hB.out.mono hB2.out.size)
    by_cases hlt : k < l.length
    · obtain ⟨A, hAk⟩ : ∃ A, l[k]? = some A := ⟨_, List.getElem?_eq_getElem hlt⟩
      obtain ⟨b, off, rfl, _, hb, hall⟩ := (HA.out.below HBw.out) (by omega)
      obtain ⟨a', cap', c0, c1, c2, hsl⟩ := hall k A hAk
      have HAk := Lib.hid hAk
      have HSL := Lib.hid hsl
      clear hall hAk hsl
      go_wp2_with fail
      refine (q09_any A a' cap' _ HSL.out).mono ?_
      rintro e' w3 ⟨R, rfl, hRR, hb3⟩
      have HB3 : Hid (Below W2.heap.size W2 w3) := hB.out.trans (hb3.mono hB.out.size)
      have HRR := Lib.hid hRR
      clear hb3 c0 c1 c2 hRR
      cases R with
      | true =>
        have HR2 : Hid (∀ A ∈ l.take (k + 1), ArrR A) := fun X hX => by
          rw [List.take_add_one, HAk.out] at hX
          rcases List.mem_append.1 hX with hX | hX
          · exact hR.out X hX
          · simp at hX; rw [hX]; exact HRR.out.1 rfl
        clear hR
        go_wp2_with fail
        go_roundw
        case rel => exact ⟨k + 1, by go_num, by omega, HR2, HB3⟩
        case measure => simp [intOf]; omega
      | false =>
        go_wp2_with fail
        refine (r09Bad_any 9 _).mono ?_
        rintro e' w4 ⟨x3, rfl, ⟨a3, cap3, rfl, hsl3⟩, hb4⟩
        have hB3 : Below W2.heap.size W2 w4 := HB3.out.trans (hb4.mono HB3.out.size)
        have e0 := (hB3.block w.heap.size (lt_of_heap G0.out)).trans G0.out
        have x0 := cell_of_heap e0
        have y0 := frozen_of_heap e0
        have hn0 : w.heap.size < w4.heap.size := lt_of_heap e0
        have HSL3 := Lib.hid (hsl3.mono (B' := w.heap.size + 1) (Nat.le_trans (lt_of_heap G0.out) HB3.out.size))
        have HB4 := Lib.hid (hB2.out.trans (hB3.mono hB2.out.size))
        clear hsl3 hb4 hB3 e0
        go_wp2_with fail
        refine bodyPost_ret (v := .tuple #[.agg #[.int .i64 1, .int .i64 1, .slice a3 1 cap3], .bool true]) (by simp [results, Try.results16, go_sem, x0]) rfl ?_
        exact callP_hand (A := ⟨1, 1, [vBad 9]⟩) (n := 0) (Nat.le_refl _) HSL3.out HB4.out _ _ _ true
    · exact absurd (by have := hR.out; rwa [List.take_of_length_le (by omega)] at this) HN.out
theorem truthsV_right {fn : Int → Int → Bool} (l : List Arr) : refR (truthsV fn l) = true := by
  unfold truthsV
  have hb : ∀ f : Int, refR (vBad f) = true := fun f => by
    unfold vBad refR
    by_cases h : f < 1 ∨ 9 < f
    · simp [h]
    · simp [h]; omega
  have ht : ∀ b : Bool, refR (vTruth b) = true := fun b => by unfold vTruth refR; simp
  split
  · exact hb _
  · split
    · exact hb _
    · exact ht _
theorem rcall_fold {fn : Int → Int → Bool} (hE : EndOk s fn) (hC : CntIs s 1 32 true) (n1 : (s.toList == [78, 65]) = false) (n2 : (s.toList == [65, 78, 68]) = true ∨ ((s.toList == [65, 78, 68]) = false ∧ (s.toList == [79, 82]) = true) ∨ ((s.toList == [65, 78, 68]) = false ∧ (s.toList == [79, 82]) = false ∧ (s.toList == [88, 79, 82]) = true))
    (l : List Arr) (h1 : 1 ≤ l.length) (h2 : l.length ≤ 32) (hR : ∀ A ∈ l, ArrR A) (hZ : ∀ A ∈ l, A.l.length ≤ 60) (hA : ArgsAt 0 w a l) :
    Calls Try.prog 16 #[.string s, .slice a l.length cap] w (CallP w ⟨1, 1, [truthsV fn l]⟩ true) := by
  have HC : Hid (∀ w : World, Calls Try.prog 24 #[.string s] w fun e w' => e = .returned (.tuple #[.int .i64 1, .int .i64 32, .bool true]) ∧ w = w') := hC
  have HR := Lib.hid hR
  have HA := Lib.hid hA
  have hN : (allV l).length ≤ 1000000 := by
    have : ∀ m : List Arr, (∀ A ∈ m, A.l.length ≤ 60) → (allV m).length ≤ m.length * 60 := by
      intro m
      induction m with
      | nil => intro _; simp [allV]
      | cons x r ih =>
        intro h
        have := ih (fun A hA => h A (List.mem_cons_of_mem _ hA))
        have h3 := h x (by simp)
        have e : allV (x :: r) = x.l ++ allV r := by simp [allV]
        rw [e, List.length_append, List.length_cons]
        omega
    have := this l hZ
    omega
  have HALL := Lib.hid (fun a w hA => all_any hE l (by omega) hN (fun A hA v hv => (hR A hA).h7 v hv) hZ a cap w hA)
  have HV := Lib.hid (truthsV_right (fn := fn) l)
  clear hC hR hA hE hN hZ
  go_enter Try.func16, Try.ntmps16
  go_wp2_with fail
  refine (HC.out _).mono ?_
  rintro e w1 ⟨rfl, rfl⟩
  go_wp2_with fail
  refine abs_world ?_
  intro W2 hW2
  have hB2 : Hid (Below w.heap.size w W2) := by rw [hW2]; unfold Hid; (repeat (first | with_reducible exact Below.refl _ _ | with_reducible exact hBW | with_reducible refine Below.setCell ?_ ?_ _ | with_reducible refine Below.alloc ?_ ?_ _ | with_reducible refine belowN ?_ _ | with_reducible refine Below.drew ?_)); all_goals (first | omega | (dsimp only; omega) | ((repeat (first | with_reducible refine le_alloc ?_ | with_reducible refine le_setCell ?_ | with_reducible refine le_drew ?_ | with_reducible refine le_drewN ?_)); omega))
  have g0 : W2.heap[w.heap.size]? = some (.cells #[.int .i64 0, .int .i64 0, .slice none 0 0] 27) := by rw [hW2]; (repeat (first | (with_reducible refine heap_alloc_at ?_ _; (first | rfl | (simp; done) | omega | (simp; omega)); done) | with_reducible refine heap_alloc_old ?_ _ | with_reducible refine heap_drew_old ?_ | with_reducible refine heap_drewN_old ?_))
  have G0 := Lib.hid g0
  clear hW2 g0
  go_loopw [9] (fun i wr => ∃ k : Nat, i = .int .i64 k ∧ k ≤ l.length ∧ Hid (Below W2.heap.size W2 wr)) (fun i _ => l.length - (intOf i).toNat)
  case atStart => exact ⟨0, rfl, Nat.zero_le _, Below.refl _ _⟩
  case round =>
    obtain ⟨k, rfl, hk, hB⟩ := hrel
    have HBw : Hid (Below w.heap.size w wr) := hB2.out.trans (hB.out.mono hB2.out.size)
    by_cases hlt : k < l.length
    · obtain ⟨A, hAk⟩ : ∃ A, l[k]? = some A := ⟨_, List.getElem?_eq_getElem hlt⟩
      obtain ⟨b, off, rfl, _, hb, hall⟩ := (HA.out.below HBw.out) (by omega)
      obtain ⟨a', cap', c0, c1, c2, hsl⟩ := hall k A hAk
      have HRA := Lib.hid (HR.out A (List.mem_of_getElem? hAk))
      have HSL := Lib.hid hsl
      clear hall hAk hsl
      go_wp2_with fail
      refine (q09_any A a' cap' _ HSL.out).mono ?_
      rintro e' w3 ⟨R, rfl, hRR, hb3⟩
      have HB3 : Hid (Below W2.heap.size W2 w3) := hB.out.trans (hb3.mono hB.out.size)
      have hR1 : R = true := hRR.2 HRA.out
      subst hR1
      clear hb3 c0 c1 c2 hRR
      go_wp2_with fail
      go_roundw
      case rel => exact ⟨k + 1, by go_num, by omega, HB3⟩
      case measure => simp [intOf]; omega
    · rcases n2 with n2 | ⟨n2, n3⟩ | ⟨n2, n3, n4⟩
      all_goals
        go_wp2_with fail
        refine (HALL.out _ _ (HA.out.below HBw.out)).mono ?_
        rintro e' w3 ⟨rfl, hb3⟩
        have HB3 : Hid (Below W2.heap.size W2 w3) := hB.out.trans (hb3.mono hB.out.size)
        clear hb3
        go_wp2_with fail
        refine (r09One_any _ HV.out _).mono ?_
        rintro e' w4 ⟨x3, rfl, ⟨a3, cap3, rfl, hsl3⟩, hb4⟩
        have hB3 : Below W2.heap.size W2 w4 := HB3.out.trans (hb4.mono HB3.out.size)
        have e0 := (hB3.block w.heap.size (lt_of_heap G0.out)).trans G0.out
        have x0 := cell_of_heap e0
        have y0 := frozen_of_heap e0
        have hn0 : w.heap.size < w4.heap.size := lt_of_heap e0
        have HSL3 := Lib.hid (hsl3.mono (B' := w.heap.size + 1) (Nat.le_trans (lt_of_heap G0.out) HB3.out.size))
        have HB4 := Lib.hid (hB2.out.trans (hB3.mono hB2.out.size))
        clear hsl3 hb4 hB3 e0
        go_wp2_with fail
        refine bodyPost_ret (v := .tuple #[.agg #[.int .i64 1, .int .i64 1, .slice a3 1 cap3], .bool true]) (by simp [results, Try.results16, go_sem, x0]) rfl ?_
        exact callP_hand (A := ⟨1, 1, [truthsV fn l]⟩) (n := 0) (Nat.le_refl _) HSL3.out HB4.out _ _ _ true
end
end Go.Proofs.Ytgbedjeiihigaaa
