/- shape.Right of whatever array. -/
import Derived.Test.YtgbedjeiihigaaaF13RightA
namespace Go.Proofs.Ytgbedjeiihigaaa
open Go.RowKit
section
variable (r c : Int) (w : World)
set_option maxHeartbeats 400000
theorem fits_n1 (h1 : r < 1) : Calls Try.prog 41 #[.int .i64 r, .int .i64 c] w fun e w' => e = .returned (.bool false) ∧ w = w' := by
  go_enter Try.func41, Try.ntmps41
  go_wp2
  go_ret
  exact ⟨rfl, rfl⟩
theorem fits_n2 (h1 : 1 ≤ r) (h2 : c < 1) : Calls Try.prog 41 #[.int .i64 r, .int .i64 c] w fun e w' => e = .returned (.bool false) ∧ w = w' := by
  go_enter Try.func41, Try.ntmps41
  go_wp2
  go_ret
  exact ⟨rfl, rfl⟩
theorem fits_n3 (h1 : 1 ≤ r) (h2 : 1 ≤ c) (h3 : 4096 < r) : Calls Try.prog 41 #[.int .i64 r, .int .i64 c] w fun e w' => e = .returned (.bool false) ∧ w = w' := by
  go_enter Try.func41, Try.ntmps41
  go_wp2
  go_ret
  exact ⟨rfl, rfl⟩
theorem fits_n4 (h1 : 1 ≤ r) (h2 : 1 ≤ c) (h3 : r ≤ 4096) (h4 : 4096 / r < c) : Calls Try.prog 41 #[.int .i64 r, .int .i64 c] w fun e w' => e = .returned (.bool false) ∧ w = w' := by
  have hd : decide (c ≤ 4096 / r) = false := by simpa using h4
  clear h4
  go_enter Try.func41, Try.ntmps41
  go_wp2
  go_ret
  exact ⟨rfl, rfl⟩
end
theorem fits_no (r c : Int) (w : World) (h : ¬ (1 ≤ r ∧ 1 ≤ c ∧ r ≤ 4096 ∧ c ≤ 4096 / r)) : Calls Try.prog 41 #[.int .i64 r, .int .i64 c] w fun e w' => e = .returned (.bool false) ∧ w = w' := by
  by_cases h1 : r < 1
  · exact fits_n1 r c w h1
  by_cases h2 : c < 1
  · exact fits_n2 r c w (by omega) h2
  by_cases h3 : 4096 < r
  · exact fits_n3 r c w (by omega) (by omega) h3
  by_cases h4 : 4096 / r < c
  · exact fits_n4 r c w (by omega) (by omega) (by omega) h4
  exact absurd ⟨by omega, by omega, by omega, by omega⟩ h
section
variable (A : Arr) (a : Option Addr) (cap : Nat) (w : World)
set_option maxHeartbeats 1000000
set_option maxRecDepth 100000
theorem shape_n1 (h : ¬ (1 ≤ A.r ∧ 1 ≤ A.c ∧ A.r ≤ 4096 ∧ A.c ≤ 4096 / A.r)) : Calls Try.prog 22 #[.agg #[.int .i64 A.r, .int .i64 A.c, .slice a A.l.length cap]] w fun e w' => e = .returned (.bool false) ∧ Below w.heap.size w w' := by
  have HF := Lib.hid (fun w => fits_no A.r A.c w h)
  clear h
  go_enter Try.func22, Try.ntmps22
  go_wp2_with fail
  refine (HF.out _).mono ?_
  rintro e w1 ⟨rfl, rfl⟩
  go_wp2_with fail
  go_ret
  refine ⟨rfl, ?_⟩
  (repeat (first | with_reducible exact Below.refl _ _ | with_reducible exact hBW | with_reducible refine Below.setCell ?_ ?_ _ | with_reducible refine Below.alloc ?_ ?_ _ | with_reducible refine belowN ?_ _ | with_reducible refine Below.drew ?_)); all_goals (first | omega | (dsimp only; omega) | ((repeat (first | with_reducible refine le_alloc ?_ | with_reducible refine le_setCell ?_ | with_reducible refine le_drew ?_ | with_reducible refine le_drewN ?_)); omega))
theorem shape_n2 (h1 : 1 ≤ A.r) (h2 : 1 ≤ A.c) (h3 : A.r ≤ 4096) (h4 : A.c ≤ 4096 / A.r) (h5 : (A.l.length : Int) ≠ A.r * A.c) (h6 : 1 ≤ A.r * A.c) (h7 : A.r * A.c ≤ 4096) : Calls Try.prog 22 #[.agg #[.int .i64 A.r, .int .i64 A.c, .slice a A.l.length cap]] w fun e w' => e = .returned (.bool false) ∧ Below w.heap.size w w' := by
  have n1 : ((A.l.length : Int) != A.r * A.c) = true := by simpa using h5
  have hw1 : IntKind.i64.wrap (A.r * A.c) = A.r * A.c := IntWalk.i64_in _ (by omega)
  have hw2 : wrap64 (A.r * A.c) = A.r * A.c := IntWalk.wrap64_in _ (by omega)
  clear h5
  go_enter Try.func22, Try.ntmps22
  go_wp2_with fail
  refine (fits_yes A.r A.c _ h1 h2 h3 h4).mono ?_
  rintro e w1 ⟨rfl, rfl⟩
  go_wp2_with fail
  go_ret
  refine ⟨rfl, ?_⟩
  (repeat (first | with_reducible exact Below.refl _ _ | with_reducible exact hBW | with_reducible refine Below.setCell ?_ ?_ _ | with_reducible refine Below.alloc ?_ ?_ _ | with_reducible refine belowN ?_ _ | with_reducible refine Below.drew ?_)); all_goals (first | omega | (dsimp only; omega) | ((repeat (first | with_reducible refine le_alloc ?_ | with_reducible refine le_setCell ?_ | with_reducible refine le_drew ?_ | with_reducible refine le_drewN ?_)); omega))
theorem shape_7 (h1 : 1 ≤ A.r) (h2 : 1 ≤ A.c) (h3 : A.r ≤ 4096) (h4 : A.c ≤ 4096) (h5 : A.r * A.c ≤ 4096) (h6 : (A.l.length : Int) = A.r * A.c) (h8 : A.c ≤ 4096 / A.r) (h9 : 1 ≤ A.r * A.c) (hI : ∀ v ∈ A.l, I64 v.m) (hs : SlB 0 w a A.l) : Calls Try.prog 22 #[.agg #[.int .i64 A.r, .int .i64 A.c, .slice a A.l.length cap]] w (Q09 A w) := by
  have HI := Lib.hid hI
  have H6 := Lib.hid h6
  have HSL := Lib.hid hs
  have n1 : ((A.l.length : Int) != A.r * A.c) = false := by simp [h6]
  have hw1 : IntKind.i64.wrap (A.r * A.c) = A.r * A.c := IntWalk.i64_in _ (by omega)
  have hw2 : wrap64 (A.r * A.c) = A.r * A.c := IntWalk.wrap64_in _ (by omega)
  have hl : A.l.length ≤ 4096 := by omega
  clear h6 hs hI
  go_enter Try.func22, Try.ntmps22
  go_wp2_with fail
  refine (fits_yes A.r A.c _ h1 h2 h3 h8).mono ?_
  rintro e w1 ⟨rfl, rfl⟩
  go_wp2_with fail
  refine abs_world ?_
  intro W0 hW0
  have hB0 : Below w.heap.size w W0 := by rw [hW0]; (repeat (first | with_reducible exact Below.refl _ _ | with_reducible exact hBW | with_reducible refine Below.setCell ?_ ?_ _ | with_reducible refine Below.alloc ?_ ?_ _ | with_reducible refine belowN ?_ _ | with_reducible refine Below.drew ?_)); all_goals (first | omega | (dsimp only; omega) | ((repeat (first | with_reducible refine le_alloc ?_ | with_reducible refine le_setCell ?_ | with_reducible refine le_drew ?_ | with_reducible refine le_drewN ?_)); omega))
  have g0 : W0.heap[w.heap.size]? = some (.cells #[.int .i64 A.r, .int .i64 A.c, .slice a A.l.length cap] 27) := by rw [hW0]; (repeat (first | (with_reducible refine heap_alloc_at ?_ _; (first | rfl | (simp; done) | omega | (simp; omega)); done) | with_reducible refine heap_alloc_old ?_ _ | with_reducible refine heap_drew_old ?_ | with_reducible refine heap_drewN_old ?_))
  have G0 := Lib.hid g0
  have HB0 := Lib.hid hB0
  clear hW0 g0 hB0 hw1 hw2 n1
  go_loopw [24] (fun i wr => ∃ k : Nat, i = .int .i64 k ∧ k ≤ A.l.length ∧ Hid (∀ v ∈ A.l.take k, refR v = true) ∧ Hid (Below W0.heap.size W0 wr)) (fun i _ => A.l.length - (intOf i).toNat)
  case atStart => exact ⟨0, rfl, Nat.zero_le _, fun v hv => (by simp at hv), Below.refl _ _⟩
  case round =>
    obtain ⟨k, rfl, hk, hR, hB⟩ := hrel
    have e0 := (hB.out.block w.heap.size (lt_of_heap G0.out)).trans G0.out
    have x2 := cell_of_heap e0 2
    have z0 := lt_of_heap e0
    have HBw : Hid (Below w.heap.size w wr) := HB0.out.trans (hB.out.mono HB0.out.size)
    clear e0
    by_cases hlt : k < A.l.length
    · obtain ⟨v, hv⟩ : ∃ v, A.l[k]? = some v := ⟨_, List.getElem?_eq_getElem hlt⟩
      obtain ⟨b, off, rfl, hb', c0, c1, c2, c3, c4, c5⟩ := (HSL.out.below HBw.out).cells hv
      have HC := Lib.hid (right_all v (HI.out v (List.mem_of_getElem? hv)))
      have NX : Hid (refR v = true → ∀ u ∈ A.l.take (k + 1), refR u = true) := fun h u hu => by
        rw [List.take_add_one, hv] at hu
        rcases List.mem_append.1 hu with hu | hu
        · exact hR.out u hu
        · simp at hu; rw [hu]; exact h
      have NY : Hid (refR v = false → ¬ ArrR A) := fun h h' => by
        have := h'.h7 v (List.mem_of_getElem? hv)
        rw [h] at this
        cases this
      generalize refR v = R at HC NX NY
      unfold vagg at HC
      have j1 : (0 : Int) ≤ (k : Int) := by omega
      have j2 : (k : Int) < (A.l.length : Int) := by omega
      clear hv hR
      go_wp2_with fail
      refine (HC.out _).mono ?_
      rintro e w2 ⟨rfl, f2⟩
      have HB2 : Hid (Below W0.heap.size W0 w2) := hB.out.trans (f2.mono hB.out.size)
      clear f2 c0 c1 c2 c3 c4 c5 x2
      cases R with
      | true =>
        have HN := Lib.hid (NX.out rfl)
        clear NX NY
        go_wp2_with fail
        go_roundw
        case rel => exact ⟨k + 1, by go_num, by omega, HN, HB2⟩
        case measure => simp [intOf]; omega
      | false =>
        have NZ := Lib.hid (NY.out rfl)
        clear NX NY
        go_wp2_with fail
        go_ret
        exact ⟨false, rfl, ⟨fun h => (by cases h), fun h => absurd h NZ.out⟩, HB0.out.trans (HB2.out.mono HB0.out.size)⟩
    · have HN : Hid (∀ v ∈ A.l, refR v = true) := by
        have := hR.out
        rwa [List.take_of_length_le (by omega)] at this
      clear hR
      go_wp2_with fail
      go_ret
      exact ⟨true, rfl, ⟨fun _ => ⟨h1, h2, h3, h4, h5, H6.out, HN.out⟩, fun _ => rfl⟩, HBw.out⟩
end
theorem shape_all (A : Arr) (a : Option Addr) (cap : Nat) (w : World) (hI : ∀ v ∈ A.l, I64 v.m) (hs : SlB 0 w a A.l) : Calls Try.prog 22 #[.agg #[.int .i64 A.r, .int .i64 A.c, .slice a A.l.length cap]] w (Q09 A w) := by
  by_cases h : 1 ≤ A.r ∧ 1 ≤ A.c ∧ A.r ≤ 4096 ∧ A.c ≤ 4096 / A.r
  · obtain ⟨h1, h2, h3, h4⟩ := h
    have h5 : A.r * A.c ≤ 4096 := by rw [Int.mul_comm]; exact (Int.le_ediv_iff_mul_le (by omega)).1 h4
    have h6 : A.c ≤ 4096 := by
      have : 1 * A.c ≤ A.r * A.c := Int.mul_le_mul_of_nonneg_right h1 (by omega)
      omega
    have h7 := (mul_bd A h1 h2 h3 h6).1
    by_cases h8 : (A.l.length : Int) = A.r * A.c
    · exact shape_7 A a cap w h1 h2 h3 h6 h5 h8 h4 h7 hI hs
    · refine (shape_n2 A a cap w h1 h2 h3 h4 h8 h7 h5).mono ?_
      rintro e w' ⟨rfl, hb⟩
      exact ⟨false, rfl, ⟨fun h => (by cases h), fun h => absurd h.h6 h8⟩, hb⟩
  · refine (shape_n1 A a cap w h).mono ?_
    rintro e w' ⟨rfl, hb⟩
    refine ⟨false, rfl, ⟨fun h => (by cases h), fun h' => absurd ?_ h⟩, hb⟩
    exact ⟨h'.h1, h'.h2, h'.h3, h'.ok.h4⟩
end Go.Proofs.Ytgbedjeiihigaaa
