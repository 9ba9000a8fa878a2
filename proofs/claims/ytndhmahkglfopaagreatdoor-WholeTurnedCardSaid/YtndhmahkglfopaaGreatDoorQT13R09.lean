/- The document's answer: when an array may be. -/
import Derived.Test.YtndhmahkglfopaaGreatDoorQT13Ref
import Derived.Test.YtndhmahkglfopaaGreatDoorQT13Right
namespace Go.Proofs.YtndhmahkglfopaaGreatDoor
open Go.RowKit
structure ArrR (A : Arr) : Prop where
  h1 : 1 ≤ A.r
  h2 : 1 ≤ A.c
  h3 : A.r ≤ 4096
  h4 : A.c ≤ 4096
  h5 : A.r * A.c ≤ 4096
  h6 : (A.l.length : Int) = A.r * A.c
  h7 : ∀ v ∈ A.l, refR v = true
theorem ArrR.ok {A : Arr} (h : ArrR A) : ArrOk A :=
  ⟨h.h1, h.h2, h.h3, (Int.le_ediv_iff_mul_le (by have := h.h1; omega)).2 (by rw [Int.mul_comm]; exact h.h5), h.h6, fun v hv => refR_right (h.h7 v hv)⟩
def P09 (A : Arr) (w : World) (e : Ending) (w' : World) : Prop := ∃ R : Bool, e = .returned (.bool R) ∧ (R = true → ArrR A) ∧ Below w.heap.size w w'
section
variable (A : Arr) (a : Option Addr) (cap : Nat) (w : World)
set_option maxHeartbeats 1000000
set_option maxRecDepth 100000
theorem r09_1 (h : A.r < 1) : Calls Tryz.prog 14 #[.agg #[.int .i64 A.r, .int .i64 A.c, .slice a A.l.length cap]] w (P09 A w) := by
  go_enter Tryz.func14, Tryz.ntmps14
  go_wp2_with fail
  go_ret
  refine ⟨false, rfl, fun h => (by cases h), ?_⟩
  (repeat with_reducible (first | exact bw0 _ _ | exact hBW | refine bw1 ?_ ?_ _ | refine bw2 ?_ ?_ _ | refine bw3 ?_ _ | refine bw4 ?_)); all_goals (first | omega | (dsimp only; omega) | ((repeat with_reducible (first | refine lz1 ?_ | refine lz2 ?_ | refine lz3 ?_ | refine lz4 ?_)); omega))
theorem r09_2 (h1 : 1 ≤ A.r) (h : A.c < 1) : Calls Tryz.prog 14 #[.agg #[.int .i64 A.r, .int .i64 A.c, .slice a A.l.length cap]] w (P09 A w) := by
  go_enter Tryz.func14, Tryz.ntmps14
  go_wp2_with fail
  go_ret
  refine ⟨false, rfl, fun h => (by cases h), ?_⟩
  (repeat with_reducible (first | exact bw0 _ _ | exact hBW | refine bw1 ?_ ?_ _ | refine bw2 ?_ ?_ _ | refine bw3 ?_ _ | refine bw4 ?_)); all_goals (first | omega | (dsimp only; omega) | ((repeat with_reducible (first | refine lz1 ?_ | refine lz2 ?_ | refine lz3 ?_ | refine lz4 ?_)); omega))
theorem r09_3 (h1 : 1 ≤ A.r) (h2 : 1 ≤ A.c) (h : 4096 < A.r) : Calls Tryz.prog 14 #[.agg #[.int .i64 A.r, .int .i64 A.c, .slice a A.l.length cap]] w (P09 A w) := by
  go_enter Tryz.func14, Tryz.ntmps14
  go_wp2_with fail
  go_ret
  refine ⟨false, rfl, fun h => (by cases h), ?_⟩
  (repeat with_reducible (first | exact bw0 _ _ | exact hBW | refine bw1 ?_ ?_ _ | refine bw2 ?_ ?_ _ | refine bw3 ?_ _ | refine bw4 ?_)); all_goals (first | omega | (dsimp only; omega) | ((repeat with_reducible (first | refine lz1 ?_ | refine lz2 ?_ | refine lz3 ?_ | refine lz4 ?_)); omega))
theorem r09_4 (h1 : 1 ≤ A.r) (h2 : 1 ≤ A.c) (h3 : A.r ≤ 4096) (h : 4096 < A.c) : Calls Tryz.prog 14 #[.agg #[.int .i64 A.r, .int .i64 A.c, .slice a A.l.length cap]] w (P09 A w) := by
  go_enter Tryz.func14, Tryz.ntmps14
  go_wp2_with fail
  go_ret
  refine ⟨false, rfl, fun h => (by cases h), ?_⟩
  (repeat with_reducible (first | exact bw0 _ _ | exact hBW | refine bw1 ?_ ?_ _ | refine bw2 ?_ ?_ _ | refine bw3 ?_ _ | refine bw4 ?_)); all_goals (first | omega | (dsimp only; omega) | ((repeat with_reducible (first | refine lz1 ?_ | refine lz2 ?_ | refine lz3 ?_ | refine lz4 ?_)); omega))
theorem mul_bd (h1 : 1 ≤ A.r) (h2 : 1 ≤ A.c) (h3 : A.r ≤ 4096) (h4 : A.c ≤ 4096) : 1 ≤ A.r * A.c ∧ A.r * A.c ≤ 16777216 := by
  have a : 1 * 1 ≤ A.r * A.c := Int.mul_le_mul h1 h2 (by omega) (by omega)
  have b : A.r * A.c ≤ 4096 * 4096 := Int.mul_le_mul h3 h4 (by omega) (by omega)
  omega
theorem r09_5 (h1 : 1 ≤ A.r) (h2 : 1 ≤ A.c) (h3 : A.r ≤ 4096) (h4 : A.c ≤ 4096) (h : 4096 < A.r * A.c) : Calls Tryz.prog 14 #[.agg #[.int .i64 A.r, .int .i64 A.c, .slice a A.l.length cap]] w (P09 A w) := by
  have hb := mul_bd A h1 h2 h3 h4
  have wm : wrap64 (A.r * A.c) = A.r * A.c := IntWalk.wrap64_in _ (by omega)
  go_enter Tryz.func14, Tryz.ntmps14
  go_wp2_with fail
  go_ret
  refine ⟨false, rfl, fun h => (by cases h), ?_⟩
  (repeat with_reducible (first | exact bw0 _ _ | exact hBW | refine bw1 ?_ ?_ _ | refine bw2 ?_ ?_ _ | refine bw3 ?_ _ | refine bw4 ?_)); all_goals (first | omega | (dsimp only; omega) | ((repeat with_reducible (first | refine lz1 ?_ | refine lz2 ?_ | refine lz3 ?_ | refine lz4 ?_)); omega))
theorem r09_6 (h1 : 1 ≤ A.r) (h2 : 1 ≤ A.c) (h3 : A.r ≤ 4096) (h4 : A.c ≤ 4096) (h5 : A.r * A.c ≤ 4096) (h : (A.l.length : Int) ≠ A.r * A.c) : Calls Tryz.prog 14 #[.agg #[.int .i64 A.r, .int .i64 A.c, .slice a A.l.length cap]] w (P09 A w) := by
  have hb := mul_bd A h1 h2 h3 h4
  have wm : wrap64 (A.r * A.c) = A.r * A.c := IntWalk.wrap64_in _ (by omega)
  have n1 : ((A.l.length : Int) != A.r * A.c) = true := by simpa using h
  clear h
  go_enter Tryz.func14, Tryz.ntmps14
  go_wp2_with fail
  go_ret
  refine ⟨false, rfl, fun h => (by cases h), ?_⟩
  (repeat with_reducible (first | exact bw0 _ _ | exact hBW | refine bw1 ?_ ?_ _ | refine bw2 ?_ ?_ _ | refine bw3 ?_ _ | refine bw4 ?_)); all_goals (first | omega | (dsimp only; omega) | ((repeat with_reducible (first | refine lz1 ?_ | refine lz2 ?_ | refine lz3 ?_ | refine lz4 ?_)); omega))
theorem r09_7 (h1 : 1 ≤ A.r) (h2 : 1 ≤ A.c) (h3 : A.r ≤ 4096) (h4 : A.c ≤ 4096) (h5 : A.r * A.c ≤ 4096) (h6 : (A.l.length : Int) = A.r * A.c) (hs : SlB 0 w a A.l) : Calls Tryz.prog 14 #[.agg #[.int .i64 A.r, .int .i64 A.c, .slice a A.l.length cap]] w (P09 A w) := by
  have hb := mul_bd A h1 h2 h3 h4
  have wm : wrap64 (A.r * A.c) = A.r * A.c := IntWalk.wrap64_in _ (by omega)
  have n1 : ((A.l.length : Int) != A.r * A.c) = false := by simpa using h6
  have H6 := Lib.hid h6
  have hl : A.l.length ≤ 4096 := by omega
  have HSL := Lib.hid hs
  clear h6 hs
  go_enter Tryz.func14, Tryz.ntmps14
  go_wp2_with fail
  refine abs_world ?_
  intro W0 hW0
  have hB0 : Below w.heap.size w W0 := by rw [hW0]; (repeat with_reducible (first | exact bw0 _ _ | exact hBW | refine bw1 ?_ ?_ _ | refine bw2 ?_ ?_ _ | refine bw3 ?_ _ | refine bw4 ?_)); all_goals (first | omega | (dsimp only; omega) | ((repeat with_reducible (first | refine lz1 ?_ | refine lz2 ?_ | refine lz3 ?_ | refine lz4 ?_)); omega))
  have g0 : W0.heap[w.heap.size]? = some (.cells #[.int .i64 A.r, .int .i64 A.c, .slice a A.l.length cap] 28) := by rw [hW0]; (repeat (first | (with_reducible refine bw5 ?_ _; (first | rfl | (simp; done) | omega | (simp; omega)); done) | with_reducible refine bw6 ?_ _ | with_reducible refine bw7 ?_ | with_reducible refine bw8 ?_))
  have G0 := Lib.hid g0
  have HB0 := Lib.hid hB0
  clear hW0 g0 hB0 wm n1
  go_loopw [3] (fun i wr => ∃ k : Nat, i = .int .i64 k ∧ k ≤ A.l.length ∧ Hid (∀ v ∈ A.l.take k, refR v = true) ∧ Hid (Below W0.heap.size W0 wr)) (fun i _ => A.l.length - (intOf i).toNat)
  case atStart => exact ⟨0, rfl, Nat.zero_le _, fun v hv => (by simp at hv), Below.refl _ _⟩
  case round =>
    obtain ⟨k, rfl, hk, hR, hB⟩ := hrel
    have e0 := (hB.out.block w.heap.size (lt_of_heap G0.out)).trans G0.out
    have x2 := cell_of_heap e0 2
    have z0 := lt_of_heap e0
    have HBw : Hid (Below w.heap.size w wr) := HB0.out.trans (hB.out.mono HB0.out.size)
    clear e0
    by_cases hlt : k < A.l.length
    · obtain ⟨v, hv⟩ : ∃ v, A.l[k]? = some v := ⟨_, List.getElem?_eq_getElem hlt⟩
      obtain ⟨b, off, rfl, hb', c0, c1, c2, c3, c4, c5⟩ := (HSL.out.below HBw.out).cells hv
      have HC := Lib.hid (ref02_any v)
      have NX : Hid (refR v = true → ∀ u ∈ A.l.take (k + 1), refR u = true) := fun h u hu => by
        rw [List.take_add_one, hv] at hu
        rcases List.mem_append.1 hu with hu | hu
        · exact hR.out u hu
        · simp at hu; rw [hu]; exact h
      generalize refR v = R at HC NX
      unfold vagg at HC
      have j1 : (0 : Int) ≤ (k : Int) := by omega
      have j2 : (k : Int) < (A.l.length : Int) := by omega
      clear hv hR
      go_wp2_with fail
      refine (HC.out _).mono ?_
      rintro e w2 ⟨rfl, f2⟩
      have HB2 : Hid (Below W0.heap.size W0 w2) := hB.out.trans (f2.mono hB.out.size)
      clear f2 c0 c1 c2 c3 c4 c5 x2
      cases R with
      | true =>
        have HN := Lib.hid (NX.out rfl)
        clear NX
        go_wp2_with fail
        go_roundw
        case rel => exact ⟨k + 1, by go_num, by omega, HN, HB2⟩
        case measure => simp [intOf]; omega
      | false =>
        clear NX
        go_wp2_with fail
        go_ret
        exact ⟨false, rfl, fun h => (by cases h), HB0.out.trans (HB2.out.mono HB0.out.size)⟩
    · have HN : Hid (∀ v ∈ A.l, refR v = true) := by
        have := hR.out
        rwa [List.take_of_length_le (by omega)] at this
      clear hR
      go_wp2_with fail
      go_ret
      exact ⟨true, rfl, fun _ => ⟨h1, h2, h3, h4, h5, H6.out, HN.out⟩, HBw.out⟩
end
theorem r09_any (A : Arr) (a : Option Addr) (cap : Nat) (w : World) (hs : SlB 0 w a A.l) : Calls Tryz.prog 14 #[.agg #[.int .i64 A.r, .int .i64 A.c, .slice a A.l.length cap]] w (P09 A w) := by
  by_cases h1 : A.r < 1
  · exact r09_1 A a cap w h1
  by_cases h2 : A.c < 1
  · exact r09_2 A a cap w (by omega) h2
  by_cases h3 : 4096 < A.r
  · exact r09_3 A a cap w (by omega) (by omega) h3
  by_cases h4 : 4096 < A.c
  · exact r09_4 A a cap w (by omega) (by omega) (by omega) h4
  by_cases h5 : 4096 < A.r * A.c
  · exact r09_5 A a cap w (by omega) (by omega) (by omega) (by omega) h5
  by_cases h6 : (A.l.length : Int) = A.r * A.c
  · exact r09_7 A a cap w (by omega) (by omega) (by omega) (by omega) (by omega) h6 hs
  · exact r09_6 A a cap w (by omega) (by omega) (by omega) (by omega) (by omega) h6
end Go.Proofs.YtndhmahkglfopaaGreatDoor
