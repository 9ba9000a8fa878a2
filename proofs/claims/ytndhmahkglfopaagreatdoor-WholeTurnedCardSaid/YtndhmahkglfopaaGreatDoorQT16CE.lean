/- The library's Call, and the law's call. -/
import Derived.Test.YtndhmahkglfopaaGreatDoorQT16CD
namespace Go.Proofs.YtndhmahkglfopaaGreatDoor
open Go.RowKit
theorem ent82 : Ent 82 := enters_of Tryz.func82 (by kernel_rfl) rfl
theorem ent85 : Ent 85 := enters_of Tryz.func85 (by kernel_rfl) rfl
theorem ent88 : Ent 88 := enters_of Tryz.func88 (by kernel_rfl) rfl
theorem ent91 : Ent 91 := enters_of Tryz.func91 (by kernel_rfl) rfl
theorem ent94 : Ent 94 := enters_of Tryz.func94 (by kernel_rfl) rfl
theorem CallPostC.alloc {X : Nat → Prop} {w w' : World} {A : Arr} {e : Ending} (h : CallPostC X w A e w') (o : Obj) : CallPostC X w A e (w'.alloc o) := by
  obtain ⟨a, cap, he, hx, h1, h2⟩ := h
  exact ⟨a, cap, he, hx, h1.below (below_alloc w' o _ (Nat.le_refl _)), h2.alloc h2.size o⟩
/-- The row of families. -/
def famL : List Value := [.func (.func 81) #[] #[], .func (.func 82) #[] #[], .func (.func 83) #[] #[], .func (.func 84) #[] #[], .func (.func 85) #[] #[], .func (.func 86) #[] #[], .func (.func 87) #[] #[], .func (.func 88) #[] #[], .func (.func 89) #[] #[], .func (.func 90) #[] #[], .func (.func 91) #[] #[], .func (.func 92) #[] #[], .func (.func 93) #[] #[], .func (.func 94) #[] #[], .func (.func 95) #[] #[]]
section
variable (w : World)
set_option maxHeartbeats 2000000
set_option maxRecDepth 100000
theorem families_any : Calls Tryz.prog 50 #[] w fun e w' => e = .returned (.slice (some ⟨w.heap.size, 0, none⟩) 5 5) ∧ w'.heap[w.heap.size]? = some (.cells famL.toArray 84) ∧ Below w.heap.size w w' := by
  go_enter Tryz.func50, Tryz.ntmps50
  go_wp2_with fail
  go_ret
  refine ⟨rfl, ?_, ?_⟩
  · exact heap_alloc_new w _
  · (repeat with_reducible (first | exact bw0 _ _ | exact hBW | refine bw1 ?_ ?_ _ | refine bw2 ?_ ?_ _ | refine bw3 ?_ _ | refine bw4 ?_)); all_goals (first | omega | (dsimp only; omega) | ((repeat with_reducible (first | refine lz1 ?_ | refine lz2 ?_ | refine lz3 ?_ | refine lz4 ?_)); omega))
/- a round of the loop: family $1, its three functions $2 $3 $4; the call's contract is HM -/
theorem lib_0 {X : Nat → Prop} (s : ByteArray) (a : Option Addr) (n cap : Nat) (R : Arr) (hh : ∀ W, Below w.heap.size w W → Calls Tryz.prog 82 #[.string s, .slice a n cap] W (CallPostC X W R)) : Calls Tryz.prog 21 #[.agg #[], .string s, .slice a n cap] w (CallPostC X w R) := by
  have HH := Lib.hid hh
  clear hh
  go_enter Tryz.func21, Tryz.ntmps21
  go_wp2_with fail
  refine (families_any _).mono ?_
  rintro e w1 ⟨rfl, hfam, hb1⟩
  have HB1 : Hid (Below w.heap.size w w1) := by
    refine Below.trans ?_ (hb1.mono (by simp <;> omega))
    (repeat with_reducible (first | exact bw0 _ _ | exact hBW | refine bw1 ?_ ?_ _ | refine bw2 ?_ ?_ _ | refine bw3 ?_ _ | refine bw4 ?_)); all_goals (first | omega | (dsimp only; omega) | ((repeat with_reducible (first | refine lz1 ?_ | refine lz2 ?_ | refine lz3 ?_ | refine lz4 ?_)); omega))
  have G6 := Lib.hid ((hb1.block (w.heap.size + 1) (by simp)).trans (show _ = some (.cells #[.int .i64 0, .int .i64 0, .slice none 0 0] 28 (0, 0)) by (repeat (first | (with_reducible refine bw5 ?_ _; (first | rfl | (simp; done) | omega | (simp; omega)); done) | with_reducible refine bw6 ?_ _ | with_reducible refine bw7 ?_ | with_reducible refine bw8 ?_))))
  obtain ⟨fb, hfb⟩ : ∃ fb, fb = ((w.alloc (.cells #[] 57)).alloc (.cells #[.int .i64 0, .int .i64 0, .slice none 0 0] 28)).heap.size := ⟨_, rfl⟩
  have HWZ : Hid (w.heap.size + 1 < w1.heap.size) := lt_of_heap G6.out
  rw [← hfb] at hfam ⊢
  have FAM := Lib.hid hfam
  clear hfb hfam hb1
  go_wp2_with fail
  go_loopw [14] (fun i wr => i = .int .i64 0 ∧ Hid (Below w1.heap.size w1 wr)) (fun _ _ => 0)
  case atStart => exact ⟨rfl, Below.refl _ _⟩
  case round =>
    obtain ⟨rfl, hB⟩ := hrel
    have ef := (hB.out.block _ (lt_of_heap FAM.out)).trans FAM.out
    have c0 : wr.cell? ⟨fb, 0, none⟩ = some (.func (.func 81) #[] #[]) := cell_of_heap ef 0
    have c1 : wr.cell? ⟨fb, 1, none⟩ = some (.func (.func 82) #[] #[]) := cell_of_heap ef 1
    have c2 : wr.cell? ⟨fb, 2, none⟩ = some (.func (.func 83) #[] #[]) := cell_of_heap ef 2
    have zf := lt_of_heap ef
    have zf1 : fb ≠ wr.heap.size := by omega
    have zf2 : fb < wr.heap.size + 1 := by omega
    have HBw : Hid (Below w.heap.size w wr) := HB1.out.trans (hB.out.mono HB1.out.size)
    clear ef
    have ent := ent82
    unfold Ent at ent
    go_wp2_with fail
    clear ent
    have hba : Below wr.heap.size wr (wr.alloc (.cells #[.func (.func 81) #[] #[], .func (.func 82) #[] #[], .func (.func 83) #[] #[]] 84)) := by (repeat with_reducible (first | exact bw0 _ _ | exact hBW | refine bw1 ?_ ?_ _ | refine bw2 ?_ ?_ _ | refine bw3 ?_ _ | refine bw4 ?_)); all_goals (first | omega | (dsimp only; omega) | ((repeat with_reducible (first | refine lz1 ?_ | refine lz2 ?_ | refine lz3 ?_ | refine lz4 ?_)); omega))
    refine (HH.out _ (HBw.out.trans (hba.mono HBw.out.size))).mono ?_
    rintro e w2 ⟨a2, cap2, rfl, hx2, hsl, hb2⟩
    have HX2 := Lib.hid hx2
    clear hx2
    have HB2 : Hid (Below w.heap.size w w2) := HBw.out.trans ((hba.trans (hb2.mono (by simp))).mono HBw.out.size)
    have hB2 : Below w1.heap.size w1 w2 := hB.out.trans ((hba.trans (hb2.mono (by simp))).mono hB.out.size)
    have e0 := (hB2.block _ (lt_of_heap G6.out)).trans G6.out
    have x0 := cell_of_heap e0
    have z0 := frozen_of_heap e0
    have hn0 := lt_of_heap e0
    have hsz1 := HBw.out.size
    have hw1z := HWZ.out
    have hB2z := hB.out.size
    have HSL := Lib.hid (hsl.mono (B' := w.heap.size + 1 + 1) (by rw [World.size_alloc]; omega))
    clear hsl hb2 hba hB2 e0 c0 c1 c2 zf zf1 zf2
    go_wp2_with fail
    have hBW := HB2.out
    have hsz := hBW.size
    refine bodyPost_ret (v := .tuple #[.agg #[.int .i64 R.r, .int .i64 R.c, .slice a2 R.l.length cap2], .bool true]) (by simp [results, Tryz.results21, go_sem, x0, hn0]) rfl ?_
    exact (call_handC HX2.out (A := R) (b := w.heap.size + 1) (n := 0) (by omega) HSL.out HB2.out _ _ _).alloc _
theorem lib_4 {X : Nat → Prop} (s : ByteArray) (a : Option Addr) (n cap : Nat) (R : Arr) (m1 : newKey keys112 s = true) (m2 : newKey keys117 s = true) (m3 : newKey keys120 s = true) (m4 : newKey keys123 s = true) (hh : ∀ W, Below w.heap.size w W → Calls Tryz.prog 94 #[.string s, .slice a n cap] W (CallPostC X W R)) : Calls Tryz.prog 21 #[.agg #[], .string s, .slice a n cap] w (CallPostC X w R) := by
  have M1 := Lib.hid m1
  have M2 := Lib.hid m2
  have M3 := Lib.hid m3
  have M4 := Lib.hid m4
  clear m1 m2 m3 m4
  have HH := Lib.hid hh
  clear hh
  go_enter Tryz.func21, Tryz.ntmps21
  go_wp2_with fail
  refine (families_any _).mono ?_
  rintro e w1 ⟨rfl, hfam, hb1⟩
  have HB1 : Hid (Below w.heap.size w w1) := by
    refine Below.trans ?_ (hb1.mono (by simp <;> omega))
    (repeat with_reducible (first | exact bw0 _ _ | exact hBW | refine bw1 ?_ ?_ _ | refine bw2 ?_ ?_ _ | refine bw3 ?_ _ | refine bw4 ?_)); all_goals (first | omega | (dsimp only; omega) | ((repeat with_reducible (first | refine lz1 ?_ | refine lz2 ?_ | refine lz3 ?_ | refine lz4 ?_)); omega))
  have G6 := Lib.hid ((hb1.block (w.heap.size + 1) (by simp)).trans (show _ = some (.cells #[.int .i64 0, .int .i64 0, .slice none 0 0] 28 (0, 0)) by (repeat (first | (with_reducible refine bw5 ?_ _; (first | rfl | (simp; done) | omega | (simp; omega)); done) | with_reducible refine bw6 ?_ _ | with_reducible refine bw7 ?_ | with_reducible refine bw8 ?_))))
  obtain ⟨fb, hfb⟩ : ∃ fb, fb = ((w.alloc (.cells #[] 57)).alloc (.cells #[.int .i64 0, .int .i64 0, .slice none 0 0] 28)).heap.size := ⟨_, rfl⟩
  have HWZ : Hid (w.heap.size + 1 < w1.heap.size) := lt_of_heap G6.out
  rw [← hfb] at hfam ⊢
  have FAM := Lib.hid hfam
  clear hfb hfam hb1
  go_wp2_with fail
  go_loopw [14] (fun i wr => ∃ k : Nat, i = .int .i64 k ∧ k ≤ 4 ∧ Hid (Below w1.heap.size w1 wr)) (fun i _ => 5 - (intOf i).toNat)
  case atStart => exact ⟨0, rfl, by omega, Below.refl _ _⟩
  case round =>
    obtain ⟨k, rfl, hk, hB⟩ := hrel
    have h5 : k = 0 ∨ k = 1 ∨ k = 2 ∨ k = 3 ∨ k = 4 := by omega
    clear hk
    rcases h5 with rfl | rfl | rfl | rfl | rfl
    · have ef := (hB.out.block _ (lt_of_heap FAM.out)).trans FAM.out
      have c0 : wr.cell? ⟨fb, 0, none⟩ = some (.func (.func 81) #[] #[]) := cell_of_heap ef 0
      have c1 : wr.cell? ⟨fb, 1, none⟩ = some (.func (.func 82) #[] #[]) := cell_of_heap ef 1
      have c2 : wr.cell? ⟨fb, 2, none⟩ = some (.func (.func 83) #[] #[]) := cell_of_heap ef 2
      have zf := lt_of_heap ef
      have zf1 : fb ≠ wr.heap.size := by omega
      have zf2 : fb < wr.heap.size + 1 := by omega
      have HBw : Hid (Below w.heap.size w wr) := HB1.out.trans (hB.out.mono HB1.out.size)
      clear ef
      have ent := ent82
      unfold Ent at ent
      have HM := Lib.hid (fun w => call82_miss s a n cap w M1.out)
      go_wp2_with fail
      clear ent
      refine (HM.out _).mono ?_
      rintro e w2 ⟨rfl, hb2⟩
      have HB2 : Hid (Below w1.heap.size w1 w2) := hB.out.trans (Below.mono (Below.trans (by (repeat with_reducible (first | exact bw0 _ _ | exact hBW | refine bw1 ?_ ?_ _ | refine bw2 ?_ ?_ _ | refine bw3 ?_ _ | refine bw4 ?_)); all_goals (first | omega | (dsimp only; omega) | ((repeat with_reducible (first | refine lz1 ?_ | refine lz2 ?_ | refine lz3 ?_ | refine lz4 ?_)); omega))) (hb2.mono (by simp)) : Below wr.heap.size wr w2) hB.out.size)
      clear hb2 c0 c1 c2 zf zf1 zf2
      go_wp2_with fail
      go_roundw
      case rel =>
        refine ⟨1, rfl, by omega, ?_⟩
        have hBW := HB2.out
        have hsz := hBW.size
        show Below _ _ _
        (repeat with_reducible (first | exact bw0 _ _ | exact hBW | refine bw1 ?_ ?_ _ | refine bw2 ?_ ?_ _ | refine bw3 ?_ _ | refine bw4 ?_)); all_goals (first | omega | (dsimp only; omega) | ((repeat with_reducible (first | refine lz1 ?_ | refine lz2 ?_ | refine lz3 ?_ | refine lz4 ?_)); omega))
      case measure => simp [intOf]
    · have ef := (hB.out.block _ (lt_of_heap FAM.out)).trans FAM.out
      have c0 : wr.cell? ⟨fb, 3, none⟩ = some (.func (.func 84) #[] #[]) := cell_of_heap ef 3
      have c1 : wr.cell? ⟨fb, 4, none⟩ = some (.func (.func 85) #[] #[]) := cell_of_heap ef 4
      have c2 : wr.cell? ⟨fb, 5, none⟩ = some (.func (.func 86) #[] #[]) := cell_of_heap ef 5
      have zf := lt_of_heap ef
      have zf1 : fb ≠ wr.heap.size := by omega
      have zf2 : fb < wr.heap.size + 1 := by omega
      have HBw : Hid (Below w.heap.size w wr) := HB1.out.trans (hB.out.mono HB1.out.size)
      clear ef
      have ent := ent85
      unfold Ent at ent
      have HM := Lib.hid (fun w => call85_miss s a n cap w M2.out)
      go_wp2_with fail
      clear ent
      refine (HM.out _).mono ?_
      rintro e w2 ⟨rfl, hb2⟩
      have HB2 : Hid (Below w1.heap.size w1 w2) := hB.out.trans (Below.mono (Below.trans (by (repeat with_reducible (first | exact bw0 _ _ | exact hBW | refine bw1 ?_ ?_ _ | refine bw2 ?_ ?_ _ | refine bw3 ?_ _ | refine bw4 ?_)); all_goals (first | omega | (dsimp only; omega) | ((repeat with_reducible (first | refine lz1 ?_ | refine lz2 ?_ | refine lz3 ?_ | refine lz4 ?_)); omega))) (hb2.mono (by simp)) : Below wr.heap.size wr w2) hB.out.size)
      clear hb2 c0 c1 c2 zf zf1 zf2
      go_wp2_with fail
      go_roundw
      case rel =>
        refine ⟨2, rfl, by omega, ?_⟩
        have hBW := HB2.out
        have hsz := hBW.size
        show Below _ _ _
        (repeat with_reducible (first | exact bw0 _ _ | exact hBW | refine bw1 ?_ ?_ _ | refine bw2 ?_ ?_ _ | refine bw3 ?_ _ | refine bw4 ?_)); all_goals (first | omega | (dsimp only; omega) | ((repeat with_reducible (first | refine lz1 ?_ | refine lz2 ?_ | refine lz3 ?_ | refine lz4 ?_)); omega))
      case measure => simp [intOf]
    · have ef := (hB.out.block _ (lt_of_heap FAM.out)).trans FAM.out
      have c0 : wr.cell? ⟨fb, 6, none⟩ = some (.func (.func 87) #[] #[]) := cell_of_heap ef 6
      have c1 : wr.cell? ⟨fb, 7, none⟩ = some (.func (.func 88) #[] #[]) := cell_of_heap ef 7
      have c2 : wr.cell? ⟨fb, 8, none⟩ = some (.func (.func 89) #[] #[]) := cell_of_heap ef 8
      have zf := lt_of_heap ef
      have zf1 : fb ≠ wr.heap.size := by omega
      have zf2 : fb < wr.heap.size + 1 := by omega
      have HBw : Hid (Below w.heap.size w wr) := HB1.out.trans (hB.out.mono HB1.out.size)
      clear ef
      have ent := ent88
      unfold Ent at ent
      have HM := Lib.hid (fun w => call88_miss s a n cap w M3.out)
      go_wp2_with fail
      clear ent
      refine (HM.out _).mono ?_
      rintro e w2 ⟨rfl, hb2⟩
      have HB2 : Hid (Below w1.heap.size w1 w2) := hB.out.trans (Below.mono (Below.trans (by (repeat with_reducible (first | exact bw0 _ _ | exact hBW | refine bw1 ?_ ?_ _ | refine bw2 ?_ ?_ _ | refine bw3 ?_ _ | refine bw4 ?_)); all_goals (first | omega | (dsimp only; omega) | ((repeat with_reducible (first | refine lz1 ?_ | refine lz2 ?_ | refine lz3 ?_ | refine lz4 ?_)); omega))) (hb2.mono (by simp)) : Below wr.heap.size wr w2) hB.out.size)
      clear hb2 c0 c1 c2 zf zf1 zf2
      go_wp2_with fail
      go_roundw
      case rel =>
        refine ⟨3, rfl, by omega, ?_⟩
        have hBW := HB2.out
        have hsz := hBW.size
        show Below _ _ _
        (repeat with_reducible (first | exact bw0 _ _ | exact hBW | refine bw1 ?_ ?_ _ | refine bw2 ?_ ?_ _ | refine bw3 ?_ _ | refine bw4 ?_)); all_goals (first | omega | (dsimp only; omega) | ((repeat with_reducible (first | refine lz1 ?_ | refine lz2 ?_ | refine lz3 ?_ | refine lz4 ?_)); omega))
      case measure => simp [intOf]
    · have ef := (hB.out.block _ (lt_of_heap FAM.out)).trans FAM.out
      have c0 : wr.cell? ⟨fb, 9, none⟩ = some (.func (.func 90) #[] #[]) := cell_of_heap ef 9
      have c1 : wr.cell? ⟨fb, 10, none⟩ = some (.func (.func 91) #[] #[]) := cell_of_heap ef 10
      have c2 : wr.cell? ⟨fb, 11, none⟩ = some (.func (.func 92) #[] #[]) := cell_of_heap ef 11
      have zf := lt_of_heap ef
      have zf1 : fb ≠ wr.heap.size := by omega
      have zf2 : fb < wr.heap.size + 1 := by omega
      have HBw : Hid (Below w.heap.size w wr) := HB1.out.trans (hB.out.mono HB1.out.size)
      clear ef
      have ent := ent91
      unfold Ent at ent
      have HM := Lib.hid (fun w => call91_miss s a n cap w M4.out)
      go_wp2_with fail
      clear ent
      refine (HM.out _).mono ?_
      rintro e w2 ⟨rfl, hb2⟩
      have HB2 : Hid (Below w1.heap.size w1 w2) := hB.out.trans (Below.mono (Below.trans (by (repeat with_reducible (first | exact bw0 _ _ | exact hBW | refine bw1 ?_ ?_ _ | refine bw2 ?_ ?_ _ | refine bw3 ?_ _ | refine bw4 ?_)); all_goals (first | omega | (dsimp only; omega) | ((repeat with_reducible (first | refine lz1 ?_ | refine lz2 ?_ | refine lz3 ?_ | refine lz4 ?_)); omega))) (hb2.mono (by simp)) : Below wr.heap.size wr w2) hB.out.size)
      clear hb2 c0 c1 c2 zf zf1 zf2
      go_wp2_with fail
      go_roundw
      case rel =>
        refine ⟨4, rfl, by omega, ?_⟩
        have hBW := HB2.out
        have hsz := hBW.size
        show Below _ _ _
        (repeat with_reducible (first | exact bw0 _ _ | exact hBW | refine bw1 ?_ ?_ _ | refine bw2 ?_ ?_ _ | refine bw3 ?_ _ | refine bw4 ?_)); all_goals (first | omega | (dsimp only; omega) | ((repeat with_reducible (first | refine lz1 ?_ | refine lz2 ?_ | refine lz3 ?_ | refine lz4 ?_)); omega))
      case measure => simp [intOf]
    · have ef := (hB.out.block _ (lt_of_heap FAM.out)).trans FAM.out
      have c0 : wr.cell? ⟨fb, 12, none⟩ = some (.func (.func 93) #[] #[]) := cell_of_heap ef 12
      have c1 : wr.cell? ⟨fb, 13, none⟩ = some (.func (.func 94) #[] #[]) := cell_of_heap ef 13
      have c2 : wr.cell? ⟨fb, 14, none⟩ = some (.func (.func 95) #[] #[]) := cell_of_heap ef 14
      have zf := lt_of_heap ef
      have zf1 : fb ≠ wr.heap.size := by omega
      have zf2 : fb < wr.heap.size + 1 := by omega
      have HBw : Hid (Below w.heap.size w wr) := HB1.out.trans (hB.out.mono HB1.out.size)
      clear ef
      have ent := ent94
      unfold Ent at ent
      go_wp2_with fail
      clear ent
      have hba : Below wr.heap.size wr (wr.alloc (.cells #[.func (.func 93) #[] #[], .func (.func 94) #[] #[], .func (.func 95) #[] #[]] 84)) := by (repeat with_reducible (first | exact bw0 _ _ | exact hBW | refine bw1 ?_ ?_ _ | refine bw2 ?_ ?_ _ | refine bw3 ?_ _ | refine bw4 ?_)); all_goals (first | omega | (dsimp only; omega) | ((repeat with_reducible (first | refine lz1 ?_ | refine lz2 ?_ | refine lz3 ?_ | refine lz4 ?_)); omega))
      refine (HH.out _ (HBw.out.trans (hba.mono HBw.out.size))).mono ?_
      rintro e w2 ⟨a2, cap2, rfl, hx2, hsl, hb2⟩
      have HX2 := Lib.hid hx2
      clear hx2
      have HB2 : Hid (Below w.heap.size w w2) := HBw.out.trans ((hba.trans (hb2.mono (by simp))).mono HBw.out.size)
      have hB2 : Below w1.heap.size w1 w2 := hB.out.trans ((hba.trans (hb2.mono (by simp))).mono hB.out.size)
      have e0 := (hB2.block _ (lt_of_heap G6.out)).trans G6.out
      have x0 := cell_of_heap e0
      have z0 := frozen_of_heap e0
      have hn0 := lt_of_heap e0
      have hsz1 := HBw.out.size
      have hw1z := HWZ.out
      have hB2z := hB.out.size
      have HSL := Lib.hid (hsl.mono (B' := w.heap.size + 1 + 1) (by rw [World.size_alloc]; omega))
      clear hsl hb2 hba hB2 e0 c0 c1 c2 zf zf1 zf2
      go_wp2_with fail
      have hBW := HB2.out
      have hsz := hBW.size
      refine bodyPost_ret (v := .tuple #[.agg #[.int .i64 R.r, .int .i64 R.c, .slice a2 R.l.length cap2], .bool true]) (by simp [results, Tryz.results21, go_sem, x0, hn0]) rfl ?_
      exact (call_handC HX2.out (A := R) (b := w.heap.size + 1) (n := 0) (by omega) HSL.out HB2.out _ _ _).alloc _
end
end Go.Proofs.YtndhmahkglfopaaGreatDoor
