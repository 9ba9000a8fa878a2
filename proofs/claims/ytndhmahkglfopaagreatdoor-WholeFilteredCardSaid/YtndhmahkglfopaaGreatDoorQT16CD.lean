/- A family's Call: a name that it has not. -/
import Derived.Test.YtndhmahkglfopaaGreatDoorQT13R09
import Derived.Test.YtndhmahkglfopaaGreatDoorQT16CA
import Derived.Test.YtndhmahkglfopaaGreatDoorQT16T117
namespace Go.Proofs.YtndhmahkglfopaaGreatDoor
open Go.RowKit
def MissPost (w : World) (e : Ending) (w' : World) : Prop := e = .returned (.tuple #[.agg #[.int .i64 0, .int .i64 0, .slice none 0 0], .bool false]) ∧ Below w.heap.size w w'
theorem zero142 (w : World) : (zeroValue 142).run Tryz.prog w = .ok (.agg #[.int .i64 0, .int .i64 0, .nilFunc]) w := by kernel_rfl
theorem zero148 (w : World) : (zeroValue 148).run Tryz.prog w = .ok (.agg #[.int .i64 0, .int .i64 0, .nilFunc]) w := by kernel_rfl
theorem zero154 (w : World) : (zeroValue 154).run Tryz.prog w = .ok (.agg #[.int .i64 0, .int .i64 0, .nilFunc]) w := by kernel_rfl
section
variable (s : ByteArray) (a : Option Addr) (n cap : Nat) (w : World)
set_option maxHeartbeats 2000000
set_option maxRecDepth 100000
/- $1: the function, $2: its table's contract, $3: the struct, $4: the map's type -/
theorem call82_miss (hn : newKey keys112 s = true) : Calls Tryz.prog 82 #[.string s, .slice a n cap] w (MissPost w) := by
  have HTB := Lib.hid tab112_any
  have HN := Lib.hid hn
  clear hn
  go_enter Tryz.func82, Tryz.ntmps82
  go_wp2_with fail
  refine (HTB.out _).mono ?_
  intro e w1 ht
  have hbw : Below w.heap.size w w1 := by
    obtain ⟨_, _, _, _, _, hb, _⟩ := ht
    refine Below.trans ?_ (hb.mono (by simp))
    (repeat with_reducible (first | exact bw0 _ _ | exact hBW | refine bw1 ?_ ?_ _ | refine bw2 ?_ ?_ _ | refine bw3 ?_ _ | refine bw4 ?_)); all_goals (first | omega | (dsimp only; omega) | ((repeat with_reducible (first | refine lz1 ?_ | refine lz2 ?_ | refine lz3 ?_ | refine lz4 ?_)); omega))
  have hbw2 := ht
  obtain ⟨BB, l, rfl, hm, hk, hb⟩ := hbw2
  have hl := hm.look2 (string_fits Tryz.underlying9) Tryz.underlying129 (zero134 w1) s
  rw [TabSt.miss hk HN.out] at hl
  simp only [Option.map_none, Option.getD_none, Option.isSome_none] at hl
  have g0 : w1.heap[w.heap.size]? = some (.cells #[.int .i64 0, .int .i64 0, .slice none 0 0] 28) := (hb.1.block _ (by simp)).trans (by (repeat (first | (with_reducible refine bw5 ?_ _; (first | rfl | (simp; done) | omega | (simp; omega)); done) | with_reducible refine bw6 ?_ _ | with_reducible refine bw7 ?_ | with_reducible refine bw8 ?_)))
  have FB := Lib.hid hbw
  have x0 := cell_of_heap g0
  have y0 := frozen_of_heap g0
  have z0 := lt_of_heap g0
  clear g0 hb hbw ht hm hk
  go_wp2_with fail
  have hBW := FB.out
  have hsz := hBW.size
  refine bodyPost_ret (v := .tuple #[.agg #[.int .i64 0, .int .i64 0, .slice none 0 0], .bool false]) (by simp [results, Tryz.results82, go_sem, x0, z0]) rfl ⟨rfl, ?_⟩
  (repeat with_reducible (first | exact bw0 _ _ | exact hBW | refine bw1 ?_ ?_ _ | refine bw2 ?_ ?_ _ | refine bw3 ?_ _ | refine bw4 ?_)); all_goals (first | omega | (dsimp only; omega) | ((repeat with_reducible (first | refine lz1 ?_ | refine lz2 ?_ | refine lz3 ?_ | refine lz4 ?_)); omega))
theorem call85_miss (hn : newKey keys117 s = true) : Calls Tryz.prog 85 #[.string s, .slice a n cap] w (MissPost w) := by
  have HTB := Lib.hid tab117_any
  have HN := Lib.hid hn
  clear hn
  go_enter Tryz.func85, Tryz.ntmps85
  go_wp2_with fail
  refine (HTB.out _).mono ?_
  intro e w1 ht
  have hbw : Below w.heap.size w w1 := by
    obtain ⟨_, _, _, _, _, hb⟩ := ht
    refine Below.trans ?_ (hb.mono (by simp))
    (repeat with_reducible (first | exact bw0 _ _ | exact hBW | refine bw1 ?_ ?_ _ | refine bw2 ?_ ?_ _ | refine bw3 ?_ _ | refine bw4 ?_)); all_goals (first | omega | (dsimp only; omega) | ((repeat with_reducible (first | refine lz1 ?_ | refine lz2 ?_ | refine lz3 ?_ | refine lz4 ?_)); omega))
  have hbw2 := ht
  obtain ⟨BB, l, rfl, hm, hk, hb⟩ := hbw2
  have hl := hm.look2 (string_fits Tryz.underlying9) Tryz.underlying140 (zero142 w1) s
  rw [TabSt.miss hk HN.out] at hl
  simp only [Option.map_none, Option.getD_none, Option.isSome_none] at hl
  have g0 : w1.heap[w.heap.size]? = some (.cells #[.int .i64 0, .int .i64 0, .slice none 0 0] 28) := (hb.block _ (by simp)).trans (by (repeat (first | (with_reducible refine bw5 ?_ _; (first | rfl | (simp; done) | omega | (simp; omega)); done) | with_reducible refine bw6 ?_ _ | with_reducible refine bw7 ?_ | with_reducible refine bw8 ?_)))
  have FB := Lib.hid hbw
  have x0 := cell_of_heap g0
  have y0 := frozen_of_heap g0
  have z0 := lt_of_heap g0
  clear g0 hb hbw ht hm hk
  go_wp2_with fail
  have hBW := FB.out
  have hsz := hBW.size
  refine bodyPost_ret (v := .tuple #[.agg #[.int .i64 0, .int .i64 0, .slice none 0 0], .bool false]) (by simp [results, Tryz.results85, go_sem, x0, z0]) rfl ⟨rfl, ?_⟩
  (repeat with_reducible (first | exact bw0 _ _ | exact hBW | refine bw1 ?_ ?_ _ | refine bw2 ?_ ?_ _ | refine bw3 ?_ _ | refine bw4 ?_)); all_goals (first | omega | (dsimp only; omega) | ((repeat with_reducible (first | refine lz1 ?_ | refine lz2 ?_ | refine lz3 ?_ | refine lz4 ?_)); omega))
theorem call88_miss (hn : newKey keys120 s = true) : Calls Tryz.prog 88 #[.string s, .slice a n cap] w (MissPost w) := by
  have HTB := Lib.hid tab120_any
  have HN := Lib.hid hn
  clear hn
  go_enter Tryz.func88, Tryz.ntmps88
  go_wp2_with fail
  refine (HTB.out _).mono ?_
  intro e w1 ht
  have hbw : Below w.heap.size w w1 := by
    obtain ⟨_, _, _, _, _, hb⟩ := ht
    refine Below.trans ?_ (hb.mono (by simp))
    (repeat with_reducible (first | exact bw0 _ _ | exact hBW | refine bw1 ?_ ?_ _ | refine bw2 ?_ ?_ _ | refine bw3 ?_ _ | refine bw4 ?_)); all_goals (first | omega | (dsimp only; omega) | ((repeat with_reducible (first | refine lz1 ?_ | refine lz2 ?_ | refine lz3 ?_ | refine lz4 ?_)); omega))
  have hbw2 := ht
  obtain ⟨BB, l, rfl, hm, hk, hb⟩ := hbw2
  have hl := hm.look2 (string_fits Tryz.underlying9) Tryz.underlying146 (zero148 w1) s
  rw [TabSt.miss hk HN.out] at hl
  simp only [Option.map_none, Option.getD_none, Option.isSome_none] at hl
  have g0 : w1.heap[w.heap.size]? = some (.cells #[.int .i64 0, .int .i64 0, .slice none 0 0] 28) := (hb.block _ (by simp)).trans (by (repeat (first | (with_reducible refine bw5 ?_ _; (first | rfl | (simp; done) | omega | (simp; omega)); done) | with_reducible refine bw6 ?_ _ | with_reducible refine bw7 ?_ | with_reducible refine bw8 ?_)))
  have FB := Lib.hid hbw
  have x0 := cell_of_heap g0
  have y0 := frozen_of_heap g0
  have z0 := lt_of_heap g0
  clear g0 hb hbw ht hm hk
  go_wp2_with fail
  have hBW := FB.out
  have hsz := hBW.size
  refine bodyPost_ret (v := .tuple #[.agg #[.int .i64 0, .int .i64 0, .slice none 0 0], .bool false]) (by simp [results, Tryz.results88, go_sem, x0, z0]) rfl ⟨rfl, ?_⟩
  (repeat with_reducible (first | exact bw0 _ _ | exact hBW | refine bw1 ?_ ?_ _ | refine bw2 ?_ ?_ _ | refine bw3 ?_ _ | refine bw4 ?_)); all_goals (first | omega | (dsimp only; omega) | ((repeat with_reducible (first | refine lz1 ?_ | refine lz2 ?_ | refine lz3 ?_ | refine lz4 ?_)); omega))
theorem call91_miss (hn : newKey keys123 s = true) : Calls Tryz.prog 91 #[.string s, .slice a n cap] w (MissPost w) := by
  have HTB := Lib.hid tab123_any
  have HN := Lib.hid hn
  clear hn
  go_enter Tryz.func91, Tryz.ntmps91
  go_wp2_with fail
  refine (HTB.out _).mono ?_
  intro e w1 ht
  have hbw : Below w.heap.size w w1 := by
    obtain ⟨_, _, _, _, _, hb⟩ := ht
    refine Below.trans ?_ (hb.mono (by simp))
    (repeat with_reducible (first | exact bw0 _ _ | exact hBW | refine bw1 ?_ ?_ _ | refine bw2 ?_ ?_ _ | refine bw3 ?_ _ | refine bw4 ?_)); all_goals (first | omega | (dsimp only; omega) | ((repeat with_reducible (first | refine lz1 ?_ | refine lz2 ?_ | refine lz3 ?_ | refine lz4 ?_)); omega))
  have hbw2 := ht
  obtain ⟨BB, l, rfl, hm, hk, hb⟩ := hbw2
  have hl := hm.look2 (string_fits Tryz.underlying9) Tryz.underlying152 (zero154 w1) s
  rw [TabSt.miss hk HN.out] at hl
  simp only [Option.map_none, Option.getD_none, Option.isSome_none] at hl
  have g0 : w1.heap[w.heap.size]? = some (.cells #[.int .i64 0, .int .i64 0, .slice none 0 0] 28) := (hb.block _ (by simp)).trans (by (repeat (first | (with_reducible refine bw5 ?_ _; (first | rfl | (simp; done) | omega | (simp; omega)); done) | with_reducible refine bw6 ?_ _ | with_reducible refine bw7 ?_ | with_reducible refine bw8 ?_)))
  have FB := Lib.hid hbw
  have x0 := cell_of_heap g0
  have y0 := frozen_of_heap g0
  have z0 := lt_of_heap g0
  clear g0 hb hbw ht hm hk
  go_wp2_with fail
  have hBW := FB.out
  have hsz := hBW.size
  refine bodyPost_ret (v := .tuple #[.agg #[.int .i64 0, .int .i64 0, .slice none 0 0], .bool false]) (by simp [results, Tryz.results91, go_sem, x0, z0]) rfl ⟨rfl, ?_⟩
  (repeat with_reducible (first | exact bw0 _ _ | exact hBW | refine bw1 ?_ ?_ _ | refine bw2 ?_ ?_ _ | refine bw3 ?_ _ | refine bw4 ?_)); all_goals (first | omega | (dsimp only; omega) | ((repeat with_reducible (first | refine lz1 ?_ | refine lz2 ?_ | refine lz3 ?_ | refine lz4 ?_)); omega))
end
end Go.Proofs.YtndhmahkglfopaaGreatDoor
/- The library's Call, and the law's call. -/
namespace Go.Proofs.YtndhmahkglfopaaGreatDoor
open Go.RowKit
theorem ent82 : Ent 82 := enters_of Tryz.func82 (by kernel_rfl) rfl
theorem ent85 : Ent 85 := enters_of Tryz.func85 (by kernel_rfl) rfl
theorem ent88 : Ent 88 := enters_of Tryz.func88 (by kernel_rfl) rfl
theorem ent91 : Ent 91 := enters_of Tryz.func91 (by kernel_rfl) rfl
theorem ent94 : Ent 94 := enters_of Tryz.func94 (by kernel_rfl) rfl
theorem CallPostC.alloc {X : Nat → Prop} {w w' : World} {A : Arr} {e : Ending} (h : CallPostC X w A e w') (o : Obj) : CallPostC X w A e (w'.alloc o) := by
  obtain ⟨a, cap, he, hx, h1, h2⟩ := h
  exact ⟨a, cap, he, hx, h1.below (below_alloc w' o _ (Nat.le_refl _)), h2.alloc h2.size o⟩
/-- The row of families. -/
def famL : List Value := [.func (.func 81) #[] #[], .func (.func 82) #[] #[], .func (.func 83) #[] #[], .func (.func 84) #[] #[], .func (.func 85) #[] #[], .func (.func 86) #[] #[], .func (.func 87) #[] #[], .func (.func 88) #[] #[], .func (.func 89) #[] #[], .func (.func 90) #[] #[], .func (.func 91) #[] #[], .func (.func 92) #[] #[], .func (.func 93) #[] #[], .func (.func 94) #[] #[], .func (.func 95) #[] #[]]
section
variable (w : World)
set_option maxHeartbeats 2000000
set_option maxRecDepth 100000
theorem families_any : Calls Tryz.prog 50 #[] w fun e w' => e = .returned (.slice (some ⟨w.heap.size, 0, none⟩) 5 5) ∧ w'.heap[w.heap.size]? = some (.cells famL.toArray 84) ∧ Below w.heap.size w w' := by
  go_enter Tryz.func50, Tryz.ntmps50
  go_wp2_with fail
  go_ret
  refine ⟨rfl, ?_, ?_⟩
  · exact heap_alloc_new w _
  · (repeat with_reducible (first | exact bw0 _ _ | exact hBW | refine bw1 ?_ ?_ _ | refine bw2 ?_ ?_ _ | refine bw3 ?_ _ | refine bw4 ?_)); all_goals (first | omega | (dsimp only; omega) | ((repeat with_reducible (first | refine lz1 ?_ | refine lz2 ?_ | refine lz3 ?_ | refine lz4 ?_)); omega))
/- a round of the loop: family $1, its three functions $2 $3 $4; the call's contract is HM -/
theorem lib_0 {X : Nat → Prop} (s : ByteArray) (a : Option Addr) (n cap : Nat) (R : Arr) (hh : ∀ W, Below w.heap.size w W → Calls Tryz.prog 82 #[.string s, .slice a n cap] W (CallPostC X W R)) : Calls Tryz.prog 21 #[.agg #[], .string s, .slice a n cap] w (CallPostC X w R) := by
  have HH := Lib.hid hh
  clear hh
  go_enter Tryz.func21, Tryz.ntmps21
  go_wp2_with fail
  refine (families_any _).mono ?_
  rintro e w1 ⟨rfl, hfam, hb1⟩
  have HB1 : Hid (Below w.heap.size w w1) := by
    refine Below.trans ?_ (hb1.mono (by simp <;> omega))
    (repeat with_reducible (first | exact bw0 _ _ | exact hBW | refine bw1 ?_ ?_ _ | refine bw2 ?_ ?_ _ | refine bw3 ?_ _ | refine bw4 ?_)); all_goals (first | omega | (dsimp only; omega) | ((repeat with_reducible (first | refine lz1 ?_ | refine lz2 ?_ | refine lz3 ?_ | refine lz4 ?_)); omega))
  have G6 := Lib.hid ((hb1.block (w.heap.size + 1) (by simp)).trans (show _ = some (.cells #[.int .i64 0, .int .i64 0, .slice none 0 0] 28 (0, 0)) by (repeat (first | (with_reducible refine bw5 ?_ _; (first | rfl | (simp; done) | omega | (simp; omega)); done) | with_reducible refine bw6 ?_ _ | with_reducible refine bw7 ?_ | with_reducible refine bw8 ?_))))
  obtain ⟨fb, hfb⟩ : ∃ fb, fb = ((w.alloc (.cells #[] 57)).alloc (.cells #[.int .i64 0, .int .i64 0, .slice none 0 0] 28)).heap.size := ⟨_, rfl⟩
  have HWZ : Hid (w.heap.size + 1 < w1.heap.size) := lt_of_heap G6.out
  rw [← hfb] at hfam ⊢
  have FAM := Lib.hid hfam
  clear hfb hfam hb1
  go_wp2_with fail
  go_loopw [14] (fun i wr => i = .int .i64 0 ∧ Hid (Below w1.heap.size w1 wr)) (fun _ _ => 0)
  case atStart => exact ⟨rfl, Below.refl _ _⟩
  case round =>
    obtain ⟨rfl, hB⟩ := hrel
    have ef := (hB.out.block _ (lt_of_heap FAM.out)).trans FAM.out
    have c0 : wr.cell? ⟨fb, 0, none⟩ = some (.func (.func 81) #[] #[]) := cell_of_heap ef 0
    have c1 : wr.cell? ⟨fb, 1, none⟩ = some (.func (.func 82) #[] #[]) := cell_of_heap ef 1
    have c2 : wr.cell? ⟨fb, 2, none⟩ = some (.func (.func 83) #[] #[]) := cell_of_heap ef 2
    have zf := lt_of_heap ef
    have zf1 : fb ≠ wr.heap.size := by omega
    have zf2 : fb < wr.heap.size + 1 := by omega
    have HBw : Hid (Below w.heap.size w wr) := HB1.out.trans (hB.out.mono HB1.out.size)
    clear ef
    have ent := ent82
    unfold Ent at ent
    go_wp2_with fail
    clear ent
    have hba : Below wr.heap.size wr (wr.alloc (.cells #[.func (.func 81) #[] #[], .func (.func 82) #[] #[], .func (.func 83) #[] #[]] 84)) := by (repeat with_reducible (first | exact bw0 _ _ | exact hBW | refine bw1 ?_ ?_ _ | refine bw2 ?_ ?_ _ | refine bw3 ?_ _ | refine bw4 ?_)); all_goals (first | omega | (dsimp only; omega) | ((repeat with_reducible (first | refine lz1 ?_ | refine lz2 ?_ | refine lz3 ?_ | refine lz4 ?_)); omega))
    refine (HH.out _ (HBw.out.trans (hba.mono HBw.out.size))).mono ?_
    rintro e w2 ⟨a2, cap2, rfl, hx2, hsl, hb2⟩
    have HX2 := Lib.hid hx2
    clear hx2
    have HB2 : Hid (Below w.heap.size w w2) := HBw.out.trans ((hba.trans (hb2.mono (by simp))).mono HBw.out.size)
    have hB2 : Below w1.heap.size w1 w2 := hB.out.trans ((hba.trans (hb2.mono (by simp))).mono hB.out.size)
    have e0 := (hB2.block _ (lt_of_heap G6.out)).trans G6.out
    have x0 := cell_of_heap e0
    have z0 := frozen_of_heap e0
    have hn0 := lt_of_heap e0
    have hsz1 := HBw.out.size
    have hw1z := HWZ.out
    have hB2z := hB.out.size
    have HSL := Lib.hid (hsl.mono (B' := w.heap.size + 1 + 1) (by rw [World.size_alloc]; omega))
    clear hsl hb2 hba hB2 e0 c0 c1 c2 zf zf1 zf2
    go_wp2_with fail
    have hBW := HB2.out
    have hsz := hBW.size
    refine bodyPost_ret (v := .tuple #[.agg #[.int .i64 R.r, .int .i64 R.c, .slice a2 R.l.length cap2], .bool true]) (by simp [results, Tryz.results21, go_sem, x0, hn0]) rfl ?_
    exact (call_handC HX2.out (A := R) (b := w.heap.size + 1) (n := 0) (by omega) HSL.out HB2.out _ _ _).alloc _
theorem lib_4 {X : Nat → Prop} (s : ByteArray) (a : Option Addr) (n cap : Nat) (R : Arr) (m1 : newKey keys112 s = true) (m2 : newKey keys117 s = true) (m3 : newKey keys120 s = true) (m4 : newKey keys123 s = true) (hh : ∀ W, Below w.heap.size w W → Calls Tryz.prog 94 #[.string s, .slice a n cap] W (CallPostC X W R)) : Calls Tryz.prog 21 #[.agg #[], .string s, .slice a n cap] w (CallPostC X w R) := by
  have M1 := Lib.hid m1
  have M2 := Lib.hid m2
  have M3 := Lib.hid m3
  have M4 := Lib.hid m4
  clear m1 m2 m3 m4
  have HH := Lib.hid hh
  clear hh
  go_enter Tryz.func21, Tryz.ntmps21
  go_wp2_with fail
  refine (families_any _).mono ?_
  rintro e w1 ⟨rfl, hfam, hb1⟩
  have HB1 : Hid (Below w.heap.size w w1) := by
    refine Below.trans ?_ (hb1.mono (by simp <;> omega))
    (repeat with_reducible (first | exact bw0 _ _ | exact hBW | refine bw1 ?_ ?_ _ | refine bw2 ?_ ?_ _ | refine bw3 ?_ _ | refine bw4 ?_)); all_goals (first | omega | (dsimp only; omega) | ((repeat with_reducible (first | refine lz1 ?_ | refine lz2 ?_ | refine lz3 ?_ | refine lz4 ?_)); omega))
  have G6 := Lib.hid ((hb1.block (w.heap.size + 1) (by simp)).trans (show _ = some (.cells #[.int .i64 0, .int .i64 0, .slice none 0 0] 28 (0, 0)) by (repeat (first | (with_reducible refine bw5 ?_ _; (first | rfl | (simp; done) | omega | (simp; omega)); done) | with_reducible refine bw6 ?_ _ | with_reducible refine bw7 ?_ | with_reducible refine bw8 ?_))))
  obtain ⟨fb, hfb⟩ : ∃ fb, fb = ((w.alloc (.cells #[] 57)).alloc (.cells #[.int .i64 0, .int .i64 0, .slice none 0 0] 28)).heap.size := ⟨_, rfl⟩
  have HWZ : Hid (w.heap.size + 1 < w1.heap.size) := lt_of_heap G6.out
  rw [← hfb] at hfam ⊢
  have FAM := Lib.hid hfam
  clear hfb hfam hb1
  go_wp2_with fail
  go_loopw [14] (fun i wr => ∃ k : Nat, i = .int .i64 k ∧ k ≤ 4 ∧ Hid (Below w1.heap.size w1 wr)) (fun i _ => 5 - (intOf i).toNat)
  case atStart => exact ⟨0, rfl, by omega, Below.refl _ _⟩
  case round =>
    obtain ⟨k, rfl, hk, hB⟩ := hrel
    have h5 : k = 0 ∨ k = 1 ∨ k = 2 ∨ k = 3 ∨ k = 4 := by omega
    clear hk
    rcases h5 with rfl | rfl | rfl | rfl | rfl
    · have ef := (hB.out.block _ (lt_of_heap FAM.out)).trans FAM.out
      have c0 : wr.cell? ⟨fb, 0, none⟩ = some (.func (.func 81) #[] #[]) := cell_of_heap ef 0
      have c1 : wr.cell? ⟨fb, 1, none⟩ = some (.func (.func 82) #[] #[]) := cell_of_heap ef 1
      have c2 : wr.cell? ⟨fb, 2, none⟩ = some (.func (.func 83) #[] #[]) := cell_of_heap ef 2
      have zf := lt_of_heap ef
      have zf1 : fb ≠ wr.heap.size := by omega
      have zf2 : fb < wr.heap.size + 1 := by omega
      have HBw : Hid (Below w.heap.size w wr) := HB1.out.trans (hB.out.mono HB1.out.size)
      clear ef
      have ent := ent82
      unfold Ent at ent
      have HM := Lib.hid (fun w => call82_miss s a n cap w M1.out)
      go_wp2_with fail
      clear ent
      refine (HM.out _).mono ?_
      rintro e w2 ⟨rfl, hb2⟩
      have HB2 : Hid (Below w1.heap.size w1 w2) := hB.out.trans (Below.mono (Below.trans (by (repeat with_reducible (first | exact bw0 _ _ | exact hBW | refine bw1 ?_ ?_ _ | refine bw2 ?_ ?_ _ | refine bw3 ?_ _ | refine bw4 ?_)); all_goals (first | omega | (dsimp only; omega) | ((repeat with_reducible (first | refine lz1 ?_ | refine lz2 ?_ | refine lz3 ?_ | refine lz4 ?_)); omega))) (hb2.mono (by simp)) : Below wr.heap.size wr w2) hB.out.size)
      clear hb2 c0 c1 c2 zf zf1 zf2
      go_wp2_with fail
      go_roundw
      case rel =>
        refine ⟨1, rfl, by omega, ?_⟩
        have hBW := HB2.out
        have hsz := hBW.size
        show Below _ _ _
        (repeat with_reducible (first | exact bw0 _ _ | exact hBW | refine bw1 ?_ ?_ _ | refine bw2 ?_ ?_ _ | refine bw3 ?_ _ | refine bw4 ?_)); all_goals (first | omega | (dsimp only; omega) | ((repeat with_reducible (first | refine lz1 ?_ | refine lz2 ?_ | refine lz3 ?_ | refine lz4 ?_)); omega))
      case measure => simp [intOf]
    · have ef := (hB.out.block _ (lt_of_heap FAM.out)).trans FAM.out
      have c0 : wr.cell? ⟨fb, 3, none⟩ = some (.func (.func 84) #[] #[]) := cell_of_heap ef 3
      have c1 : wr.cell? ⟨fb, 4, none⟩ = some (.func (.func 85) #[] #[]) := cell_of_heap ef 4
      have c2 : wr.cell? ⟨fb, 5, none⟩ = some (.func (.func 86) #[] #[]) := cell_of_heap ef 5
      have zf := lt_of_heap ef
      have zf1 : fb ≠ wr.heap.size := by omega
      have zf2 : fb < wr.heap.size + 1 := by omega
      have HBw : Hid (Below w.heap.size w wr) := HB1.out.trans (hB.out.mono HB1.out.size)
      clear ef
      have ent := ent85
      unfold Ent at ent
      have HM := Lib.hid (fun w => call85_miss s a n cap w M2.out)
      go_wp2_with fail
      clear ent
      refine (HM.out _).mono ?_
      rintro e w2 ⟨rfl, hb2⟩
      have HB2 : Hid (Below w1.heap.size w1 w2) := hB.out.trans (Below.mono (Below.trans (by (repeat with_reducible (first | exact bw0 _ _ | exact hBW | refine bw1 ?_ ?_ _ | refine bw2 ?_ ?_ _ | refine bw3 ?_ _ | refine bw4 ?_)); all_goals (first | omega | (dsimp only; omega) | ((repeat with_reducible (first | refine lz1 ?_ | refine lz2 ?_ | refine lz3 ?_ | refine lz4 ?_)); omega))) (hb2.mono (by simp)) : Below wr.heap.size wr w2) hB.out.size)
      clear hb2 c0 c1 c2 zf zf1 zf2
      go_wp2_with fail
      go_roundw
      case rel =>
        refine ⟨2, rfl, by omega, ?_⟩
        have hBW := HB2.out
        have hsz := hBW.size
        show Below _ _ _
        (repeat with_reducible (first | exact bw0 _ _ | exact hBW | refine bw1 ?_ ?_ _ | refine bw2 ?_ ?_ _ | refine bw3 ?_ _ | refine bw4 ?_)); all_goals (first | omega | (dsimp only; omega) | ((repeat with_reducible (first | refine lz1 ?_ | refine lz2 ?_ | refine lz3 ?_ | refine lz4 ?_)); omega))
      case measure => simp [intOf]
    · have ef := (hB.out.block _ (lt_of_heap FAM.out)).trans FAM.out
      have c0 : wr.cell? ⟨fb, 6, none⟩ = some (.func (.func 87) #[] #[]) := cell_of_heap ef 6
      have c1 : wr.cell? ⟨fb, 7, none⟩ = some (.func (.func 88) #[] #[]) := cell_of_heap ef 7
      have c2 : wr.cell? ⟨fb, 8, none⟩ = some (.func (.func 89) #[] #[]) := cell_of_heap ef 8
      have zf := lt_of_heap ef
      have zf1 : fb ≠ wr.heap.size := by omega
      have zf2 : fb < wr.heap.size + 1 := by omega
      have HBw : Hid (Below w.heap.size w wr) := HB1.out.trans (hB.out.mono HB1.out.size)
      clear ef
      have ent := ent88
      unfold Ent at ent
      have HM := Lib.hid (fun w => call88_miss s a n cap w M3.out)
      go_wp2_with fail
      clear ent
      refine (HM.out _).mono ?_
      rintro e w2 ⟨rfl, hb2⟩
      have HB2 : Hid (Below w1.heap.size w1 w2) := hB.out.trans (Below.mono (Below.trans (by (repeat with_reducible (first | exact bw0 _ _ | exact hBW | refine bw1 ?_ ?_ _ | refine bw2 ?_ ?_ _ | refine bw3 ?_ _ | refine bw4 ?_)); all_goals (first | omega | (dsimp only; omega) | ((repeat with_reducible (first | refine lz1 ?_ | refine lz2 ?_ | refine lz3 ?_ | refine lz4 ?_)); omega))) (hb2.mono (by simp)) : Below wr.heap.size wr w2) hB.out.size)
      clear hb2 c0 c1 c2 zf zf1 zf2
      go_wp2_with fail
      go_roundw
      case rel =>
        refine ⟨3, rfl, by omega, ?_⟩
        have hBW := HB2.out
        have hsz := hBW.size
        show Below _ _ _
        (repeat with_reducible (first | exact bw0 _ _ | exact hBW | refine bw1 ?_ ?_ _ | refine bw2 ?_ ?_ _ | refine bw3 ?_ _ | refine bw4 ?_)); all_goals (first | omega | (dsimp only; omega) | ((repeat with_reducible (first | refine lz1 ?_ | refine lz2 ?_ | refine lz3 ?_ | refine lz4 ?_)); omega))
      case measure => simp [intOf]
    · have ef := (hB.out.block _ (lt_of_heap FAM.out)).trans FAM.out
      have c0 : wr.cell? ⟨fb, 9, none⟩ = some (.func (.func 90) #[] #[]) := cell_of_heap ef 9
      have c1 : wr.cell? ⟨fb, 10, none⟩ = some (.func (.func 91) #[] #[]) := cell_of_heap ef 10
      have c2 : wr.cell? ⟨fb, 11, none⟩ = some (.func (.func 92) #[] #[]) := cell_of_heap ef 11
      have zf := lt_of_heap ef
      have zf1 : fb ≠ wr.heap.size := by omega
      have zf2 : fb < wr.heap.size + 1 := by omega
      have HBw : Hid (Below w.heap.size w wr) := HB1.out.trans (hB.out.mono HB1.out.size)
      clear ef
      have ent := ent91
      unfold Ent at ent
      have HM := Lib.hid (fun w => call91_miss s a n cap w M4.out)
      go_wp2_with fail
      clear ent
      refine (HM.out _).mono ?_
      rintro e w2 ⟨rfl, hb2⟩
      have HB2 : Hid (Below w1.heap.size w1 w2) := hB.out.trans (Below.mono (Below.trans (by (repeat with_reducible (first | exact bw0 _ _ | exact hBW | refine bw1 ?_ ?_ _ | refine bw2 ?_ ?_ _ | refine bw3 ?_ _ | refine bw4 ?_)); all_goals (first | omega | (dsimp only; omega) | ((repeat with_reducible (first | refine lz1 ?_ | refine lz2 ?_ | refine lz3 ?_ | refine lz4 ?_)); omega))) (hb2.mono (by simp)) : Below wr.heap.size wr w2) hB.out.size)
      clear hb2 c0 c1 c2 zf zf1 zf2
      go_wp2_with fail
      go_roundw
      case rel =>
        refine ⟨4, rfl, by omega, ?_⟩
        have hBW := HB2.out
        have hsz := hBW.size
        show Below _ _ _
        (repeat with_reducible (first | exact bw0 _ _ | exact hBW | refine bw1 ?_ ?_ _ | refine bw2 ?_ ?_ _ | refine bw3 ?_ _ | refine bw4 ?_)); all_goals (first | omega | (dsimp only; omega) | ((repeat with_reducible (first | refine lz1 ?_ | refine lz2 ?_ | refine lz3 ?_ | refine lz4 ?_)); omega))
      case measure => simp [intOf]
    · have ef := (hB.out.block _ (lt_of_heap FAM.out)).trans FAM.out
      have c0 : wr.cell? ⟨fb, 12, none⟩ = some (.func (.func 93) #[] #[]) := cell_of_heap ef 12
      have c1 : wr.cell? ⟨fb, 13, none⟩ = some (.func (.func 94) #[] #[]) := cell_of_heap ef 13
      have c2 : wr.cell? ⟨fb, 14, none⟩ = some (.func (.func 95) #[] #[]) := cell_of_heap ef 14
      have zf := lt_of_heap ef
      have zf1 : fb ≠ wr.heap.size := by omega
      have zf2 : fb < wr.heap.size + 1 := by omega
      have HBw : Hid (Below w.heap.size w wr) := HB1.out.trans (hB.out.mono HB1.out.size)
      clear ef
      have ent := ent94
      unfold Ent at ent
      go_wp2_with fail
      clear ent
      have hba : Below wr.heap.size wr (wr.alloc (.cells #[.func (.func 93) #[] #[], .func (.func 94) #[] #[], .func (.func 95) #[] #[]] 84)) := by (repeat with_reducible (first | exact bw0 _ _ | exact hBW | refine bw1 ?_ ?_ _ | refine bw2 ?_ ?_ _ | refine bw3 ?_ _ | refine bw4 ?_)); all_goals (first | omega | (dsimp only; omega) | ((repeat with_reducible (first | refine lz1 ?_ | refine lz2 ?_ | refine lz3 ?_ | refine lz4 ?_)); omega))
      refine (HH.out _ (HBw.out.trans (hba.mono HBw.out.size))).mono ?_
      rintro e w2 ⟨a2, cap2, rfl, hx2, hsl, hb2⟩
      have HX2 := Lib.hid hx2
      clear hx2
      have HB2 : Hid (Below w.heap.size w w2) := HBw.out.trans ((hba.trans (hb2.mono (by simp))).mono HBw.out.size)
      have hB2 : Below w1.heap.size w1 w2 := hB.out.trans ((hba.trans (hb2.mono (by simp))).mono hB.out.size)
      have e0 := (hB2.block _ (lt_of_heap G6.out)).trans G6.out
      have x0 := cell_of_heap e0
      have z0 := frozen_of_heap e0
      have hn0 := lt_of_heap e0
      have hsz1 := HBw.out.size
      have hw1z := HWZ.out
      have hB2z := hB.out.size
      have HSL := Lib.hid (hsl.mono (B' := w.heap.size + 1 + 1) (by rw [World.size_alloc]; omega))
      clear hsl hb2 hba hB2 e0 c0 c1 c2 zf zf1 zf2
      go_wp2_with fail
      have hBW := HB2.out
      have hsz := hBW.size
      refine bodyPost_ret (v := .tuple #[.agg #[.int .i64 R.r, .int .i64 R.c, .slice a2 R.l.length cap2], .bool true]) (by simp [results, Tryz.results21, go_sem, x0, hn0]) rfl ?_
      exact (call_handC HX2.out (A := R) (b := w.heap.size + 1) (n := 0) (by omega) HSL.out HB2.out _ _ _).alloc _
end
end Go.Proofs.YtndhmahkglfopaaGreatDoor
/- The law's call: ROUND, TRANSPOSE. -/
namespace Go.Proofs.YtndhmahkglfopaaGreatDoor
open Go.RowKit
section
variable (w : World)
set_option maxHeartbeats 2000000
set_option maxRecDepth 100000
theorem call11 {X : Nat → Prop} (s : ByteArray) (a : Option Addr) (n cap : Nat) (R : Arr) (hh : ∀ W, Below w.heap.size w W → Calls Tryz.prog 21 #[.agg #[], .string s, .slice a n cap] W (CallPostC X W R)) : Calls Tryz.prog 11 #[.string s, .slice a n cap] w (ArrPostC X w R) := by
  have HH := Lib.hid hh
  clear hh
  go_enter Tryz.func11, Tryz.ntmps11
  go_wp2_with fail
  have hba : Below w.heap.size w (w.alloc (.cells #[.int .i64 0, .int .i64 0, .slice none 0 0] 28)) := by (repeat with_reducible (first | exact bw0 _ _ | exact hBW | refine bw1 ?_ ?_ _ | refine bw2 ?_ ?_ _ | refine bw3 ?_ _ | refine bw4 ?_)); all_goals (first | omega | (dsimp only; omega) | ((repeat with_reducible (first | refine lz1 ?_ | refine lz2 ?_ | refine lz3 ?_ | refine lz4 ?_)); omega))
  refine (HH.out _ hba).mono ?_
  rintro e w2 ⟨a2, cap2, rfl, hx2, hsl, hb2⟩
  have HX2 := Lib.hid hx2
  clear hx2
  have e0 := (hb2.block w.heap.size (by simp)).trans (show _ = some (.cells #[.int .i64 0, .int .i64 0, .slice none 0 0] 28 (0, 0)) by (repeat (first | (with_reducible refine bw5 ?_ _; (first | rfl | (simp; done) | omega | (simp; omega)); done) | with_reducible refine bw6 ?_ _ | with_reducible refine bw7 ?_ | with_reducible refine bw8 ?_)))
  have x0 := cell_of_heap e0
  have y0 := frozen_of_heap e0
  have z0 := lt_of_heap e0
  have HSL := Lib.hid (hsl.mono (B' := w.heap.size + 1) (by simp))
  have HB2 : Hid (Below w.heap.size w w2) := hba.trans (hb2.mono (by simp))
  clear hsl hb2 hba e0
  go_wp2_with fail
  refine bodyPost_ret (v := .agg #[.int .i64 R.r, .int .i64 R.c, .slice a2 R.l.length cap2]) (by simp [results, Tryz.results11, go_sem, x0, z0]) rfl ?_
  obtain ⟨a3, cap3, he, hx, h1, h2⟩ := arr_handC HX2.out (A := R) (n := 0) (Nat.le_refl w.heap.size) HSL.out HB2.out (.int .i64 R.r) (.int .i64 R.c) (.slice a2 R.l.length cap2)
  exact ⟨a3, cap3, he, hx, h1.below (below_alloc _ _ _ (Nat.le_refl _)), h2.alloc h2.size _⟩
end
end Go.Proofs.YtndhmahkglfopaaGreatDoor
/- Both and Turn of right arrays are right. -/
namespace Go.Proofs.YtndhmahkglfopaaGreatDoor
theorem len_bd {A : Arr} (hA : ArrR A) (h : A.l.length ≤ 40) : A.r ≤ 40 ∧ A.c ≤ 40 := by
  have h1 := hA.h1
  have h2 := hA.h2
  have h6 := hA.h6
  have hr : A.r * 1 ≤ A.r * A.c := Int.mul_le_mul_of_nonneg_left h2 (by omega)
  have hc : 1 * A.c ≤ A.r * A.c := Int.mul_le_mul_of_nonneg_right h1 (by omega)
  omega
theorem both_bd {A B : Arr} (hA : ArrR A) (hB : ArrR B) (h : A.l.length ≤ 40) (h' : B.l.length ≤ 40) : max A.r B.r ≤ 4096 ∧ max A.c B.c ≤ 4096 / max A.r B.r := by
  have a := len_bd hA h
  have b := len_bd hB h'
  have a1 := hA.h1
  refine ⟨by omega, (Int.le_ediv_iff_mul_le (by omega)).2 ?_⟩
  have : max A.c B.c * max A.r B.r ≤ 40 * 40 := Int.mul_le_mul (by omega) (by omega) (by omega) (by omega)
  omega
end Go.Proofs.YtndhmahkglfopaaGreatDoor
