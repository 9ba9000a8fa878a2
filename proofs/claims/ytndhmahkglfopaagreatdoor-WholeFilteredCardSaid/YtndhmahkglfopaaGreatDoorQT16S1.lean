/- shape.has, spread. -/
import Derived.Test.YtndhmahkglfopaaGreatDoorQT13NumA
import Derived.Test.YtndhmahkglfopaaGreatDoorQT13R09
import Derived.Test.YtndhmahkglfopaaGreatDoorQT16YC
namespace Go.Proofs.YtndhmahkglfopaaGreatDoor
open Go.RowKit
section
variable (A : Arr) (a : Option Addr) (cap : Nat) (w : World) (i j : Nat)
set_option maxHeartbeats 1000000
set_option maxRecDepth 100000
theorem has_y (h1 : decide ((i : Int) < A.r) = true) (h2 : decide ((j : Int) < A.c) = true) : Calls Tryz.prog 78 #[.agg #[.int .i64 A.r, .int .i64 A.c, .slice a A.l.length cap], .int .i64 i, .int .i64 j] w fun e w' => e = .returned (.bool true) ∧ Below w.heap.size w w' := by
  have h3 : decide (0 ≤ (i : Int)) = true := by simp
  have h4 : decide (0 ≤ (j : Int)) = true := by simp
  go_enter Tryz.func78, Tryz.ntmps78
  go_wp2_with fail
  go_ret
  refine ⟨rfl, ?_⟩
  (repeat with_reducible (first | exact bw0 _ _ | exact hBW | refine bw1 ?_ ?_ _ | refine bw2 ?_ ?_ _ | refine bw3 ?_ _ | refine bw4 ?_)); all_goals (first | omega | (dsimp only; omega) | ((repeat with_reducible (first | refine lz1 ?_ | refine lz2 ?_ | refine lz3 ?_ | refine lz4 ?_)); omega))
theorem has_n1 (h1 : decide ((i : Int) < A.r) = false) : Calls Tryz.prog 78 #[.agg #[.int .i64 A.r, .int .i64 A.c, .slice a A.l.length cap], .int .i64 i, .int .i64 j] w fun e w' => e = .returned (.bool false) ∧ Below w.heap.size w w' := by
  have h3 : decide (0 ≤ (i : Int)) = true := by simp
  go_enter Tryz.func78, Tryz.ntmps78
  go_wp2_with fail
  go_ret
  refine ⟨rfl, ?_⟩
  (repeat with_reducible (first | exact bw0 _ _ | exact hBW | refine bw1 ?_ ?_ _ | refine bw2 ?_ ?_ _ | refine bw3 ?_ _ | refine bw4 ?_)); all_goals (first | omega | (dsimp only; omega) | ((repeat with_reducible (first | refine lz1 ?_ | refine lz2 ?_ | refine lz3 ?_ | refine lz4 ?_)); omega))
theorem has_n2 (h1 : decide ((i : Int) < A.r) = true) (h2 : decide ((j : Int) < A.c) = false) : Calls Tryz.prog 78 #[.agg #[.int .i64 A.r, .int .i64 A.c, .slice a A.l.length cap], .int .i64 i, .int .i64 j] w fun e w' => e = .returned (.bool false) ∧ Below w.heap.size w w' := by
  have h3 : decide (0 ≤ (i : Int)) = true := by simp
  have h4 : decide (0 ≤ (j : Int)) = true := by simp
  go_enter Tryz.func78, Tryz.ntmps78
  go_wp2_with fail
  go_ret
  refine ⟨rfl, ?_⟩
  (repeat with_reducible (first | exact bw0 _ _ | exact hBW | refine bw1 ?_ ?_ _ | refine bw2 ?_ ?_ _ | refine bw3 ?_ _ | refine bw4 ?_)); all_goals (first | omega | (dsimp only; omega) | ((repeat with_reducible (first | refine lz1 ?_ | refine lz2 ?_ | refine lz3 ?_ | refine lz4 ?_)); omega))
end
theorem has_yes (A : Arr) (a : Option Addr) (cap i j : Nat) (h : (i : Int) < A.r ∧ (j : Int) < A.c) (w : World) : Calls Tryz.prog 78 #[.agg #[.int .i64 A.r, .int .i64 A.c, .slice a A.l.length cap], .int .i64 i, .int .i64 j] w fun e w' => e = .returned (.bool true) ∧ Below w.heap.size w w' :=
  has_y A a cap w i j (by simpa using h.1) (by simpa using h.2)
theorem has_no (A : Arr) (a : Option Addr) (cap i j : Nat) (h : ¬ ((i : Int) < A.r ∧ (j : Int) < A.c)) (w : World) : Calls Tryz.prog 78 #[.agg #[.int .i64 A.r, .int .i64 A.c, .slice a A.l.length cap], .int .i64 i, .int .i64 j] w fun e w' => e = .returned (.bool false) ∧ Below w.heap.size w w' := by
  by_cases h1 : (i : Int) < A.r
  · exact has_n2 A a cap w i j (by simpa using h1) (by simp; omega)
  · exact has_n1 A a cap w i j (by simp; omega)
section
variable (A : Arr) (a : Option Addr) (cap : Nat) (w : World) (i j : Nat)
set_option maxHeartbeats 2000000
set_option maxRecDepth 100000
/- the answer of 'has' at I, J, then the value -/
theorem spread_yes (hs : SlB 0 w a A.l) (v : V) (h : atP A i j = some v) (hl : A.l.length ≤ 4096) (hc : 1 ≤ A.c) (hc2 : A.c ≤ 4096) :
    Calls Tryz.prog 45 #[.agg #[.int .i64 A.r, .int .i64 A.c, .slice a A.l.length cap], .int .i64 i, .int .i64 j] w fun e w' => e = .returned (.tuple #[vagg v, .bool true]) ∧ Below w.heap.size w w' := by
  have hlt : (atI A.r i : Int) < A.r ∧ (atI A.c j : Int) < A.c := by
    unfold atP at h
    by_cases hc : (atI A.r i : Int) < A.r ∧ (atI A.c j : Int) < A.c
    · exact hc
    · rw [if_neg hc] at h; cases h
  have hq : A.l[atI A.r i * A.c.toNat + atI A.c j]? = some v := by
    unfold atP at h
    rwa [if_pos hlt] at h
  have HH := Lib.hid (has_yes A a cap (atI A.r i) (atI A.c j) hlt)
  obtain ⟨q, hqq⟩ : ∃ q, q = atI A.r i * A.c.toNat + atI A.c j := ⟨_, rfl⟩
  rw [← hqq] at hq
  have hil : q < A.l.length := (List.getElem?_eq_some_iff.1 hq).1
  obtain ⟨b, off, rfl, hbl, v0, v1, v2, v3, v4, v5⟩ := hs.cells hq
  have hcn : ((A.c.toNat : Nat) : Int) = A.c := Int.toNat_of_nonneg (by omega)
  have e1 : (atI A.r i : Int) * A.c + (atI A.c j : Int) = (q : Int) := by
    rw [hqq, Int.natCast_add, Int.natCast_mul, hcn]
  have e0 : 0 ≤ (atI A.r i : Int) * A.c := by rw [← hcn, ← Int.natCast_mul]; omega
  have wm1 : IntKind.i64.wrap ((atI A.r i : Int) * A.c) = (atI A.r i : Int) * A.c := IntWalk.i64_in _ (by omega)
  have wm2 : IntKind.i64.wrap ((atI A.r i : Int) * A.c + (atI A.c j : Int)) = (q : Int) := by rw [e1]; exact IntWalk.i64_in _ (by omega)
  have j1 : (0 : Int) ≤ (q : Int) := by omega
  have j2 : (q : Int) < (A.l.length : Int) := by omega
  unfold vagg
  clear h hlt hq hs e0 e1 hc hc2 hil
  by_cases hr : A.r = 1
  · have n1 : (A.r == 1) = true := by simpa using hr
    have a0 : atI A.r i = 0 := if_pos hr
    rw [a0] at wm1 wm2 HH
    by_cases hc : A.c = 1
    · have n2 : (A.c == 1) = true := by simpa using hc
      have b0 : atI A.c j = 0 := if_pos hc
      rw [a0, b0] at hqq
      have hq0 : q = 0 := by rw [hqq, Nat.zero_mul]
      clear hqq
      subst hq0
      rw [b0] at HH
      clear hr hc a0 b0 wm1 wm2 j1 hcn
      simp only [Int.natCast_zero] at HH j2
      simp only [Nat.zero_mul, Nat.add_zero] at v0 v1 v2 v3 v4 v5
      go_enter Tryz.func45, Tryz.ntmps45
      go_wp2_with fail
      refine (HH.out _).mono ?_
      rintro e w1 ⟨rfl, hb⟩
      have g0 : w1.heap[w.heap.size]? = some (.cells #[.int .i64 A.r, .int .i64 A.c, .slice (some ⟨b, off, none⟩) A.l.length cap] 28) := (hb.block _ (by simp; omega)).trans (by (repeat (first | (with_reducible refine bw5 ?_ _; (first | rfl | (simp; done) | omega | (simp; omega)); done) | with_reducible refine bw6 ?_ _ | with_reducible refine bw7 ?_ | with_reducible refine bw8 ?_)))
      have g1 : w1.heap[w.heap.size + 1]? = some (.cells #[.int .i64 0, .int .i64 0, .int .i64 0, .string ⟨#[]⟩, .bool false, .int .i64 0] 34) := (hb.block _ (by simp)).trans (by (repeat (first | (with_reducible refine bw5 ?_ _; (first | rfl | (simp; done) | omega | (simp; omega)); done) | with_reducible refine bw6 ?_ _ | with_reducible refine bw7 ?_ | with_reducible refine bw8 ?_)))
      have hB1 : Below w.heap.size w w1 := by
        refine Below.trans ?_ (hb.mono (by simp; omega))
        (repeat with_reducible (first | exact bw0 _ _ | exact hBW | refine bw1 ?_ ?_ _ | refine bw2 ?_ ?_ _ | refine bw3 ?_ _ | refine bw4 ?_)); all_goals (first | omega | (dsimp only; omega) | ((repeat with_reducible (first | refine lz1 ?_ | refine lz2 ?_ | refine lz3 ?_ | refine lz4 ?_)); omega))
      have v0 := (hB1.cell (p := ⟨b, off, none⟩) hbl).trans v0
      have v1 := (hB1.cell (p := ⟨b, off + 1, none⟩) hbl).trans v1
      have v2 := (hB1.cell (p := ⟨b, off + 2, none⟩) hbl).trans v2
      have v3 := (hB1.cell (p := ⟨b, off + 3, none⟩) hbl).trans v3
      have v4 := (hB1.cell (p := ⟨b, off + 4, none⟩) hbl).trans v4
      have v5 := (hB1.cell (p := ⟨b, off + 5, none⟩) hbl).trans v5
      have a1 := cell_of_heap g0 1
      have a2 := cell_of_heap g0 2
      have z0 := lt_of_heap g0
      have x1 := cell_of_heap g1
      have y1 := frozen_of_heap g1
      have z1 := lt_of_heap g1
      have hbl := Nat.lt_of_lt_of_le hbl hB1.size
      have HB1 := Lib.hid hB1
      clear hb g0 g1 hB1 HH
      go_wp2_with fail
      refine bodyPost_ret (v := .tuple #[.agg #[.int .i64 v.k, .int .i64 v.m, .int .i64 v.e, .string v.t, .bool v.b, .int .i64 v.f], .bool true]) (by simp [results, Tryz.results45, go_sem, x1]) rfl ⟨rfl, ?_⟩
      have hBW := HB1.out
      (repeat with_reducible (first | exact bw0 _ _ | exact hBW | refine bw1 ?_ ?_ _ | refine bw2 ?_ ?_ _ | refine bw3 ?_ _ | refine bw4 ?_)); all_goals (first | omega | (dsimp only; omega) | ((repeat with_reducible (first | refine lz1 ?_ | refine lz2 ?_ | refine lz3 ?_ | refine lz4 ?_)); omega))
    · have n2 : (A.c == 1) = false := by simpa using hc
      have b0 : atI A.c j = j := if_neg hc
      rw [a0, b0] at hqq
      have hq0 : q = j := by rw [hqq, Nat.zero_mul, Nat.zero_add]
      clear hqq
      subst hq0
      rw [b0] at HH
      clear hr hc a0 b0 wm1 wm2 hcn
      simp only [Int.natCast_zero] at HH
      go_enter Tryz.func45, Tryz.ntmps45
      go_wp2_with fail
      refine (HH.out _).mono ?_
      rintro e w1 ⟨rfl, hb⟩
      have g0 : w1.heap[w.heap.size]? = some (.cells #[.int .i64 A.r, .int .i64 A.c, .slice (some ⟨b, off, none⟩) A.l.length cap] 28) := (hb.block _ (by simp; omega)).trans (by (repeat (first | (with_reducible refine bw5 ?_ _; (first | rfl | (simp; done) | omega | (simp; omega)); done) | with_reducible refine bw6 ?_ _ | with_reducible refine bw7 ?_ | with_reducible refine bw8 ?_)))
      have g1 : w1.heap[w.heap.size + 1]? = some (.cells #[.int .i64 0, .int .i64 0, .int .i64 0, .string ⟨#[]⟩, .bool false, .int .i64 0] 34) := (hb.block _ (by simp)).trans (by (repeat (first | (with_reducible refine bw5 ?_ _; (first | rfl | (simp; done) | omega | (simp; omega)); done) | with_reducible refine bw6 ?_ _ | with_reducible refine bw7 ?_ | with_reducible refine bw8 ?_)))
      have hB1 : Below w.heap.size w w1 := by
        refine Below.trans ?_ (hb.mono (by simp; omega))
        (repeat with_reducible (first | exact bw0 _ _ | exact hBW | refine bw1 ?_ ?_ _ | refine bw2 ?_ ?_ _ | refine bw3 ?_ _ | refine bw4 ?_)); all_goals (first | omega | (dsimp only; omega) | ((repeat with_reducible (first | refine lz1 ?_ | refine lz2 ?_ | refine lz3 ?_ | refine lz4 ?_)); omega))
      have v0 := (hB1.cell (p := ⟨b, off + q * 6, none⟩) hbl).trans v0
      have v1 := (hB1.cell (p := ⟨b, off + q * 6 + 1, none⟩) hbl).trans v1
      have v2 := (hB1.cell (p := ⟨b, off + q * 6 + 2, none⟩) hbl).trans v2
      have v3 := (hB1.cell (p := ⟨b, off + q * 6 + 3, none⟩) hbl).trans v3
      have v4 := (hB1.cell (p := ⟨b, off + q * 6 + 4, none⟩) hbl).trans v4
      have v5 := (hB1.cell (p := ⟨b, off + q * 6 + 5, none⟩) hbl).trans v5
      have a1 := cell_of_heap g0 1
      have a2 := cell_of_heap g0 2
      have z0 := lt_of_heap g0
      have x1 := cell_of_heap g1
      have y1 := frozen_of_heap g1
      have z1 := lt_of_heap g1
      have hbl := Nat.lt_of_lt_of_le hbl hB1.size
      have HB1 := Lib.hid hB1
      clear hb g0 g1 hB1 HH
      go_wp2_with fail
      refine bodyPost_ret (v := .tuple #[.agg #[.int .i64 v.k, .int .i64 v.m, .int .i64 v.e, .string v.t, .bool v.b, .int .i64 v.f], .bool true]) (by simp [results, Tryz.results45, go_sem, x1]) rfl ⟨rfl, ?_⟩
      have hBW := HB1.out
      (repeat with_reducible (first | exact bw0 _ _ | exact hBW | refine bw1 ?_ ?_ _ | refine bw2 ?_ ?_ _ | refine bw3 ?_ _ | refine bw4 ?_)); all_goals (first | omega | (dsimp only; omega) | ((repeat with_reducible (first | refine lz1 ?_ | refine lz2 ?_ | refine lz3 ?_ | refine lz4 ?_)); omega))
  · have n1 : (A.r == 1) = false := by simpa using hr
    have a0 : atI A.r i = i := if_neg hr
    rw [a0] at wm1 wm2 HH
    by_cases hc : A.c = 1
    · have n2 : (A.c == 1) = true := by simpa using hc
      have b0 : atI A.c j = 0 := if_pos hc
      rw [a0, b0] at hqq
      have hq1 : (i : Int) * A.c = (q : Int) := by rw [hqq, Nat.add_zero, Int.natCast_mul, hcn]
      rw [hq1] at wm1
      have wm5 : wrap64 ((i : Int) * A.c) = (q : Int) := by rw [hq1]; exact IntWalk.wrap64_in _ (by omega)
      have wm3 : IntKind.i64.wrap (q : Int) = (q : Int) := IntWalk.i64_in _ (by omega)
      have wm4 : wrap64 (q : Int) = (q : Int) := IntWalk.wrap64_in _ (by omega)
      rw [b0] at HH
      clear hr hc a0 b0 wm2 hqq hcn hq1
      simp only [Int.natCast_zero] at HH
      go_enter Tryz.func45, Tryz.ntmps45
      go_wp2_with fail
      refine (HH.out _).mono ?_
      rintro e w1 ⟨rfl, hb⟩
      have g0 : w1.heap[w.heap.size]? = some (.cells #[.int .i64 A.r, .int .i64 A.c, .slice (some ⟨b, off, none⟩) A.l.length cap] 28) := (hb.block _ (by simp; omega)).trans (by (repeat (first | (with_reducible refine bw5 ?_ _; (first | rfl | (simp; done) | omega | (simp; omega)); done) | with_reducible refine bw6 ?_ _ | with_reducible refine bw7 ?_ | with_reducible refine bw8 ?_)))
      have g1 : w1.heap[w.heap.size + 1]? = some (.cells #[.int .i64 0, .int .i64 0, .int .i64 0, .string ⟨#[]⟩, .bool false, .int .i64 0] 34) := (hb.block _ (by simp)).trans (by (repeat (first | (with_reducible refine bw5 ?_ _; (first | rfl | (simp; done) | omega | (simp; omega)); done) | with_reducible refine bw6 ?_ _ | with_reducible refine bw7 ?_ | with_reducible refine bw8 ?_)))
      have hB1 : Below w.heap.size w w1 := by
        refine Below.trans ?_ (hb.mono (by simp; omega))
        (repeat with_reducible (first | exact bw0 _ _ | exact hBW | refine bw1 ?_ ?_ _ | refine bw2 ?_ ?_ _ | refine bw3 ?_ _ | refine bw4 ?_)); all_goals (first | omega | (dsimp only; omega) | ((repeat with_reducible (first | refine lz1 ?_ | refine lz2 ?_ | refine lz3 ?_ | refine lz4 ?_)); omega))
      have v0 := (hB1.cell (p := ⟨b, off + q * 6, none⟩) hbl).trans v0
      have v1 := (hB1.cell (p := ⟨b, off + q * 6 + 1, none⟩) hbl).trans v1
      have v2 := (hB1.cell (p := ⟨b, off + q * 6 + 2, none⟩) hbl).trans v2
      have v3 := (hB1.cell (p := ⟨b, off + q * 6 + 3, none⟩) hbl).trans v3
      have v4 := (hB1.cell (p := ⟨b, off + q * 6 + 4, none⟩) hbl).trans v4
      have v5 := (hB1.cell (p := ⟨b, off + q * 6 + 5, none⟩) hbl).trans v5
      have a1 := cell_of_heap g0 1
      have a2 := cell_of_heap g0 2
      have z0 := lt_of_heap g0
      have x1 := cell_of_heap g1
      have y1 := frozen_of_heap g1
      have z1 := lt_of_heap g1
      have hbl := Nat.lt_of_lt_of_le hbl hB1.size
      have HB1 := Lib.hid hB1
      clear hb g0 g1 hB1 HH
      go_wp2_with fail
      refine bodyPost_ret (v := .tuple #[.agg #[.int .i64 v.k, .int .i64 v.m, .int .i64 v.e, .string v.t, .bool v.b, .int .i64 v.f], .bool true]) (by simp [results, Tryz.results45, go_sem, x1]) rfl ⟨rfl, ?_⟩
      have hBW := HB1.out
      (repeat with_reducible (first | exact bw0 _ _ | exact hBW | refine bw1 ?_ ?_ _ | refine bw2 ?_ ?_ _ | refine bw3 ?_ _ | refine bw4 ?_)); all_goals (first | omega | (dsimp only; omega) | ((repeat with_reducible (first | refine lz1 ?_ | refine lz2 ?_ | refine lz3 ?_ | refine lz4 ?_)); omega))
    · have n2 : (A.c == 1) = false := by simpa using hc
      have b0 : atI A.c j = j := if_neg hc
      rw [b0] at wm2 HH
      clear hr hc a0 b0 hqq hcn
      go_enter Tryz.func45, Tryz.ntmps45
      go_wp2_with fail
      refine (HH.out _).mono ?_
      rintro e w1 ⟨rfl, hb⟩
      have g0 : w1.heap[w.heap.size]? = some (.cells #[.int .i64 A.r, .int .i64 A.c, .slice (some ⟨b, off, none⟩) A.l.length cap] 28) := (hb.block _ (by simp; omega)).trans (by (repeat (first | (with_reducible refine bw5 ?_ _; (first | rfl | (simp; done) | omega | (simp; omega)); done) | with_reducible refine bw6 ?_ _ | with_reducible refine bw7 ?_ | with_reducible refine bw8 ?_)))
      have g1 : w1.heap[w.heap.size + 1]? = some (.cells #[.int .i64 0, .int .i64 0, .int .i64 0, .string ⟨#[]⟩, .bool false, .int .i64 0] 34) := (hb.block _ (by simp)).trans (by (repeat (first | (with_reducible refine bw5 ?_ _; (first | rfl | (simp; done) | omega | (simp; omega)); done) | with_reducible refine bw6 ?_ _ | with_reducible refine bw7 ?_ | with_reducible refine bw8 ?_)))
      have hB1 : Below w.heap.size w w1 := by
        refine Below.trans ?_ (hb.mono (by simp; omega))
        (repeat with_reducible (first | exact bw0 _ _ | exact hBW | refine bw1 ?_ ?_ _ | refine bw2 ?_ ?_ _ | refine bw3 ?_ _ | refine bw4 ?_)); all_goals (first | omega | (dsimp only; omega) | ((repeat with_reducible (first | refine lz1 ?_ | refine lz2 ?_ | refine lz3 ?_ | refine lz4 ?_)); omega))
      have v0 := (hB1.cell (p := ⟨b, off + q * 6, none⟩) hbl).trans v0
      have v1 := (hB1.cell (p := ⟨b, off + q * 6 + 1, none⟩) hbl).trans v1
      have v2 := (hB1.cell (p := ⟨b, off + q * 6 + 2, none⟩) hbl).trans v2
      have v3 := (hB1.cell (p := ⟨b, off + q * 6 + 3, none⟩) hbl).trans v3
      have v4 := (hB1.cell (p := ⟨b, off + q * 6 + 4, none⟩) hbl).trans v4
      have v5 := (hB1.cell (p := ⟨b, off + q * 6 + 5, none⟩) hbl).trans v5
      have a1 := cell_of_heap g0 1
      have a2 := cell_of_heap g0 2
      have z0 := lt_of_heap g0
      have x1 := cell_of_heap g1
      have y1 := frozen_of_heap g1
      have z1 := lt_of_heap g1
      have hbl := Nat.lt_of_lt_of_le hbl hB1.size
      have HB1 := Lib.hid hB1
      clear hb g0 g1 hB1 HH
      go_wp2_with fail
      refine bodyPost_ret (v := .tuple #[.agg #[.int .i64 v.k, .int .i64 v.m, .int .i64 v.e, .string v.t, .bool v.b, .int .i64 v.f], .bool true]) (by simp [results, Tryz.results45, go_sem, x1]) rfl ⟨rfl, ?_⟩
      have hBW := HB1.out
      (repeat with_reducible (first | exact bw0 _ _ | exact hBW | refine bw1 ?_ ?_ _ | refine bw2 ?_ ?_ _ | refine bw3 ?_ _ | refine bw4 ?_)); all_goals (first | omega | (dsimp only; omega) | ((repeat with_reducible (first | refine lz1 ?_ | refine lz2 ?_ | refine lz3 ?_ | refine lz4 ?_)); omega))
theorem spread_no (h : ¬ ((atI A.r i : Int) < A.r ∧ (atI A.c j : Int) < A.c)) :
    Calls Tryz.prog 45 #[.agg #[.int .i64 A.r, .int .i64 A.c, .slice a A.l.length cap], .int .i64 i, .int .i64 j] w fun e w' => e = .returned (.tuple #[vagg vBlank, .bool false]) ∧ Below w.heap.size w w' := by
  have HH := Lib.hid (has_no A a cap (atI A.r i) (atI A.c j) h)
  unfold vagg vBlank
  clear h
  by_cases hr : A.r = 1
  · have n1 : (A.r == 1) = true := by simpa using hr
    have a0 : atI A.r i = 0 := if_pos hr
    rw [a0] at HH
    by_cases hc : A.c = 1
    · have n2 : (A.c == 1) = true := by simpa using hc
      have b0 : atI A.c j = 0 := if_pos hc
      rw [b0] at HH
      clear hr hc a0 b0
      simp only [Int.natCast_zero] at HH
      go_enter Tryz.func45, Tryz.ntmps45
      go_wp2_with fail
      refine (HH.out _).mono ?_
      rintro e w1 ⟨rfl, hb⟩
      have g1 : w1.heap[w.heap.size + 1]? = some (.cells #[.int .i64 0, .int .i64 0, .int .i64 0, .string ⟨#[]⟩, .bool false, .int .i64 0] 34) := (hb.block _ (by simp)).trans (by (repeat (first | (with_reducible refine bw5 ?_ _; (first | rfl | (simp; done) | omega | (simp; omega)); done) | with_reducible refine bw6 ?_ _ | with_reducible refine bw7 ?_ | with_reducible refine bw8 ?_)))
      have hB1 : Below w.heap.size w w1 := by
        refine Below.trans ?_ (hb.mono (by simp; omega))
        (repeat with_reducible (first | exact bw0 _ _ | exact hBW | refine bw1 ?_ ?_ _ | refine bw2 ?_ ?_ _ | refine bw3 ?_ _ | refine bw4 ?_)); all_goals (first | omega | (dsimp only; omega) | ((repeat with_reducible (first | refine lz1 ?_ | refine lz2 ?_ | refine lz3 ?_ | refine lz4 ?_)); omega))
      have x1 := cell_of_heap g1
      have y1 := frozen_of_heap g1
      have z1 := lt_of_heap g1
      have HB1 := Lib.hid hB1
      clear hb g1 hB1 HH
      go_wp2_with fail
      refine bodyPost_ret (v := .tuple #[.agg #[.int .i64 0, .int .i64 0, .int .i64 0, .string ⟨#[]⟩, .bool false, .int .i64 0], .bool false]) (by simp [results, Tryz.results45, go_sem, x1]) rfl ⟨rfl, ?_⟩
      have hBW := HB1.out
      (repeat with_reducible (first | exact bw0 _ _ | exact hBW | refine bw1 ?_ ?_ _ | refine bw2 ?_ ?_ _ | refine bw3 ?_ _ | refine bw4 ?_)); all_goals (first | omega | (dsimp only; omega) | ((repeat with_reducible (first | refine lz1 ?_ | refine lz2 ?_ | refine lz3 ?_ | refine lz4 ?_)); omega))
    · have n2 : (A.c == 1) = false := by simpa using hc
      have b0 : atI A.c j = j := if_neg hc
      rw [b0] at HH
      clear hr hc a0 b0
      simp only [Int.natCast_zero] at HH
      go_enter Tryz.func45, Tryz.ntmps45
      go_wp2_with fail
      refine (HH.out _).mono ?_
      rintro e w1 ⟨rfl, hb⟩
      have g1 : w1.heap[w.heap.size + 1]? = some (.cells #[.int .i64 0, .int .i64 0, .int .i64 0, .string ⟨#[]⟩, .bool false, .int .i64 0] 34) := (hb.block _ (by simp)).trans (by (repeat (first | (with_reducible refine bw5 ?_ _; (first | rfl | (simp; done) | omega | (simp; omega)); done) | with_reducible refine bw6 ?_ _ | with_reducible refine bw7 ?_ | with_reducible refine bw8 ?_)))
      have hB1 : Below w.heap.size w w1 := by
        refine Below.trans ?_ (hb.mono (by simp; omega))
        (repeat with_reducible (first | exact bw0 _ _ | exact hBW | refine bw1 ?_ ?_ _ | refine bw2 ?_ ?_ _ | refine bw3 ?_ _ | refine bw4 ?_)); all_goals (first | omega | (dsimp only; omega) | ((repeat with_reducible (first | refine lz1 ?_ | refine lz2 ?_ | refine lz3 ?_ | refine lz4 ?_)); omega))
      have x1 := cell_of_heap g1
      have y1 := frozen_of_heap g1
      have z1 := lt_of_heap g1
      have HB1 := Lib.hid hB1
      clear hb g1 hB1 HH
      go_wp2_with fail
      refine bodyPost_ret (v := .tuple #[.agg #[.int .i64 0, .int .i64 0, .int .i64 0, .string ⟨#[]⟩, .bool false, .int .i64 0], .bool false]) (by simp [results, Tryz.results45, go_sem, x1]) rfl ⟨rfl, ?_⟩
      have hBW := HB1.out
      (repeat with_reducible (first | exact bw0 _ _ | exact hBW | refine bw1 ?_ ?_ _ | refine bw2 ?_ ?_ _ | refine bw3 ?_ _ | refine bw4 ?_)); all_goals (first | omega | (dsimp only; omega) | ((repeat with_reducible (first | refine lz1 ?_ | refine lz2 ?_ | refine lz3 ?_ | refine lz4 ?_)); omega))
  · have n1 : (A.r == 1) = false := by simpa using hr
    have a0 : atI A.r i = i := if_neg hr
    rw [a0] at HH
    by_cases hc : A.c = 1
    · have n2 : (A.c == 1) = true := by simpa using hc
      have b0 : atI A.c j = 0 := if_pos hc
      rw [b0] at HH
      clear hr hc a0 b0
      simp only [Int.natCast_zero] at HH
      go_enter Tryz.func45, Tryz.ntmps45
      go_wp2_with fail
      refine (HH.out _).mono ?_
      rintro e w1 ⟨rfl, hb⟩
      have g1 : w1.heap[w.heap.size + 1]? = some (.cells #[.int .i64 0, .int .i64 0, .int .i64 0, .string ⟨#[]⟩, .bool false, .int .i64 0] 34) := (hb.block _ (by simp)).trans (by (repeat (first | (with_reducible refine bw5 ?_ _; (first | rfl | (simp; done) | omega | (simp; omega)); done) | with_reducible refine bw6 ?_ _ | with_reducible refine bw7 ?_ | with_reducible refine bw8 ?_)))
      have hB1 : Below w.heap.size w w1 := by
        refine Below.trans ?_ (hb.mono (by simp; omega))
        (repeat with_reducible (first | exact bw0 _ _ | exact hBW | refine bw1 ?_ ?_ _ | refine bw2 ?_ ?_ _ | refine bw3 ?_ _ | refine bw4 ?_)); all_goals (first | omega | (dsimp only; omega) | ((repeat with_reducible (first | refine lz1 ?_ | refine lz2 ?_ | refine lz3 ?_ | refine lz4 ?_)); omega))
      have x1 := cell_of_heap g1
      have y1 := frozen_of_heap g1
      have z1 := lt_of_heap g1
      have HB1 := Lib.hid hB1
      clear hb g1 hB1 HH
      go_wp2_with fail
      refine bodyPost_ret (v := .tuple #[.agg #[.int .i64 0, .int .i64 0, .int .i64 0, .string ⟨#[]⟩, .bool false, .int .i64 0], .bool false]) (by simp [results, Tryz.results45, go_sem, x1]) rfl ⟨rfl, ?_⟩
      have hBW := HB1.out
      (repeat with_reducible (first | exact bw0 _ _ | exact hBW | refine bw1 ?_ ?_ _ | refine bw2 ?_ ?_ _ | refine bw3 ?_ _ | refine bw4 ?_)); all_goals (first | omega | (dsimp only; omega) | ((repeat with_reducible (first | refine lz1 ?_ | refine lz2 ?_ | refine lz3 ?_ | refine lz4 ?_)); omega))
    · have n2 : (A.c == 1) = false := by simpa using hc
      have b0 : atI A.c j = j := if_neg hc
      rw [b0] at HH
      clear hr hc a0 b0
      go_enter Tryz.func45, Tryz.ntmps45
      go_wp2_with fail
      refine (HH.out _).mono ?_
      rintro e w1 ⟨rfl, hb⟩
      have g1 : w1.heap[w.heap.size + 1]? = some (.cells #[.int .i64 0, .int .i64 0, .int .i64 0, .string ⟨#[]⟩, .bool false, .int .i64 0] 34) := (hb.block _ (by simp)).trans (by (repeat (first | (with_reducible refine bw5 ?_ _; (first | rfl | (simp; done) | omega | (simp; omega)); done) | with_reducible refine bw6 ?_ _ | with_reducible refine bw7 ?_ | with_reducible refine bw8 ?_)))
      have hB1 : Below w.heap.size w w1 := by
        refine Below.trans ?_ (hb.mono (by simp; omega))
        (repeat with_reducible (first | exact bw0 _ _ | exact hBW | refine bw1 ?_ ?_ _ | refine bw2 ?_ ?_ _ | refine bw3 ?_ _ | refine bw4 ?_)); all_goals (first | omega | (dsimp only; omega) | ((repeat with_reducible (first | refine lz1 ?_ | refine lz2 ?_ | refine lz3 ?_ | refine lz4 ?_)); omega))
      have x1 := cell_of_heap g1
      have y1 := frozen_of_heap g1
      have z1 := lt_of_heap g1
      have HB1 := Lib.hid hB1
      clear hb g1 hB1 HH
      go_wp2_with fail
      refine bodyPost_ret (v := .tuple #[.agg #[.int .i64 0, .int .i64 0, .int .i64 0, .string ⟨#[]⟩, .bool false, .int .i64 0], .bool false]) (by simp [results, Tryz.results45, go_sem, x1]) rfl ⟨rfl, ?_⟩
      have hBW := HB1.out
      (repeat with_reducible (first | exact bw0 _ _ | exact hBW | refine bw1 ?_ ?_ _ | refine bw2 ?_ ?_ _ | refine bw3 ?_ _ | refine bw4 ?_)); all_goals (first | omega | (dsimp only; omega) | ((repeat with_reducible (first | refine lz1 ?_ | refine lz2 ?_ | refine lz3 ?_ | refine lz4 ?_)); omega))
end
end Go.Proofs.YtndhmahkglfopaaGreatDoor
