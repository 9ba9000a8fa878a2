/- shape.Both$1, Turn$1. -/
import Derived.Test.YtndhmahkglfopaaGreatDoorQT13R09
import Derived.Test.YtndhmahkglfopaaGreatDoorQT16S1
namespace Go.Proofs.YtndhmahkglfopaaGreatDoor
open Go.RowKit
/-- A function value (g with what it has captured) makes u of x and y, from the world w on. -/
def F2Ok (w : World) (g : Nat) (cp : Array Value) (x y u : V) : Prop := ∀ W, Below w.heap.size w W → Calls Tryz.prog g (#[vagg x, vagg y] ++ cp) W fun e w' => e = .returned (vagg u) ∧ Below W.heap.size W w'
theorem F2Ok.below {w w' : World} {g : Nat} {cp : Array Value} {x y u : V} (h : F2Ok w g cp x y u) (hb : Below w.heap.size w w') : F2Ok w' g cp x y u := fun W hW => h W (hb.trans (hW.mono hb.size))
theorem nil_fn2 (g : Nat) (cp : Array Value) (W : World) : (binOp .eql 45 (.func (.func g) #[] cp) .nilFunc).run Tryz.prog W = .ok (.bool false) W := by kernel_rfl
/-- An array in a block of its own. -/
structure AtBox (w : World) (b : Nat) (A : Arr) (a : Option Addr) (cap : Nat) : Prop where
  blk : w.heap[b]? = some (.cells #[.int .i64 A.r, .int .i64 A.c, .slice a A.l.length cap] 28)
  sl : SlB 0 w a A.l
theorem AtBox.below {w w' : World} {b : Nat} {A : Arr} {a : Option Addr} {cap : Nat} (h : AtBox w b A a cap) (hb : Below w.heap.size w w') : AtBox w' b A a cap :=
  ⟨(hb.block b (lt_of_heap h.blk)).trans h.blk, h.sl.below hb⟩
/-- Its sizes. -/
structure ArrB (A : Arr) : Prop where
  r1 : 1 ≤ A.r
  c1 : 1 ≤ A.c
  r2 : A.r ≤ 4096
  c2 : A.c ≤ 4096
  len : (A.l.length : Int) = A.r * A.c
  le : A.l.length ≤ 4096
theorem atP_some {A : Arr} (hb : ArrB A) {i j : Nat} (h : (atI A.r i : Int) < A.r ∧ (atI A.c j : Int) < A.c) : ∃ v, atP A i j = some v := by
  have hlt : atI A.r i * A.c.toNat + atI A.c j < A.l.length := by
    have h1 : atI A.r i + 1 ≤ A.r.toNat := by omega
    have h2 : atI A.c j < A.c.toNat := by omega
    have e : A.l.length = A.r.toNat * A.c.toNat := by
      have : ((A.r.toNat * A.c.toNat : Nat) : Int) = A.r * A.c := by
        rw [Int.natCast_mul, Int.toNat_of_nonneg (by have := hb.r1; omega), Int.toNat_of_nonneg (by have := hb.c1; omega)]
      have := hb.len
      omega
    have : (atI A.r i + 1) * A.c.toNat ≤ A.r.toNat * A.c.toNat := Nat.mul_le_mul_right _ h1
    rw [Nat.succ_mul] at this
    omega
  exact ⟨A.l[atI A.r i * A.c.toNat + atI A.c j], by unfold atP; rw [if_pos h, List.getElem?_eq_getElem hlt]⟩
theorem spr2_any (A : Arr) (a : Option Addr) (cap i j b : Nat) (hb : ArrB A) (w : World) (h : AtBox w b A a cap) :
    Calls Tryz.prog 45 #[.agg #[.int .i64 A.r, .int .i64 A.c, .slice a A.l.length cap], .int .i64 i, .int .i64 j] w fun e w' => e = .returned (.tuple #[vagg ((atP A i j).getD vBlank), .bool (atP A i j).isSome]) ∧ Below w.heap.size w w' := by
  by_cases hlt : (atI A.r i : Int) < A.r ∧ (atI A.c j : Int) < A.c
  · obtain ⟨v, hv⟩ := atP_some hb hlt
    rw [hv]
    exact spread_yes A a cap w i j h.sl v hv hb.le hb.c1 hb.c2
  · have hn : atP A i j = none := by unfold atP; rw [if_neg hlt]
    rw [hn]
    exact spread_no A a cap w i j hlt
section
variable (A B : Arr) (a b : Option Addr) (capA capB ab bb fb : Nat) (w : World) (i j : Nat)
set_option maxHeartbeats 2000000
set_option maxRecDepth 100000
/- the two calls of spread: (vx, kx), (vy, ky); the values' blocks are w1.heap.size and w2.heap.size -/
def SpOk (A : Arr) (a : Option Addr) (cap ab i j : Nat) (v : V) (k : Bool) : Prop := Hid (∀ W, AtBox W ab A a cap → Calls Tryz.prog 45 #[.agg #[.int .i64 A.r, .int .i64 A.c, .slice a A.l.length cap], .int .i64 i, .int .i64 j] W fun e w' => e = .returned (.tuple #[vagg v, .bool k]) ∧ Below W.heap.size W w')
theorem both1_x (vx vy : V) (ky : Bool) (HX : SpOk A a capA ab i j vx false) (HY : SpOk B b capB bb i j vy ky) (hA : AtBox w ab A a capA) (hB : AtBox w bb B b capB) : Calls Tryz.prog 44 #[.int .i64 i, .int .i64 j, ptrV ab, ptrV bb, ptrV fb] w fun e w' => e = .returned (vagg (vBad 6)) ∧ Below w.heap.size w w' := by
  have HBAD := Lib.hid (bad_any 6)
  obtain ⟨u, hu⟩ : ∃ u, u = vBad 6 := ⟨_, rfl⟩
  rw [← hu] at HBAD ⊢
  unfold SpOk at HX HY
  clear hu
  have HA := Lib.hid hA
  have HB := Lib.hid hB
  clear hA hB
  unfold vagg at HX HY
  unfold ptrV
  have x0 := cell_of_heap HA.out.blk 0
  have x1 := cell_of_heap HA.out.blk 1
  have x2 := cell_of_heap HA.out.blk 2
  have z0 := lt_of_heap HA.out.blk
  go_enter Tryz.func44, Tryz.ntmps44
  go_wp2_with fail
  refine (HX.out _ (HA.out.below (by (repeat with_reducible (first | exact bw0 _ _ | exact hBW | refine bw1 ?_ ?_ _ | refine bw2 ?_ ?_ _ | refine bw3 ?_ _ | refine bw4 ?_)); all_goals (first | omega | (dsimp only; omega) | ((repeat with_reducible (first | refine lz1 ?_ | refine lz2 ?_ | refine lz3 ?_ | refine lz4 ?_)); omega))))).mono ?_
  rintro e w1 ⟨rfl, hb1⟩
  have hB1 : Below w.heap.size w w1 := by
    refine Below.trans ?_ (hb1.mono (by simp))
    (repeat with_reducible (first | exact bw0 _ _ | exact hBW | refine bw1 ?_ ?_ _ | refine bw2 ?_ ?_ _ | refine bw3 ?_ _ | refine bw4 ?_)); all_goals (first | omega | (dsimp only; omega) | ((repeat with_reducible (first | refine lz1 ?_ | refine lz2 ?_ | refine lz3 ?_ | refine lz4 ?_)); omega))
  have E0 := Lib.hid ((hb1.block w.heap.size (by simp)).trans (show _ = some (.cells #[.int .i64 0, .int .i64 0, .int .i64 0, .string ⟨#[]⟩, .bool false, .int .i64 0] 34 (0, 0)) by (repeat (first | (with_reducible refine bw5 ?_ _; (first | rfl | (simp; done) | omega | (simp; omega)); done) | with_reducible refine bw6 ?_ _ | with_reducible refine bw7 ?_ | with_reducible refine bw8 ?_))))
  have HBb := Lib.hid (HB.out.below hB1)
  have HB1 := Lib.hid hB1
  clear hb1 hB1 x0 x1 x2 z0 HB HX
  have x0 := cell_of_heap HBb.out.blk 0
  have x1 := cell_of_heap HBb.out.blk 1
  have x2 := cell_of_heap HBb.out.blk 2
  have z0 := lt_of_heap HBb.out.blk
  go_wp2_with fail
  refine (HY.out _ (HBb.out.below (by (repeat with_reducible (first | exact bw0 _ _ | exact hBW | refine bw1 ?_ ?_ _ | refine bw2 ?_ ?_ _ | refine bw3 ?_ _ | refine bw4 ?_)); all_goals (first | omega | (dsimp only; omega) | ((repeat with_reducible (first | refine lz1 ?_ | refine lz2 ?_ | refine lz3 ?_ | refine lz4 ?_)); omega))))).mono ?_
  rintro e w2 ⟨rfl, hb2⟩
  have hB2 : Below w1.heap.size w1 w2 := by
    refine Below.trans ?_ (hb2.mono (by simp))
    (repeat with_reducible (first | exact bw0 _ _ | exact hBW | refine bw1 ?_ ?_ _ | refine bw2 ?_ ?_ _ | refine bw3 ?_ _ | refine bw4 ?_)); all_goals (first | omega | (dsimp only; omega) | ((repeat with_reducible (first | refine lz1 ?_ | refine lz2 ?_ | refine lz3 ?_ | refine lz4 ?_)); omega))
  have EX := Lib.hid ((hb2.block w1.heap.size (by simp)).trans (show _ = some (.cells #[.int .i64 vx.k, .int .i64 vx.m, .int .i64 vx.e, .string vx.t, .bool vx.b, .int .i64 vx.f] 34 (0, 0)) by (repeat (first | (with_reducible refine bw5 ?_ _; (first | rfl | (simp; done) | omega | (simp; omega)); done) | with_reducible refine bw6 ?_ _ | with_reducible refine bw7 ?_ | with_reducible refine bw8 ?_))))
  have E02 := Lib.hid ((hB2.block _ (lt_of_heap E0.out)).trans E0.out)
  have HB2 := Lib.hid (HB1.out.trans (hB2.mono HB1.out.size))
  have HB12 := Lib.hid hB2
  clear hb2 hB2 x0 x1 x2 z0 E0 HBb HY
  go_wp2_with fail
  refine (HBAD.out _).mono ?_
  rintro e w3 ⟨rfl, hb3⟩
  have HBQ := Lib.hid (HB2.out.trans ((Below.trans (by (repeat with_reducible (first | exact bw0 _ _ | exact hBW | refine bw1 ?_ ?_ _ | refine bw2 ?_ ?_ _ | refine bw3 ?_ _ | refine bw4 ?_)); all_goals (first | omega | (dsimp only; omega) | ((repeat with_reducible (first | refine lz1 ?_ | refine lz2 ?_ | refine lz3 ?_ | refine lz4 ?_)); omega))) (hb3.mono (by simp)) : Below w2.heap.size w2 w3).mono HB2.out.size))
  have hq := (((Below.trans (by (repeat with_reducible (first | exact bw0 _ _ | exact hBW | refine bw1 ?_ ?_ _ | refine bw2 ?_ ?_ _ | refine bw3 ?_ _ | refine bw4 ?_)); all_goals (first | omega | (dsimp only; omega) | ((repeat with_reducible (first | refine lz1 ?_ | refine lz2 ?_ | refine lz3 ?_ | refine lz4 ?_)); omega))) (hb3.mono (by simp)) : Below w2.heap.size w2 w3).block _ (lt_of_heap E02.out)).trans E02.out)
  have q0 := cell_of_heap hq
  have q1 := frozen_of_heap hq
  have q2 := lt_of_heap hq
  clear hb3 hq
  rw [vagg_eq u]
  go_wp2_with fail
  have hBW := HBQ.out
  refine bodyPost_ret (v := .agg #[.int .i64 u.k, .int .i64 u.m, .int .i64 u.e, .string u.t, .bool u.b, .int .i64 u.f]) (by simp [results, Tryz.results44, go_sem, q0]) rfl ⟨rfl, ?_⟩
  (repeat with_reducible (first | exact bw0 _ _ | exact hBW | refine bw1 ?_ ?_ _ | refine bw2 ?_ ?_ _ | refine bw3 ?_ _ | refine bw4 ?_)); all_goals (first | omega | (dsimp only; omega) | ((repeat with_reducible (first | refine lz1 ?_ | refine lz2 ?_ | refine lz3 ?_ | refine lz4 ?_)); omega))
theorem both1_y (vx vy : V) (HX : SpOk A a capA ab i j vx true) (HY : SpOk B b capB bb i j vy false) (hA : AtBox w ab A a capA) (hB : AtBox w bb B b capB) : Calls Tryz.prog 44 #[.int .i64 i, .int .i64 j, ptrV ab, ptrV bb, ptrV fb] w fun e w' => e = .returned (vagg (vBad 6)) ∧ Below w.heap.size w w' := by
  have HBAD := Lib.hid (bad_any 6)
  obtain ⟨u, hu⟩ : ∃ u, u = vBad 6 := ⟨_, rfl⟩
  rw [← hu] at HBAD ⊢
  unfold SpOk at HX HY
  clear hu
  have HA := Lib.hid hA
  have HB := Lib.hid hB
  clear hA hB
  unfold vagg at HX HY
  unfold ptrV
  have x0 := cell_of_heap HA.out.blk 0
  have x1 := cell_of_heap HA.out.blk 1
  have x2 := cell_of_heap HA.out.blk 2
  have z0 := lt_of_heap HA.out.blk
  go_enter Tryz.func44, Tryz.ntmps44
  go_wp2_with fail
  refine (HX.out _ (HA.out.below (by (repeat with_reducible (first | exact bw0 _ _ | exact hBW | refine bw1 ?_ ?_ _ | refine bw2 ?_ ?_ _ | refine bw3 ?_ _ | refine bw4 ?_)); all_goals (first | omega | (dsimp only; omega) | ((repeat with_reducible (first | refine lz1 ?_ | refine lz2 ?_ | refine lz3 ?_ | refine lz4 ?_)); omega))))).mono ?_
  rintro e w1 ⟨rfl, hb1⟩
  have hB1 : Below w.heap.size w w1 := by
    refine Below.trans ?_ (hb1.mono (by simp))
    (repeat with_reducible (first | exact bw0 _ _ | exact hBW | refine bw1 ?_ ?_ _ | refine bw2 ?_ ?_ _ | refine bw3 ?_ _ | refine bw4 ?_)); all_goals (first | omega | (dsimp only; omega) | ((repeat with_reducible (first | refine lz1 ?_ | refine lz2 ?_ | refine lz3 ?_ | refine lz4 ?_)); omega))
  have E0 := Lib.hid ((hb1.block w.heap.size (by simp)).trans (show _ = some (.cells #[.int .i64 0, .int .i64 0, .int .i64 0, .string ⟨#[]⟩, .bool false, .int .i64 0] 34 (0, 0)) by (repeat (first | (with_reducible refine bw5 ?_ _; (first | rfl | (simp; done) | omega | (simp; omega)); done) | with_reducible refine bw6 ?_ _ | with_reducible refine bw7 ?_ | with_reducible refine bw8 ?_))))
  have HBb := Lib.hid (HB.out.below hB1)
  have HB1 := Lib.hid hB1
  clear hb1 hB1 x0 x1 x2 z0 HB HX
  have x0 := cell_of_heap HBb.out.blk 0
  have x1 := cell_of_heap HBb.out.blk 1
  have x2 := cell_of_heap HBb.out.blk 2
  have z0 := lt_of_heap HBb.out.blk
  go_wp2_with fail
  refine (HY.out _ (HBb.out.below (by (repeat with_reducible (first | exact bw0 _ _ | exact hBW | refine bw1 ?_ ?_ _ | refine bw2 ?_ ?_ _ | refine bw3 ?_ _ | refine bw4 ?_)); all_goals (first | omega | (dsimp only; omega) | ((repeat with_reducible (first | refine lz1 ?_ | refine lz2 ?_ | refine lz3 ?_ | refine lz4 ?_)); omega))))).mono ?_
  rintro e w2 ⟨rfl, hb2⟩
  have hB2 : Below w1.heap.size w1 w2 := by
    refine Below.trans ?_ (hb2.mono (by simp))
    (repeat with_reducible (first | exact bw0 _ _ | exact hBW | refine bw1 ?_ ?_ _ | refine bw2 ?_ ?_ _ | refine bw3 ?_ _ | refine bw4 ?_)); all_goals (first | omega | (dsimp only; omega) | ((repeat with_reducible (first | refine lz1 ?_ | refine lz2 ?_ | refine lz3 ?_ | refine lz4 ?_)); omega))
  have EX := Lib.hid ((hb2.block w1.heap.size (by simp)).trans (show _ = some (.cells #[.int .i64 vx.k, .int .i64 vx.m, .int .i64 vx.e, .string vx.t, .bool vx.b, .int .i64 vx.f] 34 (0, 0)) by (repeat (first | (with_reducible refine bw5 ?_ _; (first | rfl | (simp; done) | omega | (simp; omega)); done) | with_reducible refine bw6 ?_ _ | with_reducible refine bw7 ?_ | with_reducible refine bw8 ?_))))
  have E02 := Lib.hid ((hB2.block _ (lt_of_heap E0.out)).trans E0.out)
  have HB2 := Lib.hid (HB1.out.trans (hB2.mono HB1.out.size))
  have HB12 := Lib.hid hB2
  clear hb2 hB2 x0 x1 x2 z0 E0 HBb HY
  go_wp2_with fail
  refine (HBAD.out _).mono ?_
  rintro e w3 ⟨rfl, hb3⟩
  have HBQ := Lib.hid (HB2.out.trans ((Below.trans (by (repeat with_reducible (first | exact bw0 _ _ | exact hBW | refine bw1 ?_ ?_ _ | refine bw2 ?_ ?_ _ | refine bw3 ?_ _ | refine bw4 ?_)); all_goals (first | omega | (dsimp only; omega) | ((repeat with_reducible (first | refine lz1 ?_ | refine lz2 ?_ | refine lz3 ?_ | refine lz4 ?_)); omega))) (hb3.mono (by simp)) : Below w2.heap.size w2 w3).mono HB2.out.size))
  have hq := (((Below.trans (by (repeat with_reducible (first | exact bw0 _ _ | exact hBW | refine bw1 ?_ ?_ _ | refine bw2 ?_ ?_ _ | refine bw3 ?_ _ | refine bw4 ?_)); all_goals (first | omega | (dsimp only; omega) | ((repeat with_reducible (first | refine lz1 ?_ | refine lz2 ?_ | refine lz3 ?_ | refine lz4 ?_)); omega))) (hb3.mono (by simp)) : Below w2.heap.size w2 w3).block _ (lt_of_heap E02.out)).trans E02.out)
  have q0 := cell_of_heap hq
  have q1 := frozen_of_heap hq
  have q2 := lt_of_heap hq
  clear hb3 hq
  rw [vagg_eq u]
  go_wp2_with fail
  have hBW := HBQ.out
  refine bodyPost_ret (v := .agg #[.int .i64 u.k, .int .i64 u.m, .int .i64 u.e, .string u.t, .bool u.b, .int .i64 u.f]) (by simp [results, Tryz.results44, go_sem, q0]) rfl ⟨rfl, ?_⟩
  (repeat with_reducible (first | exact bw0 _ _ | exact hBW | refine bw1 ?_ ?_ _ | refine bw2 ?_ ?_ _ | refine bw3 ?_ _ | refine bw4 ?_)); all_goals (first | omega | (dsimp only; omega) | ((repeat with_reducible (first | refine lz1 ?_ | refine lz2 ?_ | refine lz3 ?_ | refine lz4 ?_)); omega))
theorem both1_z (vx vy u : V) (HX : SpOk A a capA ab i j vx true) (HY : SpOk B b capB bb i j vy true) (hA : AtBox w ab A a capA) (hB : AtBox w bb B b capB) {g : Nat} {cp : Array Value} (hE : ∀ args W, (callFunc g args).run Tryz.prog W = .ok (.enter g args) W) (hf : w.heap[fb]? = some (.cells #[.func (.func g) #[] cp] 45)) (hF : F2Ok w g cp vx vy u) (hR : RightOk u) : Calls Tryz.prog 44 #[.int .i64 i, .int .i64 j, ptrV ab, ptrV bb, ptrV fb] w fun e w' => e = .returned (vagg u) ∧ Below w.heap.size w w' := by
  have HE := Lib.hid hE
  have HF := Lib.hid hf
  have HFF := Lib.hid hF
  have HSO := Lib.hid (fun w => sound_ok u hR w)
  have NF := Lib.hid (nil_fn2 g cp)
  unfold SpOk at HX HY
  clear hE hf hF hR
  have HA := Lib.hid hA
  have HB := Lib.hid hB
  clear hA hB
  unfold vagg at HX HY
  unfold ptrV
  have x0 := cell_of_heap HA.out.blk 0
  have x1 := cell_of_heap HA.out.blk 1
  have x2 := cell_of_heap HA.out.blk 2
  have z0 := lt_of_heap HA.out.blk
  go_enter Tryz.func44, Tryz.ntmps44
  go_wp2_with fail
  refine (HX.out _ (HA.out.below (by (repeat with_reducible (first | exact bw0 _ _ | exact hBW | refine bw1 ?_ ?_ _ | refine bw2 ?_ ?_ _ | refine bw3 ?_ _ | refine bw4 ?_)); all_goals (first | omega | (dsimp only; omega) | ((repeat with_reducible (first | refine lz1 ?_ | refine lz2 ?_ | refine lz3 ?_ | refine lz4 ?_)); omega))))).mono ?_
  rintro e w1 ⟨rfl, hb1⟩
  have hB1 : Below w.heap.size w w1 := by
    refine Below.trans ?_ (hb1.mono (by simp))
    (repeat with_reducible (first | exact bw0 _ _ | exact hBW | refine bw1 ?_ ?_ _ | refine bw2 ?_ ?_ _ | refine bw3 ?_ _ | refine bw4 ?_)); all_goals (first | omega | (dsimp only; omega) | ((repeat with_reducible (first | refine lz1 ?_ | refine lz2 ?_ | refine lz3 ?_ | refine lz4 ?_)); omega))
  have E0 := Lib.hid ((hb1.block w.heap.size (by simp)).trans (show _ = some (.cells #[.int .i64 0, .int .i64 0, .int .i64 0, .string ⟨#[]⟩, .bool false, .int .i64 0] 34 (0, 0)) by (repeat (first | (with_reducible refine bw5 ?_ _; (first | rfl | (simp; done) | omega | (simp; omega)); done) | with_reducible refine bw6 ?_ _ | with_reducible refine bw7 ?_ | with_reducible refine bw8 ?_))))
  have HBb := Lib.hid (HB.out.below hB1)
  have HB1 := Lib.hid hB1
  clear hb1 hB1 x0 x1 x2 z0 HB HX
  have x0 := cell_of_heap HBb.out.blk 0
  have x1 := cell_of_heap HBb.out.blk 1
  have x2 := cell_of_heap HBb.out.blk 2
  have z0 := lt_of_heap HBb.out.blk
  go_wp2_with fail
  refine (HY.out _ (HBb.out.below (by (repeat with_reducible (first | exact bw0 _ _ | exact hBW | refine bw1 ?_ ?_ _ | refine bw2 ?_ ?_ _ | refine bw3 ?_ _ | refine bw4 ?_)); all_goals (first | omega | (dsimp only; omega) | ((repeat with_reducible (first | refine lz1 ?_ | refine lz2 ?_ | refine lz3 ?_ | refine lz4 ?_)); omega))))).mono ?_
  rintro e w2 ⟨rfl, hb2⟩
  have hB2 : Below w1.heap.size w1 w2 := by
    refine Below.trans ?_ (hb2.mono (by simp))
    (repeat with_reducible (first | exact bw0 _ _ | exact hBW | refine bw1 ?_ ?_ _ | refine bw2 ?_ ?_ _ | refine bw3 ?_ _ | refine bw4 ?_)); all_goals (first | omega | (dsimp only; omega) | ((repeat with_reducible (first | refine lz1 ?_ | refine lz2 ?_ | refine lz3 ?_ | refine lz4 ?_)); omega))
  have EX := Lib.hid ((hb2.block w1.heap.size (by simp)).trans (show _ = some (.cells #[.int .i64 vx.k, .int .i64 vx.m, .int .i64 vx.e, .string vx.t, .bool vx.b, .int .i64 vx.f] 34 (0, 0)) by (repeat (first | (with_reducible refine bw5 ?_ _; (first | rfl | (simp; done) | omega | (simp; omega)); done) | with_reducible refine bw6 ?_ _ | with_reducible refine bw7 ?_ | with_reducible refine bw8 ?_))))
  have E02 := Lib.hid ((hB2.block _ (lt_of_heap E0.out)).trans E0.out)
  have HB2 := Lib.hid (HB1.out.trans (hB2.mono HB1.out.size))
  have HB12 := Lib.hid hB2
  clear hb2 hB2 x0 x1 x2 z0 E0 HBb HY
  have hf2 := (HB2.out.block fb (lt_of_heap HF.out)).trans HF.out
  have f0 : w2.cell? ⟨fb, 0, none⟩ = some (.func (.func g) #[] cp) := cell_of_heap hf2 0
  have zf := lt_of_heap hf2
  have zf1 : fb < w2.heap.size + 1 := by omega
  have zf2 : fb ≠ w2.heap.size := by omega
  have v0 := cell_of_heap EX.out
  have zx := lt_of_heap EX.out
  have zx1 : w1.heap.size ≠ w2.heap.size := by omega
  have ent := HE.out
  have nf := NF.out
  clear hf2
  go_wp2_with fail
  clear ent nf
  have hba : Below w2.heap.size w2 (w2.alloc (.cells #[.int .i64 vy.k, .int .i64 vy.m, .int .i64 vy.e, .string vy.t, .bool vy.b, .int .i64 vy.f] 34)) := by (repeat with_reducible (first | exact bw0 _ _ | exact hBW | refine bw1 ?_ ?_ _ | refine bw2 ?_ ?_ _ | refine bw3 ?_ _ | refine bw4 ?_)); all_goals (first | omega | (dsimp only; omega) | ((repeat with_reducible (first | refine lz1 ?_ | refine lz2 ?_ | refine lz3 ?_ | refine lz4 ?_)); omega))
  refine (HFF.out _ (HB2.out.trans (hba.mono HB2.out.size))).mono ?_
  rintro e w3 ⟨rfl, hb3⟩
  have HB3 : Hid (Below w2.heap.size w2 w3) := hba.trans (hb3.mono (by simp))
  clear hb3 hba f0 zf zf1 zf2 v0 zx zx1
  go_wp2_with fail
  refine (HSO.out _).mono ?_
  rintro e w4 ⟨rfl, hb4⟩
  have hB4 : Below w2.heap.size w2 w4 := HB3.out.trans (hb4.mono HB3.out.size)
  have HBQ := Lib.hid (HB2.out.trans (hB4.mono HB2.out.size))
  have hq := (hB4.block _ (lt_of_heap E02.out)).trans E02.out
  have q0 := cell_of_heap hq
  have q1 := frozen_of_heap hq
  have q2 := lt_of_heap hq
  clear hb4 hB4 hq
  rw [vagg_eq u]
  go_wp2_with fail
  have hBW := HBQ.out
  refine bodyPost_ret (v := .agg #[.int .i64 u.k, .int .i64 u.m, .int .i64 u.e, .string u.t, .bool u.b, .int .i64 u.f]) (by simp [results, Tryz.results44, go_sem, q0]) rfl ⟨rfl, ?_⟩
  (repeat with_reducible (first | exact bw0 _ _ | exact hBW | refine bw1 ?_ ?_ _ | refine bw2 ?_ ?_ _ | refine bw3 ?_ _ | refine bw4 ?_)); all_goals (first | omega | (dsimp only; omega) | ((repeat with_reducible (first | refine lz1 ?_ | refine lz2 ?_ | refine lz3 ?_ | refine lz4 ?_)); omega))
end
end Go.Proofs.YtndhmahkglfopaaGreatDoor
/- shape: Common, Both, Turn. -/
namespace Go.Proofs.YtndhmahkglfopaaGreatDoor
open Go.RowKit
theorem ArrR.len {A : Arr} (h : ArrR A) : A.l.length ≤ 4096 := by have := h.h5; have := h.h6; omega
theorem ArrR.b {A : Arr} (h : ArrR A) : ArrB A := ⟨h.h1, h.h2, h.h3, h.h4, h.h6, h.len⟩
theorem ent44 : ∀ args W, (callFunc 44 args).run Tryz.prog W = .ok (.enter 44 args) W := enters_of Tryz.func44 (by kernel_rfl) rfl
/-- An array as a value. -/
def arrA (A : Arr) (a : Option Addr) (cap : Nat) : Value := .agg #[.int .i64 A.r, .int .i64 A.c, .slice a A.l.length cap]
section
variable (A B : Arr) (a b : Option Addr) (capA capB : Nat) (w : World)
set_option maxHeartbeats 2000000
set_option maxRecDepth 100000
/- two arrays in boxes, then Right of both; w2 is behind -/
theorem Common_any (hA : ArrR A) (hB : ArrR B) (h1 : max A.r B.r ≤ 4096) (h2 : max A.c B.c ≤ 4096 / max A.r B.r) (hsa : SlB 0 w a A.l) (hsb : SlB 0 w b B.l) : Calls Tryz.prog 41 #[arrA A a capA, arrA B b capB] w fun e w' => e = .returned (.tuple #[.int .i64 (max A.r B.r), .int .i64 (max A.c B.c), .bool true]) ∧ Below w.heap.size w w' := by
  have HRA := Lib.hid (shapeRight_yes A hA.ok)
  have HRB := Lib.hid (shapeRight_yes B hB.ok)
  have HSA := Lib.hid hsa
  have HSB := Lib.hid hsb
  have HFI := Lib.hid (fun w => fits_yes (max A.r B.r) (max A.c B.c) w (by have := hA.h1; omega) (by have := hA.h2; omega) h1 h2)
  obtain ⟨mr, hmr⟩ : ∃ m, m = max A.r B.r := ⟨_, rfl⟩
  obtain ⟨mc, hmc⟩ : ∃ m, m = max A.c B.c := ⟨_, rfl⟩
  rw [← hmr, ← hmc] at HFI ⊢
  have HM1 : Hid (mr = max A.r B.r) := hmr
  have HM2 : Hid (mc = max A.c B.c) := hmc
  have HMR : Hid ((if A.r < B.r then B.r else A.r) = mr) := by unfold Hid; rw [hmr]; split <;> omega
  have HMC : Hid ((if A.c < B.c then B.c else A.c) = mc) := by unfold Hid; rw [hmc]; split <;> omega
  unfold arrA
  clear hA hB h1 h2 hsa hsb hmr hmc
  go_enter Tryz.func41, Tryz.ntmps41
  go_wp2_with fail
  refine (HRA.out _ _ ⟨a, capA, rfl, HSA.out.below (by (repeat with_reducible (first | exact bw0 _ _ | exact hBW | refine bw1 ?_ ?_ _ | refine bw2 ?_ ?_ _ | refine bw3 ?_ _ | refine bw4 ?_)); all_goals (first | omega | (dsimp only; omega) | ((repeat with_reducible (first | refine lz1 ?_ | refine lz2 ?_ | refine lz3 ?_ | refine lz4 ?_)); omega)))⟩).mono ?_
  rintro e w1 ⟨rfl, hb1⟩
  have ea := Lib.hid ((hb1.block w.heap.size (by simp <;> omega)).trans (show _ = some (.cells #[.int .i64 A.r, .int .i64 A.c, .slice a A.l.length capA] 28 (0, 0)) by (repeat (first | (with_reducible refine bw5 ?_ _; (first | rfl | (simp; done) | omega | (simp; omega)); done) | with_reducible refine bw6 ?_ _ | with_reducible refine bw7 ?_ | with_reducible refine bw8 ?_))))
  have eb := Lib.hid ((hb1.block (w.heap.size + 1) (by simp)).trans (show _ = some (.cells #[.int .i64 B.r, .int .i64 B.c, .slice b B.l.length capB] 28 (0, 0)) by (repeat (first | (with_reducible refine bw5 ?_ _; (first | rfl | (simp; done) | omega | (simp; omega)); done) | with_reducible refine bw6 ?_ _ | with_reducible refine bw7 ?_ | with_reducible refine bw8 ?_))))
  have HB1 : Hid (Below w.heap.size w w1) := by
    refine Below.trans ?_ (hb1.mono (by simp <;> omega))
    (repeat with_reducible (first | exact bw0 _ _ | exact hBW | refine bw1 ?_ ?_ _ | refine bw2 ?_ ?_ _ | refine bw3 ?_ _ | refine bw4 ?_)); all_goals (first | omega | (dsimp only; omega) | ((repeat with_reducible (first | refine lz1 ?_ | refine lz2 ?_ | refine lz3 ?_ | refine lz4 ?_)); omega))
  have j0 := cell_of_heap eb.out
  have z1 := lt_of_heap eb.out
  clear hb1 HRA
  go_wp2_with fail
  refine (HRB.out _ _ ⟨b, capB, rfl, HSB.out.below HB1.out⟩).mono ?_
  rintro e w2 ⟨rfl, hb2⟩
  have qa := (hb2.block _ (lt_of_heap ea.out)).trans ea.out
  have qb := (hb2.block _ (lt_of_heap eb.out)).trans eb.out
  have HB2 := Lib.hid (HB1.out.trans (hb2.mono HB1.out.size))
  clear j0 z1 hb2 ea eb HRB
  have k0 := cell_of_heap qa 0
  have k1 := cell_of_heap qa 1
  have j0 := cell_of_heap qb 0
  have j1 := cell_of_heap qb 1
  have z0 := lt_of_heap qa
  have z1 := lt_of_heap qb
  clear qa qb
  go_wp2_with fail
  refine wp_region_mix [0, 1, 2, 3, 4, 5, 6, 7, 8, 9, 10, 11] [] [] (Below w2.heap.size w2) (by kernel_rfl) (by kernel_rfl) (Below.refl _ _).drew ?_
  iterate 12 (first | (apply first_step; (rw [List.getElem?_toArray]; (repeat rw [List.getElem?_cons_succ]); rw [List.getElem?_cons_zero]); rfl; (intro W hB; have hc := bcellB hB; go_simp; (first | done | rfl)); go_frame) | (apply first_skip; (rw [List.getElem?_toArray]; (repeat rw [List.getElem?_cons_succ]); rw [List.getElem?_cons_zero]); rfl; go_frame))
  refine first_done ?_
  refine tail_done ?_
  clear k0 k1 j0 j1 z0 z1
  first | rw [HMR.out, HMC.out] | rw [← HM1.out, ← HM2.out]
  go_wp2_with fail
  refine (HFI.out _).mono ?_
  rintro e w3 ⟨rfl, rfl⟩
  go_wp2_with fail
  go_ret3
  exact ⟨rfl, HB2.out.drew⟩
/-- Both of two arrays: F of each two values. -/
theorem Both_any (F : V → V → V) (hA : ArrR A) (hB : ArrR B) (h1 : max A.r B.r ≤ 4096) (h2 : max A.c B.c ≤ 4096 / max A.r B.r) (hsa : SlB 0 w a A.l) (hsb : SlB 0 w b B.l) {g : Nat} {cp : Array Value} (hE : ∀ args W, (callFunc g args).run Tryz.prog W = .ok (.enter g args) W)
    (hF : ∀ x ∈ A.l, ∀ y ∈ B.l, F2Ok w g cp x y (F x y)) (hR : ∀ x ∈ A.l, ∀ y ∈ B.l, RightOk (F x y)) : Calls Tryz.prog 18 #[arrA A a capA, arrA B b capB, .func (.func g) #[] cp] w (ArrPost w (bothV F A B)) := by
  have HRA := Lib.hid (shapeRight_yes A hA.ok)
  have HRB := Lib.hid (shapeRight_yes B hB.ok)
  have HSA := Lib.hid hsa
  have HSB := Lib.hid hsb
  have HCO := Lib.hid (fun w hsa hsb => Common_any A B a b capA capB w hA hB h1 h2 hsa hsb)
  obtain ⟨r, hr⟩ : ∃ r : Nat, max A.r B.r = (r : Int) := ⟨(max A.r B.r).toNat, by have := hA.h1; omega⟩
  obtain ⟨c, hc⟩ : ∃ c : Nat, max A.c B.c = (c : Int) := ⟨(max A.c B.c).toNat, by have := hA.h2; omega⟩
  have q1 : 1 ≤ r := by have := hA.h1; omega
  have q2 : 1 ≤ c := by have := hA.h2; omega
  have q3 : r * c ≤ 4096 := by
    rw [hr, hc] at h2
    have : (c : Int) * (r : Int) ≤ 4096 := by
      have := Int.mul_le_mul_of_nonneg_right h2 (show (0 : Int) ≤ r by omega)
      have e : (4096 / (r : Int)) * r ≤ 4096 := Int.ediv_mul_le _ (by omega)
      omega
    rw [← Int.natCast_mul] at this
    rw [Nat.mul_comm]
    omega
  have q4 : r ≤ 4096 := Nat.le_trans (Nat.le_mul_of_pos_right r q2) q3
  have q5 : c ≤ 4096 := Nat.le_trans (Nat.le_mul_of_pos_left c q1) q3
  have EBV : Hid (bothV F A B = ⟨r, c, grid (bothU F A B) r c⟩) := by
    unfold Hid bothV
    rw [hr, hc, Int.toNat_natCast, Int.toNat_natCast]
  rw [hr, hc] at HCO
  have HA := Lib.hid hA
  have HB := Lib.hid hB
  have HE := Lib.hid hE
  have HF := Lib.hid hF
  have HR := Lib.hid hR
  rw [EBV.out]
  unfold arrA at HCO ⊢
  clear hA hB h1 h2 hsa hsb hr hc hE hF hR
  go_enter Tryz.func18, Tryz.ntmps18
  go_wp2_with fail
  refine (HRA.out _ _ ⟨a, capA, rfl, HSA.out.below (by (repeat with_reducible (first | exact bw0 _ _ | exact hBW | refine bw1 ?_ ?_ _ | refine bw2 ?_ ?_ _ | refine bw3 ?_ _ | refine bw4 ?_)); all_goals (first | omega | (dsimp only; omega) | ((repeat with_reducible (first | refine lz1 ?_ | refine lz2 ?_ | refine lz3 ?_ | refine lz4 ?_)); omega)))⟩).mono ?_
  rintro e w1 ⟨rfl, hb1⟩
  have ea := Lib.hid ((hb1.block w.heap.size (by simp <;> omega)).trans (show _ = some (.cells #[.int .i64 A.r, .int .i64 A.c, .slice a A.l.length capA] 28 (0, 0)) by (repeat (first | (with_reducible refine bw5 ?_ _; (first | rfl | (simp; done) | omega | (simp; omega)); done) | with_reducible refine bw6 ?_ _ | with_reducible refine bw7 ?_ | with_reducible refine bw8 ?_))))
  have eb := Lib.hid ((hb1.block (w.heap.size + 1) (by simp <;> omega)).trans (show _ = some (.cells #[.int .i64 B.r, .int .i64 B.c, .slice b B.l.length capB] 28 (0, 0)) by (repeat (first | (with_reducible refine bw5 ?_ _; (first | rfl | (simp; done) | omega | (simp; omega)); done) | with_reducible refine bw6 ?_ _ | with_reducible refine bw7 ?_ | with_reducible refine bw8 ?_))))
  have ef := Lib.hid ((hb1.block (w.heap.size + 1 + 1) (by simp)).trans (show _ = some (.cells #[.func (.func g) #[] cp] 45 (0, 0)) by (repeat (first | (with_reducible refine bw5 ?_ _; (first | rfl | (simp; done) | omega | (simp; omega)); done) | with_reducible refine bw6 ?_ _ | with_reducible refine bw7 ?_ | with_reducible refine bw8 ?_))))
  have e6 := Lib.hid ((hb1.block (w.heap.size + 1 + 1 + 1) (by simp)).trans (show _ = some (.cells #[.int .i64 0, .int .i64 0, .slice none 0 0] 28 (0, 0)) by (repeat (first | (with_reducible refine bw5 ?_ _; (first | rfl | (simp; done) | omega | (simp; omega)); done) | with_reducible refine bw6 ?_ _ | with_reducible refine bw7 ?_ | with_reducible refine bw8 ?_))))
  have HB1 : Hid (Below w.heap.size w w1) := by
    refine Below.trans ?_ (hb1.mono (by simp <;> omega))
    (repeat with_reducible (first | exact bw0 _ _ | exact hBW | refine bw1 ?_ ?_ _ | refine bw2 ?_ ?_ _ | refine bw3 ?_ _ | refine bw4 ?_)); all_goals (first | omega | (dsimp only; omega) | ((repeat with_reducible (first | refine lz1 ?_ | refine lz2 ?_ | refine lz3 ?_ | refine lz4 ?_)); omega))
  have j0 := cell_of_heap eb.out
  have z1 := lt_of_heap eb.out
  clear hb1 HRA
  go_wp2_with fail
  refine (HRB.out _ _ ⟨b, capB, rfl, HSB.out.below HB1.out⟩).mono ?_
  rintro e w2 ⟨rfl, hb2⟩
  have HB2 := Lib.hid (HB1.out.trans (hb2.mono HB1.out.size))
  have ea2 := Lib.hid ((hb2.block _ (lt_of_heap ea.out)).trans ea.out)
  have eb2 := Lib.hid ((hb2.block _ (lt_of_heap eb.out)).trans eb.out)
  have ef2 := Lib.hid ((hb2.block _ (lt_of_heap ef.out)).trans ef.out)
  have e62 := Lib.hid ((hb2.block _ (lt_of_heap e6.out)).trans e6.out)
  clear j0 z1 hb2 ea eb ef e6 HRB
  have k0 := cell_of_heap ea2.out
  have j0 := cell_of_heap eb2.out
  have z0 := lt_of_heap ea2.out
  have z1 := lt_of_heap eb2.out
  go_wp2_with fail
  refine (HCO.out _ (HSA.out.below HB2.out) (HSB.out.below HB2.out)).mono ?_
  rintro e w3 ⟨rfl, hb3⟩
  have HB3 := Lib.hid (HB2.out.trans (hb3.mono HB2.out.size))
  have ea3 := Lib.hid ((hb3.block _ (lt_of_heap ea2.out)).trans ea2.out)
  have eb3 := Lib.hid ((hb3.block _ (lt_of_heap eb2.out)).trans eb2.out)
  have ef3 := Lib.hid ((hb3.block _ (lt_of_heap ef2.out)).trans ef2.out)
  have e63 := Lib.hid ((hb3.block _ (lt_of_heap e62.out)).trans e62.out)
  clear k0 j0 z0 z1 hb3 ea2 eb2 ef2 e62 HCO
  go_wp2_with fail
  have key := build_any (cp := #[ptrV w.heap.size, ptrV (w.heap.size + 1), ptrV (w.heap.size + 1 + 1)]) ent44 (bothU F A B) r c q1 q2 q4 q5 q3 w3 (fun i j hi hj W hW => by
    have hA := HA.out
    have hB := HB.out
    have hbW : Below w.heap.size w W := HB3.out.trans (hW.mono HB3.out.size)
    have bA : AtBox W w.heap.size A a capA := ⟨(hW.block _ (lt_of_heap ea3.out)).trans ea3.out, HSA.out.below hbW⟩
    have bB : AtBox W (w.heap.size + 1) B b capB := ⟨(hW.block _ (lt_of_heap eb3.out)).trans eb3.out, HSB.out.below hbW⟩
    have bF := (hW.block _ (lt_of_heap ef3.out)).trans ef3.out
    have SX : SpOk A a capA w.heap.size i j ((atP A i j).getD vBlank) (atP A i j).isSome := fun W h => spr2_any A a capA i j w.heap.size hA.b W h
    have SY : SpOk B b capB (w.heap.size + 1) i j ((atP B i j).getD vBlank) (atP B i j).isSome := fun W h => spr2_any B b capB i j (w.heap.size + 1) hB.b W h
    unfold bothU
    cases hx : atP A i j with
    | none =>
      rw [hx] at SX
      exact both1_x A B a b capA capB w.heap.size (w.heap.size + 1) (w.heap.size + 1 + 1) W i j _ _ _ SX SY bA bB
    | some x =>
      cases hy : atP B i j with
      | none =>
        rw [hx] at SX
        rw [hy] at SY
        exact both1_y A B a b capA capB w.heap.size (w.heap.size + 1) (w.heap.size + 1 + 1) W i j _ _ SX SY bA bB
      | some y =>
        rw [hx] at SX
        rw [hy] at SY
        have mx : x ∈ A.l := by unfold atP at hx; split at hx; exact List.mem_of_getElem? hx; cases hx
        have my : y ∈ B.l := by unfold atP at hy; split at hy; exact List.mem_of_getElem? hy; cases hy
        exact both1_z A B a b capA capB w.heap.size (w.heap.size + 1) (w.heap.size + 1 + 1) W i j x y (F x y) SX SY bA bB HE.out bF ((HF.out x mx y my).below hbW) (HR.out x mx y my))
  unfold ptrV at key
  refine key.mono ?_
  clear key
  rintro e w4 ⟨x, rfl, ⟨a4, cap4, rfl, hsl⟩, hb4⟩
  have e0 := (hb4.block _ (lt_of_heap e63.out)).trans e63.out
  have x0 := cell_of_heap e0
  have y0 := frozen_of_heap e0
  have z0 := lt_of_heap e0
  have HSL := Lib.hid (hsl.mono (B' := w.heap.size + 1 + 1 + 1 + 1) (lt_of_heap e63.out))
  have HBW := Lib.hid (HB3.out.trans (hb4.mono HB3.out.size))
  clear hsl hb4 e0
  go_wp2_with fail
  refine bodyPost_ret (v := .agg #[.int .i64 r, .int .i64 c, .slice a4 (grid (bothU F A B) r c).length cap4]) (by simp [results, Tryz.results18, go_sem, x0]) rfl ?_
  exact arr_hand (A := ⟨r, c, grid (bothU F A B) r c⟩) (n := 0) (by omega) HSL.out HBW.out _ _ _
end
end Go.Proofs.YtndhmahkglfopaaGreatDoor
