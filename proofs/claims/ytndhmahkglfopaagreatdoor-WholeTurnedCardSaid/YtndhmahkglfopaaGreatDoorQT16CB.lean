/- fmath: wholeNumber, rounded; ROUND and TRANSPOSE. -/
import Derived.Test.YtndhmahkglfopaaGreatDoorQT16CA
import Derived.Test.YtndhmahkglfopaaGreatDoorQT16T
namespace Go.Proofs.YtndhmahkglfopaaGreatDoor
open Go.RowKit
section
variable (w : World)
set_option maxHeartbeats 2000000
set_option maxRecDepth 100000
def optW (o : Option Int) : Int × Int := match o with
  | some n => (n, 0)
  | none => (0, 5)
def WNPost (w : World) (R : Int × Int) (e : Ending) (w' : World) : Prop := e = .returned (.tuple #[.int .i64 R.1, .int .i64 R.2]) ∧ Below w.heap.size w w'
theorem whole_f (y : V) (ym ye yf : Int) (hf : yf ≠ 0) (HY : Hid (∀ w, Calls Tryz.prog 103 #[vagg y] w (TNPost w ((ym, ye), yf)))) : Calls Tryz.prog 242 #[vagg y] w (WNPost w (0, yf)) := by
  have n1 : (yf != 0) = true := by simpa using hf
  unfold vagg TNPost NumF at HY
  unfold vagg
  simp only at HY
  clear hf
  go_enter Tryz.func242, Tryz.ntmps242
  go_wp2_with fail
  refine (HY.out _).mono ?_
  rintro r w1 ⟨rfl, hb1⟩
  have HB1 : Hid (Below w.heap.size w w1) := by
    refine Below.trans ?_ (hb1.mono (by simp))
    (repeat with_reducible (first | exact bw0 _ _ | exact hBW | refine bw1 ?_ ?_ _ | refine bw2 ?_ ?_ _ | refine bw3 ?_ _ | refine bw4 ?_)); all_goals (first | omega | (dsimp only; omega) | ((repeat with_reducible (first | refine lz1 ?_ | refine lz2 ?_ | refine lz3 ?_ | refine lz4 ?_)); omega))
  clear hb1
  go_wp2_with fail
  go_ret2
  have hBW := HB1.out
  have hsz := hBW.size
  refine ⟨rfl, ?_⟩
  (repeat with_reducible (first | exact bw0 _ _ | exact hBW | refine bw1 ?_ ?_ _ | refine bw2 ?_ ?_ _ | refine bw3 ?_ _ | refine bw4 ?_)); all_goals (first | omega | (dsimp only; omega) | ((repeat with_reducible (first | refine lz1 ?_ | refine lz2 ?_ | refine lz3 ?_ | refine lz4 ?_)); omega))
theorem whole_o (y : V) (ym ye fm fe : Int) (o : Option Int) (HY : Hid (∀ w, Calls Tryz.prog 103 #[vagg y] w (TNPost w ((ym, ye), 0)))) (HFL : Hid (∀ w, Calls Tryz.prog 67 #[.agg #[.int .i64 ym, .int .i64 ye]] w fun r w' => r = .returned (.agg #[.int .i64 fm, .int .i64 fe]) ∧ Below w.heap.size w w'))
    (HI : Hid (∀ w, Calls Tryz.prog 68 #[.agg #[.int .i64 fm, .int .i64 fe]] w fun r w' => r = .returned (intV o) ∧ Below w.heap.size w w')) : Calls Tryz.prog 242 #[vagg y] w (WNPost w (optW o)) := by
  unfold vagg TNPost NumF at HY
  unfold vagg
  simp only at HY
  cases o with
  | none =>
    unfold intV at HI
    simp only [Option.getD_none, Option.isSome_none] at HI
    go_enter Tryz.func242, Tryz.ntmps242
    go_wp2_with fail
    refine (HY.out _).mono ?_
    rintro r w1 ⟨rfl, hb1⟩
    have HB1 : Hid (Below w.heap.size w w1) := by
      refine Below.trans ?_ (hb1.mono (by simp))
      (repeat with_reducible (first | exact bw0 _ _ | exact hBW | refine bw1 ?_ ?_ _ | refine bw2 ?_ ?_ _ | refine bw3 ?_ _ | refine bw4 ?_)); all_goals (first | omega | (dsimp only; omega) | ((repeat with_reducible (first | refine lz1 ?_ | refine lz2 ?_ | refine lz3 ?_ | refine lz4 ?_)); omega))
    clear hb1
    go_wp2_with fail
    refine (HFL.out _).mono ?_
    rintro r w2 ⟨rfl, hb2⟩
    have HB2 : Hid (Below w1.heap.size w1 w2) := by
      refine Below.trans ?_ (hb2.mono (by simp))
      (repeat with_reducible (first | exact bw0 _ _ | exact hBW | refine bw1 ?_ ?_ _ | refine bw2 ?_ ?_ _ | refine bw3 ?_ _ | refine bw4 ?_)); all_goals (first | omega | (dsimp only; omega) | ((repeat with_reducible (first | refine lz1 ?_ | refine lz2 ?_ | refine lz3 ?_ | refine lz4 ?_)); omega))
    clear hb2
    go_wp2_with fail
    refine (HI.out _).mono ?_
    rintro r w3 ⟨rfl, hb3⟩
    have HB3 := Lib.hid (HB1.out.trans ((HB2.out.trans (hb3.mono HB2.out.size)).mono HB1.out.size))
    clear hb3
    go_wp2_with fail
    go_ret2
    exact ⟨rfl, HB3.out⟩
  | some n =>
    unfold intV at HI
    simp only [Option.getD_some, Option.isSome_some] at HI
    go_enter Tryz.func242, Tryz.ntmps242
    go_wp2_with fail
    refine (HY.out _).mono ?_
    rintro r w1 ⟨rfl, hb1⟩
    have HB1 : Hid (Below w.heap.size w w1) := by
      refine Below.trans ?_ (hb1.mono (by simp))
      (repeat with_reducible (first | exact bw0 _ _ | exact hBW | refine bw1 ?_ ?_ _ | refine bw2 ?_ ?_ _ | refine bw3 ?_ _ | refine bw4 ?_)); all_goals (first | omega | (dsimp only; omega) | ((repeat with_reducible (first | refine lz1 ?_ | refine lz2 ?_ | refine lz3 ?_ | refine lz4 ?_)); omega))
    clear hb1
    go_wp2_with fail
    refine (HFL.out _).mono ?_
    rintro r w2 ⟨rfl, hb2⟩
    have HB2 : Hid (Below w1.heap.size w1 w2) := by
      refine Below.trans ?_ (hb2.mono (by simp))
      (repeat with_reducible (first | exact bw0 _ _ | exact hBW | refine bw1 ?_ ?_ _ | refine bw2 ?_ ?_ _ | refine bw3 ?_ _ | refine bw4 ?_)); all_goals (first | omega | (dsimp only; omega) | ((repeat with_reducible (first | refine lz1 ?_ | refine lz2 ?_ | refine lz3 ?_ | refine lz4 ?_)); omega))
    clear hb2
    go_wp2_with fail
    refine (HI.out _).mono ?_
    rintro r w3 ⟨rfl, hb3⟩
    have HB3 := Lib.hid (HB1.out.trans ((HB2.out.trans (hb3.mono HB2.out.size)).mono HB1.out.size))
    clear hb3
    go_wp2_with fail
    go_ret2
    exact ⟨rfl, HB3.out⟩
end
theorem floor_i64 {m e : Int} (h : numR m e = true) : I64 (floorR m e).1 := by
  unfold floorR
  split
  · exact numR_i64 h
  · have hs := numR_small h
    have hWN : floorW m e ≤ m.natAbs := by
      unfold floorW
      split
      · exact Nat.div_le_self _ _
      · omega
    have hNN : floorN m e ≤ m.natAbs + 1 := by unfold floorN; split <;> omega
    have ht := trimW_le _ (floorN m e) (Nat.le_refl _)
    simp only
    unfold I64 trimM
    split <;> omega
theorem Int_any2 (m e : Int) (h : I64 m) (w : World) : Calls Tryz.prog 68 #[.agg #[.int .i64 m, .int .i64 e]] w fun r w' => r = .returned (intV (intR m e)) ∧ Below w.heap.size w w' := by
  cases hr : numR m e with
  | true => exact Int_any m e hr w
  | false =>
    unfold intR
    rw [hr, if_neg (by simp)]
    exact int_no1 m e w (fun w => by have := num_all m e h w; rw [hr] at this; exact this)
theorem wholeNumber_any (y : V) (hy : refR y = true) (w : World) : Calls Tryz.prog 242 #[vagg y] w (WNPost w (wholeR y)) := by
  have HY := Lib.hid (ToNum_any y hy)
  have hr := toNum_right hy
  unfold wholeR
  generalize toNum y = Y at HY hr ⊢
  obtain ⟨⟨ym, ye⟩, yf⟩ := Y
  simp only at hr ⊢
  by_cases h : yf = 0
  · subst h
    rw [if_neg (by simp)]
    have H := whole_o w y ym ye (floorR ym ye).1 (floorR ym ye).2 (intR (floorR ym ye).1 (floorR ym ye).2) HY (Lib.hid (floor_any ym ye hr)) (Lib.hid (Int_any2 _ _ (floor_i64 hr)))
    generalize intR (floorR ym ye).1 (floorR ym ye).2 = o at H ⊢
    cases o with
    | none => exact H
    | some n => exact H
  · rw [if_pos h]
    exact whole_f w y ym ye yf h HY
section
variable (x y : V) (w : World)
set_option maxHeartbeats 2000000
set_option maxRecDepth 100000
theorem rounded_x (xm xe xf : Int) (Y : Int × Int) (HX : Hid (∀ w, Calls Tryz.prog 103 #[vagg x] w (TNPost w ((xm, xe), xf)))) (HY : Hid (∀ w, Calls Tryz.prog 242 #[vagg y] w (WNPost w Y))) (hr : numR xm xe = true) (U : V)
    (hU : U = if xf ≠ 0 then vBad xf else if Y.2 ≠ 0 then vBad Y.2 else numV (roundR xm xe Y.1)) : Calls Tryz.prog 157 #[vagg x, vagg y] w (VPost w U) := by
  obtain ⟨yn, yf⟩ := Y
  have HUU := Lib.hid hU
  unfold vagg TNPost NumF at HX
  unfold vagg WNPost at HY
  unfold vagg
  simp only at HX HY
  have HRO := Lib.hid (Round_any xm xe yn hr)
  unfold RoPost at HRO
  clear hU hr
  go_enter Tryz.func157, Tryz.ntmps157
  go_wp2_with fail
  refine (HX.out _).mono ?_
  rintro r w1 ⟨rfl, hb1⟩
  have E2 := Lib.hid ((hb1.block (w.heap.size + 1 + 1) (by simp)).trans (show _ = some (.cells #[.int .i64 0, .int .i64 0, .int .i64 0, .string ⟨#[]⟩, .bool false, .int .i64 0] 34 (0, 0)) by (repeat (first | (with_reducible refine bw5 ?_ _; (first | rfl | (simp; done) | omega | (simp; omega)); done) | with_reducible refine bw6 ?_ _ | with_reducible refine bw7 ?_ | with_reducible refine bw8 ?_))))
  have E1 := Lib.hid ((hb1.block (w.heap.size + 1) (by simp <;> omega)).trans (show _ = some (.cells #[.int .i64 y.k, .int .i64 y.m, .int .i64 y.e, .string y.t, .bool y.b, .int .i64 y.f] 34 (0, 0)) by (repeat (first | (with_reducible refine bw5 ?_ _; (first | rfl | (simp; done) | omega | (simp; omega)); done) | with_reducible refine bw6 ?_ _ | with_reducible refine bw7 ?_ | with_reducible refine bw8 ?_))))
  have HB1 : Hid (Below w.heap.size w w1) := by
    refine Below.trans ?_ (hb1.mono (by simp <;> omega))
    (repeat with_reducible (first | exact bw0 _ _ | exact hBW | refine bw1 ?_ ?_ _ | refine bw2 ?_ ?_ _ | refine bw3 ?_ _ | refine bw4 ?_)); all_goals (first | omega | (dsimp only; omega) | ((repeat with_reducible (first | refine lz1 ?_ | refine lz2 ?_ | refine lz3 ?_ | refine lz4 ?_)); omega))
  have j0 := cell_of_heap E1.out
  have z1 := lt_of_heap E1.out
  have zz1 : w.heap.size + 1 < w1.heap.size + 1 := by omega
  have hsz1 := HB1.out.size
  clear hb1
  by_cases hxf : xf = 0
  · have n1 : (xf != 0) = false := by simp [hxf]
    have HU2 : Hid (U = if yf ≠ 0 then vBad yf else numV (roundR xm xe yn)) := by have := HUU.out; rw [if_neg (by simpa using hxf)] at this; exact this
    clear hxf HUU HX
    go_wp2_with fail
    refine (HY.out _).mono ?_
    rintro r w2 ⟨rfl, hb2⟩
    have e5 := (hb2.block w1.heap.size (by simp)).trans (show _ = some (.cells #[.int .i64 xm, .int .i64 xe] 32 (0, 0)) by (repeat (first | (with_reducible refine bw5 ?_ _; (first | rfl | (simp; done) | omega | (simp; omega)); done) | with_reducible refine bw6 ?_ _ | with_reducible refine bw7 ?_ | with_reducible refine bw8 ?_)))
    have hB2 : Below w1.heap.size w1 w2 := by
      refine Below.trans ?_ (hb2.mono (by simp))
      (repeat with_reducible (first | exact bw0 _ _ | exact hBW | refine bw1 ?_ ?_ _ | refine bw2 ?_ ?_ _ | refine bw3 ?_ _ | refine bw4 ?_)); all_goals (first | omega | (dsimp only; omega) | ((repeat with_reducible (first | refine lz1 ?_ | refine lz2 ?_ | refine lz3 ?_ | refine lz4 ?_)); omega))
    have E22 := Lib.hid ((hB2.block _ (lt_of_heap E2.out)).trans E2.out)
    have HB2 := Lib.hid (HB1.out.trans (hB2.mono HB1.out.size))
    clear hb2 hB2 j0 z1 zz1 E1 E2
    have k5 := cell_of_heap e5
    have z5 := lt_of_heap e5
    clear e5
    by_cases hyf : yf = 0
    · have n2 : (yf != 0) = false := by simp [hyf]
      have HU3 : Hid (U = numV (roundR xm xe yn)) := by have := HU2.out; rw [if_neg (by simpa using hyf)] at this; exact this
      clear hyf HU2
      generalize roundR xm xe yn = N at HRO HU3
      obtain ⟨nm, ne⟩ := N
      have HOF := Lib.hid (Of_any nm ne)
      simp only at HRO
      obtain ⟨u, hu⟩ : ∃ u, u = numV (nm, ne) := ⟨_, rfl⟩
      have HOF2 : Hid (∀ w, Calls Tryz.prog 104 #[.agg #[.int .i64 nm, .int .i64 ne]] w fun r w' => r = .returned (.agg #[.int .i64 u.k, .int .i64 u.m, .int .i64 u.e, .string u.t, .bool u.b, .int .i64 u.f]) ∧ Below w.heap.size w w') := by rw [hu]; exact HOF
      rw [← hu] at HU3
      have HU := HU3
      clear HU3 hu HOF
      go_wp2_with fail
      refine (HRO.out _).mono ?_
      rintro r w3 ⟨rfl, hb3⟩
      have E23 := Lib.hid ((hb3.block _ (lt_of_heap E22.out)).trans E22.out)
      have HB3 := Lib.hid (HB2.out.trans (hb3.mono HB2.out.size))
      clear hb3 k5 z5
      go_wp2_with fail
      refine (HOF2.out _).mono ?_
      rintro r w4 ⟨rfl, hb4⟩
      have EQ2 := Lib.hid ((hb4.block _ (lt_of_heap E23.out)).trans E23.out)
      have HBQ := Lib.hid (HB3.out.trans (hb4.mono HB3.out.size))
      clear hb4
      have x2 := cell_of_heap EQ2.out
      have y2 := frozen_of_heap EQ2.out
      have z2 := lt_of_heap EQ2.out
      go_wp2_with fail
      have hBW := HBQ.out
      refine bodyPost_ret (v := .agg #[.int .i64 u.k, .int .i64 u.m, .int .i64 u.e, .string u.t, .bool u.b, .int .i64 u.f]) (by simp [results, Tryz.results157, go_sem, x2]) rfl ⟨by rw [HU.out]; rfl, ?_⟩
      (repeat with_reducible (first | exact bw0 _ _ | exact hBW | refine bw1 ?_ ?_ _ | refine bw2 ?_ ?_ _ | refine bw3 ?_ _ | refine bw4 ?_)); all_goals (first | omega | (dsimp only; omega) | ((repeat with_reducible (first | refine lz1 ?_ | refine lz2 ?_ | refine lz3 ?_ | refine lz4 ?_)); omega))
    · have n2 : (yf != 0) = true := by simpa using hyf
      have HU3 : Hid (U = vBad yf) := by have := HU2.out; rw [if_pos hyf] at this; exact this
      clear hyf HU2
      obtain ⟨u, hu⟩ : ∃ u, u = vBad yf := ⟨_, rfl⟩
      have HC := Lib.hid (fun w => bad_any yf w)
      rw [← hu] at HC HU3
      have HU := HU3
      rw [vagg_eq u] at HC
      clear HU3 hu
      go_wp2_with fail
      refine (HC.out _).mono ?_
      rintro r w8 ⟨rfl, hb8⟩
      have EQ2 := Lib.hid ((hb8.block _ (lt_of_heap E22.out)).trans E22.out)
      have HBQ := Lib.hid (HB2.out.trans (hb8.mono HB2.out.size))
      clear hb8 k5 z5
      have x2 := cell_of_heap EQ2.out
      have y2 := frozen_of_heap EQ2.out
      have z2 := lt_of_heap EQ2.out
      go_wp2_with fail
      have hBW := HBQ.out
      refine bodyPost_ret (v := .agg #[.int .i64 u.k, .int .i64 u.m, .int .i64 u.e, .string u.t, .bool u.b, .int .i64 u.f]) (by simp [results, Tryz.results157, go_sem, x2]) rfl ⟨by rw [HU.out]; rfl, ?_⟩
      (repeat with_reducible (first | exact bw0 _ _ | exact hBW | refine bw1 ?_ ?_ _ | refine bw2 ?_ ?_ _ | refine bw3 ?_ _ | refine bw4 ?_)); all_goals (first | omega | (dsimp only; omega) | ((repeat with_reducible (first | refine lz1 ?_ | refine lz2 ?_ | refine lz3 ?_ | refine lz4 ?_)); omega))
  · have n1 : (xf != 0) = true := by simpa using hxf
    have HU3 : Hid (U = vBad xf) := by have := HUU.out; rw [if_pos hxf] at this; exact this
    clear hxf HUU HX
    obtain ⟨u, hu⟩ : ∃ u, u = vBad xf := ⟨_, rfl⟩
    have HC := Lib.hid (fun w => bad_any xf w)
    rw [← hu] at HC HU3
    have HU := HU3
    rw [vagg_eq u] at HC
    clear HU3 hu
    go_wp2_with fail
    refine (HC.out _).mono ?_
    rintro r w8 ⟨rfl, hb8⟩
    have hB8 : Below w1.heap.size w1 w8 := by
      refine Below.trans ?_ (hb8.mono (by simp))
      (repeat with_reducible (first | exact bw0 _ _ | exact hBW | refine bw1 ?_ ?_ _ | refine bw2 ?_ ?_ _ | refine bw3 ?_ _ | refine bw4 ?_)); all_goals (first | omega | (dsimp only; omega) | ((repeat with_reducible (first | refine lz1 ?_ | refine lz2 ?_ | refine lz3 ?_ | refine lz4 ?_)); omega))
    have EQ2 := Lib.hid ((hB8.block _ (lt_of_heap E2.out)).trans E2.out)
    have HBQ := Lib.hid (HB1.out.trans (hB8.mono HB1.out.size))
    clear hb8 hB8 j0 z1 zz1
    have x2 := cell_of_heap EQ2.out
    have y2 := frozen_of_heap EQ2.out
    have z2 := lt_of_heap EQ2.out
    go_wp2_with fail
    have hBW := HBQ.out
    refine bodyPost_ret (v := .agg #[.int .i64 u.k, .int .i64 u.m, .int .i64 u.e, .string u.t, .bool u.b, .int .i64 u.f]) (by simp [results, Tryz.results157, go_sem, x2]) rfl ⟨by rw [HU.out]; rfl, ?_⟩
    (repeat with_reducible (first | exact bw0 _ _ | exact hBW | refine bw1 ?_ ?_ _ | refine bw2 ?_ ?_ _ | refine bw3 ?_ _ | refine bw4 ?_)); all_goals (first | omega | (dsimp only; omega) | ((repeat with_reducible (first | refine lz1 ?_ | refine lz2 ?_ | refine lz3 ?_ | refine lz4 ?_)); omega))
end
theorem rounded_any (x y : V) (hx : refR x = true) (hy : refR y = true) (w : World) : Calls Tryz.prog 157 #[vagg x, vagg y] w (VPost w (roundedV x y)) := by
  have hr := toNum_right hx
  have HX := Lib.hid (ToNum_any x hx)
  unfold roundedV
  generalize toNum x = X at HX hr ⊢
  obtain ⟨⟨xm, xe⟩, xf⟩ := X
  exact rounded_x x y w xm xe xf (wholeR y) HX (Lib.hid (wholeNumber_any y hy)) hr _ rfl
end Go.Proofs.YtndhmahkglfopaaGreatDoor
/- ROUND and TRANSPOSE in their families. -/
namespace Go.Proofs.YtndhmahkglfopaaGreatDoor
open Go.RowKit
section
variable (w : World)
set_option maxHeartbeats 2000000
set_option maxRecDepth 100000
theorem ofBoth1_any {F : V → V → V} {g : Nat} (hE : Ent g) (A B : Arr) (hA : ArrR A) (hB : ArrR B) (h1 : max A.r B.r ≤ 4096) (h2 : max A.c B.c ≤ 4096 / max A.r B.r) (a : Option Addr) (cap fb : Nat) (hs : ArgsAt 0 w a [A, B]) (hf : w.heap[fb]? = some (.cells #[.func (.func g) #[] #[]] 45))
    (hF : ∀ x ∈ A.l, ∀ y ∈ B.l, F2Ok w g #[] x y (F x y)) (hR : ∀ x ∈ A.l, ∀ y ∈ B.l, RightOk (F x y)) : Calls Tryz.prog 247 #[.slice a 2 cap, .pointer (some ⟨fb, 0, none⟩)] w (ArrPost w (bothV F A B)) := by
  obtain ⟨b, off, rfl, _, hb, hall⟩ := hs (by simp)
  obtain ⟨a', cap', c0, c1, c2, hsl⟩ := hall 0 A rfl
  obtain ⟨b', capb, d0, d1, d2, hsl2⟩ := hall 1 B rfl
  simp only [Nat.zero_mul, Nat.add_zero, Nat.one_mul] at c0 c1 c2 d0 d1 d2
  have f0 : w.cell? ⟨fb, 0, none⟩ = some (.func (.func g) #[] #[]) := cell_of_heap hf 0
  have hfl := lt_of_heap hf
  have HSA := Lib.hid hsl
  have HSB := Lib.hid hsl2
  have HF := Lib.hid hF
  have HK := Lib.hid (fun w hsa hsb hF => Both_any A B a' b' cap' capb w F hA hB h1 h2 hsa hsb (g := g) (cp := #[]) hE hF hR)
  unfold arrA at HK
  clear hA hB h1 h2 hs hF hE hsl hsl2 hall hf hR
  go_enter Tryz.func247, Tryz.ntmps247
  go_wp2_with fail
  refine abs_world ?_
  intro W1 hW1
  have hB1 : Below w.heap.size w W1 := by rw [hW1]; (repeat with_reducible (first | exact bw0 _ _ | exact hBW | refine bw1 ?_ ?_ _ | refine bw2 ?_ ?_ _ | refine bw3 ?_ _ | refine bw4 ?_)); all_goals (first | omega | (dsimp only; omega) | ((repeat with_reducible (first | refine lz1 ?_ | refine lz2 ?_ | refine lz3 ?_ | refine lz4 ?_)); omega))
  have g3 : W1.heap[w.heap.size]? = some (.cells #[.int .i64 0, .int .i64 0, .slice none 0 0] 28) := by rw [hW1]; (repeat (first | (with_reducible refine bw5 ?_ _; (first | rfl | (simp; done) | omega | (simp; omega)); done) | with_reducible refine bw6 ?_ _ | with_reducible refine bw7 ?_ | with_reducible refine bw8 ?_))
  have c0 := (hB1.cell (p := ⟨b, off, none⟩) hb).trans c0
  have c1 := (hB1.cell (p := ⟨b, off + 1, none⟩) hb).trans c1
  have c2 := (hB1.cell (p := ⟨b, off + 2, none⟩) hb).trans c2
  have d0 := (hB1.cell (p := ⟨b, off + 3, none⟩) hb).trans d0
  have d1 := (hB1.cell (p := ⟨b, off + 3 + 1, none⟩) hb).trans d1
  have d2 := (hB1.cell (p := ⟨b, off + 3 + 2, none⟩) hb).trans d2
  have f0 := (hB1.cell (p := ⟨fb, 0, none⟩) hfl).trans f0
  have hb := Nat.lt_of_lt_of_le hb hB1.size
  have hfl := Nat.lt_of_lt_of_le hfl hB1.size
  have HB1 := Lib.hid hB1
  have G3 := Lib.hid g3
  clear hW1 hB1 g3
  refine wp_region_mix [0, 1, 2, 3, 4, 5, 6] [7, 8] [7, 8] (Below W1.heap.size W1) (by kernel_rfl) (by kernel_rfl) (Below.refl _ _).drew ?_
  iterate 7 (first | (apply first_step; (rw [List.getElem?_toArray]; (repeat rw [List.getElem?_cons_succ]); rw [List.getElem?_cons_zero]); rfl; (intro W hB; have hc := bcellB hB; go_simp; (first | done | rfl)); go_frame) | (apply first_skip; (rw [List.getElem?_toArray]; (repeat rw [List.getElem?_cons_succ]); rw [List.getElem?_cons_zero]); rfl; go_frame))
  refine first_done ?_
  apply tail_step; (rw [List.getElem?_toArray]; (repeat rw [List.getElem?_cons_succ]); rw [List.getElem?_cons_zero]); rfl; rfl; intro K hK; go_simp
  refine (HK.out _ (HSA.out.below HB1.out.drew) (HSB.out.below HB1.out.drew) (fun x hx y hy => (HF.out x hx y hy).below HB1.out.drew)).mono ?_
  rintro e' w2 ⟨x, rfl, ⟨a2, cap2, rfl, hsl⟩, hb2⟩
  refine hK _ _ (fun h => absurd (by decide) h) ?_
  clear hK K
  have hb2' : Below W1.heap.size W1 w2 := (Below.refl _ W1).drew.trans hb2
  have e0 := (hb2'.block _ (lt_of_heap G3.out)).trans G3.out
  have x0 := cell_of_heap e0
  have z0 := frozen_of_heap e0
  have hn0 := lt_of_heap e0
  have HSL := Lib.hid (hsl.mono (B' := w.heap.size + 1) (by have := lt_of_heap G3.out; exact this))
  have HB2 := Lib.hid (HB1.out.trans (hb2'.mono HB1.out.size))
  clear hsl hb2 hb2' e0 c0 c1 c2 d0 d1 d2 f0
  generalize hG : bothV F A B = G at HSL ⊢
  have HG := Lib.hid hG
  clear hG
  apply tail_step; (rw [List.getElem?_toArray]; (repeat rw [List.getElem?_cons_succ]); rw [List.getElem?_cons_zero]); rfl; rfl; intro K hK; go_simp; refine hK _ _ (fun h => absurd (by decide) h) ?_; clear hK K
  refine tail_done ?_
  go_wp2_with fail
  refine bodyPost_ret (v := .agg #[.int .i64 G.r, .int .i64 G.c, .slice a2 G.l.length cap2]) (by simp [results, Tryz.results247, go_sem, x0]) rfl ?_
  try rw [HG.out]
  exact arr_hand (A := G) (n := 0) (Nat.le_refl _) HSL.out HB2.out _ _ _
theorem turn5_any (A : Arr) (hA : ArrR A) (a : Option Addr) (cap : Nat) (hs : ArgsAt 0 w a [A]) : Calls Tryz.prog 214 #[.slice a 1 cap] w (ArrPost w (turnV A)) := by
  obtain ⟨b, off, rfl, _, hb, hall⟩ := hs (by simp)
  obtain ⟨a', cap', c0, c1, c2, hsl⟩ := hall 0 A rfl
  simp only [Nat.zero_mul, Nat.add_zero] at c0 c1 c2
  have HSA := Lib.hid hsl
  have HK := Lib.hid (fun w hs => Turn_any A a' cap' w hA hs)
  unfold arrA at HK
  have hb1 : b ≠ w.heap.size := by omega
  have hb2 : b < w.heap.size + 1 := by omega
  clear hA hs hsl hall
  go_enter Tryz.func214, Tryz.ntmps214
  go_wp2_with fail
  have hBa : Below w.heap.size w (w.alloc (.cells #[.int .i64 0, .int .i64 0, .slice none 0 0] 28)) := by (repeat with_reducible (first | exact bw0 _ _ | exact hBW | refine bw1 ?_ ?_ _ | refine bw2 ?_ ?_ _ | refine bw3 ?_ _ | refine bw4 ?_)); all_goals (first | omega | (dsimp only; omega) | ((repeat with_reducible (first | refine lz1 ?_ | refine lz2 ?_ | refine lz3 ?_ | refine lz4 ?_)); omega))
  refine (HK.out _ (HSA.out.below hBa)).mono ?_
  rintro e' w2 ⟨x, rfl, ⟨a2, cap2, rfl, hsl⟩, hb2⟩
  have e0 := (hb2.block w.heap.size (by simp)).trans (show _ = some (.cells #[.int .i64 0, .int .i64 0, .slice none 0 0] 28 (0, 0)) by (repeat (first | (with_reducible refine bw5 ?_ _; (first | rfl | (simp; done) | omega | (simp; omega)); done) | with_reducible refine bw6 ?_ _ | with_reducible refine bw7 ?_ | with_reducible refine bw8 ?_)))
  have x0 := cell_of_heap e0
  have z0 := frozen_of_heap e0
  have hn0 := lt_of_heap e0
  have HSL := Lib.hid (hsl.mono (B' := w.heap.size + 1) (by simp))
  have HB2 : Hid (Below w.heap.size w w2) := hBa.trans (hb2.mono (by simp))
  clear hsl hb2 hBa e0 c0 c1 c2
  generalize hG : turnV A = G at HSL ⊢
  have HG := Lib.hid hG
  clear hG
  go_wp2_with fail
  refine bodyPost_ret (v := .agg #[.int .i64 G.r, .int .i64 G.c, .slice a2 G.l.length cap2]) (by simp [results, Tryz.results214, go_sem, x0]) rfl ?_
  try rw [HG.out]
  exact arr_hand (A := G) (n := 0) (Nat.le_refl _) HSL.out HB2.out _ _ _
end
theorem ent247 : Ent 247 := enters_of Tryz.func247 (by kernel_rfl) rfl
theorem ent214 : Ent 214 := enters_of Tryz.func214 (by kernel_rfl) rfl
theorem ent157 : Ent 157 := enters_of Tryz.func157 (by kernel_rfl) rfl
def sROUND : ByteArray := ⟨#[82, 79, 85, 78, 68]⟩
def sTRANSPOSE : ByteArray := ⟨#[84, 82, 65, 78, 83, 80, 79, 83, 69]⟩
theorem hit_round (A B : Arr) (hA : ArrR A) (hB : ArrR B) (h1 : max A.r B.r ≤ 4096) (h2 : max A.c B.c ≤ 4096 / max A.r B.r) (a : Option Addr) (cap : Nat) : HitOk Tab (fun _ => True) Tab112 sROUND 2 2 [A, B] a cap (bothV roundedV A B) := fun w w' e h ha ht => by
  obtain ⟨BB, l, he, hm, _, hb, _, _, _, ⟨fb, h3, h4⟩⟩ := h
  refine ⟨BB, l, 247, _, he, hm, hb, .inr ⟨fb, rfl⟩, h3, ent247, fun W hW => ?_⟩
  exact Calls.mono (R := ArrPost W _) (ofBoth1_any W ent157 A B hA hB h1 h2 a cap fb (ha.below hW) ((hW.block fb (lt_of_heap h4)).trans h4) (fun x hx y hy W' _ => rounded_any x y (hA.h7 x hx) (hB.h7 y hy) W') (fun x hx y hy => refR_right (rounded_right (hA.h7 x hx) y))) fun _ _ h => h.any
theorem hit_turn (A : Arr) (hA : ArrR A) (a : Option Addr) (cap : Nat) : HitOk Tab (fun _ => True) Tab126 sTRANSPOSE 1 1 [A] a cap (turnV A) := fun w w' e h ha _ => by
  obtain ⟨BB, l, he, hm, _, hb, _, _, _, h3⟩ := h
  exact ⟨BB, l, 214, _, he, hm, hb, .inl rfl, h3, ent214, fun W hW => (turn5_any W A hA a cap (ha.below hW)).mono fun _ _ h => h.any⟩
end Go.Proofs.YtndhmahkglfopaaGreatDoor
