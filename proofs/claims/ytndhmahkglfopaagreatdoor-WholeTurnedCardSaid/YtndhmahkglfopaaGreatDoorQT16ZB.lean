/- oper: reckoned, quotient. -/
import Derived.Test.YtndhmahkglfopaaGreatDoorQT13Right
import Derived.Test.YtndhmahkglfopaaGreatDoorQT16ZA
import Derived.Test.YtndhmahkglfopaaGreatDoorQT16N
namespace Go.Proofs.YtndhmahkglfopaaGreatDoor
open Go.RowKit
/-- g reckons f. -/
def NumFnOk (g : Nat) (f : Int → Int → Int → Int → (Int × Int) × Bool) : Prop := ∀ (m e m' e' : Int) (w : World), numR m e = true → numR m' e' = true → Tab w → Calls Tryz.prog g #[.agg #[.int .i64 m, .int .i64 e], .agg #[.int .i64 m', .int .i64 e']] w (NumPost w (f m e m' e'))
def Ent (g : Nat) : Prop := ∀ (args : Array Value) (W : World), (callFunc g args).run Tryz.prog W = .ok (.enter g args) W
section
variable (x y : V) (w : World)
set_option maxHeartbeats 2000000
set_option maxRecDepth 100000
/- through numbers; $1: the function; then the blocks of the two numbers lie at w1's end -/
/- behind a call whose world is $1 (hb$2 : Below .. from the world before, HB: Below w .. $1): the result's store, the end; $3: the function, u: the value -/
/- a call of Bad with fault $2 at world W0 (HBW0: Below w W0, EW0: the result's block), $1: the function -/
/- the reckoning at the two numbers, then told -/
theorem reckoned_x {g : Nat} {f : Int → Int → Int → Int → (Int × Int) × Bool} (hE : Ent g) (hF : NumFnOk g f) (am ae bm be pf : Int) (HN : Hid (∀ w, Calls Tryz.prog 64 #[vagg x, vagg y] w (PPost w (((am, ae), (bm, be)), pf)))) (hr1 : numR am ae = true) (hr2 : numR bm be = true) (htab : Tab w) (U : V)
    (hU : U = if pf ≠ 0 then vBad pf else toldV (f am ae bm be)) : Calls Tryz.prog 53 #[vagg x, vagg y, .func (.func g) #[] #[]] w (VPost w U) := by
  have HUU := Lib.hid hU
  have HT := Lib.hid htab
  have HF := Lib.hid (fun w htab => hF am ae bm be w hr1 hr2 htab)
  have HE := Lib.hid hE
  clear hU htab hF hE hr1 hr2
  by_cases hp : pf = 0
  · have n1 : (pf != 0) = false := by simp [hp]
    have HU2 : Hid (U = toldV (f am ae bm be)) := by have := HUU.out; rw [if_neg (by simpa using hp)] at this; exact this
    clear hp HUU
    generalize f am ae bm be = R at HF HU2
    have HTD := Lib.hid (fun w => told_any w R)
    obtain ⟨⟨rm, rx⟩, rk⟩ := R
    unfold NumPost NumV at HF
    simp only at HF HTD
    unfold VPost at HTD
    obtain ⟨u, hu⟩ : ∃ u, u = toldV ((rm, rx), rk) := ⟨_, rfl⟩
    rw [← hu] at HTD HU2
    have HU := HU2
    have ent := HE.out
    unfold Ent at ent
    clear hu HU2
    unfold PPost PairF at HN
    unfold vagg at HN ⊢
    simp only at HN
    go_enter Tryz.func53, Tryz.ntmps53
    go_wp2_with fail
    refine (HN.out _).mono ?_
    rintro r w1 ⟨rfl, hb1⟩
    have E2 := Lib.hid ((hb1.block (w.heap.size + 1 + 1) (by simp)).trans (show _ = some (.cells #[.int .i64 0, .int .i64 0, .int .i64 0, .string ⟨#[]⟩, .bool false, .int .i64 0] 34 (0, 0)) by (repeat (first | (with_reducible refine bw5 ?_ _; (first | rfl | (simp; done) | omega | (simp; omega)); done) | with_reducible refine bw6 ?_ _ | with_reducible refine bw7 ?_ | with_reducible refine bw8 ?_))))
    have HB1 : Hid (Below w.heap.size w w1) := by
      refine Below.trans ?_ (hb1.mono (by simp <;> omega))
      (repeat with_reducible (first | exact bw0 _ _ | exact hBW | refine bw1 ?_ ?_ _ | refine bw2 ?_ ?_ _ | refine bw3 ?_ _ | refine bw4 ?_)); all_goals (first | omega | (dsimp only; omega) | ((repeat with_reducible (first | refine lz1 ?_ | refine lz2 ?_ | refine lz3 ?_ | refine lz4 ?_)); omega))
    clear hb1 HN
    go_wp2_with fail
    clear ent
    refine (HF.out _ ((HT.out.below HB1.out).below (by (repeat with_reducible (first | exact bw0 _ _ | exact hBW | refine bw1 ?_ ?_ _ | refine bw2 ?_ ?_ _ | refine bw3 ?_ _ | refine bw4 ?_)); all_goals (first | omega | (dsimp only; omega) | ((repeat with_reducible (first | refine lz1 ?_ | refine lz2 ?_ | refine lz3 ?_ | refine lz4 ?_)); omega))))).mono ?_
    rintro r w2 ⟨rfl, hb2⟩
    have hB2 : Below w1.heap.size w1 w2 := by
      refine Below.trans ?_ (hb2.mono (by simp <;> omega))
      (repeat with_reducible (first | exact bw0 _ _ | exact hBW | refine bw1 ?_ ?_ _ | refine bw2 ?_ ?_ _ | refine bw3 ?_ _ | refine bw4 ?_)); all_goals (first | omega | (dsimp only; omega) | ((repeat with_reducible (first | refine lz1 ?_ | refine lz2 ?_ | refine lz3 ?_ | refine lz4 ?_)); omega))
    have HB2 := Lib.hid hB2
    clear hb2 hB2
    go_wp2_with fail
    refine (HTD.out _).mono ?_
    rintro r w3 ⟨rfl, hb3⟩
    have hBq : Below w1.heap.size w1 w3 := HB2.out.trans (hb3.mono HB2.out.size)
    have EQ2 := Lib.hid ((hBq.block _ (lt_of_heap E2.out)).trans E2.out)
    have HBQ := Lib.hid (HB1.out.trans (hBq.mono HB1.out.size))
    clear hb3 hBq
    rw [vagg_eq u]
    have x2 := cell_of_heap EQ2.out
    have y2 := frozen_of_heap EQ2.out
    have z2 := lt_of_heap EQ2.out
    go_wp2_with fail
    have hBW := HBQ.out
    refine bodyPost_ret (v := .agg #[.int .i64 u.k, .int .i64 u.m, .int .i64 u.e, .string u.t, .bool u.b, .int .i64 u.f]) (by simp [results, Tryz.results53, go_sem, x2]) rfl ⟨by first | rfl | (rw [HU.out]; rfl), ?_⟩
    (repeat with_reducible (first | exact bw0 _ _ | exact hBW | refine bw1 ?_ ?_ _ | refine bw2 ?_ ?_ _ | refine bw3 ?_ _ | refine bw4 ?_)); all_goals (first | omega | (dsimp only; omega) | ((repeat with_reducible (first | refine lz1 ?_ | refine lz2 ?_ | refine lz3 ?_ | refine lz4 ?_)); omega))
  · have n1 : (pf != 0) = true := by simpa using hp
    have HU2 : Hid (U = vBad pf) := by have := HUU.out; rw [if_pos hp] at this; exact this
    have HBAD := Lib.hid (bad_any pf)
    obtain ⟨u, hu⟩ : ∃ u, u = vBad pf := ⟨_, rfl⟩
    rw [← hu] at HBAD HU2
    have HU := HU2
    clear hp HUU hu HU2
    rw [vagg_eq u] at HBAD
    unfold PPost PairF at HN
    unfold vagg at HN ⊢
    simp only at HN
    go_enter Tryz.func53, Tryz.ntmps53
    go_wp2_with fail
    refine (HN.out _).mono ?_
    rintro r w1 ⟨rfl, hb1⟩
    have E2 := Lib.hid ((hb1.block (w.heap.size + 1 + 1) (by simp)).trans (show _ = some (.cells #[.int .i64 0, .int .i64 0, .int .i64 0, .string ⟨#[]⟩, .bool false, .int .i64 0] 34 (0, 0)) by (repeat (first | (with_reducible refine bw5 ?_ _; (first | rfl | (simp; done) | omega | (simp; omega)); done) | with_reducible refine bw6 ?_ _ | with_reducible refine bw7 ?_ | with_reducible refine bw8 ?_))))
    have HB1 : Hid (Below w.heap.size w w1) := by
      refine Below.trans ?_ (hb1.mono (by simp <;> omega))
      (repeat with_reducible (first | exact bw0 _ _ | exact hBW | refine bw1 ?_ ?_ _ | refine bw2 ?_ ?_ _ | refine bw3 ?_ _ | refine bw4 ?_)); all_goals (first | omega | (dsimp only; omega) | ((repeat with_reducible (first | refine lz1 ?_ | refine lz2 ?_ | refine lz3 ?_ | refine lz4 ?_)); omega))
    clear hb1 HN
    go_wp2_with fail
    refine (HBAD.out _).mono ?_
    rintro r w2 ⟨rfl, hb2⟩
    have hBq : Below w1.heap.size w1 w2 := by
      refine Below.trans ?_ (hb2.mono (by simp <;> omega))
      (repeat with_reducible (first | exact bw0 _ _ | exact hBW | refine bw1 ?_ ?_ _ | refine bw2 ?_ ?_ _ | refine bw3 ?_ _ | refine bw4 ?_)); all_goals (first | omega | (dsimp only; omega) | ((repeat with_reducible (first | refine lz1 ?_ | refine lz2 ?_ | refine lz3 ?_ | refine lz4 ?_)); omega))
    have EQ2 := Lib.hid ((hBq.block _ (lt_of_heap E2.out)).trans E2.out)
    have HBQ := Lib.hid (HB1.out.trans (hBq.mono HB1.out.size))
    clear hb2 hBq
    have x2 := cell_of_heap EQ2.out
    have y2 := frozen_of_heap EQ2.out
    have z2 := lt_of_heap EQ2.out
    go_wp2_with fail
    have hBW := HBQ.out
    refine bodyPost_ret (v := .agg #[.int .i64 u.k, .int .i64 u.m, .int .i64 u.e, .string u.t, .bool u.b, .int .i64 u.f]) (by simp [results, Tryz.results53, go_sem, x2]) rfl ⟨by first | rfl | (rw [HU.out]; rfl), ?_⟩
    (repeat with_reducible (first | exact bw0 _ _ | exact hBW | refine bw1 ?_ ?_ _ | refine bw2 ?_ ?_ _ | refine bw3 ?_ _ | refine bw4 ?_)); all_goals (first | omega | (dsimp only; omega) | ((repeat with_reducible (first | refine lz1 ?_ | refine lz2 ?_ | refine lz3 ?_ | refine lz4 ?_)); omega))
theorem quotient_x (am ae bm be pf : Int) (HN : Hid (∀ w, Calls Tryz.prog 64 #[vagg x, vagg y] w (PPost w (((am, ae), (bm, be)), pf)))) (hr1 : numR am ae = true) (hr2 : numR bm be = true) (htab : Tab w) (U : V)
    (hU : U = if pf ≠ 0 then vBad pf else if bm = 0 then vBad 1 else toldV (divR am ae bm be)) : Calls Tryz.prog 29 #[vagg x, vagg y] w (VPost w U) := by
  have HUU := Lib.hid hU
  have HT := Lib.hid htab
  by_cases hp : pf = 0
  · have n1 : (pf != 0) = false := by simp [hp]
    by_cases hb : bm = 0
    · have n2 : (bm == 0) = true := by simpa using hb
      have HU2 : Hid (U = vBad 1) := by have := HUU.out; rw [if_neg (by simpa using hp), if_pos hb] at this; exact this
      have HBAD := Lib.hid (bad_any 1)
      obtain ⟨u, hu⟩ : ∃ u, u = vBad 1 := ⟨_, rfl⟩
      rw [← hu] at HBAD HU2
      have HU := HU2
      clear hp hb HUU hu HU2 hU hr1 hr2 htab
      rw [vagg_eq u] at HBAD
      unfold PPost PairF at HN
      unfold vagg at HN ⊢
      simp only at HN
      go_enter Tryz.func29, Tryz.ntmps29
      go_wp2_with fail
      refine (HN.out _).mono ?_
      rintro r w1 ⟨rfl, hb1⟩
      have E2 := Lib.hid ((hb1.block (w.heap.size + 1 + 1) (by simp)).trans (show _ = some (.cells #[.int .i64 0, .int .i64 0, .int .i64 0, .string ⟨#[]⟩, .bool false, .int .i64 0] 34 (0, 0)) by (repeat (first | (with_reducible refine bw5 ?_ _; (first | rfl | (simp; done) | omega | (simp; omega)); done) | with_reducible refine bw6 ?_ _ | with_reducible refine bw7 ?_ | with_reducible refine bw8 ?_))))
      have HB1 : Hid (Below w.heap.size w w1) := by
        refine Below.trans ?_ (hb1.mono (by simp <;> omega))
        (repeat with_reducible (first | exact bw0 _ _ | exact hBW | refine bw1 ?_ ?_ _ | refine bw2 ?_ ?_ _ | refine bw3 ?_ _ | refine bw4 ?_)); all_goals (first | omega | (dsimp only; omega) | ((repeat with_reducible (first | refine lz1 ?_ | refine lz2 ?_ | refine lz3 ?_ | refine lz4 ?_)); omega))
      clear hb1 HN
      go_wp2_with fail
      refine (HBAD.out _).mono ?_
      rintro r w2 ⟨rfl, hb2⟩
      have hBq : Below w1.heap.size w1 w2 := by
        refine Below.trans ?_ (hb2.mono (by simp <;> omega))
        (repeat with_reducible (first | exact bw0 _ _ | exact hBW | refine bw1 ?_ ?_ _ | refine bw2 ?_ ?_ _ | refine bw3 ?_ _ | refine bw4 ?_)); all_goals (first | omega | (dsimp only; omega) | ((repeat with_reducible (first | refine lz1 ?_ | refine lz2 ?_ | refine lz3 ?_ | refine lz4 ?_)); omega))
      have EQ2 := Lib.hid ((hBq.block _ (lt_of_heap E2.out)).trans E2.out)
      have HBQ := Lib.hid (HB1.out.trans (hBq.mono HB1.out.size))
      clear hb2 hBq
      have x2 := cell_of_heap EQ2.out
      have y2 := frozen_of_heap EQ2.out
      have z2 := lt_of_heap EQ2.out
      go_wp2_with fail
      have hBW := HBQ.out
      refine bodyPost_ret (v := .agg #[.int .i64 u.k, .int .i64 u.m, .int .i64 u.e, .string u.t, .bool u.b, .int .i64 u.f]) (by simp [results, Tryz.results29, go_sem, x2]) rfl ⟨by first | rfl | (rw [HU.out]; rfl), ?_⟩
      (repeat with_reducible (first | exact bw0 _ _ | exact hBW | refine bw1 ?_ ?_ _ | refine bw2 ?_ ?_ _ | refine bw3 ?_ _ | refine bw4 ?_)); all_goals (first | omega | (dsimp only; omega) | ((repeat with_reducible (first | refine lz1 ?_ | refine lz2 ?_ | refine lz3 ?_ | refine lz4 ?_)); omega))
    · have n2 : (bm == 0) = false := by simpa using hb
      have HU2 : Hid (U = toldV (divR am ae bm be)) := by have := HUU.out; rw [if_neg (by simpa using hp), if_neg hb] at this; exact this
      have HF := Lib.hid (fun w htab => div_yes am ae bm be w hr1 hr2 hb htab)
      clear hp hb HUU hU hr1 hr2 htab
      generalize divR am ae bm be = R at HF HU2
      have HTD := Lib.hid (fun w => told_any w R)
      obtain ⟨⟨rm, rx⟩, rk⟩ := R
      unfold NumPost NumV at HF
      simp only at HF HTD
      unfold VPost at HTD
      obtain ⟨u, hu⟩ : ∃ u, u = toldV ((rm, rx), rk) := ⟨_, rfl⟩
      rw [← hu] at HTD HU2
      have HU := HU2
      clear hu HU2
      unfold PPost PairF at HN
      unfold vagg at HN ⊢
      simp only at HN
      go_enter Tryz.func29, Tryz.ntmps29
      go_wp2_with fail
      refine (HN.out _).mono ?_
      rintro r w1 ⟨rfl, hb1⟩
      have E2 := Lib.hid ((hb1.block (w.heap.size + 1 + 1) (by simp)).trans (show _ = some (.cells #[.int .i64 0, .int .i64 0, .int .i64 0, .string ⟨#[]⟩, .bool false, .int .i64 0] 34 (0, 0)) by (repeat (first | (with_reducible refine bw5 ?_ _; (first | rfl | (simp; done) | omega | (simp; omega)); done) | with_reducible refine bw6 ?_ _ | with_reducible refine bw7 ?_ | with_reducible refine bw8 ?_))))
      have HB1 : Hid (Below w.heap.size w w1) := by
        refine Below.trans ?_ (hb1.mono (by simp <;> omega))
        (repeat with_reducible (first | exact bw0 _ _ | exact hBW | refine bw1 ?_ ?_ _ | refine bw2 ?_ ?_ _ | refine bw3 ?_ _ | refine bw4 ?_)); all_goals (first | omega | (dsimp only; omega) | ((repeat with_reducible (first | refine lz1 ?_ | refine lz2 ?_ | refine lz3 ?_ | refine lz4 ?_)); omega))
      clear hb1 HN
      go_wp2_with fail
      refine (HF.out _ ((HT.out.below HB1.out).below (by (repeat with_reducible (first | exact bw0 _ _ | exact hBW | refine bw1 ?_ ?_ _ | refine bw2 ?_ ?_ _ | refine bw3 ?_ _ | refine bw4 ?_)); all_goals (first | omega | (dsimp only; omega) | ((repeat with_reducible (first | refine lz1 ?_ | refine lz2 ?_ | refine lz3 ?_ | refine lz4 ?_)); omega))))).mono ?_
      rintro r w2 ⟨rfl, hb2⟩
      have hB2 : Below w1.heap.size w1 w2 := by
        refine Below.trans ?_ (hb2.mono (by simp <;> omega))
        (repeat with_reducible (first | exact bw0 _ _ | exact hBW | refine bw1 ?_ ?_ _ | refine bw2 ?_ ?_ _ | refine bw3 ?_ _ | refine bw4 ?_)); all_goals (first | omega | (dsimp only; omega) | ((repeat with_reducible (first | refine lz1 ?_ | refine lz2 ?_ | refine lz3 ?_ | refine lz4 ?_)); omega))
      have HB2 := Lib.hid hB2
      clear hb2 hB2
      go_wp2_with fail
      refine (HTD.out _).mono ?_
      rintro r w3 ⟨rfl, hb3⟩
      have hBq : Below w1.heap.size w1 w3 := HB2.out.trans (hb3.mono HB2.out.size)
      have EQ2 := Lib.hid ((hBq.block _ (lt_of_heap E2.out)).trans E2.out)
      have HBQ := Lib.hid (HB1.out.trans (hBq.mono HB1.out.size))
      clear hb3 hBq
      rw [vagg_eq u]
      have x2 := cell_of_heap EQ2.out
      have y2 := frozen_of_heap EQ2.out
      have z2 := lt_of_heap EQ2.out
      go_wp2_with fail
      have hBW := HBQ.out
      refine bodyPost_ret (v := .agg #[.int .i64 u.k, .int .i64 u.m, .int .i64 u.e, .string u.t, .bool u.b, .int .i64 u.f]) (by simp [results, Tryz.results29, go_sem, x2]) rfl ⟨by first | rfl | (rw [HU.out]; rfl), ?_⟩
      (repeat with_reducible (first | exact bw0 _ _ | exact hBW | refine bw1 ?_ ?_ _ | refine bw2 ?_ ?_ _ | refine bw3 ?_ _ | refine bw4 ?_)); all_goals (first | omega | (dsimp only; omega) | ((repeat with_reducible (first | refine lz1 ?_ | refine lz2 ?_ | refine lz3 ?_ | refine lz4 ?_)); omega))
  · have n1 : (pf != 0) = true := by simpa using hp
    have HU2 : Hid (U = vBad pf) := by have := HUU.out; rw [if_pos hp] at this; exact this
    have HBAD := Lib.hid (bad_any pf)
    obtain ⟨u, hu⟩ : ∃ u, u = vBad pf := ⟨_, rfl⟩
    rw [← hu] at HBAD HU2
    have HU := HU2
    clear hp HUU hu HU2 hU hr1 hr2 htab
    rw [vagg_eq u] at HBAD
    unfold PPost PairF at HN
    unfold vagg at HN ⊢
    simp only at HN
    go_enter Tryz.func29, Tryz.ntmps29
    go_wp2_with fail
    refine (HN.out _).mono ?_
    rintro r w1 ⟨rfl, hb1⟩
    have E2 := Lib.hid ((hb1.block (w.heap.size + 1 + 1) (by simp)).trans (show _ = some (.cells #[.int .i64 0, .int .i64 0, .int .i64 0, .string ⟨#[]⟩, .bool false, .int .i64 0] 34 (0, 0)) by (repeat (first | (with_reducible refine bw5 ?_ _; (first | rfl | (simp; done) | omega | (simp; omega)); done) | with_reducible refine bw6 ?_ _ | with_reducible refine bw7 ?_ | with_reducible refine bw8 ?_))))
    have HB1 : Hid (Below w.heap.size w w1) := by
      refine Below.trans ?_ (hb1.mono (by simp <;> omega))
      (repeat with_reducible (first | exact bw0 _ _ | exact hBW | refine bw1 ?_ ?_ _ | refine bw2 ?_ ?_ _ | refine bw3 ?_ _ | refine bw4 ?_)); all_goals (first | omega | (dsimp only; omega) | ((repeat with_reducible (first | refine lz1 ?_ | refine lz2 ?_ | refine lz3 ?_ | refine lz4 ?_)); omega))
    clear hb1 HN
    go_wp2_with fail
    refine (HBAD.out _).mono ?_
    rintro r w2 ⟨rfl, hb2⟩
    have hBq : Below w1.heap.size w1 w2 := by
      refine Below.trans ?_ (hb2.mono (by simp <;> omega))
      (repeat with_reducible (first | exact bw0 _ _ | exact hBW | refine bw1 ?_ ?_ _ | refine bw2 ?_ ?_ _ | refine bw3 ?_ _ | refine bw4 ?_)); all_goals (first | omega | (dsimp only; omega) | ((repeat with_reducible (first | refine lz1 ?_ | refine lz2 ?_ | refine lz3 ?_ | refine lz4 ?_)); omega))
    have EQ2 := Lib.hid ((hBq.block _ (lt_of_heap E2.out)).trans E2.out)
    have HBQ := Lib.hid (HB1.out.trans (hBq.mono HB1.out.size))
    clear hb2 hBq
    have x2 := cell_of_heap EQ2.out
    have y2 := frozen_of_heap EQ2.out
    have z2 := lt_of_heap EQ2.out
    go_wp2_with fail
    have hBW := HBQ.out
    refine bodyPost_ret (v := .agg #[.int .i64 u.k, .int .i64 u.m, .int .i64 u.e, .string u.t, .bool u.b, .int .i64 u.f]) (by simp [results, Tryz.results29, go_sem, x2]) rfl ⟨by first | rfl | (rw [HU.out]; rfl), ?_⟩
    (repeat with_reducible (first | exact bw0 _ _ | exact hBW | refine bw1 ?_ ?_ _ | refine bw2 ?_ ?_ _ | refine bw3 ?_ _ | refine bw4 ?_)); all_goals (first | omega | (dsimp only; omega) | ((repeat with_reducible (first | refine lz1 ?_ | refine lz2 ?_ | refine lz3 ?_ | refine lz4 ?_)); omega))
/-- The function that reckoner makes: g lies in block fb. -/
theorem reckoner1_any {g : Nat} {f : Int → Int → Int → Int → (Int × Int) × Bool} (hE : Ent g) (hF : NumFnOk g f) (hx : refR x = true) (hy : refR y = true) (fb : Nat) (hf : w.heap[fb]? = some (.cells #[.func (.func g) #[] #[]] 63)) (htab : Tab w) :
    Calls Tryz.prog 52 #[vagg x, vagg y, .pointer (some ⟨fb, 0, none⟩)] w (VPost w (reckV f x y)) := by
  have hpr := pair_right hx hy
  have HN := Lib.hid (numbers_any x y hx hy)
  have HC : Hid (∀ w, Tab w → Calls Tryz.prog 53 #[vagg x, vagg y, .func (.func g) #[] #[]] w (VPost w (reckV f x y))) := fun w ht => by
    have H := reckoned_x x y w hE hF (pairR x y).1.1.1 (pairR x y).1.1.2 (pairR x y).1.2.1 (pairR x y).1.2.2 (pairR x y).2 HN hpr.1 hpr.2 ht (reckV f x y) rfl
    exact H
  have HT := Lib.hid htab
  have f0 : w.cell? ⟨fb, 0, none⟩ = some (.func (.func g) #[] #[]) := cell_of_heap hf 0
  have zf := lt_of_heap hf
  have zf1 : fb < w.heap.size + 1 := by omega
  have zf2 : fb < w.heap.size + 1 + 1 := by omega
  have zf3 : fb ≠ w.heap.size := by omega
  have zf4 : fb ≠ w.heap.size + 1 := by omega
  have zf5 : fb ≠ w.heap.size + 1 + 1 := by omega
  obtain ⟨u, hu⟩ : ∃ u, u = reckV f x y := ⟨_, rfl⟩
  rw [← hu] at HC ⊢
  unfold VPost vagg at HC
  unfold vagg
  clear hpr HN hE hF hx hy htab hu hf
  go_enter Tryz.func52, Tryz.ntmps52
  go_wp2_with fail
  have ht2 : Tab (((w.alloc (.cells #[.int .i64 x.k, .int .i64 x.m, .int .i64 x.e, .string x.t, .bool x.b, .int .i64 x.f] 34)).alloc (.cells #[.int .i64 y.k, .int .i64 y.m, .int .i64 y.e, .string y.t, .bool y.b, .int .i64 y.f] 34)).alloc (.cells #[.int .i64 0, .int .i64 0, .int .i64 0, .string ⟨#[]⟩, .bool false, .int .i64 0] 34)) := HT.out.below (by (repeat with_reducible (first | exact bw0 _ _ | exact hBW | refine bw1 ?_ ?_ _ | refine bw2 ?_ ?_ _ | refine bw3 ?_ _ | refine bw4 ?_)); all_goals (first | omega | (dsimp only; omega) | ((repeat with_reducible (first | refine lz1 ?_ | refine lz2 ?_ | refine lz3 ?_ | refine lz4 ?_)); omega)))
  refine (HC.out _ ht2).mono ?_
  rintro r w1 ⟨rfl, hb1⟩
  have e2 := (hb1.block (w.heap.size + 1 + 1) (by simp)).trans (show _ = some (.cells #[.int .i64 0, .int .i64 0, .int .i64 0, .string ⟨#[]⟩, .bool false, .int .i64 0] 34 (0, 0)) by (repeat (first | (with_reducible refine bw5 ?_ _; (first | rfl | (simp; done) | omega | (simp; omega)); done) | with_reducible refine bw6 ?_ _ | with_reducible refine bw7 ?_ | with_reducible refine bw8 ?_)))
  have HB1 : Hid (Below w.heap.size w w1) := by
    refine Below.trans ?_ (hb1.mono (by simp <;> omega))
    (repeat with_reducible (first | exact bw0 _ _ | exact hBW | refine bw1 ?_ ?_ _ | refine bw2 ?_ ?_ _ | refine bw3 ?_ _ | refine bw4 ?_)); all_goals (first | omega | (dsimp only; omega) | ((repeat with_reducible (first | refine lz1 ?_ | refine lz2 ?_ | refine lz3 ?_ | refine lz4 ?_)); omega))
  have x2 := cell_of_heap e2
  have y2 := frozen_of_heap e2
  have z2 := lt_of_heap e2
  clear hb1 e2 f0 zf zf1 zf2 zf3 zf4 zf5
  go_wp2_with fail
  refine bodyPost_ret (v := .agg #[.int .i64 u.k, .int .i64 u.m, .int .i64 u.e, .string u.t, .bool u.b, .int .i64 u.f]) (by simp [results, Tryz.results52, go_sem, x2]) rfl ⟨rfl, ?_⟩
  have hBW := HB1.out
  (repeat with_reducible (first | exact bw0 _ _ | exact hBW | refine bw1 ?_ ?_ _ | refine bw2 ?_ ?_ _ | refine bw3 ?_ _ | refine bw4 ?_)); all_goals (first | omega | (dsimp only; omega) | ((repeat with_reducible (first | refine lz1 ?_ | refine lz2 ?_ | refine lz3 ?_ | refine lz4 ?_)); omega))
end
theorem quotient_any (x y : V) (hx : refR x = true) (hy : refR y = true) (w : World) (htab : Tab w) : Calls Tryz.prog 29 #[vagg x, vagg y] w (VPost w (divV x y)) := by
  have hpr := pair_right hx hy
  exact quotient_x x y w (pairR x y).1.1.1 (pairR x y).1.1.2 (pairR x y).1.2.1 (pairR x y).1.2.2 (pairR x y).2 (Lib.hid (numbers_any x y hx hy)) hpr.1 hpr.2 htab (divV x y) rfl
end Go.Proofs.YtndhmahkglfopaaGreatDoor
