/- oper: power. -/
import Derived.Test.YtndhmahkglfopaaGreatDoorQT16ZB
import Derived.Test.YtndhmahkglfopaaGreatDoorQT16M
import Derived.Test.YtndhmahkglfopaaGreatDoorQT16J
namespace Go.Proofs.YtndhmahkglfopaaGreatDoor
open Go.RowKit
theorem floor_any (m e : Int) (h : numR m e = true) (w : World) : Calls Tryz.prog 67 #[.agg #[.int .i64 m, .int .i64 e]] w fun r w' => r = .returned (.agg #[.int .i64 (floorR m e).1, .int .i64 (floorR m e).2]) ∧ Below w.heap.size w w' := by
  unfold floorR
  by_cases h0 : 0 ≤ e
  · rw [if_pos h0]; exact floor_hi m e w h h0
  · rw [if_neg h0]; exact floor_lo m e w h (by omega)
theorem floor_right {m e : Int} (h : numR m e = true) (hf : floorR m e = (m, e)) : numR (floorR m e).1 (floorR m e).2 = true := by rw [hf]; exact h
theorem Int_any (m e : Int) (h : numR m e = true) (w : World) : Calls Tryz.prog 68 #[.agg #[.int .i64 m, .int .i64 e]] w fun r w' => r = .returned (intV (intR m e)) ∧ Below w.heap.size w w' := by
  unfold intR
  by_cases he : 0 ≤ e
  · rw [if_pos ⟨h, he⟩]
    have hb := numR_small h
    obtain ⟨E, hE⟩ : ∃ E : Nat, e = E := ⟨e.toNat, by omega⟩
    subst hE
    rw [Int.toNat_natCast]
    exact int_go m w E (by omega) h
  · rw [if_neg (fun hh => he hh.2)]
    exact int_no2 m e w (right_yes h) (by omega)
theorem intL_i64 : ∀ (k : Nat) (n q : Int), I64 n → intL k n = some q → I64 q
  | 0, n, q, h, e => by cases e; exact h
  | k + 1, n, q, h, e => by
    unfold intL at e
    split at e
    · cases e
    · exact intL_i64 k (n * 10) q (by unfold I64; omega) e
theorem eq_num (W : World) (a b c d : Int) : (binOp .neq 32 (.agg #[.int .i64 a, .int .i64 b]) (.agg #[.int .i64 c, .int .i64 d])).run Tryz.prog W = .ok (.bool (decide ((a, b) ≠ (c, d)))) W := by
  simp [go_sem]
  by_cases h1 : a = c <;> by_cases h2 : b = d <;> simp [h1, h2]
/- a call of Bad from the world $1 (HBW: Below w1 .. $1, bare), then the end -/
/- from the numbers' blocks to behind the question whether b is whole -/
section
variable (x y : V) (w : World)
set_option maxHeartbeats 2000000
set_option maxRecDepth 100000
theorem power_b5 (am ae bm be fm fe : Int) (HN : Hid (∀ w, Calls Tryz.prog 64 #[vagg x, vagg y] w (PPost w (((am, ae), (bm, be)), 0)))) (HFL : Hid (∀ w, Calls Tryz.prog 67 #[.agg #[.int .i64 bm, .int .i64 be]] w fun r w' => r = .returned (.agg #[.int .i64 fm, .int .i64 fe]) ∧ Below w.heap.size w w'))
    (nq : ∀ W, (binOp .neq 32 (.agg #[.int .i64 fm, .int .i64 fe]) (.agg #[.int .i64 bm, .int .i64 be])).run Tryz.prog W = .ok (.bool true) W) : Calls Tryz.prog 30 #[vagg x, vagg y] w (VPost w (vBad 5)) := by
  have HBAD := Lib.hid (bad_any 5)
  obtain ⟨u, hu⟩ : ∃ u, u = vBad 5 := ⟨_, rfl⟩
  rw [← hu] at HBAD ⊢
  have HU : Hid (u = u) := rfl
  rw [vagg_eq u] at HBAD
  clear hu
  unfold PPost PairF at HN
  unfold vagg at HN ⊢
  simp only at HN
  go_enter Tryz.func30, Tryz.ntmps30
  go_wp2_with fail
  refine (HN.out _).mono ?_
  rintro r w1 ⟨rfl, hb1⟩
  have E2 := Lib.hid ((hb1.block (w.heap.size + 1 + 1) (by simp)).trans (show _ = some (.cells #[.int .i64 0, .int .i64 0, .int .i64 0, .string ⟨#[]⟩, .bool false, .int .i64 0] 34 (0, 0)) by (repeat (first | (with_reducible refine bw5 ?_ _; (first | rfl | (simp; done) | omega | (simp; omega)); done) | with_reducible refine bw6 ?_ _ | with_reducible refine bw7 ?_ | with_reducible refine bw8 ?_))))
  have HB1 : Hid (Below w.heap.size w w1) := by
    refine Below.trans ?_ (hb1.mono (by simp <;> omega))
    (repeat with_reducible (first | exact bw0 _ _ | exact hBW | refine bw1 ?_ ?_ _ | refine bw2 ?_ ?_ _ | refine bw3 ?_ _ | refine bw4 ?_)); all_goals (first | omega | (dsimp only; omega) | ((repeat with_reducible (first | refine lz1 ?_ | refine lz2 ?_ | refine lz3 ?_ | refine lz4 ?_)); omega))
  clear hb1 HN
  go_wp2_with fail
  refine abs_world ?_
  intro W2 hW2
  have hb12 : Below w1.heap.size w1 W2 := by rw [hW2]; (repeat with_reducible (first | exact bw0 _ _ | exact hBW | refine bw1 ?_ ?_ _ | refine bw2 ?_ ?_ _ | refine bw3 ?_ _ | refine bw4 ?_)); all_goals (first | omega | (dsimp only; omega) | ((repeat with_reducible (first | refine lz1 ?_ | refine lz2 ?_ | refine lz3 ?_ | refine lz4 ?_)); omega))
  have ea : W2.heap[w1.heap.size]? = some (.cells #[.int .i64 am, .int .i64 ae] 32 (0, 0)) := by rw [hW2]; (repeat (first | (with_reducible refine bw5 ?_ _; (first | rfl | (simp; done) | omega | (simp; omega)); done) | with_reducible refine bw6 ?_ _ | with_reducible refine bw7 ?_ | with_reducible refine bw8 ?_))
  have eb : W2.heap[w1.heap.size + 1]? = some (.cells #[.int .i64 bm, .int .i64 be] 32 (0, 0)) := by rw [hW2]; (repeat (first | (with_reducible refine bw5 ?_ _; (first | rfl | (simp; done) | omega | (simp; omega)); done) | with_reducible refine bw6 ?_ _ | with_reducible refine bw7 ?_ | with_reducible refine bw8 ?_))
  have EA := Lib.hid ea
  have EB := Lib.hid eb
  have HB12 := Lib.hid hb12
  have b0 := cell_of_heap eb
  have zb := lt_of_heap eb
  clear hW2 hb12 ea eb
  refine wp_region_mix [0, 2] [1, 3, 4] [3, 4] (Below W2.heap.size W2) (by kernel_rfl) (by kernel_rfl) (Below.refl _ _).drew ?_
  iterate 2 (first | (apply first_step; (rw [List.getElem?_toArray]; (repeat rw [List.getElem?_cons_succ]); rw [List.getElem?_cons_zero]); rfl; (intro W hB; have hc := bcellB hB; go_simp; (first | done | rfl)); go_frame) | (apply first_skip; (rw [List.getElem?_toArray]; (repeat rw [List.getElem?_cons_succ]); rw [List.getElem?_cons_zero]); rfl; go_frame))
  refine first_done ?_
  apply tail_step; (rw [List.getElem?_toArray]; (repeat rw [List.getElem?_cons_succ]); rw [List.getElem?_cons_zero]); rfl; rfl; intro K hK; go_simp
  refine (HFL.out _).mono ?_
  rintro r w3 ⟨rfl, hb3⟩
  have hb3' : Below W2.heap.size W2 w3 := (Below.refl _ W2).drew.trans hb3
  refine hK _ _ (fun _ => hb3') ?_
  clear hK K
  have HBV : Hid (Below w1.heap.size w1 w3) := HB12.out.trans (hb3'.mono HB12.out.size)
  have ea := (hb3'.block _ (lt_of_heap EA.out)).trans EA.out
  have eb := (hb3'.block _ (lt_of_heap EB.out)).trans EB.out
  clear hb3 hb3' b0 zb EA EB HB12 HFL
  have EA := Lib.hid ea
  have EB := Lib.hid eb
  clear ea eb
  (apply tail_step; (rw [List.getElem?_toArray]; (repeat rw [List.getElem?_cons_succ]); rw [List.getElem?_cons_zero]); rfl; rfl; intro K hK; go_simp; refine hK _ _ (fun h => absurd (by decide) h) ?_; clear hK K)
  (apply tail_step; (rw [List.getElem?_toArray]; (repeat rw [List.getElem?_cons_succ]); rw [List.getElem?_cons_zero]); rfl; rfl; intro K hK; go_simp; refine hK _ _ (fun h => absurd (by decide) h) ?_; clear hK K)
  refine tail_done ?_
  clear nq
  have a0 := cell_of_heap EA.out
  have za := lt_of_heap EA.out
  have b0 := cell_of_heap EB.out
  have zb := lt_of_heap EB.out
  go_wp2_with fail
  refine (HBAD.out _).mono ?_
  rintro r w8 ⟨rfl, hb8⟩
  have hBq : Below w1.heap.size w1 w8 := HBV.out.trans (hb8.mono HBV.out.size)
  have EQ2 := Lib.hid ((hBq.block _ (lt_of_heap E2.out)).trans E2.out)
  have HBQ := Lib.hid (HB1.out.trans (hBq.mono HB1.out.size))
  clear hb8 hBq
  have x2 := cell_of_heap EQ2.out
  have y2 := frozen_of_heap EQ2.out
  have z2 := lt_of_heap EQ2.out
  go_wp2_with fail
  have hBW := HBQ.out
  refine bodyPost_ret (v := .agg #[.int .i64 u.k, .int .i64 u.m, .int .i64 u.e, .string u.t, .bool u.b, .int .i64 u.f]) (by simp [results, Tryz.results30, go_sem, x2]) rfl ⟨by first | rfl | (rw [HU.out]; rfl), ?_⟩
  (repeat with_reducible (first | exact bw0 _ _ | exact hBW | refine bw1 ?_ ?_ _ | refine bw2 ?_ ?_ _ | refine bw3 ?_ _ | refine bw4 ?_)); all_goals (first | omega | (dsimp only; omega) | ((repeat with_reducible (first | refine lz1 ?_ | refine lz2 ?_ | refine lz3 ?_ | refine lz4 ?_)); omega))
theorem power_b1 (ae bm be fm fe : Int) (HN : Hid (∀ w, Calls Tryz.prog 64 #[vagg x, vagg y] w (PPost w (((0, ae), (bm, be)), 0)))) (HFL : Hid (∀ w, Calls Tryz.prog 67 #[.agg #[.int .i64 bm, .int .i64 be]] w fun r w' => r = .returned (.agg #[.int .i64 fm, .int .i64 fe]) ∧ Below w.heap.size w w'))
    (nq : ∀ W, (binOp .neq 32 (.agg #[.int .i64 fm, .int .i64 fe]) (.agg #[.int .i64 bm, .int .i64 be])).run Tryz.prog W = .ok (.bool false) W) (d1 : decide (bm < 0) = true) : Calls Tryz.prog 30 #[vagg x, vagg y] w (VPost w (vBad 1)) := by
  have HBAD := Lib.hid (bad_any 1)
  obtain ⟨u, hu⟩ : ∃ u, u = vBad 1 := ⟨_, rfl⟩
  obtain ⟨am, ham⟩ : ∃ am : Int, am = 0 := ⟨_, rfl⟩
  rw [← ham] at HN
  have n0 : (am == 0) = true := by simpa using ham
  rw [← hu] at HBAD ⊢
  have HU : Hid (u = u) := rfl
  rw [vagg_eq u] at HBAD
  clear hu ham
  unfold PPost PairF at HN
  unfold vagg at HN ⊢
  simp only at HN
  go_enter Tryz.func30, Tryz.ntmps30
  go_wp2_with fail
  refine (HN.out _).mono ?_
  rintro r w1 ⟨rfl, hb1⟩
  have E2 := Lib.hid ((hb1.block (w.heap.size + 1 + 1) (by simp)).trans (show _ = some (.cells #[.int .i64 0, .int .i64 0, .int .i64 0, .string ⟨#[]⟩, .bool false, .int .i64 0] 34 (0, 0)) by (repeat (first | (with_reducible refine bw5 ?_ _; (first | rfl | (simp; done) | omega | (simp; omega)); done) | with_reducible refine bw6 ?_ _ | with_reducible refine bw7 ?_ | with_reducible refine bw8 ?_))))
  have HB1 : Hid (Below w.heap.size w w1) := by
    refine Below.trans ?_ (hb1.mono (by simp <;> omega))
    (repeat with_reducible (first | exact bw0 _ _ | exact hBW | refine bw1 ?_ ?_ _ | refine bw2 ?_ ?_ _ | refine bw3 ?_ _ | refine bw4 ?_)); all_goals (first | omega | (dsimp only; omega) | ((repeat with_reducible (first | refine lz1 ?_ | refine lz2 ?_ | refine lz3 ?_ | refine lz4 ?_)); omega))
  clear hb1 HN
  go_wp2_with fail
  refine abs_world ?_
  intro W2 hW2
  have hb12 : Below w1.heap.size w1 W2 := by rw [hW2]; (repeat with_reducible (first | exact bw0 _ _ | exact hBW | refine bw1 ?_ ?_ _ | refine bw2 ?_ ?_ _ | refine bw3 ?_ _ | refine bw4 ?_)); all_goals (first | omega | (dsimp only; omega) | ((repeat with_reducible (first | refine lz1 ?_ | refine lz2 ?_ | refine lz3 ?_ | refine lz4 ?_)); omega))
  have ea : W2.heap[w1.heap.size]? = some (.cells #[.int .i64 am, .int .i64 ae] 32 (0, 0)) := by rw [hW2]; (repeat (first | (with_reducible refine bw5 ?_ _; (first | rfl | (simp; done) | omega | (simp; omega)); done) | with_reducible refine bw6 ?_ _ | with_reducible refine bw7 ?_ | with_reducible refine bw8 ?_))
  have eb : W2.heap[w1.heap.size + 1]? = some (.cells #[.int .i64 bm, .int .i64 be] 32 (0, 0)) := by rw [hW2]; (repeat (first | (with_reducible refine bw5 ?_ _; (first | rfl | (simp; done) | omega | (simp; omega)); done) | with_reducible refine bw6 ?_ _ | with_reducible refine bw7 ?_ | with_reducible refine bw8 ?_))
  have EA := Lib.hid ea
  have EB := Lib.hid eb
  have HB12 := Lib.hid hb12
  have b0 := cell_of_heap eb
  have zb := lt_of_heap eb
  clear hW2 hb12 ea eb
  refine wp_region_mix [0, 2] [1, 3, 4] [3, 4] (Below W2.heap.size W2) (by kernel_rfl) (by kernel_rfl) (Below.refl _ _).drew ?_
  iterate 2 (first | (apply first_step; (rw [List.getElem?_toArray]; (repeat rw [List.getElem?_cons_succ]); rw [List.getElem?_cons_zero]); rfl; (intro W hB; have hc := bcellB hB; go_simp; (first | done | rfl)); go_frame) | (apply first_skip; (rw [List.getElem?_toArray]; (repeat rw [List.getElem?_cons_succ]); rw [List.getElem?_cons_zero]); rfl; go_frame))
  refine first_done ?_
  apply tail_step; (rw [List.getElem?_toArray]; (repeat rw [List.getElem?_cons_succ]); rw [List.getElem?_cons_zero]); rfl; rfl; intro K hK; go_simp
  refine (HFL.out _).mono ?_
  rintro r w3 ⟨rfl, hb3⟩
  have hb3' : Below W2.heap.size W2 w3 := (Below.refl _ W2).drew.trans hb3
  refine hK _ _ (fun _ => hb3') ?_
  clear hK K
  have HBV : Hid (Below w1.heap.size w1 w3) := HB12.out.trans (hb3'.mono HB12.out.size)
  have ea := (hb3'.block _ (lt_of_heap EA.out)).trans EA.out
  have eb := (hb3'.block _ (lt_of_heap EB.out)).trans EB.out
  clear hb3 hb3' b0 zb EA EB HB12 HFL
  have EA := Lib.hid ea
  have EB := Lib.hid eb
  clear ea eb
  (apply tail_step; (rw [List.getElem?_toArray]; (repeat rw [List.getElem?_cons_succ]); rw [List.getElem?_cons_zero]); rfl; rfl; intro K hK; go_simp; refine hK _ _ (fun h => absurd (by decide) h) ?_; clear hK K)
  (apply tail_step; (rw [List.getElem?_toArray]; (repeat rw [List.getElem?_cons_succ]); rw [List.getElem?_cons_zero]); rfl; rfl; intro K hK; go_simp; refine hK _ _ (fun h => absurd (by decide) h) ?_; clear hK K)
  refine tail_done ?_
  clear nq
  have a0 := cell_of_heap EA.out
  have za := lt_of_heap EA.out
  have b0 := cell_of_heap EB.out
  have zb := lt_of_heap EB.out
  go_wp2_with fail
  refine (HBAD.out _).mono ?_
  rintro r w8 ⟨rfl, hb8⟩
  have hBq : Below w1.heap.size w1 w8 := HBV.out.trans (hb8.mono HBV.out.size)
  have EQ2 := Lib.hid ((hBq.block _ (lt_of_heap E2.out)).trans E2.out)
  have HBQ := Lib.hid (HB1.out.trans (hBq.mono HB1.out.size))
  clear hb8 hBq
  have x2 := cell_of_heap EQ2.out
  have y2 := frozen_of_heap EQ2.out
  have z2 := lt_of_heap EQ2.out
  go_wp2_with fail
  have hBW := HBQ.out
  refine bodyPost_ret (v := .agg #[.int .i64 u.k, .int .i64 u.m, .int .i64 u.e, .string u.t, .bool u.b, .int .i64 u.f]) (by simp [results, Tryz.results30, go_sem, x2]) rfl ⟨by first | rfl | (rw [HU.out]; rfl), ?_⟩
  (repeat with_reducible (first | exact bw0 _ _ | exact hBW | refine bw1 ?_ ?_ _ | refine bw2 ?_ ?_ _ | refine bw3 ?_ _ | refine bw4 ?_)); all_goals (first | omega | (dsimp only; omega) | ((repeat with_reducible (first | refine lz1 ?_ | refine lz2 ?_ | refine lz3 ?_ | refine lz4 ?_)); omega))
/- Int's call -/
theorem power_3a (am ae bm be fm fe : Int) (o : Option Int) (U : V) (HN : Hid (∀ w, Calls Tryz.prog 64 #[vagg x, vagg y] w (PPost w (((am, ae), (bm, be)), 0)))) (HFL : Hid (∀ w, Calls Tryz.prog 67 #[.agg #[.int .i64 bm, .int .i64 be]] w fun r w' => r = .returned (.agg #[.int .i64 fm, .int .i64 fe]) ∧ Below w.heap.size w w'))
    (HI : Hid (∀ w, Calls Tryz.prog 68 #[.agg #[.int .i64 bm, .int .i64 be]] w fun r w' => r = .returned (intV o) ∧ Below w.heap.size w w')) (HPW : ∀ n, Hid (∀ w, Tab w → Calls Tryz.prog 69 #[.agg #[.int .i64 am, .int .i64 ae], .int .i64 n] w (NumPost w (powR gD am ae n))))
    (nq : ∀ W, (binOp .neq 32 (.agg #[.int .i64 fm, .int .i64 fe]) (.agg #[.int .i64 bm, .int .i64 be])).run Tryz.prog W = .ok (.bool false) W) (n0 : (am == 0) = false) (htab : Tab w)
    (hU : U = match o with | none => vBad 5 | some n => toldV (powR gD am ae n)) : Calls Tryz.prog 30 #[vagg x, vagg y] w (VPost w U) := by
  obtain ⟨u, hu⟩ : ∃ u, u = U := ⟨_, rfl⟩
  have HU : Hid (u = u) := rfl
  cases o with
  | none =>
    have HUB : Hid (U = vBad 5) := hU
    have HBAD := Lib.hid (bad_any 5)
    rw [← HUB.out, ← hu] at HBAD
    rw [← hu]
    rw [vagg_eq u] at HBAD
    unfold intV at HI
    simp only [Option.getD_none, Option.isSome_none] at HI
    clear hU HUB hu HPW htab
    unfold PPost PairF at HN
    unfold vagg at HN ⊢
    simp only at HN
    go_enter Tryz.func30, Tryz.ntmps30
    go_wp2_with fail
    refine (HN.out _).mono ?_
    rintro r w1 ⟨rfl, hb1⟩
    have E2 := Lib.hid ((hb1.block (w.heap.size + 1 + 1) (by simp)).trans (show _ = some (.cells #[.int .i64 0, .int .i64 0, .int .i64 0, .string ⟨#[]⟩, .bool false, .int .i64 0] 34 (0, 0)) by (repeat (first | (with_reducible refine bw5 ?_ _; (first | rfl | (simp; done) | omega | (simp; omega)); done) | with_reducible refine bw6 ?_ _ | with_reducible refine bw7 ?_ | with_reducible refine bw8 ?_))))
    have HB1 : Hid (Below w.heap.size w w1) := by
      refine Below.trans ?_ (hb1.mono (by simp <;> omega))
      (repeat with_reducible (first | exact bw0 _ _ | exact hBW | refine bw1 ?_ ?_ _ | refine bw2 ?_ ?_ _ | refine bw3 ?_ _ | refine bw4 ?_)); all_goals (first | omega | (dsimp only; omega) | ((repeat with_reducible (first | refine lz1 ?_ | refine lz2 ?_ | refine lz3 ?_ | refine lz4 ?_)); omega))
    clear hb1 HN
    go_wp2_with fail
    refine abs_world ?_
    intro W2 hW2
    have hb12 : Below w1.heap.size w1 W2 := by rw [hW2]; (repeat with_reducible (first | exact bw0 _ _ | exact hBW | refine bw1 ?_ ?_ _ | refine bw2 ?_ ?_ _ | refine bw3 ?_ _ | refine bw4 ?_)); all_goals (first | omega | (dsimp only; omega) | ((repeat with_reducible (first | refine lz1 ?_ | refine lz2 ?_ | refine lz3 ?_ | refine lz4 ?_)); omega))
    have ea : W2.heap[w1.heap.size]? = some (.cells #[.int .i64 am, .int .i64 ae] 32 (0, 0)) := by rw [hW2]; (repeat (first | (with_reducible refine bw5 ?_ _; (first | rfl | (simp; done) | omega | (simp; omega)); done) | with_reducible refine bw6 ?_ _ | with_reducible refine bw7 ?_ | with_reducible refine bw8 ?_))
    have eb : W2.heap[w1.heap.size + 1]? = some (.cells #[.int .i64 bm, .int .i64 be] 32 (0, 0)) := by rw [hW2]; (repeat (first | (with_reducible refine bw5 ?_ _; (first | rfl | (simp; done) | omega | (simp; omega)); done) | with_reducible refine bw6 ?_ _ | with_reducible refine bw7 ?_ | with_reducible refine bw8 ?_))
    have EA := Lib.hid ea
    have EB := Lib.hid eb
    have HB12 := Lib.hid hb12
    have b0 := cell_of_heap eb
    have zb := lt_of_heap eb
    clear hW2 hb12 ea eb
    refine wp_region_mix [0, 2] [1, 3, 4] [3, 4] (Below W2.heap.size W2) (by kernel_rfl) (by kernel_rfl) (Below.refl _ _).drew ?_
    iterate 2 (first | (apply first_step; (rw [List.getElem?_toArray]; (repeat rw [List.getElem?_cons_succ]); rw [List.getElem?_cons_zero]); rfl; (intro W hB; have hc := bcellB hB; go_simp; (first | done | rfl)); go_frame) | (apply first_skip; (rw [List.getElem?_toArray]; (repeat rw [List.getElem?_cons_succ]); rw [List.getElem?_cons_zero]); rfl; go_frame))
    refine first_done ?_
    apply tail_step; (rw [List.getElem?_toArray]; (repeat rw [List.getElem?_cons_succ]); rw [List.getElem?_cons_zero]); rfl; rfl; intro K hK; go_simp
    refine (HFL.out _).mono ?_
    rintro r w3 ⟨rfl, hb3⟩
    have hb3' : Below W2.heap.size W2 w3 := (Below.refl _ W2).drew.trans hb3
    refine hK _ _ (fun _ => hb3') ?_
    clear hK K
    have HBV : Hid (Below w1.heap.size w1 w3) := HB12.out.trans (hb3'.mono HB12.out.size)
    have ea := (hb3'.block _ (lt_of_heap EA.out)).trans EA.out
    have eb := (hb3'.block _ (lt_of_heap EB.out)).trans EB.out
    clear hb3 hb3' b0 zb EA EB HB12 HFL
    have EA := Lib.hid ea
    have EB := Lib.hid eb
    clear ea eb
    (apply tail_step; (rw [List.getElem?_toArray]; (repeat rw [List.getElem?_cons_succ]); rw [List.getElem?_cons_zero]); rfl; rfl; intro K hK; go_simp; refine hK _ _ (fun h => absurd (by decide) h) ?_; clear hK K)
    (apply tail_step; (rw [List.getElem?_toArray]; (repeat rw [List.getElem?_cons_succ]); rw [List.getElem?_cons_zero]); rfl; rfl; intro K hK; go_simp; refine hK _ _ (fun h => absurd (by decide) h) ?_; clear hK K)
    refine tail_done ?_
    clear nq
    have a0 := cell_of_heap EA.out
    have za := lt_of_heap EA.out
    have b0 := cell_of_heap EB.out
    have zb := lt_of_heap EB.out
    go_wp2_with fail
    refine (HI.out _).mono ?_
    rintro r w4 ⟨rfl, hb4⟩
    have HBV2 : Hid (Below w1.heap.size w1 w4) := HBV.out.trans (hb4.mono HBV.out.size)
    have ea := (hb4.block _ (lt_of_heap EA.out)).trans EA.out
    clear hb4 a0 za b0 zb HBV HI
    have HBV := HBV2
    have a0 := cell_of_heap ea
    have za := lt_of_heap ea
    clear HBV2 ea
    go_wp2_with fail
    refine (HBAD.out _).mono ?_
    rintro r w8 ⟨rfl, hb8⟩
    have hBq : Below w1.heap.size w1 w8 := HBV.out.trans (hb8.mono HBV.out.size)
    have EQ2 := Lib.hid ((hBq.block _ (lt_of_heap E2.out)).trans E2.out)
    have HBQ := Lib.hid (HB1.out.trans (hBq.mono HB1.out.size))
    clear hb8 hBq
    have x2 := cell_of_heap EQ2.out
    have y2 := frozen_of_heap EQ2.out
    have z2 := lt_of_heap EQ2.out
    go_wp2_with fail
    have hBW := HBQ.out
    refine bodyPost_ret (v := .agg #[.int .i64 u.k, .int .i64 u.m, .int .i64 u.e, .string u.t, .bool u.b, .int .i64 u.f]) (by simp [results, Tryz.results30, go_sem, x2]) rfl ⟨by first | rfl | (rw [HU.out]; rfl), ?_⟩
    (repeat with_reducible (first | exact bw0 _ _ | exact hBW | refine bw1 ?_ ?_ _ | refine bw2 ?_ ?_ _ | refine bw3 ?_ _ | refine bw4 ?_)); all_goals (first | omega | (dsimp only; omega) | ((repeat with_reducible (first | refine lz1 ?_ | refine lz2 ?_ | refine lz3 ?_ | refine lz4 ?_)); omega))
  | some n =>
    have HUB : Hid (U = toldV (powR gD am ae n)) := hU
    have HPW := HPW n
    generalize powR gD am ae n = R at HPW HUB
    have HTD := Lib.hid (fun w => told_any w R)
    obtain ⟨⟨rm, rx⟩, rk⟩ := R
    unfold NumPost NumV at HPW
    simp only at HPW HTD
    unfold VPost at HTD
    rw [← HUB.out, ← hu] at HTD
    rw [← hu]
    unfold intV at HI
    simp only [Option.getD_some, Option.isSome_some] at HI
    have HT := Lib.hid htab
    clear hU HUB hu htab
    unfold PPost PairF at HN
    unfold vagg at HN ⊢
    simp only at HN
    go_enter Tryz.func30, Tryz.ntmps30
    go_wp2_with fail
    refine (HN.out _).mono ?_
    rintro r w1 ⟨rfl, hb1⟩
    have E2 := Lib.hid ((hb1.block (w.heap.size + 1 + 1) (by simp)).trans (show _ = some (.cells #[.int .i64 0, .int .i64 0, .int .i64 0, .string ⟨#[]⟩, .bool false, .int .i64 0] 34 (0, 0)) by (repeat (first | (with_reducible refine bw5 ?_ _; (first | rfl | (simp; done) | omega | (simp; omega)); done) | with_reducible refine bw6 ?_ _ | with_reducible refine bw7 ?_ | with_reducible refine bw8 ?_))))
    have HB1 : Hid (Below w.heap.size w w1) := by
      refine Below.trans ?_ (hb1.mono (by simp <;> omega))
      (repeat with_reducible (first | exact bw0 _ _ | exact hBW | refine bw1 ?_ ?_ _ | refine bw2 ?_ ?_ _ | refine bw3 ?_ _ | refine bw4 ?_)); all_goals (first | omega | (dsimp only; omega) | ((repeat with_reducible (first | refine lz1 ?_ | refine lz2 ?_ | refine lz3 ?_ | refine lz4 ?_)); omega))
    clear hb1 HN
    go_wp2_with fail
    refine abs_world ?_
    intro W2 hW2
    have hb12 : Below w1.heap.size w1 W2 := by rw [hW2]; (repeat with_reducible (first | exact bw0 _ _ | exact hBW | refine bw1 ?_ ?_ _ | refine bw2 ?_ ?_ _ | refine bw3 ?_ _ | refine bw4 ?_)); all_goals (first | omega | (dsimp only; omega) | ((repeat with_reducible (first | refine lz1 ?_ | refine lz2 ?_ | refine lz3 ?_ | refine lz4 ?_)); omega))
    have ea : W2.heap[w1.heap.size]? = some (.cells #[.int .i64 am, .int .i64 ae] 32 (0, 0)) := by rw [hW2]; (repeat (first | (with_reducible refine bw5 ?_ _; (first | rfl | (simp; done) | omega | (simp; omega)); done) | with_reducible refine bw6 ?_ _ | with_reducible refine bw7 ?_ | with_reducible refine bw8 ?_))
    have eb : W2.heap[w1.heap.size + 1]? = some (.cells #[.int .i64 bm, .int .i64 be] 32 (0, 0)) := by rw [hW2]; (repeat (first | (with_reducible refine bw5 ?_ _; (first | rfl | (simp; done) | omega | (simp; omega)); done) | with_reducible refine bw6 ?_ _ | with_reducible refine bw7 ?_ | with_reducible refine bw8 ?_))
    have EA := Lib.hid ea
    have EB := Lib.hid eb
    have HB12 := Lib.hid hb12
    have b0 := cell_of_heap eb
    have zb := lt_of_heap eb
    clear hW2 hb12 ea eb
    refine wp_region_mix [0, 2] [1, 3, 4] [3, 4] (Below W2.heap.size W2) (by kernel_rfl) (by kernel_rfl) (Below.refl _ _).drew ?_
    iterate 2 (first | (apply first_step; (rw [List.getElem?_toArray]; (repeat rw [List.getElem?_cons_succ]); rw [List.getElem?_cons_zero]); rfl; (intro W hB; have hc := bcellB hB; go_simp; (first | done | rfl)); go_frame) | (apply first_skip; (rw [List.getElem?_toArray]; (repeat rw [List.getElem?_cons_succ]); rw [List.getElem?_cons_zero]); rfl; go_frame))
    refine first_done ?_
    apply tail_step; (rw [List.getElem?_toArray]; (repeat rw [List.getElem?_cons_succ]); rw [List.getElem?_cons_zero]); rfl; rfl; intro K hK; go_simp
    refine (HFL.out _).mono ?_
    rintro r w3 ⟨rfl, hb3⟩
    have hb3' : Below W2.heap.size W2 w3 := (Below.refl _ W2).drew.trans hb3
    refine hK _ _ (fun _ => hb3') ?_
    clear hK K
    have HBV : Hid (Below w1.heap.size w1 w3) := HB12.out.trans (hb3'.mono HB12.out.size)
    have ea := (hb3'.block _ (lt_of_heap EA.out)).trans EA.out
    have eb := (hb3'.block _ (lt_of_heap EB.out)).trans EB.out
    clear hb3 hb3' b0 zb EA EB HB12 HFL
    have EA := Lib.hid ea
    have EB := Lib.hid eb
    clear ea eb
    (apply tail_step; (rw [List.getElem?_toArray]; (repeat rw [List.getElem?_cons_succ]); rw [List.getElem?_cons_zero]); rfl; rfl; intro K hK; go_simp; refine hK _ _ (fun h => absurd (by decide) h) ?_; clear hK K)
    (apply tail_step; (rw [List.getElem?_toArray]; (repeat rw [List.getElem?_cons_succ]); rw [List.getElem?_cons_zero]); rfl; rfl; intro K hK; go_simp; refine hK _ _ (fun h => absurd (by decide) h) ?_; clear hK K)
    refine tail_done ?_
    clear nq
    have a0 := cell_of_heap EA.out
    have za := lt_of_heap EA.out
    have b0 := cell_of_heap EB.out
    have zb := lt_of_heap EB.out
    go_wp2_with fail
    refine (HI.out _).mono ?_
    rintro r w4 ⟨rfl, hb4⟩
    have HBV2 : Hid (Below w1.heap.size w1 w4) := HBV.out.trans (hb4.mono HBV.out.size)
    have ea := (hb4.block _ (lt_of_heap EA.out)).trans EA.out
    clear hb4 a0 za b0 zb HBV HI
    have HBV := HBV2
    have a0 := cell_of_heap ea
    have za := lt_of_heap ea
    clear HBV2 ea
    go_wp2_with fail
    refine (HPW.out _ ((HT.out.below HB1.out).below HBV.out)).mono ?_
    rintro r w5 ⟨rfl, hb5⟩
    have HBV2 : Hid (Below w1.heap.size w1 w5) := HBV.out.trans (hb5.mono HBV.out.size)
    clear hb5 a0 za
    go_wp2_with fail
    refine (HTD.out _).mono ?_
    rintro r w6 ⟨rfl, hb6⟩
    have hBq : Below w1.heap.size w1 w6 := HBV2.out.trans (hb6.mono HBV2.out.size)
    have EQ2 := Lib.hid ((hBq.block _ (lt_of_heap E2.out)).trans E2.out)
    have HBQ := Lib.hid (HB1.out.trans (hBq.mono HB1.out.size))
    clear hb6 hBq
    rw [vagg_eq u]
    have x2 := cell_of_heap EQ2.out
    have y2 := frozen_of_heap EQ2.out
    have z2 := lt_of_heap EQ2.out
    go_wp2_with fail
    have hBW := HBQ.out
    refine bodyPost_ret (v := .agg #[.int .i64 u.k, .int .i64 u.m, .int .i64 u.e, .string u.t, .bool u.b, .int .i64 u.f]) (by simp [results, Tryz.results30, go_sem, x2]) rfl ⟨by first | rfl | (rw [HU.out]; rfl), ?_⟩
    (repeat with_reducible (first | exact bw0 _ _ | exact hBW | refine bw1 ?_ ?_ _ | refine bw2 ?_ ?_ _ | refine bw3 ?_ _ | refine bw4 ?_)); all_goals (first | omega | (dsimp only; omega) | ((repeat with_reducible (first | refine lz1 ?_ | refine lz2 ?_ | refine lz3 ?_ | refine lz4 ?_)); omega))
theorem power_3b (am ae bm be fm fe : Int) (o : Option Int) (U : V) (HN : Hid (∀ w, Calls Tryz.prog 64 #[vagg x, vagg y] w (PPost w (((am, ae), (bm, be)), 0)))) (HFL : Hid (∀ w, Calls Tryz.prog 67 #[.agg #[.int .i64 bm, .int .i64 be]] w fun r w' => r = .returned (.agg #[.int .i64 fm, .int .i64 fe]) ∧ Below w.heap.size w w'))
    (HI : Hid (∀ w, Calls Tryz.prog 68 #[.agg #[.int .i64 bm, .int .i64 be]] w fun r w' => r = .returned (intV o) ∧ Below w.heap.size w w')) (HPW : ∀ n, Hid (∀ w, Tab w → Calls Tryz.prog 69 #[.agg #[.int .i64 am, .int .i64 ae], .int .i64 n] w (NumPost w (powR gD am ae n))))
    (nq : ∀ W, (binOp .neq 32 (.agg #[.int .i64 fm, .int .i64 fe]) (.agg #[.int .i64 bm, .int .i64 be])).run Tryz.prog W = .ok (.bool false) W) (n0 : (am == 0) = true) (d1 : decide (bm < 0) = false) (htab : Tab w)
    (hU : U = match o with | none => vBad 5 | some n => toldV (powR gD am ae n)) : Calls Tryz.prog 30 #[vagg x, vagg y] w (VPost w U) := by
  obtain ⟨u, hu⟩ : ∃ u, u = U := ⟨_, rfl⟩
  have HU : Hid (u = u) := rfl
  cases o with
  | none =>
    have HUB : Hid (U = vBad 5) := hU
    have HBAD := Lib.hid (bad_any 5)
    rw [← HUB.out, ← hu] at HBAD
    rw [← hu]
    rw [vagg_eq u] at HBAD
    unfold intV at HI
    simp only [Option.getD_none, Option.isSome_none] at HI
    clear hU HUB hu HPW htab
    unfold PPost PairF at HN
    unfold vagg at HN ⊢
    simp only at HN
    go_enter Tryz.func30, Tryz.ntmps30
    go_wp2_with fail
    refine (HN.out _).mono ?_
    rintro r w1 ⟨rfl, hb1⟩
    have E2 := Lib.hid ((hb1.block (w.heap.size + 1 + 1) (by simp)).trans (show _ = some (.cells #[.int .i64 0, .int .i64 0, .int .i64 0, .string ⟨#[]⟩, .bool false, .int .i64 0] 34 (0, 0)) by (repeat (first | (with_reducible refine bw5 ?_ _; (first | rfl | (simp; done) | omega | (simp; omega)); done) | with_reducible refine bw6 ?_ _ | with_reducible refine bw7 ?_ | with_reducible refine bw8 ?_))))
    have HB1 : Hid (Below w.heap.size w w1) := by
      refine Below.trans ?_ (hb1.mono (by simp <;> omega))
      (repeat with_reducible (first | exact bw0 _ _ | exact hBW | refine bw1 ?_ ?_ _ | refine bw2 ?_ ?_ _ | refine bw3 ?_ _ | refine bw4 ?_)); all_goals (first | omega | (dsimp only; omega) | ((repeat with_reducible (first | refine lz1 ?_ | refine lz2 ?_ | refine lz3 ?_ | refine lz4 ?_)); omega))
    clear hb1 HN
    go_wp2_with fail
    refine abs_world ?_
    intro W2 hW2
    have hb12 : Below w1.heap.size w1 W2 := by rw [hW2]; (repeat with_reducible (first | exact bw0 _ _ | exact hBW | refine bw1 ?_ ?_ _ | refine bw2 ?_ ?_ _ | refine bw3 ?_ _ | refine bw4 ?_)); all_goals (first | omega | (dsimp only; omega) | ((repeat with_reducible (first | refine lz1 ?_ | refine lz2 ?_ | refine lz3 ?_ | refine lz4 ?_)); omega))
    have ea : W2.heap[w1.heap.size]? = some (.cells #[.int .i64 am, .int .i64 ae] 32 (0, 0)) := by rw [hW2]; (repeat (first | (with_reducible refine bw5 ?_ _; (first | rfl | (simp; done) | omega | (simp; omega)); done) | with_reducible refine bw6 ?_ _ | with_reducible refine bw7 ?_ | with_reducible refine bw8 ?_))
    have eb : W2.heap[w1.heap.size + 1]? = some (.cells #[.int .i64 bm, .int .i64 be] 32 (0, 0)) := by rw [hW2]; (repeat (first | (with_reducible refine bw5 ?_ _; (first | rfl | (simp; done) | omega | (simp; omega)); done) | with_reducible refine bw6 ?_ _ | with_reducible refine bw7 ?_ | with_reducible refine bw8 ?_))
    have EA := Lib.hid ea
    have EB := Lib.hid eb
    have HB12 := Lib.hid hb12
    have b0 := cell_of_heap eb
    have zb := lt_of_heap eb
    clear hW2 hb12 ea eb
    refine wp_region_mix [0, 2] [1, 3, 4] [3, 4] (Below W2.heap.size W2) (by kernel_rfl) (by kernel_rfl) (Below.refl _ _).drew ?_
    iterate 2 (first | (apply first_step; (rw [List.getElem?_toArray]; (repeat rw [List.getElem?_cons_succ]); rw [List.getElem?_cons_zero]); rfl; (intro W hB; have hc := bcellB hB; go_simp; (first | done | rfl)); go_frame) | (apply first_skip; (rw [List.getElem?_toArray]; (repeat rw [List.getElem?_cons_succ]); rw [List.getElem?_cons_zero]); rfl; go_frame))
    refine first_done ?_
    apply tail_step; (rw [List.getElem?_toArray]; (repeat rw [List.getElem?_cons_succ]); rw [List.getElem?_cons_zero]); rfl; rfl; intro K hK; go_simp
    refine (HFL.out _).mono ?_
    rintro r w3 ⟨rfl, hb3⟩
    have hb3' : Below W2.heap.size W2 w3 := (Below.refl _ W2).drew.trans hb3
    refine hK _ _ (fun _ => hb3') ?_
    clear hK K
    have HBV : Hid (Below w1.heap.size w1 w3) := HB12.out.trans (hb3'.mono HB12.out.size)
    have ea := (hb3'.block _ (lt_of_heap EA.out)).trans EA.out
    have eb := (hb3'.block _ (lt_of_heap EB.out)).trans EB.out
    clear hb3 hb3' b0 zb EA EB HB12 HFL
    have EA := Lib.hid ea
    have EB := Lib.hid eb
    clear ea eb
    (apply tail_step; (rw [List.getElem?_toArray]; (repeat rw [List.getElem?_cons_succ]); rw [List.getElem?_cons_zero]); rfl; rfl; intro K hK; go_simp; refine hK _ _ (fun h => absurd (by decide) h) ?_; clear hK K)
    (apply tail_step; (rw [List.getElem?_toArray]; (repeat rw [List.getElem?_cons_succ]); rw [List.getElem?_cons_zero]); rfl; rfl; intro K hK; go_simp; refine hK _ _ (fun h => absurd (by decide) h) ?_; clear hK K)
    refine tail_done ?_
    clear nq
    have a0 := cell_of_heap EA.out
    have za := lt_of_heap EA.out
    have b0 := cell_of_heap EB.out
    have zb := lt_of_heap EB.out
    go_wp2_with fail
    refine (HI.out _).mono ?_
    rintro r w4 ⟨rfl, hb4⟩
    have HBV2 : Hid (Below w1.heap.size w1 w4) := HBV.out.trans (hb4.mono HBV.out.size)
    have ea := (hb4.block _ (lt_of_heap EA.out)).trans EA.out
    clear hb4 a0 za b0 zb HBV HI
    have HBV := HBV2
    have a0 := cell_of_heap ea
    have za := lt_of_heap ea
    clear HBV2 ea
    go_wp2_with fail
    refine (HBAD.out _).mono ?_
    rintro r w8 ⟨rfl, hb8⟩
    have hBq : Below w1.heap.size w1 w8 := HBV.out.trans (hb8.mono HBV.out.size)
    have EQ2 := Lib.hid ((hBq.block _ (lt_of_heap E2.out)).trans E2.out)
    have HBQ := Lib.hid (HB1.out.trans (hBq.mono HB1.out.size))
    clear hb8 hBq
    have x2 := cell_of_heap EQ2.out
    have y2 := frozen_of_heap EQ2.out
    have z2 := lt_of_heap EQ2.out
    go_wp2_with fail
    have hBW := HBQ.out
    refine bodyPost_ret (v := .agg #[.int .i64 u.k, .int .i64 u.m, .int .i64 u.e, .string u.t, .bool u.b, .int .i64 u.f]) (by simp [results, Tryz.results30, go_sem, x2]) rfl ⟨by first | rfl | (rw [HU.out]; rfl), ?_⟩
    (repeat with_reducible (first | exact bw0 _ _ | exact hBW | refine bw1 ?_ ?_ _ | refine bw2 ?_ ?_ _ | refine bw3 ?_ _ | refine bw4 ?_)); all_goals (first | omega | (dsimp only; omega) | ((repeat with_reducible (first | refine lz1 ?_ | refine lz2 ?_ | refine lz3 ?_ | refine lz4 ?_)); omega))
  | some n =>
    have HUB : Hid (U = toldV (powR gD am ae n)) := hU
    have HPW := HPW n
    generalize powR gD am ae n = R at HPW HUB
    have HTD := Lib.hid (fun w => told_any w R)
    obtain ⟨⟨rm, rx⟩, rk⟩ := R
    unfold NumPost NumV at HPW
    simp only at HPW HTD
    unfold VPost at HTD
    rw [← HUB.out, ← hu] at HTD
    rw [← hu]
    unfold intV at HI
    simp only [Option.getD_some, Option.isSome_some] at HI
    have HT := Lib.hid htab
    clear hU HUB hu htab
    unfold PPost PairF at HN
    unfold vagg at HN ⊢
    simp only at HN
    go_enter Tryz.func30, Tryz.ntmps30
    go_wp2_with fail
    refine (HN.out _).mono ?_
    rintro r w1 ⟨rfl, hb1⟩
    have E2 := Lib.hid ((hb1.block (w.heap.size + 1 + 1) (by simp)).trans (show _ = some (.cells #[.int .i64 0, .int .i64 0, .int .i64 0, .string ⟨#[]⟩, .bool false, .int .i64 0] 34 (0, 0)) by (repeat (first | (with_reducible refine bw5 ?_ _; (first | rfl | (simp; done) | omega | (simp; omega)); done) | with_reducible refine bw6 ?_ _ | with_reducible refine bw7 ?_ | with_reducible refine bw8 ?_))))
    have HB1 : Hid (Below w.heap.size w w1) := by
      refine Below.trans ?_ (hb1.mono (by simp <;> omega))
      (repeat with_reducible (first | exact bw0 _ _ | exact hBW | refine bw1 ?_ ?_ _ | refine bw2 ?_ ?_ _ | refine bw3 ?_ _ | refine bw4 ?_)); all_goals (first | omega | (dsimp only; omega) | ((repeat with_reducible (first | refine lz1 ?_ | refine lz2 ?_ | refine lz3 ?_ | refine lz4 ?_)); omega))
    clear hb1 HN
    go_wp2_with fail
    refine abs_world ?_
    intro W2 hW2
    have hb12 : Below w1.heap.size w1 W2 := by rw [hW2]; (repeat with_reducible (first | exact bw0 _ _ | exact hBW | refine bw1 ?_ ?_ _ | refine bw2 ?_ ?_ _ | refine bw3 ?_ _ | refine bw4 ?_)); all_goals (first | omega | (dsimp only; omega) | ((repeat with_reducible (first | refine lz1 ?_ | refine lz2 ?_ | refine lz3 ?_ | refine lz4 ?_)); omega))
    have ea : W2.heap[w1.heap.size]? = some (.cells #[.int .i64 am, .int .i64 ae] 32 (0, 0)) := by rw [hW2]; (repeat (first | (with_reducible refine bw5 ?_ _; (first | rfl | (simp; done) | omega | (simp; omega)); done) | with_reducible refine bw6 ?_ _ | with_reducible refine bw7 ?_ | with_reducible refine bw8 ?_))
    have eb : W2.heap[w1.heap.size + 1]? = some (.cells #[.int .i64 bm, .int .i64 be] 32 (0, 0)) := by rw [hW2]; (repeat (first | (with_reducible refine bw5 ?_ _; (first | rfl | (simp; done) | omega | (simp; omega)); done) | with_reducible refine bw6 ?_ _ | with_reducible refine bw7 ?_ | with_reducible refine bw8 ?_))
    have EA := Lib.hid ea
    have EB := Lib.hid eb
    have HB12 := Lib.hid hb12
    have b0 := cell_of_heap eb
    have zb := lt_of_heap eb
    clear hW2 hb12 ea eb
    refine wp_region_mix [0, 2] [1, 3, 4] [3, 4] (Below W2.heap.size W2) (by kernel_rfl) (by kernel_rfl) (Below.refl _ _).drew ?_
    iterate 2 (first | (apply first_step; (rw [List.getElem?_toArray]; (repeat rw [List.getElem?_cons_succ]); rw [List.getElem?_cons_zero]); rfl; (intro W hB; have hc := bcellB hB; go_simp; (first | done | rfl)); go_frame) | (apply first_skip; (rw [List.getElem?_toArray]; (repeat rw [List.getElem?_cons_succ]); rw [List.getElem?_cons_zero]); rfl; go_frame))
    refine first_done ?_
    apply tail_step; (rw [List.getElem?_toArray]; (repeat rw [List.getElem?_cons_succ]); rw [List.getElem?_cons_zero]); rfl; rfl; intro K hK; go_simp
    refine (HFL.out _).mono ?_
    rintro r w3 ⟨rfl, hb3⟩
    have hb3' : Below W2.heap.size W2 w3 := (Below.refl _ W2).drew.trans hb3
    refine hK _ _ (fun _ => hb3') ?_
    clear hK K
    have HBV : Hid (Below w1.heap.size w1 w3) := HB12.out.trans (hb3'.mono HB12.out.size)
    have ea := (hb3'.block _ (lt_of_heap EA.out)).trans EA.out
    have eb := (hb3'.block _ (lt_of_heap EB.out)).trans EB.out
    clear hb3 hb3' b0 zb EA EB HB12 HFL
    have EA := Lib.hid ea
    have EB := Lib.hid eb
    clear ea eb
    (apply tail_step; (rw [List.getElem?_toArray]; (repeat rw [List.getElem?_cons_succ]); rw [List.getElem?_cons_zero]); rfl; rfl; intro K hK; go_simp; refine hK _ _ (fun h => absurd (by decide) h) ?_; clear hK K)
    (apply tail_step; (rw [List.getElem?_toArray]; (repeat rw [List.getElem?_cons_succ]); rw [List.getElem?_cons_zero]); rfl; rfl; intro K hK; go_simp; refine hK _ _ (fun h => absurd (by decide) h) ?_; clear hK K)
    refine tail_done ?_
    clear nq
    have a0 := cell_of_heap EA.out
    have za := lt_of_heap EA.out
    have b0 := cell_of_heap EB.out
    have zb := lt_of_heap EB.out
    go_wp2_with fail
    refine (HI.out _).mono ?_
    rintro r w4 ⟨rfl, hb4⟩
    have HBV2 : Hid (Below w1.heap.size w1 w4) := HBV.out.trans (hb4.mono HBV.out.size)
    have ea := (hb4.block _ (lt_of_heap EA.out)).trans EA.out
    clear hb4 a0 za b0 zb HBV HI
    have HBV := HBV2
    have a0 := cell_of_heap ea
    have za := lt_of_heap ea
    clear HBV2 ea
    go_wp2_with fail
    refine (HPW.out _ ((HT.out.below HB1.out).below HBV.out)).mono ?_
    rintro r w5 ⟨rfl, hb5⟩
    have HBV2 : Hid (Below w1.heap.size w1 w5) := HBV.out.trans (hb5.mono HBV.out.size)
    clear hb5 a0 za
    go_wp2_with fail
    refine (HTD.out _).mono ?_
    rintro r w6 ⟨rfl, hb6⟩
    have hBq : Below w1.heap.size w1 w6 := HBV2.out.trans (hb6.mono HBV2.out.size)
    have EQ2 := Lib.hid ((hBq.block _ (lt_of_heap E2.out)).trans E2.out)
    have HBQ := Lib.hid (HB1.out.trans (hBq.mono HB1.out.size))
    clear hb6 hBq
    rw [vagg_eq u]
    have x2 := cell_of_heap EQ2.out
    have y2 := frozen_of_heap EQ2.out
    have z2 := lt_of_heap EQ2.out
    go_wp2_with fail
    have hBW := HBQ.out
    refine bodyPost_ret (v := .agg #[.int .i64 u.k, .int .i64 u.m, .int .i64 u.e, .string u.t, .bool u.b, .int .i64 u.f]) (by simp [results, Tryz.results30, go_sem, x2]) rfl ⟨by first | rfl | (rw [HU.out]; rfl), ?_⟩
    (repeat with_reducible (first | exact bw0 _ _ | exact hBW | refine bw1 ?_ ?_ _ | refine bw2 ?_ ?_ _ | refine bw3 ?_ _ | refine bw4 ?_)); all_goals (first | omega | (dsimp only; omega) | ((repeat with_reducible (first | refine lz1 ?_ | refine lz2 ?_ | refine lz3 ?_ | refine lz4 ?_)); omega))
theorem power_f (am ae bm be pf : Int) (hp : pf ≠ 0) (HN : Hid (∀ w, Calls Tryz.prog 64 #[vagg x, vagg y] w (PPost w (((am, ae), (bm, be)), pf)))) : Calls Tryz.prog 30 #[vagg x, vagg y] w (VPost w (vBad pf)) := by
  have n1 : (pf != 0) = true := by simpa using hp
  have HBAD := Lib.hid (bad_any pf)
  obtain ⟨u, hu⟩ : ∃ u, u = vBad pf := ⟨_, rfl⟩
  rw [← hu] at HBAD ⊢
  have HU : Hid (u = u) := rfl
  rw [vagg_eq u] at HBAD
  clear hp hu
  unfold PPost PairF at HN
  unfold vagg at HN ⊢
  simp only at HN
  go_enter Tryz.func30, Tryz.ntmps30
  go_wp2_with fail
  refine (HN.out _).mono ?_
  rintro r w1 ⟨rfl, hb1⟩
  have E2 := Lib.hid ((hb1.block (w.heap.size + 1 + 1) (by simp)).trans (show _ = some (.cells #[.int .i64 0, .int .i64 0, .int .i64 0, .string ⟨#[]⟩, .bool false, .int .i64 0] 34 (0, 0)) by (repeat (first | (with_reducible refine bw5 ?_ _; (first | rfl | (simp; done) | omega | (simp; omega)); done) | with_reducible refine bw6 ?_ _ | with_reducible refine bw7 ?_ | with_reducible refine bw8 ?_))))
  have HB1 : Hid (Below w.heap.size w w1) := by
    refine Below.trans ?_ (hb1.mono (by simp <;> omega))
    (repeat with_reducible (first | exact bw0 _ _ | exact hBW | refine bw1 ?_ ?_ _ | refine bw2 ?_ ?_ _ | refine bw3 ?_ _ | refine bw4 ?_)); all_goals (first | omega | (dsimp only; omega) | ((repeat with_reducible (first | refine lz1 ?_ | refine lz2 ?_ | refine lz3 ?_ | refine lz4 ?_)); omega))
  clear hb1 HN
  go_wp2_with fail
  refine (HBAD.out _).mono ?_
  rintro r w2 ⟨rfl, hb2⟩
  have hBq : Below w1.heap.size w1 w2 := by
    refine Below.trans ?_ (hb2.mono (by simp <;> omega))
    (repeat with_reducible (first | exact bw0 _ _ | exact hBW | refine bw1 ?_ ?_ _ | refine bw2 ?_ ?_ _ | refine bw3 ?_ _ | refine bw4 ?_)); all_goals (first | omega | (dsimp only; omega) | ((repeat with_reducible (first | refine lz1 ?_ | refine lz2 ?_ | refine lz3 ?_ | refine lz4 ?_)); omega))
  have EQ2 := Lib.hid ((hBq.block _ (lt_of_heap E2.out)).trans E2.out)
  have HBQ := Lib.hid (HB1.out.trans (hBq.mono HB1.out.size))
  clear hb2 hBq
  have x2 := cell_of_heap EQ2.out
  have y2 := frozen_of_heap EQ2.out
  have z2 := lt_of_heap EQ2.out
  go_wp2_with fail
  have hBW := HBQ.out
  refine bodyPost_ret (v := .agg #[.int .i64 u.k, .int .i64 u.m, .int .i64 u.e, .string u.t, .bool u.b, .int .i64 u.f]) (by simp [results, Tryz.results30, go_sem, x2]) rfl ⟨by first | rfl | (rw [HU.out]; rfl), ?_⟩
  (repeat with_reducible (first | exact bw0 _ _ | exact hBW | refine bw1 ?_ ?_ _ | refine bw2 ?_ ?_ _ | refine bw3 ?_ _ | refine bw4 ?_)); all_goals (first | omega | (dsimp only; omega) | ((repeat with_reducible (first | refine lz1 ?_ | refine lz2 ?_ | refine lz3 ?_ | refine lz4 ?_)); omega))
end
theorem power_any2 (x y : V) (hx : refR x = true) (hy : refR y = true) (w : World) (htab : Tab w) : Calls Tryz.prog 30 #[vagg x, vagg y] w (VPost w (powV gD x y)) := by
  have hpr := pair_right hx hy
  have HN := Lib.hid (numbers_any x y hx hy)
  unfold powV powW
  generalize pairR x y = P at hpr HN ⊢
  obtain ⟨⟨⟨am, ae⟩, ⟨bm, be⟩⟩, pf⟩ := P
  simp only at hpr ⊢
  by_cases hp : pf = 0
  · rw [if_neg (by simpa using hp)]
    subst hp
    have HFL := Lib.hid (floor_any bm be hpr.2)
    have nq := fun W => eq_num W (floorR bm be).1 (floorR bm be).2 bm be
    by_cases hf : floorR bm be ≠ (bm, be)
    · rw [if_pos hf]
      have e : decide (((floorR bm be).1, (floorR bm be).2) ≠ (bm, be)) = true := decide_eq_true hf
      rw [e] at nq
      exact power_b5 x y w am ae bm be _ _ HN HFL nq
    · rw [if_neg hf]
      have e : decide (((floorR bm be).1, (floorR bm be).2) ≠ (bm, be)) = false := decide_eq_false hf
      rw [e] at nq
      by_cases ha : am = 0 ∧ bm < 0
      · rw [if_pos ha]
        obtain ⟨ha, hb⟩ := ha
        subst ha
        exact power_b1 x y w ae bm be _ _ HN HFL nq (decide_eq_true hb)
      · rw [if_neg ha]
        have HI := Lib.hid (Int_any bm be hpr.2)
        have HPW : ∀ n, Hid (∀ w, Tab w → Calls Tryz.prog 69 #[.agg #[.int .i64 am, .int .i64 ae], .int .i64 n] w (NumPost w (powR gD am ae n))) := fun n w ht => Pow_any am ae n hpr.1 w ht
        obtain ⟨o, ho⟩ : ∃ o, o = intR bm be := ⟨_, rfl⟩
        rw [← ho] at HI ⊢
        cases o with
        | none =>
          by_cases h0 : am = 0
          · exact power_3b x y w am ae bm be _ _ none (vBad 5) HN HFL HI HPW nq (by simpa using h0) (decide_eq_false (fun hb => ha ⟨h0, hb⟩)) htab rfl
          · exact power_3a x y w am ae bm be _ _ none (vBad 5) HN HFL HI HPW nq (by simpa using h0) htab rfl
        | some n =>
          by_cases h0 : am = 0
          · exact power_3b x y w am ae bm be _ _ (some n) (toldV (powR gD am ae n)) HN HFL HI HPW nq (by simpa using h0) (decide_eq_false (fun hb => ha ⟨h0, hb⟩)) htab rfl
          · exact power_3a x y w am ae bm be _ _ (some n) (toldV (powR gD am ae n)) HN HFL HI HPW nq (by simpa using h0) htab rfl
  · rw [if_pos hp]
    exact power_f x y w am ae bm be pf hp HN
end Go.Proofs.YtndhmahkglfopaaGreatDoor
