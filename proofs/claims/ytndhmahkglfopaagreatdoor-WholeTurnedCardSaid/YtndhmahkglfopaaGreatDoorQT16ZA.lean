/- oper: told, numbers, reckoned. -/
import Derived.Test.YtndhmahkglfopaaGreatDoorQT13Fold2
namespace Go.Proofs.YtndhmahkglfopaaGreatDoor
open Go.RowKit
def VPost (w : World) (u : V) (e : Ending) (w' : World) : Prop := e = .returned (vagg u) ∧ Below w.heap.size w w'
def PairF (P : ((Int × Int) × (Int × Int)) × Int) : Value := .tuple #[.agg #[.int .i64 P.1.1.1, .int .i64 P.1.1.2], .agg #[.int .i64 P.1.2.1, .int .i64 P.1.2.2], .int .i64 P.2]
def PPost (w : World) (P : ((Int × Int) × (Int × Int)) × Int) (e : Ending) (w' : World) : Prop := e = .returned (PairF P) ∧ Below w.heap.size w w'
theorem heap_set2 {w : World} {b : Nat} {x y u v : Value} {t : TypeId} {fz : Nat × Nat} (h : w.heap[b]? = some (.cells #[x, y] t fz)) : ((w.setCell ⟨b, 0, none⟩ u).setCell ⟨b, 1, none⟩ v).heap[b]? = some (.cells #[u, v] t fz) := heap_setCell_at (heap_setCell_at h 0 u) 1 v
theorem heap_set2_ne {w : World} {b c : Nat} {u v : Value} (h : b ≠ c) : ((w.setCell ⟨c, 0, none⟩ u).setCell ⟨c, 1, none⟩ v).heap[b]? = w.heap[b]? := (Below.heap_setCell _ _ _ _ h).trans (Below.heap_setCell _ _ _ _ h)
theorem body_abs {P : Program} {fn : Func} {R : Ending → World → Prop} {x : Exit} {a : Act} {w : World} (h : ∀ W, W = w → bodyPost P fn R x a W) : bodyPost P fn R x a w := h w rfl
section
variable (w : World)
set_option maxHeartbeats 2000000
set_option maxRecDepth 100000
theorem told_any (R : (Int × Int) × Bool) : Calls Tryz.prog 65 #[.agg #[.int .i64 R.1.1, .int .i64 R.1.2], .bool R.2] w (VPost w (toldV R)) := by
  obtain ⟨⟨m, e⟩, k⟩ := R
  cases k with
  | true =>
    have HC := Lib.hid (Of_any m e)
    unfold toldV numV
    simp only [if_true]
    go_enter Tryz.func65, Tryz.ntmps65
    go_wp2_with fail
    refine (HC.out _).mono ?_
    rintro r w1 ⟨rfl, hb1⟩
    have ev : w1.heap[w.heap.size + 1]? = some (.cells #[.int .i64 0, .int .i64 0, .int .i64 0, .string ⟨#[]⟩, .bool false, .int .i64 0] 34 (0, 0)) := (hb1.block _ (by simp)).trans (by (repeat (first | (with_reducible refine bw5 ?_ _; (first | rfl | (simp; done) | omega | (simp; omega)); done) | with_reducible refine bw6 ?_ _ | with_reducible refine bw7 ?_ | with_reducible refine bw8 ?_)))
    have HB1 : Hid (Below w.heap.size w w1) := by
      refine Below.trans ?_ (hb1.mono (by simp <;> omega))
      (repeat with_reducible (first | exact bw0 _ _ | exact hBW | refine bw1 ?_ ?_ _ | refine bw2 ?_ ?_ _ | refine bw3 ?_ _ | refine bw4 ?_)); all_goals (first | omega | (dsimp only; omega) | ((repeat with_reducible (first | refine lz1 ?_ | refine lz2 ?_ | refine lz3 ?_ | refine lz4 ?_)); omega))
    have x1 := cell_of_heap ev
    have y1 := frozen_of_heap ev
    have z1 := lt_of_heap ev
    clear hb1 ev
    go_wp2_with fail
    refine bodyPost_ret (v := vagg ⟨1, m, e, ⟨#[]⟩, false, 0⟩) (by simp [results, Tryz.results65, go_sem, x1, vagg]) rfl ⟨rfl, ?_⟩
    have hBW := HB1.out
    (repeat with_reducible (first | exact bw0 _ _ | exact hBW | refine bw1 ?_ ?_ _ | refine bw2 ?_ ?_ _ | refine bw3 ?_ _ | refine bw4 ?_)); all_goals (first | omega | (dsimp only; omega) | ((repeat with_reducible (first | refine lz1 ?_ | refine lz2 ?_ | refine lz3 ?_ | refine lz4 ?_)); omega))
  | false =>
    have HC := Lib.hid (bad_any 5)
    unfold toldV
    simp only [Bool.false_eq_true, if_false]
    unfold vBad vagg at *
    simp only at HC
    go_enter Tryz.func65, Tryz.ntmps65
    go_wp2_with fail
    refine (HC.out _).mono ?_
    rintro r w1 ⟨rfl, hb1⟩
    have ev : w1.heap[w.heap.size + 1]? = some (.cells #[.int .i64 0, .int .i64 0, .int .i64 0, .string ⟨#[]⟩, .bool false, .int .i64 0] 34 (0, 0)) := (hb1.block _ (by simp)).trans (by (repeat (first | (with_reducible refine bw5 ?_ _; (first | rfl | (simp; done) | omega | (simp; omega)); done) | with_reducible refine bw6 ?_ _ | with_reducible refine bw7 ?_ | with_reducible refine bw8 ?_)))
    have HB1 : Hid (Below w.heap.size w w1) := by
      refine Below.trans ?_ (hb1.mono (by simp <;> omega))
      (repeat with_reducible (first | exact bw0 _ _ | exact hBW | refine bw1 ?_ ?_ _ | refine bw2 ?_ ?_ _ | refine bw3 ?_ _ | refine bw4 ?_)); all_goals (first | omega | (dsimp only; omega) | ((repeat with_reducible (first | refine lz1 ?_ | refine lz2 ?_ | refine lz3 ?_ | refine lz4 ?_)); omega))
    have x1 := cell_of_heap ev
    have y1 := frozen_of_heap ev
    have z1 := lt_of_heap ev
    clear hb1 ev
    go_wp2_with fail
    refine bodyPost_ret (v := vagg (vBad 5)) (by simp [results, Tryz.results65, go_sem, x1, vagg, vBad]) rfl ⟨rfl, ?_⟩
    have hBW := HB1.out
    (repeat with_reducible (first | exact bw0 _ _ | exact hBW | refine bw1 ?_ ?_ _ | refine bw2 ?_ ?_ _ | refine bw3 ?_ _ | refine bw4 ?_)); all_goals (first | omega | (dsimp only; omega) | ((repeat with_reducible (first | refine lz1 ?_ | refine lz2 ?_ | refine lz3 ?_ | refine lz4 ?_)); omega))
/- the end of numbers: what stands in the two results ($1 $2, $3 $4), the fault $5; HBx -/
/- the result blocks and the second value's block, behind a world $1; HBx: Below w.heap.size w $1 -/
theorem numbers_x (x y : V) (X Y : (Int × Int) × Int) (R : ((Int × Int) × (Int × Int)) × Int) (HX : Hid (∀ w, Calls Tryz.prog 103 #[vagg x] w (TNPost w X))) (HY : Hid (∀ w, Calls Tryz.prog 103 #[vagg y] w (TNPost w Y)))
    (hR : R = if X.2 ≠ 0 then (((0, 0), (0, 0)), X.2) else if Y.2 ≠ 0 then (((0, 0), (0, 0)), Y.2) else ((X.1, Y.1), 0)) : Calls Tryz.prog 64 #[vagg x, vagg y] w (PPost w R) := by
  obtain ⟨⟨xm, xe⟩, xf⟩ := X
  obtain ⟨⟨ym, ye⟩, yf⟩ := Y
  have HRR := Lib.hid hR
  clear hR
  unfold vagg TNPost NumF at HX HY
  unfold vagg
  simp only at HX HY
  go_enter Tryz.func64, Tryz.ntmps64
  go_wp2_with fail
  refine (HX.out _).mono ?_
  rintro r w1 ⟨rfl, hb1⟩
  have E1 := Lib.hid ((hb1.block (w.heap.size + 1) (by simp)).trans (show _ = some (.cells #[.int .i64 y.k, .int .i64 y.m, .int .i64 y.e, .string y.t, .bool y.b, .int .i64 y.f] 34 (0, 0)) by (repeat (first | (with_reducible refine bw5 ?_ _; (first | rfl | (simp; done) | omega | (simp; omega)); done) | with_reducible refine bw6 ?_ _ | with_reducible refine bw7 ?_ | with_reducible refine bw8 ?_))))
  have E2 := Lib.hid ((hb1.block (w.heap.size + 1 + 1) (by simp)).trans (show _ = some (.cells #[.int .i64 0, .int .i64 0] 32 (0, 0)) by (repeat (first | (with_reducible refine bw5 ?_ _; (first | rfl | (simp; done) | omega | (simp; omega)); done) | with_reducible refine bw6 ?_ _ | with_reducible refine bw7 ?_ | with_reducible refine bw8 ?_))))
  have E3 := Lib.hid ((hb1.block (w.heap.size + 1 + 1 + 1) (by simp)).trans (show _ = some (.cells #[.int .i64 0, .int .i64 0] 32 (0, 0)) by (repeat (first | (with_reducible refine bw5 ?_ _; (first | rfl | (simp; done) | omega | (simp; omega)); done) | with_reducible refine bw6 ?_ _ | with_reducible refine bw7 ?_ | with_reducible refine bw8 ?_))))
  have HB1 : Hid (Below w.heap.size w w1) := by
    refine Below.trans ?_ (hb1.mono (by simp <;> omega))
    (repeat with_reducible (first | exact bw0 _ _ | exact hBW | refine bw1 ?_ ?_ _ | refine bw2 ?_ ?_ _ | refine bw3 ?_ _ | refine bw4 ?_)); all_goals (first | omega | (dsimp only; omega) | ((repeat with_reducible (first | refine lz1 ?_ | refine lz2 ?_ | refine lz3 ?_ | refine lz4 ?_)); omega))
  clear hb1
  have x2 := cell_of_heap E2.out
  have y2 := frozen_of_heap E2.out
  have z2 := lt_of_heap E2.out
  have x3 := cell_of_heap E3.out
  have y3 := frozen_of_heap E3.out
  have z3 := lt_of_heap E3.out
  have j0 := cell_of_heap E1.out
  have z1 := lt_of_heap E1.out
  by_cases hxf : xf = 0
  · have n1 : (xf != 0) = false := by simp [hxf]
    have HR2 : Hid (R = if yf ≠ 0 then (((0, 0), (0, 0)), yf) else (((xm, xe), (ym, ye)), 0)) := by
      have := HRR.out
      rw [if_neg (by simpa using hxf)] at this
      exact this
    clear hxf HRR HX
    go_wp2_with fail
    refine (HY.out _).mono ?_
    rintro r w2 ⟨rfl, hb2⟩
    have hb2' : Below (w.heap.size + 1 + 1) w1 w2 := by
      refine Below.trans ?_ (hb2.mono (by simp only [World.size_setCell]; omega))
      (repeat with_reducible (first | exact bw0 _ _ | exact hBW | refine bw1 ?_ ?_ _ | refine bw2 ?_ ?_ _ | refine bw3 ?_ _ | refine bw4 ?_)); all_goals (first | omega | (dsimp only; omega) | ((repeat with_reducible (first | refine lz1 ?_ | refine lz2 ?_ | refine lz3 ?_ | refine lz4 ?_)); omega))
    have E3b := Lib.hid ((hb2.block (w.heap.size + 1 + 1 + 1) (by simp only [World.size_setCell]; exact z3)).trans ((Below.heap_setCell _ _ _ _ (by simp)).trans ((Below.heap_setCell _ _ _ _ (by simp)).trans E3.out)))
    have E2b : Hid (w2.heap[w.heap.size + 1 + 1]? = some (.cells #[.int .i64 xm, .int .i64 xe] 32 (0, 0))) := (hb2.block (w.heap.size + 1 + 1) (by simp only [World.size_setCell]; exact z2)).trans (heap_setCell_at (heap_setCell_at E2.out 0 (.int .i64 xm)) 1 (.int .i64 xe))
    have HB2 : Hid (Below w.heap.size w w2) := HB1.out.trans (hb2'.mono (by omega))
    clear x2 y2 z2 x3 y3 z3 j0 z1 hb2 hb2' E1 E2 E3
    have x2 := cell_of_heap E2b.out
    have y2 := frozen_of_heap E2b.out
    have z2 := lt_of_heap E2b.out
    have x3 := cell_of_heap E3b.out
    have y3 := frozen_of_heap E3b.out
    have z3 := lt_of_heap E3b.out
    by_cases hyf : yf = 0
    · have n2 : (yf != 0) = false := by simp [hyf]
      have HR3 : Hid (R = (((xm, xe), (ym, ye)), 0)) := by
        have := HR2.out
        rw [if_neg (by simpa using hyf)] at this
        exact this
      clear hyf HR2
      go_wp2_with fail
      refine abs_world ?_
      intro W3 hW3
      have q2 : W3.heap[w.heap.size + 1 + 1]? = some (.cells #[.int .i64 xm, .int .i64 xe] 32 (0, 0)) := by
        rw [hW3]
        exact (heap_set2_ne (by omega)).trans E2b.out
      have q3 : W3.heap[w.heap.size + 1 + 1 + 1]? = some (.cells #[.int .i64 ym, .int .i64 ye] 32 (0, 0)) := by
        rw [hW3]
        exact heap_set2 E3b.out
      have hbW : Below w.heap.size w W3 := by rw [hW3]; have hBW := HB2.out; (repeat with_reducible (first | exact bw0 _ _ | exact hBW | refine bw1 ?_ ?_ _ | refine bw2 ?_ ?_ _ | refine bw3 ?_ _ | refine bw4 ?_)); all_goals (first | omega | (dsimp only; omega) | ((repeat with_reducible (first | refine lz1 ?_ | refine lz2 ?_ | refine lz3 ?_ | refine lz4 ?_)); omega))
      have HBW := Lib.hid hbW
      have Q2 := Lib.hid q2
      have Q3 := Lib.hid q3
      clear hW3 hbW x2 y2 z2 x3 y3 z3 E2b E3b q2 q3
      refine wp_region_mix [0, 1] [2, 3, 4] [3, 4] (fun W => W.heap[w.heap.size + 1 + 1]? = some (.cells #[.int .i64 xm, .int .i64 xe] 32 (0, 0)) ∧ W.heap[w.heap.size + 1 + 1 + 1]? = some (.cells #[.int .i64 ym, .int .i64 ye] 32 (0, 0))) (by kernel_rfl) (by kernel_rfl) ⟨Q2.out, Q3.out⟩ ?_
      iterate 2 (apply first_step; (rw [List.getElem?_toArray]; (repeat rw [List.getElem?_cons_succ]); rw [List.getElem?_cons_zero]); rfl; (rintro W ⟨u0, u1⟩; have v0 := cell_of_heap u0; have v1 := cell_of_heap u1; clear u0 u1; go_simp; (first | done | rfl)); go_frame)
      refine first_done ?_
      have v0 := cell_of_heap Q2.out
      have v1 := frozen_of_heap Q2.out
      have v2 := cell_of_heap Q3.out
      have v3 := frozen_of_heap Q3.out
      apply tail_step; (rw [List.getElem?_toArray]; (repeat rw [List.getElem?_cons_succ]); rw [List.getElem?_cons_zero]); rfl; rfl; intro K hK; go_simp
      refine hK _ _ (fun _ => ⟨heap_set2 Q2.out, (heap_set2_ne (by omega)).trans Q3.out⟩) ?_
      clear hK K
      (apply tail_step; (rw [List.getElem?_toArray]; (repeat rw [List.getElem?_cons_succ]); rw [List.getElem?_cons_zero]); rfl; rfl; intro K hK; go_simp; refine hK _ _ (fun h => absurd (by decide) h) ?_; clear hK K)
      (apply tail_step; (rw [List.getElem?_toArray]; (repeat rw [List.getElem?_cons_succ]); rw [List.getElem?_cons_zero]); rfl; rfl; intro K hK; go_simp; refine hK _ _ (fun h => absurd (by decide) h) ?_; clear hK K)
      refine tail_done ?_
      clear v0 v1 v2 v3
      go_wp2_with fail
      have HEND := HR3
      have hBW := HBW.out
      have EP2 := Q2
      have EP3 := Q3
      refine body_abs ?_
      intro W hW
      have q2 : W.heap[w.heap.size + 1 + 1]? = some (.cells #[.int .i64 xm, .int .i64 xe] 32 (0, 0)) := by
        rw [hW]
        exact heap_drew_old ((heap_set2_ne (by omega)).trans (heap_set2 EP2.out))
      have q3 : W.heap[w.heap.size + 1 + 1 + 1]? = some (.cells #[.int .i64 ym, .int .i64 ye] 32 (0, 0)) := by
        rw [hW]
        exact heap_drew_old (heap_set2 ((heap_set2_ne (by omega)).trans EP3.out))
      have c2 := cell_of_heap q2
      have c3 := cell_of_heap q3
      have hbW : Below w.heap.size w W := by rw [hW]; (repeat with_reducible (first | exact bw0 _ _ | exact hBW | refine bw1 ?_ ?_ _ | refine bw2 ?_ ?_ _ | refine bw3 ?_ _ | refine bw4 ?_)); all_goals (first | omega | (dsimp only; omega) | ((repeat with_reducible (first | refine lz1 ?_ | refine lz2 ?_ | refine lz3 ?_ | refine lz4 ?_)); omega))
      clear hW
      refine bodyPost_ret (v := .tuple #[.agg #[.int .i64 xm, .int .i64 xe], .agg #[.int .i64 ym, .int .i64 ye], .int .i64 0]) (by simp [results, Tryz.results64, go_sem, c2, c3]) rfl ⟨by rw [HEND.out]; rfl, hbW⟩
    · have n2 : (yf != 0) = true := by simpa using hyf
      have HR3 : Hid (R = (((0, 0), (0, 0)), yf)) := by
        have := HR2.out
        rw [if_pos hyf] at this
        exact this
      clear hyf HR2
      go_wp2_with fail
      have HEND := HR3
      have hBW := HB2.out
      have EP2 := E2b
      have EP3 := E3b
      refine body_abs ?_
      intro W hW
      have q2 : W.heap[w.heap.size + 1 + 1]? = some (.cells #[.int .i64 0, .int .i64 0] 32 (0, 0)) := by
        rw [hW]
        exact (heap_set2_ne (by omega)).trans (heap_set2 ((heap_set2_ne (by omega)).trans EP2.out))
      have q3 : W.heap[w.heap.size + 1 + 1 + 1]? = some (.cells #[.int .i64 0, .int .i64 0] 32 (0, 0)) := by
        rw [hW]
        exact heap_set2 ((heap_set2_ne (by omega)).trans (heap_set2 EP3.out))
      have c2 := cell_of_heap q2
      have c3 := cell_of_heap q3
      have hbW : Below w.heap.size w W := by rw [hW]; (repeat with_reducible (first | exact bw0 _ _ | exact hBW | refine bw1 ?_ ?_ _ | refine bw2 ?_ ?_ _ | refine bw3 ?_ _ | refine bw4 ?_)); all_goals (first | omega | (dsimp only; omega) | ((repeat with_reducible (first | refine lz1 ?_ | refine lz2 ?_ | refine lz3 ?_ | refine lz4 ?_)); omega))
      clear hW
      refine bodyPost_ret (v := .tuple #[.agg #[.int .i64 0, .int .i64 0], .agg #[.int .i64 0, .int .i64 0], .int .i64 yf]) (by simp [results, Tryz.results64, go_sem, c2, c3]) rfl ⟨by rw [HEND.out]; rfl, hbW⟩
  · have n1 : (xf != 0) = true := by simpa using hxf
    have HR2 : Hid (R = (((0, 0), (0, 0)), xf)) := by
      have := HRR.out
      rw [if_pos hxf] at this
      exact this
    clear hxf HRR HX
    go_wp2_with fail
    have HEND := HR2
    have hBW := HB1.out
    have EP2 := E2
    have EP3 := E3
    refine body_abs ?_
    intro W hW
    have q2 : W.heap[w.heap.size + 1 + 1]? = some (.cells #[.int .i64 0, .int .i64 0] 32 (0, 0)) := by
      rw [hW]
      exact (heap_set2_ne (by omega)).trans (heap_set2 (heap_set2 EP2.out))
    have q3 : W.heap[w.heap.size + 1 + 1 + 1]? = some (.cells #[.int .i64 0, .int .i64 0] 32 (0, 0)) := by
      rw [hW]
      exact heap_set2 ((heap_set2_ne (by omega)).trans ((heap_set2_ne (by omega)).trans EP3.out))
    have c2 := cell_of_heap q2
    have c3 := cell_of_heap q3
    have hbW : Below w.heap.size w W := by rw [hW]; (repeat with_reducible (first | exact bw0 _ _ | exact hBW | refine bw1 ?_ ?_ _ | refine bw2 ?_ ?_ _ | refine bw3 ?_ _ | refine bw4 ?_)); all_goals (first | omega | (dsimp only; omega) | ((repeat with_reducible (first | refine lz1 ?_ | refine lz2 ?_ | refine lz3 ?_ | refine lz4 ?_)); omega))
    clear hW
    refine bodyPost_ret (v := .tuple #[.agg #[.int .i64 0, .int .i64 0], .agg #[.int .i64 0, .int .i64 0], .int .i64 xf]) (by simp [results, Tryz.results64, go_sem, c2, c3]) rfl ⟨by rw [HEND.out]; rfl, hbW⟩
end
theorem numbers_any (x y : V) (hx : refR x = true) (hy : refR y = true) (w : World) : Calls Tryz.prog 64 #[vagg x, vagg y] w (PPost w (pairR x y)) :=
  numbers_x w x y (toNum x) (toNum y) (pairR x y) (Lib.hid (ToNum_any x hx)) (Lib.hid (ToNum_any y hy)) rfl
end Go.Proofs.YtndhmahkglfopaaGreatDoor
