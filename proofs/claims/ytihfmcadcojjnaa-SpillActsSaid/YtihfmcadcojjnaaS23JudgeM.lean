/- judge where the rect lies on the board: the two loops. -/
import Derived.Test.YtihfmcadcojjnaaS23Judge
namespace Go.Proofs.Ytihfmcadcojjnaa
open Go.RowKit
set_option maxHeartbeats 1000000 in
set_option maxRecDepth 100000 in
theorem judge_main {w : World} {p : Nat} {S : Nat → Prop} {g : G} {bf ba bo : Nat} {sv : Value} (H : BdX w p S g bf ba bo sv) (r c rs cs : Int)
    (h1 : 0 ≤ r) (h2 : r < g.rows) (h3 : 0 ≤ c) (h4 : c < g.cols) (h5 : 1 ≤ rs) (h6 : rs ≤ 4096) (h7 : 1 ≤ cs) (h8 : cs ≤ 4096) (hb : beyond g r c rs cs = false) :
    Calls Try.prog 23 #[.pointer (some ⟨p, 0, none⟩), .agg #[.int .i64 r, .int .i64 c, .int .i64 rs, .int .i64 cs]] w fun e w' => e = .returned (verV (gJudge g r c rs cs)) ∧ Below w.heap.size w w' := by
  have b2 := H.b2
  have b4 := H.b4
  obtain ⟨c0, c1, c2, c3, c4, c5⟩ := H.cell
  have hp : p < w.heap.size := H.lt p H.sp
  have hp1 : p < w.heap.size + 1 := by omega
  have hp2 : p < w.heap.size + 1 + 1 := by omega
  have hA' : decide (g.rows - r < rs) = false := by unfold beyond at hb; simp at hb ⊢; omega
  have hB' : decide (g.cols - c < cs) = false := by unfold beyond at hb; simp at hb ⊢; omega
  have hw1 : IntKind.i64.wrap (g.rows - r) = g.rows - r := IntWalk.i64_in _ (by omega)
  have hw2 : IntKind.i64.wrap (g.cols - c) = g.cols - c := IntWalk.i64_in _ (by omega)
  clear c2 c3 c4 c5
  have HH := Lib.hid H
  have HB := Lib.hid hb
  clear H hb
  go_enter Try.func23, Try.ntmps23
  go_wp2
  go_quiet (fail)
  clear hw1 hw2 hA' hB'
  go_wp2
  refine abs_world ?_
  intro W0 hW0
  have hsz : W0.heap.size = w.heap.size + 4 := by rw [hW0]; simp
  have g0 : W0.heap[w.heap.size]? = some (.cells #[.int .i64 r, .int .i64 c, .int .i64 rs, .int .i64 cs] 38) := by
    rw [hW0]; (repeat (first | (with_reducible refine heap_alloc_at ?_ _; (first | rfl | (simp; done) | omega | (simp; omega)); done) | with_reducible refine heap_alloc_old ?_ _ | with_reducible refine heap_drew_old ?_ | with_reducible refine heap_drewN_old ?_))
  have g1 : W0.heap[w.heap.size + 1]? = some (.cells #[.int .i64 0, .int .i64 0, .int .i64 0, .int .i64 0, .bool false, .bool false, .int .i64 0, .int .i64 0] 75) := by
    rw [hW0]; (repeat (first | (with_reducible refine heap_alloc_at ?_ _; (first | rfl | (simp; done) | omega | (simp; omega)); done) | with_reducible refine heap_alloc_old ?_ _ | with_reducible refine heap_drew_old ?_ | with_reducible refine heap_drewN_old ?_))
  have g2 : W0.heap[w.heap.size + 1 + 1]? = some (.cells #[.int .i64 r, .int .i64 c, .int .i64 rs, .int .i64 cs, .bool false, .bool false, .int .i64 0, .int .i64 0] 75) := by
    rw [hW0]; (repeat (first | (with_reducible refine heap_alloc_at ?_ _; (first | rfl | (simp; done) | omega | (simp; omega)); done) | with_reducible refine heap_alloc_old ?_ _ | with_reducible refine heap_drew_old ?_ | with_reducible refine heap_drewN_old ?_))
  have g3 : W0.heap[w.heap.size + 1 + 1 + 1]? = some (.cells #[.int .i64 r, .int .i64 c] 72) := by
    rw [hW0]; (repeat (first | (with_reducible refine heap_alloc_at ?_ _; (first | rfl | (simp; done) | omega | (simp; omega)); done) | with_reducible refine heap_alloc_old ?_ _ | with_reducible refine heap_drew_old ?_ | with_reducible refine heap_drewN_old ?_))
  have gB : Below w.heap.size w W0 := by
    rw [hW0]
    (repeat (first | with_reducible exact Below.refl _ _ | with_reducible exact hBW | with_reducible refine Below.setCell ?_ ?_ _ | with_reducible refine Below.alloc ?_ ?_ _ | with_reducible refine belowN ?_ _ | with_reducible refine Below.drew ?_)); all_goals (first | omega | (dsimp only; omega) | ((repeat (first | with_reducible refine le_alloc ?_ | with_reducible refine le_setCell ?_ | with_reducible refine le_drew ?_ | with_reducible refine le_drewN ?_)); omega))
  clear hW0 c0 c1 hp1 hp2
  go_loopw [44] (fun i wr => ∃ k : Nat, i = .int .i64 k ∧ (k : Int) ≤ rs ∧ Below W0.heap.size W0 wr ∧ Hid (Free g (r, c, rs, cs) (cellsOf r c k cs.toNat))) (fun i _ => rs.toNat - (intOf i).toNat)
  case atStart => exact ⟨0, rfl, by omega, Below.refl _ _, fun x hx => by simp [cellsOf] at hx⟩
  case round =>
    obtain ⟨k, rfl, hk, hBw, hF⟩ := hrel
    have l0 := bcellB hBw (w.heap.size) 0 (by omega)
    have l1 := bcellB hBw (w.heap.size) 1 (by omega)
    have l2 := bcellB hBw (w.heap.size) 2 (by omega)
    have l3 := bcellB hBw (w.heap.size) 3 (by omega)
    rw [cell_of_heap g0] at l0 l1 l2 l3
    by_cases hlt : (k : Int) < rs
    · go_wp2
      obtain ⟨wo, rfl⟩ : ∃ wo : World, wo = wr := ⟨_, rfl⟩
      go_loopw [49] (fun i wr => ∃ j : Nat, i = .int .i64 j ∧ (j : Int) ≤ cs ∧ Below W0.heap.size W0 wr ∧ Hid (Free g (r, c, rs, cs) (rowOf r c j k))) (fun i _ => cs.toNat - (intOf i).toNat)
      case atStart => exact ⟨0, rfl, by omega, hBw, fun x hx => by simp [rowOf] at hx⟩
      case round =>
        obtain ⟨j, rfl, hj, hBr, hG⟩ := hrel
        clear l0 l1 l2 l3
        have m0 := bcellB hBr (w.heap.size) 0 (by omega)
        have m1 := bcellB hBr (w.heap.size) 1 (by omega)
        have m2 := bcellB hBr (w.heap.size) 2 (by omega)
        have m3 := bcellB hBr (w.heap.size) 3 (by omega)
        rw [cell_of_heap g0] at m0 m1 m2 m3
        by_cases hjt : (j : Int) < cs
        · go_wp2
          refine abs_world ?_
          intro W1 hW1
          have hs1 : W1.heap.size = wr.heap.size + 1 := by rw [hW1]; simp
          have e1 : W1.heap[wr.heap.size]? = some (.cells #[.int .i64 (r + (k : Int)), .int .i64 (c + (j : Int))] 72) := by rw [hW1]; (repeat (first | (with_reducible refine heap_alloc_at ?_ _; (first | rfl | (simp; done) | omega | (simp; omega)); done) | with_reducible refine heap_alloc_old ?_ _ | with_reducible refine heap_drew_old ?_ | with_reducible refine heap_drewN_old ?_))
          have hB1 : Below W0.heap.size W0 W1 := by rw [hW1]; exact hBr.alloc hBr.size _
          have hwr : W0.heap.size ≤ wr.heap.size := hBr.size
          clear hW1 m0 m1 m2 m3
          have H1 := HH.out.below (gB.trans (hB1.mono (by omega)))
          obtain ⟨c0, c1, c2, c3, c4, c5⟩ := H1.cell
          have hp1 : p < W1.heap.size := by omega
          have hpc : wr.heap.size < W1.heap.size := by omega
          have p0 := cell_of_heap e1 0
          have p1 := cell_of_heap e1 1
          obtain ⟨ob, o1, o2, o3, o4, hl, HO⟩ : ∃ (ob : Bool) (o1 o2 o3 o4 : Int), (∀ W, Below W1.heap.size W1 W → (Instr.lookup 66 (.map (some bo)) (.agg #[.int .i64 (r + (k : Int)), .int .i64 (c + (j : Int))]) true).run Try.prog W = .ok (.tuple #[.agg #[.int .i64 o1, .int .i64 o2, .int .i64 o3, .int .i64 o4], .bool ob]) W) ∧ Hid (getL g.O (r + (k : Int), c + (j : Int)) = if ob then some (o1, o2, o3, o4) else none) := by
            have hl : ∀ W, Below W1.heap.size W1 W → (Instr.lookup 66 (.map (some bo)) (.agg #[.int .i64 (r + (k : Int)), .int .i64 (c + (j : Int))]) true).run Try.prog W = .ok (.tuple #[((getL g.O (r + (k : Int), c + (j : Int))).map encR).getD (encR (0, 0, 0, 0)), .bool (getL g.O (r + (k : Int), c + (j : Int))).isSome]) W := fun W hW =>
              (H1.mo.of_block (hW.block bo H1.mo.lt)).look2 place_fits Try.underlying66 (zero38 W) (r + (k : Int), c + (j : Int))
            cases hO : getL g.O (r + (k : Int), c + (j : Int)) with
            | none => exact ⟨false, 0, 0, 0, 0, fun W hW => by rw [hl W hW, hO]; rfl, rfl⟩
            | some o => exact ⟨true, o.1, o.2.1, o.2.2.1, o.2.2.2, fun W hW => by rw [hl W hW, hO]; rfl, rfl⟩
          have H1' := Lib.hid H1
          have Hs1 := Lib.hid hs1
          clear H1 hs1
          refine wp_region_mix [0, 1, 2, 3, 4, 5, 6, 7, 8] [9, 10, 11] [11] (Below W1.heap.size W1) (by kernel_rfl) (by kernel_rfl) (Below.refl _ _).drew ?_
          iterate 9 (first | (apply first_step; (rw [List.getElem?_toArray]; (repeat rw [List.getElem?_cons_succ]); rw [List.getElem?_cons_zero]); rfl; (intro W hB; have hc := bcellB hB; go_simp; (first | done | rfl)); go_frame) | (apply first_skip; (rw [List.getElem?_toArray]; (repeat rw [List.getElem?_cons_succ]); rw [List.getElem?_cons_zero]); rfl; go_frame))
          refine first_done ?_
          (apply tail_step; (rw [List.getElem?_toArray]; (repeat rw [List.getElem?_cons_succ]); rw [List.getElem?_cons_zero]); rfl; rfl; intro K hK; go_simp; refine hK _ _ ?_ ?_; (focus (first | (intro h; exact absurd (by decide) h) | (intro _; clear hK; (repeat (first | with_reducible exact Below.refl _ _ | with_reducible exact hBW | with_reducible refine Below.setCell ?_ ?_ _ | with_reducible refine Below.alloc ?_ ?_ _ | with_reducible refine belowN ?_ _ | with_reducible refine Below.drew ?_)); all_goals (first | omega | (dsimp only; omega) | ((repeat (first | with_reducible refine le_alloc ?_ | with_reducible refine le_setCell ?_ | with_reducible refine le_drew ?_ | with_reducible refine le_drewN ?_)); omega))))); clear hK K)
          (apply tail_step; (rw [List.getElem?_toArray]; (repeat rw [List.getElem?_cons_succ]); rw [List.getElem?_cons_zero]); rfl; rfl; intro K hK; go_simp; refine hK _ _ ?_ ?_; (focus (first | (intro h; exact absurd (by decide) h) | (intro _; clear hK; (repeat (first | with_reducible exact Below.refl _ _ | with_reducible exact hBW | with_reducible refine Below.setCell ?_ ?_ _ | with_reducible refine Below.alloc ?_ ?_ _ | with_reducible refine belowN ?_ _ | with_reducible refine Below.drew ?_)); all_goals (first | omega | (dsimp only; omega) | ((repeat (first | with_reducible refine le_alloc ?_ | with_reducible refine le_setCell ?_ | with_reducible refine le_drew ?_ | with_reducible refine le_drewN ?_)); omega))))); clear hK K)
          (apply tail_step; (rw [List.getElem?_toArray]; (repeat rw [List.getElem?_cons_succ]); rw [List.getElem?_cons_zero]); rfl; rfl; intro K hK; go_simp; refine hK _ _ ?_ ?_; (focus (first | (intro h; exact absurd (by decide) h) | (intro _; clear hK; (repeat (first | with_reducible exact Below.refl _ _ | with_reducible exact hBW | with_reducible refine Below.setCell ?_ ?_ _ | with_reducible refine Below.alloc ?_ ?_ _ | with_reducible refine belowN ?_ _ | with_reducible refine Below.drew ?_)); all_goals (first | omega | (dsimp only; omega) | ((repeat (first | with_reducible refine le_alloc ?_ | with_reducible refine le_setCell ?_ | with_reducible refine le_drew ?_ | with_reducible refine le_drewN ?_)); omega))))); clear hK K)
          refine tail_done ?_
          go_wp2
          refine abs_world ?_
          intro W2 hW2
          have hs2 : W2.heap.size = W1.heap.size + 1 := by rw [hW2]; simp
          have e2 : W2.heap[W1.heap.size]? = some (.cells #[.int .i64 o1, .int .i64 o2, .int .i64 o3, .int .i64 o4] 38) := by rw [hW2]; (repeat (first | (with_reducible refine heap_alloc_at ?_ _; (first | rfl | (simp; done) | omega | (simp; omega)); done) | with_reducible refine heap_alloc_old ?_ _ | with_reducible refine heap_drew_old ?_ | with_reducible refine heap_drewN_old ?_))
          have hB2 : Below W1.heap.size W1 W2 := by rw [hW2]; (repeat (first | with_reducible exact Below.refl _ _ | with_reducible exact hBW | with_reducible refine Below.setCell ?_ ?_ _ | with_reducible refine Below.alloc ?_ ?_ _ | with_reducible refine belowN ?_ _ | with_reducible refine Below.drew ?_)); all_goals (first | omega | (dsimp only; omega) | ((repeat (first | with_reducible refine le_alloc ?_ | with_reducible refine le_setCell ?_ | with_reducible refine le_drew ?_ | with_reducible refine le_drewN ?_)); omega))
          clear hW2 hl c0 c1 c2 c3 c4 c5 p0 p1
          have e1' := (hB2.block _ hpc).trans e1
          have hB3 : Below W0.heap.size W0 W2 := hB1.trans (hB2.mono (by have := Hs1.out; omega))
          have H2 := H1'.out.below hB2
          obtain ⟨c0, c1, c2, c3, c4, c5⟩ := H2.cell
          have f0 := (hB3.block (w.heap.size) (by omega)).trans g0
          have f1 := (hB3.block (w.heap.size + 1) (by omega)).trans g1
          have f2 := (hB3.block (w.heap.size + 1 + 1) (by omega)).trans g2
          have f3 := (hB3.block (w.heap.size + 1 + 1 + 1) (by omega)).trans g3
          have a1 := cell_of_heap f0 0
          have a2 := cell_of_heap f0 1
          have a3 := cell_of_heap f0 2
          have a4 := cell_of_heap f0 3
          have q1 := cell_of_heap e2 0
          have q2 := cell_of_heap e2 1
          have q3 := cell_of_heap e2 2
          have q4 := cell_of_heap e2 3
          have p0 := cell_of_heap e1' 0
          have p1 := cell_of_heap e1' 1
          have n0 := cell_of_heap f3 0
          have n1 := cell_of_heap f3 1
          have z1 : w.heap.size < W2.heap.size := by have := Hs1.out; omega
          have z2 : w.heap.size + 1 + 1 + 1 < W2.heap.size := by have := Hs1.out; omega
          have z3 : W1.heap.size < W2.heap.size := by omega
          have z4 : wr.heap.size < W2.heap.size := by omega
          have z5 : p < W2.heap.size := by omega
          have hl2 : ∀ W, Below W2.heap.size W2 W → (Instr.lookup 64 (.map (some bf)) (.agg #[.int .i64 (r + (k : Int)), .int .i64 (c + (j : Int))]) false).run Try.prog W = .ok (((getL g.F (r + (k : Int), c + (j : Int))).map Value.bool).getD (.bool false)) W := fun W hW =>
            (H2.mf.of_block (hW.block bf H2.mf.lt)).look1 place_fits Try.underlying64 (zero4 W) (r + (k : Int), c + (j : Int))
          obtain ⟨fb, hl3, HF⟩ : ∃ fb : Bool, (∀ W, Below W2.heap.size W2 W → (Instr.lookup 64 (.map (some bf)) (.agg #[.int .i64 (r + (k : Int)), .int .i64 (c + (j : Int))]) false).run Try.prog W = .ok (.bool fb) W) ∧ Hid ((getL g.F (r + (k : Int), c + (j : Int))).getD false = fb) := by
            cases hF : getL g.F (r + (k : Int), c + (j : Int)) with
            | none => exact ⟨false, fun W hW => by rw [hl2 W hW, hF]; rfl, rfl⟩
            | some o => exact ⟨o, fun W hW => by rw [hl2 W hW, hF]; rfl, rfl⟩
          have Hs2 := Lib.hid hs2
          have H2' := Lib.hid H2
          clear hl2 hs2 H2 hB1 c3 c4 c5 e1
          by_cases hA : ob = true ∧ (o1, o2, o3, o4) ≠ (r, c, rs, cs)
          · obtain ⟨rfl, hne⟩ := hA
            have hneq : ∀ W, (binOp .neq 38 (.agg #[.int .i64 o1, .int .i64 o2, .int .i64 o3, .int .i64 o4]) (.agg #[.int .i64 r, .int .i64 c, .int .i64 rs, .int .i64 cs])).run Try.prog W = .ok (.bool true) W := fun W => by
              have := neq_rect W (o1, o2, o3, o4) (r, c, rs, cs)
              rw [decide_eq_true hne] at this
              exact this
            have HX : Hid (blocked g (r, c, rs, cs) (r + (k : Int), c + (j : Int)) = true) := by
              have := HO.out
              simp only [if_true] at this
              unfold Hid blocked
              rw [this]
              simp [hne]
            clear hne hl3
            refine wp_region_mix [0, 1, 2, 3, 4, 5, 6, 7, 8, 9, 10, 11, 12, 13, 14, 15, 16, 17, 18] [] [] (Below W2.heap.size W2) (by kernel_rfl) (by kernel_rfl) (Below.refl _ _).drew ?_; (iterate 19 (first | (apply first_step; (rw [List.getElem?_toArray]; (repeat rw [List.getElem?_cons_succ]); rw [List.getElem?_cons_zero]); rfl; (intro W hB; have hc := bcellB hB; go_simp; (first | done | rfl)); go_frame) | (apply first_skip; (rw [List.getElem?_toArray]; (repeat rw [List.getElem?_cons_succ]); rw [List.getElem?_cons_zero]); rfl; go_frame))); refine first_done ?_; refine tail_done ?_
            go_wp2
            have r1 := cell_of_heap f1
            have r2 := cell_of_heap f2
            have y1 := frozen_of_heap f1
            have y2 := frozen_of_heap f2
            clear a1 a2 a3 a4 q1 q2 q3 q4 n0 n1 c0 c1 c2
            have hx : wr.heap.size ≠ w.heap.size + 1 + 1 := by omega
            have hx1 : wr.heap.size ≠ w.heap.size + 1 := by omega
            refine wp_region_mix [0, 1] [2, 3, 4] [3, 4] (fun W => W.cell? ⟨wr.heap.size, 0, none⟩ = some (.int .i64 (r + (k : Int))) ∧ W.cell? ⟨wr.heap.size, 1, none⟩ = some (.int .i64 (c + (j : Int)))) (by kernel_rfl) (by kernel_rfl) ⟨p0, p1⟩ ?_
            apply first_step; (rw [List.getElem?_toArray]; (repeat rw [List.getElem?_cons_succ]); rw [List.getElem?_cons_zero]); rfl; (rintro W ⟨u0, u1⟩; go_simp; (first | done | rfl)); go_frame
            apply first_step; (rw [List.getElem?_toArray]; (repeat rw [List.getElem?_cons_succ]); rw [List.getElem?_cons_zero]); rfl; (rintro W ⟨u0, u1⟩; go_simp; (first | done | rfl)); go_frame
            refine first_done ?_
            apply tail_step; (rw [List.getElem?_toArray]; (repeat rw [List.getElem?_cons_succ]); rw [List.getElem?_cons_zero]); rfl; rfl; intro K hK; go_simp; refine hK _ _ ?_ ?_; (focus (intro _; clear hK; refine ⟨?_, ?_⟩ <;> (go_simp))); clear hK K
            apply tail_step; (rw [List.getElem?_toArray]; (repeat rw [List.getElem?_cons_succ]); rw [List.getElem?_cons_zero]); rfl; rfl; intro K hK; go_simp; refine hK _ _ (fun h => absurd (by decide) h) ?_; clear hK K
            apply tail_step; (rw [List.getElem?_toArray]; (repeat rw [List.getElem?_cons_succ]); rw [List.getElem?_cons_zero]); rfl; rfl; intro K hK; go_simp; refine hK _ _ (fun h => absurd (by decide) h) ?_; clear hK K
            refine tail_done ?_
            go_wp2
            have hBW : Below w.heap.size w W2 := gB.trans (hB3.mono (by omega))
            rw [judge_found HB.out (i := k) (j := j) (by omega) (by omega) hF.out hG.out HX.out]
            refine bodyPost_ret (v := verV ⟨r, c, rs, cs, false, true, r + (k : Int), c + (j : Int)⟩) (by simp [results, Try.results23, go_sem, verV, r1]) rfl ⟨rfl, ?_⟩
            go_light
            (repeat (first | with_reducible exact Below.refl _ _ | with_reducible exact hBW | with_reducible refine Below.setCell ?_ ?_ _ | with_reducible refine Below.alloc ?_ ?_ _ | with_reducible refine belowN ?_ _ | with_reducible refine Below.drew ?_)); all_goals (first | omega | (dsimp only; omega) | ((repeat (first | with_reducible refine le_alloc ?_ | with_reducible refine le_setCell ?_ | with_reducible refine le_drew ?_ | with_reducible refine le_drewN ?_)); omega))
          · have hneq : ob = true → ∀ W, (binOp .neq 38 (.agg #[.int .i64 o1, .int .i64 o2, .int .i64 o3, .int .i64 o4]) (.agg #[.int .i64 r, .int .i64 c, .int .i64 rs, .int .i64 cs])).run Try.prog W = .ok (.bool false) W := fun ho W => by
              have hno : ¬ (o1, o2, o3, o4) ≠ (r, c, rs, cs) := fun h => hA ⟨ho, h⟩
              have := neq_rect W (o1, o2, o3, o4) (r, c, rs, cs)
              rw [decide_eq_false hno] at this
              exact this
            have HY : Hid (∀ b : Bool, ((getL g.F (r + (k : Int), c + (j : Int))).getD false && decide ((r + (k : Int), c + (j : Int)) ≠ (r, c))) = b → blocked g (r, c, rs, cs) (r + (k : Int), c + (j : Int)) = b) := by
              intro b hb
              have := HO.out
              unfold blocked
              rw [this]
              cases ob with
              | true =>
                have hno : ¬ (o1, o2, o3, o4) ≠ (r, c, rs, cs) := fun h => hA ⟨rfl, h⟩
                simp only [if_true]
                rw [decide_eq_false hno]
                simpa using hb
              | false => simpa using hb
            by_cases hC : fb = true ∧ (r + (k : Int), c + (j : Int)) ≠ (r, c)
            · obtain ⟨rfl, hne⟩ := hC
              have hpq : ∀ W, (binOp .neq 72 (.agg #[.int .i64 (r + (k : Int)), .int .i64 (c + (j : Int))]) (.agg #[.int .i64 r, .int .i64 c])).run Try.prog W = .ok (.bool true) W := fun W => by
                have := neq_place W (r + (k : Int), c + (j : Int)) (r, c)
                rw [decide_eq_true hne] at this
                exact this
              have HX : Hid (blocked g (r, c, rs, cs) (r + (k : Int), c + (j : Int)) = true) := HY.out true (by rw [HF.out, decide_eq_true hne]; rfl)
              clear hA HY hne
              cases ob with
              | true =>
                have hneq := hneq rfl
                refine wp_region_mix [0, 1, 2, 3, 4, 5, 6, 7, 8, 9, 10, 11, 12, 13, 14, 15, 16, 17, 18] [] [] (Below W2.heap.size W2) (by kernel_rfl) (by kernel_rfl) (Below.refl _ _).drew ?_; (iterate 19 (first | (apply first_step; (rw [List.getElem?_toArray]; (repeat rw [List.getElem?_cons_succ]); rw [List.getElem?_cons_zero]); rfl; (intro W hB; have hc := bcellB hB; go_simp; (first | done | rfl)); go_frame) | (apply first_skip; (rw [List.getElem?_toArray]; (repeat rw [List.getElem?_cons_succ]); rw [List.getElem?_cons_zero]); rfl; go_frame))); refine first_done ?_; refine tail_done ?_
                go_wp2
                have r1 := cell_of_heap f1
                have r2 := cell_of_heap f2
                have y1 := frozen_of_heap f1
                have y2 := frozen_of_heap f2
                clear a1 a2 a3 a4 q1 q2 q3 q4 n0 n1 c0 c1 c2
                have hx : wr.heap.size ≠ w.heap.size + 1 + 1 := by omega
                have hx1 : wr.heap.size ≠ w.heap.size + 1 := by omega
                refine wp_region_mix [0, 1] [2, 3, 4] [3, 4] (fun W => W.cell? ⟨wr.heap.size, 0, none⟩ = some (.int .i64 (r + (k : Int))) ∧ W.cell? ⟨wr.heap.size, 1, none⟩ = some (.int .i64 (c + (j : Int)))) (by kernel_rfl) (by kernel_rfl) ⟨p0, p1⟩ ?_
                apply first_step; (rw [List.getElem?_toArray]; (repeat rw [List.getElem?_cons_succ]); rw [List.getElem?_cons_zero]); rfl; (rintro W ⟨u0, u1⟩; go_simp; (first | done | rfl)); go_frame
                apply first_step; (rw [List.getElem?_toArray]; (repeat rw [List.getElem?_cons_succ]); rw [List.getElem?_cons_zero]); rfl; (rintro W ⟨u0, u1⟩; go_simp; (first | done | rfl)); go_frame
                refine first_done ?_
                apply tail_step; (rw [List.getElem?_toArray]; (repeat rw [List.getElem?_cons_succ]); rw [List.getElem?_cons_zero]); rfl; rfl; intro K hK; go_simp; refine hK _ _ ?_ ?_; (focus (intro _; clear hK; refine ⟨?_, ?_⟩ <;> (go_simp))); clear hK K
                apply tail_step; (rw [List.getElem?_toArray]; (repeat rw [List.getElem?_cons_succ]); rw [List.getElem?_cons_zero]); rfl; rfl; intro K hK; go_simp; refine hK _ _ (fun h => absurd (by decide) h) ?_; clear hK K
                apply tail_step; (rw [List.getElem?_toArray]; (repeat rw [List.getElem?_cons_succ]); rw [List.getElem?_cons_zero]); rfl; rfl; intro K hK; go_simp; refine hK _ _ (fun h => absurd (by decide) h) ?_; clear hK K
                refine tail_done ?_
                go_wp2
                have hBW : Below w.heap.size w W2 := gB.trans (hB3.mono (by omega))
                rw [judge_found HB.out (i := k) (j := j) (by omega) (by omega) hF.out hG.out HX.out]
                refine bodyPost_ret (v := verV ⟨r, c, rs, cs, false, true, r + (k : Int), c + (j : Int)⟩) (by simp [results, Try.results23, go_sem, verV, r1]) rfl ⟨rfl, ?_⟩
                go_light
                (repeat (first | with_reducible exact Below.refl _ _ | with_reducible exact hBW | with_reducible refine Below.setCell ?_ ?_ _ | with_reducible refine Below.alloc ?_ ?_ _ | with_reducible refine belowN ?_ _ | with_reducible refine Below.drew ?_)); all_goals (first | omega | (dsimp only; omega) | ((repeat (first | with_reducible refine le_alloc ?_ | with_reducible refine le_setCell ?_ | with_reducible refine le_drew ?_ | with_reducible refine le_drewN ?_)); omega))
              | false =>
                clear hneq
                refine wp_region_mix [0, 1, 2, 3, 4, 5, 6, 7, 8, 9, 10, 11, 12, 13, 14, 15, 16, 17, 18] [] [] (Below W2.heap.size W2) (by kernel_rfl) (by kernel_rfl) (Below.refl _ _).drew ?_; (iterate 19 (first | (apply first_step; (rw [List.getElem?_toArray]; (repeat rw [List.getElem?_cons_succ]); rw [List.getElem?_cons_zero]); rfl; (intro W hB; have hc := bcellB hB; go_simp; (first | done | rfl)); go_frame) | (apply first_skip; (rw [List.getElem?_toArray]; (repeat rw [List.getElem?_cons_succ]); rw [List.getElem?_cons_zero]); rfl; go_frame))); refine first_done ?_; refine tail_done ?_
                go_wp2
                have r1 := cell_of_heap f1
                have r2 := cell_of_heap f2
                have y1 := frozen_of_heap f1
                have y2 := frozen_of_heap f2
                clear a1 a2 a3 a4 q1 q2 q3 q4 n0 n1 c0 c1 c2
                have hx : wr.heap.size ≠ w.heap.size + 1 + 1 := by omega
                have hx1 : wr.heap.size ≠ w.heap.size + 1 := by omega
                refine wp_region_mix [0, 1] [2, 3, 4] [3, 4] (fun W => W.cell? ⟨wr.heap.size, 0, none⟩ = some (.int .i64 (r + (k : Int))) ∧ W.cell? ⟨wr.heap.size, 1, none⟩ = some (.int .i64 (c + (j : Int)))) (by kernel_rfl) (by kernel_rfl) ⟨p0, p1⟩ ?_
                apply first_step; (rw [List.getElem?_toArray]; (repeat rw [List.getElem?_cons_succ]); rw [List.getElem?_cons_zero]); rfl; (rintro W ⟨u0, u1⟩; go_simp; (first | done | rfl)); go_frame
                apply first_step; (rw [List.getElem?_toArray]; (repeat rw [List.getElem?_cons_succ]); rw [List.getElem?_cons_zero]); rfl; (rintro W ⟨u0, u1⟩; go_simp; (first | done | rfl)); go_frame
                refine first_done ?_
                apply tail_step; (rw [List.getElem?_toArray]; (repeat rw [List.getElem?_cons_succ]); rw [List.getElem?_cons_zero]); rfl; rfl; intro K hK; go_simp; refine hK _ _ ?_ ?_; (focus (intro _; clear hK; refine ⟨?_, ?_⟩ <;> (go_simp))); clear hK K
                apply tail_step; (rw [List.getElem?_toArray]; (repeat rw [List.getElem?_cons_succ]); rw [List.getElem?_cons_zero]); rfl; rfl; intro K hK; go_simp; refine hK _ _ (fun h => absurd (by decide) h) ?_; clear hK K
                apply tail_step; (rw [List.getElem?_toArray]; (repeat rw [List.getElem?_cons_succ]); rw [List.getElem?_cons_zero]); rfl; rfl; intro K hK; go_simp; refine hK _ _ (fun h => absurd (by decide) h) ?_; clear hK K
                refine tail_done ?_
                go_wp2
                have hBW : Below w.heap.size w W2 := gB.trans (hB3.mono (by omega))
                rw [judge_found HB.out (i := k) (j := j) (by omega) (by omega) hF.out hG.out HX.out]
                refine bodyPost_ret (v := verV ⟨r, c, rs, cs, false, true, r + (k : Int), c + (j : Int)⟩) (by simp [results, Try.results23, go_sem, verV, r1]) rfl ⟨rfl, ?_⟩
                go_light
                (repeat (first | with_reducible exact Below.refl _ _ | with_reducible exact hBW | with_reducible refine Below.setCell ?_ ?_ _ | with_reducible refine Below.alloc ?_ ?_ _ | with_reducible refine belowN ?_ _ | with_reducible refine Below.drew ?_)); all_goals (first | omega | (dsimp only; omega) | ((repeat (first | with_reducible refine le_alloc ?_ | with_reducible refine le_setCell ?_ | with_reducible refine le_drew ?_ | with_reducible refine le_drewN ?_)); omega))
            · have HX : Hid (blocked g (r, c, rs, cs) (r + (k : Int), c + (j : Int)) = false) := HY.out false (by
                rw [HF.out]
                cases fb with
                | true => simpa using fun h => hC ⟨rfl, h⟩
                | false => rfl)
              have hpq : fb = true → ∀ W, (binOp .neq 72 (.agg #[.int .i64 (r + (k : Int)), .int .i64 (c + (j : Int))]) (.agg #[.int .i64 r, .int .i64 c])).run Try.prog W = .ok (.bool false) W := fun hf W => by
                have hno : ¬ (r + (k : Int), c + (j : Int)) ≠ (r, c) := fun h => hC ⟨hf, h⟩
                have := neq_place W (r + (k : Int), c + (j : Int)) (r, c)
                rw [decide_eq_false hno] at this
                exact this
              clear hA HY hC
              cases ob with
              | true =>
                have hneq := hneq rfl
                cases fb with
                | true =>
                  have hpq := hpq rfl
                  refine wp_region_mix [0, 1, 2, 3, 4, 5, 6, 7, 8, 9, 10, 11, 12, 13, 14, 15, 16, 17, 18] [] [] (Below W2.heap.size W2) (by kernel_rfl) (by kernel_rfl) (Below.refl _ _).drew ?_; (iterate 19 (first | (apply first_step; (rw [List.getElem?_toArray]; (repeat rw [List.getElem?_cons_succ]); rw [List.getElem?_cons_zero]); rfl; (intro W hB; have hc := bcellB hB; go_simp; (first | done | rfl)); go_frame) | (apply first_skip; (rw [List.getElem?_toArray]; (repeat rw [List.getElem?_cons_succ]); rw [List.getElem?_cons_zero]); rfl; go_frame))); refine first_done ?_; refine tail_done ?_
                  go_wp2
                  go_roundw
                  case rel => exact ⟨j + 1, by go_num, by omega, hB3.drew, Free.row hG.out HX.out⟩
                  case measure => simp [intOf]; omega
                | false =>
                  clear hpq
                  refine wp_region_mix [0, 1, 2, 3, 4, 5, 6, 7, 8, 9, 10, 11, 12, 13, 14, 15, 16, 17, 18] [] [] (Below W2.heap.size W2) (by kernel_rfl) (by kernel_rfl) (Below.refl _ _).drew ?_; (iterate 19 (first | (apply first_step; (rw [List.getElem?_toArray]; (repeat rw [List.getElem?_cons_succ]); rw [List.getElem?_cons_zero]); rfl; (intro W hB; have hc := bcellB hB; go_simp; (first | done | rfl)); go_frame) | (apply first_skip; (rw [List.getElem?_toArray]; (repeat rw [List.getElem?_cons_succ]); rw [List.getElem?_cons_zero]); rfl; go_frame))); refine first_done ?_; refine tail_done ?_
                  go_wp2
                  go_roundw
                  case rel => exact ⟨j + 1, by go_num, by omega, hB3.drew, Free.row hG.out HX.out⟩
                  case measure => simp [intOf]; omega
              | false =>
                clear hneq
                cases fb with
                | true =>
                  have hpq := hpq rfl
                  refine wp_region_mix [0, 1, 2, 3, 4, 5, 6, 7, 8, 9, 10, 11, 12, 13, 14, 15, 16, 17, 18] [] [] (Below W2.heap.size W2) (by kernel_rfl) (by kernel_rfl) (Below.refl _ _).drew ?_; (iterate 19 (first | (apply first_step; (rw [List.getElem?_toArray]; (repeat rw [List.getElem?_cons_succ]); rw [List.getElem?_cons_zero]); rfl; (intro W hB; have hc := bcellB hB; go_simp; (first | done | rfl)); go_frame) | (apply first_skip; (rw [List.getElem?_toArray]; (repeat rw [List.getElem?_cons_succ]); rw [List.getElem?_cons_zero]); rfl; go_frame))); refine first_done ?_; refine tail_done ?_
                  go_wp2
                  go_roundw
                  case rel => exact ⟨j + 1, by go_num, by omega, hB3.drew, Free.row hG.out HX.out⟩
                  case measure => simp [intOf]; omega
                | false =>
                  clear hpq
                  refine wp_region_mix [0, 1, 2, 3, 4, 5, 6, 7, 8, 9, 10, 11, 12, 13, 14, 15, 16, 17, 18] [] [] (Below W2.heap.size W2) (by kernel_rfl) (by kernel_rfl) (Below.refl _ _).drew ?_; (iterate 19 (first | (apply first_step; (rw [List.getElem?_toArray]; (repeat rw [List.getElem?_cons_succ]); rw [List.getElem?_cons_zero]); rfl; (intro W hB; have hc := bcellB hB; go_simp; (first | done | rfl)); go_frame) | (apply first_skip; (rw [List.getElem?_toArray]; (repeat rw [List.getElem?_cons_succ]); rw [List.getElem?_cons_zero]); rfl; go_frame))); refine first_done ?_; refine tail_done ?_
                  go_wp2
                  go_roundw
                  case rel => exact ⟨j + 1, by go_num, by omega, hB3.drew, Free.row hG.out HX.out⟩
                  case measure => simp [intOf]; omega
        · have HF2 : Hid (Free g (r, c, rs, cs) (cellsOf r c (k + 1) cs.toNat)) := Free.cells hF.out (by
            have := hG.out
            rwa [show cs.toNat = j by omega])
          go_wp2
          go_roundw
          case rel => exact ⟨k + 1, by go_num, by omega, hBr, HF2⟩
          case measure => simp [intOf]; omega
    · have HJ := Lib.hid (judge_free HB.out (by
        have := hF.out
        rwa [show k = rs.toNat by omega] at this))
      have f1 := (hBw.block (w.heap.size + 1) (by omega)).trans g1
      have f2 := (hBw.block (w.heap.size + 1 + 1) (by omega)).trans g2
      have r1 := cell_of_heap f1
      have r2 := cell_of_heap f2
      have y1 := frozen_of_heap f1
      have y2 := frozen_of_heap f2
      have hBW : Below w.heap.size w wr := gB.trans (hBw.mono (by omega))
      go_wp2
      rw [HJ.out]
      refine bodyPost_ret (v := verV ⟨r, c, rs, cs, true, false, 0, 0⟩) (by simp [results, Try.results23, go_sem, verV, r1]) rfl ⟨rfl, ?_⟩
      go_light
      (repeat (first | with_reducible exact Below.refl _ _ | with_reducible exact hBW | with_reducible refine Below.setCell ?_ ?_ _ | with_reducible refine Below.alloc ?_ ?_ _ | with_reducible refine belowN ?_ _ | with_reducible refine Below.drew ?_)); all_goals (first | omega | (dsimp only; omega) | ((repeat (first | with_reducible refine le_alloc ?_ | with_reducible refine le_setCell ?_ | with_reducible refine le_drew ?_ | with_reducible refine le_drewN ?_)); omega))
end Go.Proofs.Ytihfmcadcojjnaa
