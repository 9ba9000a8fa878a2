/- SpillTurned, the rects apart. -/
import Derived.Test.YtihfmcadcojjnaaS23Turn1
namespace Go.Proofs.Ytihfmcadcojjnaa
open Go.RowKit
set_option maxHeartbeats 2000000 in
set_option maxRecDepth 100000 in
theorem turned_main2 (af cf : Bool) (ar ac ars acs cr cc crs ccs : Int) (fa : Option Addr) (fcap : Nat) (l : List P2) (w : World) (hl : l.length ≤ 60) (h1 : 0 ≤ ar) (h2 : 0 ≤ ac) (h3 : 0 ≤ cr) (h4 : 0 ≤ cc) (h5 : ar ≤ 12) (h6 : ac ≤ 12) (h7 : cr ≤ 12) (h8 : cc ≤ 12) (h9 : 1 ≤ ars) (h10 : 1 ≤ acs) (h11 : 1 ≤ crs) (h12 : 1 ≤ ccs) (h13 : ars ≤ 12) (h14 : acs ≤ 12) (h15 : crs ≤ 12) (h16 : ccs ≤ 12) (hP : PairsAt w fa l) (k1 : ar < cr + crs) (k2 : cr < ar + ars) (k3 : decide (ac < cc + ccs) = false) :
    Calls Try.prog 3 #[.agg #[.bool af, .int .i64 ar, .int .i64 ac, .int .i64 ars, .int .i64 acs], .agg #[.bool cf, .int .i64 cr, .int .i64 cc, .int .i64 crs, .int .i64 ccs], .slice fa l.length fcap] w fun e w' => e = .returned (.bool true) ∧ Below w.heap.size w w' := by
  have HD : Hid (¬ (ar < cr + crs ∧ cr < ar + ars ∧ ac < cc + ccs ∧ cc < ac + acs)) := by
    have h : ¬ (ac < cc + ccs) := by simpa using k3
    exact fun h' => h (by omega)
  have HP := Lib.hid hP
  clear hP
  go_enter Try.func3, Try.ntmps3
  go_wp2_with fail
  refine (awake_any _).mono ?_
  rintro e w1 ⟨rfl, hb⟩
  have hs1 : w.heap.size + 2 ≤ w1.heap.size := by have := hb.size; simpa using this
  have g0 : w1.heap[w.heap.size]? = some (.cells #[.bool af, .int .i64 ar, .int .i64 ac, .int .i64 ars, .int .i64 acs] 23) := (hb.block _ (by simp; omega)).trans (by (repeat (first | (with_reducible refine heap_alloc_at ?_ _; (first | rfl | (simp; done) | omega | (simp; omega)); done) | with_reducible refine heap_alloc_old ?_ _ | with_reducible refine heap_drew_old ?_ | with_reducible refine heap_drewN_old ?_)))
  have g1 : w1.heap[w.heap.size + 1]? = some (.cells #[.bool cf, .int .i64 cr, .int .i64 cc, .int .i64 crs, .int .i64 ccs] 23) := (hb.block _ (by simp)).trans (by (repeat (first | (with_reducible refine heap_alloc_at ?_ _; (first | rfl | (simp; done) | omega | (simp; omega)); done) | with_reducible refine heap_alloc_old ?_ _ | with_reducible refine heap_drew_old ?_ | with_reducible refine heap_drewN_old ?_)))
  have FB : Hid (Below w.heap.size w w1) := by
    refine Below.trans ?_ (hb.mono (by simp; omega))
    (repeat (first | with_reducible exact Below.refl _ _ | with_reducible exact hBW | with_reducible refine Below.setCell ?_ ?_ _ | with_reducible refine Below.alloc ?_ ?_ _ | with_reducible refine belowN ?_ _ | with_reducible refine Below.drew ?_)); all_goals (first | omega | (dsimp only; omega) | ((repeat (first | with_reducible refine le_alloc ?_ | with_reducible refine le_setCell ?_ | with_reducible refine le_drew ?_ | with_reducible refine le_drewN ?_)); omega))
  clear hb
  have x1 := cell_of_heap g0 1
  have x2 := cell_of_heap g0 2
  have x3 := cell_of_heap g0 3
  have x4 := cell_of_heap g0 4
  have y1 := cell_of_heap g1 1
  have y2 := cell_of_heap g1 2
  have y3 := cell_of_heap g1 3
  have y4 := cell_of_heap g1 4
  have G0 := Lib.hid g0
  have G1 := Lib.hid g1
  clear g0 g1
  go_wp2_with fail
  clear x1 x2 x3 x4 y1 y2 y3 y4
  refine (new_any 12 12 _).mono ?_
  rintro e w2 ⟨rfl, bx, fx, zx⟩
  have ZX := Lib.hid zx
  have hz2 : w1.heap.size < w2.heap.size := by omega
  clear zx
  have BX := Lib.hid bx
  clear bx
  go_wp2_with fail
  refine (new_any 12 12 w2).mono ?_
  rintro e w3 ⟨rfl, by3, fy, zy⟩
  have ZY := Lib.hid zy
  clear zy
  obtain ⟨Sx, hSx⟩ : ∃ Sx : Nat → Prop, Sx = (fun b => w1.heap.size ≤ b ∧ b < w2.heap.size) := ⟨_, rfl⟩
  obtain ⟨Sy, hSy⟩ : ∃ Sy : Nat → Prop, Sy = (fun b => w2.heap.size ≤ b ∧ b < w3.heap.size) := ⟨_, rfl⟩
  have bx3 : IsBd w3 (w1.heap.size + 3) Sx (gNew 12 12) := by rw [hSx]; exact BX.out.below fy
  rw [← hSy] at by3
  have SD : Hid (∀ k, Sx k → Sy k → False) := by intro k h1 h2; rw [hSx] at h1; rw [hSy] at h2; omega
  have SX : Hid (∀ k, Sx k → w1.heap.size ≤ k) := by intro k h1; rw [hSx] at h1; exact h1.1
  have SY : Hid (∀ k, Sy k → w1.heap.size ≤ k) := by intro k h1; rw [hSy] at h1; omega
  have hB3 : Below w1.heap.size w1 w3 := fx.trans (fy.mono fx.size)
  have BX3 := Lib.hid bx3
  have BY3 := Lib.hid by3
  have HB3 := Lib.hid hB3
  clear hSx hSy BX bx3 by3 fx fy hB3
  go_wp2_with fail
  go_loopw [9] (fun i wr => ∃ k : Nat, i = .int .i64 k ∧ k ≤ l.length ∧ IsBd wr (w1.heap.size + 3) Sx (fillAll (gNew 12 12) (l.take k)) ∧ IsBd wr (w2.heap.size + 3) Sy (fillAll (gNew 12 12) (l.take k)) ∧ Below w1.heap.size w1 wr) (fun i _ => l.length - (intOf i).toNat)
  case atStart => exact ⟨0, rfl, Nat.zero_le _, BX3.out, BY3.out, HB3.out⟩
  case round =>
    obtain ⟨k, rfl, hk, bx, by4, hB⟩ := hrel
    by_cases hlt : k < l.length
    · obtain ⟨⟨p1, p2⟩, hp⟩ : ∃ p, l[k]? = some p := ⟨_, List.getElem?_eq_getElem hlt⟩
      obtain ⟨hr, hc⟩ := HP.out
      obtain ⟨r1, r2, r3, r4⟩ := hr (p1, p2) (List.mem_of_getElem? hp)
      obtain ⟨b, off, rfl, hbw, hcell⟩ := hc (by omega)
      obtain ⟨e1, e2⟩ := hcell k (p1, p2) hp
      have hBw : Below w.heap.size w wr := FB.out.trans (hB.mono FB.out.size)
      have d1 := (hBw.cell (p := ⟨b, off + k * 2, none⟩) hbw).trans e1
      have d2 := (hBw.cell (p := ⟨b, off + k * 2 + 1, none⟩) hbw).trans e2
      have hb1 : b < wr.heap.size := Nat.lt_of_lt_of_le hbw hBw.size
      have i1 : IntKind.i64.wrap p1 = p1 := IntWalk.i64_in _ (by simp only at r1 r2; omega)
      have i2 : IntKind.i64.wrap p2 = p2 := IntWalk.i64_in _ (by simp only at r3 r4; omega)
      have j1 : (0 : Int) ≤ (k : Int) := by omega
      have j2 : (k : Int) < (l.length : Int) := by omega
      have BXr := Lib.hid bx
      have BYr := Lib.hid by4
      have HBr := Lib.hid hB
      have HPk := Lib.hid hp
      have E1 := Lib.hid e1
      have E2 := Lib.hid e2
      clear bx by4 hB hp hr hc hcell e1 e2 hBw r1 r2 r3 r4
      go_wp2_with fail
      refine wp_region_mix [0, 1, 2, 3, 4, 5, 6, 7, 8, 9, 10, 11, 12] [13] [13] (Below wr.heap.size wr) (by kernel_rfl) (by kernel_rfl) (Below.refl _ _).drew ?_
      iterate 13 (first | (apply first_step; (rw [List.getElem?_toArray]; (repeat rw [List.getElem?_cons_succ]); rw [List.getElem?_cons_zero]); rfl; (intro W hB; have hc := bcellB hB; go_simp; (first | done | rfl)); go_frame) | (apply first_skip; (rw [List.getElem?_toArray]; (repeat rw [List.getElem?_cons_succ]); rw [List.getElem?_cons_zero]); rfl; go_frame))
      refine first_done ?_
      apply tail_step; (rw [List.getElem?_toArray]; (repeat rw [List.getElem?_cons_succ]); rw [List.getElem?_cons_zero]); rfl; rfl; intro K hK; go_simp
      refine (fill_any (BXr.out.below (Below.refl _ _).drew) p1 p2).mono ?_
      rintro e w5 ⟨rfl, bx5, fx5⟩
      refine hK _ _ (fun h => absurd (by decide) h) ?_
      clear hK K
      refine tail_done ?_
      have fx5' : Fr Sx wr w5 := ⟨fx5.os, fx5.tape, fx5.output, fx5.size, fx5.block⟩
      have by5 := BYr.out.frame fx5' (fun k h1 h2 => SD.out k h2 h1)
      have hB5 : Below w1.heap.size w1 w5 := HBr.out.trans (fx5'.below HBr.out.size SX.out)
      have hBw5 : Below w.heap.size w w5 := FB.out.trans (hB5.mono FB.out.size)
      have d3 := (hBw5.cell (p := ⟨b, off + k * 2, none⟩) hbw).trans E1.out
      have d4 := (hBw5.cell (p := ⟨b, off + k * 2 + 1, none⟩) hbw).trans E2.out
      have hb5 : b < w5.heap.size := Nat.lt_of_lt_of_le hbw hBw5.size
      have BX5 := Lib.hid bx5
      have BY5 := Lib.hid by5
      have HB5 := Lib.hid hB5
      clear d1 d2 hb1 bx5 by5 hB5 hBw5 fx5 fx5'
      go_wp2_with fail
      refine wp_region_mix [0, 1, 2, 3, 4, 5, 6, 7, 8, 9, 10, 11, 12] [13] [13] (Below w5.heap.size w5) (by kernel_rfl) (by kernel_rfl) (Below.refl _ _).drew ?_
      iterate 13 (first | (apply first_step; (rw [List.getElem?_toArray]; (repeat rw [List.getElem?_cons_succ]); rw [List.getElem?_cons_zero]); rfl; (intro W hB; have hc := bcellB hB; go_simp; (first | done | rfl)); go_frame) | (apply first_skip; (rw [List.getElem?_toArray]; (repeat rw [List.getElem?_cons_succ]); rw [List.getElem?_cons_zero]); rfl; go_frame))
      refine first_done ?_
      apply tail_step; (rw [List.getElem?_toArray]; (repeat rw [List.getElem?_cons_succ]); rw [List.getElem?_cons_zero]); rfl; rfl; intro K hK; go_simp
      refine (fill_any (BY5.out.below (Below.refl _ _).drew) p1 p2).mono ?_
      rintro e w6 ⟨rfl, by6, fy6⟩
      refine hK _ _ (fun h => absurd (by decide) h) ?_
      clear hK K
      refine tail_done ?_
      have fy6' : Fr Sy w5 w6 := ⟨fy6.os, fy6.tape, fy6.output, fy6.size, fy6.block⟩
      have BX6 := Lib.hid (BX5.out.frame fy6' (fun k h1 h2 => SD.out k h1 h2))
      have HB6 : Hid (Below w1.heap.size w1 w6) := HB5.out.trans (fy6'.below HB5.out.size SY.out)
      have BY6 := Lib.hid by6
      clear by6 fy6 fy6' d3 d4 hb5
      go_wp2_with fail
      go_roundw
      case rel =>
        refine ⟨k + 1, by go_num, by omega, ?_, ?_, HB6.out⟩
        · rw [List.take_add_one, HPk.out]; simp only [Option.toList_some]; rw [fillAll_snoc]; exact BX6.out
        · rw [List.take_add_one, HPk.out]; simp only [Option.toList_some]; rw [fillAll_snoc]; exact BY6.out
      case measure => simp [intOf]; omega
    · obtain ⟨gf, hgf⟩ : ∃ gf, gf = fillAll (gNew 12 12) (l.take k) := ⟨_, rfl⟩
      rw [← hgf] at bx by4
      have LG : Hid (gf.L.length = 0) := by rw [hgf]; unfold Hid; rw [fillAll_L]; rfl
      have BXr := Lib.hid bx
      have BYr := Lib.hid by4
      clear bx by4 hgf
      have c0 := (hB.block w.heap.size (by omega)).trans G0.out
      have c1 := (hB.block (w.heap.size + 1) (by omega)).trans G1.out
      have x1 := cell_of_heap c0 1
      have x2 := cell_of_heap c0 2
      have x3 := cell_of_heap c0 3
      have x4 := cell_of_heap c0 4
      have y1 := cell_of_heap c1 1
      have y2 := cell_of_heap c1 2
      have y3 := cell_of_heap c1 3
      have y4 := cell_of_heap c1 4
      have HB := Lib.hid hB
      clear c0 c1 hB
      go_wp2_with fail
      refine (decide_any BXr.out (by rw [LG.out]; omega) ar ac ars acs).mono ?_
      rintro e w5 ⟨rfl, bx5, fx5⟩
      have by5 := BYr.out.frame fx5 (fun k h1 h2 => SD.out k h2 h1)
      have sd5 := BXr.out.disjoint (w' := w5) BYr.out SD.out
      have hB : Below w1.heap.size w1 w5 := HB.out.trans (fx5.below HB.out.size SX.out)
      have sx5 : ∀ k, Grow Sx wr w5 k → w1.heap.size ≤ k := fun k h => h.elim (SX.out k) (fun h => Nat.le_trans HB.out.size h.1)
      have BX5 := Lib.hid bx5
      have BY5 := Lib.hid by5
      have SD5 := Lib.hid sd5
      have SX5 := Lib.hid sx5
      clear bx5 by5 sd5 sx5 fx5
      clear x1 x2 x3 x4 y1 y2 y3 y4
      clear HB
      have c0 := (hB.block w.heap.size (by omega)).trans G0.out
      have c1 := (hB.block (w.heap.size + 1) (by omega)).trans G1.out
      have x1 := cell_of_heap c0 1
      have x2 := cell_of_heap c0 2
      have x3 := cell_of_heap c0 3
      have x4 := cell_of_heap c0 4
      have y1 := cell_of_heap c1 1
      have y2 := cell_of_heap c1 2
      have y3 := cell_of_heap c1 3
      have y4 := cell_of_heap c1 4
      have HB := Lib.hid hB
      clear c0 c1 hB
      go_wp2_with fail
      refine (decide_any BX5.out (by have := len_decide gf ar ac ars acs; have := LG.out; omega) cr cc crs ccs).mono ?_
      rintro e w6 ⟨rfl, _, fx6⟩
      have by6 := BY5.out.frame fx6 (fun k h1 h2 => SD5.out k h1 h2)
      have hB : Below w1.heap.size w1 w6 := HB.out.trans (fx6.below HB.out.size SX5.out)
      have BY6 := Lib.hid by6
      clear by6 fx6 BX5 BY5 SD5 SX5
      clear x1 x2 x3 x4 y1 y2 y3 y4
      clear HB
      have c0 := (hB.block w.heap.size (by omega)).trans G0.out
      have c1 := (hB.block (w.heap.size + 1) (by omega)).trans G1.out
      have x1 := cell_of_heap c0 1
      have x2 := cell_of_heap c0 2
      have x3 := cell_of_heap c0 3
      have x4 := cell_of_heap c0 4
      have y1 := cell_of_heap c1 1
      have y2 := cell_of_heap c1 2
      have y3 := cell_of_heap c1 3
      have y4 := cell_of_heap c1 4
      have HB := Lib.hid hB
      clear c0 c1 hB
      go_wp2_with fail
      refine (decide_any BY6.out (by rw [LG.out]; omega) cr cc crs ccs).mono ?_
      rintro e w7 ⟨rfl, by7, fy7⟩
      have hB : Below w1.heap.size w1 w7 := HB.out.trans (fy7.below HB.out.size SY.out)
      have sy7 : Hid (∀ k, Grow Sy w6 w7 k → w1.heap.size ≤ k) := fun k h => h.elim (SY.out k) (fun h => Nat.le_trans HB.out.size h.1)
      have BY7 := Lib.hid by7
      clear by7 fy7
      clear x1 x2 x3 x4 y1 y2 y3 y4
      clear HB
      have c0 := (hB.block w.heap.size (by omega)).trans G0.out
      have c1 := (hB.block (w.heap.size + 1) (by omega)).trans G1.out
      have x1 := cell_of_heap c0 1
      have x2 := cell_of_heap c0 2
      have x3 := cell_of_heap c0 3
      have x4 := cell_of_heap c0 4
      have y1 := cell_of_heap c1 1
      have y2 := cell_of_heap c1 2
      have y3 := cell_of_heap c1 3
      have y4 := cell_of_heap c1 4
      have HB := Lib.hid hB
      clear c0 c1 hB
      go_wp2_with fail
      refine (decide_any BY7.out (by have := len_decide gf cr cc crs ccs; have := LG.out; omega) ar ac ars acs).mono ?_
      rintro e w8 ⟨rfl, _, fy8⟩
      have hB8 : Below w.heap.size w w8 := FB.out.trans ((HB.out.trans (fy8.below HB.out.size sy7.out)).mono FB.out.size)
      rw [(turn_same gf h9 h10 h11 h12 HD.out).1, (turn_same gf h9 h10 h11 h12 HD.out).2, (turn_same gf h11 h12 h9 h10 (fun h => HD.out (by omega))).1, (turn_same gf h11 h12 h9 h10 (fun h => HD.out (by omega))).2]
      generalize gErr gf ar ac ars acs = ea
      generalize gStands gf ar ac ars acs = sa
      generalize gErr gf cr cc crs ccs = ec
      generalize gStands gf cr cc crs ccs = sc
      have HB8 := Lib.hid hB8
      clear fy8 hB8 BY7 sy7
      clear x1 x2 x3 x4 y1 y2 y3 y4
      clear HB HD
      have ea1 : (ea == ea) = true := by simp
      have ec1 : (ec == ec) = true := by simp
      have sa1 : (sa == sa) = true := by simp
      have sc1 : (sc == sc) = true := by simp
      go_wp2_with fail
      go_ret
      exact ⟨rfl, HB8.out⟩
end Go.Proofs.Ytihfmcadcojjnaa
