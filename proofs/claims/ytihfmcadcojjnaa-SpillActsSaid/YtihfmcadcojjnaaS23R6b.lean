/- The document's Decide: a rect that reaches beyond the columns. (Printed by tools/gen23.py and split.) -/
import Derived.Test.YtihfmcadcojjnaaS23R6h
namespace Go.Proofs.Ytihfmcadcojjnaa
open Go.RowKit
set_option maxHeartbeats 16000000 in
set_option maxRecDepth 100000 in
theorem rdec_b2 (g : G) (rows cols : Int) (fa : Option Addr) (fc : Nat) (F : List P2) (la : Option Addr) (lc : Nat) (L : List Ver) (r c rs cs : Int) (w : World) (hrows : Hid (rows = g.rows ∧ cols = g.cols)) (ho : Hid (onB rows cols r c = true)) (h0 : ¬ rs < 1) (h1 : ¬ cs < 1) (h2 : ¬ 4096 < rs) (h3 : ¬ 4096 < cs) (h4 : ¬ 4096 < rs * cs) (HF : Hid (PrsAt w fa F)) (hFl : F.length ≤ 100) (HH : Hid (fHas F r c = true)) (HL : Hid (RctAt w la L)) (HL0 : Hid (L = [] → la = none ∧ lc = 0)) (hLl : L.length ≤ 100) (HO : Hid (∀ m, IdxOf (ofB r c) L m → m = -1)) (HREL : Hid (Rel g F L)) (HE : Hid (gErr g r c rs cs = 0)) (_HAN : Hid (getL g.A (r, c) = none)) (hb1 : ¬ rows < r + rs) (hb2 : cols < c + cs) (hr0 : 0 ≤ r) (hr1 : r ≤ 1000) (hc0 : 0 ≤ c) (hc1 : c ≤ 1000) (_hrw : 0 ≤ rows) (_hrw1 : rows ≤ 1000) (_hcw : 0 ≤ cols) (_hcw1 : cols ≤ 1000) :
    Calls Try.prog 19 #[xv rows cols fa F.length fc la L.length lc, .int .i64 r, .int .i64 c, .int .i64 rs, .int .i64 cs] w fun e w' => RDecPost w g rows cols fa F.length fc la L.length lc r c rs cs e w' := by
  obtain ⟨i0, hi, hz0, hz1, hz2⟩ := info_parts info60
  have HI := Lib.hid hi
  have HZ0 := Lib.hid hz0
  have HZ1 := Lib.hid hz1
  have HZ2 := Lib.hid hz2
  clear hi hz0 hz1 hz2
  unfold xv
  go_enter Try.func19, Try.ntmps19
  go_wp2_with fail
  refine (refOn_any rows cols fa F.length fc la L.length lc r c _).mono ?_
  rw [ho.out]
  rintro e w1 ⟨rfl, hb⟩
  have g0 : w1.heap[w.heap.size]? = some (.cells #[.int .i64 rows, .int .i64 cols, .slice fa F.length fc, .slice la L.length lc] 53) := (hb.block _ (by simp; omega)).trans (by (repeat (first | (with_reducible refine heap_alloc_at ?_ _; (first | rfl | (simp; done) | omega | (simp; omega)); done) | with_reducible refine heap_alloc_old ?_ _ | with_reducible refine heap_drew_old ?_ | with_reducible refine heap_drewN_old ?_)))
  have g1 : w1.heap[w.heap.size + 1]? = some (.cells #[.int .i64 0, .int .i64 0, .slice none 0 0, .slice none 0 0] 53) := (hb.block _ (by simp)).trans (by (repeat (first | (with_reducible refine heap_alloc_at ?_ _; (first | rfl | (simp; done) | omega | (simp; omega)); done) | with_reducible refine heap_alloc_old ?_ _ | with_reducible refine heap_drew_old ?_ | with_reducible refine heap_drewN_old ?_)))
  have FB : Hid (Below w.heap.size w w1) := by
    refine Below.trans ?_ (hb.mono (by simp; omega))
    (repeat (first | with_reducible exact Below.refl _ _ | with_reducible exact hBW | with_reducible refine Below.setCell ?_ ?_ _ | with_reducible refine Below.alloc ?_ ?_ _ | with_reducible refine belowN ?_ _ | with_reducible refine Below.drew ?_)); all_goals (first | omega | (dsimp only; omega) | ((repeat (first | with_reducible refine le_alloc ?_ | with_reducible refine le_setCell ?_ | with_reducible refine le_drew ?_ | with_reducible refine le_drewN ?_)); omega))
  have k0 := cell_of_heap g0
  have k1 := cell_of_heap g1
  have f1 := frozen_of_heap g1
  have z0 := lt_of_heap g0
  have z1 := lt_of_heap g1
  have G0 := Lib.hid g0
  have G1 := Lib.hid g1
  clear hb g0 g1
  have hp : rs * cs ≤ 4096 * 4096 := Int.mul_le_mul (by omega) (by omega) (by omega) (by omega)
  have hp2 : 1 * 1 ≤ rs * cs := Int.mul_le_mul (by omega) (by omega) (by omega) (by omega)
  have hw : IntKind.i64.wrap (rs * cs) = rs * cs := IntWalk.i64_in _ (by omega)
  have HW := Lib.hid hw
  generalize hmm : rs * cs = m at h4 hw hp hp2
  clear HW
  have t0 : decide (rs < 1) = false := by simpa using h0
  have t1 : decide (cs < 1) = false := by simpa using h1
  have t2 : decide (4096 < rs) = false := by simpa using h2
  have t3 : decide (4096 < cs) = false := by simpa using h3
  have t4 : decide (4096 < m) = false := by simpa using h4
  go_wp2_with fail
  refine (refHas_any rows cols fa fc F la L.length lc r c w1 (HF.out.below FB.out) hFl).mono ?_
  rw [HH.out]
  rintro e w2 ⟨rfl, hb⟩
  have FB2 : Hid (Below w.heap.size w w2) := FB.out.trans (hb.mono FB.out.size)
  have g0 := (hb.block _ z0).trans G0.out
  have g1 := (hb.block _ z1).trans G1.out
  clear hb k0 k1 f1 z0 z1 G0 G1 hw hmm hp hp2 h4 t0 t1 t2 t3 t4
  have k0 := cell_of_heap g0
  have k1 := cell_of_heap g1
  have f1 := frozen_of_heap g1
  have z0 := lt_of_heap g0
  have z1 := lt_of_heap g1
  have G0 := Lib.hid g0
  have G1 := Lib.hid g1
  clear g0 g1
  go_wp2_with fail
  refine (refOf_any rows cols fa F.length fc la lc L r c w2 (HL.out.below FB2.out) hLl).mono ?_
  rintro e w3 ⟨m, rfl, hm, hb⟩
  have FB3 : Hid (Below w.heap.size w w3) := FB2.out.trans (hb.mono FB2.out.size)
  have g0 := (hb.block _ z0).trans G0.out
  have g1 := (hb.block _ z1).trans G1.out
  clear hb k0 k1 f1 z0 z1 G0 G1
  have k0 := cell_of_heap g0
  have k1 := cell_of_heap g1
  have f1 := frozen_of_heap g1
  have z0 := lt_of_heap g0
  have z1 := lt_of_heap g1
  have G0 := Lib.hid g0
  have G1 := Lib.hid g1
  clear g0 g1
  have hm0 : m = -1 := HO.out m hm
  subst hm0
  have hw1 : IntKind.i64.wrap (r + rs) = r + rs := IntWalk.i64_in _ (by omega)
  have hw2 : IntKind.i64.wrap (c + cs) = c + cs := IntWalk.i64_in _ (by omega)
  clear hm HO k1 f1 HH
  obtain ⟨q, hq⟩ : ∃ q, q = w3.heap.size := ⟨_, rfl⟩
  have D0 : Hid (DecSt w (w3.alloc (.cells #[.int .i64 r, .int .i64 c, .int .i64 rs, .int .i64 cs, .bool false, .int .i64 0, .int .i64 0, .bool false] 60)) q rows cols fa F.length fc la L.length lc ⟨r, c, rs, cs, false, false, 0, 0⟩) := by
    rw [hq]
    exact ⟨FB3.out.alloc FB3.out.size _, heap_alloc_old G0.out _, heap_alloc_old G1.out _, heap_alloc_new _ _, by omega⟩
  clear FB FB2 G0 G1 ho
  have HBY : Hid (beyond g r c rs cs = (decide (rows < r + rs) || decide (cols < c + cs))) := by
    unfold Hid beyond
    rw [hrows.out.1, hrows.out.2]
    by_cases b1 : g.rows - r < rs <;> by_cases b2 : g.cols - c < cs <;> simp [b1, b2] <;> omega
  have HB : Hid (beyond g r c rs cs = true) := by unfold Hid; rw [HBY.out, decide_eq_true hb2, Bool.or_true]
  go_wp2_with fail
  rw [← hq]
  clear hq
  go_loopw [14] (fun iv wr => iv = .int .i64 r ∧ Hid (DecSt w wr q rows cols fa F.length fc la L.length lc ⟨r, c, rs, cs, false, false, 0, 0⟩)) (fun _ _ => 0)
  case atStart => exact ⟨rfl, D0⟩
  case round =>
    obtain ⟨rfl, hD⟩ := hrel
    clear D0
    have hD0 := hD
    have hJ : Hid (gJudge g r c rs cs = ⟨r, c, rs, cs, false, false, 0, 0⟩) := by unfold Hid; unfold gJudge; rw [HB.out]; rfl
    have D4 := Lib.hid (hD.out.stand false)
    have k0 := cell_of_heap hD.out.x
    have k3 := cell_of_heap hD.out.r
    have k4 := frozen_of_heap hD.out.r
    have z0 := lt_of_heap hD.out.x
    have z3 := lt_of_heap hD.out.r
    have hq2 := hD.out.q2
    have hsz4 : w.heap.size + 2 ≤ wr.heap.size := by have := lt_of_heap hD.out.a; omega
    clear hD
    by_cases hL0 : L = []
    · subst hL0
      obtain ⟨rfl, rfl⟩ := HL0.out rfl
      go_wp2_with (first | (at_builtin; refine wpList_append_own_none rfl _ _ 51 rfl (w.heap.size + 2) 60 i0 8 Try.underlying51 HI.out _ _ _ rfl (World.ownsRow_nil (wr.setCell ⟨q, 4, none⟩ (.bool false)) (w.heap.size + 2) 60 8) rfl ?_) | (at_builtin; refine wpList_append_own_at _ rfl _ _ 51 rfl (w.heap.size + 2) 60 i0 (.agg #[.int .i64 0, .int .i64 0, .int .i64 0, .int .i64 0, .bool false, .int .i64 0, .int .i64 0, .bool false]) 8 64 Try.underlying51 HI.out HZ0.out HZ1.out HZ2.out rfl (by decide) _ _ _ rfl ((World.ownsRow_nil (wr.setCell ⟨q, 4, none⟩ (.bool false)) (w.heap.size + 2) 60 8).alloc _) ⟨wr.heap.size, 0, none⟩ 1 1 (rcl ⟨r, c, rs, cs, false, false, 0, 0⟩) rfl rfl (by have := cells_new (wr.setCell ⟨q, 4, none⟩ (.bool false)) #[.int .i64 r, .int .i64 c, .int .i64 rs, .int .i64 cs, .bool false, .int .i64 0, .int .i64 0, .bool false] 60; rw [World.size_setCell] at this; exact this) (by simp [rcl, Value.oneCell']) (by unfold maxLen; omega) (by omega) (by have := hsz4; simp; omega) ?_; intro v2 y2 hown2 hgrow2 _ _; have R2 := D4.out.fin (L := []) (v := ⟨r, c, rs, cs, false, false, 0, 0⟩) (World.ownsRow_nil (wr.setCell ⟨q, 4, none⟩ (.bool false)) (w.heap.size + 2) 60 8) (Below.refl _ _) hown2 hgrow2; clear hown2 hgrow2; obtain ⟨la', lc', rfl, bb, e1, e2, hP, hB⟩ := R2; have BB := Lib.hid bb; have HP := Lib.hid hP; have HBB := Lib.hid hB; clear k0 k3 z0 z3 bb hP hB; have k0 := cell_of_heap e1; have f0 := frozen_of_heap e1; have f1 := frozen_of_heap e2; have k1 := cell_of_heap e2; have z0 := lt_of_heap e1; have z1 := lt_of_heap e2; clear e1 e2))
      refine bodyPost_ret (v := .tuple #[.agg #[.int .i64 rows, .int .i64 cols, .slice fa F.length fc, .slice la' 1 lc'], .int .i64 0]) (by simp [results, Try.results19, go_sem, k1]) rfl ?_
      have hfr := fr_tw5 y2 w.heap.size 3 0 1 2 3 (.slice la' 1 lc') (.int .i64 rows) (.int .i64 cols) (.slice fa F.length fc) (.slice la' 1 lc')
      have hL' : (gDecide g r c rs cs).L = [] ++ [⟨r, c, rs, cs, false, false, 0, 0⟩] := by rw [dec_L HE.out, HREL.out.l, hJ.out]
      refine ⟨la', lc', by rw [hL', HE.out]; simp [xv], ?_, .inr (fun ad h => by have := HBB.out ad h; omega), fun h => absurd HE.out h, BB.out.trans (hfr.below BB.out.size (fun k hk => ?_))⟩
      · rw [hL']
        refine HP.out.fr hfr (fun ad h e => ?_)
        have := HBB.out ad h
        rcases e with e | e <;> omega
      · rcases hk with rfl | rfl <;> omega
    · obtain ⟨b, off, rfl, hb, hcl⟩ := (HL.out.below D4.out.b) (List.length_pos_iff.2 hL0)
      have HCL := Lib.hid hcl
      clear hcl hL0
      go_wp2_with (first | (at_builtin; refine wpList_append_own_at _ rfl _ _ 51 rfl (w.heap.size + 2) 60 i0 (.agg #[.int .i64 0, .int .i64 0, .int .i64 0, .int .i64 0, .bool false, .int .i64 0, .int .i64 0, .bool false]) 8 64 Try.underlying51 HI.out HZ0.out HZ1.out HZ2.out rfl (by decide) _ _ _ rfl (HO1.out.alloc _) ⟨y1.heap.size, 0, none⟩ 1 1 (rcl ⟨r, c, rs, cs, false, false, 0, 0⟩) rfl rfl (cells_new _ #[.int .i64 r, .int .i64 c, .int .i64 rs, .int .i64 cs, .bool false, .int .i64 0, .int .i64 0, .bool false] 60) (by simp [rcl, Value.oneCell']) (by unfold maxLen; omega) (by omega) (by have := hsz4; simp; omega) ?_; intro v2 y2 hown2 hgrow2 _ _; have R2 := D4.out.fin (L := L) (v := ⟨r, c, rs, cs, false, false, 0, 0⟩) HO1.out HY1.out hown2 hgrow2; clear hown2 hgrow2; obtain ⟨la', lc', rfl, bb, e1, e2, hP, hB⟩ := R2; have BB := Lib.hid bb; have HP := Lib.hid hP; have HBB := Lib.hid hB; clear k0 k3 z0 z3 bb hP hB; have k0 := cell_of_heap e1; have f0 := frozen_of_heap e1; have f1 := frozen_of_heap e2; have k1 := cell_of_heap e2; have z0 := lt_of_heap e1; have z1 := lt_of_heap e2; clear e1 e2) | (at_builtin; refine wpList_append_own_at _ rfl _ _ 51 rfl (w.heap.size + 2) 60 i0 (.agg #[.int .i64 0, .int .i64 0, .int .i64 0, .int .i64 0, .bool false, .int .i64 0, .int .i64 0, .bool false]) 8 64 Try.underlying51 HI.out HZ0.out HZ1.out HZ2.out rfl (by decide) _ _ _ rfl (World.ownsRow_nil (wr.setCell ⟨q, 4, none⟩ (.bool false)) (w.heap.size + 2) 60 8) ⟨b, off, none⟩ L.length lc (L.flatMap rcl) rfl (rcl_len L) (rct_news HCL.out) (one_rcl L) (by unfold maxLen; omega) (by omega) (by rw [World.size_setCell]; omega) ?_; intro v1 y1 hown1 hgrow1 _ _; rw [Nat.zero_add, List.nil_append] at hown1; have HY1 : Hid (Below (w.heap.size + 2) (wr.setCell ⟨q, 4, none⟩ (.bool false)) y1) := (Below.refl _ (wr.setCell ⟨q, 4, none⟩ (.bool false))).grown hgrow1 (by rw [World.size_setCell]; exact hsz4) (fun k hk => nomatch (show (none : Option Nat) = some k from hk)); have HO1 := Lib.hid hown1; have hq1 : Hid (y1.heap[q]? = some (.cells #[.int .i64 r, .int .i64 c, .int .i64 rs, .int .i64 cs, .bool false, .int .i64 0, .int .i64 0, .bool false] 60)) := (hgrow1.block q (lt_of_heap D4.out.r) (fun e => nomatch (show some q = (none : Option Nat) from e))).trans D4.out.r; clear hown1 hgrow1 k0 z0 k3 z3; have k0 := cell_of_heap ((HY1.out.block _ (by omega)).trans D4.out.x); have z0 := lt_of_heap ((HY1.out.block _ (by omega)).trans D4.out.x); have k3 := cell_of_heap hq1.out; have z3 := lt_of_heap hq1.out; have hsz4 : w.heap.size + 2 ≤ y1.heap.size := Nat.le_trans (by rw [World.size_setCell]; exact hsz4) HY1.out.size))
      refine bodyPost_ret (v := .tuple #[.agg #[.int .i64 rows, .int .i64 cols, .slice fa F.length fc, .slice la' (L.length + 1) lc'], .int .i64 0]) (by simp [results, Try.results19, go_sem, k1]) rfl ?_
      have hfr := fr_tw5 y2 w.heap.size 3 0 1 2 3 (.slice la' (L.length + 1) lc') (.int .i64 rows) (.int .i64 cols) (.slice fa F.length fc) (.slice la' (L.length + 1) lc')
      have hL' : (gDecide g r c rs cs).L = L ++ [⟨r, c, rs, cs, false, false, 0, 0⟩] := by rw [dec_L HE.out, HREL.out.l, hJ.out]
      refine ⟨la', lc', by rw [hL', HE.out]; simp [xv], ?_, .inr (fun ad h => by have := HBB.out ad h; omega), fun h => absurd HE.out h, BB.out.trans (hfr.below BB.out.size (fun k hk => ?_))⟩
      · rw [hL']
        refine HP.out.fr hfr (fun ad h e => ?_)
        have := HBB.out ad h
        rcases e with e | e <;> omega
      · rcases hk with rfl | rfl <;> omega
end Go.Proofs.Ytihfmcadcojjnaa
