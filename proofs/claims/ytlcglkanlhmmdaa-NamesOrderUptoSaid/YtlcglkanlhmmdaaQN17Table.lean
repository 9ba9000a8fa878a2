/- The law's table: names that are given, in the program's table and in the document's. -/
import Derived.Test.YtlcglkanlhmmdaaQN17Agree
namespace Go.Proofs.Ytlcglkanlhmmdaa
open Go.RowKit
theorem build_43 (w : World) : (Instr.build 43 #[]).run Try.prog w = .ok (.agg #[.slice none 0 0]) w := run_build w 43 _ _ (by kernel_rfl)
def TableR (w : World) (l : List Deed) : Ending → World → Prop := fun e w' => ∃ pt mo ra rc, e = .returned (.tuple #[.pointer (some ⟨pt, 0, none⟩), .agg #[.slice ra (refF l).length rc]]) ∧ TabK w.heap.size w' pt mo (tabF l) ∧ RowsAt w' ra (refF l) ∧ Below w.heap.size w w'
theorem results_tab {fn : Func} {tm : Array Value} {k m b : Nat} {v u : Value} {W : World} (hf : fn.results = #[.tmp m, .cell k 43]) (ht : tm.getD k undef = .pointer (some ⟨b, 0, none⟩)) (hm : tm.getD m undef = u) (hr : W.heap[b]? = some (.cells #[v] 43)) :
    (results fn tm).run Try.prog W = .ok (.tuple #[u, .agg #[v]]) W := by
  have hra : W.rangeAt b 0 [v] := fun j x hx => by
    rw [cell_of_heap hr, Nat.zero_add]
    simpa using hx
  have h := run_loadVar_mid (P := Try.prog) W b 0 43 [v] _ hra Try.underlying43 rfl info43
  have ht2 : tm[k]?.getD undef = .pointer (some ⟨b, 0, none⟩) := by rw [← ht]; simp
  have hm2 : tm[m]?.getD undef = u := by rw [← hm]; simp
  unfold results
  simp [hf, h, asAddr, ht2, hm2]
theorem TabK.weaken {K K' pt : Nat} {w : World} {mo : Option Nat} {L : List (ByteArray × T)} (h : TabK K w pt mo L) (hk : K' ≤ K) : TabK K' w pt mo L := ⟨h.1, h.2.1, Nat.le_trans hk h.2.2.1, fun m hm => Nat.le_trans hk (h.2.2.2 m hm)⟩
/-- What the table's loop keeps. -/
structure TabI (w W2 : World) (pt p5 : Nat) (l : List Deed) (k : Nat) (mo : Option Nat) (ra : Option Addr) (rc : Nat) (wr : World) : Prop where
  tab : TabK (w.heap.size + 1) wr pt mo (tabF (l.take k))
  var : wr.heap[p5]? = some (.cells #[.slice ra (refF (l.take k)).length rc] 43)
  rows : RowsAt wr ra (refF (l.take k))
  bel : Below (w.heap.size + 1) W2 wr
/-- Behind Set of the program's table. -/
theorem TabI.set {w W2 wr w5 : World} {pt p5 k : Nat} {l : List Deed} {mo : Option Nat} {ra : Option Addr} {rc : Nat} (h : TabI w W2 pt p5 l k mo ra rc wr) (hp : pt ≠ p5) (hs : w.heap.size + 1 ≤ W2.heap.size) (hf : Fr (fun j => w.heap.size + 1 ≤ j ∧ (j = pt ∨ mo = some j)) wr.drew w5) :
    w5.heap[p5]? = some (.cells #[.slice ra (refF (l.take k)).length rc] 43) ∧ RowsAt w5 ra (refF (l.take k)) ∧ Below (w.heap.size + 1) W2 w5 := by
  have hd : Below wr.heap.size wr wr.drew := (Below.refl _ wr).drew
  have hT0 := h.tab.below hd
  refine ⟨(hf.block p5 (lt_of_heap h.var) ?_).trans h.var, (h.rows.below hd).thin hf hT0.thins, (h.bel.trans (hd.mono (Nat.le_trans hs h.bel.size))).trans (hf.below (Nat.le_trans hs h.bel.size) (fun j hj => hj.1))⟩
  rintro ⟨_, e | e⟩
  · exact hp e.symm
  · exact h.tab.map_ne h.var p5 e rfl
/-- Behind Set of the document's, and the store. -/
theorem TabI.step {w W2 w5 w6 W7 : World} {pt p5 k : Nat} {l : List Deed} {x : Deed} {mo5 : Option Nat} {v5 : Value} {a6 : Option Addr} {c6 : Nat} (hx : l[k]? = some x) (hp : pt ≠ p5) (hp5 : w.heap.size + 1 ≤ p5) (hs : w.heap.size + 1 ≤ W2.heap.size) (hT : TabK (w.heap.size + 1) w5 pt mo5 (setL (tabF (l.take k)) x.nm x.t)) (hv : w5.heap[p5]? = some (.cells #[v5] 43)) (hb : Below (w.heap.size + 1) W2 w5)
    (hb6 : Below w5.heap.size w5 w6) (hr6 : RowsAt w6 a6 (rsetL (refF (l.take k)) x.nm x.t)) (h7 : W7 = w6.setCell ⟨p5, 0, none⟩ (.slice a6 (rsetL (refF (l.take k)) x.nm x.t).length c6)) : TabI w W2 pt p5 l (k + 1) mo5 a6 c6 W7 := by
  have hf : Fr (fun b => b = p5) w6 W7 := by rw [h7]; exact Fr.setCell w6 ⟨p5, 0, none⟩ _
  have g6 := (hb6.block p5 (lt_of_heap hv)).trans hv
  have hth : ∀ j, j = p5 → Thin w6 j := fun j e => by rw [e]; exact thin_cells g6
  have hT6 := hT.below hb6
  refine ⟨?_, ?_, ?_, ?_⟩
  · rw [tabF_succ hx]
    exact hT6.thin hf hth hp (fun mt hm => hT6.map_ne g6 mt hm)
  · rw [refF_succ hx, h7]
    exact heap_setCell_at g6 0 _
  · rw [refF_succ hx]
    exact hr6.thin hf hth
  · exact (hb.trans (hb6.mono (Nat.le_trans hs hb.size))).trans (hf.below (Nat.le_trans (Nat.le_trans hs hb.size) hb6.size) (fun j e => by omega))
set_option maxHeartbeats 4000000 in
set_option maxRecDepth 100000 in
theorem table_any (l : List Deed) (hl : l.length ≤ 1000) (hz : ∀ x ∈ l, x.t.size ≤ 2097152 ∧ x.t.fit ∧ x.nm.size ≤ 1048576) (a : Option Addr) (cap : Nat) (w : World) (hA : ActsAt w a l) :
    Calls Try.prog 11 #[.slice a l.length cap] w (TableR w l) := by
  have HA := Lib.hid hA
  have HZ := Lib.hid hz
  obtain ⟨n, hn⟩ : ∃ n, l.length = n := ⟨_, rfl⟩
  rw [hn] at hl ⊢
  have HN := Lib.hid hn
  clear hA hz hn
  go_enter Try.func11, Try.ntmps11
  go_wp2_with fail
  refine abs_calls ?_
  intro W0 hW0
  have hs0 : W0.heap.size = w.heap.size + 1 := by rw [hW0]; simp
  have g0 : W0.heap[w.heap.size]? = some (.cells #[.slice none 0 0] 43) := by rw [hW0]; exact heap_alloc_new w _
  have hB0 : Below w.heap.size w W0 := by rw [hW0]; (repeat (first | with_reducible exact Below.refl _ _ | with_reducible exact hBW | with_reducible refine Below.setCell ?_ ?_ _ | with_reducible refine Below.alloc ?_ ?_ _ | with_reducible refine belowN ?_ _ | with_reducible refine Below.drew ?_)); all_goals (first | omega | (dsimp only; omega) | ((repeat (first | with_reducible refine le_alloc ?_ | with_reducible refine le_setCell ?_ | with_reducible refine le_drew ?_ | with_reducible refine le_drewN ?_)); omega))
  clear hW0
  refine (new_any W0).mono ?_
  rintro e w1 ⟨rfl, hw1⟩
  have hs1 : w1.heap.size = w.heap.size + 2 := by rw [hw1]; simp; omega
  have hT1 : TabK (w.heap.size + 1) w1 W0.heap.size none [] := by rw [hw1]; exact ⟨heap_alloc_new W0 _, rfl, by omega, fun _ h => by cases h⟩
  have hB1 : Below (w.heap.size + 1) W0 w1 := by rw [hw1]; (repeat (first | with_reducible exact Below.refl _ _ | with_reducible exact hBW | with_reducible refine Below.setCell ?_ ?_ _ | with_reducible refine Below.alloc ?_ ?_ _ | with_reducible refine belowN ?_ _ | with_reducible refine Below.drew ?_)); all_goals (first | omega | (dsimp only; omega) | ((repeat (first | with_reducible refine le_alloc ?_ | with_reducible refine le_setCell ?_ | with_reducible refine le_drew ?_ | with_reducible refine le_drewN ?_)); omega))
  clear hw1
  obtain ⟨pt, hpt⟩ : ∃ pt, pt = W0.heap.size := ⟨_, rfl⟩
  rw [← hpt] at hT1 ⊢
  have HS0 := Lib.hid hs0
  have HS1 := Lib.hid hs1
  have HPT := Lib.hid hpt
  have HT1 := Lib.hid hT1
  have G0 := Lib.hid g0
  have HB0 := Lib.hid hB0
  have HB1 := Lib.hid hB1
  clear hs0 hs1 hpt hT1 g0 hB0 hB1
  go_upto_region 2 with (refine wpList_build0 rfl 43 rfl _ build_43 ?_)
  refine abs_world ?_
  intro W2 hW2
  have g5 : W2.heap[w1.heap.size]? = some (.cells #[.slice none 0 0] 43) := by rw [hW2]; exact heap_alloc_new w1 _
  have hB12 : Below w1.heap.size w1 W2 := by rw [hW2]; (repeat (first | with_reducible exact Below.refl _ _ | with_reducible exact hBW | with_reducible refine Below.setCell ?_ ?_ _ | with_reducible refine Below.alloc ?_ ?_ _ | with_reducible refine belowN ?_ _ | with_reducible refine Below.drew ?_)); all_goals (first | omega | (dsimp only; omega) | ((repeat (first | with_reducible refine le_alloc ?_ | with_reducible refine le_setCell ?_ | with_reducible refine le_drew ?_ | with_reducible refine le_drewN ?_)); omega))
  clear hW2
  obtain ⟨p5, hp5⟩ : ∃ p5, p5 = w1.heap.size := ⟨_, rfl⟩
  rw [← hp5] at g5 ⊢
  have hne : Hid (pt ≠ p5) := by have := HS0.out; have := HS1.out; have := HPT.out; show ¬ _; omega
  have hs2 : Hid (w.heap.size + 1 ≤ W2.heap.size) := by have := hB12.size; have := HS1.out; show _ ≤ _; omega
  have hp5' : Hid (w.heap.size + 1 ≤ p5) := by have := HS1.out; show _ ≤ _; omega
  have I0 : Hid (TabI w W2 pt p5 l 0 none none 0 W2) := ⟨HT1.out.below hB12, g5, fun h => by simp [refF] at h, Below.refl _ _⟩
  have hB2 : Hid (Below w.heap.size w W2) := (HB0.out.trans (HB1.out.mono (Nat.le_succ _))).trans (hB12.mono (by have := HS1.out; omega))
  have G2 : Hid (W2.heap[w.heap.size]? = some (.cells #[.slice none 0 0] 43)) := (hB12.block _ (by have := HS1.out; omega)).trans ((HB1.out.block _ (Nat.lt_succ_self _)).trans G0.out)
  clear g5 hB12 hp5 HS0 HS1 HPT HT1 G0 HB0 HB1
  go_wp2_with fail
  go_loopg [6] n (fun gh i wr => ∃ (k : Nat) (mo : Option Nat) (ra : Option Addr) (rc : Nat), i = .int .i64 (k : Int) ∧ gh = n - k ∧ k ≤ n ∧ Hid (TabI w W2 pt p5 l k mo ra rc wr))
  case atStart => exact ⟨0, none, none, 0, rfl, rfl, Nat.zero_le _, I0⟩
  clear I0
  case round =>
    obtain ⟨k, mo, ra, rc, rfl, rfl, hk, hI⟩ := hrel
    have BW : Hid (Below w.heap.size w wr) := hB2.out.trans (hI.out.bel.mono (Nat.le_succ _))
    by_cases hlt : k < n
    · obtain ⟨x, hx⟩ : ∃ x, l[k]? = some x := ⟨_, List.getElem?_eq_getElem (by rw [HN.out]; exact hlt)⟩
      obtain ⟨q, qo, rfl, hq, hall⟩ := HA.out (by rw [HN.out]; omega)
      obtain ⟨_, hc1, ta, tc, hc, hat⟩ := hall k x hx
      have hzx := HZ.out x (List.mem_of_getElem? hx)
      have HX := Lib.hid hx
      have HQ := Lib.hid hq
      have HC1 := Lib.hid hc1
      have HC := Lib.hid hc
      have HAT := Lib.hid hat
      have HZX := Lib.hid hzx
      have hqr : q < wr.heap.size := Nat.lt_of_lt_of_le hq BW.out.size
      have c1 : wr.cell? ⟨q, qo + k * 24 + 1, none⟩ = some (.string x.nm) := (BW.out.cell (p := ⟨q, _, none⟩) hq).trans hc1
      have LDN := load_nd (o := x.t.o) (s := .slice ta x.t.l.length tc) (b := q) (off := qo + k * 24 + 2) (w := wr) hqr (fun j hj => (BW.out.cell (p := ⟨q, _, none⟩) hq).trans (hc j hj))
      have j1 : (0 : Int) ≤ (k : Int) := by omega
      have j2 : (k : Int) < (n : Int) := by omega
      clear hall hc1 hc hat hzx hx hq
      go_wp2_with fail
      refine wp_region_multiR [([0, 1, 2, 3, 4, 5, 6, 7, 8, 9, 10], [11], [11])] (by kernel_rfl) (by kernel_rfl) ?_
      refine multi_phase (Below wr.heap.size wr) (Below.refl _ _).drew ?_
      iterate 10 (first | (apply first_step; (rw [List.getElem?_toArray]; (repeat rw [List.getElem?_cons_succ]); rw [List.getElem?_cons_zero]); rfl; (intro W hB; have hc := bcellB hB; go_simp; (first | done | rfl)); go_frame) | (apply first_skip; (rw [List.getElem?_toArray]; (repeat rw [List.getElem?_cons_succ]); rw [List.getElem?_cons_zero]); rfl; go_frame))
      apply first_load; (rw [List.getElem?_toArray]; (repeat rw [List.getElem?_cons_succ]); rw [List.getElem?_cons_zero]); rfl; rfl; rfl; exact LDN; go_frame
      refine first_done ?_
      clear LDN c1 hqr
      apply forced_step; (rw [List.getElem?_toArray]; (repeat rw [List.getElem?_cons_succ]); rw [List.getElem?_cons_zero]); rfl; intro K hK; go_simp
      refine (set_any (w.heap.size + 1) pt mo (tabF (l.take k)) x.nm HZX.out.2.2 x.t HZX.out.1 HZX.out.2.1 _ wr.drew (hI.out.tab.below (Below.refl _ wr).drew) ⟨ta, tc, rfl, HAT.out.below (BW.out.trans ((Below.refl _ wr).drew.mono BW.out.size)) x.t⟩).mono ?_
      rintro e w5 ⟨rfl, ⟨mo5, hT5, _⟩, hf5⟩
      obtain ⟨g5, hR5, hB5⟩ := hI.out.set hne.out hs2.out hf5
      refine hK _ _ (fun h => absurd (by decide) h) ?_
      clear hK K
      refine forced_done ?_
      refine multi_done ?_
      have BW5 : Hid (Below w.heap.size w w5) := hB2.out.trans (hB5.mono (Nat.le_succ _))
      have hq5 : q < w5.heap.size := Nat.lt_of_lt_of_le HQ.out BW5.out.size
      have c1 : w5.cell? ⟨q, qo + k * 24 + 1, none⟩ = some (.string x.nm) := (BW5.out.cell (p := ⟨q, _, none⟩) HQ.out).trans HC1.out
      have LDN := load_nd (o := x.t.o) (s := .slice ta x.t.l.length tc) (b := q) (off := qo + k * 24 + 2) (w := w5) hq5 (fun j hj => (BW5.out.cell (p := ⟨q, _, none⟩) HQ.out).trans (HC.out j hj))
      have x5 := cell_of_heap g5 0
      have z5 := lt_of_heap g5
      have HT5 := Lib.hid hT5
      have G5 := Lib.hid g5
      have HR5 := Lib.hid hR5
      have HB5 := Lib.hid hB5
      clear hT5 hf5 g5 hR5 hB5 hI BW
      try go_wp2_with fail
      refine wp_region_multiR [([0, 1, 2, 3, 4, 5, 6, 7, 8, 9, 10], [11], [11, 12, 13, 14, 15]), ([12, 13, 14], [15], [])] (by kernel_rfl) (by kernel_rfl) ?_
      refine multi_phase (Below w5.heap.size w5) (Below.refl _ _).drew ?_
      iterate 10 (first | (apply first_step; (rw [List.getElem?_toArray]; (repeat rw [List.getElem?_cons_succ]); rw [List.getElem?_cons_zero]); rfl; (intro W hB; have hc := bcellB hB; go_simp; (first | done | rfl)); go_frame) | (apply first_skip; (rw [List.getElem?_toArray]; (repeat rw [List.getElem?_cons_succ]); rw [List.getElem?_cons_zero]); rfl; go_frame))
      apply first_load; (rw [List.getElem?_toArray]; (repeat rw [List.getElem?_cons_succ]); rw [List.getElem?_cons_zero]); rfl; rfl; rfl; exact LDN; go_frame
      refine first_done ?_
      clear LDN c1 hq5 x5 z5
      apply forced_step; (rw [List.getElem?_toArray]; (repeat rw [List.getElem?_cons_succ]); rw [List.getElem?_cons_zero]); rfl; intro K hK; go_simp
      refine (rset_any (refF (l.take k)) (by have := refF_length (l.take k); have := List.length_take_le k l; omega) ra rc x.nm HZX.out.2.2 x.t HZX.out.1 HZX.out.2.1 _ w5.drew (HR5.out.below (Below.refl _ w5).drew) ⟨ta, tc, rfl, HAT.out.below (BW5.out.trans ((Below.refl _ w5).drew.mono BW5.out.size)) x.t⟩).mono ?_
      rintro e w6 ⟨⟨a6, c6, rfl, hR6⟩, hb6⟩
      have hb6' : Below w5.heap.size w5 w6 := (Below.refl _ w5).drew.trans hb6
      have g6 := (hb6'.block p5 (lt_of_heap G5.out)).trans G5.out
      have x6 := cell_of_heap g6 0
      have y6 := frozen_of_heap g6
      have z6 := lt_of_heap g6
      have STEP := Lib.hid (fun W7 h7 => TabI.step (W7 := W7) (c6 := c6) HX.out hne.out hp5'.out hs2.out HT5.out G5.out HB5.out hb6' hR6 h7)
      refine hK _ _ (fun h => absurd (by decide) h) ?_
      clear hK K hR6 hb6 hb6' g6
      refine forced_done ?_
      refine multi_phase (fun _ => True) trivial ?_
      iterate 3 (first | (apply first_step; (rw [List.getElem?_toArray]; (repeat rw [List.getElem?_cons_succ]); rw [List.getElem?_cons_zero]); rfl; (intro W hB; go_simp; (first | done | rfl)); go_frame) | (apply first_skip; (rw [List.getElem?_toArray]; (repeat rw [List.getElem?_cons_succ]); rw [List.getElem?_cons_zero]); rfl; go_frame))
      refine first_done ?_
      apply forced_step; (rw [List.getElem?_toArray]; (repeat rw [List.getElem?_cons_succ]); rw [List.getElem?_cons_zero]); rfl; intro K hK; go_simp
      refine hK _ _ (fun _ => trivial) ?_
      clear hK K
      refine forced_done ?_
      refine multi_done ?_
      obtain ⟨W7, hW7⟩ : ∃ W7, W7 = w6.setCell ⟨p5, 0, none⟩ (.slice a6 (rsetL (refF (l.take k)) x.nm x.t).length c6) := ⟨_, rfl⟩
      rw [← hW7]
      have I7 := Lib.hid (STEP.out W7 hW7)
      clear hW7 STEP x6 y6 z6
      go_wp2_with fail
      go_roundg (n - (k + 1))
      case measure => omega
      case rel => exact ⟨k + 1, mo5, a6, c6, by go_num, rfl, by omega, I7⟩
    · have hkn : k = n := by omega
      subst hkn
      have ht : l.take k = l := List.take_of_length_le (by rw [HN.out]; exact Nat.le_refl _)
      have T1 := hI.out.tab
      have V1 := hI.out.var
      have R1 := hI.out.rows
      rw [ht] at T1 V1 R1
      have G3 : wr.heap[w.heap.size]? = some (.cells #[.slice none 0 0] 43) := (hI.out.bel.block _ (Nat.lt_succ_self _)).trans G2.out
      have x5 := cell_of_heap V1 0
      have z5 := lt_of_heap V1
      have x3 := cell_of_heap G3 0
      have y3 := frozen_of_heap G3
      have z3 := lt_of_heap G3
      have FIN : Hid (∀ W7, W7 = (wr.setCell ⟨w.heap.size, 0, none⟩ (.slice ra (refF l).length rc)).drew → W7.heap[w.heap.size]? = some (.cells #[.slice ra (refF l).length rc] 43) ∧ TabK w.heap.size W7 pt mo (tabF l) ∧ RowsAt W7 ra (refF l) ∧ Below w.heap.size w W7) := by
        intro W7 h70
        have h7 : W7 = wr.drew.setCell ⟨w.heap.size, 0, none⟩ (.slice ra (refF l).length rc) := h70
        have hd : Below wr.heap.size wr wr.drew := (Below.refl _ wr).drew
        have hf : Fr (fun b => b = w.heap.size) wr.drew W7 := by rw [h7]; exact Fr.setCell wr.drew ⟨w.heap.size, 0, none⟩ _
        have g6 : wr.drew.heap[w.heap.size]? = some (.cells #[.slice none 0 0] 43) := G3
        have hth : ∀ j, j = w.heap.size → Thin wr.drew j := fun j e => by rw [e]; exact thin_cells g6
        have hT6 := T1.below hd
        refine ⟨by rw [h7]; exact heap_setCell_at g6 0 _, (hT6.thin hf hth (by have := hT6.2.2.1; omega) (fun mt hm => hT6.map_ne g6 mt hm)).weaken (Nat.le_succ _), (R1.below hd).thin hf hth, ?_⟩
        exact (BW.out.trans (hd.mono BW.out.size)).trans (hf.below BW.out.size (fun j e => by omega))
      clear T1 V1 R1 G3 hI ht BW
      go_wp2_with fail
      refine wp_region_multiR [([0, 1, 2], [3], [3])] (by kernel_rfl) (by kernel_rfl) ?_
      refine multi_phase (Below wr.heap.size wr) (Below.refl _ _).drew ?_
      iterate 3 (first | (apply first_step; (rw [List.getElem?_toArray]; (repeat rw [List.getElem?_cons_succ]); rw [List.getElem?_cons_zero]); rfl; (intro W hB; have hc := bcellB hB; go_simp; (first | done | rfl)); go_frame) | (apply first_skip; (rw [List.getElem?_toArray]; (repeat rw [List.getElem?_cons_succ]); rw [List.getElem?_cons_zero]); rfl; go_frame))
      refine first_done ?_
      apply forced_step; (rw [List.getElem?_toArray]; (repeat rw [List.getElem?_cons_succ]); rw [List.getElem?_cons_zero]); rfl; intro K hK; go_simp
      refine hK _ _ (fun h => absurd (by decide) h) ?_
      clear hK K
      refine forced_done ?_
      refine multi_done ?_
      obtain ⟨W7, hW7⟩ : ∃ W7, W7 = (wr.setCell ⟨w.heap.size, 0, none⟩ (.slice ra (refF l).length rc)).drew := ⟨_, rfl⟩
      rw [← hW7]
      obtain ⟨q1, q2, q3, q4⟩ := FIN.out W7 hW7
      clear hW7 FIN
      go_wp2_with fail
      exact bodyPost_ret (results_tab rfl rfl rfl q1) rfl ⟨pt, mo, ra, rc, rfl, q2, q3, q4⟩
end Go.Proofs.Ytlcglkanlhmmdaa
