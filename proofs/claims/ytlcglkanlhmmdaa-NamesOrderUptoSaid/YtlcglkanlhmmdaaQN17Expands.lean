/- NamesExpands: the walk. -/
import Derived.Test.YtlcglkanlhmmdaaQN17Find
import Derived.Test.YtlcglkanlhmmdaaQN17Table
import Derived.Test.YtlcglkanlhmmdaaQN17LawP
namespace Go.Proofs.Ytlcglkanlhmmdaa
open Go.RowKit
/-- What the laws' first test keeps. -/
def Box (w : World) (t : T) (a : Option Addr) (cap : Nat) (wx : World) : Prop := Below w.heap.size w wx ∧ wx.heap[w.heap.size]? = some (.cells (ncells t.o (.slice a t.l.length cap)).toArray 35)
theorem Box.below {w wx wy : World} {t : T} {a : Option Addr} {cap : Nat} (h : Box w t a cap wx) (hb : Below wx.heap.size wx wy) : Box w t a cap wy := ⟨h.1.trans (hb.mono h.1.size), (hb.block _ (lt_of_heap h.2)).trans h.2⟩
theorem bool_eq' {a b : Bool} (h : a = b) : Value.bool a = .bool b := by rw [h]
set_option maxHeartbeats 4000000 in
set_option maxRecDepth 100000 in
theorem expands_law (l : List Deed) (t : T) (hl : l.length ≤ 2097152) (hz : ∀ x ∈ l, x.t.size ≤ 2097152 ∧ x.t.fit ∧ x.nm.size ≤ 1048576) (htz : t.size ≤ 2097152 ∧ t.fit) (a : Option Addr) (cap : Nat) (x : Value) (w : World) (hA : ActsAt w a l) (hx : IsT w x t) :
    Calls Try.prog 3 #[.slice a l.length cap, x] w fun e w' => e = .returned (.bool true) ∧ Below w.heap.size w w' := by
  have HA := Lib.hid hA
  have HZ := Lib.hid hz
  have HT := Lib.hid htz
  obtain ⟨ta, tc, rfl, hat⟩ := hx
  have HAT := Lib.hid hat
  obtain ⟨n, hn⟩ : ∃ n, l.length = n := ⟨_, rfl⟩
  rw [hn] at hl ⊢
  have HN := Lib.hid hn
  clear hA hz htz hat hn
  go_enter Try.func3, Try.ntmps3
  rw [nagg_eq]
  go_upto_region 1 with fail
  refine abs_world ?_
  intro W0 hW0
  have b0 : Below w.heap.size w W0 := by rw [hW0]; (repeat (first | with_reducible exact Below.refl _ _ | with_reducible exact hBW | with_reducible refine Below.setCell ?_ ?_ _ | with_reducible refine Below.alloc ?_ ?_ _ | with_reducible refine belowN ?_ _ | with_reducible refine Below.drew ?_)); all_goals (first | omega | (dsimp only; omega) | ((repeat (first | with_reducible refine le_alloc ?_ | with_reducible refine le_setCell ?_ | with_reducible refine le_drew ?_ | with_reducible refine le_drewN ?_)); omega))
  have g0 : W0.heap[w.heap.size]? = some (.cells (ncells t.o (.slice ta t.l.length tc)).toArray 35) := by rw [hW0]; exact heap_alloc_new w _
  have B0 : Hid (Box w t ta tc W0) := ⟨b0, g0⟩
  clear hW0 b0 g0
  go_cut [27] (fun s wx => Hid (Box w t ta tc wx) ∧ s = .bool (bigP l t))
  case first =>
    go_wp2_with fail
    refine (awake_any _).mono ?_
    rintro e w1 ⟨rfl, hb1⟩
    have B1 := Lib.hid (B0.out.below hb1)
    clear hb1
    have GR := Lib.hid (greats_any l (fun x hx => ⟨(HZ.out x hx).1, Nat.le_trans (HZ.out x hx).2.2 (by omega)⟩) (by rw [HN.out]; exact hl) a cap w1 (HA.out.below B1.out.1))
    rw [HN.out] at GR
    go_wp2_with fail
    refine GR.out.mono ?_
    rintro e w2 ⟨rfl, hb2⟩
    have B2 := Lib.hid (B1.out.below hb2)
    clear hb2 GR B1
    cases hg : greatP l with
    | true =>
      have Y : Hid (bigP l t = true) := by unfold Hid bigP; simp [hg]
      go_wp2_with fail
      go_meet
      exact ⟨B2, by rw [Y.out]⟩
    | false =>
      have HG := Lib.hid hg
      clear hg
      by_cases h6 : 6 < n
      · have Y : Hid (bigP l t = true) := by unfold Hid bigP; rw [HN.out]; simp [h6]
        have e6 : decide ((6 : Int) < (n : Int)) = true := by simp; omega
        go_wp2_with fail
        go_meet
        exact ⟨B2, by rw [Y.out]⟩
      · have e6 : decide ((6 : Int) < (n : Int)) = false := by simp; omega
        have R2 := Lib.hid (range_blk B2.out.2)
        go_wp2_with (refine wpList_load_g rfl 35 (.tmp 3) rfl w.heap.size 0 rfl _ _ R2.out Try.underlying35 rfl info35 ?_)
        refine (great_any t HT.out.1 _ w2 ⟨ta, tc, rfl, HAT.out.below B2.out.1 t⟩).mono ?_
        rintro e w3 ⟨rfl, hb3⟩
        have B3 := Lib.hid (B2.out.below hb3)
        clear hb3 B2 R2
        cases htg : t.great with
        | true =>
          have Y : Hid (bigP l t = true) := by unfold Hid bigP; simp [htg]
          go_wp2_with fail
          go_meet
          exact ⟨B3, by rw [Y.out]⟩
        | false =>
          have R3 := Lib.hid (range_blk B3.out.2)
          have Y : Hid (bigP l t = decide ((60 : Int) < (t.size : Int))) := by
            unfold Hid bigP
            rw [HG.out, htg, HN.out, decide_eq_false h6, Bool.false_or, Bool.false_or, Bool.false_or, Bool.eq_iff_iff]
            simp only [decide_eq_true_eq]
            omega
          go_wp2_with (refine wpList_load_g rfl 35 (.tmp 3) rfl w.heap.size 0 rfl _ _ R3.out Try.underlying35 rfl info35 ?_)
          refine (nodes_any t HT.out.1 _ w3 ⟨ta, tc, rfl, HAT.out.below B3.out.1 t⟩).mono ?_
          rintro e w4 ⟨⟨v, xs, rfl, hown, _⟩, hb4⟩
          have B4 := Lib.hid (B3.out.below hb4)
          obtain ⟨g, cap2, rfl⟩ := Joins.ownsRow_form hown (T.size_pos t)
          clear hown hb4 B3 R3
          go_wp2_with fail
          go_meet
          exact ⟨B4, by rw [Y.out]⟩
  case rest =>
  obtain ⟨hI, rfl⟩ := hcut
  clear B0
  cases hbig : bigP l t with
  | true =>
    go_wp2_with fail
    refine (awake_any _).mono ?_
    rintro e w1 ⟨rfl, hb1⟩
    have B1 := Lib.hid (hI.out.below hb1)
    clear hb1
    go_wp2_with fail
    go_ret
    exact ⟨rfl, B1.out.1⟩
  | false =>
  obtain ⟨hgr, h6, htg, h60⟩ := bigP_no hbig
  obtain ⟨_, hall⟩ := greatP_no hgr
  have SZ := Lib.hid (tab_sizes fun x hx => (hall x hx).1)
  have TBL := Lib.hid (table_any l (by omega) HZ.out a cap wc (HA.out.below hI.out.1))
  rw [HN.out] at TBL
  have H60 := Lib.hid h60
  clear hbig hgr h6 htg h60 hall
  go_wp2_with fail
  refine TBL.out.mono ?_
  rintro e w1 ⟨pt, mo, ra, rc, rfl, hT, hR, hb1⟩
  have B1 := Lib.hid (hI.out.below hb1)
  have T1 := Lib.hid hT.tab
  have R1 := Lib.hid hR
  clear TBL hT hR hb1 hI
  go_upto_region 4 with fail
  refine abs_world ?_
  intro W2 hW2
  have g2 : W2.heap[w1.heap.size]? = some (.cells #[.slice ra (refF l).length rc] 43) := by rw [hW2]; exact heap_alloc_new w1 _
  have hb2 : Below w1.heap.size w1 W2 := by rw [hW2]; (repeat (first | with_reducible exact Below.refl _ _ | with_reducible exact hBW | with_reducible refine Below.setCell ?_ ?_ _ | with_reducible refine Below.alloc ?_ ?_ _ | with_reducible refine belowN ?_ _ | with_reducible refine Below.drew ?_)); all_goals (first | omega | (dsimp only; omega) | ((repeat (first | with_reducible refine le_alloc ?_ | with_reducible refine le_setCell ?_ | with_reducible refine le_drew ?_ | with_reducible refine le_drewN ?_)); omega))
  have B2 := Lib.hid (B1.out.below hb2)
  have T2 := Lib.hid (T1.out.below hb2)
  have R2 := Lib.hid (R1.out.below hb2)
  clear hW2 hb2 B1 T1 R1
  have x2 := cell_of_heap g2 0
  have z2 := lt_of_heap g2
  have LDN := load_nd (o := t.o) (s := .slice ta t.l.length tc) (b := w.heap.size) (off := 0) (w := W2) (lt_of_heap B2.out.2) (nd_of B2.out.2)
  clear g2
  refine wp_region_multiR [([0, 1, 3, 4], [2, 5, 6], [5, 6, 7]), ([7], [], [])] (by kernel_rfl) (by kernel_rfl) ?_
  refine multi_phase (Below W2.heap.size W2) (Below.refl _ _).drew ?_
  apply first_step; (rw [List.getElem?_toArray]; (repeat rw [List.getElem?_cons_succ]); rw [List.getElem?_cons_zero]); rfl; (intro W hB; go_simp; (first | done | rfl)); go_frame
  apply first_load; (rw [List.getElem?_toArray]; (repeat rw [List.getElem?_cons_succ]); rw [List.getElem?_cons_zero]); rfl; rfl; rfl; exact LDN; go_frame
  (first | (apply first_step; (rw [List.getElem?_toArray]; (repeat rw [List.getElem?_cons_succ]); rw [List.getElem?_cons_zero]); rfl; (intro W hB; have hc := bcellB hB; go_simp; (first | done | rfl)); go_frame) | (apply first_skip; (rw [List.getElem?_toArray]; (repeat rw [List.getElem?_cons_succ]); rw [List.getElem?_cons_zero]); rfl; go_frame))
  apply first_load; (rw [List.getElem?_toArray]; (repeat rw [List.getElem?_cons_succ]); rw [List.getElem?_cons_zero]); rfl; rfl; rfl; exact LDN; go_frame
  refine first_done ?_
  clear LDN x2 z2
  have hd2 : Hid (Below W2.heap.size W2 W2.drew) := (Below.refl _ W2).drew
  apply forced_step; (rw [List.getElem?_toArray]; (repeat rw [List.getElem?_cons_succ]); rw [List.getElem?_cons_zero]); rfl; intro K hK; go_simp
  refine (expand_any (tabF l) (fun p hp => Nat.le_trans (SZ.out p hp) (by omega)) t HT.out.1 _ W2.drew pt (T2.out.below hd2.out) ⟨ta, tc, rfl, HAT.out.below (B2.out.1.trans (hd2.out.mono B2.out.1.size)) t⟩).mono ?_
  rintro e w3 ⟨a3, c3, S3, rfl, hO3, _, hb3⟩
  have hB3 : Hid (Below W2.heap.size W2 w3) := hd2.out.trans hb3
  have I3 : Hid (IsT w3 (nagg (expT (subL (tabF l)) t [] false).o (.slice a3 (expT (subL (tabF l)) t [] false).l.length c3)) (expT (subL (tabF l)) t [] false)) := ⟨a3, c3, rfl, hO3.at⟩
  refine hK _ _ (fun _ => hB3.out) ?_
  clear hK K hb3 hO3
  apply forced_step; (rw [List.getElem?_toArray]; (repeat rw [List.getElem?_cons_succ]); rw [List.getElem?_cons_zero]); rfl; intro K hK; go_simp
  have hre := exp14_any (refF l) (by have := refF_length l; omega) ra rc t HT.out.1 (nagg t.o (.slice ta t.l.length tc)) w3 (R2.out.below hB3.out) ⟨ta, tc, rfl, HAT.out.below (B2.out.1.trans (hB3.out.mono B2.out.1.size)) t⟩
  rw [subL_agree] at hre
  refine hre.mono ?_
  rintro e w4 ⟨⟨v4, rfl, hI4⟩, hb4⟩
  have hB4 : Hid (Below W2.heap.size W2 w4) := hB3.out.trans (hb4.mono hB3.out.size)
  have I4 := Lib.hid (I3.out.below hb4)
  have J4 := Lib.hid hI4
  refine hK _ _ (fun h => absurd (by decide) h) ?_
  clear hK K hb4 hI4 I3 hB3 hre
  apply forced_step; (rw [List.getElem?_toArray]; (repeat rw [List.getElem?_cons_succ]); rw [List.getElem?_cons_zero]); rfl; intro K hK; go_simp
  have hss : (expT (subL (tabF l)) t [] false).size ≤ 4194304 := by
    have := exp_size (M := 400) (by omega) (subL_size SZ.out) t [] false
    have := H60.out
    omega
  have hsm := same_any (expT (subL (tabF l)) t [] false) hss (expT (subL (tabF l)) t [] false) _ _ w4 I4.out J4.out
  rw [(T.same_iff _ _).2 rfl] at hsm
  refine hsm.mono ?_
  rintro e w5 ⟨rfl, hb5⟩
  have HB5 : Hid (Below w.heap.size w w5) := B2.out.1.trans ((hB4.out.trans (hb5.mono hB4.out.size)).mono B2.out.1.size)
  refine hK _ _ (fun h => absurd (by decide) h) ?_
  clear hK K hb5 hss hsm I4 J4 hB4
  refine forced_done ?_
  refine multi_phase (fun _ => True) trivial ?_
  apply first_step; (rw [List.getElem?_toArray]; (repeat rw [List.getElem?_cons_succ]); rw [List.getElem?_cons_zero]); rfl; (intro W hB; go_simp; (first | done | rfl)); go_frame
  refine first_done ?_
  refine forced_done ?_
  refine multi_done ?_
  go_wp2_with fail
  go_ret
  exact ⟨rfl, HB5.out⟩
end Go.Proofs.Ytlcglkanlhmmdaa
