/- NamesOnce: the walk. -/
import Derived.Test.YtlcglkanlhmmdaaQN17Get
import Derived.Test.YtlcglkanlhmmdaaQN17Expands
import Derived.Test.YtlcglkanlhmmdaaQN17OnceP
namespace Go.Proofs.Ytlcglkanlhmmdaa
open Go.RowKit
set_option maxHeartbeats 4000000 in
set_option maxRecDepth 100000 in
theorem once_law (l : List Deed) (t : T) (hl : l.length ≤ 2097152) (hz : ∀ x ∈ l, x.t.size ≤ 2097152 ∧ x.t.fit ∧ x.nm.size ≤ 1048576) (htz : t.size ≤ 2097152 ∧ t.fit) (a : Option Addr) (cap : Nat) (x : Value) (w : World) (hA : ActsAt w a l) (hx : IsT w x t) :
    Calls Try.prog 4 #[.slice a l.length cap, x] w fun e w' => e = .returned (.bool true) ∧ Below w.heap.size w w' := by
  have HA := Lib.hid hA
  have HZ := Lib.hid hz
  have HT := Lib.hid htz
  obtain ⟨ta, tc, rfl, hat⟩ := hx
  have HAT := Lib.hid hat
  obtain ⟨n, hn⟩ : ∃ n, l.length = n := ⟨_, rfl⟩
  rw [hn] at hl ⊢
  have HN := Lib.hid hn
  clear hA hz htz hat hn
  go_enter Try.func4, Try.ntmps4
  rw [nagg_eq]
  go_upto_region 1 with fail
  refine abs_world ?_
  intro W0 hW0
  have b0 : Below w.heap.size w W0 := by rw [hW0]; (repeat (first | with_reducible exact Below.refl _ _ | with_reducible exact hBW | with_reducible refine Below.setCell ?_ ?_ _ | with_reducible refine Below.alloc ?_ ?_ _ | with_reducible refine belowN ?_ _ | with_reducible refine Below.drew ?_)); all_goals (first | omega | (dsimp only; omega) | ((repeat (first | with_reducible refine le_alloc ?_ | with_reducible refine le_setCell ?_ | with_reducible refine le_drew ?_ | with_reducible refine le_drewN ?_)); omega))
  have g0 : W0.heap[w.heap.size]? = some (.cells (ncells t.o (.slice ta t.l.length tc)).toArray 35) := by rw [hW0]; exact heap_alloc_new w _
  have B0 : Hid (Box w t ta tc W0) := ⟨b0, g0⟩
  clear hW0 b0 g0
  go_cut [32] (fun s wx => Hid (Box w t ta tc wx) ∧ s = .bool (bigP l t))
  case first =>
    go_wp2_with fail
    refine (awake_any _).mono ?_
    rintro e w1 ⟨rfl, hb1⟩
    have B1 := Lib.hid (B0.out.below hb1)
    clear hb1
    have GR := Lib.hid (greats_any l (fun x hx => ⟨(HZ.out x hx).1, Nat.le_trans (HZ.out x hx).2.2 (by omega)⟩) (by rw [HN.out]; exact hl) a cap w1 (HA.out.below B1.out.1))
    rw [HN.out] at GR
    go_wp2_with fail
    refine GR.out.mono ?_
    rintro e w2 ⟨rfl, hb2⟩
    have B2 := Lib.hid (B1.out.below hb2)
    clear hb2 GR B1
    cases hg : greatP l with
    | true =>
      have Y : Hid (bigP l t = true) := by unfold Hid bigP; simp [hg]
      go_wp2_with fail
      go_meet
      exact ⟨B2, by rw [Y.out]⟩
    | false =>
      have HG := Lib.hid hg
      clear hg
      by_cases h6 : 6 < n
      · have Y : Hid (bigP l t = true) := by unfold Hid bigP; rw [HN.out]; simp [h6]
        have e6 : decide ((6 : Int) < (n : Int)) = true := by simp; omega
        go_wp2_with fail
        go_meet
        exact ⟨B2, by rw [Y.out]⟩
      · have e6 : decide ((6 : Int) < (n : Int)) = false := by simp; omega
        have R2 := Lib.hid (range_blk B2.out.2)
        go_wp2_with (refine wpList_load_g rfl 35 (.tmp 3) rfl w.heap.size 0 rfl _ _ R2.out Try.underlying35 rfl info35 ?_)
        refine (great_any t HT.out.1 _ w2 ⟨ta, tc, rfl, HAT.out.below B2.out.1 t⟩).mono ?_
        rintro e w3 ⟨rfl, hb3⟩
        have B3 := Lib.hid (B2.out.below hb3)
        clear hb3 B2 R2
        cases htg : t.great with
        | true =>
          have Y : Hid (bigP l t = true) := by unfold Hid bigP; simp [htg]
          go_wp2_with fail
          go_meet
          exact ⟨B3, by rw [Y.out]⟩
        | false =>
          have R3 := Lib.hid (range_blk B3.out.2)
          have Y : Hid (bigP l t = decide ((60 : Int) < (t.size : Int))) := by
            unfold Hid bigP
            rw [HG.out, htg, HN.out, decide_eq_false h6, Bool.false_or, Bool.false_or, Bool.false_or, Bool.eq_iff_iff]
            simp only [decide_eq_true_eq]
            omega
          go_wp2_with (refine wpList_load_g rfl 35 (.tmp 3) rfl w.heap.size 0 rfl _ _ R3.out Try.underlying35 rfl info35 ?_)
          refine (nodes_any t HT.out.1 _ w3 ⟨ta, tc, rfl, HAT.out.below B3.out.1 t⟩).mono ?_
          rintro e w4 ⟨⟨v, xs, rfl, hown, _⟩, hb4⟩
          have B4 := Lib.hid (B3.out.below hb4)
          obtain ⟨g, cap2, rfl⟩ := Joins.ownsRow_form hown (T.size_pos t)
          clear hown hb4 B3 R3
          go_wp2_with fail
          go_meet
          exact ⟨B4, by rw [Y.out]⟩
  case rest =>
  obtain ⟨hI, rfl⟩ := hcut
  clear B0
  cases hbig : bigP l t with
  | true =>
    go_wp2_with fail
    refine (awake_any _).mono ?_
    rintro e w1 ⟨rfl, hb1⟩
    have B1 := Lib.hid (hI.out.below hb1)
    clear hb1
    go_wp2_with fail
    go_ret
    exact ⟨rfl, B1.out.1⟩
  | false =>
  obtain ⟨hgr, h6, htg, h60⟩ := bigP_no hbig
  obtain ⟨_, hall⟩ := greatP_no hgr
  have SZ := Lib.hid (tab_sizes fun x hx => (hall x hx).1)
  have TBL := Lib.hid (table_any l (by omega) HZ.out a cap wc (HA.out.below hI.out.1))
  rw [HN.out] at TBL
  have H60 := Lib.hid h60
  clear hbig hgr h6 htg h60 hall
  go_wp2_with fail
  refine TBL.out.mono ?_
  rintro e w1 ⟨pt, mo, ra, rc, rfl, hT, hR, hb1⟩
  have B1 := Lib.hid (hI.out.below hb1)
  have T1 := Lib.hid hT.tab
  have R1 := Lib.hid hR
  clear TBL hT hR hb1 hI
  go_upto_region 4 with fail
  refine abs_world ?_
  intro W2 hW2
  have g2 : W2.heap[w1.heap.size]? = some (.cells #[.slice ra (refF l).length rc] 43) := by rw [hW2]; exact heap_alloc_new w1 _
  have hb2 : Below w1.heap.size w1 W2 := by rw [hW2]; (repeat (first | with_reducible exact Below.refl _ _ | with_reducible exact hBW | with_reducible refine Below.setCell ?_ ?_ _ | with_reducible refine Below.alloc ?_ ?_ _ | with_reducible refine belowN ?_ _ | with_reducible refine Below.drew ?_)); all_goals (first | omega | (dsimp only; omega) | ((repeat (first | with_reducible refine le_alloc ?_ | with_reducible refine le_setCell ?_ | with_reducible refine le_drew ?_ | with_reducible refine le_drewN ?_)); omega))
  have B2 := Lib.hid (B1.out.below hb2)
  have T2 := Lib.hid (T1.out.below hb2)
  have R2 := Lib.hid (R1.out.below hb2)
  clear hW2 hb2 B1 T1 R1
  have RB := Lib.hid (range_blk B2.out.2)
  clear R2 g2
  go_wp2_with (refine wpList_load_g rfl 35 (.tmp 3) rfl w.heap.size 0 rfl _ _ RB.out Try.underlying35 rfl info35 ?_)
  refine (expand_any (tabF l) (fun p hp => Nat.le_trans (SZ.out p hp) (by omega)) t HT.out.1 _ W2 pt T2.out ⟨ta, tc, rfl, HAT.out.below B2.out.1 t⟩).mono ?_
  rintro e w3 ⟨a3, c3, S3, rfl, hO3, _, hb3⟩
  obtain ⟨E, hE⟩ : ∃ E, E = expT (subL (tabF l)) t [] false := ⟨_, rfl⟩
  have HFR : Hid (∀ s ∈ frT E [] false, getL (tabF l) s = none) := by rw [hE]; exact once_fr l t
  have HEX : Hid (expT (subL (tabF l)) E [] false = E) := by rw [hE]; exact once_exp l t
  have HSZ : Hid (E.size ≤ 24000) := by
    rw [hE]
    have := exp_size (M := 400) (by omega) (subL_size SZ.out) t [] false
    have := H60.out
    show _ ≤ _
    omega
  have I3 : IsT w3 (nagg E.o (.slice a3 E.l.length c3)) E := by rw [hE]; exact ⟨a3, c3, rfl, hO3.at⟩
  rw [← hE]
  have J3 := Lib.hid I3
  have B3 := Lib.hid (B2.out.below hb3)
  have T3 := Lib.hid (T2.out.below hb3)
  clear hO3 hb3 B2 T2 RB I3 hE
  go_upto_region 5 with (refine wpList_store_nd rfl (.tmp 7) (.tmp 41) rfl w3.heap.size 0 (ncells nd0 (.slice none 0 0)) 35 (heap_alloc_new w3 _) (Nat.le_refl _) E.o (.slice a3 E.l.length c3) rfl rfl rfl ?_; intro W4 p1 p2 p3)
  have N4 : Hid (W4.heap[w3.heap.size]? = some (.cells (ncells E.o (.slice a3 E.l.length c3)).toArray 35)) := p1
  have hB34 : Below w3.heap.size w3 W4 := ((Below.refl _ w3).alloc (Nat.le_refl _) _).trans (p2.below (by simp) (fun k hk => by omega))
  have J4 := Lib.hid (J3.out.below hB34)
  have B4 := Lib.hid (B3.out.below hB34)
  have T4 := Lib.hid (T3.out.below hB34)
  have R4 := Lib.hid (range_blk N4.out)
  clear p1 p2 p3 hB34 J3 B3 T3
  go_wp2_with (refine wpList_load_g rfl 35 (.tmp 7) rfl w3.heap.size 0 rfl _ _ R4.out Try.underlying35 rfl info35 ?_)
  refine (free15_any E (by have := HSZ.out; omega) _ W4 J4.out).mono ?_
  rintro e w5 ⟨v5, rfl, hv5, hb5⟩
  obtain ⟨f, hf⟩ : ∃ f, (frT E [] false).length = f := ⟨_, rfl⟩
  obtain ⟨a5, c5, rfl, hS5⟩ := hv5.strs
  have hfl : f ≤ 24000 := by rw [← hf]; exact Nat.le_trans (frT_length E [] false) HSZ.out
  rw [hf]
  have HF := Lib.hid hf
  have S5 := Lib.hid hS5
  have J5 := Lib.hid (J4.out.below hb5)
  have B5 := Lib.hid (B4.out.below hb5)
  have T5 := Lib.hid (T4.out.below hb5)
  have N5 : Hid (w5.heap[w3.heap.size]? = some (.cells (ncells E.o (.slice a3 E.l.length c3)).toArray 35)) := (hb5.block _ (lt_of_heap N4.out)).trans N4.out
  clear hv5 hb5 hf hS5 J4 B4 T4 R4 N4
  go_wp2_with fail
  go_loopg [45] f (fun gh i wr => ∃ (k : Nat), i = .int .i64 (k : Int) ∧ gh = f - k ∧ k ≤ f ∧ Hid (Below w5.heap.size w5 wr))
  case atStart => exact ⟨0, rfl, rfl, Nat.zero_le _, Below.refl _ _⟩
  case round =>
    obtain ⟨k, rfl, rfl, hk, hB⟩ := hrel
    by_cases hlt : k < f
    · obtain ⟨s, hs⟩ : ∃ s, (frT E [] false)[k]? = some s := ⟨_, List.getElem?_eq_getElem (by rw [HF.out]; exact hlt)⟩
      obtain ⟨q, qo, rfl, hq, hall⟩ := S5.out (by rw [HF.out]; omega)
      have c0 : wr.cell? ⟨q, qo + k, none⟩ = some (.string s) := (hB.out.cell (p := ⟨q, _, none⟩) hq).trans (hall k s hs)
      have hqr : q < wr.heap.size := Nat.lt_of_lt_of_le hq hB.out.size
      have hgn := HFR.out s (List.mem_of_getElem? hs)
      have HGN := Lib.hid hgn
      have j1 : (0 : Int) ≤ (k : Int) := by omega
      have j2 : (k : Int) < (f : Int) := by omega
      clear hall hs hq hgn
      go_wp2_with fail
      refine (get_any (tabF l) (fun p hp => Nat.le_trans (SZ.out p hp) (by omega)) s wr pt (T5.out.below hB.out)).mono ?_
      rintro e w6 ⟨he, hb6⟩
      obtain rfl : e = .returned (.tuple #[nagg nd0 (.slice none 0 0), .bool false]) := by
        rcases he with ⟨_, h⟩ | ⟨u, _, _, _, hg, _⟩
        · exact h
        · rw [HGN.out] at hg; cases hg
      have HB6 : Hid (Below w5.heap.size w5 w6) := hB.out.trans (hb6.mono hB.out.size)
      clear he hb6 c0 hqr hB
      go_wp2_with (refine wpList_store_nd rfl (.tmp 10) (.tmp 53) rfl w6.heap.size 0 (ncells nd0 (.slice none 0 0)) 35 (heap_alloc_new w6 _) (Nat.le_refl _) nd0 (.slice none 0 0) rfl rfl rfl ?_; intro W7 p1 p2 p3)
      have HB7 : Hid (Below w5.heap.size w5 W7) := HB6.out.trans (((Below.refl _ w6).alloc HB6.out.size _).trans (p2.below (Nat.le_trans HB6.out.size (by simp)) (fun k hk => by have := HB6.out.size; omega)))
      clear p1 p2 p3 HB6
      go_roundg (f - (k + 1))
      case measure => omega
      case rel => exact ⟨k + 1, by go_num, rfl, by omega, HB7⟩
    · have hkf : k = f := by omega
      have J6 := Lib.hid (J5.out.below hB.out)
      have B6 := Lib.hid (B5.out.below hB.out)
      have T6 := Lib.hid (T5.out.below hB.out)
      have N6 : Hid (wr.heap[w3.heap.size]? = some (.cells (ncells E.o (.slice a3 E.l.length c3)).toArray 35)) := (hB.out.block _ (lt_of_heap N5.out)).trans N5.out
      have LDN := load_nd (o := E.o) (s := .slice a3 E.l.length c3) (b := w3.heap.size) (off := 0) (w := wr) (lt_of_heap N6.out) (nd_of N6.out)
      clear hB J5 B5 T5 N5 S5
      subst hkf
      go_wp2_with fail
      refine wp_region_multiR [([0, 1, 3], [2, 4], [4, 5, 6, 7, 8, 9, 10, 11, 12]), ([5, 7, 9], [6, 8, 10], [10, 11, 12]), ([11, 12], [], [])] (by kernel_rfl) (by kernel_rfl) ?_
      refine multi_phase (Below wr.heap.size wr) (Below.refl _ _).drew ?_
      apply first_step; (rw [List.getElem?_toArray]; (repeat rw [List.getElem?_cons_succ]); rw [List.getElem?_cons_zero]); rfl; (intro W hB; go_simp; (first | done | rfl)); go_frame
      apply first_load; (rw [List.getElem?_toArray]; (repeat rw [List.getElem?_cons_succ]); rw [List.getElem?_cons_zero]); rfl; rfl; rfl; exact LDN; go_frame
      apply first_load; (rw [List.getElem?_toArray]; (repeat rw [List.getElem?_cons_succ]); rw [List.getElem?_cons_zero]); rfl; rfl; rfl; exact LDN; go_frame
      refine first_done ?_
      clear LDN
      have hd6 : Hid (Below wr.heap.size wr wr.drew) := (Below.refl _ wr).drew
      apply forced_step; (rw [List.getElem?_toArray]; (repeat rw [List.getElem?_cons_succ]); rw [List.getElem?_cons_zero]); rfl; intro K hK; go_simp
      have hex := expand_any (tabF l) (fun p hp => Nat.le_trans (SZ.out p hp) (by omega)) E (by have := HSZ.out; omega) _ wr.drew pt (T6.out.below hd6.out) (J6.out.below hd6.out)
      rw [HEX.out] at hex
      refine hex.mono ?_
      rintro e w7 ⟨a7, c7, S7, rfl, hO7, _, hb7⟩
      have hB7 : Hid (Below wr.heap.size wr w7) := hd6.out.trans hb7
      have I7 : Hid (IsT w7 (nagg E.o (.slice a7 E.l.length c7)) E) := ⟨a7, c7, rfl, hO7.at⟩
      refine hK _ _ (fun _ => hB7.out) ?_
      clear hK K hb7 hO7 hex
      apply forced_step; (rw [List.getElem?_toArray]; (repeat rw [List.getElem?_cons_succ]); rw [List.getElem?_cons_zero]); rfl; intro K hK; go_simp
      have hsm := same_any E (by have := HSZ.out; omega) E _ _ w7 I7.out (J6.out.below hB7.out)
      rw [(T.same_iff _ _).2 rfl] at hsm
      refine hsm.mono ?_
      rintro e w8 ⟨rfl, hb8⟩
      have hB8 : Hid (Below wr.heap.size wr w8) := hB7.out.trans (hb8.mono hB7.out.size)
      have B8 := Lib.hid (B6.out.below hB8.out)
      have LDN := load_nd (o := t.o) (s := .slice ta t.l.length tc) (b := w.heap.size) (off := 0) (w := w8) (lt_of_heap B8.out.2) (nd_of B8.out.2)
      refine hK _ _ (fun h => absurd (by decide) h) ?_
      clear hK K hb8 I7 hB7 hsm
      refine forced_done ?_
      refine multi_phase (Below w8.heap.size w8) (Below.refl _ _) ?_
      apply first_step; (rw [List.getElem?_toArray]; (repeat rw [List.getElem?_cons_succ]); rw [List.getElem?_cons_zero]); rfl; (intro W hB; go_simp; (first | done | rfl)); go_frame
      apply first_load; (rw [List.getElem?_toArray]; (repeat rw [List.getElem?_cons_succ]); rw [List.getElem?_cons_zero]); rfl; rfl; rfl; exact LDN; go_frame
      apply first_load; (rw [List.getElem?_toArray]; (repeat rw [List.getElem?_cons_succ]); rw [List.getElem?_cons_zero]); rfl; rfl; rfl; exact LDN; go_frame
      refine first_done ?_
      clear LDN
      apply forced_step; (rw [List.getElem?_toArray]; (repeat rw [List.getElem?_cons_succ]); rw [List.getElem?_cons_zero]); rfl; intro K hK; go_simp
      refine (new_any w8).mono ?_
      rintro e w9 ⟨rfl, hw9⟩
      have hB9 : Hid (Below w8.heap.size w8 w9) := by rw [hw9]; exact below_alloc _ _ _ (Nat.le_refl _)
      have T9 : Hid (Tab w9 w8.heap.size []) := ⟨none, by rw [hw9]; exact heap_alloc_new w8 _, rfl⟩
      refine hK _ _ (fun _ => hB9.out) ?_
      clear hK K hw9
      apply forced_step; (rw [List.getElem?_toArray]; (repeat rw [List.getElem?_cons_succ]); rw [List.getElem?_cons_zero]); rfl; intro K hK; go_simp
      have hex := expand_any [] (fun p hp => by cases hp) t HT.out.1 (nagg t.o (.slice ta t.l.length tc)) w9 w8.heap.size T9.out ⟨ta, tc, rfl, HAT.out.below (B8.out.below hB9.out).1 t⟩
      rw [none_exp] at hex
      refine hex.mono ?_
      rintro e w10 ⟨a10, c10, S10, rfl, hO10, _, hb10⟩
      have hB10 : Hid (Below w8.heap.size w8 w10) := hB9.out.trans (hb10.mono hB9.out.size)
      have I10 : Hid (IsT w10 (nagg t.o (.slice a10 t.l.length c10)) t) := ⟨a10, c10, rfl, hO10.at⟩
      refine hK _ _ (fun _ => hB10.out) ?_
      clear hK K hb10 hO10 hex T9 hB9
      apply forced_step; (rw [List.getElem?_toArray]; (repeat rw [List.getElem?_cons_succ]); rw [List.getElem?_cons_zero]); rfl; intro K hK; go_simp
      have hsm := same_any t (by have := HT.out.1; omega) t _ (nagg t.o (.slice ta t.l.length tc)) w10 I10.out ⟨ta, tc, rfl, HAT.out.below (B8.out.below hB10.out).1 t⟩
      rw [(T.same_iff _ _).2 rfl] at hsm
      refine hsm.mono ?_
      rintro e w11 ⟨rfl, hb11⟩
      have HB11 : Hid (Below w.heap.size w w11) := ((B8.out.below hB10.out).below hb11).1
      refine hK _ _ (fun h => absurd (by decide) h) ?_
      clear hK K hb11 hsm I10 hB10
      refine forced_done ?_
      refine multi_phase (fun _ => True) trivial ?_
      iterate 2 (first | (apply first_step; (rw [List.getElem?_toArray]; (repeat rw [List.getElem?_cons_succ]); rw [List.getElem?_cons_zero]); rfl; (intro W hB; go_simp; (first | done | rfl)); go_frame) | (apply first_skip; (rw [List.getElem?_toArray]; (repeat rw [List.getElem?_cons_succ]); rw [List.getElem?_cons_zero]); rfl; go_frame))
      refine first_done ?_
      refine forced_done ?_
      refine multi_done ?_
      go_wp2_with fail
      go_ret
      exact ⟨rfl, HB11.out⟩
end Go.Proofs.Ytlcglkanlhmmdaa
