/- CycleParts: the walk. -/
import Derived.Test.YtcjohhminiedfaaQC21ROrderP
import Derived.Test.YtcjohhminiedfaaQC21Rounds
namespace Go.Proofs.Ytcjohhminiedfaa
open Go.RowKit
set_option maxHeartbeats 8000000 in
set_option maxRecDepth 100000 in
theorem parts_law {v : Int} (v0 : 0 ≤ v) (v1 : v ≤ 255) {w : World} {a : Option Addr} {cap : Nat} {l : List (Int × Int)} (hE : EdAt w a l) {sv : Value} {S : List Int} (hS : RdI w sv S) :
    Calls Try.prog 5 #[.int .u8 v, .slice a l.length cap, sv] w fun e w' => e = .returned (.bool true) ∧ Below w.heap.size w w' := by
  obtain ⟨n, hn, _, hmod⟩ := mod31 v0
  have hwr : IntKind.i64.wrap v = v := by rw [IntKind.wrap_i64]; omega
  have HE := Lib.hid hE
  have HS := Lib.hid hS
  obtain ⟨m, hm⟩ : ∃ m, l.length = m := ⟨_, rfl⟩
  have HM0 := Lib.hid hm
  obtain ⟨_, sa, sc, e, _⟩ := hS
  subst e
  obtain ⟨ns, hns⟩ : ∃ ns, S.length = ns := ⟨_, rfl⟩
  rw [hns] at HS ⊢
  rw [hm]
  clear hm hE hns
  go_enter Try.func5, Try.ntmps5
  go_wp2_with fail
  refine (awake_any w).mono ?_
  rintro e w1 ⟨rfl, hb1⟩
  have HB1 := Lib.hid hb1
  clear hb1
  by_cases h1 : 100 < m
  · have b1 : decide ((100 : Int) < (m : Int)) = true := by simp; omega
    go_wp2_with fail
    refine bodyPost_ret (v := .bool true) (by simp [results, Try.results5, go_sem]) rfl ⟨rfl, HB1.out⟩
  have b1 : decide ((100 : Int) < (m : Int)) = false := by simp; omega
  by_cases h2 : 30 < ns
  · have b2 : decide ((30 : Int) < (ns : Int)) = true := by simp; omega
    go_wp2_with fail
    refine bodyPost_ret (v := .bool true) (by simp [results, Try.results5, go_sem]) rfl ⟨rfl, HB1.out⟩
  have b2 : decide ((30 : Int) < (ns : Int)) = false := by simp; omega
  obtain ⟨E, hEE⟩ : ∃ E, laidE n false l = E := ⟨_, rfl⟩
  have HOK : Hid (EOk n E) := by rw [← hEE]; exact laidE_ok n false l
  have HEL : Hid (E.length ≤ 1000000) := by
    have h3 := laidE_len n false l
    rw [hEE, HM0.out] at h3
    unfold Hid
    omega
  have C3 := Lib.hid (build_any (w := w1) (n := n) (cap := cap) (by omega) (by rw [HM0.out]; omega) ((HE.out.below HB1.out)))
  rw [HM0.out, hEE] at C3
  clear hEE
  go_wp2_with fail
  clear hwr hmod
  refine C3.out.mono ?_
  rintro e w3 ⟨G, a3, cap3, K3, rfl, hG3, hM3, hb3⟩
  obtain ⟨p, hp⟩ : ∃ p, G.pv = .pointer (some p) := ⟨_, hG3.gr.ptr⟩
  have HP := Lib.hid hp
  have HB3 := Lib.hid (HB1.out.trans (hb3.mono HB1.out.size))
  have HG3 := Lib.hid hG3
  have HM3 := Lib.hid hM3
  rw [hp]
  clear hp hG3 hM3 hb3 C3 HB1
  go_upto_region 6 with fail
  refine abs_world ?_
  intro W4 hW4
  have hw : Below w3.heap.size w3 W4 := by
    rw [hW4]
    exact below_alloc w3 _ _ (Nat.le_refl _)
  obtain ⟨Q, hQ⟩ : ∃ Q, w3.heap.size = Q := ⟨_, rfl⟩
  have HQ4 : Hid (W4.heap[Q]? = some (.cells #[.slice a3 n cap3] 27)) := by
    rw [hW4, ← hQ]
    exact heap_alloc_new w3 _
  have HG : Hid (GrE K3 W4 G n E) := HG3.out.below hw
  have HM : Hid (MxA W4 a3 n (adjE E)) := HM3.out.below hw
  have HB4 : Hid (Below w.heap.size w W4) := HB3.out.trans (hw.mono HB3.out.size)
  rw [hQ]
  clear hW4 hw hQ HG3 HM3 HB3
  have q0 := cell_of_heap HQ4.out 0
  have z0 := lt_of_heap HQ4.out
  have C5 := reach_E (S := S) HOK.out (by omega) (HG.out.below (Below.refl _ W4).drew) (HS.out.below HB4.out.drew)
  rw [HP.out] at C5
  have C5 := Lib.hid C5
  go_wp2_with fail
  refine wp_region_multiR [([0, 1, 2, 3, 4, 6, 7], [5, 8, 9], [8, 9, 10, 11, 12, 13, 14, 15, 16, 17, 18, 19]), ([10, 11, 12, 13, 15], [14, 16, 17], [16, 17, 18, 19]), ([18, 19], [], [])] (by kernel_rfl) (by kernel_rfl) ?_
  refine multi_phase (Below W4.heap.size W4) (Below.refl _ _).drew ?_
  iterate 7 (first | (apply first_step; (rw [List.getElem?_toArray]; (repeat rw [List.getElem?_cons_succ]); rw [List.getElem?_cons_zero]); rfl; (intro W hB; have hc := bcellB hB; go_simp; (first | done | rfl)); go_frame) | (apply first_skip; (rw [List.getElem?_toArray]; (repeat rw [List.getElem?_cons_succ]); rw [List.getElem?_cons_zero]); rfl; go_frame))
  refine first_done ?_
  apply forced_step; (rw [List.getElem?_toArray]; (repeat rw [List.getElem?_cons_succ]); rw [List.getElem?_cons_zero]); rfl; intro K' hK; go_simp
  refine C5.out.mono ?_
  rintro e w5 ⟨v5, r5, rfl, hI5, hR5, hb5⟩
  have hb5' : Below W4.heap.size W4 w5 := (Below.refl _ W4).drew.trans hb5
  refine hK _ _ (fun _ => hb5') ?_
  clear hK K'
  have HI5 : Hid (IR 0 w5 v5 r5) := hI5.base (Nat.zero_le _)
  have HR5 := Lib.hid hR5
  have HB5 := Lib.hid hb5'
  have C6 := Lib.hid (rreach_any (cap := cap3) (by omega) HOK.out (HM.out.below hb5') (HS.out.below (HB4.out.trans (hb5'.mono HB4.out.size))))
  clear hI5 hR5 hb5 hb5' C5
  apply forced_step; (rw [List.getElem?_toArray]; (repeat rw [List.getElem?_cons_succ]); rw [List.getElem?_cons_zero]); rfl; intro K' hK; go_simp
  refine C6.out.mono ?_
  rintro e w6 ⟨v6, r6, rfl, hI6, hR6, hb6⟩
  refine hK _ _ (fun h => absurd (by decide) h) ?_
  clear hK K'
  have hrr : r5 = r6 := HR5.out.uniq hR6
  subst hrr
  have HB6 : Hid (Below W4.heap.size W4 w6) := HB5.out.trans (hb6.mono HB5.out.size)
  have C7 := Lib.hid (same_any (HI5.out.below hb6) (hI6.base (Nat.zero_le _)))
  rw [decide_eq_true (rfl : r5 = r5)] at C7
  clear hI6 hR6 hb6 C6 HI5 HR5 HB5
  apply forced_step; (rw [List.getElem?_toArray]; (repeat rw [List.getElem?_cons_succ]); rw [List.getElem?_cons_zero]); rfl; intro K' hK; go_simp
  refine C7.out.mono ?_
  rintro e w7 ⟨rfl, hb7⟩
  refine hK _ _ (fun h => absurd (by decide) h) ?_
  clear hK K'
  have HB7 : Hid (Below W4.heap.size W4 w7) := HB6.out.trans (hb7.mono HB6.out.size)
  clear hb7 C7 HB6 q0 z0
  have HG7 : Hid (GrE K3 w7 G n E) := HG.out.below HB7.out
  have HM7 : Hid (MxA w7 a3 n (adjE E)) := HM.out.below HB7.out
  have HQ7 : Hid (w7.heap[Q]? = some (.cells #[.slice a3 n cap3] 27)) := (HB7.out.block Q (lt_of_heap HQ4.out)).trans HQ4.out
  have HB8 : Hid (Below w.heap.size w w7) := HB4.out.trans (HB7.out.mono HB4.out.size)
  clear HG HM HQ4 HB4 HB7
  have q0 := cell_of_heap HQ7.out 0
  have z0 := lt_of_heap HQ7.out
  have C5 := order_E HOK.out (by omega) HEL.out HG7.out
  rw [HP.out] at C5
  have C5 := Lib.hid C5
  refine forced_done ?_
  refine multi_phase (Below w7.heap.size w7) (Below.refl _ _) ?_
  iterate 5 (first | (apply first_step; (rw [List.getElem?_toArray]; (repeat rw [List.getElem?_cons_succ]); rw [List.getElem?_cons_zero]); rfl; (intro W hB; have hc := bcellB hB; go_simp; (first | done | rfl)); go_frame) | (apply first_skip; (rw [List.getElem?_toArray]; (repeat rw [List.getElem?_cons_succ]); rw [List.getElem?_cons_zero]); rfl; go_frame))
  refine first_done ?_
  apply forced_step; (rw [List.getElem?_toArray]; (repeat rw [List.getElem?_cons_succ]); rw [List.getElem?_cons_zero]); rfl; intro K' hK; go_simp
  refine C5.out.mono ?_
  rintro e w8 ⟨v8, L8, O8, rfl, hL8, hO8, hI8, hb8⟩
  refine hK _ _ (fun _ => hb8) ?_
  clear hK K'
  have HL8 := Lib.hid (hL8.pl (tos_ok HOK.out))
  have HO8 := Lib.hid hO8
  have HI8 : Hid (IR 0 w8 v8 (flat L8 O8)) := hI8.base (Nat.zero_le _)
  have HB9 := Lib.hid hb8
  have C6 := Lib.hid (rorder_any (cap := cap3) (by omega) HOK.out (HM7.out.below hb8))
  clear hL8 hO8 hI8 hb8 C5
  apply forced_step; (rw [List.getElem?_toArray]; (repeat rw [List.getElem?_cons_succ]); rw [List.getElem?_cons_zero]); rfl; intro K' hK; go_simp
  refine C6.out.mono ?_
  rintro e w9 ⟨v9, L9, O9, rfl, hL9, hO9, hI9, hb9⟩
  refine hK _ _ (fun h => absurd (by decide) h) ?_
  clear hK K'
  have hLL : L8 = L9 := HL8.out.only hL9
  subst hLL
  have hOO : O8 = O9 := HO8.out.uniq hO9
  subst hOO
  have HB10 : Hid (Below w7.heap.size w7 w9) := HB9.out.trans (hb9.mono HB9.out.size)
  have C7 := Lib.hid (same_any (HI8.out.below hb9) (hI9.base (Nat.zero_le _)))
  rw [decide_eq_true (rfl : flat L8 O8 = flat L8 O8)] at C7
  clear hL9 hO9 hI9 hb9 C6 HI8 HO8 HL8 HB9
  apply forced_step; (rw [List.getElem?_toArray]; (repeat rw [List.getElem?_cons_succ]); rw [List.getElem?_cons_zero]); rfl; intro K' hK; go_simp
  refine C7.out.mono ?_
  rintro e w10 ⟨rfl, hb10⟩
  refine hK _ _ (fun h => absurd (by decide) h) ?_
  clear hK K'
  have HB11 : Hid (Below w7.heap.size w7 w10) := HB10.out.trans (hb10.mono HB10.out.size)
  clear hb10 C7 HB10
  refine forced_done ?_
  refine multi_phase (Below w10.heap.size w10) (Below.refl _ _) ?_
  iterate 2 (first | (apply first_step; (rw [List.getElem?_toArray]; (repeat rw [List.getElem?_cons_succ]); rw [List.getElem?_cons_zero]); rfl; (intro W hB; have hc := bcellB hB; go_simp; (first | done | rfl)); go_frame) | (apply first_skip; (rw [List.getElem?_toArray]; (repeat rw [List.getElem?_cons_succ]); rw [List.getElem?_cons_zero]); rfl; go_frame))
  refine first_done ?_
  refine forced_done ?_
  refine multi_done ?_
  have HG11 : Hid (GrE K3 w10 G n E) := HG7.out.below HB11.out
  have HM11 : Hid (MxA w10 a3 n (adjE E)) := HM7.out.below HB11.out
  have HQ11 : Hid (w10.heap[Q]? = some (.cells #[.slice a3 n cap3] 27)) := (HB11.out.block Q z0).trans HQ7.out
  have HB12 : Hid (Below w.heap.size w w10) := HB8.out.trans (HB11.out.mono HB8.out.size)
  clear HG7 HM7 HQ7 HB8 HB11 q0 z0
  have q0 := cell_of_heap HQ11.out 0
  have z0 := lt_of_heap HQ11.out
  have C5 := parts_E HOK.out (by omega) (HG11.out.below (Below.refl _ w10).drew)
  rw [HP.out] at C5
  have C5 := Lib.hid C5
  go_wp2_with fail
  refine wp_region_mix [0, 2] [1, 3, 4, 5] [3, 4, 5] (Below w10.heap.size w10) (by kernel_rfl) (by kernel_rfl) (Below.refl _ _).drew ?_
  iterate 2 (first | (apply first_step; (rw [List.getElem?_toArray]; (repeat rw [List.getElem?_cons_succ]); rw [List.getElem?_cons_zero]); rfl; (intro W hB; have hc := bcellB hB; go_simp; (first | done | rfl)); go_frame) | (apply first_skip; (rw [List.getElem?_toArray]; (repeat rw [List.getElem?_cons_succ]); rw [List.getElem?_cons_zero]); rfl; go_frame))
  refine first_done ?_
  apply tail_step; (rw [List.getElem?_toArray]; (repeat rw [List.getElem?_cons_succ]); rw [List.getElem?_cons_zero]); rfl; rfl; intro K' hK; go_simp
  refine C5.out.mono ?_
  rintro e w11 ⟨v11, vs11, L11, rfl, hV11, hL11, hb11⟩
  have hb11' : Below w10.heap.size w10 w11 := (Below.refl _ w10).drew.trans hb11
  refine hK _ _ (fun _ => hb11') ?_
  clear hK K'
  have HV11 : Hid (RR 0 w11 v11 vs11 L11) := hV11.base' (Nat.zero_le _)
  have HL11 := Lib.hid (hL11.pl (tos_ok HOK.out))
  have HB13 := Lib.hid hb11'
  have C6 := Lib.hid (rparts_any (cap := cap3) (by omega) HOK.out (HM11.out.below hb11'))
  clear hV11 hL11 hb11 hb11' C5 q0 z0
  apply tail_step; (rw [List.getElem?_toArray]; (repeat rw [List.getElem?_cons_succ]); rw [List.getElem?_cons_zero]); rfl; rfl; intro K' hK; go_simp
  refine C6.out.mono ?_
  rintro e w12 ⟨v12, vs12, L12, rfl, hV12, hL12, hb12⟩
  refine hK _ _ (fun h => absurd (by decide) h) ?_
  clear hK K'
  have hLL : L11 = L12 := HL11.out.only hL12
  subst hLL
  have HB14 : Hid (Below w.heap.size w w12) := HB12.out.trans ((HB13.out.trans (hb12.mono HB13.out.size)).mono HB12.out.size)
  have HV5 : Hid (RR 0 w12 v11 vs11 L11) := HV11.out.below hb12
  have HV6 : Hid (RR 0 w12 v12 vs12 L11) := hV12.base' (Nat.zero_le _)
  have hqm : L11.length ≤ maxLen := own_max HV5.out.row
  obtain ⟨a5, c5, e, _, h5⟩ := HV5.out.slice
  subst e
  obtain ⟨a6, c6, e, _, h6⟩ := HV6.out.slice
  subst e
  obtain ⟨q, hq⟩ : ∃ q, L11.length = q := ⟨_, rfl⟩
  have HQ := Lib.hid hq
  have H5 := Lib.hid h5
  have H6 := Lib.hid h6
  have bq : ((q : Int) != (q : Int)) = false := by simp
  rw [hq] at hqm ⊢
  unfold maxLen at hqm
  have hs6 := HB14.out.size
  clear hV12 hL12 hb12 C6 hq h5 h6 HV5 HV6 HV11 HL11 HB13 HB12 HG11 HM11 HQ11
  (apply tail_step; (rw [List.getElem?_toArray]; (repeat rw [List.getElem?_cons_succ]); rw [List.getElem?_cons_zero]); rfl; rfl; intro K hK; go_simp; refine hK _ _ (fun h => absurd (by decide) h) ?_; clear hK K)
  (apply tail_step; (rw [List.getElem?_toArray]; (repeat rw [List.getElem?_cons_succ]); rw [List.getElem?_cons_zero]); rfl; rfl; intro K hK; go_simp; refine hK _ _ (fun h => absurd (by decide) h) ?_; clear hK K)
  refine tail_done ?_
  go_wp2_with fail
  go_loopg [63] q (fun g s63 wr => ∃ (k : Nat), s63 = .int .i64 (k : Int) ∧ g = q - k ∧ k ≤ q ∧ Hid (Below w12.heap.size w12 wr))
  case atStart => exact ⟨0, rfl, rfl, Nat.zero_le _, Below.refl _ _⟩
  case round =>
    obtain ⟨k, rfl, rfl, hk, hB⟩ := hrel
    by_cases hlt : k < q
    · obtain ⟨row, hrow⟩ : ∃ row, L11[k]? = some row := ⟨_, List.getElem?_eq_getElem (by rw [HQ.out]; exact hlt)⟩
      obtain ⟨g5, rfl, z5, ra, rc, _, cr, hr5⟩ := H5.out k row hrow
      obtain ⟨g6, rfl, z6, sa2, sc2, _, cs, hr6⟩ := H6.out k row hrow
      have cr' := (hB.out.cell (p := ⟨g5, k, none⟩) z5).trans cr
      have cs' := (hB.out.cell (p := ⟨g6, k, none⟩) z6).trans cs
      have z5' := Nat.lt_of_lt_of_le z5 hB.out.size
      have z6' := Nat.lt_of_lt_of_le z6 hB.out.size
      have i1 : (0 : Int) ≤ (k : Int) := by omega
      have i2 : (k : Int) < (q : Int) := by omega
      have CS := Lib.hid (same_any (w := wr.drew) (l := row) (m := row) ((hr5.base (Nat.zero_le _)).below hB.out.drew) ((hr6.base (Nat.zero_le _)).below hB.out.drew))
      rw [decide_eq_true (rfl : row = row)] at CS
      clear cr cs z5 z6 hr5 hr6 hrow
      go_wp2_with fail
      refine wp_region_mix [0, 1, 2, 3, 4, 5, 6, 7] [8, 9] [8, 9] (Below wr.heap.size wr) (by kernel_rfl) (by kernel_rfl) (Below.refl _ _).drew ?_
      iterate 8 (first | (apply first_step; (rw [List.getElem?_toArray]; (repeat rw [List.getElem?_cons_succ]); rw [List.getElem?_cons_zero]); rfl; (intro W hB; have hc := bcellB hB; go_simp; (first | done | rfl)); go_frame) | (apply first_skip; (rw [List.getElem?_toArray]; (repeat rw [List.getElem?_cons_succ]); rw [List.getElem?_cons_zero]); rfl; go_frame))
      refine first_done ?_
      apply tail_step; (rw [List.getElem?_toArray]; (repeat rw [List.getElem?_cons_succ]); rw [List.getElem?_cons_zero]); rfl; rfl; intro K hK; go_simp
      refine CS.out.mono ?_
      rintro e w13 ⟨rfl, f7⟩
      refine hK _ _ (fun h => absurd (by decide) h) ?_
      clear hK K
      have HB7 : Hid (Below w12.heap.size w12 w13) := hB.out.drew.trans (f7.mono hB.out.size)
      clear f7 cr' cs' z5' z6' CS
      (apply tail_step; (rw [List.getElem?_toArray]; (repeat rw [List.getElem?_cons_succ]); rw [List.getElem?_cons_zero]); rfl; rfl; intro K hK; go_simp; refine hK _ _ (fun h => absurd (by decide) h) ?_; clear hK K)
      refine tail_done ?_
      go_wp2_with fail
      go_roundg (q - (k + 1))
      case measure => omega
      case rel => exact ⟨k + 1, by go_num, rfl, by omega, HB7⟩
    · go_wp2_with fail
      refine bodyPost_ret (v := .bool true) (by simp [results, Try.results5, go_sem]) rfl ⟨rfl, HB14.out.trans (hB.out.mono hs6)⟩
end Go.Proofs.Ytcjohhminiedfaa
