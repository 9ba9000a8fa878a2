/- Cycle: visit. -/
import Derived.Test.YtcjohhminiedfaaQC21W2
namespace Go.Proofs.Ytcjohhminiedfaa
open Go.RowKit
/-- Met, not yet on the stack. -/
def VS.enter0 (x : Nat) (s : VS) : VS := { s with count := s.count + 1, met := s.met.set x (s.count + 1), low := s.low.set x (s.count + 1), opn := s.opn.set x true }
set_option maxHeartbeats 4000000 in
set_option maxRecDepth 100000 in
theorem visit_any {K H n : Nat} {B : Vb} {G : Gb} {T F : List (List Nat)} (hT : TOk n T) (hn : n ≤ 100000) : ∀ (f x : Nat) (s : VS) (w : World) (sv pv : Value) (pvs : List Value), VOk n s → s.met[x]? = some 0 → s.met.count 0 ≤ f → VM K H n B G T F w s sv pv pvs →
    Calls Try.prog 40 #[.int .i64 (x : Int), pb B.c, pb B.m, pb B.lo, pb B.op, pb B.st, pb B.g, pb B.me, pb B.pa] w fun e w' => e = .returned (.tuple #[]) ∧ ∃ sv' pv' pvs', VM K H n B G T F w' (visitF T f x s) sv' pv' pvs' ∧ Below K w w' := by
  intro f
  induction f with
  | zero =>
    intro x s _ _ _ _ _ hx hf
    have := count_set (v := 1) hx (by omega)
    omega
  | succ f ih =>
    intro x s w sv pv pvs hok hx hf hM
    have HM := Lib.hid hM
    have IH := Lib.hid ih
    have HOK := Lib.hid hok
    have HX := Lib.hid hx
    have HF := Lib.hid hf
    have HT := Lib.hid hT
    obtain ⟨i0, hi, hz0, hz1, hz2⟩ := info_parts info3
    have HI := Lib.hid (⟨hi, hz0, hz1, hz2⟩ : _ ∧ _ ∧ _ ∧ _)
    obtain ⟨i1, hi', hz0', hz1', hz2'⟩ := info_parts info31
    have HJ := Lib.hid (⟨hi', hz0', hz1', hz2'⟩ : _ ∧ _ ∧ _ ∧ _)
    clear hi hz0 hz1 hz2 hi' hz0' hz1' hz2'
    have hxn : x < n := by rw [← hok.met]; exact (List.getElem?_eq_some_iff.1 hx).1
    obtain ⟨cn, hcn⟩ : ∃ c, s.count = c := ⟨_, rfl⟩
    have hcn1 : cn < n := by have h1 := hok.num; have h2 := count_set (v := 1) hx (by omega); omega
    have c1 : w.cell? ⟨B.c, 0, none⟩ = some (.int .i64 (cn : Int)) := by rw [← hcn]; exact cell_of_heap hM.cc 0
    have f1 := frozen_of_heap hM.cc 0
    have z1 := lt_of_heap hM.cc
    clear hM ih hok hx hf hT
    unfold pb
    go_enter Try.func40, Try.ntmps40
    go_wp2_with fail
    refine abs_world ?_
    intro W1 hW1
    have hM1 : VM K H n B G T F W1 { s with count := cn + 1 } sv pv pvs := by rw [hW1]; exact HM.out.put_c (by omega)
    have HM1 := Lib.hid hM1
    have FR1 : Hid (Fr (fun k => K ≤ k) w W1) := by
      rw [hW1]
      exact (Fr.setCell w _ _).mono fun k _ e => by subst e; exact hM1.lo' _ (hM1.in_l (i := 9) (by decide))
    have HC : Hid (∀ W, Fr (fun k => k = B.mb ∨ k = B.lb ∨ k = B.ob) W1 W → W.cell? ⟨B.m, 0, none⟩ = some (.slice (some ⟨B.mb, 0, none⟩) n n) ∧ W.cell? ⟨B.lo, 0, none⟩ = some (.slice (some ⟨B.lb, 0, none⟩) n n) ∧ W.cell? ⟨B.op, 0, none⟩ = some (.slice (some ⟨B.ob, 0, none⟩) n n) ∧ W.cell? ⟨B.c, 0, none⟩ = some (.int .i64 (cn + 1))) := fun W hW => hM1.four hW
    obtain ⟨lv, hlv⟩ : ∃ v, s.low[x]? = some v := ⟨_, List.getElem?_eq_getElem (by rw [HOK.out.low]; exact hxn)⟩
    obtain ⟨ov, hov⟩ : ∃ v, s.opn[x]? = some v := ⟨_, List.getElem?_eq_getElem (by rw [HOK.out.opn]; exact hxn)⟩
    have m1 := hM1.met_at HX.out
    have m2 := hM1.low_at hlv
    have m3 := hM1.opn_at hov
    have y1 := frozen_of_heap hM1.bm x
    have y2 := frozen_of_heap hM1.bl x
    have y3 := frozen_of_heap hM1.bo x
    have n1 : B.lb ≠ B.mb := Vb.ne hM1.nod (i := 6) (j := 5) (by decide) (by decide) (by decide)
    have n2 : B.ob ≠ B.mb := Vb.ne hM1.nod (i := 7) (j := 5) (by decide) (by decide) (by decide)
    have n3 : B.ob ≠ B.lb := Vb.ne hM1.nod (i := 7) (j := 6) (by decide) (by decide) (by decide)
    clear hlv hov
    have j1 : (0 : Int) ≤ (x : Int) := by omega
    have j2 : (x : Int) < (n : Int) := by omega
    clear hW1 hM1 c1 f1 z1
    refine wp_region_mix [0, 1, 2, 3, 4, 5, 6, 7, 8] [9, 10, 11, 12, 13] [12, 13] (Fr (fun k => k = B.mb ∨ k = B.lb ∨ k = B.ob) W1) (by kernel_rfl) (by kernel_rfl) (Fr.of_below (Below.refl _ W1).drew) ?_
    iterate 9 (apply first_step; (rw [List.getElem?_toArray]; (repeat rw [List.getElem?_cons_succ]); rw [List.getElem?_cons_zero]); rfl; (intro W hB; obtain ⟨e1, e2, e3, e4⟩ := HC.out W hB; go_simp; (first | done | rfl)); go_frame)
    refine first_done ?_
    apply tail_step; (rw [List.getElem?_toArray]; (repeat rw [List.getElem?_cons_succ]); rw [List.getElem?_cons_zero]); rfl; rfl; intro K hK; go_simp; refine hK _ _ (fun _ => Fr.set3 (Fr.of_below (Below.refl _ W1).drew) (.inl rfl) _) ?_; clear hK K
    apply tail_step; (rw [List.getElem?_toArray]; (repeat rw [List.getElem?_cons_succ]); rw [List.getElem?_cons_zero]); rfl; rfl; intro K hK; go_simp; refine hK _ _ (fun _ => Fr.set3 (Fr.of_below (Below.refl _ W1).drew) (.inl rfl) _) ?_; clear hK K
    apply tail_step; (rw [List.getElem?_toArray]; (repeat rw [List.getElem?_cons_succ]); rw [List.getElem?_cons_zero]); rfl; rfl; intro K hK; go_simp; refine hK _ _ (fun _ => Fr.set3 (Fr.set3 (Fr.of_below (Below.refl _ W1).drew) (.inl rfl) _) (.inr (.inl rfl)) _) ?_; clear hK K
    apply tail_step; (rw [List.getElem?_toArray]; (repeat rw [List.getElem?_cons_succ]); rw [List.getElem?_cons_zero]); rfl; rfl; intro K hK; go_simp; refine hK _ _ (fun h => absurd (by decide) h) ?_; clear hK K
    apply tail_step; (rw [List.getElem?_toArray]; (repeat rw [List.getElem?_cons_succ]); rw [List.getElem?_cons_zero]); rfl; rfl; intro K hK; go_simp; refine hK _ _ (fun h => absurd (by decide) h) ?_; clear hK K
    refine tail_done ?_
    refine abs_exit ?_
    intro W2 hW2
    have hM2 : VM K H n B G T F W2 (s.enter0 x) sv pv pvs := by
      rw [hW2]
      have h := HM1.out.drew.put_mb x (x := cn + 1) (v := (cn : Int) + 1) (by omega)
      have h := h.put_lb x (x := cn + 1) (v := (cn : Int) + 1) (by omega)
      have h := h.put_ob x true
      rw [← hcn] at h
      rw [← hcn]
      exact h
    have HM2 := Lib.hid hM2
    have FR2 : Hid (Fr (fun k => K ≤ k) w W2) := by
      rw [hW2]
      refine FR1.out.trans (S' := fun k => K ≤ k) ?_ fun _ _ h => h
      have h := Fr.set3 (Fr.set3 (Fr.set3 (Fr.of_below (Below.refl _ W1).drew) (p := ⟨B.mb, x, none⟩) (.inl rfl) (.int .i64 ((cn : Int) + 1))) (p := ⟨B.lb, x, none⟩) (.inr (.inl rfl)) (.int .i64 ((cn : Int) + 1))) (p := ⟨B.ob, x, none⟩) (.inr (.inr rfl)) (.bool true)
      refine h.mono fun k _ e => ?_
      rcases e with e | e | e <;> subst e
      · exact HM1.out.lo' _ (HM1.out.in_l (i := 5) (by decide))
      · exact HM1.out.lo' _ (HM1.out.in_l (i := 6) (by decide))
      · exact HM1.out.lo' _ (HM1.out.in_l (i := 7) (by decide))
    have s1 := cell_of_heap hM2.cst 0
    have f1 := frozen_of_heap hM2.cst 0
    have z1 := lt_of_heap hM2.cst
    clear hW2 hM2 HM1 FR1 HC m1 m2 m3 y1 y2 y3 n1 n2 n3
    have hlen : s.stack.length ≤ 100000 := by have := HOK.out.slen; omega
    have hH : H ≤ W2.heap.size := HM2.out.hH
    have PU : Hid (∀ (v' : Value) (w' : World), w'.ownsRow H 3 1 v' (s.stack.length + 1) (s.stack.map iv ++ [iv x]) → (W2.alloc (.cells #[.int .i64 (x : Int)] 3)).grownBy w' sv.ownBlock → (v'.ownBlock = sv.ownBlock ∨ v'.ownBlock = some (W2.alloc (.cells #[.int .i64 (x : Int)] 3)).heap.size) →
        w'.heap[B.st]? = some (.cells #[sv] 31) ∧ VM K H n B G T F (w'.setCell ⟨B.st, 0, none⟩ v') (s.enter x) v' pv pvs ∧ Fr (fun k => K ≤ k) W2 (w'.setCell ⟨B.st, 0, none⟩ v')) := fun v' w' h1 h2 h3 => HM2.out.push h1 h2 h3
    go_upto_region 3 with (at_builtin; refine wpList_append_own_at _ rfl _ _ 31 rfl H 3 i0 (.int .i64 0) 1 8 Try.underlying31 HI.out.1 HI.out.2.1 HI.out.2.2.1 HI.out.2.2.2 rfl (by decide) sv s.stack.length (s.stack.map iv) rfl (World.ownsRow.alloc HM2.out.st _) ⟨W2.heap.size, 0, none⟩ 1 1 [iv x] rfl rfl (cells_new _ #[.int .i64 (x : Int)] 3) (by simp [iv, Value.oneCell']) (by unfold maxLen; omega) (by omega) (by simp; omega) ?_; intro v3 w3 hown hgrow _ hloc; obtain ⟨va, vc, rfl, _⟩ := own_slice hown; obtain ⟨p1, p2, p3⟩ := PU.out _ w3 hown hgrow hloc; have P2 := Lib.hid p2; have P3 := Lib.hid p3; clear hown hgrow hloc s1 f1 z1; have s1 := cell_of_heap p1 0; have f1 := frozen_of_heap p1 0; have z1 := lt_of_heap p1; clear p1 p2 p3)
    refine abs_world ?_
    intro W3 hW3
    have hM3 : VM K H n B G T F W3 (midF T f x s 0) (.slice va (s.stack.length + 1) vc) pv pvs := by rw [hW3]; exact P2.out
    have FR3 : Hid (Fr (fun k => K ≤ k) w W3) := by rw [hW3]; exact FR2.out.trans P3.out fun _ _ h => h
    obtain ⟨hmax, ta, tc, ra, rc, g1, z1, g2, z2, g3, hrw⟩ := hM3.row HT.out hxn
    have HRW := Lib.hid hrw
    have HM3 := Lib.hid hM3
    obtain ⟨m, hm⟩ : ∃ m, (T.getD x []).length = m := ⟨_, rfl⟩
    have HMN := Lib.hid hm
    rw [hm] at g3 hmax
    unfold maxLen at hmax
    clear hW3 hM3 hrw P2 P3 PU FR2 HM2 hm s1 f1 hlen hH z1
    go_wp2_with fail
    clear g1 z1 g2 z2 g3 j1 j2
    go_loopg [41] m (fun g i wr => ∃ (k : Nat) (sv pv : Value) (pvs : List Value), i = .int .i64 k ∧ g = m - k ∧ k ≤ m ∧ Hid (VM K H n B G T F wr (midF T f x s k) sv pv pvs) ∧ Hid (Below K W3 wr))
    case atStart => exact ⟨0, _, _, _, rfl, rfl, Nat.zero_le _, HM3, Below.refl _ _⟩
    case round =>
      obtain ⟨k, sv, pv, pvs, rfl, rfl, hk, hM, hB⟩ := hrel
      by_cases hlt : k < m
      · obtain ⟨y, hy⟩ : ∃ y, (T.getD x [])[k]? = some y := ⟨_, List.getElem?_eq_getElem (by rw [HMN.out]; exact hlt)⟩
        obtain ⟨rg, rfl, zr, gr⟩ := HRW.out wr hB.out k y hy
        have hyn : y < n := HT.out.at (List.mem_of_getElem? hy)
        obtain ⟨hko, hkl, hkz⟩ := mid_ok HT.out HOK.out HX.out HF.out k
        obtain ⟨v, hv⟩ : ∃ v, (midF T f x s k).met[y]? = some v := ⟨_, List.getElem?_eq_getElem (by rw [hko.met]; exact hyn)⟩
        have g1 := cell_of_heap hM.out.cm 0
        have g2 := hM.out.met_at hv
        have z1 := lt_of_heap hM.out.cm
        have z2 := lt_of_heap hM.out.bm
        have j1 : (0 : Int) ≤ (k : Int) := by omega
        have j2 : (k : Int) < (m : Int) := by omega
        have j3 : (0 : Int) ≤ (y : Int) := by omega
        have j4 : (y : Int) < (n : Int) := by omega
        have HV := Lib.hid hv
        have HKO := Lib.hid hko
        have HKL := Lib.hid hkl
        have HKZ := Lib.hid hkz
        have HY := Lib.hid hy
        clear hv hko hkl hkz hy
        by_cases hv0 : v = 0
        · subst hv0
          have g4 := cell_of_heap hM.out.cme 0
          have z4 := lt_of_heap hM.out.cme
          unfold fv40 pb at g4
          go_wp2_with fail
          refine (IH.out y _ wr sv pv pvs HKO.out HV.out HKZ.out hM.out).mono ?_
          rintro e w4 ⟨rfl, sv4, pv4, pvs4, hM4, hB4⟩
          obtain ⟨hvo, hvl⟩ := visit_ok HT.out f y _ HKO.out HV.out HKZ.out
          obtain ⟨lx, hlx⟩ : ∃ v, (visitF T f y (midF T f x s k)).low[x]? = some v := ⟨_, List.getElem?_eq_getElem (by rw [hvo.low]; exact hxn)⟩
          obtain ⟨ly, hly⟩ : ∃ v, (visitF T f y (midF T f x s k)).low[y]? = some v := ⟨_, List.getElem?_eq_getElem (by rw [hvo.low]; exact hyn)⟩
          have k1 := cell_of_heap hM4.cl 0
          have k2 := hM4.low_at hlx
          have k3 := hM4.low_at hly
          have u1 := lt_of_heap hM4.cl
          have u2 := lt_of_heap hM4.bl
          have y2 := frozen_of_heap hM4.bl x
          have j5 : (0 : Int) ≤ (x : Int) := by omega
          have j6 : (x : Int) < (n : Int) := by omega
          have NX : Hid (midF T f x s (k + 1) = (visitF T f y (midF T f x s k)).lowTo x ly) := by
            unfold Hid
            rw [mid_succ HY.out]
            unfold VS.step
            rw [if_pos (by rw [List.getD_eq_getElem?_getD, HV.out]; rfl)]
            congr 1
            rw [List.getD_eq_getElem?_getD, hly]
            rfl
          have LX : Hid ((visitF T f y (midF T f x s k)).low.getD x 0 = lx) := by
            unfold Hid
            rw [List.getD_eq_getElem?_getD, hlx]
            rfl
          have HM4 := Lib.hid hM4
          have HB4 := Lib.hid (hB.out.trans hB4)
          clear hM4 hB4 hM hB hvo hvl hlx hly g1 g2 z1 z2 g4 z4 gr zr
          go_wp2_with fail
          refine wp_region_mix [0, 1, 2, 3, 4, 5, 6, 7, 8, 9, 10, 11] [12] [12] (Below w4.heap.size w4) (by kernel_rfl) (by kernel_rfl) (Below.refl _ _).drew ?_
          iterate 12 (first | (apply first_step; (rw [List.getElem?_toArray]; (repeat rw [List.getElem?_cons_succ]); rw [List.getElem?_cons_zero]); rfl; (intro W hB; have hc := bcellB hB; go_simp; (first | done | rfl)); go_frame) | (apply first_skip; (rw [List.getElem?_toArray]; (repeat rw [List.getElem?_cons_succ]); rw [List.getElem?_cons_zero]); rfl; go_frame))
          refine first_done ?_
          apply tail_step; (rw [List.getElem?_toArray]; (repeat rw [List.getElem?_cons_succ]); rw [List.getElem?_cons_zero]); rfl; rfl; intro K hK; go_simp; refine hK _ _ (fun h => absurd (by decide) h) ?_; clear hK K
          refine tail_done ?_
          refine abs_exit ?_
          intro W5 hW5
          have hM5 : VM K H n B G T F W5 (midF T f x s (k + 1)) sv4 pv4 pvs4 := by
            rw [hW5, NX.out]
            unfold VS.lowTo
            rw [LX.out]
            exact (HM4.out.put_lb x (x := min lx ly) (by split <;> omega)).drew
          have hB5 : Below K W3 W5 := by
            rw [hW5]
            have hK : K ≤ B.lb := HM4.out.lo' _ (HM4.out.in_l (i := 6) (by decide))
            exact (HB4.out.setCell (p := ⟨B.lb, x, none⟩) hK _).drew
          have HM5 := Lib.hid hM5
          have HB5 := Lib.hid hB5
          clear hW5 hM5 hB5 HM4 HB4 k1 k2 k3 u1 u2 y2 NX LX HV HKO HKL HKZ HY
          go_wp2_with fail
          all_goals
            go_roundg (m - (k + 1))
            case measure => omega
            case rel => exact ⟨k + 1, sv4, pv4, pvs4, by go_num, rfl, by omega, HM5, HB5⟩
        · have hvb : ((v : Int) == 0) = false := by simp; omega
          obtain ⟨o, ho⟩ : ∃ o, (midF T f x s k).opn[y]? = some o := ⟨_, List.getElem?_eq_getElem (by rw [HKO.out.opn]; exact hyn)⟩
          have g4 := cell_of_heap hM.out.co 0
          have g5 := hM.out.opn_at ho
          have z4 := lt_of_heap hM.out.co
          have z5 := lt_of_heap hM.out.bo
          have VN : Hid (¬ (midF T f x s k).met.getD y 0 = 0) := by
            unfold Hid
            rw [List.getD_eq_getElem?_getD, HV.out]
            exact hv0
          have VO : Hid ((midF T f x s k).opn.getD y false = o) := by
            unfold Hid
            rw [List.getD_eq_getElem?_getD, ho]
            rfl
          clear ho hv0
          cases o with
          | true =>
            obtain ⟨lx, hlx⟩ : ∃ v, (midF T f x s k).low[x]? = some v := ⟨_, List.getElem?_eq_getElem (by rw [HKO.out.low]; exact hxn)⟩
            have k1 := cell_of_heap hM.out.cl 0
            have k2 := hM.out.low_at hlx
            have u1 := lt_of_heap hM.out.cl
            have u2 := lt_of_heap hM.out.bl
            have y2 := frozen_of_heap hM.out.bl x
            have j5 : (0 : Int) ≤ (x : Int) := by omega
            have j6 : (x : Int) < (n : Int) := by omega
            have NX : Hid (midF T f x s (k + 1) = (midF T f x s k).lowTo x v) := by
              unfold Hid
              rw [mid_succ HY.out]
              unfold VS.step
              rw [if_neg VN.out, if_pos VO.out]
              congr 1
              rw [List.getD_eq_getElem?_getD, HV.out]
              rfl
            have LX : Hid ((midF T f x s k).low.getD x 0 = lx) := by
              unfold Hid
              rw [List.getD_eq_getElem?_getD, hlx]
              rfl
            clear hlx
            go_wp2_with fail
            refine wp_region_mix [0, 1, 2, 3, 4, 5, 6, 7, 8, 9, 10, 11] [12] [12] (Below wr.heap.size wr) (by kernel_rfl) (by kernel_rfl) (Below.refl _ _).drew ?_
            iterate 12 (first | (apply first_step; (rw [List.getElem?_toArray]; (repeat rw [List.getElem?_cons_succ]); rw [List.getElem?_cons_zero]); rfl; (intro W hB; have hc := bcellB hB; go_simp; (first | done | rfl)); go_frame) | (apply first_skip; (rw [List.getElem?_toArray]; (repeat rw [List.getElem?_cons_succ]); rw [List.getElem?_cons_zero]); rfl; go_frame))
            refine first_done ?_
            apply tail_step; (rw [List.getElem?_toArray]; (repeat rw [List.getElem?_cons_succ]); rw [List.getElem?_cons_zero]); rfl; rfl; intro K hK; go_simp; refine hK _ _ (fun h => absurd (by decide) h) ?_; clear hK K
            refine tail_done ?_
            refine abs_exit ?_
            intro W5 hW5
            have hM5 : VM K H n B G T F W5 (midF T f x s (k + 1)) sv pv pvs := by
              rw [hW5, NX.out]
              unfold VS.lowTo
              rw [LX.out]
              exact (hM.out.put_lb x (x := min lx v) (by split <;> omega)).drew
            have hB5 : Below K W3 W5 := by
              rw [hW5]
              have hK : K ≤ B.lb := hM.out.lo' _ (hM.out.in_l (i := 6) (by decide))
              exact (hB.out.setCell (p := ⟨B.lb, x, none⟩) hK _).drew
            have HM5 := Lib.hid hM5
            have HB5 := Lib.hid hB5
            clear hW5 hM5 hB5 hM hB k1 k2 u1 u2 y2 NX LX HV HKO HKL HKZ HY g1 g2 g4 g5 z1 z2 z4 z5 gr zr
            go_wp2_with fail
            all_goals
              go_roundg (m - (k + 1))
              case measure => omega
              case rel => exact ⟨k + 1, sv, pv, pvs, by go_num, rfl, by omega, HM5, HB5⟩
          | false =>
            have hM5 : VM K H n B G T F wr (midF T f x s (k + 1)) sv pv pvs := by
              rw [mid_succ HY.out]
              unfold VS.step
              rw [if_neg VN.out, if_neg (by rw [VO.out]; simp)]
              exact hM.out
            have HM5 := Lib.hid hM5
            clear hM5 hM
            go_wp2_with fail
            go_roundg (m - (k + 1))
            case measure => omega
            case rel => exact ⟨k + 1, sv, pv, pvs, by go_num, rfl, by omega, HM5, hB⟩
      · have hkm : k = m := by omega
        subst hkm
        obtain ⟨hko, hkl, hkz⟩ := mid_ok HT.out HOK.out HX.out HF.out k
        have VF : Hid (visitF T (f + 1) x s = (midF T f x s k).close x) := by unfold Hid; rw [visitF_succ, HMN.out]
        obtain ⟨R, hR⟩ : ∃ R, midF T f x s k = R := ⟨_, rfl⟩
        rw [hR] at hM hko hkl VF
        clear hR HMN HRW hkz HF HX
        obtain ⟨lx, hlx⟩ : ∃ v, R.low[x]? = some v := ⟨_, List.getElem?_eq_getElem (by rw [hko.low]; exact hxn)⟩
        obtain ⟨mx, hmx⟩ : ∃ v, R.met[x]? = some v := ⟨_, List.getElem?_eq_getElem (by rw [hko.met]; exact hxn)⟩
        have LX : Hid (R.low.getD x 0 = lx) := by
          unfold Hid
          rw [List.getD_eq_getElem?_getD, hlx]
          rfl
        have MX : Hid (R.met.getD x 0 = mx) := by
          unfold Hid
          rw [List.getD_eq_getElem?_getD, hmx]
          rfl
        have k1 := cell_of_heap hM.out.cl 0
        have k2 := hM.out.low_at hlx
        have k3 := cell_of_heap hM.out.cm 0
        have k4 := hM.out.met_at hmx
        have u1 := lt_of_heap hM.out.cl
        have u2 := lt_of_heap hM.out.bl
        have u3 := lt_of_heap hM.out.cm
        have u4 := lt_of_heap hM.out.bm
        have j5 : (0 : Int) ≤ (x : Int) := by omega
        have j6 : (x : Int) < (n : Int) := by omega
        have HKO := Lib.hid hko
        have BW : Hid (Below K w wr) := (FR3.out.below (HM.out.lo' _ (HM.out.in_l (i := 0) (by decide)) |> fun h => by have := HM.out.hi _ (HM.out.in_l (i := 0) (by decide)); have := HM.out.hH; omega) (fun k h => h)).trans hB.out
        have hst := hkl.stk
        clear hlx hmx hko hkl hB FR3
        by_cases hlm : lx = mx
        · subst hlm
          go_wp2_with fail
          refine wp_region_mix [0, 1, 2, 3, 4, 5, 6, 7, 8] [] [] (Below wr.heap.size wr) (by kernel_rfl) (by kernel_rfl) (Below.refl _ _).drew ?_
          iterate 9 (first | (apply first_step; (rw [List.getElem?_toArray]; (repeat rw [List.getElem?_cons_succ]); rw [List.getElem?_cons_zero]); rfl; (intro W hB; have hc := bcellB hB; go_simp; (first | done | rfl)); go_frame) | (apply first_skip; (rw [List.getElem?_toArray]; (repeat rw [List.getElem?_cons_succ]); rw [List.getElem?_cons_zero]); rfl; go_frame))
          refine first_done ?_
          refine tail_done ?_
          refine abs_exit ?_
          intro W6 hW6
          have hM6 : VM K H n B G T F W6 R sv pv pvs := by rw [hW6]; exact hM.out.drew
          have B6 : Hid (Below K w W6) := by rw [hW6]; exact BW.out.drew
          obtain ⟨l', hl'⟩ := hst
          have hat : R.stack[s.stack.length]? = some x := by rw [hl']; simp [VS.enter]
          have hatl := (List.getElem?_eq_some_iff.1 hat).1
          obtain ⟨sa, sc, rfl, hsc, hs0⟩ := hM6.st.slice
          obtain ⟨sg, rfl, hsH, hsz, hsf, hsc2⟩ := hs0 (by omega)
          obtain ⟨q, hq⟩ : ∃ q, R.stack.length = q := ⟨_, rfl⟩
          obtain ⟨c0, hc0⟩ : ∃ c, R.cut x = c := ⟨_, rfl⟩
          have HQ := Lib.hid hq
          have HC0 := Lib.hid hc0
          have HSC := Lib.hid hsc2
          have HAT := Lib.hid hat
          have hqn : q ≤ n := by have h1 := HKO.out.slen; have h2 := HKO.out.num; omega
          have NX : Hid (visitF T (f + 1) x s = { R with stack := R.stack.take c0, opn := (R.stack.drop c0).foldl (fun o y => o.set y false) R.opn, parts := R.parts ++ [R.stack.drop c0] }) := by
            unfold Hid
            rw [VF.out]
            unfold VS.close
            rw [if_pos (by rw [LX.out, MX.out]), hc0]
          have hrel0 : Hid (idxF R.stack x (q - 1) = c0) := by unfold Hid; rw [← hc0, ← hq]; rfl
          obtain ⟨k0, hk0⟩ : ∃ k0, s.stack.length = k0 := ⟨_, rfl⟩
          rw [hk0] at hat hatl HAT
          rw [hq] at hatl hsc hM6
          have HM6 := Lib.hid hM6
          have e1 := cell_of_heap hM6.cst 0
          have e2 := lt_of_heap hM6.cst
          clear hk0 hat hl' hW6 hM6 hM BW LX MX VF k1 k2 k3 k4 u1 u2 u3 u4 hsc2 hs0 hq hc0
          go_wp2_with fail
          go_loopg [12] (q - 1) (fun g i wr => ∃ (a : Nat), i = .int .i64 a ∧ g = a * 1 ∧ k0 ≤ a ∧ a < q ∧ Hid (idxF R.stack x a = c0) ∧ wr = W6)
          case atStart => exact ⟨q - 1, by go_num, by omega, by omega, by omega, hrel0, rfl⟩
          case round =>
            obtain ⟨a, rfl, rfl, hka, haq, hI, rfl⟩ := hrel
            obtain ⟨u, hu⟩ : ∃ u, R.stack[a]? = some u := ⟨_, List.getElem?_eq_getElem (by rw [HQ.out]; exact haq)⟩
            have e3 := HSC.out a u hu
            have e4 := hsz
            have j1 : (0 : Int) ≤ (a : Int) := by omega
            have j2 : (a : Int) < (q : Int) := by omega
            by_cases hux : u = x
            · subst hux
              have hca : c0 = a := by
                rw [← hI.out]
                cases a with
                | zero => rfl
                | succ a => unfold idxF; rw [if_pos hu]
              subst hca
              clear hI hu
              go_wp2_with fail
              obtain ⟨P, hP⟩ : ∃ P, R.stack.drop c0 = P := ⟨_, rfl⟩
              have hPl : P.length = q - c0 := by rw [← hP, List.length_drop, HQ.out]
              have hPn : ∀ y ∈ P, y < n := fun y hy => HKO.out.stk y (by rw [← hP] at hy; exact List.mem_of_mem_drop hy)
              have HPN := Lib.hid hPn
              have hcl := clone_any sg c0 (sc - c0) P wr (by omega) (by omega) hsz (fun j y hj => HSC.out (c0 + j) y (by rw [← hP, List.getElem?_drop] at hj; exact hj))
              rw [hP] at NX
              rw [hPl] at hcl
              refine hcl.mono ?_
              have PLT : Hid (∀ (i : Nat) (u : Value) (k : Nat), pvs[i]? = some u → u.ownBlock = some k → k < wr.heap.size) := fun i u k h1 h2 => (HM6.out.pa.lt' h1 k h2).2
              have hHw : H ≤ wr.heap.size := HM6.out.hH
              clear hcl hPn e1 e2 e3 e4
              rintro e w7 ⟨v7, rfl, hv7, hb7⟩
              obtain ⟨pa, pc, rfl, hpc, hp0⟩ := hv7.slice
              obtain ⟨pg, rfl, hpg, hpz, _, hp1⟩ := hp0 (by omega)
              have hM7 := HM6.out.below hb7
              have B7 : Hid (Below K w w7) := B6.out.trans (hb7.mono (Nat.le_trans (Nat.le_of_lt (Nat.lt_of_lt_of_le (HM6.out.hi _ (HM6.out.in_l (i := 0) (by decide)) |> fun h => Nat.lt_of_le_of_lt (HM6.out.lo' _ (HM6.out.in_l (i := 0) (by decide))) h) HM6.out.hH)) (Nat.le_refl _)))
              have e1 := cell_of_heap hM7.cst 0
              have e2 := lt_of_heap hM7.cst
              have e3 := frozen_of_heap hM7.cst 0
              have HV7 := Lib.hid hv7
              have HP1 := Lib.hid hp1
              have HM7 := Lib.hid hM7
              have HPG := Lib.hid hpg
              have j3 : (c0 : Int) ≤ (sc : Int) := by omega
              clear hv7 hM7 hb7 hp0 hp1 hpg HM6 B6 hP
              rw [hPl] at hpc
              go_upto_region 18 with fail
              refine abs_world ?_
              intro W8 hW8
              have hM8 : VM K H n B G T F W8 { R with stack := R.stack.take c0, opn := (P.take 0).foldl (fun o y => o.set y false) R.opn } (.slice (some ⟨sg, 0, none⟩) c0 sc) pv pvs := by
                rw [hW8]
                exact HM7.out.cutSt (by rw [HQ.out]; omega)
              have hstH : B.st < H := HM7.out.hi _ (HM7.out.in_l (i := 8) (by decide))
              have hV8 : IR wr.heap.size W8 (.slice (some ⟨pg, 0, none⟩) P.length pc) P := by
                rw [hW8]
                refine HV7.out.block fun k e _ => set_other k ?_
                cases e
                show pg ≠ B.st
                have := HPG.out
                omega
              have B8 : Hid (Below K w W8) := by
                rw [hW8]
                have hK : K ≤ B.st := HM7.out.lo' _ (HM7.out.in_l (i := 8) (by decide))
                exact B7.out.setCell (p := ⟨B.st, 0, none⟩) hK _
              have HM8 := Lib.hid hM8
              have HV8 := Lib.hid hV8
              have HOB : Hid (B.ob < H ∧ K ≤ B.ob) := ⟨HM7.out.hi _ (HM7.out.in_l (i := 7) (by decide)), HM7.out.lo' _ (HM7.out.in_l (i := 7) (by decide))⟩
              obtain ⟨b0, hb0⟩ : ∃ b, wr.heap.size = b := ⟨_, rfl⟩
              rw [hb0] at HPG PLT hHw HV8 hsz
              clear hb0 hW8 hM8 hV8 HM7 HV7 B7 e1 e2 e3 HP1 hpz
              go_wp2_with fail
              clear j3
              obtain ⟨p, hp⟩ : ∃ p, q - c0 = p := ⟨_, rfl⟩
              rw [hp] at hPl hpc ⊢
              go_loopg [111] p (fun g i wr' => ∃ (j : Nat), i = .int .i64 j ∧ g = p - j ∧ j ≤ p ∧ Hid (VM K H n B G T F wr' { R with stack := R.stack.take c0, opn := (P.take j).foldl (fun o y => o.set y false) R.opn } (.slice (some ⟨sg, 0, none⟩) c0 sc) pv pvs) ∧ Hid (IR b0 wr' (.slice (some ⟨pg, 0, none⟩) P.length pc) P) ∧ Hid (Below K w wr'))
              case atStart => exact ⟨0, rfl, rfl, Nat.zero_le _, HM8, HV8, B8⟩
              case round =>
                obtain ⟨j, rfl, rfl, hj, hM9, hV9, B9⟩ := hrel
                by_cases hlt : j < p
                · obtain ⟨y, hy⟩ : ∃ y, P[j]? = some y := ⟨_, List.getElem?_eq_getElem (by omega)⟩
                  obtain ⟨_, _, e, _, h1⟩ := hV9.out.slice
                  cases e
                  obtain ⟨_, e, _, z1, _, h2⟩ := h1 (by omega)
                  cases e
                  have e1 := h2 j y hy
                  have e2 := cell_of_heap hM9.out.co 0
                  have z2 := lt_of_heap hM9.out.co
                  have hyn := HPN.out y (List.mem_of_getElem? hy)
                  obtain ⟨ov, hov⟩ : ∃ v, ((P.take j).foldl (fun o y => o.set y false) R.opn)[y]? = some v := ⟨_, List.getElem?_eq_getElem (by rw [foldl_opn, HKO.out.opn]; exact hyn)⟩
                  have e3 := hM9.out.opn_at hov
                  have e4 := frozen_of_heap hM9.out.bo y
                  have z3 := lt_of_heap hM9.out.bo
                  have j1 : (0 : Int) ≤ (j : Int) := by omega
                  have j2 : (j : Int) < (p : Int) := by omega
                  have j3 : (0 : Int) ≤ (y : Int) := by omega
                  have j4 : (y : Int) < (n : Int) := by omega
                  have HY := Lib.hid hy
                  clear h1 h2 hov hy
                  go_upto_region 22 with fail
                  refine abs_world ?_
                  intro W9 hW9
                  have hM10 : VM K H n B G T F W9 { R with stack := R.stack.take c0, opn := (P.take (j + 1)).foldl (fun o y => o.set y false) R.opn } (.slice (some ⟨sg, 0, none⟩) c0 sc) pv pvs := by
                    rw [hW9, opn_take HY.out]
                    exact hM9.out.put_ob y false
                  have hV10 : IR b0 W9 (.slice (some ⟨pg, 0, none⟩) P.length pc) P := by
                    rw [hW9]
                    refine hV9.out.block fun k e _ => set_other k ?_
                    cases e
                    show pg ≠ B.ob
                    have := HPG.out
                    have := HOB.out.1
                    omega
                  have B10 : Hid (Below K w W9) := by
                    rw [hW9]
                    exact B9.out.setCell (p := ⟨B.ob, y, none⟩) HOB.out.2 _
                  have HM10 := Lib.hid hM10
                  have HV10 := Lib.hid hV10
                  clear hW9 hM10 hV10 hM9 hV9 B9 e1 e2 e3 e4 z1 z2 z3 HY
                  go_wp2_with fail
                  go_roundg (p - (j + 1))
                  case measure => omega
                  case rel => exact ⟨j + 1, by go_num, rfl, by omega, HM10, HV10, B10⟩
                · have hjp : P.take j = P := List.take_of_length_le (by omega)
                  rw [hjp] at hM9
                  have e1 := cell_of_heap hM9.out.cpa 0
                  have z1 := lt_of_heap hM9.out.cpa
                  obtain ⟨pa', pac, rfl, _⟩ := own_slice hM9.out.pa.row
                  have hHr : H ≤ wr.heap.size := hM9.out.hH
                  have hpl2 : R.parts.length ≤ 100000 := by
                    have h1 := HKO.out.all
                    have h2 := HKO.out.num
                    have h3 := parts_le HKO.out.pne
                    omega
                  have hpp : p ≤ P.length := by omega
                  have PU : Hid (∀ (v' : Value) (w' : World), w'.ownsRow H 31 1 v' (R.parts.length + 1) (pvs ++ [.slice (some ⟨pg, 0, none⟩) P.length pc]) → (wr.alloc (.cells #[.slice (some ⟨pg, 0, none⟩) P.length pc] 31)).grownBy w' (Value.slice pa' R.parts.length pac).ownBlock →
                      w'.heap[B.pa]? = some (.cells #[.slice pa' R.parts.length pac] 39) ∧ VM K H n B G T F (w'.setCell ⟨B.pa, 0, none⟩ v') (visitF T (f + 1) u s) (.slice (some ⟨sg, 0, none⟩) c0 sc) v' (pvs ++ [.slice (some ⟨pg, 0, none⟩) P.length pc]) ∧ Fr (fun k => K ≤ k) wr (w'.setCell ⟨B.pa, 0, none⟩ v')) := fun v' w' h1 h2 => by
                    rw [NX.out]
                    refine hM9.out.pushPa (hV9.out.base hHw) h1 h2 fun k e => ?_
                    cases e
                    refine ⟨fun e2 => ?_, fun i u hu e2 => ?_⟩
                    · cases e2
                      have := HPG.out
                      omega
                    · have := PLT.out i u pg hu e2
                      have := HPG.out
                      omega
                  rw [hPl] at PU
                  go_wp2_with (at_builtin; refine wpList_append_own_at _ rfl _ _ 39 rfl H 31 i1 (.slice none 0 0) 1 24 Try.underlying39 HJ.out.1 HJ.out.2.1 HJ.out.2.2.1 HJ.out.2.2.2 rfl (by decide) (.slice pa' R.parts.length pac) R.parts.length pvs rfl (World.ownsRow.alloc hM9.out.pa.row _) ⟨wr.heap.size, 0, none⟩ 1 1 [.slice (some ⟨pg, 0, none⟩) p pc] rfl rfl (cells_new _ #[.slice (some ⟨pg, 0, none⟩) p pc] 31) (by simp [Value.oneCell']) (by unfold maxLen; omega) (by omega) (by simp; omega) ?_; intro v3 w3 hown hgrow _ _; obtain ⟨va, vc, rfl, _⟩ := own_slice hown; obtain ⟨p1, p2, p3⟩ := PU.out _ w3 hown hgrow; have P2 := Lib.hid p2; have P3 := Lib.hid p3; clear hown hgrow e1 z1; have e1 := cell_of_heap p1 0; have e2 := frozen_of_heap p1 0; have z1 := lt_of_heap p1; clear p1 p2 p3)
                  have hKr : K ≤ w.heap.size := by
                    have h1 := HM.out.lo' _ (HM.out.in_l (i := 0) (by decide))
                    have h2 := HM.out.hi _ (HM.out.in_l (i := 0) (by decide))
                    have h3 := HM.out.hH
                    omega
                  refine bodyPost_end (v := .tuple #[]) (by simp [results, Try.results40, go_sem]) rfl ⟨rfl, ⟨_, _, _, P2.out⟩, B9.out.trans (P3.out.below (Nat.le_trans hKr B9.out.size) fun k h => h)⟩
            · have hub : ((u : Int) != (x : Int)) = true := by simp; omega
              have hak : a ≠ k0 := fun e => by
                subst e
                rw [HAT.out] at hu
                cases hu
                exact hux rfl
              obtain ⟨a', rfl⟩ : ∃ a', a = a' + 1 := ⟨a - 1, by omega⟩
              have hI' : Hid (idxF R.stack x a' = c0) := by
                unfold Hid
                rw [← hI.out]
                unfold idxF
                rw [if_neg (by rw [hu]; simpa using hux)]
                cases a' <;> rfl
              clear hI hu hux
              go_wp2_with fail
              go_roundg (a' * 1)
              case measure => omega
              case rel => exact ⟨a', by go_num, by omega, by omega, by omega, hI', rfl⟩
        · have hlb : (lx != mx) = true := by simpa using hlm
          have hlb2 : ((lx : Int) != (mx : Int)) = true := by simp; omega
          have NX : Hid (visitF T (f + 1) x s = R) := by
            unfold Hid
            rw [VF.out]
            unfold VS.close
            rw [if_neg (by rw [LX.out, MX.out]; exact hlm)]
          clear hlm
          go_wp2_with fail
          refine wp_region_mix [0, 1, 2, 3, 4, 5, 6, 7, 8] [] [] (Below wr.heap.size wr) (by kernel_rfl) (by kernel_rfl) (Below.refl _ _).drew ?_
          iterate 9 (first | (apply first_step; (rw [List.getElem?_toArray]; (repeat rw [List.getElem?_cons_succ]); rw [List.getElem?_cons_zero]); rfl; (intro W hB; have hc := bcellB hB; go_simp; (first | done | rfl)); go_frame) | (apply first_skip; (rw [List.getElem?_toArray]; (repeat rw [List.getElem?_cons_succ]); rw [List.getElem?_cons_zero]); rfl; go_frame))
          refine first_done ?_
          refine tail_done ?_
          go_wp2_with fail
          refine bodyPost_ret (v := .tuple #[]) (by simp [results, Try.results40, go_sem]) rfl ⟨rfl, sv, pv, pvs, ?_, BW.out.drew⟩
          rw [NX.out]
          exact hM.out.drew
end Go.Proofs.Ytcjohhminiedfaa
