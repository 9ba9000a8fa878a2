/- Cycle: Round. -/
import Derived.Test.YtcjohhminiedfaaQC21Away
namespace Go.Proofs.Ytcjohhminiedfaa
open Go.RowKit
theorem round_out {w : World} {G : Gb} {n : Nat} {T F : List (List Nat)} (h : GrN w G n T F) (x : Int) (hx : ¬ (0 ≤ x ∧ x < (n : Int))) : Calls Try.prog 12 #[G.pv, .int .i64 x] w fun e w' => e = .returned (.slice none 0 0) ∧ Below w.heap.size w w' := by
  have CS := Lib.hid (has_any h x)
  rw [show decide (0 ≤ x ∧ x < (n : Int)) = false by simpa using hx] at CS
  obtain ⟨gv, hgv⟩ : ∃ gv, G.pv = gv := ⟨_, rfl⟩
  rw [hgv] at CS ⊢
  clear hgv h hx
  go_enter Try.func12, Try.ntmps12
  go_wp2_with fail
  refine CS.out.mono ?_
  rintro e w1 ⟨rfl, hb1⟩
  go_wp2_with fail
  go_ret
  exact ⟨rfl, hb1⟩
/-- far as a function. -/
def farF (far : List Int) (y : Nat) : Int := far.getD y (-1)
theorem farF_at {far : List Int} {y : Nat} {v : Int} (h : far[y]? = some v) : farF far y = v := by unfold farF; rw [List.getD_eq_getElem?_getD, h]; rfl
set_option maxHeartbeats 8000000 in
set_option maxRecDepth 100000 in
theorem round_any {w : World} {G : Gb} {n x : Nat} {E : List (Nat × Nat)} (hok : EOk n E) (hn : n ≤ 100000) (hx : x < n) (h : GrR w G (tos n E) (frs n E)) (hG : ∀ k, G.has k → k < w.heap.size) :
    Calls Try.prog 12 #[G.pv, .int .i64 (x : Int)] w fun e w' => ∃ (v : Value) (ring : List Nat) (f : Nat → Int), e = .returned v ∧ IR w.heap.size w' v ring ∧ Dist n (adjE E) x f ∧ RoundR n (adjE E) f x ring ∧ Below w.heap.size w w' := by
  have CS := Lib.hid (has_any (n := n) (.inr ⟨h, tos_len n E, frs_len n E⟩) (x : Int))
  rw [show decide ((0 : Int) ≤ (x : Int) ∧ (x : Int) < (n : Int)) = true by simpa using hx] at CS
  have CA := Lib.hid (fun w1 (hb : Below w.heap.size w w1) => away_any hok hn hx (h.below hb) fun k hk => Nat.lt_of_lt_of_le (hG k hk) hb.size)
  have HG := Lib.hid hG
  have HGR := Lib.hid h
  have HOK := Lib.hid hok
  obtain ⟨K, hK⟩ : ∃ K, w.heap.size = K := ⟨_, rfl⟩
  have HK := Lib.hid hK
  rw [hK] at HG
  rw [hK]
  have hptr := h.ptr
  rw [hptr] at CS CA ⊢
  clear hptr hG h hok hK
  go_enter Try.func12, Try.ntmps12
  go_wp2_with fail
  refine CS.out.mono ?_
  rintro e w1 ⟨rfl, hb1⟩
  have CA1 := Lib.hid (CA.out w1 hb1)
  have KW : K ≤ w1.heap.size := by rw [← HK.out]; exact hb1.size
  have HB1 : Hid (Below K w w1) := by rw [← HK.out]; exact hb1
  clear hb1 CS CA
  go_wp2_with fail
  refine CA1.out.mono ?_
  rintro e w2 ⟨bf, far, rfl, hbf, hF, hfl, hD, hb2⟩
  have HB2 : Hid (Below K w w2) := HB1.out.trans (hb2.mono KW)
  have HF := Lib.hid hF
  have HFL := Lib.hid hfl
  have HD : Hid (Dist n (adjE E) x (farF far)) := hD
  have KF : K ≤ bf := Nat.le_trans KW hbf
  have zf := lt_of_heap hF
  clear CA1 HB1 hF hfl hD hb2 hbf KW
  go_wp2_with fail
  refine abs_world ?_
  intro W3 hW3
  have HL3 : Hid (IR (bf + 1) W3 (.slice (some ⟨w2.heap.size, 0, none⟩) 1 1) [x]) := by
    rw [hW3]
    have := IR.new (B := bf + 1) (w := w2) [x] zf (by simp)
    exact this
  have HB3 : Hid (Below (bf + 1) w2 W3) := by
    rw [hW3]
    exact (Below.refl _ _).alloc zf _
  clear hW3
  go_loopg [6, 7, 8] (n + 2) (fun g s6 s7 s8 wr => ∃ (ring : List Nat) (a : Nat) (bb : Int), s7 = .int .i64 (a : Int) ∧ s8 = .int .i64 bb ∧ ((bb = -1 ∧ a = x ∧ ring.length = 1 ∧ g = n + 2) ∨ (0 ≤ bb ∧ farF far a = bb + 1 ∧ g = bb.toNat + 1)) ∧ a < n ∧ bb < (n : Int) ∧ (ring.length : Int) + bb ≤ (n : Int) ∧ Hid (RoundSo n (adjE E) (farF far) x ring bb a) ∧ Hid (IR (bf + 1) wr s6 ring) ∧ Hid (Below (bf + 1) w2 wr))
  case atStart => exact ⟨[x], x, -1, rfl, rfl, .inl ⟨rfl, rfl, rfl, rfl⟩, hx, by omega, by simp, RoundSo.start _ _ _ _, HL3, HB3⟩
  case round =>
    obtain ⟨ring, a, bb, rfl, rfl, hph, han, hbn, hrl, hRS, hL, hB⟩ := hrel
    obtain ⟨la, lc, rfl, hlc, _⟩ := hL.out.slice
    have hGR : GrR wr G (tos n E) (frs n E) := HGR.out.keep fun k hk _ => (HB2.out.trans (hB.out.mono (by omega))).block k (HG.out k hk)
    obtain ⟨hmax, ta, tc, ra, rc, cp, zt, ct, hrow⟩ := hGR.rowT HG.out (x := a) (by rw [tos_len]; exact han)
    rw [tos_len] at cp
    have zp := lt_of_heap hGR.blk
    obtain ⟨row, hrw⟩ : ∃ row, (tos n E).getD a [] = row := ⟨_, rfl⟩
    have MR : Hid (∀ y, y ∈ row ↔ y < n ∧ adjE E a y = true) := fun y => by
      rw [← hrw, mem_tos HOK.out, adjE_mem]
      exact ⟨fun h => ⟨(HOK.out.lt _ h).2, h⟩, fun h => h.2⟩
    obtain ⟨q, hq⟩ : ∃ q, row.length = q := ⟨_, rfl⟩
    rw [hrw] at ct hmax hrow
    rw [hq] at ct hmax
    unfold maxLen at hmax
    have HQ := Lib.hid hq
    have HROW := Lib.hid hrow
    have HPH := Lib.hid hph
    have hbl : -1 ≤ bb := by omega
    obtain ⟨m, hm⟩ : ∃ m, ring.length = m := ⟨_, rfl⟩
    have HM := Lib.hid hm
    have HRL := Lib.hid hrl
    rw [hm] at hlc hrl ⊢
    have j1 : (0 : Int) ≤ (a : Int) := by omega
    have j2 : (a : Int) < (n : Int) := by omega
    clear hGR hq hrow hrw hm hph
    go_wp2_with fail
    clear j1 j2 cp zp zt ct
    rename World => wo
    go_loopg [9, 30] q (fun g s9 s30 wr2 => ∃ (b : Nat) (nx : Int), s30 = .int .i64 (b : Int) ∧ s9 = .int .i64 nx ∧ g = q - b ∧ b ≤ q ∧ Hid (Best (farF far) bb (row.take b) nx) ∧ (nx = -1 ∨ ∃ z : Nat, nx = (z : Int) ∧ z < n) ∧ Hid (Below wo.heap.size wo wr2))
    case atStart => exact ⟨0, -1, rfl, rfl, rfl, Nat.zero_le _, Best.nil _ _, .inl rfl, Below.refl _ _⟩
    case round =>
      obtain ⟨b, nx, rfl, rfl, rfl, hb, hBst, hnx, hBW⟩ := hrel
      have hBf : Below (bf + 1) w2 wr := hB.out.trans (hBW.out.mono (Nat.le_trans zf hB.out.size))
      have hF : FarM wr bf far := HF.out.keep (hBf.block bf (Nat.lt_succ_self _))
      have zf2 := lt_of_heap hF
      have HFR := Lib.hid hF
      by_cases hlt : b < q
      · obtain ⟨y, hy⟩ : ∃ y, row[b]? = some y := ⟨_, List.getElem?_eq_getElem (by rw [HQ.out]; exact hlt)⟩
        obtain ⟨rg, rfl, zr, cr⟩ := HROW.out wr (hBW.out.mono (by have := hB.out.size; omega)) b y hy
        have hyn := ((MR.out y).1 (List.mem_of_getElem? hy)).1
        obtain ⟨v, hv⟩ : ∃ v, far[y]? = some v := ⟨_, List.getElem?_eq_getElem (by rw [HFL.out]; exact hyn)⟩
        have HV := Lib.hid hv
        have c1 := hF.at hv
        have TK : Hid (row.take (b + 1) = row.take b ++ [y]) := by
          unfold Hid
          rw [List.take_add_one, hy]
          rfl
        have j1 : (0 : Int) ≤ (b : Int) := by omega
        have j2 : (b : Int) < (q : Int) := by omega
        have j5 : (0 : Int) ≤ (y : Int) := by omega
        have j6 : (y : Int) < (n : Int) := by omega
        clear hF hBf hv hy
        by_cases hv0 : v < 0
        · have hvb : decide (v < 0) = true := by simpa using hv0
          have HB2 : Hid (Best (farF far) bb (row.take (b + 1)) nx) := by
            unfold Hid
            rw [TK.out]
            exact hBst.out.skip (by rw [farF_at HV.out]; exact .inl hv0)
          clear hv0
          go_wp2_with fail
          go_roundg (q - (b + 1))
          case measure => omega
          case rel => exact ⟨b + 1, nx, by go_num, rfl, rfl, by omega, HB2, hnx, Below.trans hBW.out (Below.refl _ _)⟩
        · have hvb : decide (v < 0) = false := by simpa using hv0
          by_cases hb0 : 0 ≤ bb
          · have hbb : decide (0 ≤ bb) = true := by simpa using hb0
            by_cases hvbb : v = bb
            · have hvc : (v != bb) = false := by simpa using hvbb
              have HVB : Hid (0 ≤ bb → v = bb) := fun _ => hvbb
              have HV0 := Lib.hid hv0
              clear hb0 hvbb
              rcases hnx with rfl | ⟨z, rfl, hzn⟩
              · have HB2 : Hid (Best (farF far) bb (row.take (b + 1)) (y : Int)) := by
                  unfold Hid
                  rw [TK.out]
                  exact hBst.out.take (by rw [farF_at HV.out]; omega) (by rw [farF_at HV.out]; exact HVB.out) (.inl rfl)
                clear hBst
                go_wp2_with fail
                refine wp_region_mix [0, 1, 2, 3, 4, 5, 6, 7, 8, 9, 10, 11, 12, 13, 14, 15, 16, 17, 18, 19, 20, 21, 22, 23, 24, 25, 26, 27, 28] [] [] (Below wr.heap.size wr) (by kernel_rfl) (by kernel_rfl) (Below.refl _ _).drew ?_
                iterate 29 (first | (apply first_step; (rw [List.getElem?_toArray]; (repeat rw [List.getElem?_cons_succ]); rw [List.getElem?_cons_zero]); rfl; (intro W hB; have hc := bcellB hB; go_simp; (first | done | rfl)); go_frame) | (apply first_skip; (rw [List.getElem?_toArray]; (repeat rw [List.getElem?_cons_succ]); rw [List.getElem?_cons_zero]); rfl; go_frame))
                refine first_done ?_
                refine tail_done ?_
                go_wp2_with fail
                go_roundg (q - (b + 1))
                case measure => omega
                case rel => exact ⟨b + 1, (y : Int), by go_num, rfl, rfl, by omega, HB2, .inr ⟨y, rfl, hyn⟩, Below.trans hBW.out (Below.refl _ _).drew⟩
              · obtain ⟨u, hu⟩ : ∃ u, far[z]? = some u := ⟨_, List.getElem?_eq_getElem (by rw [HFL.out]; exact hzn)⟩
                have HU := Lib.hid hu
                have c2 := HFR.out.at hu
                have hz0 : decide ((z : Int) < 0) = false := by simp
                have j7 : (0 : Int) ≤ (z : Int) := by omega
                have j8 : (z : Int) < (n : Int) := by omega
                clear hu
                by_cases hvu : v < u
                · have hvub : decide (v < u) = true := by simpa using hvu
                  have HB2 : Hid (Best (farF far) bb (row.take (b + 1)) (y : Int)) := by
                    unfold Hid
                    rw [TK.out]
                    exact hBst.out.take (by rw [farF_at HV.out]; omega) (by rw [farF_at HV.out]; exact HVB.out) (.inr ⟨z, rfl, by rw [farF_at HV.out, farF_at HU.out]; exact .inl hvu⟩)
                  clear hBst
                  go_wp2_with fail
                  refine wp_region_mix [0, 1, 2, 3, 4, 5, 6, 7, 8, 9, 10, 11, 12, 13, 14, 15, 16, 17, 18, 19, 20, 21, 22, 23, 24, 25, 26, 27, 28] [] [] (Below wr.heap.size wr) (by kernel_rfl) (by kernel_rfl) (Below.refl _ _).drew ?_
                  iterate 29 (first | (apply first_step; (rw [List.getElem?_toArray]; (repeat rw [List.getElem?_cons_succ]); rw [List.getElem?_cons_zero]); rfl; (intro W hB; have hc := bcellB hB; go_simp; (first | done | rfl)); go_frame) | (apply first_skip; (rw [List.getElem?_toArray]; (repeat rw [List.getElem?_cons_succ]); rw [List.getElem?_cons_zero]); rfl; go_frame))
                  refine first_done ?_
                  refine tail_done ?_
                  go_wp2_with fail
                  go_roundg (q - (b + 1))
                  case measure => omega
                  case rel => exact ⟨b + 1, (y : Int), by go_num, rfl, rfl, by omega, HB2, .inr ⟨y, rfl, hyn⟩, Below.trans hBW.out (Below.refl _ _).drew⟩
                · have hvub : decide (v < u) = false := by simpa using hvu
                  by_cases hve : v = u
                  · have hveb : (v == u) = true := by simpa using hve
                    by_cases hyz : y < z
                    · have hyzb : decide ((y : Int) < (z : Int)) = true := by simpa using hyz
                      have hyzn : decide (y < z) = true := by simpa using hyz
                      have HX : Hid (farF far y < farF far z ∨ (farF far y = farF far z ∧ y < z)) := by
                        unfold Hid
                        rw [farF_at HV.out, farF_at HU.out]
                        exact .inr ⟨hve, hyz⟩
                      clear hve hyz hvu
                      have HB2 : Hid (Best (farF far) bb (row.take (b + 1)) (y : Int)) := by
                        unfold Hid
                        rw [TK.out]
                        exact hBst.out.take (by rw [farF_at HV.out]; omega) (by rw [farF_at HV.out]; exact HVB.out) (.inr ⟨z, rfl, HX.out⟩)
                      clear hBst
                      go_wp2_with fail
                      refine wp_region_mix [0, 1, 2, 3, 4, 5, 6, 7, 8, 9, 10, 11, 12, 13, 14, 15, 16, 17, 18, 19, 20, 21, 22, 23, 24, 25, 26, 27, 28] [] [] (Below wr.heap.size wr) (by kernel_rfl) (by kernel_rfl) (Below.refl _ _).drew ?_
                      iterate 29 (first | (apply first_step; (rw [List.getElem?_toArray]; (repeat rw [List.getElem?_cons_succ]); rw [List.getElem?_cons_zero]); rfl; (intro W hB; have hc := bcellB hB; go_simp; (first | done | rfl)); go_frame) | (apply first_skip; (rw [List.getElem?_toArray]; (repeat rw [List.getElem?_cons_succ]); rw [List.getElem?_cons_zero]); rfl; go_frame))
                      refine first_done ?_
                      refine tail_done ?_
                      go_wp2_with fail
                      go_roundg (q - (b + 1))
                      case measure => omega
                      case rel => exact ⟨b + 1, (y : Int), by go_num, rfl, rfl, by omega, HB2, .inr ⟨y, rfl, hyn⟩, Below.trans hBW.out (Below.refl _ _).drew⟩
                    · have hyzb : decide ((y : Int) < (z : Int)) = false := by simpa using hyz
                      have hyzn : decide (y < z) = false := by simpa using hyz
                      have HX : Hid (¬ (v < u ∨ (v = u ∧ y < z))) := by
                        unfold Hid
                        omega
                      clear hve hyz hvu
                      have HB2 : Hid (Best (farF far) bb (row.take (b + 1)) (z : Int)) := by
                        unfold Hid
                        rw [TK.out]
                        exact hBst.out.keep (by rw [farF_at HV.out, farF_at HU.out]; exact HX.out)
                      clear hBst
                      go_wp2_with fail
                      refine wp_region_mix [0, 1, 2, 3, 4, 5, 6, 7, 8, 9, 10, 11, 12, 13, 14, 15, 16, 17, 18, 19, 20, 21, 22, 23, 24, 25, 26, 27, 28] [] [] (Below wr.heap.size wr) (by kernel_rfl) (by kernel_rfl) (Below.refl _ _).drew ?_
                      iterate 29 (first | (apply first_step; (rw [List.getElem?_toArray]; (repeat rw [List.getElem?_cons_succ]); rw [List.getElem?_cons_zero]); rfl; (intro W hB; have hc := bcellB hB; go_simp; (first | done | rfl)); go_frame) | (apply first_skip; (rw [List.getElem?_toArray]; (repeat rw [List.getElem?_cons_succ]); rw [List.getElem?_cons_zero]); rfl; go_frame))
                      refine first_done ?_
                      refine tail_done ?_
                      go_wp2_with fail
                      go_roundg (q - (b + 1))
                      case measure => omega
                      case rel => exact ⟨b + 1, (z : Int), by go_num, rfl, rfl, by omega, HB2, .inr ⟨z, rfl, hzn⟩, Below.trans hBW.out (Below.refl _ _).drew⟩
                  · have hveb : (v == u) = false := by simpa using hve
                    have HX : Hid (¬ (v < u ∨ (v = u ∧ y < z))) := by
                      unfold Hid
                      omega
                    clear hve hvu
                    have HB2 : Hid (Best (farF far) bb (row.take (b + 1)) (z : Int)) := by
                      unfold Hid
                      rw [TK.out]
                      exact hBst.out.keep (by rw [farF_at HV.out, farF_at HU.out]; exact HX.out)
                    clear hBst
                    go_wp2_with fail
                    refine wp_region_mix [0, 1, 2, 3, 4, 5, 6, 7, 8, 9, 10, 11, 12, 13, 14, 15, 16, 17, 18, 19, 20, 21, 22, 23, 24, 25, 26, 27, 28] [] [] (Below wr.heap.size wr) (by kernel_rfl) (by kernel_rfl) (Below.refl _ _).drew ?_
                    iterate 29 (first | (apply first_step; (rw [List.getElem?_toArray]; (repeat rw [List.getElem?_cons_succ]); rw [List.getElem?_cons_zero]); rfl; (intro W hB; have hc := bcellB hB; go_simp; (first | done | rfl)); go_frame) | (apply first_skip; (rw [List.getElem?_toArray]; (repeat rw [List.getElem?_cons_succ]); rw [List.getElem?_cons_zero]); rfl; go_frame))
                    refine first_done ?_
                    refine tail_done ?_
                    go_wp2_with fail
                    go_roundg (q - (b + 1))
                    case measure => omega
                    case rel => exact ⟨b + 1, (z : Int), by go_num, rfl, rfl, by omega, HB2, .inr ⟨z, rfl, hzn⟩, Below.trans hBW.out (Below.refl _ _).drew⟩
            · have hvc : (v != bb) = true := by simpa using hvbb
              have HB2 : Hid (Best (farF far) bb (row.take (b + 1)) nx) := by
                unfold Hid
                rw [TK.out]
                exact hBst.out.skip (by rw [farF_at HV.out]; exact .inr ⟨hb0, hvbb⟩)
              clear hvbb hb0 hv0
              go_wp2_with fail
              go_roundg (q - (b + 1))
              case measure => omega
              case rel => exact ⟨b + 1, nx, by go_num, rfl, rfl, by omega, HB2, hnx, Below.trans hBW.out (Below.refl _ _)⟩
          · have hbb : decide (0 ≤ bb) = false := by simpa using hb0
            have HVB : Hid (0 ≤ bb → v = bb) := fun h => absurd h hb0
            clear hb0
            rcases hnx with rfl | ⟨z, rfl, hzn⟩
            · have HB2 : Hid (Best (farF far) bb (row.take (b + 1)) (y : Int)) := by
                unfold Hid
                rw [TK.out]
                exact hBst.out.take (by rw [farF_at HV.out]; omega) (by rw [farF_at HV.out]; exact HVB.out) (.inl rfl)
              clear hBst
              go_wp2_with fail
              refine wp_region_mix [0, 1, 2, 3, 4, 5, 6, 7, 8, 9, 10, 11, 12, 13, 14, 15, 16, 17, 18, 19, 20, 21, 22, 23, 24, 25, 26, 27, 28] [] [] (Below wr.heap.size wr) (by kernel_rfl) (by kernel_rfl) (Below.refl _ _).drew ?_
              iterate 29 (first | (apply first_step; (rw [List.getElem?_toArray]; (repeat rw [List.getElem?_cons_succ]); rw [List.getElem?_cons_zero]); rfl; (intro W hB; have hc := bcellB hB; go_simp; (first | done | rfl)); go_frame) | (apply first_skip; (rw [List.getElem?_toArray]; (repeat rw [List.getElem?_cons_succ]); rw [List.getElem?_cons_zero]); rfl; go_frame))
              refine first_done ?_
              refine tail_done ?_
              go_wp2_with fail
              go_roundg (q - (b + 1))
              case measure => omega
              case rel => exact ⟨b + 1, (y : Int), by go_num, rfl, rfl, by omega, HB2, .inr ⟨y, rfl, hyn⟩, Below.trans hBW.out (Below.refl _ _).drew⟩
            · obtain ⟨u, hu⟩ : ∃ u, far[z]? = some u := ⟨_, List.getElem?_eq_getElem (by rw [HFL.out]; exact hzn)⟩
              have HU := Lib.hid hu
              have c2 := HFR.out.at hu
              have hz0 : decide ((z : Int) < 0) = false := by simp
              have j7 : (0 : Int) ≤ (z : Int) := by omega
              have j8 : (z : Int) < (n : Int) := by omega
              clear hu
              by_cases hvu : v < u
              · have hvub : decide (v < u) = true := by simpa using hvu
                have HB2 : Hid (Best (farF far) bb (row.take (b + 1)) (y : Int)) := by
                  unfold Hid
                  rw [TK.out]
                  exact hBst.out.take (by rw [farF_at HV.out]; omega) (by rw [farF_at HV.out]; exact HVB.out) (.inr ⟨z, rfl, by rw [farF_at HV.out, farF_at HU.out]; exact .inl hvu⟩)
                clear hBst
                go_wp2_with fail
                refine wp_region_mix [0, 1, 2, 3, 4, 5, 6, 7, 8, 9, 10, 11, 12, 13, 14, 15, 16, 17, 18, 19, 20, 21, 22, 23, 24, 25, 26, 27, 28] [] [] (Below wr.heap.size wr) (by kernel_rfl) (by kernel_rfl) (Below.refl _ _).drew ?_
                iterate 29 (first | (apply first_step; (rw [List.getElem?_toArray]; (repeat rw [List.getElem?_cons_succ]); rw [List.getElem?_cons_zero]); rfl; (intro W hB; have hc := bcellB hB; go_simp; (first | done | rfl)); go_frame) | (apply first_skip; (rw [List.getElem?_toArray]; (repeat rw [List.getElem?_cons_succ]); rw [List.getElem?_cons_zero]); rfl; go_frame))
                refine first_done ?_
                refine tail_done ?_
                go_wp2_with fail
                go_roundg (q - (b + 1))
                case measure => omega
                case rel => exact ⟨b + 1, (y : Int), by go_num, rfl, rfl, by omega, HB2, .inr ⟨y, rfl, hyn⟩, Below.trans hBW.out (Below.refl _ _).drew⟩
              · have hvub : decide (v < u) = false := by simpa using hvu
                by_cases hve : v = u
                · have hveb : (v == u) = true := by simpa using hve
                  by_cases hyz : y < z
                  · have hyzb : decide ((y : Int) < (z : Int)) = true := by simpa using hyz
                    have hyzn : decide (y < z) = true := by simpa using hyz
                    have HX : Hid (farF far y < farF far z ∨ (farF far y = farF far z ∧ y < z)) := by
                      unfold Hid
                      rw [farF_at HV.out, farF_at HU.out]
                      exact .inr ⟨hve, hyz⟩
                    clear hve hyz hvu
                    have HB2 : Hid (Best (farF far) bb (row.take (b + 1)) (y : Int)) := by
                      unfold Hid
                      rw [TK.out]
                      exact hBst.out.take (by rw [farF_at HV.out]; omega) (by rw [farF_at HV.out]; exact HVB.out) (.inr ⟨z, rfl, HX.out⟩)
                    clear hBst
                    go_wp2_with fail
                    refine wp_region_mix [0, 1, 2, 3, 4, 5, 6, 7, 8, 9, 10, 11, 12, 13, 14, 15, 16, 17, 18, 19, 20, 21, 22, 23, 24, 25, 26, 27, 28] [] [] (Below wr.heap.size wr) (by kernel_rfl) (by kernel_rfl) (Below.refl _ _).drew ?_
                    iterate 29 (first | (apply first_step; (rw [List.getElem?_toArray]; (repeat rw [List.getElem?_cons_succ]); rw [List.getElem?_cons_zero]); rfl; (intro W hB; have hc := bcellB hB; go_simp; (first | done | rfl)); go_frame) | (apply first_skip; (rw [List.getElem?_toArray]; (repeat rw [List.getElem?_cons_succ]); rw [List.getElem?_cons_zero]); rfl; go_frame))
                    refine first_done ?_
                    refine tail_done ?_
                    go_wp2_with fail
                    go_roundg (q - (b + 1))
                    case measure => omega
                    case rel => exact ⟨b + 1, (y : Int), by go_num, rfl, rfl, by omega, HB2, .inr ⟨y, rfl, hyn⟩, Below.trans hBW.out (Below.refl _ _).drew⟩
                  · have hyzb : decide ((y : Int) < (z : Int)) = false := by simpa using hyz
                    have hyzn : decide (y < z) = false := by simpa using hyz
                    have HX : Hid (¬ (v < u ∨ (v = u ∧ y < z))) := by
                      unfold Hid
                      omega
                    clear hve hyz hvu
                    have HB2 : Hid (Best (farF far) bb (row.take (b + 1)) (z : Int)) := by
                      unfold Hid
                      rw [TK.out]
                      exact hBst.out.keep (by rw [farF_at HV.out, farF_at HU.out]; exact HX.out)
                    clear hBst
                    go_wp2_with fail
                    refine wp_region_mix [0, 1, 2, 3, 4, 5, 6, 7, 8, 9, 10, 11, 12, 13, 14, 15, 16, 17, 18, 19, 20, 21, 22, 23, 24, 25, 26, 27, 28] [] [] (Below wr.heap.size wr) (by kernel_rfl) (by kernel_rfl) (Below.refl _ _).drew ?_
                    iterate 29 (first | (apply first_step; (rw [List.getElem?_toArray]; (repeat rw [List.getElem?_cons_succ]); rw [List.getElem?_cons_zero]); rfl; (intro W hB; have hc := bcellB hB; go_simp; (first | done | rfl)); go_frame) | (apply first_skip; (rw [List.getElem?_toArray]; (repeat rw [List.getElem?_cons_succ]); rw [List.getElem?_cons_zero]); rfl; go_frame))
                    refine first_done ?_
                    refine tail_done ?_
                    go_wp2_with fail
                    go_roundg (q - (b + 1))
                    case measure => omega
                    case rel => exact ⟨b + 1, (z : Int), by go_num, rfl, rfl, by omega, HB2, .inr ⟨z, rfl, hzn⟩, Below.trans hBW.out (Below.refl _ _).drew⟩
                · have hveb : (v == u) = false := by simpa using hve
                  have HX : Hid (¬ (v < u ∨ (v = u ∧ y < z))) := by
                    unfold Hid
                    omega
                  clear hve hvu
                  have HB2 : Hid (Best (farF far) bb (row.take (b + 1)) (z : Int)) := by
                    unfold Hid
                    rw [TK.out]
                    exact hBst.out.keep (by rw [farF_at HV.out, farF_at HU.out]; exact HX.out)
                  clear hBst
                  go_wp2_with fail
                  refine wp_region_mix [0, 1, 2, 3, 4, 5, 6, 7, 8, 9, 10, 11, 12, 13, 14, 15, 16, 17, 18, 19, 20, 21, 22, 23, 24, 25, 26, 27, 28] [] [] (Below wr.heap.size wr) (by kernel_rfl) (by kernel_rfl) (Below.refl _ _).drew ?_
                  iterate 29 (first | (apply first_step; (rw [List.getElem?_toArray]; (repeat rw [List.getElem?_cons_succ]); rw [List.getElem?_cons_zero]); rfl; (intro W hB; have hc := bcellB hB; go_simp; (first | done | rfl)); go_frame) | (apply first_skip; (rw [List.getElem?_toArray]; (repeat rw [List.getElem?_cons_succ]); rw [List.getElem?_cons_zero]); rfl; go_frame))
                  refine first_done ?_
                  refine tail_done ?_
                  go_wp2_with fail
                  go_roundg (q - (b + 1))
                  case measure => omega
                  case rel => exact ⟨b + 1, (z : Int), by go_num, rfl, rfl, by omega, HB2, .inr ⟨z, rfl, hzn⟩, Below.trans hBW.out (Below.refl _ _).drew⟩
      · have hBq : Hid (Best (farF far) bb row nx) := by
          have h1 := hBst.out
          rw [List.take_of_length_le (by rw [HQ.out]; omega)] at h1
          exact h1
        have hL2 : Hid (wr.ownsRow (bf + 1) 3 1 (.slice la m lc) m (ring.map iv)) := by
          have h1 := hL.out.below hBW.out
          unfold IR at h1
          rw [HM.out] at h1
          exact h1
        have hBf2 := Lib.hid hBf
        clear hBst hF hBf hL HROW
        rcases hnx with rfl | ⟨z, rfl, hzn⟩
        · have HRR : Hid (RoundR n (adjE E) (farF far) x []) := by
            rcases hBq.out with ⟨_, h⟩ | ⟨z, h, _⟩
            · rcases HPH.out with ⟨h1, h2, _⟩ | ⟨h1, h2, _⟩
              · refine .inr ⟨rfl, fun y hy ha => ?_⟩
                refine Int.not_le.1 fun h0 => h y ((MR.out y).2 ⟨hy, by rw [h2]; exact ha⟩) h0 fun hb => ?_
                omega
              · exfalso
                have hax : a ≠ x := fun e => by
                  have := HD.out.zero
                  rw [← e, h2] at this
                  omega
                rcases HD.out.pos a han hax with h3 | ⟨k, k1, k2, k3, k4⟩
                · omega
                · exact h k ((MR.out k).2 ⟨k1, k2⟩) k3 fun _ => by omega
            · omega
          go_wp2_with fail
          refine bodyPost_ret (v := .slice none 0 0) (by simp [results, Try.results12, go_sem]) rfl ⟨_, [], farF far, rfl, IR.nil _ _, HD.out, HRR.out, HB2.out.trans (hBf2.out.mono (by omega))⟩
        · have HN := Lib.hid (hBq.out.next MR.out)
          by_cases hzx : z = x
          · have hzb : ((z : Int) == (x : Int)) = true := by simp; omega
            have HRR : Hid (RoundR n (adjE E) (farF far) x ring) := by
              have h1 := HN.out
              rw [hzx] at h1
              exact hRS.out.done h1
            clear hzx
            go_wp2_with fail
            refine bodyPost_ret (v := .slice la m lc) (by simp [results, Try.results12, go_sem]) rfl ⟨_, ring, farF far, rfl, ?_, HD.out, HRR.out, HB2.out.trans (hBf2.out.mono (by omega))⟩
            unfold IR
            rw [HM.out]
            exact own_base hL2.out (by omega)
          · have hzb : ((z : Int) == (x : Int)) = false := by simp; omega
            obtain ⟨u, hu⟩ : ∃ u, far[z]? = some u := ⟨_, List.getElem?_eq_getElem (by rw [HFL.out]; exact hzn)⟩
            have hfu := farF_at hu
            have hu0 : 0 ≤ u := by rw [← hfu]; exact HN.out.pos
            have hu1 : 1 ≤ u := by
              rcases HD.out.pos z hzn hzx with h3 | ⟨k, k1, k2, k3, k4⟩ <;> omega
            have hun : u < (n : Int) := by rw [← hfu]; exact HD.out.lt_n hzn
            have HRS : Hid (RoundSo n (adjE E) (farF far) x (ring ++ [z]) (u - 1) z) := by
              rw [← hfu]
              exact hRS.out.push HN.out hzx
            have HUB : Hid (0 ≤ bb → u = bb) := fun hb => by rw [← hfu]; exact HN.out.eq hb
            have HFU : Hid (farF far z = u - 1 + 1) := by unfold Hid; omega
            have HU := Lib.hid hu
            clear hzx hu hfu hu0 HN hBq hRS
            obtain ⟨i0, hi, hz0, hz1, hz2⟩ := info_parts info3
            have HI3 := Lib.hid (⟨hi, hz0, hz1, hz2⟩ : _ ∧ _ ∧ _ ∧ _)
            clear hi hz0 hz1 hz2
            have PU : Hid (∀ (v' : Value) (w' : World), w'.ownsRow (bf + 1) 3 1 v' (m + 1) (ring.map iv ++ [iv z]) → (wr.alloc (.cells #[.int .i64 (z : Int)] 3)).grownBy w' (Value.slice la m lc).ownBlock → FarM w' bf far ∧ IR (bf + 1) w' v' (ring ++ [z]) ∧ Below (bf + 1) w2 w') := fun v' w' h1 h2 => by
              have hbw : Below (bf + 1) wr w' := ⟨h2.os, h2.tape, h2.output, Nat.le_trans (by simp) h2.size, fun k hk => (h2.block k (by simp; omega) (fun e => by
                have h9 := (World.ownsRow.lt hL2.out k e.symm).1
                omega)).trans (Below.heap_alloc _ _ _ (by omega))⟩
              exact ⟨HFR.out.keep (hbw.block bf (Nat.lt_succ_self _)), IR.pushed (by rw [HM.out]; exact h1), hBf2.out.trans hbw⟩
            go_upto_region 19 with (at_builtin; refine wpList_append_own_at _ rfl _ _ 31 rfl (bf + 1) 3 i0 (.int .i64 0) 1 8 Try.underlying31 HI3.out.1 HI3.out.2.1 HI3.out.2.2.1 HI3.out.2.2.2 rfl (by decide) (.slice la m lc) m (ring.map iv) rfl (World.ownsRow.alloc hL2.out _) ⟨wr.heap.size, 0, none⟩ 1 1 [iv z] rfl rfl (cells_new _ #[.int .i64 (z : Int)] 3) (by simp [iv, Value.oneCell']) (by unfold maxLen; omega) (by omega) (by simp; omega) ?_; intro v9 w9 hown hgrow _ _; obtain ⟨va, vc, rfl, _⟩ := own_slice hown; obtain ⟨p1, p2, p3⟩ := PU.out _ w9 hown hgrow; have P1 := Lib.hid p1; have P2 := Lib.hid p2; have P3 := Lib.hid p3; clear hown hgrow p1 p2 p3)
            have c2 := P1.out.at HU.out
            have z9 := lt_of_heap P1.out
            have j7 : (0 : Int) ≤ (z : Int) := by omega
            have j8 : (z : Int) < (n : Int) := by omega
            clear zf2 HFR
            go_wp2_with fail
            refine wp_region_mix [0, 1, 2, 3, 4, 5, 6, 7] [] [] (Below w9.heap.size w9) (by kernel_rfl) (by kernel_rfl) (Below.refl _ _).drew ?_
            iterate 8 (first | (apply first_step; (rw [List.getElem?_toArray]; (repeat rw [List.getElem?_cons_succ]); rw [List.getElem?_cons_zero]); rfl; (intro W hB; have hc := bcellB hB; go_simp; (first | done | rfl)); go_frame) | (apply first_skip; (rw [List.getElem?_toArray]; (repeat rw [List.getElem?_cons_succ]); rw [List.getElem?_cons_zero]); rfl; go_frame))
            refine first_done ?_
            refine tail_done ?_
            refine abs_exit ?_
            intro W10 hW10
            have HL10 : Hid (IR (bf + 1) W10 (.slice va (m + 1) vc) (ring ++ [z])) := by rw [hW10]; exact P2.out.below (Below.refl _ _).drew
            have HB10 : Hid (Below (bf + 1) w2 W10) := by rw [hW10]; exact P3.out.drew
            have hlen2 : ((ring ++ [z]).length : Int) + (u - 1) ≤ (n : Int) := by
              rw [List.length_append, List.length_singleton, HM.out]
              rcases HPH.out with ⟨h1, _, h5, _⟩ | ⟨h1, _, _⟩
              · have hm1 := HM.out
                omega
              · have := HUB.out h1
                omega
            clear hW10 P1 P2 P3 c2 z9
            go_wp2_with fail
            go_roundg (u.toNat)
            case measure =>
              rcases HPH.out with ⟨_, _, _, h1⟩ | ⟨h2, _, h1⟩
              · omega
              · have := HUB.out h2
                omega
            case rel => exact ⟨ring ++ [z], z, u - 1, rfl, by rw [show IntKind.i64.wrap (u - 1) = u - 1 by rw [IntKind.wrap_i64]; omega], .inr ⟨by omega, HFU.out, by omega⟩, hzn, by omega, hlen2, HRS, HL10, HB10⟩
end Go.Proofs.Ytcjohhminiedfaa
