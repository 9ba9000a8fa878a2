/- Cycle: Order. -/
import Derived.Test.YtcjohhminiedfaaQC21OM
namespace Go.Proofs.Ytcjohhminiedfaa
open Go.RowKit
theorem OB.begin {K n : Nat} {G : Gb} {T F L : List (List Nat)} {pv : Value} {vs : List Value} {w : World} {os : List Nat} (hgr : 0 < n → GrR w G T F) (hK : 0 < n → ∀ k, G.has k → k < K) (hp : RR K w pv vs L) (hKw : K ≤ w.heap.size) :
    OB K n w.heap.size G T F L pv vs (w.alloc (.cells (os.map iv).toArray 3)) os :=
  ⟨hKw, fun h0 => (hgr h0).below (below_alloc w _ _ (Nat.le_refl _)), hK, hp.below (below_alloc w _ _ (Nat.le_refl _)), fun k e => (hp.row.lt k e).2, fun _ _ k e1 e2 => (hp.lt' e1 k e2).2, heap_alloc_new w _⟩
set_option maxHeartbeats 8000000 in
set_option maxRecDepth 100000 in
theorem order_any {w : World} {G : Gb} {n : Nat} {T F : List (List Nat)} (hT : TOk n T) (hF : TOk n F) (hTF : ∀ x y, (F.getD x []).count y = (T.getD y []).count x) (hn : n ≤ 100000) (hE : (T.map List.length).sum ≤ 1000000) (h : GrN w G n T F) (hG : 0 < n → ∀ k, G.has k → k < w.heap.size) :
    Calls Try.prog 17 #[G.pv] w fun e w' => ∃ v L O, e = .returned v ∧ PartsR n T L ∧ IsOrd T L O ∧ IR w.heap.size w' v (O.flatMap fun i => L.getD i []) ∧ Below w.heap.size w w' := by
  have HP := Lib.hid (parts_any hT hn h hG)
  have HT := Lib.hid hT
  have HF := Lib.hid hF
  have HTF := Lib.hid hTF
  have HEE := Lib.hid hE
  have HG := Lib.hid hG
  have HGR := Lib.hid h
  clear hT hF hTF hE hG h
  obtain ⟨gv, hgv⟩ : ∃ gv, G.pv = gv := ⟨_, rfl⟩
  rw [hgv] at HP ⊢
  have HGV := Lib.hid hgv
  clear hgv
  obtain ⟨K, hK⟩ : ∃ K, w.heap.size = K := ⟨_, rfl⟩
  have HK := Lib.hid hK
  rw [hK] at HG HP
  rw [hK]
  clear hK
  go_enter Try.func17, Try.ntmps17
  go_wp2_with fail
  refine HP.out.mono ?_
  rintro e w1 ⟨v, vs, L, rfl, hR, hL, hB⟩
  have PR := Lib.hid hL
  have PLL := Lib.hid (hL.pl HT.out)
  obtain ⟨pa, pc, rfl, _⟩ := own_slice hR.row
  obtain ⟨m, hm⟩ : ∃ m, L.length = m := ⟨_, rfl⟩
  have HM := Lib.hid hm
  have hmn : m ≤ n := by
    have h1 := found_facts HT.out
    have h2 := hL.1.length_eq
    rw [List.length_map] at h2
    omega
  rw [hm] at hR ⊢
  have HR := Lib.hid hR
  have HB := Lib.hid hB
  have hGR1 : Hid (GrN w1 G n T F) := HGR.out.below (by rw [HK.out]; exact hB)
  have KW : K ≤ w1.heap.size := by rw [← HK.out]; exact hB.size
  clear hR hL hB hm HP
  go_wp2_with fail
  have hsz := size_any hGR1.out
  rw [HGV.out] at hsz
  refine hsz.mono ?_
  clear hsz
  rintro e w2 ⟨rfl, hb2⟩
  have HR2 := Lib.hid (HR.out.below hb2)
  have HB2 : Hid (Below K w w2) := HB.out.trans (hb2.mono KW)
  have hGR2 : Hid (GrN w2 G n T F) := hGR1.out.below hb2
  have KW2 : K ≤ w2.heap.size := Nat.le_trans KW hb2.size
  clear hb2 HR hGR1 HB KW
  have MK := mk3 n (by omega)
  go_wp2_with fail
  refine abs_world ?_
  intro W3 hW3
  have hOB : Hid (OB K n w2.heap.size G T F L (.slice pa m pc) vs W3 (List.replicate n 0)) := by
    unfold Hid
    rw [hW3, ← List.toArray_replicate, iv_rep]
    refine OB.begin (fun h0 => ?_) HG.out HR2.out KW2
    rcases hGR2.out with ⟨h, _⟩ | ⟨h, _⟩
    · omega
    · exact h
  have hBB : Hid (Below K w W3) := by
    rw [hW3]
    exact HB2.out.alloc KW2 _
  obtain ⟨bo, hbo⟩ : ∃ bo, w2.heap.size = bo := ⟨_, rfl⟩
  rw [hbo] at hOB KW2 ⊢
  clear hbo hW3 HB2 HR2 hGR2 MK
  go_loopg [30] m (fun g i wr => ∃ (k : Nat) (os : List Nat), i = .int .i64 k ∧ g = m - k ∧ k ≤ m ∧ Hid (OsK n L k 0 os) ∧ Hid (OB K n bo G T F L (.slice pa m pc) vs wr os) ∧ Hid (Below K w wr))
  case atStart => exact ⟨0, _, rfl, rfl, Nat.zero_le _, OsK.zero n L, hOB, hBB⟩
  case round =>
    obtain ⟨k, os, rfl, rfl, hk, hOs, hO, hB⟩ := hrel
    by_cases hlt : k < m
    · obtain ⟨p, hp⟩ : ∃ p, L[k]? = some p := ⟨_, List.getElem?_eq_getElem (by rw [HM.out]; exact hlt)⟩
      obtain ⟨hmax, g0, _, ra, rc, e, zg, cg, hrow⟩ := hO.out.part hp
      injection e with e1 e2 e3
      subst e1
      obtain ⟨q, hq⟩ : ∃ q, p.length = q := ⟨_, rfl⟩
      rw [hq] at cg hmax
      unfold maxLen at hmax
      have HP := Lib.hid hp
      have HQ := Lib.hid hq
      have HROW := Lib.hid hrow
      have j1 : (0 : Int) ≤ (k : Int) := by omega
      have j2 : (k : Int) < (m : Int) := by omega
      clear hp hq hrow e2 e3
      go_wp2_with fail
      clear j1 j2 cg zg
      rename World => wo
      go_loopg [37] q (fun g i wr2 => ∃ (j : Nat) (os : List Nat), i = .int .i64 j ∧ g = q - j ∧ j ≤ q ∧ Hid (OsK n L k j os) ∧ Hid (OB K n bo G T F L (.slice (some ⟨g0, 0, none⟩) m pc) vs wr2 os) ∧ Hid (Below bo wo wr2))
      case atStart => exact ⟨0, os, rfl, rfl, Nat.zero_le _, hOs, hO, Below.refl _ _⟩
      case round =>
        obtain ⟨j, os, rfl, rfl, hj, hOs, hO, hB2⟩ := hrel
        by_cases hlt2 : j < q
        · obtain ⟨x, hx⟩ : ∃ x, p[j]? = some x := ⟨_, List.getElem?_eq_getElem (by rw [HQ.out]; exact hlt2)⟩
          obtain ⟨rg, rfl, zr, cr⟩ := HROW.out wr hB2.out j x hx
          have hxn : x < n := PLL.out.scc.lt p (List.mem_of_getElem? HP.out) x (List.mem_of_getElem? hx)
          have y1 := frozen_of_heap hO.out.bo x
          have z1 := lt_of_heap hO.out.bo
          obtain ⟨v0, hv0⟩ : ∃ v, os[x]? = some v := ⟨_, List.getElem?_eq_getElem (by rw [hOs.out.1]; exact hxn)⟩
          have c1 := hO.out.at hv0
          have j1 : (0 : Int) ≤ (j : Int) := by omega
          have j2 : (j : Int) < (q : Int) := by omega
          have j3 : (0 : Int) ≤ (x : Int) := by omega
          have j4 : (x : Int) < (n : Int) := by omega
          have HOS2 : Hid (OsK n L k (j + 1) (os.set x k)) := OsK.set PLL.out.scc hOs.out HP.out hx
          clear hv0 hx
          go_upto_region 10 with fail
          refine abs_world ?_
          intro W4 hW4
          have HO4 : Hid (OB K n bo G T F L (.slice (some ⟨g0, 0, none⟩) m pc) vs W4 (os.set x k)) := by
            rw [hW4]
            exact hO.out.put x k rfl
          have HB4 : Hid (Below bo wo W4) := by
            rw [hW4]
            exact hB2.out.setCell (p := ⟨bo, x, none⟩) (Nat.le_refl _) _
          clear hW4 hO hB2 hOs y1 z1 c1 zr cr
          go_wp2_with fail
          go_roundg (q - (j + 1))
          case measure => omega
          case rel => exact ⟨j + 1, _, by go_num, rfl, by omega, HOS2, HO4, HB4⟩
        · have hjq : j = q := by omega
          subst hjq
          have HOS2 : Hid (OsK n L (k + 1) 0 os) := by
            refine OsK.next ?_ HP.out
            rw [HQ.out]
            exact hOs.out
          have HB3 : Hid (Below K w wr) := hB.out.trans (hB2.out.mono KW2)
          clear hOs hB2 hB HROW HP HQ
          go_wp2_with fail
          go_roundg (m - (k + 1))
          case measure => omega
          case rel => exact ⟨k + 1, os, by go_num, rfl, by omega, HOS2, hO, HB3⟩
    · have hkm : k = m := by omega
      subst hkm
      have HOS : Hid (∀ y, y < n → os[y]? = some (ofL L y)) := fun y hy => OsK.done PLL.out.scc (by rw [HM.out]; exact hOs.out) hy
      have hsz := lt_of_heap hO.out.bo
      have MK := mk3 k (by omega)
      clear hOs
      go_wp2_with fail
      refine abs_world ?_
      intro W5 hW5
      have hOW : Hid (OW K n bo wr.heap.size G T F L (.slice pa k pc) vs W5 os (cntW k (outsX T L 0))) := by
        unfold Hid
        have e : outsX T L 0 = [] := rfl
        rw [hW5, e, cntW_nil, ← List.toArray_replicate, iv_rep]
        exact ⟨hO.out.keep fun q _ hq => Below.heap_alloc _ _ _ hq, hsz, heap_alloc_new _ _⟩
      have hB5 : Hid (Below K w W5) := by
        rw [hW5]
        exact hB.out.alloc (Nat.le_trans KW2 (Nat.le_of_lt hsz)) _
      obtain ⟨bw, hbw⟩ : ∃ bw, wr.heap.size = bw := ⟨_, rfl⟩
      rw [hbw] at hOW hsz ⊢
      clear hW5 MK hO hB hbw
      go_loopg [52] n (fun g i wr => ∃ (x : Nat), i = .int .i64 x ∧ g = n - x ∧ x ≤ n ∧ Hid (OW K n bo bw G T F L (.slice pa k pc) vs wr os (cntW k (outsX T L x))) ∧ Hid (Below K w wr))
      case atStart => exact ⟨0, rfl, rfl, Nat.zero_le _, hOW, hB5⟩
      case round =>
        obtain ⟨x, rfl, rfl, hx, hO, hB⟩ := hrel
        by_cases hlt : x < n
        · have hgr := hO.out.ob.gr (by omega)
          have hxT : x < T.length := by rw [HT.out.1]; exact hlt
          obtain ⟨hmax, ta, tc, ra, rc, cp, zt, ct, hrow⟩ := hgr.rowT (hO.out.ob.grK (by omega)) hxT
          rw [HT.out.1] at cp
          have zp := lt_of_heap hgr.blk
          obtain rfl : gv = _ := HGV.out.symm.trans hgr.ptr
          obtain ⟨q, hq⟩ : ∃ q, (T.getD x []).length = q := ⟨_, rfl⟩
          rw [hq] at ct hmax
          unfold maxLen at hmax
          have HQ := Lib.hid hq
          have HROW := Lib.hid hrow
          have HLE := Lib.hid (outsX_le L hxT)
          have j1 : (0 : Int) ≤ (x : Int) := by omega
          have j2 : (x : Int) < (n : Int) := by omega
          clear hq hrow hgr
          go_wp2_with fail
          clear j1 j2 cp zt ct zp
          rename World => wo
          go_loopg [63] q (fun g i wr2 => ∃ (b : Nat), i = .int .i64 b ∧ g = q - b ∧ b ≤ q ∧ Hid (OW K n bo bw G T F L (.slice pa k pc) vs wr2 os (cntW k (outsX T L x ++ outX L x ((T.getD x []).take b)))) ∧ Hid (Below bw wo wr2))
          case atStart => exact ⟨0, rfl, rfl, Nat.zero_le _, by simpa [outX] using hO, Below.refl _ _⟩
          case round =>
            obtain ⟨b, rfl, rfl, hb, hO, hB2⟩ := hrel
            by_cases hlt2 : b < q
            · obtain ⟨y, hy⟩ : ∃ y, (T.getD x [])[b]? = some y := ⟨_, List.getElem?_eq_getElem (by rw [HQ.out]; exact hlt2)⟩
              obtain ⟨rg, rfl, zr, cr⟩ := HROW.out wr (hB2.out.mono (by omega)) b y hy
              have hyn : y < n := HT.out.at (List.mem_of_getElem? hy)
              have c1 := hO.out.ob.at (HOS.out y hyn)
              have c2 := hO.out.ob.at (HOS.out x hlt)
              have z1 := lt_of_heap hO.out.ob.bo
              have z2 := lt_of_heap hO.out.wt
              have ok := PLL.out.scc.of_lt hlt
              rw [HM.out] at ok
              have OP := Lib.hid (outX_push L x _ b y hy)
              obtain ⟨u, hu⟩ : ∃ u, ofL L x = u := ⟨_, rfl⟩
              obtain ⟨v, hv⟩ : ∃ v, ofL L y = v := ⟨_, rfl⟩
              rw [hu] at OP c2 ok
              rw [hv] at OP c1
              have hcnt : (outsX T L x ++ outX L x ((T.getD x []).take b)).count u ≤ 1000000 := by
                refine Nat.le_trans List.count_le_length ?_
                rw [List.length_append]
                have h1 := HLE.out
                have h2 := HEE.out
                have h3 := outX_le L x ((T.getD x []).take b)
                rw [List.length_take] at h3
                omega
              have c3 := hO.out.at (cntW_at (D := outsX T L x ++ outX L x ((T.getD x []).take b)) ok)
              have CP := Lib.hid (cntW_push (D := outsX T L x ++ outX L x ((T.getD x []).take b)) ok)
              have y3 := frozen_of_heap hO.out.wt u
              obtain ⟨D, hD⟩ : ∃ D, outsX T L x ++ outX L x ((T.getD x []).take b) = D := ⟨_, rfl⟩
              have OP2 : Hid (outsX T L x ++ outX L x ((T.getD x []).take (b + 1)) = D ++ if v = u then [] else [u]) := by
                unfold Hid
                rw [OP.out, ← hD, List.append_assoc]
              rw [hD] at hcnt c3 CP hO
              obtain ⟨d, hd⟩ : ∃ d, D.count u = d := ⟨_, rfl⟩
              rw [hd] at hcnt c3 CP
              have j1 : (0 : Int) ≤ (b : Int) := by omega
              have j2 : (b : Int) < (q : Int) := by omega
              have j3 : (0 : Int) ≤ (x : Int) := by omega
              have j4 : (x : Int) < (n : Int) := by omega
              have j5 : (0 : Int) ≤ (y : Int) := by omega
              have j6 : (y : Int) < (n : Int) := by omega
              have j7 : (0 : Int) ≤ (u : Int) := by omega
              have j8 : (u : Int) < (k : Int) := by omega
              clear hu hv hD hd hy OP
              go_wp2_with fail
              refine wp_region_mix [0, 1, 2, 3, 4, 5, 6, 7, 8] [] [] (Below wr.heap.size wr) (by kernel_rfl) (by kernel_rfl) (Below.refl _ _).drew ?_
              iterate 9 (first | (apply first_step; (rw [List.getElem?_toArray]; (repeat rw [List.getElem?_cons_succ]); rw [List.getElem?_cons_zero]); rfl; (intro W hB; have hc := bcellB hB; go_simp; (first | done | rfl)); go_frame) | (apply first_skip; (rw [List.getElem?_toArray]; (repeat rw [List.getElem?_cons_succ]); rw [List.getElem?_cons_zero]); rfl; go_frame))
              refine first_done ?_
              refine tail_done ?_
              by_cases huv : v = u
              · have hub : ((u : Int) != (v : Int)) = false := by simp; omega
                have HO4 : Hid (OW K n bo bw G T F L (.slice pa k pc) vs wr.drew os (cntW k (outsX T L x ++ outX L x ((T.getD x []).take (b + 1))))) := by
                  rw [OP2.out, if_pos huv, List.append_nil]
                  exact hO.out.below (Below.refl _ _).drew
                have HB4 : Hid (Below bw wo wr.drew) := hB2.out.drew
                clear hO hB2 c1 c2 c3 y3 zr cr z1 z2 OP2 CP huv
                go_wp2_with fail
                go_roundg (q - (b + 1))
                case measure => omega
                case rel => exact ⟨b + 1, by go_num, rfl, by omega, HO4, HB4⟩
              · have hub : ((u : Int) != (v : Int)) = true := by simp; omega
                go_upto_region 21 with fail
                refine abs_world ?_
                intro W4 hW4
                have HO4 : Hid (OW K n bo bw G T F L (.slice pa k pc) vs W4 os (cntW k (outsX T L x ++ outX L x ((T.getD x []).take (b + 1))))) := by
                  rw [hW4, OP2.out, if_neg huv, ← CP.out]
                  exact (hO.out.below (w' := wr.drew) (Below.refl _ _).drew).put u (d + 1) rfl
                have HB4 : Hid (Below bw wo W4) := by
                  rw [hW4]
                  exact hB2.out.drew.setCell (p := ⟨bw, u, none⟩) (Nat.le_refl _) _
                clear hW4 hO hB2 c1 c2 c3 y3 zr cr z1 z2 OP2 CP huv hub
                go_wp2_with fail
                go_roundg (q - (b + 1))
                case measure => omega
                case rel => exact ⟨b + 1, by go_num, rfl, by omega, HO4, HB4⟩
            · have hbq : b = q := by omega
              subst hbq
              have HO4 : Hid (OW K n bo bw G T F L (.slice pa k pc) vs wr os (cntW k (outsX T L (x + 1)))) := by
                unfold Hid
                rw [outsX_succ]
                have := hO.out
                rw [List.take_of_length_le (by rw [HQ.out]; exact Nat.le_refl _)] at this
                exact this
              have HB4 : Hid (Below K w wr) := hB.out.trans (hB2.out.mono (by omega))
              clear hO hB2 hB HROW HQ HLE
              go_wp2_with fail
              go_roundg (n - (x + 1))
              case measure => omega
              case rel => exact ⟨x + 1, by go_num, rfl, by omega, HO4, HB4⟩
        · have hxn : x = n := by omega
          rw [hxn] at hO
          obtain ⟨D, hD⟩ : ∃ D, outsX T L n = D := ⟨_, rfl⟩
          have DD := Lib.hid hD
          rw [hD] at hO
          clear hD
          go_wp2_with fail
          refine abs_world ?_
          intro W6 hW6
          have hOM : Hid (OM K n bo bw wr.heap.size G T F L (.slice pa k pc) vs W6 os (cntW k D) [] [] (.slice none 0 0) (.slice none 0 0)) := by
            unfold Hid
            rw [hW6]
            exact OM.start hO.out
          have hzw := lt_of_heap hO.out.wt
          have hB6 : Hid (Below K w W6) := by
            rw [hW6]
            exact hB.out.alloc (Nat.le_trans KW2 (by omega)) _
          obtain ⟨r, hr⟩ : ∃ r, wr.heap.size = r := ⟨_, rfl⟩
          rw [hr] at hOM hzw ⊢
          clear hW6 hO hB hr hB5 hOW hBB hOB hlt hxn
          go_loopg [91] k (fun g i wr => ∃ (j : Nat) (hh : List Nat) (sv : Value), i = .int .i64 j ∧ g = k - j ∧ j ≤ k ∧ Hid (IsHp hh ∧ ∀ a, hh.count a = if a < j ∧ D.count a = 0 then 1 else 0) ∧ Hid (OM K n bo bw r G T F L (.slice pa k pc) vs wr os (cntW k D) hh [] sv (.slice none 0 0)) ∧ Hid (Below K w wr))
          case atStart => exact ⟨0, [], _, rfl, rfl, Nat.zero_le _, ⟨fun a _ h => by simp at h, fun a => by simp⟩, hOM, hB6⟩
          case round =>
            obtain ⟨j, hh, sv, rfl, rfl, hj, hH, hO, hB⟩ := hrel
            by_cases hlt : j < k
            · have c1 := hO.out.ow.at (cntW_at (D := D) hlt)
              have z1 := lt_of_heap hO.out.ow.wt
              have j1 : (0 : Int) ≤ (j : Int) := by omega
              have j2 : (j : Int) < (k : Int) := by omega
              obtain ⟨d, hd⟩ : ∃ d, D.count j = d := ⟨_, rfl⟩
              rw [hd] at c1
              have hlen : hh.length ≤ k := len_le (fun a => by rw [hH.out.2 a]; split <;> omega) fun a ha => by
                have := List.count_pos_iff.2 ha
                rw [hH.out.2 a] at this
                split at this <;> omega
              by_cases hd0 : d = 0
              · subst hd0
                have CP := Lib.hid (hpush_any (x := j) (by omega) hO.out.hr)
                have HH2 : Hid (IsHp (pushF hh j) ∧ ∀ a, (pushF hh j).count a = if a < j + 1 ∧ D.count a = 0 then 1 else 0) := by
                  obtain ⟨p1, p2⟩ := push_law hH.out.1 j
                  refine ⟨p1, fun a => ?_⟩
                  rw [p2, hH.out.2]
                  by_cases e : j = a
                  · subst e
                    rw [if_neg (by omega), if_pos rfl, if_pos ⟨by omega, hd⟩]
                  · rw [if_neg e]
                    have : (a < j ∧ D.count a = 0) ↔ (a < j + 1 ∧ D.count a = 0) := ⟨fun h => ⟨by omega, h.2⟩, fun h => ⟨by omega, h.2⟩⟩
                    simp only [this, Nat.add_zero]
                unfold rd at CP
                clear hd hH
                go_wp2_with fail
                refine CP.out.mono ?_
                rintro e w8 ⟨rfl, hp8⟩
                have hB8 : Hid (Below K w w8) := hB.out.trans ((hO.out.heapBelow hp8).mono (by omega))
                obtain ⟨sv8, hO8'⟩ := hO.out.heap hp8
                have hO8 := Lib.hid hO8'
                clear hO8' hp8 CP hO hB c1 z1
                go_wp2_with fail
                go_roundg (k - (j + 1))
                case measure => omega
                case rel => exact ⟨j + 1, _, sv8, by go_num, rfl, by omega, HH2, hO8, hB8⟩
              · have hdb : ((d : Int) == 0) = false := by simp; omega
                have HH2 : Hid (IsHp hh ∧ ∀ a, hh.count a = if a < j + 1 ∧ D.count a = 0 then 1 else 0) := by
                  refine ⟨hH.out.1, fun a => ?_⟩
                  rw [hH.out.2]
                  have : (a < j ∧ D.count a = 0) ↔ (a < j + 1 ∧ D.count a = 0) := ⟨fun h => ⟨by omega, h.2⟩, fun h => ⟨Nat.lt_of_le_of_ne (by omega) fun e => hd0 (by rw [← hd, ← e]; exact h.2), h.2⟩⟩
                  simp only [this]
                clear hd hd0 hH
                go_wp2_with fail
                go_roundg (k - (j + 1))
                case measure => omega
                case rel => exact ⟨j + 1, hh, sv, by go_num, rfl, by omega, HH2, hO, hB⟩
            · have hjk : j = k := by omega
              have HI : Hid (OInv T L [] (cntW k D) hh) := by
                have := OInv.start PLL.out hH.out.1 (fun a => by rw [HM.out, DD.out]; have := hH.out.2 a; rw [hjk] at this; exact this)
                rw [HM.out, DD.out] at this
                exact this
              obtain ⟨W, hW⟩ : ∃ W, cntW k D = W := ⟨_, rfl⟩
              rw [hW] at HI hO
              clear hW hH DD hB6 hOM hjk
              go_wp2_with fail
              go_loopg [15] k (fun g x wr => ∃ (O W hh : List Nat) (sv : Value), g = k - O.length ∧ Hid (OInv T L O W hh) ∧ Hid (OM K n bo bw r G T F L (.slice pa k pc) vs wr os W hh (O.flatMap fun i => L.getD i []) sv x) ∧ Hid (Below K w wr))
              case atStart => exact ⟨[], W, hh, sv, rfl, HI, hO, hB⟩
              case round =>
                obtain ⟨O, W, hh, sv, rfl, hI, hO, hB⟩ := hrel
                obtain ⟨⟨sa, sc, rfl⟩, la, lc, rfl⟩ := hO.out.slices
                have e1 := cell_of_heap hO.out.hr.blk 0
                have z1 := lt_of_heap hO.out.hr.blk
                have hll := flat_le PLL.out.scc O hI.out.nod hI.out.lt
                obtain ⟨l, hl⟩ : ∃ l, (O.flatMap fun i => L.getD i []) = l := ⟨_, rfl⟩
                have HL := Lib.hid hl
                rw [hl] at hO hll ⊢
                by_cases h0 : 0 < hh.length
                · obtain ⟨t1, t2, t3⟩ := hI.out.top h0
                  have hhl := hI.out.hlen
                  rw [HM.out] at hhl
                  have MID0 := Lib.hid (fun D E => OInv.mid (D := D) (E := E) hI.out PLL.out.scc HT.out HF.out HTF.out h0)
                  have POP := Lib.hid (hI.out.pop PLL.out.scc HT.out HF.out HTF.out h0)
                  have CP := Lib.hid (hpop_any (by omega) h0 hI.out.hp hO.out.hr)
                  have WLE := Lib.hid (fun j => Nat.le_trans (hI.out.wle HT.out PLL.out j) HEE.out)
                  obtain ⟨i, hi⟩ : ∃ i, hh.getD 0 0 = i := ⟨_, rfl⟩
                  rw [hi] at t1 t2 MID0 POP CP
                  rw [HM.out] at t1
                  obtain ⟨p, hp⟩ : ∃ p, L.getD i [] = p := ⟨_, rfl⟩
                  have HP : Hid (L[i]? = some p) := by
                    unfold Hid
                    rw [← hp, List.getD_eq_getElem?_getD, List.getElem?_eq_getElem (by rw [HM.out]; exact t1)]
                    rfl
                  have HPD := Lib.hid hp
                  have hOk : O.length < k := by
                    have h1 : (O ++ [i]).length ≤ k := len_le (fun j => List.nodup_iff_count.1 POP.out.nod j) fun j hj => by
                      have := POP.out.lt j hj
                      rw [HM.out] at this
                      exact this
                    rw [List.length_append, List.length_singleton] at h1
                    omega
                  have hlb : decide ((0 : Int) < (hh.length : Int)) = true := by simpa using h0
                  have ROW8 := Lib.hid (fun w8 (h8 : HpP r wr (.slice sa hh.length sc) (popF hh) w8) => (⟨hO.out.heap h8, hB.out.trans ((hO.out.heapBelow h8).mono (by omega))⟩ : _ ∧ _))
                  unfold rd at CP
                  clear hi hp t2 t3 hl
                  go_wp2_with fail
                  refine (len_any _ _ _ _).mono ?_
                  rintro e w2 ⟨rfl, rfl⟩
                  go_wp2_with fail
                  refine CP.out.mono ?_
                  rintro e w8 ⟨rfl, hp8⟩
                  obtain ⟨⟨sv8, hO8'⟩, hB8'⟩ := ROW8.out w8 hp8
                  have hO8 := Lib.hid hO8'
                  have hB8 := Lib.hid hB8'
                  have TA := ta_int (i : Int) w8
                  obtain ⟨hmax, g0, _, ra, rc, e, zg, cg, hrow⟩ := hO8.out.ow.ob.part HP.out
                  injection e with e1 e2 e3
                  subst e1
                  have hpos : 0 < p.length := List.length_pos_iff.2 (PLL.out.scc.ne p (List.mem_of_getElem? HP.out))
                  obtain ⟨rg, rfl, zr, _⟩ := hrow w8 (Below.refl _ _) 0 p[0] (List.getElem?_eq_getElem hpos)
                  have hcs : Hid (∀ (j x : Nat), p[j]? = some x → w8.cell? ⟨rg, 0 + j, none⟩ = some (.int .i64 (x : Int))) := fun j x hx => by
                    obtain ⟨rg', e, _, h⟩ := hrow w8 (Below.refl _ _) j x hx
                    cases e
                    rw [Nat.zero_add]
                    exact h
                  have hpn : p.length ≤ n := len_le (fun j => List.nodup_iff_count.1 (PLL.out.scc.nod p (List.mem_of_getElem? HP.out)) j) (PLL.out.scc.lt p (List.mem_of_getElem? HP.out))
                  obtain ⟨q, hq⟩ : ∃ q, p.length = q := ⟨_, rfl⟩
                  rw [hq] at cg hmax hpos hpn
                  have HQ := Lib.hid hq
                  have hzw := lt_of_heap hO8.out.ow.wt
                  have PU : Hid (∀ (v' : Value) (w' : World), w'.ownsRow (bw + 1) 3 1 v' (l.length + q) (l.map iv ++ p.map iv) → w8.grownBy w' (Value.slice la l.length lc).ownBlock → (v'.ownBlock = (Value.slice la l.length lc).ownBlock ∨ v'.ownBlock = some w8.heap.size) →
                      OM K n bo bw r G T F L (.slice (some ⟨g0, 0, none⟩) k pc) vs w' os W (popF hh) (l ++ p) sv8 v' ∧ Below bw w8 w') := fun v' w' h1 h2 h3 => hO8.out.push (by rw [HQ.out]; exact h1) h2 h3
                  have j1 : (0 : Int) ≤ (i : Int) := by omega
                  have j2 : (i : Int) < (k : Int) := by omega
                  clear hO8' hB8' hp8 CP ROW8 hO hB e1 z1 e2 e3 hrow hq
                  obtain ⟨i0, hi, hz0, hz1, hz2⟩ := info_parts info3
                  have HI3 := Lib.hid (⟨hi, hz0, hz1, hz2⟩ : _ ∧ _ ∧ _ ∧ _)
                  clear hi hz0 hz1 hz2
                  go_upto_region 34 with (at_builtin; refine wpList_append_own_at _ rfl _ _ 31 rfl (bw + 1) 3 i0 (.int .i64 0) 1 8 Try.underlying31 HI3.out.1 HI3.out.2.1 HI3.out.2.2.1 HI3.out.2.2.2 rfl (by decide) (.slice la l.length lc) l.length (l.map iv) rfl hO8.out.l ⟨rg, 0, none⟩ q rc (p.map iv) rfl (by rw [List.length_map, HQ.out, Nat.mul_one]) (cells_iv hcs.out) (iv_one p) (by unfold maxLen; omega) (by omega) (by omega) ?_; intro v9 w9 hown hgrow _ hloc; obtain ⟨va, vc, rfl, _⟩ := own_slice hown; obtain ⟨p1, p2⟩ := PU.out _ w9 hown hgrow hloc; have P1 := Lib.hid p1; have P2 := Lib.hid p2; clear hown hgrow hloc p1 p2)
                  refine abs_world ?_
                  intro W9 hW9
                  have HO9 : Hid (OM K n bo bw r G T F L (.slice (some ⟨g0, 0, none⟩) k pc) vs W9 os W (popF hh) (l ++ p) sv8 (.slice va (l.length + q) vc)) := by rw [hW9]; exact P1.out
                  have HB9 : Hid (Below bw w8 W9) := by rw [hW9]; exact P2.out
                  clear hW9 P1 P2 PU hcs cg zg zr TA hO8 hzw
                  obtain ⟨_, g1, _, ra, rc, e, zg, cg, hrow⟩ := HO9.out.ow.ob.part HP.out
                  injection e with e1 e2 e3
                  injection e1 with e1
                  injection e1 with e1 _
                  subst e1
                  rw [HQ.out] at cg
                  have HROW := Lib.hid hrow
                  have R0 : Hid ((W, popF hh) = runD (W, popF hh) (insX F L i 0 0)) := by
                    rw [insX_zero]
                    rfl
                  obtain ⟨H0, hH0⟩ : ∃ H0, popF hh = H0 := ⟨_, rfl⟩
                  rw [hH0] at HO9 R0 MID0 POP
                  clear e2 e3 hrow hH0
                  go_wp2_with fail
                  clear j1 j2 cg zg
                  go_loopg [129] q (fun g xa wr => ∃ (a : Nat) (W' hh' : List Nat) (sv : Value), xa = .int .i64 a ∧ g = q - a ∧ a ≤ q ∧ Hid ((W', hh') = runD (W, H0) (insX F L i a 0)) ∧ Hid (OM K n bo bw r G T F L (.slice (some ⟨g0, 0, none⟩) k pc) vs wr os W' hh' (l ++ p) sv (.slice va (l.length + q) vc)) ∧ Hid (Below bw W9 wr))
                  case atStart => exact ⟨0, W, H0, sv8, rfl, rfl, Nat.zero_le _, R0, HO9, Below.refl _ _⟩
                  case round =>
                    obtain ⟨a, W', hh', sv', rfl, rfl, ha, hR, hO, hB⟩ := hrel
                    by_cases hlt : a < q
                    · obtain ⟨x, hx⟩ : ∃ x, p[a]? = some x := ⟨_, List.getElem?_eq_getElem (by rw [HQ.out]; exact hlt)⟩
                      obtain ⟨rg2, rfl, zr, cr⟩ := HROW.out wr (hB.out.mono (by have := hO.out.ow.lt; omega)) a x hx
                      have hxn : x < n := PLL.out.scc.lt p (List.mem_of_getElem? HP.out) x (List.mem_of_getElem? hx)
                      have hxF : x < F.length := by rw [HF.out.1]; exact hxn
                      have hgr := hO.out.ow.ob.gr (by omega)
                      obtain ⟨hmax2, fa, fc, rf, rfc, cp, zt, ct, hrow2⟩ := hgr.rowF (hO.out.ow.ob.grK (by omega)) hxF
                      rw [HF.out.1] at cp
                      have zp := lt_of_heap hgr.blk
                      obtain rfl : gv = _ := HGV.out.symm.trans hgr.ptr
                      obtain ⟨q2, hq2⟩ : ∃ q, (F.getD x []).length = q := ⟨_, rfl⟩
                      rw [hq2] at ct hmax2
                      unfold maxLen at hmax2
                      have HQ2 := Lib.hid hq2
                      have HROW2 := Lib.hid hrow2
                      have HX : Hid ((L.getD i [])[a]? = some x) := by rw [HPD.out]; exact hx
                      have j1 : (0 : Int) ≤ (a : Int) := by omega
                      have j2 : (a : Int) < (q : Int) := by omega
                      have j3 : (0 : Int) ≤ (x : Int) := by omega
                      have j4 : (x : Int) < (n : Int) := by omega
                      clear hx hq2 hrow2 hgr
                      go_wp2_with fail
                      clear j1 j2 cp zt ct zp zr cr
                      rename World => wo
                      go_loopg [141] q2 (fun g xb wr2 => ∃ (b : Nat) (W' hh' : List Nat) (sv : Value), xb = .int .i64 b ∧ g = q2 - b ∧ b ≤ q2 ∧ Hid ((W', hh') = runD (W, H0) (insX F L i a b)) ∧ Hid (OM K n bo bw r G T F L (.slice (some ⟨g0, 0, none⟩) k pc) vs wr2 os W' hh' (l ++ p) sv (.slice va (l.length + q) vc)) ∧ Hid (Below bw wo wr2))
                      case atStart => exact ⟨0, W', hh', sv', rfl, rfl, Nat.zero_le _, hR, hO, Below.refl _ _⟩
                      case round =>
                        obtain ⟨b, W', hh', sv', rfl, rfl, hb, hR, hO, hB2⟩ := hrel
                        by_cases hlt2 : b < q2
                        · obtain ⟨y, hy⟩ : ∃ y, (F.getD x [])[b]? = some y := ⟨_, List.getElem?_eq_getElem (by rw [HQ2.out]; exact hlt2)⟩
                          obtain ⟨rg3, rfl, zr, cr⟩ := HROW2.out wr (hB2.out.mono (by have := hO.out.ow.lt; have := hO.out.ow.ob.KB; omega)) b y hy
                          have hyn : y < n := HF.out.at (List.mem_of_getElem? hy)
                          have c1 := hO.out.ow.ob.at (HOS.out y hyn)
                          have z1 := lt_of_heap hO.out.ow.ob.bo
                          have z2 := lt_of_heap hO.out.ow.wt
                          have IP := Lib.hid (insX_push HX.out hy)
                          have vk := PLL.out.scc.of_lt hyn
                          rw [HM.out] at vk
                          obtain ⟨v, hv⟩ : ∃ v, ofL L y = v := ⟨_, rfl⟩
                          rw [hv] at c1 IP vk
                          have j1 : (0 : Int) ≤ (b : Int) := by omega
                          have j2 : (b : Int) < (q2 : Int) := by omega
                          have j5 : (0 : Int) ≤ (y : Int) := by omega
                          have j6 : (y : Int) < (n : Int) := by omega
                          have j7 : (0 : Int) ≤ (v : Int) := by omega
                          have j8 : (v : Int) < (k : Int) := by omega
                          by_cases hvi : v = i
                          · have hub : ((v : Int) != (i : Int)) = false := by simp; omega
                            have HR2 : Hid ((W', hh') = runD (W, H0) (insX F L i a (b + 1))) := by
                              unfold Hid
                              rw [IP.out, if_pos hvi, List.append_nil]
                              exact hR.out
                            clear hR hy hv hvi IP
                            go_wp2_with fail
                            clear zr cr c1 z1 z2
                            go_roundg (q2 - (b + 1))
                            case measure => omega
                            case rel => exact ⟨b + 1, W', hh', sv', by go_num, rfl, by omega, HR2, hO, hB2⟩
                          · have hub : ((v : Int) != (i : Int)) = true := by simp; omega
                            obtain ⟨E, hE⟩ := insX_split (b := b) (F := F) HX.out
                            obtain ⟨m1, m2, m3, m4⟩ := MID0.out _ _ hE
                            rw [← hR.out] at m1 m2 m3 m4
                            change W'.length = L.length at m1
                            change hh'.length ≤ L.length at m2
                            rw [HM.out] at m1 m2
                            have hvE : 0 < W'.getD v 0 := m3 v (List.mem_append_left _ (by
                              unfold jsOf
                              refine List.mem_filter.2 ⟨List.mem_map.2 ⟨y, ?_, hv⟩, by simpa using hvi⟩
                              rw [List.mem_iff_getElem?]
                              exact ⟨0, by rw [List.getElem?_drop, Nat.add_zero]; exact hy⟩))
                            have hu6 : W'.getD v 0 ≤ 1000000 := Nat.le_trans (m4 v) (WLE.out v)
                            obtain ⟨u, hu⟩ : ∃ u, W'[v]? = some u := ⟨_, List.getElem?_eq_getElem (by omega)⟩
                            have hgu := getD_at hu
                            rw [hgu] at hvE hu6
                            have c2 := hO.out.ow.at hu
                            have y2 := frozen_of_heap hO.out.ow.wt v
                            obtain ⟨d, hd⟩ : ∃ d, u - 1 = d := ⟨_, rfl⟩
                            have hdz : (u : Int) - 1 = (d : Int) := by omega
                            have c3 : Hid ((W'.set v d)[v]? = some d) := List.getElem?_set_self (by omega)
                            have HR2 : Hid (((W'.set v d), if d = 0 then pushF hh' v else hh') = runD (W, H0) (insX F L i a (b + 1))) := by
                              unfold Hid
                              rw [IP.out, if_neg hvi, runD_push, ← hR.out]
                              unfold dec1
                              rw [hgu, hd]
                            have M2 := Lib.hid m2
                            clear hR hy hv hvi IP m1 m2 m3 m4 hE hu hgu hvE
                            go_upto_region 43 with fail
                            refine abs_world ?_
                            intro W4 hW4
                            have HO4 : Hid (OM K n bo bw r G T F L (.slice (some ⟨g0, 0, none⟩) k pc) vs W4 os (W'.set v d) hh' (l ++ p) sv' (.slice va (l.length + q) vc)) := by
                              rw [hW4]
                              exact hO.out.put v d rfl
                            have HB4 : Hid (Below bw wo W4) := by
                              rw [hW4]
                              exact hB2.out.setCell (p := ⟨bw, v, none⟩) (Nat.le_refl _) _
                            clear hW4 hO hB2 c1 c2 y2 zr cr z1 z2 hub hdz
                            have c4 := HO4.out.ow.at c3.out
                            have z4 := lt_of_heap HO4.out.ow.wt
                            by_cases hd0 : d = 0
                            · subst hd0
                              have CP := Lib.hid (hpush_any (x := v) (by have := M2.out; omega) HO4.out.hr)
                              rw [if_pos rfl] at HR2
                              unfold rd at CP
                              clear hd
                              go_wp2_with fail
                              refine CP.out.mono ?_
                              rintro e w5 ⟨rfl, hp5⟩
                              have HB5 : Hid (Below bw wo w5) := HB4.out.trans (HO4.out.heapBelow hp5)
                              obtain ⟨sv5, hO5'⟩ := HO4.out.heap hp5
                              have HO5 := Lib.hid hO5'
                              clear hO5' hp5 CP HO4 HB4 c4 z4
                              go_wp2_with fail
                              go_roundg (q2 - (b + 1))
                              case measure => omega
                              case rel => exact ⟨b + 1, _, _, sv5, by go_num, rfl, by omega, HR2, HO5, HB5⟩
                            · have hdb : ((d : Int) == 0) = false := by simp; omega
                              rw [if_neg hd0] at HR2
                              clear hd hd0
                              go_wp2_with fail
                              clear c4 z4
                              go_roundg (q2 - (b + 1))
                              case measure => omega
                              case rel => exact ⟨b + 1, _, hh', sv', by go_num, rfl, by omega, HR2, HO4, HB4⟩
                        · have hbq : b = q2 := by omega
                          have HR2 : Hid ((W', hh') = runD (W, H0) (insX F L i (a + 1) 0)) := by
                            have := hR.out
                            rw [hbq, ← HQ2.out, insX_next HX.out] at this
                            exact this
                          have HB3 : Hid (Below bw W9 wr) := hB.out.trans hB2.out
                          clear hR hB2 hB HROW2 HQ2
                          go_wp2_with fail
                          go_roundg (q - (a + 1))
                          case measure => omega
                          case rel => exact ⟨a + 1, W', hh', sv', by go_num, rfl, by omega, HR2, hO, HB3⟩
                    · have haq : a = q := by omega
                      have HR2 : Hid ((W', hh') = runD (W, H0) (outs F L i)) := by
                        have := hR.out
                        rw [haq, ← HQ.out, ← HPD.out, insX_end] at this
                        exact this
                      have HI2 : Hid (OInv T L (O ++ [i]) W' hh') := by
                        have := POP.out
                        rw [← HR2.out] at this
                        exact this
                      have HO2 : Hid (OM K n bo bw r G T F L (.slice (some ⟨g0, 0, none⟩) k pc) vs wr os W' hh' ((O ++ [i]).flatMap fun i => L.getD i []) sv' (.slice va (l.length + q) vc)) := by
                        unfold Hid
                        rw [List.flatMap_append, HL.out]
                        simp only [List.flatMap_cons, List.flatMap_nil, List.append_nil]
                        rw [HPD.out]
                        exact hO.out
                      have HB2 : Hid (Below K w wr) := hB8.out.trans ((HB9.out.trans hB.out).mono (by have := hO.out.ow.lt; omega))
                      clear hR hO hB HROW HR2 POP MID0
                      go_wp2_with fail
                      go_roundg (k - (O.length + 1))
                      case measure => omega
                      case rel => exact ⟨O ++ [i], W', hh', sv', by rw [List.length_append, List.length_singleton], HI2, HO2, HB2⟩
                · have hh0 : hh = [] := List.length_eq_zero_iff.1 (by omega)
                  subst hh0
                  have HFIN : Hid (IsOrd T L O) := hI.out.fin HT.out PR.out
                  have hlb : decide ((0 : Int) < (([] : List Nat).length : Int)) = false := by simp
                  clear hl
                  go_wp2_with fail
                  refine (len_any _ _ _ _).mono ?_
                  rintro e w2 ⟨rfl, rfl⟩
                  go_wp2_with fail
                  refine bodyPost_ret (v := .slice la l.length lc) (by simp [results, Try.results17, go_sem]) rfl ⟨_, L, O, rfl, PR.out, HFIN.out, ?_, hB.out⟩
                  rw [HL.out]
                  exact hO.out.l.base (by omega)
end Go.Proofs.Ytcjohhminiedfaa
