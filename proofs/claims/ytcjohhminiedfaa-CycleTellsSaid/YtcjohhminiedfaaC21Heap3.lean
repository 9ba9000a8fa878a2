/- Cycle: heap.down, heap.Pop. -/
import Derived.Test.YtcjohhminiedfaaC21Push
namespace Go.Proofs.Ytcjohhminiedfaa
open Go.RowKit
/-- heap.down. -/
def downF : Nat → Nat → List Nat → Nat → List Nat
  | 0, _, h, _ => h
  | f + 1, n, h, i => if n ≤ 2 * i + 1 then h else
    if h.getD (if 2 * i + 2 < n ∧ h.getD (2 * i + 2) 0 < h.getD (2 * i + 1) 0 then 2 * i + 2 else 2 * i + 1) 0 < h.getD i 0 then
      downF f n (swapN h i (if 2 * i + 2 < n ∧ h.getD (2 * i + 2) 0 < h.getD (2 * i + 1) 0 then 2 * i + 2 else 2 * i + 1)) (if 2 * i + 2 < n ∧ h.getD (2 * i + 2) 0 < h.getD (2 * i + 1) 0 then 2 * i + 2 else 2 * i + 1)
    else h
theorem downF_leaf {f n i : Nat} {h : List Nat} (hn : n ≤ 2 * i + 1) : downF (f + 1) n h i = h := by
  unfold downF
  rw [if_pos hn]
theorem downF_node {f n i j : Nat} {h : List Nat} (hn : ¬ n ≤ 2 * i + 1) (hj : (if 2 * i + 2 < n ∧ h.getD (2 * i + 2) 0 < h.getD (2 * i + 1) 0 then 2 * i + 2 else 2 * i + 1) = j) : downF (f + 1) n h i = if h.getD j 0 < h.getD i 0 then downF f n (swapN h i j) j else h := by
  conv => lhs; unfold downF
  rw [if_neg hn, hj]
set_option maxHeartbeats 4000000 in
set_option maxRecDepth 100000 in
theorem down_any {r i0 g n m c : Nat} {h : List Nat} {w : World} (hm : m ≤ 900000) (hnm : n < m) (hi0 : i0 ≤ n) (hl : h.length = m) (hH : HpR r w (.slice (some ⟨g, 0, none⟩) m c) h) : Calls Try.prog 46 #[rd r, .int .i64 (i0 : Int), .int .i64 (n : Int)] w fun e w' => (∃ b, e = .returned (.bool b)) ∧ HpR r w' (.slice (some ⟨g, 0, none⟩) m c) (downF (n + 1) n h i0) ∧ Fr (fun k => k = g) w w' := by
  unfold rd
  obtain ⟨R, hR⟩ : ∃ R, downF (n + 1) n h i0 = R := ⟨_, rfl⟩
  have HR0 := Lib.hid hR
  have HL := Lib.hid hl
  have HH := Lib.hid hH
  rw [hR]
  clear hR hl hH
  go_enter Try.func46, Try.ntmps46
  go_wp2_with fail
  go_loopg [7] (n + 1 - i0) (fun q x wr => ∃ (i f : Nat) (h' : List Nat), x = .int .i64 i ∧ q = n + 1 - i ∧ i ≤ n ∧ n < f + i ∧ Hid (downF f n h' i = R) ∧ Hid (h'.length = m) ∧ Hid (HpR r wr (.slice (some ⟨g, 0, none⟩) m c) h') ∧ Hid (Fr (fun k => k = g) w wr))
  case atStart => exact ⟨i0, n + 1, h, rfl, rfl, hi0, by omega, HR0.out, HL.out, HH.out, Fr.refl _ _⟩
  case round =>
    obtain ⟨i, f, h', rfl, rfl, hin, hf, hU, hL, hH, hF⟩ := hrel
    obtain ⟨f', rfl⟩ : ∃ f', f = f' + 1 := ⟨f - 1, by omega⟩
    have e1 := cell_of_heap hH.out.blk 0
    have ML := meth_run meth_fact.2.1 e1
    obtain ⟨p, hp⟩ : ∃ p, 2 * i + 1 = p := ⟨_, rfl⟩
    obtain ⟨q, hq⟩ : ∃ q, 2 * i + 2 = q := ⟨_, rfl⟩
    have hpz : 2 * (i : Int) + 1 = (p : Int) := by omega
    have hqz : (p : Int) + 1 = (q : Int) := by omega
    have hp0 : decide ((p : Int) < 0) = false := by simp
    by_cases hleaf : n ≤ 2 * i + 1
    · have hlb : decide ((n : Int) ≤ (p : Int)) = true := by simp; omega
      have hUR : Hid (h' = R) := by
        unfold Hid
        rw [← hU.out, downF_leaf hleaf]
      go_wp2_with fail
      refine bodyPost_ret (v := .bool (decide ((i0 : Int) < (i : Int)))) (by simp [results, Try.results46, go_sem]) rfl ⟨⟨_, rfl⟩, ?_, hF.out⟩
      rw [← hUR.out]
      exact hH.out
    · have hlb : decide ((n : Int) ≤ (p : Int)) = false := by simp; omega
      obtain ⟨_, _, e, _, hs1⟩ := hH.out.row.slice
      injection e with e2 e3 e4
      obtain ⟨_, e5, _, zg, _, hc⟩ := hs1 (by rw [hL.out]; omega)
      rw [← e2] at e5
      cases e5
      have HC : Hid (∀ (j x : Nat), h'[j]? = some x → wr.cell? ⟨g, j, none⟩ = some (.int .i64 (x : Int))) := hc
      clear hs1 e2 e3 e4 hc
      by_cases hqn : q < n
      · have hqb : decide ((q : Int) < (n : Int)) = true := by simp; omega
        obtain ⟨x2, hx2⟩ : ∃ x, h'[q]? = some x := ⟨_, List.getElem?_eq_getElem (by rw [hL.out]; omega)⟩
        obtain ⟨x1, hx1⟩ : ∃ x, h'[p]? = some x := ⟨_, List.getElem?_eq_getElem (by rw [hL.out]; omega)⟩
        have CL := Lib.hid (less_any (w := wr) (c := c) (i := q) (j := p) (n := m) (x := x2) (y := x1) (g := g) (by omega) (by omega) zg (HC.out _ x2 hx2) (HC.out _ x1 hx1))
        have HX2 := Lib.hid hx2
        have HX1 := Lib.hid hx1
        clear hx2 hx1
        go_wp2_with fail
        refine CL.out.mono ?_
        rintro e w1 ⟨rfl, rfl⟩
        have ML' := meth_run meth_fact.2.1 (w := wr.drew) e1
        have HC : Hid (∀ (j x : Nat), h'[j]? = some x → wr.drew.cell? ⟨g, j, none⟩ = some (.int .i64 (x : Int))) := HC.out
        clear CL ML
        by_cases h21 : x2 < x1
        · have h21b : decide (x2 < x1) = true := by simpa using h21
          have JJ : Hid ((if 2 * i + 2 < n ∧ h'.getD (2 * i + 2) 0 < h'.getD (2 * i + 1) 0 then 2 * i + 2 else 2 * i + 1) = q) := by
            unfold Hid
            rw [if_pos ⟨by omega, by rw [hp, hq, getD_at HX2.out, getD_at HX1.out]; exact h21⟩]
            exact hq
          clear h21 HX2 HX1
          have LX : Hid (∀ v, h'[q]? = some v → h'.getD q 0 = v) := fun v hv => getD_at hv
          obtain ⟨x, hx⟩ : ∃ x, h'[q]? = some x := ⟨_, List.getElem?_eq_getElem (by rw [hL.out]; omega)⟩
          obtain ⟨y, hy⟩ : ∃ y, h'[i]? = some y := ⟨_, List.getElem?_eq_getElem (by rw [hL.out]; omega)⟩
          have CL := Lib.hid (less_any (w := wr.drew) (c := c) (i := q) (j := i) (n := m) (x := x) (y := y) (g := g) (by omega) (by omega) zg (HC.out _ x hx) (HC.out _ y hy))
          have HX := Lib.hid hx
          have HY := Lib.hid hy
          clear hx hy
          go_wp2_with fail
          refine CL.out.mono ?_
          rintro e w2 ⟨rfl, rfl⟩
          have H2 : Hid (HpR r (wr.drew).drew (.slice (some ⟨g, 0, none⟩) m c) h') := ⟨hH.out.blk, hH.out.row⟩
          have F2 : Hid (Fr (fun k => k = g) w (wr.drew).drew) := hF.out.trans (S' := fun _ => False) (Fr.of_below ((Below.refl _ _).drew.drew)) fun _ _ h => h.elim
          have MS' := meth_run meth_fact.2.2 (cell_of_heap H2.out.blk 0)
          clear CL
          by_cases hxy : x < y
          · have hxb : decide (x < y) = true := by simpa using hxy
            have NX : Hid (downF f' n (swapN h' i q) q = R) := by
              unfold Hid
              rw [← hU.out, downF_node hleaf JJ.out, if_pos (by rw [LX.out x HX.out, getD_at HY.out]; exact hxy)]
            have CS := swap_any (g := g) (c := c) (i := i) (j := q) (h := h') (w := (wr.drew).drew) (by rw [hL.out]; omega) (by rw [hL.out]; omega) (by rw [hL.out]; omega) (by rw [hL.out]; exact H2.out.row)
            rw [hL.out] at CS
            have HCS := Lib.hid CS
            clear CS hxy HX HY
            go_wp2_with fail
            refine HCS.out.mono ?_
            rintro e w3 ⟨rfl, s1, s2, s3⟩
            have H3 := Lib.hid (H2.out.swapped s1 s2)
            have F3 : Hid (Fr (fun k => k = g) w w3) := F2.out.trans s2 fun _ _ h => h
            clear s1 s2 s3 HCS hH hF H2 F2 MS' zg hxb HC
            go_wp2_with fail
            go_roundg (n + 1 - q)
            case measure => omega
            case rel => exact ⟨q, f', swapN h' i q, rfl, rfl, by omega, by omega, NX, by unfold Hid; rw [swapN_length]; exact hL.out, H3, F3⟩
          · have hxb : decide (x < y) = false := by simpa using hxy
            have hUR : Hid (h' = R) := by
              unfold Hid
              rw [← hU.out, downF_node hleaf JJ.out, if_neg (by rw [LX.out x HX.out, getD_at HY.out]; exact hxy)]
            go_wp2_with fail
            refine bodyPost_ret (v := .bool (decide ((i0 : Int) < (i : Int)))) (by simp [results, Try.results46, go_sem]) rfl ⟨⟨_, rfl⟩, ?_, F2.out⟩
            rw [← hUR.out]
            exact H2.out
        · have h21b : decide (x2 < x1) = false := by simpa using h21
          have JJ : Hid ((if 2 * i + 2 < n ∧ h'.getD (2 * i + 2) 0 < h'.getD (2 * i + 1) 0 then 2 * i + 2 else 2 * i + 1) = p) := by
            unfold Hid
            rw [if_neg (by rw [hp, hq, getD_at HX2.out, getD_at HX1.out]; exact fun h => h21 h.2)]
            exact hp
          clear h21 HX2 HX1
          have LX : Hid (∀ v, h'[p]? = some v → h'.getD p 0 = v) := fun v hv => getD_at hv
          obtain ⟨x, hx⟩ : ∃ x, h'[p]? = some x := ⟨_, List.getElem?_eq_getElem (by rw [hL.out]; omega)⟩
          obtain ⟨y, hy⟩ : ∃ y, h'[i]? = some y := ⟨_, List.getElem?_eq_getElem (by rw [hL.out]; omega)⟩
          have CL := Lib.hid (less_any (w := wr.drew) (c := c) (i := p) (j := i) (n := m) (x := x) (y := y) (g := g) (by omega) (by omega) zg (HC.out _ x hx) (HC.out _ y hy))
          have HX := Lib.hid hx
          have HY := Lib.hid hy
          clear hx hy
          go_wp2_with fail
          refine CL.out.mono ?_
          rintro e w2 ⟨rfl, rfl⟩
          have H2 : Hid (HpR r (wr.drew).drew (.slice (some ⟨g, 0, none⟩) m c) h') := ⟨hH.out.blk, hH.out.row⟩
          have F2 : Hid (Fr (fun k => k = g) w (wr.drew).drew) := hF.out.trans (S' := fun _ => False) (Fr.of_below ((Below.refl _ _).drew.drew)) fun _ _ h => h.elim
          have MS' := meth_run meth_fact.2.2 (cell_of_heap H2.out.blk 0)
          clear CL
          by_cases hxy : x < y
          · have hxb : decide (x < y) = true := by simpa using hxy
            have NX : Hid (downF f' n (swapN h' i p) p = R) := by
              unfold Hid
              rw [← hU.out, downF_node hleaf JJ.out, if_pos (by rw [LX.out x HX.out, getD_at HY.out]; exact hxy)]
            have CS := swap_any (g := g) (c := c) (i := i) (j := p) (h := h') (w := (wr.drew).drew) (by rw [hL.out]; omega) (by rw [hL.out]; omega) (by rw [hL.out]; omega) (by rw [hL.out]; exact H2.out.row)
            rw [hL.out] at CS
            have HCS := Lib.hid CS
            clear CS hxy HX HY
            go_wp2_with fail
            refine HCS.out.mono ?_
            rintro e w3 ⟨rfl, s1, s2, s3⟩
            have H3 := Lib.hid (H2.out.swapped s1 s2)
            have F3 : Hid (Fr (fun k => k = g) w w3) := F2.out.trans s2 fun _ _ h => h
            clear s1 s2 s3 HCS hH hF H2 F2 MS' zg hxb HC
            go_wp2_with fail
            go_roundg (n + 1 - p)
            case measure => omega
            case rel => exact ⟨p, f', swapN h' i p, rfl, rfl, by omega, by omega, NX, by unfold Hid; rw [swapN_length]; exact hL.out, H3, F3⟩
          · have hxb : decide (x < y) = false := by simpa using hxy
            have hUR : Hid (h' = R) := by
              unfold Hid
              rw [← hU.out, downF_node hleaf JJ.out, if_neg (by rw [LX.out x HX.out, getD_at HY.out]; exact hxy)]
            go_wp2_with fail
            refine bodyPost_ret (v := .bool (decide ((i0 : Int) < (i : Int)))) (by simp [results, Try.results46, go_sem]) rfl ⟨⟨_, rfl⟩, ?_, F2.out⟩
            rw [← hUR.out]
            exact H2.out
      · have hqb : decide ((q : Int) < (n : Int)) = false := by simp; omega
        have JJ : Hid ((if 2 * i + 2 < n ∧ h'.getD (2 * i + 2) 0 < h'.getD (2 * i + 1) 0 then 2 * i + 2 else 2 * i + 1) = p) := by
          unfold Hid
          rw [if_neg (by rw [hq]; exact fun h => hqn h.1)]
          exact hp
        have LX : Hid (∀ v, h'[p]? = some v → h'.getD p 0 = v) := fun v hv => getD_at hv
        obtain ⟨x, hx⟩ : ∃ x, h'[p]? = some x := ⟨_, List.getElem?_eq_getElem (by rw [hL.out]; omega)⟩
        obtain ⟨y, hy⟩ : ∃ y, h'[i]? = some y := ⟨_, List.getElem?_eq_getElem (by rw [hL.out]; omega)⟩
        have CL := Lib.hid (less_any (w := wr) (c := c) (i := p) (j := i) (n := m) (x := x) (y := y) (g := g) (by omega) (by omega) zg (HC.out _ x hx) (HC.out _ y hy))
        have HX := Lib.hid hx
        have HY := Lib.hid hy
        clear hx hy
        go_wp2_with fail
        refine CL.out.mono ?_
        rintro e w2 ⟨rfl, rfl⟩
        have H2 : Hid (HpR r (wr).drew (.slice (some ⟨g, 0, none⟩) m c) h') := ⟨hH.out.blk, hH.out.row⟩
        have F2 : Hid (Fr (fun k => k = g) w (wr).drew) := hF.out.trans (S' := fun _ => False) (Fr.of_below ((Below.refl _ _).drew)) fun _ _ h => h.elim
        have MS' := meth_run meth_fact.2.2 (cell_of_heap H2.out.blk 0)
        clear CL
        by_cases hxy : x < y
        · have hxb : decide (x < y) = true := by simpa using hxy
          have NX : Hid (downF f' n (swapN h' i p) p = R) := by
            unfold Hid
            rw [← hU.out, downF_node hleaf JJ.out, if_pos (by rw [LX.out x HX.out, getD_at HY.out]; exact hxy)]
          have CS := swap_any (g := g) (c := c) (i := i) (j := p) (h := h') (w := (wr).drew) (by rw [hL.out]; omega) (by rw [hL.out]; omega) (by rw [hL.out]; omega) (by rw [hL.out]; exact H2.out.row)
          rw [hL.out] at CS
          have HCS := Lib.hid CS
          clear CS hxy HX HY
          go_wp2_with fail
          refine HCS.out.mono ?_
          rintro e w3 ⟨rfl, s1, s2, s3⟩
          have H3 := Lib.hid (H2.out.swapped s1 s2)
          have F3 : Hid (Fr (fun k => k = g) w w3) := F2.out.trans s2 fun _ _ h => h
          clear s1 s2 s3 HCS hH hF H2 F2 MS' zg hxb HC
          go_wp2_with fail
          go_roundg (n + 1 - p)
          case measure => omega
          case rel => exact ⟨p, f', swapN h' i p, rfl, rfl, by omega, by omega, NX, by unfold Hid; rw [swapN_length]; exact hL.out, H3, F3⟩
        · have hxb : decide (x < y) = false := by simpa using hxy
          have hUR : Hid (h' = R) := by
            unfold Hid
            rw [← hU.out, downF_node hleaf JJ.out, if_neg (by rw [LX.out x HX.out, getD_at HY.out]; exact hxy)]
          go_wp2_with fail
          refine bodyPost_ret (v := .bool (decide ((i0 : Int) < (i : Int)))) (by simp [results, Try.results46, go_sem]) rfl ⟨⟨_, rfl⟩, ?_, F2.out⟩
          rw [← hUR.out]
          exact H2.out
end Go.Proofs.Ytcjohhminiedfaa
