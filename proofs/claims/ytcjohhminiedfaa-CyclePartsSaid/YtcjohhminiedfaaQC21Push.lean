/- Cycle: heap.Push. -/
import Derived.Test.YtcjohhminiedfaaQC21Heap2
namespace Go.Proofs.Ytcjohhminiedfaa
open Go.RowKit
/-- heap.Push. -/
def pushF (h : List Nat) (x : Nat) : List Nat := upF (h.length + 1) (h ++ [x]) h.length
set_option maxHeartbeats 1000000 in
set_option maxRecDepth 100000 in
theorem hpush_any {r x : Nat} {sv : Value} {h : List Nat} {w : World} (hn : h.length ≤ 900000) (hH : HpR r w sv h) : Calls Try.prog 34 #[rd r, .iface 3 (.int .i64 (x : Int))] w fun e w' => e = .returned (.tuple #[]) ∧ HpP r w sv (pushF h x) w' := by
  unfold rd
  have CP := Lib.hid (rpush_any (x := x) (by omega) hH)
  clear hH
  go_enter Try.func34, Try.ntmps34
  go_wp2_with fail
  refine CP.out.mono ?_
  rintro e w1 ⟨rfl, sv1, h1, h2, h3⟩
  obtain ⟨sa, sc, rfl, _, h4⟩ := h1.row.slice
  obtain ⟨g, rfl, _⟩ := h4 (by simp)
  obtain ⟨n, hn'⟩ : ∃ n, (h ++ [x]).length = n := ⟨_, rfl⟩
  have hn2 : h.length + 1 = n := by rw [← hn']; simp
  have e1 := cell_of_heap h1.blk 0
  have CU := up_any (r := r) (j := h.length) (g := g) (n := n) (c := sc) (h := h ++ [x]) (w := w1) (by omega) (by omega) hn' (by rw [← hn']; exact h1)
  have PF : Hid (upF n (h ++ [x]) h.length = pushF h x) := by
    unfold Hid pushF
    rw [hn2]
  rw [hn'] at e1 h3
  have ML := meth_run meth_fact.1 e1
  have H2 := Lib.hid h2
  have H3 := Lib.hid h3
  have HCU := Lib.hid CU
  clear h1 h2 h3 h4 CU CP hn'
  have hq : (n : Int) - 1 = (h.length : Int) := by omega
  clear hn2
  go_wp2_with fail
  refine (len_any _ _ _ _).mono ?_
  rintro e w2 ⟨rfl, rfl⟩
  clear ML
  go_wp2_with fail
  refine HCU.out.mono ?_
  rintro e w3 ⟨rfl, u1, u2⟩
  rw [PF.out] at u1
  have FIN : Hid (HpP r w sv (pushF h x) w3) := ⟨_, u1, H2.out.trans u2 (fun k hk e => by
    subst e
    rcases H3.out k rfl with h | h
    · exact .inr h
    · omega), H3.out⟩
  clear u1 u2 HCU H2 H3 e1
  go_wp2_with fail
  refine bodyPost_end (v := .tuple #[]) (by simp [results, Try.results34, go_sem]) rfl ⟨rfl, FIN.out⟩
end Go.Proofs.Ytcjohhminiedfaa
/- Cycle: heap.down, heap.Pop. -/
namespace Go.Proofs.Ytcjohhminiedfaa
open Go.RowKit
/-- heap.down. -/
def downF : Nat → Nat → List Nat → Nat → List Nat
  | 0, _, h, _ => h
  | f + 1, n, h, i => if n ≤ 2 * i + 1 then h else
    if h.getD (if 2 * i + 2 < n ∧ h.getD (2 * i + 2) 0 < h.getD (2 * i + 1) 0 then 2 * i + 2 else 2 * i + 1) 0 < h.getD i 0 then
      downF f n (swapN h i (if 2 * i + 2 < n ∧ h.getD (2 * i + 2) 0 < h.getD (2 * i + 1) 0 then 2 * i + 2 else 2 * i + 1)) (if 2 * i + 2 < n ∧ h.getD (2 * i + 2) 0 < h.getD (2 * i + 1) 0 then 2 * i + 2 else 2 * i + 1)
    else h
theorem downF_leaf {f n i : Nat} {h : List Nat} (hn : n ≤ 2 * i + 1) : downF (f + 1) n h i = h := by
  unfold downF
  rw [if_pos hn]
theorem downF_node {f n i j : Nat} {h : List Nat} (hn : ¬ n ≤ 2 * i + 1) (hj : (if 2 * i + 2 < n ∧ h.getD (2 * i + 2) 0 < h.getD (2 * i + 1) 0 then 2 * i + 2 else 2 * i + 1) = j) : downF (f + 1) n h i = if h.getD j 0 < h.getD i 0 then downF f n (swapN h i j) j else h := by
  conv => lhs; unfold downF
  rw [if_neg hn, hj]
set_option maxHeartbeats 4000000 in
set_option maxRecDepth 100000 in
theorem down_any {r i0 g n m c : Nat} {h : List Nat} {w : World} (hm : m ≤ 900000) (hnm : n < m) (hi0 : i0 ≤ n) (hl : h.length = m) (hH : HpR r w (.slice (some ⟨g, 0, none⟩) m c) h) : Calls Try.prog 46 #[rd r, .int .i64 (i0 : Int), .int .i64 (n : Int)] w fun e w' => (∃ b, e = .returned (.bool b)) ∧ HpR r w' (.slice (some ⟨g, 0, none⟩) m c) (downF (n + 1) n h i0) ∧ Fr (fun k => k = g) w w' := by
  unfold rd
  obtain ⟨R, hR⟩ : ∃ R, downF (n + 1) n h i0 = R := ⟨_, rfl⟩
  have HR0 := Lib.hid hR
  have HL := Lib.hid hl
  have HH := Lib.hid hH
  rw [hR]
  clear hR hl hH
  go_enter Try.func46, Try.ntmps46
  go_wp2_with fail
  go_loopg [7] (n + 1 - i0) (fun q x wr => ∃ (i f : Nat) (h' : List Nat), x = .int .i64 i ∧ q = n + 1 - i ∧ i ≤ n ∧ n < f + i ∧ Hid (downF f n h' i = R) ∧ Hid (h'.length = m) ∧ Hid (HpR r wr (.slice (some ⟨g, 0, none⟩) m c) h') ∧ Hid (Fr (fun k => k = g) w wr))
  case atStart => exact ⟨i0, n + 1, h, rfl, rfl, hi0, by omega, HR0.out, HL.out, HH.out, Fr.refl _ _⟩
  case round =>
    obtain ⟨i, f, h', rfl, rfl, hin, hf, hU, hL, hH, hF⟩ := hrel
    obtain ⟨f', rfl⟩ : ∃ f', f = f' + 1 := ⟨f - 1, by omega⟩
    have e1 := cell_of_heap hH.out.blk 0
    have ML := meth_run meth_fact.2.1 e1
    obtain ⟨p, hp⟩ : ∃ p, 2 * i + 1 = p := ⟨_, rfl⟩
    obtain ⟨q, hq⟩ : ∃ q, 2 * i + 2 = q := ⟨_, rfl⟩
    have hpz : 2 * (i : Int) + 1 = (p : Int) := by omega
    have hqz : (p : Int) + 1 = (q : Int) := by omega
    have hp0 : decide ((p : Int) < 0) = false := by simp
    by_cases hleaf : n ≤ 2 * i + 1
    · have hlb : decide ((n : Int) ≤ (p : Int)) = true := by simp; omega
      have hUR : Hid (h' = R) := by
        unfold Hid
        rw [← hU.out, downF_leaf hleaf]
      go_wp2_with fail
      refine bodyPost_ret (v := .bool (decide ((i0 : Int) < (i : Int)))) (by simp [results, Try.results46, go_sem]) rfl ⟨⟨_, rfl⟩, ?_, hF.out⟩
      rw [← hUR.out]
      exact hH.out
    · have hlb : decide ((n : Int) ≤ (p : Int)) = false := by simp; omega
      obtain ⟨_, _, e, _, hs1⟩ := hH.out.row.slice
      injection e with e2 e3 e4
      obtain ⟨_, e5, _, zg, _, hc⟩ := hs1 (by rw [hL.out]; omega)
      rw [← e2] at e5
      cases e5
      have HC : Hid (∀ (j x : Nat), h'[j]? = some x → wr.cell? ⟨g, j, none⟩ = some (.int .i64 (x : Int))) := hc
      clear hs1 e2 e3 e4 hc
      by_cases hqn : q < n
      · have hqb : decide ((q : Int) < (n : Int)) = true := by simp; omega
        obtain ⟨x2, hx2⟩ : ∃ x, h'[q]? = some x := ⟨_, List.getElem?_eq_getElem (by rw [hL.out]; omega)⟩
        obtain ⟨x1, hx1⟩ : ∃ x, h'[p]? = some x := ⟨_, List.getElem?_eq_getElem (by rw [hL.out]; omega)⟩
        have CL := Lib.hid (less_any (w := wr) (c := c) (i := q) (j := p) (n := m) (x := x2) (y := x1) (g := g) (by omega) (by omega) zg (HC.out _ x2 hx2) (HC.out _ x1 hx1))
        have HX2 := Lib.hid hx2
        have HX1 := Lib.hid hx1
        clear hx2 hx1
        go_wp2_with fail
        refine CL.out.mono ?_
        rintro e w1 ⟨rfl, rfl⟩
        have ML' := meth_run meth_fact.2.1 (w := wr.drew) e1
        have HC : Hid (∀ (j x : Nat), h'[j]? = some x → wr.drew.cell? ⟨g, j, none⟩ = some (.int .i64 (x : Int))) := HC.out
        clear CL ML
        by_cases h21 : x2 < x1
        · have h21b : decide (x2 < x1) = true := by simpa using h21
          have JJ : Hid ((if 2 * i + 2 < n ∧ h'.getD (2 * i + 2) 0 < h'.getD (2 * i + 1) 0 then 2 * i + 2 else 2 * i + 1) = q) := by
            unfold Hid
            rw [if_pos ⟨by omega, by rw [hp, hq, getD_at HX2.out, getD_at HX1.out]; exact h21⟩]
            exact hq
          clear h21 HX2 HX1
          have LX : Hid (∀ v, h'[q]? = some v → h'.getD q 0 = v) := fun v hv => getD_at hv
          obtain ⟨x, hx⟩ : ∃ x, h'[q]? = some x := ⟨_, List.getElem?_eq_getElem (by rw [hL.out]; omega)⟩
          obtain ⟨y, hy⟩ : ∃ y, h'[i]? = some y := ⟨_, List.getElem?_eq_getElem (by rw [hL.out]; omega)⟩
          have CL := Lib.hid (less_any (w := wr.drew) (c := c) (i := q) (j := i) (n := m) (x := x) (y := y) (g := g) (by omega) (by omega) zg (HC.out _ x hx) (HC.out _ y hy))
          have HX := Lib.hid hx
          have HY := Lib.hid hy
          clear hx hy
          go_wp2_with fail
          refine CL.out.mono ?_
          rintro e w2 ⟨rfl, rfl⟩
          have H2 : Hid (HpR r (wr.drew).drew (.slice (some ⟨g, 0, none⟩) m c) h') := ⟨hH.out.blk, hH.out.row⟩
          have F2 : Hid (Fr (fun k => k = g) w (wr.drew).drew) := hF.out.trans (S' := fun _ => False) (Fr.of_below ((Below.refl _ _).drew.drew)) fun _ _ h => h.elim
          have MS' := meth_run meth_fact.2.2 (cell_of_heap H2.out.blk 0)
          clear CL
          by_cases hxy : x < y
          · have hxb : decide (x < y) = true := by simpa using hxy
            have NX : Hid (downF f' n (swapN h' i q) q = R) := by
              unfold Hid
              rw [← hU.out, downF_node hleaf JJ.out, if_pos (by rw [LX.out x HX.out, getD_at HY.out]; exact hxy)]
            have CS := swap_any (g := g) (c := c) (i := i) (j := q) (h := h') (w := (wr.drew).drew) (by rw [hL.out]; omega) (by rw [hL.out]; omega) (by rw [hL.out]; omega) (by rw [hL.out]; exact H2.out.row)
            rw [hL.out] at CS
            have HCS := Lib.hid CS
            clear CS hxy HX HY
            go_wp2_with fail
            refine HCS.out.mono ?_
            rintro e w3 ⟨rfl, s1, s2, s3⟩
            have H3 := Lib.hid (H2.out.swapped s1 s2)
            have F3 : Hid (Fr (fun k => k = g) w w3) := F2.out.trans s2 fun _ _ h => h
            clear s1 s2 s3 HCS hH hF H2 F2 MS' zg hxb HC
            go_wp2_with fail
            go_roundg (n + 1 - q)
            case measure => omega
            case rel => exact ⟨q, f', swapN h' i q, rfl, rfl, by omega, by omega, NX, by unfold Hid; rw [swapN_length]; exact hL.out, H3, F3⟩
          · have hxb : decide (x < y) = false := by simpa using hxy
            have hUR : Hid (h' = R) := by
              unfold Hid
              rw [← hU.out, downF_node hleaf JJ.out, if_neg (by rw [LX.out x HX.out, getD_at HY.out]; exact hxy)]
            go_wp2_with fail
            refine bodyPost_ret (v := .bool (decide ((i0 : Int) < (i : Int)))) (by simp [results, Try.results46, go_sem]) rfl ⟨⟨_, rfl⟩, ?_, F2.out⟩
            rw [← hUR.out]
            exact H2.out
        · have h21b : decide (x2 < x1) = false := by simpa using h21
          have JJ : Hid ((if 2 * i + 2 < n ∧ h'.getD (2 * i + 2) 0 < h'.getD (2 * i + 1) 0 then 2 * i + 2 else 2 * i + 1) = p) := by
            unfold Hid
            rw [if_neg (by rw [hp, hq, getD_at HX2.out, getD_at HX1.out]; exact fun h => h21 h.2)]
            exact hp
          clear h21 HX2 HX1
          have LX : Hid (∀ v, h'[p]? = some v → h'.getD p 0 = v) := fun v hv => getD_at hv
          obtain ⟨x, hx⟩ : ∃ x, h'[p]? = some x := ⟨_, List.getElem?_eq_getElem (by rw [hL.out]; omega)⟩
          obtain ⟨y, hy⟩ : ∃ y, h'[i]? = some y := ⟨_, List.getElem?_eq_getElem (by rw [hL.out]; omega)⟩
          have CL := Lib.hid (less_any (w := wr.drew) (c := c) (i := p) (j := i) (n := m) (x := x) (y := y) (g := g) (by omega) (by omega) zg (HC.out _ x hx) (HC.out _ y hy))
          have HX := Lib.hid hx
          have HY := Lib.hid hy
          clear hx hy
          go_wp2_with fail
          refine CL.out.mono ?_
          rintro e w2 ⟨rfl, rfl⟩
          have H2 : Hid (HpR r (wr.drew).drew (.slice (some ⟨g, 0, none⟩) m c) h') := ⟨hH.out.blk, hH.out.row⟩
          have F2 : Hid (Fr (fun k => k = g) w (wr.drew).drew) := hF.out.trans (S' := fun _ => False) (Fr.of_below ((Below.refl _ _).drew.drew)) fun _ _ h => h.elim
          have MS' := meth_run meth_fact.2.2 (cell_of_heap H2.out.blk 0)
          clear CL
          by_cases hxy : x < y
          · have hxb : decide (x < y) = true := by simpa using hxy
            have NX : Hid (downF f' n (swapN h' i p) p = R) := by
              unfold Hid
              rw [← hU.out, downF_node hleaf JJ.out, if_pos (by rw [LX.out x HX.out, getD_at HY.out]; exact hxy)]
            have CS := swap_any (g := g) (c := c) (i := i) (j := p) (h := h') (w := (wr.drew).drew) (by rw [hL.out]; omega) (by rw [hL.out]; omega) (by rw [hL.out]; omega) (by rw [hL.out]; exact H2.out.row)
            rw [hL.out] at CS
            have HCS := Lib.hid CS
            clear CS hxy HX HY
            go_wp2_with fail
            refine HCS.out.mono ?_
            rintro e w3 ⟨rfl, s1, s2, s3⟩
            have H3 := Lib.hid (H2.out.swapped s1 s2)
            have F3 : Hid (Fr (fun k => k = g) w w3) := F2.out.trans s2 fun _ _ h => h
            clear s1 s2 s3 HCS hH hF H2 F2 MS' zg hxb HC
            go_wp2_with fail
            go_roundg (n + 1 - p)
            case measure => omega
            case rel => exact ⟨p, f', swapN h' i p, rfl, rfl, by omega, by omega, NX, by unfold Hid; rw [swapN_length]; exact hL.out, H3, F3⟩
          · have hxb : decide (x < y) = false := by simpa using hxy
            have hUR : Hid (h' = R) := by
              unfold Hid
              rw [← hU.out, downF_node hleaf JJ.out, if_neg (by rw [LX.out x HX.out, getD_at HY.out]; exact hxy)]
            go_wp2_with fail
            refine bodyPost_ret (v := .bool (decide ((i0 : Int) < (i : Int)))) (by simp [results, Try.results46, go_sem]) rfl ⟨⟨_, rfl⟩, ?_, F2.out⟩
            rw [← hUR.out]
            exact H2.out
      · have hqb : decide ((q : Int) < (n : Int)) = false := by simp; omega
        have JJ : Hid ((if 2 * i + 2 < n ∧ h'.getD (2 * i + 2) 0 < h'.getD (2 * i + 1) 0 then 2 * i + 2 else 2 * i + 1) = p) := by
          unfold Hid
          rw [if_neg (by rw [hq]; exact fun h => hqn h.1)]
          exact hp
        have LX : Hid (∀ v, h'[p]? = some v → h'.getD p 0 = v) := fun v hv => getD_at hv
        obtain ⟨x, hx⟩ : ∃ x, h'[p]? = some x := ⟨_, List.getElem?_eq_getElem (by rw [hL.out]; omega)⟩
        obtain ⟨y, hy⟩ : ∃ y, h'[i]? = some y := ⟨_, List.getElem?_eq_getElem (by rw [hL.out]; omega)⟩
        have CL := Lib.hid (less_any (w := wr) (c := c) (i := p) (j := i) (n := m) (x := x) (y := y) (g := g) (by omega) (by omega) zg (HC.out _ x hx) (HC.out _ y hy))
        have HX := Lib.hid hx
        have HY := Lib.hid hy
        clear hx hy
        go_wp2_with fail
        refine CL.out.mono ?_
        rintro e w2 ⟨rfl, rfl⟩
        have H2 : Hid (HpR r (wr).drew (.slice (some ⟨g, 0, none⟩) m c) h') := ⟨hH.out.blk, hH.out.row⟩
        have F2 : Hid (Fr (fun k => k = g) w (wr).drew) := hF.out.trans (S' := fun _ => False) (Fr.of_below ((Below.refl _ _).drew)) fun _ _ h => h.elim
        have MS' := meth_run meth_fact.2.2 (cell_of_heap H2.out.blk 0)
        clear CL
        by_cases hxy : x < y
        · have hxb : decide (x < y) = true := by simpa using hxy
          have NX : Hid (downF f' n (swapN h' i p) p = R) := by
            unfold Hid
            rw [← hU.out, downF_node hleaf JJ.out, if_pos (by rw [LX.out x HX.out, getD_at HY.out]; exact hxy)]
          have CS := swap_any (g := g) (c := c) (i := i) (j := p) (h := h') (w := (wr).drew) (by rw [hL.out]; omega) (by rw [hL.out]; omega) (by rw [hL.out]; omega) (by rw [hL.out]; exact H2.out.row)
          rw [hL.out] at CS
          have HCS := Lib.hid CS
          clear CS hxy HX HY
          go_wp2_with fail
          refine HCS.out.mono ?_
          rintro e w3 ⟨rfl, s1, s2, s3⟩
          have H3 := Lib.hid (H2.out.swapped s1 s2)
          have F3 : Hid (Fr (fun k => k = g) w w3) := F2.out.trans s2 fun _ _ h => h
          clear s1 s2 s3 HCS hH hF H2 F2 MS' zg hxb HC
          go_wp2_with fail
          go_roundg (n + 1 - p)
          case measure => omega
          case rel => exact ⟨p, f', swapN h' i p, rfl, rfl, by omega, by omega, NX, by unfold Hid; rw [swapN_length]; exact hL.out, H3, F3⟩
        · have hxb : decide (x < y) = false := by simpa using hxy
          have hUR : Hid (h' = R) := by
            unfold Hid
            rw [← hU.out, downF_node hleaf JJ.out, if_neg (by rw [LX.out x HX.out, getD_at HY.out]; exact hxy)]
          go_wp2_with fail
          refine bodyPost_ret (v := .bool (decide ((i0 : Int) < (i : Int)))) (by simp [results, Try.results46, go_sem]) rfl ⟨⟨_, rfl⟩, ?_, F2.out⟩
          rw [← hUR.out]
          exact H2.out
end Go.Proofs.Ytcjohhminiedfaa
/- Cycle: the heap's laws, plain. -/
namespace Go.Proofs.Ytcjohhminiedfaa
theorem getDn {l : List Nat} {i : Nat} (h : i < l.length) : l.getD i 0 = l[i] := by rw [List.getD_eq_getElem?_getD, List.getElem?_eq_getElem h]; rfl
theorem swapN_at {h : List Nat} {i j k : Nat} (hi : i < h.length) (hj : j < h.length) : (swapN h i j).getD k 0 = if k = j then h.getD i 0 else if k = i then h.getD j 0 else h.getD k 0 := by
  unfold swapN
  simp only [List.getD_eq_getElem?_getD, List.getElem?_set, List.length_set]
  by_cases h1 : k = j
  · subst h1
    simp [hj]
  · rw [if_neg (fun e => h1 e.symm), if_neg h1]
    by_cases h2 : k = i
    · subst h2
      simp [hi]
    · rw [if_neg (fun e => h2 e.symm), if_neg h2]
theorem count_one {l : List Nat} {i v a : Nat} (hi : i < l.length) : (l.set i v).count a + (if l.getD i 0 = a then 1 else 0) = l.count a + if v = a then 1 else 0 := by
  rw [List.count_set hi, getDn hi]
  have h1 : (if (l[i] == a) = true then 1 else 0) ≤ l.count a := by
    split
    · rename_i e
      exact List.count_pos_iff.2 (by rw [← beq_iff_eq.1 e]; exact List.getElem_mem hi)
    · exact Nat.zero_le _
  simp only [beq_iff_eq] at h1 ⊢
  omega
theorem swapN_count {h : List Nat} {i j : Nat} (hi : i < h.length) (hj : j < h.length) (a : Nat) : (swapN h i j).count a = h.count a := by
  unfold swapN
  have h1 := count_one (l := h.set i (h.getD j 0)) (i := j) (v := h.getD i 0) (a := a) (by simpa using hj)
  have h2 := count_one (l := h) (i := i) (v := h.getD j 0) (a := a) hi
  have h3 : (h.set i (h.getD j 0)).getD j 0 = h.getD j 0 := by
    simp only [List.getD_eq_getElem?_getD, List.getElem?_set]
    split
    · rename_i e
      subst e
      first | rfl | (rw [if_pos hi]; rfl)
    · rfl
  rw [h3] at h1
  omega
/-- The least on top. -/
def IsHp (h : List Nat) : Prop := ∀ k, 0 < k → k < h.length → h.getD ((k - 1) / 2) 0 ≤ h.getD k 0
theorem IsHp.top {h : List Nat} (hh : IsHp h) : ∀ (b k : Nat), k < b → k < h.length → h.getD 0 0 ≤ h.getD k 0 := by
  intro b
  induction b with
  | zero => intro k hb; omega
  | succ b ih =>
    intro k hb hk
    by_cases h0 : k = 0
    · rw [h0]
      exact Nat.le_refl _
    · exact Nat.le_trans (ih ((k - 1) / 2) (by omega) (by omega)) (hh k (by omega) hk)
theorem IsHp.least {h : List Nat} (hh : IsHp h) {a : Nat} (ha : a ∈ h) : h.getD 0 0 ≤ a := by
  obtain ⟨k, hk⟩ := List.mem_iff_getElem?.1 ha
  obtain ⟨hk1, hk2⟩ := List.getElem?_eq_some_iff.1 hk
  have := hh.top (k + 1) k (Nat.lt_succ_self k) hk1
  rw [getDn hk1, hk2] at this
  exact this
theorem up_law : ∀ (f j : Nat) (h : List Nat), j < f → j < h.length → (∀ k, 0 < k → k < h.length → k ≠ j → h.getD ((k - 1) / 2) 0 ≤ h.getD k 0) → (∀ k, 0 < k → k < h.length → (k - 1) / 2 = j → 0 < j → h.getD ((j - 1) / 2) 0 ≤ h.getD k 0) →
    IsHp (upF f h j) ∧ ∀ a, (upF f h j).count a = h.count a := by
  intro f
  induction f with
  | zero => intro j h hf; omega
  | succ f ih =>
    intro j h hf hj h1 h2
    unfold upF
    obtain ⟨i, hi⟩ : ∃ i, (j - 1) / 2 = i := ⟨_, rfl⟩
    rw [hi]
    split
    · rename_i hc
      refine ⟨fun k k0 kl => ?_, fun _ => rfl⟩
      by_cases e : k = j
      · subst e
        rcases hc with hc | hc
        · omega
        · rw [hi]
          omega
      · exact h1 k k0 kl e
    · rename_i hc
      rw [not_or] at hc
      have hij : i < j := by omega
      have hil : i < h.length := by omega
      have hlt : h.getD j 0 < h.getD i 0 := Classical.not_not.1 hc.2
      have hs : ∀ k, (swapN h i j).getD k 0 = if k = j then h.getD i 0 else if k = i then h.getD j 0 else h.getD k 0 := fun k => swapN_at hil hj
      obtain ⟨r1, r2⟩ := ih i (swapN h i j) (by omega) (by rw [swapN_length]; exact hil) (fun k k0 kl ki => by
        rw [swapN_length] at kl
        rw [hs k, hs]
        by_cases e : k = j
        · subst e
          rw [if_pos rfl, hi, if_neg (by omega), if_pos rfl]
          omega
        · rw [if_neg e, if_neg ki]
          by_cases e1 : (k - 1) / 2 = j
          · rw [if_pos e1, ← hi]
            exact h2 k k0 kl e1 (by omega)
          · rw [if_neg e1]
            have h3 := h1 k k0 kl e
            by_cases e2 : (k - 1) / 2 = i
            · rw [if_pos e2]
              rw [e2] at h3
              omega
            · rw [if_neg e2]
              exact h3) (fun k k0 kl ki i0 => by
        rw [swapN_length] at kl
        have h4 := h1 i i0 hil (by omega)
        rw [hs ((i - 1) / 2), if_neg (by omega), if_neg (by omega), hs k]
        by_cases e : k = j
        · rw [if_pos e]
          exact h4
        · rw [if_neg e, if_neg (by omega)]
          have h3 := h1 k k0 kl e
          rw [ki] at h3
          omega)
      exact ⟨r1, fun a => by rw [r2 a, swapN_count hil hj]⟩
theorem push_law {h : List Nat} (hh : IsHp h) (x : Nat) : IsHp (pushF h x) ∧ ∀ a, (pushF h x).count a = h.count a + if x = a then 1 else 0 := by
  have at1 : ∀ k, k < h.length → (h ++ [x]).getD k 0 = h.getD k 0 := fun k hk => by
    simp only [List.getD_eq_getElem?_getD]
    rw [List.getElem?_append_left hk]
  obtain ⟨h1, h2⟩ := up_law (h.length + 1) h.length (h ++ [x]) (by omega) (by simp) (fun k k0 kl ke => by
    simp only [List.length_append, List.length_singleton] at kl
    rw [at1 k (by omega), at1 _ (by omega)]
    exact hh k k0 (by omega)) (fun k k0 kl ke _ => by
    simp only [List.length_append, List.length_singleton] at kl
    omega)
  refine ⟨h1, fun a => ?_⟩
  show (upF _ _ _).count a = _
  rw [h2 a, List.count_append, List.count_singleton]
  simp only [beq_iff_eq]
theorem down_law : ∀ (f n i : Nat) (h : List Nat), n < f + i → n ≤ h.length → i ≤ n → (∀ k, 0 < k → k < n → (k - 1) / 2 ≠ i → h.getD ((k - 1) / 2) 0 ≤ h.getD k 0) → (∀ k, 0 < k → k < n → (k - 1) / 2 = i → 0 < i → h.getD ((i - 1) / 2) 0 ≤ h.getD k 0) →
    (∀ k, 0 < k → k < n → (downF f n h i).getD ((k - 1) / 2) 0 ≤ (downF f n h i).getD k 0) ∧ (∀ a, (downF f n h i).count a = h.count a) ∧ (downF f n h i).length = h.length ∧ ∀ k, n ≤ k → (downF f n h i).getD k 0 = h.getD k 0 := by
  intro f
  induction f with
  | zero => intro n i h hf; omega
  | succ f ih =>
    intro n i h hf hn hin h1 h2
    by_cases hl : n ≤ 2 * i + 1
    · rw [downF_leaf hl]
      exact ⟨fun k k0 kn => h1 k k0 kn (by omega), fun _ => rfl, rfl, fun _ _ => rfl⟩
    · obtain ⟨j, hj⟩ : ∃ j, (if 2 * i + 2 < n ∧ h.getD (2 * i + 2) 0 < h.getD (2 * i + 1) 0 then 2 * i + 2 else 2 * i + 1) = j := ⟨_, rfl⟩
      rw [downF_node hl hj]
      have hjn : j < n ∧ (j - 1) / 2 = i ∧ 0 < j ∧ i < j := by
        rw [← hj]
        split <;> omega
      have hmin : ∀ k, 0 < k → k < n → (k - 1) / 2 = i → h.getD j 0 ≤ h.getD k 0 := fun k k0 kn ki => by
        rw [← hj]
        have hk : k = 2 * i + 1 ∨ k = 2 * i + 2 := by omega
        split
        · rename_i hc
          rcases hk with rfl | rfl <;> omega
        · rename_i hc
          rcases hk with rfl | rfl
          · exact Nat.le_refl _
          · exact Nat.not_lt.1 fun h3 => hc ⟨kn, h3⟩
      have hil : i < h.length := by omega
      have hjl : j < h.length := by omega
      have hs : ∀ k, (swapN h i j).getD k 0 = if k = j then h.getD i 0 else if k = i then h.getD j 0 else h.getD k 0 := fun k => swapN_at hil hjl
      split
      · rename_i hlt
        obtain ⟨r1, r2, r3, r4⟩ := ih n j (swapN h i j) (by omega) (by rw [swapN_length]; exact hn) (by omega) (fun k k0 kn kj => by
          rw [hs k, hs, if_neg kj]
          by_cases e1 : (k - 1) / 2 = i
          · rw [if_pos e1]
            by_cases e : k = j
            · rw [if_pos e]
              omega
            · rw [if_neg e, if_neg (by omega)]
              exact hmin k k0 kn e1
          · rw [if_neg e1, if_neg (fun e => e1 (by rw [e]; exact hjn.2.1))]
            by_cases e2 : k = i
            · rw [if_pos e2, e2]
              exact h2 j hjn.2.2.1 hjn.1 hjn.2.1 (by omega)
            · rw [if_neg e2]
              exact h1 k k0 kn e1) (fun k k0 kn kj j0 => by
          rw [hs k, hs, if_neg (by omega), if_pos hjn.2.1, if_neg (by omega), if_neg (by omega)]
          have := h1 k k0 kn (by omega)
          rw [kj] at this
          exact this)
        refine ⟨r1, fun a => by rw [r2 a, swapN_count hil hjl], by rw [r3, swapN_length], fun k hk => ?_⟩
        rw [r4 k hk, hs, if_neg (by omega), if_neg (by omega)]
      · rename_i hlt
        refine ⟨fun k k0 kn => ?_, fun _ => rfl, rfl, fun _ _ => rfl⟩
        by_cases e : (k - 1) / 2 = i
        · have := hmin k k0 kn e
          rw [e]
          omega
        · exact h1 k k0 kn e
/-- heap.Pop. -/
def pop2 (h : List Nat) : List Nat := downF (h.length - 1 + 1) (h.length - 1) (swapN h 0 (h.length - 1)) 0
def popF (h : List Nat) : List Nat := (pop2 h).take (h.length - 1)
theorem pop_law {h : List Nat} (hh : IsHp h) (h0 : 0 < h.length) : IsHp (popF h) ∧ (∀ a, h.count a = (popF h).count a + if h.getD 0 0 = a then 1 else 0) ∧ pop2 h = popF h ++ [h.getD 0 0] := by
  obtain ⟨n, hn⟩ : ∃ n, h.length - 1 = n := ⟨_, rfl⟩
  have hnl : n < h.length := by omega
  have hs : ∀ k, (swapN h 0 n).getD k 0 = if k = n then h.getD 0 0 else if k = 0 then h.getD n 0 else h.getD k 0 := fun k => swapN_at h0 hnl
  obtain ⟨r1, r2, r3, r4⟩ := down_law (n + 1) n 0 (swapN h 0 n) (by omega) (by rw [swapN_length]; omega) (by omega) (fun k k0 kn k1 => by
    rw [hs k, hs, if_neg (by omega), if_neg k1, if_neg (by omega), if_neg (by omega)]
    exact hh k k0 (by omega)) (fun k k0 kn k1 k2 => by omega)
  have hp2 : pop2 h = downF (n + 1) n (swapN h 0 n) 0 := by unfold pop2; rw [hn]
  rw [← hp2] at r1 r2 r3 r4
  have hlen : (pop2 h).length = n + 1 := by rw [r3, swapN_length]; omega
  have hlast : pop2 h = (pop2 h).take n ++ [h.getD 0 0] := by
    have h1 := r4 n (Nat.le_refl _)
    rw [hs, if_pos rfl, getDn (by omega)] at h1
    rw [← h1]
    conv => lhs; rw [← List.take_append_drop n (pop2 h), List.drop_eq_getElem_cons (show n < (pop2 h).length by omega), List.drop_of_length_le (by omega)]
  refine ⟨fun k k0 kl => ?_, fun a => ?_, by unfold popF; rw [hn]; exact hlast⟩
  · have hpl : (popF h).length = n := by unfold popF; rw [hn, List.length_take]; omega
    rw [hpl] at kl
    have at1 : ∀ k, k < n → (popF h).getD k 0 = (pop2 h).getD k 0 := fun k hk => by
      unfold popF
      rw [hn]
      simp only [List.getD_eq_getElem?_getD]
      rw [List.getElem?_take_of_lt hk]
    rw [at1 k kl, at1 _ (by omega)]
    exact r1 k k0 kl
  · rw [← swapN_count (i := 0) (j := n) h0 hnl a, ← r2 a]
    conv => lhs; rw [hlast]
    unfold popF
    rw [hn, List.count_append, List.count_singleton]
    simp only [beq_iff_eq]
end Go.Proofs.Ytcjohhminiedfaa
/- Cycle: heap.Pop. -/
namespace Go.Proofs.Ytcjohhminiedfaa
open Go.RowKit
set_option maxHeartbeats 2000000 in
set_option maxRecDepth 100000 in
theorem hpop_any {r : Nat} {sv : Value} {h : List Nat} {w : World} (hn : h.length ≤ 900000) (h0 : 0 < h.length) (hp : IsHp h) (hH : HpR r w sv h) : Calls Try.prog 36 #[rd r] w fun e w' => e = .returned (.iface 3 (.int .i64 ((h.getD 0 0 : Nat) : Int))) ∧ HpP r w sv (popF h) w' := by
  obtain ⟨_, _, hpp⟩ := pop_law hp h0
  have HPP := Lib.hid hpp
  clear hp hpp
  obtain ⟨sa, sc, rfl, _, h4⟩ := hH.row.slice
  obtain ⟨g, rfl, _⟩ := h4 h0
  clear h4
  obtain ⟨m, hm⟩ : ∃ m, h.length = m := ⟨_, rfl⟩
  obtain ⟨n, hn'⟩ : ∃ n, m - 1 = n := ⟨_, rfl⟩
  have hnm : n < m := by omega
  have hq : (m : Int) - 1 = (n : Int) := by omega
  have P2 : Hid (downF (n + 1) n (swapN h 0 n) 0 = popF h ++ [h.getD 0 0]) := by
    unfold Hid
    rw [← HPP.out, ← hn', ← hm]
    rfl
  have CS := swap_any (g := g) (c := sc) (i := 0) (j := n) (h := h) (w := w) (by omega) (by omega) (by omega) hH.row
  have HH := Lib.hid hH
  have HM := Lib.hid hm
  rw [hm] at CS hn h0 HH ⊢
  have HCS := Lib.hid CS
  clear CS hm hH hn' h0 HPP
  generalize h.getD 0 0 = x at *
  have e1 := cell_of_heap HH.out.blk 0
  have ML := meth_run meth_fact.1 e1
  have MS := meth_run meth_fact.2.2 e1
  unfold rd
  go_enter Try.func36, Try.ntmps36
  go_wp2_with fail
  refine (len_any _ _ _ _).mono ?_
  rintro e w1 ⟨rfl, rfl⟩
  clear ML
  go_wp2_with fail
  refine HCS.out.mono ?_
  rintro e w2 ⟨rfl, s1, s2, s3⟩
  have H2 := Lib.hid (HH.out.swapped s1 s2)
  have F2 := Lib.hid s2
  have CD := down_any (r := r) (i0 := 0) (g := g) (n := n) (m := m) (c := sc) (h := swapN h 0 n) (w := w2) hn hnm (Nat.zero_le _) (by rw [swapN_length]; exact HM.out) H2.out
  rw [P2.out] at CD
  have HCD := Lib.hid CD
  clear s1 s2 s3 CD HCS MS e1 H2 P2
  go_wp2_with fail
  refine HCD.out.mono ?_
  rintro e w3 ⟨⟨b, rfl⟩, d1, d2⟩
  have F3 : Hid (Fr (fun k => k = g) w w3) := F2.out.trans d2 fun _ _ h => h
  have hpl : (popF h ++ [x]).length = m := by
    have := d1.row.1
    have h5 := d1.row.slice
    obtain ⟨_, _, e, _⟩ := h5
    injection e with _ e _
    exact e.symm
  have CP := Lib.hid (rpop_any (x := x) (h := popF h) (by simp at hpl; omega) d1)
  clear d1 d2 F2 HCD hpl
  go_wp2_with fail
  refine CP.out.mono ?_
  rintro e w4 ⟨rfl, sv4, q1, q2, q3⟩
  have FIN : Hid (HpP r w (.slice (some ⟨g, 0, none⟩) m sc) (popF h) w4) := ⟨sv4, q1, (F3.out.mono (S' := fun k => k = r ∨ (Value.slice (some ⟨g, 0, none⟩) m sc).ownBlock = some k) fun k _ e => .inr (by rw [e]; rfl)).trans q2 fun _ _ h => h, fun k e => by
    rcases q3 k e with h | h
    · exact .inl h
    · exact .inr (Nat.le_trans F3.out.size h)⟩
  clear q1 q2 q3 CP F3
  go_wp2_with fail
  refine bodyPost_ret (v := .iface 3 (.int .i64 (x : Int))) (by simp [results, Try.results36, go_sem]) rfl ⟨rfl, FIN.out⟩
end Go.Proofs.Ytcjohhminiedfaa
