/- Cycle: away. -/
import Derived.Test.YtcjohhminiedfaaQC21P
import Derived.Test.YtcjohhminiedfaaQC21Edge
namespace Go.Proofs.Ytcjohhminiedfaa
open Go.RowKit
def adjE (E : List (Nat × Nat)) (a b : Nat) : Bool := E.contains (a, b)
theorem adjE_mem {E : List (Nat × Nat)} {a b : Nat} : adjE E a b = true ↔ (a, b) ∈ E := by simp [adjE]
def zv (x : Int) : Value := .int .i64 x
def fillL (n k : Nat) : List Int := List.replicate k (-1) ++ List.replicate (n - k) 0
theorem fillL_zero (n : Nat) : fillL n 0 = List.replicate n 0 := by simp [fillL]
theorem fillL_all (n : Nat) : fillL n n = List.replicate n (-1) := by simp [fillL]
theorem fillL_at {n k i : Nat} (hi : i < n) (hk : k ≤ n) : (fillL n k)[i]? = some (if i < k then -1 else 0) := by
  unfold fillL
  by_cases h : i < k
  · rw [List.getElem?_append_left (by simpa using h), List.getElem?_replicate, if_pos h, if_pos h]
  · rw [List.getElem?_append_right (by simp; omega), List.getElem?_replicate, if_pos (by simp; omega), if_neg h]
theorem fillL_len {n k : Nat} (hk : k ≤ n) : (fillL n k).length = n := by simp [fillL]; omega
theorem fillL_succ {n k : Nat} (hk : k < n) : (fillL n k).set k (-1) = fillL n (k + 1) := by
  apply List.ext_getElem?
  intro i
  by_cases hi : i < n
  · rw [fillL_at hi (by omega), List.getElem?_set]
    by_cases e : k = i
    · subst e
      rw [if_pos rfl, if_pos (by rw [fillL_len (by omega)]; exact hk), if_pos (by omega)]
    · rw [if_neg e, fillL_at hi (by omega)]
      by_cases h : i < k
      · rw [if_pos h, if_pos (by omega)]
      · rw [if_neg h, if_neg (by omega)]
  · rw [List.getElem?_eq_none (by rw [List.length_set, fillL_len (by omega)]; omega), List.getElem?_eq_none (by rw [fillL_len (by omega)]; omega)]
def FarM (w : World) (bf : Nat) (far : List Int) : Prop := w.heap[bf]? = some (.cells (far.map zv).toArray 3)
theorem FarM.at {w : World} {bf : Nat} {far : List Int} (h : FarM w bf far) {y : Nat} {v : Int} (hy : far[y]? = some v) : w.cell? ⟨bf, y, none⟩ = some (.int .i64 v) := by
  rw [cell_of_heap h]; simp [hy, zv]
theorem FarM.put {w : World} {bf : Nat} {far : List Int} (h : FarM w bf far) (y : Nat) (v : Int) : FarM (w.setCell ⟨bf, y, none⟩ (.int .i64 v)) bf (far.set y v) := by
  unfold FarM
  rw [heap_setCell_at h]
  simp [List.map_set, zv]
theorem FarM.keep {w w' : World} {bf : Nat} {far : List Int} (h : FarM w bf far) (hk : w'.heap[bf]? = w.heap[bf]?) : FarM w' bf far := hk.trans h
theorem IR.new {B : Nat} {w : World} (l : List Nat) (hB : B ≤ w.heap.size) (hl : l.length ≤ 1000000) : IR B (w.alloc (.cells (l.map iv).toArray 3)) (.slice (some ⟨w.heap.size, 0, none⟩) l.length l.length) l :=
  ⟨by simp, .inr ⟨w.heap.size, l.length, _, rfl, hB, heap_alloc_new w _, Nat.le_refl _, by unfold maxLen; omega, by simp, by
    rw [Nat.mul_one, List.take_of_length_le (by simp)]⟩⟩
/-- A number behind a row of the call's own. -/
theorem IR.pushed {B : Nat} {w' : World} {v' : Value} {l : List Nat} {y : Nat} (hown : w'.ownsRow B 3 1 v' (l.length + 1) (l.map iv ++ [iv y])) : IR B w' v' (l ++ [y]) := by
  unfold IR
  rw [List.length_append, List.map_append]
  exact hown
set_option maxHeartbeats 4000000 in
set_option maxRecDepth 100000 in
theorem away_any {w : World} {G : Gb} {n x : Nat} {E : List (Nat × Nat)} (hok : EOk n E) (hn : n ≤ 100000) (hx : x < n) (h : GrR w G (tos n E) (frs n E)) (hG : ∀ k, G.has k → k < w.heap.size) :
    Calls Try.prog 26 #[G.pv, .int .i64 (x : Int)] w fun e w' => ∃ (bf : Nat) (far : List Int), e = .returned (.slice (some ⟨bf, 0, none⟩) n n) ∧ w.heap.size ≤ bf ∧ FarM w' bf far ∧ far.length = n ∧ Dist n (adjE E) x (fun y => far.getD y (-1)) ∧ Below w.heap.size w w' := by
  have CS := Lib.hid (size_any (n := n) (.inr ⟨h, tos_len n E, frs_len n E⟩))
  have HG := Lib.hid hG
  have HGR := Lib.hid h
  have HOK := Lib.hid hok
  obtain ⟨K, hK⟩ : ∃ K, w.heap.size = K := ⟨_, rfl⟩
  have HK := Lib.hid hK
  rw [hK] at HG
  rw [hK]
  have hptr := h.ptr
  rw [hptr] at CS ⊢
  clear hptr hG h hok
  go_enter Try.func26, Try.ntmps26
  go_wp2_with fail
  refine CS.out.mono ?_
  rintro e w1 ⟨rfl, hb1⟩
  have KW : K ≤ w1.heap.size := by rw [← HK.out]; exact hb1.size
  have HB1 : Hid (Below K w w1) := by rw [← HK.out]; exact hb1
  have MK := mk3 n (by omega)
  clear hb1 CS hK
  go_wp2_with fail
  refine abs_world ?_
  intro W2 hW2
  have HF2 : Hid (FarM W2 w1.heap.size (fillL n 0)) := by
    unfold Hid FarM
    rw [hW2, fillL_zero, List.map_replicate, ← List.toArray_replicate]
    exact heap_alloc_new _ _
  have HB2 : Hid (Below K w W2) := by
    rw [hW2]
    exact HB1.out.alloc KW _
  obtain ⟨bf, hbf⟩ : ∃ bf, w1.heap.size = bf := ⟨_, rfl⟩
  rw [hbf] at HF2 KW ⊢
  clear hW2 MK HB1 hbf
  go_loopg [16] n (fun g i wr => ∃ (k : Nat), i = .int .i64 k ∧ g = n - k ∧ k ≤ n ∧ Hid (FarM wr bf (fillL n k)) ∧ Hid (Below K w wr))
  case atStart => exact ⟨0, rfl, rfl, Nat.zero_le _, HF2, HB2⟩
  case round =>
    obtain ⟨k, rfl, rfl, hk, hF, hB⟩ := hrel
    by_cases hlt : k < n
    · have c1 := hF.out.at (fillL_at hlt hk)
      have y1 := frozen_of_heap hF.out k
      have z1 := lt_of_heap hF.out
      have j1 : (0 : Int) ≤ (k : Int) := by omega
      have j2 : (k : Int) < (n : Int) := by omega
      go_upto_region 6 with fail
      refine abs_world ?_
      intro W3 hW3
      have HF3 : Hid (FarM W3 bf (fillL n (k + 1))) := by
        rw [hW3, ← fillL_succ hlt]
        exact hF.out.put k (-1)
      have HB3 : Hid (Below K w W3) := by
        rw [hW3]
        exact hB.out.setCell (p := ⟨bf, k, none⟩) KW _
      clear hW3 hF hB c1 y1 z1
      go_wp2_with fail
      go_roundg (n - (k + 1))
      case measure => omega
      case rel => exact ⟨k + 1, by go_num, rfl, by omega, HF3, HB3⟩
    · have hkn : k = n := by omega
      rw [hkn, fillL_all] at hF
      have c1 := hF.out.at (y := x) (v := -1) (by rw [List.getElem?_replicate, if_pos hx])
      have y1 := frozen_of_heap hF.out x
      have z1 := lt_of_heap hF.out
      have j1 : (0 : Int) ≤ (x : Int) := by omega
      have j2 : (x : Int) < (n : Int) := by omega
      clear hkn HF2 HB2
      go_wp2_with fail
      refine abs_world ?_
      intro W4 hW4
      have HF4 : Hid (FarM W4 bf ((List.replicate n (-1)).set x 0)) := by
        rw [hW4]
        exact (hF.out.put x 0).keep (Below.heap_alloc _ _ _ (by simpa using z1))
      have HL4 : Hid (IR (bf + 1) W4 (.slice (some ⟨wr.heap.size, 0, none⟩) 1 1) [x]) := by
        rw [hW4]
        have := IR.new (B := bf + 1) (w := wr.setCell ⟨bf, x, none⟩ (.int .i64 0)) [x] (by simp; omega) (by simp)
        rw [World.size_setCell] at this
        exact this
      have HB4 : Hid (Below K w W4) := by
        rw [hW4]
        exact (hB.out.setCell (p := ⟨bf, x, none⟩) KW _).alloc (by simp; omega) _
      have HS4 := Lib.hid (Bfs.start (adjE E) hx)
      clear hW4 hF hB c1 y1 z1 j1 j2 hlt
      rename World => w5
      go_loopg [7, 8] n (fun g lv s8 wr => ∃ (i : Nat) (far : List Int) (l : List Nat), s8 = .int .i64 (i : Int) ∧ g = n - i ∧ i ≤ l.length ∧ Hid (Bfs n (adjE E) x i [] far l) ∧ Hid (FarM wr bf far) ∧ Hid (IR (bf + 1) wr lv l) ∧ Hid (Below K w wr))
      case atStart => exact ⟨0, _, [x], rfl, rfl, by simp, HS4, HF4, HL4, HB4⟩
      case round =>
        obtain ⟨i, far, l, rfl, rfl, hil, hS, hF, hL, hB⟩ := hrel
        obtain ⟨la, lc, rfl, hlc, hls⟩ := hL.out.slice
        have hln := hS.out.len_le'
        obtain ⟨m, hm⟩ : ∃ m, l.length = m := ⟨_, rfl⟩
        by_cases hlt : i < m
        · obtain ⟨p, hp⟩ : ∃ p, l[i]? = some p := ⟨_, List.getElem?_eq_getElem (by omega)⟩
          obtain ⟨lg, rfl, _, zl, _, hcl⟩ := hls (by omega)
          have cl := hcl i p hp
          have hpn : p < n := hS.out.lt p (List.mem_of_getElem? hp)
          obtain ⟨u, hu⟩ : ∃ u, far[p]? = some u := ⟨_, List.getElem?_eq_getElem (by rw [hS.out.len]; exact hpn)⟩
          have hu0 : 0 ≤ u := (hS.out.mem p u hu).2 (List.mem_of_getElem? hp)
          have hGR : GrR wr G (tos n E) (frs n E) := HGR.out.keep fun k hk _ => hB.out.block k (HG.out k hk)
          obtain ⟨hmax, fa, fc, rf, rfc, cp, zt, ct, hrow⟩ := hGR.rowF HG.out (x := p) (by rw [frs_len]; exact hpn)
          rw [frs_len] at cp
          have zp := lt_of_heap hGR.blk
          obtain ⟨row, hrw⟩ : ∃ row, (frs n E).getD p [] = row := ⟨_, rfl⟩
          have MR : Hid (∀ y, y ∈ row ↔ adjE E y p = true) := fun y => by rw [← hrw, mem_frs HOK.out, adjE_mem]
          have RN : Hid (∀ y ∈ row, y < n) := fun y hy => by
            have := (MR.out y).1 hy
            rw [adjE_mem] at this
            exact (HOK.out.lt _ this).1
          obtain ⟨q, hq⟩ : ∃ q, row.length = q := ⟨_, rfl⟩
          rw [hrw] at ct hmax hrow
          rw [hq] at ct hmax
          unfold maxLen at hmax
          have HQ := Lib.hid hq
          have HROW := Lib.hid hrow
          have HP := Lib.hid hp
          have HU := Lib.hid hu
          rw [hm] at hil hlc hln ⊢
          have HM := Lib.hid hm
          have j1 : (0 : Int) ≤ (i : Int) := by omega
          have j2 : (i : Int) < (m : Int) := by omega
          have j3 : (0 : Int) ≤ (p : Int) := by omega
          have j4 : (p : Int) < (n : Int) := by omega
          clear hGR hq hrow hp hu hrw hm hls hcl
          go_wp2_with fail
          refine wp_region_mix [0, 1, 2, 3, 4, 5, 6, 7, 8, 9, 10, 11] [] [] (Below wr.heap.size wr) (by kernel_rfl) (by kernel_rfl) (Below.refl _ _).drew ?_
          iterate 12 (first | (apply first_step; (rw [List.getElem?_toArray]; (repeat rw [List.getElem?_cons_succ]); rw [List.getElem?_cons_zero]); rfl; (intro W hB; have hc := bcellB hB; go_simp; (first | done | rfl)); go_frame) | (apply first_skip; (rw [List.getElem?_toArray]; (repeat rw [List.getElem?_cons_succ]); rw [List.getElem?_cons_zero]); rfl; go_frame))
          refine first_done ?_
          refine tail_done ?_
          refine abs_exit ?_
          intro W6 hW6
          have HF6 : Hid (FarM W6 bf far) := by rw [hW6]; exact hF.out
          have HL6 : Hid (IR (bf + 1) W6 (.slice (some ⟨lg, 0, none⟩) m lc) l) := by rw [hW6, ← HM.out]; exact ⟨hL.out.1, hL.out.2⟩
          have HB6 : Hid (Below K w W6) := by rw [hW6]; exact hB.out.drew
          have HB7 : Below K wr W6 := by rw [hW6]; exact (Below.refl _ _).drew
          have HROW6 : Hid (RowAt K rf row W6) := fun W hW => HROW.out W (HB7.trans hW)
          have HS6 : Hid (Bfs n (adjE E) x i (row.take 0) far l) := hS
          clear hW6 hF hL hB hS cp zt ct zp cl zl HB7 HROW
          go_wp2_with fail
          clear j1 j2
          rename World => wo
          go_loopg [7, 45] q (fun g lv s45 wr2 => ∃ (b : Nat) (far : List Int) (l : List Nat), s45 = .int .i64 (b : Int) ∧ g = q - b ∧ b ≤ q ∧ Hid (Bfs n (adjE E) x i (row.take b) far l) ∧ Hid (l[i]? = some p) ∧ Hid (FarM wr2 bf far) ∧ Hid (IR (bf + 1) wr2 lv l) ∧ Hid (Below K w wr2) ∧ Hid (Below K wo wr2))
          case atStart => exact ⟨0, far, l, rfl, rfl, Nat.zero_le _, HS6, HP, HF6, by rw [← HM.out]; rw [← HM.out] at HL6; exact HL6, HB6, Below.refl _ _⟩
          case round =>
            obtain ⟨b, far, l, rfl, rfl, hb, hS, hP, hF, hL, hB, hB2⟩ := hrel
            obtain ⟨la, lc, rfl, hlc, hls⟩ := hL.out.slice
            by_cases hlt2 : b < q
            · obtain ⟨y, hy⟩ : ∃ y, row[b]? = some y := ⟨_, List.getElem?_eq_getElem (by rw [HQ.out]; exact hlt2)⟩
              obtain ⟨rg, rfl, zr, cr⟩ := HROW6.out wr hB2.out b y hy
              have hyn := RN.out y (List.mem_of_getElem? hy)
              obtain ⟨v, hv⟩ : ∃ v, far[y]? = some v := ⟨_, List.getElem?_eq_getElem (by rw [hS.out.len]; exact hyn)⟩
              obtain ⟨u, hu⟩ : ∃ u, far[p]? = some u := ⟨_, List.getElem?_eq_getElem (by rw [hS.out.len]; exact hpn)⟩
              have c1 := hF.out.at hv
              have c2 := hF.out.at hu
              have z1 := lt_of_heap hF.out
              have y1 := frozen_of_heap hF.out y
              have TK : Hid (row.take (b + 1) = row.take b ++ [y]) := by
                unfold Hid
                rw [List.take_add_one, hy]
                rfl
              have j1 : (0 : Int) ≤ (b : Int) := by omega
              have j2 : (b : Int) < (q : Int) := by omega
              have j5 : (0 : Int) ≤ (y : Int) := by omega
              have j6 : (y : Int) < (n : Int) := by omega
              by_cases hv0 : v < 0
              · have hvb : decide (v < 0) = true := by simpa using hv0
                have hln := hS.out.len_le'
                have hul := hS.out.up p u hu
                have hu0 : 0 ≤ u := (hS.out.mem p u hu).2 (List.mem_of_getElem? hP.out)
                have HS2 : Hid (Bfs n (adjE E) x i (row.take (b + 1)) (far.set y (u + 1)) (l ++ [y])) := by
                  rw [TK.out]
                  exact hS.out.add hP.out hu hv hv0 hyn ((MR.out y).1 (List.mem_of_getElem? hy))
                have hil2 : i < l.length := (List.getElem?_eq_some_iff.1 hP.out).1
                obtain ⟨lg, rfl, hlB, zl, _, hcl⟩ := hls (by omega)
                have cl := hcl i p hP.out
                have HP2 : Hid ((l ++ [y])[i]? = some p) := by
                  unfold Hid
                  rw [List.getElem?_append_left hil2]
                  exact hP.out
                obtain ⟨m2, hm2⟩ : ∃ m, l.length = m := ⟨_, rfl⟩
                rw [hm2] at hlc hln hul hil2 ⊢
                have HL := Lib.hid hL.out
                rw [hm2] at HL
                have HM2 := Lib.hid hm2
                have k1 : (0 : Int) ≤ (i : Int) := by omega
                have k2 : (i : Int) < (m2 : Int) := by omega
                clear hv hu hy hm2 hv0 hcl hls hS hP hL
                go_upto_region 17 with fail
                refine abs_world ?_
                intro W8 hW8
                have HF8 : Hid (FarM W8 bf (far.set y (u + 1))) := by
                  rw [hW8]
                  exact hF.out.put y (u + 1)
                have HL8 : Hid (W8.ownsRow (bf + 1) 3 1 (.slice (some ⟨lg, 0, none⟩) m2 lc) m2 (l.map iv)) := by
                  rw [hW8]
                  have h1 : IR (bf + 1) (wr.setCell ⟨bf, y, none⟩ (.int .i64 (u + 1))) (.slice (some ⟨lg, 0, none⟩) m2 lc) l := HL.out.block fun k e _ => set_other k fun e2 => by
                    have := (HL.out.lt k e).1
                    change k = bf at e2
                    omega
                  unfold IR at h1
                  rw [HM2.out] at h1
                  exact h1
                have HB8 : Hid (Below K w W8) := by
                  rw [hW8]
                  exact hB.out.setCell (p := ⟨bf, y, none⟩) KW _
                have HB9 : Hid (Below K wo W8) := by
                  rw [hW8]
                  exact hB2.out.setCell (p := ⟨bf, y, none⟩) KW _
                have hz8 := lt_of_heap HF8.out
                clear hW8 hF hB hB2 HL c1 c2 y1 z1 cl zl cr zr
                obtain ⟨i0, hi, hz0, hz1, hz2⟩ := info_parts info3
                have HI3 := Lib.hid (⟨hi, hz0, hz1, hz2⟩ : _ ∧ _ ∧ _ ∧ _)
                clear hi hz0 hz1 hz2
                have PU : Hid (∀ (v' : Value) (w' : World), w'.ownsRow (bf + 1) 3 1 v' (m2 + 1) (l.map iv ++ [iv y]) → (W8.alloc (.cells #[.int .i64 (y : Int)] 3)).grownBy w' (Value.slice (some ⟨lg, 0, none⟩) m2 lc).ownBlock → FarM w' bf (far.set y (u + 1)) ∧ IR (bf + 1) w' v' (l ++ [y]) ∧ Below K w w' ∧ Below K wo w') := fun v' w' h1 h2 => by
                  have hbw : Below (bf + 1) W8 w' := ⟨h2.os, h2.tape, h2.output, Nat.le_trans (by simp) h2.size, fun k hk => (h2.block k (by simp; omega) (fun e => by
                    cases e
                    have h9 := (World.ownsRow.lt HL8.out lg rfl).1
                    have hk' : lg < bf + 1 := hk
                    omega)).trans (Below.heap_alloc _ _ _ (by omega))⟩
                  refine ⟨HF8.out.keep (hbw.block bf (Nat.lt_succ_self _)), IR.pushed (by rw [HM2.out]; exact h1), HB8.out.trans (hbw.mono (by omega)), HB9.out.trans (hbw.mono (by omega))⟩
                go_upto_region 18 with (at_builtin; refine wpList_append_own_at _ rfl _ _ 31 rfl (bf + 1) 3 i0 (.int .i64 0) 1 8 Try.underlying31 HI3.out.1 HI3.out.2.1 HI3.out.2.2.1 HI3.out.2.2.2 rfl (by decide) (.slice (some ⟨lg, 0, none⟩) m2 lc) m2 (l.map iv) rfl (World.ownsRow.alloc HL8.out _) ⟨W8.heap.size, 0, none⟩ 1 1 [iv y] rfl rfl (cells_new _ #[.int .i64 (y : Int)] 3) (by simp [iv, Value.oneCell']) (by unfold maxLen; omega) (by omega) (by simp; omega) ?_; intro v9 w9 hown hgrow _ _; obtain ⟨va, vc, rfl, _⟩ := own_slice hown; obtain ⟨p1, p2, p3, p4⟩ := PU.out _ w9 hown hgrow; have P1 := Lib.hid p1; have P2 := Lib.hid p2; have P3 := Lib.hid p3; have P4 := Lib.hid p4; clear hown hgrow p1 p2 p3 p4)
                go_wp2_with fail
                go_roundg (q - (b + 1))
                case measure => omega
                case rel => exact ⟨b + 1, _, _, by go_num, rfl, by omega, HS2, HP2, P1, P2, P3, P4⟩
              · have hvb : decide (v < 0) = false := by simpa using hv0
                have HS2 : Hid (Bfs n (adjE E) x i (row.take (b + 1)) far l) := by
                  rw [TK.out]
                  exact hS.out.skip hP.out hu hv (by omega)
                clear hv hu hy hv0 hls hS
                go_wp2_with fail
                clear c1 c2 y1 z1 cr zr
                go_roundg (q - (b + 1))
                case measure => omega
                case rel => exact ⟨b + 1, far, l, by go_num, rfl, by omega, HS2, hP, hF, hL, hB, hB2⟩
            · have HS2 : Hid (Bfs n (adjE E) x (i + 1) [] far l) := by
                have h1 := hS.out
                rw [List.take_of_length_le (by rw [HQ.out]; omega)] at h1
                exact h1.next hP.out fun y _ hy => (MR.out y).2 hy
              have hil2 : i + 1 ≤ l.length := (List.getElem?_eq_some_iff.1 hP.out).1
              have hln := hS.out.len_le'
              clear hS hP hls hB2 HROW6
              go_wp2_with fail
              go_roundg (n - (i + 1))
              case measure => omega
              case rel => exact ⟨i + 1, far, l, by go_num, rfl, hil2, HS2, hF, hL, hB⟩
        · have HD := Lib.hid (hS.out.end (by omega))
          rw [hm]
          clear hls
          go_wp2_with fail
          refine bodyPost_ret (v := .slice (some ⟨bf, 0, none⟩) n n) (by simp [results, Try.results26, go_sem]) rfl ⟨bf, far, rfl, KW, hF.out, hS.out.len, HD.out, hB.out⟩
end Go.Proofs.Ytcjohhminiedfaa
