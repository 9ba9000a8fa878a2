/- CycleTurned: the walk. -/
import Derived.Test.YtcjohhminiedfaaC21TurnedP
import Derived.Test.YtcjohhminiedfaaC21MoreQ
namespace Go.Proofs.Ytcjohhminiedfaa
open Go.RowKit
/-- A map that has these pairs, and no others. -/
def SetP (w : World) (mb : Nat) (l : List (Nat × Nat)) : Prop := MapIs w mb encP Value.bool (mE l)
theorem SetP.new (w : World) : SetP (w.alloc (.map #[] 0)) w.heap.size [] := MapIs.new w _ _
theorem SetP.lt {w : World} {mb : Nat} {l : List (Nat × Nat)} (h : SetP w mb l) : mb < w.heap.size := MapIs.lt h
theorem SetP.keep {w w' : World} {mb : Nat} {l : List (Nat × Nat)} (h : SetP w mb l) (hk : w'.heap[mb]? = w.heap[mb]?) : SetP w' mb l := MapIs.of_block h hk
theorem SetP.put {w : World} {mb : Nat} {l : List (Nat × Nat)} {a b : Nat} (h : SetP w mb l) (hn : (a, b) ∉ l) : ∃ w', (Instr.mapUpdate 36 (.map (some mb)) (.agg #[.int .i64 (a : Int), .int .i64 (b : Int)]) (.bool true)).run Try.prog w = .ok () w' ∧ SetP w' mb (l ++ [(a, b)]) ∧ Fr (fun k => k = mb) w w' ∧ w'.heap.size = w.heap.size := by
  obtain ⟨w', u1, u2, u3, u4⟩ := MapIs.upd place_fits h Try.underlying36 (kE (a, b)) true
  rw [putL_mE hn] at u2
  exact ⟨w', u1, u2, u3, u4⟩
theorem SetP.get {w : World} {mb : Nat} {l : List (Nat × Nat)} (h : SetP w mb l) (a b : Nat) : (Instr.lookup 36 (.map (some mb)) (.agg #[.int .i64 (a : Int), .int .i64 (b : Int)]) false).run Try.prog w = .ok (.bool (decide ((a, b) ∈ l))) w := by
  have hl := MapIs.look1 place_fits h Try.underlying36 (zero4 w) (kE (a, b))
  rw [getL_mE] at hl
  refine hl.trans ?_
  by_cases e : (a, b) ∈ l
  · rw [if_pos e, decide_eq_true e]
    rfl
  · rw [if_neg e, decide_eq_false e]
    rfl
theorem SetP.len {w : World} {mb : Nat} {l : List (Nat × Nat)} (h : SetP w mb l) : ∃ es c, w.heap[mb]? = some (.map es c) ∧ es.size = l.length := by
  obtain ⟨es, c, h1, h2, _⟩ := h
  have := congrArg List.length h2
  simp [mE] at this
  exact ⟨es, c, h1, this⟩
theorem mod31' {v : Int} (h0 : 0 ≤ v) : ∃ n : Nat, n ≤ 30 ∧ v.tmod 31 = (n : Int) := by
  obtain ⟨n, h1, _, h2⟩ := mod31 h0
  exact ⟨n, h1, h2⟩
set_option maxHeartbeats 8000000 in
set_option maxRecDepth 100000 in
theorem turned_law {v : Int} (v0 : 0 ≤ v) (v1 : v ≤ 255) {w : World} {a : Option Addr} {cap : Nat} {l : List (Int × Int)} (hE : EdAt w a l) :
    Calls Try.prog 8 #[.int .u8 v, .slice a l.length cap] w fun e w' => e = .returned (.bool true) ∧ Below w.heap.size w w' := by
  obtain ⟨n, hn, hmod⟩ := mod31' v0
  have hwr : IntKind.i64.wrap v = v := by rw [IntKind.wrap_i64]; omega
  have hmm := @run_makeMap Try.prog
  have HE := Lib.hid hE
  obtain ⟨m, hm⟩ : ∃ m, l.length = m := ⟨_, rfl⟩
  have HM := Lib.hid hm
  rw [hm]
  clear hm hE
  go_enter Try.func8, Try.ntmps8
  go_wp2_with fail
  refine (awake_any w).mono ?_
  rintro e w1 ⟨rfl, hb1⟩
  have HB1 := Lib.hid hb1
  clear hb1
  by_cases h1 : 100 < m
  · have b1 : decide ((100 : Int) < (m : Int)) = true := by simp; omega
    go_wp2_with fail
    refine bodyPost_ret (v := .bool true) (by simp [results, Try.results8, go_sem]) rfl ⟨rfl, HB1.out⟩
  have b1 : decide ((100 : Int) < (m : Int)) = false := by simp; omega
  obtain ⟨E, hEE⟩ : ∃ E, laidE n false l = E := ⟨_, rfl⟩
  obtain ⟨F, hFF⟩ : ∃ F, laidE n true l = F := ⟨_, rfl⟩
  have HOK : Hid (EOk n E) := by rw [← hEE]; exact laidE_ok n false l
  have HOK2 : Hid (EOk n F) := by rw [← hFF]; exact laidE_ok n true l
  have HT : Hid (∀ a b, (a, b) ∈ E ↔ (b, a) ∈ F) := by rw [← hEE, ← hFF]; exact laidE_turn n l
  have HR : Hid (∀ x y, Rch (tos n E) x y ↔ Rch (tos n F) y x) := fun x y => ⟨rch_turn HOK.out HOK2.out fun a b => (HT.out a b).1, rch_turn HOK2.out HOK.out fun a b => (HT.out b a).2⟩
  have C3 := Lib.hid (laid_any (w := w1) (n := n) (cap := cap) (t := false) (by omega) (by rw [HM.out]; omega) ((HE.out.below HB1.out)))
  rw [HM.out, hEE] at C3
  have C4 := Lib.hid (fun w3 (hb : Below w1.heap.size w1 w3) => laid_any (w := w3) (n := n) (cap := cap) (t := true) (by omega) (by rw [HM.out]; omega) ((HE.out.below HB1.out).below (hb.mono (by exact Nat.le_refl _))))
  rw [HM.out, hFF] at C4
  clear hEE hFF
  go_wp2_with fail
  clear hwr hmod
  refine C3.out.mono ?_
  rintro e w3 ⟨G1, rfl, hG1, hb3⟩
  obtain ⟨p1, hp1⟩ : ∃ p, G1.pv = .pointer (some p) := ⟨_, hG1.gr.ptr⟩
  have HP1 := Lib.hid hp1
  have HG1 := Lib.hid hG1
  have HB3 := Lib.hid (HB1.out.trans (hb3.mono HB1.out.size))
  have C4 := Lib.hid (C4.out w3 hb3)
  have hs3 := HB3.out.size
  rw [hp1]
  clear hp1 hG1 hb3 C3 HB1
  go_wp2_with fail
  refine C4.out.mono ?_
  rintro e w4 ⟨G2, rfl, hG2, hb4⟩
  obtain ⟨p2, hp2⟩ : ∃ p, G2.pv = .pointer (some p) := ⟨_, hG2.gr.ptr⟩
  have HP2 := Lib.hid hp2
  have HG2 := Lib.hid hG2
  have HG1 : Hid (GrE w1.heap.size w4 G1 n E) := HG1.out.below hb4
  have HB4 := Lib.hid (HB3.out.trans (hb4.mono hs3))
  have C5 := parts_E HOK.out (by omega) HG1.out
  rw [hp2]
  rw [HP1.out] at C5
  have C5 := Lib.hid C5
  have hs4 := HB4.out.size
  clear hp2 hG2 hb4 C4 HB3
  go_wp2_with fail
  refine C5.out.mono ?_
  rintro e w5 ⟨v5, vs5, L5, rfl, hV5, hL5, hb5⟩
  have HG1 : Hid (GrE w1.heap.size w5 G1 n E) := HG1.out.below hb5
  have HG2 : Hid (GrE w3.heap.size w5 G2 n F) := HG2.out.below hb5
  have HB5 := Lib.hid (HB4.out.trans (hb5.mono hs4))
  have HV5 : Hid (RR 0 w5 v5 vs5 L5) := ⟨own_base hV5.row (Nat.zero_le _), fun i l hl => by
    obtain ⟨u, h1, h2⟩ := hV5.each i l hl
    exact ⟨u, h1, h2.base (Nat.zero_le _)⟩⟩
  have HL5 := Lib.hid hL5
  have C6 := parts_E HOK2.out (by omega) HG2.out
  rw [HP2.out] at C6
  have C6 := Lib.hid C6
  have hs5 := HB5.out.size
  clear hV5 hL5 hb5 C5 HB4
  go_wp2_with fail
  refine C6.out.mono ?_
  rintro e w6 ⟨v6, vs6, L6, rfl, hV6, hL6, hb6⟩
  have hLL : L5 = L6 := parts_turn (HL5.out.pl (tos_ok HOK.out)) (hL6.pl (tos_ok HOK2.out)) HR.out
  subst hLL
  have HG1 : Hid (GrE w1.heap.size w6 G1 n E) := HG1.out.below hb6
  have HG2 : Hid (GrE w3.heap.size w6 G2 n F) := HG2.out.below hb6
  have HB6 := Lib.hid (HB5.out.trans (hb6.mono hs5))
  have HV5 : Hid (RR 0 w6 v5 vs5 L5) := HV5.out.below hb6
  have HV6 : Hid (RR 0 w6 v6 vs6 L5) := ⟨own_base hV6.row (Nat.zero_le _), fun i l hl => by
    obtain ⟨u, h1, h2⟩ := hV6.each i l hl
    exact ⟨u, h1, h2.base (Nat.zero_le _)⟩⟩
  have hqm : L5.length ≤ maxLen := own_max HV5.out.row
  obtain ⟨a5, c5, e, _, h5⟩ := HV5.out.slice
  subst e
  obtain ⟨a6, c6, e, _, h6⟩ := HV6.out.slice
  subst e
  obtain ⟨q, hq⟩ : ∃ q, L5.length = q := ⟨_, rfl⟩
  have HQ := Lib.hid hq
  have H5 := Lib.hid h5
  have H6 := Lib.hid h6
  have bq : ((q : Int) != (q : Int)) = false := by simp
  rw [hq] at hqm ⊢
  unfold maxLen at hqm
  have hs6 := HB6.out.size
  clear hV6 hL6 hb6 C6 HB5 HL5 hq h5 h6 HV5 HV6
  go_wp2_with fail
  go_loopg [44] q (fun g s44 wr => ∃ (k : Nat), s44 = .int .i64 (k : Int) ∧ g = q - k ∧ k ≤ q ∧ Hid (Below w6.heap.size w6 wr))
  case atStart => exact ⟨0, rfl, rfl, Nat.zero_le _, Below.refl _ _⟩
  case round =>
    obtain ⟨k, rfl, rfl, hk, hB⟩ := hrel
    by_cases hlt : k < q
    · obtain ⟨row, hrow⟩ : ∃ row, L5[k]? = some row := ⟨_, List.getElem?_eq_getElem (by rw [HQ.out]; exact hlt)⟩
      obtain ⟨g5, rfl, z5, ra, rc, _, cr, hr5⟩ := H5.out k row hrow
      obtain ⟨g6, rfl, z6, sa, sc, _, cs, hr6⟩ := H6.out k row hrow
      have cr' := (hB.out.cell (p := ⟨g5, k, none⟩) z5).trans cr
      have cs' := (hB.out.cell (p := ⟨g6, k, none⟩) z6).trans cs
      have z5' := Nat.lt_of_lt_of_le z5 hB.out.size
      have z6' := Nat.lt_of_lt_of_le z6 hB.out.size
      have i1 : (0 : Int) ≤ (k : Int) := by omega
      have i2 : (k : Int) < (q : Int) := by omega
      have CS := Lib.hid (same_any (w := wr.drew) (l := row) (m := row) ((hr5.base (Nat.zero_le _)).below hB.out.drew) ((hr6.base (Nat.zero_le _)).below hB.out.drew))
      have hd : decide (row = row) = true := by simp
      rw [hd] at CS
      clear hd cr cs z5 z6 hr5 hr6 hrow
      go_wp2_with fail
      refine wp_region_mix [0, 1, 2, 3, 4, 5, 6, 7] [8, 9] [8, 9] (Below wr.heap.size wr) (by kernel_rfl) (by kernel_rfl) (Below.refl _ _).drew ?_
      iterate 8 (first | (apply first_step; (rw [List.getElem?_toArray]; (repeat rw [List.getElem?_cons_succ]); rw [List.getElem?_cons_zero]); rfl; (intro W hB; have hc := bcellB hB; go_simp; (first | done | rfl)); go_frame) | (apply first_skip; (rw [List.getElem?_toArray]; (repeat rw [List.getElem?_cons_succ]); rw [List.getElem?_cons_zero]); rfl; go_frame))
      refine first_done ?_
      apply tail_step; (rw [List.getElem?_toArray]; (repeat rw [List.getElem?_cons_succ]); rw [List.getElem?_cons_zero]); rfl; rfl; intro K hK; go_simp
      refine CS.out.mono ?_
      rintro e w7 ⟨rfl, f7⟩
      refine hK _ _ (fun h => absurd (by decide) h) ?_
      clear hK K
      have HB7 : Hid (Below w6.heap.size w6 w7) := hB.out.drew.trans (f7.mono hB.out.size)
      clear f7 cr' cs' z5' z6' CS
      (apply tail_step; (rw [List.getElem?_toArray]; (repeat rw [List.getElem?_cons_succ]); rw [List.getElem?_cons_zero]); rfl; rfl; intro K hK; go_simp; refine hK _ _ (fun h => absurd (by decide) h) ?_; clear hK K)
      refine tail_done ?_
      go_wp2_with fail
      go_roundg (q - (k + 1))
      case measure => omega
      case rel => exact ⟨k + 1, by go_num, rfl, by omega, HB7⟩
    · have HG1 : Hid (GrE w1.heap.size wr G1 n E) := HG1.out.below hB.out
      have HG2 : Hid (GrE w3.heap.size wr G2 n F) := HG2.out.below hB.out
      have HB7 : Hid (Below w.heap.size w wr) := HB6.out.trans (hB.out.mono hs6)
      clear HB6 hB H5 H6 HQ
      go_wp2_with fail
      obtain ⟨H, hH⟩ : ∃ H, wr.heap.size = H := ⟨_, rfl⟩
      have HS8 : Hid (SetP (wr.alloc (.map #[] 0)) H (prs n (tos n E) 0)) := by rw [← hH]; exact SetP.new wr
      have HB8 : Hid (Below w.heap.size w (wr.alloc (.map #[] 0))) := HB7.out.alloc HB7.out.size _
      have HG18 : Hid (GrE w1.heap.size (wr.alloc (.map #[] 0)) G1 n E) := HG1.out.below (below_alloc wr _ _ (Nat.le_refl _))
      have HG28 : Hid (GrE w3.heap.size (wr.alloc (.map #[] 0)) G2 n F) := HG2.out.below (below_alloc wr _ _ (Nat.le_refl _))
      have HH1 : Hid (∀ k, G1.has k → k < H) := by rw [← hH]; exact HG1.out.has
      have HH2 : Hid (∀ k, G2.has k → k < H) := by rw [← hH]; exact HG2.out.has
      have hwH : w.heap.size ≤ H := by rw [← hH]; exact HB7.out.size
      rw [hH]
      clear HB7 HG1 HG2
      go_loopg [60] n (fun g s60 wr => ∃ (k : Nat), s60 = .int .i64 (k : Int) ∧ g = n - k ∧ k ≤ n ∧ Hid (SetP wr H (prs n (tos n E) k)) ∧ Hid (GrE w1.heap.size wr G1 n E) ∧ Hid (GrE w3.heap.size wr G2 n F) ∧ Hid (Below w.heap.size w wr))
      case atStart => exact ⟨0, rfl, rfl, Nat.zero_le _, HS8, HG18, HG28, HB8⟩
      case round =>
        clear HS8 HB8 HG18 HG28 hH
        obtain ⟨k, rfl, rfl, hk, hS, hG1, hG2, hB⟩ := hrel
        rename World => wo
        by_cases hlt : k < n
        · have j1 : (0 : Int) ≤ (k : Int) := by omega
          have j2 : (k : Int) < (n : Int) := by omega
          go_wp2_with fail
          have C7 := reach_E (S := [(k : Int)]) HOK.out (by omega) (hG1.out.below (below_alloc wo (.cells #[.int .i64 (k : Int)] 3) _ (Nat.le_refl _))) (rd_one (k : Int))
          rw [HP1.out] at C7
          refine C7.mono ?_
          clear C7
          rintro e w7 ⟨v7, r7, rfl, hI7, hR7, hb7⟩
          have hrr := hR7.row (tos_ok HOK.out) hlt
          subst hrr
          have hB7 : Below wo.heap.size wo w7 := (below_alloc wo _ _ (Nat.le_refl _)).trans (hb7.mono (by simp))
          have HHw : Hid (H < wo.heap.size) := hS.out.lt
          have HS7 : Hid (SetP w7 H (prsJ n (tos n E) k 0)) := by rw [prsJ_zero]; exact hS.out.keep (hB7.block _ HHw.out)
          have HB7 : Hid (Below H wo w7) := hB7.mono (Nat.le_of_lt HHw.out)
          have HI7 : Hid (IR (H + 1) w7 v7 (rowR n (tos n E) k)) := hI7.base (by have := HHw.out; simp; omega)
          obtain ⟨a7, c7, e⟩ := hI7.shape
          subst e
          obtain ⟨q7, hq7⟩ : ∃ q, (rowR n (tos n E) k).length = q := ⟨_, rfl⟩
          have HQ7 := Lib.hid hq7
          have hmax7 : q7 ≤ n := by rw [← hq7]; exact rowR_len _ _ _
          rw [hq7] at HI7 ⊢
          clear hI7 hR7 hb7 hq7 hB7 HHw
          go_wp2_with fail
          go_loopg [68] q7 (fun g s68 wr => ∃ (j : Nat), s68 = .int .i64 (j : Int) ∧ g = q7 - j ∧ j ≤ q7 ∧ Hid (SetP wr H (prsJ n (tos n E) k j)) ∧ Hid (IR (H + 1) wr (.slice a7 q7 c7) (rowR n (tos n E) k)) ∧ Hid (Below H wo wr))
          case atStart => exact ⟨0, rfl, rfl, Nat.zero_le _, HS7, HI7, HB7⟩
          case round =>
            obtain ⟨j, rfl, rfl, hj, hS, hI, hB8⟩ := hrel
            by_cases hlt2 : j < q7
            · obtain ⟨z, hz⟩ : ∃ z, (rowR n (tos n E) k)[j]? = some z := ⟨_, List.getElem?_eq_getElem (by rw [HQ7.out]; exact hlt2)⟩
              obtain ⟨g7, rfl, z7, cz⟩ := hI.out.at hz
              have i1 : (0 : Int) ≤ (j : Int) := by omega
              have i2 : (j : Int) < (q7 : Int) := by omega
              obtain ⟨w8, u1, u2, u3, u4⟩ := hS.out.put (prsJ_new hz)
              rw [← prsJ_push hz] at u2
              have HS8 := Lib.hid u2
              have HI8 : Hid (IR (H + 1) w8 (.slice (some ⟨g7, 0, none⟩) q7 c7) (rowR n (tos n E) k)) := hI.out.block fun b e hb => u3.block b hb fun e2 => by
                have := (hI.out.lt b e).1
                omega
              have HB8 : Hid (Below H wo w8) := hB8.out.trans (u3.below (Nat.le_of_lt hS.out.lt) fun b e => by omega)
              clear hz u2 u3 u4 hS hI hB8
              go_wp2_with fail
              go_roundg (q7 - (j + 1))
              case measure => omega
              case rel => exact ⟨j + 1, by go_num, rfl, by omega, HS8, HI8, HB8⟩
            · have HS8 : Hid (SetP wr H (prs n (tos n E) (k + 1))) := by
                rw [← prsJ_all, HQ7.out]
                have : j = q7 := by omega
                rw [← this]
                exact hS.out
              have HG18 : Hid (GrE w1.heap.size wr G1 n E) := hG1.out.belowK hB8.out HH1.out
              have HG28 : Hid (GrE w3.heap.size wr G2 n F) := hG2.out.belowK hB8.out HH2.out
              have HBB : Hid (Below w.heap.size w wr) := hB.out.trans (hB8.out.mono hwH)
              clear hS hI HS7 HI7 HB7 hmax7 hB8 hG1 hG2 hB HQ7
              go_wp2_with fail
              go_roundg (n - (k + 1))
              case measure => omega
              case rel => exact ⟨k + 1, by go_num, rfl, by omega, HS8, HG18, HG28, HBB⟩
        · have HSn : Hid (SetP wo H (prs n (tos n E) n)) := by
            have h1 := hS.out
            rw [show k = n by omega] at h1
            exact h1
          obtain ⟨es, ck, hh, hes⟩ := HSn.out.len
          obtain ⟨pe, hpe⟩ : ∃ pe, (prs n (tos n E) n).length = pe := ⟨_, rfl⟩
          have hpe2 : pe ≤ 1000 := by
            have h1 := prs_len n (tos n E) n
            have h2 : n * n ≤ 30 * 30 := Nat.mul_le_mul hn hn
            omega
          have HPE : Hid ((prs n (tos n F) n).length = pe) := by
            unfold Hid
            rw [← hpe]
            exact (prs_turn HR.out).symm
          rw [hpe] at hes
          have LN : ∀ ty, (Builtin.len_ #[36] ty #[.map (some H)]).run Try.prog wo = .ok (.int .i64 (pe : Int)) wo := fun ty => (run_len_map (P := Try.prog) wo 36 ty H es ck (by kernel_rfl) hh).trans (by rw [hes]; rfl)
          clear hS hpe
          go_wp2_with fail
          clear hh hes LN
          go_loopg [81, 15] n (fun g s81 s15 wr => ∃ (i c : Nat), s81 = .int .i64 (i : Int) ∧ s15 = .int .i64 (c : Int) ∧ g = n - i ∧ i ≤ n ∧ c ≤ 1000 ∧ Hid (c + (prs n (tos n F) i).length = pe) ∧ Hid (SetP wr H (prs n (tos n E) n)) ∧ Hid (GrE w1.heap.size wr G1 n E) ∧ Hid (GrE w3.heap.size wr G2 n F) ∧ Hid (Below w.heap.size w wr))
          case atStart => exact ⟨0, pe, rfl, rfl, rfl, Nat.zero_le _, hpe2, rfl, HSn, hG1, hG2, hB⟩
          case round =>
            clear HSn hG1 hG2 hB
            obtain ⟨k, c, rfl, rfl, rfl, hk, hc, hPC, hS, hG1, hG2, hB⟩ := hrel
            by_cases hlt : k < n
            · have j1 : (0 : Int) ≤ (k : Int) := by omega
              have j2 : (k : Int) < (n : Int) := by omega
              have C7 := round_E HOK.out (by omega) hlt hG1.out
              rw [HP1.out] at C7
              have C7 := Lib.hid C7
              go_wp2_with fail
              refine C7.out.mono ?_
              rintro e w7 ⟨v7, r7, f7, rfl, hI7, hD7, hR7, hb7⟩
              have hHw : H < wr.heap.size := hS.out.lt
              have HS7 := Lib.hid (hS.out.keep (hb7.block _ hHw))
              have HG17 := Lib.hid (hG1.out.below hb7)
              have HG27 := Lib.hid (hG2.out.below hb7)
              have HB7 := Lib.hid (hB.out.trans (hb7.mono hB.out.size))
              have HD7 := Lib.hid hD7
              have HR7 := Lib.hid hR7
              obtain ⟨a7, c7, e⟩ := hI7.shape
              subst e
              obtain ⟨q7, hq7⟩ : ∃ q, r7.length = q := ⟨_, rfl⟩
              have HQ7 := Lib.hid hq7
              rw [hq7]
              have C8 := round_E HOK2.out (by omega) hlt HG27.out
              rw [HP2.out] at C8
              have C8 := Lib.hid C8
              clear hI7 hD7 hR7 hb7 hq7 C7 hS hG1 hG2 hB hHw
              go_wp2_with fail
              refine C8.out.mono ?_
              rintro e w8 ⟨v8, r8, f8, rfl, hI8, hD8, hR8, hb8⟩
              have hHw : H < w7.heap.size := HS7.out.lt
              have HS8 := Lib.hid (HS7.out.keep (hb8.block _ hHw))
              have HG18 := Lib.hid (HG17.out.below hb8)
              have HG28 := Lib.hid (HG27.out.below hb8)
              have HB8 := Lib.hid (HB7.out.trans (hb8.mono HB7.out.size))
              have hlen : r7.length = r8.length := HR7.out.turn (adj := adjE E) (adj' := adjE F) (fun x y h => by
                have h1 := adjE_mem.1 h
                exact ⟨adjE_mem.2 ((HT.out x y).1 h1), HOK.out.lt _ h1⟩) (fun x y h => by
                have h1 := adjE_mem.1 h
                have h2 := HOK2.out.lt _ h1
                exact ⟨adjE_mem.2 ((HT.out y x).2 h1), h2⟩) hlt HD7.out hD8 hR8
              obtain ⟨a8, c8, e⟩ := hI8.shape
              subst e
              rw [← hlen, HQ7.out]
              have bq : ((q7 : Int) != (q7 : Int)) = false := by simp
              clear hI8 hD8 hR8 hb8 hlen C8 HS7 HG17 HG27 HB7 HD7 HR7 HQ7 hHw
              go_wp2_with fail
              have C9 := reach_E (S := [(k : Int)]) HOK2.out (by omega) (HG28.out.below (below_alloc w8 (.cells #[.int .i64 (k : Int)] 3) _ (Nat.le_refl _))) (rd_one (k : Int))
              rw [HP2.out] at C9
              refine C9.mono ?_
              clear C9
              rintro e w9 ⟨v9, r9, rfl, hI9, hR9, hb9⟩
              have hrr := hR9.row (tos_ok HOK2.out) hlt
              subst hrr
              have hB9 : Below w8.heap.size w8 w9 := (below_alloc w8 _ _ (Nat.le_refl _)).trans (hb9.mono (by simp))
              have HS9 := Lib.hid (HS8.out.keep (hB9.block _ HS8.out.lt))
              have HG19 := Lib.hid (HG18.out.below hB9)
              have HG29 := Lib.hid (HG28.out.below hB9)
              have HB9 := Lib.hid (HB8.out.trans (hB9.mono HB8.out.size))
              have HI9 := Lib.hid hI9
              obtain ⟨a9, c9, e⟩ := hI9.shape
              subst e
              obtain ⟨q9, hq9⟩ : ∃ q, (rowR n (tos n F) k).length = q := ⟨_, rfl⟩
              have HQ9 := Lib.hid hq9
              have hmax9 : q9 ≤ n := by rw [← hq9]; exact rowR_len _ _ _
              rw [hq9] at HI9 ⊢
              have hPC0 : Hid (c + (prsJ n (tos n F) k 0).length = pe) := by rw [prsJ_zero]; exact hPC
              clear hI9 hR9 hb9 hq9 hB9 HS8 HG18 HG28 HB8 hPC
              go_wp2_with fail
              go_loopg [98, 15] q9 (fun g s98 s15 wq => ∃ (j c : Nat), s98 = .int .i64 (j : Int) ∧ s15 = .int .i64 (c : Int) ∧ g = q9 - j ∧ j ≤ q9 ∧ c ≤ 1000 ∧ Hid (c + (prsJ n (tos n F) k j).length = pe) ∧ wq = w9)
              case atStart => exact ⟨0, c, rfl, rfl, rfl, Nat.zero_le _, hc, hPC0, rfl⟩
              case round =>
                clear hPC0 hc
                obtain ⟨j, c, rfl, rfl, rfl, hj, hc, hPC, rfl⟩ := hrel
                by_cases hlt3 : j < q9
                · obtain ⟨z, hz⟩ : ∃ z, (rowR n (tos n F) k)[j]? = some z := ⟨_, List.getElem?_eq_getElem (by rw [HQ9.out]; exact hlt3)⟩
                  obtain ⟨g9, rfl, z9, cz⟩ := HI9.out.at hz
                  obtain ⟨zn, zr⟩ := mem_rowR.1 (List.mem_of_getElem? hz)
                  have i1 : (0 : Int) ≤ (j : Int) := by omega
                  have i2 : (j : Int) < (q9 : Int) := by omega
                  have LK := HS9.out.get z k
                  rw [decide_eq_true (mem_prs.2 ⟨zn, hlt, (HR.out z k).2 zr⟩)] at LK
                  obtain ⟨c2, hc2⟩ : ∃ c2, c = c2 + 1 := by
                    have h1 := hPC.out
                    have h2 := prs_mono n (tos n F) (k := k + 1) (m := n) (by omega)
                    have h3 := HPE.out
                    rw [← prsJ_all, prsJ_len _ _ _ _ (Nat.le_refl _), HQ9.out] at h2
                    rw [prsJ_len _ _ _ _ (by rw [HQ9.out]; exact hj)] at h1
                    exact ⟨c - 1, by omega⟩
                  subst hc2
                  have hPC2 : Hid (c2 + (prsJ n (tos n F) k (j + 1)).length = pe) := by
                    have h1 := hPC.out
                    unfold Hid
                    rw [prsJ_push hz, List.length_append, List.length_singleton]
                    omega
                  clear hz zn zr hPC
                  go_wp2_with fail
                  go_roundg (q9 - (j + 1))
                  case measure => omega
                  case rel => exact ⟨j + 1, c2, by go_num, by go_num, rfl, by omega, by omega, hPC2, rfl⟩
                · have hPC2 : Hid (c + (prs n (tos n F) (k + 1)).length = pe) := by
                    rw [← prsJ_all, HQ9.out, show q9 = j by omega]
                    exact hPC
                  clear HI9 hmax9 hPC
                  go_wp2_with fail
                  go_roundg (n - (k + 1))
                  case measure => omega
                  case rel => exact ⟨k + 1, c, by go_num, rfl, rfl, by omega, hc, hPC2, HS9, HG19, HG29, HB9⟩
            · have hc0 : c = 0 := by
                have h1 := hPC.out
                have h2 := HPE.out
                rw [show k = n by omega] at h1
                omega
              subst hc0
              clear hPC hS hG1 hG2
              go_wp2_with fail
              refine bodyPost_ret (v := .bool true) (by simp [results, Try.results8, go_sem]) rfl ⟨rfl, hB.out⟩
end Go.Proofs.Ytcjohhminiedfaa
