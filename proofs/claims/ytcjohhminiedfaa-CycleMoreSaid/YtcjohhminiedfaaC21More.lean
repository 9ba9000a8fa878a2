/- CycleMore: the walk. -/
import Derived.Test.YtcjohhminiedfaaC21MoreQ
namespace Go.Proofs.Ytcjohhminiedfaa
open Go.RowKit
set_option maxHeartbeats 8000000 in
set_option maxRecDepth 100000 in
theorem more_law {v : Int} (v0 : 0 ≤ v) (v1 : v ≤ 255) {w : World} {a : Option Addr} {cap : Nat} {l : List (Int × Int)} (hE : EdAt w a l) (x y : Int) :
    Calls Try.prog 7 #[.int .u8 v, .slice a l.length cap, .agg #[.int .i64 x, .int .i64 y]] w fun e w' => e = .returned (.bool true) ∧ Below w.heap.size w w' := by
  obtain ⟨n, hn, _, hmod⟩ := mod31 v0
  have hwr : IntKind.i64.wrap v = v := by rw [IntKind.wrap_i64]; omega
  have hmm := @run_makeMap Try.prog
  have HE := Lib.hid hE
  obtain ⟨m, hm⟩ : ∃ m, l.length = m := ⟨_, rfl⟩
  have HM := Lib.hid hm
  rw [hm]
  clear hm hE
  go_enter Try.func7, Try.ntmps7
  go_wp2_with fail
  refine (awake_any _).mono ?_
  rintro e w1 ⟨rfl, hb1⟩
  have q1 : w1.heap[w.heap.size]? = some (.cells #[.int .i64 x, .int .i64 y] 37) := (hb1.block _ (by simp)).trans (heap_alloc_new _ _)
  have HB1 : Hid (Below w.heap.size w w1) := (below_alloc w _ _ (Nat.le_refl _)).trans (hb1.mono (by simp))
  have c0 := cell_of_heap q1 0
  have c1 := cell_of_heap q1 1
  have z0 := lt_of_heap q1
  clear hb1 q1
  go_wp2_with fail
  refine wp_region_mix [0, 1, 2, 3, 4, 5, 6, 7, 8, 9] [] [] (Below w1.heap.size w1) (by kernel_rfl) (by kernel_rfl) (Below.refl _ _).drew ?_
  iterate 10 (first | (apply first_step; (rw [List.getElem?_toArray]; (repeat rw [List.getElem?_cons_succ]); rw [List.getElem?_cons_zero]); rfl; (intro W hB; have hc := bcellB hB; go_simp; (first | done | rfl)); go_frame) | (apply first_skip; (rw [List.getElem?_toArray]; (repeat rw [List.getElem?_cons_succ]); rw [List.getElem?_cons_zero]); rfl; go_frame))
  refine first_done ?_
  refine tail_done ?_
  refine abs_exit ?_
  intro w2 hw2
  clear hmod hwr
  have HB2 : Hid (Below w.heap.size w w2) := by rw [hw2]; exact HB1.out.drew
  clear hw2 HB1 c0 c1 z0
  by_cases h1 : 100 < m
  · have b1 : decide ((100 : Int) < (m : Int)) = true := by simp; omega
    go_wp2_with fail
    refine bodyPost_ret (v := .bool true) (by simp [results, Try.results7, go_sem]) rfl ⟨rfl, HB2.out⟩
  have b1 : decide ((100 : Int) < (m : Int)) = false := by simp; omega
  by_cases h2 : x < 0
  · have b2 : decide (x < 0) = true := by simpa using h2
    clear h2
    go_wp2_with fail
    refine bodyPost_ret (v := .bool true) (by simp [results, Try.results7, go_sem]) rfl ⟨rfl, HB2.out⟩
  have b2 : decide (x < 0) = false := by simpa using h2
  by_cases h3 : y < 0
  · have b3 : decide (y < 0) = true := by simpa using h3
    clear h2 h3
    go_wp2_with fail
    refine bodyPost_ret (v := .bool true) (by simp [results, Try.results7, go_sem]) rfl ⟨rfl, HB2.out⟩
  have b3 : decide (y < 0) = false := by simpa using h3
  by_cases h4 : (n : Int) ≤ x
  · have b4 : decide ((n : Int) ≤ x) = true := by simpa using h4
    clear h2 h3 h4
    go_wp2_with fail
    refine bodyPost_ret (v := .bool true) (by simp [results, Try.results7, go_sem]) rfl ⟨rfl, HB2.out⟩
  have b4 : decide ((n : Int) ≤ x) = false := by simpa using h4
  by_cases h5 : (n : Int) ≤ y
  · have b5 : decide ((n : Int) ≤ y) = true := by simpa using h5
    clear h2 h3 h4 h5
    go_wp2_with fail
    refine bodyPost_ret (v := .bool true) (by simp [results, Try.results7, go_sem]) rfl ⟨rfl, HB2.out⟩
  have b5 : decide ((n : Int) ≤ y) = false := by simpa using h5
  obtain ⟨s, rfl⟩ : ∃ s : Nat, x = (s : Int) := ⟨x.toNat, by omega⟩
  obtain ⟨d, rfl⟩ : ∃ d : Nat, y = (d : Int) := ⟨y.toNat, by omega⟩
  have hsn : s < n := by omega
  have hdn : d < n := by omega
  clear h2 h3 h4 h5
  have C3 := Lib.hid (laid_any (w := w2) (n := n) (cap := cap) (t := false) (by omega) (by rw [HM.out]; omega) ((HE.out.below HB2.out)))
  rw [HM.out] at C3
  obtain ⟨E, hEE⟩ : ∃ E, laidE n false l = E := ⟨_, rfl⟩
  have HEE := Lib.hid hEE
  rw [hEE] at C3
  have HOK : Hid (EOk n E) := by rw [← hEE]; exact laidE_ok n false l
  have HEL : Hid (E.length ≤ 100) := by
    have h2 := laidE_len n false l
    rw [hEE, HM.out] at h2
    unfold Hid
    omega
  clear hEE
  go_wp2_with fail
  refine C3.out.mono ?_
  rintro e w3 ⟨G1, rfl, hG1, hb3⟩
  obtain ⟨p1, hp1⟩ : ∃ p, G1.pv = .pointer (some p) := ⟨_, hG1.gr.ptr⟩
  have HP1 := Lib.hid hp1
  have HG1 := Lib.hid hG1
  have HB3 := Lib.hid (HB2.out.trans (hb3.mono HB2.out.size))
  have C4 := Lib.hid (laid_any (w := w3) (n := n) (cap := cap) (t := false) (by omega) (by rw [HM.out]; omega) ((HE.out.below HB3.out)))
  rw [HM.out, HEE.out] at C4
  have hs3 := HB3.out.size
  rw [hp1]
  clear hp1 hG1 hb3 C3 HB2
  go_wp2_with fail
  refine C4.out.mono ?_
  rintro e w4 ⟨G2, rfl, hG2, hb4⟩
  obtain ⟨p2, hp2⟩ : ∃ p, G2.pv = .pointer (some p) := ⟨_, hG2.gr.ptr⟩
  have HG2 := Lib.hid hG2
  have HG14 := Lib.hid (HG1.out.below hb4)
  have HH1 : Hid (∀ k, G1.has k → k < w3.heap.size) := HG1.out.has
  have HB4 := Lib.hid (HB3.out.trans (hb4.mono hs3))
  have C5 := edge_E (by have := HEL.out; omega) hG2 (s : Int) (d : Int)
  rw [hp2] at C5 ⊢
  have C5 := Lib.hid C5
  have hs4 : w3.heap.size ≤ w4.heap.size := hb4.size
  clear hp2 hG2 hb4 C4 HG1 HB3
  go_wp2_with fail
  refine C5.out.mono ?_
  rintro e w5 ⟨rfl, ⟨G2', hp2, hG2', _⟩, _, hB5⟩
  have HP2 := Lib.hid hp2
  have HA := Lib.hid hG2'
  have HG1 := Lib.hid (HG14.out.belowK hB5 HH1.out)
  have HB5 := Lib.hid (HB4.out.trans (hB5.mono hs3))
  have HOK2 : Hid (EOk n (addE n E (s : Int) (d : Int))) := HOK.out.add _ _
  have HMEM : Hid ((s, d) ∈ addE n E (s : Int) (d : Int)) := addE_mem hsn hdn
  have HSUB : Hid (∀ e ∈ E, e ∈ addE n E (s : Int) (d : Int)) := addE_sub
  obtain ⟨E', hE'⟩ : ∃ E', addE n E (s : Int) (d : Int) = E' := ⟨_, rfl⟩
  rw [hE'] at HA HOK2 HMEM HSUB
  obtain ⟨K2, hK2⟩ : ∃ K, w3.heap.size = K := ⟨_, rfl⟩
  rw [hK2] at HA
  clear hp2 hG2' hB5 C5 HG2 HG14 HB4 hE' hK2 HEE HEL
  have hs5 := HB5.out.size
  go_wp2_with fail
  have C6 := reach_E (S := [(d : Int)]) HOK.out (by omega) (HG1.out.below (below_alloc w5 (.cells #[.int .i64 (d : Int)] 3) _ (Nat.le_refl _))) (rd_one (d : Int))
  rw [HP1.out] at C6
  refine C6.mono ?_
  clear C6
  rintro e w6 ⟨v6, r6, rfl, hI6, hR6, hb6⟩
  have hB56 : Below w5.heap.size w5 w6 := (below_alloc w5 _ _ (Nat.le_refl _)).trans (hb6.mono (by simp))
  have HB6 := Lib.hid (HB5.out.trans (hB56.mono hs5))
  have HG16 := Lib.hid (HG1.out.below hB56)
  have HA6 := Lib.hid (HA.out.below hB56)
  have HI6 := Lib.hid hI6
  have HR6 := Lib.hid hR6
  obtain ⟨a6, c6, e⟩ := hI6.shape
  subst e
  obtain ⟨q6, hq6⟩ : ∃ q, r6.length = q := ⟨_, rfl⟩
  have HQ6 := Lib.hid hq6
  rw [hq6] at HI6 ⊢
  have hmax6 : q6 ≤ maxLen := by rw [← hq6]; exact own_max hI6
  unfold maxLen at hmax6
  clear hI6 hR6 hb6 hB56 hq6 HG1 HA HB5
  go_wp2_with fail
  go_loopg [12, 66] q6 (fun g s12 s66 wr => ∃ (k : Nat) (t : Bool), s66 = .int .i64 (k : Int) ∧ s12 = .bool t ∧ g = q6 - k ∧ k ≤ q6 ∧ Hid (t = decide (s ∈ r6.take k)) ∧ wr = w6)
  case atStart => exact ⟨0, false, rfl, rfl, rfl, Nat.zero_le _, by unfold Hid; simp, rfl⟩
  case round =>
    obtain ⟨k, t, rfl, rfl, rfl, hk, hT, rfl⟩ := hrel
    by_cases hlt : k < q6
    · obtain ⟨z, hz⟩ : ∃ z, r6[k]? = some z := ⟨_, List.getElem?_eq_getElem (by rw [HQ6.out]; exact hlt)⟩
      obtain ⟨g6, rfl, z6, cz⟩ := HI6.out.at hz
      have TK := take_snoc hz
      have hT2 : ∀ u : Bool, ((z : Int) == (s : Int)) = u → Hid ((t || u) = decide (s ∈ r6.take (k + 1))) := fun u hu => by
        unfold Hid
        rw [TK, hT.out, ← hu, Bool.eq_iff_iff]
        simp only [Bool.or_eq_true, decide_eq_true_eq, List.mem_append, List.mem_singleton, beq_iff_eq]
        constructor
        · rintro (h | h)
          · exact .inl h
          · exact .inr (by omega)
        · rintro (h | h)
          · exact .inl h
          · exact .inr (by omega)
      have j1 : (0 : Int) ≤ (k : Int) := by omega
      have j2 : (k : Int) < (q6 : Int) := by omega
      clear hz TK
      cases t with
      | true =>
        go_wp2_with fail
        go_roundg (q6 - (k + 1))
        case measure => omega
        case rel => exact ⟨k + 1, true, by go_num, rfl, rfl, by omega, hT2 _ rfl, rfl⟩
      | false =>
        go_wp2_with fail
        go_roundg (q6 - (k + 1))
        case measure => omega
        case rel => exact ⟨k + 1, ((z : Int) == (s : Int)), by go_num, rfl, rfl, by omega, hT2 _ rfl, rfl⟩
    · have HT : Hid (t = decide (s ∈ r6)) := by
        have h1 := hT.out
        rw [List.take_of_length_le (by rw [HQ6.out]; omega)] at h1
        exact h1
      clear hT HI6 HQ6
      go_wp2_with fail
      go_loopg [78] n (fun g s78 wr => ∃ (k : Nat), s78 = .int .i64 (k : Int) ∧ g = n - k ∧ k ≤ n ∧ Hid (GrE K2 wr G2' n E') ∧ Hid (GrE w2.heap.size wr G1 n E) ∧ Hid (Below w.heap.size w wr))
      case atStart => exact ⟨0, rfl, rfl, Nat.zero_le _, HA6, HG16, HB6⟩
      case round =>
        obtain ⟨k, rfl, rfl, hk, hA, hG, hB⟩ := hrel
        rename World => wo
        by_cases hlt : k < n
        · have j1 : (0 : Int) ≤ (k : Int) := by omega
          have j2 : (k : Int) < (n : Int) := by omega
          go_wp2_with fail
          have C7 := reach_E (S := [(k : Int)]) HOK2.out (by omega) ((hA.out.below (below_alloc wo (.map #[] 0) _ (Nat.le_refl _))).below (below_alloc _ (.cells #[.int .i64 (k : Int)] 3) _ (Nat.le_refl _))) (rd_one (k : Int))
          rw [HP2.out] at C7
          simp only [World.size_alloc] at C7
          refine C7.mono ?_
          clear C7
          rintro e w7 ⟨v7, r7, rfl, hI7, hR7, hb7⟩
          have HR7 := Lib.hid hR7
          have HS7 : Hid (SetI w7 wo.heap.size (r7.take 0)) := (SetI.new wo).keep ((hb7.block _ (by omega)).trans (Below.heap_alloc _ _ _ (by simp)))
          have HB7 : Hid (Below wo.heap.size wo w7) := ((below_alloc wo _ _ (Nat.le_refl _)).alloc (by simp) _).trans (hb7.mono (by omega))
          have HI7 : Hid (IR (wo.heap.size + 1) w7 v7 r7) := hI7.base (by omega)
          obtain ⟨H, hH⟩ : ∃ H, wo.heap.size = H := ⟨_, rfl⟩
          have HH := Lib.hid hH
          rw [hH] at HS7 HB7 HI7 ⊢
          obtain ⟨a7, c7, e⟩ := hI7.shape
          subst e
          obtain ⟨q7, hq7⟩ : ∃ q, r7.length = q := ⟨_, rfl⟩
          have HQ7 := Lib.hid hq7
          have hmax7 : q7 ≤ maxLen := by rw [← hq7]; exact own_max hI7
          rw [hq7] at HI7 ⊢
          unfold maxLen at hmax7
          clear hI7 hR7 hb7 hq7 hH
          go_wp2_with fail
          go_loopg [87] q7 (fun g s87 wr => ∃ (j : Nat), s87 = .int .i64 (j : Int) ∧ g = q7 - j ∧ j ≤ q7 ∧ Hid (SetI wr H (r7.take j)) ∧ Hid (IR (H + 1) wr (.slice a7 q7 c7) r7) ∧ Hid (Below H wo wr))
          case atStart => exact ⟨0, rfl, rfl, Nat.zero_le _, HS7, HI7, HB7⟩
          case round =>
            obtain ⟨j, rfl, rfl, hj, hS, hI, hB8⟩ := hrel
            by_cases hlt2 : j < q7
            · obtain ⟨z, hz⟩ : ∃ z, r7[j]? = some z := ⟨_, List.getElem?_eq_getElem (by rw [HQ7.out]; exact hlt2)⟩
              obtain ⟨g7, rfl, z7, cz⟩ := hI.out.at hz
              have i1 : (0 : Int) ≤ (j : Int) := by omega
              have i2 : (j : Int) < (q7 : Int) := by omega
              obtain ⟨w8, u1, u2, u3, u4⟩ := hS.out.put z
              rw [← take_snoc hz] at u2
              have HS8 := Lib.hid u2
              have HI8 : Hid (IR (H + 1) w8 (.slice (some ⟨g7, 0, none⟩) q7 c7) r7) := hI.out.block fun b e hb => u3.block b hb fun e2 => by
                have := (hI.out.lt b e).1
                omega
              have HB8 : Hid (Below H wo w8) := hB8.out.trans (u3.below (Nat.le_of_lt hS.out.lt) fun b e => by omega)
              clear hz u2 u3 u4 hS hI hB8
              go_wp2_with fail
              go_roundg (q7 - (j + 1))
              case measure => omega
              case rel => exact ⟨j + 1, by go_num, rfl, by omega, HS8, HI8, HB8⟩
            · have HS8 : Hid (SetI wr H r7) := by
                have h1 := hS.out
                rw [List.take_of_length_le (by rw [HQ7.out]; omega)] at h1
                exact h1
              have hzH : H < wr.heap.size := hS.out.lt
              clear hS hI HS7 HI7 HB7 hmax7
              go_wp2_with fail
              have C9 := reach_E (S := [(k : Int)]) HOK.out (by omega) ((hG.out.below (by rw [HH.out]; exact hB8.out)).below (below_alloc wr (.cells #[.int .i64 (k : Int)] 3) _ (Nat.le_refl _))) (rd_one (k : Int))
              rw [HP1.out] at C9
              refine C9.mono ?_
              clear C9
              rintro e w9 ⟨v9, r9, rfl, hI9, hR9, hb9⟩
              have hB89 : Below wr.heap.size wr w9 := (below_alloc wr _ _ (Nat.le_refl _)).trans (hb9.mono (by simp))
              have HS9 : Hid (SetI w9 H r7) := HS8.out.keep (hB89.block _ hzH)
              have HB9 : Hid (Below H wo w9) := hB8.out.trans (hB89.mono (Nat.le_of_lt hzH))
              have HI9 := Lib.hid hI9
              have HIN : Hid (∀ x ∈ r9, x ∈ r7) := fun x hx => by
                obtain ⟨y, y1, y2⟩ := (hR9.2 x).1 hx
                exact (HR7.out.2 x).2 ⟨y, y1, rch_mono HOK.out HOK2.out HSUB.out y2⟩
              obtain ⟨a9, c9, e⟩ := hI9.shape
              subst e
              obtain ⟨q9, hq9⟩ : ∃ q, r9.length = q := ⟨_, rfl⟩
              have HQ9 := Lib.hid hq9
              have hmax9 : q9 ≤ maxLen := by rw [← hq9]; exact own_max hI9
              rw [hq9] at HI9 ⊢
              unfold maxLen at hmax9
              clear hI9 hR9 hb9 hq9 hB89 hB8 HS8
              go_wp2_with fail
              go_loopg [99] q9 (fun g s99 wr => ∃ (j : Nat), s99 = .int .i64 (j : Int) ∧ g = q9 - j ∧ j ≤ q9 ∧ wr = w9)
              case atStart => exact ⟨0, rfl, rfl, Nat.zero_le _, rfl⟩
              case round =>
                obtain ⟨j, rfl, rfl, hj, rfl⟩ := hrel
                by_cases hlt3 : j < q9
                · obtain ⟨z, hz⟩ : ∃ z, r9[j]? = some z := ⟨_, List.getElem?_eq_getElem (by rw [HQ9.out]; exact hlt3)⟩
                  obtain ⟨g9, rfl, z9, cz⟩ := HI9.out.at hz
                  have i1 : (0 : Int) ≤ (j : Int) := by omega
                  have i2 : (j : Int) < (q9 : Int) := by omega
                  have LK := HS9.out.get z
                  rw [decide_eq_true (HIN.out z (List.mem_of_getElem? hz))] at LK
                  clear hz
                  go_wp2_with fail
                  go_roundg (q9 - (j + 1))
                  case measure => omega
                  case rel => exact ⟨j + 1, by go_num, rfl, by omega, rfl⟩
                · have HA9 : Hid (GrE K2 wr G2' n E') := hA.out.below (by rw [HH.out]; exact HB9.out)
                  have HG9 : Hid (GrE w2.heap.size wr G1 n E) := hG.out.below (by rw [HH.out]; exact HB9.out)
                  have HBB : Hid (Below w.heap.size w wr) := hB.out.trans (HB9.out.mono (by rw [← HH.out]; exact hB.out.size))
                  clear HI9 HIN HS9 HB9 hA hG hB hmax9
                  go_wp2_with fail
                  go_roundg (n - (k + 1))
                  case measure => omega
                  case rel => exact ⟨k + 1, by go_num, rfl, by omega, HA9, HG9, HBB⟩
        · clear HA6 HG16 HB6
          have C7 := parts_E HOK2.out (by omega) hA.out
          rw [HP2.out] at C7
          have C7 := Lib.hid C7
          go_wp2_with fail
          refine C7.out.mono ?_
          rintro e w7 ⟨v7, vs7, L7, rfl, hV7, hL7, hb7⟩
          have hs0 := hB.out.size
          have HA7 := Lib.hid (hA.out.below hb7)
          have HG7 := Lib.hid (hG.out.below hb7)
          have HB7 := Lib.hid (hB.out.trans (hb7.mono hs0))
          obtain ⟨a7, c7, e, _⟩ := hV7.slice
          subst e
          obtain ⟨q7, hq7⟩ : ∃ q, L7.length = q := ⟨_, rfl⟩
          have HL7 := Lib.hid hL7
          have HQ7 := Lib.hid hq7
          rw [hq7]
          have C8 := parts_E HOK.out (by omega) HG7.out
          rw [HP1.out] at C8
          have C8 := Lib.hid C8
          have hs7 := HB7.out.size
          clear hV7 hL7 hb7 hq7 C7 hA hG hB hs0
          go_wp2_with fail
          refine C8.out.mono ?_
          rintro e w8 ⟨v8, vs8, L8, rfl, hV8, hL8, hb8⟩
          have HA8 := Lib.hid (HA7.out.below hb8)
          have HG8 := Lib.hid (HG7.out.below hb8)
          have HB8 := Lib.hid (HB7.out.trans (hb8.mono hs7))
          obtain ⟨a8, c8, e, _⟩ := hV8.slice
          subst e
          obtain ⟨q8, hq8⟩ : ∃ q, L8.length = q := ⟨_, rfl⟩
          have hle : q7 ≤ q8 := by
            rw [← hq8, ← HQ7.out]
            exact parts_more (hL8.pl (tos_ok HOK.out)) (HL7.out.pl (tos_ok HOK2.out)) fun x y h => rch_mono HOK.out HOK2.out HSUB.out h
          have b8 : decide ((q7 : Int) ≤ (q8 : Int)) = true := by simp; omega
          rw [hq8]
          have C9 := round_E HOK2.out (by omega) hsn HA8.out
          rw [HP2.out] at C9
          have C9 := Lib.hid C9
          have hs8 := HB8.out.size
          clear hV8 hL8 hb8 hq8 C8 HA7 HG7 HB7 HL7 HQ7
          go_wp2_with fail
          refine C9.out.mono ?_
          rintro e w9 ⟨v9, r9, f9, rfl, hI9, hD9, hR9, hb9⟩
          have HA9 := Lib.hid (HA8.out.below hb9)
          have HG9 := Lib.hid (HG8.out.below hb9)
          have HB9 := Lib.hid (HB8.out.trans (hb9.mono hs8))
          obtain ⟨a9, c9, e⟩ := hI9.shape
          subst e
          obtain ⟨q9, hq9⟩ : ∃ q, r9.length = q := ⟨_, rfl⟩
          have hT9 : t = true → 0 < q9 := fun ht => by
            have h1 := HT.out
            rw [ht] at h1
            have h2 : s ∈ r6 := of_decide_eq_true h1.symm
            obtain ⟨y, y1, y2⟩ := (HR6.out.2 s).1 h2
            obtain ⟨y3, y4⟩ := mem_nodesI.1 y1
            have e : y = d := by
              have := List.mem_singleton.1 y4
              omega
            subst e
            rw [← hq9]
            exact hR9.some' hdn (adjE_mem.2 HMEM.out) (hD9.of_rch HOK2.out (rch_mono HOK.out HOK2.out HSUB.out y2))
          rw [hq9]
          have C10 := round_E HOK2.out (by omega) hsn HA9.out
          rw [HP2.out] at C10
          have C10 := Lib.hid C10
          have hs9 := HB9.out.size
          clear hI9 hD9 hR9 hb9 hq9 C9 HA8 HG8 HB8 HT
          by_cases h9 : 0 < q9
          · have b9 : decide ((0 : Int) < (q9 : Int)) = true := by simp; omega
            clear hT9
            go_wp2_with fail
            refine C10.out.mono ?_
            rintro e w10 ⟨v10, r10, f10, rfl, hI10, hD10, hR10, hb10⟩
            have hn10 := hR10.le hD10 hsn
            have HG10 := Lib.hid (HG9.out.below hb10)
            have HB10 := Lib.hid (HB9.out.trans (hb10.mono hs9))
            obtain ⟨a10, c10, e⟩ := hI10.shape
            subst e
            obtain ⟨q10, hq10⟩ : ∃ q, r10.length = q := ⟨_, rfl⟩
            rw [hq10] at hn10 ⊢
            have C11 := round_E HOK.out (by omega) hsn HG10.out
            rw [HP1.out] at C11
            have C11 := Lib.hid C11
            have hs10 := HB10.out.size
            clear hI10 hD10 hR10 hb10 hq10 C10 HA9 HG9 HB9
            go_wp2_with fail
            refine C11.out.mono ?_
            rintro e w11 ⟨v11, r11, f11, rfl, hI11, hD11, hR11, hb11⟩
            have HB11 := Lib.hid (HB10.out.trans (hb11.mono hs10))
            obtain ⟨a11, c11, e⟩ := hI11.shape
            subst e
            obtain ⟨q11, hq11⟩ : ∃ q, r11.length = q := ⟨_, rfl⟩
            rw [hq11]
            obtain ⟨m11, hm11⟩ : ∃ m, max (q11 : Int) (n : Int) = m := ⟨_, rfl⟩
            have b11 : decide ((q10 : Int) ≤ m11) = true := by simp; omega
            clear hI11 hD11 hR11 hb11 hq11 C11 HG10 HB10 hn10
            go_wp2_with fail
            refine bodyPost_ret (v := .bool true) (by simp [results, Try.results7, go_sem]) rfl ⟨rfl, HB11.out⟩
          · have b9 : decide ((0 : Int) < (q9 : Int)) = false := by simp; omega
            have ht : t = false := by
              cases t with
              | true => exact absurd (hT9 rfl) h9
              | false => rfl
            subst ht
            clear hT9
            go_wp2_with fail
            refine C10.out.mono ?_
            rintro e w10 ⟨v10, r10, f10, rfl, hI10, hD10, hR10, hb10⟩
            have hn10 := hR10.le hD10 hsn
            have HG10 := Lib.hid (HG9.out.below hb10)
            have HB10 := Lib.hid (HB9.out.trans (hb10.mono hs9))
            obtain ⟨a10, c10, e⟩ := hI10.shape
            subst e
            obtain ⟨q10, hq10⟩ : ∃ q, r10.length = q := ⟨_, rfl⟩
            rw [hq10] at hn10 ⊢
            have C11 := round_E HOK.out (by omega) hsn HG10.out
            rw [HP1.out] at C11
            have C11 := Lib.hid C11
            have hs10 := HB10.out.size
            clear hI10 hD10 hR10 hb10 hq10 C10 HA9 HG9 HB9
            go_wp2_with fail
            refine C11.out.mono ?_
            rintro e w11 ⟨v11, r11, f11, rfl, hI11, hD11, hR11, hb11⟩
            have HB11 := Lib.hid (HB10.out.trans (hb11.mono hs10))
            obtain ⟨a11, c11, e⟩ := hI11.shape
            subst e
            obtain ⟨q11, hq11⟩ : ∃ q, r11.length = q := ⟨_, rfl⟩
            rw [hq11]
            obtain ⟨m11, hm11⟩ : ∃ m, max (q11 : Int) (n : Int) = m := ⟨_, rfl⟩
            have b11 : decide ((q10 : Int) ≤ m11) = true := by simp; omega
            clear hI11 hD11 hR11 hb11 hq11 C11 HG10 HB10 hn10
            go_wp2_with fail
            refine bodyPost_ret (v := .bool true) (by simp [results, Try.results7, go_sem]) rfl ⟨rfl, HB11.out⟩
end Go.Proofs.Ytcjohhminiedfaa
