/- NamesPlays: the walk. -/
import Derived.Test.YtlcglkanlhmmdaaGreatQZ17Plays
import Derived.Test.YtlcglkanlhmmdaaGreatQN17LawP
namespace Go.Proofs.YtlcglkanlhmmdaaGreat
open Go.RowKit
theorem range_act2 {W : World} {b : Nat} {d : Int} {s : ByteArray} {o : Nd} {v : Value} (h : W.heap[b]? = some (.cells (acells d s o v).toArray 44)) : W.rangeAt b 2 (ncells o v) := fun j u hu => by
  rw [cell_of_heap h, List.getElem?_toArray, show 2 + j = j + 1 + 1 from by omega]
  exact hu
set_option maxHeartbeats 4000000 in
set_option maxRecDepth 100000 in
theorem plays_law (l : List Deed) (hl : l.length ≤ 2097152) (hz : ∀ x ∈ l, x.t.size ≤ 2097152 ∧ x.t.fit ∧ x.nm.size ≤ 1048576) (hd : ∀ x ∈ l, 0 ≤ x.d ∧ x.d ≤ 255) (a : Option Addr) (cap : Nat) (w : World) (hA : ActsAt w a l) :
    Calls Tryz.prog 3 #[.slice a l.length cap] w fun e w' => e = .returned (.bool true) ∧ Below w.heap.size w w' := by
  have HA := Lib.hid hA
  have HZ := Lib.hid hz
  have HD := Lib.hid hd
  obtain ⟨n, hn⟩ : ∃ n, l.length = n := ⟨_, rfl⟩
  rw [hn] at hl ⊢
  have HN := Lib.hid hn
  clear hA hz hn hd
  go_enter Tryz.func3, Tryz.ntmps3
  go_wp2_with fail
  refine (awake_any w).mono ?_
  rintro e w1 ⟨rfl, hb1⟩
  have B1 : Hid (Below w.heap.size w w1) := hb1
  clear hb1
  have GR := Lib.hid (greats_any l (fun x hx => ⟨(HZ.out x hx).1, Nat.le_trans (HZ.out x hx).2.2 (by omega)⟩) (by rw [HN.out]; exact hl) a cap w1 (HA.out.below B1.out))
  rw [HN.out] at GR
  go_wp2_with fail
  refine GR.out.mono ?_
  rintro e w2 ⟨rfl, hb2⟩
  have B2 : Hid (Below w.heap.size w w2) := B1.out.trans (hb2.mono B1.out.size)
  clear hb2 GR B1
  cases hg : greatP l with
  | true =>
    go_wp2_with fail
    refine (awake_any w2).mono ?_
    rintro e w3 ⟨rfl, hb3⟩
    have B3 : Hid (Below w.heap.size w w3) := B2.out.trans (hb3.mono B2.out.size)
    clear hb3
    go_wp2_with fail
    go_ret
    exact ⟨rfl, B3.out⟩
  | false =>
  obtain ⟨h30, hall⟩ := greatP_no hg
  rw [HN.out] at h30
  have HALL := Lib.hid hall
  clear hg hall
  go_wp2_with fail
  refine (new_any w2).mono ?_
  rintro e w3 ⟨rfl, hw3⟩
  obtain ⟨pt, hpt⟩ : ∃ pt, pt = w2.heap.size := ⟨_, rfl⟩
  have hs3 : w3.heap.size = w2.heap.size + 1 := by rw [hw3]; simp
  have hT3 : TabK w2.heap.size w3 pt none [] := by rw [hw3, hpt]; exact ⟨heap_alloc_new w2 _, rfl, Nat.le_refl _, fun _ h => by cases h⟩
  have hb3 : Below w2.heap.size w2 w3 := by rw [hw3]; exact below_alloc _ _ _ (Nat.le_refl _)
  rw [← hpt]
  have HPT := Lib.hid hpt
  have HS3 := Lib.hid hs3
  have HT3 := Lib.hid hT3
  have HB3 := Lib.hid hb3
  clear hw3 hpt hs3 hT3 hb3
  go_upto_region 4 with (refine wpList_build0 rfl 29 rfl _ build_29 ?_)
  refine abs_world ?_
  intro W4 hW4
  have g4 : W4.heap[w3.heap.size]? = some (.cells #[.slice none 0 0] 29) := by rw [hW4]; first | exact heap_alloc_new w3 _ | exact heap_setCell_at (heap_alloc_new w3 _) 0 _
  have hb4 : Below w3.heap.size w3 W4 := by rw [hW4]; (repeat (first | with_reducible exact Below.refl _ _ | with_reducible exact hBW | with_reducible refine Below.setCell ?_ ?_ _ | with_reducible refine Below.alloc ?_ ?_ _ | with_reducible refine belowN ?_ _ | with_reducible refine Below.drew ?_)); all_goals (first | omega | (dsimp only; omega) | ((repeat (first | with_reducible refine le_alloc ?_ | with_reducible refine le_setCell ?_ | with_reducible refine le_drew ?_ | with_reducible refine le_drewN ?_)); omega))
  clear hW4
  obtain ⟨b4, hb4e⟩ : ∃ b4, b4 = w3.heap.size := ⟨_, rfl⟩
  rw [← hb4e] at g4 ⊢
  have I0 : Hid (PlI w2 l pt b4 none [] [] none 0 W4) := ⟨HT3.out.below hb4, g4, fun h => by simp at h, Agree.nil, List.Pairwise.nil, Nat.le_refl _, HB3.out.trans (hb4.mono HB3.out.size), fun p hp => by cases hp⟩
  have hp4 : Hid (pt ≠ b4) := by have := HPT.out; have := HS3.out; show ¬ _; omega
  have h4x : Hid (w2.heap.size ≤ b4) := by have := HS3.out; show _ ≤ _; omega
  clear g4 hb4 hb4e HPT HS3 HT3 HB3
  go_wp2_with fail
  go_loopg [5] n (fun gh s5 wr => ∃ (k : Nat) (mo : Option Nat) (L R : List (ByteArray × T)) (ra : Option Addr) (rc : Nat), s5 = .int .i64 (k : Int) ∧ gh = n - k ∧ k ≤ n ∧ L.length ≤ k ∧ Hid (PlI w2 l pt b4 mo L R ra rc wr))
  case atStart => exact ⟨0, none, [], [], none, 0, rfl, rfl, Nat.zero_le _, Nat.le_refl _, I0⟩
  clear I0
  case round =>
    obtain ⟨k, mo, L, R, ra, rc, rfl, rfl, hk, hLk, hI⟩ := hrel
    by_cases hlt : k < n
    · obtain ⟨x, hx⟩ : ∃ x, l[k]? = some x := ⟨_, List.getElem?_eq_getElem (by rw [HN.out]; exact hlt)⟩
      obtain ⟨q, qo, rfl, hq, hall⟩ := HA.out (by rw [HN.out]; omega)
      obtain ⟨hc0, hc1, ta, tc, hc, hat⟩ := hall k x hx
      have BW : Hid (Below w.heap.size w wr) := B2.out.trans (hI.out.bel.mono B2.out.size)
      have RA := Lib.hid (range_act ((BW.out.cell (p := ⟨q, _, none⟩) hq).trans hc0) ((BW.out.cell (p := ⟨q, _, none⟩) hq).trans hc1) (fun j hj => (BW.out.cell (p := ⟨q, _, none⟩) hq).trans (hc j hj)))
      have HAT := Lib.hid hat
      have HZX := Lib.hid (HZ.out x (List.mem_of_getElem? hx))
      have HDX := Lib.hid (HD.out x (List.mem_of_getElem? hx))
      have HAX := Lib.hid (HALL.out x (List.mem_of_getElem? hx))
      have j1 : (0 : Int) ≤ (k : Int) := by omega
      have j2 : (k : Int) < (n : Int) := by omega
      clear hall hc0 hc1 hc hat hx hq
      go_upto_region 8 with (first | refine wpList_load_g rfl 44 (.tmp 34) rfl q (qo + k * 24) rfl _ _ RA.out Tryz.underlying44 rfl info44 ?_ | refine wpList_store_new rfl 44 (.tmp 6) (.tmp 35) rfl wr.heap.size rfl _ (acells x.d x.nm x.t.o (.slice ta x.t.l.length tc)) 44 rfl rfl rfl info44 (one_act x.d x.nm x.t.o rfl) ?_)
      refine abs_world ?_
      intro W6 hW6
      have g6 : W6.heap[wr.heap.size]? = some (.cells (acells x.d x.nm x.t.o (.slice ta x.t.l.length tc)).toArray 44) := by rw [hW6]; exact heap_alloc_new wr _
      have hb6 : Below wr.heap.size wr W6 := by rw [hW6]; exact below_alloc _ _ _ (Nat.le_refl _)
      clear hW6
      obtain ⟨b6, hb6e⟩ : ∃ b6, b6 = wr.heap.size := ⟨_, rfl⟩
      rw [← hb6e] at g6 ⊢
      have I6 := Lib.hid (hI.out.below hb6)
      have B6 : Hid (Below w.heap.size w W6) := BW.out.trans (hb6.mono BW.out.size)
      have x1 : W6.cell? ⟨b6, 1, none⟩ = some (.string x.nm) := cell_of_heap g6 1
      have z6 := lt_of_heap g6
      have G6 := Lib.hid g6
      have nq := fun W => neq_bool W (nameP x.nm)
      clear g6 hb6 hb6e hI BW RA
      try go_wp2_with fail
      refine wp_region_multiR [([0, 1, 3, 4], [2, 5], [5, 6]), ([6], [], [])] (by kernel_rfl) (by kernel_rfl) ?_
      refine multi_phase (Below W6.heap.size W6) (Below.refl _ _).drew ?_
      iterate 4 (first | (apply first_step; (rw [List.getElem?_toArray]; (repeat rw [List.getElem?_cons_succ]); rw [List.getElem?_cons_zero]); rfl; (intro W hB; have hc := bcellB hB; go_simp; (first | done | rfl)); go_frame) | (apply first_skip; (rw [List.getElem?_toArray]; (repeat rw [List.getElem?_cons_succ]); rw [List.getElem?_cons_zero]); rfl; go_frame))
      refine first_done ?_
      clear x1 z6
      apply forced_step; (rw [List.getElem?_toArray]; (repeat rw [List.getElem?_cons_succ]); rw [List.getElem?_cons_zero]); rfl; intro K hK; go_simp
      refine (rightN_any x.nm HZX.out.2.2 W6.drew).mono ?_
      rintro e w7 ⟨rfl, hb7⟩
      have hB7 : Hid (Below W6.heap.size W6 w7) := (Below.refl _ W6).drew.trans hb7
      refine hK _ _ (fun _ => hB7.out) ?_
      clear hK K hb7
      apply forced_step; (rw [List.getElem?_toArray]; (repeat rw [List.getElem?_cons_succ]); rw [List.getElem?_cons_zero]); rfl; intro K hK; go_simp
      refine (name_any x.nm HZX.out.2.2 w7).mono ?_
      rintro e w8 ⟨rfl, rfl⟩
      refine hK _ _ (fun h => absurd (by decide) h) ?_
      clear hK K
      refine forced_done ?_
      refine multi_phase (fun _ => True) trivial ?_
      apply first_step; (rw [List.getElem?_toArray]; (repeat rw [List.getElem?_cons_succ]); rw [List.getElem?_cons_zero]); rfl; (intro W hB; go_simp; (first | done | rfl)); go_frame
      refine first_done ?_
      refine forced_done ?_
      refine multi_done ?_
      clear nq
      have I7 := Lib.hid (I6.out.below hB7.out)
      have B7 : Hid (Below w.heap.size w w7) := B6.out.trans (hB7.out.mono B6.out.size)
      have G7 : Hid (w7.heap[b6]? = some (.cells (acells x.d x.nm x.t.o (.slice ta x.t.l.length tc)).toArray 44)) := (hB7.out.block _ (lt_of_heap G6.out)).trans G6.out
      have hszL : Hid (∀ p ∈ L, p.2.size ≤ 2097152) := fun p hp => Nat.le_trans (I7.out.sz p hp).1 (by omega)
      clear I6 B6 G6 hB7
      go_wp2_with fail
      refine (clone_any _ pt mo L hszL.out w7 I7.out.tab).mono ?_
      rintro e w9 ⟨pc, mc, Lc, rfl, hTc, hAc, hb9⟩
      have I9 := Lib.hid (I7.out.below hb9)
      have HTC := Lib.hid hTc
      have HAC := Lib.hid hAc
      have B9 : Hid (Below w.heap.size w w9) := B7.out.trans (hb9.mono B7.out.size)
      have G9 : Hid (w9.heap[b6]? = some (.cells (acells x.d x.nm x.t.o (.slice ta x.t.l.length tc)).toArray 44)) := (hb9.block _ (lt_of_heap G7.out)).trans G7.out
      have H79 : Hid (w7.heap.size ≤ w9.heap.size) := hb9.size
      have HB : Hid (b4 < w7.heap.size ∧ pt < w7.heap.size ∧ (∀ m, mo = some m → m < w7.heap.size) ∧ b6 < w7.heap.size ∧ w2.heap.size ≤ w7.heap.size) := ⟨lt_of_heap I7.out.var, lt_of_heap I7.out.tab.1, fun m hm => by have h := I7.out.tab; rw [hm] at h; exact h.map_lt2, lt_of_heap G7.out, I7.out.bel.size⟩
      have x4 := cell_of_heap I9.out.var 0
      have z4 := lt_of_heap I9.out.var
      clear hTc hAc hb9 I7 B7 G7 hszL
      go_upto_region 12 with fail
      refine abs_world ?_
      intro W10 hW10
      have g10 : W10.heap[w9.heap.size]? = some (.cells #[.slice ra R.length rc] 29) := by rw [hW10]; exact heap_alloc_new w9 _
      have hb10 : Below w9.heap.size w9 W10 := by rw [hW10]; (repeat (first | with_reducible exact Below.refl _ _ | with_reducible exact hBW | with_reducible refine Below.setCell ?_ ?_ _ | with_reducible refine Below.alloc ?_ ?_ _ | with_reducible refine belowN ?_ _ | with_reducible refine Below.drew ?_)); all_goals (first | omega | (dsimp only; omega) | ((repeat (first | with_reducible refine le_alloc ?_ | with_reducible refine le_setCell ?_ | with_reducible refine le_drew ?_ | with_reducible refine le_drewN ?_)); omega))
      have DU : Hid (Duo2 w2 l pt b4 w7.heap.size pc w9.heap.size mc Lc R ra rc mo L R ra rc W10) := ⟨I9.out.below hb10, ⟨HTC.out.below hb10, g10, I9.out.rows.below hb10⟩⟩
      obtain ⟨b8, hb8e⟩ : ∃ b8, b8 = w9.heap.size := ⟨_, rfl⟩
      rw [← hb8e] at DU ⊢
      have H8 : Hid (w7.heap.size ≤ b8) := by rw [hb8e]; exact H79.out
      have G10 : Hid (W10.heap[b6]? = some (.cells (acells x.d x.nm x.t.o (.slice ta x.t.l.length tc)).toArray 44)) := (hb10.block _ (lt_of_heap G9.out)).trans G9.out
      have B10 : Hid (Below w.heap.size w W10) := B9.out.trans (hb10.mono B9.out.size)
      clear hW10 g10 hb10 hb8e I9 HTC B9 G9 H79 x4 z4
      have x0 : W10.cell? ⟨b6, 0, none⟩ = some (.int .u8 x.d) := cell_of_heap G10.out 0
      have x1 : W10.cell? ⟨b6, 1, none⟩ = some (.string x.nm) := cell_of_heap G10.out 1
      have z6 := lt_of_heap G10.out
      have RN10 := Lib.hid (range_act2 G10.out)
      have HK : Hid (R.length ≤ 2097152 ∧ w2.heap.size ≤ W10.heap.size) := ⟨by rw [DU.out.pl.agr.len]; omega, DU.out.pl.bel.size⟩
      have x4 : W10.cell? ⟨b4, 0, none⟩ = some (.slice ra R.length rc) := cell_of_heap DU.out.pl.var 0
      have z4 := lt_of_heap DU.out.pl.var
      by_cases hd0 : x.d.tmod 4 = 0
      · have c0 : (x.d.tmod 4 == 0) = true := by simp [hd0]
        clear hd0
        go_upto_region 19 with fail
        go_wp2_with (refine wpList_load_g rfl 42 (.tmp 79) rfl b6 2 rfl _ _ RN10.out Tryz.underlying42 rfl info35 ?_)
        refine (rset_anyZ R HK.out.1 ra rc DU.out.pl.cap x.nm HZX.out.2.2 x.t HZX.out.1 HZX.out.2.1 _ W10 DU.out.pl.rows ⟨ta, tc, rfl, HAT.out.below B10.out x.t⟩).mono ?_
        rintro e w5 ⟨⟨a5, c5, rfl, hR5, hc5⟩, hb5⟩
        rw [DU.out.pl.agr.setE]
        obtain ⟨R5, hR5e⟩ : ∃ R5, R5 = rsetL R x.nm x.t := ⟨_, rfl⟩
        obtain ⟨z5, hz5⟩ : ∃ z5, z5 = setE L x.nm x.t := ⟨_, rfl⟩
        rw [← hR5e] at hR5 hc5 ⊢
        rw [← hz5]
        have HR5 := Lib.hid hR5
        have HC5 := Lib.hid hc5
        have HE5 := Lib.hid hR5e
        have HZ5 := Lib.hid hz5
        have HB5 := Lib.hid hb5
        clear hR5 hc5 hR5e hz5 hb5 x0 x1 z6 x4 z4
        go_upto_region 20 with fail
        refine abs_world ?_
        intro W6 hW6
        have g9 : W6.heap[w5.heap.size]? = some (.cells #[.slice a5 R5.length c5] 29) := by rw [hW6]; exact heap_alloc_new w5 _
        have hb6 : Below w5.heap.size w5 W6 := by rw [hW6]; (repeat (first | with_reducible exact Below.refl _ _ | with_reducible exact hBW | with_reducible refine Below.setCell ?_ ?_ _ | with_reducible refine Below.alloc ?_ ?_ _ | with_reducible refine belowN ?_ _ | with_reducible refine Below.drew ?_)); all_goals (first | omega | (dsimp only; omega) | ((repeat (first | with_reducible refine le_alloc ?_ | with_reducible refine le_setCell ?_ | with_reducible refine le_drew ?_ | with_reducible refine le_drewN ?_)); omega))
        obtain ⟨b9, hb9⟩ : ∃ b9, b9 = w5.heap.size := ⟨_, rfl⟩
        have B56 : Hid (Below W10.heap.size W10 W6) := HB5.out.trans (hb6.mono HB5.out.size)
        have HR6 := Lib.hid (HR5.out.below hb6)
        have HG9 := Lib.hid g9
        have H9 : Hid (W10.heap.size ≤ b9) := by rw [hb9]; exact HB5.out.size
        rw [← hb9] at HG9 ⊢
        have D6 := Lib.hid (DU.out.below B56.out)
        have G6 : Hid (W6.heap[b6]? = some (.cells (acells x.d x.nm x.t.o (.slice ta x.t.l.length tc)).toArray 44)) := (B56.out.block _ (lt_of_heap G10.out)).trans G10.out
        have B6 : Hid (Below w.heap.size w W6) := B10.out.trans (B56.out.mono B10.out.size)
        clear hW6 g9 hb6 HR5 HB5 hb9
        have x1 : W6.cell? ⟨b6, 1, none⟩ = some (.string x.nm) := cell_of_heap G6.out 1
        have RN6 := Lib.hid (range_act2 G6.out)
        have z6 := lt_of_heap G6.out
        go_wp2_with (refine wpList_load_g rfl 42 (.tmp 87) rfl b6 2 rfl _ _ RN6.out Tryz.underlying42 rfl info35 ?_)
        refine (set_any w2.heap.size pt mo L x.nm HZX.out.2.2 x.t HZX.out.1 HZX.out.2.1 _ W6 D6.out.pl.tab ⟨ta, tc, rfl, HAT.out.below B6.out x.t⟩).mono ?_
        rintro e w8 ⟨rfl, ⟨mo5, hT5, hm5⟩, hf5⟩
        rw [← HZ5.out]
        have HT5 := Lib.hid hT5
        have HF5 := Lib.hid hf5
        have hbp := HB.out
        have HH9 : Hid (w8.heap[b9]? = some (.cells #[.slice a5 R5.length c5] 29)) := (hf5.block b9 (lt_of_heap HG9.out) (by
          rintro ⟨_, e | e⟩
          · have := H9.out; have := D6.out.pl.bel.size; have := lt_of_heap DU.out.pl.tab.1; omega
          · have := H9.out; have := lt_of_heap DU.out.pl.var; have := hbp.2.2.1 b9 e; have := lt_of_heap DU.out.was.var; have := H8.out; omega)).trans HG9.out
        have HV5 : Hid (w8.heap[b4]? = some (.cells #[.slice ra R.length rc] 29)) := (hf5.block b4 (lt_of_heap D6.out.pl.var) (by
          rintro ⟨_, e | e⟩
          · exact hp4.out e.symm
          · exact D6.out.pl.tab.map_ne D6.out.pl.var b4 e rfl)).trans D6.out.pl.var
        have x9 := cell_of_heap HH9.out 0
        have q9 := lt_of_heap HH9.out
        have x4 := cell_of_heap HV5.out 0
        have y4 := frozen_of_heap HV5.out
        have z4 := lt_of_heap HV5.out
        clear hT5 hf5 hbp x1 z6 hm5
        go_upto_region 28 with fail
        refine abs_world ?_
        intro wc hwc
        have hx6 : w2.heap.size ≤ W6.heap.size := D6.out.pl.bel.size
        have D5 : Hid (Duo2 w2 l pt b4 w7.heap.size pc b8 mc Lc R ra rc mo5 (setL L x.nm x.t) R5 a5 c5 wc) := by
          refine D6.out.step hx6 hp4.out h4x.out HB.out.1 HB.out.2.1 HB.out.2.2.1 H8.out HT5.out HF5.out HR6.out ?_ ?_ HC5.out (set_sz D6.out.pl.sz HAX.out.2.1 HAX.out.1) (Below.refl _ _) hwc
          · rw [HE5.out]; exact DU.out.pl.agr.set _ _
          · rw [HE5.out]; exact rset_rise DU.out.pl.rise _ _
        have HL5 : Hid ((setL L x.nm x.t).length ≤ k + 1) := Nat.le_trans (setL_length L x.nm x.t) (by omega)
        obtain ⟨L5, hL5⟩ : ∃ L5, L5 = setL L x.nm x.t := ⟨_, rfl⟩
        rw [← hL5] at D5 HL5
        clear hwc hL5 x9 q9 x4 y4 z4 HT5 HF5 HH9 HV5 D6 HR6 HC5 HE5 HG9
        have y4 := cell_of_heap D5.out.pl.var 0
        have zz4 := lt_of_heap D5.out.pl.var
        have hk1 : k + 1 ≤ 30 := by omega
        have SM := same17_any w2.heap.size pt mo5 L5 R5 D5.out.pl.agr D5.out.pl.rise (Nat.le_trans HL5.out (by omega)) (fun p hp => ⟨Nat.le_trans (D5.out.pl.sz p hp).1 (by omega), Nat.le_trans (D5.out.pl.sz p hp).2 (by omega)⟩) a5 c5 wc D5.out.pl.tab D5.out.pl.rows
        go_wp2_with fail
        refine SM.mono ?_
        rintro e wd ⟨rfl, hbd⟩
        have DD := Lib.hid (D5.out.below hbd)
        clear SM hbd y4 zz4 D5
        have y4 := cell_of_heap DD.out.was.var 0
        have zz4 := lt_of_heap DD.out.was.var
        have SM := same17_any w7.heap.size pc mc Lc R (DU.out.pl.agr.via HAC.out) DU.out.pl.rise (by rw [HAC.out.len]; omega) (fun p hp => ⟨Nat.le_trans (DU.out.pl.sz p (HAC.out.perm.mem_iff.1 hp)).1 (by omega), Nat.le_trans (DU.out.pl.sz p (HAC.out.perm.mem_iff.1 hp)).2 (by omega)⟩) ra rc wd DD.out.was.tab DD.out.was.rows
        go_wp2_with fail
        refine SM.mono ?_
        rintro e we ⟨rfl, hbe⟩
        have DE := Lib.hid (DD.out.below hbe)
        clear SM hbe y4 zz4 DD
        go_wp2_with fail
        go_roundg (n - (k + 1))
        case measure => omega
        case rel => exact ⟨k + 1, mo5, L5, R5, a5, c5, by go_num, rfl, by omega, HL5.out, Lib.hid DE.out.pl⟩
      by_cases hd1 : x.d.tmod 4 = 1
      · have c0 : (x.d.tmod 4 == 0) = false := by simp [hd1]
        have c1 : (x.d.tmod 4 == 1) = true := by simp [hd1]
        clear hd0 hd1
        go_upto_region 19 with fail
        go_wp2_with (refine wpList_load_g rfl 42 (.tmp 79) rfl b6 2 rfl _ _ RN10.out Tryz.underlying42 rfl info35 ?_)
        refine (rset_anyZ R HK.out.1 ra rc DU.out.pl.cap x.nm HZX.out.2.2 x.t HZX.out.1 HZX.out.2.1 _ W10 DU.out.pl.rows ⟨ta, tc, rfl, HAT.out.below B10.out x.t⟩).mono ?_
        rintro e w5 ⟨⟨a5, c5, rfl, hR5, hc5⟩, hb5⟩
        rw [DU.out.pl.agr.setE]
        obtain ⟨R5, hR5e⟩ : ∃ R5, R5 = rsetL R x.nm x.t := ⟨_, rfl⟩
        obtain ⟨z5, hz5⟩ : ∃ z5, z5 = setE L x.nm x.t := ⟨_, rfl⟩
        rw [← hR5e] at hR5 hc5 ⊢
        rw [← hz5]
        have HR5 := Lib.hid hR5
        have HC5 := Lib.hid hc5
        have HE5 := Lib.hid hR5e
        have HZ5 := Lib.hid hz5
        have HB5 := Lib.hid hb5
        clear hR5 hc5 hR5e hz5 hb5 x0 x1 z6 x4 z4
        go_upto_region 20 with fail
        refine abs_world ?_
        intro W6 hW6
        have g9 : W6.heap[w5.heap.size]? = some (.cells #[.slice a5 R5.length c5] 29) := by rw [hW6]; exact heap_alloc_new w5 _
        have hb6 : Below w5.heap.size w5 W6 := by rw [hW6]; (repeat (first | with_reducible exact Below.refl _ _ | with_reducible exact hBW | with_reducible refine Below.setCell ?_ ?_ _ | with_reducible refine Below.alloc ?_ ?_ _ | with_reducible refine belowN ?_ _ | with_reducible refine Below.drew ?_)); all_goals (first | omega | (dsimp only; omega) | ((repeat (first | with_reducible refine le_alloc ?_ | with_reducible refine le_setCell ?_ | with_reducible refine le_drew ?_ | with_reducible refine le_drewN ?_)); omega))
        obtain ⟨b9, hb9⟩ : ∃ b9, b9 = w5.heap.size := ⟨_, rfl⟩
        have B56 : Hid (Below W10.heap.size W10 W6) := HB5.out.trans (hb6.mono HB5.out.size)
        have HR6 := Lib.hid (HR5.out.below hb6)
        have HG9 := Lib.hid g9
        have H9 : Hid (W10.heap.size ≤ b9) := by rw [hb9]; exact HB5.out.size
        rw [← hb9] at HG9 ⊢
        have D6 := Lib.hid (DU.out.below B56.out)
        have G6 : Hid (W6.heap[b6]? = some (.cells (acells x.d x.nm x.t.o (.slice ta x.t.l.length tc)).toArray 44)) := (B56.out.block _ (lt_of_heap G10.out)).trans G10.out
        have B6 : Hid (Below w.heap.size w W6) := B10.out.trans (B56.out.mono B10.out.size)
        clear hW6 g9 hb6 HR5 HB5 hb9
        have x1 : W6.cell? ⟨b6, 1, none⟩ = some (.string x.nm) := cell_of_heap G6.out 1
        have RN6 := Lib.hid (range_act2 G6.out)
        have z6 := lt_of_heap G6.out
        go_wp2_with (refine wpList_load_g rfl 42 (.tmp 87) rfl b6 2 rfl _ _ RN6.out Tryz.underlying42 rfl info35 ?_)
        refine (set_any w2.heap.size pt mo L x.nm HZX.out.2.2 x.t HZX.out.1 HZX.out.2.1 _ W6 D6.out.pl.tab ⟨ta, tc, rfl, HAT.out.below B6.out x.t⟩).mono ?_
        rintro e w8 ⟨rfl, ⟨mo5, hT5, hm5⟩, hf5⟩
        rw [← HZ5.out]
        have HT5 := Lib.hid hT5
        have HF5 := Lib.hid hf5
        have hbp := HB.out
        have HH9 : Hid (w8.heap[b9]? = some (.cells #[.slice a5 R5.length c5] 29)) := (hf5.block b9 (lt_of_heap HG9.out) (by
          rintro ⟨_, e | e⟩
          · have := H9.out; have := D6.out.pl.bel.size; have := lt_of_heap DU.out.pl.tab.1; omega
          · have := H9.out; have := lt_of_heap DU.out.pl.var; have := hbp.2.2.1 b9 e; have := lt_of_heap DU.out.was.var; have := H8.out; omega)).trans HG9.out
        have HV5 : Hid (w8.heap[b4]? = some (.cells #[.slice ra R.length rc] 29)) := (hf5.block b4 (lt_of_heap D6.out.pl.var) (by
          rintro ⟨_, e | e⟩
          · exact hp4.out e.symm
          · exact D6.out.pl.tab.map_ne D6.out.pl.var b4 e rfl)).trans D6.out.pl.var
        have x9 := cell_of_heap HH9.out 0
        have q9 := lt_of_heap HH9.out
        have x4 := cell_of_heap HV5.out 0
        have y4 := frozen_of_heap HV5.out
        have z4 := lt_of_heap HV5.out
        clear hT5 hf5 hbp x1 z6 hm5
        go_upto_region 28 with fail
        refine abs_world ?_
        intro wc hwc
        have hx6 : w2.heap.size ≤ W6.heap.size := D6.out.pl.bel.size
        have D5 : Hid (Duo2 w2 l pt b4 w7.heap.size pc b8 mc Lc R ra rc mo5 (setL L x.nm x.t) R5 a5 c5 wc) := by
          refine D6.out.step hx6 hp4.out h4x.out HB.out.1 HB.out.2.1 HB.out.2.2.1 H8.out HT5.out HF5.out HR6.out ?_ ?_ HC5.out (set_sz D6.out.pl.sz HAX.out.2.1 HAX.out.1) (Below.refl _ _) hwc
          · rw [HE5.out]; exact DU.out.pl.agr.set _ _
          · rw [HE5.out]; exact rset_rise DU.out.pl.rise _ _
        have HL5 : Hid ((setL L x.nm x.t).length ≤ k + 1) := Nat.le_trans (setL_length L x.nm x.t) (by omega)
        obtain ⟨L5, hL5⟩ : ∃ L5, L5 = setL L x.nm x.t := ⟨_, rfl⟩
        rw [← hL5] at D5 HL5
        clear hwc hL5 x9 q9 x4 y4 z4 HT5 HF5 HH9 HV5 D6 HR6 HC5 HE5 HG9
        have y4 := cell_of_heap D5.out.pl.var 0
        have zz4 := lt_of_heap D5.out.pl.var
        have hk1 : k + 1 ≤ 30 := by omega
        have SM := same17_any w2.heap.size pt mo5 L5 R5 D5.out.pl.agr D5.out.pl.rise (Nat.le_trans HL5.out (by omega)) (fun p hp => ⟨Nat.le_trans (D5.out.pl.sz p hp).1 (by omega), Nat.le_trans (D5.out.pl.sz p hp).2 (by omega)⟩) a5 c5 wc D5.out.pl.tab D5.out.pl.rows
        go_wp2_with fail
        refine SM.mono ?_
        rintro e wd ⟨rfl, hbd⟩
        have DD := Lib.hid (D5.out.below hbd)
        clear SM hbd y4 zz4 D5
        have y4 := cell_of_heap DD.out.was.var 0
        have zz4 := lt_of_heap DD.out.was.var
        have SM := same17_any w7.heap.size pc mc Lc R (DU.out.pl.agr.via HAC.out) DU.out.pl.rise (by rw [HAC.out.len]; omega) (fun p hp => ⟨Nat.le_trans (DU.out.pl.sz p (HAC.out.perm.mem_iff.1 hp)).1 (by omega), Nat.le_trans (DU.out.pl.sz p (HAC.out.perm.mem_iff.1 hp)).2 (by omega)⟩) ra rc wd DD.out.was.tab DD.out.was.rows
        go_wp2_with fail
        refine SM.mono ?_
        rintro e we ⟨rfl, hbe⟩
        have DE := Lib.hid (DD.out.below hbe)
        clear SM hbe y4 zz4 DD
        go_wp2_with fail
        go_roundg (n - (k + 1))
        case measure => omega
        case rel => exact ⟨k + 1, mo5, L5, R5, a5, c5, by go_num, rfl, by omega, HL5.out, Lib.hid DE.out.pl⟩
      by_cases hd2 : x.d.tmod 4 = 2
      · have c0 : (x.d.tmod 4 == 0) = false := by simp [hd2]
        have c1 : (x.d.tmod 4 == 1) = false := by simp [hd2]
        have c2 : (x.d.tmod 4 == 2) = true := by simp [hd2]
        clear hd0 hd1 hd2
        go_upto_region 24 with fail
        go_wp2_with fail
        refine (rdrop_any R HK.out.1 DU.out.pl.rise.nodup ra rc DU.out.pl.cap x.nm W10 DU.out.pl.rows).mono ?_
        rintro e w5 ⟨⟨a5, c5, rfl, hR5, hc5⟩, hb5⟩
        rw [show dropE R x.nm = dropT L x.nm from by unfold dropE dropT; rw [DU.out.pl.agr.get]]
        obtain ⟨R5, hR5e⟩ : ∃ R5, R5 = delL R x.nm := ⟨_, rfl⟩
        obtain ⟨z5, hz5⟩ : ∃ z5, z5 = dropT L x.nm := ⟨_, rfl⟩
        rw [← hR5e] at hR5 hc5 ⊢
        rw [← hz5]
        have HR5 := Lib.hid hR5
        have HC5 := Lib.hid hc5
        have HE5 := Lib.hid hR5e
        have HZ5 := Lib.hid hz5
        have HB5 := Lib.hid hb5
        clear hR5 hc5 hR5e hz5 hb5 x0 x1 z6 x4 z4
        go_upto_region 25 with fail
        refine abs_world ?_
        intro W6 hW6
        have g9 : W6.heap[w5.heap.size]? = some (.cells #[.slice a5 R5.length c5] 29) := by rw [hW6]; exact heap_alloc_new w5 _
        have hb6 : Below w5.heap.size w5 W6 := by rw [hW6]; (repeat (first | with_reducible exact Below.refl _ _ | with_reducible exact hBW | with_reducible refine Below.setCell ?_ ?_ _ | with_reducible refine Below.alloc ?_ ?_ _ | with_reducible refine belowN ?_ _ | with_reducible refine Below.drew ?_)); all_goals (first | omega | (dsimp only; omega) | ((repeat (first | with_reducible refine le_alloc ?_ | with_reducible refine le_setCell ?_ | with_reducible refine le_drew ?_ | with_reducible refine le_drewN ?_)); omega))
        obtain ⟨b9, hb9⟩ : ∃ b9, b9 = w5.heap.size := ⟨_, rfl⟩
        have B56 : Hid (Below W10.heap.size W10 W6) := HB5.out.trans (hb6.mono HB5.out.size)
        have HR6 := Lib.hid (HR5.out.below hb6)
        have HG9 := Lib.hid g9
        have H9 : Hid (W10.heap.size ≤ b9) := by rw [hb9]; exact HB5.out.size
        rw [← hb9] at HG9 ⊢
        have D6 := Lib.hid (DU.out.below B56.out)
        have G6 : Hid (W6.heap[b6]? = some (.cells (acells x.d x.nm x.t.o (.slice ta x.t.l.length tc)).toArray 44)) := (B56.out.block _ (lt_of_heap G10.out)).trans G10.out
        have B6 : Hid (Below w.heap.size w W6) := B10.out.trans (B56.out.mono B10.out.size)
        clear hW6 g9 hb6 HR5 HB5 hb9
        have x1 : W6.cell? ⟨b6, 1, none⟩ = some (.string x.nm) := cell_of_heap G6.out 1
        have z6 := lt_of_heap G6.out
        go_wp2_with fail
        refine (drop_any w2.heap.size pt mo L x.nm W6 D6.out.pl.tab).mono ?_
        rintro e w8 ⟨rfl, hT5, hf5⟩
        rw [← HZ5.out]
        have HT5 := Lib.hid hT5
        have HF5 := Lib.hid hf5
        have hbp := HB.out
        have HH9 : Hid (w8.heap[b9]? = some (.cells #[.slice a5 R5.length c5] 29)) := (hf5.block b9 (lt_of_heap HG9.out) (by
          rintro ⟨_, e | e⟩
          · have := H9.out; have := D6.out.pl.bel.size; have := lt_of_heap DU.out.pl.tab.1; omega
          · have := H9.out; have := lt_of_heap DU.out.pl.var; have := hbp.2.2.1 b9 e; have := lt_of_heap DU.out.was.var; have := H8.out; omega)).trans HG9.out
        have HV5 : Hid (w8.heap[b4]? = some (.cells #[.slice ra R.length rc] 29)) := (hf5.block b4 (lt_of_heap D6.out.pl.var) (by
          rintro ⟨_, e | e⟩
          · exact hp4.out e.symm
          · exact D6.out.pl.tab.map_ne D6.out.pl.var b4 e rfl)).trans D6.out.pl.var
        have x9 := cell_of_heap HH9.out 0
        have q9 := lt_of_heap HH9.out
        have x4 := cell_of_heap HV5.out 0
        have y4 := frozen_of_heap HV5.out
        have z4 := lt_of_heap HV5.out
        clear hT5 hf5 hbp x1 z6
        go_upto_region 28 with fail
        refine abs_world ?_
        intro wc hwc
        have hx6 : w2.heap.size ≤ W6.heap.size := D6.out.pl.bel.size
        have D5 : Hid (Duo2 w2 l pt b4 w7.heap.size pc b8 mc Lc R ra rc mo (delL L x.nm) R5 a5 c5 wc) := by
          refine D6.out.step hx6 hp4.out h4x.out HB.out.1 HB.out.2.1 HB.out.2.2.1 H8.out HT5.out HF5.out HR6.out ?_ ?_ HC5.out (del_sz D6.out.pl.sz) (Below.refl _ _) hwc
          · rw [HE5.out]; exact DU.out.pl.agr.del _
          · rw [HE5.out]; exact DU.out.pl.rise.del _
        have HL5 : Hid ((delL L x.nm).length ≤ k + 1) := Nat.le_trans (del_sub L x.nm).length_le (by omega)
        obtain ⟨L5, hL5⟩ : ∃ L5, L5 = delL L x.nm := ⟨_, rfl⟩
        rw [← hL5] at D5 HL5
        clear hwc hL5 x9 q9 x4 y4 z4 HT5 HF5 HH9 HV5 D6 HR6 HC5 HE5 HG9
        have y4 := cell_of_heap D5.out.pl.var 0
        have zz4 := lt_of_heap D5.out.pl.var
        have hk1 : k + 1 ≤ 30 := by omega
        have SM := same17_any w2.heap.size pt mo L5 R5 D5.out.pl.agr D5.out.pl.rise (Nat.le_trans HL5.out (by omega)) (fun p hp => ⟨Nat.le_trans (D5.out.pl.sz p hp).1 (by omega), Nat.le_trans (D5.out.pl.sz p hp).2 (by omega)⟩) a5 c5 wc D5.out.pl.tab D5.out.pl.rows
        go_wp2_with fail
        refine SM.mono ?_
        rintro e wd ⟨rfl, hbd⟩
        have DD := Lib.hid (D5.out.below hbd)
        clear SM hbd y4 zz4 D5
        have y4 := cell_of_heap DD.out.was.var 0
        have zz4 := lt_of_heap DD.out.was.var
        have SM := same17_any w7.heap.size pc mc Lc R (DU.out.pl.agr.via HAC.out) DU.out.pl.rise (by rw [HAC.out.len]; omega) (fun p hp => ⟨Nat.le_trans (DU.out.pl.sz p (HAC.out.perm.mem_iff.1 hp)).1 (by omega), Nat.le_trans (DU.out.pl.sz p (HAC.out.perm.mem_iff.1 hp)).2 (by omega)⟩) ra rc wd DD.out.was.tab DD.out.was.rows
        go_wp2_with fail
        refine SM.mono ?_
        rintro e we ⟨rfl, hbe⟩
        have DE := Lib.hid (DD.out.below hbe)
        clear SM hbe y4 zz4 DD
        go_wp2_with fail
        go_roundg (n - (k + 1))
        case measure => omega
        case rel => exact ⟨k + 1, mo, L5, R5, a5, c5, by go_num, rfl, by omega, HL5.out, Lib.hid DE.out.pl⟩
      have c0 : (x.d.tmod 4 == 0) = false := by simpa using hd0
      have c1 : (x.d.tmod 4 == 1) = false := by simpa using hd1
      have c2 : (x.d.tmod 4 == 2) = false := by simpa using hd2
      clear hd0 hd1 hd2
      have hszL : ∀ p ∈ L, p.2.size ≤ 2097152 := fun p hp => Nat.le_trans (DU.out.pl.sz p hp).1 (by omega)
      have GT := Lib.hid (get_any L hszL x.nm W10 pt DU.out.pl.tab.tab)
      clear hszL
      go_wp2_with fail
      refine GT.out.mono ?_
      rintro e w5 ⟨hF, hb5⟩
      have HB5 := Lib.hid hb5
      clear hb5 x0 x1 z6 x4 z4 GT
      rcases hF with ⟨hg, rfl⟩ | ⟨u, ua, uc, S, hg, rfl, hown, -⟩
      · have HG := Lib.hid hg
        have AU : Hid ((T.mk nd0 []).At w5 none) := T.at_mk.2 (fun h => absurd h (by simp))
        have HTZ : Hid ((T.mk nd0 []).size ≤ 4194304) := by unfold Hid; rw [T.size_mk]; simp
        clear hg
        go_upto_region 14 with (refine wpList_store_nd rfl (.tmp 13) (.tmp 54) rfl w5.heap.size 0 (ncells nd0 (.slice none 0 0)) 42 (heap_alloc_new w5 _) (Nat.le_refl _) nd0 (.slice none 0 0) rfl rfl rfl ?_; intro W6 p1 p2 p3)
        have N6 : Hid (W6.heap[w5.heap.size]? = some (.cells (ncells nd0 (.slice none 0 0)).toArray 42)) := p1
        have hb56 : Below w5.heap.size w5 W6 := ((Below.refl _ w5).alloc (Nat.le_refl _) _).trans (p2.below (by simp) (fun k hk => by omega))
        have B56 : Hid (Below W10.heap.size W10 W6) := HB5.out.trans (hb56.mono HB5.out.size)
        have AU6 := Lib.hid (AU.out.below hb56)
        obtain ⟨b13, hb13⟩ : ∃ b, b = w5.heap.size := ⟨_, rfl⟩
        rw [← hb13] at N6 ⊢
        have D6 := Lib.hid (DU.out.below B56.out)
        have G6 : Hid (W6.heap[b6]? = some (.cells (acells x.d x.nm x.t.o (.slice ta x.t.l.length tc)).toArray 44)) := (B56.out.block _ (lt_of_heap G10.out)).trans G10.out
        clear p1 p2 p3 hb56 hb13 AU
        have x1 : W6.cell? ⟨b6, 1, none⟩ = some (.string x.nm) := cell_of_heap G6.out 1
        have z6 := lt_of_heap G6.out
        have x4 : W6.cell? ⟨b4, 0, none⟩ = some (.slice ra R.length rc) := cell_of_heap D6.out.pl.var 0
        have z4 := lt_of_heap D6.out.pl.var
        go_wp2_with fail
        refine (rget_any R HK.out.1 ra rc x.nm W6 D6.out.pl.rows).mono ?_
        rintro e w8 ⟨hF, hb8⟩
        have HB8 := Lib.hid hb8
        clear hb8 x1 z6 x4 z4
        rcases hF with ⟨hg2, rfl⟩ | ⟨v, va, vc, hg2, rfl, hat2⟩
        case inr =>
          rw [D6.out.pl.agr.get, HG.out] at hg2
          cases hg2
        have AV : Hid ((T.mk nd0 []).At w8 none) := T.at_mk.2 (fun h => absurd h (by simp))
        clear hg2
        go_upto_region 15 with (refine wpList_store_nd rfl (.tmp 15) (.tmp 61) rfl w8.heap.size 0 (ncells nd0 (.slice none 0 0)) 42 (heap_alloc_new w8 _) (Nat.le_refl _) nd0 (.slice none 0 0) rfl rfl rfl ?_; intro W9 p1 p2 p3)
        have N9 : Hid (W9.heap[w8.heap.size]? = some (.cells (ncells nd0 (.slice none 0 0)).toArray 42)) := p1
        have hb89 : Below w8.heap.size w8 W9 := ((Below.refl _ w8).alloc (Nat.le_refl _) _).trans (p2.below (by simp) (fun k hk => by omega))
        have B69 : Hid (Below W6.heap.size W6 W9) := HB8.out.trans (hb89.mono HB8.out.size)
        have M9 : Hid (W9.heap[b13]? = some (.cells (ncells nd0 (.slice none 0 0)).toArray 42)) := (B69.out.block _ (lt_of_heap N6.out)).trans N6.out
        have D9 := Lib.hid (D6.out.below B69.out)
        have RA9 := Lib.hid (range_blk M9.out)
        have RB9 := Lib.hid (range_blk N9.out)
        have AU9 := Lib.hid (AU6.out.below B69.out)
        have AV9 := Lib.hid (AV.out.below hb89)
        clear p1 p2 p3 hb89 AU6 AV
        have nq := fun W => neq_bool W false
        have SM := same_any (T.mk nd0 []) HTZ.out (T.mk nd0 []) (nagg nd0 (.slice none 0 0)) (nagg nd0 (.slice none 0 0)) W9 ⟨_, _, rfl, AU9.out⟩ ⟨_, _, rfl, AV9.out⟩
        rw [(T.same_iff _ _).2 rfl] at SM
        go_wp2_with (first | refine wpList_load_g rfl 42 (.tmp 13) rfl b13 0 rfl _ _ RA9.out Tryz.underlying42 rfl info35 ?_ | refine wpList_load_g rfl 42 (.tmp 15) rfl w8.heap.size 0 rfl _ _ RB9.out Tryz.underlying42 rfl info35 ?_)
        refine SM.mono ?_
        rintro e wc ⟨rfl, hbc⟩
        have D5 := Lib.hid (D9.out.below hbc)
        have HL5 : Hid (L.length ≤ k + 1) := Nat.le_trans hLk (Nat.le_succ k)
        clear SM hbc nq D9 RA9 RB9 AU9 AV9 M9 N9 N6
        go_upto_region 28 with fail
        have y4 := cell_of_heap D5.out.pl.var 0
        have zz4 := lt_of_heap D5.out.pl.var
        have hk1 : k + 1 ≤ 30 := by omega
        have SM := same17_any w2.heap.size pt mo L R D5.out.pl.agr D5.out.pl.rise (Nat.le_trans HL5.out (by omega)) (fun p hp => ⟨Nat.le_trans (D5.out.pl.sz p hp).1 (by omega), Nat.le_trans (D5.out.pl.sz p hp).2 (by omega)⟩) ra rc wc D5.out.pl.tab D5.out.pl.rows
        go_wp2_with fail
        refine SM.mono ?_
        rintro e wd ⟨rfl, hbd⟩
        have DD := Lib.hid (D5.out.below hbd)
        clear SM hbd y4 zz4 D5
        have y4 := cell_of_heap DD.out.was.var 0
        have zz4 := lt_of_heap DD.out.was.var
        have SM := same17_any w7.heap.size pc mc Lc R (DU.out.pl.agr.via HAC.out) DU.out.pl.rise (by rw [HAC.out.len]; omega) (fun p hp => ⟨Nat.le_trans (DU.out.pl.sz p (HAC.out.perm.mem_iff.1 hp)).1 (by omega), Nat.le_trans (DU.out.pl.sz p (HAC.out.perm.mem_iff.1 hp)).2 (by omega)⟩) ra rc wd DD.out.was.tab DD.out.was.rows
        go_wp2_with fail
        refine SM.mono ?_
        rintro e we ⟨rfl, hbe⟩
        have DE := Lib.hid (DD.out.below hbe)
        clear SM hbe y4 zz4 DD
        go_wp2_with fail
        go_roundg (n - (k + 1))
        case measure => omega
        case rel => exact ⟨k + 1, mo, L, R, ra, rc, by go_num, rfl, by omega, HL5.out, Lib.hid DE.out.pl⟩
      · have HG := Lib.hid hg
        have AU : Hid (u.At w5 ua) := hown.at
        have HTZ : Hid (u.size ≤ 4194304) := Nat.le_trans (DU.out.pl.sz (x.nm, u) (mem_of_getL hg)).1 (by omega)
        clear hg hown
        go_upto_region 14 with (refine wpList_store_nd rfl (.tmp 13) (.tmp 54) rfl w5.heap.size 0 (ncells nd0 (.slice none 0 0)) 42 (heap_alloc_new w5 _) (Nat.le_refl _) u.o (.slice ua u.l.length uc) rfl rfl rfl ?_; intro W6 p1 p2 p3)
        have N6 : Hid (W6.heap[w5.heap.size]? = some (.cells (ncells u.o (.slice ua u.l.length uc)).toArray 42)) := p1
        have hb56 : Below w5.heap.size w5 W6 := ((Below.refl _ w5).alloc (Nat.le_refl _) _).trans (p2.below (by simp) (fun k hk => by omega))
        have B56 : Hid (Below W10.heap.size W10 W6) := HB5.out.trans (hb56.mono HB5.out.size)
        have AU6 := Lib.hid (AU.out.below hb56)
        obtain ⟨b13, hb13⟩ : ∃ b, b = w5.heap.size := ⟨_, rfl⟩
        rw [← hb13] at N6 ⊢
        have D6 := Lib.hid (DU.out.below B56.out)
        have G6 : Hid (W6.heap[b6]? = some (.cells (acells x.d x.nm x.t.o (.slice ta x.t.l.length tc)).toArray 44)) := (B56.out.block _ (lt_of_heap G10.out)).trans G10.out
        clear p1 p2 p3 hb56 hb13 AU
        have x1 : W6.cell? ⟨b6, 1, none⟩ = some (.string x.nm) := cell_of_heap G6.out 1
        have z6 := lt_of_heap G6.out
        have x4 : W6.cell? ⟨b4, 0, none⟩ = some (.slice ra R.length rc) := cell_of_heap D6.out.pl.var 0
        have z4 := lt_of_heap D6.out.pl.var
        go_wp2_with fail
        refine (rget_any R HK.out.1 ra rc x.nm W6 D6.out.pl.rows).mono ?_
        rintro e w8 ⟨hF, hb8⟩
        have HB8 := Lib.hid hb8
        clear hb8 x1 z6 x4 z4
        rcases hF with ⟨hg2, rfl⟩ | ⟨v, va, vc, hg2, rfl, hat2⟩
        case inl =>
          rw [D6.out.pl.agr.get, HG.out] at hg2
          cases hg2
        have huv : u = v := by
          rw [D6.out.pl.agr.get, HG.out] at hg2
          exact Option.some.inj hg2
        subst huv
        have AV := Lib.hid hat2
        clear hg2 hat2
        go_upto_region 15 with (refine wpList_store_nd rfl (.tmp 15) (.tmp 61) rfl w8.heap.size 0 (ncells nd0 (.slice none 0 0)) 42 (heap_alloc_new w8 _) (Nat.le_refl _) u.o (.slice va u.l.length vc) rfl rfl rfl ?_; intro W9 p1 p2 p3)
        have N9 : Hid (W9.heap[w8.heap.size]? = some (.cells (ncells u.o (.slice va u.l.length vc)).toArray 42)) := p1
        have hb89 : Below w8.heap.size w8 W9 := ((Below.refl _ w8).alloc (Nat.le_refl _) _).trans (p2.below (by simp) (fun k hk => by omega))
        have B69 : Hid (Below W6.heap.size W6 W9) := HB8.out.trans (hb89.mono HB8.out.size)
        have M9 : Hid (W9.heap[b13]? = some (.cells (ncells u.o (.slice ua u.l.length uc)).toArray 42)) := (B69.out.block _ (lt_of_heap N6.out)).trans N6.out
        have D9 := Lib.hid (D6.out.below B69.out)
        have RA9 := Lib.hid (range_blk M9.out)
        have RB9 := Lib.hid (range_blk N9.out)
        have AU9 := Lib.hid (AU6.out.below B69.out)
        have AV9 := Lib.hid (AV.out.below hb89)
        clear p1 p2 p3 hb89 AU6 AV
        have nq := fun W => neq_bool W true
        have SM := same_any u HTZ.out u (nagg u.o (.slice ua u.l.length uc)) (nagg u.o (.slice va u.l.length vc)) W9 ⟨_, _, rfl, AU9.out⟩ ⟨_, _, rfl, AV9.out⟩
        rw [(T.same_iff _ _).2 rfl] at SM
        go_wp2_with (first | refine wpList_load_g rfl 42 (.tmp 13) rfl b13 0 rfl _ _ RA9.out Tryz.underlying42 rfl info35 ?_ | refine wpList_load_g rfl 42 (.tmp 15) rfl w8.heap.size 0 rfl _ _ RB9.out Tryz.underlying42 rfl info35 ?_)
        refine SM.mono ?_
        rintro e wc ⟨rfl, hbc⟩
        have D5 := Lib.hid (D9.out.below hbc)
        have HL5 : Hid (L.length ≤ k + 1) := Nat.le_trans hLk (Nat.le_succ k)
        clear SM hbc nq D9 RA9 RB9 AU9 AV9 M9 N9 N6
        go_upto_region 28 with fail
        have y4 := cell_of_heap D5.out.pl.var 0
        have zz4 := lt_of_heap D5.out.pl.var
        have hk1 : k + 1 ≤ 30 := by omega
        have SM := same17_any w2.heap.size pt mo L R D5.out.pl.agr D5.out.pl.rise (Nat.le_trans HL5.out (by omega)) (fun p hp => ⟨Nat.le_trans (D5.out.pl.sz p hp).1 (by omega), Nat.le_trans (D5.out.pl.sz p hp).2 (by omega)⟩) ra rc wc D5.out.pl.tab D5.out.pl.rows
        go_wp2_with fail
        refine SM.mono ?_
        rintro e wd ⟨rfl, hbd⟩
        have DD := Lib.hid (D5.out.below hbd)
        clear SM hbd y4 zz4 D5
        have y4 := cell_of_heap DD.out.was.var 0
        have zz4 := lt_of_heap DD.out.was.var
        have SM := same17_any w7.heap.size pc mc Lc R (DU.out.pl.agr.via HAC.out) DU.out.pl.rise (by rw [HAC.out.len]; omega) (fun p hp => ⟨Nat.le_trans (DU.out.pl.sz p (HAC.out.perm.mem_iff.1 hp)).1 (by omega), Nat.le_trans (DU.out.pl.sz p (HAC.out.perm.mem_iff.1 hp)).2 (by omega)⟩) ra rc wd DD.out.was.tab DD.out.was.rows
        go_wp2_with fail
        refine SM.mono ?_
        rintro e we ⟨rfl, hbe⟩
        have DE := Lib.hid (DD.out.below hbe)
        clear SM hbe y4 zz4 DD
        go_wp2_with fail
        go_roundg (n - (k + 1))
        case measure => omega
        case rel => exact ⟨k + 1, mo, L, R, ra, rc, by go_num, rfl, by omega, HL5.out, Lib.hid DE.out.pl⟩
    · go_wp2_with fail
      go_ret
      exact ⟨rfl, B2.out.trans (hI.out.bel.mono B2.out.size)⟩
end Go.Proofs.YtlcglkanlhmmdaaGreat
