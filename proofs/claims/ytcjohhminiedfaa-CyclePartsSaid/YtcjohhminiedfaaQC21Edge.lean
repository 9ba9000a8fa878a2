/- Cycle: has; Edge. -/
import Derived.Test.YtcjohhminiedfaaQC21New
namespace Go.Proofs.Ytcjohhminiedfaa
open Go.RowKit
set_option maxHeartbeats 1000000 in
set_option maxRecDepth 100000 in
theorem has_any {w : World} {G : Gb} {n : Nat} {T F : List (List Nat)} (h : GrN w G n T F) (x : Int) : Calls Try.prog 25 #[G.pv, .int .i64 x] w fun e w' => e = .returned (.bool (decide (0 ≤ x ∧ x < (n : Int)))) ∧ Below w.heap.size w w' := by
  have CS := Lib.hid (size_any h)
  obtain ⟨gv, hgv⟩ : ∃ gv, G.pv = gv := ⟨_, rfl⟩
  rw [hgv] at CS ⊢
  clear hgv h
  by_cases h0 : 0 ≤ x
  · have hb : decide (0 ≤ x) = true := by simpa using h0
    have e : decide (0 ≤ x ∧ x < (n : Int)) = decide (x < (n : Int)) := by simp [h0]
    rw [e]
    clear e h0
    go_enter Try.func25, Try.ntmps25
    go_wp2_with fail
    refine CS.out.mono ?_
    rintro e w1 ⟨rfl, hb1⟩
    go_wp2_with fail
    go_ret
    exact ⟨rfl, hb1⟩
  · have hb : decide (0 ≤ x) = false := by simpa using h0
    have e : decide (0 ≤ x ∧ x < (n : Int)) = false := by simp [h0]
    rw [e]
    clear e h0 CS
    go_enter Try.func25, Try.ntmps25
    go_wp2_with fail
    go_ret
    exact ⟨rfl, Below.refl _ _⟩
theorem GrD.grN {K n : Nat} {w : World} {G : Gb} {E : List (Nat × Nat)} {M : List ((Int × Int) × Bool)} (h : GrD K w G (tos n E) (frs n E) M) : GrN w G n (tos n E) (frs n E) := .inr ⟨h.gr, tos_len n E, frs_len n E⟩
def okE (n : Nat) (E : List (Nat × Nat)) (x y : Int) : Bool := decide (0 ≤ x ∧ x < (n : Int)) && decide (0 ≤ y ∧ y < (n : Int)) && !E.contains (x.toNat, y.toNat)
def addE (n : Nat) (E : List (Nat × Nat)) (x y : Int) : List (Nat × Nat) := if okE n E x y then E ++ [(x.toNat, y.toNat)] else E
theorem EOk.add {n : Nat} {E : List (Nat × Nat)} (h : EOk n E) (x y : Int) : EOk n (addE n E x y) := by
  unfold addE
  split
  · rename_i h1
    unfold okE at h1
    simp only [Bool.and_eq_true, decide_eq_true_eq, Bool.not_eq_true'] at h1
    refine h.push (by omega) (by omega) fun hm => ?_
    have := h1.2
    simp at this
    exact this hm
  · exact h
theorem addE_len (n : Nat) (E : List (Nat × Nat)) (x y : Int) : (addE n E x y).length ≤ E.length + 1 := by
  unfold addE
  split <;> simp
/-- Who calls Edge at a graph without nodes. -/
theorem edge_none {w : World} {G : Gb} {T F : List (List Nat)} (h : GrN w G 0 T F) (x y : Int) : Calls Try.prog 15 #[G.pv, .int .i64 x, .int .i64 y] w fun e w' => e = .returned (.bool false) ∧ Below w.heap.size w w' := by
  have CS := Lib.hid (has_any h x)
  have e : decide (0 ≤ x ∧ x < ((0 : Nat) : Int)) = false := by simp
  rw [e] at CS
  obtain ⟨gv, hgv⟩ : ∃ gv, G.pv = gv := ⟨_, rfl⟩
  rw [hgv] at CS ⊢
  clear hgv h e
  go_enter Try.func15, Try.ntmps15
  go_wp2_with fail
  refine CS.out.mono ?_
  rintro e w1 ⟨rfl, hb1⟩
  go_wp2_with fail
  go_ret
  exact ⟨rfl, hb1⟩
theorem tos_row {n : Nat} (E : List (Nat × Nat)) (x : Nat) : ((tos n E).getD x []).length ≤ E.length := by
  rw [List.getD_eq_getElem?_getD]
  by_cases hx : x < n
  · rw [tos_at E hx]
    show ((E.filter _).map _).length ≤ _
    rw [List.length_map]
    exact List.length_filter_le _ _
  · rw [List.getElem?_eq_none (by rw [tos_len]; omega)]
    exact Nat.zero_le _
theorem frs_row {n : Nat} (E : List (Nat × Nat)) (x : Nat) : ((frs n E).getD x []).length ≤ E.length := by
  rw [List.getD_eq_getElem?_getD]
  by_cases hx : x < n
  · rw [frs_at E hx]
    show ((E.filter _).map _).length ≤ _
    rw [List.length_map]
    exact List.length_filter_le _ _
  · rw [List.getElem?_eq_none (by rw [frs_len]; omega)]
    exact Nat.zero_le _
set_option maxHeartbeats 4000000 in
set_option maxRecDepth 100000 in
theorem edge_any {K n : Nat} {w : World} {G : Gb} {E : List (Nat × Nat)} (hE : E.length ≤ 1000000) (h : GrD K w G (tos n E) (frs n E) (mE E)) (x y : Int) :
    Calls Try.prog 15 #[G.pv, .int .i64 x, .int .i64 y] w fun e w' => e = .returned (.bool (okE n E x y)) ∧ ∃ G', G'.pv = G.pv ∧ GrD K w' G' (tos n (addE n E x y)) (frs n (addE n E x y)) (mE (addE n E x y)) ∧ Fr (fun k => G.has k) w w' ∧ ∀ k, G'.has k → G.has k ∨ w.heap.size ≤ k := by
  have HG := Lib.hid h
  have C1 := Lib.hid (has_any h.grN x)
  obtain ⟨gv, hgv⟩ : ∃ gv, G.pv = gv := ⟨_, rfl⟩
  have HGV := Lib.hid hgv
  rw [hgv] at C1 ⊢
  clear hgv h
  by_cases hx : 0 ≤ x ∧ x < (n : Int)
  · have ex : decide (0 ≤ x ∧ x < (n : Int)) = true := by simpa using hx
    rw [ex] at C1
    have C2 := Lib.hid (fun w1 (hb : Below w.heap.size w w1) => has_any (HG.out.below hb).grN y)
    rw [HGV.out] at C2
    by_cases hy : 0 ≤ y ∧ y < (n : Int)
    · have ey : decide (0 ≤ y ∧ y < (n : Int)) = true := by simpa using hy
      rw [ey] at C2
      obtain ⟨a, rfl⟩ : ∃ a : Nat, x = (a : Int) := ⟨x.toNat, by omega⟩
      obtain ⟨b, rfl⟩ : ∃ b : Nat, y = (b : Int) := ⟨y.toNat, by omega⟩
      have han : a < n := by omega
      have hbn : b < n := by omega
      have hoke : okE n E (a : Int) (b : Int) = !E.contains (a, b) := by
        unfold okE
        rw [ex, ey]
        simp
      obtain ⟨mb, hmb, hmap⟩ := HG.out.mp
      have HMB := Lib.hid hmb
      have hgp : gv = .pointer (some ⟨G.p, 0, none⟩) := HGV.out.symm.trans HG.out.gr.ptr
      subst hgp
      clear ex ey hx hy hmap hmb
      by_cases hm : (a, b) ∈ E
      · have hok2 : okE n E (a : Int) (b : Int) = false := by rw [hoke]; simpa using hm
        have hadd : addE n E (a : Int) (b : Int) = E := by
          unfold addE
          rw [hok2]
          rfl
        rw [hok2, hadd]
        clear hadd hok2 hoke
        go_enter Try.func15, Try.ntmps15
        go_wp2_with fail
        refine C1.out.mono ?_
        rintro e w1 ⟨rfl, hb1⟩
        have D2 := Lib.hid (C2.out w1 hb1)
        have HB1 := Lib.hid hb1
        clear hb1 C1 C2
        go_wp2_with fail
        refine D2.out.mono ?_
        rintro e w2 ⟨rfl, hb2⟩
        have HB2 : Hid (Below w.heap.size w w2) := HB1.out.trans (hb2.mono HB1.out.size)
        have HG2 := Lib.hid (HG.out.below HB2.out)
        obtain ⟨mb', hmb', hmap⟩ := HG2.out.mp
        rw [HMB.out] at hmb'
        cases hmb'
        have hl := hmap.look1 place_fits Try.underlying36 (zero4 w2) (kE (a, b))
        rw [getL_mE, if_pos hm] at hl
        unfold kE encP at hl
        have g1 := cell_of_heap HG2.out.gr.blk 2
        rw [HMB.out] at g1
        have z1 := lt_of_heap HG2.out.gr.blk
        simp only [Option.map_some, Option.getD_some] at hl
        clear hb2 D2 hmap hm HB1
        go_wp2_with fail
        go_ret
        exact ⟨rfl, G, HG.out.gr.ptr, HG2.out, Fr.of_below HB2.out, fun k h => .inl h⟩
      · have hok2 : okE n E (a : Int) (b : Int) = true := by rw [hoke]; simpa using hm
        have hadd : addE n E (a : Int) (b : Int) = E ++ [(a, b)] := by
          unfold addE
          rw [hok2]
          rfl
        rw [hok2, hadd]
        clear hadd hok2 hoke
        go_enter Try.func15, Try.ntmps15
        go_wp2_with fail
        refine C1.out.mono ?_
        rintro e w1 ⟨rfl, hb1⟩
        have D2 := Lib.hid (C2.out w1 hb1)
        have HB1 := Lib.hid hb1
        clear hb1 C1 C2
        go_wp2_with fail
        refine D2.out.mono ?_
        rintro e w2 ⟨rfl, hb2⟩
        have HB2 : Hid (Below w.heap.size w w2) := HB1.out.trans (hb2.mono HB1.out.size)
        have HG2 := Lib.hid (HG.out.below HB2.out)
        obtain ⟨mb', hmb', hmap⟩ := HG2.out.mp
        rw [HMB.out] at hmb'
        cases hmb'
        have hl := hmap.look1 place_fits Try.underlying36 (zero4 w2) (kE (a, b))
        rw [getL_mE, if_neg hm] at hl
        unfold kE encP at hl
        obtain ⟨W3, hup, hm3, hf3, hz3⟩ := hmap.upd place_fits Try.underlying36 (kE (a, b)) true
        rw [putL_mE hm] at hm3
        unfold kE encP at hup
        have HG3 := Lib.hid (HG2.out.upd HMB.out hm3 hf3)
        have F3 : Hid (Fr (fun k => G.has k) w W3) := (Fr.of_below HB2.out).trans hf3 fun k _ e => .inr (.inr (.inr (.inl (by rw [e]; exact HMB.out))))
        have g1 := cell_of_heap HG2.out.gr.blk 2
        rw [HMB.out] at g1
        have z1 := lt_of_heap HG2.out.gr.blk
        simp only [Option.map_none, Option.getD_none] at hl
        clear hb2 D2 hmap hm HB1 hm3 hf3 hz3
        obtain ⟨i0, hi, hz0, hz1, hz2⟩ := info_parts info3
        have HI := Lib.hid (⟨hi, hz0, hz1, hz2⟩ : _ ∧ _ ∧ _ ∧ _)
        clear hi hz0 hz1 hz2
        obtain ⟨ao, tc, etv, _, hr⟩ := HG3.out.gr.to.slice
        obtain ⟨row, hrow0⟩ : ∃ row, (tos n E).getD a [] = row := ⟨_, rfl⟩
        have har : (tos n E)[a]? = some row := by
          rw [← hrow0, List.getD_eq_getElem?_getD, List.getElem?_eq_getElem (by rw [tos_len]; omega)]
          rfl
        obtain ⟨g, rfl, zg, ra, rc, hv, hc, hown⟩ := hr a row har
        rw [tos_len] at etv
        have hql : row.length ≤ 1000000 := Nat.le_trans (by rw [← hrow0]; exact tos_row E a) hE
        have hag : ∀ {W : World}, Fr (fun k => (Value.slice ra row.length rc).ownBlock = some k) W3 W → W.heap[G.p]? = W3.heap[G.p]? ∧ (∃ cs, W.heap[g]? = some (.cells cs 31) ∧ W.heap[g]? = W3.heap[g]?) := fun {W} hW => by
          have hto := HG3.out.gr.to
          rw [etv] at hto
          obtain ⟨cs, hgc⟩ := own_cells hto.row rfl
          have e1 := hW.block g zg (fun e => hto.ne_row hv hgc (by decide) e)
          refine ⟨hW.block G.p (lt_of_heap HG3.out.gr.blk) fun e => hto.ne_row hv HG3.out.gr.blk (by decide) e, cs, e1.trans hgc, e1⟩
        have hcp : W3.cell? ⟨G.p, 0, none⟩ = some (.slice (some ⟨g, 0, none⟩) n tc) := by rw [← etv]; exact cell_of_heap HG3.out.gr.blk 0
        have hzp := lt_of_heap HG3.out.gr.blk
        have RD0 : Hid (∀ W, Fr (fun k => (Value.slice ra row.length rc).ownBlock = some k) W3 W → W.cell? ⟨G.p, 0, none⟩ = some (.slice (some ⟨g, 0, none⟩) n tc) ∧ W.cell? ⟨g, a, none⟩ = some (.slice ra row.length rc) ∧ G.p < W.heap.size ∧ g < W.heap.size) := fun W hW =>
          ⟨by rw [World.cell?_of_block (a := ⟨G.p, 0, none⟩) (hag hW).1]; exact hcp, by rw [World.cell?_of_block (a := ⟨g, a, none⟩) (hag hW).2.choose_spec.2]; exact hc, Nat.lt_of_lt_of_le hzp hW.size, Nat.lt_of_lt_of_le zg hW.size⟩
        have FZ0 : Hid (∀ W, Fr (fun k => (Value.slice ra row.length rc).ownBlock = some k) W3 W → W.frozen? ⟨g, a, none⟩ = false) := fun W hW => frozen_of_heap (hag hW).2.choose_spec.1 a
        have HROW0 : Hid ((W3).drew.ownsRow 0 3 1 (.slice ra row.length rc) row.length (row.map iv)) := hown
        have PU0 : Hid (∀ (v' : Value) (w' : World), w'.ownsRow 0 3 1 v' (row.length + 1) (row.map iv ++ [iv b]) → (W3.drew.alloc (.cells #[.int .i64 (b : Int)] 3)).grownBy w' (Value.slice ra row.length rc).ownBlock → (v'.ownBlock = (Value.slice ra row.length rc).ownBlock ∨ v'.ownBlock = some (W3.drew.alloc (.cells #[.int .i64 (b : Int)] 3)).heap.size) →
            GrD K (w'.setCell ⟨g, a, none⟩ v') { G with ts := G.ts.set a v' } (tos n (E ++ [(a, b)])) (frs n E) (mE (E ++ [(a, b)])) ∧ Fr (fun k => G.has k) W3 (w'.setCell ⟨g, a, none⟩ v') ∧ ∀ k, ({ G with ts := G.ts.set a v' } : Gb).has k → G.has k ∨ W3.heap.size ≤ k) := fun v' w' h1 h2 h3 => by
          have hd := (HG3.out.below (w' := W3.drew) (Below.refl _ _).drew).pushT (a := a) (b := b) etv hv (by rw [hrow0]; exact h1) h2 h3
          rw [← tos_push] at hd
          exact ⟨hd.1, (Fr.of_below (Below.refl _ W3).drew).trans hd.2.1 fun _ _ h => h, hd.2.2⟩
        obtain ⟨q, hq⟩ : ∃ q, row.length = q := ⟨_, rfl⟩
        rw [hq] at hql RD0 FZ0 HROW0 PU0
        have RD := RD0
        have FZ := FZ0
        have HROW := HROW0
        have PU := PU0
        clear RD0 FZ0 HROW0 PU0 hag hown hc hv hr har hrow0 etv hq hcp hzp
        have j1 : (0 : Int) ≤ (a : Int) := by omega
        have j2 : (a : Int) < (n : Int) := by omega
        have j3 : (0 : Int) ≤ (b : Int) := by omega
        have j4 : (b : Int) < (n : Int) := by omega
        go_wp2_with fail
        refine wp_region_mix [0, 1, 2, 3, 4, 5, 6, 7, 8, 9, 10, 11, 12] [13, 14, 15, 16] [15, 16] (Fr (fun k => (Value.slice ra q rc).ownBlock = some k) W3) (by kernel_rfl) (by kernel_rfl) (Fr.of_below (Below.refl _ W3).drew) ?_
        iterate 13 (apply first_step; (rw [List.getElem?_toArray]; (repeat rw [List.getElem?_cons_succ]); rw [List.getElem?_cons_zero]); rfl; (intro W hW; obtain ⟨r1, r2, r3, r4⟩ := RD.out W hW; go_simp; (first | done | rfl)); go_frame)
        refine first_done ?_
        apply tail_step; (rw [List.getElem?_toArray]; (repeat rw [List.getElem?_cons_succ]); rw [List.getElem?_cons_zero]); rfl; rfl; intro K hK; go_simp; refine hK _ _ (fun _ => (Fr.of_below ((Below.refl _ W3).drew.alloc (Nat.le_refl _) _))) ?_; clear hK K
        apply tail_step; (rw [List.getElem?_toArray]; (repeat rw [List.getElem?_cons_succ]); rw [List.getElem?_cons_zero]); rfl; rfl; intro K hK
        refine wp_append_at (.tmp 45) (.tmp 47) 31 rfl 0 3 i0 _ 1 8 Try.underlying31 HI.out.1 HI.out.2.1 HI.out.2.2.1 HI.out.2.2.2 rfl (by decide) (.slice ra q rc) q (row.map iv) rfl ?_ ⟨W3.heap.size, 0, none⟩ 1 1 [iv b] rfl rfl ?_ ?_ (by unfold maxLen; omega) (by omega) (by simp) ?_
        focus exact World.ownsRow.alloc HROW.out _
        focus (intro j u hu; exact cells_new W3.drew _ 3 j u hu)
        focus (simp [iv, Value.oneCell'])
        intro v' W5 hown5 hgrow5 hloc5
        obtain ⟨va, vc, rfl, _⟩ := own_slice hown5
        obtain ⟨P1, P2, P3⟩ := PU.out _ W5 hown5 hgrow5 hloc5
        have S5 : Hid (Fr (fun k => (Value.slice ra q rc).ownBlock = some k) W3 W5) := by
          refine ⟨hgrow5.os, hgrow5.tape, hgrow5.output, Nat.le_trans (by simp) hgrow5.size, fun k h1 h2 => (hgrow5.block k (by simp; omega) (fun e => h2 e.symm)).trans (Below.heap_alloc _ _ _ h1)⟩
        have HP1 := Lib.hid P1
        have HP2 := Lib.hid P2
        have HP3 := Lib.hid P3
        have z5 : g < W5.heap.size := Nat.lt_of_lt_of_le zg S5.out.size
        have y5 := FZ.out W5 S5.out
        obtain ⟨r1, r2, r3, r4⟩ := RD.out W5 S5.out
        refine hK _ _ (fun _ => S5.out) ?_
        clear hK K hown5 hgrow5 hloc5 P1 P2 P3
        go_frame
        apply tail_step; (rw [List.getElem?_toArray]; (repeat rw [List.getElem?_cons_succ]); rw [List.getElem?_cons_zero]); rfl; rfl; intro K hK; go_simp; refine hK _ _ (fun h => absurd (by decide) h) ?_; clear hK K
        apply tail_step; (rw [List.getElem?_toArray]; (repeat rw [List.getElem?_cons_succ]); rw [List.getElem?_cons_zero]); rfl; rfl; intro K hK; go_simp; refine hK _ _ (fun h => absurd (by decide) h) ?_; clear hK K
        refine tail_done ?_
        clear r1 r2 r3 r4 z5 y5
        refine abs_exit ?_
        intro W6 hW6
        have HG6 : Hid (GrD K W6 { G with ts := G.ts.set a (.slice va (q + 1) vc) } (tos n (E ++ [(a, b)])) (frs n E) (mE (E ++ [(a, b)]))) := by rw [hW6]; exact HP1.out
        have F6 : Hid (Fr (fun k => G.has k) w W6) := by rw [hW6]; exact F3.out.trans HP2.out fun _ _ h => h
        have N6 : Hid (∀ k, ({ G with ts := G.ts.set a (.slice va (q + 1) vc) } : Gb).has k → G.has k ∨ w.heap.size ≤ k) := fun k h => (HP3.out k h).imp id fun h => Nat.le_trans F3.out.size h
        clear hW6 HP1 HP2 HP3 S5 RD FZ HROW PU HG3 F3 hql zg hup
        obtain ⟨ao, tc, etv, _, hr⟩ := HG6.out.gr.fr.slice
        obtain ⟨row, hrow0⟩ : ∃ row, (frs n E).getD b [] = row := ⟨_, rfl⟩
        have har : (frs n E)[b]? = some row := by
          rw [← hrow0, List.getD_eq_getElem?_getD, List.getElem?_eq_getElem (by rw [frs_len]; omega)]
          rfl
        obtain ⟨g, rfl, zg, ra, rc, hv, hc, hown⟩ := hr b row har
        rw [frs_len] at etv
        have hql : row.length ≤ 1000000 := Nat.le_trans (by rw [← hrow0]; exact frs_row E b) hE
        have hag : ∀ {W : World}, Fr (fun k => (Value.slice ra row.length rc).ownBlock = some k) W6 W → W.heap[G.p]? = W6.heap[G.p]? ∧ (∃ cs, W.heap[g]? = some (.cells cs 31) ∧ W.heap[g]? = W6.heap[g]?) := fun {W} hW => by
          have hto := HG6.out.gr.fr
          rw [etv] at hto
          obtain ⟨cs, hgc⟩ := own_cells hto.row rfl
          have e1 := hW.block g zg (fun e => hto.ne_row hv hgc (by decide) e)
          refine ⟨hW.block G.p (lt_of_heap HG6.out.gr.blk) fun e => hto.ne_row hv HG6.out.gr.blk (by decide) e, cs, e1.trans hgc, e1⟩
        have hcp : W6.cell? ⟨G.p, 1, none⟩ = some (.slice (some ⟨g, 0, none⟩) n tc) := by rw [← etv]; exact cell_of_heap HG6.out.gr.blk 1
        have hzp := lt_of_heap HG6.out.gr.blk
        have RD0 : Hid (∀ W, Fr (fun k => (Value.slice ra row.length rc).ownBlock = some k) W6 W → W.cell? ⟨G.p, 1, none⟩ = some (.slice (some ⟨g, 0, none⟩) n tc) ∧ W.cell? ⟨g, b, none⟩ = some (.slice ra row.length rc) ∧ G.p < W.heap.size ∧ g < W.heap.size) := fun W hW =>
          ⟨by rw [World.cell?_of_block (a := ⟨G.p, 1, none⟩) (hag hW).1]; exact hcp, by rw [World.cell?_of_block (a := ⟨g, b, none⟩) (hag hW).2.choose_spec.2]; exact hc, Nat.lt_of_lt_of_le hzp hW.size, Nat.lt_of_lt_of_le zg hW.size⟩
        have FZ0 : Hid (∀ W, Fr (fun k => (Value.slice ra row.length rc).ownBlock = some k) W6 W → W.frozen? ⟨g, b, none⟩ = false) := fun W hW => frozen_of_heap (hag hW).2.choose_spec.1 b
        have HROW0 : Hid ((W6).drew.ownsRow 0 3 1 (.slice ra row.length rc) row.length (row.map iv)) := hown
        have PU0 : Hid (∀ (v' : Value) (w' : World), w'.ownsRow 0 3 1 v' (row.length + 1) (row.map iv ++ [iv a]) → (W6.drew.alloc (.cells #[.int .i64 (a : Int)] 3)).grownBy w' (Value.slice ra row.length rc).ownBlock → (v'.ownBlock = (Value.slice ra row.length rc).ownBlock ∨ v'.ownBlock = some (W6.drew.alloc (.cells #[.int .i64 (a : Int)] 3)).heap.size) →
            GrD K (w'.setCell ⟨g, b, none⟩ v') { G with ts := G.ts.set a (.slice va (q + 1) vc), fs := G.fs.set b v' } (tos n (E ++ [(a, b)])) (frs n (E ++ [(a, b)])) (mE (E ++ [(a, b)])) ∧ Fr (fun k => ({ G with ts := G.ts.set a (.slice va (q + 1) vc) } : Gb).has k) W6 (w'.setCell ⟨g, b, none⟩ v') ∧ ∀ k, ({ G with ts := G.ts.set a (.slice va (q + 1) vc), fs := G.fs.set b v' } : Gb).has k → ({ G with ts := G.ts.set a (.slice va (q + 1) vc) } : Gb).has k ∨ W6.heap.size ≤ k) := fun v' w' h1 h2 h3 => by
          have hd := (HG6.out.below (w' := W6.drew) (Below.refl _ _).drew).pushF (a := b) (b := a) etv hv (by rw [hrow0]; exact h1) h2 h3
          rw [← frs_push] at hd
          exact ⟨hd.1, (Fr.of_below (Below.refl _ W6).drew).trans hd.2.1 fun _ _ h => h, hd.2.2⟩
        obtain ⟨q2, hq⟩ : ∃ q, row.length = q := ⟨_, rfl⟩
        rw [hq] at hql RD0 FZ0 HROW0 PU0
        have RD := RD0
        have FZ := FZ0
        have HROW := HROW0
        have PU := PU0
        clear RD0 FZ0 HROW0 PU0 hag hown hc hv hr har hrow0 etv hq hcp hzp
        have N7 : Hid (∀ (w' : World) (G' : Gb), Fr (fun k => ({ G with ts := G.ts.set a (.slice va (q + 1) vc) } : Gb).has k) W6 w' → (∀ k, G'.has k → ({ G with ts := G.ts.set a (.slice va (q + 1) vc) } : Gb).has k ∨ W6.heap.size ≤ k) → Fr (fun k => G.has k) w w' ∧ ∀ k, G'.has k → G.has k ∨ w.heap.size ≤ k) := fun w' G' h1 h2 =>
          ⟨F6.out.trans h1 fun k hk e => (N6.out k e).elim id fun h => by omega, fun k e => by
            rcases h2 k e with h3 | h3
            · exact N6.out k h3
            · exact .inr (Nat.le_trans F6.out.size h3)⟩
        obtain ⟨v6, hv6⟩ : ∃ v, Value.slice va (q + 1) vc = v := ⟨_, rfl⟩
        rw [hv6] at PU N7 HG6
        clear hv6 N6 F6 HG6
        go_wp2_with fail
        refine wp_region_mix [0, 1, 2, 3, 4, 5, 6, 7, 8, 9, 10, 11, 12] [13, 14, 15, 16] [15, 16] (Fr (fun k => (Value.slice ra q2 rc).ownBlock = some k) W6) (by kernel_rfl) (by kernel_rfl) (Fr.of_below (Below.refl _ W6).drew) ?_
        iterate 13 (apply first_step; (rw [List.getElem?_toArray]; (repeat rw [List.getElem?_cons_succ]); rw [List.getElem?_cons_zero]); rfl; (intro W hW; obtain ⟨r1, r2, r3, r4⟩ := RD.out W hW; go_simp; (first | done | rfl)); go_frame)
        refine first_done ?_
        apply tail_step; (rw [List.getElem?_toArray]; (repeat rw [List.getElem?_cons_succ]); rw [List.getElem?_cons_zero]); rfl; rfl; intro K hK; go_simp; refine hK _ _ (fun _ => (Fr.of_below ((Below.refl _ W6).drew.alloc (Nat.le_refl _) _))) ?_; clear hK K
        apply tail_step; (rw [List.getElem?_toArray]; (repeat rw [List.getElem?_cons_succ]); rw [List.getElem?_cons_zero]); rfl; rfl; intro K hK
        refine wp_append_at (.tmp 61) (.tmp 63) 31 rfl 0 3 i0 _ 1 8 Try.underlying31 HI.out.1 HI.out.2.1 HI.out.2.2.1 HI.out.2.2.2 rfl (by decide) (.slice ra q2 rc) q2 (row.map iv) rfl ?_ ⟨W6.heap.size, 0, none⟩ 1 1 [iv a] rfl rfl ?_ ?_ (by unfold maxLen; omega) (by omega) (by simp) ?_
        focus exact World.ownsRow.alloc HROW.out _
        focus (intro j u hu; exact cells_new W6.drew _ 3 j u hu)
        focus (simp [iv, Value.oneCell'])
        intro v' W8 hown5 hgrow5 hloc5
        obtain ⟨va, vc, rfl, _⟩ := own_slice hown5
        obtain ⟨P1, P2, P3⟩ := PU.out _ W8 hown5 hgrow5 hloc5
        have S5 : Hid (Fr (fun k => (Value.slice ra q2 rc).ownBlock = some k) W6 W8) := by
          refine ⟨hgrow5.os, hgrow5.tape, hgrow5.output, Nat.le_trans (by simp) hgrow5.size, fun k h1 h2 => (hgrow5.block k (by simp; omega) (fun e => h2 e.symm)).trans (Below.heap_alloc _ _ _ h1)⟩
        have HP1 := Lib.hid P1
        have HP2 := Lib.hid P2
        have HP3 := Lib.hid P3
        have z5 : g < W8.heap.size := Nat.lt_of_lt_of_le zg S5.out.size
        have y5 := FZ.out W8 S5.out
        obtain ⟨r1, r2, r3, r4⟩ := RD.out W8 S5.out
        refine hK _ _ (fun _ => S5.out) ?_
        clear hK K hown5 hgrow5 hloc5 P1 P2 P3
        go_frame
        apply tail_step; (rw [List.getElem?_toArray]; (repeat rw [List.getElem?_cons_succ]); rw [List.getElem?_cons_zero]); rfl; rfl; intro K hK; go_simp; refine hK _ _ (fun h => absurd (by decide) h) ?_; clear hK K
        apply tail_step; (rw [List.getElem?_toArray]; (repeat rw [List.getElem?_cons_succ]); rw [List.getElem?_cons_zero]); rfl; rfl; intro K hK; go_simp; refine hK _ _ (fun h => absurd (by decide) h) ?_; clear hK K
        refine tail_done ?_
        clear r1 r2 r3 r4 z5 y5
        refine abs_exit ?_
        intro W7 hW7
        obtain ⟨h1, h2⟩ := N7.out _ _ HP2.out HP3.out
        rw [← hW7] at h1
        have HP7 := HP1.out
        rw [← hW7] at HP7
        have FIN : Hid (∃ G', G'.pv = Value.pointer (some ⟨G.p, 0, none⟩) ∧ GrD K W7 G' (tos n (E ++ [(a, b)])) (frs n (E ++ [(a, b)])) (mE (E ++ [(a, b)])) ∧ Fr (fun k => G.has k) w W7 ∧ ∀ k, G'.has k → G.has k ∨ w.heap.size ≤ k) := ⟨{ G with ts := G.ts.set a v6, fs := G.fs.set b (.slice va (q2 + 1) vc) }, HGV.out, HP7, h1, h2⟩
        clear h1 h2 HP7 HP1 HP2 HP3 hW7 N7 S5 RD FZ HROW PU zg
        go_wp2_with fail
        go_ret
        exact ⟨rfl, FIN.out⟩
    · have hok2 : okE n E x y = false := by
        unfold okE
        simp [hy]
      have hadd : addE n E x y = E := by
        unfold addE
        rw [hok2]
        rfl
      rw [hok2, hadd]
      have ey : decide (0 ≤ y ∧ y < (n : Int)) = false := by simpa using hy
      rw [ey] at C2
      clear hadd hok2 ex ey hx hy
      have hgp : ∃ p, gv = .pointer p := ⟨_, HGV.out.symm.trans HG.out.gr.ptr⟩
      obtain ⟨p, rfl⟩ := hgp
      go_enter Try.func15, Try.ntmps15
      go_wp2_with fail
      refine C1.out.mono ?_
      rintro e w1 ⟨rfl, hb1⟩
      have D2 := Lib.hid (C2.out w1 hb1)
      have HB1 := Lib.hid hb1
      clear hb1 C1 C2
      go_wp2_with fail
      refine D2.out.mono ?_
      rintro e w2 ⟨rfl, hb2⟩
      have HB2 : Hid (Below w.heap.size w w2) := HB1.out.trans (hb2.mono HB1.out.size)
      clear hb2 D2 HB1
      go_wp2_with fail
      go_ret
      exact ⟨rfl, G, HGV.out, HG.out.below HB2.out, Fr.of_below HB2.out, fun k h => .inl h⟩
  · have hok2 : okE n E x y = false := by
      unfold okE
      simp [hx]
    have hadd : addE n E x y = E := by
      unfold addE
      rw [hok2]
      rfl
    rw [hok2, hadd]
    have ex : decide (0 ≤ x ∧ x < (n : Int)) = false := by simpa using hx
    rw [ex] at C1
    clear hadd hok2 ex hx
    have hgp : ∃ p, gv = .pointer p := ⟨_, HGV.out.symm.trans HG.out.gr.ptr⟩
    obtain ⟨p, rfl⟩ := hgp
    go_enter Try.func15, Try.ntmps15
    go_wp2_with fail
    refine C1.out.mono ?_
    rintro e w1 ⟨rfl, hb1⟩
    have HB1 := Lib.hid hb1
    clear hb1 C1
    go_wp2_with fail
    go_ret
    exact ⟨rfl, G, HGV.out, HG.out.below HB1.out, Fr.of_below HB1.out, fun k h => .inl h⟩
end Go.Proofs.Ytcjohhminiedfaa
