/- SpillContent: for every pair, every slice of pairs and every slice of acts. -/
import Derived.Test.YtihfmcadcojjnaaS23Kept
namespace Go.Proofs.Ytihfmcadcojjnaa
open Go.RowKit
def m14 (l : List P2) : List P2 := l.map fun p => (p.1 % 14, p.2 % 14)
def Full (g : G) (K : List P2) : Prop := ∀ x ∈ K, (getL g.F x).getD false = true
def Loop1 (w1 wr : World) (p : Nat) (g : G) (v : Value) (K : List P2) : Prop := KB wr p w1.heap.size g v K ∧ Full g K ∧ Below w1.heap.size w1 wr
theorem m14_snoc (g : G) {l : List P2} {k : Nat} {a b : Int} (h : l[k]? = some (a, b)) : fillAll g (m14 (l.take (k + 1))) = gFill (fillAll g (m14 (l.take k))) (a % 14) (b % 14) := by
  rw [List.take_add_one, h]
  simp only [Option.toList_some, m14, List.map_append, List.map_cons, List.map_nil, fillAll_snoc]
theorem full_fill {g : G} {K : List P2} (h : Full g K) (r c : Int) : Full (gFill g r c) K := fun x hx => fill_keeps (h x hx) r c
theorem full_snoc {g : G} {K : List P2} (h : Full g K) {r c : Int} (ho : okFill g r c = true) : Full (gFill g r c) (K ++ [(r, c)]) := fun x hx => by
  rcases List.mem_append.1 hx with hx | hx
  · exact full_fill h r c x hx
  · rw [List.mem_singleton.1 hx]; exact fill_full ho
theorem dec_snoc (g : G) {q : List Ac} {k : Nat} {a : Ac} (h : q[k]? = some a) : decAll g (q.take (k + 1)) = gDecide (decAll g (q.take k)) a.r a.c a.rs a.cs := by
  rw [List.take_add_one, h]
  simp only [Option.toList_some, decAll_snoc]
def Loop2 (w1 wr : World) (p : Nat) (g : G) (v : Value) (K : List P2) (some : Bool) : Prop := KB wr p w1.heap.size g v K ∧ Below w1.heap.size w1 wr ∧ (some = true → 0 < g.L.length)
theorem owner_anchor {g : G} (h : OwnF g) {K : List P2} (hf : Full g K) {x : P2} (hx : x ∈ K) {o : R4} (ho : getL g.O x = some o) : o.1 = x.1 ∧ o.2.1 = x.2 := by
  have := h x o ho (hf x hx)
  rw [← this]
  exact ⟨rfl, rfl⟩
set_option maxHeartbeats 2000000 in
set_option maxRecDepth 100000 in
theorem cont_main (s0 s1 : Int) (fa aa : Option Addr) (fcap acap : Nat) (l : List P2) (q : List Ac) (w : World) (q1 : 0 ≤ s0) (q2 : s0 ≤ 255) (q3 : 0 ≤ s1) (q4 : s1 ≤ 255) (hl : l.length ≤ 60) (hq : q.length ≤ 60) (hP : PairsAt w fa l) (hA : ActsAt w aa q) :
    Calls Try.prog 4 #[.agg #[.int .u8 s0, .int .u8 s1], .slice fa l.length fcap, .slice aa q.length acap] w fun e w' => e = .returned (.bool true) ∧ Below w.heap.size w w' := by
  have HP := Lib.hid hP
  have HA := Lib.hid hA
  clear hP hA
  go_enter Try.func4, Try.ntmps4
  go_wp2_with fail
  refine (awake_any _).mono ?_
  rintro e w1 ⟨rfl, hb⟩
  have hs1 : w.heap.size + 1 ≤ w1.heap.size := by have := hb.size; simpa using this
  have g0 : w1.heap[w.heap.size]? = some (.cells #[.int .u8 s0, .int .u8 s1] 29) := (hb.block _ (by simp)).trans (by (repeat (first | (with_reducible refine heap_alloc_at ?_ _; (first | rfl | (simp; done) | omega | (simp; omega)); done) | with_reducible refine heap_alloc_old ?_ _ | with_reducible refine heap_drew_old ?_ | with_reducible refine heap_drewN_old ?_)))
  have FB : Hid (Below w.heap.size w w1) := by
    refine Below.trans ?_ (hb.mono (by simp))
    (repeat (first | with_reducible exact Below.refl _ _ | with_reducible exact hBW | with_reducible refine Below.setCell ?_ ?_ _ | with_reducible refine Below.alloc ?_ ?_ _ | with_reducible refine belowN ?_ _ | with_reducible refine Below.drew ?_)); all_goals (first | omega | (dsimp only; omega) | ((repeat (first | with_reducible refine le_alloc ?_ | with_reducible refine le_setCell ?_ | with_reducible refine le_drew ?_ | with_reducible refine le_drewN ?_)); omega))
  clear hb
  have x0 := cell_of_heap g0 0
  have x1 := cell_of_heap g0 1
  have y0 : w.heap.size < w1.heap.size := by omega
  clear g0
  go_wp2_with fail
  refine (new_o _ _ _).mono ?_
  generalize s0 % 12 = R0
  generalize s1 % 12 = C0
  rintro e w2 ⟨rfl, b2, f2, _⟩
  clear x0 x1 y0
  obtain ⟨p, hp⟩ : ∃ p, p = w1.heap.size + 3 := ⟨_, rfl⟩
  rw [← hp] at b2 ⊢
  have K2 : Hid (Loop1 w1 w2 p (fillAll (gNew R0 C0) (m14 (l.take 0))) (.slice none 0 0) []) := ⟨b2.kb, fun x hx => (by cases hx), f2⟩
  clear b2 f2 hp
  obtain ⟨i0, hi, hz0, hz1, hz2⟩ := info_parts info36
  have HI := Lib.hid hi
  have HZ0 := Lib.hid hz0
  have HZ1 := Lib.hid hz1
  have HZ2 := Lib.hid hz2
  clear hi hz0 hz1 hz2
  go_wp2_with fail
  go_loopw [8, 9] (fun kv i wr => ∃ (k : Nat) (K : List P2), i = .int .i64 k ∧ k ≤ l.length ∧ K.length ≤ k ∧ Hid (Loop1 w1 wr p (fillAll (gNew R0 C0) (m14 (l.take k))) kv K)) (fun _ i _ => l.length - (intOf i).toNat)
  case atStart => exact ⟨0, [], rfl, Nat.zero_le _, Nat.zero_le _, K2⟩
  case round =>
    obtain ⟨k, K, rfl, hk, hKk, L1⟩ := hrel
    by_cases hlt : k < l.length
    · obtain ⟨⟨p1, p2⟩, hp⟩ : ∃ p, l[k]? = some p := ⟨_, List.getElem?_eq_getElem hlt⟩
      obtain ⟨hr, hc⟩ := HP.out
      obtain ⟨r1, r2, r3, r4⟩ := hr (p1, p2) (List.mem_of_getElem? hp)
      simp only at r1 r2 r3 r4
      obtain ⟨b, off, rfl, hbw, hcell⟩ := hc (by omega)
      obtain ⟨e1, e2⟩ := hcell k (p1, p2) hp
      have hBw : Below w.heap.size w wr := FB.out.trans (L1.out.2.2.mono FB.out.size)
      have d1 := (hBw.cell (p := ⟨b, off + k * 2, none⟩) hbw).trans e1
      have d2 := (hBw.cell (p := ⟨b, off + k * 2 + 1, none⟩) hbw).trans e2
      have hb1 : b < wr.heap.size := Nat.lt_of_lt_of_le hbw hBw.size
      have i1 : IntKind.i64.wrap p1 = p1 := IntWalk.i64_in _ (by omega)
      have i2 : IntKind.i64.wrap p2 = p2 := IntWalk.i64_in _ (by omega)
      have t1 : p1.tmod 14 = p1 % 14 := Int.tmod_eq_emod_of_nonneg r1
      have t2 : p2.tmod 14 = p2 % 14 := Int.tmod_eq_emod_of_nonneg r3
      have j1 : (0 : Int) ≤ (k : Int) := by omega
      have j2 : (k : Int) < (l.length : Int) := by omega
      have SN := Lib.hid (m14_snoc (gNew R0 C0) hp)
      clear hp hr hc hcell e1 e2 hBw
      go_wp2_with fail
      refine wp_region_mix [0, 1, 2, 3, 4, 5, 6, 7, 8, 9, 10, 11, 12, 13, 14, 15] [] [] (Below wr.heap.size wr) (by kernel_rfl) (by kernel_rfl) (Below.refl _ _).drew ?_
      iterate 16 (first | (apply first_step; (rw [List.getElem?_toArray]; (repeat rw [List.getElem?_cons_succ]); rw [List.getElem?_cons_zero]); rfl; (intro W hB; have hc := bcellB hB; go_simp; (first | done | rfl)); go_frame) | (apply first_skip; (rw [List.getElem?_toArray]; (repeat rw [List.getElem?_cons_succ]); rw [List.getElem?_cons_zero]); rfl; go_frame))
      refine first_done ?_
      refine tail_done ?_
      clear d1 d2 hb1 i1 i2 t1 t2 j1 j2
      go_wp2_with fail
      refine (fill_kb (L1.out.1.below (Below.refl _ _).drew) _ _).mono ?_
      cases hok : okFill (fillAll (gNew R0 C0) (m14 (l.take k))) (p1 % 14) (p2 % 14) with
      | true =>
        rintro e w5 ⟨rfl, k5, f5⟩
        have F5 : Hid (Full (gFill (fillAll (gNew R0 C0) (m14 (l.take k))) (p1 % 14) (p2 % 14)) (K ++ [(p1 % 14, p2 % 14)])) := full_snoc L1.out.2.1 hok
        have B5 : Hid (Below w1.heap.size w1 w5) := L1.out.2.2.trans ((Below.refl _ wr).drew.trans f5)
        have K5 := Lib.hid k5
        clear k5 f5 hok
        obtain ⟨S5, h2, h3, h4, h5⟩ := K5.out.2
        have H4 := Lib.hid h4
        clear h2 h3 h4 h5
        go_wp2_with (at_builtin; refine wpList_append_own_at _ rfl _ _ 35 rfl w1.heap.size 36 i0 (.agg #[.int .i64 0, .int .i64 0]) 2 16 Try.underlying35 HI.out HZ0.out HZ1.out HZ2.out rfl (by decide) _ _ _ rfl (H4.out.alloc _) ⟨w5.heap.size, 0, none⟩ 1 1 (c2 (p1 % 14, p2 % 14)) rfl rfl (cells_new _ #[.int .i64 (p1 % 14), .int .i64 (p2 % 14)] 36) (by simp [c2, Value.oneCell']) (by unfold maxLen; omega) (by omega) (by have := K5.out.1; simp; omega) ?_; intro v' w6 hown' hgrow _ hloc)
        obtain ⟨k6, f6⟩ := K5.out.appended (x := (p1 % 14, p2 % 14)) (below_alloc w5 _ _ (Nat.le_refl _)) hown' hgrow hloc
        have L6 : Hid (Loop1 w1 w6 p (gFill (fillAll (gNew R0 C0) (m14 (l.take k))) (p1 % 14) (p2 % 14)) v' (K ++ [(p1 % 14, p2 % 14)])) := ⟨k6, F5.out, B5.out.trans f6⟩
        clear k6 f6 hown' hgrow hloc
        go_wp2_with fail
        go_roundw
        case rel => exact ⟨k + 1, K ++ [(p1 % 14, p2 % 14)], by go_num, by omega, by simp; omega, by rw [SN.out]; exact L6⟩
        case measure => simp [intOf]; omega
      | false =>
        rintro e w5 ⟨rfl, k5, f5⟩
        have L6 := Lib.hid (show Loop1 w1 w5 p (gFill (fillAll (gNew R0 C0) (m14 (l.take k))) (p1 % 14) (p2 % 14)) _ K from ⟨k5, full_fill L1.out.2.1 _ _, L1.out.2.2.trans ((Below.refl _ wr).drew.trans f5)⟩)
        clear k5 f5 hok
        go_wp2_with fail
        go_roundw
        case rel => exact ⟨k + 1, K, by go_num, by omega, by omega, by rw [SN.out]; exact L6⟩
        case measure => simp [intOf]; omega
    · obtain ⟨g1, hg1⟩ : ∃ g1, g1 = fillAll (gNew R0 C0) (m14 (l.take k)) := ⟨_, rfl⟩
      rw [← hg1] at L1
      have LG : Hid (g1.L.length = 0) := by rw [hg1]; unfold Hid; rw [fillAll_L]; rfl
      have OF : Hid (OwnF g1) := by
        rw [hg1]; intro x o ho; rw [fillAll_O] at ho; simp [gNew, getL] at ho
      have FK : Hid (Full g1 K) := L1.out.2.1
      have L2 := Lib.hid (show Loop2 w1 wr p (decAll g1 (q.take 0)) _ K false from ⟨L1.out.1, L1.out.2.2, fun h => (by cases h)⟩)
      clear hg1 L1
      go_wp2_with fail
      clear HP
      go_loopw [12, 13] (fun sm i wr => ∃ (j : Nat) (sb : Bool), sm = .bool sb ∧ i = .int .i64 j ∧ j ≤ q.length ∧ Hid (Loop2 w1 wr p (decAll g1 (q.take j)) _ K sb)) (fun _ i _ => q.length - (intOf i).toNat)
      case atStart => exact ⟨0, false, rfl, rfl, Nat.zero_le _, L2⟩
      case round =>
        obtain ⟨j, sb, rfl, rfl, hj, L3⟩ := hrel
        by_cases hjt : j < q.length
        · obtain ⟨x, hx⟩ : ∃ x, q[j]? = some x := ⟨_, List.getElem?_eq_getElem hjt⟩
          obtain ⟨b, off, rfl, hbw, hcell⟩ := HA.out (by omega)
          obtain ⟨_, e1, e2, e3, e4⟩ := hcell j x hx
          have hBw : Below w.heap.size w wr := FB.out.trans (L3.out.2.1.mono FB.out.size)
          have d1 := (hBw.cell (p := ⟨b, off + j * 5 + 1, none⟩) hbw).trans e1
          have d2 := (hBw.cell (p := ⟨b, off + j * 5 + 2, none⟩) hbw).trans e2
          have d3 := (hBw.cell (p := ⟨b, off + j * 5 + 3, none⟩) hbw).trans e3
          have d4 := (hBw.cell (p := ⟨b, off + j * 5 + 4, none⟩) hbw).trans e4
          have hb1 : b < wr.heap.size := Nat.lt_of_lt_of_le hbw hBw.size
          have j1 : (0 : Int) ≤ (j : Int) := by omega
          have j2 : (j : Int) < (q.length : Int) := by omega
          have SN := Lib.hid (dec_snoc g1 hx)
          have HLn : Hid ((decAll g1 (q.take j)).L.length ≤ 1000000) := by
            have := decAll_len g1 (q.take j)
            have := LG.out
            have := List.length_take_le j q
            unfold Hid
            omega
          have E1 := Lib.hid e1
          have E2 := Lib.hid e2
          clear hx hcell e1 e2 e3 e4 hBw
          go_wp2_with fail
          refine wp_region_mix3 [0, 1, 2, 3, 4, 5, 6, 7, 8, 9, 10, 11, 12, 13, 14, 15, 16, 17, 18, 19, 20] [21, 22, 23, 24, 25, 26] [21, 22, 23, 24, 25, 26] [23, 24] (Below wr.heap.size wr) (by kernel_rfl) (by kernel_rfl) (Below.refl _ _).drew ?_
          iterate 21 (first | (apply first_step; (rw [List.getElem?_toArray]; (repeat rw [List.getElem?_cons_succ]); rw [List.getElem?_cons_zero]); rfl; (intro W hB; have hc := bcellB hB; go_simp; (first | done | rfl)); go_frame) | (apply first_skip; (rw [List.getElem?_toArray]; (repeat rw [List.getElem?_cons_succ]); rw [List.getElem?_cons_zero]); rfl; go_frame))
          refine first_done ?_
          apply tail_step; (rw [List.getElem?_toArray]; (repeat rw [List.getElem?_cons_succ]); rw [List.getElem?_cons_zero]); rfl; rfl; intro K hK; go_simp
          refine (dec_kb (L3.out.1.below (Below.refl _ _).drew) HLn.out _ _ _ _).mono ?_
          rintro e w5 ⟨rfl, k5, f5⟩
          refine hK _ _ (fun h => absurd (by decide) h) ?_
          clear hK K
          (apply tail_step; (rw [List.getElem?_toArray]; (repeat rw [List.getElem?_cons_succ]); rw [List.getElem?_cons_zero]); rfl; rfl; intro K hK; go_simp; refine hK _ _ (fun h => absurd (by decide) h) ?_; clear hK K)
          (apply tail_pure; (rw [List.getElem?_toArray]; (repeat rw [List.getElem?_cons_succ]); rw [List.getElem?_cons_zero]); rfl; rfl; (intro W; go_simp; (first | done | rfl)); go_frame)
          (apply tail_pure; (rw [List.getElem?_toArray]; (repeat rw [List.getElem?_cons_succ]); rw [List.getElem?_cons_zero]); rfl; rfl; (intro W; go_simp; (first | done | rfl)); go_frame)
          (apply tail_step; (rw [List.getElem?_toArray]; (repeat rw [List.getElem?_cons_succ]); rw [List.getElem?_cons_zero]); rfl; rfl; intro K hK; go_simp; refine hK _ _ (fun h => absurd (by decide) h) ?_; clear hK K)
          (apply tail_step; (rw [List.getElem?_toArray]; (repeat rw [List.getElem?_cons_succ]); rw [List.getElem?_cons_zero]); rfl; rfl; intro K hK; go_simp; refine hK _ _ (fun h => absurd (by decide) h) ?_; clear hK K)
          refine tail_done ?_
          clear d1 d2 d3 d4 hb1
          have B5 : Hid (Below w1.heap.size w1 w5) := L3.out.2.1.trans ((Below.refl _ wr).drew.trans f5)
          have K5 := Lib.hid k5
          have hB5 : Below w.heap.size w w5 := FB.out.trans (B5.out.mono FB.out.size)
          have d1 := (hB5.cell (p := ⟨b, off + j * 5 + 1, none⟩) hbw).trans E1.out
          have d2 := (hB5.cell (p := ⟨b, off + j * 5 + 2, none⟩) hbw).trans E2.out
          have hb5 : b < w5.heap.size := Nat.lt_of_lt_of_le hbw hB5.size
          have GP0 : Hid (gErr (decAll g1 (q.take j)) x.r x.c x.rs x.cs = 0 ∨ 0 < (decAll g1 (q.take j)).L.length → 0 < (gDecide (decAll g1 (q.take j)) x.r x.c x.rs x.cs).L.length) := decide_pos
          have GS : Hid (sb = true → 0 < (decAll g1 (q.take j)).L.length) := L3.out.2.2
          clear k5 f5 hB5 E1 E2 L3
          generalize gErr (decAll g1 (q.take j)) x.r x.c x.rs x.cs = ge at GP0 ⊢
          cases sb with
          | true =>
            have GP := Lib.hid (GP0.out (.inr (GS.out rfl)))
            clear GP0 GS
            go_wp2_with fail
            have gp : 0 < (gDecide (decAll g1 (q.take j)) x.r x.c x.rs x.cs).L.length := GP.out
            refine wp_region_mix [0, 1, 2, 3, 4, 5, 6, 7, 8, 9, 10, 11, 12] [13, 14] [13, 14] (Below w5.heap.size w5) (by kernel_rfl) (by kernel_rfl) (Below.refl _ _).drew ?_
            iterate 13 (first | (apply first_step; (rw [List.getElem?_toArray]; (repeat rw [List.getElem?_cons_succ]); rw [List.getElem?_cons_zero]); rfl; (intro W hB; have hc := bcellB hB; go_simp; (first | done | rfl)); go_frame) | (apply first_skip; (rw [List.getElem?_toArray]; (repeat rw [List.getElem?_cons_succ]); rw [List.getElem?_cons_zero]); rfl; go_frame))
            refine first_done ?_
            apply tail_step; (rw [List.getElem?_toArray]; (repeat rw [List.getElem?_cons_succ]); rw [List.getElem?_cons_zero]); rfl; rfl; intro K hK; go_simp
            refine (fill_kb (K5.out.below (Below.refl _ _).drew) x.r x.c).mono ?_
            rw [(fill_late gp x.r x.c).1, (fill_late gp x.r x.c).2]
            rintro e w6 ⟨rfl, k6, f6⟩
            refine hK _ _ (fun h => absurd (by decide) h) ?_
            clear hK K
            (apply tail_step; (rw [List.getElem?_toArray]; (repeat rw [List.getElem?_cons_succ]); rw [List.getElem?_cons_zero]); rfl; rfl; intro K hK; go_simp; refine hK _ _ (fun h => absurd (by decide) h) ?_; clear hK K)
            refine tail_done ?_
            have L6 := Lib.hid (show Loop2 w1 w6 p (gDecide (decAll g1 (q.take j)) x.r x.c x.rs x.cs) _ K true from ⟨k6, B5.out.trans ((Below.refl _ w5).drew.trans f6), fun _ => gp⟩)
            clear k6 f6 d1 d2 hb5 gp
            go_wp2_with fail
            go_roundw
            case rel => exact ⟨j + 1, true, rfl, by go_num, by omega, by rw [SN.out]; exact L6⟩
            case measure => simp [intOf]; omega
          | false =>
            by_cases hge : ge = 0
            · have GP := Lib.hid (GP0.out (.inl hge))
              clear GP0 GS
              subst hge
              go_wp2_with fail
              have gp : 0 < (gDecide (decAll g1 (q.take j)) x.r x.c x.rs x.cs).L.length := GP.out
              refine wp_region_mix [0, 1, 2, 3, 4, 5, 6, 7, 8, 9, 10, 11, 12] [13, 14] [13, 14] (Below w5.heap.size w5) (by kernel_rfl) (by kernel_rfl) (Below.refl _ _).drew ?_
              iterate 13 (first | (apply first_step; (rw [List.getElem?_toArray]; (repeat rw [List.getElem?_cons_succ]); rw [List.getElem?_cons_zero]); rfl; (intro W hB; have hc := bcellB hB; go_simp; (first | done | rfl)); go_frame) | (apply first_skip; (rw [List.getElem?_toArray]; (repeat rw [List.getElem?_cons_succ]); rw [List.getElem?_cons_zero]); rfl; go_frame))
              refine first_done ?_
              apply tail_step; (rw [List.getElem?_toArray]; (repeat rw [List.getElem?_cons_succ]); rw [List.getElem?_cons_zero]); rfl; rfl; intro K hK; go_simp
              refine (fill_kb (K5.out.below (Below.refl _ _).drew) x.r x.c).mono ?_
              rw [(fill_late gp x.r x.c).1, (fill_late gp x.r x.c).2]
              rintro e w6 ⟨rfl, k6, f6⟩
              refine hK _ _ (fun h => absurd (by decide) h) ?_
              clear hK K
              (apply tail_step; (rw [List.getElem?_toArray]; (repeat rw [List.getElem?_cons_succ]); rw [List.getElem?_cons_zero]); rfl; rfl; intro K hK; go_simp; refine hK _ _ (fun h => absurd (by decide) h) ?_; clear hK K)
              refine tail_done ?_
              have L6 := Lib.hid (show Loop2 w1 w6 p (gDecide (decAll g1 (q.take j)) x.r x.c x.rs x.cs) _ K true from ⟨k6, B5.out.trans ((Below.refl _ w5).drew.trans f6), fun _ => gp⟩)
              clear k6 f6 d1 d2 hb5 gp
              go_wp2_with fail
              go_roundw
              case rel => exact ⟨j + 1, true, rfl, by go_num, by omega, by rw [SN.out]; exact L6⟩
              case measure => simp [intOf]; omega
            · have hgb : (ge == 0) = false := by simpa using hge
              clear GP0 GS hge
              go_wp2_with fail
              refine wp_region_mix [0, 1, 2, 3, 4, 5, 6, 7, 8, 9, 10, 11, 12] [13, 14] [13, 14] (Below w5.heap.size w5) (by kernel_rfl) (by kernel_rfl) (Below.refl _ _).drew ?_
              iterate 13 (first | (apply first_step; (rw [List.getElem?_toArray]; (repeat rw [List.getElem?_cons_succ]); rw [List.getElem?_cons_zero]); rfl; (intro W hB; have hc := bcellB hB; go_simp; (first | done | rfl)); go_frame) | (apply first_skip; (rw [List.getElem?_toArray]; (repeat rw [List.getElem?_cons_succ]); rw [List.getElem?_cons_zero]); rfl; go_frame))
              refine first_done ?_
              apply tail_skip; (rw [List.getElem?_toArray]; (repeat rw [List.getElem?_cons_succ]); rw [List.getElem?_cons_zero]); rfl; rfl; (exact fun h => absurd (by decide) h); go_frame
              (apply tail_step; (rw [List.getElem?_toArray]; (repeat rw [List.getElem?_cons_succ]); rw [List.getElem?_cons_zero]); rfl; rfl; intro K hK; go_simp; refine hK _ _ (fun h => absurd (by decide) h) ?_; clear hK K)
              refine tail_done ?_
              have L6 := Lib.hid (show Loop2 w1 w5.drew p (gDecide (decAll g1 (q.take j)) x.r x.c x.rs x.cs) _ K false from ⟨K5.out.below (Below.refl _ _).drew, B5.out.drew, fun h => (by cases h)⟩)
              clear d1 d2 hb5
              go_wp2_with fail
              go_roundw
              case rel => exact ⟨j + 1, false, rfl, by go_num, by omega, by rw [SN.out]; exact L6⟩
              case measure => simp [intOf]; omega
        · obtain ⟨g2, hg2⟩ : ∃ g2, g2 = decAll g1 (q.take j) := ⟨_, rfl⟩
          rw [← hg2] at L3
          have OF2 : Hid (OwnF g2) := by rw [hg2]; exact decAll_ownF OF.out _
          have FK2 : Hid (Full g2 K) := by
            rw [hg2]; intro x hx; rw [decAll_F]; exact FK.out x hx
          have L4 : Hid (KB wr p w1.heap.size g2 _ K ∧ Below w1.heap.size w1 wr) := ⟨L3.out.1, L3.out.2.1⟩
          obtain ⟨a, cap, rfl⟩ := L3.out.1.slice
          clear hg2 L3 OF FK LG HA
          go_wp2_with fail
          go_loopw [125] (fun x wr => ∃ n : Nat, x = .int .i64 n ∧ n ≤ K.length ∧ Hid (KB wr p w1.heap.size g2 (.slice a K.length cap) K ∧ Below w1.heap.size w1 wr)) (fun x _ => K.length - (intOf x).toNat)
          case atStart => exact ⟨0, rfl, Nat.zero_le _, L4⟩
          case round =>
            obtain ⟨n, rfl, hn, L5⟩ := hrel
            by_cases hnt : n < K.length
            · obtain ⟨⟨x1, x2⟩, hx⟩ : ∃ x, K[n]? = some x := ⟨_, List.getElem?_eq_getElem hnt⟩
              obtain ⟨gb, cap', hv, hgb, hcell⟩ := L5.out.1.at hx
              simp only [Value.slice.injEq, true_and] at hv
              obtain ⟨rfl, rfl⟩ := hv
              have c0 := hcell 0 (by omega)
              have c1 := hcell 1 (by omega)
              rw [Nat.add_zero] at c0
              unfold c2 at c0 c1
              have j1 : (0 : Int) ≤ (n : Int) := by omega
              have j2 : (n : Int) < (K.length : Int) := by omega
              have hm := List.mem_of_getElem? hx
              have OA : Hid (∀ o, getL g2.O (x1, x2) = some o → o.1 = x1 ∧ o.2.1 = x2) := fun o ho => owner_anchor OF2.out FK2.out hm ho
              clear hcell hx hm
              go_wp2_with fail
              refine (owner_kb (L5.out.1.below (below_alloc wr _ _ (Nat.le_refl _))) _ _).mono ?_
              rintro e w6 ⟨rfl, k6, f6⟩
              have K6 := Lib.hid k6
              have hs6 : wr.heap.size + 1 ≤ w6.heap.size := by have := f6.size; simpa using this
              have B6 : Hid (Below w1.heap.size w1 w6) := L5.out.2.trans ((below_alloc wr _ _ L5.out.2.size).trans (f6.mono (Nat.le_trans L5.out.2.size (by simp))))
              have e6 : w6.heap[wr.heap.size]? = some (.cells #[.int .i64 x1, .int .i64 x2] 36) := (f6.block _ (by simp)).trans (heap_alloc_new wr _)
              have z0 := cell_of_heap e6 0
              have z1 := cell_of_heap e6 1
              have hn6 : wr.heap.size < w6.heap.size := by omega
              clear k6 f6 e6 c0 c1 hgb L5
              unfold ownerR
              cases hO : getL g2.O (x1, x2) with
              | none =>
                rw [Option.getD_none, Option.isSome_none]
                unfold encR
                clear hO OA
                go_wp2_with fail
                go_roundw
                case rel => exact ⟨n + 1, by go_num, by omega, K6.out.below (below_alloc w6 _ _ (Nat.le_refl _)), B6.out.alloc B6.out.size _⟩
                case measure => simp [intOf]; omega
              | some o =>
                obtain ⟨o1, o2, o3, o4⟩ := o
                obtain ⟨rfl, rfl⟩ := OA.out _ hO
                rw [Option.getD_some, Option.isSome_some]
                unfold encR
                clear hO OA
                go_wp2_with fail
                go_roundw
                case rel => exact ⟨n + 1, by go_num, by omega, K6.out.below (below_alloc w6 _ _ (Nat.le_refl _)), B6.out.alloc B6.out.size _⟩
                case measure => simp [intOf]; omega
            · go_wp2_with fail
              go_ret
              exact ⟨rfl, FB.out.trans (L5.out.2.mono FB.out.size)⟩
set_option maxHeartbeats 2000000 in
set_option maxRecDepth 100000 in
theorem cont_long (s0 s1 : Int) (fa aa : Option Addr) (fcap acap : Nat) (l : List P2) (q : List Ac) (w : World) (hq : 60 < q.length) :
    Calls Try.prog 4 #[.agg #[.int .u8 s0, .int .u8 s1], .slice fa l.length fcap, .slice aa q.length acap] w fun e w' => e = .returned (.bool true) ∧ Below w.heap.size w w' := by
  go_enter Try.func4, Try.ntmps4
  go_wp2_with fail
  refine (awake_any _).mono ?_
  rintro e w1 ⟨rfl, hb⟩
  have FB : Hid (Below w.heap.size w w1) := by
    refine Below.trans ?_ (hb.mono (by simp))
    (repeat (first | with_reducible exact Below.refl _ _ | with_reducible exact hBW | with_reducible refine Below.setCell ?_ ?_ _ | with_reducible refine Below.alloc ?_ ?_ _ | with_reducible refine belowN ?_ _ | with_reducible refine Below.drew ?_)); all_goals (first | omega | (dsimp only; omega) | ((repeat (first | with_reducible refine le_alloc ?_ | with_reducible refine le_setCell ?_ | with_reducible refine le_drew ?_ | with_reducible refine le_drewN ?_)); omega))
  clear hb
  go_wp2_with fail
  refine (awake_any _).mono ?_
  rintro e w2 ⟨rfl, hb⟩
  have FB2 := Lib.hid (FB.out.trans (hb.mono FB.out.size))
  clear hb
  go_wp2_with fail
  go_ret
  exact ⟨rfl, FB2.out⟩
set_option maxHeartbeats 2000000 in
set_option maxRecDepth 100000 in
theorem cont_long2 (s0 s1 : Int) (fa aa : Option Addr) (fcap acap : Nat) (l : List P2) (q : List Ac) (w : World) (hq : q.length ≤ 60) (hl : 60 < l.length) :
    Calls Try.prog 4 #[.agg #[.int .u8 s0, .int .u8 s1], .slice fa l.length fcap, .slice aa q.length acap] w fun e w' => e = .returned (.bool true) ∧ Below w.heap.size w w' := by
  go_enter Try.func4, Try.ntmps4
  go_wp2_with fail
  refine (awake_any _).mono ?_
  rintro e w1 ⟨rfl, hb⟩
  have FB : Hid (Below w.heap.size w w1) := by
    refine Below.trans ?_ (hb.mono (by simp))
    (repeat (first | with_reducible exact Below.refl _ _ | with_reducible exact hBW | with_reducible refine Below.setCell ?_ ?_ _ | with_reducible refine Below.alloc ?_ ?_ _ | with_reducible refine belowN ?_ _ | with_reducible refine Below.drew ?_)); all_goals (first | omega | (dsimp only; omega) | ((repeat (first | with_reducible refine le_alloc ?_ | with_reducible refine le_setCell ?_ | with_reducible refine le_drew ?_ | with_reducible refine le_drewN ?_)); omega))
  clear hb
  go_wp2_with fail
  refine (awake_any _).mono ?_
  rintro e w2 ⟨rfl, hb⟩
  have FB2 := Lib.hid (FB.out.trans (hb.mono FB.out.size))
  clear hb
  go_wp2_with fail
  go_ret
  exact ⟨rfl, FB2.out⟩
theorem cont_law (s0 s1 : Int) (fa aa : Option Addr) (fcap acap : Nat) (l : List P2) (q : List Ac) (w : World) (q1 : 0 ≤ s0) (q2 : s0 ≤ 255) (q3 : 0 ≤ s1) (q4 : s1 ≤ 255) (hP : PairsAt w fa l) (hA : ActsAt w aa q) :
    Calls Try.prog 4 #[.agg #[.int .u8 s0, .int .u8 s1], .slice fa l.length fcap, .slice aa q.length acap] w fun e w' => e = .returned (.bool true) ∧ Below w.heap.size w w' := by
  by_cases h1 : 60 < q.length
  · exact cont_long s0 s1 fa aa fcap acap l q w h1
  · by_cases h2 : 60 < l.length
    · exact cont_long2 s0 s1 fa aa fcap acap l q w (by omega) h2
    · exact cont_main s0 s1 fa aa fcap acap l q w q1 q2 q3 q4 (by omega) (by omega) hP hA
end Go.Proofs.Ytihfmcadcojjnaa
