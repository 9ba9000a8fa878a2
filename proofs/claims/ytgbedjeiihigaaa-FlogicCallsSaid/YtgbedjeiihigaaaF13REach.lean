/- The document's answer: Call at NOT and at the questions for kinds. -/
import Derived.Test.YtgbedjeiihigaaaF13RCall
import Derived.Test.YtgbedjeiihigaaaF13Build
namespace Go.Proofs.Ytgbedjeiihigaaa
open Go.RowKit
section
variable (s : ByteArray) (a : Option Addr) (cap : Nat) (w : World)
set_option maxHeartbeats 4000000
set_option maxRecDepth 100000
theorem rcall_each {F : V → V} (hC : CntIs s 1 1 true) (n1 : (s.toList == [78, 65]) = false) (n2 : (s.toList == [65, 78, 68]) = false) (n3 : (s.toList == [79, 82]) = false) (n4 : (s.toList == [88, 79, 82]) = false)
    (A : Arr) (hR : ArrR A) (hZ : A.l.length ≤ 60) (hF : ∀ v ∈ A.l, ∀ w : World, Calls Try.prog 28 #[.string s, vagg v] w fun e w' => e = .returned (vagg (F v)) ∧ Below w.heap.size w w') (hA : ArgsAt 0 w a [A]) :
    Calls Try.prog 16 #[.string s, .slice a 1 cap] w (CallP w ⟨A.r, A.c, A.l.map F⟩ true) := by
  have HC : Hid (∀ w : World, Calls Try.prog 24 #[.string s] w fun e w' => e = .returned (.tuple #[.int .i64 1, .int .i64 1, .bool true]) ∧ w = w') := hC
  have HR := Lib.hid hR
  have HA := Lib.hid hA
  have HF := Lib.hid hF
  clear hC hR hA hF
  go_enter Try.func16, Try.ntmps16
  go_wp2_with fail
  refine (HC.out _).mono ?_
  rintro e w1 ⟨rfl, rfl⟩
  go_wp2_with fail
  refine abs_world ?_
  intro W2 hW2
  have hB2 : Hid (Below w.heap.size w W2) := by rw [hW2]; unfold Hid; (repeat (first | with_reducible exact Below.refl _ _ | with_reducible exact hBW | with_reducible refine Below.setCell ?_ ?_ _ | with_reducible refine Below.alloc ?_ ?_ _ | with_reducible refine belowN ?_ _ | with_reducible refine Below.drew ?_)); all_goals (first | omega | (dsimp only; omega) | ((repeat (first | with_reducible refine le_alloc ?_ | with_reducible refine le_setCell ?_ | with_reducible refine le_drew ?_ | with_reducible refine le_drewN ?_)); omega))
  have g0 : W2.heap[w.heap.size]? = some (.cells #[.int .i64 0, .int .i64 0, .slice none 0 0] 27) := by rw [hW2]; (repeat (first | (with_reducible refine heap_alloc_at ?_ _; (first | rfl | (simp; done) | omega | (simp; omega)); done) | with_reducible refine heap_alloc_old ?_ _ | with_reducible refine heap_drew_old ?_ | with_reducible refine heap_drewN_old ?_))
  have G0 := Lib.hid g0
  clear hW2 g0
  go_loopw [9] (fun i wr => ∃ k : Nat, i = .int .i64 k ∧ k ≤ 1 ∧ Hid (Below W2.heap.size W2 wr)) (fun i _ => 1 - (intOf i).toNat)
  case atStart => exact ⟨0, rfl, Nat.zero_le _, Below.refl _ _⟩
  case round =>
    obtain ⟨k, rfl, hk, hB⟩ := hrel
    have HBw : Hid (Below w.heap.size w wr) := hB2.out.trans (hB.out.mono hB2.out.size)
    obtain ⟨b, off, rfl, _, hb, hall⟩ := (HA.out.below HBw.out) (by simp)
    obtain ⟨a', cap', c0, c1, c2, hsl⟩ := hall 0 A rfl
    have HSL := Lib.hid hsl
    simp only [Nat.zero_mul, Nat.add_zero] at c0 c1 c2
    clear hall hsl
    by_cases hlt : k < 1
    · have hk0 : k = 0 := by omega
      subst hk0
      go_wp2_with fail
      refine (q09_any A a' cap' _ HSL.out).mono ?_
      rintro e' w3 ⟨R, rfl, hRR, hb3⟩
      have HB3 : Hid (Below W2.heap.size W2 w3) := hB.out.trans (hb3.mono hB.out.size)
      have hR1 : R = true := hRR.2 HR.out
      subst hR1
      clear hb3 c0 c1 c2 hRR
      go_wp2_with fail
      go_roundw
      case rel => exact ⟨0 + 1, by go_num, by omega, HB3⟩
      case measure => simp [intOf]
    · go_wp2_with fail
      refine wp_region_multiR [([0, 4, 1, 5, 2, 6, 3, 7, 8], [9, 10], [10])] (by kernel_rfl) (by kernel_rfl) ?_
      refine multi_phase (Below wr.heap.size wr) (Below.refl _ _).drew ?_
      iterate 9 (first | (apply first_step; (rw [List.getElem?_toArray]; (repeat rw [List.getElem?_cons_succ]); rw [List.getElem?_cons_zero]); rfl; (intro W hB; have hc := bcellB hB; go_simp; (first | done | rfl)); go_frame) | (apply first_skip; (rw [List.getElem?_toArray]; (repeat rw [List.getElem?_cons_succ]); rw [List.getElem?_cons_zero]); rfl; go_frame))
      refine first_done ?_
      apply forced_step; (rw [List.getElem?_toArray]; (repeat rw [List.getElem?_cons_succ]); rw [List.getElem?_cons_zero]); rfl; intro K hK; go_simp
      refine hK _ _ (fun _ => (Below.refl _ wr).drew.alloc (Nat.le_refl _) _) ?_
      clear hK K
      apply forced_step; (rw [List.getElem?_toArray]; (repeat rw [List.getElem?_cons_succ]); rw [List.getElem?_cons_zero]); rfl; intro K hK; go_simp
      refine hK _ _ (fun h => absurd (by decide) h) ?_
      clear hK K
      refine forced_done ?_
      refine multi_done ?_
      obtain ⟨i0, hi, hz0, hz1, hz2⟩ := info_parts info36
      have HI := Lib.hid hi
      have HZ0 := Lib.hid hz0
      have HZ1 := Lib.hid hz1
      have HZ2 := Lib.hid hz2
      clear hi hz0 hz1 hz2
      go_wp2_with fail
      refine abs_world ?_
      intro W3 hW3
      have hB3 : Below wr.heap.size wr W3 := by rw [hW3]; (repeat (first | with_reducible exact Below.refl _ _ | with_reducible exact hBW | with_reducible refine Below.setCell ?_ ?_ _ | with_reducible refine Below.alloc ?_ ?_ _ | with_reducible refine belowN ?_ _ | with_reducible refine Below.drew ?_)); all_goals (first | omega | (dsimp only; omega) | ((repeat (first | with_reducible refine le_alloc ?_ | with_reducible refine le_setCell ?_ | with_reducible refine le_drew ?_ | with_reducible refine le_drewN ?_)); omega))
      have hp3 : W3.heap[wr.heap.size]? = some (.cells #[.int .i64 A.r, .int .i64 A.c, .slice none 0 0] 27) := by
        rw [hW3]; (repeat (first | (with_reducible refine heap_alloc_at ?_ _; (first | rfl | (simp; done) | omega | (simp; omega)); done) | with_reducible refine heap_alloc_old ?_ _ | with_reducible refine heap_drew_old ?_ | with_reducible refine heap_drewN_old ?_))
      have hs3 : W3.heap.size = wr.heap.size + 1 := by rw [hW3]; simp
      have HB3 := Lib.hid hB3
      have B0 : Hid (BSt W3 wr.heap.size wr.heap.size A.r A.c ((A.l.take 0).map F) W3) := ⟨Below.refl _ _, _, hp3, World.ownsRow_nil _ _ _ _⟩
      have C0 := Lib.hid c0
      have C1 := Lib.hid c1
      have C2 := Lib.hid c2
      clear hW3 hB3 hp3 c0 c1 c2
      have hpw : wr.heap.size < W3.heap.size := by omega
      obtain ⟨p, hp⟩ : ∃ p, p = wr.heap.size := ⟨_, rfl⟩
      have HP := Lib.hid hp
      rw [← hp] at B0 hpw hs3 ⊢
      clear hp
      go_loopw [11] (fun x wq => ∃ j : Nat, x = .int .i64 j ∧ j ≤ A.l.length ∧ Hid (BSt W3 p p A.r A.c ((A.l.take j).map F) wq)) (fun x _ => A.l.length - (intOf x).toNat)
      case atStart => exact ⟨0, rfl, Nat.zero_le _, B0⟩
      case round =>
        clear B0
        obtain ⟨j, rfl, hj, hS⟩ := hrel
        obtain ⟨hbw, v, hv, hrow⟩ := hS.out
        have HBo : Hid (Below _ _ wr) := HB3.out.trans (HP.out ▸ hbw)
        obtain ⟨sa, scap, rfl⟩ : ∃ sa scap, v = .slice sa ((A.l.take j).map F).length scap := by
          obtain ⟨a, cap, e, _⟩ := own_slb hrow
          exact ⟨a, cap, e⟩
        have c0 := (HBo.out.cell (p := ⟨b, off, none⟩) hb).trans C0.out
        have c1 := (HBo.out.cell (p := ⟨b, off + 1, none⟩) hb).trans C1.out
        have c2 := (HBo.out.cell (p := ⟨b, off + 2, none⟩) hb).trans C2.out
        have hb' : b < wr.heap.size := Nat.lt_of_lt_of_le hb HBo.out.size
        have HSL2 := Lib.hid (HSL.out.below HBo.out)
        by_cases hjt : j < A.l.length
        · obtain ⟨u, hu⟩ : ∃ u, A.l[j]? = some u := ⟨_, List.getElem?_eq_getElem hjt⟩
          obtain ⟨b2, off2, rfl, hb2, d0, d1, d2, d3, d4, d5⟩ := HSL2.out.cells hu
          have HC := Lib.hid (HF.out u (List.mem_of_getElem? hu))
          rw [vagg_eq u] at HC
          have hlen : ((A.l.take j).map F).length ≤ 60 := by simp; omega
          have GS : Hid ((A.l.take (j + 1)).map F = (A.l.take j).map F ++ [F u]) := by unfold Hid; rw [take_snoc' hu, List.map_append]; rfl
          have HBW := Lib.hid hbw
          have HV := Lib.hid hv
          have HROW := Lib.hid hrow
          clear hS hbw hv hrow hu
          generalize (A.l.take j).map F = ll at hlen HROW GS HV ⊢
          generalize F u = y at HC GS
          have hc2 := cell_of_heap HV.out 2
          have hp := lt_of_heap HV.out
          have j1 : (0 : Int) ≤ (j : Int) := by omega
          have j2 : (j : Int) < (A.l.length : Int) := by omega
          go_wp2_with fail
          refine wp_region_multiR [([2, 3, 4, 5, 6, 7, 8, 9, 0, 1], [10, 11, 12], [12, 13, 14]), ([13], [14], [14])] (by kernel_rfl) (by kernel_rfl) ?_
          refine multi_phase (Below wr.heap.size wr) (Below.refl _ _).drew ?_
          iterate 10 (first | (apply first_step; (rw [List.getElem?_toArray]; (repeat rw [List.getElem?_cons_succ]); rw [List.getElem?_cons_zero]); rfl; (intro W hB; have hc := bcellB hB; go_simp; (first | done | rfl)); go_frame) | (apply first_skip; (rw [List.getElem?_toArray]; (repeat rw [List.getElem?_cons_succ]); rw [List.getElem?_cons_zero]); rfl; go_frame))
          refine first_done ?_
          apply forced_step; (rw [List.getElem?_toArray]; (repeat rw [List.getElem?_cons_succ]); rw [List.getElem?_cons_zero]); rfl; intro K hK; go_simp
          refine (HC.out _).mono ?_
          rintro e' w2 ⟨rfl, hb3⟩
          have hb3' : Below wr.heap.size wr w2 := (Below.refl _ wr).drew.trans hb3
          have hv2 := (hb3'.block _ hp).trans HV.out
          refine hK _ _ (fun _ => hb3') ?_
          clear hK K
          have HV2 := Lib.hid hv2
          have HROW2 := Lib.hid (own_of_block HROW.out (fun k _ hk => hb3'.block k hk))
          have HB4 : Hid (Below p W3 w2) := HBW.out.trans (hb3'.mono (Nat.le_of_lt hp))
          have HB5 := Lib.hid hb3'
          have hp2 := lt_of_heap hv2
          rw [vagg_eq y]
          clear hb3 hb3' hv2 hc2 c0 c1 c2 d0 d1 d2 d3 d4 d5
          apply forced_step; (rw [List.getElem?_toArray]; (repeat rw [List.getElem?_cons_succ]); rw [List.getElem?_cons_zero]); rfl; intro K hK; go_simp
          refine hK _ _ (fun _ => HB5.out.alloc HB5.out.size _) ?_
          clear hK K
          apply forced_step; (rw [List.getElem?_toArray]; (repeat rw [List.getElem?_cons_succ]); rw [List.getElem?_cons_zero]); rfl; intro K hK
          refine wp_append_at (.tmp 76) (.tmp 86) 25 rfl p 36 i0 _ 6 56 Try.underlying25 HI.out HZ0.out HZ1.out HZ2.out rfl (by decide) (.slice sa ll.length scap) ll.length (ll.flatMap vcells) rfl (HROW2.out.alloc _) ⟨w2.heap.size, 0, none⟩ 1 1 (vcells y) rfl rfl (fun q x hx => cells_new w2 #[.int .i64 y.k, .int .i64 y.m, .int .i64 y.e, .string y.t, .bool y.b, .int .i64 y.f] 36 q x hx) (by simp [vcells, Value.oneCell']) (by unfold maxLen; omega) (by omega) (by simp; omega) ?_
          intro v' W5 hown5 hgrow5 hloc5
          obtain ⟨gb, cap5, rfl⟩ := ownsRow_succ hown5
          have hne := row_ne_head (cs := [.int .i64 A.r, .int .i64 A.c, .slice sa ll.length scap]) HROW2.out HV2.out
          have hv5 : W5.heap[p]? = some (.cells #[.int .i64 A.r, .int .i64 A.c, .slice sa ll.length scap] 27) := (hgrow5.block _ (by simp; omega) (fun e => (hne _ e.symm).1 rfl)).trans (heap_alloc_old HV2.out _)
          have hne5 := row_ne_head (cs := [.int .i64 A.r, .int .i64 A.c, .slice sa ll.length scap]) hown5 hv5
          refine hK _ _ (fun h => absurd (by decide) h) ?_
          clear hK K
          go_frame
          have hb5 : Below p W3 W5 := (HB4.out.alloc (Nat.le_of_lt hp2) _).grown hgrow5 (by simp; omega) (fun k e => (hne k e).2)
          have S6 : Hid (BSt W3 p p A.r A.c (ll ++ [y]) (W5.setCell ⟨p, 2, none⟩ (.slice (some ⟨gb, 0, none⟩) (ll.length + 1) cap5))) := by
            refine ⟨hb5.setCell (p := ⟨p, 2, none⟩) (Nat.le_refl _) _, _, heap_setCell_at hv5 2 _, ?_⟩
            rw [List.length_append, List.flatMap_append]
            exact own_of_block (by simpa using hown5) (fun k hk _ => Below.heap_setCell _ _ _ _ (hne5 k hk).1)
          have x5 := cell_of_heap hv5
          have y5 := frozen_of_heap hv5
          have hp5 := lt_of_heap hv5
          clear hv5 hne5 hne hb5 hown5 hgrow5 hloc5
          refine forced_done ?_
          refine multi_phase (fun W => W = W5) rfl ?_
          iterate 1 (apply first_step; (rw [List.getElem?_toArray]; (repeat rw [List.getElem?_cons_succ]); rw [List.getElem?_cons_zero]); rfl; (rintro W rfl; go_simp; (first | done | rfl)); go_frame)
          refine first_done ?_
          apply forced_step; (rw [List.getElem?_toArray]; (repeat rw [List.getElem?_cons_succ]); rw [List.getElem?_cons_zero]); rfl; intro K hK; go_simp
          refine hK _ _ (fun h => absurd (by decide) h) ?_
          clear hK K
          refine forced_done ?_
          refine multi_done ?_
          clear x5 y5
          go_wp2_with fail
          go_roundw
          case rel => exact ⟨j + 1, by go_num, by omega, by rw [GS.out]; exact S6⟩
          case measure => simp [intOf]; omega
        · have EL : Hid ((A.l.take j).map F = A.l.map F) := by unfold Hid; rw [List.take_of_length_le (by omega)]
          rw [EL.out] at hv hrow
          obtain ⟨sa', scap', e2, hslb⟩ := own_slb hrow
          cases e2
          have x7 := cell_of_heap hv
          have hp := lt_of_heap hv
          have hBw2 := HBw.out.trans (HBo.out.mono HBw.out.size)
          have e0 := (HBo.out.block w.heap.size (lt_of_heap ((hB.out.block w.heap.size (lt_of_heap G0.out)).trans G0.out))).trans ((hB.out.block w.heap.size (lt_of_heap G0.out)).trans G0.out)
          have x0 := cell_of_heap e0
          have y0 := frozen_of_heap e0
          have hn0 : w.heap.size < wr.heap.size := lt_of_heap e0
          have hne : w.heap.size ≠ p := by
            rw [HP.out]
            have := lt_of_heap ((hB.out.block w.heap.size (lt_of_heap G0.out)).trans G0.out)
            omega
          have HSL3 := Lib.hid (hslb.mono (B' := w.heap.size + 1) (by rw [HP.out]; exact lt_of_heap ((hB.out.block w.heap.size (lt_of_heap G0.out)).trans G0.out)))
          have HB4 := Lib.hid hBw2
          have ll : (A.l.map F).length = A.l.length := by simp
          clear hbw hv hrow hS e0 hslb hBw2
          go_wp2_with fail
          refine bodyPost_ret (v := .tuple #[.agg #[.int .i64 A.r, .int .i64 A.c, .slice sa (A.l.map F).length scap], .bool true]) (by simp [results, Try.results16, go_sem, x0]) rfl ?_
          exact callP_hand (A := ⟨A.r, A.c, A.l.map F⟩) (n := 0) (Nat.le_refl _) HSL3.out HB4.out _ _ _ true
end
end Go.Proofs.Ytgbedjeiihigaaa
