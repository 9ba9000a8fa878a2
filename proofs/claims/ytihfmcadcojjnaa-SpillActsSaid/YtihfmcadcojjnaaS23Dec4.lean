/- Decide where the rect stands. -/
import Derived.Test.YtihfmcadcojjnaaS23Dec3
namespace Go.Proofs.Ytihfmcadcojjnaa
open Go.RowKit
theorem own_snoc (o : List (P2 × R4)) (q : R4) (l : List P2) (x : P2) : own o q (l ++ [x]) = putL (own o q l) x q := by
  simp [own]

set_option maxHeartbeats 2000000 in
set_option maxRecDepth 100000 in
theorem dec_stands {w : World} {p : Nat} {S : Nat → Prop} {g : G} {bf ba bo : Nat} {sv : Value} (H : BdX w p S g bf ba bo sv) (hLn : g.L.length ≤ 1000000) (r c rs cs : Int) (kn : Bool) (br bc : Int) (he : gErr g r c rs cs = 0) (hj : gJudge g r c rs cs = ⟨r, c, rs, cs, true, kn, br, bc⟩) :
    Calls Try.prog 12 #[.pointer (some ⟨p, 0, none⟩), .int .i64 r, .int .i64 c, .int .i64 rs, .int .i64 cs] w (DecPost w p S g r c rs cs) := by
  obtain ⟨hh, h1, h2, h3⟩ := err_ok (by rw [he]; decide)
  have HFA := Lib.hid (err_zero he)
  have HV := Lib.hid hj
  have HE := Lib.hid he
  obtain ⟨sa, scap, rfl⟩ := ownsRow_slice H.row
  have b2 := H.b2
  have b4 := H.b4
  have hcs := cs_le h1 h2 h3
  clear he hj
  have hL3 := h3
  go_enter Try.func12, Try.ntmps12
  go_wp2_with fail
  refine (has_bd_yes (H.below (below_alloc w _ _ (Nat.le_refl _))) r c hh).mono ?_
  rintro e w1 ⟨rfl, hb⟩
  have FB := Lib.hid (below_two hb (Below.refl _ _))
  have H1 := H.below FB.out
  have ea := heap_two hb
  have hs1 : w.heap.size < w1.heap.size := lt_of_heap ea
  have hp1 : p < w1.heap.size := H1.lt p H1.sp
  have k0 := cell_of_heap ea 0
  have k1 := cell_of_heap ea 1
  obtain ⟨c0, c1, c2, c3, c4, c5⟩ := H1.cell
  have hl1 : ∀ W, Below w1.heap.size w1 W → (Instr.lookup 64 (.map (some bf)) (.agg #[.int .i64 r, .int .i64 c]) false).run Try.prog W = .ok (((getL g.F (r, c)).map Value.bool).getD (.bool false)) W := fun W hW =>
    (H1.mf.of_block (hW.block bf H1.mf.lt)).look1 place_fits Try.underlying64 (zero4 W) (r, c)
  have hl2 : ∀ W, Below w1.heap.size w1 W → (Instr.lookup 65 (.map (some ba)) (.agg #[.int .i64 r, .int .i64 c]) true).run Try.prog W = .ok (.tuple #[((getL g.A (r, c)).map (Value.int .i64)).getD (.int .i64 0), .bool (getL g.A (r, c)).isSome]) W := fun W hW =>
    (H1.ma.of_block (hW.block ba H1.ma.lt)).look2 place_fits Try.underlying65 (zero3 W) (r, c)
  have H1' := Lib.hid H1
  have HH := Lib.hid hh
  have EA := Lib.hid ea
  clear H1 hh hb c0 c1 c3 c5 ea
  obtain ⟨hF1, hA1⟩ := HFA.out
  rw [hF1] at hl1
  rw [hA1] at hl2
  simp only [Option.map_none, Option.getD_none, Option.isSome_none] at hl2
  clear hF1 hA1
  go_wp2_with fail
  refine wp_region_mix [0, 1, 2, 3, 4, 5, 6] [] [] (Below w1.heap.size w1) (by kernel_rfl) (by kernel_rfl) (Below.refl _ _).drew ?_
  iterate 7 (first | (apply first_step; (rw [List.getElem?_toArray]; (repeat rw [List.getElem?_cons_succ]); rw [List.getElem?_cons_zero]); rfl; (intro W hB; have hc := bcellB hB; go_simp; (first | done | rfl)); go_frame) | (apply first_skip; (rw [List.getElem?_toArray]; (repeat rw [List.getElem?_cons_succ]); rw [List.getElem?_cons_zero]); rfl; go_frame))
  refine first_done ?_
  refine tail_done ?_
  go_wp2_with fail
  refine wp_region_mix [0, 1, 2, 3, 4, 5, 6, 7, 8, 9, 10] [] [] (Below w1.heap.size w1) (by kernel_rfl) (by kernel_rfl) (Below.refl _ _).drew.drew ?_
  iterate 11 (first | (apply first_step; (rw [List.getElem?_toArray]; (repeat rw [List.getElem?_cons_succ]); rw [List.getElem?_cons_zero]); rfl; (intro W hB; have hc := bcellB hB; go_simp; (first | done | rfl)); go_frame) | (apply first_skip; (rw [List.getElem?_toArray]; (repeat rw [List.getElem?_cons_succ]); rw [List.getElem?_cons_zero]); rfl; go_frame))
  refine first_done ?_
  refine tail_done ?_
  clear hl1 hl2
  go_wp2_with fail
  obtain ⟨q1, q2, q3, q4⟩ := G.has_iff.1 HH.out
  have hle := cs_le h1 h2 hL3
  refine (judge_any (H1'.out.below ((below_drewN w1 2 _))) r c rs cs q1 q2 q3 q4 h1 hle.1 h2 hle.2).mono ?_
  rintro e w2 ⟨rfl, hb2⟩
  have FB2 := Lib.hid ((FB.out.trans (below_drewN w1 2 _)).trans (hb2.mono (Nat.le_of_lt hs1)))
  have hs2 : w1.heap.size ≤ w2.heap.size := hb2.size
  have ea2 := (hb2.block w.heap.size hs1).trans EA.out
  rw [HV.out]
  unfold verV
  clear hb2 k0 k1 c2 c4 HH hle h3
  go_wp2_with fail
  refine abs_world ?_
  intro V3 hV3
  obtain ⟨vb, hvbe⟩ : ∃ vb, vb = w2.heap.size := ⟨_, rfl⟩
  rw [← hvbe]
  have hB3 : Below w2.heap.size w2 V3 := by rw [hV3]; (repeat (first | with_reducible exact Below.refl _ _ | with_reducible exact hBW | with_reducible refine Below.setCell ?_ ?_ _ | with_reducible refine Below.alloc ?_ ?_ _ | with_reducible refine belowN ?_ _ | with_reducible refine Below.drew ?_)); all_goals (first | omega | (dsimp only; omega) | ((repeat (first | with_reducible refine le_alloc ?_ | with_reducible refine le_setCell ?_ | with_reducible refine le_drew ?_ | with_reducible refine le_drewN ?_)); omega))
  have ev3 : V3.heap[vb]? = some (.cells #[.int .i64 r, .int .i64 c, .int .i64 rs, .int .i64 cs, .bool true, .bool kn, .int .i64 br, .int .i64 bc] 75) := by rw [hV3, hvbe]; (repeat (first | (with_reducible refine heap_alloc_at ?_ _; (first | rfl | (simp; done) | omega | (simp; omega)); done) | with_reducible refine heap_alloc_old ?_ _ | with_reducible refine heap_drew_old ?_ | with_reducible refine heap_drewN_old ?_))
  have ea3 := (hB3.block w.heap.size (by omega)).trans ea2
  have hBw : Below w.heap.size w V3 := FB2.out.trans (hB3.mono (by omega))
  have H3 := H.below hBw
  have vrow : ∀ k, (Value.slice sa g.L.length scap).ownBlock = some k → k = vb → False := fun k hk e => by
    have := H.lt k (H.sr k hk)
    omega
  have hbov : bo ≠ vb := fun e => by
    have := H.lt bo H.so
    omega
  have hboa : bo ≠ w.heap.size := fun e => by
    have := H.lt bo H.so
    omega
  have VROW := Lib.hid vrow
  have HBW := Lib.hid hBw
  have H3' := Lib.hid H3
  clear hV3 hB3 ea2 hvbe hs1 hs2 FB FB2 EA H1' hp1 hBw vrow H3
  have EA3 := Lib.hid ea3
  have EV3 := Lib.hid ev3
  clear ea3 ev3
  obtain ⟨W0, hW0⟩ : ∃ W0, W0 = V3 := ⟨_, rfl⟩
  have HW0 := Lib.hid hW0
  clear hW0
  go_loopw [66] (fun i wr => ∃ k : Nat, i = .int .i64 k ∧ (k : Int) ≤ rs ∧ Fr (fun x => x = bo) V3 wr ∧ BdX wr p S { g with O := own g.O (r, c, rs, cs) (cellsOf r c k cs.toNat) } bf ba bo (.slice sa g.L.length scap)) (fun i _ => rs.toNat - (intOf i).toNat)
  case atStart => exact ⟨0, rfl, by omega, Fr.refl _ _, H3'.out⟩
  case round =>
    obtain ⟨k, rfl, hk, hFk, HK⟩ := hrel
    by_cases hlt : (k : Int) < rs
    · go_wp2
      obtain ⟨wo, rfl⟩ : ∃ wo : World, wo = wr := ⟨_, rfl⟩
      go_loopw [70] (fun i wr => ∃ j : Nat, i = .int .i64 j ∧ (j : Int) ≤ cs ∧ Fr (fun x => x = bo) V3 wr ∧ BdX wr p S { g with O := own g.O (r, c, rs, cs) (cellsOf r c k cs.toNat ++ rowOf r c j k) } bf ba bo (.slice sa g.L.length scap)) (fun i _ => cs.toNat - (intOf i).toNat)
      case atStart => exact ⟨0, rfl, by omega, hFk, by simpa [rowOf] using HK⟩
      case round =>
        clear HK hFk
        obtain ⟨j, rfl, hj, hFj, HJ⟩ := hrel
        by_cases hjt : (j : Int) < cs
        · go_wp2
          obtain ⟨_, _, _, _, _, c5⟩ := HJ.cell
          have hpr : p < wr.heap.size := HJ.lt p HJ.sp
          have ev := (hFj.block vb (lt_of_heap EV3.out) (Ne.symm hbov)).trans EV3.out
          have hvr : vb < wr.heap.size := lt_of_heap ev
          have k0 := cell_of_heap ev 0
          have k1 := cell_of_heap ev 1
          have k2 := cell_of_heap ev 2
          have k3 := cell_of_heap ev 3
          have HJd := HJ.below (Below.refl _ wr).drew
          obtain ⟨W4, hup, hm4, hf4, hz4⟩ := HJd.mo.upd place_fits Try.underlying66 (r + (k : Int), c + (j : Int)) (r, c, rs, cs)
          unfold encP encR at hup
          have H4 := Lib.hid (HJd.setO hm4 hf4)
          have F4 : Hid (Fr (fun x => x = bo) V3 W4) := hFj.trans (S' := fun x => x = bo) ⟨hf4.os, hf4.tape, hf4.output, hf4.size, hf4.block⟩ (fun _ _ h => h)
          have Z4 := Lib.hid hz4
          have hw1 : IntKind.i64.wrap (r + (k : Int)) = r + (k : Int) := IntWalk.i64_in _ (by omega)
          have hw2 : IntKind.i64.wrap (c + (j : Int)) = c + (j : Int) := IntWalk.i64_in _ (by omega)
          clear hz4 HJ HJd hm4 hf4 hFj ev
          refine wp_region_mix [0, 1, 2, 3, 4, 5, 6, 7, 8, 9, 10, 11, 12] [13] [13] (Below wr.heap.size wr) (by kernel_rfl) (by kernel_rfl) (Below.refl _ _).drew ?_
          iterate 13 (first | (apply first_step; (rw [List.getElem?_toArray]; (repeat rw [List.getElem?_cons_succ]); rw [List.getElem?_cons_zero]); rfl; (intro W hB; have hc := bcellB hB; go_simp; (first | done | rfl)); go_frame) | (apply first_skip; (rw [List.getElem?_toArray]; (repeat rw [List.getElem?_cons_succ]); rw [List.getElem?_cons_zero]); rfl; go_frame))
          refine first_done ?_
          apply tail_step; (rw [List.getElem?_toArray]; (repeat rw [List.getElem?_cons_succ]); rw [List.getElem?_cons_zero]); rfl; rfl; intro K hK; go_simp; refine hK _ _ (fun h => absurd (by decide) h) ?_; clear hK K
          refine tail_done ?_
          clear hup c5 k0 k1 k2 k3 hw1 hw2
          go_wp2
          go_roundw
          case rel =>
            refine ⟨j + 1, by go_num, by omega, F4.out, ?_⟩
            have := H4.out
            rw [rowOf_succ, ← List.append_assoc, own_snoc]
            exact this
          case measure => simp [intOf]; omega
        · have HF2 : Hid (BdX wr p S { g with O := own g.O (r, c, rs, cs) (cellsOf r c (k + 1) cs.toNat) } bf ba bo (.slice sa g.L.length scap)) := by
            rw [cellsOf_succ]
            rwa [show j = cs.toNat by omega] at HJ
          have HFj := Lib.hid hFj
          clear HJ hFj
          go_wp2
          go_roundw
          case rel => exact ⟨k + 1, by go_num, by omega, HFj.out, HF2.out⟩
          case measure => simp [intOf]; omega
    · have HR : Hid (BdX wr p S { g with O := own g.O (r, c, rs, cs) (cellsOf r c rs.toNat cs.toNat) } bf ba bo (.slice sa g.L.length scap)) := by
        rwa [show k = rs.toNat by omega] at HK
      have HFk := Lib.hid hFk
      clear HK hFk
      go_wp2
      refine abs_world ?_
      intro W3 hW3
      subst hW3
      have H3 := HR.out
      have ea3 := (HFk.out.block w.heap.size (lt_of_heap EA3.out) (Ne.symm hboa)).trans EA3.out
      have ev3 := (HFk.out.block vb (lt_of_heap EV3.out) (Ne.symm hbov)).trans EV3.out
      have vrow := VROW.out
      have fin := fun W4 W5 gb cap5 H4 hf4 hz4 hown5 hgrow5 hloc5 hd5 => dec_fin (n := 0) (bf := bf) (ba := ba) (bo := bo) (sv := .slice sa g.L.length scap) (w := w) (W3 := W3) (W4 := W4) (W5 := W5) (p := p) (S := S) (g3 := { g with O := own g.O (r, c, rs, cs) (cellsOf r c rs.toNat cs.toNat) }) (gb := gb) (cap5 := cap5) (arr := #[.int .i64 r, .int .i64 c, .int .i64 rs, .int .i64 cs, .bool true, .bool kn, .int .i64 br, .int .i64 bc]) HE.out HV.out rfl ((Fr.of_below HBW.out).trans HFk.out (fun i _ h => by rw [h]; exact H.so)) (Nat.le_trans HBW.out.size HFk.out.size) H4 hf4 hz4 hown5 hgrow5 hloc5 hd5
      clear HR HFk EA3 EV3 VROW HBW H3' HW0
      have hp3 : p < W3.heap.size := H3.lt p H3.sp
      have hva : w.heap.size < W3.heap.size := lt_of_heap ea3
      have hvb : vb < W3.heap.size := lt_of_heap ev3
      have k0 := cell_of_heap ea3 0
      have k1 := cell_of_heap ea3 1
      obtain ⟨_, _, _, c3, c4, _⟩ := H3.cell
      have H3d := H3.below (Below.refl _ W3).drew
      obtain ⟨W4, hup, hm4, hf4, hz4⟩ := H3d.ma.upd place_fits Try.underlying65 (r, c) (g.L.length : Int)
      unfold encP at hup
      have H4 := H3d.setA hm4 hf4
      have H4' := Lib.hid H4
      have HM4 := Lib.hid hf4
      have H3' := Lib.hid H3
      have Z4 := Lib.hid hz4
      clear H3 H3d H4 hf4 hm4 hz4
      refine wp_region_mix [0, 1, 2, 3, 4, 5, 6, 7, 8, 9] [10] [10] (Below W3.heap.size W3) (by kernel_rfl) (by kernel_rfl) (Below.refl _ _).drew ?_
      iterate 10 (first | (apply first_step; (rw [List.getElem?_toArray]; (repeat rw [List.getElem?_cons_succ]); rw [List.getElem?_cons_zero]); rfl; (intro W hB; have hc := bcellB hB; go_simp; (first | done | rfl)); go_frame) | (apply first_skip; (rw [List.getElem?_toArray]; (repeat rw [List.getElem?_cons_succ]); rw [List.getElem?_cons_zero]); rfl; go_frame))
      refine first_done ?_
      apply tail_step; (rw [List.getElem?_toArray]; (repeat rw [List.getElem?_cons_succ]); rw [List.getElem?_cons_zero]); rfl; rfl; intro K hK; go_simp; refine hK _ _ (fun h => absurd (by decide) h) ?_; clear hK K
      refine tail_done ?_
      clear hup c3 c4 k0 k1
      go_wp2_with fail
      have hd4 := H4'.out.head
      have hbap : ba ≠ vb := fun e => by
        obtain ⟨es, cl, he, _⟩ := H3'.out.ma
        rw [e, ev3] at he
        cases he
      have ev4 : W4.heap[vb]? = some (.cells #[.int .i64 r, .int .i64 c, .int .i64 rs, .int .i64 cs, .bool true, .bool kn, .int .i64 br, .int .i64 bc] 75) := (HM4.out.block vb hvb (Ne.symm hbap)).trans ev3
      refine wp_region_mix [0, 1, 2, 3, 4, 5] [6, 7, 8, 9, 10] [8, 9, 10] (fun W => W.heap[p]? = some (.cells #[.int .i64 g.rows, .int .i64 g.cols, .map (some bf), .slice sa g.L.length scap, .map (some ba), .map (some bo)] 69 (0, 0)) ∧ W.heap[vb]? = some (.cells #[.int .i64 r, .int .i64 c, .int .i64 rs, .int .i64 cs, .bool true, .bool kn, .int .i64 br, .int .i64 bc] 75)) (by kernel_rfl) (by kernel_rfl) ⟨hd4, ev4⟩ ?_
      iterate 6 (apply first_step; (rw [List.getElem?_toArray]; (repeat rw [List.getElem?_cons_succ]); rw [List.getElem?_cons_zero]); rfl; (rintro W ⟨u0, u1⟩; have x0 := cell_of_heap u0; have x1 := cell_of_heap u1; clear u0 u1; go_simp; (first | done | rfl)); go_frame)
      refine first_done ?_
      apply tail_step; (rw [List.getElem?_toArray]; (repeat rw [List.getElem?_cons_succ]); rw [List.getElem?_cons_zero]); rfl; rfl; intro K hK; go_simp; refine hK _ _ (fun _ => ⟨heap_alloc_old (show W4.drew.heap[p]? = _ from hd4) _, heap_alloc_old (show W4.drew.heap[vb]? = _ from ev4) _⟩) ?_; clear hK K
      apply tail_step; (rw [List.getElem?_toArray]; (repeat rw [List.getElem?_cons_succ]); rw [List.getElem?_cons_zero]); rfl; rfl; intro K hK
      obtain ⟨i0, hi, hz0, hz1, hz2⟩ := info_parts info75
      refine wp_append_at (.tmp 102) (.tmp 104) 67 rfl 0 75 i0 _ 8 56 Try.underlying67 hi hz0 hz1 hz2 rfl (by decide) (.slice sa g.L.length scap) g.L.length (g.L.flatMap cellsV) rfl ?_ ⟨W4.heap.size, 0, none⟩ 1 1 (cellsV ⟨r, c, rs, cs, true, kn, br, bc⟩) rfl rfl ?_ ?_ (by unfold maxLen; omega) (by omega) (Nat.zero_le _) ?_
      focus exact World.ownsRow.alloc (w := W4.drew) H4'.out.row _
      focus (intro j u hu; exact cells_new W4.drew _ 75 j u hu)
      focus (simp [cellsV, Value.oneCell'])
      intro v' W5 hown5 hgrow5 hloc5
      obtain ⟨gb, cap5, rfl⟩ := ownsRow_succ hown5
      have hg5 := Fr.grown hgrow5
      have hd5 : W5.heap[p]? = some (.cells #[.int .i64 g.rows, .int .i64 g.cols, .map (some bf), .slice sa g.L.length scap, .map (some ba), .map (some bo)] 69 (0, 0)) := (hg5.block p (by simp; have := H4'.out.lt p H4'.out.sp; omega) (fun e => H4'.out.row_ne_p e.symm rfl)).trans (heap_alloc_old (show W4.drew.heap[p]? = _ from hd4) _)
      have hvr : ∀ k, (Value.slice sa g.L.length scap).ownBlock = some k → k ≠ vb := fun k hk e => vrow k hk e
      have ev5 : W5.heap[vb]? = some (.cells #[.int .i64 r, .int .i64 c, .int .i64 rs, .int .i64 cs, .bool true, .bool kn, .int .i64 br, .int .i64 bc] 75) := (hg5.block vb (by simp; have := lt_of_heap ev4; omega) (fun e => hvr vb e.symm rfl)).trans (heap_alloc_old (show W4.drew.heap[vb]? = _ from ev4) _)
      refine hK _ _ (fun _ => ⟨hd5, ev5⟩) ?_
      clear hK K
      go_frame
      have x5 := cell_of_heap hd5
      have y5 := frozen_of_heap hd5
      have v5 := cell_of_heap ev5
      have hpv : p ≠ vb := fun e => by rw [e, ev5] at hd5; simp at hd5
      have HG := Lib.hid hg5
      have HO5 := Lib.hid hown5
      have HL5 := Lib.hid hloc5
      have HD5 := Lib.hid hd5
      have FIN := Lib.hid (fin W4 W5 gb cap5 H4'.out HM4.out Z4.out hown5 hgrow5 hloc5 hd5)
      clear hg5 hown5 hloc5 hgrow5 hd5 hd4 ev4 hi hz0 hz1 hz2
      iterate 3 (apply tail_step; (rw [List.getElem?_toArray]; (repeat rw [List.getElem?_cons_succ]); rw [List.getElem?_cons_zero]); rfl; rfl; intro K hK; go_simp; refine hK _ _ (fun h => absurd (by decide) h) ?_; clear hK K)
      refine tail_done ?_
      go_wp2_with fail
      go_ret2
      exact FIN.out _ rfl
end Go.Proofs.Ytihfmcadcojjnaa
