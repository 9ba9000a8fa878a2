/- Decide where it decides. -/
import Derived.Test.YtihfmcadcojjnaaS23Dec2
import Derived.Test.YtihfmcadcojjnaaOwn
namespace Go.Proofs.Ytihfmcadcojjnaa
open Go.RowKit
theorem err_zero {g : G} {r c rs cs : Int} (he : gErr g r c rs cs = 0) : ((getL g.F (r, c)).map Value.bool).getD (.bool false) = .bool true ∧ getL g.A (r, c) = none := by
  obtain ⟨hh, h1, h2, h3⟩ := err_ok (by rw [he]; decide)
  unfold gErr at he
  rw [if_neg (by rw [hh]; simp; omega)] at he
  by_cases hF : (getL g.F (r, c)).getD false = false
  · rw [if_pos hF] at he; cases he
  · rw [if_neg hF] at he
    refine ⟨?_, ?_⟩
    · cases hg : getL g.F (r, c) with
      | none => rw [hg] at hF; exact absurd rfl hF
      | some b => rw [hg] at hF; cases b with
        | true => rfl
        | false => exact absurd rfl hF
    · cases hg : getL g.A (r, c) with
      | none => rfl
      | some n => rw [hg] at he; cases he

theorem info75 : (Try.prog.info? 75).map (fun i => (i.zero, i.size, i.bytes)) = some (some (verV ⟨0, 0, 0, 0, false, false, 0, 0⟩), 8, 56) := by kernel_rfl

/-- The last stores of Decide, in memory: the map of anchors has been written (W3 to W4), the list has been appended to (W4 to W5), the list's field is stored. -/
theorem dec_fin {w W3 W4 W5 : World} {p : Nat} {S : Nat → Prop} {g g3 : G} {bf ba bo : Nat} {sv : Value} {r c rs cs : Int} {st kn : Bool} {br bc : Int} {gb cap5 : Nat} {arr : Array Value} {n : Nat}
    (he : gErr g r c rs cs = 0) (hj : gJudge g r c rs cs = ⟨r, c, rs, cs, st, kn, br, bc⟩)
    (hg3 : g3 = { g with O := if st then own g.O (r, c, rs, cs) (cellsOf r c rs.toNat cs.toNat) else g.O })
    (hF3 : Fr S w W3) (hle : w.heap.size ≤ W3.heap.size)
    (H4 : BdX W4 p S { g3 with A := putL g3.A (r, c) (g3.L.length : Int) } bf ba bo sv) (hf4 : Fr (fun x => x = ba) W3.drew W4) (hz4 : W4.heap.size = W3.heap.size)
    (hown5 : W5.ownsRow 0 75 8 (.slice (some ⟨gb, 0, none⟩) (g3.L.length + 1) cap5) (g3.L.length + 1) (g3.L.flatMap cellsV ++ cellsV ⟨r, c, rs, cs, st, kn, br, bc⟩))
    (hgrow5 : (W4.drew.alloc (.cells arr 75)).grownBy W5 sv.ownBlock)
    (hloc5 : (Value.slice (some ⟨gb, 0, none⟩) (g3.L.length + 1) cap5).ownBlock = sv.ownBlock ∨ (Value.slice (some ⟨gb, 0, none⟩) (g3.L.length + 1) cap5).ownBlock = some (W4.drew.alloc (.cells arr 75)).heap.size)
    (hd5 : W5.heap[p]? = some (.cells #[.int .i64 g3.rows, .int .i64 g3.cols, .map (some bf), sv, .map (some ba), .map (some bo)] 69 (0, 0))) (W6 : World)
    (hW6 : W6 = ((W5.setCell ⟨p, 3, none⟩ (.slice (some ⟨gb, 0, none⟩) (g3.L.length + 1) cap5)).drewN n)) :
    DecPost w p S g r c rs cs (.returned (.tuple #[.bool st, .int .i64 0])) W6 := by
  have hsz5 : W4.heap.size + 1 ≤ W5.heap.size := by have := hgrow5.size; simpa using this
  have hsz6 : W6.heap.size = W5.heap.size := by rw [hW6, heap_drewN]; simp
  have hg5 := Fr.grown hgrow5
  have hgb : gb ≠ p := fun e => by
    obtain ⟨_, h⟩ := hown5
    rcases h with ⟨h, _⟩ | ⟨g0, cap0, cur, hv, _, hh0, _⟩
    · cases h
    · simp at hv
      obtain ⟨rfl, _⟩ := hv
      rw [e, hd5] at hh0
      simp at hh0
  have hgb5 : gb < W5.heap.size := by
    obtain ⟨_, h⟩ := hown5
    rcases h with ⟨h, _⟩ | ⟨g0, cap0, cur, hv, _, hh0, _⟩
    · cases h
    · simp at hv
      obtain ⟨rfl, _⟩ := hv
      exact lt_of_heap hh0
  have hb6 : ∀ k, k ≠ p → W6.heap[k]? = W5.heap[k]? := fun k hk => by rw [hW6]; exact Below.heap_setCell _ _ _ _ hk
  have hb5 : ∀ k, k < W4.heap.size → some k ≠ sv.ownBlock → W5.heap[k]? = W4.heap[k]? := fun k hk hne =>
    (hg5.block k (by simp; omega) hne).trans (Below.heap_alloc W4.drew _ k hk)
  have hmap : ∀ {κ ν : Type} {b : Nat} {enc : κ → Value} {ve : ν → Value} {l : List (κ × ν)}, MapIs W4 b enc ve l → MapIs W6 b enc ve l := fun {κ ν b enc ve l} hm =>
    hm.of_block ((hb6 b (Ne.symm (H4.p_ne hm))).trans (hb5 b hm.lt (fun e => H4.row_ne hm e.symm rfl)))
  have hFr6 : Fr S w W6 := by
    have h1 : Fr S w W4 := hF3.trans (S' := fun x => x = ba) ⟨hf4.os, hf4.tape, hf4.output, hf4.size, hf4.block⟩ (fun i _ hi => by rw [hi]; exact H4.sa)
    have h2 : Fr S w (W4.drew.alloc (.cells arr 75)) := h1.trans (S' := fun _ => False) (.of_below (((Below.refl _ W4).drew).alloc (Nat.le_refl _) _)) (fun _ _ h => h.elim)
    have h3 : Fr S w W5 := h2.trans hg5 (fun i _ hi => H4.sr i hi.symm)
    have h4 : Fr S w W6 := by
      rw [hW6]
      exact (h3.trans (Fr.setCell W5 ⟨p, 3, none⟩ _) (fun i _ hi => by rw [hi]; exact H4.sp)).trans (S' := fun _ => False) (.of_below (below_drewN _ _ _)) (fun _ _ h => h.elim)
    exact h4
  refine ⟨?_, ⟨bf, ba, bo, .slice (some ⟨gb, 0, none⟩) (g3.L.length + 1) cap5, ?_⟩, hFr6⟩
  · have h1 : gStands g r c rs cs = st := by unfold gStands; rw [he, hj]; simp
    rw [h1, he]
  · have hgd : gDecide g r c rs cs = { g3 with A := putL g3.A (r, c) (g3.L.length : Int), L := g3.L ++ [⟨r, c, rs, cs, st, kn, br, bc⟩] } := by
      unfold gDecide
      rw [if_pos he, hj, hg3]
    rw [hgd]
    exact {
      head := by
        rw [hW6]
        show (W5.setCell _ _).heap[p]? = _
        rw [heap_setCell_at hd5]
        rfl
      mf := hmap H4.mf
      ma := hmap H4.ma
      mo := hmap H4.mo
      row := by
        have := ownsRow_of_block (w' := W6) hown5 (fun k hk => by
          simp [Value.ownBlock] at hk
          subst hk
          exact hb6 _ hgb)
        simpa using this
      sp := .inl H4.sp
      sf := .inl H4.sf
      sa := .inl H4.sa
      so := .inl H4.so
      sr := fun k hk => by
        simp [Value.ownBlock] at hk
        subst hk
        rcases hloc5 with h | h
        · exact .inl (H4.sr gb h.symm)
        · simp [Value.ownBlock] at h
          exact .inr ⟨by omega, by omega⟩
      d1 := H4.d1
      d2 := H4.d2
      d3 := H4.d3
      lt := fun k hk => by
        rcases hk with hk | hk
        · have := H4.lt k hk; omega
        · exact hk.2
      b1 := H4.b1
      b2 := H4.b2
      b3 := H4.b3
      b4 := H4.b4 }
set_option maxHeartbeats 1000000 in
set_option maxRecDepth 100000 in
theorem dec_barred {w : World} {p : Nat} {S : Nat → Prop} {g : G} {bf ba bo : Nat} {sv : Value} (H : BdX w p S g bf ba bo sv) (hLn : g.L.length ≤ 1000000) (r c rs cs : Int) (kn : Bool) (br bc : Int) (he : gErr g r c rs cs = 0) (hj : gJudge g r c rs cs = ⟨r, c, rs, cs, false, kn, br, bc⟩) :
    Calls Try.prog 12 #[.pointer (some ⟨p, 0, none⟩), .int .i64 r, .int .i64 c, .int .i64 rs, .int .i64 cs] w (DecPost w p S g r c rs cs) := by
  obtain ⟨hh, h1, h2, h3⟩ := err_ok (by rw [he]; decide)
  have HFA := Lib.hid (err_zero he)
  have HV := Lib.hid hj
  have HE := Lib.hid he
  obtain ⟨sa, scap, rfl⟩ := ownsRow_slice H.row
  clear he hj
  have hL3 := h3
  go_enter Try.func12, Try.ntmps12
  go_wp2_with fail
  refine (has_bd_yes (H.below (below_alloc w _ _ (Nat.le_refl _))) r c hh).mono ?_
  rintro e w1 ⟨rfl, hb⟩
  have FB := Lib.hid (below_two hb (Below.refl _ _))
  have H1 := H.below FB.out
  have ea := heap_two hb
  have hs1 : w.heap.size < w1.heap.size := lt_of_heap ea
  have hp1 : p < w1.heap.size := H1.lt p H1.sp
  have k0 := cell_of_heap ea 0
  have k1 := cell_of_heap ea 1
  obtain ⟨c0, c1, c2, c3, c4, c5⟩ := H1.cell
  have hl1 : ∀ W, Below w1.heap.size w1 W → (Instr.lookup 64 (.map (some bf)) (.agg #[.int .i64 r, .int .i64 c]) false).run Try.prog W = .ok (((getL g.F (r, c)).map Value.bool).getD (.bool false)) W := fun W hW =>
    (H1.mf.of_block (hW.block bf H1.mf.lt)).look1 place_fits Try.underlying64 (zero4 W) (r, c)
  have hl2 : ∀ W, Below w1.heap.size w1 W → (Instr.lookup 65 (.map (some ba)) (.agg #[.int .i64 r, .int .i64 c]) true).run Try.prog W = .ok (.tuple #[((getL g.A (r, c)).map (Value.int .i64)).getD (.int .i64 0), .bool (getL g.A (r, c)).isSome]) W := fun W hW =>
    (H1.ma.of_block (hW.block ba H1.ma.lt)).look2 place_fits Try.underlying65 (zero3 W) (r, c)
  have H1' := Lib.hid H1
  have HH := Lib.hid hh
  have EA := Lib.hid ea
  clear H1 hh hb c0 c1 c3 c5 ea
  obtain ⟨hF1, hA1⟩ := HFA.out
  rw [hF1] at hl1
  rw [hA1] at hl2
  simp only [Option.map_none, Option.getD_none, Option.isSome_none] at hl2
  clear hF1 hA1
  go_wp2_with fail
  refine wp_region_mix [0, 1, 2, 3, 4, 5, 6] [] [] (Below w1.heap.size w1) (by kernel_rfl) (by kernel_rfl) (Below.refl _ _).drew ?_
  iterate 7 (first | (apply first_step; (rw [List.getElem?_toArray]; (repeat rw [List.getElem?_cons_succ]); rw [List.getElem?_cons_zero]); rfl; (intro W hB; have hc := bcellB hB; go_simp; (first | done | rfl)); go_frame) | (apply first_skip; (rw [List.getElem?_toArray]; (repeat rw [List.getElem?_cons_succ]); rw [List.getElem?_cons_zero]); rfl; go_frame))
  refine first_done ?_
  refine tail_done ?_
  go_wp2_with fail
  refine wp_region_mix [0, 1, 2, 3, 4, 5, 6, 7, 8, 9, 10] [] [] (Below w1.heap.size w1) (by kernel_rfl) (by kernel_rfl) (Below.refl _ _).drew.drew ?_
  iterate 11 (first | (apply first_step; (rw [List.getElem?_toArray]; (repeat rw [List.getElem?_cons_succ]); rw [List.getElem?_cons_zero]); rfl; (intro W hB; have hc := bcellB hB; go_simp; (first | done | rfl)); go_frame) | (apply first_skip; (rw [List.getElem?_toArray]; (repeat rw [List.getElem?_cons_succ]); rw [List.getElem?_cons_zero]); rfl; go_frame))
  refine first_done ?_
  refine tail_done ?_
  clear hl1 hl2
  go_wp2_with fail
  obtain ⟨q1, q2, q3, q4⟩ := G.has_iff.1 HH.out
  have hle := cs_le h1 h2 hL3
  refine (judge_any (H1'.out.below ((below_drewN w1 2 _))) r c rs cs q1 q2 q3 q4 h1 hle.1 h2 hle.2).mono ?_
  rintro e w2 ⟨rfl, hb2⟩
  have FB2 := Lib.hid ((FB.out.trans (below_drewN w1 2 _)).trans (hb2.mono (Nat.le_of_lt hs1)))
  have hs2 : w1.heap.size ≤ w2.heap.size := hb2.size
  have ea2 := (hb2.block w.heap.size hs1).trans EA.out
  rw [HV.out]
  unfold verV
  clear hb2 k0 k1 c2 c4 HH hle h3
  go_wp2_with fail
  refine abs_world ?_
  intro W3 hW3
  obtain ⟨vb, hvbe⟩ : ∃ vb, vb = w2.heap.size := ⟨_, rfl⟩
  rw [← hvbe]
  have hB3 : Below w2.heap.size w2 W3 := by rw [hW3]; (repeat (first | with_reducible exact Below.refl _ _ | with_reducible exact hBW | with_reducible refine Below.setCell ?_ ?_ _ | with_reducible refine Below.alloc ?_ ?_ _ | with_reducible refine belowN ?_ _ | with_reducible refine Below.drew ?_)); all_goals (first | omega | (dsimp only; omega) | ((repeat (first | with_reducible refine le_alloc ?_ | with_reducible refine le_setCell ?_ | with_reducible refine le_drew ?_ | with_reducible refine le_drewN ?_)); omega))
  have ev3 : W3.heap[vb]? = some (.cells #[.int .i64 r, .int .i64 c, .int .i64 rs, .int .i64 cs, .bool false, .bool kn, .int .i64 br, .int .i64 bc] 75) := by rw [hW3, hvbe]; (repeat (first | (with_reducible refine heap_alloc_at ?_ _; (first | rfl | (simp; done) | omega | (simp; omega)); done) | with_reducible refine heap_alloc_old ?_ _ | with_reducible refine heap_drew_old ?_ | with_reducible refine heap_drewN_old ?_))
  have ea3 := (hB3.block w.heap.size (by omega)).trans ea2
  have hBw : Below w.heap.size w W3 := FB2.out.trans (hB3.mono (by omega))
  have H3 := H.below hBw
  have vrow : ∀ k, (Value.slice sa g.L.length scap).ownBlock = some k → k = vb → False := fun k hk e => by
    have := H.lt k (H.sr k hk)
    omega
  have fin := fun W4 W5 gb cap5 H4 hf4 hz4 hown5 hgrow5 hloc5 hd5 => dec_fin (n := 0) (bf := bf) (ba := ba) (bo := bo) (sv := .slice sa g.L.length scap) (w := w) (W3 := W3) (W4 := W4) (W5 := W5) (p := p) (S := S) (g3 := g) (gb := gb) (cap5 := cap5) (arr := #[.int .i64 r, .int .i64 c, .int .i64 rs, .int .i64 cs, .bool false, .bool kn, .int .i64 br, .int .i64 bc]) HE.out HV.out rfl (.of_below hBw) hBw.size H4 hf4 hz4 hown5 hgrow5 hloc5 hd5
  clear hW3 hB3 ea2 hvbe hs1 hs2 FB FB2 EA H1' hp1 hBw
  have hp3 : p < W3.heap.size := H3.lt p H3.sp
  have hva : w.heap.size < W3.heap.size := lt_of_heap ea3
  have hvb : vb < W3.heap.size := lt_of_heap ev3
  have k0 := cell_of_heap ea3 0
  have k1 := cell_of_heap ea3 1
  obtain ⟨_, _, _, c3, c4, _⟩ := H3.cell
  have H3d := H3.below (Below.refl _ W3).drew
  obtain ⟨W4, hup, hm4, hf4, hz4⟩ := H3d.ma.upd place_fits Try.underlying65 (r, c) (g.L.length : Int)
  unfold encP at hup
  have H4 := H3d.setA hm4 hf4
  have H4' := Lib.hid H4
  have HM4 := Lib.hid hf4
  have H3' := Lib.hid H3
  have Z4 := Lib.hid hz4
  clear H3 H3d H4 hf4 hm4 hz4
  refine wp_region_mix [0, 1, 2, 3, 4, 5, 6, 7, 8, 9] [10] [10] (Below W3.heap.size W3) (by kernel_rfl) (by kernel_rfl) (Below.refl _ _).drew ?_
  iterate 10 (first | (apply first_step; (rw [List.getElem?_toArray]; (repeat rw [List.getElem?_cons_succ]); rw [List.getElem?_cons_zero]); rfl; (intro W hB; have hc := bcellB hB; go_simp; (first | done | rfl)); go_frame) | (apply first_skip; (rw [List.getElem?_toArray]; (repeat rw [List.getElem?_cons_succ]); rw [List.getElem?_cons_zero]); rfl; go_frame))
  refine first_done ?_
  apply tail_step; (rw [List.getElem?_toArray]; (repeat rw [List.getElem?_cons_succ]); rw [List.getElem?_cons_zero]); rfl; rfl; intro K hK; go_simp; refine hK _ _ (fun h => absurd (by decide) h) ?_; clear hK K
  refine tail_done ?_
  clear hup c3 c4 k0 k1
  go_wp2_with fail
  have hd4 := H4'.out.head
  have hbap : ba ≠ vb := fun e => by
    obtain ⟨es, cl, he, _⟩ := H3'.out.ma
    rw [e, ev3] at he
    cases he
  have ev4 : W4.heap[vb]? = some (.cells #[.int .i64 r, .int .i64 c, .int .i64 rs, .int .i64 cs, .bool false, .bool kn, .int .i64 br, .int .i64 bc] 75) := (HM4.out.block vb hvb (Ne.symm hbap)).trans ev3
  refine wp_region_mix [0, 1, 2, 3, 4, 5] [6, 7, 8, 9, 10] [8, 9, 10] (fun W => W.heap[p]? = some (.cells #[.int .i64 g.rows, .int .i64 g.cols, .map (some bf), .slice sa g.L.length scap, .map (some ba), .map (some bo)] 69 (0, 0)) ∧ W.heap[vb]? = some (.cells #[.int .i64 r, .int .i64 c, .int .i64 rs, .int .i64 cs, .bool false, .bool kn, .int .i64 br, .int .i64 bc] 75)) (by kernel_rfl) (by kernel_rfl) ⟨hd4, ev4⟩ ?_
  iterate 6 (apply first_step; (rw [List.getElem?_toArray]; (repeat rw [List.getElem?_cons_succ]); rw [List.getElem?_cons_zero]); rfl; (rintro W ⟨u0, u1⟩; have x0 := cell_of_heap u0; have x1 := cell_of_heap u1; clear u0 u1; go_simp; (first | done | rfl)); go_frame)
  refine first_done ?_
  apply tail_step; (rw [List.getElem?_toArray]; (repeat rw [List.getElem?_cons_succ]); rw [List.getElem?_cons_zero]); rfl; rfl; intro K hK; go_simp; refine hK _ _ (fun _ => ⟨heap_alloc_old (show W4.drew.heap[p]? = _ from hd4) _, heap_alloc_old (show W4.drew.heap[vb]? = _ from ev4) _⟩) ?_; clear hK K
  apply tail_step; (rw [List.getElem?_toArray]; (repeat rw [List.getElem?_cons_succ]); rw [List.getElem?_cons_zero]); rfl; rfl; intro K hK
  obtain ⟨i0, hi, hz0, hz1, hz2⟩ := info_parts info75
  refine wp_append_at (.tmp 102) (.tmp 104) 67 rfl 0 75 i0 _ 8 56 Try.underlying67 hi hz0 hz1 hz2 rfl (by decide) (.slice sa g.L.length scap) g.L.length (g.L.flatMap cellsV) rfl ?_ ⟨W4.heap.size, 0, none⟩ 1 1 (cellsV ⟨r, c, rs, cs, false, kn, br, bc⟩) rfl rfl ?_ ?_ (by unfold maxLen; omega) (by omega) (Nat.zero_le _) ?_
  focus exact World.ownsRow.alloc (w := W4.drew) H4'.out.row _
  focus (intro j u hu; exact cells_new W4.drew _ 75 j u hu)
  focus (simp [cellsV, Value.oneCell'])
  intro v' W5 hown5 hgrow5 hloc5
  obtain ⟨gb, cap5, rfl⟩ := ownsRow_succ hown5
  have hg5 := Fr.grown hgrow5
  have hd5 : W5.heap[p]? = some (.cells #[.int .i64 g.rows, .int .i64 g.cols, .map (some bf), .slice sa g.L.length scap, .map (some ba), .map (some bo)] 69 (0, 0)) := (hg5.block p (by simp; have := H4'.out.lt p H4'.out.sp; omega) (fun e => H4'.out.row_ne_p e.symm rfl)).trans (heap_alloc_old (show W4.drew.heap[p]? = _ from hd4) _)
  have hvr : ∀ k, (Value.slice sa g.L.length scap).ownBlock = some k → k ≠ vb := fun k hk e => vrow k hk e
  have ev5 : W5.heap[vb]? = some (.cells #[.int .i64 r, .int .i64 c, .int .i64 rs, .int .i64 cs, .bool false, .bool kn, .int .i64 br, .int .i64 bc] 75) := (hg5.block vb (by simp; have := lt_of_heap ev4; omega) (fun e => hvr vb e.symm rfl)).trans (heap_alloc_old (show W4.drew.heap[vb]? = _ from ev4) _)
  refine hK _ _ (fun _ => ⟨hd5, ev5⟩) ?_
  clear hK K
  go_frame
  have x5 := cell_of_heap hd5
  have y5 := frozen_of_heap hd5
  have v5 := cell_of_heap ev5
  have hpv : p ≠ vb := fun e => by rw [e, ev5] at hd5; simp at hd5
  have HG := Lib.hid hg5
  have HO5 := Lib.hid hown5
  have HL5 := Lib.hid hloc5
  have HD5 := Lib.hid hd5
  have FIN := Lib.hid (fin W4 W5 gb cap5 H4'.out HM4.out Z4.out hown5 hgrow5 hloc5 hd5)
  clear hg5 hown5 hloc5 hgrow5 hd5 hd4 ev4 hi hz0 hz1 hz2
  iterate 3 (apply tail_step; (rw [List.getElem?_toArray]; (repeat rw [List.getElem?_cons_succ]); rw [List.getElem?_cons_zero]); rfl; rfl; intro K hK; go_simp; refine hK _ _ (fun h => absurd (by decide) h) ?_; clear hK K)
  refine tail_done ?_
  go_wp2_with fail
  go_ret2
  exact FIN.out _ rfl
end Go.Proofs.Ytihfmcadcojjnaa
