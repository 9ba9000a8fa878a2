/- DotNone: for every id, every slice of ids and every author. (Printed by tools/gen34b.py.) -/
import Derived.Test.YtebifjjghogboaaD34Joins
namespace Go.Proofs.Ytebifjjghogboaa
open Go.RowKit Go.Shelf Go.Maps
/-- A box of an id, a zero Seen, a Seen, and the document's row. -/
structure Nv (S : List Id2) (y1 y2 : Int) (q pz ps bs : Nat) (a : Option Addr) (wr : World) : Prop where
  i : wr.heap[q]? = some (.cells #[.int .i64 y1, .int .i64 y2] 24)
  z : wr.heap[pz]? = some (.cells #[.map none] 49)
  s : Sn wr ps bs S
  l : IdsAt wr a S
theorem Nv.below {S : List Id2} {y1 y2 : Int} {q pz ps bs : Nat} {a : Option Addr} {wr w' : World} (h : Nv S y1 y2 q pz ps bs a wr) (hb : Below wr.heap.size wr w') : Nv S y1 y2 q pz ps bs a w' :=
  ⟨(hb.block _ (lt_of_heap h.i)).trans h.i, (hb.block _ (lt_of_heap h.z)).trans h.z, h.s.below hb, h.l.below hb⟩
theorem Nv.zv {S : List Id2} {y1 y2 : Int} {q pz ps bs : Nat} {a : Option Addr} {wr : World} (h : Nv S y1 y2 q pz ps bs a wr) : SnV wr (.pointer (some ⟨pz, 0, none⟩)) [] := .inr (.inl ⟨pz, rfl, h.z, rfl⟩)
theorem nilV (w : World) : SnV w (.pointer none) [] := .inl ⟨rfl, rfl⟩
theorem nilI (w : World) : IdsAt w none [] := fun h => by simp at h
theorem IdsAt.zero {w w' : World} {aa : Option Addr} {M : List Id2} {p : Nat} (h : IdsAt w aa M) (hp : w.heap[p]? = some (.cells #[.map none] 49)) (hf : Fr (fun x => x = p) w w') : IdsAt w' aa M := fun h0 => by
  obtain ⟨b', off, h1, h2, h3⟩ := h h0
  have hne : b' ≠ p := fun e => by
    obtain ⟨x, hx⟩ : ∃ x, M[0]? = some x := ⟨_, List.getElem?_eq_getElem h0⟩
    have := (h3 0 x hx).1
    subst e
    rw [cell_of_heap hp] at this
    cases off with
    | zero => simp at this
    | succ n => simp at this
  have key : ∀ o, w'.cell? ⟨b', o, none⟩ = w.cell? ⟨b', o, none⟩ := fun o => World.cell?_of_block (hf.block b' h2 hne)
  exact ⟨b', off, h1, Nat.lt_of_lt_of_le h2 hf.size, fun k x hx => ⟨(key _).trans (h3 k x hx).1, (key _).trans (h3 k x hx).2⟩⟩
theorem Nv.zeroed {S : List Id2} {y1 y2 : Int} {q pz ps bs : Nat} {a : Option Addr} {wr w' : World} (h : Nv S y1 y2 q pz ps bs a wr) (hf : Fr (fun x => x = pz) wr w') : Sn w' ps bs S ∧ IdsAt w' a S := by
  refine ⟨h.s.frame hf (fun e => ?_) (fun e => ?_), h.l.zero h.z hf⟩
  · have h1 := h.s.1
    rw [show ps = pz from e, h.z] at h1
    cases h1
  · obtain ⟨_, l, ⟨_, _, h1, _⟩, _⟩ := h.s
    rw [show bs = pz from e, h.z] at h1
    cases h1
theorem joinL_none (S : List Id2) : joinL S [] = S := rfl
set_option maxHeartbeats 4000000 in
set_option maxRecDepth 100000 in
theorem none_main (aa : Option Addr) (cap : Nat) (M : List Id2) (y1 y2 x : Int) (w : World) (hM : IdsAt w aa M) (hIn : ∀ p ∈ M, InI p) (hlen : M.length ≤ 100) (zb : Bool) (ZB : Hid (covL [] (ofL M) = zb)) (hz : (((ofL M).length : Int) == 0) = zb) :
    Calls Try.prog 9 #[.agg #[.int .i64 y1, .int .i64 y2], .slice aa M.length cap, .int .i64 x] w fun e w' => e = .returned (.bool true) ∧ Below w.heap.size w w' := by
  have HM := Lib.hid hM
  have HIn := Lib.hid hIn
  have HZ := Lib.hid hz
  clear hM hIn hz
  go_enter Try.func9, Try.ntmps9
  go_wp2_with fail
  refine (awake_any _).mono ?_
  rintro e w1 ⟨rfl, hb⟩
  have G0 : Hid (w1.heap[w.heap.size]? = some (.cells #[.int .i64 y1, .int .i64 y2] 24)) := (hb.block _ (by simp)).trans (by (repeat (first | (with_reducible refine heap_alloc_at ?_ _; (first | rfl | (simp; done) | omega | (simp; omega)); done) | with_reducible refine heap_alloc_old ?_ _ | with_reducible refine heap_drew_old ?_ | with_reducible refine heap_drewN_old ?_)))
  have F1 : Hid (Below w.heap.size w w1) := by
    refine Below.trans ?_ (hb.mono (by simp))
    (repeat (first | with_reducible exact Below.refl _ _ | with_reducible exact hBW | with_reducible refine Below.setCell ?_ ?_ _ | with_reducible refine Below.alloc ?_ ?_ _ | with_reducible refine belowN ?_ _ | with_reducible refine Below.drew ?_)); all_goals (first | omega | (dsimp only; omega) | ((repeat (first | with_reducible refine le_alloc ?_ | with_reducible refine le_setCell ?_ | with_reducible refine le_drew ?_ | with_reducible refine le_drewN ?_)); omega))
  clear hb
  go_wp2_with fail
  have hba := below_alloc w1 (.cells #[.map none] 49) _ (Nat.le_refl _)
  refine (of_any aa cap M _ ((HM.out.below F1.out).below hba) HIn.out hlen).mono ?_
  rintro e w2 ⟨a2, c2, rfl, s2, i2, b2⟩
  have F2 : Hid (Below w.heap.size w w2) := (F1.out.trans (hba.mono F1.out.size)).trans (b2.mono (Nat.le_trans F1.out.size hba.size))
  have N2 : Hid (Nv (ofL M) y1 y2 w.heap.size w1.heap.size ((w1.alloc (.cells #[.map none] 49)).heap.size + 1) (w1.alloc (.cells #[.map none] 49)).heap.size a2 w2) :=
    ⟨(b2.block _ (by have := lt_of_heap G0.out; simp; omega)).trans ((hba.block _ (lt_of_heap G0.out)).trans G0.out), (b2.block _ (by simp)).trans (heap_alloc_new _ _), s2, i2⟩
  have hD : Hid (w.heap.size ≤ w1.heap.size) := F1.out.size
  have hDb : Hid (w.heap.size ≤ (w1.alloc (.cells #[.map none] 49)).heap.size) := Nat.le_trans F1.out.size hba.size
  clear s2 i2 b2 hba G0 F1
  generalize (w1.alloc (.cells #[.map none] 49)).heap.size = bs at N2 hDb ⊢
  generalize w1.heap.size = pz at N2 hD ⊢
  generalize ofL M = S at N2 ZB HZ ⊢
  have GS := Lib.hid N2.out.s.2.good
  obtain ⟨⟨n1, n2⟩, hN⟩ : ∃ N, nextL [] x = N := ⟨_, rfl⟩
  have NX := Lib.hid hN
  clear hN
  have R20 : Hid (Below w2.heap.size w2 w2) := Below.refl _ _
  go_wp2_with fail
  refine (join_nil (N2.out.below R20.out).s.v).mono ?_
  rintro e u21 ⟨rfl, hb⟩
  have R21 : Hid (Below w2.heap.size w2 u21) := R20.out.trans (hb.mono R20.out.size)
  clear hb
  have k0 := cell_of_heap (N2.out.below R21.out).i 0
  have k1 := cell_of_heap (N2.out.below R21.out).i 1
  have z1 := lt_of_heap (N2.out.below R21.out).i
  go_wp2_with fail
  refine (add_nil (y1, y2) _).mono ?_
  rintro e u22 ⟨rfl, hb⟩
  have R22 : Hid (Below w2.heap.size w2 u22) := R21.out.trans (hb.mono R21.out.size)
  clear hb
  clear k0 k1 z1
  have k0 := cell_of_heap (N2.out.below R22.out).i 0
  have k1 := cell_of_heap (N2.out.below R22.out).i 1
  have z1 := lt_of_heap (N2.out.below R22.out).i
  go_wp2_with fail
  refine (has_any (y1, y2) (nilV _)).mono ?_
  rw [hasB_nil]
  rintro e u23 ⟨rfl, hb⟩
  have R23 : Hid (Below w2.heap.size w2 u23) := R22.out.trans (hb.mono R22.out.size)
  clear hb
  clear k0 k1 z1
  go_wp2_with fail
  refine (next_any x (nilV _)).mono ?_
  rw [NX.out]
  unfold encI
  simp only
  rintro e u24 ⟨rfl, hb⟩
  have R24 : Hid (Below w2.heap.size w2 u24) := R23.out.trans (hb.mono R23.out.size)
  clear hb
  go_wp2_with fail
  refine (refNext_any none 0 [] x _ (nilI _) good_nil).mono ?_
  rw [NX.out]
  unfold encI
  simp only
  rintro e u25 ⟨rfl, hb⟩
  have R25 : Hid (Below w2.heap.size w2 u25) := R24.out.trans (hb.mono R24.out.size)
  clear hb
  have nq := fun W => neq_id W (n1, n2) (n1, n2)
  rw [decide_eq_true rfl] at nq
  unfold encI at nq
  simp only at nq
  go_wp2_with fail
  clear nq
  refine (same_any none 0 (nilV _) (nilI _)).mono ?_
  rintro e u26 ⟨rfl, hb⟩
  have R26 : Hid (Below w2.heap.size w2 u26) := R25.out.trans (hb.mono R25.out.size)
  clear hb
  go_wp2_with fail
  refine (clone_any (nilV _)).mono ?_
  rintro e c50 ⟨rfl, s50, b50⟩
  have K50 := Lib.hid s50
  have R50 : Hid (Below w2.heap.size w2 c50) := R26.out.trans (b50.mono R26.out.size)
  clear s50 b50
  go_wp2_with fail
  refine (clone_any (nilV _)).mono ?_
  rintro e c51 ⟨rfl, s51, b51⟩
  have K51 := Lib.hid s51
  have R51 : Hid (Below w2.heap.size w2 c51) := R50.out.trans (b51.mono R50.out.size)
  clear s51 b51
  go_wp2_with fail
  refine (same_any none 0 K51.out.v (nilI _)).mono ?_
  rintro e u27 ⟨rfl, hb⟩
  have R27 : Hid (Below w2.heap.size w2 u27) := R51.out.trans (hb.mono R51.out.size)
  clear hb
  go_wp2_with fail
  refine (covers_any (N2.out.below R27.out).s.v (nilV _)).mono ?_
  rw [covL_nil]
  rintro e u28 ⟨rfl, hb⟩
  have R28 : Hid (Below w2.heap.size w2 u28) := R27.out.trans (hb.mono R27.out.size)
  clear hb
  go_wp2_with fail
  have nb := fun W => neq_bool W zb
  have hz := HZ.out
  refine (covers_any (nilV _) (N2.out.below R28.out).s.v).mono ?_
  rw [ZB.out]
  rintro e u29 ⟨rfl, hb⟩
  have R29 : Hid (Below w2.heap.size w2 u29) := R28.out.trans (hb.mono R28.out.size)
  clear hb
  go_wp2_with fail
  clear nb hz
  refine (covers_any (nilV _) (nilV _)).mono ?_
  rw [covL_nil]
  rintro e u30 ⟨rfl, hb⟩
  have R30 : Hid (Below w2.heap.size w2 u30) := R29.out.trans (hb.mono R29.out.size)
  clear hb
  go_wp2_with fail
  refine abs_world ?_
  intro W1 hW1
  have NW : Hid (Nv S y1 y2 w.heap.size pz (bs + 1) bs a2 W1) := by rw [hW1]; exact N2.out.below R30.out
  have FW : Hid (Below w.heap.size w W1) := by rw [hW1]; exact F2.out.trans (R30.out.mono F2.out.size)
  clear hW1
  have k0 := cell_of_heap NW.out.i 0
  have k1 := cell_of_heap NW.out.i 1
  have z1 := lt_of_heap NW.out.i
  refine wp_region_multiR [([0], [1], [1, 2, 3, 4, 5, 6, 7, 8, 9, 10, 11, 12, 13, 14, 15, 16, 17, 18, 19, 20, 21, 22, 23, 24, 25, 26, 27]), ([2], [3], [3, 4, 5, 6, 7, 8, 9, 10, 11, 12, 13, 14, 15, 16, 17, 18, 19, 20, 21, 22, 23, 24, 25, 26, 27]), ([4, 5, 6, 7, 9, 10, 11], [8], [12, 13, 14, 15, 16, 17, 18, 19, 20, 21, 22, 23, 24, 25, 26, 27]), ([12, 13, 14, 15, 17], [16, 18], [18, 19, 20, 21, 22, 23, 24, 25, 26, 27]), ([19, 20, 21, 22, 24], [23, 25], [25, 26, 27]), ([26, 27], [], [])] (by kernel_rfl) (by kernel_rfl) ?_
  refine multi_phase (Below W1.heap.size W1) ((Below.refl _ W1).drew) ?_
  iterate 1 (first | (apply first_step; (rw [List.getElem?_toArray]; (repeat rw [List.getElem?_cons_succ]); rw [List.getElem?_cons_zero]); rfl; (intro W hB; have hc := bcellB hB; go_simp; (first | done | rfl)); go_frame) | (apply first_skip; (rw [List.getElem?_toArray]; (repeat rw [List.getElem?_cons_succ]); rw [List.getElem?_cons_zero]); rfl; go_frame))
  refine first_done ?_
  apply forced_step; (rw [List.getElem?_toArray]; (repeat rw [List.getElem?_cons_succ]); rw [List.getElem?_cons_zero]); rfl; intro K hK; go_simp
  refine (has_any (y1, y2) (NW.out.below ((Below.refl _ W1).drew)).zv).mono ?_
  rw [hasB_nil]
  rintro r v61 ⟨rfl, hb⟩
  have HB61 : Hid (Below W1.heap.size W1 v61) := (Below.refl _ W1).drew.trans hb
  refine hK _ _ (fun h => absurd (by decide) h) ?_
  clear hK K hb
  refine forced_done ?_
  refine multi_phase (Below W1.heap.size W1) (HB61.out) ?_
  iterate 1 (first | (apply first_step; (rw [List.getElem?_toArray]; (repeat rw [List.getElem?_cons_succ]); rw [List.getElem?_cons_zero]); rfl; (intro W hB; have hc := bcellB hB; go_simp; (first | done | rfl)); go_frame) | (apply first_skip; (rw [List.getElem?_toArray]; (repeat rw [List.getElem?_cons_succ]); rw [List.getElem?_cons_zero]); rfl; go_frame))
  refine first_done ?_
  apply forced_step; (rw [List.getElem?_toArray]; (repeat rw [List.getElem?_cons_succ]); rw [List.getElem?_cons_zero]); rfl; intro K hK; go_simp
  refine (same_any none 0 (NW.out.below (HB61.out)).zv (nilI _)).mono ?_
  rintro r v62 ⟨rfl, hb⟩
  have HB62 : Hid (Below W1.heap.size W1 v62) := HB61.out.trans (hb.mono HB61.out.size)
  refine hK _ _ (fun h => absurd (by decide) h) ?_
  clear hK K hb
  refine forced_done ?_
  have hz := HZ.out
  refine multi_phase (Below W1.heap.size W1) (HB62.out) ?_
  iterate 7 (first | (apply first_step; (rw [List.getElem?_toArray]; (repeat rw [List.getElem?_cons_succ]); rw [List.getElem?_cons_zero]); rfl; (intro W hB; have hc := bcellB hB; go_simp; (first | done | rfl)); go_frame) | (apply first_skip; (rw [List.getElem?_toArray]; (repeat rw [List.getElem?_cons_succ]); rw [List.getElem?_cons_zero]); rfl; go_frame))
  refine first_done ?_
  apply forced_step; (rw [List.getElem?_toArray]; (repeat rw [List.getElem?_cons_succ]); rw [List.getElem?_cons_zero]); rfl; intro K hK; go_simp
  refine (covers_any (NW.out.below (HB62.out)).zv (NW.out.below (HB62.out)).s.v).mono ?_
  rw [ZB.out]
  rintro r v63 ⟨rfl, hb⟩
  have HB63 : Hid (Below W1.heap.size W1 v63) := HB62.out.trans (hb.mono HB62.out.size)
  refine hK _ _ (fun _ => HB63.out) ?_
  clear hK K hb
  refine forced_done ?_
  have nb := fun W => neq_bool W zb
  refine multi_phase (Below W1.heap.size W1) (HB63.out) ?_
  iterate 5 (first | (apply first_step; (rw [List.getElem?_toArray]; (repeat rw [List.getElem?_cons_succ]); rw [List.getElem?_cons_zero]); rfl; (intro W hB; have hc := bcellB hB; go_simp; (first | done | rfl)); go_frame) | (apply first_skip; (rw [List.getElem?_toArray]; (repeat rw [List.getElem?_cons_succ]); rw [List.getElem?_cons_zero]); rfl; go_frame))
  refine first_done ?_
  apply forced_step; (rw [List.getElem?_toArray]; (repeat rw [List.getElem?_cons_succ]); rw [List.getElem?_cons_zero]); rfl; intro K hK; go_simp
  refine (next_any x (NW.out.below (HB63.out)).zv).mono ?_
  rw [NX.out]
  unfold encI
  simp only
  rintro r v64 ⟨rfl, hb⟩
  have HB64 : Hid (Below W1.heap.size W1 v64) := HB63.out.trans (hb.mono HB63.out.size)
  refine hK _ _ (fun _ => HB64.out) ?_
  clear hK K hb
  apply forced_step; (rw [List.getElem?_toArray]; (repeat rw [List.getElem?_cons_succ]); rw [List.getElem?_cons_zero]); rfl; intro K hK; go_simp
  refine (refNext_any none 0 [] x _ (nilI _) good_nil).mono ?_
  rw [NX.out]
  unfold encI
  simp only
  rintro r v65 ⟨rfl, hb⟩
  have HB65 : Hid (Below W1.heap.size W1 v65) := HB64.out.trans (hb.mono HB64.out.size)
  refine hK _ _ (fun h => absurd (by decide) h) ?_
  clear hK K hb
  refine forced_done ?_
  clear nb hz
  have nq := fun W => neq_id W (n1, n2) (n1, n2)
  rw [decide_eq_true rfl] at nq
  unfold encI at nq
  simp only at nq
  have NV := Lib.hid (NW.out.below (HB65.out))
  refine multi_phase (fun W => W.heap[w.heap.size]? = some (.cells #[.int .i64 y1, .int .i64 y2] 24)) NV.out.i ?_
  iterate 5 (first | (apply first_step; (rw [List.getElem?_toArray]; (repeat rw [List.getElem?_cons_succ]); rw [List.getElem?_cons_zero]); rfl; (intro W u0; have x0 := cell_of_heap u0; have x1 := lt_of_heap u0; clear u0; go_simp; (first | done | rfl)); go_frame) | (apply first_skip; (rw [List.getElem?_toArray]; (repeat rw [List.getElem?_cons_succ]); rw [List.getElem?_cons_zero]); rfl; go_frame))
  refine first_done ?_
  clear nq
  apply forced_step; (rw [List.getElem?_toArray]; (repeat rw [List.getElem?_cons_succ]); rw [List.getElem?_cons_zero]); rfl; intro K hK; go_simp
  refine (add_zero NV.out.z (y1, y2)).mono ?_
  rintro r v70 ⟨rfl, f70⟩
  have hqz : Hid (w.heap.size ≠ pz) := fun e => by
    have h1 := NV.out.i
    rw [e, NV.out.z] at h1
    cases h1
  have i70 : Hid (v70.heap[w.heap.size]? = some (.cells #[.int .i64 y1, .int .i64 y2] 24)) := (f70.block _ (lt_of_heap NV.out.i) hqz.out).trans NV.out.i
  obtain ⟨s70, l70⟩ := NV.out.zeroed f70
  have S70 := Lib.hid s70
  have L70 := Lib.hid l70
  have F70 : Hid (Below w.heap.size w v70) := (FW.out.trans ((HB65.out).mono (Nat.le_of_lt z1))).trans (f70.below (Nat.le_of_lt (lt_of_heap NV.out.i)) (fun k h => by have := hD.out; omega))
  refine hK _ _ (fun _ => i70.out) ?_
  clear hK K f70 s70 l70
  apply forced_step; (rw [List.getElem?_toArray]; (repeat rw [List.getElem?_cons_succ]); rw [List.getElem?_cons_zero]); rfl; intro K hK; go_simp
  refine (refMay_any (y1, y2) _).mono ?_
  rintro r v71 ⟨rfl, hb⟩
  have HB71 := Lib.hid hb
  refine hK _ _ (fun h => absurd (by decide) h) ?_
  clear hK K hb
  refine forced_done ?_
  generalize mayB (y1, y2) = mb
  have nb := fun W => neq_bool W mb
  refine multi_phase (fun _ => True) trivial ?_
  iterate 2 (first | (apply first_step; (rw [List.getElem?_toArray]; (repeat rw [List.getElem?_cons_succ]); rw [List.getElem?_cons_zero]); rfl; (intro W _; go_simp; (first | done | rfl)); go_frame) | (apply first_skip; (rw [List.getElem?_toArray]; (repeat rw [List.getElem?_cons_succ]); rw [List.getElem?_cons_zero]); rfl; go_frame))
  refine first_done ?_
  refine forced_done ?_
  refine multi_done ?_
  clear k0 k1 z1 nb
  go_wp2_with fail
  have S71 := Lib.hid (S70.out.below HB71.out)
  have L71 := Lib.hid (L70.out.below HB71.out)
  have F71 : Hid (Below w.heap.size w v71) := F70.out.trans (HB71.out.mono (Nat.le_of_lt (lt_of_heap i70.out)))
  refine (join_sn S71.out (nilV _)).mono ?_
  rw [joinL_none]
  rintro e v72 ⟨rfl, s72, f72⟩
  have L72 := Lib.hid (L71.out.sn S71.out f72)
  have S72 := Lib.hid s72
  have F72 : Hid (Below w.heap.size w v72) := F71.out.trans (f72.below (Nat.le_trans (Nat.le_of_lt (lt_of_heap i70.out)) HB71.out.size) (fun k h => by have := hDb.out; omega))
  clear s72 f72
  go_wp2_with fail
  refine (same_any a2 c2 S72.out.v L72.out).mono ?_
  rintro e v73 ⟨rfl, hb⟩
  have F73 : Hid (Below w.heap.size w v73) := F72.out.trans (hb.mono (Nat.le_trans hDb.out (Nat.le_of_lt S72.out.2.lt)))
  clear hb
  go_wp2_with fail
  go_ret
  exact ⟨rfl, F73.out⟩
set_option maxHeartbeats 1000000 in
theorem none_long (aa : Option Addr) (cap n : Nat) (y1 y2 x : Int) (w : World) (hlen : 100 < n) :
    Calls Try.prog 9 #[.agg #[.int .i64 y1, .int .i64 y2], .slice aa n cap, .int .i64 x] w fun e w' => e = .returned (.bool true) ∧ Below w.heap.size w w' := by
  go_enter Try.func9, Try.ntmps9
  go_wp2_with fail
  refine (awake_any _).mono ?_
  rintro e w1 ⟨rfl, hb⟩
  have FB : Hid (Below w.heap.size w w1) := by
    refine Below.trans ?_ (hb.mono (by simp))
    (repeat (first | with_reducible exact Below.refl _ _ | with_reducible exact hBW | with_reducible refine Below.setCell ?_ ?_ _ | with_reducible refine Below.alloc ?_ ?_ _ | with_reducible refine belowN ?_ _ | with_reducible refine Below.drew ?_)); all_goals (first | omega | (dsimp only; omega) | ((repeat (first | with_reducible refine le_alloc ?_ | with_reducible refine le_setCell ?_ | with_reducible refine le_drew ?_ | with_reducible refine le_drewN ?_)); omega))
  clear hb
  go_wp2_with fail
  go_ret
  exact ⟨rfl, FB.out⟩
theorem none_law (aa : Option Addr) (cap : Nat) (M : List Id2) (i : Id2) (x : Int) (w : World) (hM : IdsAt w aa M) (hIn : ∀ p ∈ M, InI p) :
    Calls Try.prog 9 #[encI i, .slice aa M.length cap, .int .i64 x] w fun e w' => e = .returned (.bool true) ∧ Below w.heap.size w w' := by
  by_cases h : M.length ≤ 100
  · refine none_main aa cap M i.1 i.2 x w hM hIn h (decide ((ofL M).length = 0)) nil_covL ?_
    by_cases h0 : (ofL M).length = 0
    · simp [h0]
    · have : ¬ ((ofL M).length : Int) = 0 := by omega
      rw [decide_eq_false h0]
      exact beq_eq_false_iff_ne.2 this
  · exact none_long aa cap M.length i.1 i.2 x w (by omega)
end Go.Proofs.Ytebifjjghogboaa
