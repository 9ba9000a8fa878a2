/- Decided; same. (Printed by tools/gen23s.py.) -/
import Derived.Test.YtihfmcadcojjnaaS23R4
import Derived.Test.YtihfmcadcojjnaaS23Awake
namespace Go.Proofs.Ytihfmcadcojjnaa
open Go.RowKit
theorem eql_rect (w : World) (a b : R4) : (binOp .eql 38 (encR a) (encR b)).run Try.prog w = .ok (.bool (decide (a = b))) w := by
  obtain ⟨a1, a2, a3, a4⟩ := a
  obtain ⟨b1, b2, b3, b4⟩ := b
  unfold encR
  simp [go_sem]
  by_cases h1 : a1 = b1 <;> by_cases h2 : a2 = b2 <;> by_cases h3 : a3 = b3 <;> by_cases h4 : a4 = b4 <;> simp [h1, h2, h3, h4]
set_option maxHeartbeats 2000000 in
set_option maxRecDepth 100000 in
theorem decided_any {w : World} {p : Nat} {S : Nat → Prop} {g : G} (h : IsBd w p S g) (hA : WfA g) (hLn : g.L.length ≤ 1000000) (r c : Int) :
    Calls Try.prog 31 #[.pointer (some ⟨p, 0, none⟩), .int .i64 r, .int .i64 c] w fun e w' => e = .returned (.tuple #[encR (verdictOf g r c).q, .bool (verdictOf g r c).st, .bool (getL g.A (r, c)).isSome]) ∧ Below w.heap.size w w' := by
  obtain ⟨bf, ba, bo, sv, H⟩ := h
  have hc := fun W hW => verdict_any (w := W) (H.below hW) hA hLn r c
  generalize (getL g.A (r, c)).isSome = ob at hc ⊢
  generalize verdictOf g r c = v at hc ⊢
  have HC := Lib.hid hc
  clear hc H hA
  obtain ⟨vr, vc, rs, cs, st, kn, br, bc⟩ := v
  unfold verV at HC
  unfold Ver.q encR
  simp only at HC ⊢
  go_enter Try.func31, Try.ntmps31
  go_wp2_with fail
  refine (HC.out _ (below_alloc w _ _ (Nat.le_refl _))).mono ?_
  rintro e w1 ⟨rfl, hb⟩
  have F1 : Hid (Below w.heap.size w w1) := (below_alloc w _ _ (Nat.le_refl _)).trans (hb.mono (by simp))
  have E1 : Hid (w1.heap[w.heap.size]? = some (.cells #[.int .i64 0, .int .i64 0, .int .i64 0, .int .i64 0] 38)) := (hb.block _ (by simp)).trans (heap_alloc_new _ _)
  clear hb
  have z0 := lt_of_heap E1.out
  go_wp2_with fail
  refine abs_world ?_
  intro W2 hW2
  have E2 : W2.heap[w.heap.size]? = some (.cells #[.int .i64 0, .int .i64 0, .int .i64 0, .int .i64 0] 38) := by rw [hW2]; exact heap_alloc_old E1.out _
  have E3 : W2.heap[w1.heap.size]? = some (.cells #[.int .i64 vr, .int .i64 vc, .int .i64 rs, .int .i64 cs, .bool st, .bool kn, .int .i64 br, .int .i64 bc] 75) := by rw [hW2]; (repeat (first | (with_reducible refine heap_alloc_at ?_ _; (first | rfl | (simp; done) | omega | (simp; omega)); done) | with_reducible refine heap_alloc_old ?_ _ | with_reducible refine heap_drew_old ?_ | with_reducible refine heap_drewN_old ?_))
  have F2 : Hid (Below w.heap.size w W2) := by rw [hW2]; exact F1.out.alloc F1.out.size _
  clear hW2 F1 E1
  have k0 := cell_of_heap E2
  have f0 := frozen_of_heap E2
  have z2 := lt_of_heap E2
  have hne : w.heap.size ≠ w1.heap.size := by omega
  have EE2 := Lib.hid E2
  refine wp_region_mix [0, 1, 2, 3, 4] [5, 6, 7] [7] (fun W => W.heap[w1.heap.size]? = some (.cells #[.int .i64 vr, .int .i64 vc, .int .i64 rs, .int .i64 cs, .bool st, .bool kn, .int .i64 br, .int .i64 bc] 75)) (by kernel_rfl) (by kernel_rfl) E3 ?_
  clear E2
  iterate 5 (apply first_step; (rw [List.getElem?_toArray]; (repeat rw [List.getElem?_cons_succ]); rw [List.getElem?_cons_zero]); rfl; (intro W u0; have x0 := cell_of_heap u0; have x1 := lt_of_heap u0; clear u0; go_simp; (first | done | rfl)); go_frame)
  refine first_done ?_
  have keep : ∀ (X : World) (o : Nat) (u : Value), (X.setCell ⟨w.heap.size, o, none⟩ u).heap[w1.heap.size]? = X.heap[w1.heap.size]? := fun X o u => Below.heap_setCell _ _ _ _ (Ne.symm hne)
  have KEEP := Lib.hid keep
  have E3' := Lib.hid E3
  clear keep E3
  apply tail_step; (rw [List.getElem?_toArray]; (repeat rw [List.getElem?_cons_succ]); rw [List.getElem?_cons_zero]); rfl; rfl; intro K hK; go_simp
  refine hK _ _ (fun _ => ?_) ?_
  · rw [heap_drew, KEEP.out, KEEP.out, KEEP.out, KEEP.out]; exact E3'.out
  clear hK K
  apply tail_step; (rw [List.getElem?_toArray]; (repeat rw [List.getElem?_cons_succ]); rw [List.getElem?_cons_zero]); rfl; rfl; intro K hK; go_simp
  refine hK _ _ (fun _ => ?_) ?_
  · rw [heap_drew, KEEP.out, KEEP.out, KEEP.out, KEEP.out]; exact E3'.out
  clear hK K
  apply tail_step; (rw [List.getElem?_toArray]; (repeat rw [List.getElem?_cons_succ]); rw [List.getElem?_cons_zero]); rfl; rfl; intro K hK; go_simp
  refine hK _ _ (fun h => absurd (by decide) h) ?_
  clear hK K
  refine tail_done ?_
  go_wp2_with fail
  refine bodyPost_ret (v := .tuple #[.agg #[.int .i64 vr, .int .i64 vc, .int .i64 rs, .int .i64 cs], .bool st, .bool ob]) (by simp [results, Try.results31, go_sem, k0]) rfl ⟨rfl, ?_⟩
  refine (Below.setCell (Below.setCell (Below.setCell (Below.setCell F2.out ?_ _) ?_ _) ?_ _) ?_ _).drew <;> exact Nat.le_refl _
/-- Behind the answer of Decided: the box of the board, its rows. -/
structure SmSt (w wr : World) (p : Nat) (S : Nat → Prop) (g : G) (rows cols : Int) (fa : Option Addr) (fn fc : Nat) (la : Option Addr) (L : List Ver) (lc : Nat) : Prop where
  b : Below w.heap.size w wr
  bd : IsBd wr p S g
  x : wr.heap[w.heap.size]? = some (.cells #[.int .i64 rows, .int .i64 cols, .slice fa fn fc, .slice la L.length lc] 53)
  l : RctAt wr la L
theorem SmSt.below {w wr w' : World} {p : Nat} {S : Nat → Prop} {g : G} {rows cols : Int} {fa : Option Addr} {fn fc : Nat} {la : Option Addr} {L : List Ver} {lc : Nat} (h : SmSt w wr p S g rows cols fa fn fc la L lc) (hb : Below wr.heap.size wr w') : SmSt w w' p S g rows cols fa fn fc la L lc :=
  ⟨h.b.trans (hb.mono h.b.size), h.bd.below hb, (hb.block _ (lt_of_heap h.x)).trans h.x, h.l.below hb⟩
set_option maxHeartbeats 8000000 in
set_option maxRecDepth 100000 in
theorem same_any {w : World} {p : Nat} {S : Nat → Prop} {g : G} (rows cols : Int) (fa : Option Addr) (fc : Nat) (F : List P2) (la : Option Addr) (lc : Nat) (L : List Ver) (r c : Int) (hb : IsBd w p S g) (hR : Rel g F L) (hL : RctAt w la L) (hLl : L.length ≤ 100) (hr : Small r) (hc : Small c) :
    Calls Try.prog 21 #[.pointer (some ⟨p, 0, none⟩), xv rows cols fa F.length fc la L.length lc, .int .i64 r, .int .i64 c] w fun e w' => e = .returned (.bool true) ∧ Below w.heap.size w w' := by
  have HREL := Lib.hid hR
  have HSR := Lib.hid hr
  have HSC := Lib.hid hc
  have hgl : g.L.length ≤ 1000000 := by rw [hR.l]; omega
  have N0 : Hid (SmSt w (w.alloc (.cells #[.int .i64 rows, .int .i64 cols, .slice fa F.length fc, .slice la L.length lc] 53)) p S g rows cols fa F.length fc la L lc) :=
    ⟨below_alloc w _ _ (Nat.le_refl _), hb.below (below_alloc w _ _ (Nat.le_refl _)), heap_alloc_new _ _, hL.below (below_alloc w _ _ (Nat.le_refl _))⟩
  clear hb hR hL hr hc
  unfold xv
  go_enter Try.func21, Try.ntmps21
  go_wp2_with fail
  refine (decided_any N0.out.bd HREL.out.inv.wf hgl r c).mono ?_
  rintro e w1 ⟨rfl, hb1⟩
  have N1 := Lib.hid (N0.out.below hb1)
  clear hb1 N0
  generalize hdv : verdictOf g r c = dv
  obtain ⟨dr, dc, drs, dcs, dst, dkn, dbr, dbc⟩ := dv
  have HDV := Lib.hid hdv
  clear hdv
  unfold Ver.q encR
  simp only
  generalize hok : (getL g.A (r, c)).isSome = ok
  have HOKA := Lib.hid hok
  clear hok
  have x5 := cell_of_heap N1.out.x
  have y5 := lt_of_heap N1.out.x
  go_wp2_with fail
  clear x5 y5
  have hba := below_alloc w1 (.cells #[.int .i64 dr, .int .i64 dc, .int .i64 drs, .int .i64 dcs] 38) _ (Nat.le_refl _)
  refine (refOf_any rows cols fa F.length fc la lc L r c _ (N1.out.below hba).l hLl).mono ?_
  rintro e w2 ⟨m, rfl, hm, hb2⟩
  have N2 := Lib.hid ((N1.out.below hba).below hb2)
  have E2 : Hid (w2.heap[w1.heap.size]? = some (.cells #[.int .i64 dr, .int .i64 dc, .int .i64 drs, .int .i64 dcs] 38)) := (hb2.block _ (by simp)).trans (heap_alloc_new _ _)
  have HOF := Lib.hid (of_some HREL.out hm)
  clear hb2 hm hba N1
  have HBK := Lib.hid (fun W (hW : IsBd W p S g) => blocker_any hW HREL.out.inv.wf hgl r c)
  rw [HDV.out] at HBK
  simp only at HBK
  clear hgl
  rcases HOF.out with ⟨h0, k, v, rfl, hk, hvr, hvc, hA⟩ | ⟨rfl, hA⟩
  · have e1 : ok = true := by rw [← HOKA.out, hA]; rfl
    have e2 : v = ⟨dr, dc, drs, dcs, dst, dkn, dbr, dbc⟩ := by
      rw [← HDV.out, ← hvr, ← hvc]
      exact (verdict_at HREL.out.inv (by rw [HREL.out.l]; exact List.mem_of_getElem? hk)).symm
    have HOKK := Lib.hid hk
    subst e1 e2
    have j1 : (0 : Int) ≤ (k : Int) := by omega
    have j2 : (k : Int) < (L.length : Int) := by have := (List.getElem?_eq_some_iff.1 hk).1; omega
    clear hk hvr hvc hA h0 HOF HOKA HDV
    obtain ⟨b, off, rfl, hbb, d0, d1, d2, d3, d4, d5, d6, d7⟩ := N2.out.l.at HOKK.out
    simp only at d0 d1 d2 d3 d4 d5 d6 d7
    go_wp2_with fail
    refine abs_world ?_
    intro W1 hW1
    subst hW1
    have x0 := cell_of_heap N2.out.x
    have x1 := lt_of_heap N2.out.x
    have y0 := cell_of_heap E2.out
    have y1 := lt_of_heap E2.out
    have nq := fun W => neq_rect W (dr, dc, drs, dcs) (dr, dc, drs, dcs)
    rw [show decide ((dr, dc, drs, dcs) ≠ (dr, dc, drs, dcs)) = false by simp] at nq
    unfold encR at nq
    simp only at nq
    have nb : (dst != dst) = false := by simp
    refine wp_region_multiR [([0, 1, 2, 3, 4, 5, 6, 7, 8, 9, 10, 11, 12, 13, 14, 15, 16, 17, 18, 19, 21, 22, 23, 24, 25, 20], [26], [27, 28, 29, 30, 31, 32, 33, 34, 35, 36, 37, 38, 39, 40]), ([27, 28, 29, 30, 31, 32, 33, 34, 35, 36, 37, 38, 39, 40], [], [])] (by kernel_rfl) (by kernel_rfl) ?_
    refine multi_phase (Below W1.heap.size W1) (Below.refl _ _).drew ?_
    iterate 26 (first | (apply first_step; (rw [List.getElem?_toArray]; (repeat rw [List.getElem?_cons_succ]); rw [List.getElem?_cons_zero]); rfl; (intro W hB; have hc := bcellB hB; go_simp; (first | done | rfl)); go_frame) | (apply first_skip; (rw [List.getElem?_toArray]; (repeat rw [List.getElem?_cons_succ]); rw [List.getElem?_cons_zero]); rfl; go_frame))
    refine first_done ?_
    apply forced_step; (rw [List.getElem?_toArray]; (repeat rw [List.getElem?_cons_succ]); rw [List.getElem?_cons_zero]); rfl; intro K hK; go_simp
    refine (rect_any ⟨dr, dc, drs, dcs, dst, dkn, dbr, dbc⟩ _).mono ?_
    unfold encR
    simp only
    rintro e v2 ⟨rfl, hb⟩
    have HZ : Hid (Below W1.heap.size W1 v2) := (Below.refl _ W1).drew.trans hb
    refine hK _ _ (fun _ => HZ.out) ?_
    clear hK K hb
    refine forced_done ?_
    refine multi_phase (Below W1.heap.size W1) HZ.out ?_
    iterate 14 (first | (apply first_step; (rw [List.getElem?_toArray]; (repeat rw [List.getElem?_cons_succ]); rw [List.getElem?_cons_zero]); rfl; (intro W hB; have hc := bcellB hB; go_simp; (first | done | rfl)); go_frame) | (apply first_skip; (rw [List.getElem?_toArray]; (repeat rw [List.getElem?_cons_succ]); rw [List.getElem?_cons_zero]); rfl; go_frame))
    refine first_done ?_
    refine forced_done ?_
    refine multi_done ?_
    have N3 := Lib.hid (N2.out.below HZ.out)
    clear x0 x1 y0 y1 nq d0 d1 d2 d3 d4 d5 d6 d7 hbb HZ N2 E2
    go_wp2_with fail
    refine (HBK.out _ N3.out.bd).mono ?_
    rintro e w4 ⟨rfl, hb4⟩
    have N4 := Lib.hid (N3.out.below hb4)
    clear hb4 N3 HBK
    obtain ⟨b_, off_, e_, hbb, d0, d1, d2, d3, d4, d5, d6, d7⟩ := N4.out.l.at HOKK.out
    simp only [Option.some.injEq, Addr.mk.injEq] at e_
    obtain ⟨rfl, rfl, _⟩ := e_
    simp only at d0 d1 d2 d3 d4 d5 d6 d7
    have x0 := cell_of_heap N4.out.x
    have x1 := lt_of_heap N4.out.x
    have nb2 : (dkn != dkn) = false := by simp
    clear HOKK
    go_wp2_with fail
    clear x0 x1 d0 d1 d2 d3 d4 d5 d6 d7 hbb nb nb2
    refine (owner_any N4.out.bd r c).mono ?_
    rintro e w5 ⟨rfl, hb5⟩
    have N5 := Lib.hid (N4.out.below hb5)
    clear hb5
    generalize hoR : ownerR g r c = oR
    obtain ⟨o1, o2, o3, o4⟩ := oR
    have HOR := Lib.hid hoR
    clear hoR
    unfold encR
    simp only
    generalize hoS : (getL g.O (r, c)).isSome = oS
    have HOS := Lib.hid hoS
    clear hoS
    have x5 := cell_of_heap N5.out.x
    have y5 := lt_of_heap N5.out.x
    go_wp2_with fail
    clear x5 y5
    have hba := below_alloc w5 (.cells #[.int .i64 o1, .int .i64 o2, .int .i64 o3, .int .i64 o4] 38) _ (Nat.le_refl _)
    refine (refOwner_any rows cols fa F.length fc _ lc L r c _ (N5.out.below hba).l hLl HREL.out.anch HSR.out HSC.out).mono ?_
    rintro e w6 ⟨m2, rfl, hm2, hb6⟩
    have N6 := Lib.hid ((N5.out.below hba).below hb6)
    have E6 : Hid (w6.heap[w5.heap.size]? = some (.cells #[.int .i64 o1, .int .i64 o2, .int .i64 o3, .int .i64 o4] 38)) := (hb6.block _ (by simp)).trans (heap_alloc_new _ _)
    have HOW := Lib.hid (ow_some HREL.out hm2)
    clear hb6 hm2 hba N4 N5
    rcases HOW.out with ⟨h0, k2, v2, rfl, hk2, hO⟩ | ⟨rfl, hO⟩
    · have e1 : oS = true := by rw [← HOS.out, hO]; rfl
      have e2 : (o1, o2, o3, o4) = v2.q := by rw [← HOR.out]; unfold ownerR; rw [hO]; rfl
      have HOK := Lib.hid hk2
      subst e1
      obtain ⟨vr, vc, rs, cs, st, kn, br, bc⟩ := v2
      simp only [Ver.q, Prod.mk.injEq] at e2
      obtain ⟨rfl, rfl, rfl, rfl⟩ := e2
      have j1 : (0 : Int) ≤ (k2 : Int) := by omega
      have j2 : (k2 : Int) < (L.length : Int) := by have := (List.getElem?_eq_some_iff.1 hk2).1; omega
      clear hk2 hO h0 HOW HOR HOS
      obtain ⟨b, off, e_, hbb, d0, d1, d2, d3, d4, d5, d6, d7⟩ := N6.out.l.at (HOK.out)
      simp only [Option.some.injEq, Addr.mk.injEq] at e_
      obtain ⟨rfl, rfl, _⟩ := e_
      simp only at d0 d1 d2 d3 d4 d5 d6 d7
      go_wp2_with fail
      refine abs_world ?_
      intro W1 hW1
      subst hW1
      have x0 := cell_of_heap N6.out.x
      have x1 := lt_of_heap N6.out.x
      have y0 := cell_of_heap E6.out
      have y1 := lt_of_heap E6.out
      have eq1 := fun W => eql_rect W (o1, o2, o3, o4) (o1, o2, o3, o4)
      rw [decide_eq_true rfl] at eq1
      unfold encR at eq1
      simp only at eq1
      refine wp_region_multiR [([0, 1, 2, 3, 4, 5, 6, 7, 8, 9, 10, 11, 12, 13, 14, 15, 16, 17, 19, 20, 21, 22, 23, 18], [24], [25, 26, 27, 28]), ([25, 26, 27, 28], [], [])] (by kernel_rfl) (by kernel_rfl) ?_
      refine multi_phase (Below W1.heap.size W1) (Below.refl _ _).drew ?_
      iterate 24 (first | (apply first_step; (rw [List.getElem?_toArray]; (repeat rw [List.getElem?_cons_succ]); rw [List.getElem?_cons_zero]); rfl; (intro W hB; have hc := bcellB hB; go_simp; (first | done | rfl)); go_frame) | (apply first_skip; (rw [List.getElem?_toArray]; (repeat rw [List.getElem?_cons_succ]); rw [List.getElem?_cons_zero]); rfl; go_frame))
      refine first_done ?_
      apply forced_step; (rw [List.getElem?_toArray]; (repeat rw [List.getElem?_cons_succ]); rw [List.getElem?_cons_zero]); rfl; intro K hK; go_simp
      refine (rect_any ⟨o1, o2, o3, o4, st, kn, br, bc⟩ _).mono ?_
      unfold encR
      simp only
      rintro e v2 ⟨rfl, hb⟩
      have HZ : Hid (Below W1.heap.size W1 v2) := (Below.refl _ W1).drew.trans hb
      refine hK _ _ (fun _ => HZ.out) ?_
      clear hK K hb
      refine forced_done ?_
      refine multi_phase (Below W1.heap.size W1) HZ.out ?_
      iterate 4 (first | (apply first_step; (rw [List.getElem?_toArray]; (repeat rw [List.getElem?_cons_succ]); rw [List.getElem?_cons_zero]); rfl; (intro W hB; have hc := bcellB hB; go_simp; (first | done | rfl)); go_frame) | (apply first_skip; (rw [List.getElem?_toArray]; (repeat rw [List.getElem?_cons_succ]); rw [List.getElem?_cons_zero]); rfl; go_frame))
      refine first_done ?_
      refine forced_done ?_
      refine multi_done ?_
      have FZ : Hid (Below w.heap.size w v2) := N6.out.b.trans (HZ.out.mono N6.out.b.size)
      clear x0 x1 y0 y1 eq1 d0 d1 d2 d3 d4 d5 d6 d7
      go_wp2_with fail
      go_ret
      exact ⟨rfl, FZ.out⟩
    · have e1 : oS = false := by rw [← HOS.out, hO]; rfl
      have e2 : (o1, o2, o3, o4) = (0, 0, 0, 0) := by rw [← HOR.out]; unfold ownerR; rw [hO]; rfl
      subst e1
      simp only [Prod.mk.injEq] at e2
      obtain ⟨rfl, rfl, rfl, rfl⟩ := e2
      clear hO HOW HOR HOS
      go_wp2_with fail
      refine abs_world ?_
      intro W1 hW1
      subst hW1
      have x0 := cell_of_heap N6.out.x
      have x1 := lt_of_heap N6.out.x
      have y0 := cell_of_heap E6.out
      have y1 := lt_of_heap E6.out
      have eq1 := fun W => eql_rect W (0, 0, 0, 0) (0, 0, 0, 0)
      rw [decide_eq_true rfl] at eq1
      unfold encR at eq1
      simp only at eq1
      refine wp_region_multiR [([0, 1, 2, 3, 4, 5, 6, 7, 8, 9, 10, 11, 12, 13, 14, 15, 16, 17, 19, 20, 21, 22, 23, 18], [24], [25, 26, 27, 28]), ([25, 26, 27, 28], [], [])] (by kernel_rfl) (by kernel_rfl) ?_
      refine multi_phase (Below W1.heap.size W1) (Below.refl _ _).drew ?_
      iterate 24 (first | (apply first_step; (rw [List.getElem?_toArray]; (repeat rw [List.getElem?_cons_succ]); rw [List.getElem?_cons_zero]); rfl; (intro W hB; have hc := bcellB hB; go_simp; (first | done | rfl)); go_frame) | (apply first_skip; (rw [List.getElem?_toArray]; (repeat rw [List.getElem?_cons_succ]); rw [List.getElem?_cons_zero]); rfl; go_frame))
      refine first_done ?_
      apply forced_skip; (rw [List.getElem?_toArray]; (repeat rw [List.getElem?_cons_succ]); rw [List.getElem?_cons_zero]); rfl
      exact fun _ => (Below.refl _ _).drew
      go_frame
      refine forced_done ?_
      refine multi_phase (Below W1.heap.size W1) (Below.refl _ _).drew ?_
      iterate 4 (first | (apply first_step; (rw [List.getElem?_toArray]; (repeat rw [List.getElem?_cons_succ]); rw [List.getElem?_cons_zero]); rfl; (intro W hB; have hc := bcellB hB; go_simp; (first | done | rfl)); go_frame) | (apply first_skip; (rw [List.getElem?_toArray]; (repeat rw [List.getElem?_cons_succ]); rw [List.getElem?_cons_zero]); rfl; go_frame))
      refine first_done ?_
      refine forced_done ?_
      refine multi_done ?_
      have HZ : Hid (Below W1.heap.size W1 W1.drew) := (Below.refl _ _).drew
      have FZ : Hid (Below w.heap.size w W1.drew) := N6.out.b.trans (HZ.out.mono N6.out.b.size)
      clear x0 x1 y0 y1 eq1
      go_wp2_with fail
      go_ret
      exact ⟨rfl, FZ.out⟩
  · have e1 : ok = false := by rw [← HOKA.out, hA]; rfl
    have e2 : (⟨dr, dc, drs, dcs, dst, dkn, dbr, dbc⟩ : Ver) = ⟨0, 0, 0, 0, false, false, 0, 0⟩ := by
      rw [← HDV.out]; unfold verdictOf; rw [hA]
    simp only [Ver.mk.injEq] at e2
    obtain ⟨rfl, rfl, rfl, rfl, rfl, rfl, rfl, rfl⟩ := e2
    subst e1
    clear hA HOF HOKA HDV
    go_wp2_with fail
    refine abs_world ?_
    intro W1 hW1
    subst hW1
    have x0 := cell_of_heap N2.out.x
    have x1 := lt_of_heap N2.out.x
    have y0 := cell_of_heap E2.out
    have y1 := lt_of_heap E2.out
    have nq := fun W => neq_rect W (0, 0, 0, 0) (0, 0, 0, 0)
    rw [show decide (((0, 0, 0, 0) : R4) ≠ (0, 0, 0, 0)) = false by simp] at nq
    unfold encR at nq
    simp only at nq
    refine wp_region_multiR [([0, 1, 2, 3, 4, 5, 6, 7, 8, 9, 10, 11, 12, 13, 14, 15, 16, 17, 18, 19, 21, 22, 23, 24, 25, 20], [26], [27, 28, 29, 30, 31, 32, 33, 34, 35, 36, 37, 38, 39, 40]), ([27, 28, 29, 30, 31, 32, 33, 34, 35, 36, 37, 38, 39, 40], [], [])] (by kernel_rfl) (by kernel_rfl) ?_
    refine multi_phase (Below W1.heap.size W1) (Below.refl _ _).drew ?_
    iterate 26 (first | (apply first_step; (rw [List.getElem?_toArray]; (repeat rw [List.getElem?_cons_succ]); rw [List.getElem?_cons_zero]); rfl; (intro W hB; have hc := bcellB hB; go_simp; (first | done | rfl)); go_frame) | (apply first_skip; (rw [List.getElem?_toArray]; (repeat rw [List.getElem?_cons_succ]); rw [List.getElem?_cons_zero]); rfl; go_frame))
    refine first_done ?_
    apply forced_skip; (rw [List.getElem?_toArray]; (repeat rw [List.getElem?_cons_succ]); rw [List.getElem?_cons_zero]); rfl
    exact fun _ => (Below.refl _ _).drew
    go_frame
    refine forced_done ?_
    refine multi_phase (Below W1.heap.size W1) (Below.refl _ _).drew ?_
    iterate 14 (first | (apply first_step; (rw [List.getElem?_toArray]; (repeat rw [List.getElem?_cons_succ]); rw [List.getElem?_cons_zero]); rfl; (intro W hB; have hc := bcellB hB; go_simp; (first | done | rfl)); go_frame) | (apply first_skip; (rw [List.getElem?_toArray]; (repeat rw [List.getElem?_cons_succ]); rw [List.getElem?_cons_zero]); rfl; go_frame))
    refine first_done ?_
    refine forced_done ?_
    refine multi_done ?_
    have HZ : Hid (Below W1.heap.size W1 W1.drew) := (Below.refl _ _).drew
    have N3 := Lib.hid (N2.out.below HZ.out)
    clear x0 x1 y0 y1 nq HZ N2 E2
    go_wp2_with fail
    refine (HBK.out _ N3.out.bd).mono ?_
    rintro e w4 ⟨rfl, hb4⟩
    have N4 := Lib.hid (N3.out.below hb4)
    clear hb4 N3 HBK
    go_wp2_with fail
    refine (owner_any N4.out.bd r c).mono ?_
    rintro e w5 ⟨rfl, hb5⟩
    have N5 := Lib.hid (N4.out.below hb5)
    clear hb5
    generalize hoR : ownerR g r c = oR
    obtain ⟨o1, o2, o3, o4⟩ := oR
    have HOR := Lib.hid hoR
    clear hoR
    unfold encR
    simp only
    generalize hoS : (getL g.O (r, c)).isSome = oS
    have HOS := Lib.hid hoS
    clear hoS
    have x5 := cell_of_heap N5.out.x
    have y5 := lt_of_heap N5.out.x
    go_wp2_with fail
    clear x5 y5
    have hba := below_alloc w5 (.cells #[.int .i64 o1, .int .i64 o2, .int .i64 o3, .int .i64 o4] 38) _ (Nat.le_refl _)
    refine (refOwner_any rows cols fa F.length fc _ lc L r c _ (N5.out.below hba).l hLl HREL.out.anch HSR.out HSC.out).mono ?_
    rintro e w6 ⟨m2, rfl, hm2, hb6⟩
    have N6 := Lib.hid ((N5.out.below hba).below hb6)
    have E6 : Hid (w6.heap[w5.heap.size]? = some (.cells #[.int .i64 o1, .int .i64 o2, .int .i64 o3, .int .i64 o4] 38)) := (hb6.block _ (by simp)).trans (heap_alloc_new _ _)
    have HOW := Lib.hid (ow_some HREL.out hm2)
    clear hb6 hm2 hba N4 N5
    rcases HOW.out with ⟨h0, k2, v2, rfl, hk2, hO⟩ | ⟨rfl, hO⟩
    · have e1 : oS = true := by rw [← HOS.out, hO]; rfl
      have e2 : (o1, o2, o3, o4) = v2.q := by rw [← HOR.out]; unfold ownerR; rw [hO]; rfl
      have HOK := Lib.hid hk2
      subst e1
      obtain ⟨vr, vc, rs, cs, st, kn, br, bc⟩ := v2
      simp only [Ver.q, Prod.mk.injEq] at e2
      obtain ⟨rfl, rfl, rfl, rfl⟩ := e2
      have j1 : (0 : Int) ≤ (k2 : Int) := by omega
      have j2 : (k2 : Int) < (L.length : Int) := by have := (List.getElem?_eq_some_iff.1 hk2).1; omega
      clear hk2 hO h0 HOW HOR HOS
      obtain ⟨b, off, rfl, hbb, d0, d1, d2, d3, d4, d5, d6, d7⟩ := N6.out.l.at (HOK.out)
      simp only at d0 d1 d2 d3 d4 d5 d6 d7
      go_wp2_with fail
      refine abs_world ?_
      intro W1 hW1
      subst hW1
      have x0 := cell_of_heap N6.out.x
      have x1 := lt_of_heap N6.out.x
      have y0 := cell_of_heap E6.out
      have y1 := lt_of_heap E6.out
      have eq1 := fun W => eql_rect W (o1, o2, o3, o4) (o1, o2, o3, o4)
      rw [decide_eq_true rfl] at eq1
      unfold encR at eq1
      simp only at eq1
      refine wp_region_multiR [([0, 1, 2, 3, 4, 5, 6, 7, 8, 9, 10, 11, 12, 13, 14, 15, 16, 17, 19, 20, 21, 22, 23, 18], [24], [25, 26, 27, 28]), ([25, 26, 27, 28], [], [])] (by kernel_rfl) (by kernel_rfl) ?_
      refine multi_phase (Below W1.heap.size W1) (Below.refl _ _).drew ?_
      iterate 24 (first | (apply first_step; (rw [List.getElem?_toArray]; (repeat rw [List.getElem?_cons_succ]); rw [List.getElem?_cons_zero]); rfl; (intro W hB; have hc := bcellB hB; go_simp; (first | done | rfl)); go_frame) | (apply first_skip; (rw [List.getElem?_toArray]; (repeat rw [List.getElem?_cons_succ]); rw [List.getElem?_cons_zero]); rfl; go_frame))
      refine first_done ?_
      apply forced_step; (rw [List.getElem?_toArray]; (repeat rw [List.getElem?_cons_succ]); rw [List.getElem?_cons_zero]); rfl; intro K hK; go_simp
      refine (rect_any ⟨o1, o2, o3, o4, st, kn, br, bc⟩ _).mono ?_
      unfold encR
      simp only
      rintro e v2 ⟨rfl, hb⟩
      have HZ : Hid (Below W1.heap.size W1 v2) := (Below.refl _ W1).drew.trans hb
      refine hK _ _ (fun _ => HZ.out) ?_
      clear hK K hb
      refine forced_done ?_
      refine multi_phase (Below W1.heap.size W1) HZ.out ?_
      iterate 4 (first | (apply first_step; (rw [List.getElem?_toArray]; (repeat rw [List.getElem?_cons_succ]); rw [List.getElem?_cons_zero]); rfl; (intro W hB; have hc := bcellB hB; go_simp; (first | done | rfl)); go_frame) | (apply first_skip; (rw [List.getElem?_toArray]; (repeat rw [List.getElem?_cons_succ]); rw [List.getElem?_cons_zero]); rfl; go_frame))
      refine first_done ?_
      refine forced_done ?_
      refine multi_done ?_
      have FZ : Hid (Below w.heap.size w v2) := N6.out.b.trans (HZ.out.mono N6.out.b.size)
      clear x0 x1 y0 y1 eq1 d0 d1 d2 d3 d4 d5 d6 d7
      go_wp2_with fail
      go_ret
      exact ⟨rfl, FZ.out⟩
    · have e1 : oS = false := by rw [← HOS.out, hO]; rfl
      have e2 : (o1, o2, o3, o4) = (0, 0, 0, 0) := by rw [← HOR.out]; unfold ownerR; rw [hO]; rfl
      subst e1
      simp only [Prod.mk.injEq] at e2
      obtain ⟨rfl, rfl, rfl, rfl⟩ := e2
      clear hO HOW HOR HOS
      go_wp2_with fail
      refine abs_world ?_
      intro W1 hW1
      subst hW1
      have x0 := cell_of_heap N6.out.x
      have x1 := lt_of_heap N6.out.x
      have y0 := cell_of_heap E6.out
      have y1 := lt_of_heap E6.out
      have eq1 := fun W => eql_rect W (0, 0, 0, 0) (0, 0, 0, 0)
      rw [decide_eq_true rfl] at eq1
      unfold encR at eq1
      simp only at eq1
      refine wp_region_multiR [([0, 1, 2, 3, 4, 5, 6, 7, 8, 9, 10, 11, 12, 13, 14, 15, 16, 17, 19, 20, 21, 22, 23, 18], [24], [25, 26, 27, 28]), ([25, 26, 27, 28], [], [])] (by kernel_rfl) (by kernel_rfl) ?_
      refine multi_phase (Below W1.heap.size W1) (Below.refl _ _).drew ?_
      iterate 24 (first | (apply first_step; (rw [List.getElem?_toArray]; (repeat rw [List.getElem?_cons_succ]); rw [List.getElem?_cons_zero]); rfl; (intro W hB; have hc := bcellB hB; go_simp; (first | done | rfl)); go_frame) | (apply first_skip; (rw [List.getElem?_toArray]; (repeat rw [List.getElem?_cons_succ]); rw [List.getElem?_cons_zero]); rfl; go_frame))
      refine first_done ?_
      apply forced_skip; (rw [List.getElem?_toArray]; (repeat rw [List.getElem?_cons_succ]); rw [List.getElem?_cons_zero]); rfl
      exact fun _ => (Below.refl _ _).drew
      go_frame
      refine forced_done ?_
      refine multi_phase (Below W1.heap.size W1) (Below.refl _ _).drew ?_
      iterate 4 (first | (apply first_step; (rw [List.getElem?_toArray]; (repeat rw [List.getElem?_cons_succ]); rw [List.getElem?_cons_zero]); rfl; (intro W hB; have hc := bcellB hB; go_simp; (first | done | rfl)); go_frame) | (apply first_skip; (rw [List.getElem?_toArray]; (repeat rw [List.getElem?_cons_succ]); rw [List.getElem?_cons_zero]); rfl; go_frame))
      refine first_done ?_
      refine forced_done ?_
      refine multi_done ?_
      have HZ : Hid (Below W1.heap.size W1 W1.drew) := (Below.refl _ _).drew
      have FZ : Hid (Below w.heap.size w W1.drew) := N6.out.b.trans (HZ.out.mono N6.out.b.size)
      clear x0 x1 y0 y1 eq1
      go_wp2_with fail
      go_ret
      exact ⟨rfl, FZ.out⟩
end Go.Proofs.Ytihfmcadcojjnaa
