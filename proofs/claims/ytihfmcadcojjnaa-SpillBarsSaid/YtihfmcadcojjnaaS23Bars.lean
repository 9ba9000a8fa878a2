/- SpillBars: for every two bytes and every slice of acts. -/
import Derived.Test.YtihfmcadcojjnaaS23Iter
import Derived.Test.YtihfmcadcojjnaaRangeBox
namespace Go.Proofs.Ytihfmcadcojjnaa
open Go.RowKit Go.Shelf
attribute [local go_sem] Oper.semAt_some
set_option maxHeartbeats 2000000 in
set_option maxRecDepth 100000 in
theorem bars_main (a b : Int) (aa : Option Addr) (acap : Nat) (q : List Ac) (w : World) (q1 : 0 ≤ a) (q2 : a ≤ 255) (q3 : 0 ≤ b) (q4 : b ≤ 255) (hq : q.length ≤ 60) (hA : ActsAt w aa q) :
    Calls Try.prog 6 #[.int .u8 a, .int .u8 b, .slice aa q.length acap] w fun e w' => e = .returned (.bool true) ∧ Below w.heap.size w w' := by
  have HA := Lib.hid hA
  clear hA
  refine (callsIn_wide (n := 8)).1 ?_
  refine callsIn_of_wp_marks Try.func6 rfl trivial ?_ rfl
  simp only [Try.ntmps6, List.size_toArray, List.length_cons, List.length_nil, Nat.reduceAdd, Nat.reduceSub, Array.replicate_succ, Array.replicate_zero, List.push_toArray, List.append_toArray, List.nil_append, List.cons_append]
  refine wpIn_wide.2 ?_
  go_wp2_with fail
  refine (awake_any _).mono ?_
  rintro e w1 ⟨rfl, hb⟩
  have hs1 : w.heap.size + 3 ≤ w1.heap.size := by have := hb.size; simpa using this
  have g0 : w1.heap[w.heap.size]? = some (.cells #[.int .u8 a] 5) := (hb.block _ (by simp; omega)).trans (by (repeat (first | (with_reducible refine heap_alloc_at ?_ _; (first | rfl | (simp; done) | omega | (simp; omega)); done) | with_reducible refine heap_alloc_old ?_ _ | with_reducible refine heap_drew_old ?_ | with_reducible refine heap_drewN_old ?_)))
  have g1 : w1.heap[w.heap.size + 1]? = some (.cells #[.int .u8 b] 5) := (hb.block _ (by simp)).trans (by (repeat (first | (with_reducible refine heap_alloc_at ?_ _; (first | rfl | (simp; done) | omega | (simp; omega)); done) | with_reducible refine heap_alloc_old ?_ _ | with_reducible refine heap_drew_old ?_ | with_reducible refine heap_drewN_old ?_)))
  have g2 : w1.heap[w.heap.size + 1 + 1]? = some (.cells #[.bool false] 4) := (hb.block _ (by simp)).trans (by (repeat (first | (with_reducible refine heap_alloc_at ?_ _; (first | rfl | (simp; done) | omega | (simp; omega)); done) | with_reducible refine heap_alloc_old ?_ _ | with_reducible refine heap_drew_old ?_ | with_reducible refine heap_drewN_old ?_)))
  have hBW : Below w.heap.size w w1 := by
    refine Below.trans ?_ (hb.mono (by simp; omega))
    (repeat (first | with_reducible exact Below.refl _ _ | with_reducible exact hBW | with_reducible refine Below.setCell ?_ ?_ _ | with_reducible refine Below.alloc ?_ ?_ _ | with_reducible refine belowN ?_ _ | with_reducible refine Below.drew ?_)); all_goals (first | omega | (dsimp only; omega) | ((repeat (first | with_reducible refine le_alloc ?_ | with_reducible refine le_setCell ?_ | with_reducible refine le_drew ?_ | with_reducible refine le_drewN ?_)); omega))
  have FB := Lib.hid hBW
  have ha1 : ActsAt w1 aa q := fun h => by
    obtain ⟨b', off, h1, h2, h3⟩ := HA.out h
    refine ⟨b', off, h1, Nat.lt_of_lt_of_le h2 hBW.size, fun k x hx => ?_⟩
    obtain ⟨e0, e1, e2, e3, e4⟩ := h3 k x hx
    exact ⟨(hBW.cell (p := ⟨b', off + k * 5, none⟩) h2).trans e0, (hBW.cell (p := ⟨b', off + k * 5 + 1, none⟩) h2).trans e1, (hBW.cell (p := ⟨b', off + k * 5 + 2, none⟩) h2).trans e2, (hBW.cell (p := ⟨b', off + k * 5 + 3, none⟩) h2).trans e3, (hBW.cell (p := ⟨b', off + k * 5 + 4, none⟩) h2).trans e4⟩
  have HA1 := Lib.hid ha1
  clear hb hBW ha1 HA
  have x0 := cell_of_heap g0 0
  have x1 := cell_of_heap g1 0
  have y0 : w.heap.size < w1.heap.size := by omega
  have y1 : w.heap.size + 1 < w1.heap.size := by omega
  have y2 : w.heap.size + 1 + 1 < w1.heap.size := by omega
  have G0 := Lib.hid g0
  have G1 := Lib.hid g1
  have G2 := Lib.hid g2
  clear g0 g1 g2
  go_wp2_with fail
  refine (play_any a b aa acap q w1 q1 q2 q3 q4 hq HA1.out).mono ?_
  rintro e w2 ⟨rfl, b2, f2⟩
  generalize hR : a % 12 = R0 at b2
  generalize hC : b % 12 = C0 at b2
  obtain ⟨g, hg⟩ : ∃ g, g = actAll (gNew R0 C0) q := ⟨_, rfl⟩
  rw [← hg] at b2
  clear x0 x1
  go_wp2_with fail
  refine (rects_any _ _).mono ?_
  rintro e w3 ⟨rfl, rfl⟩
  go_wp2_with fail
  refine (wpIn_wide (n := 8)).1 ?_
  obtain ⟨W0, hW0⟩ : ∃ W0, (w2.alloc (.cells #[.pointer (some ⟨w1.heap.size + 3, 0, none⟩)] 26)).alloc (.cells #[.pointer (some ⟨w1.heap.size + 3, 0, none⟩)] 26) = W0 := ⟨_, rfl⟩
  rw [hW0]
  have hz0 : W0.heap.size = w2.heap.size + 2 := by rw [← hW0]; simp
  have hb20 : Below w2.heap.size w2 W0 := by rw [← hW0]; exact ((Below.refl _ w2).alloc (Nat.le_refl _) _).alloc (by simp) _
  have e1 : W0.heap[w2.heap.size]? = some (.cells #[.pointer (some ⟨w1.heap.size + 3, 0, none⟩)] 26) := by rw [← hW0]; (repeat (first | (with_reducible refine heap_alloc_at ?_ _; (first | rfl | (simp; done) | omega | (simp; omega)); done) | with_reducible refine heap_alloc_old ?_ _ | with_reducible refine heap_drew_old ?_ | with_reducible refine heap_drewN_old ?_))
  have e2 : W0.heap[w2.heap.size + 1]? = some (.cells #[.pointer (some ⟨w1.heap.size + 3, 0, none⟩)] 26) := by rw [← hW0]; (repeat (first | (with_reducible refine heap_alloc_at ?_ _; (first | rfl | (simp; done) | omega | (simp; omega)); done) | with_reducible refine heap_alloc_old ?_ _ | with_reducible refine heap_drew_old ?_ | with_reducible refine heap_drewN_old ?_))
  clear hW0
  have b0 := b2.below hb20
  have OB := Lib.hid b0
  obtain ⟨_, _, S, hS1, hS2⟩ := b0
  have BI : Hid (BInv g) := by rw [hg]; exact bInv_all (bInv_new _ _) q
  have GL : Hid (g.L.length ≤ 1000000) := by
    have h1 := actAll_len (gNew R0 C0) q
    have h2 : (gNew R0 C0).L.length = 0 := rfl
    rw [hg]
    unfold Hid
    omega
  have GR : Hid (g.rows = R0 ∧ g.cols = C0) := by
    have := actAll_size (gNew R0 C0) q
    rw [hg]
    refine ⟨this.1.trans ?_, this.2.trans ?_⟩
    · unfold gNew clamp; simp only; rw [if_neg (by omega), if_neg (by omega)]
    · unfold gNew clamp; simp only; rw [if_neg (by omega), if_neg (by omega)]
  have hSlt : ∀ k, S k → k < W0.heap.size := by obtain ⟨_, _, _, _, H⟩ := hS1; exact H.lt
  have hB10 : Below w1.heap.size w1 W0 := f2.trans (hb20.mono f2.size)
  have G0' : Hid (W0.heap[w.heap.size]? = _) := (hB10.block _ y0).trans G0.out
  have G1' : Hid (W0.heap[w.heap.size + 1]? = _) := (hB10.block _ y1).trans G1.out
  have G2' : Hid (W0.heap[w.heap.size + 1 + 1]? = _) := (hB10.block _ y2).trans G2.out
  have FB0 : Hid (Below w.heap.size w W0) := FB.out.trans (hB10.mono FB.out.size)
  clear hg b2 f2 HA1 FB G0 G1 G2
  refine range_box (A := ?A) rfl (by omega) (gf := 25) (lb := #[.pointer (some ⟨w2.heap.size + 1, 0, none⟩)]) rfl trivial (enters_of Try.func25 (by kernel_rfl) rfl)
    (iter_stops 7 (by omega) (w2.heap.size + 1) W0.heap.size (w1.heap.size + 3) g GL.out W0 S (cell_of_heap e2 0) hS1 hSlt (Nat.le_refl _)) (Nat.le_refl _) (fun _ => rfl)
    (fun _ W => Below W0.heap.size W0 W) (fun _ _ _ => False) (ownFrom_below (Nat.le_refl _) (Nat.le_refl _)) (fun _ _ _ _ _ hs _ _ => hs) (Below.refl _ _) (fun _ _ h => h.size)
    (fun x => .cells #[.int .i64 x.1.r, .int .i64 x.1.c, .int .i64 x.1.rs, .int .i64 x.1.cs] 38) (fun _ => rfl) ?assign ?body ?done ?stop
  case assign =>
    intro l x W Bx K hB hK
    unfold encV
    gi_wp2
    rw [← hB]
    exact hK
  case stop =>
    rintro D c pre W _ _ h _
    exact h.elim
  case done =>
    rintro D zs W hD _ hB1 hK
    have g2 := (hB1.block _ (lt_of_heap G2'.out)).trans G2'.out
    have x2 := cell_of_heap g2
    have z2 := frozen_of_heap g2
    have hw2 := lt_of_heap g2
    clear g2
    go_wp2
    refine ⟨by simp, .inl ⟨_, _, rfl, run_takeDeferred ((KeepsOthers.setCell _ _ _).same D _ hK rfl), ?_⟩⟩
    have hne : D ≠ w.heap.size + 1 + 1 := by omega
    have hc : ((W.setCell ⟨w.heap.size + 1 + 1, 0, none⟩ (.bool true)).putObj D (.deferred none)).cell? ⟨w.heap.size + 1 + 1, 0, none⟩ = some (.bool true) :=
      cell_kept (World.cell?_setCell_same' _ _ _ (by rw [x2]; rfl)) (grownBy_putObj' _ D _) (fun r e => by cases e; exact ⟨_, (KeepsOthers.setCell _ _ _).same D _ hK rfl, rfl⟩)
    refine ⟨.bool true, ?_, rfl, ?_⟩
    · simp [results, Try.results6, go_sem, hc]
    · have h1 := FB0.out.trans (hB1.mono FB0.out.size)
      have h2 : Below w.heap.size W (W.setCell ⟨w.heap.size + 1 + 1, 0, none⟩ (.bool true)) := (Below.refl _ W).setCell (p := ⟨w.heap.size + 1 + 1, 0, none⟩) (by show w.heap.size ≤ w.heap.size + 1 + 1; omega) _
      exact (h1.trans h2).trans (belowK_b (w := w) (Nat.le_refl _) _ D _ _ (by omega) ((KeepsOthers.setCell _ _ _).same D _ hK rfl) rfl rfl)
  case body =>
    rintro l pre ⟨v, hv⟩ Bx W hl ⟨r, hr⟩ hB1 hBx hO hlt
    have g0 := cell_of_heap ((hB1.block _ (lt_of_heap G0'.out)).trans G0'.out) 0
    have g1 := cell_of_heap ((hB1.block _ (lt_of_heap G1'.out)).trans G1'.out) 0
    have k1 := cell_of_heap ((hB1.block _ (lt_of_heap e1)).trans e1) 0
    have o0 := cell_of_heap hO 0
    have o1 := cell_of_heap hO 1
    have o2 := cell_of_heap hO 2
    have o3 := cell_of_heap hO 3
    have HV := Lib.hid (BI.out.ok v hv)
    have VA := Lib.hid (verdict_at BI.out hv)
    gi_wp2_with fail
    refine ⟨trivial, (CallsIn.inRound l (callsIn_wide.2 (blocker_o (OB.out.below hB1) BI.out.wf GL.out v.r v.c))).mono ?_⟩
    rw [VA.out]
    rintro e W5 ⟨rfl, _, f5⟩
    have KF : Hid (KeepsFrom W0.heap.size W W5) := ⟨f5.size, fun k o _ hk _ => (f5.block k (lt_of_heap hk)).trans hk⟩
    have B5 : Hid (Below W0.heap.size W W5) := f5.mono hB1.size
    have B6 : Hid (Below W0.heap.size W0 W5) := hB1.trans B5.out
    have hO5 := (f5.block Bx (lt_of_heap hO)).trans hO
    clear g0 g1 k1 o0 o1 o2 o3 VA
    have g0 := cell_of_heap ((B6.out.block _ (lt_of_heap G0'.out)).trans G0'.out) 0
    have g1 := cell_of_heap ((B6.out.block _ (lt_of_heap G1'.out)).trans G1'.out) 0
    have z0 : w.heap.size < W5.heap.size := Nat.lt_of_lt_of_le (lt_of_heap G0'.out) B6.out.size
    have z1 : w.heap.size + 1 < W5.heap.size := Nat.lt_of_lt_of_le (lt_of_heap G1'.out) B6.out.size
    have o0 := cell_of_heap hO5 0
    have o1 := cell_of_heap hO5 1
    have o2 := cell_of_heap hO5 2
    have o3 := cell_of_heap hO5 3
    have zb : Bx < W5.heap.size := lt_of_heap hO5
    obtain ⟨r0, c, rs, cs, st, kn, br, bc⟩ := v
    obtain ⟨v1, v2, v3, v4, v5, v6, v7, v8, v9, v10, v11, v12⟩ := HV.out
    rw [GR.out.1] at v2 v11 v12
    rw [GR.out.2] at v4 v11 v12
    simp only at v1 v2 v3 v4 v5 v6 v7 v8 v9 v10 v11 v12 o0 o1 o2 o3
    clear hB1 hO hO5 hr f5 HV hl hlt hBx
    cases st with
    | true =>
      obtain ⟨rfl, u1, u2⟩ := v11 rfl
      obtain ⟨rfl, rfl⟩ := v10 rfl
      clear v9 v10 v11 v12
      gi_wp2
      exact ⟨KF.out, B5.out, B6.out⟩
    | false =>
      cases kn with
      | true =>
        obtain ⟨u1, u2⟩ := (v12 rfl).1 rfl
        obtain ⟨u3, u4, u5, u6⟩ := v9 rfl
        clear v9 v10 v11 v12
        gi_wp2
        exact ⟨KF.out, B5.out, B6.out⟩
      | false =>
        obtain ⟨rfl, rfl⟩ := v10 rfl
        have u0 : ¬ (rs ≤ R0 - r0 ∧ cs ≤ C0 - c) := fun h => by have := (v12 rfl).2 h; cases this
        clear v9 v10 v11 v12
        by_cases u1 : rs ≤ R0 - r0
        · have u2 : C0 - c < cs := by omega
          clear u0
          gi_wp2
          exact ⟨KF.out, B5.out, B6.out⟩
        · clear u0
          gi_wp2
          exact ⟨KF.out, B5.out, B6.out⟩
set_option maxHeartbeats 2000000 in
set_option maxRecDepth 100000 in
theorem bars_long (a b : Int) (aa : Option Addr) (acap : Nat) (q : List Ac) (w : World) (hq : 60 < q.length) :
    Calls Try.prog 6 #[.int .u8 a, .int .u8 b, .slice aa q.length acap] w fun e w' => e = .returned (.bool true) ∧ Below w.heap.size w w' := by
  go_enter Try.func6, Try.ntmps6
  go_wp2_with fail
  refine (awake_any _).mono ?_
  rintro e w1 ⟨rfl, hb⟩
  have hs1 : w.heap.size + 3 ≤ w1.heap.size := by have := hb.size; simpa using this
  have FB : Hid (Below w.heap.size w w1) := by
    refine Below.trans ?_ (hb.mono (by simp; omega))
    (repeat (first | with_reducible exact Below.refl _ _ | with_reducible exact hBW | with_reducible refine Below.setCell ?_ ?_ _ | with_reducible refine Below.alloc ?_ ?_ _ | with_reducible refine belowN ?_ _ | with_reducible refine Below.drew ?_)); all_goals (first | omega | (dsimp only; omega) | ((repeat (first | with_reducible refine le_alloc ?_ | with_reducible refine le_setCell ?_ | with_reducible refine le_drew ?_ | with_reducible refine le_drewN ?_)); omega))
  have G2 : Hid (w1.heap[w.heap.size + 1 + 1]? = some (.cells #[.bool false] 4)) := (hb.block _ (by simp)).trans (by (repeat (first | (with_reducible refine heap_alloc_at ?_ _; (first | rfl | (simp; done) | omega | (simp; omega)); done) | with_reducible refine heap_alloc_old ?_ _ | with_reducible refine heap_drew_old ?_ | with_reducible refine heap_drewN_old ?_)))
  clear hb
  go_wp2_with fail
  refine (awake_any _).mono ?_
  rintro e w2 ⟨rfl, hb⟩
  have g2 := (hb.block _ (by omega)).trans G2.out
  have x2 := cell_of_heap g2
  have z2 := frozen_of_heap g2
  have hw2 := lt_of_heap g2
  have hBW : Below w.heap.size w w2 := FB.out.trans (hb.mono FB.out.size)
  have FB2 := Lib.hid hBW
  clear hb g2 hBW
  go_wp2_with fail
  refine bodyPost_ret (v := .bool true) (by simp [results, Try.results6, go_sem, x2]) rfl ⟨rfl, ?_⟩
  exact FB2.out.setCell (p := ⟨w.heap.size + 1 + 1, 0, none⟩) (by show w.heap.size ≤ w.heap.size + 1 + 1; omega) _
theorem bars_law (a b : Int) (aa : Option Addr) (acap : Nat) (q : List Ac) (w : World) (q1 : 0 ≤ a) (q2 : a ≤ 255) (q3 : 0 ≤ b) (q4 : b ≤ 255) (hA : ActsAt w aa q) :
    Calls Try.prog 6 #[.int .u8 a, .int .u8 b, .slice aa q.length acap] w fun e w' => e = .returned (.bool true) ∧ Below w.heap.size w w' := by
  by_cases h : 60 < q.length
  · exact bars_long a b aa acap q w h
  · exact bars_main a b aa acap q w q1 q2 q3 q4 (by omega) hA
end Go.Proofs.Ytihfmcadcojjnaa
