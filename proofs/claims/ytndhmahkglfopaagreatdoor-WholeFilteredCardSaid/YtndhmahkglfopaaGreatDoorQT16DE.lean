/- top's column: an array of whole numbers. -/
import Derived.Test.YtndhmahkglfopaaGreatDoorQT13Right
import Derived.Test.YtndhmahkglfopaaGreatDoorQT13R09
import Derived.Test.YtndhmahkglfopaaGreatDoorQT16ZA
import Derived.Test.YtndhmahkglfopaaGreatDoorQT16ZF
import Derived.Test.YtndhmahkglfopaaGreatDoorQT16CA
import Derived.Test.YtndhmahkglfopaaGreatDoorQT16CD
import Derived.Test.YtndhmahkglfopaaGreatDoorQT16DC
namespace Go.Proofs.YtndhmahkglfopaaGreatDoor
open Go.RowKit
/-- Small whole numbers in memory. -/
def C16 (w : World) (b : Nat) (D : List Int) : Prop := b < w.heap.size ∧ ∀ (i : Nat) (d : Int), D[i]? = some d → w.cell? ⟨b, i, none⟩ = some (.int .i16 d)
theorem C16.below {w w' : World} {b : Nat} {D : List Int} (h : C16 w b D) (hb : Below w.heap.size w w') : C16 w' b D :=
  ⟨Nat.lt_of_lt_of_le h.1 hb.size, fun i d hd => (hb.cell (p := ⟨b, i, none⟩) h.1).trans (h.2 i d hd)⟩
def cntV (m : Int) : V := numV (mkM m, mkX m)
theorem cnt_any (m : Int) (h : Small m) (w : World) : Calls Tryz.prog 10 #[.int .i64 m] w fun r w' => r = .returned (vagg (cntV m)) ∧ Below w.heap.size w w' := topcount_any w m h
theorem own_slbC {w : World} {B : Nat} {v : Value} {l : List V} (h : w.ownsRow B 34 6 v l.length (l.flatMap vcells)) : ∃ a cap, v = .slice a l.length cap ∧ SlB B w a l ∧ l.length ≤ cap := by
  obtain ⟨a, cap, e, hs⟩ := own_slb h
  refine ⟨a, cap, e, hs, ?_⟩
  rcases h.2 with ⟨e', h0⟩ | ⟨gb, cap', cur, hs', hB, hh, hn, _⟩
  · rw [e'] at e
    simp only [Value.slice.injEq] at e
    omega
  · rw [hs'] at e
    simp only [Value.slice.injEq] at e
    omega
section
variable (w : World)
set_option maxHeartbeats 4000000
set_option maxRecDepth 100000
theorem column_any (D : List Int) (hD : ∀ d ∈ D, -32768 ≤ d ∧ d ≤ 32767) (h30 : D.length ≤ 40) (b cap : Nat) (hC : C16 w b D) : Calls Tryz.prog 6 #[.slice (some ⟨b, 0, none⟩) D.length cap] w (ArrPostC (fun c => D.length ≤ c) w ⟨D.length, 1, D.map cntV⟩) := by
  have HD := Lib.hid hD
  have HC := Lib.hid hC
  obtain ⟨L, hL⟩ : ∃ L, L = D.length := ⟨_, rfl⟩
  have EL := Lib.hid hL
  rw [← hL] at h30 ⊢
  obtain ⟨i0, hi, hz0, hz1, hz2⟩ := info_parts info36
  have HI := Lib.hid hi
  have HZ0 := Lib.hid hz0
  have HZ1 := Lib.hid hz1
  have HZ2 := Lib.hid hz2
  clear hD hC hL hi hz0 hz1 hz2
  go_enter Tryz.func6, Tryz.ntmps6
  go_wp2_with fail
  refine abs_world ?_
  intro W0 hW0
  have h6 : W0.heap[w.heap.size]? = some (.cells #[.int .i64 0, .int .i64 0, .slice none 0 0] 28) := by rw [hW0]; (repeat (first | (with_reducible refine bw5 ?_ _; (first | rfl | (simp; done) | omega | (simp; omega)); done) | with_reducible refine bw6 ?_ _ | with_reducible refine bw7 ?_ | with_reducible refine bw8 ?_))
  have h7 : W0.heap[w.heap.size + 1]? = some (.cells #[.int .i64 L, .int .i64 1, .slice none 0 0] 28) := by rw [hW0]; (repeat (first | (with_reducible refine bw5 ?_ _; (first | rfl | (simp; done) | omega | (simp; omega)); done) | with_reducible refine bw6 ?_ _ | with_reducible refine bw7 ?_ | with_reducible refine bw8 ?_))
  have hB0 : Below w.heap.size w W0 := by rw [hW0]; (repeat with_reducible (first | exact bw0 _ _ | exact hBW | refine bw1 ?_ ?_ _ | refine bw2 ?_ ?_ _ | refine bw3 ?_ _ | refine bw4 ?_)); all_goals (first | omega | (dsimp only; omega) | ((repeat with_reducible (first | refine lz1 ?_ | refine lz2 ?_ | refine lz3 ?_ | refine lz4 ?_)); omega))
  have B0 : Hid (BSt W0 (w.heap.size + 1) (w.heap.size + 1) L 1 ((D.take 0).map cntV) W0) := ⟨Below.refl _ _, _, h7, ⟨by simp, Or.inl ⟨rfl, rfl⟩⟩⟩
  have hs0 : w.heap.size + 1 ≤ W0.heap.size := by have := lt_of_heap h6; omega
  have H6 := Lib.hid h6
  have HB0 := Lib.hid hB0
  clear hW0 h6 h7 hB0
  go_loopw [4] (fun x wr => ∃ i : Nat, x = .int .i64 i ∧ i ≤ L ∧ Hid (BSt W0 (w.heap.size + 1) (w.heap.size + 1) L 1 ((D.take i).map cntV) wr)) (fun x _ => L - (intOf x).toNat)
  case atStart => exact ⟨0, rfl, Nat.zero_le _, B0⟩
  case round =>
    clear B0
    obtain ⟨i, rfl, hi, hS⟩ := hrel
    by_cases hlt : i < L
    · obtain ⟨hbw, v, hv, hrow⟩ := hS.out
      have hBw : Hid (Below w.heap.size w wr) := HB0.out.trans (hbw.mono (by omega))
      obtain ⟨d, hd⟩ : ∃ d, D[i]? = some d := ⟨_, List.getElem?_eq_getElem (by rw [← EL.out]; exact hlt)⟩
      have hdd := HD.out d (List.mem_of_getElem? hd)
      have HK := Lib.hid (cnt_any d (by unfold Small; omega))
      have hc2 := (HC.out.below hBw.out).2 i d hd
      have hcb := (HC.out.below hBw.out).1
      have wd : IntKind.i64.wrap d = d := by rw [IntKind.wrap_i64]; omega
      have wi : wrap64 ((i : Int) + 1) = (i : Int) + 1 := IntWalk.wrap64_in _ (by omega)
      have i0' : (0 : Int) ≤ (i : Int) := by omega
      have i1 : (i : Int) < (L : Int) := by omega
      have i2 : decide ((i : Int) < (L : Int)) = true := decide_eq_true i1
      have hlen : ((D.take i).map cntV).length ≤ 4096 := by simp; omega
      have HBW := Lib.hid hbw
      have HV := Lib.hid hv
      have HROW := Lib.hid hrow
      have GS : Hid ((D.take (i + 1)).map cntV = (D.take i).map cntV ++ [cntV d]) := by unfold Hid; rw [List.take_add_one, hd, List.map_append]; rfl
      obtain ⟨sa, scap, rfl⟩ : ∃ sa scap, v = .slice sa ((D.take i).map cntV).length scap := by
        obtain ⟨a, cap, e, _⟩ := own_slb hrow
        exact ⟨a, cap, e⟩
      generalize (D.take i).map cntV = ll at hlen HROW GS HV ⊢
      generalize cntV d = u at HK GS
      have hp := lt_of_heap HV.out
      clear hS hbw hv hrow hd hdd
      go_wp2_with fail
      refine wp_region_mix [0, 1, 2, 3, 4, 5, 6] [7, 8, 9, 10, 11] [9, 10, 11] (fun W => W.heap[w.heap.size + 1]? = some (.cells #[.int .i64 L, .int .i64 1, .slice sa ll.length scap] 28) ∧ W.cell? ⟨b, i, none⟩ = some (.int .i16 d)) (by kernel_rfl) (by kernel_rfl) ⟨HV.out, hc2⟩ ?_
      iterate 7 (apply first_step; (rw [List.getElem?_toArray]; (repeat rw [List.getElem?_cons_succ]); rw [List.getElem?_cons_zero]); rfl; (intro W u0; obtain ⟨u0, c0⟩ := u0; have x0 := cell_of_heap u0; have x1 := lt_of_heap u0; clear u0; go_simp; (first | done | rfl)); go_frame)
      refine first_done ?_
      apply tail_step; (rw [List.getElem?_toArray]; (repeat rw [List.getElem?_cons_succ]); rw [List.getElem?_cons_zero]); rfl; rfl; intro K hK; go_simp
      refine (HK.out _).mono ?_
      rintro e' w2 ⟨rfl, hb2⟩
      have hb2' : Below wr.heap.size wr w2 := (Below.refl _ wr).drew.trans hb2
      have hv2 := (hb2'.block _ hp).trans HV.out
      have hcc2 : w2.cell? ⟨b, i, none⟩ = some (.int .i16 d) := (hb2'.cell (p := ⟨b, i, none⟩) hcb).trans hc2
      refine hK _ _ (fun _ => ⟨hv2, hcc2⟩) ?_
      clear hK K
      have HV2 := Lib.hid hv2
      have HCC := Lib.hid hcc2
      have hcb2 : b < w2.heap.size := Nat.lt_of_lt_of_le hcb hb2'.size
      have HROW2 := Lib.hid (own_of_block HROW.out (fun k _ hk => hb2'.block k hk))
      have HB2 : Hid (Below (w.heap.size + 1) W0 w2) := HBW.out.trans (hb2'.mono (by have := HBW.out.size; omega))
      have hp2 := lt_of_heap hv2
      rw [vagg_eq u]
      clear hb2 hb2' hv2 hc2 hcc2
      apply tail_step; (rw [List.getElem?_toArray]; (repeat rw [List.getElem?_cons_succ]); rw [List.getElem?_cons_zero]); rfl; rfl; intro K hK; go_simp; refine hK _ _ (fun _ => ⟨heap_alloc_old HV2.out _, ?_⟩) ?_
      focus
        have hne : b < w2.heap.size := hcb2
        rw [(below_alloc w2 _ _ (Nat.le_refl _)).cell (p := ⟨b, i, none⟩) hne]
        exact HCC.out
      clear hK K
      apply tail_step; (rw [List.getElem?_toArray]; (repeat rw [List.getElem?_cons_succ]); rw [List.getElem?_cons_zero]); rfl; rfl; intro K hK
      refine wp_append_at (.tmp 15) (.tmp 22) 26 rfl (w.heap.size + 1) 34 i0 _ 6 56 Tryz.underlying26 HI.out HZ0.out HZ1.out HZ2.out rfl (by decide) (.slice sa ll.length scap) ll.length (ll.flatMap vcells) rfl (HROW2.out.alloc _) ⟨w2.heap.size, 0, none⟩ 1 1 (vcells u) rfl rfl (fun q x hx => cells_new w2 #[.int .i64 u.k, .int .i64 u.m, .int .i64 u.e, .string u.t, .bool u.b, .int .i64 u.f] 34 q x hx) (by simp [vcells, Value.oneCell']) (by unfold maxLen; omega) (by omega) (by have := HB2.out.size; simp; omega) ?_
      intro v' W5 hown5 hgrow5 hloc5
      obtain ⟨gb, cap5, rfl⟩ := ownsRow_succ hown5
      have hne := row_ne_head (cs := [.int .i64 L, .int .i64 1, .slice sa ll.length scap]) HROW2.out HV2.out
      have hv5 : W5.heap[w.heap.size + 1]? = some (.cells #[.int .i64 L, .int .i64 1, .slice sa ll.length scap] 28) := (hgrow5.block _ (by simp; omega) (fun e => (hne _ e.symm).1 rfl)).trans (heap_alloc_old HV2.out _)
      have hne5 := row_ne_head (cs := [.int .i64 L, .int .i64 1, .slice sa ll.length scap]) hown5 hv5
      refine hK _ _ (fun h => absurd (by decide) h) ?_
      clear hK K
      go_frame
      have hb5 : Below (w.heap.size + 1) W0 W5 := (HB2.out.alloc (by have := HB2.out.size; omega) _).grown hgrow5 (by have := HB2.out.size; simp; omega) (fun k e => (hne k e).2)
      have S6 : Hid (BSt W0 (w.heap.size + 1) (w.heap.size + 1) L 1 (ll ++ [u]) (W5.setCell ⟨w.heap.size + 1, 2, none⟩ (.slice (some ⟨gb, 0, none⟩) (ll.length + 1) cap5))) := by
        refine ⟨hb5.setCell (p := ⟨w.heap.size + 1, 2, none⟩) (Nat.le_refl _) _, _, heap_setCell_at hv5 2 _, ?_⟩
        rw [List.length_append, List.flatMap_append]
        exact own_of_block (by simpa using hown5) (fun k hk _ => Below.heap_setCell _ _ _ _ (hne5 k hk).1)
      have x5 := cell_of_heap hv5
      have y5 := frozen_of_heap hv5
      have hp5 := lt_of_heap hv5
      clear hv5 hne5 hne hb5 hown5 hgrow5 hloc5
      apply tail_step; (rw [List.getElem?_toArray]; (repeat rw [List.getElem?_cons_succ]); rw [List.getElem?_cons_zero]); rfl; rfl; intro K hK; go_simp; refine hK _ _ (fun h => absurd (by decide) h) ?_; clear hK K
      apply tail_step; (rw [List.getElem?_toArray]; (repeat rw [List.getElem?_cons_succ]); rw [List.getElem?_cons_zero]); rfl; rfl; intro K hK; go_simp; refine hK _ _ (fun h => absurd (by decide) h) ?_; clear hK K
      refine tail_done ?_
      clear x5 y5
      go_wp2_with fail
      go_roundw
      case rel => exact ⟨i + 1, by go_num, by omega, by rw [GS.out]; exact S6⟩
      case measure => simp [intOf]; omega
    · have e : i = L := by omega
      rw [e] at hS
      clear e
      have e0 : D.take L = D := List.take_of_length_le (by rw [EL.out]; exact Nat.le_refl _)
      rw [e0] at hS
      obtain ⟨hbw, v, hv, hrow⟩ := hS.out
      obtain ⟨a, cap', rfl, hsl, hcp⟩ := own_slbC hrow
      rw [List.length_map, ← EL.out] at hcp
      have HCP := Lib.hid hcp
      have e6 := (hbw.block w.heap.size (by omega)).trans H6.out
      have x6 := cell_of_heap e6
      have y6 := frozen_of_heap e6
      have z6 := lt_of_heap e6
      have x7 := cell_of_heap hv
      have z7 := lt_of_heap hv
      have HSL := Lib.hid hsl
      have HB : Hid (Below w.heap.size w wr) := HB0.out.trans (hbw.mono (by omega))
      have i1 : ¬ (i : Int) < (L : Int) := by omega
      generalize hG : D.map cntV = G at HSL x7
      have HG := Lib.hid hG
      clear hG
      clear hS hbw hv hrow hsl hcp e6 e0
      go_wp2_with fail
      refine bodyPost_ret (v := .agg #[.int .i64 L, .int .i64 1, .slice a G.length cap']) (by simp [results, Tryz.results6, go_sem, x6]) rfl ?_
      rw [HG.out]
      exact arr_handC (X := fun c => L ≤ c) HCP.out (A := ⟨L, 1, G⟩) (n := 0) (Nat.le_refl _) HSL.out HB.out _ _ _
end
end Go.Proofs.YtndhmahkglfopaaGreatDoor
/- ref09.One, and the law's alone. -/
namespace Go.Proofs.YtndhmahkglfopaaGreatDoor
open Go.RowKit
set_option maxHeartbeats 400000 in
theorem One9_any (v : V) (hR : refR v = true) (w : World) : Calls Tryz.prog 15 #[vagg v] w (ArrPost w ⟨1, 1, [v]⟩) := by
  have hR2 := ref02_any v ((w.alloc (.cells #[.int .i64 v.k, .int .i64 v.m, .int .i64 v.e, .string v.t, .bool v.b, .int .i64 v.f] 34)).alloc (.cells #[.int .i64 0, .int .i64 0, .slice none 0 0] 28))
  rw [hR] at hR2
  have HR := Lib.hid hR2
  clear hR hR2
  obtain ⟨k, m, e, t, b, f⟩ := v
  unfold vagg at HR ⊢
  simp only at HR ⊢
  go_enter Tryz.func15, Tryz.ntmps15
  go_wp2_with fail
  refine HR.out.mono ?_
  rintro e' w1 ⟨rfl, hb⟩
  have hs1 : w.heap.size + 2 ≤ w1.heap.size := by have := hb.size; simpa using this
  have g0 : w1.heap[w.heap.size]? = some (.cells #[.int .i64 k, .int .i64 m, .int .i64 e, .string t, .bool b, .int .i64 f] 34) := (hb.block _ (by simp; omega)).trans (by (repeat (first | (with_reducible refine bw5 ?_ _; (first | rfl | (simp; done) | omega | (simp; omega)); done) | with_reducible refine bw6 ?_ _ | with_reducible refine bw7 ?_ | with_reducible refine bw8 ?_)))
  have g1 : w1.heap[w.heap.size + 1]? = some (.cells #[.int .i64 0, .int .i64 0, .slice none 0 0] 28) := (hb.block _ (by simp)).trans (by (repeat (first | (with_reducible refine bw5 ?_ _; (first | rfl | (simp; done) | omega | (simp; omega)); done) | with_reducible refine bw6 ?_ _ | with_reducible refine bw7 ?_ | with_reducible refine bw8 ?_)))
  have FB : Hid (Below w.heap.size w w1) := by
    refine Below.trans ?_ (hb.mono (by simp; omega))
    (repeat with_reducible (first | exact bw0 _ _ | exact hBW | refine bw1 ?_ ?_ _ | refine bw2 ?_ ?_ _ | refine bw3 ?_ _ | refine bw4 ?_)); all_goals (first | omega | (dsimp only; omega) | ((repeat with_reducible (first | refine lz1 ?_ | refine lz2 ?_ | refine lz3 ?_ | refine lz4 ?_)); omega))
  have c0 := cell_of_heap g0
  have c1 := cell_of_heap g1
  have y1 := frozen_of_heap g1
  have hn1 : w.heap.size < w1.heap.size := by omega
  have hn2 : w.heap.size + 1 < w1.heap.size := by omega
  clear hb g0 g1 HR
  go_wp2_with fail
  have hBW := FB.out
  refine bodyPost_ret (v := .agg #[.int .i64 1, .int .i64 1, .slice (some ⟨w1.heap.size, 0, none⟩) 1 1]) (by simp [results, Tryz.results15, go_sem, c1, hn2]) rfl ⟨_, rfl, ⟨_, 1, rfl, slv_one (by omega) (by (repeat (first | (with_reducible refine bw5 ?_ _; (first | rfl | (simp; done) | omega | (simp; omega)); done) | with_reducible refine bw6 ?_ _ | with_reducible refine bw7 ?_ | with_reducible refine bw8 ?_)))⟩, ?_⟩
  (repeat with_reducible (first | exact bw0 _ _ | exact hBW | refine bw1 ?_ ?_ _ | refine bw2 ?_ ?_ _ | refine bw3 ?_ _ | refine bw4 ?_)); all_goals (first | omega | (dsimp only; omega) | ((repeat with_reducible (first | refine lz1 ?_ | refine lz2 ?_ | refine lz3 ?_ | refine lz4 ?_)); omega))
section
variable (w : World)
set_option maxHeartbeats 400000
theorem single_any (v : V) (hR : refR v = true) : Calls Tryz.prog 7 #[vagg v] w (ArrPost w ⟨1, 1, [v]⟩) := by
  have HK := Lib.hid (fun w => One9_any v hR w)
  obtain ⟨k, m, e, t, b, f⟩ := v
  unfold vagg at HK ⊢
  simp only at HK ⊢
  clear hR
  go_enter Tryz.func7, Tryz.ntmps7
  go_wp2_with fail
  have hBa : Below w.heap.size w ((w.alloc (.cells #[.int .i64 k, .int .i64 m, .int .i64 e, .string t, .bool b, .int .i64 f] 34)).alloc (.cells #[.int .i64 0, .int .i64 0, .slice none 0 0] 28)) := by (repeat with_reducible (first | exact bw0 _ _ | exact hBW | refine bw1 ?_ ?_ _ | refine bw2 ?_ ?_ _ | refine bw3 ?_ _ | refine bw4 ?_)); all_goals (first | omega | (dsimp only; omega) | ((repeat with_reducible (first | refine lz1 ?_ | refine lz2 ?_ | refine lz3 ?_ | refine lz4 ?_)); omega))
  refine (HK.out _).mono ?_
  rintro e' w2 ⟨x, rfl, ⟨a2, cap2, rfl, hsl⟩, hb2⟩
  have e0 := (hb2.block (w.heap.size + 1) (by simp)).trans (show _ = some (.cells #[.int .i64 0, .int .i64 0, .slice none 0 0] 28 (0, 0)) by (repeat (first | (with_reducible refine bw5 ?_ _; (first | rfl | (simp; done) | omega | (simp; omega)); done) | with_reducible refine bw6 ?_ _ | with_reducible refine bw7 ?_ | with_reducible refine bw8 ?_)))
  have x0 := cell_of_heap e0
  have z0 := frozen_of_heap e0
  have hn0 := lt_of_heap e0
  have HSL := Lib.hid (hsl.mono (B' := w.heap.size + 1 + 1) (by simp))
  have HB2 : Hid (Below w.heap.size w w2) := hBa.trans (hb2.mono (by simp; omega))
  clear hsl hb2 hBa e0
  go_wp2_with fail
  refine bodyPost_ret (v := .agg #[.int .i64 1, .int .i64 1, .slice a2 1 cap2]) (by simp [results, Tryz.results7, go_sem, x0]) rfl ?_
  exact arr_hand (A := ⟨1, 1, [⟨k, m, e, t, b, f⟩]⟩) (n := 0) (by omega) HSL.out HB2.out _ _ _
end
end Go.Proofs.YtndhmahkglfopaaGreatDoor
/- SUM: told, add, sum. -/
namespace Go.Proofs.YtndhmahkglfopaaGreatDoor
open Go.RowKit
/-- The sum of numbers, from t on. -/
def addL : Int × Int → List (Int × Int) → (Int × Int) × Bool
  | t, [] => (t, true)
  | t, n :: r => if (addR t.1 t.2 n.1 n.2).2 = true then addL (addR t.1 t.2 n.1 n.2).1 r else ((0, 0), false)
theorem addL_right : ∀ (l : List (Int × Int)) (t : Int × Int), numR t.1 t.2 = true → numR (addL t l).1.1 (addL t l).1.2 = true
  | [], _, h => h
  | n :: r, t, _ => by
    unfold addL
    split
    · exact addL_right r _ (addR_right _ _ _ _)
    · kernel_rfl
theorem addL_drop (t : Int × Int) (l : List (Int × Int)) (i : Nat) (n : Int × Int) (h : l[i]? = some n) : addL t (l.drop i) = if (addR t.1 t.2 n.1 n.2).2 = true then addL (addR t.1 t.2 n.1 n.2).1 (l.drop (i + 1)) else ((0, 0), false) := by
  obtain ⟨hi, he⟩ := List.getElem?_eq_some_iff.1 h
  rw [List.drop_eq_getElem_cons hi, he]
  rfl
/-- Numbers' cells. -/
def prC (n : Int × Int) : List Value := [.int .i64 n.1, .int .i64 n.2]
def SlN (w : World) (a : Option Addr) (l : List (Int × Int)) : Prop := 0 < l.length → ∃ b, a = some ⟨b, 0, none⟩ ∧ b < w.heap.size ∧ ∀ i n, l[i]? = some n → w.cell? ⟨b, i * 2, none⟩ = some (.int .i64 n.1) ∧ w.cell? ⟨b, i * 2 + 1, none⟩ = some (.int .i64 n.2)
theorem SlN.below {w w' : World} {a : Option Addr} {l : List (Int × Int)} (h : SlN w a l) (hb : Below w.heap.size w w') : SlN w' a l := fun h0 => by
  obtain ⟨b, e, h1, h2⟩ := h h0
  exact ⟨b, e, Nat.lt_of_lt_of_le h1 hb.size, fun i n hn => ⟨(hb.cell (p := ⟨b, i * 2, none⟩) h1).trans (h2 i n hn).1, (hb.cell (p := ⟨b, i * 2 + 1, none⟩) h1).trans (h2 i n hn).2⟩⟩
theorem prC_get (l : List (Int × Int)) (n i : Nat) (v : Int × Int) (h : l[n]? = some v) (hi : i < 2) : (l.flatMap prC)[n * 2 + i]? = (prC v)[i]? := by
  induction l generalizing n with
  | nil => simp at h
  | cons a r ih =>
    rw [List.flatMap_cons]
    have ha : (prC a).length = 2 := rfl
    cases n with
    | zero =>
      simp at h
      subst h
      rw [List.getElem?_append_left (by omega)]
      simp
    | succ m =>
      simp only [List.getElem?_cons_succ] at h
      rw [List.getElem?_append_right (by omega), ← ih m h, ha]
      congr 1
      omega
theorem own_sln {w : World} {B : Nat} {v : Value} {l : List (Int × Int)} (h : w.ownsRow B 32 2 v l.length (l.flatMap prC)) : ∃ a cap, v = .slice a l.length cap ∧ SlN w a l := by
  rcases h.2 with ⟨e, h0⟩ | ⟨gb, cap, cur, hs, hB, hh, hn, _, hsz, ht⟩
  · exact ⟨none, 0, by rw [e, h0], fun h => by omega⟩
  · have key : ∀ (i : Nat) (u : Int × Int), l[i]? = some u → ∀ j, j < 2 → w.cell? ⟨gb, i * 2 + j, none⟩ = (prC u)[j]? := fun i u hu j hj => by
      have hlt : i < l.length := (List.getElem?_eq_some_iff.1 hu).1
      rw [cell_of_heap hh, ← prC_get l i j u hu hj, ← ht, List.getElem?_take_of_lt (by omega)]
      simp
    exact ⟨_, cap, hs, fun _ => ⟨gb, rfl, lt_of_heap hh, fun i u hu => ⟨by simpa [prC] using key i u hu 0 (by omega), by simpa [prC] using key i u hu 1 (by omega)⟩⟩⟩
section
variable (w : World)
set_option maxHeartbeats 2000000
set_option maxRecDepth 100000
theorem told233_any (R : (Int × Int) × Bool) : Calls Tryz.prog 233 #[.agg #[.int .i64 R.1.1, .int .i64 R.1.2], .bool R.2] w (VPost w (toldV R)) := by
  obtain ⟨⟨m, e⟩, k⟩ := R
  cases k with
  | true =>
    have HC := Lib.hid (Of_any m e)
    unfold toldV numV
    simp only [if_true]
    go_enter Tryz.func233, Tryz.ntmps233
    go_wp2_with fail
    refine (HC.out _).mono ?_
    rintro r w1 ⟨rfl, hb1⟩
    have ev : w1.heap[w.heap.size + 1]? = some (.cells #[.int .i64 0, .int .i64 0, .int .i64 0, .string ⟨#[]⟩, .bool false, .int .i64 0] 34 (0, 0)) := (hb1.block _ (by simp)).trans (by (repeat (first | (with_reducible refine bw5 ?_ _; (first | rfl | (simp; done) | omega | (simp; omega)); done) | with_reducible refine bw6 ?_ _ | with_reducible refine bw7 ?_ | with_reducible refine bw8 ?_)))
    have HB1 : Hid (Below w.heap.size w w1) := by
      refine Below.trans ?_ (hb1.mono (by simp <;> omega))
      (repeat with_reducible (first | exact bw0 _ _ | exact hBW | refine bw1 ?_ ?_ _ | refine bw2 ?_ ?_ _ | refine bw3 ?_ _ | refine bw4 ?_)); all_goals (first | omega | (dsimp only; omega) | ((repeat with_reducible (first | refine lz1 ?_ | refine lz2 ?_ | refine lz3 ?_ | refine lz4 ?_)); omega))
    have x1 := cell_of_heap ev
    have y1 := frozen_of_heap ev
    have z1 := lt_of_heap ev
    clear hb1 ev
    go_wp2_with fail
    refine bodyPost_ret (v := vagg ⟨1, m, e, ⟨#[]⟩, false, 0⟩) (by simp [results, Tryz.results233, go_sem, x1, vagg]) rfl ⟨rfl, ?_⟩
    have hBW := HB1.out
    (repeat with_reducible (first | exact bw0 _ _ | exact hBW | refine bw1 ?_ ?_ _ | refine bw2 ?_ ?_ _ | refine bw3 ?_ _ | refine bw4 ?_)); all_goals (first | omega | (dsimp only; omega) | ((repeat with_reducible (first | refine lz1 ?_ | refine lz2 ?_ | refine lz3 ?_ | refine lz4 ?_)); omega))
  | false =>
    have HC := Lib.hid (bad_any 5)
    unfold toldV
    simp only [Bool.false_eq_true, if_false]
    unfold vBad vagg at *
    simp only at HC
    go_enter Tryz.func233, Tryz.ntmps233
    go_wp2_with fail
    refine (HC.out _).mono ?_
    rintro r w1 ⟨rfl, hb1⟩
    have ev : w1.heap[w.heap.size + 1]? = some (.cells #[.int .i64 0, .int .i64 0, .int .i64 0, .string ⟨#[]⟩, .bool false, .int .i64 0] 34 (0, 0)) := (hb1.block _ (by simp)).trans (by (repeat (first | (with_reducible refine bw5 ?_ _; (first | rfl | (simp; done) | omega | (simp; omega)); done) | with_reducible refine bw6 ?_ _ | with_reducible refine bw7 ?_ | with_reducible refine bw8 ?_)))
    have HB1 : Hid (Below w.heap.size w w1) := by
      refine Below.trans ?_ (hb1.mono (by simp <;> omega))
      (repeat with_reducible (first | exact bw0 _ _ | exact hBW | refine bw1 ?_ ?_ _ | refine bw2 ?_ ?_ _ | refine bw3 ?_ _ | refine bw4 ?_)); all_goals (first | omega | (dsimp only; omega) | ((repeat with_reducible (first | refine lz1 ?_ | refine lz2 ?_ | refine lz3 ?_ | refine lz4 ?_)); omega))
    have x1 := cell_of_heap ev
    have y1 := frozen_of_heap ev
    have z1 := lt_of_heap ev
    clear hb1 ev
    go_wp2_with fail
    refine bodyPost_ret (v := vagg (vBad 5)) (by simp [results, Tryz.results233, go_sem, x1, vagg, vBad]) rfl ⟨rfl, ?_⟩
    have hBW := HB1.out
    (repeat with_reducible (first | exact bw0 _ _ | exact hBW | refine bw1 ?_ ?_ _ | refine bw2 ?_ ?_ _ | refine bw3 ?_ _ | refine bw4 ?_)); all_goals (first | omega | (dsimp only; omega) | ((repeat with_reducible (first | refine lz1 ?_ | refine lz2 ?_ | refine lz3 ?_ | refine lz4 ?_)); omega))
theorem add234_any (l : List (Int × Int)) (hN : ∀ n ∈ l, numR n.1 n.2 = true) (hl : l.length ≤ 4096) (a : Option Addr) (cap : Nat) (hs : SlN w a l) (ht : Tab w) : Calls Tryz.prog 234 #[.slice a l.length cap] w (NumPost w (addL (0, 0) l)) := by
  have HN := Lib.hid hN
  have HS := Lib.hid hs
  have HT := Lib.hid ht
  obtain ⟨L, hL⟩ : ∃ L, L = l.length := ⟨_, rfl⟩
  have EL := Lib.hid hL
  rw [← hL] at hl ⊢
  clear hN hs ht hL
  go_enter Tryz.func234, Tryz.ntmps234
  go_wp2_with fail
  refine abs_world ?_
  intro W0 hW0
  have h6 : W0.heap[w.heap.size]? = some (.cells #[.int .i64 0, .int .i64 0] 32) := by rw [hW0]; (repeat (first | (with_reducible refine bw5 ?_ _; (first | rfl | (simp; done) | omega | (simp; omega)); done) | with_reducible refine bw6 ?_ _ | with_reducible refine bw7 ?_ | with_reducible refine bw8 ?_))
  have h7 : W0.heap[w.heap.size + 1]? = some (.cells #[.int .i64 0, .int .i64 0] 32) := by rw [hW0]; (repeat (first | (with_reducible refine bw5 ?_ _; (first | rfl | (simp; done) | omega | (simp; omega)); done) | with_reducible refine bw6 ?_ _ | with_reducible refine bw7 ?_ | with_reducible refine bw8 ?_))
  have hB0 : Below w.heap.size w W0 := by rw [hW0]; (repeat with_reducible (first | exact bw0 _ _ | exact hBW | refine bw1 ?_ ?_ _ | refine bw2 ?_ ?_ _ | refine bw3 ?_ _ | refine bw4 ?_)); all_goals (first | omega | (dsimp only; omega) | ((repeat with_reducible (first | refine lz1 ?_ | refine lz2 ?_ | refine lz3 ?_ | refine lz4 ?_)); omega))
  have H6 := Lib.hid h6
  have H7 := Lib.hid h7
  have HB0 := Lib.hid hB0
  clear hW0 h6 h7 hB0
  go_loopw [12] (fun x wr => ∃ (i : Nat) (t : Int × Int), x = .int .i64 i ∧ i ≤ L ∧ Hid (Below w.heap.size w wr) ∧ Hid (wr.heap[w.heap.size]? = some (.cells #[.int .i64 0, .int .i64 0] 32)) ∧ Hid (wr.heap[w.heap.size + 1]? = some (.cells #[.int .i64 t.1, .int .i64 t.2] 32)) ∧ Hid (numR t.1 t.2 = true) ∧ Hid (addL t (l.drop i) = addL (0, 0) l)) (fun x _ => L - (intOf x).toNat)
  case atStart => exact ⟨0, (0, 0), rfl, Nat.zero_le _, HB0, H6, H7, (show numR 0 0 = true by kernel_rfl), rfl⟩
  case round =>
    clear H6 H7 HB0
    obtain ⟨i, ⟨tm, te⟩, rfl, hi, hB, h6, h7, hR, hG⟩ := hrel
    by_cases hlt : i < L
    · obtain ⟨⟨nm, ne⟩, hn⟩ : ∃ n, l[i]? = some n := ⟨_, List.getElem?_eq_getElem (by rw [← EL.out]; exact hlt)⟩
      obtain ⟨b, rfl, hb, hall⟩ := (HS.out.below hB.out) (by rw [← EL.out]; omega)
      obtain ⟨c0, c1⟩ := hall i _ hn
      have HGN := Lib.hid (addL_drop (tm, te) l i _ hn)
      have HNN := Lib.hid (HN.out _ (List.mem_of_getElem? hn))
      have i1 : (i : Int) < (L : Int) := by omega
      have x0 := cell_of_heap h7.out 0
      have x1 := cell_of_heap h7.out 1
      have z7 := lt_of_heap h7.out
      have hne : b ≠ wr.heap.size := by omega
      have hb1 : b < wr.heap.size + 1 := by omega
      have hne2 : w.heap.size + 1 ≠ wr.heap.size := by omega
      have hz2 : w.heap.size + 1 < wr.heap.size + 1 := by omega
      clear hall hn
      go_wp2_with fail
      have hBa : Below wr.heap.size wr (wr.alloc (.cells #[.int .i64 nm, .int .i64 ne] 32)) := by (repeat with_reducible (first | exact bw0 _ _ | exact hBW | refine bw1 ?_ ?_ _ | refine bw2 ?_ ?_ _ | refine bw3 ?_ _ | refine bw4 ?_)); all_goals (first | omega | (dsimp only; omega) | ((repeat with_reducible (first | refine lz1 ?_ | refine lz2 ?_ | refine lz3 ?_ | refine lz4 ?_)); omega))
      refine (add_yes tm te nm ne _ hR.out HNN.out (HT.out.below (hB.out.trans (hBa.mono hB.out.size)))).mono ?_
      rintro e' w2 ⟨rfl, hb2⟩
      have hb3 : Below wr.heap.size wr w2 := hBa.trans (hb2.mono (by simp))
      have e6 := (hb3.block w.heap.size (by omega)).trans h6.out
      have e7 := (hb3.block (w.heap.size + 1) z7).trans h7.out
      have HB2 := Lib.hid (hB.out.trans (hb3.mono hB.out.size))
      have E6 := Lib.hid e6
      have E7 := Lib.hid e7
      have RR := Lib.hid (addR_right tm te nm ne)
      have z72 := lt_of_heap e7
      have x7 := cell_of_heap e7
      have y7 := frozen_of_heap e7
      have x6 := cell_of_heap e6
      have y6 := frozen_of_heap e6
      unfold NumV
      generalize hadd : addR tm te nm ne = R at HGN RR ⊢
      obtain ⟨⟨rm, re⟩, rb⟩ := R
      clear hadd hb2 hb3 e6 e7 c0 c1 hBa x0 x1
      cases rb with
      | true =>
        have G2 : Hid (addL (rm, re) (l.drop (i + 1)) = addL (0, 0) l) := by
          have h1 := HGN.out
          rw [hG.out] at h1
          exact h1.symm
        have hne3 : w.heap.size + 1 ≠ w2.heap.size := by omega
        have hz3 : w.heap.size + 1 < w2.heap.size + 1 := by omega
        clear HGN x6 y6
        go_wp2_with fail
        refine ⟨⟨i + 1, (rm, re), by go_num, by omega, ?_, heap_alloc_old ((heap_set2_ne (by omega)).trans E6.out) _, heap_alloc_old (heap_set2 E7.out) _, RR.out, G2⟩, by simp [intOf]; omega⟩
        have hBW := HB2.out
        have hsz := hBW.size
        show Below _ _ _
        (repeat with_reducible (first | exact bw0 _ _ | exact hBW | refine bw1 ?_ ?_ _ | refine bw2 ?_ ?_ _ | refine bw3 ?_ _ | refine bw4 ?_)); all_goals (first | omega | (dsimp only; omega) | ((repeat with_reducible (first | refine lz1 ?_ | refine lz2 ?_ | refine lz3 ?_ | refine lz4 ?_)); omega))
      | false =>
        have G2 : Hid (addL (0, 0) l = ((0, 0), false)) := by
          have h1 := HGN.out
          rw [hG.out] at h1
          exact h1
        have hne3 : w.heap.size ≠ w2.heap.size := by omega
        have hz3 : w.heap.size < w2.heap.size + 1 := by omega
        have hz4 : w.heap.size < w2.heap.size := by omega
        clear HGN x7 y7
        go_wp2_with fail
        refine body_abs ?_
        intro W9 hW9
        have hf : W9.heap[w.heap.size]? = some (.cells #[.int .i64 0, .int .i64 0] 32) := by
          rw [hW9]
          exact heap_alloc_old (heap_set2 E6.out) _
        have xf := cell_of_heap hf
        have FB : Hid (Below w.heap.size w W9) := by
          rw [hW9]
          have hBW := HB2.out
          have hsz := hBW.size
          show Below _ _ _
          (repeat with_reducible (first | exact bw0 _ _ | exact hBW | refine bw1 ?_ ?_ _ | refine bw2 ?_ ?_ _ | refine bw3 ?_ _ | refine bw4 ?_)); all_goals (first | omega | (dsimp only; omega) | ((repeat with_reducible (first | refine lz1 ?_ | refine lz2 ?_ | refine lz3 ?_ | refine lz4 ?_)); omega))
        refine bodyPost_ret (v := NumV ((0, 0), false)) (by simp [results, Tryz.results234, go_sem, xf, NumV]) rfl ?_
        rw [G2.out]
        exact ⟨rfl, FB.out⟩
    · have e : i = L := by omega
      have G2 : Hid (addL (0, 0) l = ((tm, te), true)) := by
        have h1 := hG.out
        rw [e, EL.out, List.drop_length] at h1
        exact h1.symm
      have i1 : ¬ (i : Int) < (L : Int) := by omega
      have x6 := cell_of_heap h6.out
      have y6 := frozen_of_heap h6.out
      have z6 := lt_of_heap h6.out
      have x7 := cell_of_heap h7.out
      have z7 := lt_of_heap h7.out
      clear e
      go_wp2_with fail
      refine bodyPost_ret (v := NumV ((tm, te), true)) (by simp [results, Tryz.results234, go_sem, x6, NumV]) rfl ?_
      rw [G2.out]
      refine ⟨rfl, ?_⟩
      have hBW := hB.out
      have hsz := hBW.size
      (repeat with_reducible (first | exact bw0 _ _ | exact hBW | refine bw1 ?_ ?_ _ | refine bw2 ?_ ?_ _ | refine bw3 ?_ _ | refine bw4 ?_)); all_goals (first | omega | (dsimp only; omega) | ((repeat with_reducible (first | refine lz1 ?_ | refine lz2 ?_ | refine lz3 ?_ | refine lz4 ?_)); omega))
end
end Go.Proofs.YtndhmahkglfopaaGreatDoor
/- SUM: all values of one argument, their numbers, the sum. -/
namespace Go.Proofs.YtndhmahkglfopaaGreatDoor
open Go.RowKit
def prV (v : V) : Int × Int := (v.m, v.e)
theorem info32 : (Tryz.prog.info? 32).map (fun i => (i.zero, i.size, i.bytes)) = some (some (.agg #[.int .i64 0, .int .i64 0]), 2, 16) := by kernel_rfl
theorem vcells_len (l : List V) : (l.flatMap vcells).length = l.length * 6 := by
  induction l with
  | nil => rfl
  | cons a r ih => rw [List.flatMap_cons, List.length_append, ih, List.length_cons]; simp [vcells]; omega
theorem vcells_at {w : World} {b off : Nat} {l : List V} (h : ∀ i u, l[i]? = some u → ∀ j, j < 6 → w.cell? ⟨b, off + i * 6 + j, none⟩ = (vcells u)[j]?) (q : Nat) (x : Value) (hx : (l.flatMap vcells)[q]? = some x) : w.cell? ⟨b, off + q, none⟩ = some x := by
  have hq : q < l.length * 6 := by
    rw [← vcells_len]
    exact (List.getElem?_eq_some_iff.1 hx).1
  have hi : q / 6 < l.length := by omega
  obtain ⟨u, hu⟩ : ∃ u, l[q / 6]? = some u := ⟨_, List.getElem?_eq_getElem hi⟩
  have h1 := vcells_get l (q / 6) (q % 6) u hu (by omega)
  have h2 := h (q / 6) u hu (q % 6) (by omega)
  rw [show q / 6 * 6 + q % 6 = q by omega] at h1
  rw [show off + q / 6 * 6 + q % 6 = off + q by omega, ← h1, hx] at h2
  exact h2
theorem own_nex {w : World} {B s n : Nat} {e : TypeId} {v : Value} {l : List Value} (h : w.ownsRow B e s v n l) : ∀ k, v.ownBlock = some k → B ≤ k := fun k hk => by
  rcases h.2 with ⟨e, h0⟩ | ⟨gb, cap, cur, hs, hB, hh, hn', hz, hsz, ht⟩
  · rw [e] at hk; cases hk
  · rw [hs] at hk
    simp [Value.ownBlock] at hk
    omega
theorem own_slx {w : World} {B s n : Nat} {e : TypeId} {v : Value} {l : List Value} (h : w.ownsRow B e s v n l) : ∃ a cap, v = .slice a n cap := by
  rcases h.2 with ⟨e, h0⟩ | ⟨gb, cap, cur, hs, hB, hh, hn', hz, hsz, ht⟩
  · exact ⟨none, 0, by rw [e, h0]⟩
  · exact ⟨_, _, hs⟩
section
variable (w : World)
set_option maxHeartbeats 4000000
set_option maxRecDepth 100000
theorem all232_any (A : Arr) (h1 : 1 ≤ A.l.length) (h2 : A.l.length ≤ 4096) (a : Option Addr) (cap : Nat) (hs : ArgsAt 0 w a [A]) : Calls Tryz.prog 232 #[.slice a 1 cap] w fun e w' => ∃ v, e = .returned v ∧ w'.ownsRow w.heap.size 34 6 v A.l.length (A.l.flatMap vcells) ∧ Below w.heap.size w w' := by
  obtain ⟨i0, hi, hz0, hz1, hz2⟩ := info_parts info36
  have HI := Lib.hid hi
  have HZ0 := Lib.hid hz0
  have HZ1 := Lib.hid hz1
  have HZ2 := Lib.hid hz2
  obtain ⟨b, off, rfl, _, hb, hall⟩ := hs (by simp)
  obtain ⟨a', cap', c0, c1, c2, hsl⟩ := hall 0 A rfl
  simp only [Nat.zero_mul, Nat.add_zero] at c0 c1 c2
  obtain ⟨b', off', rfl, _, hb', hcells⟩ := hsl h1
  have HCL := Lib.hid (fun q x hx => vcells_at hcells q x hx)
  have HLB := Lib.hid hb'
  have C0 := Lib.hid c0
  have C1 := Lib.hid c1
  have C2 := Lib.hid c2
  have HBL := Lib.hid hb
  have VL := Lib.hid (vcells_len A.l)
  have V1 : Hid (∀ u ∈ A.l.flatMap vcells, u.oneCell' = true) := fun u hu => by
    obtain ⟨v, _, hv⟩ := List.mem_flatMap.1 hu
    simp [vcells] at hv
    rcases hv with rfl | rfl | rfl | rfl | rfl | rfl <;> rfl
  generalize A.l.flatMap vcells = XS at HCL VL V1 ⊢
  clear hi hz0 hz1 hz2 hs hall hsl hcells hb' c0 c1 c2 hb
  obtain ⟨L, hL⟩ : ∃ L, L = A.l.length := ⟨_, rfl⟩
  have EL := Lib.hid hL
  rw [← hL] at h1 h2 ⊢
  clear hL
  go_enter Tryz.func232, Tryz.ntmps232
  go_wp2_with fail
  go_loopw [3, 8] (fun v x wr => ∃ i : Int, x = .int .i64 i ∧ 0 ≤ i ∧ i ≤ 1 ∧ Hid (Below w.heap.size w wr) ∧ Hid ((i = 0 ∧ v = .slice none 0 0) ∨ (i = 1 ∧ wr.ownsRow w.heap.size 34 6 v L XS))) (fun _ x _ => 1 - (intOf x).toNat)
  case atStart => exact ⟨0, rfl, by omega, by omega, Below.refl _ _, .inl ⟨rfl, rfl⟩⟩
  case round =>
    obtain ⟨i, rfl, hi0, hi1, hB, hO⟩ := hrel
    by_cases h0 : i = 0
    · subst h0
      rcases hO.out with ⟨_, rfl⟩ | ⟨hx, _⟩
      case inr => omega
      have c0 := (hB.out.cell (p := ⟨b, off, none⟩) HBL.out).trans C0.out
      have c1 := (hB.out.cell (p := ⟨b, off + 1, none⟩) HBL.out).trans C1.out
      have c2 := (hB.out.cell (p := ⟨b, off + 2, none⟩) HBL.out).trans C2.out
      have hsz := hB.out.size
      have hb1 : b ≠ wr.heap.size := by have := HBL.out; omega
      have hb2 : b < wr.heap.size + 1 := by have := HBL.out; omega
      have hb3 : b < wr.heap.size := by have := HBL.out; omega
      rw [← EL.out] at c2
      clear hO
      go_wp2_with (
        at_builtin
        refine wpList_append_own_at _ rfl _ _ 26 rfl w.heap.size 34 i0 _ 6 56 Tryz.underlying26 HI.out HZ0.out HZ1.out HZ2.out rfl (by decide) (.slice none 0 0) 0 [] rfl ⟨by simp, Or.inl ⟨rfl, rfl⟩⟩ ⟨b', off', none⟩ L cap' XS rfl ?_ ?_ (fun u hu => V1.out u hu) (by unfold maxLen; omega) (by omega) (by simp; omega) ?_
        focus (have := VL.out; have := EL.out; omega)
        focus (intro q x hx; rw [show (⟨b', off', none⟩ : Addr).add q = ⟨b', off' + q, none⟩ by simp [Addr.add]]; exact ((below_alloc wr _ _ (Nat.le_refl _)).cell (p := ⟨b', off' + q, none⟩) (by have := HLB.out; dsimp only; omega)).trans ((hB.out.cell (p := ⟨b', off' + q, none⟩) HLB.out).trans (HCL.out q x hx)))
        intro v' wN hown hgrow _ _
        have FO : Hid (wN.ownsRow w.heap.size 34 6 v' L XS) := by
          unfold Hid
          simpa using hown
        have FB : Hid (Below w.heap.size w wN) := (hB.out.alloc hB.out.size _).grown hgrow (by simp; omega) (fun k hk => by cases hk)
        clear hown hgrow)
      go_roundw
      case rel => exact ⟨1, by go_num, by omega, by omega, FB, .inr ⟨rfl, FO.out⟩⟩
      case measure => simp [intOf]
    · have e1 : i = 1 := by omega
      subst e1
      rcases hO.out with ⟨hx, _⟩ | ⟨_, ho⟩
      case inl => omega
      have HO := Lib.hid ho
      obtain ⟨sa, scap, rfl⟩ := own_slx ho
      clear hO ho h0
      go_wp2_with fail
      go_ret
      exact ⟨_, rfl, HO.out, hB.out⟩
end
end Go.Proofs.YtndhmahkglfopaaGreatDoor
/- SUM: the numbers of values, the sum, the function that the table has. -/
namespace Go.Proofs.YtndhmahkglfopaaGreatDoor
open Go.RowKit
section
variable (w : World)
set_option maxHeartbeats 4000000
set_option maxRecDepth 100000
theorem numbers231_any (l : List V) (hk : ∀ v ∈ l, v.k = 1) (h2 : l.length ≤ 4096) (a : Option Addr) (cap : Nat) (hs : SlB 0 w a l) : Calls Tryz.prog 231 #[.slice a l.length cap] w fun e w' => ∃ v, e = .returned (.tuple #[v, .int .i64 0]) ∧ w'.ownsRow w.heap.size 32 2 v l.length ((l.map prV).flatMap prC) ∧ Below w.heap.size w w' := by
  obtain ⟨i0, hi, hz0, hz1, hz2⟩ := info_parts info32
  have HI := Lib.hid hi
  have HZ0 := Lib.hid hz0
  have HZ1 := Lib.hid hz1
  have HZ2 := Lib.hid hz2
  have HK := Lib.hid hk
  have HS := Lib.hid hs
  obtain ⟨L, hL⟩ : ∃ L, L = l.length := ⟨_, rfl⟩
  have EL := Lib.hid hL
  rw [← hL] at h2 ⊢
  clear hi hz0 hz1 hz2 hk hs hL
  go_enter Tryz.func231, Tryz.ntmps231
  go_wp2_with fail
  go_loopw [4, 9] (fun v x wr => ∃ i : Nat, x = .int .i64 i ∧ i ≤ L ∧ Hid (Below w.heap.size w wr) ∧ Hid (wr.ownsRow w.heap.size 32 2 v i (((l.take i).map prV).flatMap prC))) (fun _ x _ => L - (intOf x).toNat)
  case atStart => exact ⟨0, rfl, Nat.zero_le _, Below.refl _ _, by simp, Or.inl ⟨rfl, rfl⟩⟩
  case round =>
    obtain ⟨i, rfl, hi, hB, hO⟩ := hrel
    by_cases hlt : i < L
    · obtain ⟨⟨k, m, e, t, b, f⟩, hn⟩ : ∃ n, l[i]? = some n := ⟨_, List.getElem?_eq_getElem (by rw [← EL.out]; exact hlt)⟩
      obtain ⟨bb, off, rfl, _, hb, hall⟩ := (HS.out.below hB.out) (by rw [← EL.out]; omega)
      have hkk : k = 1 := HK.out _ (List.mem_of_getElem? hn)
      subst hkk
      have c0 := hall i _ hn 0 (by omega)
      have c1 := hall i _ hn 1 (by omega)
      have c2 := hall i _ hn 2 (by omega)
      have c3 := hall i _ hn 3 (by omega)
      have c4 := hall i _ hn 4 (by omega)
      have c5 := hall i _ hn 5 (by omega)
      simp only [vcells, Nat.add_zero, List.getElem?_cons_zero, List.getElem?_cons_succ] at c0 c1 c2 c3 c4 c5
      have HT : Hid (((l.take (i + 1)).map prV).flatMap prC = ((l.take i).map prV).flatMap prC ++ [.int .i64 m, .int .i64 e]) := by
        unfold Hid
        rw [List.take_add_one, hn]
        simp [prV, prC]
      have i1 : (i : Int) < (L : Int) := by omega
      have hne : bb ≠ wr.heap.size := by omega
      have hb1 : bb < wr.heap.size + 1 := by omega
      obtain ⟨sa, scap, rfl⟩ := own_slx hO.out
      generalize ((l.take i).map prV).flatMap prC = XS at hO HT
      clear hall hn
      go_wp2_with (
        at_builtin
        refine wpList_append_own_at _ rfl _ _ 168 rfl w.heap.size 32 i0 (.agg #[.int .i64 0, .int .i64 0]) 2 16 Tryz.underlying168 HI.out HZ0.out HZ1.out HZ2.out rfl (by decide) (.slice sa i scap) i XS rfl ((hO.out.alloc _).alloc _) ⟨wr.heap.size + 1, 0, none⟩ 1 1 [.int .i64 m, .int .i64 e] rfl rfl (fun j u hj => by have := cells_new (wr.alloc (.cells #[.int .i64 1, .int .i64 m, .int .i64 e, .string t, .bool b, .int .i64 f] 34)) #[.int .i64 m, .int .i64 e] 32 j u hj; simpa using this) (by simp [Value.oneCell']) (by unfold maxLen; omega) (by omega) (by have := hB.out.size; simp; omega) ?_
        intro v' wN hown hgrow _ _
        have FO : Hid (wN.ownsRow w.heap.size 32 2 v' (i + 1) (((l.take (i + 1)).map prV).flatMap prC)) := by
          unfold Hid
          rw [HT.out]
          exact hown
        have FB : Hid (Below w.heap.size w wN) := ((hB.out.alloc hB.out.size _).alloc (by have := hB.out.size; simp; omega) _).grown hgrow (by have := hB.out.size; simp; omega) (fun k hk => own_nex hO.out k hk)
        clear hown hgrow)
      go_roundw
      case rel => exact ⟨i + 1, by go_num, by omega, FB, FO⟩
      case measure => simp [intOf]; omega
    · have e : i = L := by omega
      have i1 : ¬ (i : Int) < (L : Int) := by omega
      have h1 := hO.out
      rw [e, List.take_of_length_le (by rw [← EL.out]; exact Nat.le_refl _)] at h1
      have FO := Lib.hid h1
      clear h1
      obtain ⟨sa, scap, rfl⟩ := own_slx FO.out
      clear hO e
      go_wp2_with fail
      refine bodyPost_ret (v := .tuple #[.slice sa L scap, .int .i64 0]) (by simp [results, Tryz.results231, go_sem]) rfl ?_
      exact ⟨_, rfl, FO.out, hB.out⟩
def sumV (l : List (Int × Int)) : V := toldV (addL (0, 0) l)
theorem sum137_any (l : List (Int × Int)) (hN : ∀ n ∈ l, numR n.1 n.2 = true) (hl : l.length ≤ 4096) (a : Option Addr) (cap : Nat) (hs : SlN w a l) (ht : Tab w) : Calls Tryz.prog 137 #[.slice a l.length cap] w (VPost w (sumV l)) := by
  have HA := Lib.hid (fun w hs ht => add234_any w l hN hl a cap hs ht)
  have HT := Lib.hid (fun w => told233_any w (addL (0, 0) l))
  have HS := Lib.hid hs
  have HTB := Lib.hid ht
  unfold sumV
  generalize addL (0, 0) l = R at HA HT ⊢
  obtain ⟨⟨m, e⟩, k⟩ := R
  generalize l.length = L at HA ⊢
  clear hN hl hs ht
  unfold VPost at HT ⊢
  generalize toldV ((m, e), k) = u at HT ⊢
  obtain ⟨uk, um, ue, ut, ub, uf⟩ := u
  unfold vagg at *
  simp only at HA HT ⊢
  go_enter Tryz.func137, Tryz.ntmps137
  go_wp2_with fail
  have hba : Below w.heap.size w (w.alloc (.cells #[.int .i64 0, .int .i64 0, .int .i64 0, .string ⟨#[]⟩, .bool false, .int .i64 0] 34)) := by (repeat with_reducible (first | exact bw0 _ _ | exact hBW | refine bw1 ?_ ?_ _ | refine bw2 ?_ ?_ _ | refine bw3 ?_ _ | refine bw4 ?_)); all_goals (first | omega | (dsimp only; omega) | ((repeat with_reducible (first | refine lz1 ?_ | refine lz2 ?_ | refine lz3 ?_ | refine lz4 ?_)); omega))
  refine (HA.out _ (HS.out.below hba) (HTB.out.below hba)).mono ?_
  unfold NumPost NumV
  rintro r w1 ⟨rfl, hb1⟩
  have hb1' := hba.trans (hb1.mono (by simp))
  have HB1 := Lib.hid hb1'
  have g0 := Lib.hid ((hb1.block w.heap.size (by simp)).trans (show _ = some (.cells #[.int .i64 0, .int .i64 0, .int .i64 0, .string ⟨#[]⟩, .bool false, .int .i64 0] 34 (0, 0)) by (repeat (first | (with_reducible refine bw5 ?_ _; (first | rfl | (simp; done) | omega | (simp; omega)); done) | with_reducible refine bw6 ?_ _ | with_reducible refine bw7 ?_ | with_reducible refine bw8 ?_))))
  clear hb1 hb1' hba
  go_wp2_with fail
  refine (HT.out _).mono ?_
  rintro r w2 ⟨rfl, hb2⟩
  have e2 := (hb2.block w.heap.size (lt_of_heap g0.out)).trans g0.out
  have HB2 := Lib.hid (HB1.out.trans (hb2.mono HB1.out.size))
  have x2 := cell_of_heap e2
  have y2 := frozen_of_heap e2
  have z2 := lt_of_heap e2
  clear hb2 e2
  go_wp2_with fail
  refine bodyPost_ret (v := .agg #[.int .i64 uk, .int .i64 um, .int .i64 ue, .string ut, .bool ub, .int .i64 uf]) (by simp [results, Tryz.results137, go_sem, x2]) rfl ⟨rfl, ?_⟩
  have hBW := HB2.out
  have hsz := hBW.size
  (repeat with_reducible (first | exact bw0 _ _ | exact hBW | refine bw1 ?_ ?_ _ | refine bw2 ?_ ?_ _ | refine bw3 ?_ _ | refine bw4 ?_)); all_goals (first | omega | (dsimp only; omega) | ((repeat with_reducible (first | refine lz1 ?_ | refine lz2 ?_ | refine lz3 ?_ | refine lz4 ?_)); omega))
end
end Go.Proofs.YtndhmahkglfopaaGreatDoor
/- SUM in its family; the law's call of SUM. -/
namespace Go.Proofs.YtndhmahkglfopaaGreatDoor
open Go.RowKit
theorem ent137 : Ent 137 := enters_of Tryz.func137 (by kernel_rfl) rfl
theorem ent230 : Ent 230 := enters_of Tryz.func230 (by kernel_rfl) rfl
theorem sumV_right (l : List (Int × Int)) : refR (sumV l) = true := refR_told (addL_right l (0, 0) (show numR 0 0 = true by kernel_rfl))
section
variable (w : World)
set_option maxHeartbeats 4000000
set_option maxRecDepth 100000
theorem ofNumbers1_any (A : Arr) (hA : ArrR A) (hl : 1 ≤ A.l.length) (hl2 : A.l.length ≤ 4096) (hk : ∀ v ∈ A.l, v.k = 1) (a : Option Addr) (cap fb : Nat) (hs : ArgsAt 0 w a [A]) (ht : Tab w) (hf : w.heap[fb]? = some (.cells #[.func (.func 137) #[] #[]] 167)) :
    Calls Tryz.prog 230 #[.slice a 1 cap, .pointer (some ⟨fb, 0, none⟩)] w (ArrPost w ⟨1, 1, [sumV (A.l.map prV)]⟩) := by
  have H1 := Lib.hid (fun w hs => all232_any w A hl hl2 a cap hs)
  have H2 := Lib.hid (fun w a cap hs => numbers231_any w A.l hk hl2 a cap hs)
  have hN : ∀ n ∈ A.l.map prV, numR n.1 n.2 = true := fun n hn => by
    obtain ⟨v, hv, rfl⟩ := List.mem_map.1 hn
    exact (cprop (hA.h7 v hv)).1 (hk v hv)
  have H3 := Lib.hid (fun w a cap hs ht => sum137_any w (A.l.map prV) hN (by simpa using hl2) a cap hs ht)
  have H4 := Lib.hid (fun w => One_any (sumV (A.l.map prV)) (refR_right (sumV_right _)) w)
  have HS := Lib.hid hs
  have HT := Lib.hid ht
  have f0 : w.cell? ⟨fb, 0, none⟩ = some (.func (.func 137) #[] #[]) := cell_of_heap hf 0
  have HF := Lib.hid hf
  have hfl := lt_of_heap hf
  unfold VPost at H3
  have LM := Lib.hid (show (A.l.map prV).length = A.l.length by simp)
  generalize sumV (A.l.map prV) = u at H3 H4 ⊢
  generalize A.l.map prV = NL at H2 H3 LM
  obtain ⟨L, hL⟩ : ∃ L, L = A.l.length := ⟨_, rfl⟩
  have EL := Lib.hid hL
  rw [← hL] at H1 H2 hl hl2
  obtain ⟨uk, um, ue, ut, ub, uf⟩ := u
  unfold vagg at *
  simp only at H3 H4 ⊢
  clear hA hk hs ht hf hN hL
  go_enter Tryz.func230, Tryz.ntmps230
  go_wp2_with fail
  have hba : Below w.heap.size w (w.alloc (.cells #[.int .i64 0, .int .i64 0, .slice none 0 0] 28)) := by (repeat with_reducible (first | exact bw0 _ _ | exact hBW | refine bw1 ?_ ?_ _ | refine bw2 ?_ ?_ _ | refine bw3 ?_ _ | refine bw4 ?_)); all_goals (first | omega | (dsimp only; omega) | ((repeat with_reducible (first | refine lz1 ?_ | refine lz2 ?_ | refine lz3 ?_ | refine lz4 ?_)); omega))
  refine (H1.out _ (HS.out.below hba)).mono ?_
  rintro r w1 ⟨v, rfl, hrow, hb1⟩
  rw [EL.out] at hrow
  obtain ⟨a1, cap1, rfl, hsl⟩ := own_slb hrow
  rw [← EL.out]
  have HB1 := Lib.hid (hba.trans (hb1.mono (by simp)))
  have SL1 := Lib.hid (hsl.mono (Nat.zero_le _))
  have g0 := Lib.hid ((hb1.block w.heap.size (by simp)).trans (show _ = some (.cells #[.int .i64 0, .int .i64 0, .slice none 0 0] 28 (0, 0)) by (repeat (first | (with_reducible refine bw5 ?_ _; (first | rfl | (simp; done) | omega | (simp; omega)); done) | with_reducible refine bw6 ?_ _ | with_reducible refine bw7 ?_ | with_reducible refine bw8 ?_))))
  clear hrow hsl hb1 hba
  go_wp2_with fail
  refine (H2.out _ _ _ SL1.out).mono ?_
  rintro r w2 ⟨v, rfl, hrow, hb2⟩
  rw [EL.out, ← LM.out] at hrow
  obtain ⟨a2, cap2, rfl, hsn⟩ := own_sln hrow
  rw [LM.out, ← EL.out]
  have g1 := Lib.hid ((hb2.block w.heap.size (lt_of_heap g0.out)).trans g0.out)
  have HB2 := Lib.hid (HB1.out.trans (hb2.mono HB1.out.size))
  have SN := Lib.hid hsn
  have f2 := (HB2.out.cell (p := ⟨fb, 0, none⟩) hfl).trans f0
  have z2 := Nat.lt_of_lt_of_le hfl HB2.out.size
  clear hrow hsn hb2 g0 f0
  have ent := ent137
  unfold Ent at ent
  go_wp2_with fail
  clear ent
  have h3 := H3.out _ _ cap2 SN.out (HT.out.below HB2.out)
  rw [LM.out, ← EL.out] at h3
  refine h3.mono ?_
  rintro r w3 ⟨rfl, hb3⟩
  have g2 := Lib.hid ((hb3.block w.heap.size (lt_of_heap g1.out)).trans g1.out)
  have HB3 := Lib.hid (HB2.out.trans (hb3.mono HB2.out.size))
  clear h3 hb3 g1 f2 z2
  go_wp2_with fail
  refine (H4.out _).mono ?_
  rintro r w4 ⟨x, rfl, ⟨a4, cap4, rfl, hsl⟩, hb4⟩
  have e0 := (hb4.block w.heap.size (lt_of_heap g2.out)).trans g2.out
  have HB4 := Lib.hid (HB3.out.trans (hb4.mono HB3.out.size))
  have x0 := cell_of_heap e0
  have z0 := frozen_of_heap e0
  have hn0 := lt_of_heap e0
  have HSL := Lib.hid (hsl.mono (B' := w.heap.size + 1) (lt_of_heap g2.out))
  clear hsl hb4 e0
  go_wp2_with fail
  refine bodyPost_ret (v := .agg #[.int .i64 1, .int .i64 1, .slice a4 1 cap4]) (by simp [results, Tryz.results230, go_sem, x0]) rfl ?_
  exact arr_hand (A := ⟨1, 1, [⟨uk, um, ue, ut, ub, uf⟩]⟩) (n := 0) (Nat.le_refl _) HSL.out HB4.out _ _ _
end
def sSUM : ByteArray := ⟨#[83, 85, 77]⟩
theorem hit_sum (A : Arr) (hA : ArrR A) (hl : 1 ≤ A.l.length) (hl2 : A.l.length ≤ 4096) (hk : ∀ v ∈ A.l, v.k = 1) (a : Option Addr) (cap : Nat) : HitOk Tab (fun _ => True) Tab112 sSUM 1 32 [A] a cap ⟨1, 1, [sumV (A.l.map prV)]⟩ := fun w w' e h ha ht => by
  obtain ⟨BB, l, he, hm, _, hb, ⟨fb, h3, h4⟩, _⟩ := h
  refine ⟨BB, l, 230, _, he, hm, hb, .inr ⟨fb, rfl⟩, h3, ent230, fun W hW => ?_⟩
  exact Calls.mono (R := ArrPost W _) (ofNumbers1_any W A hA hl hl2 hk a cap fb (ha.below hW) (ht.below hW) ((hW.block fb (lt_of_heap h4)).trans h4)) fun _ _ h => h.any
theorem call_sum (A : Arr) (hA : ArrR A) (hl : 1 ≤ A.l.length) (hl2 : A.l.length ≤ 4096) (hk : ∀ v ∈ A.l, v.k = 1) (a : Option Addr) (cap : Nat) (w : World) (hs : ArgsAt 0 w a [A]) (ht : Tab w) : Calls Tryz.prog 11 #[.string sSUM, .slice a 1 cap] w (ArrPost w ⟨1, 1, [sumV (A.l.map prV)]⟩) :=
  Calls.mono (R := ArrPostC (fun _ => True) w _) (call11 w sSUM a 1 cap _ fun W hW => lib_0 W sSUM a 1 cap _ fun W' hW' =>
    have hb := hW.trans (hW'.mono hW.size)
    call82_hit sSUM 1 32 [A] a cap _ W' stays_tab (hit_sum A hA hl hl2 hk a cap) (fun X hX => by rw [List.mem_singleton.1 hX]; exact hA.ok) (Nat.le_refl _) (by simp) (by omega) (hs.below hb) (ht.below hb)) fun _ _ h => h.post
end Go.Proofs.YtndhmahkglfopaaGreatDoor
