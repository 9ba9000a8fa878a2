/- build: an array of what a function tells of each place. -/
import Derived.Test.YtgbedjeiihigaaaF13Each
import Derived.Laws.MakeOwn
namespace Go.Proofs.Ytgbedjeiihigaaa
open Go.RowKit
def gridRow (U : Nat → Nat → V) (c i : Nat) : List V := (List.range c).map (U i)
def grid (U : Nat → Nat → V) (r c : Nat) : List V := (List.range r).flatMap (gridRow U c)
theorem gridRow_succ (U : Nat → Nat → V) (j i : Nat) : gridRow U (j + 1) i = gridRow U j i ++ [U i j] := by simp [gridRow, List.range_succ]
theorem grid_succ (U : Nat → Nat → V) (i c : Nat) : grid U (i + 1) c = grid U i c ++ gridRow U c i := by simp [grid, List.range_succ, List.flatMap_append]
theorem gridRow_len (U : Nat → Nat → V) (c i : Nat) : (gridRow U c i).length = c := by simp [gridRow]
theorem grid_len (U : Nat → Nat → V) (r c : Nat) : (grid U r c).length = r * c := by
  induction r with
  | zero => simp [grid]
  | succ r ih => rw [grid_succ, List.length_append, ih, gridRow_len, Nat.succ_mul]
/-- A function value makes u of a place, from the world w on. -/
def BvOk (w : World) (g : Nat) (cp : Array Value) (i j : Nat) (u : V) : Prop := ∀ W, Below w.heap.size w W → Calls Try.prog g (#[.int .i64 i, .int .i64 j] ++ cp) W fun e w' => e = .returned (vagg u) ∧ Below W.heap.size W w'
theorem info36 : (Try.prog.info? 36).map (fun i => (i.zero, i.size, i.bytes)) = some (some (vagg vBlank), 6, 56) := by kernel_rfl
theorem vcells_get (l : List V) (n i : Nat) (v : V) (h : l[n]? = some v) (hi : i < 6) : (l.flatMap vcells)[n * 6 + i]? = (vcells v)[i]? := by
  induction l generalizing n with
  | nil => simp at h
  | cons a r ih =>
    rw [List.flatMap_cons]
    have ha : (vcells a).length = 6 := rfl
    cases n with
    | zero =>
      simp at h
      subst h
      rw [List.getElem?_append_left (by omega)]
      simp
    | succ m =>
      simp only [List.getElem?_cons_succ] at h
      rw [List.getElem?_append_right (by omega), ← ih m h, ha]
      congr 1
      omega
theorem own_slb {w : World} {B : Nat} {v : Value} {l : List V} (h : w.ownsRow B 36 6 v l.length (l.flatMap vcells)) : ∃ a cap, v = .slice a l.length cap ∧ SlB B w a l := by
  rcases h.2 with ⟨e, h0⟩ | ⟨gb, cap, cur, hs, hB, hh, hn, _, hsz, ht⟩
  · exact ⟨none, 0, by rw [e, h0], fun h => by omega⟩
  · refine ⟨_, cap, hs, fun _ => ⟨gb, 0, rfl, hB, lt_of_heap hh, fun i u hu j hj => ?_⟩⟩
    have hlt : i < l.length := (List.getElem?_eq_some_iff.1 hu).1
    rw [cell_of_heap hh, ← vcells_get l i j u hu hj, ← ht, List.getElem?_take_of_lt (by omega)]
    simp
theorem own_of_block {w w' : World} {base : Nat} {e : TypeId} {size : Nat} {v : Value} {n : Nat} {xs : List Value} (h : w.ownsRow base e size v n xs) (hb : ∀ k, v.ownBlock = some k → k < w.heap.size → w'.heap[k]? = w.heap[k]?) : w'.ownsRow base e size v n xs := by
  obtain ⟨h1, h2⟩ := h
  refine ⟨h1, ?_⟩
  rcases h2 with h2 | ⟨g, cap, cur, hv, hg, hh, r⟩
  · exact Or.inl h2
  · exact Or.inr ⟨g, cap, cur, hv, hg, by rw [hb g (by rw [hv]; rfl) (lt_of_heap hh)]; exact hh, r⟩
theorem row_ne_head {w : World} {B p : Nat} {v : Value} {n : Nat} {xs cs : List Value} (h : w.ownsRow B 36 6 v n xs) (hp : w.heap[p]? = some (.cells cs.toArray 27)) : ∀ k, v.ownBlock = some k → k ≠ p ∧ B ≤ k := fun k hk => by
  rcases h.2 with ⟨e, _⟩ | ⟨g, cap, cur, hv, hg, hh, _⟩
  · rw [e] at hk; cases hk
  · rw [hv] at hk
    simp [Value.ownBlock] at hk
    subst hk
    exact ⟨fun e => by rw [e, hp] at hh; simp at hh, hg⟩
/-- The array under way: block p, whose slice owns a row from block B on. -/
def BSt (W0 : World) (B p : Nat) (r c : Int) (l : List V) (W : World) : Prop :=
  Below B W0 W ∧ ∃ v, W.heap[p]? = some (.cells #[.int .i64 r, .int .i64 c, v] 27) ∧ W.ownsRow B 36 6 v l.length (l.flatMap vcells)
theorem BSt.below {W0 W W' : World} {B p : Nat} {r c : Int} {l : List V} (h : BSt W0 B p r c l W) (hB0 : B ≤ W0.heap.size) (hb : Below W.heap.size W W') : BSt W0 B p r c l W' := by
  obtain ⟨h1, v, h2, h3⟩ := h
  exact ⟨h1.trans (hb.mono (Nat.le_trans hB0 h1.size)), v, (hb.block p (lt_of_heap h2)).trans h2, own_of_block h3 (fun k _ hk => hb.block k hk)⟩
set_option maxHeartbeats 1000000 in
set_option maxRecDepth 100000 in
theorem build_any {g : Nat} {cp : Array Value} (hE : ∀ args W, (callFunc g args).run Try.prog W = .ok (.enter g args) W) (U : Nat → Nat → V) (r c : Nat) (h1 : 1 ≤ r) (h2 : 1 ≤ c) (h3 : r ≤ 4096) (h4 : c ≤ 4096) (h5 : r * c ≤ 4096) (w : World)
    (hU : ∀ i j, i < r → j < c → BvOk w g cp i j (U i j)) :
    Calls Try.prog 67 #[.int .i64 r, .int .i64 c, .func (.func g) #[] cp] w (ArrPost w ⟨r, c, grid U r c⟩) := by
  have HU := Lib.hid hU
  have HE := Lib.hid hE
  have wm1 : wrap64 ((r : Int) * (c : Int)) = (r : Int) * (c : Int) := IntWalk.wrap64_in _ (by rw [← Int.natCast_mul]; omega)
  obtain ⟨i0, hi, hz0, hz1, hz2⟩ := info_parts info36
  obtain ⟨wm, hmk, hown0, hgr0⟩ := run_make_own (P := Try.prog) (w.alloc (.cells #[.int .i64 0, .int .i64 0, .slice none 0 0] 27)) (w.heap.size + 1) 25 36 i0 _ 6 Try.underlying25 hi hz0 hz1 .i64 .i64 (r * c) (by rw [hz2]; omega) (by unfold maxLen; omega) (by simp)
  rw [Int.natCast_mul] at hmk
  rw [World.size_alloc] at hown0 hmk
  have HI := Lib.hid hi
  have HZ0 := Lib.hid hz0
  have HZ1 := Lib.hid hz1
  have HZ2 := Lib.hid hz2
  have HOWN := Lib.hid hown0
  have HGR := Lib.hid hgr0
  clear hU hE hi hz0 hz1 hz2 hown0 hgr0
  go_enter Try.func67, Try.ntmps67
  go_wp2_with fail
  clear hmk wm1
  refine abs_world ?_
  intro W0 hW0
  have hsm : w.heap.size + 1 ≤ wm.heap.size := by have := HGR.out.size; simpa using this
  have h6 : W0.heap[w.heap.size]? = some (.cells #[.int .i64 0, .int .i64 0, .slice none 0 0] 27) := by
    rw [hW0]
    exact heap_alloc_old ((HGR.out.block w.heap.size (by simp) (by simp)).trans (heap_alloc_new w _)) _
  have h7 : W0.heap[wm.heap.size]? = some (.cells #[.int .i64 r, .int .i64 c, .slice (some ⟨w.heap.size + 1, 0, none⟩) 0 (r * c)] 27) := by rw [hW0]; (repeat (first | (with_reducible refine heap_alloc_at ?_ _; (first | rfl | (simp; done) | omega | (simp; omega)); done) | with_reducible refine heap_alloc_old ?_ _ | with_reducible refine heap_drew_old ?_ | with_reducible refine heap_drewN_old ?_))
  have hB0 : Below w.heap.size w W0 := by
    rw [hW0]
    exact ((below_alloc w _ _ (Nat.le_refl _)).grown HGR.out (by simp) (fun k e => by cases e)).alloc (by omega) _
  have hs0 : w.heap.size + 1 ≤ W0.heap.size := by have := lt_of_heap h6; omega
  have B0 : Hid (BSt W0 (w.heap.size + 1) wm.heap.size r c (grid U 0 c) W0) := ⟨Below.refl _ _, _, h7, by
    rw [hW0]
    exact HOWN.out.alloc _⟩
  have H6 := Lib.hid h6
  have HB0 := Lib.hid hB0
  clear hW0 h6 h7 hB0 HOWN HGR
  go_loopw [18] (fun x wr => ∃ i : Nat, x = .int .i64 i ∧ i ≤ r ∧ Hid (BSt W0 (w.heap.size + 1) wm.heap.size r c (grid U i c) wr)) (fun x _ => r - (intOf x).toNat)
  case atStart => exact ⟨0, rfl, Nat.zero_le _, B0⟩
  case round =>
    obtain ⟨i, rfl, hi, hS⟩ := hrel
    by_cases hlt : i < r
    · have S1 : Hid (BSt W0 (w.heap.size + 1) wm.heap.size r c (grid U i c ++ gridRow U 0 i) wr) := by simpa [gridRow] using hS
      clear hS
      go_wp2_with fail
      go_loopw [22] (fun x wr => ∃ j : Nat, x = .int .i64 j ∧ j ≤ c ∧ Hid (BSt W0 (w.heap.size + 1) wm.heap.size r c (grid U i c ++ gridRow U j i) wr)) (fun x _ => c - (intOf x).toNat)
      case atStart => exact ⟨0, rfl, Nat.zero_le _, S1⟩
      case round =>
        clear S1
        obtain ⟨j, rfl, hj, hS⟩ := hrel
        by_cases hjt : j < c
        · obtain ⟨hbw, v, hv, hrow⟩ := hS.out
          have hBw : Hid (Below w.heap.size w wr) := HB0.out.trans (hbw.mono (by omega))
          have HC := Lib.hid (HU.out i j hlt hjt)
          have hlen : (grid U i c ++ gridRow U j i).length ≤ 4096 := by
            rw [List.length_append, grid_len, gridRow_len]
            have : i * c + c ≤ r * c := by rw [← Nat.succ_mul]; exact Nat.mul_le_mul_right c hlt
            omega
          have HBW := Lib.hid hbw
          have HV := Lib.hid hv
          have HROW := Lib.hid hrow
          have GS : Hid (grid U i c ++ gridRow U (j + 1) i = (grid U i c ++ gridRow U j i) ++ [U i j]) := by unfold Hid; rw [gridRow_succ, List.append_assoc]
          obtain ⟨sa, scap, rfl⟩ : ∃ sa scap, v = .slice sa (grid U i c ++ gridRow U j i).length scap := by
            obtain ⟨a, cap, e, _⟩ := own_slb hrow
            exact ⟨a, cap, e⟩
          generalize grid U i c ++ gridRow U j i = ll at hlen HROW GS HV ⊢
          generalize U i j = u at HC GS
          have hc2 := cell_of_heap HV.out 2
          have hp := lt_of_heap HV.out
          clear hS hbw hv hrow
          go_wp2_with fail
          refine wp_region_mix [0, 1, 2, 3, 4] [5, 6, 7, 8, 9] [7, 8, 9] (fun W => W.heap[wm.heap.size]? = some (.cells #[.int .i64 r, .int .i64 c, .slice sa ll.length scap] 27)) (by kernel_rfl) (by kernel_rfl) HV.out ?_
          iterate 5 (apply first_step; (rw [List.getElem?_toArray]; (repeat rw [List.getElem?_cons_succ]); rw [List.getElem?_cons_zero]); rfl; (intro W u0; have x0 := cell_of_heap u0; have x1 := lt_of_heap u0; clear u0; go_simp; (first | done | rfl)); go_frame)
          refine first_done ?_
          have ent := HE.out
          apply tail_step; (rw [List.getElem?_toArray]; (repeat rw [List.getElem?_cons_succ]); rw [List.getElem?_cons_zero]); rfl; rfl; intro K hK; go_simp
          clear ent
          refine (HC.out _ hBw.out.drew).mono ?_
          rintro e' w2 ⟨rfl, hb2⟩
          have hb2' : Below wr.heap.size wr w2 := (Below.refl _ wr).drew.trans hb2
          have hv2 := (hb2'.block _ hp).trans HV.out
          refine hK _ _ (fun _ => hv2) ?_
          clear hK K
          have HV2 := Lib.hid hv2
          have HROW2 := Lib.hid (own_of_block HROW.out (fun k _ hk => hb2'.block k hk))
          have HB2 : Hid (Below (w.heap.size + 1) W0 w2) := HBW.out.trans (hb2'.mono (by have := HBW.out.size; omega))
          have hp2 := lt_of_heap hv2
          rw [vagg_eq u]
          clear hb2 hb2' hv2 hc2
          apply tail_step; (rw [List.getElem?_toArray]; (repeat rw [List.getElem?_cons_succ]); rw [List.getElem?_cons_zero]); rfl; rfl; intro K hK; go_simp; refine hK _ _ (fun _ => heap_alloc_old HV2.out _) ?_; clear hK K
          apply tail_step; (rw [List.getElem?_toArray]; (repeat rw [List.getElem?_cons_succ]); rw [List.getElem?_cons_zero]); rfl; rfl; intro K hK
          refine wp_append_at (.tmp 26) (.tmp 31) 25 rfl (w.heap.size + 1) 36 i0 _ 6 56 Try.underlying25 HI.out HZ0.out HZ1.out HZ2.out rfl (by decide) (.slice sa ll.length scap) ll.length (ll.flatMap vcells) rfl (HROW2.out.alloc _) ⟨w2.heap.size, 0, none⟩ 1 1 (vcells u) rfl rfl (fun q x hx => cells_new w2 #[.int .i64 u.k, .int .i64 u.m, .int .i64 u.e, .string u.t, .bool u.b, .int .i64 u.f] 36 q x hx) (by simp [vcells, Value.oneCell']) (by unfold maxLen; omega) (by omega) (by have := HB2.out.size; simp; omega) ?_
          intro v' W5 hown5 hgrow5 hloc5
          obtain ⟨gb, cap5, rfl⟩ := ownsRow_succ hown5
          have hne := row_ne_head (cs := [.int .i64 r, .int .i64 c, .slice sa ll.length scap]) HROW2.out HV2.out
          have hv5 : W5.heap[wm.heap.size]? = some (.cells #[.int .i64 r, .int .i64 c, .slice sa ll.length scap] 27) := (hgrow5.block _ (by simp; omega) (fun e => (hne _ e.symm).1 rfl)).trans (heap_alloc_old HV2.out _)
          have hne5 := row_ne_head (cs := [.int .i64 r, .int .i64 c, .slice sa ll.length scap]) hown5 hv5
          refine hK _ _ (fun h => absurd (by decide) h) ?_
          clear hK K
          go_frame
          have hb5 : Below (w.heap.size + 1) W0 W5 := (HB2.out.alloc (by have := HB2.out.size; omega) _).grown hgrow5 (by have := HB2.out.size; simp; omega) (fun k e => (hne k e).2)
          have S6 : Hid (BSt W0 (w.heap.size + 1) wm.heap.size r c (ll ++ [u]) (W5.setCell ⟨wm.heap.size, 2, none⟩ (.slice (some ⟨gb, 0, none⟩) (ll.length + 1) cap5))) := by
            refine ⟨hb5.setCell (p := ⟨wm.heap.size, 2, none⟩) hsm _, _, heap_setCell_at hv5 2 _, ?_⟩
            rw [List.length_append, List.flatMap_append]
            exact own_of_block (by simpa using hown5) (fun k hk _ => Below.heap_setCell _ _ _ _ (hne5 k hk).1)
          have x5 := cell_of_heap hv5
          have y5 := frozen_of_heap hv5
          have hp5 := lt_of_heap hv5
          clear hv5 hne5 hne hb5 hown5 hgrow5 hloc5
          apply tail_step; (rw [List.getElem?_toArray]; (repeat rw [List.getElem?_cons_succ]); rw [List.getElem?_cons_zero]); rfl; rfl; intro K hK; go_simp; refine hK _ _ (fun h => absurd (by decide) h) ?_; clear hK K
          apply tail_step; (rw [List.getElem?_toArray]; (repeat rw [List.getElem?_cons_succ]); rw [List.getElem?_cons_zero]); rfl; rfl; intro K hK; go_simp; refine hK _ _ (fun h => absurd (by decide) h) ?_; clear hK K
          refine tail_done ?_
          clear x5 y5
          go_wp2_with fail
          go_roundw
          case rel => exact ⟨j + 1, by go_num, by omega, by rw [GS.out]; exact S6⟩
          case measure => simp [intOf]; omega
        · have S2 : Hid (BSt W0 (w.heap.size + 1) wm.heap.size r c (grid U (i + 1) c) wr) := by
            rw [grid_succ]
            have e : j = c := by omega
            rw [e] at hS
            exact hS
          clear hS
          go_wp2_with fail
          go_roundw
          case rel => exact ⟨i + 1, by go_num, by omega, S2⟩
          case measure => simp [intOf]; omega
    · have e : i = r := by omega
      rw [e] at hS
      clear e
      obtain ⟨hbw, v, hv, hrow⟩ := hS.out
      obtain ⟨a, cap, rfl, hsl⟩ := own_slb hrow
      have e6 := (hbw.block w.heap.size (by omega)).trans H6.out
      have x6 := cell_of_heap e6
      have y6 := frozen_of_heap e6
      have z6 := lt_of_heap e6
      have x7 := cell_of_heap hv
      have z7 := lt_of_heap hv
      have HSL := Lib.hid hsl
      have HB : Hid (Below w.heap.size w wr) := HB0.out.trans (hbw.mono (by omega))
      have hne : wm.heap.size ≠ w.heap.size := by omega
      clear hS hbw hv hrow hsl e6
      go_wp2_with fail
      refine bodyPost_ret (v := .agg #[.int .i64 r, .int .i64 c, .slice a (grid U r c).length cap]) (by simp [results, Try.results67, go_sem, x6]) rfl ?_
      exact arr_hand (A := ⟨r, c, grid U r c⟩) (n := 0) (Nat.le_refl _) HSL.out HB.out _ _ _
end Go.Proofs.Ytgbedjeiihigaaa
