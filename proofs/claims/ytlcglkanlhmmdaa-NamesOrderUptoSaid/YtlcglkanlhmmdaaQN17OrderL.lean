/- NamesOrder: the walk. -/
import Derived.Test.YtlcglkanlhmmdaaQN17OwnL
import Derived.Test.YtlcglkanlhmmdaaQN17OrderP
namespace Go.Proofs.Ytlcglkanlhmmdaa
open Go.RowKit Go.Shelf Go.Maps
attribute [local go_sem] Oper.semAt_some
theorem end_two {n : Nat} {P : Program} {fn : Func} {tm : Array Value} {R : Ending → World → Prop} {D E : Nat} {W : World} (hD : W.heap[D]? = some (.deferred (some []))) (hE : W.heap[E]? = some (.deferred (some []))) (hne : E ≠ D) (v : Value)
    (hres : (results fn tm).run P ((W.putObj D (.deferred none)).putObj E (.deferred none)) = .ok v ((W.putObj D (.deferred none)).putObj E (.deferred none))) (hR : R (.returned v) ((W.putObj D (.deferred none)).putObj E (.deferred none))) :
    bodyPostM Fence.wide n P fn R .ret { tmps := tm, defers := [{ target := .collected D, args := #[] }, { target := .collected E, args := #[] }] } W := by
  have hE2 : (W.putObj D (.deferred none)).heap[E]? = some (.deferred (some [])) := (keep_put hD (lt_of_heap hE) hne).trans hE
  refine ⟨by simp, .inl ⟨_, _, rfl, run_takeDeferred hD, ⟨by simp, .inl ⟨_, _, rfl, run_takeDeferred hE2, ?_⟩⟩⟩⟩
  exact ⟨v, hres, hR⟩
theorem Fr.low {S : Nat → Prop} {A W W' : World} (h : Fr S A W) (hb : Below A.heap.size W W') : Fr S A W' :=
  ⟨hb.os.trans h.os, hb.tape.trans h.tape, hb.output.trans h.output, Nat.le_trans h.size hb.size, fun k hk hn => (hb.block k hk).trans (h.block k hk hn)⟩
/-- Two tables side by side. -/
structure Duo (wx : World) (pa pb b6 : Nat) (ma mb : Option Nat) (La Lb : List (ByteArray × T)) (wr : World) : Prop where
  ta : TabK wx.heap.size wr pa ma La
  tb : TabK wx.heap.size wr pb mb Lb
  var : wr.heap[b6]? = some (.cells #[.pointer (some ⟨pb, 0, none⟩)] 40)
  bel : Below wx.heap.size wx wr
  dis : ∀ m, ma = some m → mb ≠ some m
theorem Duo.below {wx : World} {pa pb b6 : Nat} {ma mb : Option Nat} {La Lb : List (ByteArray × T)} {wr wr' : World} (h : Duo wx pa pb b6 ma mb La Lb wr) (hb : Below wr.heap.size wr wr') : Duo wx pa pb b6 ma mb La Lb wr' :=
  ⟨h.ta.below hb, h.tb.below hb, (hb.block _ (lt_of_heap h.var)).trans h.var, h.bel.trans (hb.mono h.bel.size), h.dis⟩
theorem TabK.map_lt {K pt m : Nat} {w : World} {L : List (ByteArray × T)} (h : TabK K w pt (some m) L) : m < w.heap.size := by
  obtain ⟨vs, h1, _⟩ := h.2.1
  exact h1.lt'
theorem Duo.setA {wx : World} {pa pb b6 : Nat} {ma mb ma5 : Option Nat} {La Lb La5 : List (ByteArray × T)} {wr w5 : World} (h : Duo wx pa pb b6 ma mb La Lb wr) (hab : pa ≠ pb) (ha6 : pa ≠ b6) (hT : TabK wx.heap.size w5 pa ma5 La5) (hm : ∀ m, ma5 = some m → ma = some m ∨ wr.heap.size ≤ m)
    (hf : Fr (fun k => wx.heap.size ≤ k ∧ (k = pa ∨ ma = some k)) wr w5) : Duo wx pa pb b6 ma5 mb La5 Lb w5 := by
  refine ⟨hT, h.tb.thin hf h.ta.thins ?_ ?_, (hf.block b6 (lt_of_heap h.var) ?_).trans h.var, h.bel.trans (hf.below h.bel.size (fun k hk => hk.1)), fun m h1 h2 => ?_⟩
  · rintro ⟨_, e | e⟩
    · exact hab e.symm
    · exact h.ta.map_ne h.tb.1 pb e rfl
  · rintro m hmb ⟨_, e | e⟩
    · exact h.tb.map_ne h.ta.1 m hmb e
    · exact h.dis m e hmb
  · rintro ⟨_, e | e⟩
    · exact ha6 e.symm
    · exact h.ta.map_ne h.var b6 e rfl
  · rcases hm m h1 with e | e
    · exact h.dis m e h2
    · subst h2
      have := h.tb.map_lt
      omega
theorem Duo.setB {wx : World} {pa pb b6 : Nat} {ma mb mb5 : Option Nat} {La Lb Lb5 : List (ByteArray × T)} {wr w5 : World} (h : Duo wx pa pb b6 ma mb La Lb wr) (hab : pa ≠ pb) (hb6 : pb ≠ b6) (hT : TabK wx.heap.size w5 pb mb5 Lb5) (hm : ∀ m, mb5 = some m → mb = some m ∨ wr.heap.size ≤ m)
    (hf : Fr (fun k => wx.heap.size ≤ k ∧ (k = pb ∨ mb = some k)) wr w5) : Duo wx pa pb b6 ma mb5 La Lb5 w5 := by
  refine ⟨h.ta.thin hf h.tb.thins ?_ ?_, hT, (hf.block b6 (lt_of_heap h.var) ?_).trans h.var, h.bel.trans (hf.below h.bel.size (fun k hk => hk.1)), fun m h1 h2 => ?_⟩
  · rintro ⟨_, e | e⟩
    · exact hab e
    · exact h.tb.map_ne h.ta.1 pa e rfl
  · rintro m hma ⟨_, e | e⟩
    · exact h.ta.map_ne h.tb.1 m hma e
    · exact h.dis m hma e
  · rintro ⟨_, e | e⟩
    · exact hb6 e.symm
    · exact h.tb.map_ne h.var b6 e rfl
  · rcases hm m h2 with e | e
    · exact h.dis m h1 e
    · subst h1
      have := h.ta.map_lt
      omega
theorem blk_after {W W5 W6 : World} {b : Nat} {o z : Obj} (h : W.heap[b]? = some o) (hb : Below W.heap.size W W5) (hf : Fr (fun k => k = W5.heap.size) (W5.alloc z) W6) : W6.heap[b]? = some o := by
  have h5 := (hb.block b (lt_of_heap h)).trans h
  have hl := lt_of_heap h5
  exact (hf.block b (by simp; omega) (by omega)).trans (heap_alloc_old h5 _)
theorem below_after {W W5 W6 : World} {z : Obj} (hb : Below W.heap.size W W5) (hf : Fr (fun k => k = W5.heap.size) (W5.alloc z) W6) : Below W.heap.size W W6 :=
  hb.trans (((Below.refl _ W5).alloc hb.size _).trans (hf.below (Nat.le_trans hb.size (by simp)) (fun k hk => by have := hb.size; omega)))
set_option maxHeartbeats 4000000 in
set_option maxRecDepth 100000 in
theorem order_law (l : List Deed) (hl : l.length ≤ 2097152) (hz : ∀ x ∈ l, x.t.size ≤ 2097152 ∧ x.t.fit ∧ x.nm.size ≤ 1048576) (a : Option Addr) (cap : Nat) (w : World) (hA : ActsAt w a l) :
    Calls Try.prog 6 #[.slice a l.length cap] w fun e w' => e = .returned (.bool true) ∧ Below w.heap.size w w' := by
  have HA := Lib.hid hA
  have HZ := Lib.hid hz
  obtain ⟨n, hn⟩ : ∃ n, l.length = n := ⟨_, rfl⟩
  rw [hn] at hl ⊢
  have HN := Lib.hid hn
  clear hA hz hn
  refine (callsIn_wide (n := 8)).1 ?_
  refine callsIn_of_wp_marks Try.func6 rfl trivial ?_ rfl
  simp only [Try.ntmps6, List.size_toArray, List.length_cons, List.length_nil, Nat.reduceAdd, Nat.reduceSub, Array.replicate_succ, Array.replicate_zero, List.push_toArray, List.append_toArray, List.nil_append, List.cons_append]
  refine wpIn_wide.2 ?_
  go_wp2_with fail
  refine (awake_any _).mono ?_
  rintro e w1 ⟨rfl, hb1⟩
  have G1 : Hid (w1.heap[w.heap.size]? = some (.cells #[.bool false] 4)) := (hb1.block _ (by simp)).trans (heap_alloc_new w _)
  have B1 : Hid (Below w.heap.size w w1) := (below_alloc w _ _ (Nat.le_refl _)).trans (hb1.mono (by simp))
  clear hb1
  have GR := Lib.hid (greats_any l (fun x hx => ⟨(HZ.out x hx).1, Nat.le_trans (HZ.out x hx).2.2 (by omega)⟩) (by rw [HN.out]; exact hl) a cap w1 (HA.out.below B1.out))
  rw [HN.out] at GR
  go_wp2_with fail
  refine GR.out.mono ?_
  rintro e w2 ⟨rfl, hb2⟩
  have G2 : Hid (w2.heap[w.heap.size]? = some (.cells #[.bool false] 4)) := (hb2.block _ (lt_of_heap G1.out)).trans G1.out
  have B2 : Hid (Below w.heap.size w w2) := B1.out.trans (hb2.mono B1.out.size)
  clear hb2 GR G1 B1
  cases hg : greatP l with
  | true =>
    go_wp2_with fail
    refine (awake_any _).mono ?_
    rintro e w3 ⟨rfl, hb3⟩
    have G3 : Hid (w3.heap[w.heap.size]? = some (.cells #[.bool false] 4)) := (hb3.block _ (lt_of_heap G2.out)).trans G2.out
    have B3 : Hid (Below w.heap.size w w3) := B2.out.trans (hb3.mono B2.out.size)
    have x3 := cell_of_heap G3.out 0
    have y3 := frozen_of_heap G3.out
    have z3 := lt_of_heap G3.out
    clear hb3
    go_wp2_with fail
    have GG6 := G3.out
    have h3 := cell_of_heap (heap_setCell_at GG6 0 (.bool true))
    refine end_plain (.bool true) ?_ ⟨rfl, (B3.out).setCell (p := ⟨w.heap.size, 0, none⟩) (Nat.le_refl _) _⟩
    simp [results, Try.results6, go_sem, h3]
  | false =>
  obtain ⟨h30, hall⟩ := greatP_no hg
  rw [HN.out] at h30
  have HALL := Lib.hid hall
  clear hg hall
  go_wp2_with fail
  go_loopg [3] n (fun gh s3 wr => ∃ k : Nat, s3 = .int .i64 (k : Int) ∧ gh = n - k ∧ k ≤ n ∧ Hid (Below w2.heap.size w2 wr) ∧ Hid (∀ (i j : Nat) (x y : Deed), j < i → i < k → l[i]? = some x → l[j]? = some y → x.nm ≠ y.nm))
  case atStart => exact ⟨0, rfl, rfl, Nat.zero_le _, Below.refl _ _, fun i j x y h1 h2 => by omega⟩
  case round =>
    obtain ⟨k, rfl, rfl, hk, hB, hD⟩ := hrel
    by_cases hlt : k < n
    · obtain ⟨x, hx⟩ : ∃ x, l[k]? = some x := ⟨_, List.getElem?_eq_getElem (by rw [HN.out]; exact hlt)⟩
      have HX := Lib.hid hx
      clear hx
      go_wp2_with fail
      go_loopg [4] k (fun gh2 s4 wr => ∃ q : Nat, s4 = .int .i64 (q : Int) ∧ gh2 = k - q ∧ q ≤ k ∧ Hid (Below w2.heap.size w2 wr) ∧ Hid (∀ (j : Nat) (y : Deed), j < q → l[j]? = some y → x.nm ≠ y.nm))
      case atStart => exact ⟨0, rfl, rfl, Nat.zero_le _, hB, fun j y h => by omega⟩
      case round =>
        obtain ⟨q, rfl, rfl, hq, hBi, hDi⟩ := hrel
        by_cases hqk : q < k
        · obtain ⟨y, hy⟩ : ∃ y, l[q]? = some y := ⟨_, List.getElem?_eq_getElem (by rw [HN.out]; omega)⟩
          have BWi : Hid (Below w.heap.size w wr) := B2.out.trans (hBi.out.mono B2.out.size)
          obtain ⟨bb, off, rfl, hb, hall⟩ := HA.out (by rw [HN.out]; omega)
          obtain ⟨_, hc1, _⟩ := hall k x HX.out
          obtain ⟨_, hd1, _⟩ := hall q y hy
          have c1 : wr.cell? ⟨bb, off + k * 24 + 1, none⟩ = some (.string x.nm) := (BWi.out.cell (p := ⟨bb, _, none⟩) hb).trans hc1
          have d1 : wr.cell? ⟨bb, off + q * 24 + 1, none⟩ = some (.string y.nm) := (BWi.out.cell (p := ⟨bb, _, none⟩) hb).trans hd1
          have hbw : bb < wr.heap.size := Nat.lt_of_lt_of_le hb BWi.out.size
          have j1 : (0 : Int) ≤ (k : Int) := by omega
          have j2 : (k : Int) < (n : Int) := by omega
          have j3 : (0 : Int) ≤ (q : Int) := by omega
          have j4 : (q : Int) < (n : Int) := by omega
          have HY := Lib.hid hy
          clear hall hc1 hd1 hb hy
          cases hxy : (x.nm.toList == y.nm.toList) with
          | true =>
            have G3 : Hid (wr.heap[w.heap.size]? = some (.cells #[.bool false] 4)) := (hBi.out.block _ (lt_of_heap G2.out)).trans G2.out
            have x3 := cell_of_heap G3.out 0
            have y3 := frozen_of_heap G3.out
            have z3 := lt_of_heap G3.out
            go_wp2_with fail
            refine wp_region_multiR [([0, 1, 2, 3, 4, 5, 6, 7, 8, 9, 10], [], [])] (by kernel_rfl) (by kernel_rfl) ?_
            refine multi_phase (Below wr.heap.size wr) (Below.refl _ _).drew ?_
            iterate 11 (first | (apply first_step; (rw [List.getElem?_toArray]; (repeat rw [List.getElem?_cons_succ]); rw [List.getElem?_cons_zero]); rfl; (intro W hB; have hc := bcellB hB; go_simp; (first | done | rfl)); go_frame) | (apply first_skip; (rw [List.getElem?_toArray]; (repeat rw [List.getElem?_cons_succ]); rw [List.getElem?_cons_zero]); rfl; go_frame))
            refine first_done ?_
            refine forced_done ?_
            refine multi_done ?_
            clear c1 d1 hbw
            go_wp2_with fail
            have h3 := cell_of_heap (heap_setCell_at G3.out 0 (.bool true))
            refine end_plain (.bool true) ?_ ⟨rfl, (BWi.out.setCell (p := ⟨w.heap.size, 0, none⟩) (Nat.le_refl _) _).drew⟩
            simp [results, Try.results6, go_sem, h3]
          | false =>
            have HNE : Hid (x.nm ≠ y.nm) := fun e => by rw [e] at hxy; simp at hxy
            go_wp2_with fail
            refine wp_region_multiR [([0, 1, 2, 3, 4, 5, 6, 7, 8, 9, 10], [], [])] (by kernel_rfl) (by kernel_rfl) ?_
            refine multi_phase (Below wr.heap.size wr) (Below.refl _ _).drew ?_
            iterate 11 (first | (apply first_step; (rw [List.getElem?_toArray]; (repeat rw [List.getElem?_cons_succ]); rw [List.getElem?_cons_zero]); rfl; (intro W hB; have hc := bcellB hB; go_simp; (first | done | rfl)); go_frame) | (apply first_skip; (rw [List.getElem?_toArray]; (repeat rw [List.getElem?_cons_succ]); rw [List.getElem?_cons_zero]); rfl; go_frame))
            refine first_done ?_
            refine forced_done ?_
            refine multi_done ?_
            clear c1 d1 hbw hxy
            go_wp2_with fail
            go_roundg (k - (q + 1))
            case measure => omega
            case rel => exact ⟨q + 1, by go_num, rfl, by omega, hBi.out.drew, fun j z hj hz2 => by
              by_cases e : j = q
              · subst e
                have := HY.out
                rw [hz2] at this
                cases this
                exact HNE.out
              · exact hDi.out j z (by omega) hz2⟩
        · have hqk2 : q = k := by omega
          subst hqk2
          have HD2 : Hid (∀ (i j : Nat) (x y : Deed), j < i → i < q + 1 → l[i]? = some x → l[j]? = some y → x.nm ≠ y.nm) := fun i j x' y' h1 h2 h3 h4 => by
            by_cases e : i = q
            · subst e
              have := HX.out
              rw [h3] at this
              cases this
              exact hDi.out j y' h1 h4
            · exact hD.out i j x' y' h1 (by omega) h3 h4
          go_wp2_with fail
          go_roundg (n - (q + 1))
          case measure => omega
          case rel => exact ⟨q + 1, by go_num, rfl, by omega, hBi, HD2⟩
    · have hkn : k = n := by omega
      subst hkn
      have NOD : Hid ((l.map Deed.nm).Nodup) := names_nodup fun i j x y h1 h2 h3 => by
        have hi := (List.getElem?_eq_some_iff.1 h2).1
        exact hD.out i j x y h1 (by rw [← HN.out]; exact hi) h2 h3
      have BX : Hid (Below w.heap.size w wr) := B2.out.trans (hB.out.mono B2.out.size)
      have GX : Hid (wr.heap[w.heap.size]? = some (.cells #[.bool false] 4)) := (hB.out.block _ (lt_of_heap G2.out)).trans G2.out
      clear hB hD hlt B2 G2
      obtain ⟨wx, hwx⟩ : ∃ wx : World, wx = wr := ⟨_, rfl⟩
      rw [← hwx] at BX GX ⊢
      clear hwx
      go_wp2_with fail
      refine (new_any wx).mono ?_
      rintro e w3 ⟨rfl, hw3⟩
      obtain ⟨pa, hpa⟩ : ∃ pa, pa = wx.heap.size := ⟨_, rfl⟩
      have h3s : w3.heap.size = wx.heap.size + 1 := by rw [hw3]; simp
      have TA3 : TabK wx.heap.size w3 pa none [] := by rw [hw3, hpa]; exact ⟨heap_alloc_new wx _, rfl, Nat.le_refl _, fun _ h => by cases h⟩
      have hb3 : Below wx.heap.size wx w3 := by rw [hw3]; exact below_alloc _ _ _ (Nat.le_refl _)
      rw [← hpa]
      have HPA := Lib.hid hpa
      have H3S := Lib.hid h3s
      have HTA3 := Lib.hid TA3
      have HB3 := Lib.hid hb3
      clear hw3 hpa h3s TA3 hb3
      go_wp2_with fail
      refine (new_any w3).mono ?_
      rintro e w4 ⟨rfl, hw4⟩
      obtain ⟨pb, hpb⟩ : ∃ pb, pb = w3.heap.size := ⟨_, rfl⟩
      have h4s : w4.heap.size = wx.heap.size + 2 := by rw [hw4]; have := H3S.out; simp; omega
      have TB4 : TabK wx.heap.size w4 pb none [] := by rw [hw4, hpb]; exact ⟨heap_alloc_new w3 _, rfl, HB3.out.size, fun _ h => by cases h⟩
      have hb4 : Below w3.heap.size w3 w4 := by rw [hw4]; exact below_alloc _ _ _ (Nat.le_refl _)
      rw [← hpb]
      have HPB := Lib.hid hpb
      have H4S := Lib.hid h4s
      have HTA4 := Lib.hid (HTA3.out.below hb4)
      have HTB4 := Lib.hid TB4
      have HB4 : Hid (Below wx.heap.size wx w4) := HB3.out.trans (hb4.mono HB3.out.size)
      clear hw4 hpb h4s TB4 hb4 HTA3 HB3
      go_upto_region 12 with fail
      refine abs_world ?_
      intro W5 hW5
      have g6 : W5.heap[w4.heap.size]? = some (.cells #[.pointer (some ⟨pb, 0, none⟩)] 40) := by rw [hW5]; first | exact heap_alloc_new w4 _ | exact heap_setCell_at (heap_alloc_new w4 _) 0 _
      have hb5 : Below w4.heap.size w4 W5 := by rw [hW5]; (repeat (first | with_reducible exact Below.refl _ _ | with_reducible exact hBW | with_reducible refine Below.setCell ?_ ?_ _ | with_reducible refine Below.alloc ?_ ?_ _ | with_reducible refine belowN ?_ _ | with_reducible refine Below.drew ?_)); all_goals (first | omega | (dsimp only; omega) | ((repeat (first | with_reducible refine le_alloc ?_ | with_reducible refine le_setCell ?_ | with_reducible refine le_drew ?_ | with_reducible refine le_drewN ?_)); omega))
      clear hW5
      obtain ⟨b6, hb6⟩ : ∃ b6, b6 = w4.heap.size := ⟨_, rfl⟩
      rw [← hb6] at g6 ⊢
      have D5 : Hid (Duo wx pa pb b6 none none (tabF (l.take 0)) (tabF (l.reverse.take 0)) W5) := ⟨HTA4.out.below hb5, HTB4.out.below hb5, g6, HB4.out.trans (hb5.mono HB4.out.size), fun _ h => by cases h⟩
      have hab : Hid (pa ≠ pb) := by have := HPA.out; have := HPB.out; have := H3S.out; show ¬ _; omega
      have ha6 : Hid (pa ≠ b6) := by have := HPA.out; have := H4S.out; show ¬ _; omega
      have hbb6 : Hid (pb ≠ b6) := by have := HPB.out; have := H3S.out; have := H4S.out; show ¬ _; omega
      have hpx : Hid (w.heap.size < wx.heap.size) := lt_of_heap GX.out
      clear g6 hb5 hb6 HTA4 HTB4 HB4 HPA HPB H3S H4S
      go_wp2_with fail
      go_loopg [7] k (fun gh s7 wr => ∃ (q : Nat) (ma mb : Option Nat), s7 = .int .i64 (q : Int) ∧ gh = k - q ∧ q ≤ k ∧ Hid (Duo wx pa pb b6 ma mb (tabF (l.take q)) (tabF (l.reverse.take q)) wr))
      case atStart => exact ⟨0, none, none, rfl, rfl, Nat.zero_le _, D5⟩
      clear D5
      case round =>
        obtain ⟨q, ma, mb, rfl, rfl, hq, hI⟩ := hrel
        by_cases hqk : q < k
        · obtain ⟨x, hx⟩ : ∃ x, l[q]? = some x := ⟨_, List.getElem?_eq_getElem (by rw [HN.out]; exact hqk)⟩
          obtain ⟨m, hm⟩ : ∃ m, m = k - 1 - q := ⟨_, rfl⟩
          obtain ⟨y, hy⟩ : ∃ y, l[m]? = some y := ⟨_, List.getElem?_eq_getElem (by rw [HN.out]; omega)⟩
          have HY : Hid (l.reverse[q]? = some y) := by
            unfold Hid
            rw [List.getElem?_reverse (by rw [HN.out]; exact hqk), HN.out, ← hm]
            exact hy
          obtain ⟨bb, off, rfl, hb, hall⟩ := HA.out (by rw [HN.out]; omega)
          obtain ⟨_, hc1, ta, tc, hc, hat⟩ := hall q x hx
          obtain ⟨_, hd1, ua, uc, hd, hut⟩ := hall m y hy
          have HX := Lib.hid hx
          have HB := Lib.hid hb
          have HC1 := Lib.hid hc1
          have HC := Lib.hid hc
          have HAT := Lib.hid hat
          have HD1 := Lib.hid hd1
          have HD := Lib.hid hd
          have HUT := Lib.hid hut
          have HZX := Lib.hid (HZ.out x (List.mem_of_getElem? hx))
          have HZY := Lib.hid (HZ.out y (List.mem_of_getElem? hy))
          have BW : Hid (Below w.heap.size w wr) := BX.out.trans (hI.out.bel.mono BX.out.size)
          have hbr : bb < wr.heap.size := Nat.lt_of_lt_of_le hb BW.out.size
          have c1 : wr.cell? ⟨bb, off + q * 24 + 1, none⟩ = some (.string x.nm) := (BW.out.cell (p := ⟨bb, _, none⟩) hb).trans hc1
          have LDN := load_nd (o := x.t.o) (s := .slice ta x.t.l.length tc) (b := bb) (off := off + q * 24 + 2) (w := wr) hbr (fun j hj => (BW.out.cell (p := ⟨bb, _, none⟩) hb).trans (hc j hj))
          have j1 : (0 : Int) ≤ (q : Int) := by omega
          have j2 : (q : Int) < (k : Int) := by omega
          have hmk : m < k := by omega
          have e1 : Hid ((k : Int) - 1 - (q : Int) = (m : Int)) := by unfold Hid; omega
          clear hall hc1 hc hat hd1 hd hut hx hy hb hm
          go_wp2_with fail
          refine wp_region_multiR [([0, 1, 2, 3, 4, 5, 6, 7, 8, 9, 10], [11], [11])] (by kernel_rfl) (by kernel_rfl) ?_
          refine multi_phase (Below wr.heap.size wr) (Below.refl _ _).drew ?_
          iterate 10 (first | (apply first_step; (rw [List.getElem?_toArray]; (repeat rw [List.getElem?_cons_succ]); rw [List.getElem?_cons_zero]); rfl; (intro W hB; have hc := bcellB hB; go_simp; (first | done | rfl)); go_frame) | (apply first_skip; (rw [List.getElem?_toArray]; (repeat rw [List.getElem?_cons_succ]); rw [List.getElem?_cons_zero]); rfl; go_frame))
          apply first_load; (rw [List.getElem?_toArray]; (repeat rw [List.getElem?_cons_succ]); rw [List.getElem?_cons_zero]); rfl; rfl; rfl; exact LDN; go_frame
          refine first_done ?_
          clear LDN c1 hbr
          have DD := Lib.hid (hI.out.below (Below.refl _ wr).drew)
          apply forced_step; (rw [List.getElem?_toArray]; (repeat rw [List.getElem?_cons_succ]); rw [List.getElem?_cons_zero]); rfl; intro K hK; go_simp
          refine (set_any wx.heap.size pa ma (tabF (l.take q)) x.nm HZX.out.2.2 x.t HZX.out.1 HZX.out.2.1 _ wr.drew DD.out.ta ⟨ta, tc, rfl, HAT.out.below (BW.out.trans ((Below.refl _ wr).drew.mono BW.out.size)) x.t⟩).mono ?_
          rintro e w5 ⟨rfl, ⟨ma5, hT5, hm5⟩, hf5⟩
          rw [← tabF_succ HX.out] at hT5
          have D5 := Lib.hid (DD.out.setA hab.out ha6.out hT5 hm5 hf5)
          refine hK _ _ (fun h => absurd (by decide) h) ?_
          clear hK K hT5 hm5 hf5 DD hI BW
          refine forced_done ?_
          refine multi_done ?_
          have BW5 : Hid (Below w.heap.size w w5) := BX.out.trans (D5.out.bel.mono BX.out.size)
          have hb5 : bb < w5.heap.size := Nat.lt_of_lt_of_le HB.out BW5.out.size
          have d1 : w5.cell? ⟨bb, off + m * 24 + 1, none⟩ = some (.string y.nm) := (BW5.out.cell (p := ⟨bb, _, none⟩) HB.out).trans HD1.out
          have LDN := load_nd (o := y.t.o) (s := .slice ua y.t.l.length uc) (b := bb) (off := off + m * 24 + 2) (w := w5) hb5 (fun j hj => (BW5.out.cell (p := ⟨bb, _, none⟩) HB.out).trans (HD.out j hj))
          have x6 := cell_of_heap D5.out.var 0
          have z6 := lt_of_heap D5.out.var
          have j3 : (0 : Int) ≤ (m : Int) := by omega
          have j4 : (m : Int) < (k : Int) := by omega
          have i1 : IntKind.i64.wrap ((k : Int) - 1) = (k : Int) - 1 := IntWalk.i64_in _ (by omega)
          have i2 : IntKind.i64.wrap ((k : Int) - 1 - (q : Int)) = (m : Int) := by rw [IntWalk.i64_in _ (by omega)]; exact e1.out
          try go_wp2_with fail
          refine wp_region_multiR [([0, 1, 2, 3, 4, 5, 6, 7, 8, 9, 10, 11, 12, 13, 14, 15, 16, 17, 18], [19], [19])] (by kernel_rfl) (by kernel_rfl) ?_
          refine multi_phase (Below w5.heap.size w5) (Below.refl _ _).drew ?_
          iterate 18 (first | (apply first_step; (rw [List.getElem?_toArray]; (repeat rw [List.getElem?_cons_succ]); rw [List.getElem?_cons_zero]); rfl; (intro W hB; have hc := bcellB hB; go_simp; (first | done | rfl)); go_frame) | (apply first_skip; (rw [List.getElem?_toArray]; (repeat rw [List.getElem?_cons_succ]); rw [List.getElem?_cons_zero]); rfl; go_frame))
          apply first_load; (rw [List.getElem?_toArray]; (repeat rw [List.getElem?_cons_succ]); rw [List.getElem?_cons_zero]); rfl; rfl; rfl; exact LDN; go_frame
          refine first_done ?_
          clear LDN d1 hb5 x6 z6 i1 i2
          have DD := Lib.hid (D5.out.below (Below.refl _ w5).drew)
          apply forced_step; (rw [List.getElem?_toArray]; (repeat rw [List.getElem?_cons_succ]); rw [List.getElem?_cons_zero]); rfl; intro K hK; go_simp
          refine (set_any wx.heap.size pb mb (tabF (l.reverse.take q)) y.nm HZY.out.2.2 y.t HZY.out.1 HZY.out.2.1 _ w5.drew DD.out.tb ⟨ua, uc, rfl, HUT.out.below (BW5.out.trans ((Below.refl _ w5).drew.mono BW5.out.size)) y.t⟩).mono ?_
          rintro e w6 ⟨rfl, ⟨mb6, hT6, hm6⟩, hf6⟩
          rw [← tabF_succ HY.out] at hT6
          have D6 := Lib.hid (DD.out.setB hab.out hbb6.out hT6 hm6 hf6)
          refine hK _ _ (fun h => absurd (by decide) h) ?_
          clear hK K hT6 hm6 hf6 DD D5 BW5
          refine forced_done ?_
          refine multi_done ?_
          go_wp2_with fail
          go_roundg (k - (q + 1))
          case measure => omega
          case rel => exact ⟨q + 1, ma5, mb6, by go_num, rfl, by omega, D6⟩
        · have hqk2 : q = k := by omega
          subst hqk2
          have ht : l.take q = l := List.take_of_length_le (by rw [HN.out]; exact Nat.le_refl _)
          have ht2 : l.reverse.take q = l.reverse := List.take_of_length_le (by rw [List.length_reverse, HN.out]; exact Nat.le_refl _)
          have DF : Hid (Duo wx pa pb b6 ma mb (tabF l) (tabF l.reverse) wr) := by have := hI.out; rw [ht, ht2] at this; exact this
          have hrev := tabF_reverse (l := l) (by rw [HN.out]; omega) NOD.out
          obtain ⟨La, hLa⟩ : ∃ La, La = tabF l := ⟨_, rfl⟩
          obtain ⟨Lb, hLb⟩ : ∃ Lb, Lb = tabF l.reverse := ⟨_, rfl⟩
          have HSA : Hid (∀ p ∈ La, p.2.size ≤ 400 ∧ p.1.size ≤ 100) := fun p hp => by
            rw [hLa] at hp
            obtain ⟨x, hx, rfl, _⟩ := tabF_mem hp
            exact ⟨(HALL.out x hx).1, (HALL.out x hx).2.1⟩
          have HRV : Hid (Lb = La.reverse) := by rw [hLa, hLb]; exact hrev
          have HLN : Hid (La.length ≤ 30) := by rw [hLa]; have := tabF_length l; have := HN.out; show _ ≤ _; omega
          have HND : Hid ((La.map Prod.fst).Nodup) := by rw [hLa]; exact (agree_all l).nodL
          rw [← hLa, ← hLb] at DF
          clear hI ht ht2 hrev hLa hLb NOD HALL
          go_upto_region 18 with fail
          refine abs_world ?_
          intro W7 hW7
          have g8 : W7.heap[wr.heap.size]? = some (.cells #[.int .i64 0] 3) := by rw [hW7]; first | exact heap_alloc_new wr _ | exact heap_setCell_at (heap_alloc_new wr _) 0 _
          have hb7 : Below wr.heap.size wr W7 := by rw [hW7]; (repeat (first | with_reducible exact Below.refl _ _ | with_reducible exact hBW | with_reducible refine Below.setCell ?_ ?_ _ | with_reducible refine Below.alloc ?_ ?_ _ | with_reducible refine belowN ?_ _ | with_reducible refine Below.drew ?_)); all_goals (first | omega | (dsimp only; omega) | ((repeat (first | with_reducible refine le_alloc ?_ | with_reducible refine le_setCell ?_ | with_reducible refine le_drew ?_ | with_reducible refine le_drewN ?_)); omega))
          clear hW7
          obtain ⟨c8, hc8⟩ : ∃ c8, c8 = wr.heap.size := ⟨_, rfl⟩
          have hbx8 : Hid (b6 < c8 ∧ pa < c8 ∧ pb < c8 ∧ wx.heap.size ≤ c8) := by rw [hc8]; exact ⟨lt_of_heap DF.out.var, lt_of_heap DF.out.ta.1, lt_of_heap DF.out.tb.1, DF.out.bel.size⟩
          rw [← hc8] at g8 ⊢
          have D7 := Lib.hid (DF.out.below hb7)
          have G8 := Lib.hid g8
          clear DF hb7 g8 hc8
          go_wp2_with fail
          refine (all20_any pa W7).mono ?_
          rintro e w8 ⟨rfl, hw8⟩
          have hb8 : Below W7.heap.size W7 w8 := by rw [hw8]; exact below_alloc _ _ _ (Nat.le_refl _)
          have GB : Hid (w8.heap[W7.heap.size]? = some (.cells #[.pointer (some ⟨pa, 0, none⟩)] 40)) := by rw [hw8]; exact heap_alloc_new W7 _
          have D8 := Lib.hid (D7.out.below hb8)
          have C8 : Hid (w8.heap[c8]? = some (.cells #[.int .i64 0] 3)) := (hb8.block _ (lt_of_heap G8.out)).trans G8.out
          have hcB : Hid (c8 < W7.heap.size) := lt_of_heap G8.out
          clear hw8 hb8 D7 G8
          obtain ⟨m, hm⟩ : ∃ m, La.length = m := ⟨_, rfl⟩
          have HM := Lib.hid hm
          have hm30 : m ≤ 30 := by have := HLN.out; omega
          clear hm
          have TBK : Hid (∀ W, Fr (fun k => k = c8) w8 W → TabK wx.heap.size W pb mb Lb ∧ W.heap[b6]? = some (.cells #[.pointer (some ⟨pb, 0, none⟩)] 40)) := fun W hf => by
            have hth : ∀ j, j = c8 → Thin w8 j := fun j e => by rw [e]; exact thin_cells C8.out
            have h := hbx8.out
            exact ⟨D8.out.tb.thin hf hth (by omega) (fun mt hmt => D8.out.tb.map_ne C8.out mt hmt), (hf.block b6 (lt_of_heap D8.out.var) (by omega)).trans D8.out.var⟩
          go_wp2_with fail
          refine (wpIn_wide (n := 8)).1 ?_
          refine range_gb (Z := fun k => k = c8) (A := ?A) rfl (by omega) (gf := 34) (lb := #[.pointer (some ⟨W7.heap.size, 0, none⟩)]) rfl trivial (enters_of Try.func34 (by kernel_rfl) rfl)
            (iter_stops W7.heap.size pa La _ w8 (fun k hk => by subst hk; exact ⟨⟨_, _, _, C8.out⟩, by have := hbx8.out; omega, by have := hcB.out; omega⟩) GB.out D8.out.ta.tab (by have := HLN.out; omega) (fun p hp => by have := HSA.out p hp; omega)) (fun _ => rfl) (fun pre x W W' h hk => h.kz pre x W W' hk)
            (fun pre W => Fr (fun k => k = c8) w8 W ∧ W.heap[c8]? = some (Obj.cells #[.int .i64 (pre.length : Int)] 3)) (fun _ _ _ => False) ?lowI ?lowX ⟨Fr.refl _ _, C8.out⟩
            (fun x b W => W.heap[b]? = some (Obj.cells (ncells x.t.o (.slice x.a x.t.l.length x.c)).toArray 35)) ?hP ?assign ?body ?done ?stop
          case lowI => exact fun pre A B h hb => ⟨h.1.low hb, (hb.block _ (lt_of_heap C8.out)).trans h.2⟩
          case lowX => exact fun c pre A B h hb => h.elim
          case hP => exact fun x b W W' h hk => hk.same b _ (fun h => h) h (.inl rfl)
          case assign =>
            intro l pre x W K hG hK
            obtain ⟨bx, hbx⟩ : ∃ bx, bx = W.heap.size := ⟨_, rfl⟩
            unfold encI
            gi_wp2_with (refine wpListIn_store_nd rfl (.tmp 10) (.tmp 85) rfl W.heap.size 0 (ncells nd0 (.slice none 0 0)) 35 (heap_alloc_new W _) (Nat.le_refl _) x.t.o (.slice x.a x.t.l.length x.c) rfl rfl rfl ?_; intro W4 p1 p2 p3)
            have hb4 : Below W.heap.size W W4 := ((Below.refl _ W).alloc (Nat.le_refl _) _).trans (p2.below (by simp) (fun k hk => by omega))
            go_frame
            rw [← hbx] at p1 ⊢
            exact hK bx W4 hbx hb4 p1
          case body =>
            rintro l pre x bx W hl ⟨r, hr⟩ ⟨hF, hc⟩ hlt hG hbx
            have hTb := TBK.out W hF
            have hmem : x.key ∈ La := (sortP_perm La).mem_iff.1 (List.mem_of_getElem? hG.1)
            have HXZ := HSA.out x.key hmem
            have HGL : Hid (getL Lb x.s = some x.t) := by rw [HRV.out]; exact getL_rev HND.out hmem
            have x6 := cell_of_heap hTb.2 0
            have z6 := lt_of_heap hTb.2
            have GT := Lib.hid (get_any Lb (fun p hp => by rw [HRV.out] at hp; have := HSA.out p (List.mem_reverse.1 hp); omega) x.s W pb hTb.1.tab)
            have HXS : Hid (x.t.size ≤ 400) := HXZ.1
            have HC := Lib.hid hc
            have HF := Lib.hid hF
            have HG := Lib.hid hG
            have HBX := Lib.hid hbx
            have hpl : pre.length < m := by rw [← HM.out]; exact hlt
            clear hTb hmem HXZ hF hc hG hbx hr hlt
            gi_wp2_with fail
            refine ⟨trivial, (CallsIn.inRound l (callsIn_wide.2 GT.out)).mono ?_⟩
            rintro e W5 ⟨he, hb5⟩
            rcases he with ⟨hg, _⟩ | ⟨u, a5, c5, S5, hg, rfl, hO5, _⟩
            · rw [HGL.out] at hg; cases hg
            rw [HGL.out] at hg
            cases hg
            have I5 := Lib.hid hO5.at
            have HB5 := Lib.hid hb5
            clear GT hO5 hb5 x6 z6
            gi_wp2_with (first | (refine wpListIn_store_nd rfl (.tmp 11) (.tmp 90) rfl W5.heap.size 0 (ncells nd0 (.slice none 0 0)) 35 (heap_alloc_new W5 _) (Nat.le_refl _) x.t.o (.slice a5 x.t.l.length c5) rfl rfl rfl ?_; intro W6 p1 p2 p3) | refine wpListIn_load_g rfl 35 (.tmp 11) rfl W5.heap.size 0 rfl _ _ (range_blk p1) Try.underlying35 rfl info35 ?_ | refine wpListIn_load_g rfl 35 (.tmp 10) rfl bx 0 rfl _ _ (range_blk (blk_after HBX.out HB5.out p2)) Try.underlying35 rfl info35 ?_)
            have HB6 := Lib.hid (below_after HB5.out p2)
            have hb56 : Below W5.heap.size W5 W6 := ((Below.refl _ W5).alloc (Nat.le_refl _) _).trans (p2.below (by simp) (fun k hk => by omega))
            have SM := same_any x.t (by have := HXS.out; omega) x.t (nagg x.t.o (.slice a5 x.t.l.length c5)) (nagg x.t.o (.slice x.a x.t.l.length x.c)) W6 ⟨a5, c5, rfl, I5.out.below hb56 x.t⟩ ⟨x.a, x.c, rfl, (HG.out.2.1.at).below HB6.out x.t⟩
            rw [(T.same_iff _ _).2 rfl] at SM
            refine ⟨trivial, (CallsIn.inRound l (callsIn_wide.2 SM)).mono ?_⟩
            rintro e W7' ⟨rfl, hb7⟩
            have HB7 : Hid (Below W.heap.size W W7') := HB6.out.trans (hb7.mono HB6.out.size)
            have C7 : Hid (W7'.heap[c8]? = some (.cells #[.int .i64 (pre.length : Int)] 3)) := (HB7.out.block _ (lt_of_heap HC.out)).trans HC.out
            have x8 := cell_of_heap C7.out 0
            have y8 := frozen_of_heap C7.out
            have z8 := lt_of_heap C7.out
            have i1 : IntKind.i64.wrap ((pre.length : Int) + 1) = (pre.length : Int) + 1 := IntWalk.i64_in _ (by omega)
            clear SM hb7 hb56 HB6 p1 p2 p3 I5
            gi_wp2
            refine ⟨(keeps_of_fr (S := fun _ => False) (Fr.of_below HB7.out) (fun _ h => h.elim)).trans ((KeepsOthers.setCell _ _ _).from _), (KZ.of_below HB7.out).trans (KZ.of_fr ((Fr.setCell W7' ⟨c8, 0, none⟩ _).mono (fun k _ h => .inl h))), (HF.out.trans (Fr.of_below HB7.out) (fun _ _ h => h)).trans (Fr.setCell W7' ⟨c8, 0, none⟩ _) (fun _ _ h => h), ?_⟩
            rw [List.length_append, List.length_singleton, Int.natCast_add]
            exact heap_setCell_at C7.out 0 _
          case stop => exact fun D c pre W _ _ h => h.elim
          case done =>
            rintro D xs W hD hS ⟨hF, hc⟩ hDD
            have hxl : xs.length = m := by have := congrArg List.length hS; rw [List.length_map, sortP_length, HM.out] at this; exact this
            rw [hxl] at hc
            have hTb := TBK.out W hF
            have x6 := cell_of_heap hTb.2 0
            have z6 := lt_of_heap hTb.2
            have HTB := Lib.hid hTb.1
            have HF := Lib.hid hF
            have HC := Lib.hid hc
            have HD := Lib.hid hDD
            have HDl : Hid (w8.heap.size ≤ D) := hD
            clear hxl hTb hF hc hDD hD hS
            go_wp2_with fail
            refine (all20_any pb W).mono ?_
            rintro e w9 ⟨rfl, hw9⟩
            have HB9 : Hid (Below W.heap.size W w9) := by rw [hw9]; exact below_alloc _ _ _ (Nat.le_refl _)
            have GB9 : Hid (w9.heap[W.heap.size]? = some (.cells #[.pointer (some ⟨pb, 0, none⟩)] 40)) := by rw [hw9]; exact heap_alloc_new W _
            have C9 : Hid (w9.heap[c8]? = some (.cells #[.int .i64 (m : Int)] 3)) := (HB9.out.block _ (lt_of_heap HC.out)).trans HC.out
            have C9' : Hid (w9.heap[c8]? = some (.cells #[.int .i64 ((m : Int) - (([] : List It).length : Int))] 3)) := by
              have h := C9.out
              unfold Hid
              rw [h]
              simp
            have D9 : Hid (w9.heap[D]? = some (.deferred (some []))) := (HB9.out.block _ (lt_of_heap HD.out)).trans HD.out
            have T9 := Lib.hid ((HTB.out.below HB9.out).tab)
            have hlb : Hid (Lb.length = m) := by rw [HRV.out]; show _ = _; rw [List.length_reverse, HM.out]
            clear hw9 x6 z6
            go_wp2_with fail
            refine (wpIn_wide (n := 8)).1 ?_
            refine range_gb (Z := fun k => k = c8) (A := ?A2) rfl (by omega) (gf := 34) (lb := #[.pointer (some ⟨W.heap.size, 0, none⟩)]) rfl trivial (enters_of Try.func34 (by kernel_rfl) rfl)
              (iter_stops W.heap.size pb Lb _ w9 (fun k hk => by subst hk; exact ⟨⟨_, _, _, C9.out⟩, by have := hbx8.out; omega, by have := lt_of_heap HC.out; omega⟩) GB9.out T9.out (by have := hlb.out; omega) (fun p hp => by rw [HRV.out] at hp; have := HSA.out p (List.mem_reverse.1 hp); omega)) (fun _ => rfl) (fun pre x W W' h hk => h.kz pre x W W' hk)
              (fun pre W => Fr (fun k => k = c8) w9 W ∧ W.heap[c8]? = some (Obj.cells #[.int .i64 ((m : Int) - (pre.length : Int))] 3)) (fun _ _ _ => False) ?lowI ?lowX ⟨Fr.refl _ _, C9'.out⟩
              (fun x b W => True) ?hP ?assign ?body ?done ?stop
            case lowI => exact fun pre A B h hb => ⟨h.1.low hb, (hb.block _ (lt_of_heap C9.out)).trans h.2⟩
            case lowX => exact fun c pre A B h hb => h.elim
            case hP => exact fun x b W W' h hk => trivial
            case assign =>
              intro l pre x W K hG hK
              obtain ⟨bx, hbx⟩ : ∃ bx, bx = W.heap.size := ⟨_, rfl⟩
              unfold encI
              gi_wp2
              exact hK bx W hbx (Below.refl _ _) trivial
            case body =>
              rintro l pre x bx W hl ⟨r, hr⟩ ⟨hF, hc⟩ hlt hG _
              have hpl : pre.length < m := by rw [← hlb.out]; exact hlt
              have x8 := cell_of_heap hc 0
              have y8 := frozen_of_heap hc
              have z8 := lt_of_heap hc
              have i1 : IntKind.i64.wrap ((m : Int) - (pre.length : Int) - 1) = (m : Int) - (pre.length : Int) - 1 := IntWalk.i64_in _ (by omega)
              have HC2 := Lib.hid hc
              have HF2 := Lib.hid hF
              clear hc hF hG hr hlt
              gi_wp2
              refine ⟨(KeepsOthers.setCell _ _ _).from _, KZ.of_fr ((Fr.setCell W ⟨c8, 0, none⟩ _).mono (fun k _ h => .inl h)), HF2.out.trans (Fr.setCell W ⟨c8, 0, none⟩ _) (fun _ _ h => h), ?_⟩
              have e : (m : Int) - ((pre ++ [x]).length : Int) = (m : Int) - (pre.length : Int) - 1 := by rw [List.length_append, List.length_singleton]; omega
              rw [e]
              exact heap_setCell_at HC2.out 0 _
            case stop => exact fun D c pre W _ _ h => h.elim
            case done =>
              rintro E ys Y hE hS2 ⟨hF2, hc2⟩ hEE
              have hyl : ys.length = m := by have := congrArg List.length hS2; rw [List.length_map, sortP_length, hlb.out] at this; exact this
              have e0 : (m : Int) - (ys.length : Int) = 0 := by omega
              rw [e0] at hc2
              have x8 := cell_of_heap hc2 0
              have z8 := lt_of_heap hc2
              have hBW : Below wx.heap.size wx W := D8.out.bel.trans (HF.out.below D8.out.bel.size (fun k hk => by have := hbx8.out; omega))
              have hB9 : Below wx.heap.size wx w9 := hBW.trans (HB9.out.mono hBW.size)
              have hBY : Below wx.heap.size wx Y := hB9.trans (hF2.below hB9.size (fun k hk => by have := hbx8.out; omega))
              have GY : Hid (Y.heap[w.heap.size]? = some (.cells #[.bool false] 4)) := (hBY.block _ hpx.out).trans GX.out
              have x3 := cell_of_heap GY.out 0
              have y3 := frozen_of_heap GY.out
              have z3 := lt_of_heap GY.out
              have HBY : Hid (Below w.heap.size w Y) := BX.out.trans (hBY.mono BX.out.size)
              have HEE := Lib.hid hEE
              have hcD : c8 < D := by have := HDl.out; have := lt_of_heap C8.out; omega
              have HDD : Hid (Y.heap[D]? = some (.deferred (some []))) := (hF2.block _ (lt_of_heap D9.out) (by omega)).trans D9.out
              have HNE : Hid (D < E) := Nat.lt_of_lt_of_le (lt_of_heap D9.out) hE
              have HWD : Hid (w.heap.size < D) := by have := hpx.out; have := hbx8.out; show _ < _; omega
              clear hS2 hF2 hc2 hEE hE hyl e0 hBW hB9 hBY hcD
              go_wp2_with fail
              have gy := heap_setCell_at GY.out 0 (.bool true)
              have dE := (KeepsOthers.setCell Y ⟨w.heap.size, 0, none⟩ (.bool true)).same E _ HEE.out rfl
              have dD := (KeepsOthers.setCell Y ⟨w.heap.size, 0, none⟩ (.bool true)).same D _ HDD.out rfl
              have q1 := (keep_put (D := E) (o' := .deferred none) dE (lt_of_heap gy) (by have := HNE.out; have := HWD.out; omega)).trans gy
              have dD2 := (keep_put (D := E) (o' := .deferred none) dE (lt_of_heap dD) (by have := HNE.out; omega)).trans dD
              have q2 := (keep_put (D := D) (o' := .deferred none) dD2 (lt_of_heap q1) (by have := HWD.out; omega)).trans q1
              have h3 := cell_of_heap q2
              refine end_two dE dD (by have := HNE.out; omega) (.bool true) ?_ ⟨rfl, below_put (below_put (HBY.out.setCell (p := ⟨w.heap.size, 0, none⟩) (Nat.le_refl _) _) (Nat.le_refl _) _ (by have := HNE.out; have := HWD.out; omega)) (Nat.le_refl _) _ (by have := HWD.out; omega)⟩
              simp [results, Try.results6, go_sem, h3]
end Go.Proofs.Ytlcglkanlhmmdaa
