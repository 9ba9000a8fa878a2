/- SpillActs: the acts. -/
import Derived.Test.YtihfmcadcojjnaaS23R8
import Derived.Test.YtihfmcadcojjnaaS23PlayP
import Derived.Test.YtihfmcadcojjnaaS23Iter
import Derived.Test.YtihfmcadcojjnaaRangeBox
import Derived.Test.YtihfmcadcojjnaaMixIn
namespace Go.Proofs.Ytihfmcadcojjnaa
open Go.RowKit Go.Shelf
attribute [local go_sem] Oper.semAt_some
theorem own_heap {β : Type} (B k : Nat) (f : β → Obj) (hf : ∀ s, (f s).isCells = true) : OwnFrom B (fun s W => W.heap[k]? = some (f s)) := fun s X Y row hs hg hr =>
  (hg.block k (lt_of_heap hs) (fun e => by
    obtain ⟨_, o, ho, hc⟩ := hr k e.symm
    rw [hs] at ho
    cases ho
    rw [hf] at hc
    cases hc)).trans hs
theorem own_pure {β : Type} (B : Nat) (f : β → Prop) : OwnFrom B (fun s _ => f s) := fun _ _ _ _ h _ _ => h
theorem keep_put {W : World} {D k : Nat} {o o' : Obj} (hD : W.heap[D]? = some o) (hk : k < W.heap.size) (hne : k ≠ D) : (W.putObj D o').heap[k]? = W.heap[k]? := by
  have _ := hD
  exact (grownBy_putObj' W D o').block k hk (fun e => hne (by cases e; rfl))
theorem end_ret {n : Nat} {P : Program} {fn : Func} {tm : Array Value} {R : Ending → World → Prop} {D : Nat} {W : World} (hD : W.heap[D]? = some (.deferred (some []))) (v : Value)
    (hres : (results fn tm).run P (W.putObj D (.deferred none)) = .ok v (W.putObj D (.deferred none))) (hR : R (.returned v) (W.putObj D (.deferred none))) :
    bodyPostM Fence.wide n P fn R .ret { tmps := tm, defers := [{ target := .collected D, args := #[] }] } W := by
  refine ⟨by simp, .inl ⟨_, _, rfl, run_takeDeferred hD, ?_⟩⟩
  exact ⟨v, hres, hR⟩
theorem below_put {B : Nat} {w W : World} {D : Nat} (h : Below B w W) (hB : B ≤ w.heap.size) (o : Obj) (hD : B ≤ D) : Below B w (W.putObj D o) :=
  h.grown (grownBy_putObj' W D o) (Nat.le_trans hB h.size) (fun k e => by cases e; exact hD)
theorem abs_worldIn {F : Fence} {n : Nat} {P : Program} {c : Code} {Q : Exit → Act → World → Prop} {a : Act} {w : World} (h : ∀ W, W = w → Code.wpIn F n P c Q a W) : Code.wpIn F n P c Q a w := h w rfl
theorem prefix_snoc {α : Type} {P L : List α} {x : α} (h : P <+: L) (hx : L[P.length]? = some x) : P ++ [x] <+: L := by
  obtain ⟨t, rfl⟩ := h
  rw [List.getElem?_append_right (by omega)] at hx
  simp only [Nat.sub_self] at hx
  cases t with
  | nil => simp at hx
  | cons y r =>
    simp at hx
    subst hx
    exact ⟨r, by simp⟩
theorem prefix_at {α : Type} {P L : List α} {x : α} (h : P ++ [x] <+: L) : L[P.length]? = some x := by
  obtain ⟨t, rfl⟩ := h
  simp
theorem q_inj {g : G} (h : BInv g) {v u : Ver} (hv : v ∈ g.L) (hu : u ∈ g.L) (e : v.q = u.q) : v = u := by
  simp only [Ver.q, Prod.mk.injEq] at e
  rw [← verdict_at h hv, ← verdict_at h hu, e.1, e.2.1]
theorem neq_bool (W : World) (b : Bool) : (binOp .neq 4 (.bool b) (.bool b)).run Try.prog W = .ok (.bool false) W := by
  cases b <;> kernel_rfl
def AcOk (l : List Ac) : Prop := ∀ x ∈ l, Small x.r ∧ Small x.c
/-- Acts that are done: the board by them, and the document's beside it. -/
def St8 (w wr : World) (p q : Nat) (g : G) (k : Nat) : Prop := ∃ fa fc F la lc L, Ev w wr p q g fa fc F la lc L ∧ F.length ≤ k ∧ L.length ≤ k
set_option maxHeartbeats 4000000 in
set_option maxRecDepth 100000 in
theorem acts_main (rows cols : Int) (aa : Option Addr) (acap : Nat) (l : List Ac) (w : World) (hA : ActsAt w aa l) (hO : AcOk l) (hl : l.length ≤ 60) :
    Calls Try.prog 8 #[.int .i64 rows, .int .i64 cols, .slice aa l.length acap] w fun e w' => e = .returned (.bool true) ∧ Below w.heap.size w w' := by
  have HA := Lib.hid hA
  have HO := Lib.hid hO
  clear hA hO
  refine (callsIn_wide (n := 8)).1 ?_
  refine callsIn_of_wp_marks Try.func8 rfl trivial ?_ rfl
  simp only [Try.ntmps8, List.size_toArray, List.length_cons, List.length_nil, Nat.reduceAdd, Nat.reduceSub, Array.replicate_succ, Array.replicate_zero, List.push_toArray, List.append_toArray, List.nil_append, List.cons_append]
  refine wpIn_wide.2 ?_
  go_wp2_with fail
  refine (awake_any _).mono ?_
  rintro e w1 ⟨rfl, hb⟩
  have T1 : Hid (w1.heap[w.heap.size]? = some (.cells #[.bool false] 4)) := (hb.block _ (by simp)).trans (heap_alloc_new _ _)
  have F1 : Hid (Below w.heap.size w w1) := (below_alloc w _ _ (Nat.le_refl _)).trans (hb.mono (by simp))
  clear hb
  go_wp2_with fail
  refine (new_any rows cols _).mono ?_
  rintro e w2 ⟨rfl, b2, f2, z2⟩
  have B2 := Lib.hid b2
  have F2 := Lib.hid f2
  clear b2 f2 z2
  generalize hp : w1.heap.size + 3 = p at B2 ⊢
  clear hp
  go_wp2_with fail
  refine (refNew_any rows cols _).mono ?_
  rintro e w3 ⟨rfl, f3⟩
  have z1 : w.heap.size < w1.heap.size := lt_of_heap T1.out
  have E0 : Hid (St8 w (w3.alloc (.cells #[.int .i64 (clamp rows), .int .i64 (clamp cols), .slice none 0 0, .slice none 0 0] 53)) p w3.heap.size (actAll (gNew rows cols) (l.take 0)) 0) := by
    have hb := below_alloc w3 (.cells #[.int .i64 (clamp rows), .int .i64 (clamp cols), .slice none 0 0, .slice none 0 0] 53) _ (Nat.le_refl _)
    have hz := Nat.le_trans F2.out.size f3.size
    refine ⟨none, 0, [], none, 0, [], ⟨?_, ?_, Rel.new rows cols, ⟨_, (B2.out.below f3).below hb, fun k hk => ⟨by omega, fun e => ?_⟩, fun ad h => (by cases h), fun ad h => (by cases h)⟩, heap_alloc_new _ _, fun h => (by simp at h), fun h => (by simp at h), fun _ => ⟨rfl, rfl⟩, fun _ => ⟨rfl, rfl⟩, by omega, fun ad h => (by cases h), fun ad h => (by cases h)⟩, Nat.le_refl _, Nat.le_refl _⟩
    · exact ((F1.out.trans (F2.out.mono (by omega))).trans (f3.mono (by have := F2.out.size; omega))).trans (hb.mono (by omega))
    · exact (hb.block _ (by omega)).trans ((f3.block _ (by have := F2.out.size; omega)).trans ((F2.out.block _ (by omega)).trans T1.out))
    · have := hk.2
      have := f3.size
      omega
  clear f3 F1 F2 B2 T1 z1
  unfold xv
  go_wp2_with fail
  generalize w3.heap.size = q at E0 ⊢
  go_loopw [9] (fun i wr => ∃ k : Nat, i = .int .i64 k ∧ k ≤ l.length ∧ Hid (St8 w wr p q (actAll (gNew rows cols) (l.take k)) k)) (fun i _ => l.length - (intOf i).toNat)
  case atStart => exact ⟨0, rfl, Nat.zero_le _, E0⟩
  case round =>
    clear E0
    obtain ⟨k, rfl, hk, hS⟩ := hrel
    by_cases hlt : k < l.length
    · obtain ⟨⟨af, ar, ac, ars, acs⟩, hx⟩ : ∃ x, l[k]? = some x := ⟨_, List.getElem?_eq_getElem hlt⟩
      have TK := Lib.hid (actAll_snoc (gNew rows cols) hx)
      generalize actAll (gNew rows cols) (l.take k) = g at hS TK
      obtain ⟨fa, fc, F, la, lc, L, hE, hFk, hLk⟩ := hS.out
      have HE := Lib.hid hE
      obtain ⟨b, off, rfl, hbb, hcell⟩ := HA.out (by omega)
      have hbw : b < wr.heap.size := Nat.lt_of_lt_of_le hbb hE.b.size
      obtain ⟨c0, c1, c2, c3, c4⟩ := hcell k _ hx
      have d0 := (hE.b.cell (p := ⟨b, off + k * 5, none⟩) hbb).trans c0
      have d1 := (hE.b.cell (p := ⟨b, off + k * 5 + 1, none⟩) hbb).trans c1
      have d2 := (hE.b.cell (p := ⟨b, off + k * 5 + 2, none⟩) hbb).trans c2
      have d3 := (hE.b.cell (p := ⟨b, off + k * 5 + 3, none⟩) hbb).trans c3
      have d4 := (hE.b.cell (p := ⟨b, off + k * 5 + 4, none⟩) hbb).trans c4
      simp only at d0 d1 d2 d3 d4
      have j1 : (0 : Int) ≤ (k : Int) := by omega
      have j2 : (k : Int) < (l.length : Int) := by omega
      have x0 := cell_of_heap hE.x
      have x1 := lt_of_heap hE.x
      clear hx hS hE c0 c1 c2 c3 c4 hcell
      have hba := below_alloc wr (.cells #[.bool af, .int .i64 ar, .int .i64 ac, .int .i64 ars, .int .i64 acs] 23) _ (Nat.le_refl _)
      have E1 := Lib.hid (HE.out.below hba)
      have A1 : Hid ((wr.alloc (.cells #[.bool af, .int .i64 ar, .int .i64 ac, .int .i64 ars, .int .i64 acs] 23)).heap[wr.heap.size]? = some (.cells #[.bool af, .int .i64 ar, .int .i64 ac, .int .i64 ars, .int .i64 acs] 23)) := heap_alloc_new _ _
      have HBA := Lib.hid hba
      clear hba
      cases af with
      | true =>
        cases ho : okFill g ar ac with
        | false =>
          have HOF := Lib.hid ho
          clear ho
          go_wp2_with fail
          refine (refFill_no HE.out.rel fa fc la lc ar ac _ (by omega) HOF.out).mono ?_
          rintro e w4 ⟨rfl, b4⟩
          have B4 : Hid (Below wr.heap.size wr w4) := HBA.out.trans (b4.mono HBA.out.size)
          have A4 : Hid (w4.heap[wr.heap.size]? = some (.cells #[.bool true, .int .i64 ar, .int .i64 ac, .int .i64 ars, .int .i64 acs] 23)) := (b4.block _ (by simp)).trans A1.out
          clear b4 d0 d1 d2 d3 d4 x0 x1
          have a0 := cell_of_heap A4.out
          have a1 := lt_of_heap A4.out
          unfold xv
          obtain ⟨S, hbd, hSS, n1, n2⟩ := HE.out.bd'
          have HBD := Lib.hid hbd
          have HSS := Lib.hid hSS
          have N1 := Lib.hid n1
          have N2 := Lib.hid n2
          clear hbd hSS n1 n2
          go_wp2_with fail
          have hb3 : Below wr.heap.size wr (w4.alloc (.cells #[.int .i64 g.rows, .int .i64 g.cols, .slice fa F.length fc, .slice la L.length lc] 53)) := B4.out.alloc B4.out.size _
          refine (fill_any (HBD.out.below hb3) ar ac).mono ?_
          rw [HOF.out, fill_no HOF.out]
          rintro e w5 ⟨rfl, bd5, f5⟩
          obtain ⟨p1, p2, p3, p4⟩ := HE.out.after hb3 HSS.out f5
          have X5 : Hid (w5.heap[w4.heap.size]? = some (.cells #[.int .i64 g.rows, .int .i64 g.cols, .slice fa F.length fc, .slice la L.length lc] 53)) := p4 _ _ B4.out.size (heap_alloc_new _ _)
          have E6 : Hid (St8 w ((((w5.setCell ⟨q, 0, none⟩ (.int .i64 g.rows)).setCell ⟨q, 1, none⟩ (.int .i64 g.cols)).setCell ⟨q, 2, none⟩ (.slice fa F.length fc)).setCell ⟨q, 3, none⟩ (.slice la L.length lc)) p q (gAct g ⟨true, ar, ac, ars, acs⟩) (k + 1)) := by
            have e : gAct g ⟨true, ar, ac, ars, acs⟩ = g := fill_no HOF.out
            rw [e]
            exact ⟨fa, fc, F, la, lc, L, Ev.store p1 p2 p3 ⟨S, bd5, fun k hk => (HSS.out k hk).1, N1.out, N2.out⟩ HE.out.rel ((HE.out.f.below hb3).fr f5 N1.out) ((HE.out.l.below hb3).fr f5 N2.out) HE.out.f0 HE.out.l0 HE.out.q0 HE.out.fq HE.out.lq, by omega, by omega⟩
          have y0 := cell_of_heap X5.out
          have y1 := lt_of_heap X5.out
          have y2 := cell_of_heap p3
          have y3 := frozen_of_heap p3
          have y4 := lt_of_heap p3
          clear a0 a1 bd5 f5 hb3 p1 p2 p3 p4
          go_wp2
          go_roundw
          case rel => exact ⟨k + 1, by go_num, by omega, by rw [TK.out]; exact E6⟩
          case measure => simp [intOf]; omega
        | true =>
          have HOF := Lib.hid ho
          obtain rfl := okFill_L HE.out.rel ho
          obtain ⟨rfl, rfl⟩ := HE.out.l0 rfl
          clear ho
          go_wp2_with fail
          refine (refFill_yes fa fc ar ac _ E1.out.f (by omega) HE.out.f0 HOF.out).mono ?_
          rintro e w4 ⟨fa', fc', rfl, hP', hfr', b4⟩
          have B4 : Hid (Below wr.heap.size wr w4) := HBA.out.trans (b4.mono HBA.out.size)
          have A4 : Hid (w4.heap[wr.heap.size]? = some (.cells #[.bool true, .int .i64 ar, .int .i64 ac, .int .i64 ars, .int .i64 acs] 23)) := (b4.block _ (by simp)).trans A1.out
          have HP' := Lib.hid hP'
          have HFR : Hid (∀ ad, fa' = some ad → wr.heap.size ≤ ad.block) := fun ad h => Nat.le_trans HBA.out.size (hfr' ad h)
          clear b4 d0 d1 d2 d3 d4 x0 x1 hP' hfr'
          have a0 := cell_of_heap A4.out
          have a1 := lt_of_heap A4.out
          unfold xv
          obtain ⟨S, hbd, hSS, n1, n2⟩ := HE.out.bd'
          have HBD := Lib.hid hbd
          have HSS := Lib.hid hSS
          have N2 := Lib.hid n2
          clear hbd hSS n1 n2
          go_wp2_with fail
          have hb4' : Below w4.heap.size w4 (w4.alloc (.cells #[.int .i64 g.rows, .int .i64 g.cols, .slice fa' (F.length + 1) fc', .slice none 0 0] 53)) := below_alloc _ _ _ (Nat.le_refl _)
          have hb3 : Below wr.heap.size wr (w4.alloc (.cells #[.int .i64 g.rows, .int .i64 g.cols, .slice fa' (F.length + 1) fc', .slice none 0 0] 53)) := B4.out.alloc B4.out.size _
          refine (fill_any (HBD.out.below hb3) ar ac).mono ?_
          rw [HOF.out]
          rintro e w5 ⟨rfl, bd5, f5⟩
          obtain ⟨p1, p2, p3, p4⟩ := HE.out.after hb3 HSS.out f5
          have X5 : Hid (w5.heap[w4.heap.size]? = some (.cells #[.int .i64 g.rows, .int .i64 g.cols, .slice fa' (F.length + 1) fc', .slice none 0 0] 53)) := p4 _ _ B4.out.size (heap_alloc_new _ _)
          have NF : Nin fa' S := nin_new HFR.out (fun k hk => (HSS.out k hk).2)
          have hgr : (gFill g ar ac).rows = g.rows ∧ (gFill g ar ac).cols = g.cols := by unfold gFill; split <;> exact ⟨rfl, rfl⟩
          have E6 : Hid (St8 w ((((w5.setCell ⟨q, 0, none⟩ (.int .i64 g.rows)).setCell ⟨q, 1, none⟩ (.int .i64 g.cols)).setCell ⟨q, 2, none⟩ (.slice fa' (F.length + 1) fc')).setCell ⟨q, 3, none⟩ (.slice none 0 0)) p q (gAct g ⟨true, ar, ac, ars, acs⟩) (k + 1)) := by
            have e : gAct g ⟨true, ar, ac, ars, acs⟩ = gFill g ar ac := rfl
            have hs := Ev.store (w := w) (p := p) (q := q) (g' := gFill g ar ac) (fa' := fa') (fc' := fc') (F' := F ++ [(ar, ac)]) (la' := none) (lc' := 0) (L' := []) p1 p2 p3 ⟨S, bd5, fun k hk => (HSS.out k hk).1, NF, N2.out⟩ (HE.out.rel.fill ar ac HOF.out) ((HP'.out.below hb4').fr f5 NF) (fun h => (by simp at h)) (fun h => (by simp at h)) (fun _ => ⟨rfl, rfl⟩) HE.out.q0 (nin_new HFR.out (fun k hk => by have := lt_of_heap HE.out.x; omega)) (fun ad h => (by cases h))
            rw [hgr.1, hgr.2, List.length_append] at hs
            rw [e]
            exact ⟨fa', fc', F ++ [(ar, ac)], none, 0, [], hs, by simp; omega, by simp⟩
          have y0 := cell_of_heap X5.out
          have y1 := lt_of_heap X5.out
          have y2 := cell_of_heap p3
          have y3 := frozen_of_heap p3
          have y4 := lt_of_heap p3
          clear a0 a1 bd5 f5 hb3 hb4' p1 p2 p3 p4 NF hgr
          go_wp2
          go_roundw
          case rel => exact ⟨k + 1, by go_num, by omega, by rw [TK.out]; exact E6⟩
          case measure => simp [intOf]; omega
      | false =>
        go_wp2_with fail
        refine (refDec_any HE.out.rel fa fc la lc ar ac ars acs _ E1.out.f (by omega) E1.out.l HE.out.l0 (by omega)).mono ?_
        rintro e w4 ⟨la', lc', rfl, hR', hfr', hsm, b4⟩
        have B4 : Hid (Below wr.heap.size wr w4) := HBA.out.trans (b4.mono HBA.out.size)
        have A4 : Hid (w4.heap[wr.heap.size]? = some (.cells #[.bool false, .int .i64 ar, .int .i64 ac, .int .i64 ars, .int .i64 acs] 23)) := (b4.block _ (by simp)).trans A1.out
        have HR' := Lib.hid hR'
        have HFR : Hid (la' = la ∨ ∀ ad, la' = some ad → wr.heap.size ≤ ad.block) := hfr'.imp id (fun h ad e => Nat.le_trans HBA.out.size (h ad e))
        have HSM := Lib.hid hsm
        clear b4 d0 d1 d2 d3 d4 x0 x1 hR' hfr' hsm
        have a0 := cell_of_heap A4.out
        have a1 := lt_of_heap A4.out
        unfold xv
        obtain ⟨S, hbd, hSS, n1, n2⟩ := HE.out.bd'
        have HBD := Lib.hid hbd
        have HSS := Lib.hid hSS
        have N1 := Lib.hid n1
        have N2 := Lib.hid n2
        clear hbd hSS n1 n2
        obtain ⟨L', hL'⟩ : ∃ L', (gDecide g ar ac ars acs).L = L' := ⟨_, rfl⟩
        have HL' := Lib.hid hL'
        rw [hL'] at HR' ⊢
        obtain ⟨er, her⟩ : ∃ er, gErr g ar ac ars acs = er := ⟨_, rfl⟩
        have HER := Lib.hid her
        rw [her] at HSM ⊢
        clear hL' her
        go_wp2_with fail
        have hb4' : Below w4.heap.size w4 (w4.alloc (.cells #[.int .i64 g.rows, .int .i64 g.cols, .slice fa F.length fc, .slice la' L'.length lc'] 53)) := below_alloc _ _ _ (Nat.le_refl _)
        have hb3 : Below wr.heap.size wr (w4.alloc (.cells #[.int .i64 g.rows, .int .i64 g.cols, .slice fa F.length fc, .slice la' L'.length lc'] 53)) := B4.out.alloc B4.out.size _
        refine (decide_any (HBD.out.below hb3) (by rw [HE.out.rel.l]; omega) ar ac ars acs).mono ?_
        rintro e w5 ⟨rfl, bd5, f5⟩
        rw [HER.out]
        obtain ⟨p1, p2, p3, p4⟩ := HE.out.after hb3 HSS.out f5
        have X5 : Hid (w5.heap[w4.heap.size]? = some (.cells #[.int .i64 g.rows, .int .i64 g.cols, .slice fa F.length fc, .slice la' L'.length lc'] 53)) := p4 _ _ B4.out.size (heap_alloc_new _ _)
        have NL : Nin la' S := by
          rcases HFR.out with h | h
          · rw [h]; exact N2.out
          · exact nin_new h (fun k hk => (HSS.out k hk).2)
        have R5 : Hid (RctAt w5 la' L') := (HR'.out.below hb4').fr f5 NL
        have hrel : Rel (gDecide g ar ac ars acs) F L' := by rw [← HL'.out]; exact HE.out.rel.dec ar ac ars acs
        have hll : L'.length ≤ k + 1 := by
          have := len_decide g ar ac ars acs
          rw [HL'.out, HE.out.rel.l] at this
          omega
        have fal := HE.out.fl
        have lal := HE.out.ll
        have hlal : ∀ ad, la' = some ad → ad.block < (w4.alloc (.cells #[.int .i64 g.rows, .int .i64 g.cols, .slice fa F.length fc, .slice la' L'.length lc'] 53)).heap.size := fun ad e => by
          by_cases h0 : L' = []
          · rcases HFR.out with h | h
            · rw [h] at e
              have := lal ad e
              exact Nat.lt_of_lt_of_le this hb3.size
            · exfalso
              by_cases he0 : er = 0
              · have := dec_L (HER.out.trans he0)
                rw [HL'.out, h0] at this
                simp at this
              · have := HSM.out he0
                rw [this.1] at e
                have h1 := lal ad e
                rw [this.1] at h
                have h2 := h ad e
                omega
          · obtain ⟨b', off', h1, h2, _⟩ := HR'.out (List.length_pos_iff.2 h0)
            rw [h1] at e
            cases e
            exact Nat.lt_of_lt_of_le h2 hb4'.size
        have hl0' : L' = [] → la' = none ∧ lc' = 0 := fun h0 => by
          by_cases he0 : er = 0
          · have := dec_L (HER.out.trans he0)
            rw [HL'.out, h0] at this
            simp at this
          · have hsm := HSM.out he0
            have : gDecide g ar ac ars acs = g := dec_same (by rw [HER.out]; exact he0)
            rw [this, HE.out.rel.l] at HL'
            rw [hsm.1, hsm.2]
            exact HE.out.l0 (HL'.out.trans h0)
        have hgr := dec_size (g := g) ar ac ars acs
        have hlq : Nin la' (fun k => k = q) := by
          rcases HFR.out with h | h
          · rw [h]; exact HE.out.lq
          · exact nin_new h (fun k hk => by have := lt_of_heap HE.out.x; omega)
        have E6 : Hid (St8 w ((((w5.setCell ⟨q, 0, none⟩ (.int .i64 g.rows)).setCell ⟨q, 1, none⟩ (.int .i64 g.cols)).setCell ⟨q, 2, none⟩ (.slice fa F.length fc)).setCell ⟨q, 3, none⟩ (.slice la' L'.length lc')) p q (gAct g ⟨false, ar, ac, ars, acs⟩) (k + 1)) := by
          have e : gAct g ⟨false, ar, ac, ars, acs⟩ = gDecide g ar ac ars acs := rfl
          have hs := Ev.store (w := w) (p := p) (q := q) (g' := gDecide g ar ac ars acs) (fa' := fa) (fc' := fc) (F' := F) (la' := la') (lc' := lc') (L' := L') p1 p2 p3
            ⟨_, bd5, fun k hk => ?_, fun ad h hk => ?_, fun ad h hk => ?_⟩ hrel ((HE.out.f.below hb3).fr f5 N1.out) R5.out HE.out.f0 hl0' HE.out.q0 HE.out.fq hlq
          · rw [hgr.1, hgr.2] at hs
            rw [e]
            exact ⟨fa, fc, F, la', lc', L', hs, by omega, hll⟩
          · rcases hk with hk | hk
            · exact (HSS.out k hk).1
            · have h1 := hk.1
              have h2 := hb3.size
              have h3 := lt_of_heap HE.out.x
              have h4 := HE.out.q0
              omega
          · rcases hk with hk | hk
            · exact N1.out ad h hk
            · have h1 := fal ad h
              have h2 := hb3.size
              have h3 := hk.1
              omega
          · rcases hk with hk | hk
            · exact NL ad h hk
            · have h1 := hlal ad h
              have h3 := hk.1
              omega
        have y0 := cell_of_heap X5.out
        have y1 := lt_of_heap X5.out
        have y2 := cell_of_heap p3
        have y3 := frozen_of_heap p3
        have y4 := lt_of_heap p3
        by_cases he0 : er = 0
        · have hL2 := dec_L (HER.out.trans he0)
          rw [HL'.out, HE.out.rel.l] at hL2
          have hst : gStands g ar ac ars acs = (gJudge g ar ac ars acs).st := by unfold gStands; rw [HER.out, he0]; simp
          rw [hst]
          generalize gJudge g ar ac ars acs = J at hL2
          obtain ⟨b', off', hla, hb', _, _, _, _, d4, _⟩ := R5.out.at (k := L.length) (v := J) (by rw [hL2]; simp)
          have hbq : b' ≠ q := fun e => hlq ⟨b', off', none⟩ hla e
          subst hla he0
          have hn : L'.length = L.length + 1 := by rw [hL2]; simp
          rw [hn] at E6 y0 ⊢
          have hw : IntKind.i64.wrap (((L.length + 1 : Nat) : Int) - 1) = (L.length : Int) := by
            rw [IntWalk.i64_in _ (by omega)]
            omega
          have i1 : (0 : Int) ≤ (L.length : Int) := by omega
          have i2 : (L.length : Int) < ((L.length + 1 : Nat) : Int) := by omega
          have nb := fun W => neq_bool W J.st
          clear a0 a1 bd5 f5 hb3 hb4' p1 p2 p3 p4 NL hrel hll fal lal hlal hl0' hgr hlq hL2 hst hn X5
          go_wp2
          go_roundw
          case rel => exact ⟨k + 1, by go_num, by omega, by rw [TK.out]; exact E6⟩
          case measure => simp [intOf]; omega
        · have hst : gStands g ar ac ars acs = false := by unfold gStands; rw [HER.out]; simp [he0]
          rw [hst]
          have s1 : (er == 0) = false := by simpa using he0
          have s2 : (er != 0) = true := by simp [he0]
          have s3 : decide (er = 0) = false := by simp [he0]
          clear a0 a1 bd5 f5 hb3 hb4' p1 p2 p3 p4 NL hrel hll fal lal hlal hl0' hgr hlq hst X5
          go_wp2
          go_roundw
          case rel => exact ⟨k + 1, by go_num, by omega, by rw [TK.out]; exact E6⟩
          case measure => simp [intOf]; omega
    · have hkl : k = l.length := by omega
      subst hkl
      rw [List.take_length] at hS
      clear hk hlt
      generalize actAll (gNew rows cols) l = g at hS
      obtain ⟨fa, fc, F, la, lc, L, hE, hFk, hLk⟩ := hS.out
      have HE := Lib.hid hE
      clear hS hE
      go_wp2_with fail
      refine (rects_any _ _).mono ?_
      rintro e w3' ⟨rfl, rfl⟩
      go_wp2_with fail
      refine (wpIn_wide (n := 8)).1 ?_
      refine abs_worldIn ?_
      intro W0 hW0
      have hz0 : W0.heap.size = wr.heap.size + 2 := by rw [hW0]; simp
      have B0 : Hid (Below wr.heap.size wr W0) := by rw [hW0]; unfold Hid; (repeat (first | with_reducible exact Below.refl _ _ | with_reducible exact hBW | with_reducible refine Below.setCell ?_ ?_ _ | with_reducible refine Below.alloc ?_ ?_ _ | with_reducible refine belowN ?_ _ | with_reducible refine Below.drew ?_)); all_goals (first | omega | (dsimp only; omega) | ((repeat (first | with_reducible refine le_alloc ?_ | with_reducible refine le_setCell ?_ | with_reducible refine le_drew ?_ | with_reducible refine le_drewN ?_)); omega))
      have e1 : W0.heap[wr.heap.size]? = some (.cells #[.int .i64 0] 3) := by rw [hW0]; (repeat (first | (with_reducible refine heap_alloc_at ?_ _; (first | rfl | (simp; done) | omega | (simp; omega)); done) | with_reducible refine heap_alloc_old ?_ _ | with_reducible refine heap_drew_old ?_ | with_reducible refine heap_drewN_old ?_))
      have e2 : W0.heap[wr.heap.size + 1]? = some (.cells #[.pointer (some ⟨p, 0, none⟩)] 26) := by rw [hW0]; (repeat (first | (with_reducible refine heap_alloc_at ?_ _; (first | rfl | (simp; done) | omega | (simp; omega)); done) | with_reducible refine heap_alloc_old ?_ _ | with_reducible refine heap_drew_old ?_ | with_reducible refine heap_drewN_old ?_))
      clear hW0
      have E0 := HE.out.below B0.out
      obtain ⟨S, hbd, hSS, n1, n2⟩ := HE.out.bd'
      have GL : Hid (g.L = L) := HE.out.rel.l
      have hgl : g.L.length ≤ 1000000 := by rw [GL.out]; omega
      refine range_box (A := ?A) rfl (by omega) (gf := 25) (lb := #[.pointer (some ⟨wr.heap.size + 1, 0, none⟩)]) rfl trivial (enters_of Try.func25 (by kernel_rfl) rfl)
        (iter_stops 7 (by omega) (wr.heap.size + 1) wr.heap.size p g hgl W0 S (cell_of_heap e2 0) (hbd.below B0.out) (fun k hk => (hSS k hk).2) B0.out.size) B0.out.size (fun _ => rfl)
        (fun pre W => (Below wr.heap.size wr W ∧ W.heap[wr.heap.size]? = some (.cells #[.int .i64 (pre.length : Nat)] 3)) ∧ (W0.heap.size ≤ W.heap.size ∧ pre.map Subtype.val <+: g.L)) (fun _ pre _ => ¬ pre.map Subtype.val <+: g.L)
        (((ownFrom_below (Nat.le_refl _) B0.out.size).and (own_heap _ _ (fun pre : List (VIn g) => .cells #[.int .i64 (pre.length : Nat)] 3) (fun _ => rfl))).and (fun s X Y row hs hg _ => ⟨Nat.le_trans hs.1 hg.size, hs.2⟩)) (fun c => own_pure _ _) ⟨⟨B0.out, e1⟩, Nat.le_refl _, List.nil_prefix⟩ (fun _ _ h => h.2.1)
        (fun x => .cells #[.int .i64 x.1.r, .int .i64 x.1.c, .int .i64 x.1.rs, .int .i64 x.1.cs] 38) (fun _ => rfl) ?assign ?body ?done ?stop
      case assign =>
        intro l x W Bx K hB hK
        unfold encV
        gi_wp2
        rw [← hB]
        exact hK
      case stop =>
        rintro D c pre W _ hp h _
        refine (h ?_).elim
        have := hp.map Subtype.val
        unfold allV at this
        rwa [List.attach_map_subtype_val] at this
      case body =>
        rintro l' pre ⟨v, hv⟩ Bx W hl' ⟨rr, hrr⟩ ⟨⟨hB1, f2⟩, hWs, hpre⟩ hBx hO hlt
        obtain ⟨u, hu⟩ : ∃ u, g.L[pre.length]? = some u := ⟨_, List.getElem?_eq_getElem hlt⟩
        have EW := HE.out.below hB1
        obtain ⟨b, off, hla, hbb, d0, d1, d2, d3, d4, d5, d6, d7⟩ := EW.l.at (show L[pre.length]? = some u by rw [← GL.out]; exact hu)
        have hvl : (pre.map Subtype.val).length = pre.length := by simp
        have HP : Hid ((pre ++ [(⟨v, hv⟩ : VIn g)]).map Subtype.val <+: g.L ↔ u = v) := by
          unfold Hid
          rw [List.map_append]
          constructor
          · intro h
            have := prefix_at h
            rw [hvl, hu] at this
            exact Option.some.inj this
          · intro h
            refine prefix_snoc hpre ?_
            rw [hvl, hu, h]
        have HQ : Hid (v.q = u.q → v = u) := q_inj HE.out.rel.inv hv (List.mem_of_getElem? hu)
        have x0 := cell_of_heap EW.x
        have x1 := lt_of_heap EW.x
        have n0 := cell_of_heap f2 0
        have nz := frozen_of_heap f2 0
        have n1 := lt_of_heap f2
        have o0 := cell_of_heap hO
        have o1 := lt_of_heap hO
        have t0 := cell_of_heap EW.t 0
        have tz := frozen_of_heap EW.t 0
        have t1 := lt_of_heap EW.t
        have T6 := Lib.hid EW.t
        have F2 := Lib.hid f2
        have HB1 := Lib.hid hB1
        have j1 : (0 : Int) ≤ (pre.length : Int) := by omega
        have j2 : (pre.length : Int) < (L.length : Int) := by rw [← GL.out]; omega
        have jc : decide ((L.length : Int) ≤ (pre.length : Int)) = false := decide_eq_false (by omega)
        have jd : decide (L.length ≤ pre.length) = false := decide_eq_false (by omega)
        have hqn : Hid (q < wr.heap.size) := lt_of_heap HE.out.x
        have HQ0 := Lib.hid HE.out.q0
        have HWS := Lib.hid hWs
        subst hla
        clear hpre hu EW hB1 f2 hWs hrr hO hvl
        obtain ⟨vr, vc, rs, cs, st, kn, br, bc⟩ := v
        obtain ⟨ur, uc, urs, ucs, ust, ukn, ubr, ubc⟩ := u
        simp only at d0 d1 d2 d3 d4 d5 d6 d7 o0
        have nq := fun W => neq_rect W (vr, vc, rs, cs) (ur, uc, urs, ucs)
        unfold encR at nq
        simp only at nq
        by_cases he : (vr, vc, rs, cs) = (ur, uc, urs, ucs)
        · have hvu := HQ.out he
          have HPP := Lib.hid (HP.out.2 hvu.symm)
          simp only [Ver.mk.injEq] at hvu
          obtain ⟨rfl, rfl, rfl, rfl, rfl, rfl, rfl, rfl⟩ := hvu
          rw [show decide ((vr, vc, rs, cs) ≠ (vr, vc, rs, cs)) = false by simp] at nq
          have nb := fun W => neq_bool W st
          clear he HP HQ
          gi_wp2_with fail
          refine wpIn_region_multiR [([0, 1, 2, 3, 4, 5, 7, 8, 9, 10, 11, 6], [12], [13, 14, 15, 16, 17, 18, 19, 20, 21, 22, 23, 24]), ([13, 14, 15, 16, 17, 18, 19, 20, 21, 22, 23, 24], [], [])] (by kernel_rfl) (by kernel_rfl) (by kernel_rfl) (by rintro ⟨a, w, h⟩; exact h) ?_
          refine multi_phase (Below W.heap.size W) (Below.refl _ _).drew ?_
          iterate 12 (first | (apply first_step; (rw [List.getElem?_toArray]; (repeat rw [List.getElem?_cons_succ]); rw [List.getElem?_cons_zero]); rfl; (intro W hB; have hc := bcellB hB; go_simp; (first | done | rfl)); go_frame) | (apply first_skip; (rw [List.getElem?_toArray]; (repeat rw [List.getElem?_cons_succ]); rw [List.getElem?_cons_zero]); rfl; go_frame))
          refine first_done ?_
          apply forced_step; (rw [List.getElem?_toArray]; (repeat rw [List.getElem?_cons_succ]); rw [List.getElem?_cons_zero]); rfl; intro K hK; go_simp
          refine (rect_any ⟨vr, vc, rs, cs, st, kn, br, bc⟩ _).mono ?_
          unfold encR
          simp only
          rintro e v2 ⟨rfl, hb2⟩
          have HZ : Hid (Below W.heap.size W v2) := (Below.refl _ W).drew.trans hb2
          refine hK _ _ (fun _ => HZ.out) ?_
          clear hK K hb2
          refine forced_done ?_
          refine multi_phase (Below W.heap.size W) HZ.out ?_
          iterate 12 (first | (apply first_step; (rw [List.getElem?_toArray]; (repeat rw [List.getElem?_cons_succ]); rw [List.getElem?_cons_zero]); rfl; (intro W hB; have hc := bcellB hB; go_simp; (first | done | rfl)); go_frame) | (apply first_skip; (rw [List.getElem?_toArray]; (repeat rw [List.getElem?_cons_succ]); rw [List.getElem?_cons_zero]); rfl; go_frame))
          refine first_done ?_
          refine forced_done ?_
          refine multi_done ?_
          have KF : Hid (KeepsFrom W0.heap.size W v2) := ⟨HZ.out.size, fun k o _ hk _ => (HZ.out.block k (lt_of_heap hk)).trans hk⟩
          clear d0 d1 d2 d3 d4 d5 d6 d7 x0 x1 n0 nz n1 o0 o1 t0 tz t1 nq
          have g2 := (HZ.out.block _ (lt_of_heap F2.out)).trans F2.out
          have g6 := (HZ.out.block _ (lt_of_heap T6.out)).trans T6.out
          have n0 := cell_of_heap g2 0
          have nz := frozen_of_heap g2 0
          have n1 := lt_of_heap g2
          have t0 := cell_of_heap g6 0
          have tz := frozen_of_heap g6 0
          have t1 := lt_of_heap g6
          have G2 := Lib.hid g2
          clear g2 g6
          clear nb
          gi_wp2
          refine ⟨KF.out.trans ((KeepsOthers.setCell _ _ _).from _), ?_, ⟨⟨?_, ?_⟩, ?_, HPP.out⟩⟩
          · exact (HZ.out.mono HB1.out.size).setCell (p := ⟨wr.heap.size, 0, none⟩) (Nat.le_refl _) _
          · exact (HB1.out.trans (HZ.out.mono HB1.out.size)).setCell (p := ⟨wr.heap.size, 0, none⟩) (Nat.le_refl _) _
          · refine (heap_setCell_at G2.out 0 _).trans ?_
            simp
          · rw [World.size_setCell]
            exact Nat.le_trans HWS.out HZ.out.size
        · have HPP : Hid (¬ (pre ++ [(⟨⟨vr, vc, rs, cs, st, kn, br, bc⟩, hv⟩ : VIn g)]).map Subtype.val <+: g.L) := fun h => he (by
            have := HP.out.1 h
            simp only [Ver.mk.injEq] at this
            simp [this])
          rw [show decide ((vr, vc, rs, cs) ≠ (ur, uc, urs, ucs)) = true from decide_eq_true he] at nq
          clear he HP HQ
          gi_wp2_with fail
          refine wpIn_region_multiR [([0, 1, 2, 3, 4, 5, 7, 8, 9, 10, 11, 6], [12], [13, 14, 15, 16, 17, 18, 19, 20, 21, 22, 23, 24]), ([13, 14, 15, 16, 17, 18, 19, 20, 21, 22, 23, 24], [], [])] (by kernel_rfl) (by kernel_rfl) (by kernel_rfl) (by rintro ⟨a, w, h⟩; exact h) ?_
          refine multi_phase (Below W.heap.size W) (Below.refl _ _).drew ?_
          iterate 12 (first | (apply first_step; (rw [List.getElem?_toArray]; (repeat rw [List.getElem?_cons_succ]); rw [List.getElem?_cons_zero]); rfl; (intro W hB; have hc := bcellB hB; go_simp; (first | done | rfl)); go_frame) | (apply first_skip; (rw [List.getElem?_toArray]; (repeat rw [List.getElem?_cons_succ]); rw [List.getElem?_cons_zero]); rfl; go_frame))
          refine first_done ?_
          apply forced_step; (rw [List.getElem?_toArray]; (repeat rw [List.getElem?_cons_succ]); rw [List.getElem?_cons_zero]); rfl; intro K hK; go_simp
          refine (rect_any ⟨ur, uc, urs, ucs, ust, ukn, ubr, ubc⟩ _).mono ?_
          unfold encR
          simp only
          rintro e v2 ⟨rfl, hb2⟩
          have HZ : Hid (Below W.heap.size W v2) := (Below.refl _ W).drew.trans hb2
          refine hK _ _ (fun _ => HZ.out) ?_
          clear hK K hb2
          refine forced_done ?_
          refine multi_phase (Below W.heap.size W) HZ.out ?_
          iterate 12 (first | (apply first_step; (rw [List.getElem?_toArray]; (repeat rw [List.getElem?_cons_succ]); rw [List.getElem?_cons_zero]); rfl; (intro W hB; have hc := bcellB hB; go_simp; (first | done | rfl)); go_frame) | (apply first_skip; (rw [List.getElem?_toArray]; (repeat rw [List.getElem?_cons_succ]); rw [List.getElem?_cons_zero]); rfl; go_frame))
          refine first_done ?_
          refine forced_done ?_
          refine multi_done ?_
          have KF : Hid (KeepsFrom W0.heap.size W v2) := ⟨HZ.out.size, fun k o _ hk _ => (HZ.out.block k (lt_of_heap hk)).trans hk⟩
          clear d0 d1 d2 d3 d4 d5 d6 d7 x0 x1 n0 nz n1 o0 o1 t0 tz t1 nq
          have g2 := (HZ.out.block _ (lt_of_heap F2.out)).trans F2.out
          have g6 := (HZ.out.block _ (lt_of_heap T6.out)).trans T6.out
          have n0 := cell_of_heap g2 0
          have nz := frozen_of_heap g2 0
          have n1 := lt_of_heap g2
          have t0 := cell_of_heap g6 0
          have tz := frozen_of_heap g6 0
          have t1 := lt_of_heap g6
          have G2 := Lib.hid g2
          clear g2 g6
          gi_wp2
          exact ⟨KF.out.trans ((KeepsOthers.setCell _ _ _).from _), HPP.out⟩
      case done =>
        rintro D zs W hD rfl ⟨⟨hB1, f2⟩, hWs, _⟩ hK
        have hlen : (allV g).length = L.length := by rw [← GL.out]; simp [allV]
        rw [hlen] at f2
        have EW := Lib.hid (HE.out.below hB1)
        have F2 := Lib.hid f2
        have HKD := Lib.hid hK
        have HDD := Lib.hid hD
        have HWN : Hid (wr.heap.size < W.heap.size) := lt_of_heap f2
        have I0 : Hid (Below W.heap.size W W) := Below.refl _ _
        clear hB1 f2 hWs hK hD hlen hbd hSS n1 n2 e1 e2 B0 E0
        go_wp2_with fail
        go_loopw [20] (fun i w' => ∃ k : Nat, i = .int .i64 k ∧ k ≤ l.length ∧ Hid (Below W.heap.size W w')) (fun i _ => l.length - (intOf i).toNat)
        case atStart => exact ⟨0, rfl, Nat.zero_le _, I0⟩
        case round =>
          obtain ⟨k, rfl, hk, hB⟩ := hrel
          have EN := Lib.hid (EW.out.below hB.out)
          by_cases hlt : k < l.length
          · obtain ⟨⟨af, ar, ac, ars, acs⟩, hx⟩ : ∃ x, l[k]? = some x := ⟨_, List.getElem?_eq_getElem hlt⟩
            obtain ⟨s1, s2⟩ := HO.out _ (List.mem_of_getElem? hx)
            simp only at s1 s2
            obtain ⟨b, off, hla, hbb, hcell⟩ := HA.out (by omega)
            obtain ⟨_, c1, c2, _, _⟩ := hcell k _ hx
            have d1 := (EN.out.b.cell (p := ⟨b, off + k * 5 + 1, none⟩) hbb).trans c1
            have d2 := (EN.out.b.cell (p := ⟨b, off + k * 5 + 2, none⟩) hbb).trans c2
            have hbw : b < wr.heap.size := Nat.lt_of_lt_of_le hbb EN.out.b.size
            simp only at d1 d2
            have S1 := Lib.hid s1
            have S2 := Lib.hid s2
            have j1 : (0 : Int) ≤ (k : Int) := by omega
            have j2 : (k : Int) < (l.length : Int) := by omega
            have x0 := cell_of_heap EN.out.x
            have x1 := lt_of_heap EN.out.x
            subst hla
            clear hx hcell c1 c2 s1 s2
            go_wp2_with fail
            refine abs_world ?_
            intro W1 hW1
            subst hW1
            obtain ⟨S, hbd, hSS, n1, n2⟩ := EN.out.bd'
            have HBD := Lib.hid hbd
            clear hbd hSS n1 n2
            refine wp_region_mix [0, 1, 2, 3, 4, 5, 6, 7, 8, 9, 10, 11] [12, 13] [12, 13] (Below W1.heap.size W1) (by kernel_rfl) (by kernel_rfl) (Below.refl _ _).drew ?_
            iterate 12 (first | (apply first_step; (rw [List.getElem?_toArray]; (repeat rw [List.getElem?_cons_succ]); rw [List.getElem?_cons_zero]); rfl; (intro W hB; have hc := bcellB hB; go_simp; (first | done | rfl)); go_frame) | (apply first_skip; (rw [List.getElem?_toArray]; (repeat rw [List.getElem?_cons_succ]); rw [List.getElem?_cons_zero]); rfl; go_frame))
            refine first_done ?_
            apply tail_step; (rw [List.getElem?_toArray]; (repeat rw [List.getElem?_cons_succ]); rw [List.getElem?_cons_zero]); rfl; rfl; intro K hK; go_simp
            have hbd' := (Below.refl W1.heap.size W1).drew
            refine (same_any g.rows g.cols fa fc F la lc L ar ac (HBD.out.below hbd') EN.out.rel (EN.out.l.below hbd') (by omega) S1.out S2.out).mono ?_
            rintro e w5 ⟨rfl, b5⟩
            have B5 : Hid (Below W.heap.size W w5) := hB.out.trans ((hbd'.trans b5).mono hB.out.size)
            refine hK _ _ (fun h => absurd (by decide) h) ?_
            clear hK K b5 hbd'
            apply tail_step; (rw [List.getElem?_toArray]; (repeat rw [List.getElem?_cons_succ]); rw [List.getElem?_cons_zero]); rfl; rfl; intro K hK; go_simp; refine hK _ _ (fun h => absurd (by decide) h) ?_; clear hK K
            refine tail_done ?_
            clear x0 x1 d1 d2
            go_wp2
            go_roundw
            case rel => exact ⟨k + 1, by go_num, by omega, B5⟩
            case measure => simp [intOf]; omega
          · have EN2 := EN
            clear EN
            go_wp2_with fail
            go_loopw [21] (fun i w' => ∃ k : Nat, i = .int .i64 k ∧ k ≤ 8 ∧ Hid (Below W.heap.size W w')) (fun i _ => 8 - (intOf i).toNat)
            case atStart => exact ⟨0, rfl, Nat.zero_le _, hB⟩
            case round =>
              clear EN2 hB
              obtain ⟨k2, rfl, hk2, hB⟩ := hrel
              have EN := Lib.hid (EW.out.below hB.out)
              have x0 := cell_of_heap EN.out.x
              have x1 := lt_of_heap EN.out.x
              obtain ⟨R8, hR8⟩ : ∃ R8, (if 8 < g.rows then (8 : Int) else g.rows) = R8 := ⟨_, rfl⟩
              have hR9 : R8 ≤ 8 := by rw [← hR8]; split <;> omega
              by_cases hi : (k2 : Int) < R8
              · have hi8 : k2 < 8 := by omega
                go_wp2_with fail
                clear x0 x1
                go_loopw [22] (fun i w' => ∃ k : Nat, i = .int .i64 k ∧ k ≤ 8 ∧ Hid (Below W.heap.size W w')) (fun i _ => 8 - (intOf i).toNat)
                case atStart => exact ⟨0, rfl, Nat.zero_le _, hB⟩
                case round =>
                  clear EN hB
                  obtain ⟨k3, rfl, hk3, hB⟩ := hrel
                  have EN := Lib.hid (EW.out.below hB.out)
                  have x0 := cell_of_heap EN.out.x
                  have x1 := lt_of_heap EN.out.x
                  obtain ⟨C8, hC8⟩ : ∃ C8, (if 8 < g.cols then (8 : Int) else g.cols) = C8 := ⟨_, rfl⟩
                  have hC9 : C8 ≤ 8 := by rw [← hC8]; split <;> omega
                  by_cases hj : (k3 : Int) < C8
                  · have hj8 : k3 < 8 := by omega
                    obtain ⟨S, hbd, hSS, n1, n2⟩ := EN.out.bd'
                    have HBD := Lib.hid hbd
                    clear hbd hSS n1 n2
                    go_wp2_with fail
                    refine (same_any g.rows g.cols fa fc F la lc L (k2 : Int) (k3 : Int) HBD.out EN.out.rel EN.out.l (by omega) ⟨by omega, by omega⟩ ⟨by omega, by omega⟩).mono ?_
                    rintro e w5 ⟨rfl, b5⟩
                    have B5 : Hid (Below W.heap.size W w5) := hB.out.trans (b5.mono hB.out.size)
                    clear b5 x0 x1
                    go_wp2
                    go_roundw
                    case rel => exact ⟨k3 + 1, by go_num, by omega, B5⟩
                    case measure => simp [intOf]; omega
                  · go_wp2
                    go_roundw
                    case rel => exact ⟨k2 + 1, by go_num, by omega, hB⟩
                    case measure => simp [intOf]; omega
              · have g2 := (hB.out.block _ (lt_of_heap F2.out)).trans F2.out
                have n0 := cell_of_heap g2
                have n1 := lt_of_heap g2
                have t0 := cell_of_heap EN.out.t
                have tz := frozen_of_heap EN.out.t
                have t1 := lt_of_heap EN.out.t
                have hKD := (hB.out.block _ (lt_of_heap HKD.out)).trans HKD.out
                have HKK := Lib.hid hKD
                have T6 := Lib.hid EN.out.t
                clear g2 hKD
                go_wp2
                refine end_ret ((KeepsOthers.setCell _ _ _).same D _ HKK.out rfl) (.bool true) ?_ ⟨rfl, below_put ?_ (Nat.le_refl _) _ ?_⟩
                · have hh := heap_setCell_at T6.out 0 (.bool true)
                  have h2 := (keep_put (D := D) (o' := .deferred none) ((KeepsOthers.setCell _ _ _).same D _ HKK.out rfl) (lt_of_heap hh) ?_).trans hh
                  · have h3 := cell_of_heap h2
                    simp [results, Try.results8, go_sem, h3]
                  · have h1 := HDD.out
                    have h2 := HE.out.b.size
                    omega
                · exact EN.out.b.setCell (p := ⟨w.heap.size, 0, none⟩) (Nat.le_refl _) _
                · have h1 := HDD.out
                  have h2 := HE.out.b.size
                  omega
set_option maxHeartbeats 2000000 in
set_option maxRecDepth 100000 in
theorem acts_long (rows cols : Int) (aa : Option Addr) (acap n : Nat) (w : World) (hl : 60 < n) :
    Calls Try.prog 8 #[.int .i64 rows, .int .i64 cols, .slice aa n acap] w fun e w' => e = .returned (.bool true) ∧ Below w.heap.size w w' := by
  go_enter Try.func8, Try.ntmps8
  go_wp2_with fail
  refine (awake_any _).mono ?_
  rintro e w1 ⟨rfl, hb⟩
  have hs1 : w.heap.size + 1 ≤ w1.heap.size := by have := hb.size; simpa using this
  have FB : Hid (Below w.heap.size w w1) := (below_alloc w _ _ (Nat.le_refl _)).trans (hb.mono (by simp))
  have G2 : Hid (w1.heap[w.heap.size]? = some (.cells #[.bool false] 4)) := (hb.block _ (by simp)).trans (heap_alloc_new _ _)
  clear hb
  go_wp2_with fail
  refine (awake_any _).mono ?_
  rintro e w2 ⟨rfl, hb⟩
  have g2 := (hb.block _ (by omega)).trans G2.out
  have x2 := cell_of_heap g2
  have z2 := frozen_of_heap g2
  have hw2 := lt_of_heap g2
  have FB2 : Hid (Below w.heap.size w w2) := FB.out.trans (hb.mono FB.out.size)
  clear hb g2
  go_wp2_with fail
  refine bodyPost_ret (v := .bool true) (by simp [results, Try.results8, go_sem, x2]) rfl ⟨rfl, ?_⟩
  exact FB2.out.setCell (p := ⟨w.heap.size, 0, none⟩) (Nat.le_refl _) _
theorem acts_law (rows cols : Int) (aa : Option Addr) (acap : Nat) (l : List Ac) (w : World) (hA : ActsAt w aa l) (hO : AcOk l) :
    Calls Try.prog 8 #[.int .i64 rows, .int .i64 cols, .slice aa l.length acap] w fun e w' => e = .returned (.bool true) ∧ Below w.heap.size w w' := by
  by_cases h : l.length ≤ 60
  · exact acts_main rows cols aa acap l w hA hO h
  · exact acts_long rows cols aa acap l.length w (by omega)
end Go.Proofs.Ytihfmcadcojjnaa
