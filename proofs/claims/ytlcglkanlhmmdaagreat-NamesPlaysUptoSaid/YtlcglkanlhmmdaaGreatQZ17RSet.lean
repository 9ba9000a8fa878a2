/- ref17: Set, with the capacity told. -/
import Derived.Test.YtlcglkanlhmmdaaGreatQN17RSet
namespace Go.Proofs.YtlcglkanlhmmdaaGreat
open Go.RowKit
def RSetZ (w : World) (R' : List (ByteArray × T)) (z : Int) : Ending → World → Prop := fun e w' => (∃ a' c', e = .returned (.tuple #[.agg #[.slice a' R'.length c'], .int .i64 z]) ∧ RowsAt w' a' R' ∧ R'.length ≤ c') ∧ Below w.heap.size w w'
/-- Set refuses: the table as it was. -/
theorem rset_noZ {R : List (ByteArray × T)} {ra : Option Addr} {rc r : Nat} {s : ByteArray} {t : T} {w W : World} {z : Int} {tm : Array Value} (hr : R.length = r) (hrc : r ≤ rc) (hRA : RowsAt w ra R) (hB : Below w.heap.size w W) (hG : W.heap[w.heap.size + 1 + 1]? = some (.cells #[.slice none 0 0] 29)) (hz : setE R s t = z) (hz0 : z ≠ 0)
    (h6 : tm.getD 6 undef = .pointer (some ⟨w.heap.size + 1 + 1, 0, none⟩)) (h7 : tm.getD 7 undef = .int .i64 z) :
    bodyPost Tryz.prog Tryz.f10 (RSetZ w (rsetL R s t) (setE R s t)) Exit.ret { tmps := tm, defers := [] } (W.setCell ⟨w.heap.size + 1 + 1, 0, none⟩ (.slice ra r rc)) := by
  have hh : (W.setCell ⟨w.heap.size + 1 + 1, 0, none⟩ (.slice ra r rc)).heap[w.heap.size + 1 + 1]? = some (.cells #[.slice ra r rc] 29) := heap_setCell_at hG 0 _
  have hb : Below w.heap.size w (W.setCell ⟨w.heap.size + 1 + 1, 0, none⟩ (.slice ra r rc)) := hB.setCell (p := ⟨w.heap.size + 1 + 1, 0, none⟩) (by show w.heap.size ≤ w.heap.size + 1 + 1; omega) _
  refine bodyPost_ret (v := .tuple #[.agg #[.slice ra r rc], .int .i64 z]) (results_43 rfl h6 h7 hh) rfl ?_
  have e : rsetL R s t = R := by unfold rsetL; rw [if_neg (by rw [hz]; exact hz0)]
  rw [e, hz]
  exact ⟨⟨ra, rc, by rw [hr], hRA.below hb, by rw [hr]; exact hrc⟩, hb⟩
theorem NamO.cap {w wr : World} {base n c : Nat} {a : Option Addr} {A : List (ByteArray × T)} (h : NamO w wr base (.slice a n c) A) : A.length ≤ c := by
  obtain ⟨es, h1, _⟩ := h
  rcases h1.2 with ⟨_, h2⟩ | ⟨g, cap, cur, h2, _, _, h3, _⟩
  · omega
  · cases h2
    exact h3
/-- Set gives the name. -/
theorem rset_yesZ {R R' : List (ByteArray × T)} {a' : Option Addr} {c' r : Nat} {s : ByteArray} {t : T} {w W : World} {tm : Array Value} (hr : R'.length = r) (hB : Below w.heap.size w W) (hG : W.heap[w.heap.size + 1 + 1]? = some (.cells #[.slice none 0 0] 29)) (hO : NamO w W (w.heap.size + 3) (.slice a' r c') R') (hz : setE R s t = 0) (hR : insG s t (gtS s) R false = R')
    (h6 : tm.getD 6 undef = .pointer (some ⟨w.heap.size + 1 + 1, 0, none⟩)) (h7 : tm.getD 7 undef = .int .i64 0) :
    bodyPost Tryz.prog Tryz.f10 (RSetZ w (rsetL R s t) (setE R s t)) Exit.ret { tmps := tm, defers := [] } (W.setCell ⟨w.heap.size + 1 + 1, 0, none⟩ (.slice a' r c')) := by
  subst hr
  have hh : (W.setCell ⟨w.heap.size + 1 + 1, 0, none⟩ (.slice a' R'.length c')).heap[w.heap.size + 1 + 1]? = some (.cells #[.slice a' R'.length c'] 29) := heap_setCell_at hG 0 _
  have hb : Below w.heap.size w (W.setCell ⟨w.heap.size + 1 + 1, 0, none⟩ (.slice a' R'.length c')) := hB.setCell (p := ⟨w.heap.size + 1 + 1, 0, none⟩) (by show w.heap.size ≤ w.heap.size + 1 + 1; omega) _
  refine bodyPost_ret (v := .tuple #[.agg #[.slice a' R'.length c'], .int .i64 0]) (results_43 rfl h6 h7 hh) rfl ?_
  have e : rsetL R s t = R' := by unfold rsetL; rw [if_pos hz, hR]
  rw [e, hz]
  refine ⟨⟨a', c', rfl, NamO.rows (NamO.keepB hO fun k hk _ => ?_) hb, hO.cap⟩, hb⟩
  exact Below.heap_setCell _ _ _ _ (by show k ≠ w.heap.size + 1 + 1; omega)
set_option maxHeartbeats 4000000 in
set_option maxRecDepth 100000 in
theorem rset_anyZ (R : List (ByteArray × T)) (hR : R.length ≤ 2097152) (ra : Option Addr) (rc : Nat) (hrc : R.length ≤ rc) (s : ByteArray) (hs : s.size ≤ 1048576) (t : T) (hz : t.size ≤ 2097152) (hf : t.fit) (x : Value) (w : World) (hRA : RowsAt w ra R) (hx : IsT w x t) :
    Calls Tryz.prog 10 #[.agg #[.slice ra R.length rc], .string s, x] w (RSetZ w (rsetL R s t) (setE R s t)) := by
  obtain ⟨a, cap, rfl, hA⟩ := hx
  have HA := Lib.hid hA
  have HRA := Lib.hid hRA
  have HF := Lib.hid hf
  have HZ := Lib.hid hz
  obtain ⟨n, hn⟩ : ∃ n, t.l.length = n := ⟨_, rfl⟩
  rw [hn]
  have HN := Lib.hid hn
  obtain ⟨r, hr⟩ : ∃ r, R.length = r := ⟨_, rfl⟩
  rw [hr] at hR hrc ⊢
  have HRC := Lib.hid hrc
  have HR := Lib.hid hr
  have NAM := Lib.hid (fun W => name_any s hs W)
  obtain ⟨i0, hii, hi0, hi1, hi2⟩ := info_parts info81w
  have HI := Lib.hid (And.intro hii (And.intro hi0 (And.intro hi1 hi2)))
  clear hA hRA hf hz hn hr hs hrc hii hi0 hi1 hi2
  rw [nagg_eq]
  go_enter Tryz.func10, Tryz.ntmps10
  go_upto_region 1 with fail
  refine abs_world ?_
  intro W0 hW0
  have hB0 : Hid (Below w.heap.size w W0) := by rw [hW0]; unfold Hid; (repeat (first | with_reducible exact Below.refl _ _ | with_reducible exact hBW | with_reducible refine Below.setCell ?_ ?_ _ | with_reducible refine Below.alloc ?_ ?_ _ | with_reducible refine belowN ?_ _ | with_reducible refine Below.drew ?_)); all_goals (first | omega | (dsimp only; omega) | ((repeat (first | with_reducible refine le_alloc ?_ | with_reducible refine le_setCell ?_ | with_reducible refine le_drew ?_ | with_reducible refine le_drewN ?_)); omega))
  have g0 : W0.heap[w.heap.size]? = some (.cells #[.slice ra r rc] 29) := by rw [hW0]; exact heap_alloc_old (heap_alloc_old (heap_alloc_new w _) _) _
  have g1 : W0.heap[w.heap.size + 1]? = some (.cells (ncells t.o (.slice a n cap)).toArray 42) := by rw [hW0]; exact heap_alloc_old (heap_alloc_at (by simp) _) _
  have g2 : W0.heap[w.heap.size + 1 + 1]? = some (.cells #[.slice none 0 0] 29) := by rw [hW0]; exact heap_alloc_at (by simp) _
  have hs0 : Hid (W0.heap.size = w.heap.size + 3) := by rw [hW0]; unfold Hid; simp
  have G0 := Lib.hid g0
  have G1 := Lib.hid g1
  have G2 := Lib.hid g2
  have x0 : W0.cell? ⟨w.heap.size, 0, none⟩ = some (.slice ra r rc) := cell_of_heap g0 0
  have z0 := lt_of_heap g0
  clear hW0 g0 g1 g2
  go_wp2_with fail
  refine (NAM.out W0).mono ?_
  rintro e w1 ⟨rfl, rfl⟩
  cases hnm : nameP s with
  | false =>
    have Y : Hid (setE R s t = 9) := by unfold Hid; unfold setE; simp [hnm]
    have y2 := frozen_of_heap (G2.out)
    have q2 := cell_of_heap (G2.out) 0
    have zz2 := lt_of_heap (G2.out)
    go_wp2_with fail
    exact rset_noZ HR.out HRC.out HRA.out hB0.out G2.out Y.out (by decide) rfl rfl
  | true =>
    have SE1 : Hid (setE R s t = if checkP t ≠ 0 then checkP t else if calT t [] false = true then 17 else if getL R s = none ∧ 100 ≤ R.length then 5 else 0) := by unfold Hid setE; rw [hnm]; simp
    have R0 := Lib.hid (range_blk G1.out)
    have CHK := Lib.hid (checkR_any t HZ.out HF.out (nagg t.o (.slice a n cap)) W0 ⟨a, cap, by rw [HN.out], HA.out.below hB0.out t⟩)
    clear hnm NAM
    go_wp2_with (refine wpList_load_g rfl 42 (.tmp 5) rfl (w.heap.size + 1) 0 rfl _ _ R0.out Tryz.underlying42 rfl info35 ?_)
    refine CHK.out.mono ?_
    rintro e w1 ⟨rfl, hb1⟩
    have HB1 : Hid (Below w.heap.size w w1) := hB0.out.trans (hb1.mono hB0.out.size)
    have g01 : w1.heap[w.heap.size]? = some (.cells #[.slice ra r rc] 29) := (hb1.block _ (lt_of_heap G0.out)).trans G0.out
    have K1 : Hid (w1.heap[w.heap.size + 1]? = some (.cells (ncells t.o (.slice a n cap)).toArray 42)) := (hb1.block _ (lt_of_heap G1.out)).trans G1.out
    have K2 : Hid (w1.heap[w.heap.size + 1 + 1]? = some (.cells #[.slice none 0 0] 29)) := (hb1.block _ (lt_of_heap G2.out)).trans G2.out
    have K0 := Lib.hid g01
    have y0 : w1.cell? ⟨w.heap.size, 0, none⟩ = some (.slice ra r rc) := cell_of_heap g01 0
    have z1 := lt_of_heap g01
    clear x0 z0 hb1 g01 R0 CHK
    by_cases hc : checkP t = 0
    case neg =>
      have hc1 : (checkP t != 0) = true := by simpa using hc
      have Y : Hid (setE R s t = (checkP t)) := by unfold Hid; rw [SE1.out, if_pos hc]
      have y2 := frozen_of_heap (K2.out)
      have q2 := cell_of_heap (K2.out) 0
      have zz2 := lt_of_heap (K2.out)
      go_wp2_with fail
      exact rset_noZ HR.out HRC.out HRA.out HB1.out K2.out Y.out (by exact hc) rfl rfl
    have SE2 : Hid (setE R s t = if calT t [] false = true then 17 else if getL R s = none ∧ 100 ≤ R.length then 5 else 0) := by unfold Hid; rw [SE1.out, if_neg (by rw [hc]; decide)]
    have R1 := Lib.hid (range_blk K1.out)
    have hc1 : (checkP t != 0) = false := by simpa using hc
    have FRE := Lib.hid (free15_any t HZ.out (nagg t.o (.slice a n cap)) w1 ⟨a, cap, by rw [HN.out], HA.out.below HB1.out t⟩)
    clear hc SE1
    go_wp2_with (refine wpList_load_g rfl 42 (.tmp 5) rfl (w.heap.size + 1) 0 rfl _ _ R1.out Tryz.underlying42 rfl info35 ?_)
    refine FRE.out.mono ?_
    rintro e w2 ⟨fv, rfl, hfv, hb2⟩
    have HB2 : Hid (Below w.heap.size w w2) := HB1.out.trans (hb2.mono HB1.out.size)
    have g02 : w2.heap[w.heap.size]? = some (.cells #[.slice ra r rc] 29) := (hb2.block _ (lt_of_heap K0.out)).trans K0.out
    have M1 : Hid (w2.heap[w.heap.size + 1]? = some (.cells (ncells t.o (.slice a n cap)).toArray 42)) := (hb2.block _ (lt_of_heap K1.out)).trans K1.out
    have M2 : Hid (w2.heap[w.heap.size + 1 + 1]? = some (.cells #[.slice none 0 0] 29)) := (hb2.block _ (lt_of_heap K2.out)).trans K2.out
    have M0 := Lib.hid g02
    have x0 : w2.cell? ⟨w.heap.size, 0, none⟩ = some (.slice ra r rc) := cell_of_heap g02 0
    have z2 := lt_of_heap g02
    obtain ⟨fa, fc, rfl⟩ := own_slice hfv
    obtain ⟨m, hm⟩ : ∃ m, (frT t [] false).length = m := ⟨_, rfl⟩
    have hcal : calT t [] false = decide (0 < m) := by
      rw [calT_fr, ← hm]
      cases frT t [] false <;> simp
    rw [hcal] at SE2
    rw [hm]
    clear hb2 hfv g02 FRE R1 K0 K1 K2 y0 z1 hm hcal
    by_cases hm0 : 0 < m
    · have em : decide ((0 : Int) < (m : Int)) = true := by simp; omega
      have Y : Hid (setE R s t = 17) := by unfold Hid; rw [SE2.out, if_pos (by simpa using hm0)]
      have y2 := frozen_of_heap (M2.out)
      have q2 := cell_of_heap (M2.out) 0
      have zz2 := lt_of_heap (M2.out)
      go_wp2_with fail
      exact rset_noZ HR.out HRC.out HRA.out HB2.out M2.out Y.out (by decide) rfl rfl
    have SE3 : Hid (setE R s t = if getL R s = none ∧ 100 ≤ r then 5 else 0) := by unfold Hid; rw [SE2.out, if_neg (by simpa using hm0), HR.out]
    have hm1 : m = 0 := by omega
    subst hm1
    have FND := Lib.hid (find_any R (by rw [HR.out]; exact hR) ra rc s w2 (HRA.out.below HB2.out))
    rw [HR.out] at FND
    clear hm0 SE2
    go_upto_region 8 with fail
    go_cut [36] (fun s36 wx => Hid (Below w2.heap.size w2 wx) ∧ s36 = .bool (decide (getL R s = none ∧ 100 ≤ r)))
    case first =>
      go_wp2_with fail
      refine FND.out.mono ?_
      rintro e w3 ⟨⟨z, rfl, hF⟩, hb3⟩
      have HB3 := Lib.hid hb3
      have y0 : w3.cell? ⟨w.heap.size, 0, none⟩ = some (.slice ra r rc) := (hb3.cell (p := ⟨w.heap.size, 0, none⟩) z2).trans x0
      have z3 : w.heap.size < w3.heap.size := Nat.lt_of_lt_of_le z2 hb3.size
      rcases hF with ⟨hg, rfl⟩ | ⟨i, u, hi, hg, rfl⟩
      · have Y : Hid (decide (getL R s = none ∧ 100 ≤ r) = decide (100 ≤ r)) := by unfold Hid; simp [hg]
        clear hg hb3 x0
        go_wp2_with fail
        go_meet
        exact ⟨HB3, by rw [Y.out]; simp; omega⟩
      · have Y : Hid (decide (getL R s = none ∧ 100 ≤ r) = false) := by unfold Hid; simp [hg]
        clear hg hb3 x0 hi
        go_wp2_with fail
        go_meet
        exact ⟨HB3, by rw [Y.out]⟩
    case rest =>
    obtain ⟨hB3, rfl⟩ := hcut
    have HB3 : Hid (Below w.heap.size w wc) := HB2.out.trans (hB3.out.mono HB2.out.size)
    have g03 : wc.heap[w.heap.size]? = some (.cells #[.slice ra r rc] 29) := (hB3.out.block _ (lt_of_heap M0.out)).trans M0.out
    have N1 : Hid (wc.heap[w.heap.size + 1]? = some (.cells (ncells t.o (.slice a n cap)).toArray 42)) := (hB3.out.block _ (lt_of_heap M1.out)).trans M1.out
    have N2 : Hid (wc.heap[w.heap.size + 1 + 1]? = some (.cells #[.slice none 0 0] 29)) := (hB3.out.block _ (lt_of_heap M2.out)).trans M2.out
    have N0 := Lib.hid g03
    have y0 : wc.cell? ⟨w.heap.size, 0, none⟩ = some (.slice ra r rc) := cell_of_heap g03 0
    have z3 := lt_of_heap g03
    clear g03 x0 z2 hB3 M0 M1 M2 FND
    cases h5 : decide (getL R s = none ∧ 100 ≤ r) with
    | true =>
      have Y : Hid (setE R s t = 5) := by unfold Hid; rw [SE3.out, if_pos (of_decide_eq_true h5)]
      have y2 := frozen_of_heap (N2.out)
      have q2 := cell_of_heap (N2.out) 0
      have zz2 := lt_of_heap (N2.out)
      go_wp2_with fail
      exact rset_noZ HR.out HRC.out HRA.out HB3.out N2.out Y.out (by decide) rfl rfl
    | false =>
      have SE4 : Hid (setE R s t = 0) := by unfold Hid; rw [SE3.out, if_neg (of_decide_eq_false h5)]
      clear h5 SE3 y0
      have HK0 := Lib.hid (NamO.nil w wc (w.heap.size + 3))
      have hsc : Hid (w.heap.size + 3 ≤ wc.heap.size) := by have := hs0.out; have := lt_of_heap N2.out; show _ ≤ _; omega
      go_wp2_with fail
      go_loopg [9, 10, 11] r (fun gh s9 s10 s11 wr => ∃ (k : Nat) (A : List (ByteArray × T)) (b : Bool), s11 = .int .i64 (k : Int) ∧ s10 = .bool b ∧ gh = r - k ∧ k ≤ r ∧ A.length ≤ 2 * k ∧ Hid (NamO w wr (w.heap.size + 3) s9 A) ∧ Hid (Below (w.heap.size + 3) wc wr) ∧ Hid (A ++ insG s t (gtS s) (R.drop k) b = insG s t (gtS s) R false))
      case atStart => exact ⟨0, [], false, rfl, rfl, rfl, Nat.zero_le _, Nat.zero_le _, HK0.out, Below.refl _ _, rfl⟩
      clear HK0
      case round =>
        obtain ⟨k, A, b, rfl, rfl, rfl, hk, hAl, hO, hB, hI⟩ := hrel
        have HW : Hid (Below w.heap.size w wr) := HB3.out.trans (hB.out.mono (by omega))
        have g0 : wr.heap[w.heap.size]? = some (.cells #[.slice ra r rc] 29) := (hB.out.block _ (by omega)).trans N0.out
        have x0 : wr.cell? ⟨w.heap.size, 0, none⟩ = some (.slice ra r rc) := cell_of_heap g0 0
        have z0 := lt_of_heap g0
        have P1 : Hid (wr.heap[w.heap.size + 1]? = some (.cells (ncells t.o (.slice a n cap)).toArray 42)) := (hB.out.block _ (by omega)).trans N1.out
        have GG := Lib.hid g0
        clear g0 z3
        by_cases hlt : k < r
        · obtain ⟨⟨x, u⟩, hx⟩ : ∃ t, R[k]? = some t := ⟨_, List.getElem?_eq_getElem (by rw [HR.out]; exact hlt)⟩
          have hdrop : R.drop k = (x, u) :: R.drop (k + 1) := by
            obtain ⟨hk2, he⟩ := List.getElem?_eq_some_iff.1 hx
            rw [List.drop_eq_getElem_cons hk2, he]
          have HD := Lib.hid hdrop
          obtain ⟨q, qo, rfl, hq, hall⟩ := HRA.out (by rw [HR.out]; omega)
          obtain ⟨hc0, ua, uc, hnd, hat⟩ := hall k x u hx
          have hq2 : q < wr.heap.size := Nat.lt_of_lt_of_le hq HW.out.size
          have c0 : wr.cell? ⟨q, qo + k * 23, none⟩ = some (.string x) := (HW.out.cell (p := ⟨q, _, none⟩) hq).trans hc0
          have HND := Lib.hid (NdAt.below hnd HW.out hq)
          have hnd0 := Lib.hid hnd
          have HQ := Lib.hid hq
          have HC0 := Lib.hid hc0
          have HUA := Lib.hid hat
          have j1 : (0 : Int) ≤ (k : Int) := by omega
          have j2 : (k : Int) < (r : Int) := by omega
          clear hdrop hall hc0 hnd hat hx hq
          cases hxs : (x.toList == s.toList) with
          | true =>
            have hI2 : Hid (A ++ insG s t (gtS s) (R.drop (k + 1)) b = insG s t (gtS s) R false) := by
              have h := hI.out
              rw [HD.out, insG, if_pos (str_eq.1 (by simpa using hxs))] at h
              exact h
            clear hI
            go_wp2_with fail
            go_roundg (r - (k + 1))
            case measure => omega
            case rel => exact ⟨k + 1, A, b, by go_num, rfl, rfl, by omega, by omega, hO, hB, hI2⟩
          | false =>
            have hI2 : Hid (A ++ (if !b && gtS s x then (s, t) :: (x, u) :: insG s t (gtS s) (R.drop (k + 1)) true else (x, u) :: insG s t (gtS s) (R.drop (k + 1)) b) = insG s t (gtS s) R false) := by
              have h := hI.out
              rw [HD.out, insG, if_neg (fun e => by rw [e] at hxs; simp at hxs)] at h
              exact h
            clear hI
            cases b with
            | true =>
              have hI3 : Hid ((A ++ [(x, u)]) ++ insG s t (gtS s) (R.drop (k + 1)) true = insG s t (gtS s) R false) := by unfold Hid; rw [List.append_assoc]; exact hI2.out
              clear hI2
              go_upto_region 19 with fail
              have RX := Lib.hid (range_nm c0 HND.out)
              go_wp2_with (first | refine wpList_load_g rfl 70 (.tmp 75) rfl q (qo + k * 23) rfl (nmcells x u.o (.slice ua u.l.length uc)) _ RX.out Tryz.underlying70 rfl info81 ?_ | refine wpList_bs_nm rfl (.tmp 76) rfl x u.o (.slice ua u.l.length uc) rfl ?_ | (refine wpList_app_nm rfl (.tmp 71) (.tmp 77) rfl rfl hO.out x u ua u.l.length uc rfl rfl HUA.out (by omega) (Nat.le_trans hsc.out (Nat.le_trans hB.out.size (by first | exact Nat.le_refl _ | exact Nat.le_refl _))) ?_; intro v7 W7 hO7 hb7))
              have HB7 : Hid (Below (w.heap.size + 3) wc W7) := hB.out.trans hb7
              have HO7 := Lib.hid hO7
              clear hO7 hb7
              go_roundg (r - (k + 1))
              case measure => omega
              case rel => exact ⟨k + 1, A ++ [(x, u)], true, by go_num, rfl, rfl, by omega, by simp; omega, HO7, HB7, hI3⟩
            | false =>
              cases hbl : Op.bytesLess x.toList s.toList with
              | true =>
                have hI3 : Hid (A ++ (x, u) :: insG s t (gtS s) (R.drop (k + 1)) false = insG s t (gtS s) R false) := by
                  have h := hI2.out
                  have hg : gtS s x = false := by unfold gtS; rw [hbl]; rfl
                  rw [hg] at h
                  exact h
                clear hI2
                go_upto_region 19 with fail
                have RX := Lib.hid (range_nm c0 HND.out)
                go_wp2_with (first | refine wpList_load_g rfl 70 (.tmp 75) rfl q (qo + k * 23) rfl (nmcells x u.o (.slice ua u.l.length uc)) _ RX.out Tryz.underlying70 rfl info81 ?_ | refine wpList_bs_nm rfl (.tmp 76) rfl x u.o (.slice ua u.l.length uc) rfl ?_ | (refine wpList_app_nm rfl (.tmp 71) (.tmp 77) rfl rfl hO.out x u ua u.l.length uc rfl rfl HUA.out (by omega) (Nat.le_trans hsc.out (Nat.le_trans hB.out.size (by first | exact Nat.le_refl _ | exact Nat.le_refl _))) ?_; intro v7 W7 hO7 hb7))
                have HB7 : Hid (Below (w.heap.size + 3) wc W7) := hB.out.trans hb7
                have HO7 := Lib.hid hO7
                have HI7 : Hid ((A ++ [(x, u)]) ++ insG s t (gtS s) (R.drop (k + 1)) false = insG s t (gtS s) R false) := by unfold Hid; rw [List.append_assoc]; exact hI3.out
                clear hO7 hb7 hI3
                go_roundg (r - (k + 1))
                case measure => omega
                case rel => exact ⟨k + 1, A ++ [(x, u)], false, by go_num, rfl, rfl, by omega, by simp; omega, HO7, HB7, HI7⟩
              | false =>
                have hI3 : Hid (A ++ (s, t) :: (x, u) :: insG s t (gtS s) (R.drop (k + 1)) true = insG s t (gtS s) R false) := by
                  have h := hI2.out
                  have hg : gtS s x = true := by unfold gtS; rw [hbl, hxs]; rfl
                  rw [hg] at h
                  exact h
                clear hI2
                have R1 := Lib.hid (range_blk P1.out)
                have j3 : decide ((k : Int) < (r : Int)) = true := by simp; omega
                go_upto_region 17 with fail
                go_upto_region 19 with (first | (refine wpList_load_g rfl 42 (.tmp 5) rfl (w.heap.size + 1) 0 rfl _ _ R1.out Tryz.underlying42 rfl info35 ?_) | refine wpList_bld_nm rfl (.tmp 66) (.tmp 67) rfl s t.o (.slice a n cap) rfl rfl ?_ | refine wpList_bs_nm rfl (.tmp 68) rfl s t.o (.slice a n cap) rfl ?_ | (refine wpList_app_nm rfl (.tmp 65) (.tmp 69) rfl rfl hO.out s t a n cap HN.out rfl HA.out (by omega) (Nat.le_trans hsc.out hB.out.size) ?_; intro v6 W6 hO6 hb6))
                have HB6 : Hid (Below w.heap.size w W6) := HW.out.trans (hb6.mono (by omega))
                have g6 : W6.heap[w.heap.size]? = some (.cells #[.slice (some ⟨q, qo, none⟩) r rc] 29) := (hb6.block _ (by omega)).trans GG.out
                have x6 : W6.cell? ⟨w.heap.size, 0, none⟩ = some (.slice (some ⟨q, qo, none⟩) r rc) := cell_of_heap g6 0
                have z6 := lt_of_heap g6
                have hq6 : q < W6.heap.size := Nat.lt_of_lt_of_le HQ.out HB6.out.size
                have HND6 := Lib.hid (NdAt.below hnd0.out HB6.out HQ.out)
                have HB7 : Hid (Below (w.heap.size + 3) wc W6) := hB.out.trans hb6
                have HO6 := Lib.hid hO6
                have hwr6 : wr.heap.size ≤ W6.heap.size := hb6.size
                clear hO6 hb6 g6 x0 z0 c0 hq2 HND R1 hO
                have c0 : W6.cell? ⟨q, qo + k * 23, none⟩ = some (.string x) := (HB6.out.cell (p := ⟨q, _, none⟩) HQ.out).trans HC0.out
                have HND := HND6
                clear HND6
                have RX := Lib.hid (range_nm c0 HND.out)
                go_wp2_with (first | refine wpList_load_g rfl 70 (.tmp 75) rfl q (qo + k * 23) rfl (nmcells x u.o (.slice ua u.l.length uc)) _ RX.out Tryz.underlying70 rfl info81 ?_ | refine wpList_bs_nm rfl (.tmp 76) rfl x u.o (.slice ua u.l.length uc) rfl ?_ | (refine wpList_app_nm rfl (.tmp 71) (.tmp 77) rfl rfl HO6.out x u ua u.l.length uc rfl rfl HUA.out (by (simp; omega)) (Nat.le_trans hsc.out (Nat.le_trans hB.out.size (by first | exact Nat.le_refl _ | exact hwr6))) ?_; intro v7 W7 hO7 hb7))
                have HB8 : Hid (Below (w.heap.size + 3) wc W7) := HB7.out.trans hb7
                have HO7 := Lib.hid hO7
                have HI7 : Hid ((A ++ [(s, t)] ++ [(x, u)]) ++ insG s t (gtS s) (R.drop (k + 1)) true = insG s t (gtS s) R false) := by unfold Hid; rw [List.append_assoc, List.append_assoc]; exact hI3.out
                clear hO7 hb7 hI3
                go_roundg (r - (k + 1))
                case measure => omega
                case rel => exact ⟨k + 1, A ++ [(s, t)] ++ [(x, u)], true, by go_num, rfl, rfl, by omega, by simp; omega, HO7, HB8, HI7⟩
        · have hkr : k = r := by omega
          subst hkr
          have hI2 : Hid (A ++ (if b then [] else [(s, t)]) = insG s t (gtS s) R false) := by
            have h := hI.out
            rw [← HR.out, List.drop_length, insG] at h
            exact h
          have P2 : Hid (wr.heap[w.heap.size + 1 + 1]? = some (.cells #[.slice none 0 0] 29)) := (hB.out.block _ (by omega)).trans N2.out
          clear hI
          cases b with
          | true =>
            obtain ⟨a2, c2, rfl⟩ := NamO.slice hO.out
            have y2 := frozen_of_heap P2.out
            have q2 := cell_of_heap P2.out 0
            have zz2 := lt_of_heap P2.out
            go_wp2_with fail
            exact rset_yesZ rfl HW.out P2.out hO.out SE4.out (by have := hI2.out; simpa using this.symm) rfl rfl
          | false =>
            have R1 := Lib.hid (range_blk P1.out)
            go_upto_region 22 with (first | (refine wpList_load_g rfl 42 (.tmp 5) rfl (w.heap.size + 1) 0 rfl _ _ R1.out Tryz.underlying42 rfl info35 ?_) | refine wpList_bld_nm rfl (.tmp 82) (.tmp 83) rfl s t.o (.slice a n cap) rfl rfl ?_ | refine wpList_bs_nm rfl (.tmp 84) rfl s t.o (.slice a n cap) rfl ?_ | (refine wpList_app_nm rfl (.tmp 81) (.tmp 85) rfl rfl hO.out s t a n cap HN.out rfl HA.out (by omega) (Nat.le_trans hsc.out hB.out.size) ?_; intro v6 W6 hO6 hb6))
            have HB6 : Hid (Below w.heap.size w W6) := HW.out.trans (hb6.mono (by omega))
            have P6 : Hid (W6.heap[w.heap.size + 1 + 1]? = some (.cells #[.slice none 0 0] 29)) := (hb6.block _ (by omega)).trans P2.out
            obtain ⟨a2, c2, hv6⟩ := NamO.slice hO6
            obtain ⟨r6, hr6⟩ : ∃ r6, (A ++ [(s, t)]).length = r6 := ⟨_, rfl⟩
            rw [hr6] at hv6
            subst hv6
            have HR6 := Lib.hid hr6
            clear hr6
            have HO6 := Lib.hid hO6
            have y2 := frozen_of_heap P6.out
            have q2 := cell_of_heap P6.out 0
            have zz2 := lt_of_heap P6.out
            clear hO6 hb6 R1 hO P1 P2 x0 z0
            go_wp2_with fail
            exact rset_yesZ HR6.out HB6.out P6.out HO6.out SE4.out (by have := hI2.out; simpa using this.symm) rfl rfl
end Go.Proofs.YtlcglkanlhmmdaaGreat
