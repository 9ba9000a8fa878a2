/- The document's answer: AND, OR, XOR. -/
import Derived.Test.YtgbedjeiihigaaaF13Ref3
import Derived.Test.YtgbedjeiihigaaaF13Same
namespace Go.Proofs.Ytgbedjeiihigaaa
open Go.RowKit
theorem tt_blank {v : V} (h : v.k = 0) : (TT v).2 = 0 := by unfold TT toT; simp [h]
theorem tt_fault {v : V} (hR : refR v = true) (h : (TT v).2 ≠ 0) : 1 ≤ (TT v).2 ∧ (TT v).2 ≤ 9 := by
  unfold refR at hR
  simp only [Bool.and_eq_true, Bool.or_eq_true, decide_eq_true_eq] at hR
  obtain ⟨⟨_, h4⟩, h5⟩ := hR
  unfold TT at h ⊢
  by_cases k2 : v.k = 2
  · simp only [k2, if_true] at h ⊢
    split at h
    · exact absurd rfl h
    · split at h
      · exact absurd rfl h
      · rename_i a b
        rw [if_neg a, if_neg b]
        simp
  · rw [if_neg k2] at h ⊢
    unfold toT at h ⊢
    by_cases k1 : v.k = 1
    · rw [if_pos k1] at h; exact absurd rfl h
    · rw [if_neg k1] at h ⊢
      by_cases k3 : v.k = 3
      · rw [if_pos k3] at h; exact absurd rfl h
      · rw [if_neg k3] at h ⊢
        by_cases k4 : v.k = 4
        · rw [if_pos k4] at h ⊢
          simp [k4] at h5
          exact h5
        · rw [if_neg k4] at h; exact absurd rfl h
/-- Where all's last statements are run: n values, y of them true. -/
def EndOk (s : ByteArray) (fn : Int → Int → Bool) : Prop := (s = sAND ∧ fn = andF) ∨ (s = sOR ∧ fn = orF) ∨ (s = sXOR ∧ fn = xorF)
set_option maxHeartbeats 4000000 in
set_option maxRecDepth 100000 in
theorem all_any {s : ByteArray} {fn : Int → Int → Bool} (hE : EndOk s fn) (l : List Arr) (hl : l.length ≤ 40) (hN : (allV l).length ≤ 1000000) (hR : ∀ A ∈ l, ∀ v ∈ A.l, refR v = true) (hZ : ∀ A ∈ l, A.l.length ≤ 60) (a : Option Addr) (cap : Nat) (w : World) (hA : ArgsAt 0 w a l) :
    Calls Try.prog 27 #[.string s, .slice a l.length cap] w fun e w' => e = .returned (vagg (truthsV fn l)) ∧ Below w.heap.size w w' := by
  have HE := Lib.hid hE
  have HN := Lib.hid hN
  have HR := Lib.hid hR
  have HZ := Lib.hid hZ
  have HA := Lib.hid hA
  clear hE hN hR hZ hA
  go_enter Try.func27, Try.ntmps27
  go_wp2_with fail
  refine abs_world ?_
  intro W0 hW0
  have hB0 : Hid (Below w.heap.size w W0) := by rw [hW0]; unfold Hid; (repeat (first | with_reducible exact Below.refl _ _ | with_reducible exact hBW | with_reducible refine Below.setCell ?_ ?_ _ | with_reducible refine Below.alloc ?_ ?_ _ | with_reducible refine belowN ?_ _ | with_reducible refine Below.drew ?_)); all_goals (first | omega | (dsimp only; omega) | ((repeat (first | with_reducible refine le_alloc ?_ | with_reducible refine le_setCell ?_ | with_reducible refine le_drew ?_ | with_reducible refine le_drewN ?_)); omega))
  have g0 : W0.heap[w.heap.size]? = some (.cells #[.int .i64 0, .int .i64 0, .int .i64 0, .string ⟨#[]⟩, .bool false, .int .i64 0] 36) := by rw [hW0]; (repeat (first | (with_reducible refine heap_alloc_at ?_ _; (first | rfl | (simp; done) | omega | (simp; omega)); done) | with_reducible refine heap_alloc_old ?_ _ | with_reducible refine heap_drew_old ?_ | with_reducible refine heap_drewN_old ?_))
  have G0 := Lib.hid g0
  clear hW0 g0
  go_loopw [7, 5, 6] (fun i n y wr => ∃ (k : Nat) (yy nn : Int), i = .int .i64 k ∧ n = .int .i64 nn ∧ y = .int .i64 yy ∧ k ≤ l.length ∧ Hid (scan (allV (l.take k)) 0 0 = .ok (yy, nn)) ∧ Hid (Below W0.heap.size W0 wr)) (fun i _ _ _ => l.length - (intOf i).toNat)
  case atStart => exact ⟨0, 0, 0, rfl, rfl, rfl, Nat.zero_le _, rfl, Below.refl _ _⟩
  case round =>
    obtain ⟨k, yy, nn, rfl, rfl, rfl, hk, hS, hB⟩ := hrel
    have HBw : Hid (Below w.heap.size w wr) := hB0.out.trans (hB.out.mono hB0.out.size)
    have hbd := scan_bd _ 0 0 yy nn (Int.le_refl _) (Int.le_refl _) hS.out
    have hlen : (allV (l.take k)).length ≤ 1000000 := by
      have e1 : allV l = allV (l.take k) ++ allV (l.drop k) := by rw [allV, allV, allV, ← List.flatMap_append, List.take_append_drop]
      have := HN.out
      rw [e1, List.length_append] at this
      omega
    have q1 : 0 ≤ yy := hbd.1
    have q2 : yy ≤ nn := hbd.2.1
    have q3 : nn ≤ 1000000 := by have := hbd.2.2; omega
    clear hbd hlen
    by_cases hlt : k < l.length
    · obtain ⟨A, hAk⟩ : ∃ A, l[k]? = some A := ⟨_, List.getElem?_eq_getElem hlt⟩
      have HAk := Lib.hid hAk
      have hZA : A.l.length ≤ 60 := HZ.out A (List.mem_of_getElem? hAk)
      clear hAk
      go_wp2_with fail
      go_loopw [8, 5, 6] (fun i n y wq => ∃ (j : Nat) (yy nn : Int), i = .int .i64 j ∧ n = .int .i64 nn ∧ y = .int .i64 yy ∧ j ≤ A.l.length ∧ Hid (scan (allV (l.take k) ++ A.l.take j) 0 0 = .ok (yy, nn)) ∧ Hid (Below W0.heap.size W0 wq)) (fun i _ _ _ => A.l.length - (intOf i).toNat)
      case atStart => exact ⟨0, yy, nn, rfl, rfl, rfl, Nat.zero_le _, by simpa using hS, hB⟩
      case round =>
        clear hS hB HBw q1 q2 q3
        obtain ⟨j, y, c, rfl, rfl, rfl, hj, hS, hB⟩ := hrel
        have HBw : Hid (Below w.heap.size w wr) := hB0.out.trans (hB.out.mono hB0.out.size)
        have hbd := scan_bd _ 0 0 y c (Int.le_refl _) (Int.le_refl _) hS.out
        have hlen : (allV (l.take k) ++ A.l.take j).length ≤ 1000000 := by
          obtain ⟨post, hp⟩ := allV_split HAk.out
          have := HN.out
          rw [hp] at this
          simp at this ⊢
          omega
        have q1 : 0 ≤ y := hbd.1
        have q2 : y ≤ c := hbd.2.1
        have q3 : c ≤ 1000000 := by have := hbd.2.2; omega
        clear hbd hlen
        obtain ⟨b1, off1, rfl, _, hb1, hall⟩ := (HA.out.below HBw.out) (by omega)
        obtain ⟨a', cap', _, _, c2, hsl⟩ := hall k A HAk.out
        have HSL := Lib.hid hsl
        clear hall hsl
        by_cases hjt : j < A.l.length
        · obtain ⟨v, hv⟩ : ∃ v, A.l[j]? = some v := ⟨_, List.getElem?_eq_getElem hjt⟩
          obtain ⟨b2, off2, rfl, hb2, d0, d1, d2, d3, d4, d5⟩ := HSL.out.cells hv
          have HRv := Lib.hid (HR.out A (List.mem_of_getElem? HAk.out) v (List.mem_of_getElem? hv))
          have HTv := Lib.hid (rTT_any v HRv.out)
          have HV := Lib.hid hv
          clear hv
          have e1 : scan (allV (l.take k) ++ A.l.take (j + 1)) 0 0 = scan ((allV (l.take k) ++ A.l.take j) ++ [v]) 0 0 := by rw [take_snoc' HV.out, ← List.append_assoc]
          by_cases hk0 : v.k = 0
          · have n0 : (v.k == 0) = true := by simp [hk0]
            have HS2 := Lib.hid (e1.trans (scan_blank hS.out (tt_blank hk0) hk0))
            clear hk0 e1
            go_wp2_with fail
            go_roundw
            case rel => exact ⟨j + 1, y, c, by go_num, rfl, rfl, by omega, HS2, hB.out.alloc hB.out.size _⟩
            case measure => simp [intOf]; omega
          · have n0 : (v.k == 0) = false := by simp [hk0]
            have HK0 := Lib.hid hk0
            have E1 := Lib.hid e1
            clear hk0 e1
            rw [vagg_eq] at HTv
            go_wp2_with fail
            refine (HTv.out _).mono ?_
            rintro e' w2 ⟨rfl, hb3⟩
            obtain ⟨tb, tf, ht⟩ : ∃ tb tf, TT v = (tb, tf) := ⟨_, _, rfl⟩
            have HB2 : Hid (Below W0.heap.size W0 w2) := hB.out.trans (((below_alloc wr _ _ (Nat.le_refl _)).trans (hb3.mono (by simp))).mono hB.out.size)
            rw [ht]
            have HTT := Lib.hid ht
            clear ht hb3 d0 d1 d2 d3 d4 d5 c2 HTv
            by_cases hf : tf = 0
            · subst hf
              have HS2 := Lib.hid (E1.out.trans (scan_next hS.out (by rw [HTT.out]) HK0.out))
              rw [HTT.out] at HS2
              clear E1
              cases tb with
              | true =>
                go_wp2_with fail
                go_roundw
                case rel => exact ⟨j + 1, y + 1, c + 1, by go_num, rfl, rfl, by omega, HS2, HB2⟩
                case measure => simp [intOf]; omega
              | false =>
                go_wp2_with fail
                go_roundw
                case rel => exact ⟨j + 1, y, c + 1, by go_num, rfl, rfl, by omega, HS2, HB2⟩
                case measure => simp [intOf]; omega
            · have n1 : (tf != 0) = true := by simp [hf]
              have EV : Hid (truthsV fn l = vBad tf) := by
                obtain ⟨p1, e1⟩ := allV_split HAk.out
                obtain ⟨p2, e2⟩ := take_split HV.out
                have := scan_fault (l := allV l) (pre := allV (l.take k) ++ A.l.take j) (v := v) (post := p2 ++ p1) (by have e3 : allV l = allV (l.take k) ++ (A.l.take j ++ v :: p2) ++ p1 := (by rw [← e2]; exact e1); rw [e3]; simp [List.append_assoc]) hS.out (by rw [HTT.out]; exact hf)
                unfold Hid truthsV
                rw [this, HTT.out]
              have hfr := tt_fault HRv.out (by rw [HTT.out]; exact hf)
              rw [HTT.out] at hfr
              have HBD := Lib.hid (fun w => rBad_in tf w hfr.1 hfr.2)
              clear hf E1 hfr
              go_wp2_with fail
              refine (HBD.out _).mono ?_
              rintro e' w3 ⟨rfl, hb4⟩
              have HB3 := Lib.hid (HB2.out.trans (hb4.mono HB2.out.size))
              clear hb4
              have e0 := (HB3.out.block w.heap.size (lt_of_heap G0.out)).trans G0.out
              have x0 := cell_of_heap e0
              have y0 := frozen_of_heap e0
              have hn0 : w.heap.size < w3.heap.size := lt_of_heap e0
              clear e0
              unfold vagg
              go_wp2_with fail
              have hBW := hB0.out.trans (HB3.out.mono hB0.out.size)
              refine bodyPost_ret (v := vagg (truthsV fn l)) (by rw [EV.out]; simp [results, Try.results27, go_sem, x0, vagg]) rfl ⟨rfl, ?_⟩
              (repeat (first | with_reducible exact Below.refl _ _ | with_reducible exact hBW | with_reducible refine Below.setCell ?_ ?_ _ | with_reducible refine Below.alloc ?_ ?_ _ | with_reducible refine belowN ?_ _ | with_reducible refine Below.drew ?_)); all_goals (first | omega | (dsimp only; omega) | ((repeat (first | with_reducible refine le_alloc ?_ | with_reducible refine le_setCell ?_ | with_reducible refine le_drew ?_ | with_reducible refine le_drewN ?_)); omega))
        · have HS2 : Hid (scan (allV (l.take (k + 1))) 0 0 = .ok (y, c)) := by
            have e1 : allV (l.take (k + 1)) = allV (l.take k) ++ A.l.take j := by
              rw [take_snoc' HAk.out, allV_snoc, List.take_of_length_le (by omega : A.l.length ≤ j)]
            unfold Hid
            rw [e1]
            exact hS.out
          clear hS
          go_wp2_with fail
          go_roundw
          case rel => exact ⟨k + 1, y, c, by go_num, rfl, rfl, by omega, HS2, hB⟩
          case measure => simp [intOf]; omega
    · have HS2 : Hid (truthsV fn l = if nn = 0 then vBad 2 else vTruth (fn yy nn)) := by
        have := hS.out
        rw [List.take_of_length_le (by omega)] at this
        unfold Hid truthsV
        rw [this]
      clear hS
      by_cases h0 : nn = 0
      · subst h0
        have EV : Hid (truthsV fn l = vBad 2) := HS2.out.trans (if_pos rfl)
        have HBD := Lib.hid (fun w => rBad_in 2 w (by omega) (by omega))
        have HB2 := hB
        go_wp2_with fail
        refine (HBD.out _).mono ?_
        rintro e' w3 ⟨rfl, hb4⟩
        have HB3 := Lib.hid (HB2.out.trans (hb4.mono HB2.out.size))
        clear hb4
        have e0 := (HB3.out.block w.heap.size (lt_of_heap G0.out)).trans G0.out
        have x0 := cell_of_heap e0
        have y0 := frozen_of_heap e0
        have hn0 : w.heap.size < w3.heap.size := lt_of_heap e0
        clear e0
        unfold vagg
        go_wp2_with fail
        have hBW := hB0.out.trans (HB3.out.mono hB0.out.size)
        refine bodyPost_ret (v := vagg (truthsV fn l)) (by rw [EV.out]; simp [results, Try.results27, go_sem, x0, vagg]) rfl ⟨rfl, ?_⟩
        (repeat (first | with_reducible exact Below.refl _ _ | with_reducible exact hBW | with_reducible refine Below.setCell ?_ ?_ _ | with_reducible refine Below.alloc ?_ ?_ _ | with_reducible refine belowN ?_ _ | with_reducible refine Below.drew ?_)); all_goals (first | omega | (dsimp only; omega) | ((repeat (first | with_reducible refine le_alloc ?_ | with_reducible refine le_setCell ?_ | with_reducible refine le_drew ?_ | with_reducible refine le_drewN ?_)); omega))
      · have n1 : (nn == 0) = false := by simpa using h0
        have EW : Hid (truthsV fn l = vTruth (fn yy nn)) := HS2.out.trans (if_neg h0)
        clear h0 HS2
        rcases HE.out with ⟨rfl, hfn⟩ | ⟨rfl, hfn⟩ | ⟨rfl, hfn⟩
        · unfold sAND
          have hx : fn yy nn = (yy == nn) := by rw [hfn]; unfold andF; by_cases h : yy = nn <;> simp [h]
          have EV := EW
          rw [hx] at EV
          clear hx EW hfn
          go_wp2_with fail
          refine (rTruth_any _ _).mono ?_
          rintro e' w3 ⟨rfl, hb4⟩
          have HB3 := Lib.hid (hB.out.trans (hb4.mono hB.out.size))
          clear hb4
          have e0 := (HB3.out.block w.heap.size (lt_of_heap G0.out)).trans G0.out
          have x0 := cell_of_heap e0
          have y0 := frozen_of_heap e0
          have hn0 : w.heap.size < w3.heap.size := lt_of_heap e0
          clear e0
          unfold vagg
          go_wp2_with fail
          have hBW := hB0.out.trans (HB3.out.mono hB0.out.size)
          refine bodyPost_ret (v := vagg (truthsV fn l)) (by rw [EV.out]; simp [results, Try.results27, go_sem, x0, vagg]) rfl ⟨rfl, ?_⟩
          (repeat (first | with_reducible exact Below.refl _ _ | with_reducible exact hBW | with_reducible refine Below.setCell ?_ ?_ _ | with_reducible refine Below.alloc ?_ ?_ _ | with_reducible refine belowN ?_ _ | with_reducible refine Below.drew ?_)); all_goals (first | omega | (dsimp only; omega) | ((repeat (first | with_reducible refine le_alloc ?_ | with_reducible refine le_setCell ?_ | with_reducible refine le_drew ?_ | with_reducible refine le_drewN ?_)); omega))
        · unfold sOR
          have hx : fn yy nn = decide (0 < yy) := by rw [hfn]; rfl
          have EV := EW
          rw [hx] at EV
          clear hx EW hfn
          go_wp2_with fail
          refine (rTruth_any _ _).mono ?_
          rintro e' w3 ⟨rfl, hb4⟩
          have HB3 := Lib.hid (hB.out.trans (hb4.mono hB.out.size))
          clear hb4
          have e0 := (HB3.out.block w.heap.size (lt_of_heap G0.out)).trans G0.out
          have x0 := cell_of_heap e0
          have y0 := frozen_of_heap e0
          have hn0 : w.heap.size < w3.heap.size := lt_of_heap e0
          clear e0
          unfold vagg
          go_wp2_with fail
          have hBW := hB0.out.trans (HB3.out.mono hB0.out.size)
          refine bodyPost_ret (v := vagg (truthsV fn l)) (by rw [EV.out]; simp [results, Try.results27, go_sem, x0, vagg]) rfl ⟨rfl, ?_⟩
          (repeat (first | with_reducible exact Below.refl _ _ | with_reducible exact hBW | with_reducible refine Below.setCell ?_ ?_ _ | with_reducible refine Below.alloc ?_ ?_ _ | with_reducible refine belowN ?_ _ | with_reducible refine Below.drew ?_)); all_goals (first | omega | (dsimp only; omega) | ((repeat (first | with_reducible refine le_alloc ?_ | with_reducible refine le_setCell ?_ | with_reducible refine le_drew ?_ | with_reducible refine le_drewN ?_)); omega))
        · unfold sXOR
          have hx : fn yy nn = (yy % 2 == 1) := by rw [hfn]; unfold xorF; by_cases h : yy % 2 = 1 <;> simp [h]
          have EV := EW
          rw [hx] at EV
          clear hx EW hfn
          go_wp2_with fail
          refine (rTruth_any _ _).mono ?_
          rintro e' w3 ⟨rfl, hb4⟩
          have HB3 := Lib.hid (hB.out.trans (hb4.mono hB.out.size))
          clear hb4
          have e0 := (HB3.out.block w.heap.size (lt_of_heap G0.out)).trans G0.out
          have x0 := cell_of_heap e0
          have y0 := frozen_of_heap e0
          have hn0 : w.heap.size < w3.heap.size := lt_of_heap e0
          clear e0
          unfold vagg
          go_wp2_with fail
          have hBW := hB0.out.trans (HB3.out.mono hB0.out.size)
          refine bodyPost_ret (v := vagg (truthsV fn l)) (by rw [EV.out]; simp [results, Try.results27, go_sem, x0, vagg]) rfl ⟨rfl, ?_⟩
          (repeat (first | with_reducible exact Below.refl _ _ | with_reducible exact hBW | with_reducible refine Below.setCell ?_ ?_ _ | with_reducible refine Below.alloc ?_ ?_ _ | with_reducible refine belowN ?_ _ | with_reducible refine Below.drew ?_)); all_goals (first | omega | (dsimp only; omega) | ((repeat (first | with_reducible refine le_alloc ?_ | with_reducible refine le_setCell ?_ | with_reducible refine le_drew ?_ | with_reducible refine le_drewN ?_)); omega))
end Go.Proofs.Ytgbedjeiihigaaa
