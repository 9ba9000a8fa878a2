/- The function that truths makes, walked. -/
import Derived.Test.YtgbedjeiihigaaaF13Truths
namespace Go.Proofs.Ytgbedjeiihigaaa
open Go.RowKit
theorem scan_bd (l : List V) : ∀ (y a y' a' : Int), 0 ≤ y → y ≤ a → scan l y a = .ok (y', a') → 0 ≤ y' ∧ y' ≤ a' ∧ a' ≤ a + l.length := by
  induction l with
  | nil => intro y a y' a' h1 h2 h; simp [scan] at h; obtain ⟨rfl, rfl⟩ := h; simp; omega
  | cons v l ih =>
    intro y a y' a' h1 h2 h
    simp only [scan] at h
    split at h
    · cases h
    · split at h
      · have := ih y a y' a' h1 h2 h; simp; omega
      · have := ih _ (a + 1) y' a' (by split <;> omega) (by split <;> omega) h; simp; omega
theorem scan_fault {l pre post : List V} {v : V} {y a : Int} (hl : l = pre ++ v :: post) (h : scan pre 0 0 = .ok (y, a)) (hf : (TT v).2 ≠ 0) : scan l 0 0 = .error (TT v).2 := by
  rw [hl, scan_append, h]
  simp only [scan]
  rw [if_pos hf]
theorem scan_blank {pre : List V} {v : V} {y a : Int} (h : scan pre 0 0 = .ok (y, a)) (hf : (TT v).2 = 0) (hk : v.k = 0) : scan (pre ++ [v]) 0 0 = .ok (y, a) := by
  rw [scan_append, h]
  simp only [scan]
  rw [if_neg (by simp [hf]), if_pos hk]
theorem scan_next {pre : List V} {v : V} {y a : Int} (h : scan pre 0 0 = .ok (y, a)) (hf : (TT v).2 = 0) (hk : v.k ≠ 0) : scan (pre ++ [v]) 0 0 = .ok (if (TT v).1 then y + 1 else y, a + 1) := by
  rw [scan_append, h]
  simp only [scan]
  rw [if_neg (by simp [hf]), if_neg hk]
theorem allV_split {l : List Arr} {k : Nat} {A : Arr} (h : l[k]? = some A) : ∃ post, allV l = allV (l.take k) ++ A.l ++ post := by
  have hlt := (List.getElem?_eq_some_iff.1 h).1
  refine ⟨allV (l.drop (k + 1)), ?_⟩
  have e : l = l.take k ++ A :: l.drop (k + 1) := by
    conv => lhs; rw [← List.take_append_drop k l]
    rw [List.drop_eq_getElem_cons hlt]
    have : l[k] = A := by rw [List.getElem?_eq_getElem hlt] at h; simpa using h
    rw [this]
  conv => lhs; rw [e]
  simp [allV]
theorem take_split {l : List V} {j : Nat} {v : V} (h : l[j]? = some v) : ∃ post, l = l.take j ++ v :: post := by
  have hlt := (List.getElem?_eq_some_iff.1 h).1
  refine ⟨l.drop (j + 1), ?_⟩
  conv => lhs; rw [← List.take_append_drop j l]
  rw [List.drop_eq_getElem_cons hlt]
  have : l[j] = v := by rw [List.getElem?_eq_getElem hlt] at h; simpa using h
  rw [this]
theorem take_snoc' {α : Type} {l : List α} {j : Nat} {v : α} (h : l[j]? = some v) : l.take (j + 1) = l.take j ++ [v] := by
  rw [List.take_add_one, h]; rfl

set_option maxHeartbeats 2000000 in
theorem truths1_any {fn : Int → Int → Bool} {g : Nat} (hF : FnOk g fn) (hE : ∀ args W, (callFunc g args).run Try.prog W = .ok (.enter g args) W) (l : List Arr) (hT : ∀ A ∈ l, ∀ v ∈ A.l, TOk v) (hN : (allV l).length ≤ 1000000) (hl : l.length ≤ 1000000) (a : Option Addr) (cap pb : Nat) (w : World) (hA : ArgsAt 0 w a l)
    (hp : w.cell? ⟨pb, 0, none⟩ = some (.func (.func g) #[] #[])) :
    Calls Try.prog 51 #[.slice a l.length cap, .pointer (some ⟨pb, 0, none⟩)] w (ArrPost w ⟨1, 1, [truthsV fn l]⟩) := by
  have HF := Lib.hid hF
  have HE := Lib.hid hE
  have HT := Lib.hid hT
  have HA := Lib.hid hA
  have HN := Lib.hid hN
  have HP := Lib.hid hp
  have hpb : pb < w.heap.size := World.block_lt_of_cell? w _ hp
  clear hF hE hT hA hN hp
  go_enter Try.func51, Try.ntmps51
  go_wp2_with fail
  refine abs_world ?_
  intro W0 hW0
  have hB0 : Below w.heap.size w W0 := by rw [hW0]; (repeat (first | with_reducible exact Below.refl _ _ | with_reducible exact hBW | with_reducible refine Below.setCell ?_ ?_ _ | with_reducible refine Below.alloc ?_ ?_ _ | with_reducible refine belowN ?_ _ | with_reducible refine Below.drew ?_)); all_goals (first | omega | (dsimp only; omega) | ((repeat (first | with_reducible refine le_alloc ?_ | with_reducible refine le_setCell ?_ | with_reducible refine le_drew ?_ | with_reducible refine le_drewN ?_)); omega))
  have g0 : W0.heap[w.heap.size]? = some (.cells #[.int .i64 0, .int .i64 0, .slice none 0 0] 27) := by rw [hW0]; (repeat (first | (with_reducible refine heap_alloc_at ?_ _; (first | rfl | (simp; done) | omega | (simp; omega)); done) | with_reducible refine heap_alloc_old ?_ _ | with_reducible refine heap_drew_old ?_ | with_reducible refine heap_drewN_old ?_))
  have G0 := Lib.hid g0
  have HB0 := Lib.hid hB0
  clear hW0 g0 hB0
  go_loopw [4, 5, 14] (fun ys zs i wr => ∃ (k : Nat) (y c : Int), i = .int .i64 k ∧ ys = .int .i64 y ∧ zs = .int .i64 c ∧ k ≤ l.length ∧ Hid (scan (allV (l.take k)) 0 0 = .ok (y, c)) ∧ Below W0.heap.size W0 wr) (fun _ _ i _ => l.length - (intOf i).toNat)
  case atStart => exact ⟨0, 0, 0, rfl, rfl, rfl, Nat.zero_le _, rfl, Below.refl _ _⟩
  case round =>
    obtain ⟨k, y, c, rfl, rfl, rfl, hk, hS, hB⟩ := hrel
    have HB := Lib.hid hB
    have HBw : Hid (Below w.heap.size w wr) := HB0.out.trans (hB.mono HB0.out.size)
    clear hB
    by_cases hlt : k < l.length
    · obtain ⟨A, hAk⟩ : ∃ A, l[k]? = some A := ⟨_, List.getElem?_eq_getElem hlt⟩
      obtain ⟨b, off, rfl, _, hb, hall⟩ := (HA.out.below HBw.out) (by omega)
      obtain ⟨a', cap', c0, c1, c2, hsl⟩ := hall k A hAk
      have HAk := Lib.hid hAk
      have HSL := Lib.hid hsl
      have hAl : A.l.length ≤ 1000000 := by
        obtain ⟨post, hp⟩ := allV_split hAk
        have := HN.out
        rw [hp] at this
        simp at this
        omega
      clear hall hAk hsl
      go_wp2_with fail
      refine abs_world ?_
      intro W1 hW1
      have hB1 : Below wr.heap.size wr W1 := by rw [hW1]; (repeat (first | with_reducible exact Below.refl _ _ | with_reducible exact hBW | with_reducible refine Below.setCell ?_ ?_ _ | with_reducible refine Below.alloc ?_ ?_ _ | with_reducible refine belowN ?_ _ | with_reducible refine Below.drew ?_)); all_goals (first | omega | (dsimp only; omega) | ((repeat (first | with_reducible refine le_alloc ?_ | with_reducible refine le_setCell ?_ | with_reducible refine le_drew ?_ | with_reducible refine le_drewN ?_)); omega))
      have HB1 : Hid (Below W0.heap.size W0 W1) := HB.out.trans (hB1.mono HB.out.size)
      have HSL1 := Lib.hid (HSL.out.below hB1)
      clear hW1 hB1 c0 c1 c2 HSL
      go_loopw [4, 5, 21] (fun ys zs i wr => ∃ (j : Nat) (y c : Int), i = .int .i64 j ∧ ys = .int .i64 y ∧ zs = .int .i64 c ∧ j ≤ A.l.length ∧ Hid (scan (allV (l.take k) ++ A.l.take j) 0 0 = .ok (y, c)) ∧ Below W0.heap.size W0 wr ∧ SlB 0 wr a' A.l) (fun _ _ i _ => A.l.length - (intOf i).toNat)
      case atStart => exact ⟨0, y, c, rfl, rfl, rfl, Nat.zero_le _, by simpa using hS, HB1.out, HSL1.out⟩
      case round =>
        clear hS HB HBw
        obtain ⟨j, y, c, rfl, rfl, rfl, hj, hS, hB, hsl⟩ := hrel
        have HB := Lib.hid hB
        have HBw : Hid (Below w.heap.size w wr) := HB0.out.trans (hB.mono HB0.out.size)
        have hbd := scan_bd _ 0 0 y c (Int.le_refl _) (Int.le_refl _) hS
        have hlen : (allV (l.take k) ++ A.l.take j).length ≤ 1000000 := by
          obtain ⟨post, hp⟩ := allV_split HAk.out
          have := HN.out
          rw [hp] at this
          simp at this ⊢
          omega
        have q1 : 0 ≤ y := hbd.1
        have q2 : y ≤ c := hbd.2.1
        have q3 : c ≤ 1000000 := by have := hbd.2.2; omega
        have HSL := Lib.hid hsl
        clear hB hbd hlen hsl
        by_cases hjt : j < A.l.length
        · obtain ⟨v, hv⟩ : ∃ v, A.l[j]? = some v := ⟨_, List.getElem?_eq_getElem hjt⟩
          obtain ⟨b2, off2, rfl, hb2, c0, c1, c2, c3, c4, c5⟩ := HSL.out.cells hv
          have HTv := Lib.hid (HT.out A (List.mem_of_getElem? HAk.out) v (List.mem_of_getElem? hv))
          have HV := Lib.hid hv
          clear hv
          go_wp2_with fail
          refine (HTv.out _).mono ?_
          rintro e' w2 ⟨rfl, hb3⟩
          obtain ⟨tb, tf, ht⟩ : ∃ tb tf, TT v = (tb, tf) := ⟨_, _, rfl⟩
          have hs2 : wr.heap.size + 1 ≤ w2.heap.size := by have := hb3.size; simpa using this
          have ev : w2.heap[wr.heap.size]? = some (.cells #[.int .i64 v.k, .int .i64 v.m, .int .i64 v.e, .string v.t, .bool v.b, .int .i64 v.f] 36) := (hb3.block _ (by simp)).trans (by (repeat (first | (with_reducible refine heap_alloc_at ?_ _; (first | rfl | (simp; done) | omega | (simp; omega)); done) | with_reducible refine heap_alloc_old ?_ _ | with_reducible refine heap_drew_old ?_ | with_reducible refine heap_drewN_old ?_)))
          have d0 := cell_of_heap ev 0
          have hd : wr.heap.size < w2.heap.size := lt_of_heap ev
          have hBr2 : Below wr.heap.size wr w2 := by
            refine Below.trans ?_ (hb3.mono (by simp))
            (repeat (first | with_reducible exact Below.refl _ _ | with_reducible exact hBW | with_reducible refine Below.setCell ?_ ?_ _ | with_reducible refine Below.alloc ?_ ?_ _ | with_reducible refine belowN ?_ _ | with_reducible refine Below.drew ?_)); all_goals (first | omega | (dsimp only; omega) | ((repeat (first | with_reducible refine le_alloc ?_ | with_reducible refine le_setCell ?_ | with_reducible refine le_drew ?_ | with_reducible refine le_drewN ?_)); omega))
          have HB2 : Hid (Below W0.heap.size W0 w2) := HB.out.trans (hBr2.mono HB.out.size)
          have HSL2 := Lib.hid (HSL.out.below hBr2)
          rw [ht]
          have HTT := Lib.hid ht
          clear ht hb3 ev c0 c1 c2 c3 c4 c5 hBr2 HSL HTv
          by_cases hf : tf = 0
          · subst hf
            by_cases hk0 : v.k = 0
            · have n0 : (v.k == 0) = true := by simp [hk0]
              have HS2 := Lib.hid (scan_blank hS.out (by rw [HTT.out]) hk0)
              clear hk0
              go_wp2_with fail
              go_roundw
              case rel => exact ⟨j + 1, y, c, by go_num, rfl, rfl, by omega, by rw [take_snoc' HV.out, ← List.append_assoc]; exact HS2.out, HB2.out, HSL2.out⟩
              case measure => simp [intOf]; omega
            · have n0 : (v.k == 0) = false := by simp [hk0]
              have HS2 := Lib.hid (scan_next hS.out (by rw [HTT.out]) hk0)
              rw [HTT.out] at HS2
              clear hk0
              cases tb with
              | true =>
                go_wp2_with fail
                go_roundw
                case rel => exact ⟨j + 1, y + 1, c + 1, by go_num, rfl, rfl, by omega, by rw [take_snoc' HV.out, ← List.append_assoc]; exact HS2.out, HB2.out, HSL2.out⟩
                case measure => simp [intOf]; omega
              | false =>
                go_wp2_with fail
                go_roundw
                case rel => exact ⟨j + 1, y, c + 1, by go_num, rfl, rfl, by omega, by rw [take_snoc' HV.out, ← List.append_assoc]; exact HS2.out, HB2.out, HSL2.out⟩
                case measure => simp [intOf]; omega
          · have n0 : (tf != 0) = true := by simp [hf]
            have HV2 : Hid (truthsV fn l = vBad tf) := by
              obtain ⟨p1, e1⟩ := allV_split HAk.out
              obtain ⟨p2, e2⟩ := take_split HV.out
              have := scan_fault (l := allV l) (pre := allV (l.take k) ++ A.l.take j) (v := v) (post := p2 ++ p1) (by have e3 : allV l = allV (l.take k) ++ (A.l.take j ++ v :: p2) ++ p1 := (by rw [← e2]; exact e1); rw [e3]; simp [List.append_assoc]) hS.out (by rw [HTT.out]; exact hf)
              unfold Hid truthsV
              rw [this, HTT.out]
            clear hf
            go_wp2_with fail
            refine (alone_any tf _).mono ?_
            rintro e' w3 ⟨x3, rfl, ⟨a3, cap3, rfl, hsl3⟩, hb4⟩
            rw [← HV2.out] at hsl3
            have hB3 : Below W0.heap.size W0 w3 := HB2.out.trans (hb4.mono HB2.out.size)
            have e0 := (hB3.block w.heap.size (lt_of_heap G0.out)).trans G0.out
            have x0 := cell_of_heap e0
            have y0 := frozen_of_heap e0
            have hn0 : w.heap.size < w3.heap.size := lt_of_heap e0
            have HSL3 := Lib.hid (hsl3.mono (B' := w.heap.size + 1) (Nat.le_trans (lt_of_heap G0.out) HB2.out.size))
            have HB3 := Lib.hid (HB0.out.trans (hB3.mono HB0.out.size))
            clear hsl3 hb4 hB3 e0
            go_wp2_with fail
            refine bodyPost_ret (v := .agg #[.int .i64 1, .int .i64 1, .slice a3 1 cap3]) (by simp [results, Try.results51, go_sem, x0]) rfl ?_
            exact arr_hand (A := ⟨1, 1, [truthsV fn l]⟩) (n := 0) (Nat.le_refl _) HSL3.out HB3.out _ _ _
        · have HS2 : Hid (scan (allV (l.take (k + 1))) 0 0 = .ok (y, c)) := by
            rw [take_snoc' HAk.out, allV_snoc]
            have := hS.out
            rwa [List.take_of_length_le (l := A.l) (i := j) (by omega)] at this
          go_wp2_with fail
          go_roundw
          case rel => exact ⟨k + 1, y, c, by go_num, rfl, rfl, by omega, HS2, HB.out⟩
          case measure => simp [intOf]; omega
    · have HS2 : Hid (scan (allV l) 0 0 = .ok (y, c)) := by
        have := hS.out
        rwa [List.take_of_length_le (by omega)] at this
      have hbd := scan_bd _ 0 0 y c (Int.le_refl _) (Int.le_refl _) HS2.out
      have q1 : 0 ≤ y := hbd.1
      have q2 : y ≤ c := hbd.2.1
      have q3 : c ≤ 1000000 := by have := hbd.2.2; have := HN.out; omega
      have pc := (HBw.out.cell (p := ⟨pb, 0, none⟩) hpb).trans HP.out
      have hpb2 : pb < wr.heap.size := Nat.lt_of_lt_of_le hpb HBw.out.size
      clear hbd hS
      by_cases hc0 : c = 0
      · have n0 : (c == 0) = true := by simp [hc0]
        have HV2 : Hid (truthsV fn l = vBad 2) := by
          unfold Hid truthsV
          rw [HS2.out]
          simp [hc0]
        clear hc0
        go_wp2_with fail
        refine (alone_any 2 _).mono ?_
        rintro e' w3 ⟨x3, rfl, ⟨a3, cap3, rfl, hsl3⟩, hb4⟩
        rw [← HV2.out] at hsl3
        have HB2 := HB
        have hB3 : Below W0.heap.size W0 w3 := HB2.out.trans (hb4.mono HB2.out.size)
        have e0 := (hB3.block w.heap.size (lt_of_heap G0.out)).trans G0.out
        have x0 := cell_of_heap e0
        have y0 := frozen_of_heap e0
        have hn0 : w.heap.size < w3.heap.size := lt_of_heap e0
        have HSL3 := Lib.hid (hsl3.mono (B' := w.heap.size + 1) (Nat.le_trans (lt_of_heap G0.out) HB2.out.size))
        have HB3 := Lib.hid (HB0.out.trans (hB3.mono HB0.out.size))
        clear hsl3 hb4 hB3 e0
        go_wp2_with fail
        refine bodyPost_ret (v := .agg #[.int .i64 1, .int .i64 1, .slice a3 1 cap3]) (by simp [results, Try.results51, go_sem, x0]) rfl ?_
        exact arr_hand (A := ⟨1, 1, [truthsV fn l]⟩) (n := 0) (Nat.le_refl _) HSL3.out HB3.out _ _ _
      · have n0 : (c == 0) = false := by simp [hc0]
        have HV2 : Hid (truthsV fn l = vTruth (fn y c)) := by
          unfold Hid truthsV
          rw [HS2.out]
          simp [hc0]
        clear hc0
        have ent := HE.out
        go_wp2_with fail
        clear ent
        refine (HF.out y c wr q1 q2 q3).mono ?_
        rintro e' w3' ⟨rfl, rfl⟩
        go_wp2_with fail
        refine (truth_any (fn y c) _).mono ?_
        rintro e' w2 ⟨rfl, hb3⟩
        have HB2 : Hid (Below W0.heap.size W0 w2) := HB.out.trans (hb3.mono HB.out.size)
        clear hb3 pc
        go_wp2_with fail
        refine (One_any (vTruth (fn y c)) (rightOk_truth _) w2).mono ?_
        rintro e' w3 ⟨x3, rfl, ⟨a3, cap3, rfl, hsl3⟩, hb4⟩
        rw [← HV2.out] at hsl3
        have hB3 : Below W0.heap.size W0 w3 := HB2.out.trans (hb4.mono HB2.out.size)
        have e0 := (hB3.block w.heap.size (lt_of_heap G0.out)).trans G0.out
        have x0 := cell_of_heap e0
        have y0 := frozen_of_heap e0
        have hn0 : w.heap.size < w3.heap.size := lt_of_heap e0
        have HSL3 := Lib.hid (hsl3.mono (B' := w.heap.size + 1) (Nat.le_trans (lt_of_heap G0.out) HB2.out.size))
        have HB3 := Lib.hid (HB0.out.trans (hB3.mono HB0.out.size))
        clear hsl3 hb4 hB3 e0
        go_wp2_with fail
        refine bodyPost_ret (v := .agg #[.int .i64 1, .int .i64 1, .slice a3 1 cap3]) (by simp [results, Try.results51, go_sem, x0]) rfl ?_
        exact arr_hand (A := ⟨1, 1, [truthsV fn l]⟩) (n := 0) (Nat.le_refl _) HSL3.out HB3.out _ _ _
end Go.Proofs.Ytgbedjeiihigaaa
