/- num.Text. -/
import Derived.Test.YtndhmahkglfopaaGreatDoorQT16P
import Derived.Test.YtndhmahkglfopaaGreatDoorQT13Fold2
namespace Go.Proofs.YtndhmahkglfopaaGreatDoor
open Go.RowKit
theorem ba_app (x y : List UInt8) : (⟨x.toArray⟩ : ByteArray) ++ ⟨y.toArray⟩ = ⟨(x ++ y).toArray⟩ := by
  apply ByteArray.ext
  simp
theorem repL (c : Nat) : Lib.repeatL [48] c = List.replicate c 48 := by
  induction c with
  | zero => rfl
  | succ c ih => rw [Lib.repeatL, ih]; rfl
theorem ret_str {x y : ByteArray} (h : x = y) : Ending.returned (.string x) = .returned (.string y) := by rw [h]
section
variable (m e : Int) (w : World)
set_option maxHeartbeats 2000000
set_option maxRecDepth 100000
theorem Text_any16 (h : numR m e = true) (htab : Tab w) : Calls Tryz.prog 106 #[.agg #[.int .i64 m, .int .i64 e]] w fun r w' => r = .returned (.string ⟨(textL m e).toArray⟩) ∧ Below w.heap.size w w' := by
  have HR := Lib.hid (right_yes h)
  have hb := numR_small h
  have HS := Lib.hid (size_all m (numR_i64 h))
  have HF := Lib.hid (fun w htab => fmtUint_any m.natAbs (by omega) w htab)
  have hl := dec_le m.natAbs (by omega)
  have hlp := dec_pos m.natAbs
  obtain ⟨T, hT⟩ : ∃ T, T = textL m e := ⟨_, rfl⟩
  rw [← hT]
  unfold textL at hT
  generalize Lib.decDigits m.natAbs = L at HF hl hlp hT
  obtain ⟨n, hn⟩ : ∃ n, n = m.natAbs := ⟨_, rfl⟩
  rw [← hn] at HS HF
  have ER := Lib.hid hT
  have HT := Lib.hid htab
  have HB := Lib.hid hb
  clear h htab hT hb hn
  go_enter Tryz.func106, Tryz.ntmps106
  go_wp2_with fail
  refine (HR.out _).mono ?_
  rintro r w1 ⟨rfl, hb1⟩
  have ev : w1.heap[w.heap.size]? = some (.cells #[.int .i64 m, .int .i64 e] 32 (0, 0)) := (hb1.block _ (by simp)).trans (by (repeat (first | (with_reducible refine bw5 ?_ _; (first | rfl | (simp; done) | omega | (simp; omega)); done) | with_reducible refine bw6 ?_ _ | with_reducible refine bw7 ?_ | with_reducible refine bw8 ?_)))
  have FB1 : Hid (Below w.heap.size w w1) := by
    refine Below.trans ?_ (hb1.mono (by simp))
    (repeat with_reducible (first | exact bw0 _ _ | exact hBW | refine bw1 ?_ ?_ _ | refine bw2 ?_ ?_ _ | refine bw3 ?_ _ | refine bw4 ?_)); all_goals (first | omega | (dsimp only; omega) | ((repeat with_reducible (first | refine lz1 ?_ | refine lz2 ?_ | refine lz3 ?_ | refine lz4 ?_)); omega))
  have k0 := cell_of_heap ev 0
  have k1 := cell_of_heap ev 1
  have z0 := lt_of_heap ev
  have EV := Lib.hid ev
  have HT1 := Lib.hid (HT.out.below FB1.out)
  clear hb1 ev HR
  go_wp2_with fail
  refine (HS.out _).mono ?_
  rintro r w2 ⟨rfl, rfl⟩
  clear HS
  go_wp2_with fail
  refine (HF.out _ HT1.out).mono ?_
  rintro r w2 ⟨rfl, hb2⟩
  have FB2 := Lib.hid (FB1.out.trans (hb2.mono FB1.out.size))
  have q := (hb2.block _ (lt_of_heap EV.out)).trans EV.out
  have EV2 := Lib.hid q
  clear k0 k1 z0 hb2 q HF
  have k0 := cell_of_heap EV2.out 0
  have k1 := cell_of_heap EV2.out 1
  have z0 := lt_of_heap EV2.out
  have hsz : ByteArray.size ⟨L.toArray⟩ = L.length := by simp [ByteArray.size]
  by_cases hm : m < 0
  · have dm : decide (m < 0) = true := decide_eq_true hm
    by_cases he : 0 ≤ e
    · have de : decide (0 ≤ e) = true := decide_eq_true he
      obtain ⟨c, hc⟩ : ∃ c : Nat, e = c := ⟨e.toNat, by omega⟩
      have hcb := HB.out.2.2
      have hrl : (Lib.repeatL [48] c).length = c := by rw [repL]; simp
      have HRP := Lib.hid (fun w => Tryz.strings_Repeat ⟨#[48]⟩ c w (by omega) (by have : ByteArray.size ⟨#[48]⟩ = 1 := rfl; rw [this]; omega))
      subst hc
      go_wp2_with fail
      refine (HRP.out _).mono ?_
      rintro r w3 ⟨rfl, hb3⟩
      have FB3 := Lib.hid (FB2.out.trans (hb3.mono FB2.out.size))
      clear hb3
      go_wp2_with fail
      have EQ : Hid ((⟨([45] : List UInt8).toArray⟩ : ByteArray) ++ ⟨L.toArray⟩ ++ ⟨(Lib.repeatL [48] c).toArray⟩ = ⟨T.toArray⟩) := by
        unfold Hid
        rw [ba_app, ba_app, ER.out, repL]
        simp [hm]
      go_ret
      exact ⟨ret_str EQ.out, FB3.out⟩
    · have de : decide (0 ≤ e) = false := decide_eq_false he
      have hee := HB.out.2.1
      by_cases hw : 0 < (L.length : Int) + e
      · have dw : decide (0 < (L.length : Int) + e) = true := decide_eq_true hw
        obtain ⟨p, hp⟩ : ∃ p : Nat, (L.length : Int) + e = p := ⟨((L.length : Int) + e).toNat, by omega⟩
        have HPP := Lib.hid hp
        have w1' : wrap64 ((L.length : Int) + e) = (p : Int) := by rw [hp]; exact IntWalk.wrap64_in _ (by omega)
        have hpl : p < L.length := by omega
        have hp0 : 0 < p := by omega
        have hple : p ≤ L.length := by omega
        obtain ⟨P1, hP1⟩ : ∃ P1, P1 = L.take p := ⟨_, rfl⟩
        obtain ⟨P2, hP2⟩ : ∃ P2, P2 = L.drop p := ⟨_, rfl⟩
        have x1' : ByteArray.extract ⟨L.toArray⟩ 0 p = ⟨P1.toArray⟩ := by rw [hP1]; apply ByteArray.ext; simp
        have x2' : ByteArray.extract ⟨L.toArray⟩ p L.length = ⟨P2.toArray⟩ := by
          rw [hP2]
          apply ByteArray.ext
          simp
          exact List.take_of_length_le (by simp)
        have x3' : P1.length = p := by rw [hP1]; simp; omega
        have x4' : P2.length ≤ 20 := by rw [hP2]; simp; omega
        have s0 : ¬ 9223372036854775807 < 1 + p := by omega
        have s1 : ¬ 9223372036854775807 < 1 + p + 1 := by omega
        have s2 : ¬ 9223372036854775807 < 1 + p + 1 + P2.length := by omega
        have s3 : ¬ 9223372036854775807 < p := by omega
        have s4 : ¬ 9223372036854775807 < p + 1 := by omega
        have s5 : ¬ 9223372036854775807 < p + 1 + P2.length := by omega
        have HP1 := Lib.hid hP1
        have HP2 := Lib.hid hP2
        clear hP1 hP2
        have HW := Lib.hid hw
        have HE := Lib.hid he
        clear dw hp hw he
        have dp : decide (0 < (p : Int)) = true := decide_eq_true (by omega)
        go_wp2_with fail
        refine wp_region_mix [0, 1, 2, 3, 4, 5, 6, 7, 8, 9, 10] [] [] (Below w2.heap.size w2) (by kernel_rfl) (by kernel_rfl) (Below.refl _ _).drew ?_
        iterate 11 (first | (apply first_step; (rw [List.getElem?_toArray]; (repeat rw [List.getElem?_cons_succ]); rw [List.getElem?_cons_zero]); rfl; (intro W hB; have hc := bcellB hB; go_simp; (first | done | rfl)); go_frame) | (apply first_skip; (rw [List.getElem?_toArray]; (repeat rw [List.getElem?_cons_succ]); rw [List.getElem?_cons_zero]); rfl; go_frame))
        refine first_done ?_
        refine tail_done ?_
        go_wp2_with fail
        have EQ : Hid ((⟨([45] : List UInt8).toArray⟩ : ByteArray) ++ ⟨P1.toArray⟩ ++ ⟨#[46]⟩ ++ ⟨P2.toArray⟩ = ⟨T.toArray⟩) := by
          unfold Hid
          have h46 : (⟨#[46]⟩ : ByteArray) = ⟨([46] : List UInt8).toArray⟩ := rfl
          rw [h46, ba_app, ba_app, ba_app, ER.out, if_neg (show ¬ (0 ≤ e) by have := HE.out; omega), if_pos (show (0 < (L.length : Int) + e) from HW.out), HPP.out, HP1.out, HP2.out]
          simp [hm]
        go_ret
        exact ⟨ret_str EQ.out, FB2.out.drew⟩
      · obtain ⟨c, hc⟩ : ∃ c : Nat, (L.length : Int) + e = -(c : Int) := ⟨(-((L.length : Int) + e)).toNat, by omega⟩
        have w1' : wrap64 ((L.length : Int) + e) = -(c : Int) := by rw [hc]; exact IntWalk.wrap64_in _ (by omega)
        have w2' : wrap64 (-(-(c : Int))) = (c : Int) := by rw [Int.neg_neg]; exact IntWalk.wrap64_in _ (by omega)
        have w3' : wrap64 (c : Int) = (c : Int) := IntWalk.wrap64_in _ (by omega)
        have dp : decide (0 < -(c : Int)) = false := decide_eq_false (by omega)
        have hrl : (Lib.repeatL [48] c).length = c := by rw [repL]; simp
        have HRP := Lib.hid (fun w => Tryz.strings_Repeat ⟨#[48]⟩ c w (by omega) (by have : ByteArray.size ⟨#[48]⟩ = 1 := rfl; rw [this]; omega))
        have hc40 : c ≤ 40 := by omega
        have HC := Lib.hid hc
        have HW := Lib.hid hw
        have HE := Lib.hid he
        clear hc hw he
        go_wp2_with fail
        refine (HRP.out _).mono ?_
        rintro r w3 ⟨rfl, hb3⟩
        have FB3 := Lib.hid (FB2.out.trans (hb3.mono FB2.out.size))
        clear hb3
        go_wp2_with fail
        have EQ : Hid ((⟨([45] : List UInt8).toArray⟩ : ByteArray) ++ ⟨#[48, 46]⟩ ++ ⟨(Lib.repeatL [48] c).toArray⟩ ++ ⟨L.toArray⟩ = ⟨T.toArray⟩) := by
          unfold Hid
          have h48 : (⟨#[48, 46]⟩ : ByteArray) = ⟨([48, 46] : List UInt8).toArray⟩ := rfl
          rw [h48, ba_app, ba_app, ba_app, ER.out, repL, if_neg (show ¬ (0 ≤ e) by have := HE.out; omega), if_neg (show ¬ (0 < (L.length : Int) + e) by have := HW.out; omega), HC.out]
          simp [hm]
        go_ret
        exact ⟨ret_str EQ.out, FB3.out⟩
  · have dm : decide (m < 0) = false := decide_eq_false hm
    by_cases he : 0 ≤ e
    · have de : decide (0 ≤ e) = true := decide_eq_true he
      obtain ⟨c, hc⟩ : ∃ c : Nat, e = c := ⟨e.toNat, by omega⟩
      have hcb := HB.out.2.2
      have hrl : (Lib.repeatL [48] c).length = c := by rw [repL]; simp
      have HRP := Lib.hid (fun w => Tryz.strings_Repeat ⟨#[48]⟩ c w (by omega) (by have : ByteArray.size ⟨#[48]⟩ = 1 := rfl; rw [this]; omega))
      subst hc
      go_wp2_with fail
      refine (HRP.out _).mono ?_
      rintro r w3 ⟨rfl, hb3⟩
      have FB3 := Lib.hid (FB2.out.trans (hb3.mono FB2.out.size))
      clear hb3
      go_wp2_with fail
      have EQ : Hid ((⟨([] : List UInt8).toArray⟩ : ByteArray) ++ ⟨L.toArray⟩ ++ ⟨(Lib.repeatL [48] c).toArray⟩ = ⟨T.toArray⟩) := by
        unfold Hid
        rw [ba_app, ba_app, ER.out, repL]
        simp [hm]
      go_ret
      exact ⟨ret_str EQ.out, FB3.out⟩
    · have de : decide (0 ≤ e) = false := decide_eq_false he
      have hee := HB.out.2.1
      by_cases hw : 0 < (L.length : Int) + e
      · have dw : decide (0 < (L.length : Int) + e) = true := decide_eq_true hw
        obtain ⟨p, hp⟩ : ∃ p : Nat, (L.length : Int) + e = p := ⟨((L.length : Int) + e).toNat, by omega⟩
        have HPP := Lib.hid hp
        have w1' : wrap64 ((L.length : Int) + e) = (p : Int) := by rw [hp]; exact IntWalk.wrap64_in _ (by omega)
        have hpl : p < L.length := by omega
        have hp0 : 0 < p := by omega
        have hple : p ≤ L.length := by omega
        obtain ⟨P1, hP1⟩ : ∃ P1, P1 = L.take p := ⟨_, rfl⟩
        obtain ⟨P2, hP2⟩ : ∃ P2, P2 = L.drop p := ⟨_, rfl⟩
        have x1' : ByteArray.extract ⟨L.toArray⟩ 0 p = ⟨P1.toArray⟩ := by rw [hP1]; apply ByteArray.ext; simp
        have x2' : ByteArray.extract ⟨L.toArray⟩ p L.length = ⟨P2.toArray⟩ := by
          rw [hP2]
          apply ByteArray.ext
          simp
          exact List.take_of_length_le (by simp)
        have x3' : P1.length = p := by rw [hP1]; simp; omega
        have x4' : P2.length ≤ 20 := by rw [hP2]; simp; omega
        have s0 : ¬ 9223372036854775807 < 1 + p := by omega
        have s1 : ¬ 9223372036854775807 < 1 + p + 1 := by omega
        have s2 : ¬ 9223372036854775807 < 1 + p + 1 + P2.length := by omega
        have s3 : ¬ 9223372036854775807 < p := by omega
        have s4 : ¬ 9223372036854775807 < p + 1 := by omega
        have s5 : ¬ 9223372036854775807 < p + 1 + P2.length := by omega
        have HP1 := Lib.hid hP1
        have HP2 := Lib.hid hP2
        clear hP1 hP2
        have HW := Lib.hid hw
        have HE := Lib.hid he
        clear dw hp hw he
        have dp : decide (0 < (p : Int)) = true := decide_eq_true (by omega)
        go_wp2_with fail
        refine wp_region_mix [0, 1, 2, 3, 4, 5, 6, 7, 8, 9, 10] [] [] (Below w2.heap.size w2) (by kernel_rfl) (by kernel_rfl) (Below.refl _ _).drew ?_
        iterate 11 (first | (apply first_step; (rw [List.getElem?_toArray]; (repeat rw [List.getElem?_cons_succ]); rw [List.getElem?_cons_zero]); rfl; (intro W hB; have hc := bcellB hB; go_simp; (first | done | rfl)); go_frame) | (apply first_skip; (rw [List.getElem?_toArray]; (repeat rw [List.getElem?_cons_succ]); rw [List.getElem?_cons_zero]); rfl; go_frame))
        refine first_done ?_
        refine tail_done ?_
        go_wp2_with fail
        have EQ : Hid ((⟨([] : List UInt8).toArray⟩ : ByteArray) ++ ⟨P1.toArray⟩ ++ ⟨#[46]⟩ ++ ⟨P2.toArray⟩ = ⟨T.toArray⟩) := by
          unfold Hid
          have h46 : (⟨#[46]⟩ : ByteArray) = ⟨([46] : List UInt8).toArray⟩ := rfl
          rw [h46, ba_app, ba_app, ba_app, ER.out, if_neg (show ¬ (0 ≤ e) by have := HE.out; omega), if_pos (show (0 < (L.length : Int) + e) from HW.out), HPP.out, HP1.out, HP2.out]
          simp [hm]
        go_ret
        exact ⟨ret_str EQ.out, FB2.out.drew⟩
      · obtain ⟨c, hc⟩ : ∃ c : Nat, (L.length : Int) + e = -(c : Int) := ⟨(-((L.length : Int) + e)).toNat, by omega⟩
        have w1' : wrap64 ((L.length : Int) + e) = -(c : Int) := by rw [hc]; exact IntWalk.wrap64_in _ (by omega)
        have w2' : wrap64 (-(-(c : Int))) = (c : Int) := by rw [Int.neg_neg]; exact IntWalk.wrap64_in _ (by omega)
        have w3' : wrap64 (c : Int) = (c : Int) := IntWalk.wrap64_in _ (by omega)
        have dp : decide (0 < -(c : Int)) = false := decide_eq_false (by omega)
        have hrl : (Lib.repeatL [48] c).length = c := by rw [repL]; simp
        have HRP := Lib.hid (fun w => Tryz.strings_Repeat ⟨#[48]⟩ c w (by omega) (by have : ByteArray.size ⟨#[48]⟩ = 1 := rfl; rw [this]; omega))
        have hc40 : c ≤ 40 := by omega
        have HC := Lib.hid hc
        have HW := Lib.hid hw
        have HE := Lib.hid he
        clear hc hw he
        go_wp2_with fail
        refine (HRP.out _).mono ?_
        rintro r w3 ⟨rfl, hb3⟩
        have FB3 := Lib.hid (FB2.out.trans (hb3.mono FB2.out.size))
        clear hb3
        go_wp2_with fail
        have EQ : Hid ((⟨([] : List UInt8).toArray⟩ : ByteArray) ++ ⟨#[48, 46]⟩ ++ ⟨(Lib.repeatL [48] c).toArray⟩ ++ ⟨L.toArray⟩ = ⟨T.toArray⟩) := by
          unfold Hid
          have h48 : (⟨#[48, 46]⟩ : ByteArray) = ⟨([48, 46] : List UInt8).toArray⟩ := rfl
          rw [h48, ba_app, ba_app, ba_app, ER.out, repL, if_neg (show ¬ (0 ≤ e) by have := HE.out; omega), if_neg (show ¬ (0 < (L.length : Int) + e) by have := HW.out; omega), HC.out]
          simp [hm]
        go_ret
        exact ⟨ret_str EQ.out, FB3.out⟩
end
end Go.Proofs.YtndhmahkglfopaaGreatDoor
/- value.ToText. -/
namespace Go.Proofs.YtndhmahkglfopaaGreatDoor
open Go.RowKit
def TTPost (w : World) (R : ByteArray × Int) (e : Ending) (w' : World) : Prop := e = .returned (.tuple #[.string R.1, .int .i64 R.2]) ∧ Below w.heap.size w w'
section
variable (k m e f : Int) (t : ByteArray) (b : Bool) (w : World)
set_option maxHeartbeats 2000000
set_option maxRecDepth 100000
theorem tt_1 (h : numR m e = true) (htab : Tab w) : Calls Tryz.prog 70 #[.agg #[.int .i64 1, .int .i64 m, .int .i64 e, .string t, .bool b, .int .i64 f]] w (TTPost w (⟨(textL m e).toArray⟩, 0)) := by
  have HX := Lib.hid (fun w htab => Text_any16 m e w h htab)
  have HT := Lib.hid htab
  clear h htab
  go_enter Tryz.func70, Tryz.ntmps70
  go_wp2_with fail
  refine (HX.out _ (HT.out.below (by (repeat with_reducible (first | exact bw0 _ _ | exact hBW | refine bw1 ?_ ?_ _ | refine bw2 ?_ ?_ _ | refine bw3 ?_ _ | refine bw4 ?_)); all_goals (first | omega | (dsimp only; omega) | ((repeat with_reducible (first | refine lz1 ?_ | refine lz2 ?_ | refine lz3 ?_ | refine lz4 ?_)); omega))))).mono ?_
  rintro r w1 ⟨rfl, hb1⟩
  have HB1 : Hid (Below w.heap.size w w1) := by
    refine Below.trans ?_ (hb1.mono (by simp))
    (repeat with_reducible (first | exact bw0 _ _ | exact hBW | refine bw1 ?_ ?_ _ | refine bw2 ?_ ?_ _ | refine bw3 ?_ _ | refine bw4 ?_)); all_goals (first | omega | (dsimp only; omega) | ((repeat with_reducible (first | refine lz1 ?_ | refine lz2 ?_ | refine lz3 ?_ | refine lz4 ?_)); omega))
  clear hb1
  go_wp2_with fail
  go_ret2
  exact ⟨rfl, HB1.out⟩
theorem tt_2 : Calls Tryz.prog 70 #[.agg #[.int .i64 2, .int .i64 m, .int .i64 e, .string t, .bool b, .int .i64 f]] w (TTPost w (t, 0)) := by
  go_enter Tryz.func70, Tryz.ntmps70
  go_wp2_with fail
  go_ret2
  refine ⟨rfl, ?_⟩
  (repeat with_reducible (first | exact bw0 _ _ | exact hBW | refine bw1 ?_ ?_ _ | refine bw2 ?_ ?_ _ | refine bw3 ?_ _ | refine bw4 ?_)); all_goals (first | omega | (dsimp only; omega) | ((repeat with_reducible (first | refine lz1 ?_ | refine lz2 ?_ | refine lz3 ?_ | refine lz4 ?_)); omega))
theorem tt_3t : Calls Tryz.prog 70 #[.agg #[.int .i64 3, .int .i64 m, .int .i64 e, .string t, .bool true, .int .i64 f]] w (TTPost w (⟨#[84, 82, 85, 69]⟩, 0)) := by
  go_enter Tryz.func70, Tryz.ntmps70
  go_wp2_with fail
  go_ret2
  refine ⟨rfl, ?_⟩
  (repeat with_reducible (first | exact bw0 _ _ | exact hBW | refine bw1 ?_ ?_ _ | refine bw2 ?_ ?_ _ | refine bw3 ?_ _ | refine bw4 ?_)); all_goals (first | omega | (dsimp only; omega) | ((repeat with_reducible (first | refine lz1 ?_ | refine lz2 ?_ | refine lz3 ?_ | refine lz4 ?_)); omega))
theorem tt_3f : Calls Tryz.prog 70 #[.agg #[.int .i64 3, .int .i64 m, .int .i64 e, .string t, .bool false, .int .i64 f]] w (TTPost w (⟨#[70, 65, 76, 83, 69]⟩, 0)) := by
  go_enter Tryz.func70, Tryz.ntmps70
  go_wp2_with fail
  go_ret2
  refine ⟨rfl, ?_⟩
  (repeat with_reducible (first | exact bw0 _ _ | exact hBW | refine bw1 ?_ ?_ _ | refine bw2 ?_ ?_ _ | refine bw3 ?_ _ | refine bw4 ?_)); all_goals (first | omega | (dsimp only; omega) | ((repeat with_reducible (first | refine lz1 ?_ | refine lz2 ?_ | refine lz3 ?_ | refine lz4 ?_)); omega))
theorem tt_0 (n1 : (k == 1) = false) (n2 : (k == 2) = false) (n3 : (k == 3) = false) (n4 : (k == 4) = false) : Calls Tryz.prog 70 #[.agg #[.int .i64 k, .int .i64 m, .int .i64 e, .string t, .bool b, .int .i64 f]] w (TTPost w (⟨#[]⟩, 0)) := by
  go_enter Tryz.func70, Tryz.ntmps70
  go_wp2_with fail
  go_ret2
  refine ⟨rfl, ?_⟩
  (repeat with_reducible (first | exact bw0 _ _ | exact hBW | refine bw1 ?_ ?_ _ | refine bw2 ?_ ?_ _ | refine bw3 ?_ _ | refine bw4 ?_)); all_goals (first | omega | (dsimp only; omega) | ((repeat with_reducible (first | refine lz1 ?_ | refine lz2 ?_ | refine lz3 ?_ | refine lz4 ?_)); omega))
theorem tt_4 : Calls Tryz.prog 70 #[.agg #[.int .i64 4, .int .i64 m, .int .i64 e, .string t, .bool b, .int .i64 f]] w (TTPost w (⟨#[]⟩, f)) := by
  go_enter Tryz.func70, Tryz.ntmps70
  go_wp2_with fail
  refine abs_world ?_
  intro W1 hW1
  have hB1 : Below w.heap.size w W1 := by rw [hW1]; (repeat with_reducible (first | exact bw0 _ _ | exact hBW | refine bw1 ?_ ?_ _ | refine bw2 ?_ ?_ _ | refine bw3 ?_ _ | refine bw4 ?_)); all_goals (first | omega | (dsimp only; omega) | ((repeat with_reducible (first | refine lz1 ?_ | refine lz2 ?_ | refine lz3 ?_ | refine lz4 ?_)); omega))
  have ev : W1.heap[w.heap.size]? = some (.cells #[.int .i64 4, .int .i64 m, .int .i64 e, .string t, .bool b, .int .i64 f] 34) := by rw [hW1]; (repeat (first | (with_reducible refine bw5 ?_ _; (first | rfl | (simp; done) | omega | (simp; omega)); done) | with_reducible refine bw6 ?_ _ | with_reducible refine bw7 ?_ | with_reducible refine bw8 ?_))
  have k5 : W1.cell? ⟨w.heap.size, 5, none⟩ = some (.int .i64 f) := cell_of_heap ev 5
  have z0 := lt_of_heap ev
  have HB1 := Lib.hid hB1
  clear hW1 hB1 ev
  refine wp_region_mix [0, 1, 2, 3] [] [] (Below W1.heap.size W1) (by kernel_rfl) (by kernel_rfl) (Below.refl _ _).drew ?_
  iterate 4 (first | (apply first_step; (rw [List.getElem?_toArray]; (repeat rw [List.getElem?_cons_succ]); rw [List.getElem?_cons_zero]); rfl; (intro W hB; have hc := bcellB hB; go_simp; (first | done | rfl)); go_frame) | (apply first_skip; (rw [List.getElem?_toArray]; (repeat rw [List.getElem?_cons_succ]); rw [List.getElem?_cons_zero]); rfl; go_frame))
  refine first_done ?_
  refine tail_done ?_
  go_wp2_with fail
  go_ret2
  exact ⟨rfl, HB1.out.drew⟩
end
theorem ToText_any (v : V) (h : refR v = true) (w : World) (htab : Tab w) : Calls Tryz.prog 70 #[vagg v] w (TTPost w (toText v)) := by
  have hn : v.k = 1 → numR v.m v.e = true := fun hk => by
    unfold refR at h
    simp only [Bool.and_eq_true] at h
    have h5 := h.2
    rwa [if_pos hk] at h5
  obtain ⟨k, m, e, t, b, f⟩ := v
  unfold vagg toText
  simp only at hn ⊢
  by_cases k1 : k = 1
  · subst k1
    exact tt_1 m e f t b w (hn rfl) htab
  rw [if_neg k1]
  by_cases k2 : k = 2
  · subst k2
    exact tt_2 m e f t b w
  rw [if_neg k2]
  by_cases k3 : k = 3
  · subst k3
    cases b with
    | true => exact tt_3t m e f t w
    | false => exact tt_3f m e f t w
  rw [if_neg k3]
  by_cases k4 : k = 4
  · subst k4
    exact tt_4 m e f t b w
  rw [if_neg k4]
  exact tt_0 k m e f t b w (by simpa using k1) (by simpa using k2) (by simpa using k3) (by simpa using k4)
end Go.Proofs.YtndhmahkglfopaaGreatDoor
