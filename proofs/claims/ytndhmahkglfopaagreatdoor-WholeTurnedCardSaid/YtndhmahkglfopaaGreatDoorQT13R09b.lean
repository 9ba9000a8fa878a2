/- The document's answer: an array may be just if ArrR holds. -/
import Derived.Laws.IdiomStrings
import Derived.Test.YtndhmahkglfopaaGreatDoorQT13NumA
import Derived.Test.YtndhmahkglfopaaGreatDoorQT13Right
import Derived.Test.YtndhmahkglfopaaGreatDoorQT13R09
namespace Go.Proofs.YtndhmahkglfopaaGreatDoor
open Go.RowKit
def Q09 (A : Arr) (w : World) (e : Ending) (w' : World) : Prop := ∃ R : Bool, e = .returned (.bool R) ∧ (R = true ↔ ArrR A) ∧ Below w.heap.size w w'
section
variable (A : Arr) (a : Option Addr) (cap : Nat) (w : World)
set_option maxHeartbeats 1000000
set_option maxRecDepth 100000
theorem q09_1 (h : A.r < 1) : Calls Tryz.prog 14 #[.agg #[.int .i64 A.r, .int .i64 A.c, .slice a A.l.length cap]] w (Q09 A w) := by
  go_enter Tryz.func14, Tryz.ntmps14
  go_wp2_with fail
  go_ret
  refine ⟨false, rfl, ⟨fun h => (by cases h), fun h' => absurd h'.h1 (by omega)⟩, ?_⟩
  (repeat with_reducible (first | exact bw0 _ _ | exact hBW | refine bw1 ?_ ?_ _ | refine bw2 ?_ ?_ _ | refine bw3 ?_ _ | refine bw4 ?_)); all_goals (first | omega | (dsimp only; omega) | ((repeat with_reducible (first | refine lz1 ?_ | refine lz2 ?_ | refine lz3 ?_ | refine lz4 ?_)); omega))
theorem q09_2 (h1 : 1 ≤ A.r) (h : A.c < 1) : Calls Tryz.prog 14 #[.agg #[.int .i64 A.r, .int .i64 A.c, .slice a A.l.length cap]] w (Q09 A w) := by
  go_enter Tryz.func14, Tryz.ntmps14
  go_wp2_with fail
  go_ret
  refine ⟨false, rfl, ⟨fun h => (by cases h), fun h' => absurd h'.h2 (by omega)⟩, ?_⟩
  (repeat with_reducible (first | exact bw0 _ _ | exact hBW | refine bw1 ?_ ?_ _ | refine bw2 ?_ ?_ _ | refine bw3 ?_ _ | refine bw4 ?_)); all_goals (first | omega | (dsimp only; omega) | ((repeat with_reducible (first | refine lz1 ?_ | refine lz2 ?_ | refine lz3 ?_ | refine lz4 ?_)); omega))
theorem q09_3 (h1 : 1 ≤ A.r) (h2 : 1 ≤ A.c) (h : 4096 < A.r) : Calls Tryz.prog 14 #[.agg #[.int .i64 A.r, .int .i64 A.c, .slice a A.l.length cap]] w (Q09 A w) := by
  go_enter Tryz.func14, Tryz.ntmps14
  go_wp2_with fail
  go_ret
  refine ⟨false, rfl, ⟨fun h => (by cases h), fun h' => absurd h'.h3 (by omega)⟩, ?_⟩
  (repeat with_reducible (first | exact bw0 _ _ | exact hBW | refine bw1 ?_ ?_ _ | refine bw2 ?_ ?_ _ | refine bw3 ?_ _ | refine bw4 ?_)); all_goals (first | omega | (dsimp only; omega) | ((repeat with_reducible (first | refine lz1 ?_ | refine lz2 ?_ | refine lz3 ?_ | refine lz4 ?_)); omega))
theorem q09_4 (h1 : 1 ≤ A.r) (h2 : 1 ≤ A.c) (h3 : A.r ≤ 4096) (h : 4096 < A.c) : Calls Tryz.prog 14 #[.agg #[.int .i64 A.r, .int .i64 A.c, .slice a A.l.length cap]] w (Q09 A w) := by
  go_enter Tryz.func14, Tryz.ntmps14
  go_wp2_with fail
  go_ret
  refine ⟨false, rfl, ⟨fun h => (by cases h), fun h' => absurd h'.h4 (by omega)⟩, ?_⟩
  (repeat with_reducible (first | exact bw0 _ _ | exact hBW | refine bw1 ?_ ?_ _ | refine bw2 ?_ ?_ _ | refine bw3 ?_ _ | refine bw4 ?_)); all_goals (first | omega | (dsimp only; omega) | ((repeat with_reducible (first | refine lz1 ?_ | refine lz2 ?_ | refine lz3 ?_ | refine lz4 ?_)); omega))
theorem q09_5 (h1 : 1 ≤ A.r) (h2 : 1 ≤ A.c) (h3 : A.r ≤ 4096) (h4 : A.c ≤ 4096) (h : 4096 < A.r * A.c) : Calls Tryz.prog 14 #[.agg #[.int .i64 A.r, .int .i64 A.c, .slice a A.l.length cap]] w (Q09 A w) := by
  have hb := mul_bd A h1 h2 h3 h4
  have wm : wrap64 (A.r * A.c) = A.r * A.c := IntWalk.wrap64_in _ (by omega)
  go_enter Tryz.func14, Tryz.ntmps14
  go_wp2_with fail
  go_ret
  refine ⟨false, rfl, ⟨fun h => (by cases h), fun h' => absurd h'.h5 (by omega)⟩, ?_⟩
  (repeat with_reducible (first | exact bw0 _ _ | exact hBW | refine bw1 ?_ ?_ _ | refine bw2 ?_ ?_ _ | refine bw3 ?_ _ | refine bw4 ?_)); all_goals (first | omega | (dsimp only; omega) | ((repeat with_reducible (first | refine lz1 ?_ | refine lz2 ?_ | refine lz3 ?_ | refine lz4 ?_)); omega))
theorem q09_6 (h1 : 1 ≤ A.r) (h2 : 1 ≤ A.c) (h3 : A.r ≤ 4096) (h4 : A.c ≤ 4096) (h5 : A.r * A.c ≤ 4096) (h : (A.l.length : Int) ≠ A.r * A.c) : Calls Tryz.prog 14 #[.agg #[.int .i64 A.r, .int .i64 A.c, .slice a A.l.length cap]] w (Q09 A w) := by
  have hb := mul_bd A h1 h2 h3 h4
  have wm : wrap64 (A.r * A.c) = A.r * A.c := IntWalk.wrap64_in _ (by omega)
  have n1 : ((A.l.length : Int) != A.r * A.c) = true := by simpa using h
  have HH := Lib.hid h
  clear h
  go_enter Tryz.func14, Tryz.ntmps14
  go_wp2_with fail
  go_ret
  refine ⟨false, rfl, ⟨fun h => (by cases h), fun h' => absurd h'.h6 HH.out⟩, ?_⟩
  (repeat with_reducible (first | exact bw0 _ _ | exact hBW | refine bw1 ?_ ?_ _ | refine bw2 ?_ ?_ _ | refine bw3 ?_ _ | refine bw4 ?_)); all_goals (first | omega | (dsimp only; omega) | ((repeat with_reducible (first | refine lz1 ?_ | refine lz2 ?_ | refine lz3 ?_ | refine lz4 ?_)); omega))
theorem q09_7 (h1 : 1 ≤ A.r) (h2 : 1 ≤ A.c) (h3 : A.r ≤ 4096) (h4 : A.c ≤ 4096) (h5 : A.r * A.c ≤ 4096) (h6 : (A.l.length : Int) = A.r * A.c) (hs : SlB 0 w a A.l) : Calls Tryz.prog 14 #[.agg #[.int .i64 A.r, .int .i64 A.c, .slice a A.l.length cap]] w (Q09 A w) := by
  have hb := mul_bd A h1 h2 h3 h4
  have wm : wrap64 (A.r * A.c) = A.r * A.c := IntWalk.wrap64_in _ (by omega)
  have n1 : ((A.l.length : Int) != A.r * A.c) = false := by simpa using h6
  have H6 := Lib.hid h6
  have hl : A.l.length ≤ 4096 := by omega
  have HSL := Lib.hid hs
  clear h6 hs
  go_enter Tryz.func14, Tryz.ntmps14
  go_wp2_with fail
  refine abs_world ?_
  intro W0 hW0
  have hB0 : Below w.heap.size w W0 := by rw [hW0]; (repeat with_reducible (first | exact bw0 _ _ | exact hBW | refine bw1 ?_ ?_ _ | refine bw2 ?_ ?_ _ | refine bw3 ?_ _ | refine bw4 ?_)); all_goals (first | omega | (dsimp only; omega) | ((repeat with_reducible (first | refine lz1 ?_ | refine lz2 ?_ | refine lz3 ?_ | refine lz4 ?_)); omega))
  have g0 : W0.heap[w.heap.size]? = some (.cells #[.int .i64 A.r, .int .i64 A.c, .slice a A.l.length cap] 28) := by rw [hW0]; (repeat (first | (with_reducible refine bw5 ?_ _; (first | rfl | (simp; done) | omega | (simp; omega)); done) | with_reducible refine bw6 ?_ _ | with_reducible refine bw7 ?_ | with_reducible refine bw8 ?_))
  have G0 := Lib.hid g0
  have HB0 := Lib.hid hB0
  clear hW0 g0 hB0 wm n1
  go_loopw [3] (fun i wr => ∃ k : Nat, i = .int .i64 k ∧ k ≤ A.l.length ∧ Hid (∀ v ∈ A.l.take k, refR v = true) ∧ Hid (Below W0.heap.size W0 wr)) (fun i _ => A.l.length - (intOf i).toNat)
  case atStart => exact ⟨0, rfl, Nat.zero_le _, fun v hv => (by simp at hv), Below.refl _ _⟩
  case round =>
    obtain ⟨k, rfl, hk, hR, hB⟩ := hrel
    have e0 := (hB.out.block w.heap.size (lt_of_heap G0.out)).trans G0.out
    have x2 := cell_of_heap e0 2
    have z0 := lt_of_heap e0
    have HBw : Hid (Below w.heap.size w wr) := HB0.out.trans (hB.out.mono HB0.out.size)
    clear e0
    by_cases hlt : k < A.l.length
    · obtain ⟨v, hv⟩ : ∃ v, A.l[k]? = some v := ⟨_, List.getElem?_eq_getElem hlt⟩
      obtain ⟨b, off, rfl, hb', c0, c1, c2, c3, c4, c5⟩ := (HSL.out.below HBw.out).cells hv
      have HC := Lib.hid (ref02_any v)
      have NX : Hid (refR v = true → ∀ u ∈ A.l.take (k + 1), refR u = true) := fun h u hu => by
        rw [List.take_add_one, hv] at hu
        rcases List.mem_append.1 hu with hu | hu
        · exact hR.out u hu
        · simp at hu; rw [hu]; exact h
      have NY : Hid (refR v = false → ¬ ArrR A) := fun h h' => by
        have := h'.h7 v (List.mem_of_getElem? hv)
        rw [h] at this
        cases this
      generalize refR v = R at HC NX NY
      unfold vagg at HC
      have j1 : (0 : Int) ≤ (k : Int) := by omega
      have j2 : (k : Int) < (A.l.length : Int) := by omega
      clear hv hR
      go_wp2_with fail
      refine (HC.out _).mono ?_
      rintro e w2 ⟨rfl, f2⟩
      have HB2 : Hid (Below W0.heap.size W0 w2) := hB.out.trans (f2.mono hB.out.size)
      clear f2 c0 c1 c2 c3 c4 c5 x2
      cases R with
      | true =>
        have HN := Lib.hid (NX.out rfl)
        clear NX NY
        go_wp2_with fail
        go_roundw
        case rel => exact ⟨k + 1, by go_num, by omega, HN, HB2⟩
        case measure => simp [intOf]; omega
      | false =>
        have NZ := Lib.hid (NY.out rfl)
        clear NX NY
        go_wp2_with fail
        go_ret
        exact ⟨false, rfl, ⟨fun h => (by cases h), fun h => absurd h NZ.out⟩, HB0.out.trans (HB2.out.mono HB0.out.size)⟩
    · have HN : Hid (∀ v ∈ A.l, refR v = true) := by
        have := hR.out
        rwa [List.take_of_length_le (by omega)] at this
      clear hR
      go_wp2_with fail
      go_ret
      exact ⟨true, rfl, ⟨fun _ => ⟨h1, h2, h3, h4, h5, H6.out, HN.out⟩, fun _ => rfl⟩, HBw.out⟩
end
theorem q09_any (A : Arr) (a : Option Addr) (cap : Nat) (w : World) (hs : SlB 0 w a A.l) : Calls Tryz.prog 14 #[.agg #[.int .i64 A.r, .int .i64 A.c, .slice a A.l.length cap]] w (Q09 A w) := by
  by_cases h1 : A.r < 1
  · exact q09_1 A a cap w h1
  by_cases h2 : A.c < 1
  · exact q09_2 A a cap w (by omega) h2
  by_cases h3 : 4096 < A.r
  · exact q09_3 A a cap w (by omega) (by omega) h3
  by_cases h4 : 4096 < A.c
  · exact q09_4 A a cap w (by omega) (by omega) (by omega) h4
  by_cases h5 : 4096 < A.r * A.c
  · exact q09_5 A a cap w (by omega) (by omega) (by omega) (by omega) h5
  by_cases h6 : (A.l.length : Int) = A.r * A.c
  · exact q09_7 A a cap w (by omega) (by omega) (by omega) (by omega) (by omega) h6 hs
  · exact q09_6 A a cap w (by omega) (by omega) (by omega) (by omega) (by omega) h6
end Go.Proofs.YtndhmahkglfopaaGreatDoor
/- value.Right, shape.Right: the document's answer, of whatever value and array. -/
namespace Go.Proofs.YtndhmahkglfopaaGreatDoor
open Go.RowKit
theorem refR_plain {v : V} (h1 : v.k ≠ 1) (h2 : v.k ≠ 2) : rightP v = refR v := by
  obtain ⟨k, m, e, t, b, f⟩ := v
  simp only at h1 h2
  unfold rightP refR
  simp only [h1, h2, if_false, decide_false, Bool.false_or]
  by_cases hm : m = 0 <;> by_cases he : e = 0 <;> by_cases ht : t = ⟨#[]⟩ <;> by_cases k0 : k = 0 <;> by_cases k3 : k = 3 <;> by_cases k4 : k = 4 <;> by_cases hf : f = 0 <;> cases b <;> simp [hm, he, ht, k0, k3, k4, hf] <;> omega
section
variable (m e : Int) (t : ByteArray) (b : Bool) (f : Int) (w : World)
set_option maxHeartbeats 1000000
set_option maxRecDepth 100000
theorem right_1no (HN : ∀ w : World, Calls Tryz.prog 54 #[.agg #[.int .i64 m, .int .i64 e]] w fun r w' => r = .returned (.bool false) ∧ Below w.heap.size w w') : Calls Tryz.prog 76 #[.agg #[.int .i64 1, .int .i64 m, .int .i64 e, .string t, .bool b, .int .i64 f]] w fun r w' => r = .returned (.bool false) ∧ Below w.heap.size w w' := by
  have HN := Lib.hid HN
  go_enter Tryz.func76, Tryz.ntmps76
  go_wp2_with fail
  refine abs_world ?_
  intro W1 hW1
  have hB1 : Hid (Below w.heap.size w W1) := by rw [hW1]; unfold Hid; (repeat with_reducible (first | exact bw0 _ _ | exact hBW | refine bw1 ?_ ?_ _ | refine bw2 ?_ ?_ _ | refine bw3 ?_ _ | refine bw4 ?_)); all_goals (first | omega | (dsimp only; omega) | ((repeat with_reducible (first | refine lz1 ?_ | refine lz2 ?_ | refine lz3 ?_ | refine lz4 ?_)); omega))
  have ev : W1.heap[w.heap.size]? = some (.cells #[.int .i64 1, .int .i64 m, .int .i64 e, .string t, .bool b, .int .i64 f] 34) := by rw [hW1]; (repeat (first | (with_reducible refine bw5 ?_ _; (first | rfl | (simp; done) | omega | (simp; omega)); done) | with_reducible refine bw6 ?_ _ | with_reducible refine bw7 ?_ | with_reducible refine bw8 ?_))
  have k0 := cell_of_heap ev 0
  have k1 := cell_of_heap ev 1
  have k2 := cell_of_heap ev 2
  have k3 := cell_of_heap ev 3
  have k4 := cell_of_heap ev 4
  have k5 := cell_of_heap ev 5
  have z1 := lt_of_heap ev
  clear hW1 ev
  refine wp_region_multiR [([0, 1], [2], [2, 3, 4, 5, 6, 7, 8, 9, 10]), ([3, 5, 6, 4], [7], [8, 9, 10]), ([8, 9, 10], [], [])] (by kernel_rfl) (by kernel_rfl) ?_
  refine multi_phase (Below W1.heap.size W1) (Below.refl _ _).drew ?_
  iterate 2 (first | (apply first_step; (rw [List.getElem?_toArray]; (repeat rw [List.getElem?_cons_succ]); rw [List.getElem?_cons_zero]); rfl; (intro W hB; have hc := bcellB hB; go_simp; (first | done | rfl)); go_frame) | (apply first_skip; (rw [List.getElem?_toArray]; (repeat rw [List.getElem?_cons_succ]); rw [List.getElem?_cons_zero]); rfl; go_frame))
  refine first_done ?_
  apply forced_step; (rw [List.getElem?_toArray]; (repeat rw [List.getElem?_cons_succ]); rw [List.getElem?_cons_zero]); rfl; intro K hK; go_simp
  refine (HN.out _).mono ?_
  rintro r w2 ⟨rfl, hb2⟩
  have HB2 : Hid (Below W1.heap.size W1 w2) := (Below.refl _ W1).drew.trans hb2
  refine hK _ _ (fun h => absurd (by decide) h) ?_
  clear hK K hb2
  refine forced_done ?_
  refine multi_phase (Below W1.heap.size W1) HB2.out ?_
  iterate 4 (first | (apply first_step; (rw [List.getElem?_toArray]; (repeat rw [List.getElem?_cons_succ]); rw [List.getElem?_cons_zero]); rfl; (intro W hB; have hc := bcellB hB; go_simp; (first | done | rfl)); go_frame) | (apply first_skip; (rw [List.getElem?_toArray]; (repeat rw [List.getElem?_cons_succ]); rw [List.getElem?_cons_zero]); rfl; go_frame))
  refine first_done ?_
  apply forced_skip; (rw [List.getElem?_toArray]; (repeat rw [List.getElem?_cons_succ]); rw [List.getElem?_cons_zero]); rfl
  · exact fun _ => HB2.out
  refine forced_done ?_
  refine multi_phase (Below W1.heap.size W1) HB2.out ?_
  iterate 3 (first | (apply first_step; (rw [List.getElem?_toArray]; (repeat rw [List.getElem?_cons_succ]); rw [List.getElem?_cons_zero]); rfl; (intro W hB; have hc := bcellB hB; go_simp; (first | done | rfl)); go_frame) | (apply first_skip; (rw [List.getElem?_toArray]; (repeat rw [List.getElem?_cons_succ]); rw [List.getElem?_cons_zero]); rfl; go_frame))
  refine first_done ?_
  refine forced_done ?_
  refine multi_done ?_
  clear k0 k1 k2 k3 k4 k5
  go_wp2_with fail
  go_ret
  exact ⟨rfl, hB1.out.trans (HB2.out.mono hB1.out.size)⟩
theorem right_1eq (R : Bool) (HN : ∀ w : World, Calls Tryz.prog 54 #[.agg #[.int .i64 m, .int .i64 e]] w fun r w' => r = .returned (.bool true) ∧ Below w.heap.size w w')
    (HEQ : ∀ W, (binOp .eql 34 (.agg #[.int .i64 1, .int .i64 m, .int .i64 e, .string t, .bool b, .int .i64 f]) (.agg #[.int .i64 1, .int .i64 m, .int .i64 e, .string ⟨#[]⟩, .bool false, .int .i64 0])).run Tryz.prog W = .ok (.bool R) W) :
    Calls Tryz.prog 76 #[.agg #[.int .i64 1, .int .i64 m, .int .i64 e, .string t, .bool b, .int .i64 f]] w fun r w' => r = .returned (.bool R) ∧ Below w.heap.size w w' := by
  have HN := Lib.hid HN
  have HEQ := Lib.hid HEQ
  go_enter Tryz.func76, Tryz.ntmps76
  go_wp2_with fail
  refine abs_world ?_
  intro W1 hW1
  have hB1 : Hid (Below w.heap.size w W1) := by rw [hW1]; unfold Hid; (repeat with_reducible (first | exact bw0 _ _ | exact hBW | refine bw1 ?_ ?_ _ | refine bw2 ?_ ?_ _ | refine bw3 ?_ _ | refine bw4 ?_)); all_goals (first | omega | (dsimp only; omega) | ((repeat with_reducible (first | refine lz1 ?_ | refine lz2 ?_ | refine lz3 ?_ | refine lz4 ?_)); omega))
  have ev : W1.heap[w.heap.size]? = some (.cells #[.int .i64 1, .int .i64 m, .int .i64 e, .string t, .bool b, .int .i64 f] 34) := by rw [hW1]; (repeat (first | (with_reducible refine bw5 ?_ _; (first | rfl | (simp; done) | omega | (simp; omega)); done) | with_reducible refine bw6 ?_ _ | with_reducible refine bw7 ?_ | with_reducible refine bw8 ?_))
  have k0 := cell_of_heap ev 0
  have k1 := cell_of_heap ev 1
  have k2 := cell_of_heap ev 2
  have k3 := cell_of_heap ev 3
  have k4 := cell_of_heap ev 4
  have k5 := cell_of_heap ev 5
  have z1 := lt_of_heap ev
  clear hW1 ev
  refine wp_region_multiR [([0, 1], [2], [2, 3, 4, 5, 6, 7, 8, 9, 10]), ([3, 5, 6, 4], [7], [8, 9, 10]), ([8, 9, 10], [], [])] (by kernel_rfl) (by kernel_rfl) ?_
  refine multi_phase (Below W1.heap.size W1) (Below.refl _ _).drew ?_
  iterate 2 (first | (apply first_step; (rw [List.getElem?_toArray]; (repeat rw [List.getElem?_cons_succ]); rw [List.getElem?_cons_zero]); rfl; (intro W hB; have hc := bcellB hB; go_simp; (first | done | rfl)); go_frame) | (apply first_skip; (rw [List.getElem?_toArray]; (repeat rw [List.getElem?_cons_succ]); rw [List.getElem?_cons_zero]); rfl; go_frame))
  refine first_done ?_
  apply forced_step; (rw [List.getElem?_toArray]; (repeat rw [List.getElem?_cons_succ]); rw [List.getElem?_cons_zero]); rfl; intro K hK; go_simp
  refine (HN.out _).mono ?_
  rintro r w2 ⟨rfl, hb2⟩
  have HB2 : Hid (Below W1.heap.size W1 w2) := (Below.refl _ W1).drew.trans hb2
  refine hK _ _ (fun h => absurd (by decide) h) ?_
  clear hK K hb2
  refine forced_done ?_
  refine multi_phase (Below W1.heap.size W1) HB2.out ?_
  iterate 4 (first | (apply first_step; (rw [List.getElem?_toArray]; (repeat rw [List.getElem?_cons_succ]); rw [List.getElem?_cons_zero]); rfl; (intro W hB; have hc := bcellB hB; go_simp; (first | done | rfl)); go_frame) | (apply first_skip; (rw [List.getElem?_toArray]; (repeat rw [List.getElem?_cons_succ]); rw [List.getElem?_cons_zero]); rfl; go_frame))
  refine first_done ?_
  apply forced_step; (rw [List.getElem?_toArray]; (repeat rw [List.getElem?_cons_succ]); rw [List.getElem?_cons_zero]); rfl; intro K hK; go_simp
  refine (Of_any m e _).mono ?_
  rintro r w3 ⟨rfl, hb3⟩
  have HB3 : Hid (Below W1.heap.size W1 w3) := HB2.out.trans (hb3.mono HB2.out.size)
  refine hK _ _ (fun _ => HB3.out) ?_
  clear hK K hb3
  refine forced_done ?_
  have EQ := HEQ.out
  refine multi_phase (Below W1.heap.size W1) HB3.out ?_
  iterate 3 (first | (apply first_step; (rw [List.getElem?_toArray]; (repeat rw [List.getElem?_cons_succ]); rw [List.getElem?_cons_zero]); rfl; (intro W hB; have hc := bcellB hB; go_simp; (first | done | rfl)); go_frame) | (apply first_skip; (rw [List.getElem?_toArray]; (repeat rw [List.getElem?_cons_succ]); rw [List.getElem?_cons_zero]); rfl; go_frame))
  refine first_done ?_
  refine forced_done ?_
  refine multi_done ?_
  clear EQ k0 k1 k2 k3 k4 k5
  go_wp2_with fail
  go_ret
  exact ⟨rfl, hB1.out.trans (HB3.out.mono hB1.out.size)⟩
theorem Text_long (h : 255 < t.size) : Calls Tryz.prog 71 #[.string t] w fun r w' => r = .returned (.agg #[.int .i64 4, .int .i64 0, .int .i64 0, .string ⟨#[]⟩, .bool false, .int .i64 2]) ∧ Below w.heap.size w w' := by
  have HB := Lib.hid (bad_any 2)
  go_enter Tryz.func71, Tryz.ntmps71
  go_wp2_with fail
  refine (HB.out _).mono ?_
  rintro r w1 ⟨rfl, hb⟩
  have hs1 : w.heap.size + 1 ≤ w1.heap.size := by have := hb.size; simpa using this
  have g0 : w1.heap[w.heap.size]? = some (.cells #[.int .i64 0, .int .i64 0, .int .i64 0, .string ⟨#[]⟩, .bool false, .int .i64 0] 34) := (hb.block _ (by simp)).trans (by (repeat (first | (with_reducible refine bw5 ?_ _; (first | rfl | (simp; done) | omega | (simp; omega)); done) | with_reducible refine bw6 ?_ _ | with_reducible refine bw7 ?_ | with_reducible refine bw8 ?_)))
  have hBW : Below w.heap.size w w1 := by
    refine Below.trans ?_ (hb.mono (by simp))
    (repeat with_reducible (first | exact bw0 _ _ | exact hBW | refine bw1 ?_ ?_ _ | refine bw2 ?_ ?_ _ | refine bw3 ?_ _ | refine bw4 ?_)); all_goals (first | omega | (dsimp only; omega) | ((repeat with_reducible (first | refine lz1 ?_ | refine lz2 ?_ | refine lz3 ?_ | refine lz4 ?_)); omega))
  have x0 := cell_of_heap g0
  have y0 := frozen_of_heap g0
  clear hb g0
  unfold vagg vBad
  go_wp2_with fail
  refine bodyPost_ret (v := .agg #[.int .i64 4, .int .i64 0, .int .i64 0, .string ⟨#[]⟩, .bool false, .int .i64 2]) (by simp [results, Tryz.results71, go_sem, x0]) rfl ⟨rfl, ?_⟩
  (repeat with_reducible (first | exact bw0 _ _ | exact hBW | refine bw1 ?_ ?_ _ | refine bw2 ?_ ?_ _ | refine bw3 ?_ _ | refine bw4 ?_)); all_goals (first | omega | (dsimp only; omega) | ((repeat with_reducible (first | refine lz1 ?_ | refine lz2 ?_ | refine lz3 ?_ | refine lz4 ?_)); omega))
theorem right_2eq (R : Bool) (u : V) (HN : ∀ w : World, Calls Tryz.prog 71 #[.string t] w fun r w' => r = .returned (vagg u) ∧ Below w.heap.size w w')
    (HEQ : ∀ W, (binOp .eql 34 (vagg ⟨2, m, e, t, b, f⟩) (vagg u)).run Tryz.prog W = .ok (.bool R) W) :
    Calls Tryz.prog 76 #[.agg #[.int .i64 2, .int .i64 m, .int .i64 e, .string t, .bool b, .int .i64 f]] w fun r w' => r = .returned (.bool R) ∧ Below w.heap.size w w' := by
  unfold vagg at HN HEQ
  have HN := Lib.hid HN
  have HEQ := Lib.hid HEQ
  go_enter Tryz.func76, Tryz.ntmps76
  go_wp2_with fail
  refine abs_world ?_
  intro W1 hW1
  have hB1 : Hid (Below w.heap.size w W1) := by rw [hW1]; unfold Hid; (repeat with_reducible (first | exact bw0 _ _ | exact hBW | refine bw1 ?_ ?_ _ | refine bw2 ?_ ?_ _ | refine bw3 ?_ _ | refine bw4 ?_)); all_goals (first | omega | (dsimp only; omega) | ((repeat with_reducible (first | refine lz1 ?_ | refine lz2 ?_ | refine lz3 ?_ | refine lz4 ?_)); omega))
  have ev : W1.heap[w.heap.size]? = some (.cells #[.int .i64 2, .int .i64 m, .int .i64 e, .string t, .bool b, .int .i64 f] 34) := by rw [hW1]; (repeat (first | (with_reducible refine bw5 ?_ _; (first | rfl | (simp; done) | omega | (simp; omega)); done) | with_reducible refine bw6 ?_ _ | with_reducible refine bw7 ?_ | with_reducible refine bw8 ?_))
  have k0 := cell_of_heap ev 0
  have k1 := cell_of_heap ev 1
  have k2 := cell_of_heap ev 2
  have k3 := cell_of_heap ev 3
  have k4 := cell_of_heap ev 4
  have k5 := cell_of_heap ev 5
  have z1 := lt_of_heap ev
  clear hW1 ev
  refine wp_region_multiR [([1, 2, 0], [3], [4, 5]), ([4, 5], [], [])] (by kernel_rfl) (by kernel_rfl) ?_
  refine multi_phase (Below W1.heap.size W1) (Below.refl _ _).drew ?_
  iterate 3 (first | (apply first_step; (rw [List.getElem?_toArray]; (repeat rw [List.getElem?_cons_succ]); rw [List.getElem?_cons_zero]); rfl; (intro W hB; have hc := bcellB hB; go_simp; (first | done | rfl)); go_frame) | (apply first_skip; (rw [List.getElem?_toArray]; (repeat rw [List.getElem?_cons_succ]); rw [List.getElem?_cons_zero]); rfl; go_frame))
  refine first_done ?_
  apply forced_step; (rw [List.getElem?_toArray]; (repeat rw [List.getElem?_cons_succ]); rw [List.getElem?_cons_zero]); rfl; intro K hK; go_simp
  refine (HN.out _).mono ?_
  rintro r w2 ⟨rfl, hb2⟩
  have HB2 : Hid (Below W1.heap.size W1 w2) := (Below.refl _ W1).drew.trans hb2
  refine hK _ _ (fun _ => HB2.out) ?_
  clear hK K hb2
  refine forced_done ?_
  have EQ := HEQ.out
  refine multi_phase (Below W1.heap.size W1) HB2.out ?_
  iterate 2 (first | (apply first_step; (rw [List.getElem?_toArray]; (repeat rw [List.getElem?_cons_succ]); rw [List.getElem?_cons_zero]); rfl; (intro W hB; have hc := bcellB hB; go_simp; (first | done | rfl)); go_frame) | (apply first_skip; (rw [List.getElem?_toArray]; (repeat rw [List.getElem?_cons_succ]); rw [List.getElem?_cons_zero]); rfl; go_frame))
  refine first_done ?_
  refine forced_done ?_
  refine multi_done ?_
  clear EQ k0 k1 k2 k3 k4 k5
  go_wp2_with fail
  go_ret
  exact ⟨rfl, hB1.out.trans (HB2.out.mono hB1.out.size)⟩
end
theorem right_all (v : V) (h : I64 v.m) (w : World) : Calls Tryz.prog 76 #[vagg v] w fun r w' => r = .returned (.bool (refR v)) ∧ Below w.heap.size w w' := by
  by_cases k1 : v.k = 1
  · obtain ⟨k, m, e, t, b, f⟩ := v
    simp only at k1 h
    subst k1
    cases hn : numR m e with
    | false =>
      have hr : refR ⟨1, m, e, t, b, f⟩ = false := by unfold refR; simp [hn]
      rw [hr]
      exact right_1no m e t b f w (fun w => by have := num_all m e h w; rw [hn] at this; exact this)
    | true =>
      refine right_1eq m e t b f w (refR ⟨1, m, e, t, b, f⟩) (fun w => by have := num_all m e h w; rw [hn] at this; exact this) (fun W => ?_)
      have := eq_v W ⟨1, m, e, t, b, f⟩ ⟨1, m, e, ⟨#[]⟩, false, 0⟩
      unfold vagg at this
      rw [this]
      have hr : refR ⟨1, m, e, t, b, f⟩ = decide ((1 : Int) = 1 ∧ m = m ∧ e = e ∧ t = ⟨#[]⟩ ∧ b = false ∧ f = 0) := by
        unfold refR
        cases b <;> simp [hn]
      rw [hr]
  · by_cases k2 : v.k = 2
    · obtain ⟨k, m, e, t, b, f⟩ := v
      simp only at k1 k2 h
      subst k2
      by_cases ht : t.size ≤ 255
      · refine right_2eq m e t b f w (refR ⟨2, m, e, t, b, f⟩) ⟨2, 0, 0, t, false, 0⟩ (Text_any t ht) (fun W => ?_)
        rw [eq_v]
        have hr : refR ⟨2, m, e, t, b, f⟩ = decide ((2 : Int) = 2 ∧ m = 0 ∧ e = 0 ∧ t = t ∧ b = false ∧ f = 0) := by
          unfold refR
          by_cases hm : m = 0 <;> by_cases he : e = 0 <;> cases b <;> simp [ht, hm, he]
        rw [hr]
      · refine right_2eq m e t b f w (refR ⟨2, m, e, t, b, f⟩) ⟨4, 0, 0, ⟨#[]⟩, false, 2⟩ (fun w => Text_long t w (by omega)) (fun W => ?_)
        rw [eq_v]
        have hr : refR ⟨2, m, e, t, b, f⟩ = false := by
          unfold refR
          simp [ht]
        rw [hr]
        simp
    · rw [← refR_plain k1 k2]
      exact right_plain v k1 k2 w
end Go.Proofs.YtndhmahkglfopaaGreatDoor
/- Fold: capital letters. -/
namespace Go.Proofs.YtndhmahkglfopaaGreatDoor
open Go.RowKit
theorem upB_hi {c : UInt8} (h1 : 97 ≤ (c.toNat : Int)) (h2 : (c.toNat : Int) ≤ 122) : ((upB c).toNat : Int) = (c.toNat : Int) - 97 + 65 := by
  unfold upB
  have h : 97 ≤ c ∧ c ≤ 122 := by
    rw [UInt8.le_iff_toNat_le, UInt8.le_iff_toNat_le]
    simp
    omega
  rw [if_pos h]
  have h3 : c.toNat < 256 := c.toNat_lt
  simp [UInt8.toNat_add, UInt8.toNat_sub]
  omega
theorem upB_lo {c : UInt8} (h : ¬ (97 ≤ (c.toNat : Int) ∧ (c.toNat : Int) ≤ 122)) : upB c = c := by
  unfold upB
  rw [if_neg]
  rw [UInt8.le_iff_toNat_le, UInt8.le_iff_toNat_le]
  simp
  omega
/-- The block of bytes under way: the first i are folded. -/
def FSt (w : World) (n i : Nat) (l : List UInt8) (wr : World) : Prop :=
  Below w.heap.size w wr ∧ ∃ (C : Array Value) (m : Nat), wr.heap[w.heap.size]? = some (.cells C 5 (m, m + 1)) ∧ n ≤ m ∧ ∀ (j : Nat) (c : UInt8), (upL (l.take i) ++ l.drop i)[j]? = some c → C[j]? = some (.int .u8 (c.toNat : Int))
theorem FSt.cell {w wr : World} {n i : Nat} {l : List UInt8} (h : FSt w n i l wr) {c : UInt8} (hc : l[i]? = some c) : wr.cell? ⟨w.heap.size, i, none⟩ = some (.int .u8 (c.toNat : Int)) := by
  obtain ⟨_, C, m, h1, _, h3⟩ := h
  have hi := (List.getElem?_eq_some_iff.1 hc).1
  have e : (upL (l.take i) ++ l.drop i)[i]? = some c := by
    rw [List.getElem?_append_right (by simp [upL]; omega)]
    simp [upL, Nat.min_eq_left (Nat.le_of_lt hi), hc]
  have := h3 i c e
  simp [World.cell?, h1, this]
theorem FSt.frozen {w wr : World} {n i : Nat} {l : List UInt8} (h : FSt w n i l wr) (j : Nat) (hj : j < n) : wr.frozen? ⟨w.heap.size, j, none⟩ = false := by
  obtain ⟨_, C, m, h1, h2, _⟩ := h
  simp [World.frozen?, h1]
  omega
theorem up_step {l : List UInt8} {i : Nat} {c : UInt8} (hc : l[i]? = some c) : upL (l.take (i + 1)) ++ l.drop (i + 1) = (upL (l.take i) ++ l.drop i).set i (upB c) := by
  have hi := (List.getElem?_eq_some_iff.1 hc).1
  have e1 : l.take (i + 1) = l.take i ++ [c] := by rw [List.take_add_one, hc]; rfl
  have e2 : l.drop i = c :: l.drop (i + 1) := by
    rw [List.drop_eq_getElem_cons hi]
    have : l[i] = c := by rw [List.getElem?_eq_getElem hi] at hc; simpa using hc
    rw [this]
  have hlen : (upL (l.take i)).length = i := by simp [upL]; omega
  rw [e1, e2, List.set_append_right _ _ (by omega), hlen, Nat.sub_self]
  simp [upL]
theorem FSt.keep {w wr : World} {n i : Nat} {l : List UInt8} (h : FSt w n i l wr) {c : UInt8} (hc : l[i]? = some c) (hu : upB c = c) : FSt w n (i + 1) l wr := by
  obtain ⟨h0, C, m, h1, h2, h3⟩ := h
  refine ⟨h0, C, m, h1, h2, fun j d hd => ?_⟩
  rw [up_step hc, hu] at hd
  have e : (upL (l.take i) ++ l.drop i).set i c = upL (l.take i) ++ l.drop i := by
    have hi := (List.getElem?_eq_some_iff.1 hc).1
    apply List.ext_getElem?
    intro q
    rw [List.getElem?_set]
    split
    · rename_i hq
      subst hq
      split
      · rw [List.getElem?_append_right (by simp [upL]; omega)]
        simp [upL, Nat.min_eq_left (Nat.le_of_lt hi), hc]
      · rename_i hq
        exfalso
        apply hq
        simp [upL]
        omega
    · rfl
  rw [e] at hd
  exact h3 j d hd
theorem FSt.put {w wr : World} {n i : Nat} {l : List UInt8} (h : FSt w n i l wr) {c : UInt8} (hc : l[i]? = some c) {x : Int} (hx : ((upB c).toNat : Int) = x) : FSt w n (i + 1) l (wr.setCell ⟨w.heap.size, i, none⟩ (.int .u8 x)) := by
  obtain ⟨h0, C, m, h1, h2, h3⟩ := h
  refine ⟨h0.setCell (p := ⟨w.heap.size, i, none⟩) (Nat.le_refl _) _, _, m, heap_setCell_at h1 i _, h2, fun j d hd => ?_⟩
  rw [up_step hc, List.getElem?_set] at hd
  split at hd
  · rename_i hq
    subst hq
    split at hd
    · cases hd
      rw [← hx]
      have hin : i < C.size := by
        have hi := (List.getElem?_eq_some_iff.1 hc).1
        have e : (upL (l.take i) ++ l.drop i)[i]? = some c := by
          rw [List.getElem?_append_right (by simp [upL]; omega)]
          simp [upL, Nat.min_eq_left (Nat.le_of_lt hi), hc]
        exact (Array.getElem?_eq_some_iff.1 (h3 i c e)).1
      simp [hin]
    · cases hd
  · rename_i hq
    rw [Array.getElem?_setIfInBounds_ne hq]
    exact h3 j d hd
set_option maxHeartbeats 1000000 in
set_option maxRecDepth 100000 in
theorem folded_any (s : ByteArray) (hs : s.size ≤ 255) (w : World) : Calls Tryz.prog 135 #[.string s] w fun e w' => e = .returned (.string ⟨(upL s.data.toList).toArray⟩) ∧ Below w.heap.size w w' := by
  have hconv := run_bytes_of_string (P := Tryz.prog) w 9 87 5 s Tryz.underlying9 Tryz.underlying87 Tryz.underlying5
  have S0 : Hid (FSt w s.size 0 s.data.toList (w.drew.alloc (.cells (bytesRow s (grownCap w s.size 0 5)) 5 ((bytesRow s (grownCap w s.size 0 5)).size, (bytesRow s (grownCap w s.size 0 5)).size + 1)))) := by
    refine ⟨(Below.refl _ w).drew.alloc (Nat.le_refl _) _, _, _, heap_alloc_new w.drew _, ?_, fun j c hc => ?_⟩
    · unfold bytesRow
      rw [Array.size_append, Array.size_map]
      exact Nat.le_add_right _ _
    · simp [upL] at hc
      have hj : j < s.data.size := (Array.getElem?_eq_some_iff.1 hc).1
      rw [bytesRow_at s _ j hj]
      have : s.data[j] = c := by rw [Array.getElem?_eq_getElem hj] at hc; simpa using hc
      rw [this]
  obtain ⟨cap, hcap⟩ : ∃ cap, cap = grownCap w s.size 0 5 := ⟨_, rfl⟩
  obtain ⟨W0, hW0⟩ : ∃ W0, W0 = w.drew.alloc (.cells (bytesRow s (grownCap w s.size 0 5)) 5 ((bytesRow s (grownCap w s.size 0 5)).size, (bytesRow s (grownCap w s.size 0 5)).size + 1)) := ⟨_, rfl⟩
  rw [← hW0] at hconv S0
  rw [← hcap] at hconv
  clear hcap hW0
  have hul : (upL s.data.toList).length = s.size := by unfold upL; rw [List.length_map, Array.length_toList]; rfl
  have hback : ∀ (W : World), (∀ j (hj : j < (upL s.data.toList).length), W.cell? ((⟨w.heap.size, 0, none⟩ : Addr).add j) = some (.int .u8 ((upL s.data.toList)[j].toNat : Int))) → (convert 87 9 (.slice (some ⟨w.heap.size, 0, none⟩) s.size cap)).run Tryz.prog W = .ok (.string ⟨(upL s.data.toList).toArray⟩) W := fun W hc => by
    have := run_convert_bytes_back (P := Tryz.prog) W 87 9 5 ⟨w.heap.size, 0, none⟩ cap (upL s.data.toList) Tryz.underlying87 Tryz.underlying5 Tryz.underlying9 hc
    rwa [hul] at this
  have HBK := Lib.hid hback
  have HUL := Lib.hid hul
  clear hback hul
  go_enter Tryz.func135, Tryz.ntmps135
  go_wp2_with fail
  clear hconv
  go_loopw [10] (fun x wr => ∃ i : Nat, x = .int .i64 i ∧ i ≤ s.size ∧ Hid (FSt w s.size i s.data.toList wr)) (fun x _ => s.size - (intOf x).toNat)
  case atStart => exact ⟨0, rfl, Nat.zero_le _, S0⟩
  case round =>
    obtain ⟨i, rfl, hi, hS⟩ := hrel
    by_cases hlt : i < s.size
    · obtain ⟨c, hc⟩ : ∃ c, s.data.toList[i]? = some c := ⟨_, List.getElem?_eq_getElem (by rw [Array.length_toList]; exact hlt)⟩
      have x0 := hS.out.cell hc
      have y0 := hS.out.frozen i hlt
      have z0 : w.heap.size < wr.heap.size := World.block_lt_of_cell? wr _ x0
      have c1 : (c.toNat : Int) ≤ 255 := by have := c.toNat_lt; omega
      have c0 : (0 : Int) ≤ (c.toNat : Int) := by omega
      have HC := Lib.hid hc
      have j1 : (0 : Int) ≤ (i : Int) := by omega
      have j2 : (i : Int) < (s.size : Int) := by omega
      clear hc
      have HUP := Lib.hid (@upB_hi c)
      have HLO := Lib.hid (@upB_lo c)
      generalize (c.toNat : Int) = cc at x0 c1 c0 HUP HLO
      by_cases h1 : 97 ≤ cc
      · by_cases h2 : cc ≤ 122
        · have SS := Lib.hid (hS.out.put HC.out (HUP.out h1 h2))
          clear hS HUP HLO
          go_wp2_with fail
          go_roundw
          case rel => exact ⟨i + 1, by go_num, by omega, SS⟩
          case measure => simp [intOf]; omega
        · have SS := Lib.hid (hS.out.keep HC.out (HLO.out (fun h => h2 h.2)))
          have t2 : decide (cc ≤ 122) = false := by simpa using h2
          clear hS HUP HLO h2
          go_wp2_with fail
          go_roundw
          case rel => exact ⟨i + 1, by go_num, by omega, SS⟩
          case measure => simp [intOf]; omega
      · have SS := Lib.hid (hS.out.keep HC.out (HLO.out (fun h => h1 h.1)))
        have t1 : decide (97 ≤ cc) = false := by simpa using h1
        clear hS HUP HLO h1
        go_wp2_with fail
        go_roundw
        case rel => exact ⟨i + 1, by go_num, by omega, SS⟩
        case measure => simp [intOf]; omega
    · have hcv := HBK.out wr (fun j hj => by
        obtain ⟨_, C, m, h1, _, h3⟩ := hS.out
        have e : (⟨w.heap.size, 0, none⟩ : Addr).add j = ⟨w.heap.size, j, none⟩ := by
          by_cases hj0 : j = 0
          · subst hj0; simp [Addr.add]
          · simp [Addr.add, hj0]
        have e2 : upL (s.data.toList.take i) ++ s.data.toList.drop i = upL s.data.toList := by
          have hsz : s.data.toList.length = s.size := by rw [Array.length_toList]; rfl
          rw [List.take_of_length_le (by omega), List.drop_eq_nil_of_le (by omega), List.append_nil]
        rw [e2] at h3
        have := h3 j _ (List.getElem?_eq_getElem hj)
        rw [e]
        simp [World.cell?, h1, this])
      have HB := Lib.hid hS.out.1
      clear hS
      go_wp2_with fail
      go_ret
      exact ⟨rfl, HB.out⟩
end Go.Proofs.YtndhmahkglfopaaGreatDoor
