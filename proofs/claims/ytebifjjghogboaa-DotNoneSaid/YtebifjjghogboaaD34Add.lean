/- Add. -/
import Derived.Test.YtebifjjghogboaaD34Has
namespace Go.Proofs.Ytebifjjghogboaa
open Go.RowKit Go.Shelf Go.Maps
set_option maxHeartbeats 1000000 in
set_option maxRecDepth 100000 in
theorem add_nil (i : Id2) (w : World) : Calls Try.prog 13 #[.pointer none, encI i] w fun e w' => e = .returned (.bool false) ∧ Below w.heap.size w w' := by
  obtain ⟨a, n⟩ := i
  unfold encI
  simp only
  go_enter Try.func13, Try.ntmps13
  go_wp2_with fail
  refine abs_world ?_
  intro W1 hW1
  have hB1 : Hid (Below w.heap.size w W1) := by rw [hW1]; unfold Hid; (repeat (first | with_reducible exact Below.refl _ _ | with_reducible exact hBW | with_reducible refine Below.setCell ?_ ?_ _ | with_reducible refine Below.alloc ?_ ?_ _ | with_reducible refine belowN ?_ _ | with_reducible refine Below.drew ?_)); all_goals (first | omega | (dsimp only; omega) | ((repeat (first | with_reducible refine le_alloc ?_ | with_reducible refine le_setCell ?_ | with_reducible refine le_drew ?_ | with_reducible refine le_drewN ?_)); omega))
  clear hW1
  refine wp_region_multiR [([0, 1, 2, 3], [4], [4, 5, 6, 7, 8, 9, 10, 11, 12, 13, 14, 15, 16, 17, 18]), ([5, 6, 7, 8, 9, 10, 11, 12, 13, 14, 15, 16, 17, 18], [], [])] (by kernel_rfl) (by kernel_rfl) ?_
  refine multi_phase (Below W1.heap.size W1) (Below.refl _ _).drew ?_
  iterate 4 (first | (apply first_step; (rw [List.getElem?_toArray]; (repeat rw [List.getElem?_cons_succ]); rw [List.getElem?_cons_zero]); rfl; (intro W hB; have hc := bcellB hB; go_simp; (first | done | rfl)); go_frame) | (apply first_skip; (rw [List.getElem?_toArray]; (repeat rw [List.getElem?_cons_succ]); rw [List.getElem?_cons_zero]); rfl; go_frame))
  refine first_done ?_
  apply forced_skip; (rw [List.getElem?_toArray]; (repeat rw [List.getElem?_cons_succ]); rw [List.getElem?_cons_zero]); rfl
  exact fun h => absurd (by decide) h
  go_frame
  refine forced_done ?_
  refine multi_phase (Below W1.heap.size W1) (Below.refl _ _).drew ?_
  iterate 14 (first | (apply first_step; (rw [List.getElem?_toArray]; (repeat rw [List.getElem?_cons_succ]); rw [List.getElem?_cons_zero]); rfl; (intro W hB; have hc := bcellB hB; go_simp; (first | done | rfl)); go_frame) | (apply first_skip; (rw [List.getElem?_toArray]; (repeat rw [List.getElem?_cons_succ]); rw [List.getElem?_cons_zero]); rfl; go_frame))
  refine first_done ?_
  refine forced_done ?_
  refine multi_done ?_
  go_wp2_with fail
  go_ret
  exact ⟨rfl, hB1.out.trans ((Below.refl _ W1).drew.mono hB1.out.size)⟩
set_option maxHeartbeats 1000000 in
set_option maxRecDepth 100000 in
/-- What may not be is not new. -/
theorem add_bad {p : Nat} {m : Option Nat} {L : List Id2} (a n : Int) {w : World} (hp : w.heap[p]? = some (.cells #[.map m] 49)) (HL : Hid (∀ W a, Below w.heap.size w W → (Instr.lookup 47 (.map m) (.int .i64 a) false).run Try.prog W = .ok (.int .i64 (mo L a)) W))
    (HM : Hid (∀ w, Calls Try.prog 28 #[.agg #[.int .i64 a, .int .i64 n]] w fun e w' => e = .returned (.bool false) ∧ Below w.heap.size w w')) :
    Calls Try.prog 13 #[.pointer (some ⟨p, 0, none⟩), .agg #[.int .i64 a, .int .i64 n]] w fun e w' => e = .returned (.bool false) ∧ Below w.heap.size w w' := by
  go_enter Try.func13, Try.ntmps13
  go_wp2_with fail
  refine abs_world ?_
  intro W1 hW1
  have hB1 : Hid (Below w.heap.size w W1) := by rw [hW1]; unfold Hid; (repeat (first | with_reducible exact Below.refl _ _ | with_reducible exact hBW | with_reducible refine Below.setCell ?_ ?_ _ | with_reducible refine Below.alloc ?_ ?_ _ | with_reducible refine belowN ?_ _ | with_reducible refine Below.drew ?_)); all_goals (first | omega | (dsimp only; omega) | ((repeat (first | with_reducible refine le_alloc ?_ | with_reducible refine le_setCell ?_ | with_reducible refine le_drew ?_ | with_reducible refine le_drewN ?_)); omega))
  have ev : W1.heap[w.heap.size]? = some (.cells #[.int .i64 a, .int .i64 n] 24) := by rw [hW1]; (repeat (first | (with_reducible refine heap_alloc_at ?_ _; (first | rfl | (simp; done) | omega | (simp; omega)); done) | with_reducible refine heap_alloc_old ?_ _ | with_reducible refine heap_drew_old ?_ | with_reducible refine heap_drewN_old ?_))
  have hl : ∀ W, Below W1.heap.size W1 W → (Instr.lookup 47 (.map m) (.int .i64 a) false).run Try.prog W = .ok (.int .i64 (mo L a)) W := fun W hW => HL.out W a (hB1.out.trans (hW.mono hB1.out.size))
  have hp1 := (hB1.out.block _ (lt_of_heap hp)).trans hp
  have k0 := cell_of_heap ev 0
  have k1 := cell_of_heap ev 1
  have k2 := cell_of_heap hp1 0
  have z1 := lt_of_heap ev
  have z2 := lt_of_heap hp1
  have EV := Lib.hid ev
  have HP1 := Lib.hid hp1
  clear hW1 ev hp hp1 HL
  refine wp_region_multiR [([0, 1, 2, 3], [4], [4, 5, 6, 7, 8, 9, 10, 11, 12, 13, 14, 15, 16, 17, 18]), ([5, 6, 7, 8, 9, 10, 11, 12, 13, 14, 15, 16, 17, 18], [], [])] (by kernel_rfl) (by kernel_rfl) ?_
  refine multi_phase (Below W1.heap.size W1) (Below.refl _ _).drew ?_
  iterate 4 (first | (apply first_step; (rw [List.getElem?_toArray]; (repeat rw [List.getElem?_cons_succ]); rw [List.getElem?_cons_zero]); rfl; (intro W hB; have hc := bcellB hB; go_simp; (first | done | rfl)); go_frame) | (apply first_skip; (rw [List.getElem?_toArray]; (repeat rw [List.getElem?_cons_succ]); rw [List.getElem?_cons_zero]); rfl; go_frame))
  refine first_done ?_
  apply forced_step; (rw [List.getElem?_toArray]; (repeat rw [List.getElem?_cons_succ]); rw [List.getElem?_cons_zero]); rfl; intro K hK; go_simp
  refine (HM.out _).mono ?_
  rintro r w2 ⟨rfl, hb2⟩
  have HB2 : Hid (Below W1.heap.size W1 w2) := (Below.refl _ W1).drew.trans hb2
  refine hK _ _ (fun h => absurd (by decide) h) ?_
  clear hK K hb2
  refine forced_done ?_
  refine multi_phase (Below W1.heap.size W1) HB2.out ?_
  iterate 14 (first | (apply first_step; (rw [List.getElem?_toArray]; (repeat rw [List.getElem?_cons_succ]); rw [List.getElem?_cons_zero]); rfl; (intro W hB; have hc := bcellB hB; go_simp; (first | done | rfl)); go_frame) | (apply first_skip; (rw [List.getElem?_toArray]; (repeat rw [List.getElem?_cons_succ]); rw [List.getElem?_cons_zero]); rfl; go_frame))
  refine first_done ?_
  refine forced_done ?_
  refine multi_done ?_
  clear k0 k1 k2 hl
  go_wp2_with fail
  go_ret
  exact ⟨rfl, hB1.out.trans (HB2.out.mono hB1.out.size)⟩
set_option maxHeartbeats 1000000 in
set_option maxRecDepth 100000 in
/-- What was seen is not new. -/
theorem add_old {p : Nat} {m : Option Nat} {L : List Id2} (a n : Int) {w : World} (hp : w.heap[p]? = some (.cells #[.map m] 49)) (HL : Hid (∀ W a, Below w.heap.size w W → (Instr.lookup 47 (.map m) (.int .i64 a) false).run Try.prog W = .ok (.int .i64 (mo L a)) W))
    (HM : Hid (∀ w, Calls Try.prog 28 #[.agg #[.int .i64 a, .int .i64 n]] w fun e w' => e = .returned (.bool true) ∧ Below w.heap.size w w')) (hn : n ≤ mo L a) :
    Calls Try.prog 13 #[.pointer (some ⟨p, 0, none⟩), .agg #[.int .i64 a, .int .i64 n]] w fun e w' => e = .returned (.bool false) ∧ Below w.heap.size w w' := by
  go_enter Try.func13, Try.ntmps13
  go_wp2_with fail
  refine abs_world ?_
  intro W1 hW1
  have hB1 : Hid (Below w.heap.size w W1) := by rw [hW1]; unfold Hid; (repeat (first | with_reducible exact Below.refl _ _ | with_reducible exact hBW | with_reducible refine Below.setCell ?_ ?_ _ | with_reducible refine Below.alloc ?_ ?_ _ | with_reducible refine belowN ?_ _ | with_reducible refine Below.drew ?_)); all_goals (first | omega | (dsimp only; omega) | ((repeat (first | with_reducible refine le_alloc ?_ | with_reducible refine le_setCell ?_ | with_reducible refine le_drew ?_ | with_reducible refine le_drewN ?_)); omega))
  have ev : W1.heap[w.heap.size]? = some (.cells #[.int .i64 a, .int .i64 n] 24) := by rw [hW1]; (repeat (first | (with_reducible refine heap_alloc_at ?_ _; (first | rfl | (simp; done) | omega | (simp; omega)); done) | with_reducible refine heap_alloc_old ?_ _ | with_reducible refine heap_drew_old ?_ | with_reducible refine heap_drewN_old ?_))
  have hl : ∀ W, Below W1.heap.size W1 W → (Instr.lookup 47 (.map m) (.int .i64 a) false).run Try.prog W = .ok (.int .i64 (mo L a)) W := fun W hW => HL.out W a (hB1.out.trans (hW.mono hB1.out.size))
  have hp1 := (hB1.out.block _ (lt_of_heap hp)).trans hp
  have k0 := cell_of_heap ev 0
  have k1 := cell_of_heap ev 1
  have k2 := cell_of_heap hp1 0
  have z1 := lt_of_heap ev
  have z2 := lt_of_heap hp1
  have EV := Lib.hid ev
  have HP1 := Lib.hid hp1
  clear hW1 ev hp hp1 HL
  refine wp_region_multiR [([0, 1, 2, 3], [4], [4, 5, 6, 7, 8, 9, 10, 11, 12, 13, 14, 15, 16, 17, 18]), ([5, 6, 7, 8, 9, 10, 11, 12, 13, 14, 15, 16, 17, 18], [], [])] (by kernel_rfl) (by kernel_rfl) ?_
  refine multi_phase (Below W1.heap.size W1) (Below.refl _ _).drew ?_
  iterate 4 (first | (apply first_step; (rw [List.getElem?_toArray]; (repeat rw [List.getElem?_cons_succ]); rw [List.getElem?_cons_zero]); rfl; (intro W hB; have hc := bcellB hB; go_simp; (first | done | rfl)); go_frame) | (apply first_skip; (rw [List.getElem?_toArray]; (repeat rw [List.getElem?_cons_succ]); rw [List.getElem?_cons_zero]); rfl; go_frame))
  refine first_done ?_
  apply forced_step; (rw [List.getElem?_toArray]; (repeat rw [List.getElem?_cons_succ]); rw [List.getElem?_cons_zero]); rfl; intro K hK; go_simp
  refine (HM.out _).mono ?_
  rintro r w2 ⟨rfl, hb2⟩
  have HB2 : Hid (Below W1.heap.size W1 w2) := (Below.refl _ W1).drew.trans hb2
  refine hK _ _ (fun h => absurd (by decide) h) ?_
  clear hK K hb2
  refine forced_done ?_
  refine multi_phase (Below W1.heap.size W1) HB2.out ?_
  iterate 14 (first | (apply first_step; (rw [List.getElem?_toArray]; (repeat rw [List.getElem?_cons_succ]); rw [List.getElem?_cons_zero]); rfl; (intro W hB; have hc := bcellB hB; go_simp; (first | done | rfl)); go_frame) | (apply first_skip; (rw [List.getElem?_toArray]; (repeat rw [List.getElem?_cons_succ]); rw [List.getElem?_cons_zero]); rfl; go_frame))
  refine first_done ?_
  refine forced_done ?_
  refine multi_done ?_
  clear k0 k1 k2 hl
  go_wp2_with fail
  go_ret
  exact ⟨rfl, hB1.out.trans (HB2.out.mono hB1.out.size)⟩
set_option maxHeartbeats 1000000 in
set_option maxRecDepth 100000 in
theorem add_new {p b : Nat} {L : List Id2} (a n : Int) {w : World} (h : Sn w p b L) (HL : Hid (∀ W a, Below w.heap.size w W → (Instr.lookup 47 (.map (some b)) (.int .i64 a) false).run Try.prog W = .ok (.int .i64 (mo L a)) W))
    (HM : Hid (∀ w, Calls Try.prog 28 #[.agg #[.int .i64 a, .int .i64 n]] w fun e w' => e = .returned (.bool true) ∧ Below w.heap.size w w')) (hn : ¬ n ≤ mo L a) (hm : Hid (mayB (a, n) = true)) (hi : Hid (InI (a, n))) :
    Calls Try.prog 13 #[.pointer (some ⟨p, 0, none⟩), .agg #[.int .i64 a, .int .i64 n]] w fun e w' => e = .returned (.bool true) ∧ Sn w' p b (insL L (a, n)) ∧ Fr (fun x => x = b) w w' := by
  have hp := h.1
  have HH := Lib.hid h
  have hq := fun w => Go.Proofs.run_eql_map_nil_sl (P := Try.prog) w 47 3 3 (some b) Try.underlying47
  obtain ⟨m, hmm⟩ : ∃ m, m = some b := ⟨_, rfl⟩
  rw [← hmm] at HL hp
  rw [← hmm] at hq
  have hmn : m.isNone = false := by rw [hmm]; rfl
  rw [hmn] at hq
  have HMM := Lib.hid hmm
  clear h hmn hmm
  go_enter Try.func13, Try.ntmps13
  go_wp2_with fail
  refine abs_world ?_
  intro W1 hW1
  have hB1 : Hid (Below w.heap.size w W1) := by rw [hW1]; unfold Hid; (repeat (first | with_reducible exact Below.refl _ _ | with_reducible exact hBW | with_reducible refine Below.setCell ?_ ?_ _ | with_reducible refine Below.alloc ?_ ?_ _ | with_reducible refine belowN ?_ _ | with_reducible refine Below.drew ?_)); all_goals (first | omega | (dsimp only; omega) | ((repeat (first | with_reducible refine le_alloc ?_ | with_reducible refine le_setCell ?_ | with_reducible refine le_drew ?_ | with_reducible refine le_drewN ?_)); omega))
  have ev : W1.heap[w.heap.size]? = some (.cells #[.int .i64 a, .int .i64 n] 24) := by rw [hW1]; (repeat (first | (with_reducible refine heap_alloc_at ?_ _; (first | rfl | (simp; done) | omega | (simp; omega)); done) | with_reducible refine heap_alloc_old ?_ _ | with_reducible refine heap_drew_old ?_ | with_reducible refine heap_drewN_old ?_))
  have hl : ∀ W, Below W1.heap.size W1 W → (Instr.lookup 47 (.map m) (.int .i64 a) false).run Try.prog W = .ok (.int .i64 (mo L a)) W := fun W hW => HL.out W a (hB1.out.trans (hW.mono hB1.out.size))
  have hp1 := (hB1.out.block _ (lt_of_heap hp)).trans hp
  have k0 := cell_of_heap ev 0
  have k1 := cell_of_heap ev 1
  have k2 := cell_of_heap hp1 0
  have z1 := lt_of_heap ev
  have z2 := lt_of_heap hp1
  have EV := Lib.hid ev
  have HP1 := Lib.hid hp1
  clear hW1 ev hp hp1 HL
  refine wp_region_multiR [([0, 1, 2, 3], [4], [4, 5, 6, 7, 8, 9, 10, 11, 12, 13, 14, 15, 16, 17, 18]), ([5, 6, 7, 8, 9, 10, 11, 12, 13, 14, 15, 16, 17, 18], [], [])] (by kernel_rfl) (by kernel_rfl) ?_
  refine multi_phase (Below W1.heap.size W1) (Below.refl _ _).drew ?_
  iterate 4 (first | (apply first_step; (rw [List.getElem?_toArray]; (repeat rw [List.getElem?_cons_succ]); rw [List.getElem?_cons_zero]); rfl; (intro W hB; have hc := bcellB hB; go_simp; (first | done | rfl)); go_frame) | (apply first_skip; (rw [List.getElem?_toArray]; (repeat rw [List.getElem?_cons_succ]); rw [List.getElem?_cons_zero]); rfl; go_frame))
  refine first_done ?_
  apply forced_step; (rw [List.getElem?_toArray]; (repeat rw [List.getElem?_cons_succ]); rw [List.getElem?_cons_zero]); rfl; intro K hK; go_simp
  refine (HM.out _).mono ?_
  rintro r w2 ⟨rfl, hb2⟩
  have HB2 : Hid (Below W1.heap.size W1 w2) := (Below.refl _ W1).drew.trans hb2
  refine hK _ _ (fun h => absurd (by decide) h) ?_
  clear hK K hb2
  refine forced_done ?_
  refine multi_phase (Below W1.heap.size W1) HB2.out ?_
  iterate 14 (first | (apply first_step; (rw [List.getElem?_toArray]; (repeat rw [List.getElem?_cons_succ]); rw [List.getElem?_cons_zero]); rfl; (intro W hB; have hc := bcellB hB; go_simp; (first | done | rfl)); go_frame) | (apply first_skip; (rw [List.getElem?_toArray]; (repeat rw [List.getElem?_cons_succ]); rw [List.getElem?_cons_zero]); rfl; go_frame))
  refine first_done ?_
  refine forced_done ?_
  refine multi_done ?_
  clear k0 k1 k2 hl
  have hp2 := (HB2.out.block _ (lt_of_heap HP1.out)).trans HP1.out
  have k5 := cell_of_heap hp2 0
  have z5 := lt_of_heap hp2
  clear hp2
  go_wp2_with fail
  refine abs_world ?_
  intro W3 hW3
  clear k5 z5
  have H3 : Hid (Below W1.heap.size W1 W3) := by rw [hW3]; exact HB2.out
  clear hW3 HB2 HM
  have S1 : Hid (Sn W1 p b L) := HH.out.below hB1.out
  have S3 : Hid (Sn W3 p b L) := S1.out.below H3.out
  have ev := (H3.out.block _ (lt_of_heap EV.out)).trans EV.out
  have hp3 := (H3.out.block _ (lt_of_heap HP1.out)).trans HP1.out
  have k0 := cell_of_heap ev 0
  have k1 := cell_of_heap ev 1
  have k2 := cell_of_heap hp3 0
  have z3 := lt_of_heap ev
  have z4 := lt_of_heap hp3
  obtain ⟨l, h1, h2, h3⟩ := S3.out.2
  obtain ⟨W4, hup, hm4, hf4, hz4⟩ := (h1.of_block (w' := W3.drew) rfl).upd (int_fits Try.underlying3) Try.underlying47 a n
  have R4 : Hid (Sn W4 p b (insL L (a, n)) ∧ Fr (fun x => x = b) w W4) := by
    refine ⟨⟨?_, _, hm4, perm_put h2 h1.is.nodup h3 hm.out hi.out, good_insL h3 hm.out hi.out⟩, ?_⟩
    · exact (hf4.block p z4 S3.out.ne).trans (hp3.trans (by rw [HMM.out]))
    · exact ((Fr.of_below hB1.out).trans (Fr.of_below H3.out) (fun _ _ h => h)).trans (S' := fun x => x = b) ⟨hf4.os, hf4.tape, hf4.output, hf4.size, hf4.block⟩ (fun _ _ h => h)
  rw [← HMM.out] at hup
  clear h1 h2 h3 hm4 hf4 hz4 ev hp3 S1 S3 EV HP1 z1 z2 HH
  refine wp_region_mix [0, 1, 2, 3, 4, 5, 6, 7] [8] [8] (Below W3.heap.size W3) (by kernel_rfl) (by kernel_rfl) (Below.refl _ _).drew ?_
  iterate 8 (first | (apply first_step; (rw [List.getElem?_toArray]; (repeat rw [List.getElem?_cons_succ]); rw [List.getElem?_cons_zero]); rfl; (intro W hB; have hc := bcellB hB; go_simp; (first | done | rfl)); go_frame) | (apply first_skip; (rw [List.getElem?_toArray]; (repeat rw [List.getElem?_cons_succ]); rw [List.getElem?_cons_zero]); rfl; go_frame))
  refine first_done ?_
  apply tail_step; (rw [List.getElem?_toArray]; (repeat rw [List.getElem?_cons_succ]); rw [List.getElem?_cons_zero]); rfl; rfl; intro K hK; go_simp; refine hK _ _ (fun h => absurd (by decide) h) ?_; clear hK K
  refine tail_done ?_
  clear hup k0 k1 k2
  go_wp2_with fail
  go_ret
  exact ⟨rfl, R4.out⟩
theorem add_sn {p b : Nat} {L : List Id2} {w : World} (h : Sn w p b L) (i : Id2) (hi : InI i) : Calls Try.prog 13 #[.pointer (some ⟨p, 0, none⟩), encI i] w fun e w' => e = .returned (.bool (newB L i)) ∧ Sn w' p b (addL L i) ∧ Fr (fun x => x = b) w w' := by
  have HM := may_any i
  have HL : Hid (∀ W a, Below w.heap.size w W → (Instr.lookup 47 (.map (some b)) (.int .i64 a) false).run Try.prog W = .ok (.int .i64 (mo L a)) W) := fun W a hW => int_look (h.2.of_block (hW.block b h.2.lt)) a
  obtain ⟨a, n⟩ := i
  by_cases hm : mayB (a, n) = true
  · by_cases hn : n ≤ mo L a
    · have e : newB L (a, n) = false := by simp [newB, hn]
      unfold addL
      rw [e]
      rw [hm] at HM
      refine (add_old a n h.1 HL HM hn).mono ?_
      rintro e w' ⟨rfl, hb⟩
      exact ⟨rfl, by simpa using h.below hb, .of_below hb⟩
    · have e : newB L (a, n) = true := by simp [newB, hn, hm]
      unfold addL
      rw [e]
      have HM' := HM
      rw [hm] at HM'
      refine (add_new a n h HL HM' hn hm hi).mono ?_
      rintro e w' ⟨rfl, h1, h2⟩
      exact ⟨rfl, by simpa using h1, h2⟩
  · have hm' : mayB (a, n) = false := by simpa using hm
    have e : newB L (a, n) = false := by simp [newB, hm']
    unfold addL
    rw [e]
    rw [hm'] at HM
    refine (add_bad a n h.1 HL HM).mono ?_
    rintro e w' ⟨rfl, hb⟩
    exact ⟨rfl, by simpa using h.below hb, .of_below hb⟩
set_option maxHeartbeats 1000000 in
set_option maxRecDepth 100000 in
theorem add_zero_new {p : Nat} (a n : Int) {w : World} (hp : w.heap[p]? = some (.cells #[.map none] 49)) (HL : Hid (∀ W a, Below w.heap.size w W → (Instr.lookup 47 (.map none) (.int .i64 a) false).run Try.prog W = .ok (.int .i64 0) W))
    (HM : Hid (∀ w, Calls Try.prog 28 #[.agg #[.int .i64 a, .int .i64 n]] w fun e w' => e = .returned (.bool true) ∧ Below w.heap.size w w')) (hn : ¬ n ≤ 0) :
    Calls Try.prog 13 #[.pointer (some ⟨p, 0, none⟩), .agg #[.int .i64 a, .int .i64 n]] w fun e w' => e = .returned (.bool true) ∧ Fr (fun x => x = p) w w' := by
  obtain ⟨L, hL⟩ : ∃ L : List Id2, L = [] := ⟨_, rfl⟩
  have hmo : mo L a = 0 := by rw [hL, mo_nil]
  have HL' : Hid (∀ W a, Below w.heap.size w W → (Instr.lookup 47 (.map none) (.int .i64 a) false).run Try.prog W = .ok (.int .i64 (mo L a)) W) := by rw [hL]; exact HL
  rw [← hmo] at hn
  have hq := fun w => Go.Proofs.run_eql_map_nil_sl (P := Try.prog) w 47 3 3 none Try.underlying47
  have hmk := @run_makeMap Try.prog
  obtain ⟨m, hmm⟩ : ∃ m : Option Nat, m = none := ⟨_, rfl⟩
  clear HL
  have HL := HL'
  rw [← hmm] at HL hp
  have hqm : ∀ w, (binOp .eql 47 (.map m) (.map none)).run Try.prog w = .ok (.bool true) w := fun w => by rw [hmm]; exact hq w
  have HMM := Lib.hid hmm
  clear hmm hL hmo HL' hq
  go_enter Try.func13, Try.ntmps13
  go_wp2_with fail
  refine abs_world ?_
  intro W1 hW1
  have hB1 : Hid (Below w.heap.size w W1) := by rw [hW1]; unfold Hid; (repeat (first | with_reducible exact Below.refl _ _ | with_reducible exact hBW | with_reducible refine Below.setCell ?_ ?_ _ | with_reducible refine Below.alloc ?_ ?_ _ | with_reducible refine belowN ?_ _ | with_reducible refine Below.drew ?_)); all_goals (first | omega | (dsimp only; omega) | ((repeat (first | with_reducible refine le_alloc ?_ | with_reducible refine le_setCell ?_ | with_reducible refine le_drew ?_ | with_reducible refine le_drewN ?_)); omega))
  have ev : W1.heap[w.heap.size]? = some (.cells #[.int .i64 a, .int .i64 n] 24) := by rw [hW1]; (repeat (first | (with_reducible refine heap_alloc_at ?_ _; (first | rfl | (simp; done) | omega | (simp; omega)); done) | with_reducible refine heap_alloc_old ?_ _ | with_reducible refine heap_drew_old ?_ | with_reducible refine heap_drewN_old ?_))
  have hl : ∀ W, Below W1.heap.size W1 W → (Instr.lookup 47 (.map m) (.int .i64 a) false).run Try.prog W = .ok (.int .i64 (mo L a)) W := fun W hW => HL.out W a (hB1.out.trans (hW.mono hB1.out.size))
  have hp1 := (hB1.out.block _ (lt_of_heap hp)).trans hp
  have k0 := cell_of_heap ev 0
  have k1 := cell_of_heap ev 1
  have k2 := cell_of_heap hp1 0
  have z1 := lt_of_heap ev
  have z2 := lt_of_heap hp1
  have EV := Lib.hid ev
  have HP1 := Lib.hid hp1
  clear hW1 ev hp hp1 HL
  refine wp_region_multiR [([0, 1, 2, 3], [4], [4, 5, 6, 7, 8, 9, 10, 11, 12, 13, 14, 15, 16, 17, 18]), ([5, 6, 7, 8, 9, 10, 11, 12, 13, 14, 15, 16, 17, 18], [], [])] (by kernel_rfl) (by kernel_rfl) ?_
  refine multi_phase (Below W1.heap.size W1) (Below.refl _ _).drew ?_
  iterate 4 (first | (apply first_step; (rw [List.getElem?_toArray]; (repeat rw [List.getElem?_cons_succ]); rw [List.getElem?_cons_zero]); rfl; (intro W hB; have hc := bcellB hB; go_simp; (first | done | rfl)); go_frame) | (apply first_skip; (rw [List.getElem?_toArray]; (repeat rw [List.getElem?_cons_succ]); rw [List.getElem?_cons_zero]); rfl; go_frame))
  refine first_done ?_
  apply forced_step; (rw [List.getElem?_toArray]; (repeat rw [List.getElem?_cons_succ]); rw [List.getElem?_cons_zero]); rfl; intro K hK; go_simp
  refine (HM.out _).mono ?_
  rintro r w2 ⟨rfl, hb2⟩
  have HB2 : Hid (Below W1.heap.size W1 w2) := (Below.refl _ W1).drew.trans hb2
  refine hK _ _ (fun h => absurd (by decide) h) ?_
  clear hK K hb2
  refine forced_done ?_
  refine multi_phase (Below W1.heap.size W1) HB2.out ?_
  iterate 14 (first | (apply first_step; (rw [List.getElem?_toArray]; (repeat rw [List.getElem?_cons_succ]); rw [List.getElem?_cons_zero]); rfl; (intro W hB; have hc := bcellB hB; go_simp; (first | done | rfl)); go_frame) | (apply first_skip; (rw [List.getElem?_toArray]; (repeat rw [List.getElem?_cons_succ]); rw [List.getElem?_cons_zero]); rfl; go_frame))
  refine first_done ?_
  refine forced_done ?_
  refine multi_done ?_
  clear k0 k1 k2 hl
  have hp2 := (HB2.out.block _ (lt_of_heap HP1.out)).trans HP1.out
  have k5 := cell_of_heap hp2 0
  have k6 := frozen_of_heap hp2 0
  have z5 := lt_of_heap hp2
  go_wp2_with fail
  refine abs_world ?_
  intro W3 hW3
  have hne : p ≠ w2.heap.size := by omega
  have hwp : p ≠ w.heap.size := fun e => by
    have h1 := EV.out
    rw [← e, HP1.out] at h1
    cases h1
  have ev2 := (HB2.out.block _ (lt_of_heap EV.out)).trans EV.out
  have F3 : Hid (Fr (fun x => x = p) w W3) := by
    rw [hW3]
    refine ((Fr.of_below hB1.out).trans (Fr.of_below HB2.out) (fun _ _ h => h)).trans (S' := fun x => x = p) ?_ (fun _ _ h => h)
    exact (Fr.setCell w2 ⟨p, 0, none⟩ _).trans (Fr.of_below ((Below.refl _ _).alloc (Nat.le_refl _) _)) (fun _ _ h => h)
  have hp3 : W3.heap[p]? = some (.cells #[.map (some w2.heap.size)] 49) := by
    rw [hW3]
    exact heap_alloc_old (heap_setCell_at hp2 0 (.map (some w2.heap.size))) (.map #[] 0)
  have hs3 : w2.heap.size < W3.heap.size := by rw [hW3]; simp
  have ev : W3.heap[w.heap.size]? = some (.cells #[.int .i64 a, .int .i64 n] 24) := by
    rw [hW3]
    exact heap_alloc_old ((Below.heap_setCell _ _ _ _ (Ne.symm hwp)).trans ev2) _
  have hM3 : MapS W3 w2.heap.size vI vI ([] : List Id2) := by
    refine (MapS.new w2 vI vI).of_block ?_
    rw [hW3, heap_alloc_new]
    exact heap_alloc_at (by simp) _
  have k0 := cell_of_heap ev 0
  have k1 := cell_of_heap ev 1
  have k2 := cell_of_heap hp3 0
  have z3 := lt_of_heap ev
  have z4 := lt_of_heap hp3
  obtain ⟨W4, hup, hm4, hf4, hz4⟩ := (hM3.of_block (w' := W3.drew) rfl).upd (int_fits Try.underlying3) Try.underlying47 a n
  have R4 : Hid (Fr (fun x => x = p) w W4) := by
    refine F3.out.trans (S' := fun x => x = w2.heap.size) ⟨hf4.os, hf4.tape, hf4.output, hf4.size, hf4.block⟩ (fun i hi h => ?_)
    have := hB1.out.size
    have := HB2.out.size
    omega
  clear k5 k6 z5 hp2 ev2 hM3 hm4 hf4 hz4 hqm hmk hW3 EV HP1 HB2 z1 z2 hp3 ev HM F3
  refine wp_region_mix [0, 1, 2, 3, 4, 5, 6, 7] [8] [8] (Below W3.heap.size W3) (by kernel_rfl) (by kernel_rfl) (Below.refl _ _).drew ?_
  iterate 8 (first | (apply first_step; (rw [List.getElem?_toArray]; (repeat rw [List.getElem?_cons_succ]); rw [List.getElem?_cons_zero]); rfl; (intro W hB; have hc := bcellB hB; go_simp; (first | done | rfl)); go_frame) | (apply first_skip; (rw [List.getElem?_toArray]; (repeat rw [List.getElem?_cons_succ]); rw [List.getElem?_cons_zero]); rfl; go_frame))
  refine first_done ?_
  apply tail_step; (rw [List.getElem?_toArray]; (repeat rw [List.getElem?_cons_succ]); rw [List.getElem?_cons_zero]); rfl; rfl; intro K hK; go_simp; refine hK _ _ (fun h => absurd (by decide) h) ?_; clear hK K
  refine tail_done ?_
  clear hup k0 k1 k2
  go_wp2_with fail
  go_ret
  exact ⟨rfl, R4.out⟩
theorem add_zero {p : Nat} {w : World} (hp : w.heap[p]? = some (.cells #[.map none] 49)) (i : Id2) : Calls Try.prog 13 #[.pointer (some ⟨p, 0, none⟩), encI i] w fun e w' => e = .returned (.bool (mayB i)) ∧ Fr (fun x => x = p) w w' := by
  have HM := may_any i
  have HL : Hid (∀ W a, Below w.heap.size w W → (Instr.lookup 47 (.map none) (.int .i64 a) false).run Try.prog W = .ok (.int .i64 0) W) := fun W a _ => look_nil W a
  obtain ⟨a, n⟩ := i
  by_cases hm : mayB (a, n) = true
  · have HM' := HM
    rw [hm] at HM'
    refine (add_zero_new a n hp HL HM' ?_).mono ?_
    · unfold mayB at hm
      simp only [Bool.and_eq_true, decide_eq_true_eq] at hm
      omega
    · rintro e w' ⟨rfl, h⟩
      exact ⟨by rw [hm], h⟩
  · have hm' : mayB (a, n) = false := by simpa using hm
    rw [hm'] at HM ⊢
    refine (add_bad (L := []) a n hp HL HM).mono ?_
    rintro e w' ⟨rfl, hb⟩
    exact ⟨rfl, .of_below hb⟩
end Go.Proofs.Ytebifjjghogboaa
