/- Has. -/
import Derived.Test.YtebifjjghogboaaD34Iter
import Derived.Test.YtebifjjghogboaaMultiR
namespace Go.Proofs.Ytebifjjghogboaa
open Go.RowKit Go.Shelf Go.Maps
theorem look_nil (w : World) (a : Int) : (Instr.lookup 47 (.map none) (.int .i64 a) false).run Try.prog w = .ok (.int .i64 0) w := by
  have K := int_fits (P := Try.prog) Try.underlying3
  unfold Instr.lookup
  rcases K.find w a [] (by simp) with ⟨f1, _⟩ | ⟨j, e0, _, f2, _⟩
  · simp [run_underlying Try.underlying47, K.check, f1, Result.andThen]
  · simp at f2
theorem SnV.cases {w : World} {v : Value} {L : List Id2} (h : SnV w v L) : (v = .pointer none ∧ L = []) ∨ ∃ p m, v = .pointer (some ⟨p, 0, none⟩) ∧ w.heap[p]? = some (.cells #[.map m] 49) ∧ ∀ W a, Below w.heap.size w W → (Instr.lookup 47 (.map m) (.int .i64 a) false).run Try.prog W = .ok (.int .i64 (mo L a)) W := by
  rcases h with ⟨h1, h2⟩ | ⟨p, h1, h2, rfl⟩ | ⟨p, b, h1, h2, h3⟩
  · exact .inl ⟨h1, h2⟩
  · exact .inr ⟨p, none, h1, h2, fun W a _ => look_nil W a⟩
  · exact .inr ⟨p, some b, h1, h2, fun W a hW => int_look (h3.of_block (hW.block b h3.lt)) a⟩
set_option maxHeartbeats 1000000 in
set_option maxRecDepth 100000 in
theorem has_any {v : Value} {L : List Id2} (i : Id2) {w : World} (h : SnV w v L) : Calls Try.prog 15 #[v, encI i] w fun e w' => e = .returned (.bool (hasB L i)) ∧ Below w.heap.size w w' := by
  have HM := Lib.hid (may_any i)
  obtain ⟨a, n⟩ := i
  unfold encI at *
  unfold hasB
  simp only at *
  have hE : (mayB (a, n) && decide (n ≤ 0)) = false := by
    unfold mayB
    simp only
    by_cases h0 : 1 ≤ n
    · have : ¬ n ≤ 0 := by omega
      simp [this]
    · simp [h0]
  generalize mayB (a, n) = M at HM hE ⊢
  rcases h.cases with ⟨rfl, rfl⟩ | ⟨p, m, rfl, hp, hl⟩
  · rw [mo_nil, hE]
    clear hE
    go_enter Try.func15, Try.ntmps15
    go_wp2_with fail
    refine abs_world ?_
    intro W1 hW1
    have hB1 : Hid (Below w.heap.size w W1) := by rw [hW1]; unfold Hid; (repeat (first | with_reducible exact Below.refl _ _ | with_reducible exact hBW | with_reducible refine Below.setCell ?_ ?_ _ | with_reducible refine Below.alloc ?_ ?_ _ | with_reducible refine belowN ?_ _ | with_reducible refine Below.drew ?_)); all_goals (first | omega | (dsimp only; omega) | ((repeat (first | with_reducible refine le_alloc ?_ | with_reducible refine le_setCell ?_ | with_reducible refine le_drew ?_ | with_reducible refine le_drewN ?_)); omega))
    clear hW1 h
    refine wp_region_multiR [([0, 1, 2, 3], [4], [4, 5, 6, 7, 8, 9, 10, 11, 12, 13, 14, 15, 16, 17, 18]), ([5, 6, 7, 8, 9, 10, 11, 12, 13, 14, 15, 16, 17, 18], [], [])] (by kernel_rfl) (by kernel_rfl) ?_
    refine multi_phase (Below W1.heap.size W1) (Below.refl _ _).drew ?_
    iterate 4 (first | (apply first_step; (rw [List.getElem?_toArray]; (repeat rw [List.getElem?_cons_succ]); rw [List.getElem?_cons_zero]); rfl; (intro W hB; have hc := bcellB hB; go_simp; (first | done | rfl)); go_frame) | (apply first_skip; (rw [List.getElem?_toArray]; (repeat rw [List.getElem?_cons_succ]); rw [List.getElem?_cons_zero]); rfl; go_frame))
    refine first_done ?_
    apply forced_skip; (rw [List.getElem?_toArray]; (repeat rw [List.getElem?_cons_succ]); rw [List.getElem?_cons_zero]); rfl
    exact fun h => absurd (by decide) h
    go_frame
    refine forced_done ?_
    refine multi_phase (Below W1.heap.size W1) (Below.refl _ _).drew ?_
    iterate 14 (first | (apply first_step; (rw [List.getElem?_toArray]; (repeat rw [List.getElem?_cons_succ]); rw [List.getElem?_cons_zero]); rfl; (intro W hB; have hc := bcellB hB; go_simp; (first | done | rfl)); go_frame) | (apply first_skip; (rw [List.getElem?_toArray]; (repeat rw [List.getElem?_cons_succ]); rw [List.getElem?_cons_zero]); rfl; go_frame))
    refine first_done ?_
    refine forced_done ?_
    refine multi_done ?_
    go_wp2_with fail
    go_ret
    exact ⟨rfl, hB1.out.trans ((Below.refl _ W1).drew.mono hB1.out.size)⟩
  · clear hE
    have HL := Lib.hid hl
    clear hl
    go_enter Try.func15, Try.ntmps15
    go_wp2_with fail
    refine abs_world ?_
    intro W1 hW1
    have hB1 : Hid (Below w.heap.size w W1) := by rw [hW1]; unfold Hid; (repeat (first | with_reducible exact Below.refl _ _ | with_reducible exact hBW | with_reducible refine Below.setCell ?_ ?_ _ | with_reducible refine Below.alloc ?_ ?_ _ | with_reducible refine belowN ?_ _ | with_reducible refine Below.drew ?_)); all_goals (first | omega | (dsimp only; omega) | ((repeat (first | with_reducible refine le_alloc ?_ | with_reducible refine le_setCell ?_ | with_reducible refine le_drew ?_ | with_reducible refine le_drewN ?_)); omega))
    have ev : W1.heap[w.heap.size]? = some (.cells #[.int .i64 a, .int .i64 n] 24) := by rw [hW1]; (repeat (first | (with_reducible refine heap_alloc_at ?_ _; (first | rfl | (simp; done) | omega | (simp; omega)); done) | with_reducible refine heap_alloc_old ?_ _ | with_reducible refine heap_drew_old ?_ | with_reducible refine heap_drewN_old ?_))
    have hl : ∀ W, Below W1.heap.size W1 W → (Instr.lookup 47 (.map m) (.int .i64 a) false).run Try.prog W = .ok (.int .i64 (mo L a)) W := fun W hW => HL.out W a (hB1.out.trans (hW.mono hB1.out.size))
    have hp1 := (hB1.out.block _ (lt_of_heap hp)).trans hp
    have k0 := cell_of_heap ev 0
    have k1 := cell_of_heap ev 1
    have k2 := cell_of_heap hp1 0
    have z1 := lt_of_heap ev
    have z2 := lt_of_heap hp1
    clear hW1 ev hp hp1 h HL
    refine wp_region_multiR [([0, 1, 2, 3], [4], [4, 5, 6, 7, 8, 9, 10, 11, 12, 13, 14, 15, 16, 17, 18]), ([5, 6, 7, 8, 9, 10, 11, 12, 13, 14, 15, 16, 17, 18], [], [])] (by kernel_rfl) (by kernel_rfl) ?_
    refine multi_phase (Below W1.heap.size W1) (Below.refl _ _).drew ?_
    iterate 4 (first | (apply first_step; (rw [List.getElem?_toArray]; (repeat rw [List.getElem?_cons_succ]); rw [List.getElem?_cons_zero]); rfl; (intro W hB; have hc := bcellB hB; go_simp; (first | done | rfl)); go_frame) | (apply first_skip; (rw [List.getElem?_toArray]; (repeat rw [List.getElem?_cons_succ]); rw [List.getElem?_cons_zero]); rfl; go_frame))
    refine first_done ?_
    apply forced_step; (rw [List.getElem?_toArray]; (repeat rw [List.getElem?_cons_succ]); rw [List.getElem?_cons_zero]); rfl; intro K hK; go_simp
    refine (HM.out _).mono ?_
    rintro r w2 ⟨rfl, hb2⟩
    have HB2 : Hid (Below W1.heap.size W1 w2) := (Below.refl _ W1).drew.trans hb2
    refine hK _ _ (fun h => absurd (by decide) h) ?_
    clear hK K hb2
    refine forced_done ?_
    refine multi_phase (Below W1.heap.size W1) HB2.out ?_
    cases M with
    | true =>
      iterate 14 (first | (apply first_step; (rw [List.getElem?_toArray]; (repeat rw [List.getElem?_cons_succ]); rw [List.getElem?_cons_zero]); rfl; (intro W hB; have hc := bcellB hB; go_simp; (first | done | rfl)); go_frame) | (apply first_skip; (rw [List.getElem?_toArray]; (repeat rw [List.getElem?_cons_succ]); rw [List.getElem?_cons_zero]); rfl; go_frame))
      refine first_done ?_
      refine forced_done ?_
      refine multi_done ?_
      go_wp2_with fail
      go_ret
      exact ⟨by simp, hB1.out.trans (HB2.out.mono hB1.out.size)⟩
    | false =>
      iterate 14 (first | (apply first_step; (rw [List.getElem?_toArray]; (repeat rw [List.getElem?_cons_succ]); rw [List.getElem?_cons_zero]); rfl; (intro W hB; have hc := bcellB hB; go_simp; (first | done | rfl)); go_frame) | (apply first_skip; (rw [List.getElem?_toArray]; (repeat rw [List.getElem?_cons_succ]); rw [List.getElem?_cons_zero]); rfl; go_frame))
      refine first_done ?_
      refine forced_done ?_
      refine multi_done ?_
      go_wp2_with fail
      go_ret
      exact ⟨by simp, hB1.out.trans (HB2.out.mono hB1.out.size)⟩
end Go.Proofs.Ytebifjjghogboaa
