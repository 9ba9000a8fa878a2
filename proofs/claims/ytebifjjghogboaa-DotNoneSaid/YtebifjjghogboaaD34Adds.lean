/- DotAdds: for every slice of ids, every id and every author. -/
import Derived.Test.YtebifjjghogboaaD34Open
import Derived.Test.YtebifjjghogboaaD34LawP
namespace Go.Proofs.Ytebifjjghogboaa
open Go.RowKit Go.Shelf Go.Maps
/-- A Seen and the document's row beside it. -/
def Two (w wr : World) (p b : Nat) (aa : Option Addr) (L : List Id2) : Prop := Sn wr p b L ∧ IdsAt wr aa L ∧ Below w.heap.size w wr
theorem Two.below {w wr w' : World} {p b : Nat} {aa : Option Addr} {L : List Id2} (h : Two w wr p b aa L) (hb : Below wr.heap.size wr w') : Two w w' p b aa L := ⟨h.1.below hb, h.2.1.below hb, h.2.2.trans (hb.mono h.2.2.size)⟩
theorem neq_bool (W : World) (b : Bool) : (binOp .neq 4 (.bool b) (.bool b)).run Try.prog W = .ok (.bool false) W := by
  cases b <;> kernel_rfl
set_option maxHeartbeats 4000000 in
set_option maxRecDepth 100000 in
theorem adds_main (aa : Option Addr) (cap : Nat) (M : List Id2) (y1 y2 x : Int) (w : World) (hM : IdsAt w aa M) (hIn : ∀ p ∈ M, InI p) (hlen : M.length ≤ 100) :
    Calls Try.prog 3 #[.slice aa M.length cap, .agg #[.int .i64 y1, .int .i64 y2], .int .i64 x] w fun e w' => e = .returned (.bool true) ∧ Below w.heap.size w w' := by
  have HM := Lib.hid hM
  have HIn := Lib.hid hIn
  clear hM hIn
  go_enter Try.func3, Try.ntmps3
  go_wp2_with fail
  refine (awake_any _).mono ?_
  rintro e w1 ⟨rfl, hb⟩
  have G0 : Hid (w1.heap[w.heap.size]? = some (.cells #[.int .i64 y1, .int .i64 y2] 24)) := (hb.block _ (by simp)).trans (by (repeat (first | (with_reducible refine heap_alloc_at ?_ _; (first | rfl | (simp; done) | omega | (simp; omega)); done) | with_reducible refine heap_alloc_old ?_ _ | with_reducible refine heap_drew_old ?_ | with_reducible refine heap_drewN_old ?_)))
  have FB : Hid (Below w.heap.size w w1) := by
    refine Below.trans ?_ (hb.mono (by simp))
    (repeat (first | with_reducible exact Below.refl _ _ | with_reducible exact hBW | with_reducible refine Below.setCell ?_ ?_ _ | with_reducible refine Below.alloc ?_ ?_ _ | with_reducible refine belowN ?_ _ | with_reducible refine Below.drew ?_)); all_goals (first | omega | (dsimp only; omega) | ((repeat (first | with_reducible refine le_alloc ?_ | with_reducible refine le_setCell ?_ | with_reducible refine le_drew ?_ | with_reducible refine le_drewN ?_)); omega))
  have Z0 : Hid (w.heap.size < w1.heap.size) := lt_of_heap G0.out
  clear hb
  go_wp2_with fail
  refine (new_any _).mono ?_
  rintro e w2 ⟨rfl, s1, b1, z1⟩
  have I0 : Hid (Two w1 w2 (w1.heap.size + 1) w1.heap.size none (ofL (M.take 0))) := ⟨s1, fun h => by simp [ofL] at h, b1⟩
  clear s1 b1 z1
  go_wp2_with fail
  go_loopw [8, 21] (fun s i wr => ∃ (k : Nat) (a' : Option Addr) (c' : Nat), i = .int .i64 k ∧ k ≤ M.length ∧ s = .slice a' (ofL (M.take k)).length c' ∧ Hid (Two w1 wr (w1.heap.size + 1) w1.heap.size a' (ofL (M.take k)))) (fun _ i _ => M.length - (intOf i).toNat)
  case atStart => exact ⟨0, none, 0, rfl, Nat.zero_le _, rfl, I0⟩
  case round =>
    clear I0
    obtain ⟨k, a', c', rfl, hk, rfl, hT⟩ := hrel
    by_cases hlt : k < M.length
    · obtain ⟨⟨x1, x2⟩, hx⟩ : ∃ x, M[k]? = some x := ⟨_, List.getElem?_eq_getElem hlt⟩
      obtain ⟨b, off, rfl, hb, d1, d2⟩ := (HM.out.below (FB.out.trans (hT.out.2.2.mono FB.out.size))).at hx
      simp only at d1 d2
      have TK := Lib.hid (ofL_take hx)
      have XI := Lib.hid (HIn.out _ (List.mem_of_getElem? hx))
      have j1 : (0 : Int) ≤ (k : Int) := by omega
      have j2 : (k : Int) < (M.length : Int) := by omega
      clear hx
      generalize ofL (M.take k) = J at TK hT ⊢
      go_wp2_with fail
      have hba := below_alloc wr (.cells #[.int .i64 x1, .int .i64 x2] 24) _ (Nat.le_refl _)
      have T1 := Lib.hid (hT.out.below hba)
      have E1 : Hid ((wr.alloc (.cells #[.int .i64 x1, .int .i64 x2] 24)).heap[wr.heap.size]? = some (.cells #[.int .i64 x1, .int .i64 x2] 24)) := heap_alloc_new _ _
      clear hba d1 d2
      refine (refAdd_any a' c' J (x1, x2) _ T1.out.2.1 T1.out.1.2.good).mono ?_
      rintro e w3 ⟨a3, c3, rfl, i3, b3⟩
      have T3 := Lib.hid (T1.out.below b3)
      have I3 := Lib.hid i3
      have E3 : Hid (w3.heap[wr.heap.size]? = some (.cells #[.int .i64 x1, .int .i64 x2] 24)) := (b3.block _ (by simp)).trans E1.out
      have hNE : Hid (wr.heap.size ≠ w1.heap.size) := by have := hT.out.1.2.lt; unfold Hid; omega
      clear b3 i3 E1
      have k0 := cell_of_heap E3.out 0
      have k1 := cell_of_heap E3.out 1
      have z1 := lt_of_heap E3.out
      go_wp2_with fail
      refine (add_sn T3.out.1 (x1, x2) XI.out).mono ?_
      rintro e w4 ⟨rfl, s4, f4⟩
      have hz4 : w1.heap.size ≤ w4.heap.size := Nat.le_trans T3.out.2.2.size f4.size
      have T4 : Hid (Two w1 w4 (w1.heap.size + 1) w1.heap.size a3 (addL J (x1, x2))) := ⟨s4, I3.out.sn T3.out.1 f4, T3.out.2.2.trans (f4.below T3.out.2.2.size (fun k h => by omega))⟩
      have E4 : Hid (w4.heap[wr.heap.size]? = some (.cells #[.int .i64 x1, .int .i64 x2] 24)) := (f4.block _ (lt_of_heap E3.out) hNE.out).trans E3.out
      have E5 : Hid (w4.heap[w.heap.size]? = some (.cells #[.int .i64 y1, .int .i64 y2] 24)) := (T4.out.2.2.block _ Z0.out).trans G0.out
      rw [← TK.out] at T4 ⊢
      clear s4 f4 I3 T3 T1 E3 hT k0 k1 z1 TK
      obtain ⟨J', hJ'⟩ : ∃ J', ofL (M.take (k + 1)) = J' := ⟨_, rfl⟩
      rw [hJ'] at T4 ⊢
      have HJ := Lib.hid hJ'
      clear hJ'
      generalize newB J (x1, x2) = nb
      have nbe : (nb != nb) = false := by simp
      have GJ := Lib.hid T4.out.1.2.good
      have JL : J'.length ≤ 1000 := GJ.out.length
      go_wp2_with fail
      refine abs_world ?_
      intro W1 hW1
      rw [← hW1] at T4 E4 E5
      clear hW1
      have k0 := cell_of_heap E4.out 0
      have k1 := cell_of_heap E4.out 1
      have k2 := cell_of_heap E5.out 0
      have k3 := cell_of_heap E5.out 1
      have z1 := lt_of_heap E4.out
      have z2 := lt_of_heap E5.out
      obtain ⟨⟨n1, n2⟩, hN⟩ : ∃ N, nextL J' x = N := ⟨_, rfl⟩
      have NX := Lib.hid hN
      have nq := fun W => neq_id W (n1, n2) (n1, n2)
      rw [decide_eq_true rfl] at nq
      unfold encI at nq
      simp only at nq
      clear hN
      refine wp_region_multiR [([0, 1], [2], [2, 3, 4, 5, 6, 7, 8, 9, 10, 11, 12, 13, 14, 15, 16, 17, 18, 19, 20, 21, 22, 23, 24, 25, 26, 27, 28, 29, 30]), ([3, 4, 5, 6, 8, 9], [7, 10], [10, 11, 12, 13, 14, 15, 16, 17, 18, 19, 20, 21, 22, 23, 24, 25, 26, 27, 28, 29, 30]), ([11, 12, 13, 14, 15, 17, 18], [16, 19], [19, 20, 21, 22, 23, 24, 25, 26, 27, 28, 29, 30]), ([20, 21, 22, 23, 24, 26, 27], [25, 28], [28, 29, 30]), ([29, 30], [], [])] (by kernel_rfl) (by kernel_rfl) ?_
      refine multi_phase (Below W1.heap.size W1) (Below.refl _ _).drew ?_
      iterate 2 (first | (apply first_step; (rw [List.getElem?_toArray]; (repeat rw [List.getElem?_cons_succ]); rw [List.getElem?_cons_zero]); rfl; (intro W hB; have hc := bcellB hB; go_simp; (first | done | rfl)); go_frame) | (apply first_skip; (rw [List.getElem?_toArray]; (repeat rw [List.getElem?_cons_succ]); rw [List.getElem?_cons_zero]); rfl; go_frame))
      refine first_done ?_
      apply forced_step; (rw [List.getElem?_toArray]; (repeat rw [List.getElem?_cons_succ]); rw [List.getElem?_cons_zero]); rfl; intro K hK; go_simp
      have T5 := Lib.hid (T4.out.below (Below.refl _ W1).drew)
      refine (same_any a3 c3 T5.out.1.v T5.out.2.1).mono ?_
      rintro r v2 ⟨rfl, hb2⟩
      have HB2 : Hid (Below W1.heap.size W1 v2) := (Below.refl _ W1).drew.trans hb2
      refine hK _ _ (fun h => absurd (by decide) h) ?_
      clear hK K hb2 T5
      refine forced_done ?_
      refine multi_phase (Below W1.heap.size W1) HB2.out ?_
      iterate 6 (first | (apply first_step; (rw [List.getElem?_toArray]; (repeat rw [List.getElem?_cons_succ]); rw [List.getElem?_cons_zero]); rfl; (intro W hB; have hc := bcellB hB; go_simp; (first | done | rfl)); go_frame) | (apply first_skip; (rw [List.getElem?_toArray]; (repeat rw [List.getElem?_cons_succ]); rw [List.getElem?_cons_zero]); rfl; go_frame))
      refine first_done ?_
      apply forced_step; (rw [List.getElem?_toArray]; (repeat rw [List.getElem?_cons_succ]); rw [List.getElem?_cons_zero]); rfl; intro K hK; go_simp
      refine (has_any (x1, x2) (T4.out.below HB2.out).1.v).mono ?_
      rintro r v3 ⟨rfl, hb3⟩
      have HB3 : Hid (Below W1.heap.size W1 v3) := HB2.out.trans (hb3.mono HB2.out.size)
      refine hK _ _ (fun _ => HB3.out) ?_
      clear hK K hb3
      apply forced_step; (rw [List.getElem?_toArray]; (repeat rw [List.getElem?_cons_succ]); rw [List.getElem?_cons_zero]); rfl; intro K hK; go_simp
      refine (refHas_any a3 c3 J' (x1, x2) v3 (T4.out.below HB3.out).2.1 (by omega)).mono ?_
      rw [rHas_good GJ.out]
      rintro r v4 ⟨rfl, hb4⟩
      have HB4 : Hid (Below W1.heap.size W1 v4) := HB3.out.trans (hb4.mono HB3.out.size)
      refine hK _ _ (fun h => absurd (by decide) h) ?_
      clear hK K hb4
      refine forced_done ?_
      generalize hasB J' (x1, x2) = h1
      have h1e := fun W => neq_bool W h1
      refine multi_phase (Below W1.heap.size W1) HB4.out ?_
      iterate 7 (first | (apply first_step; (rw [List.getElem?_toArray]; (repeat rw [List.getElem?_cons_succ]); rw [List.getElem?_cons_zero]); rfl; (intro W hB; have hc := bcellB hB; go_simp; (first | done | rfl)); go_frame) | (apply first_skip; (rw [List.getElem?_toArray]; (repeat rw [List.getElem?_cons_succ]); rw [List.getElem?_cons_zero]); rfl; go_frame))
      refine first_done ?_
      apply forced_step; (rw [List.getElem?_toArray]; (repeat rw [List.getElem?_cons_succ]); rw [List.getElem?_cons_zero]); rfl; intro K hK; go_simp
      refine (has_any (y1, y2) (T4.out.below HB4.out).1.v).mono ?_
      rintro r v5 ⟨rfl, hb5⟩
      have HB5 : Hid (Below W1.heap.size W1 v5) := HB4.out.trans (hb5.mono HB4.out.size)
      refine hK _ _ (fun _ => HB5.out) ?_
      clear hK K hb5
      apply forced_step; (rw [List.getElem?_toArray]; (repeat rw [List.getElem?_cons_succ]); rw [List.getElem?_cons_zero]); rfl; intro K hK; go_simp
      refine (refHas_any a3 c3 J' (y1, y2) v5 (T4.out.below HB5.out).2.1 (by omega)).mono ?_
      rw [rHas_good GJ.out]
      rintro r v6 ⟨rfl, hb6⟩
      have HB6 : Hid (Below W1.heap.size W1 v6) := HB5.out.trans (hb6.mono HB5.out.size)
      refine hK _ _ (fun h => absurd (by decide) h) ?_
      clear hK K hb6
      refine forced_done ?_
      generalize hasB J' (y1, y2) = h2
      have h2e := fun W => neq_bool W h2
      refine multi_phase (Below W1.heap.size W1) HB6.out ?_
      iterate 7 (first | (apply first_step; (rw [List.getElem?_toArray]; (repeat rw [List.getElem?_cons_succ]); rw [List.getElem?_cons_zero]); rfl; (intro W hB; have hc := bcellB hB; go_simp; (first | done | rfl)); go_frame) | (apply first_skip; (rw [List.getElem?_toArray]; (repeat rw [List.getElem?_cons_succ]); rw [List.getElem?_cons_zero]); rfl; go_frame))
      refine first_done ?_
      apply forced_step; (rw [List.getElem?_toArray]; (repeat rw [List.getElem?_cons_succ]); rw [List.getElem?_cons_zero]); rfl; intro K hK; go_simp
      refine (next_any x (T4.out.below HB6.out).1.v).mono ?_
      rw [NX.out]
      unfold encI
      simp only
      rintro r v7 ⟨rfl, hb7⟩
      have HB7 : Hid (Below W1.heap.size W1 v7) := HB6.out.trans (hb7.mono HB6.out.size)
      refine hK _ _ (fun _ => HB7.out) ?_
      clear hK K hb7
      apply forced_step; (rw [List.getElem?_toArray]; (repeat rw [List.getElem?_cons_succ]); rw [List.getElem?_cons_zero]); rfl; intro K hK; go_simp
      refine (refNext_any a3 c3 J' x v7 (T4.out.below HB7.out).2.1 GJ.out).mono ?_
      rw [NX.out]
      unfold encI
      simp only
      rintro r v8 ⟨rfl, hb8⟩
      have HB8 : Hid (Below W1.heap.size W1 v8) := HB7.out.trans (hb8.mono HB7.out.size)
      refine hK _ _ (fun h => absurd (by decide) h) ?_
      clear hK K hb8
      refine forced_done ?_
      refine multi_phase (Below W1.heap.size W1) HB8.out ?_
      iterate 2 (first | (apply first_step; (rw [List.getElem?_toArray]; (repeat rw [List.getElem?_cons_succ]); rw [List.getElem?_cons_zero]); rfl; (intro W hB; have hc := bcellB hB; go_simp; (first | done | rfl)); go_frame) | (apply first_skip; (rw [List.getElem?_toArray]; (repeat rw [List.getElem?_cons_succ]); rw [List.getElem?_cons_zero]); rfl; go_frame))
      refine first_done ?_
      refine forced_done ?_
      refine multi_done ?_
      have T8 := Lib.hid (T4.out.below HB8.out)
      clear k0 k1 k2 k3 nq
      go_wp2
      go_roundw
      case rel => exact ⟨k + 1, a3, c3, by go_num, by omega, by rw [HJ.out], by rw [HJ.out]; exact T8⟩
      case measure => simp [intOf]; omega
    · rw [List.take_of_length_le (by omega)] at hT ⊢
      generalize ofL M = J at hT ⊢
      go_wp2_with fail
      refine (same_any a' c' hT.out.1.v hT.out.2.1).mono ?_
      rintro e w3 ⟨rfl, b3⟩
      have F3 : Hid (Below w.heap.size w w3) := FB.out.trans ((hT.out.2.2.trans (b3.mono hT.out.2.2.size)).mono FB.out.size)
      clear b3
      go_wp2_with fail
      go_ret
      exact ⟨rfl, F3.out⟩
set_option maxHeartbeats 1000000 in
theorem adds_long (aa : Option Addr) (cap n : Nat) (y1 y2 x : Int) (w : World) (hlen : 100 < n) :
    Calls Try.prog 3 #[.slice aa n cap, .agg #[.int .i64 y1, .int .i64 y2], .int .i64 x] w fun e w' => e = .returned (.bool true) ∧ Below w.heap.size w w' := by
  go_enter Try.func3, Try.ntmps3
  go_wp2_with fail
  refine (awake_any _).mono ?_
  rintro e w1 ⟨rfl, hb⟩
  have FB : Hid (Below w.heap.size w w1) := by
    refine Below.trans ?_ (hb.mono (by simp))
    (repeat (first | with_reducible exact Below.refl _ _ | with_reducible exact hBW | with_reducible refine Below.setCell ?_ ?_ _ | with_reducible refine Below.alloc ?_ ?_ _ | with_reducible refine belowN ?_ _ | with_reducible refine Below.drew ?_)); all_goals (first | omega | (dsimp only; omega) | ((repeat (first | with_reducible refine le_alloc ?_ | with_reducible refine le_setCell ?_ | with_reducible refine le_drew ?_ | with_reducible refine le_drewN ?_)); omega))
  clear hb
  go_wp2_with fail
  go_ret
  exact ⟨rfl, FB.out⟩
theorem adds_law (aa : Option Addr) (cap : Nat) (M : List Id2) (i : Id2) (x : Int) (w : World) (hM : IdsAt w aa M) (hIn : ∀ p ∈ M, InI p) :
    Calls Try.prog 3 #[.slice aa M.length cap, encI i, .int .i64 x] w fun e w' => e = .returned (.bool true) ∧ Below w.heap.size w w' := by
  by_cases h : M.length ≤ 100
  · exact adds_main aa cap M i.1 i.2 x w hM hIn h
  · exact adds_long aa cap M.length i.1 i.2 x w (by omega)
end Go.Proofs.Ytebifjjghogboaa
