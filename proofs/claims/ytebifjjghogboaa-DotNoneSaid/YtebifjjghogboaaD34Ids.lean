/- Rows of ids in memory; the document's Has, Next, Covers. -/
import Derived.Test.YtebifjjghogboaaD34Join
import Derived.Test.YtebifjjghogboaaOwn
namespace Go.Proofs.Ytebifjjghogboaa
open Go.RowKit Go.Shelf Go.Maps
def IdsAt (w : World) (aa : Option Addr) (M : List Id2) : Prop :=
  0 < M.length → ∃ b off, aa = some ⟨b, off, none⟩ ∧ b < w.heap.size ∧ ∀ k x, M[k]? = some x → w.cell? ⟨b, off + k * 2, none⟩ = some (.int .i64 x.1) ∧ w.cell? ⟨b, off + k * 2 + 1, none⟩ = some (.int .i64 x.2)
theorem IdsAt.below {w w' : World} {aa : Option Addr} {M : List Id2} (h : IdsAt w aa M) (hb : Below w.heap.size w w') : IdsAt w' aa M := fun h0 => by
  obtain ⟨b, off, h1, h2, h3⟩ := h h0
  exact ⟨b, off, h1, Nat.lt_of_lt_of_le h2 hb.size, fun k x hx => ⟨(hb.cell (p := ⟨b, off + k * 2, none⟩) h2).trans (h3 k x hx).1, (hb.cell (p := ⟨b, off + k * 2 + 1, none⟩) h2).trans (h3 k x hx).2⟩⟩
theorem IdsAt.at {w : World} {aa : Option Addr} {M : List Id2} (h : IdsAt w aa M) {k : Nat} {x : Id2} (hx : M[k]? = some x) :
    ∃ b off, aa = some ⟨b, off, none⟩ ∧ b < w.heap.size ∧ w.cell? ⟨b, off + k * 2, none⟩ = some (.int .i64 x.1) ∧ w.cell? ⟨b, off + k * 2 + 1, none⟩ = some (.int .i64 x.2) := by
  have hk : k < M.length := (List.getElem?_eq_some_iff.1 hx).1
  obtain ⟨b, off, h1, h2, h3⟩ := h (by omega)
  exact ⟨b, off, h1, h2, h3 k x hx⟩
theorem eq_id (w : World) (a b : Id2) : (binOp .eql 24 (encI a) (encI b)).run Try.prog w = .ok (.bool (decide (a = b))) w := by
  obtain ⟨a1, a2⟩ := a
  obtain ⟨b1, b2⟩ := b
  unfold encI
  simp [go_sem]
  by_cases h1 : a1 = b1 <;> by_cases h2 : a2 = b2 <;> simp [h1, h2]
theorem neq_id (w : World) (a b : Id2) : (binOp .neq 24 (encI a) (encI b)).run Try.prog w = .ok (.bool (!decide (a = b))) w := by
  obtain ⟨a1, a2⟩ := a
  obtain ⟨b1, b2⟩ := b
  unfold encI
  simp [go_sem]
  by_cases h1 : a1 = b1 <;> by_cases h2 : a2 = b2 <;> simp [h1, h2]
theorem any_take {α : Type} {p : α → Bool} {M : List α} {k : Nat} {x : α} (h : (M.take k).any p = false) (hx : M[k]? = some x) (hp : p x = false) : (M.take (k + 1)).any p = false := by
  rw [List.take_add_one, hx, List.any_append, h]
  simp [hp]
set_option maxHeartbeats 2000000 in
set_option maxRecDepth 100000 in
theorem refHas_any (aa : Option Addr) (cap : Nat) (M : List Id2) (i : Id2) (w : World) (hM : IdsAt w aa M) (hlen : M.length ≤ 100000) : Calls Try.prog 16 #[.slice aa M.length cap, encI i] w fun e w' => e = .returned (.bool (rHas M i)) ∧ Below w.heap.size w w' := by
  have HM := Lib.hid hM
  have HY := Lib.hid (refMay_any i)
  obtain ⟨a, n⟩ := i
  unfold encI at *
  simp only at *
  have HR : Hid (rHas M (a, n) = M.any fun x => mayB (a, n) && decide (x.1 = a) && decide (n ≤ x.2)) := rfl
  generalize rHas M (a, n) = R at HR ⊢
  generalize mayB (a, n) = Y at HY HR
  clear hM
  go_enter Try.func16, Try.ntmps16
  go_wp2_with fail
  have HB0 : Hid (Below w.heap.size w (w.alloc (.cells #[.int .i64 a, .int .i64 n] 24)) ∧ (w.alloc (.cells #[.int .i64 a, .int .i64 n] 24)).heap[w.heap.size]? = some (.cells #[.int .i64 a, .int .i64 n] 24)) := ⟨by (repeat (first | with_reducible exact Below.refl _ _ | with_reducible exact hBW | with_reducible refine Below.setCell ?_ ?_ _ | with_reducible refine Below.alloc ?_ ?_ _ | with_reducible refine belowN ?_ _ | with_reducible refine Below.drew ?_)); all_goals (first | omega | (dsimp only; omega) | ((repeat (first | with_reducible refine le_alloc ?_ | with_reducible refine le_setCell ?_ | with_reducible refine le_drew ?_ | with_reducible refine le_drewN ?_)); omega)), by (repeat (first | (with_reducible refine heap_alloc_at ?_ _; (first | rfl | (simp; done) | omega | (simp; omega)); done) | with_reducible refine heap_alloc_old ?_ _ | with_reducible refine heap_drew_old ?_ | with_reducible refine heap_drewN_old ?_))⟩
  go_loopw [5] (fun x wr => ∃ k : Nat, x = .int .i64 k ∧ k ≤ M.length ∧ Hid ((M.take k).any (fun x => Y && decide (x.1 = a) && decide (n ≤ x.2)) = false) ∧ Hid (Below w.heap.size w wr ∧ wr.heap[w.heap.size]? = some (.cells #[.int .i64 a, .int .i64 n] 24))) (fun x _ => M.length - (intOf x).toNat)
  case atStart => exact ⟨0, rfl, Nat.zero_le _, rfl, HB0⟩
  case round =>
    obtain ⟨k, rfl, hk, hA, hS⟩ := hrel
    by_cases hlt : k < M.length
    · obtain ⟨⟨x1, x2⟩, hx⟩ : ∃ x, M[k]? = some x := ⟨_, List.getElem?_eq_getElem hlt⟩
      obtain ⟨b, off, rfl, hb, d1, d2⟩ := (HM.out.below hS.out.1).at hx
      simp only at d1 d2
      have HX := Lib.hid hx
      have j1 : (0 : Int) ≤ (k : Int) := by omega
      have j2 : (k : Int) < (M.length : Int) := by omega
      have k0 := cell_of_heap hS.out.2 0
      have k1 := cell_of_heap hS.out.2 1
      have z1 := lt_of_heap hS.out.2
      clear hx
      go_wp2_with fail
      refine wp_region_multiR [([0], [1], [1, 2, 3, 4, 5, 6, 7, 8, 9, 10, 11, 12, 13, 14, 15, 16, 17, 18, 19, 20, 21]), ([2, 3, 4, 5, 6, 7, 8, 9, 10, 11, 12, 13, 14, 15, 16, 17, 18, 19, 20, 21], [], [])] (by kernel_rfl) (by kernel_rfl) ?_
      refine multi_phase (Below wr.heap.size wr) (Below.refl _ _).drew ?_
      iterate 1 (first | (apply first_step; (rw [List.getElem?_toArray]; (repeat rw [List.getElem?_cons_succ]); rw [List.getElem?_cons_zero]); rfl; (intro W hB; have hc := bcellB hB; go_simp; (first | done | rfl)); go_frame) | (apply first_skip; (rw [List.getElem?_toArray]; (repeat rw [List.getElem?_cons_succ]); rw [List.getElem?_cons_zero]); rfl; go_frame))
      refine first_done ?_
      apply forced_step; (rw [List.getElem?_toArray]; (repeat rw [List.getElem?_cons_succ]); rw [List.getElem?_cons_zero]); rfl; intro K hK; go_simp
      refine (HY.out _).mono ?_
      rintro r w2 ⟨rfl, hb2⟩
      have HB2 : Hid (Below wr.heap.size wr w2) := (Below.refl _ wr).drew.trans hb2
      refine hK _ _ (fun h => absurd (by decide) h) ?_
      clear hK K hb2
      refine forced_done ?_
      refine multi_phase (Below wr.heap.size wr) HB2.out ?_
      have HS2 : Hid (Below w.heap.size w w2 ∧ w2.heap[w.heap.size]? = some (.cells #[.int .i64 a, .int .i64 n] 24)) := ⟨hS.out.1.trans (HB2.out.mono hS.out.1.size), (HB2.out.block _ z1).trans hS.out.2⟩
      cases Y with
      | false =>
        iterate 20 (first | (apply first_step; (rw [List.getElem?_toArray]; (repeat rw [List.getElem?_cons_succ]); rw [List.getElem?_cons_zero]); rfl; (intro W hB; have hc := bcellB hB; go_simp; (first | done | rfl)); go_frame) | (apply first_skip; (rw [List.getElem?_toArray]; (repeat rw [List.getElem?_cons_succ]); rw [List.getElem?_cons_zero]); rfl; go_frame))
        refine first_done ?_
        refine forced_done ?_
        refine multi_done ?_
        have HN : Hid ((M.take (k + 1)).any (fun x => false && decide (x.1 = a) && decide (n ≤ x.2)) = false) := any_take hA.out HX.out rfl
        clear d1 d2 k0 k1
        go_wp2
        go_roundw
        case rel => exact ⟨k + 1, by go_num, by omega, HN, HS2⟩
        case measure => simp [intOf]; omega
      | true =>
        by_cases h1 : x1 = a
        · subst h1
          by_cases h2 : n ≤ x2
          · iterate 20 (first | (apply first_step; (rw [List.getElem?_toArray]; (repeat rw [List.getElem?_cons_succ]); rw [List.getElem?_cons_zero]); rfl; (intro W hB; have hc := bcellB hB; go_simp; (first | done | rfl)); go_frame) | (apply first_skip; (rw [List.getElem?_toArray]; (repeat rw [List.getElem?_cons_succ]); rw [List.getElem?_cons_zero]); rfl; go_frame))
            refine first_done ?_
            refine forced_done ?_
            refine multi_done ?_
            have HN : Hid (R = true) := by
              unfold Hid
              rw [HR.out, List.any_eq_true]
              exact ⟨_, List.mem_of_getElem? HX.out, by simp [h2]⟩
            clear d1 d2 k0 k1
            go_wp2
            refine bodyPost_ret (v := .bool true) (by simp [results, Try.results16, go_sem]) rfl ⟨by rw [HN.out], HS2.out.1⟩
          · have t2 : decide (n ≤ x2) = false := by simpa using h2
            have HN : Hid ((M.take (k + 1)).any (fun x => true && decide (x.1 = x1) && decide (n ≤ x.2)) = false) := any_take hA.out HX.out (by simp [t2])
            iterate 20 (first | (apply first_step; (rw [List.getElem?_toArray]; (repeat rw [List.getElem?_cons_succ]); rw [List.getElem?_cons_zero]); rfl; (intro W hB; have hc := bcellB hB; go_simp; (first | done | rfl)); go_frame) | (apply first_skip; (rw [List.getElem?_toArray]; (repeat rw [List.getElem?_cons_succ]); rw [List.getElem?_cons_zero]); rfl; go_frame))
            refine first_done ?_
            refine forced_done ?_
            refine multi_done ?_
            clear d1 d2 k0 k1
            go_wp2
            go_roundw
            case rel => exact ⟨k + 1, by go_num, by omega, HN, HS2⟩
            case measure => simp [intOf]; omega
        · have t1 : (x1 == a) = false := by simpa using h1
          have HN : Hid ((M.take (k + 1)).any (fun x => true && decide (x.1 = a) && decide (n ≤ x.2)) = false) := any_take hA.out HX.out (by simp [h1])
          iterate 20 (first | (apply first_step; (rw [List.getElem?_toArray]; (repeat rw [List.getElem?_cons_succ]); rw [List.getElem?_cons_zero]); rfl; (intro W hB; have hc := bcellB hB; go_simp; (first | done | rfl)); go_frame) | (apply first_skip; (rw [List.getElem?_toArray]; (repeat rw [List.getElem?_cons_succ]); rw [List.getElem?_cons_zero]); rfl; go_frame))
          refine first_done ?_
          refine forced_done ?_
          refine multi_done ?_
          clear d1 d2 k0 k1
          go_wp2
          go_roundw
          case rel => exact ⟨k + 1, by go_num, by omega, HN, HS2⟩
          case measure => simp [intOf]; omega
    · have HN : Hid (R = false) := by
        unfold Hid
        rw [HR.out, ← hA.out, List.take_of_length_le (by omega)]
      go_wp2
      go_ret
      exact ⟨by rw [HN.out]; rfl, hS.out.1⟩
end Go.Proofs.Ytebifjjghogboaa
