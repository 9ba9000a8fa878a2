/- DotLater: for every slice of ids and every author. -/
import Derived.Test.YtebifjjghogboaaD34Above
namespace Go.Proofs.Ytebifjjghogboaa
open Go.RowKit Go.Shelf Go.Maps
/-- What the end of DotLater asks. -/
structure LaterOk (L L' : List Id2) (x m : Int) : Prop where
  inI : InI (x, m)
  has0 : hasB L (x, m) = false
  new0 : newB L (x, m) = true
  add0 : addL L (x, m) = L'
  has1 : hasB L' (x, m) = true
  new1 : newB L' (x, m) = false
  bef : m ≠ 9223372036854775807 → befB (x, m) (nextL L' x) = true
set_option maxHeartbeats 4000000 in
set_option maxRecDepth 100000 in
theorem later_main (aa : Option Addr) (cap : Nat) (M : List Id2) (x : Int) (w : World) (hM : IdsAt w aa M) (hIn : ∀ p ∈ M, InI p) (hlen : M.length ≤ 100) :
    Calls Try.prog 4 #[.slice aa M.length cap, .int .i64 x] w fun e w' => e = .returned (.bool true) ∧ Below w.heap.size w w' := by
  have HM := Lib.hid hM
  have HIn := Lib.hid hIn
  clear hM hIn
  go_enter Try.func4, Try.ntmps4
  go_wp2_with fail
  refine (awake_any _).mono ?_
  rintro e w1 ⟨rfl, hb⟩
  have F1 := Lib.hid hb
  clear hb
  go_wp2_with fail
  refine (of_any aa cap M w1 (HM.out.below F1.out) HIn.out hlen).mono ?_
  rintro e w2 ⟨a2, c2, rfl, s2, _, b2⟩
  have F2 : Hid (Below w.heap.size w w2) := F1.out.trans (b2.mono F1.out.size)
  have SS := Lib.hid s2
  have hB1 : Hid (w.heap.size ≤ w1.heap.size) := F1.out.size
  clear s2 b2
  obtain ⟨p1, hp1⟩ : ∃ p, p = w1.heap.size + 1 := ⟨_, rfl⟩
  rw [← hp1] at SS ⊢
  obtain ⟨b1, hb1⟩ : ∃ b, b = w1.heap.size := ⟨_, rfl⟩
  rw [← hb1] at SS hB1
  have HG := Lib.hid SS.out.2.good
  have LF := Lib.hid (@later_facts _ HG.out x)
  generalize ofL M = L at SS HG LF
  clear hp1 hb1 F1
  go_wp2_with fail
  refine (next_any x SS.out.v).mono ?_
  obtain ⟨N, hN⟩ : ∃ N, N = nextL L x := ⟨_, rfl⟩
  rw [← hN] at LF ⊢
  rintro e w3 ⟨rfl, b3⟩
  have S3 := Lib.hid (SS.out.below b3)
  have F3 : Hid (Below w.heap.size w w3) := F2.out.trans (b3.mono F2.out.size)
  obtain ⟨n1, n2⟩ := N
  unfold encI
  simp only
  clear b3 hN SS F2
  by_cases hz : (n1, n2) = (0, 0)
  · have eqz := fun W => eq_id W (n1, n2) (0, 0)
    rw [decide_eq_true hz] at eqz
    unfold encI at eqz
    simp only at eqz
    clear hz LF
    go_wp2_with fail
    go_ret
    refine ⟨rfl, ?_⟩
    have hBW := F3.out
    have hsz := F3.out.size
    (repeat (first | with_reducible exact Below.refl _ _ | with_reducible exact hBW | with_reducible refine Below.setCell ?_ ?_ _ | with_reducible refine Below.alloc ?_ ?_ _ | with_reducible refine belowN ?_ _ | with_reducible refine Below.drew ?_)); all_goals (first | omega | (dsimp only; omega) | ((repeat (first | with_reducible refine le_alloc ?_ | with_reducible refine le_setCell ?_ | with_reducible refine le_drew ?_ | with_reducible refine le_drewN ?_)); omega))
  · have eqz := fun W => eq_id W (n1, n2) (0, 0)
    rw [decide_eq_false hz] at eqz
    unfold encI at eqz
    simp only at eqz
    obtain ⟨f1, f2, f3, f4, f5, f6, f7, f8⟩ := LF.out hz
    simp only [Prod.mk.injEq] at f1
    obtain ⟨rfl, hm⟩ := f1
    rw [← hm] at f8
    have LO : Hid (LaterOk L (addL L (n1, n2)) n1 n2) := ⟨f2, f4, f5, rfl, f6, f7, f8⟩
    have BF := Lib.hid f3
    generalize addL L (n1, n2) = L' at LO
    clear f2 f3 f4 f5 f6 f7 f8 hm hz LF
    go_wp2_with fail
    refine abs_world ?_
    intro W4 hW4
    have G4 : Hid (W4.heap[w3.heap.size]? = some (.cells #[.int .i64 n1, .int .i64 n2] 24)) := by rw [hW4]; unfold Hid; (repeat (first | (with_reducible refine heap_alloc_at ?_ _; (first | rfl | (simp; done) | omega | (simp; omega)); done) | with_reducible refine heap_alloc_old ?_ _ | with_reducible refine heap_drew_old ?_ | with_reducible refine heap_drewN_old ?_))
    have S4 : Hid (Sn W4 p1 b1 L) := by rw [hW4]; exact S3.out.below (by (repeat (first | with_reducible exact Below.refl _ _ | with_reducible exact hBW | with_reducible refine Below.setCell ?_ ?_ _ | with_reducible refine Below.alloc ?_ ?_ _ | with_reducible refine belowN ?_ _ | with_reducible refine Below.drew ?_)); all_goals (first | omega | (dsimp only; omega) | ((repeat (first | with_reducible refine le_alloc ?_ | with_reducible refine le_setCell ?_ | with_reducible refine le_drew ?_ | with_reducible refine le_drewN ?_)); omega)))
    have F4 : Hid (Below w.heap.size w W4) := by rw [hW4]; have hBW := F3.out; have hsz := F3.out.size; unfold Hid; (repeat (first | with_reducible exact Below.refl _ _ | with_reducible exact hBW | with_reducible refine Below.setCell ?_ ?_ _ | with_reducible refine Below.alloc ?_ ?_ _ | with_reducible refine belowN ?_ _ | with_reducible refine Below.drew ?_)); all_goals (first | omega | (dsimp only; omega) | ((repeat (first | with_reducible refine le_alloc ?_ | with_reducible refine le_setCell ?_ | with_reducible refine le_drew ?_ | with_reducible refine le_drewN ?_)); omega))
    have NB : Hid (w3.heap.size ≠ b1) := fun e => by have := S3.out.2.lt; omega
    clear hW4 S3 F3 eqz
    generalize w3.heap.size = q at G4 NB ⊢
    have I0 : Hid (Below W4.heap.size W4 W4) := Below.refl _ _
    go_loopw [28] (fun i wr => ∃ k : Nat, i = .int .i64 k ∧ k ≤ M.length ∧ Hid (Below W4.heap.size W4 wr)) (fun i _ => M.length - (intOf i).toNat)
    case atStart => exact ⟨0, rfl, Nat.zero_le _, I0⟩
    case round =>
      clear I0
      obtain ⟨k, rfl, hk, hB⟩ := hrel
      by_cases hlt : k < M.length
      · obtain ⟨⟨x1, x2⟩, hx⟩ : ∃ x, M[k]? = some x := ⟨_, List.getElem?_eq_getElem hlt⟩
        obtain ⟨b, off, rfl, hb, d1, d2⟩ := (HM.out.below (F4.out.trans (hB.out.mono F4.out.size))).at hx
        simp only at d1 d2
        have j1 : (0 : Int) ≤ (k : Int) := by omega
        have j2 : (k : Int) < (M.length : Int) := by omega
        clear hx
        go_wp2_with fail
        have hba := below_alloc wr (.cells #[.int .i64 x1, .int .i64 x2] 24) _ (Nat.le_refl _)
        have B5 : Hid (Below W4.heap.size W4 (wr.alloc (.cells #[.int .i64 x1, .int .i64 x2] 24))) := hB.out.trans (hba.mono hB.out.size)
        refine (has_any (x1, x2) (S4.out.below B5.out).v).mono ?_
        rintro e w5 ⟨rfl, b5⟩
        have B6 : Hid (Below W4.heap.size W4 w5) := B5.out.trans (b5.mono B5.out.size)
        have e5 : w5.heap[wr.heap.size]? = some (.cells #[.int .i64 x1, .int .i64 x2] 24) := (b5.block _ (by simp)).trans (heap_alloc_new _ _)
        have k0 := cell_of_heap e5 0
        have k1 := cell_of_heap e5 1
        have z1 := lt_of_heap e5
        have e6 := (B6.out.block _ (lt_of_heap G4.out)).trans G4.out
        have k2 := cell_of_heap e6 0
        have k3 := cell_of_heap e6 1
        have z2 := lt_of_heap e6
        clear b5 e5 e6 hba d1 d2
        cases hh : hasB L (x1, x2) with
        | false =>
          clear hh
          go_wp2
          go_roundw
          case rel => exact ⟨k + 1, by go_num, by omega, B6⟩
          case measure => simp [intOf]; omega
        | true =>
          have HB := Lib.hid (BF.out _ hh)
          clear hh
          go_wp2_with fail
          refine (before_any (x1, x2) (n1, n2) _).mono ?_
          rw [HB.out]
          rintro e w6 ⟨rfl, b6⟩
          have B7 : Hid (Below W4.heap.size W4 w6) := B6.out.trans (b6.mono B6.out.size)
          clear b6 k0 k1 k2 k3
          go_wp2
          go_roundw
          case rel => exact ⟨k + 1, by go_num, by omega, B7⟩
          case measure => simp [intOf]; omega
      · have S5 := Lib.hid (S4.out.below hB.out)
        have G5 : Hid (wr.heap[q]? = some (.cells #[.int .i64 n1, .int .i64 n2] 24)) := (hB.out.block _ (lt_of_heap G4.out)).trans G4.out
        have F5 : Hid (Below w.heap.size w wr) := F4.out.trans (hB.out.mono F4.out.size)
        clear hB S4 G4 F4 BF HM HIn
        go_wp2_with fail
        refine abs_world ?_
        intro W1 hW1
        rw [← hW1] at S5 G5 F5
        clear hW1
        have k0 := cell_of_heap G5.out 0
        have k1 := cell_of_heap G5.out 1
        have z1 := lt_of_heap G5.out
        refine wp_region_multiR [([0, 1, 2, 3, 4, 5, 6], [7], [7, 8, 9, 10, 11, 12, 13, 14, 15, 16, 17, 18, 19, 20, 21, 22, 23, 24, 25, 26, 27, 28, 29, 30, 31, 32, 33, 34, 35, 36, 37, 38]), ([8, 9, 10, 11, 12], [13], [13, 14, 15, 16, 17, 18, 19, 20, 21, 22, 23, 24, 25, 26, 27, 28, 29, 30, 31, 32, 33, 34, 35, 36, 37, 38]), ([14, 15, 16, 17], [18], [18, 19, 20, 21, 22, 23, 24, 25, 26, 27, 28, 29, 30, 31, 32, 33, 34, 35, 36, 37, 38]), ([19, 20, 21, 22], [23], [23, 24, 25, 26, 27, 28, 29, 30, 31, 32, 33, 34, 35, 36, 37, 38]), ([24, 25, 26, 27, 28, 29, 30, 32, 33, 31], [34, 35], [35, 36, 37, 38]), ([36, 37, 38], [], [])] (by kernel_rfl) (by kernel_rfl) ?_
        refine multi_phase (Below W1.heap.size W1) (Below.refl _ _).drew ?_
        iterate 7 (first | (apply first_step; (rw [List.getElem?_toArray]; (repeat rw [List.getElem?_cons_succ]); rw [List.getElem?_cons_zero]); rfl; (intro W hB; have hc := bcellB hB; go_simp; (first | done | rfl)); go_frame) | (apply first_skip; (rw [List.getElem?_toArray]; (repeat rw [List.getElem?_cons_succ]); rw [List.getElem?_cons_zero]); rfl; go_frame))
        refine first_done ?_
        apply forced_step; (rw [List.getElem?_toArray]; (repeat rw [List.getElem?_cons_succ]); rw [List.getElem?_cons_zero]); rfl; intro K hK; go_simp
        refine (has_any (n1, n2) (S5.out.below (Below.refl _ W1).drew).v).mono ?_
        rw [LO.out.has0]
        rintro r v2 ⟨rfl, hb2⟩
        have HB2 : Hid (Below W1.heap.size W1 v2) := (Below.refl _ W1).drew.trans hb2
        refine hK _ _ (fun h => absurd (by decide) h) ?_
        clear hK K hb2
        refine forced_done ?_
        refine multi_phase (Below W1.heap.size W1) HB2.out ?_
        iterate 5 (first | (apply first_step; (rw [List.getElem?_toArray]; (repeat rw [List.getElem?_cons_succ]); rw [List.getElem?_cons_zero]); rfl; (intro W hB; have hc := bcellB hB; go_simp; (first | done | rfl)); go_frame) | (apply first_skip; (rw [List.getElem?_toArray]; (repeat rw [List.getElem?_cons_succ]); rw [List.getElem?_cons_zero]); rfl; go_frame))
        refine first_done ?_
        apply forced_step; (rw [List.getElem?_toArray]; (repeat rw [List.getElem?_cons_succ]); rw [List.getElem?_cons_zero]); rfl; intro K hK; go_simp
        refine (add_sn (S5.out.below HB2.out) (n1, n2) LO.out.inI).mono ?_
        rw [LO.out.new0, LO.out.add0]
        rintro r v3 ⟨rfl, s3, f3⟩
        have G6 : Hid (v3.heap[q]? = some (.cells #[.int .i64 n1, .int .i64 n2] 24)) := (f3.block _ (Nat.lt_of_lt_of_le z1 HB2.out.size) NB.out).trans ((HB2.out.block _ z1).trans G5.out)
        have S6 := Lib.hid s3
        have F6 : Hid (Below w.heap.size w v3) := (F5.out.trans (HB2.out.mono F5.out.size)).trans (f3.below (Nat.le_trans F5.out.size HB2.out.size) (fun k h => by have := hB1.out; omega))
        refine hK _ _ (fun h => absurd (by decide) h) ?_
        clear hK K s3 f3 k0 k1 z1 HB2 S5 G5 F5
        refine forced_done ?_
        have k0 := cell_of_heap G6.out 0
        have k1 := cell_of_heap G6.out 1
        have z1 := lt_of_heap G6.out
        refine multi_phase (Below v3.heap.size v3) (Below.refl _ _) ?_
        iterate 4 (first | (apply first_step; (rw [List.getElem?_toArray]; (repeat rw [List.getElem?_cons_succ]); rw [List.getElem?_cons_zero]); rfl; (intro W hB; have hc := bcellB hB; go_simp; (first | done | rfl)); go_frame) | (apply first_skip; (rw [List.getElem?_toArray]; (repeat rw [List.getElem?_cons_succ]); rw [List.getElem?_cons_zero]); rfl; go_frame))
        refine first_done ?_
        apply forced_step; (rw [List.getElem?_toArray]; (repeat rw [List.getElem?_cons_succ]); rw [List.getElem?_cons_zero]); rfl; intro K hK; go_simp
        refine (has_any (n1, n2) S6.out.v).mono ?_
        rw [LO.out.has1]
        rintro r v4 ⟨rfl, hb4⟩
        have HB4 := Lib.hid hb4
        refine hK _ _ (fun h => absurd (by decide) h) ?_
        clear hK K hb4
        refine forced_done ?_
        refine multi_phase (Below v3.heap.size v3) HB4.out ?_
        iterate 4 (first | (apply first_step; (rw [List.getElem?_toArray]; (repeat rw [List.getElem?_cons_succ]); rw [List.getElem?_cons_zero]); rfl; (intro W hB; have hc := bcellB hB; go_simp; (first | done | rfl)); go_frame) | (apply first_skip; (rw [List.getElem?_toArray]; (repeat rw [List.getElem?_cons_succ]); rw [List.getElem?_cons_zero]); rfl; go_frame))
        refine first_done ?_
        apply forced_step; (rw [List.getElem?_toArray]; (repeat rw [List.getElem?_cons_succ]); rw [List.getElem?_cons_zero]); rfl; intro K hK; go_simp
        refine (add_sn (S6.out.below HB4.out) (n1, n2) LO.out.inI).mono ?_
        have AE : addL L' (n1, n2) = L' := by unfold addL; rw [LO.out.new1]; rfl
        rw [LO.out.new1, AE]
        clear AE
        rintro r v5 ⟨rfl, s5, f5⟩
        have G7 : Hid (v5.heap[q]? = some (.cells #[.int .i64 n1, .int .i64 n2] 24)) := (f5.block _ (Nat.lt_of_lt_of_le z1 HB4.out.size) NB.out).trans ((HB4.out.block _ z1).trans G6.out)
        have S7 := Lib.hid s5
        have F7 : Hid (Below w.heap.size w v5) := (F6.out.trans (HB4.out.mono F6.out.size)).trans (f5.below (Nat.le_trans F6.out.size HB4.out.size) (fun k h => by have := hB1.out; omega))
        refine hK _ _ (fun h => absurd (by decide) h) ?_
        clear hK K s5 f5 k0 k1 z1 HB4 S6 G6 F6
        refine forced_done ?_
        have k0 := cell_of_heap G7.out 0
        have k1 := cell_of_heap G7.out 1
        have z1 := lt_of_heap G7.out
        refine multi_phase (Below v5.heap.size v5) (Below.refl _ _) ?_
        by_cases hm : n2 = 9223372036854775807
        · have BE := Lib.hid LO.out
          clear LO
          subst hm
          iterate 10 (first | (apply first_step; (rw [List.getElem?_toArray]; (repeat rw [List.getElem?_cons_succ]); rw [List.getElem?_cons_zero]); rfl; (intro W hB; have hc := bcellB hB; go_simp; (first | done | rfl)); go_frame) | (apply first_skip; (rw [List.getElem?_toArray]; (repeat rw [List.getElem?_cons_succ]); rw [List.getElem?_cons_zero]); rfl; go_frame))
          refine first_done ?_
          apply forced_skip; (rw [List.getElem?_toArray]; (repeat rw [List.getElem?_cons_succ]); rw [List.getElem?_cons_zero]); rfl
          exact fun _ => Below.refl _ _
          go_frame
          apply forced_skip; (rw [List.getElem?_toArray]; (repeat rw [List.getElem?_cons_succ]); rw [List.getElem?_cons_zero]); rfl
          exact fun h => absurd (by decide) h
          go_frame
          refine forced_done ?_
          refine multi_phase (Below v5.heap.size v5) (Below.refl _ _) ?_
          iterate 3 (first | (apply first_step; (rw [List.getElem?_toArray]; (repeat rw [List.getElem?_cons_succ]); rw [List.getElem?_cons_zero]); rfl; (intro W hB; have hc := bcellB hB; go_simp; (first | done | rfl)); go_frame) | (apply first_skip; (rw [List.getElem?_toArray]; (repeat rw [List.getElem?_cons_succ]); rw [List.getElem?_cons_zero]); rfl; go_frame))
          refine first_done ?_
          refine forced_done ?_
          refine multi_done ?_
          clear k0 k1
          go_wp2_with fail
          go_ret
          exact ⟨rfl, F7.out⟩
        · have hd : (n2 == 9223372036854775807) = false := by simpa using hm
          have BE := Lib.hid (LO.out.bef hm)
          clear hm LO
          iterate 10 (first | (apply first_step; (rw [List.getElem?_toArray]; (repeat rw [List.getElem?_cons_succ]); rw [List.getElem?_cons_zero]); rfl; (intro W hB; have hc := bcellB hB; go_simp; (first | done | rfl)); go_frame) | (apply first_skip; (rw [List.getElem?_toArray]; (repeat rw [List.getElem?_cons_succ]); rw [List.getElem?_cons_zero]); rfl; go_frame))
          refine first_done ?_
          apply forced_step; (rw [List.getElem?_toArray]; (repeat rw [List.getElem?_cons_succ]); rw [List.getElem?_cons_zero]); rfl; intro K hK; go_simp
          refine (next_any n1 S7.out.v).mono ?_
          rintro r v6 ⟨rfl, hb6⟩
          have HB6 := Lib.hid hb6
          refine hK _ _ (fun _ => HB6.out) ?_
          clear hK K hb6
          apply forced_step; (rw [List.getElem?_toArray]; (repeat rw [List.getElem?_cons_succ]); rw [List.getElem?_cons_zero]); rfl; intro K hK; go_simp
          refine (before_any (n1, n2) (nextL L' n1) _).mono ?_
          rw [BE.out]
          rintro r v7 ⟨rfl, hb7⟩
          have HB7 : Hid (Below v5.heap.size v5 v7) := HB6.out.trans (hb7.mono HB6.out.size)
          refine hK _ _ (fun h => absurd (by decide) h) ?_
          clear hK K hb7
          refine forced_done ?_
          refine multi_phase (Below v5.heap.size v5) HB7.out ?_
          iterate 3 (first | (apply first_step; (rw [List.getElem?_toArray]; (repeat rw [List.getElem?_cons_succ]); rw [List.getElem?_cons_zero]); rfl; (intro W hB; have hc := bcellB hB; go_simp; (first | done | rfl)); go_frame) | (apply first_skip; (rw [List.getElem?_toArray]; (repeat rw [List.getElem?_cons_succ]); rw [List.getElem?_cons_zero]); rfl; go_frame))
          refine first_done ?_
          refine forced_done ?_
          refine multi_done ?_
          clear k0 k1
          go_wp2_with fail
          go_ret
          exact ⟨rfl, F7.out.trans (HB7.out.mono F7.out.size)⟩
set_option maxHeartbeats 1000000 in
theorem later_long (aa : Option Addr) (cap n : Nat) (x : Int) (w : World) (hlen : 100 < n) :
    Calls Try.prog 4 #[.slice aa n cap, .int .i64 x] w fun e w' => e = .returned (.bool true) ∧ Below w.heap.size w w' := by
  go_enter Try.func4, Try.ntmps4
  go_wp2_with fail
  refine (awake_any _).mono ?_
  rintro e w1 ⟨rfl, hb⟩
  have FB := Lib.hid hb
  clear hb
  go_wp2_with fail
  go_ret
  exact ⟨rfl, FB.out⟩
theorem later_law (aa : Option Addr) (cap : Nat) (M : List Id2) (x : Int) (w : World) (hM : IdsAt w aa M) (hIn : ∀ p ∈ M, InI p) (_ : -9223372036854775808 ≤ x) (_ : x ≤ 9223372036854775807) :
    Calls Try.prog 4 #[.slice aa M.length cap, .int .i64 x] w fun e w' => e = .returned (.bool true) ∧ Below w.heap.size w w' := by
  by_cases h : M.length ≤ 100
  · exact later_main aa cap M x w hM hIn h
  · exact later_long aa cap M.length x w (by omega)
end Go.Proofs.Ytebifjjghogboaa
