/- DotAbove: for every three slices of ids. -/
import Derived.Test.YtebifjjghogboaaD34Adds
namespace Go.Proofs.Ytebifjjghogboaa
open Go.RowKit Go.Shelf Go.Maps
set_option maxHeartbeats 4000000 in
set_option maxRecDepth 100000 in
theorem above_main (aa bb cc : Option Addr) (ca cb ccp : Nat) (A B C : List Id2) (w : World) (hA : IdsAt w aa A) (hB : IdsAt w bb B) (hC : IdsAt w cc C) (iA : ∀ p ∈ A, InI p) (iB : ∀ p ∈ B, InI p) (iC : ∀ p ∈ C, InI p) (lA : A.length ≤ 100) (lB : B.length ≤ 100) (lC : C.length ≤ 100) :
    Calls Try.prog 6 #[.slice aa A.length ca, .slice bb B.length cb, .slice cc C.length ccp] w fun e w' => e = .returned (.bool true) ∧ Below w.heap.size w w' := by
  have HA := Lib.hid hA
  have HB := Lib.hid hB
  have HC := Lib.hid hC
  have IA := Lib.hid iA
  have IB := Lib.hid iB
  have IC := Lib.hid iC
  clear hA hB hC iA iB iC
  go_enter Try.func6, Try.ntmps6
  go_wp2_with fail
  refine (awake_any _).mono ?_
  rintro e w1 ⟨rfl, hb⟩
  have F1 := Lib.hid hb
  clear hb
  go_wp2_with fail
  refine (of_any aa ca A w1 (HA.out.below F1.out) IA.out lA).mono ?_
  rintro e w2 ⟨a2, c2, rfl, s2, _, b2⟩
  have F2 : Hid (Below w.heap.size w w2) := F1.out.trans (b2.mono F1.out.size)
  have SS := Lib.hid s2
  clear s2 b2
  generalize w1.heap.size + 1 = p1 at SS ⊢
  generalize w1.heap.size = b1 at SS
  go_wp2_with fail
  refine (of_any bb cb B w2 (HB.out.below F2.out) IB.out lB).mono ?_
  rintro e w3 ⟨a3, c3, rfl, s3, _, b3⟩
  have F3 : Hid (Below w.heap.size w w3) := F2.out.trans (b3.mono F2.out.size)
  have SS3 := Lib.hid (SS.out.below b3)
  have ST3 := Lib.hid s3
  clear s3 b3
  generalize w2.heap.size + 1 = p2 at ST3 ⊢
  generalize w2.heap.size = b2 at ST3
  go_wp2_with fail
  refine (of_any cc ccp C w3 (HC.out.below F3.out) IC.out lC).mono ?_
  rintro e w4 ⟨a4, c4, rfl, s4, _, b4⟩
  have F4 : Hid (Below w.heap.size w w4) := F3.out.trans (b4.mono F3.out.size)
  have SS4 := Lib.hid (SS3.out.below b4)
  have ST4 := Lib.hid (ST3.out.below b4)
  have SU4 := Lib.hid s4
  clear s4 b4
  generalize w3.heap.size + 1 = p3 at SU4 ⊢
  generalize w3.heap.size = b3 at SU4
  have AL := Lib.hid (above_all (S := ofL A) (ofL_good IA.out) IB.out)
  have TR : Hid (covL (ofL A) (ofL B) = true → covL (ofL B) (ofL C) = true → covL (ofL A) (ofL C) = true) := cov_trans (ofL_good IA.out) (ofL_good IB.out) (ofL_good IC.out)
  generalize ofL A = S at SS4 AL TR
  generalize hT : ofL B = T at ST4 AL TR
  generalize ofL C = U at SU4 TR
  clear hT SS SS3 ST3 IA IC HA HC
  have I0 : Hid (Below w4.heap.size w4 w4) := Below.refl _ _
  go_wp2_with fail
  go_loopw [13, 48] (fun s i wr => ∃ k : Nat, i = .int .i64 k ∧ k ≤ B.length ∧ s = .bool ((B.take k).all (fun i => hasB S i || !hasB T i)) ∧ Hid (Below w4.heap.size w4 wr)) (fun _ i _ => B.length - (intOf i).toNat)
  case atStart => exact ⟨0, rfl, Nat.zero_le _, rfl, I0⟩
  case round =>
    clear I0
    obtain ⟨k, rfl, hk, rfl, hb4⟩ := hrel
    by_cases hlt : k < B.length
    · obtain ⟨⟨x1, x2⟩, hx⟩ : ∃ x, B[k]? = some x := ⟨_, List.getElem?_eq_getElem hlt⟩
      obtain ⟨b, off, rfl, hb, d1, d2⟩ := (HB.out.below (F4.out.trans (hb4.out.mono F4.out.size))).at hx
      simp only at d1 d2
      have TK : Hid ((B.take (k + 1)).all (fun i => hasB S i || !hasB T i) = ((B.take k).all (fun i => hasB S i || !hasB T i) && (hasB S (x1, x2) || !hasB T (x1, x2)))) := by
        unfold Hid
        rw [List.take_add_one, hx, List.all_append]
        simp
      have j1 : (0 : Int) ≤ (k : Int) := by omega
      have j2 : (k : Int) < (B.length : Int) := by omega
      clear hx
      generalize (B.take k).all (fun i => hasB S i || !hasB T i) = q at TK ⊢
      cases q with
      | false =>
        have TN : Hid ((B.take (k + 1)).all (fun i => hasB S i || !hasB T i) = false) := by unfold Hid; rw [TK.out]; rfl
        have B5 : Hid (Below w4.heap.size w4 (wr.alloc (.cells #[.int .i64 x1, .int .i64 x2] 24))) := hb4.out.alloc hb4.out.size _
        clear TK
        go_wp2
        go_roundw
        case rel => exact ⟨k + 1, by go_num, by omega, by rw [TN.out], B5⟩
        case measure => simp [intOf]; omega
      | true =>
        go_wp2_with fail
        have hba := below_alloc wr (.cells #[.int .i64 x1, .int .i64 x2] 24) _ (Nat.le_refl _)
        have B5 : Hid (Below w4.heap.size w4 (wr.alloc (.cells #[.int .i64 x1, .int .i64 x2] 24))) := hb4.out.trans (hba.mono hb4.out.size)
        refine (has_any (x1, x2) (SS4.out.below B5.out).v).mono ?_
        generalize hasB S (x1, x2) = q1 at TK ⊢
        rintro e w5 ⟨rfl, b5⟩
        have B6 : Hid (Below w4.heap.size w4 w5) := B5.out.trans (b5.mono B5.out.size)
        have e5 : w5.heap[wr.heap.size]? = some (.cells #[.int .i64 x1, .int .i64 x2] 24) := (b5.block _ (by simp)).trans (heap_alloc_new _ _)
        have k0 := cell_of_heap e5 0
        have k1 := cell_of_heap e5 1
        have z1 := lt_of_heap e5
        clear b5 e5 hba d1 d2
        cases q1 with
        | true =>
          have TN : Hid ((B.take (k + 1)).all (fun i => hasB S i || !hasB T i) = true) := by unfold Hid; rw [TK.out]; rfl
          clear TK
          go_wp2
          go_roundw
          case rel => exact ⟨k + 1, by go_num, by omega, by rw [TN.out], B6⟩
          case measure => simp [intOf]; omega
        | false =>
          go_wp2_with fail
          refine (has_any (x1, x2) (ST4.out.below B6.out).v).mono ?_
          generalize hasB T (x1, x2) = q2 at TK ⊢
          rintro e w6 ⟨rfl, b6⟩
          have B7 : Hid (Below w4.heap.size w4 w6) := B6.out.trans (b6.mono B6.out.size)
          have TN : Hid ((B.take (k + 1)).all (fun i => hasB S i || !hasB T i) = !q2) := by unfold Hid; rw [TK.out]; cases q2 <;> rfl
          clear TK b6 k0 k1 z1
          go_wp2
          go_roundw
          case rel => exact ⟨k + 1, by go_num, by omega, by rw [TN.out], B7⟩
          case measure => simp [intOf]; omega
    · rw [List.take_of_length_le (by omega), ← AL.out]
      cases hq : covL S T with
      | false =>
        have HQ := Lib.hid hq
        clear hq
        go_wp2_with fail
        refine (covers_any (SS4.out.below hb4.out).v (ST4.out.below hb4.out).v).mono ?_
        rw [HQ.out]
        rintro e w5 ⟨rfl, hb⟩
        have B5 : Hid (Below w4.heap.size w4 w5) := hb4.out.trans (hb.mono hb4.out.size)
        clear hb
        go_wp2_with fail
        refine (covers_any (SS4.out.below B5.out).v (ST4.out.below B5.out).v).mono ?_
        rw [HQ.out]
        rintro e w6 ⟨rfl, hb⟩
        have B6 : Hid (Below w4.heap.size w4 w6) := B5.out.trans (hb.mono B5.out.size)
        clear hb
        go_wp2_with fail
        go_ret
        exact ⟨rfl, F4.out.trans (B6.out.mono F4.out.size)⟩
      | true =>
        have HQ := Lib.hid hq
        clear hq
        go_wp2_with fail
        refine (covers_any (SS4.out.below hb4.out).v (ST4.out.below hb4.out).v).mono ?_
        rw [HQ.out]
        rintro e w5 ⟨rfl, hb⟩
        have B5 : Hid (Below w4.heap.size w4 w5) := hb4.out.trans (hb.mono hb4.out.size)
        clear hb
        go_wp2_with fail
        refine (covers_any (SS4.out.below B5.out).v (ST4.out.below B5.out).v).mono ?_
        rw [HQ.out]
        rintro e w6 ⟨rfl, hb⟩
        have B6 : Hid (Below w4.heap.size w4 w6) := B5.out.trans (hb.mono B5.out.size)
        clear hb
        go_wp2_with fail
        cases hr : covL T U with
        | false =>
          have HR := Lib.hid hr
          clear hr
          refine (covers_any (ST4.out.below B6.out).v (SU4.out.below B6.out).v).mono ?_
          rw [HR.out]
          rintro e w7 ⟨rfl, hb⟩
          have B7 : Hid (Below w4.heap.size w4 w7) := B6.out.trans (hb.mono B6.out.size)
          clear hb
          go_wp2_with fail
          go_ret
          exact ⟨rfl, F4.out.trans (B7.out.mono F4.out.size)⟩
        | true =>
          have HR := Lib.hid hr
          have HS := Lib.hid (TR.out HQ.out hr)
          clear hr
          refine (covers_any (ST4.out.below B6.out).v (SU4.out.below B6.out).v).mono ?_
          rw [HR.out]
          rintro e w7 ⟨rfl, hb⟩
          have B7 : Hid (Below w4.heap.size w4 w7) := B6.out.trans (hb.mono B6.out.size)
          clear hb
          go_wp2_with fail
          refine (covers_any (SS4.out.below B7.out).v (SU4.out.below B7.out).v).mono ?_
          rw [HS.out]
          rintro e w8 ⟨rfl, hb⟩
          have B8 : Hid (Below w4.heap.size w4 w8) := B7.out.trans (hb.mono B7.out.size)
          clear hb
          go_wp2_with fail
          go_ret
          exact ⟨rfl, F4.out.trans (B8.out.mono F4.out.size)⟩
set_option maxHeartbeats 1000000 in
theorem above_long (aa bb cc : Option Addr) (ca cb ccp la lb lc : Nat) (w : World) (hl : 100 < la ∨ 100 < lb ∨ 100 < lc) :
    Calls Try.prog 6 #[.slice aa la ca, .slice bb lb cb, .slice cc lc ccp] w fun e w' => e = .returned (.bool true) ∧ Below w.heap.size w w' := by
  by_cases h1 : 100 < la
  · clear hl
    go_enter Try.func6, Try.ntmps6
    go_wp2_with fail
    refine (awake_any _).mono ?_
    rintro e w1 ⟨rfl, hb⟩
    have FB := Lib.hid hb
    clear hb
    go_wp2_with fail
    go_ret
    exact ⟨rfl, FB.out⟩
  · by_cases h2 : 100 < lb
    · clear hl
      go_enter Try.func6, Try.ntmps6
      go_wp2_with fail
      refine (awake_any _).mono ?_
      rintro e w1 ⟨rfl, hb⟩
      have FB := Lib.hid hb
      clear hb
      go_wp2_with fail
      go_ret
      exact ⟨rfl, FB.out⟩
    · have h3 : 100 < lc := by omega
      clear hl
      go_enter Try.func6, Try.ntmps6
      go_wp2_with fail
      refine (awake_any _).mono ?_
      rintro e w1 ⟨rfl, hb⟩
      have FB := Lib.hid hb
      clear hb
      go_wp2_with fail
      go_ret
      exact ⟨rfl, FB.out⟩
theorem above_law (aa bb cc : Option Addr) (ca cb ccp : Nat) (A B C : List Id2) (w : World) (hA : IdsAt w aa A) (hB : IdsAt w bb B) (hC : IdsAt w cc C) (iA : ∀ p ∈ A, InI p) (iB : ∀ p ∈ B, InI p) (iC : ∀ p ∈ C, InI p) :
    Calls Try.prog 6 #[.slice aa A.length ca, .slice bb B.length cb, .slice cc C.length ccp] w fun e w' => e = .returned (.bool true) ∧ Below w.heap.size w w' := by
  by_cases h : 100 < A.length ∨ 100 < B.length ∨ 100 < C.length
  · exact above_long aa bb cc ca cb ccp _ _ _ w h
  · exact above_main aa bb cc ca cb ccp A B C w hA hB hC iA iB iC (by omega) (by omega) (by omega)
end Go.Proofs.Ytebifjjghogboaa
