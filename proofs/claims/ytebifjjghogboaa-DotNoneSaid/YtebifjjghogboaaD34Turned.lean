/- DotTurned: for every slice of ids. -/
import Derived.Test.YtebifjjghogboaaD34Later
namespace Go.Proofs.Ytebifjjghogboaa
open Go.RowKit Go.Shelf Go.Maps
/-- Three Seens beside each other, from block B on. -/
def Tri (B : Nat) (wr : World) (L1 L2 L3 : List Id2) : Prop := Sn wr (B + 1) B L1 ∧ Sn wr (B + 3) (B + 2) L2 ∧ Sn wr (B + 5) (B + 4) L3 ∧ B + 6 ≤ wr.heap.size
theorem Tri.below {B : Nat} {wr w' : World} {L1 L2 L3 : List Id2} (h : Tri B wr L1 L2 L3) (hb : Below wr.heap.size wr w') : Tri B w' L1 L2 L3 := ⟨h.1.below hb, h.2.1.below hb, h.2.2.1.below hb, Nat.le_trans h.2.2.2 hb.size⟩
theorem Tri.one {B : Nat} {wr w' : World} {L1 L2 L3 L : List Id2} (h : Tri B wr L1 L2 L3) (hs : Sn w' (B + 1) B L) (hf : Fr (fun x => x = B) wr w') : Tri B w' L L2 L3 :=
  ⟨hs, h.2.1.frame hf (by show ¬ _ = _; omega) (by show ¬ _ = _; omega), h.2.2.1.frame hf (by show ¬ _ = _; omega) (by show ¬ _ = _; omega), Nat.le_trans h.2.2.2 hf.size⟩
theorem Tri.two {B : Nat} {wr w' : World} {L1 L2 L3 L : List Id2} (h : Tri B wr L1 L2 L3) (hs : Sn w' (B + 3) (B + 2) L) (hf : Fr (fun x => x = B + 2) wr w') : Tri B w' L1 L L3 :=
  ⟨h.1.frame hf (by show ¬ _ = _; omega) (by show ¬ _ = _; omega), hs, h.2.2.1.frame hf (by show ¬ _ = _; omega) (by show ¬ _ = _; omega), Nat.le_trans h.2.2.2 hf.size⟩
theorem Tri.three {B : Nat} {wr w' : World} {L1 L2 L3 L : List Id2} (h : Tri B wr L1 L2 L3) (hs : Sn w' (B + 5) (B + 4) L) (hf : Fr (fun x => x = B + 4) wr w') : Tri B w' L1 L2 L :=
  ⟨h.1.frame hf (by show ¬ _ = _; omega) (by show ¬ _ = _; omega), h.2.1.frame hf (by show ¬ _ = _; omega) (by show ¬ _ = _; omega), hs, Nat.le_trans h.2.2.2 hf.size⟩
theorem fr_below {B n : Nat} {w a b : World} {S : Nat → Prop} (h : Below n w a) (hf : Fr S a b) (hn : n ≤ w.heap.size) (hS : ∀ k, S k → B ≤ k) (hB : n ≤ B) : Below n w b :=
  h.trans (hf.below (Nat.le_trans hn h.size) (fun k hk => Nat.le_trans hB (hS k hk)))
set_option maxHeartbeats 4000000 in
set_option maxRecDepth 100000 in
theorem turned_main (aa : Option Addr) (cap : Nat) (M : List Id2) (w : World) (hM : IdsAt w aa M) (hIn : ∀ p ∈ M, InI p) (hlen : M.length ≤ 100) :
    Calls Try.prog 7 #[.slice aa M.length cap] w fun e w' => e = .returned (.bool true) ∧ Below w.heap.size w w' := by
  have HM := Lib.hid hM
  have HIn := Lib.hid hIn
  clear hM hIn
  go_enter Try.func7, Try.ntmps7
  go_wp2_with fail
  refine (awake_any _).mono ?_
  rintro e w1 ⟨rfl, hb⟩
  have F1 := Lib.hid hb
  clear hb
  go_wp2_with fail
  refine (new_any _).mono ?_
  rintro e w2 ⟨rfl, s2, b2, z2⟩
  go_wp2_with fail
  refine (new_any _).mono ?_
  rintro e w3 ⟨rfl, s3, b3, z3⟩
  go_wp2_with fail
  refine (new_any _).mono ?_
  rintro e w4 ⟨rfl, s4, b4, z4⟩
  obtain ⟨B, hB⟩ : ∃ B, B = w1.heap.size := ⟨_, rfl⟩
  rw [z2] at s3
  rw [z3, z2] at s4
  have T4 : Hid (Tri B w4 [] [] []) := by
    rw [hB]
    exact ⟨(s2.below b3).below b4, s3.below b4, s4, by omega⟩
  have F4 : Hid (Below w.heap.size w w4) := by
    have h := F1.out.size
    exact ((F1.out.trans (b2.mono h)).trans (b3.mono (by omega))).trans (b4.mono (by omega))
  have HB : Hid (w.heap.size ≤ B) := by rw [hB]; exact F1.out.size
  have E2 : w1.heap.size + 2 + 1 = B + 3 := by omega
  have E3 : w3.heap.size + 1 = B + 5 := by omega
  rw [E2, E3, ← hB]
  clear s2 s3 s4 b2 b3 b4 z2 z3 z4 E2 E3 hB F1
  go_wp2_with fail
  have I0 : Hid (Tri B w4 (ofL (M.take 0)) (ofL (M.reverse.take 0)) (ofL (M.take 0)) ∧ Below w.heap.size w w4) := ⟨T4.out, F4.out⟩
  go_loopw [18] (fun i wr => ∃ k : Nat, i = .int .i64 k ∧ k ≤ M.length ∧ Hid (Tri B wr (ofL (M.take k)) (ofL (M.reverse.take k)) (ofL (M.take k)) ∧ Below w.heap.size w wr)) (fun i _ => M.length - (intOf i).toNat)
  case atStart => exact ⟨0, rfl, Nat.zero_le _, I0⟩
  case round =>
    clear I0 T4 F4
    obtain ⟨k, rfl, hk, hT⟩ := hrel
    by_cases hlt : k < M.length
    · obtain ⟨⟨x1, x2⟩, hx⟩ : ∃ x, M[k]? = some x := ⟨_, List.getElem?_eq_getElem hlt⟩
      obtain ⟨j, hj⟩ : ∃ j, j = M.length - 1 - k := ⟨_, rfl⟩
      have hjl : j < M.length := by omega
      obtain ⟨⟨y1, y2⟩, hy⟩ : ∃ x, M[j]? = some x := ⟨_, List.getElem?_eq_getElem hjl⟩
      have hy' : M.reverse[k]? = some (y1, y2) := by
        rw [List.getElem?_reverse hlt, ← hj]
        exact hy
      have hjz : (M.length : Int) - 1 - (k : Int) = (j : Int) := by omega
      obtain ⟨b, off, rfl, hb, d1, d2⟩ := (HM.out.below hT.out.2).at hx
      obtain ⟨b_, off_, e_, _, d3, d4⟩ := (HM.out.below hT.out.2).at hy
      simp only [Option.some.injEq, Addr.mk.injEq] at e_
      obtain ⟨rfl, rfl, _⟩ := e_
      simp only at d1 d2 d3 d4
      have TK1 := Lib.hid (ofL_take hx)
      have TK2 := Lib.hid (ofL_take hy')
      have XI := Lib.hid (HIn.out _ (List.mem_of_getElem? hx))
      have YI := Lib.hid (HIn.out _ (List.mem_of_getElem? hy))
      have HX := Lib.hid hx
      have HY := Lib.hid hy
      have j1 : (0 : Int) ≤ (k : Int) := by omega
      have j2 : (k : Int) < (M.length : Int) := by omega
      have j3 : (0 : Int) ≤ (j : Int) := by omega
      have j4 : (j : Int) < (M.length : Int) := by omega
      clear hx hy hy' hj hjl
      generalize ofL (M.take k) = L1 at TK1 hT
      generalize ofL (M.reverse.take k) = L2 at TK2 hT
      go_wp2_with fail
      refine (add_sn hT.out.1.1 (x1, x2) XI.out).mono ?_
      rintro e w5 ⟨rfl, s5, f5⟩
      have T5 : Hid (Tri B w5 (addL L1 (x1, x2)) L2 L1 ∧ Below w.heap.size w w5) := ⟨hT.out.1.one s5 f5, fr_below hT.out.2 f5 (Nat.le_refl _) (fun k h => Nat.le_of_eq h.symm) HB.out⟩
      clear s5 f5 d1 d2 d3 d4 hb
      obtain ⟨b_, off_, e_, hb, d3, d4⟩ := (HM.out.below T5.out.2).at HY.out
      simp only [Option.some.injEq, Addr.mk.injEq] at e_
      obtain ⟨rfl, rfl, _⟩ := e_
      simp only at d3 d4
      go_wp2_with fail
      refine (add_sn T5.out.1.2.1 (y1, y2) YI.out).mono ?_
      rintro e w6 ⟨rfl, s6, f6⟩
      have T6 : Hid (Tri B w6 (addL L1 (x1, x2)) (addL L2 (y1, y2)) L1 ∧ Below w.heap.size w w6) := ⟨T5.out.1.two s6 f6, fr_below T5.out.2 f6 (Nat.le_refl _) (fun k h => Nat.le_of_eq h.symm) (Nat.le_trans HB.out (Nat.le_add_right _ _))⟩
      clear s6 f6 d3 d4 hb T5
      go_wp2_with fail
      refine (new_any _).mono ?_
      rintro e w7 ⟨rfl, s7, b7, z7⟩
      have T7 : Hid (Tri B w7 (addL L1 (x1, x2)) (addL L2 (y1, y2)) L1 ∧ Below w.heap.size w w7) := ⟨T6.out.1.below b7, T6.out.2.trans (b7.mono T6.out.2.size)⟩
      have hq : Hid (B + 6 ≤ w6.heap.size) := T6.out.1.2.2.2
      have S7 := Lib.hid s7
      clear b7 z7 s7 T6
      generalize w6.heap.size = q at S7 hq ⊢
      obtain ⟨b_, off_, e_, hb, d1, d2⟩ := (HM.out.below T7.out.2).at HX.out
      simp only [Option.some.injEq, Addr.mk.injEq] at e_
      obtain ⟨rfl, rfl, _⟩ := e_
      simp only at d1 d2
      go_wp2_with fail
      refine (add_sn S7.out (x1, x2) XI.out).mono ?_
      rintro e w8 ⟨rfl, s8, f8⟩
      have T8 : Hid (Tri B w8 (addL L1 (x1, x2)) (addL L2 (y1, y2)) L1 ∧ Below w.heap.size w w8) := by
        have hq' := hq.out
        have hz := T7.out.1
        refine ⟨⟨hz.1.frame f8 (by show ¬ _ = _; omega) (by show ¬ _ = _; omega), hz.2.1.frame f8 (by show ¬ _ = _; omega) (by show ¬ _ = _; omega), hz.2.2.1.frame f8 (by show ¬ _ = _; omega) (by show ¬ _ = _; omega), Nat.le_trans hz.2.2.2 f8.size⟩, fr_below (B := q) T7.out.2 f8 (Nat.le_refl _) (fun k h => Nat.le_of_eq h.symm) (by have := HB.out; omega)⟩
      have S8 := Lib.hid s8
      clear s8 f8 d1 d2 hb T7 S7
      go_wp2_with fail
      refine (join_sn T8.out.1.2.2.1 S8.out.v).mono ?_
      rintro e w9 ⟨rfl, s9, f9⟩
      rw [join_one T8.out.1.2.2.1.2.good XI.out] at s9
      have T9 : Hid (Tri B w9 (ofL (M.take (k + 1))) (ofL (M.reverse.take (k + 1))) (ofL (M.take (k + 1))) ∧ Below w.heap.size w w9) := by
        rw [TK1.out, TK2.out]
        exact ⟨T8.out.1.three s9 f9, fr_below (B := B + 4) T8.out.2 f9 (Nat.le_refl _) (fun k h => Nat.le_of_eq h.symm) (by have := HB.out; omega)⟩
      clear s9 f9 T8 S8
      go_wp2
      go_roundw
      case rel => exact ⟨k + 1, by go_num, by omega, T9⟩
      case measure => simp [intOf]; omega
    · rw [List.take_of_length_le (by omega), List.take_of_length_le (by simp; omega), ← ofL_perm (List.reverse_perm M).symm HIn.out] at hT
      have GG := Lib.hid hT.out.1.1.2.good
      have CR := Lib.hid (cov_refl GG.out)
      generalize ofL M = L at hT GG CR
      obtain ⟨⟨n1, n2⟩, hN⟩ : ∃ N, nextL L 1 = N := ⟨_, rfl⟩
      have NX := Lib.hid hN
      have eq2 := fun W => eq_id W (n1, n2) (n1, n2)
      rw [decide_eq_true rfl] at eq2
      unfold encI at eq2
      simp only at eq2
      clear hN
      have hR : Hid (Below wr.heap.size wr wr) := Below.refl _ _
      go_wp2_with fail
      refine (covers_any (hT.out.1.1.below hR.out).v (hT.out.1.2.1.below hR.out).v).mono ?_
      rw [CR.out]
      rintro e u11 ⟨rfl, hb⟩
      have R11 : Hid (Below wr.heap.size wr u11) := hR.out.trans (hb.mono hR.out.size)
      clear hb
      go_wp2_with fail
      refine (covers_any (hT.out.1.2.1.below R11.out).v (hT.out.1.1.below R11.out).v).mono ?_
      rw [CR.out]
      rintro e u12 ⟨rfl, hb⟩
      have R12 : Hid (Below wr.heap.size wr u12) := R11.out.trans (hb.mono R11.out.size)
      clear hb
      go_wp2_with fail
      refine (covers_any (hT.out.1.1.below R12.out).v (hT.out.1.2.2.1.below R12.out).v).mono ?_
      rw [CR.out]
      rintro e u13 ⟨rfl, hb⟩
      have R13 : Hid (Below wr.heap.size wr u13) := R12.out.trans (hb.mono R12.out.size)
      clear hb
      go_wp2_with fail
      refine (covers_any (hT.out.1.2.2.1.below R13.out).v (hT.out.1.1.below R13.out).v).mono ?_
      rw [CR.out]
      rintro e u14 ⟨rfl, hb⟩
      have R14 : Hid (Below wr.heap.size wr u14) := R13.out.trans (hb.mono R13.out.size)
      clear hb
      go_wp2_with fail
      refine (next_any 1 (hT.out.1.1.below R14.out).v).mono ?_
      rw [NX.out]
      unfold encI
      simp only
      rintro e u15 ⟨rfl, hb⟩
      have R15 : Hid (Below wr.heap.size wr u15) := R14.out.trans (hb.mono R14.out.size)
      clear hb
      go_wp2_with fail
      refine (next_any 1 (hT.out.1.2.1.below R15.out).v).mono ?_
      rw [NX.out]
      unfold encI
      simp only
      rintro e u16 ⟨rfl, hb⟩
      have R16 : Hid (Below wr.heap.size wr u16) := R15.out.trans (hb.mono R15.out.size)
      clear hb
      go_wp2_with fail
      refine (next_any 1 (hT.out.1.1.below R16.out).v).mono ?_
      rw [NX.out]
      unfold encI
      simp only
      rintro e u17 ⟨rfl, hb⟩
      have R17 : Hid (Below wr.heap.size wr u17) := R16.out.trans (hb.mono R16.out.size)
      clear hb
      go_wp2_with fail
      refine (next_any 1 (hT.out.1.2.2.1.below R17.out).v).mono ?_
      rw [NX.out]
      unfold encI
      simp only
      rintro e u18 ⟨rfl, hb⟩
      have R18 : Hid (Below wr.heap.size wr u18) := R17.out.trans (hb.mono R17.out.size)
      clear hb
      go_wp2_with fail
      go_ret
      exact ⟨rfl, hT.out.2.trans (R18.out.mono hT.out.2.size)⟩
set_option maxHeartbeats 1000000 in
theorem turned_long (aa : Option Addr) (cap n : Nat) (w : World) (hlen : 100 < n) :
    Calls Try.prog 7 #[.slice aa n cap] w fun e w' => e = .returned (.bool true) ∧ Below w.heap.size w w' := by
  go_enter Try.func7, Try.ntmps7
  go_wp2_with fail
  refine (awake_any _).mono ?_
  rintro e w1 ⟨rfl, hb⟩
  have FB := Lib.hid hb
  clear hb
  go_wp2_with fail
  go_ret
  exact ⟨rfl, FB.out⟩
theorem turned_law (aa : Option Addr) (cap : Nat) (M : List Id2) (w : World) (hM : IdsAt w aa M) (hIn : ∀ p ∈ M, InI p) :
    Calls Try.prog 7 #[.slice aa M.length cap] w fun e w' => e = .returned (.bool true) ∧ Below w.heap.size w w' := by
  by_cases h : M.length ≤ 100
  · exact turned_main aa cap M w hM hIn h
  · exact turned_long aa cap M.length w (by omega)
end Go.Proofs.Ytebifjjghogboaa
