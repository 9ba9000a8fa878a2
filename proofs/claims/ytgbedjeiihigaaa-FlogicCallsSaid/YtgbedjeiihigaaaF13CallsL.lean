/- FlogicCalls: both answers are the same. -/
import Derived.Test.YtgbedjeiihigaaaF13REach
import Derived.Test.YtgbedjeiihigaaaF13CallB
import Derived.Test.YtgbedjeiihigaaaF13Names
import Derived.Test.YtgbedjeiihigaaaF13Awake
namespace Go.Proofs.Ytgbedjeiihigaaa
open Go.RowKit
/-- What is looked at. -/
structure Looked (s : ByteArray) (l : List Arr) : Prop where
  h1 : l.length ≤ 40
  h2 : ∀ A ∈ l, A.l.length ≤ 60
def GreatP (s : ByteArray) (l : List Arr) (w : World) (e : Ending) (w' : World) : Prop := ∃ R : Bool, e = .returned (.bool R) ∧ (R = false → Looked s l) ∧ Below w.heap.size w w'
section
variable (s : ByteArray) (l : List Arr) (a : Option Addr) (cap : Nat) (w : World)
set_option maxHeartbeats 1000000
set_option maxRecDepth 100000
theorem great_any (hA : ArgsAt 0 w a l) : Calls Try.prog 15 #[.string s, .slice a l.length cap] w (GreatP s l w) := by
  have HA := Lib.hid hA
  clear hA
  by_cases q1 : 100 < s.size
  · go_enter Try.func15, Try.ntmps15
    go_wp2_with fail
    go_ret
    exact ⟨true, rfl, fun h => (by cases h), Below.refl _ _⟩
  by_cases q2 : 40 < l.length
  · go_enter Try.func15, Try.ntmps15
    go_wp2_with fail
    go_ret
    exact ⟨true, rfl, fun h => (by cases h), Below.refl _ _⟩
  · go_enter Try.func15, Try.ntmps15
    go_wp2_with fail
    go_loop [5] (fun i => ∃ k : Nat, i = .int .i64 k ∧ k ≤ l.length ∧ Hid (∀ A ∈ l.take k, A.l.length ≤ 60)) (fun i => l.length - (intOf i).toNat)
    case atStart => exact ⟨0, rfl, Nat.zero_le _, fun A hA => (by simp at hA)⟩
    case round =>
      obtain ⟨k, rfl, hk, hR⟩ := hrel
      by_cases hlt : k < l.length
      · obtain ⟨A, hAk⟩ : ∃ A, l[k]? = some A := ⟨_, List.getElem?_eq_getElem hlt⟩
        obtain ⟨b, off, rfl, _, hb, hall⟩ := HA.out (by omega)
        obtain ⟨a', cap', _, _, c2, _⟩ := hall k A hAk
        have NX : Hid (A.l.length ≤ 60 → ∀ X ∈ l.take (k + 1), X.l.length ≤ 60) := fun h X hX => by
          rw [List.take_add_one, hAk] at hX
          rcases List.mem_append.1 hX with hX | hX
          · exact hR.out X hX
          · simp at hX; rw [hX]; exact h
        clear hall hAk hR
        by_cases h60 : 60 < A.l.length
        · go_wp2_with fail
          go_ret
          exact ⟨true, rfl, fun h => (by cases h), Below.refl _ _⟩
        · have HN := Lib.hid (NX.out (by omega))
          clear NX
          go_wp2_with fail
          go_round
          case rel => exact ⟨k + 1, by go_num, by omega, HN⟩
          case measure => simp [intOf]; omega
      · have HN : Hid (∀ X ∈ l, X.l.length ≤ 60) := by
          have := hR.out
          rwa [List.take_of_length_le (by omega)] at this
        clear hR
        go_wp2_with fail
        go_ret
        exact ⟨false, rfl, fun _ => ⟨by omega, HN.out⟩, Below.refl _ _⟩
end
theorem call_g (j : Nat) (hj : j < 6) (A : Arr) (hO : ArrR A) (a : Option Addr) (cap : Nat) (w : World) (hA : ArgsAt 0 w a [A]) :
    Calls Try.prog 10 #[.string (gName j), .slice a 1 cap] w (CallPost w ⟨A.r, A.c, A.l.map (gF j)⟩) := by
  match j, hj with
  | 0, _ => exact call_not A (fun v hv => refR_tok (hO.h7 v hv)) hO.ok a cap w hA
  | i + 1, hj => exact call_kind i (by omega) A hO.ok a cap w hA
/-- Both tell the same. -/
def Both (s : ByteArray) (l : List Arr) : Prop := ∃ A ok, A.l.length ≤ 1000000 ∧ ∀ (a : Option Addr) (cap : Nat) (w : World), ArgsAt 0 w a l →
  Calls Try.prog 10 #[.string s, .slice a l.length cap] w (CallP w A ok) ∧ Calls Try.prog 16 #[.string s, .slice a l.length cap] w (CallP w A ok)
theorem both_fn {s : ByteArray} {lo hi : Int} {l : List Arr} (hG : HasFn s lo hi) (hC : CntIs s lo hi true) (hL : Looked s l) (hI : ∀ A ∈ l, ∀ v ∈ A.l, I64 v.m)
    (hY : lo ≤ (l.length : Int) → (l.length : Int) ≤ hi → (∀ A ∈ l, ArrR A) → Both s l) : Both s l := by
  by_cases hc : (decide ((l.length : Int) < lo) || decide (hi < (l.length : Int))) = true
  · exact ⟨⟨1, 1, [vBad 2]⟩, true, by simp, fun a cap w _ => ⟨call_count s a cap w l.length hG hc, rcall_count s a cap w l.length hC hc⟩⟩
  · have h1 : lo ≤ (l.length : Int) := by simp at hc; omega
    have h2 : (l.length : Int) ≤ hi := by simp at hc; omega
    by_cases hR : ∀ A ∈ l, ArrR A
    · exact hY h1 h2 hR
    · exact ⟨⟨1, 1, [vBad 9]⟩, true, by simp, fun a cap w hA => ⟨call_wrong s a cap w hG l h1 h2 hL.h1 hI hR hA, rcall_wrong s a cap w hC l h1 h2 hL.h1 hR hA⟩⟩
theorem allV_bd {l : List Arr} (hL : ∀ A ∈ l, A.l.length ≤ 60) : (allV l).length ≤ l.length * 60 := by
  induction l with
  | nil => simp [allV]
  | cons x r ih =>
    have := ih (fun A hA => hL A (List.mem_cons_of_mem _ hA))
    have h3 := hL x (by simp)
    have e : allV (x :: r) = x.l ++ allV r := by simp [allV]
    rw [e, List.length_append, List.length_cons]
    omega
theorem both_any (s : ByteArray) (l : List Arr) (hL : Looked s l) (hI : ∀ A ∈ l, ∀ v ∈ A.l, I64 v.m) : Both s l := by
  have fold : ∀ {fn : Int → Int → Bool}, EndOk s fn → HasFn s 1 32 → CntIs s 1 32 true → (s.toList == [78, 65]) = false → ((s.toList == [65, 78, 68]) = true ∨ ((s.toList == [65, 78, 68]) = false ∧ (s.toList == [79, 82]) = true) ∨ ((s.toList == [65, 78, 68]) = false ∧ (s.toList == [79, 82]) = false ∧ (s.toList == [88, 79, 82]) = true)) →
      (∀ (h1 : 1 ≤ l.length) (h2 : l.length ≤ 32) (hT : ∀ A ∈ l, ∀ v ∈ A.l, TOk v) (hO : ∀ A ∈ l, ArrOk A) (hN : (allV l).length ≤ 1000000) (a : Option Addr) (cap : Nat) (w : World) (hA : ArgsAt 0 w a l), Calls Try.prog 10 #[.string s, .slice a l.length cap] w (CallPost w ⟨1, 1, [truthsV fn l]⟩)) → Both s l := by
    intro fn hE hG hC n1 n2 hcall
    refine both_fn hG hC hL hI fun h1 h2 hR => ?_
    refine ⟨⟨1, 1, [truthsV fn l]⟩, true, by simp, fun a cap w hA => ⟨?_, rcall_fold s a cap w hE hC n1 n2 l (by omega) (by omega) hR hL.h2 hA⟩⟩
    exact hcall (by omega) (by omega) (fun A hA v hv => refR_tok ((hR A hA).h7 v hv)) (fun A hA => (hR A hA).ok) (by have := allV_bd hL.h2; have := hL.h1; omega) a cap w hA
  have each : ∀ j, j < 6 → s = gName j → HasFn s 1 1 → (s.toList == [78, 65]) = false → (s.toList == [65, 78, 68]) = false → (s.toList == [79, 82]) = false → (s.toList == [88, 79, 82]) = false → Both s l := by
    intro j hj e hG n1 n2 n3 n4
    have hC : CntIs s 1 1 true := by rw [e]; exact cnt_g j hj
    refine both_fn hG hC hL hI fun h1 h2 hR => ?_
    match l, h1, h2, hR with
    | [A], _, _, hR =>
      have hRA := hR A (by simp)
      have hZ := hL.h2 A (by simp)
      refine ⟨⟨A.r, A.c, A.l.map (gF j)⟩, true, by simp; omega, fun a cap w hA => ⟨?_, rcall_each s a cap w hC n1 n2 n3 n4 A hRA hZ (fun v hv w => by rw [e]; exact of_g j hj v (hRA.h7 v hv) w) hA⟩⟩
      rw [e]
      exact call_g j hj A hRA a cap w hA
  by_cases e1 : s = sAND
  · subst e1; exact fold (.inl ⟨rfl, rfl⟩) (fun _ _ _ _ _ _ _ _ _ => ⟨_, _, rfl⟩) cnt_AND (by rw [ByteArray.toList_eq]; decide) (.inl (by rw [ByteArray.toList_eq]; decide)) (fun h1 h2 hT hO hN a cap w hA => call_and l h1 h2 hT hO hN a cap w hA)
  by_cases e2 : s = sOR
  · subst e2; exact fold (.inr (.inl ⟨rfl, rfl⟩)) (fun _ _ _ _ _ _ _ _ _ => ⟨_, _, rfl⟩) cnt_OR (by rw [ByteArray.toList_eq]; decide) (.inr (.inl ⟨by rw [ByteArray.toList_eq]; decide, by rw [ByteArray.toList_eq]; decide⟩)) (fun h1 h2 hT hO hN a cap w hA => call_or l h1 h2 hT hO hN a cap w hA)
  by_cases e3 : s = sXOR
  · subst e3; exact fold (.inr (.inr ⟨rfl, rfl⟩)) (fun _ _ _ _ _ _ _ _ _ => ⟨_, _, rfl⟩) cnt_XOR (by rw [ByteArray.toList_eq]; decide) (.inr (.inr ⟨by rw [ByteArray.toList_eq]; decide, by rw [ByteArray.toList_eq]; decide, by rw [ByteArray.toList_eq]; decide⟩)) (fun h1 h2 hT hO hN a cap w hA => call_xor l h1 h2 hT hO hN a cap w hA)
  by_cases e4 : s = sNOT
  · subst e4; exact each 0 (by omega) rfl (fun _ _ _ _ _ _ _ _ _ => ⟨_, _, rfl⟩) (by rw [ByteArray.toList_eq]; decide) (by rw [ByteArray.toList_eq]; decide) (by rw [ByteArray.toList_eq]; decide) (by rw [ByteArray.toList_eq]; decide)
  by_cases e5 : s = sBLANK
  · subst e5; exact each 1 (by omega) rfl (fun _ _ _ _ _ _ _ _ _ => ⟨_, _, rfl⟩) (by rw [ByteArray.toList_eq]; decide) (by rw [ByteArray.toList_eq]; decide) (by rw [ByteArray.toList_eq]; decide) (by rw [ByteArray.toList_eq]; decide)
  by_cases e6 : s = sNUMBER
  · subst e6; exact each 2 (by omega) rfl (fun _ _ _ _ _ _ _ _ _ => ⟨_, _, rfl⟩) (by rw [ByteArray.toList_eq]; decide) (by rw [ByteArray.toList_eq]; decide) (by rw [ByteArray.toList_eq]; decide) (by rw [ByteArray.toList_eq]; decide)
  by_cases e7 : s = sTEXT
  · subst e7; exact each 3 (by omega) rfl (fun _ _ _ _ _ _ _ _ _ => ⟨_, _, rfl⟩) (by rw [ByteArray.toList_eq]; decide) (by rw [ByteArray.toList_eq]; decide) (by rw [ByteArray.toList_eq]; decide) (by rw [ByteArray.toList_eq]; decide)
  by_cases e8 : s = sLOGICAL
  · subst e8; exact each 4 (by omega) rfl (fun _ _ _ _ _ _ _ _ _ => ⟨_, _, rfl⟩) (by rw [ByteArray.toList_eq]; decide) (by rw [ByteArray.toList_eq]; decide) (by rw [ByteArray.toList_eq]; decide) (by rw [ByteArray.toList_eq]; decide)
  by_cases e9 : s = sERROR
  · subst e9; exact each 5 (by omega) rfl (fun _ _ _ _ _ _ _ _ _ => ⟨_, _, rfl⟩) (by rw [ByteArray.toList_eq]; decide) (by rw [ByteArray.toList_eq]; decide) (by rw [ByteArray.toList_eq]; decide) (by rw [ByteArray.toList_eq]; decide)
  by_cases e10 : s = sNA
  · subst e10
    refine both_fn (lo := 0) (hi := 0) (fun _ _ _ _ _ _ _ _ _ => ⟨_, _, rfl⟩) cnt_NA hL hI fun h1 h2 _ => ?_
    have hl : l = [] := by cases l with
      | nil => rfl
      | cons x r => simp at h2; omega
    subst hl
    exact ⟨⟨1, 1, [vBad 6]⟩, true, by simp, fun a cap w _ => ⟨call_na a cap w, rcall_na a cap w⟩⟩
  · have ho := oth_of e1 e2 e3 e4 e5 e6 e7 e8 e9 e10
    refine ⟨⟨0, 0, []⟩, false, by simp, fun a cap w _ => ⟨call_none s a cap w l.length (fun b1 b2 b3 b4 b5 b6 b7 b8 b9 => ?_), rcall_none s a cap w l.length (fun w => cnt_oth w s ho)⟩⟩
    refine getL_none.2 fun p hp => ?_
    unfold tbl at hp
    simp only [List.mem_cons, List.not_mem_nil, or_false] at hp
    rcases hp with rfl | rfl | rfl | rfl | rfl | rfl | rfl | rfl | rfl | rfl
    · exact fun h => e1 h.symm
    · exact fun h => e2 h.symm
    · exact fun h => e3 h.symm
    · exact fun h => e4 h.symm
    · exact fun h => e5 h.symm
    · exact fun h => e6 h.symm
    · exact fun h => e7 h.symm
    · exact fun h => e8 h.symm
    · exact fun h => e9 h.symm
    · exact fun h => e10 h.symm
end Go.Proofs.Ytgbedjeiihigaaa
