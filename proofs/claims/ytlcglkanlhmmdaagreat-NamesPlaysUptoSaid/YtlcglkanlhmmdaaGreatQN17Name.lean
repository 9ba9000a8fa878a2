/- Names: of functions, and of names: the document's answer, and the program's. -/
import Derived.Deep.DeepCutAuto
import Derived.Deep.CutBlock
import Derived.Test.YtlcglkanlhmmdaaGreatQN17Val
namespace Go.Proofs.YtlcglkanlhmmdaaGreat
open Go.RowKit
/-- Like a cell's address, with at most seven digits. -/
def markP (l : List Nat) : Bool := decide (cnt isL l ≤ 3 ∧ cnt isL l < l.length ∧ l.length - cnt isL l ≤ 7 ∧ l[cnt isL l]? ≠ some 48) && (l.drop (cnt isL l)).all isD
theorem markP_no {l : List Nat} (h : ¬ (cnt isL l ≤ 3 ∧ cnt isL l < l.length ∧ l.length - cnt isL l ≤ 7 ∧ l[cnt isL l]? ≠ some 48)) : markP l = false := by
  unfold markP
  rw [decide_eq_false h, Bool.false_and]
theorem markP_yes {l : List Nat} (h : cnt isL l ≤ 3 ∧ cnt isL l < l.length ∧ l.length - cnt isL l ≤ 7 ∧ l[cnt isL l]? ≠ some 48) : markP l = (l.drop (cnt isL l)).all isD := by
  unfold markP
  rw [decide_eq_true h, Bool.true_and]
theorem mark_any (s : ByteArray) (hs : s.size ≤ 1048576) (w : World) : Calls Tryz.prog 84 #[.string s] w fun e w' => e = .returned (.bool (markP (bl s))) ∧ w = w' := by
  go_enter Tryz.func84, Tryz.ntmps84
  go_wp2_with fail
  go_loop [3] (fun x => ∃ k : Nat, x = .int .i64 k ∧ k ≤ s.size ∧ Hid (cnt isL (bl s) = k + cnt isL ((bl s).drop k))) (fun x => s.size - (intOf x).toNat)
  case atStart => exact ⟨0, rfl, Nat.zero_le _, by unfold Hid; simp⟩
  case round =>
    obtain ⟨k, rfl, hk, hS⟩ := hrel
    by_cases hlt : k < s.size
    · obtain ⟨c, hc⟩ := bl_get hlt
      have hcc := bl_at hc
      have HC := Lib.hid hc
      clear hc
      go_wp2_with fail
      refine (letter_any c _).mono ?_
      rintro e w1 ⟨rfl, rfl⟩
      cases hd : isL c with
      | true =>
        have HN : Hid (cnt isL (bl s) = (k + 1) + cnt isL ((bl s).drop (k + 1))) := by
          have h1 := hS.out
          rw [cnt_yes HC.out hd] at h1
          unfold Hid
          omega
        clear hS
        go_wp2_with fail
        go_round
        case rel => exact ⟨k + 1, by go_num, by omega, HN⟩
        case measure => simp [intOf]; omega
      | false =>
        have HN : Hid (cnt isL (bl s) = k) := by
          have h1 := hS.out
          rw [cnt_no HC.out hd] at h1
          unfold Hid
          omega
        clear hS hcc HC hlt
        by_cases c1 : k ≤ 3
        · by_cases c2 : k < s.size
          · by_cases c3 : (s.size : Int) - (k : Int) ≤ 7
            · obtain ⟨d, hd'⟩ := bl_get c2
              have hdd := bl_at hd'
              have HD := Lib.hid hd'
              clear hd'
              by_cases c4 : d = 48
              · have HM : Hid (markP (bl s) = false) := markP_no (fun h => h.2.2.2 (by rw [HN.out, HD.out, c4]))
                have c5 : ((d : Int) != 48) = false := by simp; omega
                clear c4
                go_wp2_with fail
                go_ret
                exact ⟨by rw [HM.out]; rfl, rfl⟩
              · have HM : Hid (markP (bl s) = ((bl s).drop k).all isD) := by
                  unfold Hid
                  rw [markP_yes, HN.out]
                  rw [HN.out, bl_len, HD.out]
                  exact ⟨c1, c2, by omega, fun h => c4 (by simpa using h)⟩
                have c5 : ((d : Int) != 48) = true := by simp; omega
                clear c4
                go_wp2_with fail
                refine (digits_all (s.extract k s.size) (by rw [ByteArray.size_extract]; omega) _).mono ?_
                rintro e w1 ⟨rfl, rfl⟩
                rw [bl_extract]
                go_wp2_with fail
                go_ret
                exact ⟨by rw [HM.out]; rfl, rfl⟩
            · have HM : Hid (markP (bl s) = false) := markP_no (fun h => by have := h.2.2.1; rw [HN.out, bl_len] at this; omega)
              go_wp2_with fail
              go_ret
              exact ⟨by rw [HM.out]; rfl, rfl⟩
          · have HM : Hid (markP (bl s) = false) := markP_no (fun h => by have := h.2.1; rw [HN.out, bl_len] at this; omega)
            go_wp2_with fail
            go_ret
            exact ⟨by rw [HM.out]; rfl, rfl⟩
        · have HM : Hid (markP (bl s) = false) := markP_no (fun h => by have := h.1; rw [HN.out] at this; omega)
          go_wp2_with fail
          go_ret
          exact ⟨by rw [HM.out]; rfl, rfl⟩
    · have HN : Hid (cnt isL (bl s) = k) := by
        have h1 := hS.out
        rw [cnt_end (by rw [bl_len]; omega)] at h1
        unfold Hid
        omega
      clear hS
      have HM : Hid (markP (bl s) = false) := markP_no (fun h => by have := h.2.1; rw [HN.out, bl_len] at this; omega)
      by_cases c1 : k ≤ 3
      · go_wp2_with fail
        go_ret
        exact ⟨by rw [HM.out]; rfl, rfl⟩
      · go_wp2_with fail
        go_ret
        exact ⟨by rw [HM.out]; rfl, rfl⟩
/-- A function's name. -/
def callP (l : List Nat) : Bool := decide (1 ≤ l.length ∧ l.length ≤ 32) && l.head?.any isL && (l.drop 1).all (fun c => isL c || isD c || c == 46) && !markP l
theorem callP_len {l : List Nat} (h : ¬ (1 ≤ l.length ∧ l.length ≤ 32)) : callP l = false := by
  unfold callP
  rw [decide_eq_false h]
  rfl
theorem callP_first {l : List Nat} {c : Nat} (h : l[0]? = some c) (hc : isL c = false) : callP l = false := by
  unfold callP
  rw [List.head?_eq_getElem?, h]
  simp [hc]
theorem callP_rest {l : List Nat} {c k : Nat} (hk : 1 ≤ k) (h : l[k]? = some c) (hc : (isL c || isD c || c == 46) = false) : callP l = false := by
  unfold callP
  have : (l.drop 1).all (fun c => isL c || isD c || c == 46) = false := by
    rw [List.all_eq_false]
    refine ⟨c, List.mem_of_getElem? (i := k - 1) ?_, by simp [hc]⟩
    rw [List.getElem?_drop, show 1 + (k - 1) = k by omega]
    exact h
  rw [this]
  simp
theorem callP_all {l : List Nat} {c : Nat} (h1 : 1 ≤ l.length ∧ l.length ≤ 32) (h : l[0]? = some c) (hc : isL c = true) (ha : (l.drop 1).all (fun c => isL c || isD c || c == 46) = true) : callP l = !markP l := by
  unfold callP
  rw [decide_eq_true h1, ha, List.head?_eq_getElem?, h]
  simp [hc]
theorem all_yes {p : Nat → Bool} {l : List Nat} {k c : Nat} (hS : (l.drop 1).all p = (l.drop k).all p) (h : l[k]? = some c) (hp : p c = true) : (l.drop 1).all p = (l.drop (k + 1)).all p := by
  rw [hS, List.drop_eq_getElem?_toList_append, h]
  simp [hp]
theorem all_end {p : Nat → Bool} {l : List Nat} {k : Nat} (hS : (l.drop 1).all p = (l.drop k).all p) (h : l.length ≤ k) : (l.drop 1).all p = true := by
  rw [hS, List.drop_of_length_le h]; rfl
theorem function_any (s : ByteArray) (hs : s.size ≤ 1048576) (w : World) : Calls Tryz.prog 72 #[.string s] w fun e w' => e = .returned (.bool (callP (bl s))) ∧ w = w' := by
  go_enter Tryz.func72, Tryz.ntmps72
  by_cases h1 : s.size < 1
  · have HL := Lib.hid (callP_len (l := bl s) (by rw [bl_len]; omega))
    have HM : Hid (callP (bl s) = false) := HL.out
    go_wp2_with fail
    go_ret
    exact ⟨by rw [HM.out]; rfl, rfl⟩
  · by_cases h2 : 32 < s.size
    · have HL := Lib.hid (callP_len (l := bl s) (by rw [bl_len]; omega))
      have HM : Hid (callP (bl s) = false) := HL.out
      go_wp2_with fail
      go_ret
      exact ⟨by rw [HM.out]; rfl, rfl⟩
    · obtain ⟨c, hc⟩ := bl_get (s := s) (k := 0) (by omega)
      have hcc := bl_at hc
      have HC := Lib.hid hc
      clear hc
      go_wp2_with fail
      refine (letter_any c _).mono ?_
      rintro e w1 ⟨rfl, rfl⟩
      cases hd : isL c with
      | false =>
        have HM : Hid (callP (bl s) = false) := callP_first HC.out hd
        go_wp2_with fail
        go_ret
        exact ⟨by rw [HM.out]; rfl, rfl⟩
      | true =>
        go_wp2_with fail
        clear hcc
        go_loop [3] (fun x => ∃ k : Nat, x = .int .i64 k ∧ 1 ≤ k ∧ k ≤ s.size ∧ Hid (((bl s).drop 1).all (fun c => isL c || isD c || c == 46) = ((bl s).drop k).all (fun c => isL c || isD c || c == 46))) (fun x => s.size - (intOf x).toNat)
        case atStart => exact ⟨1, rfl, Nat.le_refl _, by omega, rfl⟩
        case round =>
          obtain ⟨k, rfl, hk1, hk, hS⟩ := hrel
          have HC0 := HC
          clear HC
          by_cases hlt : k < s.size
          · obtain ⟨c, hc⟩ := bl_get hlt
            have hcc := bl_at hc
            have HC := Lib.hid hc
            clear hc
            go_wp2_with fail
            refine (letter_any c _).mono ?_
            rintro e w1 ⟨rfl, rfl⟩
            cases hd : isL c with
            | true =>
              have HN := Lib.hid (all_yes hS.out HC.out (by simp [hd]))
              clear hS HC
              go_wp2_with fail
              go_round
              case rel => exact ⟨k + 1, by go_num, by omega, by omega, HN⟩
              case measure => simp [intOf]; omega
            | false =>
              go_wp2_with fail
              refine (digit_any c _).mono ?_
              rintro e w1 ⟨rfl, rfl⟩
              cases he : isD c with
              | true =>
                have HN := Lib.hid (all_yes hS.out HC.out (by simp [he]))
                clear hS HC
                go_wp2_with fail
                go_round
                case rel => exact ⟨k + 1, by go_num, by omega, by omega, HN⟩
                case measure => simp [intOf]; omega
              | false =>
                by_cases h46 : c = 46
                · have c5 : ((c : Int) != 46) = false := by simp; omega
                  have h6 : (c == 46) = true := by simp [h46]
                  clear h46
                  have HN := Lib.hid (all_yes hS.out HC.out (by simp [h6]))
                  clear hS HC
                  go_wp2_with fail
                  go_round
                  case rel => exact ⟨k + 1, by go_num, by omega, by omega, HN⟩
                  case measure => simp [intOf]; omega
                · have c5 : ((c : Int) != 46) = true := by simp; omega
                  have h6 : (c == 46) = false := by simp [h46]
                  clear h46
                  have HH := Lib.hid (callP_rest hk1 HC.out (by rw [hd, he, h6]; rfl))
                  clear h6
                  have HM : Hid (callP (bl s) = false) := HH.out
                  go_wp2_with fail
                  go_ret
                  exact ⟨by rw [HM.out]; rfl, rfl⟩
          · have HM : Hid (callP (bl s) = !markP (bl s)) := callP_all (by rw [bl_len]; omega) HC0.out ‹isL _ = true› (all_end hS.out (by rw [bl_len]; omega))
            go_wp2_with fail
            refine (mark_any s hs _).mono ?_
            rintro e w1 ⟨rfl, rfl⟩
            go_wp2_with fail
            go_ret
            exact ⟨by rw [HM.out]; rfl, rfl⟩
end Go.Proofs.YtlcglkanlhmmdaaGreat
/- ref06.address. -/
namespace Go.Proofs.YtlcglkanlhmmdaaGreat
open Go.RowKit
def seenAt (p : Nat) (l : List Nat) (i : Nat) : Nat := if l[i]? = some p then i + 1 + cnt isD (l.drop (i + 1)) else i
theorem seenAt_no {p : Nat} {l : List Nat} {i : Nat} (h : l[i]? ≠ some p) : seenAt p l i = i := by unfold seenAt; rw [if_neg h]
theorem seenAt_yes {p : Nat} {l : List Nat} {i : Nat} (h : l[i]? = some p) : seenAt p l i = i + 1 + cnt isD (l.drop (i + 1)) := by unfold seenAt; rw [if_pos h]
theorem seenAt_le {p : Nat} {l : List Nat} {i : Nat} (h : i ≤ l.length) : seenAt p l i ≤ l.length := by
  unfold seenAt
  split
  · rename_i h1
    have := (List.getElem?_eq_some_iff.1 h1).1
    have h2 := cnt_le isD (l.drop (i + 1))
    rw [List.length_drop] at h2
    omega
  · exact h
def seenP (l : List Nat) : Bool := decide (seenAt 67 l (seenAt 82 l 0) = l.length)
def likeP (l : List Nat) : Bool := decide (1 ≤ cnt isL l ∧ cnt isL l ≤ 3 ∧ cnt isL l < l.length) && (l.drop (cnt isL l)).all isD
theorem likeP_no {l : List Nat} (h : ¬ (1 ≤ cnt isL l ∧ cnt isL l ≤ 3 ∧ cnt isL l < l.length)) : likeP l = false := by
  unfold likeP
  rw [decide_eq_false h, Bool.false_and]
theorem likeP_yes {l : List Nat} (h : 1 ≤ cnt isL l ∧ cnt isL l ≤ 3 ∧ cnt isL l < l.length) : likeP l = (l.drop (cnt isL l)).all isD := by
  unfold likeP
  rw [decide_eq_true h, Bool.true_and]
/-- Like an address. -/
def addrP (l : List Nat) : Bool := likeP l || seenP l
set_option maxRecDepth 100000 in
set_option maxHeartbeats 1000000 in
theorem address_any (s : ByteArray) (hs : s.size ≤ 1048576) (w : World) : Calls Tryz.prog 23 #[.string s] w fun e w' => e = .returned (.bool (addrP (bl s))) ∧ w = w' := by
  have KL : cnt isL (bl s) ≤ s.size := by rw [← bl_len]; exact cnt_le _ _
  go_enter Tryz.func23, Tryz.ntmps23
  go_upto_block 0 with fail
  go_cut [3] (fun s3 wx => w = wx ∧ s3 = .int .i64 (cnt isL (bl s)))
  case first =>
    go_wp2_with fail
    go_loop [3] (fun x => ∃ k : Nat, x = .int .i64 k ∧ k ≤ s.size ∧ Hid (cnt isL (bl s) = k + cnt isL ((bl s).drop k))) (fun x => s.size - (intOf x).toNat)
    case atStart => exact ⟨0, rfl, Nat.zero_le _, by unfold Hid; simp⟩
    case round =>
      obtain ⟨k, rfl, hk, hS⟩ := hrel
      by_cases hlt : k < s.size
      · obtain ⟨c, hc⟩ := bl_get hlt
        have hcc := bl_at hc
        have HC := Lib.hid hc
        clear hc
        go_wp2_with fail
        refine (letter_any c _).mono ?_
        rintro e w1 ⟨rfl, rfl⟩
        cases hd : isL c with
        | true =>
          have HN : Hid (cnt isL (bl s) = (k + 1) + cnt isL ((bl s).drop (k + 1))) := by
            have h1 := hS.out
            rw [cnt_yes HC.out hd] at h1
            unfold Hid
            omega
          clear hS
          go_wp2_with fail
          go_round
          case rel => exact ⟨k + 1, by go_num, by omega, HN⟩
          case measure => simp [intOf]; omega
        | false =>
          have HN : Hid (k = cnt isL (bl s)) := by
            have h1 := hS.out
            rw [cnt_no HC.out hd] at h1
            unfold Hid
            omega
          clear hS hcc HC hlt
          go_wp2_with fail
          go_meet
          exact ⟨rfl, by rw [← HN.out]⟩
      · have HN : Hid (k = cnt isL (bl s)) := by
          have h1 := hS.out
          rw [cnt_end (by rw [bl_len]; omega)] at h1
          unfold Hid
          omega
        clear hS
        go_wp2_with fail
        go_meet
        exact ⟨rfl, by rw [← HN.out]⟩
  case rest =>
  obtain ⟨rfl, rfl⟩ := hcut
  obtain ⟨K, hK⟩ : ∃ K, cnt isL (bl s) = K := ⟨_, rfl⟩
  have HK := Lib.hid hK
  rw [hK] at KL ⊢
  clear hK
  go_upto_region 4 with fail
  go_cut [34] (fun s34 wx => w = wx ∧ s34 = .bool (likeP (bl s)))
  case first =>
    by_cases c1 : 1 ≤ K
    · by_cases c2 : K ≤ 3
      · by_cases c3 : K < s.size
        · have HM : Hid (likeP (bl s) = ((bl s).drop K).all isD) := by
            unfold Hid
            rw [likeP_yes, HK.out]
            rw [HK.out, bl_len]
            exact ⟨c1, c2, c3⟩
          go_wp2_with fail
          refine (digits_all (s.extract K s.size) (by rw [ByteArray.size_extract]; omega) _).mono ?_
          rintro e w1 ⟨rfl, rfl⟩
          rw [bl_extract]
          go_wp2_with fail
          go_meet
          exact ⟨rfl, by rw [HM.out]⟩
        · have HM : Hid (likeP (bl s) = false) := likeP_no (by rw [HK.out, bl_len]; omega)
          go_wp2_with fail
          go_meet
          exact ⟨rfl, by rw [HM.out]⟩
      · have HM : Hid (likeP (bl s) = false) := likeP_no (by rw [HK.out, bl_len]; omega)
        go_wp2_with fail
        go_meet
        exact ⟨rfl, by rw [HM.out]⟩
    · have HM : Hid (likeP (bl s) = false) := likeP_no (by rw [HK.out, bl_len]; omega)
      go_wp2_with fail
      go_meet
      exact ⟨rfl, by rw [HM.out]⟩
  case rest =>
  obtain ⟨rfl, rfl⟩ := hcut
  cases hl : likeP (bl s) with
  | true =>
    have HA : Hid (addrP (bl s) = true) := by unfold Hid addrP; rw [hl]; rfl
    go_wp2_with fail
    go_ret
    exact ⟨by rw [HA.out]; rfl, rfl⟩
  | false =>
    have HA : Hid (addrP (bl s) = seenP (bl s)) := by unfold Hid addrP; rw [hl]; rfl
    clear hl HK KL
    obtain ⟨I, hI⟩ : ∃ I : Nat, I = 0 := ⟨0, rfl⟩
    have HA2 : Hid (addrP (bl s) = decide (seenAt 67 (bl s) (seenAt 82 (bl s) I) = s.size)) := by
      unfold Hid
      rw [HA.out, hI, ← bl_len]
      rfl
    have hIs : I ≤ s.size := by omega
    go_upto_region 6 with fail
    go_cut [4] (fun s4 wx => w = wx ∧ s4 = .int .i64 I)
    case first =>
      subst hI
      go_wp2_with fail
      go_meet
      exact ⟨rfl, rfl⟩
    case rest =>
    obtain ⟨rfl, rfl⟩ := hcut
    clear hI HA
    go_upto_region 7 with fail
    go_cut [44] (fun s44 wx => w = wx ∧ s44 = .bool (decide ((bl s)[I]? = some 82)))
    case first =>
      by_cases h0 : I < s.size
      · obtain ⟨c, hc⟩ := bl_get h0
        have hcc := bl_at hc
        have HC := Lib.hid hc
        clear hc
        by_cases h1 : c = 82
        · have HD : Hid (decide ((bl s)[I]? = some 82) = true) := by unfold Hid; rw [HC.out, h1]; simp
          have c5 : ((c : Int) == 82) = true := by simp; omega
          clear h1
          go_wp2_with fail
          go_meet
          exact ⟨rfl, by rw [HD.out]⟩
        · have HD : Hid (decide ((bl s)[I]? = some 82) = false) := by unfold Hid; rw [HC.out]; simp [h1]
          have c5 : ((c : Int) == 82) = false := by simp; omega
          clear h1
          go_wp2_with fail
          go_meet
          exact ⟨rfl, by rw [HD.out]⟩
      · have HD : Hid (decide ((bl s)[I]? = some 82) = false) := by unfold Hid; rw [List.getElem?_eq_none (by rw [bl_len]; omega)]; simp
        go_wp2_with fail
        go_meet
        exact ⟨rfl, by rw [HD.out]⟩
    case rest =>
    obtain ⟨rfl, rfl⟩ := hcut
    go_upto_if 44 with fail
    go_cut [4] (fun s4 wx => w = wx ∧ s4 = .int .i64 (seenAt 82 (bl s) I))
    case first =>
      by_cases h : (bl s)[I]? = some 82
      · have hI := (List.getElem?_eq_some_iff.1 h).1
        rw [bl_len] at hI
        have HS := Lib.hid (seenAt_yes h)
        rw [decide_eq_true h]
        clear h
        go_wp2_with fail
        go_loop [4] (fun x => ∃ k : Nat, x = .int .i64 k ∧ k ≤ s.size ∧ Hid (seenAt 82 (bl s) I = k + cnt isD ((bl s).drop k))) (fun x => s.size - (intOf x).toNat)
        case atStart => exact ⟨I + 1, by go_num, by omega, HS⟩
        case round =>
          obtain ⟨k, rfl, hk, hS⟩ := hrel
          by_cases hlt : k < s.size
          · obtain ⟨c, hc⟩ := bl_get hlt
            have hcc := bl_at hc
            have HC := Lib.hid hc
            clear hc
            go_wp2_with fail
            refine (digit_any c _).mono ?_
            rintro e w1 ⟨rfl, rfl⟩
            cases hd : isD c with
            | true =>
              have HN : Hid (seenAt 82 (bl s) I = (k + 1) + cnt isD ((bl s).drop (k + 1))) := by
                have h1 := hS.out
                rw [cnt_yes HC.out hd] at h1
                unfold Hid
                omega
              clear hS
              go_wp2_with fail
              go_round
              case rel => exact ⟨k + 1, by go_num, by omega, HN⟩
              case measure => simp [intOf]; omega
            | false =>
              have HN : Hid (k = seenAt 82 (bl s) I) := by
                have h1 := hS.out
                rw [cnt_no HC.out hd] at h1
                unfold Hid
                omega
              clear hS hcc HC hlt
              go_wp2_with fail
              go_meet
              exact ⟨rfl, by rw [← HN.out]⟩
          · have HN : Hid (k = seenAt 82 (bl s) I) := by
              have h1 := hS.out
              rw [cnt_end (by rw [bl_len]; omega)] at h1
              unfold Hid
              omega
            clear hS
            go_wp2_with fail
            go_meet
            exact ⟨rfl, by rw [← HN.out]⟩
      · have HS : Hid (I = seenAt 82 (bl s) I) := (seenAt_no h).symm
        rw [decide_eq_false h]
        clear h
        go_wp2_with fail
        go_meet
        exact ⟨rfl, by rw [← HS.out]⟩
    case rest =>
    obtain ⟨rfl, rfl⟩ := hcut
    obtain ⟨J, hJ⟩ : ∃ J, seenAt 82 (bl s) I = J := ⟨_, rfl⟩
    have hJs : J ≤ s.size := by rw [← hJ, ← bl_len]; exact seenAt_le (by rw [bl_len]; exact hIs)
    rw [hJ] at HA2 ⊢
    clear hJ hIs
    clear I
    go_upto_region 11 with fail
    go_cut [68] (fun s68 wx => w = wx ∧ s68 = .bool (decide ((bl s)[J]? = some 67)))
    case first =>
      by_cases h0 : J < s.size
      · obtain ⟨c, hc⟩ := bl_get h0
        have hcc := bl_at hc
        have HC := Lib.hid hc
        clear hc
        by_cases h1 : c = 67
        · have HD : Hid (decide ((bl s)[J]? = some 67) = true) := by unfold Hid; rw [HC.out, h1]; simp
          have c5 : ((c : Int) == 67) = true := by simp; omega
          clear h1
          go_wp2_with fail
          go_meet
          exact ⟨rfl, by rw [HD.out]⟩
        · have HD : Hid (decide ((bl s)[J]? = some 67) = false) := by unfold Hid; rw [HC.out]; simp [h1]
          have c5 : ((c : Int) == 67) = false := by simp; omega
          clear h1
          go_wp2_with fail
          go_meet
          exact ⟨rfl, by rw [HD.out]⟩
      · have HD : Hid (decide ((bl s)[J]? = some 67) = false) := by unfold Hid; rw [List.getElem?_eq_none (by rw [bl_len]; omega)]; simp
        go_wp2_with fail
        go_meet
        exact ⟨rfl, by rw [HD.out]⟩
    case rest =>
    obtain ⟨rfl, rfl⟩ := hcut
    go_upto_if 68 with fail
    go_cut [4] (fun s4 wx => w = wx ∧ s4 = .int .i64 (seenAt 67 (bl s) J))
    case first =>
      by_cases h : (bl s)[J]? = some 67
      · have hI := (List.getElem?_eq_some_iff.1 h).1
        rw [bl_len] at hI
        have HS := Lib.hid (seenAt_yes h)
        rw [decide_eq_true h]
        clear h
        go_wp2_with fail
        go_loop [4] (fun x => ∃ k : Nat, x = .int .i64 k ∧ k ≤ s.size ∧ Hid (seenAt 67 (bl s) J = k + cnt isD ((bl s).drop k))) (fun x => s.size - (intOf x).toNat)
        case atStart => exact ⟨J + 1, by go_num, by omega, HS⟩
        case round =>
          obtain ⟨k, rfl, hk, hS⟩ := hrel
          by_cases hlt : k < s.size
          · obtain ⟨c, hc⟩ := bl_get hlt
            have hcc := bl_at hc
            have HC := Lib.hid hc
            clear hc
            go_wp2_with fail
            refine (digit_any c _).mono ?_
            rintro e w1 ⟨rfl, rfl⟩
            cases hd : isD c with
            | true =>
              have HN : Hid (seenAt 67 (bl s) J = (k + 1) + cnt isD ((bl s).drop (k + 1))) := by
                have h1 := hS.out
                rw [cnt_yes HC.out hd] at h1
                unfold Hid
                omega
              clear hS
              go_wp2_with fail
              go_round
              case rel => exact ⟨k + 1, by go_num, by omega, HN⟩
              case measure => simp [intOf]; omega
            | false =>
              have HN : Hid (k = seenAt 67 (bl s) J) := by
                have h1 := hS.out
                rw [cnt_no HC.out hd] at h1
                unfold Hid
                omega
              clear hS hcc HC hlt
              go_wp2_with fail
              go_meet
              exact ⟨rfl, by rw [← HN.out]⟩
          · have HN : Hid (k = seenAt 67 (bl s) J) := by
              have h1 := hS.out
              rw [cnt_end (by rw [bl_len]; omega)] at h1
              unfold Hid
              omega
            clear hS
            go_wp2_with fail
            go_meet
            exact ⟨rfl, by rw [← HN.out]⟩
      · have HS : Hid (J = seenAt 67 (bl s) J) := (seenAt_no h).symm
        rw [decide_eq_false h]
        clear h
        go_wp2_with fail
        go_meet
        exact ⟨rfl, by rw [← HS.out]⟩
    case rest =>
    obtain ⟨rfl, rfl⟩ := hcut
    obtain ⟨L, hL⟩ : ∃ L, seenAt 67 (bl s) J = L := ⟨_, rfl⟩
    rw [hL] at HA2 ⊢
    go_wp2_with fail
    go_ret
    refine ⟨ret_bool ?_, rfl⟩
    rw [HA2.out, Bool.eq_iff_iff]
    simp
    omega
end Go.Proofs.YtlcglkanlhmmdaaGreat
