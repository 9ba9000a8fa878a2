/- ref06.Name. -/
import Derived.Lib.ConvBytes
import Derived.Lib.SlBytesConst
import Derived.Test.YtlcglkanlhmmdaaGreatQN17Name
namespace Go.Proofs.YtlcglkanlhmmdaaGreat
open Go.RowKit
def okF (c : Nat) : Bool := isL c || c == 95
def okN (c : Nat) : Bool := isL c || isD c || c == 46 || c == 95
theorem okF_N {c : Nat} (h : okF c = true) : okN c = true := by
  unfold okF at h
  unfold okN
  cases h1 : isL c <;> cases h2 : c == 95 <;> simp_all
/-- A name. -/
def nameP (s : ByteArray) : Bool :=
  decide (1 ≤ (bl s).length ∧ (bl s).length ≤ 32) && (bl s).head?.any okF && !(s.toList == [84, 82, 85, 69]) && !(s.toList == [70, 65, 76, 83, 69]) && !addrP (bl s) && ((bl s).drop 1).all okN
theorem nameP_len {s : ByteArray} (h : ¬ (1 ≤ s.size ∧ s.size ≤ 32)) : nameP s = false := by
  unfold nameP
  rw [bl_len, decide_eq_false h]
  rfl
theorem nameP_first {s : ByteArray} {c : Nat} (h : (bl s)[0]? = some c) (hc : okF c = false) : nameP s = false := by
  unfold nameP
  rw [List.head?_eq_getElem?, h]
  simp [hc]
theorem nameP_true {s : ByteArray} (h : (s.toList == [84, 82, 85, 69]) = true) : nameP s = false := by
  unfold nameP
  rw [h]
  simp
theorem nameP_false {s : ByteArray} (h : (s.toList == [70, 65, 76, 83, 69]) = true) : nameP s = false := by
  unfold nameP
  rw [h]
  simp
theorem nameP_addr {s : ByteArray} (h : addrP (bl s) = true) : nameP s = false := by
  unfold nameP
  rw [h]
  simp
theorem nameP_rest {s : ByteArray} {c k : Nat} (hk : 1 ≤ k) (h : (bl s)[k]? = some c) (hc : okN c = false) : nameP s = false := by
  unfold nameP
  have : ((bl s).drop 1).all okN = false := by
    rw [List.all_eq_false]
    refine ⟨c, List.mem_of_getElem? (i := k - 1) ?_, by simp [hc]⟩
    rw [List.getElem?_drop, show 1 + (k - 1) = k by omega]
    exact h
  rw [this]
  simp
theorem nameP_all {s : ByteArray} {c : Nat} (h1 : 1 ≤ s.size ∧ s.size ≤ 32) (h : (bl s)[0]? = some c) (hc : okF c = true) (ht : (s.toList == [84, 82, 85, 69]) = false) (hf : (s.toList == [70, 65, 76, 83, 69]) = false) (ha : ((bl s).drop 1).all okN = true) :
    nameP s = !addrP (bl s) := by
  unfold nameP
  rw [bl_len, decide_eq_true h1, ha, ht, hf, List.head?_eq_getElem?, h]
  simp [hc]
theorem neq_f {c n : Nat} {m : Int} (hm : m = (n : Int)) (h : (c == n) = true) : ((c : Int) != m) = false := by simp at h; simp [h, hm]
theorem neq_t {c n : Nat} {m : Int} (hm : m = (n : Int)) (h : (c == n) = false) : ((c : Int) != m) = true := by simp at h; simp; omega
set_option maxRecDepth 100000 in
set_option maxHeartbeats 1000000 in
theorem name_any (s : ByteArray) (hs : s.size ≤ 1048576) (w : World) : Calls Tryz.prog 8 #[.string s] w fun e w' => e = .returned (.bool (nameP s)) ∧ w = w' := by
  have HS := Lib.hid hs
  clear hs
  go_enter Tryz.func8, Tryz.ntmps8
  by_cases h1 : s.size < 1
  · have HL := Lib.hid (nameP_len (s := s) (by omega))
    have HM : Hid (nameP s = false) := HL.out
    go_wp2_with fail
    go_ret
    exact ⟨by rw [HM.out]; rfl, rfl⟩
  by_cases h2 : 32 < s.size
  · have HL := Lib.hid (nameP_len (s := s) (by omega))
    have HM : Hid (nameP s = false) := HL.out
    go_wp2_with fail
    go_ret
    exact ⟨by rw [HM.out]; rfl, rfl⟩
  have d1 : decide ((s.size : Int) < 1) = false := by simp; omega
  have d2 : decide ((32 : Int) < (s.size : Int)) = false := by simp; omega
  obtain ⟨c, hc⟩ := bl_get (s := s) (k := 0) (by omega)
  have hcc := bl_at hc
  have HC := Lib.hid hc
  clear hc
  go_upto_region 1 with fail
  go_cut [34] (fun s34 wx => w = wx ∧ s34 = .bool (!(okF c && !(s.toList == [84, 82, 85, 69]) && !(s.toList == [70, 65, 76, 83, 69]) && !addrP (bl s))))
  case first =>
    go_wp2_with fail
    refine (letter_any c _).mono ?_
    rintro e w1 ⟨rfl, rfl⟩
    cases hd : isL c with
    | true =>
      have HF : Hid (okF c = true) := by unfold Hid okF; rw [hd]; rfl
      cases ht : (s.toList == [84, 82, 85, 69]) with
      | true =>
        go_wp2_with fail
        go_meet
        exact ⟨rfl, by rw [HF.out]; simp [*]⟩
      | false =>
        cases hf : (s.toList == [70, 65, 76, 83, 69]) with
        | true =>
          go_wp2_with fail
          go_meet
          exact ⟨rfl, by rw [HF.out]; simp [*]⟩
        | false =>
          go_wp2_with fail
          refine (address_any s HS.out _).mono ?_
          rintro e w1 ⟨rfl, rfl⟩
          go_wp2_with fail
          go_meet
          exact ⟨rfl, by rw [HF.out]; simp [*]⟩
    | false =>
      cases h9 : (c == 95) with
      | false =>
        have c5 : ((c : Int) != 95) = true := neq_t rfl h9
        have HF : Hid (okF c = false) := by unfold Hid okF; rw [hd, h9]; rfl
        clear h9
        go_wp2_with fail
        go_meet
        exact ⟨rfl, by rw [HF.out]; simp⟩
      | true =>
        have c5 : ((c : Int) != 95) = false := neq_f rfl h9
        have HF : Hid (okF c = true) := by unfold Hid okF; rw [hd, h9]; rfl
        clear h9
        cases ht : (s.toList == [84, 82, 85, 69]) with
        | true =>
          go_wp2_with fail
          go_meet
          exact ⟨rfl, by rw [HF.out]; simp [*]⟩
        | false =>
          cases hf : (s.toList == [70, 65, 76, 83, 69]) with
          | true =>
            go_wp2_with fail
            go_meet
            exact ⟨rfl, by rw [HF.out]; simp [*]⟩
          | false =>
            go_wp2_with fail
            refine (address_any s HS.out _).mono ?_
            rintro e w1 ⟨rfl, rfl⟩
            go_wp2_with fail
            go_meet
            exact ⟨rfl, by rw [HF.out]; simp [*]⟩
  case rest =>
  obtain ⟨rfl, rfl⟩ := hcut
  clear hcc d1 d2
  cases hF : okF c with
  | false =>
    rw [Bool.false_and, Bool.false_and, Bool.false_and]
    have HL := Lib.hid (nameP_first HC.out hF)
    have HM : Hid (nameP s = false) := HL.out
    go_wp2_with fail
    go_ret
    exact ⟨by rw [HM.out]; rfl, rfl⟩
  | true =>
  cases ht : (s.toList == [84, 82, 85, 69]) with
  | true =>
    rw [Bool.not_true, Bool.and_false, Bool.false_and, Bool.false_and]
    have HL := Lib.hid (nameP_true ht)
    have HM : Hid (nameP s = false) := HL.out
    go_wp2_with fail
    go_ret
    exact ⟨by rw [HM.out]; rfl, rfl⟩
  | false =>
  cases hf : (s.toList == [70, 65, 76, 83, 69]) with
  | true =>
    rw [Bool.not_true, Bool.and_false, Bool.false_and]
    have HL := Lib.hid (nameP_false hf)
    have HM : Hid (nameP s = false) := HL.out
    go_wp2_with fail
    go_ret
    exact ⟨by rw [HM.out]; rfl, rfl⟩
  | false =>
  cases ha : addrP (bl s) with
  | true =>
    have HL := Lib.hid (nameP_addr ha)
    have HM : Hid (nameP s = false) := HL.out
    go_wp2_with fail
    go_ret
    exact ⟨by rw [HM.out]; rfl, rfl⟩
  | false =>
  have HALL := Lib.hid (nameP_all (s := s) (by omega) HC.out hF ht hf)
  rw [ha] at HALL
  clear ht hf hF HC ha
  go_wp2_with fail
  go_loopg [3] (s.size - 1) (fun g x wx => w = wx ∧ ∃ k : Nat, x = .int .i64 k ∧ g = s.size - k ∧ 1 ≤ k ∧ k ≤ s.size ∧ Hid (((bl s).drop 1).all okN = ((bl s).drop k).all okN))
  case atStart => exact ⟨rfl, 1, rfl, rfl, Nat.le_refl _, by omega, rfl⟩
  case round =>
    obtain ⟨rfl, k, rfl, rfl, hk1, hk, hS⟩ := hrel
    by_cases hlt : k < s.size
    · obtain ⟨c, hc⟩ := bl_get hlt
      have hcc := bl_at hc
      have HC := Lib.hid hc
      clear hc
      go_wp2_with fail
      refine (letter_any c _).mono ?_
      rintro e w1 ⟨rfl, rfl⟩
      cases hd : isL c with
      | true =>
        have HN := Lib.hid (all_yes hS.out HC.out (by unfold okN; simp [hd]))
        clear hS HC
        go_wp2_with fail
        go_roundg (s.size - (k + 1))
        case measure => omega
        case rel => exact ⟨rfl, k + 1, by go_num, rfl, by omega, by omega, HN⟩
      | false =>
        go_wp2_with fail
        refine (digit_any c _).mono ?_
        rintro e w1 ⟨rfl, rfl⟩
        cases he : isD c with
        | true =>
          have HN := Lib.hid (all_yes hS.out HC.out (by unfold okN; simp [he]))
          clear hS HC
          go_wp2_with fail
          go_roundg (s.size - (k + 1))
          case measure => omega
          case rel => exact ⟨rfl, k + 1, by go_num, rfl, by omega, by omega, HN⟩
        | false =>
          cases h6 : (c == 46) with
          | true =>
            have c5 : ((c : Int) != 46) = false := neq_f rfl h6
            have HN := Lib.hid (all_yes hS.out HC.out (by unfold okN; simp [h6]))
            clear hS HC
            go_wp2_with fail
            go_roundg (s.size - (k + 1))
            case measure => omega
            case rel => exact ⟨rfl, k + 1, by go_num, rfl, by omega, by omega, HN⟩
          | false =>
            have c5 : ((c : Int) != 46) = true := neq_t rfl h6
            cases h9 : (c == 95) with
            | true =>
              have c6 : ((c : Int) != 95) = false := neq_f rfl h9
              have HN := Lib.hid (all_yes hS.out HC.out (by unfold okN; simp [h9]))
              clear hS HC
              go_wp2_with fail
              go_roundg (s.size - (k + 1))
              case measure => omega
              case rel => exact ⟨rfl, k + 1, by go_num, rfl, by omega, by omega, HN⟩
            | false =>
              have c6 : ((c : Int) != 95) = true := neq_t rfl h9
              have HH := Lib.hid (nameP_rest hk1 HC.out (by unfold okN; rw [hd, he, h6, h9]; rfl))
              clear h6 h9
              have HM : Hid (nameP s = false) := HH.out
              go_wp2_with fail
              go_ret
              exact ⟨by rw [HM.out]; rfl, rfl⟩
    · have HM : Hid (nameP s = true) := HALL.out (all_end hS.out (by rw [bl_len]; omega))
      go_wp2_with fail
      go_ret
      exact ⟨by rw [HM.out]; rfl, rfl⟩
end Go.Proofs.YtlcglkanlhmmdaaGreat
/- tree.split, isSeen. -/
namespace Go.Proofs.YtlcglkanlhmmdaaGreat
open Go.RowKit
theorem ret_tup3 {a b a' b' : Int} {c c' : Bool} (h1 : a = a') (h2 : b = b') (h3 : c = c') : Ending.returned (.tuple #[.int .i64 a, .int .i64 b, .bool c]) = .returned (.tuple #[.int .i64 a', .int .i64 b', .bool c']) := by rw [h1, h2, h3]
set_option maxRecDepth 100000 in
set_option maxHeartbeats 1000000 in
theorem split_any (s : ByteArray) (hs : s.size ≤ 1048576) (w : World) : Calls Tryz.prog 67 #[.string s] w fun e w' =>
    e = .returned (.tuple #[.int .i64 (cnt isL (bl s)), .int .i64 (cnt isD ((bl s).drop (cnt isL (bl s)))), .bool (decide (cnt isL (bl s) + cnt isD ((bl s).drop (cnt isL (bl s))) = s.size))]) ∧ w = w' := by
  have KL : cnt isL (bl s) ≤ s.size := by rw [← bl_len]; exact cnt_le _ _
  have KD : cnt isD ((bl s).drop (cnt isL (bl s))) ≤ s.size := by
    have := cnt_le isD ((bl s).drop (cnt isL (bl s)))
    rw [List.length_drop, bl_len] at this
    omega
  have KD' := Lib.hid KD
  clear KD
  go_enter Tryz.func67, Tryz.ntmps67
  go_upto_block 0 with fail
  go_cut [2] (fun s2 wx => w = wx ∧ s2 = .int .i64 (cnt isL (bl s)))
  case first =>
    go_wp2_with fail
    go_loop [2] (fun x => ∃ k : Nat, x = .int .i64 k ∧ k ≤ s.size ∧ Hid (cnt isL (bl s) = k + cnt isL ((bl s).drop k))) (fun x => s.size - (intOf x).toNat)
    case atStart => exact ⟨0, rfl, Nat.zero_le _, by unfold Hid; simp⟩
    case round =>
      obtain ⟨k, rfl, hk, hS⟩ := hrel
      by_cases hlt : k < s.size
      · obtain ⟨c, hc⟩ := bl_get hlt
        have hcc := bl_at hc
        have HC := Lib.hid hc
        clear hc
        go_wp2_with fail
        refine (capital_any c _).mono ?_
        rintro e w1 ⟨rfl, rfl⟩
        cases hd : isL c with
        | true =>
          have HN : Hid (cnt isL (bl s) = (k + 1) + cnt isL ((bl s).drop (k + 1))) := by
            have h1 := hS.out
            rw [cnt_yes HC.out hd] at h1
            unfold Hid
            omega
          clear hS
          go_wp2_with fail
          go_round
          case rel => exact ⟨k + 1, by go_num, by omega, HN⟩
          case measure => simp [intOf]; omega
        | false =>
          have HN : Hid (k = cnt isL (bl s)) := by
            have h1 := hS.out
            rw [cnt_no HC.out hd] at h1
            unfold Hid
            omega
          clear hS hcc HC hlt
          go_wp2_with fail
          go_meet
          exact ⟨rfl, by rw [← HN.out]⟩
      · have HN : Hid (k = cnt isL (bl s)) := by
          have h1 := hS.out
          rw [cnt_end (by rw [bl_len]; omega)] at h1
          unfold Hid
          omega
        clear hS
        go_wp2_with fail
        go_meet
        exact ⟨rfl, by rw [← HN.out]⟩
  case rest =>
  obtain ⟨rfl, rfl⟩ := hcut
  obtain ⟨K, hK⟩ : ∃ K, cnt isL (bl s) = K := ⟨_, rfl⟩
  have HK := Lib.hid hK
  rw [hK] at KL KD' ⊢
  clear hK
  go_wp2_with fail
  refine (digitsOf_any (s.extract K s.size) (by rw [ByteArray.size_extract]; omega) _).mono ?_
  rintro e w1 ⟨rfl, rfl⟩
  rw [bl_extract]
  have KD := KD'.out
  obtain ⟨D, hD⟩ : ∃ D, cnt isD ((bl s).drop K) = D := ⟨_, rfl⟩
  have HD := Lib.hid hD
  rw [hD] at KD ⊢
  clear hD
  have w1 : (K : Int) + D - K = D := by omega
  go_wp2_with fail
  go_ret3
  rw [HK.out, HD.out]
  refine ⟨ret_tup3 rfl ?_ ?_, rfl⟩
  · first | exact w1 | omega
  · rw [Bool.eq_iff_iff]
    simp
    omega
theorem eq_tr {c n : Nat} {m : Int} (hm : m = (n : Int)) (h : c = n) : ((c : Int) == m) = true := by simp [h, hm]
theorem eq_fl {c n : Nat} {m : Int} (hm : m = (n : Int)) (h : ¬ c = n) : ((c : Int) == m) = false := by simp; omega
def seenN (l : List Nat) (i : Nat) : Nat := if i = 0 then 0 else if i = 1 then seenAt 82 l 0 else seenAt 67 l (seenAt 82 l 0)
set_option maxRecDepth 100000 in
set_option maxHeartbeats 1000000 in
theorem seen_any (s : ByteArray) (hs : s.size ≤ 1048576) (w : World) : Calls Tryz.prog 68 #[.string s] w fun e w' => e = .returned (.bool (seenP (bl s))) ∧ Below w.heap.size w w' := by
  have kc := fun (w : World) (C : Array Value) (n c : Nat) => Lib.run_convert_bytes_const (P := Tryz.prog) w 106 5 C n c Tryz.underlying106 Tryz.underlying5
  have HS := Lib.hid hs
  have hsb := hs
  clear hs
  go_enter Tryz.func68, Tryz.ntmps68
  go_wp2_with fail
  clear kc
  refine abs_world ?_
  intro W1 hW1
  have hB1 : Hid (Below w.heap.size w W1) := by rw [hW1]; unfold Hid; (repeat (first | with_reducible exact Below.refl _ _ | with_reducible exact hBW | with_reducible refine Below.setCell ?_ ?_ _ | with_reducible refine Below.alloc ?_ ?_ _ | with_reducible refine belowN ?_ _ | with_reducible refine Below.drew ?_)); all_goals (first | omega | (dsimp only; omega) | ((repeat (first | with_reducible refine le_alloc ?_ | with_reducible refine le_setCell ?_ | with_reducible refine le_drew ?_ | with_reducible refine le_drewN ?_)); omega))
  have ev : W1.heap[w.heap.size]? = some (.cells #[.int .u8 82, .int .u8 67] 5 (2, 3)) := by rw [hW1]; (repeat (first | (with_reducible refine heap_alloc_at ?_ _; (first | rfl | (simp; done) | omega | (simp; omega)); done) | with_reducible refine heap_alloc_old ?_ _ | with_reducible refine heap_drew_old ?_ | with_reducible refine heap_drewN_old ?_))
  have k0 := cell_of_heap ev 0
  have k1 := cell_of_heap ev 1
  clear hW1 ev
  go_loopg [3, 9] 2 (fun g x y wx => W1 = wx ∧ ∃ i at' : Nat, x = .int .i64 at' ∧ y = .int .i64 i ∧ g = 2 - i ∧ i ≤ 2 ∧ at' ≤ s.size ∧ Hid (at' = seenN (bl s) i))
  case atStart => exact ⟨rfl, 0, 0, rfl, rfl, rfl, by omega, by omega, rfl⟩
  case round =>
    obtain ⟨rfl, i, at', rfl, rfl, rfl, hi, hat, HA⟩ := hrel
    by_cases h2 : i < 2
    · by_cases hi0 : i = 0
      · subst hi0
        have HA : Hid (seenAt 82 (bl s) at' = seenN (bl s) 1) := by unfold Hid; rw [HA.out]; rfl
        by_cases h0 : at' < s.size
        · obtain ⟨c, hc⟩ := bl_get h0
          have hcc := bl_at hc
          have HC := Lib.hid hc
          clear hc
          by_cases h1 : c = 82
          · have c5 : ((c : Int) == 82) = true := eq_tr rfl h1
            have HS1 := Lib.hid (seenAt_yes (p := 82) (by rw [HC.out, h1] : (bl s)[at']? = some 82))
            have HLE := Lib.hid (seenAt_le (p := 82) (l := bl s) (i := at') (by rw [bl_len]; omega))
            clear h1
            go_wp2_with fail
            refine (digitsOf_any (s.extract (at' + 1) s.size) (by rw [ByteArray.size_extract]; have := HS.out; omega) _).mono ?_
            rintro e w1 ⟨rfl, rfl⟩
            rw [bl_extract]
            have hle := HLE.out
            rw [HS1.out, bl_len] at hle
            have hsz := HS.out
            obtain ⟨D, hD⟩ : ∃ D, cnt isD ((bl s).drop (at' + 1)) = D := ⟨_, rfl⟩
            have HD := Lib.hid hD
            rw [hD] at hle ⊢
            clear hD
            have NX : Hid (seenN (bl s) 1 = at' + 1 + D) := by unfold Hid; rw [← HA.out, HS1.out, HD.out]
            clear HS1 HLE HD HC hcc c5
            go_wp2_with fail
            go_roundg (2 - 1)
            case measure => omega
            case rel => exact ⟨rfl, 1, at' + 1 + D, by go_num, by go_num, by omega, by omega, by omega, by unfold Hid seenN; exact NX.out.symm⟩
          · have c5 : ((c : Int) == 82) = false := eq_fl rfl h1
            have NX : Hid (seenN (bl s) 1 = at') := by unfold Hid; rw [← HA.out, seenAt_no (by rw [HC.out]; simpa using h1)]
            clear h1
            go_wp2_with fail
            go_roundg (2 - 1)
            case measure => omega
            case rel => exact ⟨rfl, 1, at', by go_num, by go_num, by omega, by omega, by omega, by unfold Hid seenN; exact NX.out.symm⟩
        · have NX : Hid (seenN (bl s) 1 = at') := by unfold Hid; rw [← HA.out, seenAt_no (by rw [List.getElem?_eq_none (by rw [bl_len]; omega)]; simp)]
          go_wp2_with fail
          go_roundg (2 - 1)
          case measure => omega
          case rel => exact ⟨rfl, 1, at', by go_num, by go_num, by omega, by omega, by omega, by unfold Hid seenN; exact NX.out.symm⟩
      · have : i = 1 := by omega
        subst this
        have HA : Hid (seenAt 67 (bl s) at' = seenN (bl s) 2) := by unfold Hid; rw [HA.out]; rfl
        by_cases h0 : at' < s.size
        · obtain ⟨c, hc⟩ := bl_get h0
          have hcc := bl_at hc
          have HC := Lib.hid hc
          clear hc
          by_cases h1 : c = 67
          · have c5 : ((c : Int) == 67) = true := eq_tr rfl h1
            have HS1 := Lib.hid (seenAt_yes (p := 67) (by rw [HC.out, h1] : (bl s)[at']? = some 67))
            have HLE := Lib.hid (seenAt_le (p := 67) (l := bl s) (i := at') (by rw [bl_len]; omega))
            clear h1
            go_wp2_with fail
            refine (digitsOf_any (s.extract (at' + 1) s.size) (by rw [ByteArray.size_extract]; have := HS.out; omega) _).mono ?_
            rintro e w1 ⟨rfl, rfl⟩
            rw [bl_extract]
            have hle := HLE.out
            rw [HS1.out, bl_len] at hle
            have hsz := HS.out
            obtain ⟨D, hD⟩ : ∃ D, cnt isD ((bl s).drop (at' + 1)) = D := ⟨_, rfl⟩
            have HD := Lib.hid hD
            rw [hD] at hle ⊢
            clear hD
            have NX : Hid (seenN (bl s) 2 = at' + 1 + D) := by unfold Hid; rw [← HA.out, HS1.out, HD.out]
            clear HS1 HLE HD HC hcc c5
            go_wp2_with fail
            go_roundg (1 - 1)
            case measure => omega
            case rel => exact ⟨rfl, 2, at' + 1 + D, by go_num, by go_num, by omega, by omega, by omega, by unfold Hid seenN; exact NX.out.symm⟩
          · have c5 : ((c : Int) == 67) = false := eq_fl rfl h1
            have NX : Hid (seenN (bl s) 2 = at') := by unfold Hid; rw [← HA.out, seenAt_no (by rw [HC.out]; simpa using h1)]
            clear h1
            go_wp2_with fail
            go_roundg (1 - 1)
            case measure => omega
            case rel => exact ⟨rfl, 2, at', by go_num, by go_num, by omega, by omega, by omega, by unfold Hid seenN; exact NX.out.symm⟩
        · have NX : Hid (seenN (bl s) 2 = at') := by unfold Hid; rw [← HA.out, seenAt_no (by rw [List.getElem?_eq_none (by rw [bl_len]; omega)]; simp)]
          go_wp2_with fail
          go_roundg (1 - 1)
          case measure => omega
          case rel => exact ⟨rfl, 2, at', by go_num, by go_num, by omega, by omega, by omega, by unfold Hid seenN; exact NX.out.symm⟩
    · have : i = 2 := by omega
      subst this
      have HF : Hid (seenP (bl s) = decide (at' = s.size)) := by unfold Hid seenP; rw [HA.out, bl_len]; rfl
      clear HA
      go_wp2_with fail
      go_ret
      refine ⟨ret_bool ?_, hB1.out⟩
      rw [HF.out, Bool.eq_iff_iff]
      simp
      omega
end Go.Proofs.YtlcglkanlhmmdaaGreat
