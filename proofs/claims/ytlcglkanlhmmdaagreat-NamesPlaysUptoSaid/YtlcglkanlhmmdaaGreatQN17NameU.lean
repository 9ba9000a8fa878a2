/- tree.isCall, isName. -/
import Derived.Test.YtlcglkanlhmmdaaGreatQN17NameR
namespace Go.Proofs.YtlcglkanlhmmdaaGreat
open Go.RowKit
theorem empty_eq (s : ByteArray) : s.toList.isEmpty = decide (s.size = 0) := by
  rw [ByteArray.toList_eq, Bool.eq_iff_iff, List.isEmpty_iff_length_eq_zero, Array.length_toList]
  simp only [decide_eq_true_eq]
  rfl
theorem below_bytes (w : World) (e : TypeId) (s : ByteArray) : Below w.heap.size w (Lib.bytesWorld w e s) :=
  ⟨rfl, rfl, rfl, by rw [Lib.bytesWorld_size]; omega, fun k hk => Lib.bytesWorld_at_old w e s k hk⟩
theorem bytes_cell {w : World} {e : TypeId} {s : ByteArray} {k c : Nat} (h : (bl s)[k]? = some c) : (Lib.bytesWorld w e s).cell? ⟨w.heap.size, k, none⟩ = some (.int .u8 c) := by
  have hk : k < s.size := by rw [← bl_len]; exact (List.getElem?_eq_some_iff.1 h).1
  rw [Lib.bytesWorld_cell w e s k hk]
  unfold bl at h
  rw [List.getElem?_map] at h
  obtain ⟨a, ha, rfl⟩ := Option.map_eq_some_iff.1 h
  rw [List.getD_eq_getElem?_getD, ha]
  rfl
theorem cnt_whole {l : List Nat} : cnt isL l + cnt isD (l.drop (cnt isL l)) = l.length ↔ (l.drop (cnt isL l)).all isD = true := by
  rw [← cnt_all, List.length_drop]
  have := cnt_le isL l
  omega
theorem mark_split (l : List Nat) (K D : Nat) (hK : cnt isL l = K) (hD : cnt isD (l.drop K) = D) :
    markP l = (decide (K + D = l.length) && decide (K ≤ 3) && decide (1 ≤ D) && decide (D ≤ 7) && decide (l[K]? ≠ some 48)) := by
  subst hK
  subst hD
  have h1 := @cnt_whole l
  have h2 := cnt_le isL l
  have h3 := cnt_le isD (l.drop (cnt isL l))
  rw [List.length_drop] at h3
  unfold markP
  rw [Bool.eq_iff_iff]
  simp only [Bool.and_eq_true, decide_eq_true_eq]
  constructor
  · rintro ⟨⟨a, b, c, d⟩, e⟩
    have := h1.2 e
    exact ⟨⟨⟨⟨this, a⟩, by omega⟩, by omega⟩, d⟩
  · rintro ⟨⟨⟨⟨a, b⟩, c⟩, d⟩, e⟩
    exact ⟨⟨b, by omega, by omega, e⟩, h1.1 a⟩
theorem like_split (l : List Nat) (K D : Nat) (hK : cnt isL l = K) (hD : cnt isD (l.drop K) = D) :
    likeP l = (decide (K + D = l.length) && decide (1 ≤ K) && decide (K ≤ 3) && decide (1 ≤ D)) := by
  subst hK
  subst hD
  have h1 := @cnt_whole l
  have h2 := cnt_le isL l
  have h3 := cnt_le isD (l.drop (cnt isL l))
  rw [List.length_drop] at h3
  unfold likeP
  rw [Bool.eq_iff_iff]
  simp only [Bool.and_eq_true, decide_eq_true_eq]
  constructor
  · rintro ⟨⟨a, b, c⟩, e⟩
    have := h1.2 e
    exact ⟨⟨⟨this, a⟩, b⟩, by omega⟩
  · rintro ⟨⟨⟨a, b⟩, c⟩, d⟩
    exact ⟨⟨b, c, by omega⟩, h1.1 a⟩
theorem all0_yes {p : Nat → Bool} {l : List Nat} {k c : Nat} (hS : l.all p = (l.drop k).all p) (h : l[k]? = some c) (hp : p c = true) : l.all p = (l.drop (k + 1)).all p := by
  rw [hS, List.drop_eq_getElem?_toList_append, h]
  simp [hp]
theorem all0_end {p : Nat → Bool} {l : List Nat} {k : Nat} (hS : l.all p = (l.drop k).all p) (h : l.length ≤ k) : l.all p = true := by
  rw [hS, List.drop_of_length_le h]; rfl
theorem all_drop1 {p : Nat → Bool} {l : List Nat} (h : l.all p = true) : (l.drop 1).all p = true := by
  rw [List.all_eq_true] at h ⊢
  exact fun x hx => h x (List.mem_of_mem_drop hx)
theorem callP_any {l : List Nat} {c d k : Nat} (h0 : l[0]? = some d) (hd : isL d = true) (h : l[k]? = some c) (hc : (isL c || isD c || c == 46) = false) : callP l = false := by
  by_cases hk : 1 ≤ k
  · exact callP_rest hk h hc
  · have : k = 0 := by omega
    subst this
    rw [h0] at h
    cases h
    rw [hd] at hc
    simp at hc
set_option maxRecDepth 100000 in
set_option maxHeartbeats 1000000 in
theorem isCall_any (s : ByteArray) (hs : s.size ≤ 1048576) (w : World) : Calls Tryz.prog 54 #[.string s] w fun e w' => e = .returned (.bool (callP (bl s))) ∧ Below w.heap.size w w' := by
  have kc := fun (w : World) => Lib.run_convert_string_bytes (P := Tryz.prog) w 9 106 5 s Tryz.underlying9 Tryz.underlying106 Tryz.underlying5
  have HS := Lib.hid hs
  clear hs
  have h0 := empty_eq s
  go_enter Tryz.func54, Tryz.ntmps54
  by_cases h1 : s.size = 0
  · rw [decide_eq_true h1] at h0
    have HL := Lib.hid (callP_len (l := bl s) (by rw [bl_len]; omega))
    have HM : Hid (callP (bl s) = false) := HL.out
    go_wp2_with fail
    go_ret
    exact ⟨by rw [HM.out]; rfl, Below.refl _ _⟩
  rw [decide_eq_false h1] at h0
  by_cases h2 : 32 < s.size
  · have HL := Lib.hid (callP_len (l := bl s) (by rw [bl_len]; omega))
    have HM : Hid (callP (bl s) = false) := HL.out
    go_wp2_with fail
    go_ret
    exact ⟨by rw [HM.out]; rfl, Below.refl _ _⟩
  obtain ⟨c, hc⟩ := bl_get (s := s) (k := 0) (by omega)
  have hcc := bl_at hc
  have HC := Lib.hid hc
  clear hc
  go_wp2_with fail
  refine (capital_any c _).mono ?_
  rintro e w1 ⟨rfl, rfl⟩
  cases hd : isL c with
  | false =>
    have HL := Lib.hid (callP_first HC.out hd)
    have HM : Hid (callP (bl s) = false) := HL.out
    go_wp2_with fail
    go_ret
    exact ⟨by rw [HM.out]; rfl, Below.refl _ _⟩
  | true =>
  have HC0 := HC
  clear HC hcc h0
  have HL0 := Lib.hid hd
  clear hd
  go_upto_block 0 with fail
  clear kc
  refine abs_world ?_
  intro W1 hW1
  have hB1 : Hid (Below w.heap.size w W1) := by rw [hW1]; exact below_bytes w 5 s
  have CL : Hid (∀ k c : Nat, (bl s)[k]? = some c → W1.cell? ⟨w.heap.size, k, none⟩ = some (.int .u8 c)) := by rw [hW1]; exact fun k c h => bytes_cell h
  clear hW1
  go_cut [] (fun wx => W1 = wx ∧ Hid ((bl s).all (fun c => isL c || isD c || c == 46) = true))
  case first =>
    go_wp2_with fail
    go_loopg [24] s.size (fun g x wx => W1 = wx ∧ ∃ k : Nat, x = .int .i64 k ∧ g = s.size - k ∧ k ≤ s.size ∧ Hid ((bl s).all (fun c => isL c || isD c || c == 46) = ((bl s).drop k).all (fun c => isL c || isD c || c == 46)))
    case atStart => exact ⟨rfl, 0, rfl, rfl, by omega, rfl⟩
    case round =>
      obtain ⟨rfl, k, rfl, rfl, hk, hS⟩ := hrel
      by_cases hlt : k < s.size
      · obtain ⟨c, hc⟩ := bl_get hlt
        have hcl := CL.out k c hc
        have HC := Lib.hid hc
        clear hc
        go_wp2_with fail
        refine (capital_any c _).mono ?_
        rintro e w1 ⟨rfl, rfl⟩
        cases hd : isL c with
        | true =>
          have HN := Lib.hid (all0_yes hS.out HC.out (by simp [hd]))
          clear hS HC
          go_wp2_with fail
          go_roundg (s.size - (k + 1))
          case measure => omega
          case rel => exact ⟨rfl, k + 1, by go_num, rfl, by omega, HN⟩
        | false =>
          go_wp2_with fail
          refine (isDigit_any c _).mono ?_
          rintro e w1 ⟨rfl, rfl⟩
          cases he : isD c with
          | true =>
            have HN := Lib.hid (all0_yes hS.out HC.out (by simp [he]))
            clear hS HC
            go_wp2_with fail
            go_roundg (s.size - (k + 1))
            case measure => omega
            case rel => exact ⟨rfl, k + 1, by go_num, rfl, by omega, HN⟩
          | false =>
            cases h6 : (c == 46) with
            | true =>
              have c5 : ((c : Int) != 46) = false := neq_f rfl h6
              have HN := Lib.hid (all0_yes hS.out HC.out (by simp [h6]))
              clear hS HC
              go_wp2_with fail
              go_roundg (s.size - (k + 1))
              case measure => omega
              case rel => exact ⟨rfl, k + 1, by go_num, rfl, by omega, HN⟩
            | false =>
              have c5 : ((c : Int) != 46) = true := neq_t rfl h6
              have HH := Lib.hid (callP_any HC0.out HL0.out HC.out (by rw [hd, he, h6]; rfl))
              clear h6
              have HM : Hid (callP (bl s) = false) := HH.out
              go_wp2_with fail
              go_ret
              exact ⟨by rw [HM.out]; rfl, hB1.out⟩
      · have HM := Lib.hid (all0_end hS.out (by rw [bl_len]; omega))
        clear hS
        go_wp2_with fail
        go_meet
        exact ⟨rfl, HM⟩
  case rest =>
  obtain ⟨rfl, HA⟩ := hcut
  have HALL := Lib.hid (callP_all (l := bl s) (by rw [bl_len]; omega) HC0.out HL0.out (all_drop1 HA.out))
  clear HC0 HL0 HA CL
  go_wp2_with fail
  refine (split_any s HS.out _).mono ?_
  rintro e w1 ⟨rfl, rfl⟩
  have KL : cnt isL (bl s) ≤ s.size := by rw [← bl_len]; exact cnt_le _ _
  have HMK := Lib.hid (mark_split (bl s) _ _ rfl rfl)
  rw [bl_len] at HMK
  obtain ⟨K, hK⟩ : ∃ K, cnt isL (bl s) = K := ⟨_, rfl⟩
  rw [hK] at HMK KL ⊢
  clear hK
  have KD : cnt isD ((bl s).drop K) ≤ s.size := by
    have := cnt_le isD ((bl s).drop K)
    rw [List.length_drop, bl_len] at this
    omega
  obtain ⟨D, hD⟩ : ∃ D, cnt isD ((bl s).drop K) = D := ⟨_, rfl⟩
  rw [hD] at HMK KD ⊢
  clear hD
  by_cases c1 : K + D = s.size
  case neg =>
    rw [decide_eq_false c1] at HMK ⊢
    have HM : Hid (callP (bl s) = !false) := by unfold Hid; rw [HALL.out, HMK.out]; simp []
    go_wp2_with fail
    go_ret
    exact ⟨by rw [HM.out]; rfl, hB1.out⟩
  rw [decide_eq_true c1] at HMK ⊢
  by_cases c2 : K ≤ 3
  case neg =>
    have HM : Hid (callP (bl s) = !false) := by unfold Hid; rw [HALL.out, HMK.out]; simp [c2]
    go_wp2_with fail
    go_ret
    exact ⟨by rw [HM.out]; rfl, hB1.out⟩
  by_cases c3 : 1 ≤ D
  case neg =>
    have HM : Hid (callP (bl s) = !false) := by unfold Hid; rw [HALL.out, HMK.out]; simp [c3]
    go_wp2_with fail
    go_ret
    exact ⟨by rw [HM.out]; rfl, hB1.out⟩
  by_cases c4 : D ≤ 7
  case neg =>
    have HM : Hid (callP (bl s) = !false) := by unfold Hid; rw [HALL.out, HMK.out]; simp [c4]
    go_wp2_with fail
    go_ret
    exact ⟨by rw [HM.out]; rfl, hB1.out⟩
  obtain ⟨c, hc⟩ := bl_get (s := s) (k := K) (by omega)
  have hcc := bl_at hc
  rw [hc] at HMK
  clear hc
  by_cases c5 : c = 48
  · have c6 : ((c : Int) != 48) = false := by simp; omega
    have HM : Hid (callP (bl s) = !false) := by unfold Hid; rw [HALL.out, HMK.out]; simp [c5]
    go_wp2_with fail
    go_ret
    exact ⟨by rw [HM.out]; rfl, hB1.out⟩
  · have c6 : ((c : Int) != 48) = true := by simp; omega
    have HM : Hid (callP (bl s) = !true) := by unfold Hid; rw [HALL.out, HMK.out]; simp [c2, c3, c4, c5]
    go_wp2_with fail
    go_ret
    exact ⟨by rw [HM.out]; rfl, hB1.out⟩
end Go.Proofs.YtlcglkanlhmmdaaGreat
/- tree.isName. -/
namespace Go.Proofs.YtlcglkanlhmmdaaGreat
open Go.RowKit
theorem nameP_any {s : ByteArray} {c d k : Nat} (h0 : (bl s)[0]? = some d) (hd : okF d = true) (h : (bl s)[k]? = some c) (hc : okN c = false) : nameP s = false := by
  by_cases hk : 1 ≤ k
  · exact nameP_rest hk h hc
  · have : k = 0 := by omega
    subst this
    rw [h0] at h
    cases h
    rw [okF_N hd] at hc
    cases hc
set_option maxRecDepth 100000 in
set_option maxHeartbeats 1000000 in
theorem isName_any (s : ByteArray) (hs : s.size ≤ 1048576) (w : World) : Calls Tryz.prog 57 #[.string s] w fun e w' => e = .returned (.bool (nameP s)) ∧ Below w.heap.size w w' := by
  have kc := fun (w : World) => Lib.run_convert_string_bytes (P := Tryz.prog) w 9 106 5 s Tryz.underlying9 Tryz.underlying106 Tryz.underlying5
  have HS := Lib.hid hs
  clear hs
  have h0 := empty_eq s
  go_enter Tryz.func57, Tryz.ntmps57
  by_cases h1 : s.size = 0
  · rw [decide_eq_true h1] at h0
    have HL := Lib.hid (nameP_len (s := s) (by omega))
    have HM : Hid (nameP s = false) := HL.out
    go_wp2_with fail
    go_ret
    exact ⟨by rw [HM.out]; rfl, Below.refl _ _⟩
  rw [decide_eq_false h1] at h0
  by_cases h2 : 32 < s.size
  · have HL := Lib.hid (nameP_len (s := s) (by omega))
    have HM : Hid (nameP s = false) := HL.out
    go_wp2_with fail
    go_ret
    exact ⟨by rw [HM.out]; rfl, Below.refl _ _⟩
  have d2 : decide ((32 : Int) < (s.size : Int)) = false := by simp; omega
  obtain ⟨c, hc⟩ := bl_get (s := s) (k := 0) (by omega)
  have hcc := bl_at hc
  have HC := Lib.hid hc
  clear hc
  go_upto_region 1 with fail
  go_cut [25] (fun s25 wx => w = wx ∧ s25 = .bool (!okF c))
  case first =>
    go_wp2_with fail
    refine (capital_any c _).mono ?_
    rintro e w1 ⟨rfl, rfl⟩
    cases hd : isL c with
    | true =>
      have HF : Hid (okF c = true) := by unfold Hid okF; rw [hd]; rfl
      go_wp2_with fail
      go_meet
      exact ⟨rfl, by rw [HF.out]; rfl⟩
    | false =>
      cases h9 : (c == 95) with
      | false =>
        have c5 : ((c : Int) != 95) = true := neq_t rfl h9
        have HF : Hid (okF c = false) := by unfold Hid okF; rw [hd, h9]; rfl
        clear h9
        go_wp2_with fail
        go_meet
        exact ⟨rfl, by rw [HF.out]; first | rfl | simp [c5]⟩
      | true =>
        have c5 : ((c : Int) != 95) = false := neq_f rfl h9
        have HF : Hid (okF c = true) := by unfold Hid okF; rw [hd, h9]; rfl
        clear h9
        go_wp2_with fail
        go_meet
        exact ⟨rfl, by rw [HF.out]; first | rfl | simp [c5]⟩
  case rest =>
  obtain ⟨rfl, rfl⟩ := hcut
  clear h0 hcc d2
  cases hF : okF c with
  | false =>
    have HL := Lib.hid (nameP_first HC.out hF)
    have HM : Hid (nameP s = false) := HL.out
    go_wp2_with fail
    go_ret
    exact ⟨by rw [HM.out]; rfl, Below.refl _ _⟩
  | true =>
  have HC0 := HC
  have HL0 := Lib.hid hF
  clear HC hF
  go_upto_block 0 with fail
  clear kc
  refine abs_world ?_
  intro W1 hW1
  have hB1 : Hid (Below w.heap.size w W1) := by rw [hW1]; exact below_bytes w 5 s
  have CL : Hid (∀ k c : Nat, (bl s)[k]? = some c → W1.cell? ⟨w.heap.size, k, none⟩ = some (.int .u8 c)) := by rw [hW1]; exact fun k c h => bytes_cell h
  clear hW1
  go_cut [] (fun wx => W1 = wx ∧ Hid ((bl s).all okN = true))
  case first =>
    go_wp2_with fail
    go_loopg [29] s.size (fun g x wx => W1 = wx ∧ ∃ k : Nat, x = .int .i64 k ∧ g = s.size - k ∧ k ≤ s.size ∧ Hid ((bl s).all okN = ((bl s).drop k).all okN))
    case atStart => exact ⟨rfl, 0, rfl, rfl, by omega, rfl⟩
    case round =>
      obtain ⟨rfl, k, rfl, rfl, hk, hS⟩ := hrel
      by_cases hlt : k < s.size
      · obtain ⟨c, hc⟩ := bl_get hlt
        have hcl := CL.out k c hc
        have HC := Lib.hid hc
        clear hc
        go_wp2_with fail
        refine (capital_any c _).mono ?_
        rintro e w1 ⟨rfl, rfl⟩
        cases hd : isL c with
        | true =>
          have HN := Lib.hid (all0_yes hS.out HC.out (by unfold okN; simp [hd]))
          clear hS HC
          go_wp2_with fail
          go_roundg (s.size - (k + 1))
          case measure => omega
          case rel => exact ⟨rfl, k + 1, by go_num, rfl, by omega, HN⟩
        | false =>
          go_wp2_with fail
          refine (isDigit_any c _).mono ?_
          rintro e w1 ⟨rfl, rfl⟩
          cases he : isD c with
          | true =>
            have HN := Lib.hid (all0_yes hS.out HC.out (by unfold okN; simp [he]))
            clear hS HC
            go_wp2_with fail
            go_roundg (s.size - (k + 1))
            case measure => omega
            case rel => exact ⟨rfl, k + 1, by go_num, rfl, by omega, HN⟩
          | false =>
            cases h6 : (c == 46) with
            | true =>
              have c5 : ((c : Int) != 46) = false := neq_f rfl h6
              have c6 : ((c : Int) != 95) = true := neq_t rfl (show (c == 95) = false by rw [show c = 46 by simpa using h6]; rfl)
              have HN := Lib.hid (all0_yes hS.out HC.out (by unfold okN; simp [h6]))
              clear hS HC
              go_wp2_with fail
              go_roundg (s.size - (k + 1))
              case measure => omega
              case rel => exact ⟨rfl, k + 1, by go_num, rfl, by omega, HN⟩
            | false =>
              have c5 : ((c : Int) != 46) = true := neq_t rfl h6
              cases h9 : (c == 95) with
              | true =>
                have c6 : ((c : Int) != 95) = false := neq_f rfl h9
                have HN := Lib.hid (all0_yes hS.out HC.out (by unfold okN; simp [h9]))
                clear hS HC
                go_wp2_with fail
                go_roundg (s.size - (k + 1))
                case measure => omega
                case rel => exact ⟨rfl, k + 1, by go_num, rfl, by omega, HN⟩
              | false =>
                have c6 : ((c : Int) != 95) = true := neq_t rfl h9
                have HH := Lib.hid (nameP_any HC0.out HL0.out HC.out (by unfold okN; rw [hd, he, h6, h9]; rfl))
                clear h6 h9
                have HM : Hid (nameP s = false) := HH.out
                go_wp2_with fail
                go_ret
                exact ⟨by rw [HM.out]; rfl, hB1.out⟩
      · have HM := Lib.hid (all0_end hS.out (by rw [bl_len]; omega))
        clear hS
        go_wp2_with fail
        go_meet
        exact ⟨rfl, HM⟩
  case rest =>
  obtain ⟨rfl, HA⟩ := hcut
  have HALL := Lib.hid (fun ht hf => nameP_all (s := s) (by omega) HC0.out HL0.out ht hf (all_drop1 HA.out))
  clear HC0 HL0 HA CL
  cases ht : (s.toList == [84, 82, 85, 69]) with
  | true =>
    have HL := Lib.hid (nameP_true ht)
    have HM : Hid (nameP s = false) := HL.out
    go_wp2_with fail
    go_ret
    exact ⟨by rw [HM.out]; rfl, hB1.out⟩
  | false =>
  cases hf : (s.toList == [70, 65, 76, 83, 69]) with
  | true =>
    have HL := Lib.hid (nameP_false hf)
    have HM : Hid (nameP s = false) := HL.out
    go_wp2_with fail
    go_ret
    exact ⟨by rw [HM.out]; rfl, hB1.out⟩
  | false =>
  have HALL := Lib.hid (HALL.out ht hf)
  go_wp2_with fail
  refine (seen_any s HS.out _).mono ?_
  rintro e w1 ⟨rfl, hb2⟩
  have HB2 : Hid (Below w.heap.size w w1) := hB1.out.trans (hb2.mono hB1.out.size)
  clear hb2 hB1 ht hf
  cases hsn : seenP (bl s) with
  | true =>
    have HL := Lib.hid (nameP_addr (s := s) (by unfold addrP; rw [hsn, Bool.or_true]))
    have HM : Hid (nameP s = false) := HL.out
    go_wp2_with fail
    go_ret
    exact ⟨by rw [HM.out]; rfl, HB2.out⟩
  | false =>
  have HALL : Hid (nameP s = !likeP (bl s)) := by unfold Hid; rw [HALL.out]; unfold addrP; rw [hsn, Bool.or_false]
  go_wp2_with fail
  refine (split_any s HS.out _).mono ?_
  rintro e w2 ⟨rfl, rfl⟩
  have KL : cnt isL (bl s) ≤ s.size := by rw [← bl_len]; exact cnt_le _ _
  have HMK := Lib.hid (like_split (bl s) _ _ rfl rfl)
  rw [bl_len] at HMK
  obtain ⟨K, hK⟩ : ∃ K, cnt isL (bl s) = K := ⟨_, rfl⟩
  rw [hK] at HMK KL ⊢
  clear hK
  have KD : cnt isD ((bl s).drop K) ≤ s.size := by
    have := cnt_le isD ((bl s).drop K)
    rw [List.length_drop, bl_len] at this
    omega
  obtain ⟨D, hD⟩ : ∃ D, cnt isD ((bl s).drop K) = D := ⟨_, rfl⟩
  rw [hD] at HMK KD ⊢
  clear hD
  by_cases c1 : K + D = s.size
  case neg =>
    rw [decide_eq_false c1] at HMK ⊢
    have HM : Hid (nameP s = !false) := by unfold Hid; rw [HALL.out, HMK.out]; simp []
    go_wp2_with fail
    go_ret
    exact ⟨by rw [HM.out]; rfl, HB2.out⟩
  rw [decide_eq_true c1] at HMK ⊢
  by_cases c2 : 1 ≤ K
  case neg =>
    have HM : Hid (nameP s = !false) := by unfold Hid; rw [HALL.out, HMK.out]; simp [c2]
    go_wp2_with fail
    go_ret
    exact ⟨by rw [HM.out]; rfl, HB2.out⟩
  by_cases c3 : K ≤ 3
  case neg =>
    have HM : Hid (nameP s = !false) := by unfold Hid; rw [HALL.out, HMK.out]; simp [c3]
    go_wp2_with fail
    go_ret
    exact ⟨by rw [HM.out]; rfl, HB2.out⟩
  by_cases c4 : 1 ≤ D
  case neg =>
    have d4 : decide ((1 : Int) ≤ (D : Int)) = false := by simp; omega
    have HM : Hid (nameP s = !false) := by unfold Hid; rw [HALL.out, HMK.out]; simp [c4]
    go_wp2_with fail
    go_ret
    exact ⟨by rw [HM.out]; rfl, HB2.out⟩
  have d4 : decide ((1 : Int) ≤ (D : Int)) = true := by simp; omega
  have HM : Hid (nameP s = !true) := by unfold Hid; rw [HALL.out, HMK.out]; simp [c2, c3, c4]
  go_wp2_with fail
  go_ret
  exact ⟨by rw [HM.out]; rfl, HB2.out⟩
end Go.Proofs.YtlcglkanlhmmdaaGreat
