/- Fold; ToTruth of texts. -/
import Derived.Test.YtgbedjeiihigaaaF13Fold
namespace Go.Proofs.Ytgbedjeiihigaaa
open Go.RowKit
theorem upL_same {l : List UInt8} (h : ∀ c ∈ l, upB c = c) : upL l = l := by
  unfold upL
  induction l with
  | nil => rfl
  | cons a r ih =>
    rw [List.map_cons, h a (by simp), ih (fun c hc => h c (List.mem_cons_of_mem _ hc))]
set_option maxHeartbeats 1000000 in
set_option maxRecDepth 100000 in
theorem fold_any (s : ByteArray) (hs : s.size ≤ 255) (w : World) : Calls Try.prog 66 #[.string s] w fun e w' => e = .returned (.string ⟨(upL s.data.toList).toArray⟩) ∧ Below w.heap.size w w' := by
  have HF := Lib.hid (folded_any s hs)
  go_enter Try.func66, Try.ntmps66
  go_wp2_with fail
  go_loop [6] (fun x => ∃ i : Nat, x = .int .i64 i ∧ i ≤ s.size ∧ Hid (∀ c ∈ s.data.toList.take i, upB c = c)) (fun x => s.size - (intOf x).toNat)
  case atStart => exact ⟨0, rfl, Nat.zero_le _, fun c hc => by simp at hc⟩
  case round =>
    obtain ⟨i, rfl, hi, hS⟩ := hrel
    by_cases hlt : i < s.size
    · have hsz : s.data.toList.length = s.size := by rw [Array.length_toList]; rfl
      have hc : s.data.toList[i]? = some s[i] := by
        rw [List.getElem?_eq_getElem (by omega)]
        simp
        rfl
      have NX : Hid (upB s[i] = s[i] → ∀ c ∈ s.data.toList.take (i + 1), upB c = c) := fun hu c hm => by
        rw [List.take_add_one, hc] at hm
        rcases List.mem_append.1 hm with hm | hm
        · exact hS.out c hm
        · simp at hm; rw [hm]; exact hu
      have HLO := Lib.hid (@upB_lo s[i])
      have j1 : (0 : Int) ≤ (i : Int) := by omega
      have j2 : (i : Int) < (s.size : Int) := by omega
      clear hsz hc hS
      by_cases h1 : 97 ≤ (s[i].toNat : Int)
      · by_cases h2 : (s[i].toNat : Int) ≤ 122
        · go_wp2_with fail
          refine (HF.out _).mono ?_
          rintro e w1 ⟨rfl, f1⟩
          have F1 := Lib.hid f1
          clear f1
          go_wp2_with fail
          go_ret
          exact ⟨rfl, F1.out⟩
        · have SS := Lib.hid (NX.out (HLO.out (fun h => h2 h.2)))
          have t2 : decide ((s[i].toNat : Int) ≤ 122) = false := by simpa using h2
          clear NX HLO h2
          go_wp2_with fail
          go_round
          case rel => exact ⟨i + 1, by go_num, by omega, SS⟩
          case measure => simp [intOf]; omega
      · have SS := Lib.hid (NX.out (HLO.out (fun h => h1 h.1)))
        have t1 : decide (97 ≤ (s[i].toNat : Int)) = false := by simpa using h1
        clear NX HLO h1
        go_wp2_with fail
        go_round
        case rel => exact ⟨i + 1, by go_num, by omega, SS⟩
        case measure => simp [intOf]; omega
    · have hsz : s.data.toList.length = s.size := by rw [Array.length_toList]; rfl
      have ES : Hid (s = ⟨(upL s.data.toList).toArray⟩) := by
        have := hS.out
        rw [List.take_of_length_le (by omega)] at this
        rw [upL_same this]
        rfl
      clear hsz hS
      go_wp2_with fail
      go_ret
      refine ⟨?_, Below.refl _ _⟩
      rw [← ES.out]
      rfl
set_option maxHeartbeats 1000000 in
set_option maxRecDepth 100000 in
theorem tok_text (v : V) (hk : v.k = 2) (hs : v.t.size ≤ 255) : TOk v := fun w => by
  obtain ⟨k, m, e, t, b, f⟩ := v
  simp only at hk hs
  subst hk
  have HF := Lib.hid (fold_any t hs)
  have hT : TT ⟨2, m, e, t, b, f⟩ = (if upL t.data.toList = [84, 82, 85, 69] then (true, 0) else if upL t.data.toList = [70, 65, 76, 83, 69] then (false, 0) else (false, 2)) := rfl
  rw [hT]
  unfold vagg
  simp only
  clear hT
  generalize upL t.data.toList = U at HF ⊢
  by_cases h1 : U = [84, 82, 85, 69]
  · rw [if_pos h1]
    subst h1
    go_enter Try.func52, Try.ntmps52
    go_wp2_with fail
    refine (HF.out _).mono ?_
    rintro r w1 ⟨rfl, f1⟩
    have F1 : Hid (Below w.heap.size w w1) := by
      refine Below.trans ?_ (f1.mono (by simp))
      (repeat (first | with_reducible exact Below.refl _ _ | with_reducible exact hBW | with_reducible refine Below.setCell ?_ ?_ _ | with_reducible refine Below.alloc ?_ ?_ _ | with_reducible refine belowN ?_ _ | with_reducible refine Below.drew ?_)); all_goals (first | omega | (dsimp only; omega) | ((repeat (first | with_reducible refine le_alloc ?_ | with_reducible refine le_setCell ?_ | with_reducible refine le_drew ?_ | with_reducible refine le_drewN ?_)); omega))
    clear f1
    go_wp2_with fail
    go_ret2
    exact ⟨rfl, F1.out⟩
  by_cases h2 : U = [70, 65, 76, 83, 69]
  · rw [if_neg h1, if_pos h2]
    subst h2
    clear h1
    go_enter Try.func52, Try.ntmps52
    go_wp2_with fail
    refine (HF.out _).mono ?_
    rintro r w1 ⟨rfl, f1⟩
    have F1 : Hid (Below w.heap.size w w1) := by
      refine Below.trans ?_ (f1.mono (by simp))
      (repeat (first | with_reducible exact Below.refl _ _ | with_reducible exact hBW | with_reducible refine Below.setCell ?_ ?_ _ | with_reducible refine Below.alloc ?_ ?_ _ | with_reducible refine belowN ?_ _ | with_reducible refine Below.drew ?_)); all_goals (first | omega | (dsimp only; omega) | ((repeat (first | with_reducible refine le_alloc ?_ | with_reducible refine le_setCell ?_ | with_reducible refine le_drew ?_ | with_reducible refine le_drewN ?_)); omega))
    clear f1
    go_wp2_with fail
    go_ret2
    exact ⟨rfl, F1.out⟩
  · rw [if_neg h1, if_neg h2]
    have e : ByteArray.toList ⟨U.toArray⟩ = U := by rw [ByteArray.toList_eq]
    have n1 : (ByteArray.toList ⟨U.toArray⟩ == [84, 82, 85, 69]) = false := by rw [e]; simpa using h1
    have n2 : (ByteArray.toList ⟨U.toArray⟩ == [70, 65, 76, 83, 69]) = false := by rw [e]; simpa using h2
    have n3 : ¬ ByteArray.toList ⟨U.toArray⟩ = [84, 82, 85, 69] := by rw [e]; exact h1
    have n4 : ¬ ByteArray.toList ⟨U.toArray⟩ = [70, 65, 76, 83, 69] := by rw [e]; exact h2
    clear e h1 h2
    generalize (⟨U.toArray⟩ : ByteArray) = T at HF n1 n2 n3 n4
    go_enter Try.func52, Try.ntmps52
    go_wp2_with fail
    refine (HF.out _).mono ?_
    rintro r w1 ⟨rfl, f1⟩
    have F1 : Hid (Below w.heap.size w w1) := by
      refine Below.trans ?_ (f1.mono (by simp))
      (repeat (first | with_reducible exact Below.refl _ _ | with_reducible exact hBW | with_reducible refine Below.setCell ?_ ?_ _ | with_reducible refine Below.alloc ?_ ?_ _ | with_reducible refine belowN ?_ _ | with_reducible refine Below.drew ?_)); all_goals (first | omega | (dsimp only; omega) | ((repeat (first | with_reducible refine le_alloc ?_ | with_reducible refine le_setCell ?_ | with_reducible refine le_drew ?_ | with_reducible refine le_drewN ?_)); omega))
    clear f1
    go_wp2_with fail
    go_ret2
    exact ⟨rfl, F1.out⟩
end Go.Proofs.Ytgbedjeiihigaaa
