/- Cycle: ref.far, ref.Round. -/
import Derived.Test.YtcjohhminiedfaaQC21P
import Derived.Test.YtcjohhminiedfaaQC21Build
namespace Go.Proofs.Ytcjohhminiedfaa
open Go.RowKit
theorem farF_set {far : List Int} {i : Nat} {v : Int} (hi : i < far.length) : farF (far.set i v) i = v := farF_at (List.getElem?_set_self hi)
theorem farF_other {far : List Int} {i y : Nat} {v : Int} (hy : y ≠ i) : farF (far.set i v) y = farF far y := by
  unfold farF
  rw [List.getD_eq_getElem?_getD, List.getElem?_set_ne (Ne.symm hy), List.getD_eq_getElem?_getD]
set_option maxHeartbeats 4000000 in
set_option maxRecDepth 100000 in
theorem rfar_any {w : World} {a : Option Addr} {n cap x : Nat} {A : Nat → Nat → Bool} (hn : n ≤ 10000) (hx : x < n) (hM : MxA w a n A) :
    Calls Try.prog 28 #[.agg #[.slice a n cap], .int .i64 (x : Int)] w fun e w' => ∃ (bf : Nat) (far : List Int), e = .returned (.slice (some ⟨bf, 0, none⟩) n n) ∧ w.heap.size ≤ bf ∧ FarM w' bf far ∧ far.length = n ∧ Dist n A x (farF far) ∧ Below w.heap.size w w' := by
  have HMX := Lib.hid hM
  obtain ⟨K, hK⟩ : ∃ K, w.heap.size = K := ⟨_, rfl⟩
  have HK := Lib.hid hK
  have MK := mk3 n (by omega)
  clear hM hK
  go_enter Try.func28, Try.ntmps28
  go_upto_region 2 with fail
  refine abs_world ?_
  intro W1 hW1
  have HC1 : Hid (W1.heap[K]? = some (.cells #[.slice a n cap] 27)) := by
    rw [hW1, ← HK.out]
    exact heap_alloc_old (heap_alloc_new w _) _
  have HF1 : Hid (FarM W1 (K + 1) (fillL n 0)) := by
    unfold Hid FarM
    rw [hW1, fillL_zero, List.map_replicate, ← List.toArray_replicate]
    exact heap_alloc_at (by simp; exact HK.out.symm) _
  have HB1 : Hid (Below K w W1) := by
    rw [hW1]
    rw [← HK.out]
    exact (below_alloc w _ _ (Nat.le_refl _)).alloc (by simp) _
  rw [HK.out]
  clear hW1 MK
  go_wp2_with fail
  go_loopg [6] n (fun g i wr => ∃ (k : Nat), i = .int .i64 k ∧ g = n - k ∧ k ≤ n ∧ Hid (FarM wr (K + 1) (fillL n k)) ∧ Hid (wr.heap[K]? = some (.cells #[.slice a n cap] 27)) ∧ Hid (Below K w wr))
  case atStart => exact ⟨0, rfl, rfl, Nat.zero_le _, HF1, HC1, HB1⟩
  case round =>
    clear HF1 HC1 HB1
    obtain ⟨k, rfl, rfl, hk, hF, hC, hB⟩ := hrel
    by_cases hlt : k < n
    · have c1 := hF.out.at (fillL_at hlt hk)
      have y1 := frozen_of_heap hF.out k
      have z1 := lt_of_heap hF.out
      have j1 : (0 : Int) ≤ (k : Int) := by omega
      have j2 : (k : Int) < (n : Int) := by omega
      have HF3 : Hid (FarM (wr.setCell ⟨K + 1, k, none⟩ (.int .i64 (-1))) (K + 1) (fillL n (k + 1))) := by
        rw [← fillL_succ hlt]
        exact hF.out.put k (-1)
      have HC3 : Hid ((wr.setCell ⟨K + 1, k, none⟩ (.int .i64 (-1))).heap[K]? = some (.cells #[.slice a n cap] 27)) := (set_other K (by simp)).trans hC.out
      have HB3 : Hid (Below K w (wr.setCell ⟨K + 1, k, none⟩ (.int .i64 (-1)))) := hB.out.setCell (p := ⟨K + 1, k, none⟩) (Nat.le_succ K) _
      clear hF hB hC
      go_wp2_with fail
      clear c1 y1 z1
      go_roundg (n - (k + 1))
      case measure => omega
      case rel => exact ⟨k + 1, by go_num, rfl, by omega, HF3, HC3, HB3⟩
    · have hkn : k = n := by omega
      rw [hkn, fillL_all] at hF
      have c1 := hF.out.at (y := x) (v := -1) (by rw [List.getElem?_replicate, if_pos hx])
      have y1 := frozen_of_heap hF.out x
      have z1 := lt_of_heap hF.out
      have j1 : (0 : Int) ≤ (x : Int) := by omega
      have j2 : (x : Int) < (n : Int) := by omega
      have HF4 : Hid (FarM (wr.setCell ⟨K + 1, x, none⟩ (.int .i64 0)) (K + 1) ((List.replicate n (-1)).set x 0)) := hF.out.put x 0
      have HC4 : Hid ((wr.setCell ⟨K + 1, x, none⟩ (.int .i64 0)).heap[K]? = some (.cells #[.slice a n cap] 27)) := (set_other K (by simp)).trans hC.out
      have HB4 : Hid (Below K w (wr.setCell ⟨K + 1, x, none⟩ (.int .i64 0))) := hB.out.setCell (p := ⟨K + 1, x, none⟩) (Nat.le_succ K) _
      have HL4 : Hid (((List.replicate n (-1 : Int)).set x 0).length = n) := by unfold Hid; simp
      have HJ4 : Hid (FarJ n A x 0 0 0 (farF ((List.replicate n (-1 : Int)).set x 0)) ∧ ∀ y, y < n → (farF ((List.replicate n (-1 : Int)).set x 0)) y ≤ ((0 : Nat) : Int)) := by
        have h0 : (farF ((List.replicate n (-1 : Int)).set x 0)) x = 0 := farF_set (by simpa using hx)
        have h1 : ∀ y, y < n → y ≠ x → (farF ((List.replicate n (-1 : Int)).set x 0)) y = -1 := fun y hy hyx => by
          rw [farF_other hyx]
          exact farF_at (by rw [List.getElem?_replicate, if_pos hy])
        refine ⟨FarJ.start h0 h1, fun y hy => ?_⟩
        by_cases e : y = x
        · rw [e, h0]; exact Int.le_refl _
        · rw [h1 y hy e]; decide
      clear hF hB hC hkn
      go_wp2_with fail
      clear c1 y1 z1 j1 j2
      go_loopg [7] n (fun g s7 wr => ∃ (N : Nat) (far : List Int), s7 = .int .i64 (N : Int) ∧ g = n - N ∧ N ≤ n ∧ Hid (far.length = n) ∧ Hid (FarJ n A x N 0 0 (farF far) ∧ ∀ y, y < n → (farF far) y ≤ (N : Int)) ∧ Hid (FarM wr (K + 1) far) ∧ Hid (wr.heap[K]? = some (.cells #[.slice a n cap] 27) ∧ Below K w wr))
      case atStart => exact ⟨0, _, rfl, rfl, Nat.zero_le _, HL4, HJ4, HF4, HC4.out, HB4.out⟩
      case round =>
        clear HF4 HB4 HC4 HL4 HJ4
        obtain ⟨N, far, rfl, rfl, hN, hL, hJ, hF, hB⟩ := hrel
        have m1 := cell_of_heap hB.out.1 0
        have m2 := lt_of_heap hB.out.1
        by_cases hlt : N < n
        · have HJ := Lib.hid hJ.out.1
          go_wp2_with fail
          clear m1 m2
          go_loopg [8] n (fun g s8 wr => ∃ (i : Nat) (far : List Int), s8 = .int .i64 (i : Int) ∧ g = n - i ∧ i ≤ n ∧ Hid (far.length = n) ∧ Hid (FarJ n A x N i 0 (farF far)) ∧ Hid (FarM wr (K + 1) far) ∧ Hid (wr.heap[K]? = some (.cells #[.slice a n cap] 27) ∧ Below K w wr))
          case atStart => exact ⟨0, far, rfl, rfl, Nat.zero_le _, hL, HJ, hF, hB⟩
          case round =>
            clear hL hJ hF hB HJ far
            obtain ⟨i, far, rfl, rfl, hi, hL, hJ, hF, hB⟩ := hrel
            have m1 := cell_of_heap hB.out.1 0
            have m2 := lt_of_heap hB.out.1
            by_cases hlt2 : i < n
            · go_wp2_with fail
              clear m1 m2
              go_loopg [9] n (fun g s9 wr => ∃ (k : Nat) (far : List Int), s9 = .int .i64 (k : Int) ∧ g = n - k ∧ k ≤ n ∧ Hid (far.length = n) ∧ Hid (FarJ n A x N i k (farF far)) ∧ Hid (FarM wr (K + 1) far) ∧ Hid (wr.heap[K]? = some (.cells #[.slice a n cap] 27) ∧ Below K w wr))
              case atStart => exact ⟨0, far, rfl, rfl, Nat.zero_le _, hL, hJ, hF, hB⟩
              case round =>
                clear hL hJ hF hB far
                obtain ⟨k, far, rfl, rfl, hk, HL, hJ, hF, hB⟩ := hrel
                have m1 := cell_of_heap hB.out.1 0
                have m2 := lt_of_heap hB.out.1
                by_cases hlt3 : k < n
                · obtain ⟨v, hv⟩ : ∃ v, far[i]? = some v := ⟨_, List.getElem?_eq_getElem (by rw [HL.out]; exact hlt2)⟩
                  obtain ⟨u, hu⟩ : ∃ u, far[k]? = some u := ⟨_, List.getElem?_eq_getElem (by rw [HL.out]; exact hlt3)⟩
                  have c1 := hF.out.at hv
                  have c2 := hF.out.at hu
                  have z1 := lt_of_heap hF.out
                  have y1 := frozen_of_heap hF.out i
                  have i1 : (0 : Int) ≤ (i : Int) := by omega
                  have i2 : (i : Int) < (n : Int) := by omega
                  have i3 : (0 : Int) ≤ (k : Int) := by omega
                  have i4 : (k : Int) < (n : Int) := by omega
                  obtain ⟨g, e2, d1, r, rc, m3, d2, hr⟩ := (HMX.out.below (by rw [HK.out]; exact hB.out.2)) i hlt2
                  subst e2
                  have m4 := hr k hlt3
                  clear hr
                  by_cases hv0 : v < 0
                  · have b1 : decide (v < 0) = true := by simpa using hv0
                    cases hA : A i k with
                    | false =>
                      rw [hA] at m4
                      have HJ2 := Lib.hid (hJ.out.skip (fun k1 k2 k3 => by rw [farF_at hv] at k1; rw [farF_at hu] at k3; rw [hA] at k2; cases k2))
                      clear hv hu hJ
                      clear hA hv0
                      go_wp2_with fail
                      clear c1 c2 z1 y1 m1 m2 m3 m4 d1 d2
                      go_roundg (n - (k + 1))
                      case measure => omega
                      case rel => exact ⟨k + 1, far, by go_num, rfl, by omega, HL, HJ2, hF, hB⟩
                    | true =>
                      rw [hA] at m4
                      by_cases huN : u = (N : Int)
                      · have b2 : (u == (N : Int)) = true := by simpa using huN
                        have HJ2 : Hid (FarJ n A x N i (k + 1) (farF (far.set i ((N : Int) + 1)))) := hJ.out.set hlt3 (by rw [farF_at hv]; exact hv0) hA (by rw [farF_at hu]; exact huN) (farF_set (by rw [HL.out]; exact hlt2)) fun y hy => farF_other hy
                        have HF2 : Hid (FarM (wr.setCell ⟨K + 1, i, none⟩ (.int .i64 ((N : Int) + 1))) (K + 1) (far.set i ((N : Int) + 1))) := hF.out.put i _
                        have HB2 : Hid ((wr.setCell ⟨K + 1, i, none⟩ (.int .i64 ((N : Int) + 1))).heap[K]? = some (.cells #[.slice (some ⟨g, 0, none⟩) n cap] 27) ∧ Below K w (wr.setCell ⟨K + 1, i, none⟩ (.int .i64 ((N : Int) + 1)))) := ⟨(set_other K (by simp)).trans hB.out.1, hB.out.2.setCell (p := ⟨K + 1, i, none⟩) (Nat.le_succ K) _⟩
                        have HL2 : Hid ((far.set i ((N : Int) + 1)).length = n) := by unfold Hid; rw [List.length_set]; exact HL.out
                        clear hv hu hJ hF hB hA hv0 huN HL
                        go_wp2_with fail
                        clear c1 c2 z1 y1 m1 m2 m3 m4 d1 d2
                        go_roundg (n - (k + 1))
                        case measure => omega
                        case rel => exact ⟨k + 1, _, by go_num, rfl, by omega, HL2, HJ2, HF2, HB2⟩
                      · have b2 : (u == (N : Int)) = false := by simpa using huN
                        have HJ2 := Lib.hid (hJ.out.skip (fun k1 k2 k3 => by rw [farF_at hv] at k1; rw [farF_at hu] at k3; exact huN k3))
                        clear hv hu hJ
                        clear hA hv0 huN
                        go_wp2_with fail
                        clear c1 c2 z1 y1 m1 m2 m3 m4 d1 d2
                        go_roundg (n - (k + 1))
                        case measure => omega
                        case rel => exact ⟨k + 1, far, by go_num, rfl, by omega, HL, HJ2, hF, hB⟩
                  · have b1 : decide (v < 0) = false := by simpa using hv0
                    have HJ2 := Lib.hid (hJ.out.skip (fun k1 k2 k3 => by rw [farF_at hv] at k1; rw [farF_at hu] at k3; exact hv0 k1))
                    clear hv hu hJ
                    clear hv0
                    go_wp2_with fail
                    clear c1 c2 z1 y1 m1 m2 m3 m4 d1 d2
                    go_roundg (n - (k + 1))
                    case measure => omega
                    case rel => exact ⟨k + 1, far, by go_num, rfl, by omega, HL, HJ2, hF, hB⟩
                · have HJ2 : Hid (FarJ n A x N (i + 1) 0 (farF far)) := by
                    have h1 := hJ.out
                    rw [show k = n by omega] at h1
                    exact h1.nextI
                  clear hJ
                  go_wp2_with fail
                  clear m1 m2
                  go_roundg (n - (i + 1))
                  case measure => omega
                  case rel => exact ⟨i + 1, far, by go_num, rfl, by omega, HL, HJ2, hF, hB⟩
            · have HJ2 : Hid (FarJ n A x (N + 1) 0 0 (farF far) ∧ ∀ y, y < n → (farF far) y ≤ ((N + 1 : Nat) : Int)) := by
                have h1 := hJ.out
                rw [show i = n by omega] at h1
                exact h1.nextN
              clear hJ
              go_wp2_with fail
              clear m1 m2
              go_roundg (n - (N + 1))
              case measure => omega
              case rel => exact ⟨N + 1, far, by go_num, rfl, by omega, hL, HJ2, hF, hB⟩
        · have HD : Hid (Dist n A x (farF far)) := by
            have h1 := hJ.out
            rw [show N = n by omega] at h1
            exact h1.1.end h1.2
          clear hJ
          go_wp2_with fail
          refine bodyPost_ret (v := .slice (some ⟨K + 1, 0, none⟩) n n) (by simp [results, Try.results28, go_sem]) rfl ⟨K + 1, far, rfl, by rw [HK.out]; exact Nat.le_succ K, hF.out, hL.out, HD.out, by rw [HK.out]; exact hB.out.2⟩
end Go.Proofs.Ytcjohhminiedfaa
