/- Cycle: ref.Round. -/
import Derived.Test.YtcjohhminiedfaaQC21RFar
namespace Go.Proofs.Ytcjohhminiedfaa
open Go.RowKit
theorem LeastK.le {n : Nat} {A : Nat → Nat → Bool} {f : Nat → Int} {x a k : Nat} {left : Int} (hd : Dist n A x f) (h : LeastK n A f a k left) : -1 ≤ left ∧ left ≤ (n : Int) := by
  rcases h with ⟨h1, _⟩ | ⟨h1, ⟨z, z1, _, z3⟩, _⟩
  · omega
  · have := hd.lt_n z1
    omega
theorem rround_out {w : World} (a : Option Addr) (n cap : Nat) (x : Int) (hx : ¬ (0 ≤ x ∧ x < (n : Int))) : Calls Try.prog 13 #[.agg #[.slice a n cap], .int .i64 x] w fun e w' => e = .returned (.slice none 0 0) ∧ Below w.heap.size w w' := by
  have C1 := Lib.hid (fun W => rhas_any (w := W) a n cap x)
  have ex : decide (0 ≤ x ∧ x < (n : Int)) = false := by simpa using hx
  rw [ex] at C1
  clear ex hx
  go_enter Try.func13, Try.ntmps13
  go_wp2_with fail
  refine (C1.out _).mono ?_
  rintro e w1 ⟨rfl, hb1⟩
  have HB1 : Hid (Below w.heap.size w w1) := (below_alloc w _ _ (Nat.le_refl _)).trans (hb1.mono (by simp))
  clear hb1 C1
  go_wp2_with fail
  refine bodyPost_ret (v := .slice none 0 0) (by simp [results, Try.results13, go_sem]) rfl ⟨rfl, HB1.out⟩
set_option maxHeartbeats 4000000 in
set_option maxRecDepth 100000 in
theorem rround_any {w : World} {a : Option Addr} {n cap x : Nat} {A : Nat → Nat → Bool} (hn : n ≤ 10000) (hx : x < n) (hM : MxA w a n A) :
    Calls Try.prog 13 #[.agg #[.slice a n cap], .int .i64 (x : Int)] w fun e w' => ∃ (v : Value) (ring : List Nat) (f : Nat → Int), e = .returned v ∧ IR w.heap.size w' v ring ∧ Dist n A x f ∧ RoundR n A f x ring ∧ Below w.heap.size w w' := by
  have HMX := Lib.hid hM
  obtain ⟨K, hK⟩ : ∃ K, w.heap.size = K := ⟨_, rfl⟩
  have HK := Lib.hid hK
  have C1 := Lib.hid (fun W => rhas_any (w := W) a n cap (x : Int))
  have ex : decide (0 ≤ (x : Int) ∧ (x : Int) < (n : Int)) = true := by simp; omega
  rw [ex] at C1
  have i1 : (0 : Int) ≤ (x : Int) := by omega
  have i2 : (x : Int) < (n : Int) := by omega
  clear ex hM hK
  go_enter Try.func13, Try.ntmps13
  go_wp2_with fail
  refine (C1.out _).mono ?_
  rintro e w1 ⟨rfl, hb1⟩
  have q1 : w1.heap[w.heap.size]? = some (.cells #[.slice a n cap] 27) := (hb1.block _ (by simp)).trans (heap_alloc_new w _)
  have HB1 : Hid (Below w.heap.size w w1) := (below_alloc w _ _ (Nat.le_refl _)).trans (hb1.mono (by simp))
  have CF := Lib.hid (rfar_any (cap := cap) hn hx (HMX.out.below HB1.out))
  rw [HK.out] at q1 HB1 ⊢
  have HC1 := Lib.hid q1
  have c0 := cell_of_heap q1 0
  have z0 := lt_of_heap q1
  clear q1 hb1 C1
  go_wp2_with fail
  refine CF.out.mono ?_
  rintro e w2 ⟨bf, far, rfl, hbf, hF, hL, hD, hb2⟩
  have HC2 : Hid (w2.heap[K]? = some (.cells #[.slice a n cap] 27)) := (hb2.block _ (lt_of_heap HC1.out)).trans HC1.out
  have hz1 := lt_of_heap HC1.out
  have HB2 : Hid (Below K w w2) := HB1.out.trans (hb2.mono (by omega))
  have HM2 : Hid (MxA w2 a n A) := HMX.out.below (by rw [HK.out]; exact HB2.out)
  have HF2 := Lib.hid hF
  have HL2 := Lib.hid hL
  have HD := Lib.hid hD
  have hbf2 : bf < w2.heap.size := lt_of_heap hF
  have hKz : K < w2.heap.size := lt_of_heap HC2.out
  clear hbf hF hL hD hb2 CF c0 z0 HC1 HB1 hz1
  go_upto_region 5 with fail
  refine abs_world ?_
  intro W3 hW3
  obtain ⟨R, hR⟩ : ∃ R, w2.heap.size = R := ⟨_, rfl⟩
  have HB3 : Hid (Below R w2 W3) := by
    rw [hW3, ← hR]
    exact below_alloc w2 _ _ (Nat.le_refl _)
  have HI3 : Hid (IR R W3 (.slice (some ⟨R, 0, none⟩) 1 1) [x]) := by
    rw [hW3, ← hR]
    exact IR.new (w := w2) [x] (Nat.le_refl _) (by simp)
  have HR := Lib.hid hR
  rw [hR] at hbf2 hKz ⊢
  clear hW3 hR
  have hc3 := HB3.out.block K hKz
  have hf3 := HB3.out.block bf hbf2
  have HC3 : Hid (W3.heap[K]? = some (.cells #[.slice a n cap] 27)) := hc3.trans HC2.out
  have HF3 : Hid (FarM W3 bf far) := HF2.out.keep hf3
  have HM3 : Hid (MxA W3 a n A) := HM2.out.below (by rw [HR.out]; exact HB3.out)
  clear hc3 hf3
  go_wp2_with fail
  go_loopg [8, 9] n (fun g s8 s9 wr => ∃ (k : Nat) (left : Int), s9 = .int .i64 (k : Int) ∧ s8 = .int .i64 left ∧ g = n - k ∧ k ≤ n ∧ Hid (LeastK n A (farF far) x k left) ∧ wr = W3)
  case atStart => exact ⟨0, -1, rfl, rfl, rfl, Nat.zero_le _, LeastK.start _ _ _ _, rfl⟩
  case round =>
    obtain ⟨k, left, rfl, rfl, rfl, hk, hJ, rfl⟩ := hrel
    have m1 := cell_of_heap HC3.out 0
    have m2 := lt_of_heap HC3.out
    by_cases hlt : k < n
    · obtain ⟨v, hv⟩ : ∃ v, far[k]? = some v := ⟨_, List.getElem?_eq_getElem (by rw [HL2.out]; exact hlt)⟩
      have c1 := HF3.out.at hv
      have z1 := lt_of_heap HF3.out
      have i3 : (0 : Int) ≤ (k : Int) := by omega
      have i4 : (k : Int) < (n : Int) := by omega
      obtain ⟨g, e2, d1, r, rc, m3, d2, hr⟩ := HM3.out x hx
      subst e2
      have m4 := hr k hlt
      clear hr
      cases hA : A x k with
      | false =>
        rw [hA] at m4
        have HJ2 := Lib.hid (hJ.out.skip (fun k1 k2 => by rw [farF_at hv] at k2 ⊢; rw [hA] at k1; cases k1))
        clear hv hJ
        clear hA
        go_wp2_with fail
        go_roundg (n - (k + 1))
        case measure => omega
        case rel => exact ⟨k + 1, left, by go_num, rfl, rfl, by omega, HJ2, rfl⟩
      | true =>
        rw [hA] at m4
        by_cases hv0 : 0 ≤ v
        · have b1 : decide (0 ≤ v) = true := by simpa using hv0
          by_cases hl0 : left < 0
          · have b2 : decide (left < 0) = true := by simpa using hl0
            have HJ2 := Lib.hid (hJ.out.take hlt hA (by rw [farF_at hv]; omega) (.inl hl0))
            rw [farF_at hv] at HJ2
            clear hv hJ hA
            clear hv0 hl0
            go_wp2_with fail
            go_roundg (n - (k + 1))
            case measure => omega
            case rel => exact ⟨k + 1, v, by go_num, rfl, rfl, by omega, HJ2, rfl⟩
          · have b2 : decide (left < 0) = false := by simpa using hl0
            by_cases hvl : v < left
            · have b3 : decide (v < left) = true := by simpa using hvl
              have HJ2 := Lib.hid (hJ.out.take hlt hA (by rw [farF_at hv]; omega) (.inr (by rw [farF_at hv]; exact hvl)))
              rw [farF_at hv] at HJ2
              clear hv hJ hA
              clear hv0 hl0 hvl
              go_wp2_with fail
              go_roundg (n - (k + 1))
              case measure => omega
              case rel => exact ⟨k + 1, v, by go_num, rfl, rfl, by omega, HJ2, rfl⟩
            · have b3 : decide (v < left) = false := by simpa using hvl
              have HJ2 := Lib.hid (hJ.out.skip (fun k1 k2 => by rw [farF_at hv] at k2 ⊢; omega))
              clear hv hJ
              clear hA hv0 hl0 hvl
              go_wp2_with fail
              go_roundg (n - (k + 1))
              case measure => omega
              case rel => exact ⟨k + 1, left, by go_num, rfl, rfl, by omega, HJ2, rfl⟩
        · have b1 : decide (0 ≤ v) = false := by simpa using hv0
          have HJ2 := Lib.hid (hJ.out.skip (fun k1 k2 => by rw [farF_at hv] at k2 ⊢; omega))
          clear hv hJ
          clear hA hv0
          go_wp2_with fail
          go_roundg (n - (k + 1))
          case measure => omega
          case rel => exact ⟨k + 1, left, by go_num, rfl, rfl, by omega, HJ2, rfl⟩
    · have HJ : Hid (LeastK n A (farF far) x n left) := by
        have h1 := hJ.out
        rw [show k = n by omega] at h1
        exact h1
      obtain ⟨hl1, hl2⟩ := HJ.out.le HD.out
      clear hJ
      by_cases hl0 : left < 0
      · have b1 : decide (left < 0) = true := by simpa using hl0
        have HRR := Lib.hid (HJ.out.none hl0)
        clear hl0
        go_wp2_with fail
        refine bodyPost_ret (v := .slice none 0 0) (by simp [results, Try.results13, go_sem]) rfl ⟨_, [], _, rfl, IR.nil _ _, HD.out, HRR.out, by rw [HK.out]; exact HB2.out.trans (HB3.out.mono (Nat.le_of_lt hKz))⟩
      · have b1 : decide (left < 0) = false := by simpa using hl0
        have HLF := Lib.hid (HJ.out.lft (by omega))
        obtain ⟨L, rfl⟩ : ∃ L : Nat, left = (L : Int) := ⟨left.toNat, by omega⟩
        have hLn : 1 + L ≤ n + 1 := by omega
        clear hl0 HJ
        go_wp2_with fail
        clear b1 hl1 hl2
        rename World => wq
        go_loopg [6, 7, 8] L (fun g s6 s7 s8 wr => ∃ (L at' : Nat) (ring : List Nat) (b : Int), s8 = .int .i64 (L : Int) ∧ s7 = .int .i64 (at' : Int) ∧ L = g ∧ at' < n ∧ ring.length + L ≤ n + 1 ∧ Hid (Lft n A (farF far) b at' (L : Int)) ∧ Hid (RoundSo n A (farF far) x ring b at') ∧ Hid (IR R wr s6 ring) ∧ Hid (Below R w2 wr))
        case atStart => exact ⟨L, x, [x], -1, rfl, rfl, rfl, hx, hLn, HLF, RoundSo.start _ _ _ _, HI3, HB3⟩
        case round =>
          clear HI3 HB3 HLF HC3 HF3 HM3 m1 m2 hLn
          obtain ⟨L, at', ring, b, rfl, rfl, rfl, hat, hlen, hLF, hSo, hI, hB⟩ := hrel
          have HC : Hid (wr.heap[K]? = some (.cells #[.slice a n cap] 27)) := (hB.out.block K hKz).trans HC2.out
          have HF : Hid (FarM wr bf far) := HF2.out.keep (hB.out.block bf hbf2)
          have HM : Hid (MxA wr a n A) := HM2.out.below (by rw [HR.out]; exact hB.out)
          obtain ⟨la, lc, e, _⟩ := hI.out.slice
          subst e
          have m1 := cell_of_heap HC.out 0
          have m2 := lt_of_heap HC.out
          by_cases hL0 : 0 < L
          · have b1 : decide ((0 : Int) < (L : Int)) = true := by simp; omega
            go_wp2_with fail
            clear b1
            rename World => wz
            go_loopg [6, 7, 10] n (fun g s6 s7 s10 wr => ∃ (k : Nat), s10 = .int .i64 (k : Int) ∧ s6 = .slice la ring.length lc ∧ s7 = .int .i64 (at' : Int) ∧ g = n - k ∧ k ≤ n ∧ Hid (∀ y, y < k → A at' y = true → (farF far) y ≠ (L : Int)) ∧ wr = wz)
            case atStart => exact ⟨0, rfl, rfl, rfl, rfl, Nat.zero_le _, fun y hy => by omega, rfl⟩
            case round =>
              obtain ⟨k, rfl, rfl, rfl, rfl, hk, hN, rfl⟩ := hrel
              by_cases hlt : k < n
              · obtain ⟨v, hv⟩ : ∃ v, far[k]? = some v := ⟨_, List.getElem?_eq_getElem (by rw [HL2.out]; exact hlt)⟩
                have c1 := HF.out.at hv
                have z1 := lt_of_heap HF.out
                have i3 : (0 : Int) ≤ (k : Int) := by omega
                have i4 : (k : Int) < (n : Int) := by omega
                have i5 : (0 : Int) ≤ (at' : Int) := by omega
                have i6 : (at' : Int) < (n : Int) := by omega
                obtain ⟨g, e2, d1, r, rc, m3, d2, hr⟩ := HM.out at' hat
                subst e2
                have m4 := hr k hlt
                clear hr
                cases hA : A at' k with
                | false =>
                  rw [hA] at m4
                  have HN2 : Hid (∀ y, y < k + 1 → A at' y = true → (farF far) y ≠ (L : Int)) := fun y hy hA2 => by
                    by_cases e : y = k
                    · subst e
                      rw [hA] at hA2; cases hA2
                    · exact hN.out y (by omega) hA2
                  clear hv hN
                  clear hA
                  go_wp2_with fail
                  go_roundg (n - (k + 1))
                  case measure => omega
                  case rel => exact ⟨k + 1, by go_num, rfl, rfl, rfl, by omega, HN2, rfl⟩
                | true =>
                  rw [hA] at m4
                  by_cases hvL : v = (L : Int)
                  · have b2 : (v == (L : Int)) = true := by simpa using hvL
                    have HNX := Lib.hid (hLF.out.next hlt hA (by rw [farF_at hv]; exact hvL) hN.out)
                    have HLF2 : Hid (Lft n A (farF far) ((L : Int) - 1) k ((L : Int) - 1)) := by
                      have h1 := Lft.step HD.out hlt (by rw [farF_at hv]; exact hvL) (by omega : (0 : Int) < (L : Int))
                      rw [farF_at hv, hvL] at h1
                      exact h1
                    have hkx : k ≠ x := fun e => by
                      have h1 := HD.out.zero
                      rw [← e, farF_at hv] at h1
                      omega
                    have HSo2 : Hid (RoundSo n A (farF far) x (ring ++ [k]) ((L : Int) - 1) k) := by
                      have h1 := hSo.out.push HNX.out hkx
                      rw [farF_at hv, hvL] at h1
                      exact h1
                    obtain ⟨q, hq⟩ : ∃ q, ring.length = q := ⟨_, rfl⟩
                    have HQ := Lib.hid hq
                    have HROW : Hid (wr.ownsRow R 3 1 (.slice la q lc) q (ring.map iv)) := by
                      have h1 := hI.out
                      unfold IR at h1
                      rw [hq] at h1
                      exact h1
                    have hRz := hB.out.size
                    rw [HR.out] at hRz
                    rw [hq] at hlen ⊢
                    obtain ⟨i0, hi, hz0, hz1, hz2⟩ := info_parts info3
                    have HI := Lib.hid (⟨hi, hz0, hz1, hz2⟩ : _ ∧ _ ∧ _ ∧ _)
                    have PU : Hid (∀ (v' : Value) (w' : World), w'.ownsRow R 3 1 v' (q + 1) (ring.map iv ++ [iv k]) → (wr.alloc (.cells #[.int .i64 (k : Int)] 3)).grownBy w' (Value.slice la q lc).ownBlock → IR R w' v' (ring ++ [k]) ∧ Below R w2 w') := fun v' w' h1 h2 => by
                      refine ⟨IR.pushed (by rw [HQ.out]; exact h1), (hB.out.alloc hRz _).trans ⟨h2.os, h2.tape, h2.output, h2.size, fun j hj => h2.block j (by simp; omega) fun e => ?_⟩⟩
                      have := (World.ownsRow.lt HROW.out j e.symm).1
                      omega
                    clear hi hz0 hz1 hz2 hq hv hA hvL hN hkx hI hB hSo hLF HNX
                    go_upto_region 20 with (at_builtin; refine wpList_append_own_at _ rfl _ _ 31 rfl R 3 i0 (.int .i64 0) 1 8 Try.underlying31 HI.out.1 HI.out.2.1 HI.out.2.2.1 HI.out.2.2.2 rfl (by decide) (.slice la q lc) q (ring.map iv) rfl (World.ownsRow.alloc HROW.out _) ⟨wr.heap.size, 0, none⟩ 1 1 [iv k] rfl rfl (cells_new _ #[.int .i64 (k : Int)] 3) (by simp [iv, Value.oneCell']) (by unfold maxLen; omega) (by omega) (by simp; omega) ?_; intro v9 w9 hown hgrow _ _; obtain ⟨va, vc, rfl, _⟩ := own_slice hown; obtain ⟨p1, p2⟩ := PU.out _ w9 hown hgrow; have P1 := Lib.hid p1; have P2 := Lib.hid p2; clear hown hgrow p1 p2)
                    clear c1 z1 m1 m2 m3 m4 d1 d2
                    go_wp2_with fail
                    go_roundg (L - 1)
                    case measure => omega
                    case rel => exact ⟨L - 1, k, _, _, by go_num, rfl, rfl, hlt, by rw [List.length_append, List.length_singleton, HQ.out]; omega, by rw [show ((L - 1 : Nat) : Int) = (L : Int) - 1 by omega]; exact HLF2, HSo2, P1, P2⟩
                  · have b2 : (v == (L : Int)) = false := by simpa using hvL
                    have HN2 : Hid (∀ y, y < k + 1 → A at' y = true → (farF far) y ≠ (L : Int)) := fun y hy hA2 => by
                      by_cases e : y = k
                      · subst e
                        rw [farF_at hv]; exact hvL
                      · exact hN.out y (by omega) hA2
                    clear hv hN
                    clear hA hvL
                    go_wp2_with fail
                    go_roundg (n - (k + 1))
                    case measure => omega
                    case rel => exact ⟨k + 1, by go_num, rfl, rfl, rfl, by omega, HN2, rfl⟩
              · exfalso
                obtain ⟨z, z1, z2, z3⟩ := hLF.out.ex
                exact hN.out z (by omega) z2 z3
          · have b1 : decide ((0 : Int) < (L : Int)) = false := by simp; omega
            have hL00 : L = 0 := by omega
            subst hL00
            have HRR := Lib.hid (hSo.out.done (hLF.out.done HD.out))
            clear hLF hSo hlen
            go_wp2_with fail
            refine bodyPost_ret (v := .slice la ring.length lc) (by simp [results, Try.results13, go_sem]) rfl ⟨_, ring, _, rfl, hI.out.base (by rw [HK.out]; omega), HD.out, HRR.out, by rw [HK.out]; exact HB2.out.trans (hB.out.mono (Nat.le_of_lt hKz))⟩
end Go.Proofs.Ytcjohhminiedfaa
