/- Cycle: ref.ready. -/
import Derived.Test.YtcjohhminiedfaaQC21RPartsP
namespace Go.Proofs.Ytcjohhminiedfaa
open Go.RowKit
/-- What ready asks of x: whom it leads to is of the part, or came. -/
def Led (n : Nat) (A : Nat → Nat → Bool) (p : List Nat) (C : Nat → Prop) (x : Nat) : Prop := ∀ k, k < n → A x k = true → k ∈ p ∨ C k
set_option maxHeartbeats 4000000 in
set_option maxRecDepth 100000 in
theorem rready_any {w : World} {a : Option Addr} {n cap bc : Nat} {A : Nat → Nat → Bool} {p : List Nat} {pv : Value} {C : List Bool} {CP : Nat → Prop} (hn : n ≤ 10000) (hM : MxA w a n A) (hp : IR 0 w pv p) (hpn : ∀ x ∈ p, x < n) (hc : BM w bc C) (hC : TB n CP C) :
    Calls Try.prog 39 #[.agg #[.slice a n cap], pv, .slice (some ⟨bc, 0, none⟩) n n] w fun e w' => ∃ t, e = .returned (.bool t) ∧ (t = true ↔ ∀ x ∈ p, Led n A p CP x) ∧ Below w.heap.size w w' := by
  have HMX := Lib.hid hM
  have HPN := Lib.hid hpn
  have HBC := Lib.hid hc
  have HTC := Lib.hid hC
  have hqm := own_max hp
  obtain ⟨pa, pc, e⟩ := hp.shape
  subst e
  obtain ⟨q, hq⟩ : ∃ q, p.length = q := ⟨_, rfl⟩
  have HQ := Lib.hid hq
  have HPR := Lib.hid hp
  rw [hq] at hqm HPR ⊢
  unfold maxLen at hqm
  obtain ⟨K, hK⟩ : ∃ K, w.heap.size = K := ⟨_, rfl⟩
  have HK := Lib.hid hK
  have MK := mk4 n (by omega)
  clear hM hp hpn hc hC hq hK
  go_enter Try.func39, Try.ntmps39
  go_upto_region 2 with fail
  refine abs_world ?_
  intro W1 hW1
  have HC1 : Hid (W1.heap[K]? = some (.cells #[.slice a n cap] 27) ∧ Below K w W1) := by
    rw [hW1, ← HK.out]
    exact ⟨heap_alloc_old (heap_alloc_new w _) _, (below_alloc w _ _ (Nat.le_refl _)).alloc (by simp) _⟩
  have HO1 : Hid (BM W1 (K + 1) (List.replicate n false)) := by
    unfold Hid BM bvs
    rw [hW1, List.map_replicate, ← List.toArray_replicate]
    exact heap_alloc_at (by simp; exact HK.out.symm) _
  have HT1 : Hid (TB n (fun y => y ∈ p.take 0) (List.replicate n false)) := (TB.start n).congr fun y _ => by simp
  rw [HK.out]
  clear hW1 MK
  go_wp2_with fail
  go_loopg [8] q (fun g s8 wr => ∃ (i : Nat) (O : List Bool), s8 = .int .i64 (i : Int) ∧ g = q - i ∧ i ≤ q ∧ Hid (TB n (fun y => y ∈ p.take i) O) ∧ Hid (BM wr (K + 1) O) ∧ Hid (wr.heap[K]? = some (.cells #[.slice a n cap] 27) ∧ Below K w wr))
  case atStart => exact ⟨0, _, rfl, rfl, Nat.zero_le _, HT1, HO1, HC1⟩
  case round =>
    clear HT1 HO1 HC1
    obtain ⟨i, O, rfl, rfl, hi, hT, hO, hC⟩ := hrel
    by_cases hlt : i < q
    · obtain ⟨x, hx⟩ : ∃ x, p[i]? = some x := ⟨_, List.getElem?_eq_getElem (by rw [HQ.out]; exact hlt)⟩
      have hxn := HPN.out x (List.mem_of_getElem? hx)
      obtain ⟨g, rfl, zp, cp⟩ := (HPR.out.below (by rw [HK.out]; exact hC.out.2)).at hx
      obtain ⟨v, hv, _⟩ := hT.out.get hxn
      have c1 := bcell hO.out hv
      have y1 := frozen_of_heap hO.out x
      have z1 := lt_of_heap hO.out
      have i1 : (0 : Int) ≤ (i : Int) := by omega
      have i2 : (i : Int) < (q : Int) := by omega
      have i3 : (0 : Int) ≤ (x : Int) := by omega
      have i4 : (x : Int) < (n : Int) := by omega
      have HT2 : Hid (TB n (fun y => y ∈ p.take (i + 1)) (O.set x true)) := hT.out.set ⟨fun _ => by rw [take_snoc hx]; simp, fun _ => rfl⟩ fun y hy => by
        rw [take_snoc hx]
        simp [hy]
      have HO2 : Hid (BM (wr.setCell ⟨K + 1, x, none⟩ (.bool true)) (K + 1) (O.set x true)) := bput hO.out x true
      have HC2 : Hid ((wr.setCell ⟨K + 1, x, none⟩ (.bool true)).heap[K]? = some (.cells #[.slice a n cap] 27) ∧ Below K w (wr.setCell ⟨K + 1, x, none⟩ (.bool true))) := ⟨(set_other K (by simp)).trans hC.out.1, hC.out.2.setCell (p := ⟨K + 1, x, none⟩) (Nat.le_succ K) _⟩
      clear hx hv hT hO hC
      go_wp2_with fail
      clear c1 y1 z1 cp zp
      go_roundg (q - (i + 1))
      case measure => omega
      case rel => exact ⟨i + 1, _, by go_num, rfl, by omega, HT2, HO2, HC2⟩
    · have HTO : Hid (TB n (fun y => y ∈ p) O) := by
        have h1 := hT.out
        rw [List.take_of_length_le (by rw [HQ.out]; omega)] at h1
        exact h1
      clear hT
      go_wp2_with fail
      rename World => W3
      have hzK : K < W3.heap.size := lt_of_heap hC.out.1
      have hzO : K + 1 < W3.heap.size := lt_of_heap hO.out
      have hzC : bc < W3.heap.size := Nat.lt_of_lt_of_le (lt_of_heap HBC.out) hC.out.2.size
      have HBC3 : Hid (BM W3 bc C) := HBC.out.keep (hC.out.2.block _ (by rw [← HK.out]; exact lt_of_heap HBC.out))
      have HPR3 : Hid (IR 0 W3 (.slice pa q pc) p) := HPR.out.below (by rw [HK.out]; exact hC.out.2)
      have HMX3 : Hid (MxA W3 a n A) := HMX.out.below (by rw [HK.out]; exact hC.out.2)
      clear HBC HPR HMX
      go_loopg [9] q (fun g s9 wr => ∃ (i : Nat), s9 = .int .i64 (i : Int) ∧ g = q - i ∧ i ≤ q ∧ Hid (∀ x ∈ p.take i, Led n A p CP x) ∧ Hid (Below W3.heap.size W3 wr))
      case atStart => exact ⟨0, rfl, rfl, Nat.zero_le _, fun x hx => (by simp at hx), Below.refl _ _⟩
      case round =>
        obtain ⟨i, rfl, rfl, hi, hA, hB⟩ := hrel
        by_cases hlt2 : i < q
        · obtain ⟨x, hx⟩ : ∃ x, p[i]? = some x := ⟨_, List.getElem?_eq_getElem (by rw [HQ.out]; exact hlt2)⟩
          have hxn := HPN.out x (List.mem_of_getElem? hx)
          have HX := Lib.hid hx
          have i1 : (0 : Int) ≤ (i : Int) := by omega
          have i2 : (i : Int) < (q : Int) := by omega
          clear hx
          go_wp2_with fail
          go_loopg [10] n (fun g s10 wr => ∃ (k : Nat), s10 = .int .i64 (k : Int) ∧ g = n - k ∧ k ≤ n ∧ Hid (∀ j, j < k → A x j = true → j ∈ p ∨ CP j) ∧ Hid (Below W3.heap.size W3 wr))
          case atStart => exact ⟨0, rfl, rfl, Nat.zero_le _, fun j hj => by omega, hB⟩
          case round =>
            clear hB
            obtain ⟨k, rfl, rfl, hk, hN, hB⟩ := hrel
            have m1 := cell_of_heap ((hB.out.block K hzK).trans hC.out.1) 0
            have m2 := Nat.lt_of_lt_of_le hzK hB.out.size
            by_cases hlt3 : k < n
            · obtain ⟨gp, rfl, zp, cp⟩ := (HPR3.out.below hB.out).at HX.out
              obtain ⟨g, e2, d1, r, rc, m3, d2, hr⟩ := (HMX3.out.below hB.out) x hxn
              subst e2
              have m4 := hr k hlt3
              obtain ⟨vo, ho1, ho2⟩ := HTO.out.get hlt3
              obtain ⟨vc, hc1, hc2⟩ := HTC.out.get hlt3
              have c5 := bcell (BM.keep hO.out (hB.out.block _ hzO)) ho1
              have c6 := bcell (BM.keep HBC3.out (hB.out.block _ hzC)) hc1
              have z5 := Nat.lt_of_lt_of_le hzO hB.out.size
              have z6 := Nat.lt_of_lt_of_le hzC hB.out.size
              have j1 : (0 : Int) ≤ (k : Int) := by omega
              have j2 : (k : Int) < (n : Int) := by omega
              have j3 : (0 : Int) ≤ (x : Int) := by omega
              have j4 : (x : Int) < (n : Int) := by omega
              clear hr ho1 hc1
              cases hAx : A x k with
              | false =>
                rw [hAx] at m4
                have hN2 : Hid (∀ j, j < k + 1 → A x j = true → j ∈ p ∨ CP j) := fun j hj hj2 => by
                  by_cases e : j = k
                  · rw [e, hAx] at hj2
                    cases hj2
                  · exact hN.out j (by omega) hj2
                have hw1 : True := trivial
                have hw2 : True := trivial
                clear ho2 hc2 hAx
                clear hN hw1 hw2
                go_wp2_with fail
                refine wp_region_mix [0, 1, 2, 3, 4, 5, 6, 7, 8, 9, 10, 11, 12, 13, 14, 15, 16, 17, 18, 19, 20, 21, 22, 23, 24] [] [] (Below wr.heap.size wr) (by kernel_rfl) (by kernel_rfl) (Below.refl _ _).drew ?_
                iterate 25 (first | (apply first_step; (rw [List.getElem?_toArray]; (repeat rw [List.getElem?_cons_succ]); rw [List.getElem?_cons_zero]); rfl; (intro W hB; have hc := bcellB hB; go_simp; (first | done | rfl)); go_frame) | (apply first_skip; (rw [List.getElem?_toArray]; (repeat rw [List.getElem?_cons_succ]); rw [List.getElem?_cons_zero]); rfl; go_frame))
                refine first_done ?_
                refine tail_done ?_
                have HB4 : Hid (Below W3.heap.size W3 wr.drew) := hB.out.drew
                clear m1 m2 m3 m4 d1 d2 cp zp c5 c6 z5 z6 hB
                go_wp2_with fail
                go_roundg (n - (k + 1))
                case measure => omega
                case rel => exact ⟨k + 1, by go_num, rfl, by omega, hN2, HB4⟩
              | true =>
                rw [hAx] at m4
                by_cases hin : vo = true ∨ vc = true
                · have hN2 : Hid (∀ j, j < k + 1 → A x j = true → j ∈ p ∨ CP j) := fun j hj hj2 => by
                    by_cases e : j = k
                    · rw [e]
                      exact hin.imp ho2.1 hc2.1
                    · exact hN.out j (by omega) hj2
                  clear ho2 hc2 hAx
                  cases vo with
                  | true =>
                    have hw1 : True := trivial
                    have hw2 : True := trivial
                    clear hin
                    clear hN hw1 hw2
                    go_wp2_with fail
                    refine wp_region_mix [0, 1, 2, 3, 4, 5, 6, 7, 8, 9, 10, 11, 12, 13, 14, 15, 16, 17, 18, 19, 20, 21, 22, 23, 24] [] [] (Below wr.heap.size wr) (by kernel_rfl) (by kernel_rfl) (Below.refl _ _).drew ?_
                    iterate 25 (first | (apply first_step; (rw [List.getElem?_toArray]; (repeat rw [List.getElem?_cons_succ]); rw [List.getElem?_cons_zero]); rfl; (intro W hB; have hc := bcellB hB; go_simp; (first | done | rfl)); go_frame) | (apply first_skip; (rw [List.getElem?_toArray]; (repeat rw [List.getElem?_cons_succ]); rw [List.getElem?_cons_zero]); rfl; go_frame))
                    refine first_done ?_
                    refine tail_done ?_
                    have HB4 : Hid (Below W3.heap.size W3 wr.drew) := hB.out.drew
                    clear m1 m2 m3 m4 d1 d2 cp zp c5 c6 z5 z6 hB
                    go_wp2_with fail
                    go_roundg (n - (k + 1))
                    case measure => omega
                    case rel => exact ⟨k + 1, by go_num, rfl, by omega, hN2, HB4⟩
                  | false =>
                    have hvc : vc = true := by
                      rcases hin with h | h
                      · cases h
                      · exact h
                    subst hvc
                    have hw1 : True := trivial
                    have hw2 : True := trivial
                    clear hin
                    clear hN hw1 hw2
                    go_wp2_with fail
                    refine wp_region_mix [0, 1, 2, 3, 4, 5, 6, 7, 8, 9, 10, 11, 12, 13, 14, 15, 16, 17, 18, 19, 20, 21, 22, 23, 24] [] [] (Below wr.heap.size wr) (by kernel_rfl) (by kernel_rfl) (Below.refl _ _).drew ?_
                    iterate 25 (first | (apply first_step; (rw [List.getElem?_toArray]; (repeat rw [List.getElem?_cons_succ]); rw [List.getElem?_cons_zero]); rfl; (intro W hB; have hc := bcellB hB; go_simp; (first | done | rfl)); go_frame) | (apply first_skip; (rw [List.getElem?_toArray]; (repeat rw [List.getElem?_cons_succ]); rw [List.getElem?_cons_zero]); rfl; go_frame))
                    refine first_done ?_
                    refine tail_done ?_
                    have HB4 : Hid (Below W3.heap.size W3 wr.drew) := hB.out.drew
                    clear m1 m2 m3 m4 d1 d2 cp zp c5 c6 z5 z6 hB
                    go_wp2_with fail
                    go_roundg (n - (k + 1))
                    case measure => omega
                    case rel => exact ⟨k + 1, by go_num, rfl, by omega, hN2, HB4⟩
                · have hvo : vo = false := by
                    cases vo with
                    | true => exact absurd (.inl rfl) hin
                    | false => rfl
                  have hvc : vc = false := by
                    cases vc with
                    | true => exact absurd (.inr rfl) hin
                    | false => rfl
                  subst hvo hvc
                  have HBAD : Hid (¬ ∀ x ∈ p, Led n A p CP x) := fun h => by
                    rcases h x (List.mem_of_getElem? HX.out) k hlt3 hAx with h1 | h1
                    · have := ho2.2 h1
                      cases this
                    · have := hc2.2 h1
                      cases this
                  have hw1 : True := trivial
                  have hw2 : True := trivial
                  clear hin ho2 hc2 hAx
                  clear hN hw1 hw2
                  go_wp2_with fail
                  refine wp_region_mix [0, 1, 2, 3, 4, 5, 6, 7, 8, 9, 10, 11, 12, 13, 14, 15, 16, 17, 18, 19, 20, 21, 22, 23, 24] [] [] (Below wr.heap.size wr) (by kernel_rfl) (by kernel_rfl) (Below.refl _ _).drew ?_
                  iterate 25 (first | (apply first_step; (rw [List.getElem?_toArray]; (repeat rw [List.getElem?_cons_succ]); rw [List.getElem?_cons_zero]); rfl; (intro W hB; have hc := bcellB hB; go_simp; (first | done | rfl)); go_frame) | (apply first_skip; (rw [List.getElem?_toArray]; (repeat rw [List.getElem?_cons_succ]); rw [List.getElem?_cons_zero]); rfl; go_frame))
                  refine first_done ?_
                  refine tail_done ?_
                  have HB4 : Hid (Below W3.heap.size W3 wr.drew) := hB.out.drew
                  clear m1 m2 m3 m4 d1 d2 cp zp c5 c6 z5 z6 hB
                  go_wp2_with fail
                  refine bodyPost_ret (v := .bool false) (by simp [results, Try.results39, go_sem]) rfl ⟨false, rfl, ⟨fun h => (by cases h), fun h => absurd h HBAD.out⟩, by rw [HK.out]; exact hC.out.2.trans (HB4.out.mono (Nat.le_of_lt hzK))⟩
            · have hA2 : Hid (∀ y ∈ p.take (i + 1), Led n A p CP y) := fun y hy => by
                rw [take_snoc HX.out] at hy
                rcases List.mem_append.1 hy with h | h
                · exact hA.out y h
                · rw [List.mem_singleton.1 h]
                  exact fun j hj hj2 => hN.out j (by omega) hj2
              clear hN hA
              go_wp2_with fail
              clear m1 m2
              go_roundg (q - (i + 1))
              case measure => omega
              case rel => exact ⟨i + 1, by go_num, rfl, by omega, hA2, hB⟩
        · have HALL : Hid (∀ x ∈ p, Led n A p CP x) := by
            have h1 := hA.out
            rw [List.take_of_length_le (by rw [HQ.out]; omega)] at h1
            exact h1
          clear hA
          go_wp2_with fail
          refine bodyPost_ret (v := .bool true) (by simp [results, Try.results39, go_sem]) rfl ⟨true, rfl, ⟨fun _ => HALL.out, fun _ => rfl⟩, by rw [HK.out]; exact hC.out.2.trans (hB.out.mono (Nat.le_of_lt hzK))⟩
end Go.Proofs.Ytcjohhminiedfaa
