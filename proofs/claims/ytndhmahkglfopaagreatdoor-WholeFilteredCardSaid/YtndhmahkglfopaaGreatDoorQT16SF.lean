/- slices.symMergeCmpFunc over a row of places: one place on the left. -/
import Derived.Test.YtndhmahkglfopaaGreatDoorQT16SA
import Derived.Test.YtndhmahkglfopaaGreatDoorQT16SM
namespace Go.Proofs.YtndhmahkglfopaaGreatDoor
open Go.RowKit Go.Sort
section
/- the comparison's region: the first row's place, the second's -/
variable (W0 w : World) (B g : Nat) (cb : Array Value) (N : Nat) (cf : Nat → Nat → Int) (blk cap : Nat)
set_option maxHeartbeats 4000000
set_option maxRecDepth 100000
theorem ku64_small (n : Nat) (h : n ≤ 8192) : IntKind.u64.wrap (n : Int) = (n : Int) := IntWalk.u64_in _ (by omega)
theorem wrap64_succ (n : Nat) (h : n ≤ 8192) : wrap64 ((n : Int) + 1) = ((n + 1 : Nat) : Int) := IntWalk.wrap64_in _ (by omega)
theorem kwrap_succ (n : Nat) (h : n ≤ 8192) : IntKind.i64.wrap ((n : Int) + 1) = ((n + 1 : Nat) : Int) := by rw [IntKind.wrap_i64]; omega
theorem symL_any (a b L : Nat) (d : Array Nat) (hE : ∀ (args : Array Value) (W : World), (callFunc g args).run Tryz.prog W = .ok (.enter g args) W) (hSW : SWO (ltC cf)) (hC : CmpOk W0 B g cb N cf) (hB : B ≤ W0.heap.size) (hS : RI W0 B blk d w) (hN : InN N d) (hL : d.size = L) (hsz : L ≤ 4096) (hab : a + 1 < b) (hb : b ≤ L) (hs2 : SortedIn (ltC cf) (a + 1) b d) :
    Calls Tryz.prog 373 #[.slice (some ⟨blk, 0, none⟩) L cap, .int .i64 a, .int .i64 (a + 1 : Nat), .int .i64 b, .func (.func g) #[] cb] w fun e w' => e = .returned (.tuple #[]) ∧ ∃ d', RI W0 B blk d' w' ∧ PermIn a b d d' ∧ SortedIn (ltC cf) a b d' := by
  have HC := Lib.hid hC
  have HE := Lib.hid hE
  have S0 := Lib.hid hS
  have N0 := Lib.hid hN
  have HLD := Lib.hid hL
  have FIN : Hid (∀ i c, InsL a (i - 1) d c → a + 1 ≤ i → i ≤ b → (i = a + 1 ∨ ltC cf d[i - 1]! d[a]! = true) → (i = b ∨ ltC cf d[i]! d[a]! = false) → SortedIn (ltC cf) a b c) := fun i c h1 h2 h3 h4 h5 => InsL.sorted hSW hs2 h1 h2 h3 h4 h5
  have w1 : wrap64 (((a + 1 : Nat) : Int) - (a : Int)) = 1 := by rw [show ((a + 1 : Nat) : Int) - (a : Int) = 1 by omega]; exact IntWalk.wrap64_in _ (by omega)
  have w1k : IntKind.i64.wrap (((a + 1 : Nat) : Int) - (a : Int)) = 1 := by rw [show ((a + 1 : Nat) : Int) - (a : Int) = 1 by omega, IntKind.wrap_i64]; omega
  obtain ⟨m, hm⟩ : ∃ m, m = a + 1 := ⟨_, rfl⟩
  rw [← hm] at w1 w1k ⊢
  have HMA := Lib.hid hm
  clear hC hE hS hN hL hs2 hm
  go_enter Tryz.func373, Tryz.ntmps373
  go_wp2_with fail
  go_loopw [10, 11] (fun x y wr => ∃ (i j : Nat), x = .int .i64 i ∧ y = .int .i64 j ∧ a + 1 ≤ i ∧ i ≤ j ∧ j ≤ b ∧ Hid (RI W0 B blk d wr) ∧ Hid (i = a + 1 ∨ ltC cf d[i - 1]! d[a]! = true) ∧ Hid (j = b ∨ ltC cf d[j]! d[a]! = false)) (fun x y _ => (intOf y).toNat - (intOf x).toNat)
  case atStart => exact ⟨m, b, rfl, rfl, by have := HMA.out; omega, by have := HMA.out; omega, Nat.le_refl _, S0, .inl HMA.out, .inl rfl⟩
  case round =>
    clear S0 w1 w1k
    obtain ⟨i, j, rfl, rfl, hai, hij, hjb, hS, hA, hZ⟩ := hrel
    by_cases hlt : i < j
    · have i1 : (i : Int) < (j : Int) := by omega
      obtain ⟨h, hh⟩ : ∃ h, h = (i + j) / 2 := ⟨_, rfl⟩
      obtain ⟨p, hp⟩ : ∃ p, p = i + j := ⟨_, rfl⟩
      have e1 : (i : Int) + (j : Int) = (p : Int) := by omega
      have e2 : (p : Int) / 2 = (h : Int) := by omega
      have b1 : p ≤ 8192 := by omega
      have b2 : h ≤ 8192 := by omega
      have B1 : Hid (i ≤ h) := by unfold Hid; omega
      have B2 : Hid (h < j) := by unfold Hid; omega
      have u1 := kwrap_small p b1
      have u2 := wrap64_small p b1
      have u3 := ku64_small p b1
      have u4 := kwrap_small h b2
      have u5 := wrap64_small h b2
      clear b1
      have HPP := Lib.hid hp
      have HHH := Lib.hid hh
      clear hp hh
      go_upto_region 5 with fail
      clear e1 e2 u1 u2 u3 u4 u5
      have hp := HPP.out
      have hh := HHH.out
      have B4 : Hid (a + 1 ≤ h + 1) := by unfold Hid; omega
      have B5 : Hid (h ≤ b) := by unfold Hid; omega
      have B3 : Hid (a < L) := by unfold Hid; omega
      have k1 : (h : Int) < (L : Int) := by omega
      have k2 : (a : Int) < (L : Int) := by omega
      have x1 := hS.out.2.2.cell (i := h) (by rw [HLD.out]; omega)
      have x2 := hS.out.2.2.cell (i := a) (by rw [HLD.out]; omega)
      have n1 := N0.out h (by rw [HLD.out]; omega)
      have n2 := N0.out a (by rw [HLD.out]; omega)
      have hcmp := Lib.hid (HC.out wr.drew hS.out.1.drew _ _ n1 n2)
      obtain ⟨u, hu⟩ : ∃ u, u = d[h]! := ⟨_, rfl⟩
      obtain ⟨v, hv⟩ : ∃ v, v = d[a]! := ⟨_, rfl⟩
      have HU := Lib.hid hu
      have HV := Lib.hid hv
      rw [← hu] at x1
      rw [← hv] at x2
      have w7 := wrap64_succ h b2
      have w8 := kwrap_succ h b2
      clear b2
      clear hp hh hu hv n1 n2
      cases hlv : ltC cf u v with
      | true =>
        have hl0 : cf u v < 0 := of_decide_eq_true hlv
        have hd0 : decide (cf u v < 0) = true := hlv
        have HD0 := Lib.hid hd0
        have NA : Hid (h + 1 = a + 1 ∨ ltC cf d[h + 1 - 1]! d[a]! = true) := by
          refine .inr ?_
          rw [show h + 1 - 1 = h by omega, ← HU.out, ← HV.out]; exact hlv
        clear hlv hl0 hd0
        refine wp_region_multiR [([0, 1, 2, 3, 4, 5, 6, 7, 8], [9, 10], [9, 10])] (by kernel_rfl) (by kernel_rfl) ?_
        refine multi_phase (fun W => W.cell? ⟨blk, h, none⟩ = some (.int .i64 u) ∧ W.cell? ⟨blk, a, none⟩ = some (.int .i64 v)) ⟨x1, x2⟩ ?_
        iterate 9 (apply first_step; (rw [List.getElem?_toArray]; (repeat rw [List.getElem?_cons_succ]); rw [List.getElem?_cons_zero]); rfl; (rintro W ⟨u0, u1⟩; go_simp; (first | done | rfl)); go_frame)
        refine first_done ?_
        have ent := HE.out
        apply forced_step; (rw [List.getElem?_toArray]; (repeat rw [List.getElem?_cons_succ]); rw [List.getElem?_cons_zero]); rfl; intro K hK; go_simp
        clear ent
        have hc := hcmp.out
        rw [← HU.out, ← HV.out] at hc
        refine hc.mono ?_
        rintro e w2 ⟨rfl, hb2⟩
        refine hK _ _ (fun h => absurd (by decide) h) ?_
        clear hK K hc
        have hb3 : Below wr.heap.size wr w2 := (Below.refl _ wr).drew.trans hb2
        have S2 := Lib.hid (hS.out.below hB hb3)
        clear hb2 hb3 x1 x2
        have hd0 := HD0.out
        apply forced_step; (rw [List.getElem?_toArray]; (repeat rw [List.getElem?_cons_succ]); rw [List.getElem?_cons_zero]); rfl; intro K hK; go_simp; refine hK _ _ (fun h => absurd (by decide) h) ?_; clear hK K
        refine forced_done ?_
        refine multi_done ?_
        go_wp2_with fail
        clear hd0
        go_roundw
        case rel => exact ⟨h + 1, j, by first | rfl | go_num, rfl, B4.out, B2.out, hjb, S2, NA, hZ⟩
        case measure =>
          have b1 := B1.out
          have b2 := B2.out
          clear w7 w8 k1 k2
          simp [intOf]; omega
      | false =>
        have hd0 : decide (cf u v < 0) = false := hlv
        have HD0 := Lib.hid hd0
        have NZ : Hid (h = b ∨ ltC cf d[h]! d[a]! = false) := by
          refine .inr ?_
          rw [← HU.out, ← HV.out]; exact hlv
        clear hlv hd0
        refine wp_region_multiR [([0, 1, 2, 3, 4, 5, 6, 7, 8], [9, 10], [9, 10])] (by kernel_rfl) (by kernel_rfl) ?_
        refine multi_phase (fun W => W.cell? ⟨blk, h, none⟩ = some (.int .i64 u) ∧ W.cell? ⟨blk, a, none⟩ = some (.int .i64 v)) ⟨x1, x2⟩ ?_
        iterate 9 (apply first_step; (rw [List.getElem?_toArray]; (repeat rw [List.getElem?_cons_succ]); rw [List.getElem?_cons_zero]); rfl; (rintro W ⟨u0, u1⟩; go_simp; (first | done | rfl)); go_frame)
        refine first_done ?_
        have ent := HE.out
        apply forced_step; (rw [List.getElem?_toArray]; (repeat rw [List.getElem?_cons_succ]); rw [List.getElem?_cons_zero]); rfl; intro K hK; go_simp
        clear ent
        have hc := hcmp.out
        rw [← HU.out, ← HV.out] at hc
        refine hc.mono ?_
        rintro e w2 ⟨rfl, hb2⟩
        refine hK _ _ (fun h => absurd (by decide) h) ?_
        clear hK K hc
        have hb3 : Below wr.heap.size wr w2 := (Below.refl _ wr).drew.trans hb2
        have S2 := Lib.hid (hS.out.below hB hb3)
        clear hb2 hb3 x1 x2
        have hd0 := HD0.out
        apply forced_step; (rw [List.getElem?_toArray]; (repeat rw [List.getElem?_cons_succ]); rw [List.getElem?_cons_zero]); rfl; intro K hK; go_simp; refine hK _ _ (fun h => absurd (by decide) h) ?_; clear hK K
        refine forced_done ?_
        refine multi_done ?_
        go_wp2_with fail
        clear hd0
        go_roundw
        case rel => exact ⟨i, h, rfl, by first | rfl | go_num, hai, B1.out, B5.out, S2, hA, NZ⟩
        case measure =>
          have b1 := B1.out
          have b2 := B2.out
          clear w7 w8 k1 k2
          simp [intOf]; omega
    · have i1 : ¬ (i : Int) < (j : Int) := by omega
      have e : i = j := by omega
      subst e
      have FI := Lib.hid (fun c h1 => FIN.out i c h1 hai hjb hA.out hZ.out)
      obtain ⟨q, rfl⟩ : ∃ q, i = q + 1 := ⟨i - 1, by omega⟩
      have c1 : ((q + 1 : Nat) : Int) - 1 = (q : Int) := by omega
      have c2 : q ≤ 8192 := by omega
      have haq : a ≤ q := by omega
      have hqb : q + 1 ≤ b := hjb
      have FJ : Hid (∀ c, InsL a q d c → SortedIn (ltC cf) a b c) := fun c h1 => FI.out c h1
      have c3 := kwrap_small q c2
      have c4 := wrap64_small q c2
      clear hA hZ FI FIN c2 hai hij hjb
      go_wp2_with fail
      go_loopw [13] (fun x wr => ∃ (k : Nat) (dk : Array Nat), x = .int .i64 k ∧ a ≤ k ∧ k ≤ q ∧ Hid (RI W0 B blk dk wr) ∧ Hid (InsL a k d dk) ∧ Hid (PermIn a b d dk)) (fun x _ => q - (intOf x).toNat)
      case atStart => exact ⟨a, d, rfl, Nat.le_refl _, haq, hS, InsL.zero a d, permIn_refl _ _ _⟩
      case round =>
        clear hS
        obtain ⟨k, dk, rfl, hak, hkq, hS, hI, hP⟩ := hrel
        by_cases hlt : k < q
        · have i2 : (k : Int) < (q : Int) := by omega
          have hz : dk.size = L := hP.out.1.trans HLD.out
          obtain ⟨r, hr⟩ : ∃ r, r = k + 1 := ⟨_, rfl⟩
          have I2 := hI.out.step (by omega) (by rw [HLD.out]; omega)
          have P2 : PermIn a b d (swp dk k (k + 1)) := permIn_trans _ _ _ _ _ hP.out (swp_permIn _ _ _ _ _ (by omega) (by omega) (by omega) (by omega) (by rw [hz]; omega))
          have HI3 : Hid (InsL a r d (swp dk k r)) := by rw [hr]; exact I2
          have HP3 : Hid (PermIn a b d (swp dk k r)) := by rw [hr]; exact P2
          have z1 := hS.out.2.2.cell (i := k) (by rw [hz]; omega)
          have z2 := hS.out.2.2.cell (i := r) (by rw [hz]; omega)
          have f1 := hS.out.2.2.frozen k
          have f2 := hS.out.2.2.frozen r
          have S3 := hS.out.drew.swap (i := k) (j := r) (by rw [hz]; omega) (by rw [hz]; omega)
          obtain ⟨u, hu⟩ : ∃ u, u = dk[k]! := ⟨_, rfl⟩
          obtain ⟨v, hv⟩ : ∃ v, v = dk[r]! := ⟨_, rfl⟩
          rw [← hu, ← hv] at S3
          rw [← hu] at z1
          rw [← hv] at z2
          have S4 := Lib.hid S3
          have z3 : ((wr.drew.setCell ⟨blk, k, none⟩ (.int .i64 v)).cell? ⟨blk, r, none⟩) = some (.int .i64 v) := by
            rw [World.cell?_setCell_other _ _ _ _ (by intro e'; simp only [Addr.mk.injEq] at e'; omega)]
            exact z2
          have k1 : (k : Int) < (L : Int) := by omega
          have k2 : (r : Int) < (L : Int) := by omega
          have er : (k : Int) + 1 = (r : Int) := by omega
          have b1 : r ≤ 8192 := by omega
          have N1 : Hid (a ≤ r) := by unfold Hid; omega
          have N2 : Hid (r ≤ q) := by unfold Hid; omega
          have N3 : Hid (q - r < q - k) := by unfold Hid; omega
          have g1 := kwrap_small r b1
          have g2 := wrap64_small r b1
          clear S3 hS hI hP I2 P2 hu hv hr hz b1
          go_wp2_with fail
          have mixed : Tryz.prog.follows Departure.mixedOrders = true := by kernel_rfl
          go_big_region_o
          clear mixed z1 z2 z3 f1 f2
          go_wp2_with fail
          go_roundw
          case rel => exact ⟨r, swp dk k r, by first | rfl | go_num, N1.out, N2.out, S4, HI3, HP3⟩
          case measure =>
            have n3 := N3.out
            clear g1 g2 er c1 c3 c4 k1 k2
            simp [intOf]; omega
        · have e : k = q := by omega
          subst e
          have i2 : ¬ (k : Int) < (k : Int) := by omega
          go_wp2_with fail
          refine bodyPost_ret (v := .tuple #[]) (by simp [results, Tryz.results373, go_sem]) rfl ⟨rfl, dk, hS.out, hP.out, FJ.out dk hI.out⟩
end
end Go.Proofs.YtndhmahkglfopaaGreatDoor
/- slices.symMergeCmpFunc over a row of places: one place on the right. -/
namespace Go.Proofs.YtndhmahkglfopaaGreatDoor
open Go.RowKit Go.Sort
section
/- the comparison's region: the right place, the left row's place -/
variable (W0 w : World) (B g : Nat) (cb : Array Value) (N : Nat) (cf : Nat → Nat → Int) (blk cap : Nat)
set_option maxHeartbeats 4000000
set_option maxRecDepth 100000
theorem symR_any (a m L : Nat) (d : Array Nat) (hE : ∀ (args : Array Value) (W : World), (callFunc g args).run Tryz.prog W = .ok (.enter g args) W) (hSW : SWO (ltC cf)) (hC : CmpOk W0 B g cb N cf) (hB : B ≤ W0.heap.size) (hS : RI W0 B blk d w) (hN : InN N d) (hL : d.size = L) (hsz : L ≤ 4096) (ham : a + 1 < m) (hb : m + 1 ≤ L) (hs1 : SortedIn (ltC cf) a m d) :
    Calls Tryz.prog 373 #[.slice (some ⟨blk, 0, none⟩) L cap, .int .i64 a, .int .i64 m, .int .i64 (m + 1 : Nat), .func (.func g) #[] cb] w fun e w' => e = .returned (.tuple #[]) ∧ ∃ d', RI W0 B blk d' w' ∧ PermIn a (m + 1) d d' ∧ SortedIn (ltC cf) a (m + 1) d' := by
  have HC := Lib.hid hC
  have HE := Lib.hid hE
  have S0 := Lib.hid hS
  have N0 := Lib.hid hN
  have HLD := Lib.hid hL
  have FIN : Hid (∀ i c, InsR m i d c → a ≤ i → i ≤ m → (i = a ∨ ltC cf d[m]! d[i - 1]! = false) → (i = m ∨ ltC cf d[m]! d[i]! = true) → SortedIn (ltC cf) a (m + 1) c) := fun i c h1 h2 h3 h4 h5 => InsR.sorted hSW hs1 h1 h2 h3 h4 h5
  obtain ⟨q0, hq0⟩ : ∃ q, q = m - a := ⟨_, rfl⟩
  have w0 : wrap64 ((m : Int) - (a : Int)) = (q0 : Int) := by rw [show (m : Int) - (a : Int) = (q0 : Int) by omega]; exact IntWalk.wrap64_in _ (by omega)
  have w0k : IntKind.i64.wrap ((m : Int) - (a : Int)) = (q0 : Int) := by rw [show (m : Int) - (a : Int) = (q0 : Int) by omega, IntKind.wrap_i64]; omega
  have n0 : ((q0 : Int) == 1) = false := beq_eq_false_iff_ne.2 (by omega)
  have n00 : ¬ (q0 : Int) = 1 := by omega
  have w1 : wrap64 (((m + 1 : Nat) : Int) - (m : Int)) = 1 := by rw [show ((m + 1 : Nat) : Int) - (m : Int) = 1 by omega]; exact IntWalk.wrap64_in _ (by omega)
  have w1k : IntKind.i64.wrap (((m + 1 : Nat) : Int) - (m : Int)) = 1 := by rw [show ((m + 1 : Nat) : Int) - (m : Int) = 1 by omega, IntKind.wrap_i64]; omega
  obtain ⟨b, hbm⟩ : ∃ b, b = m + 1 := ⟨_, rfl⟩
  rw [← hbm] at w1 w1k ⊢
  have HBM := Lib.hid hbm
  clear hC hE hS hN hL hs1 hbm hq0
  go_enter Tryz.func373, Tryz.ntmps373
  go_wp2_with fail
  clear w0 w0k n0 n00 w1 w1k
  go_loopw [14, 15] (fun x y wr => ∃ (i j : Nat), x = .int .i64 i ∧ y = .int .i64 j ∧ a ≤ i ∧ i ≤ j ∧ j ≤ m ∧ Hid (RI W0 B blk d wr) ∧ Hid (i = a ∨ ltC cf d[m]! d[i - 1]! = false) ∧ Hid (j = m ∨ ltC cf d[m]! d[j]! = true)) (fun x y _ => (intOf y).toNat - (intOf x).toNat)
  case atStart => exact ⟨a, m, rfl, rfl, Nat.le_refl _, by omega, Nat.le_refl _, S0, .inl rfl, .inl rfl⟩
  case round =>
    clear S0
    obtain ⟨i, j, rfl, rfl, hai, hij, hjb, hS, hA, hZ⟩ := hrel
    by_cases hlt : i < j
    · have i1 : (i : Int) < (j : Int) := by omega
      obtain ⟨h, hh⟩ : ∃ h, h = (i + j) / 2 := ⟨_, rfl⟩
      obtain ⟨p, hp⟩ : ∃ p, p = i + j := ⟨_, rfl⟩
      have e1 : (i : Int) + (j : Int) = (p : Int) := by omega
      have e2 : (p : Int) / 2 = (h : Int) := by omega
      have b1 : p ≤ 8192 := by omega
      have b2 : h ≤ 8192 := by omega
      have B1 : Hid (i ≤ h) := by unfold Hid; omega
      have B2 : Hid (h < j) := by unfold Hid; omega
      have u1 := kwrap_small p b1
      have u2 := wrap64_small p b1
      have u3 := ku64_small p b1
      have u4 := kwrap_small h b2
      have u5 := wrap64_small h b2
      clear b1
      have HPP := Lib.hid hp
      have HHH := Lib.hid hh
      clear hp hh
      go_upto_region 17 with fail
      clear e1 e2 u1 u2 u3 u4 u5
      have hp := HPP.out
      have hh := HHH.out
      have B4 : Hid (a ≤ h + 1) := by unfold Hid; omega
      have B5 : Hid (h ≤ m) := by unfold Hid; omega
      have k1 : (h : Int) < (L : Int) := by omega
      have k2 : (m : Int) < (L : Int) := by omega
      have x2 := hS.out.2.2.cell (i := h) (by rw [HLD.out]; omega)
      have x1 := hS.out.2.2.cell (i := m) (by rw [HLD.out]; omega)
      have n1 := N0.out h (by rw [HLD.out]; omega)
      have n2 := N0.out m (by rw [HLD.out]; omega)
      have hcmp := Lib.hid (HC.out wr.drew hS.out.1.drew _ _ n2 n1)
      obtain ⟨u, hu⟩ : ∃ u, u = d[m]! := ⟨_, rfl⟩
      obtain ⟨v, hv⟩ : ∃ v, v = d[h]! := ⟨_, rfl⟩
      have HU := Lib.hid hu
      have HV := Lib.hid hv
      rw [← hu] at x1
      rw [← hv] at x2
      have w7 := wrap64_succ h b2
      have w8 := kwrap_succ h b2
      clear b2
      clear hp hh hu hv n1 n2
      cases hlv : ltC cf u v with
      | true =>
        have hd0 : decide (cf u v < 0) = true := hlv
        have HD0 := Lib.hid hd0
        have NZ : Hid (h = m ∨ ltC cf d[m]! d[h]! = true) := by
          refine .inr ?_
          rw [← HU.out, ← HV.out]; exact hlv
        clear hlv hd0
        refine wp_region_multiR [([0, 1, 2, 3, 4, 5, 6, 7, 8], [9, 10, 11], [9, 10, 11])] (by kernel_rfl) (by kernel_rfl) ?_
        refine multi_phase (fun W => W.cell? ⟨blk, m, none⟩ = some (.int .i64 u) ∧ W.cell? ⟨blk, h, none⟩ = some (.int .i64 v)) ⟨x1, x2⟩ ?_
        iterate 9 (apply first_step; (rw [List.getElem?_toArray]; (repeat rw [List.getElem?_cons_succ]); rw [List.getElem?_cons_zero]); rfl; (rintro W ⟨u0, u1⟩; go_simp; (first | done | rfl)); go_frame)
        refine first_done ?_
        have ent := HE.out
        apply forced_step; (rw [List.getElem?_toArray]; (repeat rw [List.getElem?_cons_succ]); rw [List.getElem?_cons_zero]); rfl; intro K hK; go_simp
        clear ent
        have hc := hcmp.out
        rw [← HU.out, ← HV.out] at hc
        refine hc.mono ?_
        rintro e w2 ⟨rfl, hb2⟩
        refine hK _ _ (fun h => absurd (by decide) h) ?_
        clear hK K hc
        have hb3 : Below wr.heap.size wr w2 := (Below.refl _ wr).drew.trans hb2
        have S2 := Lib.hid (hS.out.below hB hb3)
        clear hb2 hb3 x1 x2
        have hd0 := HD0.out
        apply forced_step; (rw [List.getElem?_toArray]; (repeat rw [List.getElem?_cons_succ]); rw [List.getElem?_cons_zero]); rfl; intro K hK; go_simp; refine hK _ _ (fun h => absurd (by decide) h) ?_; clear hK K
        apply forced_step; (rw [List.getElem?_toArray]; (repeat rw [List.getElem?_cons_succ]); rw [List.getElem?_cons_zero]); rfl; intro K hK; go_simp; refine hK _ _ (fun h => absurd (by decide) h) ?_; clear hK K
        refine forced_done ?_
        refine multi_done ?_
        go_wp2_with fail
        clear hd0
        go_roundw
        case rel => exact ⟨i, h, rfl, by first | rfl | go_num, hai, B1.out, B5.out, S2, hA, NZ⟩
        case measure =>
          have b1 := B1.out
          have b2 := B2.out
          clear w7 w8 k1 k2
          simp [intOf]; omega
      | false =>
        have hd0 : decide (cf u v < 0) = false := hlv
        have HD0 := Lib.hid hd0
        have NA : Hid (h + 1 = a ∨ ltC cf d[m]! d[h + 1 - 1]! = false) := by
          refine .inr ?_
          rw [show h + 1 - 1 = h by omega, ← HU.out, ← HV.out]; exact hlv
        clear hlv hd0
        refine wp_region_multiR [([0, 1, 2, 3, 4, 5, 6, 7, 8], [9, 10, 11], [9, 10, 11])] (by kernel_rfl) (by kernel_rfl) ?_
        refine multi_phase (fun W => W.cell? ⟨blk, m, none⟩ = some (.int .i64 u) ∧ W.cell? ⟨blk, h, none⟩ = some (.int .i64 v)) ⟨x1, x2⟩ ?_
        iterate 9 (apply first_step; (rw [List.getElem?_toArray]; (repeat rw [List.getElem?_cons_succ]); rw [List.getElem?_cons_zero]); rfl; (rintro W ⟨u0, u1⟩; go_simp; (first | done | rfl)); go_frame)
        refine first_done ?_
        have ent := HE.out
        apply forced_step; (rw [List.getElem?_toArray]; (repeat rw [List.getElem?_cons_succ]); rw [List.getElem?_cons_zero]); rfl; intro K hK; go_simp
        clear ent
        have hc := hcmp.out
        rw [← HU.out, ← HV.out] at hc
        refine hc.mono ?_
        rintro e w2 ⟨rfl, hb2⟩
        refine hK _ _ (fun h => absurd (by decide) h) ?_
        clear hK K hc
        have hb3 : Below wr.heap.size wr w2 := (Below.refl _ wr).drew.trans hb2
        have S2 := Lib.hid (hS.out.below hB hb3)
        clear hb2 hb3 x1 x2
        have hd0 := HD0.out
        apply forced_step; (rw [List.getElem?_toArray]; (repeat rw [List.getElem?_cons_succ]); rw [List.getElem?_cons_zero]); rfl; intro K hK; go_simp; refine hK _ _ (fun h => absurd (by decide) h) ?_; clear hK K
        apply forced_step; (rw [List.getElem?_toArray]; (repeat rw [List.getElem?_cons_succ]); rw [List.getElem?_cons_zero]); rfl; intro K hK; go_simp; refine hK _ _ (fun h => absurd (by decide) h) ?_; clear hK K
        refine forced_done ?_
        refine multi_done ?_
        go_wp2_with fail
        clear hd0
        go_roundw
        case rel => exact ⟨h + 1, j, by first | rfl | go_num, rfl, B4.out, B2.out, hjb, S2, NA, hZ⟩
        case measure =>
          have b1 := B1.out
          have b2 := B2.out
          clear w7 w8 k1 k2
          simp [intOf]; omega
    · have i1 : ¬ (i : Int) < (j : Int) := by omega
      have e : i = j := by omega
      subst e
      have FJ := Lib.hid (fun c h1 => FIN.out i c h1 hai hjb hA.out hZ.out)
      have HB2 : Hid (b = m + 1) := HBM
      clear hA hZ FIN hij
      go_wp2_with fail
      go_loopw [17] (fun x wr => ∃ (k : Nat) (dk : Array Nat), x = .int .i64 k ∧ i ≤ k ∧ k ≤ m ∧ Hid (RI W0 B blk dk wr) ∧ Hid (InsR m k d dk) ∧ Hid (PermIn a (m + 1) d dk)) (fun x _ => (intOf x).toNat)
      case atStart => exact ⟨m, d, rfl, hjb, Nat.le_refl _, hS, InsR.zero m d, permIn_refl _ _ _⟩
      case round =>
        clear hS
        obtain ⟨r, dk, rfl, hik, hkm, hS, hI, hP⟩ := hrel
        by_cases hlt : i < r
        · have i2 : (i : Int) < (r : Int) := by omega
          have hz : dk.size = L := hP.out.1.trans HLD.out
          obtain ⟨k, hk⟩ : ∃ k, r = k + 1 := ⟨r - 1, by omega⟩
          have I1 := hI.out
          rw [hk] at I1
          have I2 := I1.step (by omega) (by rw [HLD.out]; omega)
          have P2 : PermIn a (m + 1) d (swp dk (k + 1) k) := permIn_trans _ _ _ _ _ hP.out (swp_permIn _ _ _ _ _ (by omega) (by omega) (by omega) (by omega) (by rw [hz]; omega))
          have HI3 : Hid (InsR m k d (swp dk r k)) := by rw [hk]; exact I2
          have HP3 : Hid (PermIn a (m + 1) d (swp dk r k)) := by rw [hk]; exact P2
          have z1 := hS.out.2.2.cell (i := r) (by rw [hz]; omega)
          have z2 := hS.out.2.2.cell (i := k) (by rw [hz]; omega)
          have f1 := hS.out.2.2.frozen r
          have f2 := hS.out.2.2.frozen k
          have S3 := hS.out.drew.swap (i := r) (j := k) (by rw [hz]; omega) (by rw [hz]; omega)
          obtain ⟨u, hu⟩ : ∃ u, u = dk[r]! := ⟨_, rfl⟩
          obtain ⟨v, hv⟩ : ∃ v, v = dk[k]! := ⟨_, rfl⟩
          rw [← hu, ← hv] at S3
          rw [← hu] at z1
          rw [← hv] at z2
          have S4 := Lib.hid S3
          have z3 : ((wr.drew.setCell ⟨blk, r, none⟩ (.int .i64 v)).cell? ⟨blk, k, none⟩) = some (.int .i64 v) := by
            rw [World.cell?_setCell_other _ _ _ _ (by intro e'; simp only [Addr.mk.injEq] at e'; omega)]
            exact z2
          have k1 : (r : Int) < (L : Int) := by omega
          have k2 : (k : Int) < (L : Int) := by omega
          have er : (r : Int) - 1 = (k : Int) := by omega
          have b1 : k ≤ 8192 := by omega
          have N1 : Hid (i ≤ k) := by unfold Hid; omega
          have N2 : Hid (k ≤ m) := by unfold Hid; omega
          have N3 : Hid (k < r) := by unfold Hid; omega
          have g1 := kwrap_small k b1
          have g2 := wrap64_small k b1
          clear S3 hS hI hP I1 I2 P2 hu hv hk hz b1
          go_wp2_with fail
          have mixed : Tryz.prog.follows Departure.mixedOrders = true := by kernel_rfl
          go_big_region_o
          clear mixed z1 z2 z3 f1 f2
          go_wp2_with fail
          go_roundw
          case rel => exact ⟨k, swp dk r k, by first | rfl | go_num, N1.out, N2.out, S4, HI3, HP3⟩
          case measure =>
            have n3 := N3.out
            clear g1 g2 er k1 k2
            simp [intOf]; omega
        · have e : r = i := by omega
          subst e
          have i2 : ¬ (r : Int) < (r : Int) := by omega
          go_wp2_with fail
          refine bodyPost_ret (v := .tuple #[]) (by simp [results, Tryz.results373, go_sem]) rfl ⟨rfl, dk, hS.out, by rw [HB2.out]; exact hP.out, by rw [HB2.out]; exact FJ.out dk hI.out⟩
end
end Go.Proofs.YtndhmahkglfopaaGreatDoor
