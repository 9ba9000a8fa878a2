/- slices.symMergeCmpFunc over a row of places: the general case; whatever the row. -/
import Derived.Deep.DeepCutAuto
import Derived.Deep.CutBlock
import Derived.Test.YtndhmahkglfopaaGreatDoorQT16SF
namespace Go.Proofs.YtndhmahkglfopaaGreatDoor
open Go.RowKit Go.Sort
section
/-- The search's bounds. -/
structure SymB (a m b mid st0 r0 : Nat) : Prop where
  h1 : a ≤ st0
  h2 : st0 ≤ r0
  h3 : r0 ≤ mid
  h4 : r0 ≤ m
  h5 : mid + m ≤ st0 + b
  h6 : st0 = a ∨ mid + m = st0 + b
  h7 : r0 = mid ∨ r0 = m
  h8 : a < mid
  h9 : mid < b
/- the comparison's region: the place n - 1 - c, the place c -/
/- one of the three ifs: $1: the left condition, $2: the right one (both about Nats), $3: the call's contract, $4: what is known where nothing is done -/
variable (W0 w : World) (B g : Nat) (cb : Array Value) (N : Nat) (cf : Nat → Nat → Int) (blk cap : Nat)
set_option maxHeartbeats 4000000
set_option maxRecDepth 100000
/-- symMerge, of whatever two rows whose whole is shorter than k. -/
def SymK (W0 : World) (B g : Nat) (cb : Array Value) (N : Nat) (cf : Nat → Nat → Int) (blk L cap k : Nat) : Prop :=
  ∀ (w : World) (d : Array Nat) (a m b : Nat), RI W0 B blk d w → InN N d → d.size = L → a < m → m < b → b ≤ L → b - a < k → SortedIn (ltC cf) a m d → SortedIn (ltC cf) m b d →
    Calls Tryz.prog 373 #[.slice (some ⟨blk, 0, none⟩) L cap, .int .i64 a, .int .i64 m, .int .i64 b, .func (.func g) #[] cb] w fun e w' => e = .returned (.tuple #[]) ∧ ∃ d', RI W0 B blk d' w' ∧ PermIn a b d d' ∧ SortedIn (ltC cf) a b d'
/-- Where the search begins. -/
theorem symB_of {a m b mid : Nat} (ham : a + 1 < m) (hmb : m + 1 < b) (hmid : mid = (a + b) / 2) :
    (mid < m → SymB a m b mid (mid + m - b) mid) ∧ (¬ mid < m → SymB a m b mid a m) :=
  ⟨fun h => ⟨by omega, by omega, by omega, by omega, by omega, .inr (by omega), .inl rfl, by omega, by omega⟩, fun h => ⟨by omega, by omega, by omega, by omega, by omega, .inl rfl, .inr rfl, by omega, by omega⟩⟩
/-- The row, the halves' parts in their places. -/
def SymR (W0 : World) (B N : Nat) (cf : Nat → Nat → Int) (blk L a b mid st en : Nat) (d : Array Nat) (wx : World) : Prop :=
  ∃ d1, RI W0 B blk d1 wx ∧ InN N d1 ∧ d1.size = L ∧ PermIn a b d d1 ∧ (∀ x y, a ≤ x → x < mid → mid ≤ y → y < b → ltC cf d1[y]! d1[x]! = false) ∧ SortedIn (ltC cf) a st d1 ∧ SortedIn (ltC cf) st mid d1 ∧ SortedIn (ltC cf) mid en d1 ∧ SortedIn (ltC cf) en b d1
/-- The left half in order. -/
def SymS (W0 : World) (B N : Nat) (cf : Nat → Nat → Int) (blk L a b mid en : Nat) (d : Array Nat) (wx : World) : Prop :=
  ∃ d1 d2, RI W0 B blk d2 wx ∧ InN N d2 ∧ d2.size = L ∧ d1.size = L ∧ PermIn a b d d1 ∧ (∀ x y, a ≤ x → x < mid → mid ≤ y → y < b → ltC cf d1[y]! d1[x]! = false) ∧ PermIn a mid d1 d2 ∧ SortedIn (ltC cf) a mid d2 ∧ SortedIn (ltC cf) mid en d2 ∧ SortedIn (ltC cf) en b d2
/- the search and what follows; $1, $2: where it begins -/
theorem symG_1 (a m b L : Nat) (d : Array Nat) (hE : ∀ (args : Array Value) (W : World), (callFunc g args).run Tryz.prog W = .ok (.enter g args) W) (hSW : SWO (ltC cf)) (hC : CmpOk W0 B g cb N cf) (hB : B ≤ W0.heap.size) (hS : RI W0 B blk d w) (hN : InN N d) (hL : d.size = L) (hsz : L ≤ 4096) (ham : a + 1 < m) (hmb : m + 1 < b) (hb : b ≤ L) (hs1 : SortedIn (ltC cf) a m d) (hs2 : SortedIn (ltC cf) m b d) (hIH : SymK W0 B g cb N cf blk L cap (b - a)) (hmm0 : (a + b) / 2 < m) :
    Calls Tryz.prog 373 #[.slice (some ⟨blk, 0, none⟩) L cap, .int .i64 a, .int .i64 m, .int .i64 b, .func (.func g) #[] cb] w fun e w' => e = .returned (.tuple #[]) ∧ ∃ d', RI W0 B blk d' w' ∧ PermIn a b d d' ∧ SortedIn (ltC cf) a b d' := by
  have HC := Lib.hid hC
  have HE := Lib.hid hE
  have S0 := Lib.hid hS
  have N0 := Lib.hid hN
  have HLD := Lib.hid hL
  have HSW := Lib.hid hSW
  have HS1 := Lib.hid hs1
  have HS2 := Lib.hid hs2
  have HIH := Lib.hid hIH
  have HBL := Lib.hid hb
  have HSZ := Lib.hid hsz
  obtain ⟨q0, hq0⟩ : ∃ q, q = m - a := ⟨_, rfl⟩
  obtain ⟨q1, hq1⟩ : ∃ q, q = b - m := ⟨_, rfl⟩
  obtain ⟨p, hp⟩ : ∃ p, p = a + b := ⟨_, rfl⟩
  obtain ⟨mid, hmid⟩ : ∃ mid, mid = (a + b) / 2 := ⟨_, rfl⟩
  obtain ⟨n, hn⟩ : ∃ n, n = mid + m := ⟨_, rfl⟩
  obtain ⟨p2, hp2⟩ : ∃ p2, p2 = n - 1 := ⟨_, rfl⟩
  obtain ⟨st0, hst⟩ : ∃ st0, st0 = n - b := ⟨_, rfl⟩
  have hmm : mid < m := by rw [hmid]; exact hmm0
  clear hmm0
  have HNN : Hid (n = mid + m) := hn
  have HPP2 : Hid (p2 = n - 1) := hp2
  have SBY := Lib.hid (symB_of ham hmb hmid)
  have e0 : (m : Int) - (a : Int) = (q0 : Int) := by omega
  have e1 : (b : Int) - (m : Int) = (q1 : Int) := by omega
  have e2 : (a : Int) + (b : Int) = (p : Int) := by omega
  have e3 : (p : Int) / 2 = (mid : Int) := by omega
  have e4 : (mid : Int) + (m : Int) = (n : Int) := by omega
  have e5 : (n : Int) - 1 = (p2 : Int) := by omega
  have n0 : ((q0 : Int) == 1) = false := beq_eq_false_iff_ne.2 (by omega)
  have n00 : ¬ (q0 : Int) = 1 := by omega
  have n1 : ((q1 : Int) == 1) = false := beq_eq_false_iff_ne.2 (by omega)
  have n11 : ¬ (q1 : Int) = 1 := by omega
  have l0 : q0 ≤ 8192 := by omega
  have l1 : q1 ≤ 8192 := by omega
  have l2 : p ≤ 8192 := by omega
  have l3 : mid ≤ 8192 := by omega
  have l4 : n ≤ 8192 := by omega
  have l5 : p2 ≤ 8192 := by omega
  have l6 : st0 ≤ 8192 := by omega
  have SB := SBY.out.1 hmm
  rw [← hn, ← hst] at SB
  have HSB := Lib.hid SB
  have e6 : (n : Int) - (b : Int) = (st0 : Int) := by have := SB.h5; omega
  have m1 : (mid : Int) < (m : Int) := by omega
  clear SB SBY hC hE hS hN hL hs1 hs2 hIH hq0 hq1 hp hmid hn hp2 hst hb hsz ham hmb hmm hSW
  have u0 := kwrap_small q0 l0
  have v0 := wrap64_small q0 l0
  have u1 := kwrap_small q1 l1
  have v1 := wrap64_small q1 l1
  have u2 := kwrap_small p l2
  have v2 := wrap64_small p l2
  have x2 := ku64_small p l2
  have u3 := kwrap_small mid l3
  have v3 := wrap64_small mid l3
  have u4 := kwrap_small n l4
  have v4 := wrap64_small n l4
  have u5 := kwrap_small p2 l5
  have v5 := wrap64_small p2 l5
  have u6 := kwrap_small st0 l6
  have v6 := wrap64_small st0 l6
  clear l0 l1 l2 l3 l4 l5 l6
  go_enter Tryz.func373, Tryz.ntmps373
  go_wp2_with fail
  clear e0 e1 e2 e3 e4 e5 e6 n0 n00 n1 n11 u0 v0 u1 v1 u2 v2 x2 u3 v3 u4 v4 u5 v5 u6 v6 m1
  go_loopw [20, 21] (fun x y wr => ∃ (i j : Nat), x = .int .i64 i ∧ y = .int .i64 j ∧ st0 ≤ i ∧ i ≤ j ∧ j ≤ mid ∧ Hid (RI W0 B blk d wr) ∧ Hid (i = st0 ∨ ltC cf d[n - i]! d[i - 1]! = false) ∧ Hid (j = mid ∨ ltC cf d[n - 1 - j]! d[j]! = true)) (fun x y _ => (intOf y).toNat - (intOf x).toNat)
  case atStart => exact ⟨st0, mid, by first | rfl | go_num, by first | rfl | go_num, Nat.le_refl _, HSB.out.h2, Nat.le_refl _, S0, .inl rfl, .inl rfl⟩
  case round =>
    clear S0
    obtain ⟨i, j, rfl, rfl, hai, hij, hjb, hS, hA, hZ⟩ := hrel
    by_cases hlt : i < j
    · as_aux_lemma =>
      have i1 : (i : Int) < (j : Int) := by omega
      have sb := HSB.out
      obtain ⟨b1, b2, b3, b4, b5, b6, b7, b8, b9⟩ := sb
      have hn := HNN.out
      have hp2 := HPP2.out
      have hbl := HBL.out
      have hsz := HSZ.out
      obtain ⟨h, hh⟩ : ∃ h, h = (i + j) / 2 := ⟨_, rfl⟩
      obtain ⟨p, hp⟩ : ∃ p, p = i + j := ⟨_, rfl⟩
      obtain ⟨q, hq⟩ : ∃ q, q = n - 1 - h := ⟨_, rfl⟩
      have e1 : (i : Int) + (j : Int) = (p : Int) := by omega
      have e2 : (p : Int) / 2 = (h : Int) := by omega
      have e3 : (p2 : Int) - (h : Int) = (q : Int) := by omega
      have l1 : p ≤ 8192 := by omega
      have l2 : h ≤ 8192 := by omega
      have l3 : q ≤ 8192 := by omega
      have B1 : Hid (i ≤ h) := by unfold Hid; omega
      have B2 : Hid (h < j) := by unfold Hid; omega
      have B4 : Hid (st0 ≤ h + 1) := by unfold Hid; omega
      have B5 : Hid (h ≤ mid) := by unfold Hid; omega
      have HQ : Hid (q = n - 1 - h) := hq
      have k1 : (h : Int) < (L : Int) := by omega
      have k2 : (q : Int) < (L : Int) := by omega
      have x2 := hS.out.2.2.cell (i := h) (by rw [HLD.out]; omega)
      have x1 := hS.out.2.2.cell (i := q) (by rw [HLD.out]; omega)
      have n1 := N0.out h (by rw [HLD.out]; omega)
      have n2 := N0.out q (by rw [HLD.out]; omega)
      have HH1 : Hid (n - (h + 1) = q ∧ h + 1 - 1 = h ∧ n - 1 - h = q) := by unfold Hid; omega
      have hcmp := Lib.hid (HC.out wr.drew hS.out.1.drew _ _ n2 n1)
      obtain ⟨u, hu⟩ : ∃ u, u = d[q]! := ⟨_, rfl⟩
      obtain ⟨v, hv⟩ : ∃ v, v = d[h]! := ⟨_, rfl⟩
      have HU := Lib.hid hu
      have HV := Lib.hid hv
      rw [← hu] at x1
      rw [← hv] at x2
      clear b1 b2 b3 b4 b5 b6 b7 b8 b9 hn hp2 hh hp hq hu hv n1 n2 hbl hsz
      have u1 := kwrap_small p l1
      have u2 := wrap64_small p l1
      have u3 := ku64_small p l1
      have u4 := kwrap_small h l2
      have u5 := wrap64_small h l2
      have v1 := kwrap_small q l3
      have v2 := wrap64_small q l3
      have w7 := wrap64_succ h l2
      have w8 := kwrap_succ h l2
      clear l1 l2 l3
      cases hlv : ltC cf u v with
      | true =>
        have hd0 : decide (cf u v < 0) = true := hlv
        have HD0 := Lib.hid hd0
        have NZ : Hid (h = mid ∨ ltC cf d[n - 1 - h]! d[h]! = true) := by
          refine .inr ?_
          rw [HH1.out.2.2, ← HU.out, ← HV.out]; exact hlv
        clear hlv hd0
        go_upto_region 35 with fail
        clear e1 e2 u1 u2 u3
        refine wp_region_multiR [([0, 1, 2, 3, 4, 5, 6, 7, 8, 9, 10], [11, 12, 13], [11, 12, 13])] (by kernel_rfl) (by kernel_rfl) ?_
        refine multi_phase (fun W => W.cell? ⟨blk, q, none⟩ = some (.int .i64 u) ∧ W.cell? ⟨blk, h, none⟩ = some (.int .i64 v)) ⟨x1, x2⟩ ?_
        iterate 11 (apply first_step; (rw [List.getElem?_toArray]; (repeat rw [List.getElem?_cons_succ]); rw [List.getElem?_cons_zero]); rfl; (rintro W ⟨u0, u1⟩; go_simp; (first | done | rfl)); go_frame)
        refine first_done ?_
        have ent := HE.out
        apply forced_step; (rw [List.getElem?_toArray]; (repeat rw [List.getElem?_cons_succ]); rw [List.getElem?_cons_zero]); rfl; intro K hK; go_simp
        clear ent
        have hc := hcmp.out
        rw [← HU.out, ← HV.out] at hc
        refine hc.mono ?_
        rintro e w2 ⟨rfl, hb2⟩
        refine hK _ _ (fun h => absurd (by decide) h) ?_
        clear hK K hc
        have hb3 : Below wr.heap.size wr w2 := (Below.refl _ wr).drew.trans hb2
        have S2 := Lib.hid (hS.out.below hB hb3)
        clear hb2 hb3 x1 x2
        have hd0 := HD0.out
        apply forced_step; (rw [List.getElem?_toArray]; (repeat rw [List.getElem?_cons_succ]); rw [List.getElem?_cons_zero]); rfl; intro K hK; go_simp; refine hK _ _ (fun h => absurd (by decide) h) ?_; clear hK K
        apply forced_step; (rw [List.getElem?_toArray]; (repeat rw [List.getElem?_cons_succ]); rw [List.getElem?_cons_zero]); rfl; intro K hK; go_simp; refine hK _ _ (fun h => absurd (by decide) h) ?_; clear hK K
        refine forced_done ?_
        refine multi_done ?_
        go_wp2_with fail
        clear hd0
        go_roundw
        case rel => exact ⟨i, h, rfl, by first | rfl | go_num, hai, B1.out, B5.out, S2, hA, NZ⟩
        case measure =>
          have c1 := B1.out
          have c2 := B2.out
          clear w7 w8 k1 k2 u4 u5 v1 v2 e3
          simp [intOf]; omega
      | false =>
        have hd0 : decide (cf u v < 0) = false := hlv
        have HD0 := Lib.hid hd0
        have NA : Hid (h + 1 = st0 ∨ ltC cf d[n - (h + 1)]! d[h + 1 - 1]! = false) := by
          refine .inr ?_
          rw [HH1.out.1, HH1.out.2.1, ← HU.out, ← HV.out]; exact hlv
        clear hlv hd0
        go_upto_region 35 with fail
        clear e1 e2 u1 u2 u3
        refine wp_region_multiR [([0, 1, 2, 3, 4, 5, 6, 7, 8, 9, 10], [11, 12, 13], [11, 12, 13])] (by kernel_rfl) (by kernel_rfl) ?_
        refine multi_phase (fun W => W.cell? ⟨blk, q, none⟩ = some (.int .i64 u) ∧ W.cell? ⟨blk, h, none⟩ = some (.int .i64 v)) ⟨x1, x2⟩ ?_
        iterate 11 (apply first_step; (rw [List.getElem?_toArray]; (repeat rw [List.getElem?_cons_succ]); rw [List.getElem?_cons_zero]); rfl; (rintro W ⟨u0, u1⟩; go_simp; (first | done | rfl)); go_frame)
        refine first_done ?_
        have ent := HE.out
        apply forced_step; (rw [List.getElem?_toArray]; (repeat rw [List.getElem?_cons_succ]); rw [List.getElem?_cons_zero]); rfl; intro K hK; go_simp
        clear ent
        have hc := hcmp.out
        rw [← HU.out, ← HV.out] at hc
        refine hc.mono ?_
        rintro e w2 ⟨rfl, hb2⟩
        refine hK _ _ (fun h => absurd (by decide) h) ?_
        clear hK K hc
        have hb3 : Below wr.heap.size wr w2 := (Below.refl _ wr).drew.trans hb2
        have S2 := Lib.hid (hS.out.below hB hb3)
        clear hb2 hb3 x1 x2
        have hd0 := HD0.out
        apply forced_step; (rw [List.getElem?_toArray]; (repeat rw [List.getElem?_cons_succ]); rw [List.getElem?_cons_zero]); rfl; intro K hK; go_simp; refine hK _ _ (fun h => absurd (by decide) h) ?_; clear hK K
        apply forced_step; (rw [List.getElem?_toArray]; (repeat rw [List.getElem?_cons_succ]); rw [List.getElem?_cons_zero]); rfl; intro K hK; go_simp; refine hK _ _ (fun h => absurd (by decide) h) ?_; clear hK K
        refine forced_done ?_
        refine multi_done ?_
        go_wp2_with fail
        clear hd0
        go_roundw
        case rel => exact ⟨h + 1, j, by first | rfl | go_num, rfl, B4.out, B2.out, hjb, S2, NA, hZ⟩
        case measure =>
          have c1 := B1.out
          have c2 := B2.out
          clear w7 w8 k1 k2 u4 u5 v1 v2 e3
          simp [intOf]; omega
    · have i1 : ¬ (i : Int) < (j : Int) := by omega
      have e : i = j := by omega
      subst e
      have sb := HSB.out
      obtain ⟨b1, b2, b3, b4, b5, b6, b7, b8, b9⟩ := sb
      have hn := HNN.out
      have hbl := HBL.out
      have hsz := HSZ.out
      obtain ⟨en, hen⟩ : ∃ en, en = n - i := ⟨_, rfl⟩
      have e3 : (n : Int) - (i : Int) = (en : Int) := by omega
      have l3 : en ≤ 8192 := by omega
      have F1 : Hid (a ≤ i ∧ i ≤ m ∧ i ≤ mid ∧ m ≤ en ∧ mid ≤ en ∧ en ≤ b ∧ i + en = mid + m ∧ a < mid ∧ mid < b) := by unfold Hid; omega
      have hA' : i = a ∨ en = b ∨ ltC cf d[en]! d[i - 1]! = false := by
        rcases hA.out with q | q
        · rcases b6 with q2 | q2
          · exact .inl (q.trans q2)
          · exact .inr (.inl (by omega))
        · exact .inr (.inr (by rw [hen]; exact q))
      have hB' : i = mid ∨ en = mid ∨ ltC cf d[en - 1]! d[i]! = true := by
        rcases hZ.out with q | q
        · rcases b7 with q2 | q2
          · exact .inl (q.trans q2)
          · exact .inr (.inl (by omega))
        · exact .inr (.inr (by rw [hen, show n - i - 1 = n - 1 - i by omega]; exact q))
      have MK : Hid (∀ wx d1, RI W0 B blk d1 wx → Rot i m en d d1 → PermIn i en d d1 → SymR W0 B N cf blk L a b mid i en d wx) := by
        intro wx d1 hr hrot hp
        obtain ⟨f1, f2, f3, f4, f5, f6, f7, f8, f9⟩ := F1.out
        obtain ⟨s1, s2, s3, s4, s5⟩ := sym_split HSW.out HS1.out HS2.out (mid := mid) (st := i) (en := en) (d' := d1) (by omega) f1 f2 f3 f4 f5 f6 f7 hA' hB' hrot
        have hp2 : PermIn a b d d1 := permIn_mono _ _ _ _ _ _ f1 f6 (by rw [HLD.out]; exact HBL.out) hp
        exact ⟨d1, hr, N0.out.perm (by rw [HLD.out]; exact HBL.out) hp2, hp2.1.trans HLD.out, hp2, s1, s2, s3, s4, s5⟩
      have NOR : Hid (¬ (i < m ∧ m < en) → Rot i m en d d) := by
        intro hno
        obtain ⟨f1, f2, f3, f4, f5, f6, f7, f8, f9⟩ := F1.out
        by_cases q : i < m
        · have : en = m := by omega
          rw [this]
          exact Rot.none' i m d
        · have : i = m := by omega
          rw [this]
          exact Rot.none m en d
      clear hA hZ hA' hB' b1 b2 b3 b4 b5 b6 b7 b8 b9 hn hen hai hij hjb hbl hsz
      have v1 := kwrap_small en l3
      have v2 := wrap64_small en l3
      clear l3
      have HKR := Lib.hid (fun wx (h1 : i < m) (h2 : m < en) (hr : RI W0 B blk d wx) => rotate_any W0 wx B g cb blk cap i m en L d hr HLD.out HSZ.out h1 h2 (Nat.le_trans F1.out.2.2.2.2.2.1 HBL.out))
      go_upto_region 39 with fail
      rename World => wo
      obtain ⟨t1, ht1⟩ : ∃ t : Bool, t = (decide (i < m) && decide (m < en)) := ⟨_, rfl⟩
      have HT1 := Lib.hid ht1
      clear ht1
      go_cut [185] (fun s wx => wo = wx ∧ s = .bool t1)
      case first =>
       as_aux_lemma =>
        by_cases g1 : i < m
        · have d1' : decide ((i : Int) < (m : Int)) = true := decide_eq_true (by omega)
          by_cases g2 : m < en
          · have d2' : decide ((m : Int) < (en : Int)) = true := decide_eq_true (by omega)
            have et : t1 = true := by rw [HT1.out]; simp [g1, g2]
            subst et
            clear HT1
            go_wp2_with fail
            go_meet
            exact ⟨rfl, rfl⟩
          · have d2' : decide ((m : Int) < (en : Int)) = false := decide_eq_false (by omega)
            have et : t1 = false := by rw [HT1.out]; simp [g2]
            subst et
            clear HT1
            go_wp2_with fail
            go_meet
            exact ⟨rfl, rfl⟩
        · have d1' : decide ((i : Int) < (m : Int)) = false := decide_eq_false (by omega)
          have et : t1 = false := by rw [HT1.out]; simp [g1]
          subst et
          clear HT1
          go_wp2_with fail
          go_meet
          exact ⟨rfl, rfl⟩
      case rest =>
      obtain ⟨rfl, rfl⟩ := hcut
      have HTY : Hid (t1 = true → i < m ∧ m < en) := fun h => by rw [HT1.out] at h; simpa using h
      have HTN : Hid (t1 = false → ¬ (i < m ∧ m < en)) := fun h hn => by rw [HT1.out] at h; simp [hn.1, hn.2] at h
      clear HT1
      go_upto_if 185 with fail
      go_cut [] (fun wx => Hid (SymR W0 B N cf blk L a b mid i en d wx))
      case first =>
       as_aux_lemma =>
        cases t1 with
        | true =>
          have hg := HTY.out rfl
          have key := HKR.out wo hg.1 hg.2 hS.out
          clear hg v1 v2 e3
          go_wp2_with fail
          refine key.mono ?_
          clear key
          rintro e w9 ⟨rfl, d9, r1, r2, r3⟩
          have R9 := Lib.hid (MK.out w9 d9 r1 r2 r3)
          clear r1 r2 r3
          go_wp2_with fail
          go_meet
          exact R9
        | false =>
          have R9 := Lib.hid (MK.out wo d hS.out (NOR.out (HTN.out rfl)) (permIn_refl _ _ _))
          clear v1 v2 e3
          go_wp2_with fail
          go_meet
          exact R9
      case rest =>
      clear MK NOR HKR hS HTY HTN
      obtain ⟨d1, r1, r2, r3, r4, r5, s1, s2, s3, s4⟩ := hcut.out
      have MK : Hid (∀ wx d2, RI W0 B blk d2 wx → PermIn a mid d1 d2 → SortedIn (ltC cf) a mid d2 → SymS W0 B N cf blk L a b mid en d wx) := by
        intro wx d2 hr hp hs
        obtain ⟨f1, f2, f3, f4, f5, f6, f7, f8, f9⟩ := F1.out
        have hb := HBL.out
        refine ⟨d1, d2, hr, r2.perm (by rw [r3]; omega) hp, hp.1.trans r3, r3, r4, r5, hp, hs, ?_, ?_⟩
        · intro x y h1 h2 h3
          rw [hp.2.1 x (by omega), hp.2.1 y (by omega)]
          exact s3 x y h1 h2 h3
        · intro x y h1 h2 h3
          rw [hp.2.1 x (by omega), hp.2.1 y (by omega)]
          exact s4 x y h1 h2 h3
      have NO2 : Hid (¬ (a < i ∧ i < mid) → SortedIn (ltC cf) a mid d1) := by
        intro hno
        obtain ⟨f1, f2, f3, f4, f5, f6, f7, f8, f9⟩ := F1.out
        by_cases q : a < i
        · have : i = mid := by omega
          rw [this] at s1
          exact s1
        · have : i = a := by omega
          rw [this] at s2
          exact s2
      have HKR := Lib.hid (fun wx (h1 : a < i) (h2 : i < mid) (hr : RI W0 B blk d1 wx) => HIH.out wx d1 a i mid hr r2 r3 h1 h2 (by have := F1.out; have := HBL.out; omega) (by have := F1.out; omega) s1 s2)
      have R1 := Lib.hid r1
      clear r1 r2 r3 r4 r5 s1 s2 s3 s4 hcut
      rename World => w2
      obtain ⟨t1, ht1⟩ : ∃ t : Bool, t = (decide (a < i) && decide (i < mid)) := ⟨_, rfl⟩
      have HT1 := Lib.hid ht1
      clear ht1
      go_upto_region 41 with fail
      go_cut [199] (fun s wx => w2 = wx ∧ s = .bool t1)
      case first =>
       as_aux_lemma =>
        by_cases g1 : a < i
        · have d1' : decide ((a : Int) < (i : Int)) = true := decide_eq_true (by omega)
          by_cases g2 : i < mid
          · have d2' : decide ((i : Int) < (mid : Int)) = true := decide_eq_true (by omega)
            have et : t1 = true := by rw [HT1.out]; simp [g1, g2]
            subst et
            clear HT1
            go_wp2_with fail
            go_meet
            exact ⟨rfl, rfl⟩
          · have d2' : decide ((i : Int) < (mid : Int)) = false := decide_eq_false (by omega)
            have et : t1 = false := by rw [HT1.out]; simp [g2]
            subst et
            clear HT1
            go_wp2_with fail
            go_meet
            exact ⟨rfl, rfl⟩
        · have d1' : decide ((a : Int) < (i : Int)) = false := decide_eq_false (by omega)
          have et : t1 = false := by rw [HT1.out]; simp [g1]
          subst et
          clear HT1
          go_wp2_with fail
          go_meet
          exact ⟨rfl, rfl⟩
      case rest =>
      obtain ⟨rfl, rfl⟩ := hcut
      have HTY : Hid (t1 = true → a < i ∧ i < mid) := fun h => by rw [HT1.out] at h; simpa using h
      have HTN : Hid (t1 = false → ¬ (a < i ∧ i < mid)) := fun h hn => by rw [HT1.out] at h; simp [hn.1, hn.2] at h
      clear HT1
      go_upto_if 199 with fail
      go_cut [] (fun wx => Hid (SymS W0 B N cf blk L a b mid en d wx))
      case first =>
       as_aux_lemma =>
        cases t1 with
        | true =>
          have hg := HTY.out rfl
          have key := HKR.out w2 hg.1 hg.2 R1.out
          clear hg
          go_wp2_with fail
          refine key.mono ?_
          clear key
          rintro e w9 ⟨rfl, d9, r1, r2, r3⟩
          have R9 := Lib.hid (MK.out w9 d9 r1 r2 r3)
          clear r1 r2 r3
          go_wp2_with fail
          go_meet
          exact R9
        | false =>
          have R9 := Lib.hid (MK.out w2 d1 R1.out (permIn_refl _ _ _) (NO2.out (HTN.out rfl)))
          go_wp2_with fail
          go_meet
          exact R9
      case rest =>
      clear MK NO2 HKR R1 HTY HTN
      obtain ⟨c1, c2, r1, r2, r3, r4, r5, r6, r7, s1, s2, s3⟩ := hcut.out
      have MK : Hid (∀ wx d3, RI W0 B blk d3 wx → PermIn mid b c2 d3 → SortedIn (ltC cf) mid b d3 → ∃ d', RI W0 B blk d' wx ∧ PermIn a b d d' ∧ SortedIn (ltC cf) a b d') := by
        intro wx d3 hr hp hs
        obtain ⟨f1, f2, f3, f4, f5, f6, f7, f8, f9⟩ := F1.out
        have hb := HBL.out
        refine ⟨d3, hr, permIn_trans _ _ _ _ _ r5 (permIn_trans _ _ _ _ _ (permIn_mono _ _ _ _ _ _ (by omega) (by omega) (by rw [r4]; omega) r7) (permIn_mono _ _ _ _ _ _ (by omega) (by omega) (by rw [r3]; omega) hp)), ?_⟩
        exact sorted_join r6 (by rw [r4]; omega) (by omega) r7 s1 hp hs
      have NO2 : Hid (¬ (mid < en ∧ en < b) → SortedIn (ltC cf) mid b c2) := by
        intro hno
        obtain ⟨f1, f2, f3, f4, f5, f6, f7, f8, f9⟩ := F1.out
        by_cases q : mid < en
        · have : en = b := by omega
          rw [this] at s2
          exact s2
        · have : en = mid := by omega
          rw [this] at s3
          exact s3
      have HKR := Lib.hid (fun wx (h1 : mid < en) (h2 : en < b) (hr : RI W0 B blk c2 wx) => HIH.out wx c2 mid en b hr r2 r3 h1 h2 HBL.out (by have := F1.out; omega) s2 s3)
      have R1 := Lib.hid r1
      clear r1 r2 r3 r4 r5 r6 r7 s1 s2 s3 hcut
      rename World => w3
      by_cases g1 : mid < en
      · have d1' : decide ((mid : Int) < (en : Int)) = true := decide_eq_true (by omega)
        by_cases g2 : en < b
        · have d2' : decide ((en : Int) < (b : Int)) = true := decide_eq_true (by omega)
          have key := HKR.out w3 g1 g2 R1.out
          go_wp2_with fail
          refine key.mono ?_
          clear key
          rintro e w9 ⟨rfl, d9, r1, r2, r3⟩
          have R9 := Lib.hid (MK.out w9 d9 r1 r2 r3)
          clear r1 r2 r3
          go_wp2_with fail
          go_end0
          exact ⟨rfl, R9.out⟩
        · have d2' : decide ((en : Int) < (b : Int)) = false := decide_eq_false (by omega)
          have R9 := Lib.hid (MK.out w3 c2 R1.out (permIn_refl _ _ _) (NO2.out (fun q => g2 q.2)))
          go_wp2_with fail
          go_end0
          exact ⟨rfl, R9.out⟩
      · have d1' : decide ((mid : Int) < (en : Int)) = false := decide_eq_false (by omega)
        have R9 := Lib.hid (MK.out w3 c2 R1.out (permIn_refl _ _ _) (NO2.out (fun q => g1 q.1)))
        go_wp2_with fail
        go_end0
        exact ⟨rfl, R9.out⟩
theorem symG_2 (a m b L : Nat) (d : Array Nat) (hE : ∀ (args : Array Value) (W : World), (callFunc g args).run Tryz.prog W = .ok (.enter g args) W) (hSW : SWO (ltC cf)) (hC : CmpOk W0 B g cb N cf) (hB : B ≤ W0.heap.size) (hS : RI W0 B blk d w) (hN : InN N d) (hL : d.size = L) (hsz : L ≤ 4096) (ham : a + 1 < m) (hmb : m + 1 < b) (hb : b ≤ L) (hs1 : SortedIn (ltC cf) a m d) (hs2 : SortedIn (ltC cf) m b d) (hIH : SymK W0 B g cb N cf blk L cap (b - a)) (hmm0 : ¬ (a + b) / 2 < m) :
    Calls Tryz.prog 373 #[.slice (some ⟨blk, 0, none⟩) L cap, .int .i64 a, .int .i64 m, .int .i64 b, .func (.func g) #[] cb] w fun e w' => e = .returned (.tuple #[]) ∧ ∃ d', RI W0 B blk d' w' ∧ PermIn a b d d' ∧ SortedIn (ltC cf) a b d' := by
  have HC := Lib.hid hC
  have HE := Lib.hid hE
  have S0 := Lib.hid hS
  have N0 := Lib.hid hN
  have HLD := Lib.hid hL
  have HSW := Lib.hid hSW
  have HS1 := Lib.hid hs1
  have HS2 := Lib.hid hs2
  have HIH := Lib.hid hIH
  have HBL := Lib.hid hb
  have HSZ := Lib.hid hsz
  obtain ⟨q0, hq0⟩ : ∃ q, q = m - a := ⟨_, rfl⟩
  obtain ⟨q1, hq1⟩ : ∃ q, q = b - m := ⟨_, rfl⟩
  obtain ⟨p, hp⟩ : ∃ p, p = a + b := ⟨_, rfl⟩
  obtain ⟨mid, hmid⟩ : ∃ mid, mid = (a + b) / 2 := ⟨_, rfl⟩
  obtain ⟨n, hn⟩ : ∃ n, n = mid + m := ⟨_, rfl⟩
  obtain ⟨p2, hp2⟩ : ∃ p2, p2 = n - 1 := ⟨_, rfl⟩
  obtain ⟨st0, hst⟩ : ∃ st0, st0 = n - b := ⟨_, rfl⟩
  have hmm : ¬ mid < m := by rw [hmid]; exact hmm0
  clear hmm0
  have HNN : Hid (n = mid + m) := hn
  have HPP2 : Hid (p2 = n - 1) := hp2
  have SBY := Lib.hid (symB_of ham hmb hmid)
  have e0 : (m : Int) - (a : Int) = (q0 : Int) := by omega
  have e1 : (b : Int) - (m : Int) = (q1 : Int) := by omega
  have e2 : (a : Int) + (b : Int) = (p : Int) := by omega
  have e3 : (p : Int) / 2 = (mid : Int) := by omega
  have e4 : (mid : Int) + (m : Int) = (n : Int) := by omega
  have e5 : (n : Int) - 1 = (p2 : Int) := by omega
  have n0 : ((q0 : Int) == 1) = false := beq_eq_false_iff_ne.2 (by omega)
  have n00 : ¬ (q0 : Int) = 1 := by omega
  have n1 : ((q1 : Int) == 1) = false := beq_eq_false_iff_ne.2 (by omega)
  have n11 : ¬ (q1 : Int) = 1 := by omega
  have l0 : q0 ≤ 8192 := by omega
  have l1 : q1 ≤ 8192 := by omega
  have l2 : p ≤ 8192 := by omega
  have l3 : mid ≤ 8192 := by omega
  have l4 : n ≤ 8192 := by omega
  have l5 : p2 ≤ 8192 := by omega
  have l6 : st0 ≤ 8192 := by omega
  have SB := SBY.out.2 hmm
  have HSB := Lib.hid SB
  have m1 : ¬ (mid : Int) < (m : Int) := by omega
  clear SB SBY hC hE hS hN hL hs1 hs2 hIH hq0 hq1 hp hmid hn hp2 hst hb hsz ham hmb hmm hSW l6 st0
  have u0 := kwrap_small q0 l0
  have v0 := wrap64_small q0 l0
  have u1 := kwrap_small q1 l1
  have v1 := wrap64_small q1 l1
  have u2 := kwrap_small p l2
  have v2 := wrap64_small p l2
  have x2 := ku64_small p l2
  have u3 := kwrap_small mid l3
  have v3 := wrap64_small mid l3
  have u4 := kwrap_small n l4
  have v4 := wrap64_small n l4
  have u5 := kwrap_small p2 l5
  have v5 := wrap64_small p2 l5
  clear l0 l1 l2 l3 l4 l5
  go_enter Tryz.func373, Tryz.ntmps373
  go_wp2_with fail
  clear e0 e1 e2 e3 e4 e5 n0 n00 n1 n11 u0 v0 u1 v1 u2 v2 x2 u3 v3 u4 v4 u5 v5 m1
  go_loopw [20, 21] (fun x y wr => ∃ (i j : Nat), x = .int .i64 i ∧ y = .int .i64 j ∧ a ≤ i ∧ i ≤ j ∧ j ≤ m ∧ Hid (RI W0 B blk d wr) ∧ Hid (i = a ∨ ltC cf d[n - i]! d[i - 1]! = false) ∧ Hid (j = m ∨ ltC cf d[n - 1 - j]! d[j]! = true)) (fun x y _ => (intOf y).toNat - (intOf x).toNat)
  case atStart => exact ⟨a, m, by first | rfl | go_num, by first | rfl | go_num, Nat.le_refl _, HSB.out.h2, Nat.le_refl _, S0, .inl rfl, .inl rfl⟩
  case round =>
    clear S0
    obtain ⟨i, j, rfl, rfl, hai, hij, hjb, hS, hA, hZ⟩ := hrel
    by_cases hlt : i < j
    · as_aux_lemma =>
      have i1 : (i : Int) < (j : Int) := by omega
      have sb := HSB.out
      obtain ⟨b1, b2, b3, b4, b5, b6, b7, b8, b9⟩ := sb
      have hn := HNN.out
      have hp2 := HPP2.out
      have hbl := HBL.out
      have hsz := HSZ.out
      obtain ⟨h, hh⟩ : ∃ h, h = (i + j) / 2 := ⟨_, rfl⟩
      obtain ⟨p, hp⟩ : ∃ p, p = i + j := ⟨_, rfl⟩
      obtain ⟨q, hq⟩ : ∃ q, q = n - 1 - h := ⟨_, rfl⟩
      have e1 : (i : Int) + (j : Int) = (p : Int) := by omega
      have e2 : (p : Int) / 2 = (h : Int) := by omega
      have e3 : (p2 : Int) - (h : Int) = (q : Int) := by omega
      have l1 : p ≤ 8192 := by omega
      have l2 : h ≤ 8192 := by omega
      have l3 : q ≤ 8192 := by omega
      have B1 : Hid (i ≤ h) := by unfold Hid; omega
      have B2 : Hid (h < j) := by unfold Hid; omega
      have B4 : Hid (a ≤ h + 1) := by unfold Hid; omega
      have B5 : Hid (h ≤ m) := by unfold Hid; omega
      have HQ : Hid (q = n - 1 - h) := hq
      have k1 : (h : Int) < (L : Int) := by omega
      have k2 : (q : Int) < (L : Int) := by omega
      have x2 := hS.out.2.2.cell (i := h) (by rw [HLD.out]; omega)
      have x1 := hS.out.2.2.cell (i := q) (by rw [HLD.out]; omega)
      have n1 := N0.out h (by rw [HLD.out]; omega)
      have n2 := N0.out q (by rw [HLD.out]; omega)
      have HH1 : Hid (n - (h + 1) = q ∧ h + 1 - 1 = h ∧ n - 1 - h = q) := by unfold Hid; omega
      have hcmp := Lib.hid (HC.out wr.drew hS.out.1.drew _ _ n2 n1)
      obtain ⟨u, hu⟩ : ∃ u, u = d[q]! := ⟨_, rfl⟩
      obtain ⟨v, hv⟩ : ∃ v, v = d[h]! := ⟨_, rfl⟩
      have HU := Lib.hid hu
      have HV := Lib.hid hv
      rw [← hu] at x1
      rw [← hv] at x2
      clear b1 b2 b3 b4 b5 b6 b7 b8 b9 hn hp2 hh hp hq hu hv n1 n2 hbl hsz
      have u1 := kwrap_small p l1
      have u2 := wrap64_small p l1
      have u3 := ku64_small p l1
      have u4 := kwrap_small h l2
      have u5 := wrap64_small h l2
      have v1 := kwrap_small q l3
      have v2 := wrap64_small q l3
      have w7 := wrap64_succ h l2
      have w8 := kwrap_succ h l2
      clear l1 l2 l3
      cases hlv : ltC cf u v with
      | true =>
        have hd0 : decide (cf u v < 0) = true := hlv
        have HD0 := Lib.hid hd0
        have NZ : Hid (h = m ∨ ltC cf d[n - 1 - h]! d[h]! = true) := by
          refine .inr ?_
          rw [HH1.out.2.2, ← HU.out, ← HV.out]; exact hlv
        clear hlv hd0
        go_upto_region 35 with fail
        clear e1 e2 u1 u2 u3
        refine wp_region_multiR [([0, 1, 2, 3, 4, 5, 6, 7, 8, 9, 10], [11, 12, 13], [11, 12, 13])] (by kernel_rfl) (by kernel_rfl) ?_
        refine multi_phase (fun W => W.cell? ⟨blk, q, none⟩ = some (.int .i64 u) ∧ W.cell? ⟨blk, h, none⟩ = some (.int .i64 v)) ⟨x1, x2⟩ ?_
        iterate 11 (apply first_step; (rw [List.getElem?_toArray]; (repeat rw [List.getElem?_cons_succ]); rw [List.getElem?_cons_zero]); rfl; (rintro W ⟨u0, u1⟩; go_simp; (first | done | rfl)); go_frame)
        refine first_done ?_
        have ent := HE.out
        apply forced_step; (rw [List.getElem?_toArray]; (repeat rw [List.getElem?_cons_succ]); rw [List.getElem?_cons_zero]); rfl; intro K hK; go_simp
        clear ent
        have hc := hcmp.out
        rw [← HU.out, ← HV.out] at hc
        refine hc.mono ?_
        rintro e w2 ⟨rfl, hb2⟩
        refine hK _ _ (fun h => absurd (by decide) h) ?_
        clear hK K hc
        have hb3 : Below wr.heap.size wr w2 := (Below.refl _ wr).drew.trans hb2
        have S2 := Lib.hid (hS.out.below hB hb3)
        clear hb2 hb3 x1 x2
        have hd0 := HD0.out
        apply forced_step; (rw [List.getElem?_toArray]; (repeat rw [List.getElem?_cons_succ]); rw [List.getElem?_cons_zero]); rfl; intro K hK; go_simp; refine hK _ _ (fun h => absurd (by decide) h) ?_; clear hK K
        apply forced_step; (rw [List.getElem?_toArray]; (repeat rw [List.getElem?_cons_succ]); rw [List.getElem?_cons_zero]); rfl; intro K hK; go_simp; refine hK _ _ (fun h => absurd (by decide) h) ?_; clear hK K
        refine forced_done ?_
        refine multi_done ?_
        go_wp2_with fail
        clear hd0
        go_roundw
        case rel => exact ⟨i, h, rfl, by first | rfl | go_num, hai, B1.out, B5.out, S2, hA, NZ⟩
        case measure =>
          have c1 := B1.out
          have c2 := B2.out
          clear w7 w8 k1 k2 u4 u5 v1 v2 e3
          simp [intOf]; omega
      | false =>
        have hd0 : decide (cf u v < 0) = false := hlv
        have HD0 := Lib.hid hd0
        have NA : Hid (h + 1 = a ∨ ltC cf d[n - (h + 1)]! d[h + 1 - 1]! = false) := by
          refine .inr ?_
          rw [HH1.out.1, HH1.out.2.1, ← HU.out, ← HV.out]; exact hlv
        clear hlv hd0
        go_upto_region 35 with fail
        clear e1 e2 u1 u2 u3
        refine wp_region_multiR [([0, 1, 2, 3, 4, 5, 6, 7, 8, 9, 10], [11, 12, 13], [11, 12, 13])] (by kernel_rfl) (by kernel_rfl) ?_
        refine multi_phase (fun W => W.cell? ⟨blk, q, none⟩ = some (.int .i64 u) ∧ W.cell? ⟨blk, h, none⟩ = some (.int .i64 v)) ⟨x1, x2⟩ ?_
        iterate 11 (apply first_step; (rw [List.getElem?_toArray]; (repeat rw [List.getElem?_cons_succ]); rw [List.getElem?_cons_zero]); rfl; (rintro W ⟨u0, u1⟩; go_simp; (first | done | rfl)); go_frame)
        refine first_done ?_
        have ent := HE.out
        apply forced_step; (rw [List.getElem?_toArray]; (repeat rw [List.getElem?_cons_succ]); rw [List.getElem?_cons_zero]); rfl; intro K hK; go_simp
        clear ent
        have hc := hcmp.out
        rw [← HU.out, ← HV.out] at hc
        refine hc.mono ?_
        rintro e w2 ⟨rfl, hb2⟩
        refine hK _ _ (fun h => absurd (by decide) h) ?_
        clear hK K hc
        have hb3 : Below wr.heap.size wr w2 := (Below.refl _ wr).drew.trans hb2
        have S2 := Lib.hid (hS.out.below hB hb3)
        clear hb2 hb3 x1 x2
        have hd0 := HD0.out
        apply forced_step; (rw [List.getElem?_toArray]; (repeat rw [List.getElem?_cons_succ]); rw [List.getElem?_cons_zero]); rfl; intro K hK; go_simp; refine hK _ _ (fun h => absurd (by decide) h) ?_; clear hK K
        apply forced_step; (rw [List.getElem?_toArray]; (repeat rw [List.getElem?_cons_succ]); rw [List.getElem?_cons_zero]); rfl; intro K hK; go_simp; refine hK _ _ (fun h => absurd (by decide) h) ?_; clear hK K
        refine forced_done ?_
        refine multi_done ?_
        go_wp2_with fail
        clear hd0
        go_roundw
        case rel => exact ⟨h + 1, j, by first | rfl | go_num, rfl, B4.out, B2.out, hjb, S2, NA, hZ⟩
        case measure =>
          have c1 := B1.out
          have c2 := B2.out
          clear w7 w8 k1 k2 u4 u5 v1 v2 e3
          simp [intOf]; omega
    · have i1 : ¬ (i : Int) < (j : Int) := by omega
      have e : i = j := by omega
      subst e
      have sb := HSB.out
      obtain ⟨b1, b2, b3, b4, b5, b6, b7, b8, b9⟩ := sb
      have hn := HNN.out
      have hbl := HBL.out
      have hsz := HSZ.out
      obtain ⟨en, hen⟩ : ∃ en, en = n - i := ⟨_, rfl⟩
      have e3 : (n : Int) - (i : Int) = (en : Int) := by omega
      have l3 : en ≤ 8192 := by omega
      have F1 : Hid (a ≤ i ∧ i ≤ m ∧ i ≤ mid ∧ m ≤ en ∧ mid ≤ en ∧ en ≤ b ∧ i + en = mid + m ∧ a < mid ∧ mid < b) := by unfold Hid; omega
      have hA' : i = a ∨ en = b ∨ ltC cf d[en]! d[i - 1]! = false := by
        rcases hA.out with q | q
        · rcases b6 with q2 | q2
          · exact .inl (q.trans q2)
          · exact .inr (.inl (by omega))
        · exact .inr (.inr (by rw [hen]; exact q))
      have hB' : i = mid ∨ en = mid ∨ ltC cf d[en - 1]! d[i]! = true := by
        rcases hZ.out with q | q
        · rcases b7 with q2 | q2
          · exact .inl (q.trans q2)
          · exact .inr (.inl (by omega))
        · exact .inr (.inr (by rw [hen, show n - i - 1 = n - 1 - i by omega]; exact q))
      have MK : Hid (∀ wx d1, RI W0 B blk d1 wx → Rot i m en d d1 → PermIn i en d d1 → SymR W0 B N cf blk L a b mid i en d wx) := by
        intro wx d1 hr hrot hp
        obtain ⟨f1, f2, f3, f4, f5, f6, f7, f8, f9⟩ := F1.out
        obtain ⟨s1, s2, s3, s4, s5⟩ := sym_split HSW.out HS1.out HS2.out (mid := mid) (st := i) (en := en) (d' := d1) (by omega) f1 f2 f3 f4 f5 f6 f7 hA' hB' hrot
        have hp2 : PermIn a b d d1 := permIn_mono _ _ _ _ _ _ f1 f6 (by rw [HLD.out]; exact HBL.out) hp
        exact ⟨d1, hr, N0.out.perm (by rw [HLD.out]; exact HBL.out) hp2, hp2.1.trans HLD.out, hp2, s1, s2, s3, s4, s5⟩
      have NOR : Hid (¬ (i < m ∧ m < en) → Rot i m en d d) := by
        intro hno
        obtain ⟨f1, f2, f3, f4, f5, f6, f7, f8, f9⟩ := F1.out
        by_cases q : i < m
        · have : en = m := by omega
          rw [this]
          exact Rot.none' i m d
        · have : i = m := by omega
          rw [this]
          exact Rot.none m en d
      clear hA hZ hA' hB' b1 b2 b3 b4 b5 b6 b7 b8 b9 hn hen hai hij hjb hbl hsz
      have v1 := kwrap_small en l3
      have v2 := wrap64_small en l3
      clear l3
      have HKR := Lib.hid (fun wx (h1 : i < m) (h2 : m < en) (hr : RI W0 B blk d wx) => rotate_any W0 wx B g cb blk cap i m en L d hr HLD.out HSZ.out h1 h2 (Nat.le_trans F1.out.2.2.2.2.2.1 HBL.out))
      go_upto_region 39 with fail
      rename World => wo
      obtain ⟨t1, ht1⟩ : ∃ t : Bool, t = (decide (i < m) && decide (m < en)) := ⟨_, rfl⟩
      have HT1 := Lib.hid ht1
      clear ht1
      go_cut [185] (fun s wx => wo = wx ∧ s = .bool t1)
      case first =>
       as_aux_lemma =>
        by_cases g1 : i < m
        · have d1' : decide ((i : Int) < (m : Int)) = true := decide_eq_true (by omega)
          by_cases g2 : m < en
          · have d2' : decide ((m : Int) < (en : Int)) = true := decide_eq_true (by omega)
            have et : t1 = true := by rw [HT1.out]; simp [g1, g2]
            subst et
            clear HT1
            go_wp2_with fail
            go_meet
            exact ⟨rfl, rfl⟩
          · have d2' : decide ((m : Int) < (en : Int)) = false := decide_eq_false (by omega)
            have et : t1 = false := by rw [HT1.out]; simp [g2]
            subst et
            clear HT1
            go_wp2_with fail
            go_meet
            exact ⟨rfl, rfl⟩
        · have d1' : decide ((i : Int) < (m : Int)) = false := decide_eq_false (by omega)
          have et : t1 = false := by rw [HT1.out]; simp [g1]
          subst et
          clear HT1
          go_wp2_with fail
          go_meet
          exact ⟨rfl, rfl⟩
      case rest =>
      obtain ⟨rfl, rfl⟩ := hcut
      have HTY : Hid (t1 = true → i < m ∧ m < en) := fun h => by rw [HT1.out] at h; simpa using h
      have HTN : Hid (t1 = false → ¬ (i < m ∧ m < en)) := fun h hn => by rw [HT1.out] at h; simp [hn.1, hn.2] at h
      clear HT1
      go_upto_if 185 with fail
      go_cut [] (fun wx => Hid (SymR W0 B N cf blk L a b mid i en d wx))
      case first =>
       as_aux_lemma =>
        cases t1 with
        | true =>
          have hg := HTY.out rfl
          have key := HKR.out wo hg.1 hg.2 hS.out
          clear hg v1 v2 e3
          go_wp2_with fail
          refine key.mono ?_
          clear key
          rintro e w9 ⟨rfl, d9, r1, r2, r3⟩
          have R9 := Lib.hid (MK.out w9 d9 r1 r2 r3)
          clear r1 r2 r3
          go_wp2_with fail
          go_meet
          exact R9
        | false =>
          have R9 := Lib.hid (MK.out wo d hS.out (NOR.out (HTN.out rfl)) (permIn_refl _ _ _))
          clear v1 v2 e3
          go_wp2_with fail
          go_meet
          exact R9
      case rest =>
      clear MK NOR HKR hS HTY HTN
      obtain ⟨d1, r1, r2, r3, r4, r5, s1, s2, s3, s4⟩ := hcut.out
      have MK : Hid (∀ wx d2, RI W0 B blk d2 wx → PermIn a mid d1 d2 → SortedIn (ltC cf) a mid d2 → SymS W0 B N cf blk L a b mid en d wx) := by
        intro wx d2 hr hp hs
        obtain ⟨f1, f2, f3, f4, f5, f6, f7, f8, f9⟩ := F1.out
        have hb := HBL.out
        refine ⟨d1, d2, hr, r2.perm (by rw [r3]; omega) hp, hp.1.trans r3, r3, r4, r5, hp, hs, ?_, ?_⟩
        · intro x y h1 h2 h3
          rw [hp.2.1 x (by omega), hp.2.1 y (by omega)]
          exact s3 x y h1 h2 h3
        · intro x y h1 h2 h3
          rw [hp.2.1 x (by omega), hp.2.1 y (by omega)]
          exact s4 x y h1 h2 h3
      have NO2 : Hid (¬ (a < i ∧ i < mid) → SortedIn (ltC cf) a mid d1) := by
        intro hno
        obtain ⟨f1, f2, f3, f4, f5, f6, f7, f8, f9⟩ := F1.out
        by_cases q : a < i
        · have : i = mid := by omega
          rw [this] at s1
          exact s1
        · have : i = a := by omega
          rw [this] at s2
          exact s2
      have HKR := Lib.hid (fun wx (h1 : a < i) (h2 : i < mid) (hr : RI W0 B blk d1 wx) => HIH.out wx d1 a i mid hr r2 r3 h1 h2 (by have := F1.out; have := HBL.out; omega) (by have := F1.out; omega) s1 s2)
      have R1 := Lib.hid r1
      clear r1 r2 r3 r4 r5 s1 s2 s3 s4 hcut
      rename World => w2
      obtain ⟨t1, ht1⟩ : ∃ t : Bool, t = (decide (a < i) && decide (i < mid)) := ⟨_, rfl⟩
      have HT1 := Lib.hid ht1
      clear ht1
      go_upto_region 41 with fail
      go_cut [199] (fun s wx => w2 = wx ∧ s = .bool t1)
      case first =>
       as_aux_lemma =>
        by_cases g1 : a < i
        · have d1' : decide ((a : Int) < (i : Int)) = true := decide_eq_true (by omega)
          by_cases g2 : i < mid
          · have d2' : decide ((i : Int) < (mid : Int)) = true := decide_eq_true (by omega)
            have et : t1 = true := by rw [HT1.out]; simp [g1, g2]
            subst et
            clear HT1
            go_wp2_with fail
            go_meet
            exact ⟨rfl, rfl⟩
          · have d2' : decide ((i : Int) < (mid : Int)) = false := decide_eq_false (by omega)
            have et : t1 = false := by rw [HT1.out]; simp [g2]
            subst et
            clear HT1
            go_wp2_with fail
            go_meet
            exact ⟨rfl, rfl⟩
        · have d1' : decide ((a : Int) < (i : Int)) = false := decide_eq_false (by omega)
          have et : t1 = false := by rw [HT1.out]; simp [g1]
          subst et
          clear HT1
          go_wp2_with fail
          go_meet
          exact ⟨rfl, rfl⟩
      case rest =>
      obtain ⟨rfl, rfl⟩ := hcut
      have HTY : Hid (t1 = true → a < i ∧ i < mid) := fun h => by rw [HT1.out] at h; simpa using h
      have HTN : Hid (t1 = false → ¬ (a < i ∧ i < mid)) := fun h hn => by rw [HT1.out] at h; simp [hn.1, hn.2] at h
      clear HT1
      go_upto_if 199 with fail
      go_cut [] (fun wx => Hid (SymS W0 B N cf blk L a b mid en d wx))
      case first =>
       as_aux_lemma =>
        cases t1 with
        | true =>
          have hg := HTY.out rfl
          have key := HKR.out w2 hg.1 hg.2 R1.out
          clear hg
          go_wp2_with fail
          refine key.mono ?_
          clear key
          rintro e w9 ⟨rfl, d9, r1, r2, r3⟩
          have R9 := Lib.hid (MK.out w9 d9 r1 r2 r3)
          clear r1 r2 r3
          go_wp2_with fail
          go_meet
          exact R9
        | false =>
          have R9 := Lib.hid (MK.out w2 d1 R1.out (permIn_refl _ _ _) (NO2.out (HTN.out rfl)))
          go_wp2_with fail
          go_meet
          exact R9
      case rest =>
      clear MK NO2 HKR R1 HTY HTN
      obtain ⟨c1, c2, r1, r2, r3, r4, r5, r6, r7, s1, s2, s3⟩ := hcut.out
      have MK : Hid (∀ wx d3, RI W0 B blk d3 wx → PermIn mid b c2 d3 → SortedIn (ltC cf) mid b d3 → ∃ d', RI W0 B blk d' wx ∧ PermIn a b d d' ∧ SortedIn (ltC cf) a b d') := by
        intro wx d3 hr hp hs
        obtain ⟨f1, f2, f3, f4, f5, f6, f7, f8, f9⟩ := F1.out
        have hb := HBL.out
        refine ⟨d3, hr, permIn_trans _ _ _ _ _ r5 (permIn_trans _ _ _ _ _ (permIn_mono _ _ _ _ _ _ (by omega) (by omega) (by rw [r4]; omega) r7) (permIn_mono _ _ _ _ _ _ (by omega) (by omega) (by rw [r3]; omega) hp)), ?_⟩
        exact sorted_join r6 (by rw [r4]; omega) (by omega) r7 s1 hp hs
      have NO2 : Hid (¬ (mid < en ∧ en < b) → SortedIn (ltC cf) mid b c2) := by
        intro hno
        obtain ⟨f1, f2, f3, f4, f5, f6, f7, f8, f9⟩ := F1.out
        by_cases q : mid < en
        · have : en = b := by omega
          rw [this] at s2
          exact s2
        · have : en = mid := by omega
          rw [this] at s3
          exact s3
      have HKR := Lib.hid (fun wx (h1 : mid < en) (h2 : en < b) (hr : RI W0 B blk c2 wx) => HIH.out wx c2 mid en b hr r2 r3 h1 h2 HBL.out (by have := F1.out; omega) s2 s3)
      have R1 := Lib.hid r1
      clear r1 r2 r3 r4 r5 r6 r7 s1 s2 s3 hcut
      rename World => w3
      by_cases g1 : mid < en
      · have d1' : decide ((mid : Int) < (en : Int)) = true := decide_eq_true (by omega)
        by_cases g2 : en < b
        · have d2' : decide ((en : Int) < (b : Int)) = true := decide_eq_true (by omega)
          have key := HKR.out w3 g1 g2 R1.out
          go_wp2_with fail
          refine key.mono ?_
          clear key
          rintro e w9 ⟨rfl, d9, r1, r2, r3⟩
          have R9 := Lib.hid (MK.out w9 d9 r1 r2 r3)
          clear r1 r2 r3
          go_wp2_with fail
          go_end0
          exact ⟨rfl, R9.out⟩
        · have d2' : decide ((en : Int) < (b : Int)) = false := decide_eq_false (by omega)
          have R9 := Lib.hid (MK.out w3 c2 R1.out (permIn_refl _ _ _) (NO2.out (fun q => g2 q.2)))
          go_wp2_with fail
          go_end0
          exact ⟨rfl, R9.out⟩
      · have d1' : decide ((mid : Int) < (en : Int)) = false := decide_eq_false (by omega)
        have R9 := Lib.hid (MK.out w3 c2 R1.out (permIn_refl _ _ _) (NO2.out (fun q => g1 q.1)))
        go_wp2_with fail
        go_end0
        exact ⟨rfl, R9.out⟩
theorem symG_any (a m b L : Nat) (d : Array Nat) (hE : ∀ (args : Array Value) (W : World), (callFunc g args).run Tryz.prog W = .ok (.enter g args) W) (hSW : SWO (ltC cf)) (hC : CmpOk W0 B g cb N cf) (hB : B ≤ W0.heap.size) (hS : RI W0 B blk d w) (hN : InN N d) (hL : d.size = L) (hsz : L ≤ 4096) (ham : a + 1 < m) (hmb : m + 1 < b) (hb : b ≤ L) (hs1 : SortedIn (ltC cf) a m d) (hs2 : SortedIn (ltC cf) m b d) (hIH : SymK W0 B g cb N cf blk L cap (b - a)) :
    Calls Tryz.prog 373 #[.slice (some ⟨blk, 0, none⟩) L cap, .int .i64 a, .int .i64 m, .int .i64 b, .func (.func g) #[] cb] w fun e w' => e = .returned (.tuple #[]) ∧ ∃ d', RI W0 B blk d' w' ∧ PermIn a b d d' ∧ SortedIn (ltC cf) a b d' := by
  by_cases hmm : (a + b) / 2 < m
  · exact symG_1 W0 w B g cb N cf blk cap a m b L d hE hSW hC hB hS hN hL hsz ham hmb hb hs1 hs2 hIH hmm
  · exact symG_2 W0 w B g cb N cf blk cap a m b L d hE hSW hC hB hS hN hL hsz ham hmb hb hs1 hs2 hIH hmm
theorem symK_all (hE : ∀ (args : Array Value) (W : World), (callFunc g args).run Tryz.prog W = .ok (.enter g args) W) (hSW : SWO (ltC cf)) (hC : CmpOk W0 B g cb N cf) (hB : B ≤ W0.heap.size) (L : Nat) (hsz : L ≤ 4096) : ∀ k, SymK W0 B g cb N cf blk L cap k
  | 0 => fun _ _ _ _ _ _ _ _ _ _ _ h => absurd h (Nat.not_lt_zero _)
  | k + 1 => fun w d a m b hS hN hL ham hmb hb hk hs1 hs2 => by
    have ih := symK_all hE hSW hC hB L hsz k
    by_cases h1 : m = a + 1
    · subst h1
      exact symL_any W0 w B g cb N cf blk cap a b L d hE hSW hC hB hS hN hL hsz hmb hb hs2
    · by_cases h2 : b = m + 1
      · subst h2
        exact symR_any W0 w B g cb N cf blk cap a m L d hE hSW hC hB hS hN hL hsz (by omega) hb hs1
      · exact symG_any W0 w B g cb N cf blk cap a m b L d hE hSW hC hB hS hN hL hsz (by omega) (by omega) hb hs1 hs2 (fun w d a' m' b' q1 q2 q3 q4 q5 q6 q7 q8 q9 => ih w d a' m' b' q1 q2 q3 q4 q5 q6 (by omega) q8 q9)
theorem symOk_all (hE : ∀ (args : Array Value) (W : World), (callFunc g args).run Tryz.prog W = .ok (.enter g args) W) (hSW : SWO (ltC cf)) (hC : CmpOk W0 B g cb N cf) (hB : B ≤ W0.heap.size) (L : Nat) (hsz : L ≤ 4096) : SymOk W0 B g cb N cf blk L cap :=
  fun w d a m b hS hN hL ham hmb hb hs1 hs2 => symK_all W0 B g cb N cf blk cap hE hSW hC hB L hsz (b - a + 1) w d a m b hS hN hL ham hmb hb (by omega) hs1 hs2
end
end Go.Proofs.YtndhmahkglfopaaGreatDoor
