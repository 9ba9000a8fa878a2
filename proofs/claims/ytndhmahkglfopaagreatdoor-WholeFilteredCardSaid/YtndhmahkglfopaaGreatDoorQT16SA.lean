/- A row of ints of the call's own, and what a sort does to it. -/
import Derived.Sort.LotA
import Derived.Sort.WalkA
import Derived.Shelf.RegionOpenPlain
import Derived.Test.YtndhmahkglfopaaGreatDoorQBase
import Derived.Test.YtndhmahkglfopaaGreatDoorQT13Num2
namespace Go.Proofs.YtndhmahkglfopaaGreatDoor
open Go.RowKit Go.Sort
/-- A small whole number's value. -/
def encN (x : Nat) : Value := .int .i64 x
/-- Block b holds the numbers d, in front. -/
def RowI (W : World) (b : Nat) (d : Array Nat) : Prop := ∃ rest : List Value, W.heap[b]? = some (.cells (d.toList.map encN ++ rest).toArray 3)
theorem RowI.of_block {W W' : World} {b : Nat} {d : Array Nat} (h : RowI W b d) (hb : W'.heap[b]? = W.heap[b]?) : RowI W' b d := by
  obtain ⟨r, h⟩ := h
  exact ⟨r, hb.trans h⟩
theorem RowI.lt {W : World} {b : Nat} {d : Array Nat} (h : RowI W b d) : b < W.heap.size := by
  obtain ⟨r, h⟩ := h
  exact lt_of_heap h
theorem RowI.below {W W' : World} {b : Nat} {d : Array Nat} (h : RowI W b d) (hb : Go.RowKit.Below W.heap.size W W') : RowI W' b d := h.of_block (hb.block b h.lt)
theorem RowI.cell {W : World} {b : Nat} {d : Array Nat} (h : RowI W b d) {i : Nat} (hi : i < d.size) : W.cell? ⟨b, i, none⟩ = some (.int .i64 (d[i]! : Nat)) := by
  obtain ⟨r, h⟩ := h
  rw [cell_of_heap h i, List.getElem?_toArray, List.getElem?_append_left (by simpa using hi)]
  simp [hi, encN]
theorem RowI.frozen {W : World} {b : Nat} {d : Array Nat} (h : RowI W b d) (i : Nat) : W.frozen? ⟨b, i, none⟩ = false := by
  obtain ⟨r, h⟩ := h
  exact frozen_of_heap h i
theorem RowI.set {W : World} {b : Nat} {d : Array Nat} (h : RowI W b d) {i : Nat} (hi : i < d.size) (x : Nat) : RowI (W.setCell ⟨b, i, none⟩ (.int .i64 x)) b (d.setIfInBounds i x) := by
  obtain ⟨r, h⟩ := h
  refine ⟨r, (heap_setCell_at h i _).trans ?_⟩
  congr 2
  apply Array.ext'
  simp only [Array.toList_setIfInBounds, List.set_append, List.length_map, Array.length_toList, if_pos hi, List.map_set]
  simp [encN]
theorem RowI.swap {W : World} {b : Nat} {d : Array Nat} (h : RowI W b d) {i j : Nat} (hi : i < d.size) (hj : j < d.size) : RowI ((W.setCell ⟨b, i, none⟩ (.int .i64 (d[j]! : Nat))).setCell ⟨b, j, none⟩ (.int .i64 (d[i]! : Nat))) b (swp d i j) :=
  (h.set hi _).set (by simpa using hj) _
/-- The row under way: all that was there ahead of block B is as it was. -/
def RI (W0 : World) (B b : Nat) (d : Array Nat) (W : World) : Prop := Go.RowKit.Below B W0 W ∧ B ≤ b ∧ RowI W b d
theorem RI.below {W0 W W' : World} {B b : Nat} {d : Array Nat} (h : RI W0 B b d W) (hB : B ≤ W0.heap.size) (hb : Go.RowKit.Below W.heap.size W W') : RI W0 B b d W' :=
  ⟨h.1.trans (hb.mono (Nat.le_trans hB h.1.size)), h.2.1, h.2.2.below hb⟩
theorem RI.drew {W0 W : World} {B b : Nat} {d : Array Nat} (h : RI W0 B b d W) : RI W0 B b d W.drew := ⟨h.1.drew, h.2.1, h.2.2.of_block rfl⟩
theorem RI.swap {W0 W : World} {B b : Nat} {d : Array Nat} (h : RI W0 B b d W) {i j : Nat} (hi : i < d.size) (hj : j < d.size) : RI W0 B b (swp d i j) ((W.setCell ⟨b, i, none⟩ (.int .i64 (d[j]! : Nat))).setCell ⟨b, j, none⟩ (.int .i64 (d[i]! : Nat))) :=
  ⟨(h.1.setCell (p := ⟨b, i, none⟩) h.2.1 _).setCell (p := ⟨b, j, none⟩) h.2.1 _, h.2.1, h.2.2.swap hi hj⟩
/-- All of the row's numbers are places. -/
def InN (n : Nat) (d : Array Nat) : Prop := ∀ i, i < d.size → d[i]! < n
theorem InN.swp {n : Nat} {d : Array Nat} (h : InN n d) {i j : Nat} (hi : i < d.size) (hj : j < d.size) : InN n (swp d i j) := fun k hk => by
  rw [swp_size] at hk
  rw [swp_get d hi hj k]
  split
  · exact h _ hi
  · split
    · exact h _ hj
    · exact h _ hk
theorem InN.perm {n a b : Nat} {d d' : Array Nat} (h : InN n d) (hb : b ≤ d.size) (hp : PermIn a b d d') : InN n d' := fun i hi => by
  rw [hp.1] at hi
  by_cases hr : a ≤ i ∧ i < b
  · exact permIn_all d d' a b (fun x => x < n) hb hp (fun k _ k2 => h k (by omega)) i hr.1 hr.2
  · rw [hp.2.1 i (by omega)]
    exact h i hi
end Go.Proofs.YtndhmahkglfopaaGreatDoor
/- slices.insertionSortCmpFunc over a row of places. -/
namespace Go.Proofs.YtndhmahkglfopaaGreatDoor
open Go.RowKit Go.Sort
/-- What a comparison of places tells, in every world in which nothing ahead of B has turned. -/
def CmpOk (W0 : World) (B g : Nat) (cb : Array Value) (n : Nat) (cf : Nat → Nat → Int) : Prop := ∀ W, Go.RowKit.Below B W0 W → ∀ x y, x < n → y < n →
  Calls Tryz.prog g (#[.int .i64 x, .int .i64 y] ++ cb) W fun e w' => e = .returned (.int .i64 (cf x y)) ∧ Go.RowKit.Below W.heap.size W w'
def ltC (cf : Nat → Nat → Int) (x y : Nat) : Bool := decide (cf x y < 0)
section
/- the comparison's region -/
variable (W0 w : World) (B g : Nat) (cb : Array Value) (n : Nat) (cf : Nat → Nat → Int) (blk cap : Nat)
set_option maxHeartbeats 4000000
set_option maxRecDepth 100000
theorem insertion_any (a b : Nat) (d : Array Nat) (hE : ∀ (args : Array Value) (W : World), (callFunc g args).run Tryz.prog W = .ok (.enter g args) W) (hC : CmpOk W0 B g cb n cf) (hB : B ≤ W0.heap.size) (hS : RI W0 B blk d w) (hN : InN n d) (hab : a ≤ b) (hb : b ≤ d.size) (hsz : d.size ≤ 4096) :
    Calls Tryz.prog 372 #[.slice (some ⟨blk, 0, none⟩) d.size cap, .int .i64 a, .int .i64 b, .func (.func g) #[] cb] w fun e w' => e = .returned (.tuple #[]) ∧ RI W0 B blk (insertionSort (ltC cf) d a b) w' ∧ InN n (insertionSort (ltC cf) d a b) := by
  have HC := Lib.hid hC
  have HE := Lib.hid hE
  obtain ⟨L, hL⟩ : ∃ L, L = d.size := ⟨_, rfl⟩
  have EL := Lib.hid hL
  rw [← hL] at hb hsz ⊢
  have S0 := Lib.hid hS
  have N0 := Lib.hid hN
  have wa : wrap64 ((a : Int) + 1) = (a : Int) + 1 := IntWalk.wrap64_in _ (by omega)
  clear hC hE hS hN hL
  go_enter Tryz.func372, Tryz.ntmps372
  go_wp2_with fail
  go_loopw [8] (fun x wr => ∃ (i : Nat) (dk : Array Nat), x = .int .i64 i ∧ a < i ∧ i ≤ b + 1 ∧ Hid (dk.size = L) ∧ Hid (RI W0 B blk dk wr) ∧ Hid (InN n dk) ∧ Hid (insOuter (ltC cf) a b i dk = insOuter (ltC cf) a b (a + 1) d)) (fun x _ => b + 1 - (intOf x).toNat)
  case atStart => exact ⟨a + 1, d, by go_num, by omega, by omega, EL.out.symm, S0, N0, rfl⟩
  case round =>
    clear S0 N0 wa
    obtain ⟨i, dk, rfl, hai, hib, hsk, hS, hN, hO⟩ := hrel
    rename World => wo
    have wi : wrap64 ((i : Int) + 1) = (i : Int) + 1 := IntWalk.wrap64_in _ (by omega)
    by_cases hlt : i < b
    · have i1 : (i : Int) < (b : Int) := by omega
      go_wp2_with fail
      go_loopw [9] (fun x wr => ∃ (j : Nat) (dj : Array Nat), x = .int .i64 j ∧ a ≤ j ∧ j ≤ i ∧ Hid (dj.size = L) ∧ Hid (RI W0 B blk dj wr) ∧ Hid (InN n dj) ∧ Hid (insInner (ltC cf) a j dj = insInner (ltC cf) a i dk)) (fun x _ => (intOf x).toNat)
      case atStart => exact ⟨i, dk, rfl, by omega, Nat.le_refl _, hsk, hS, hN, rfl⟩
      case round =>
        clear hS hN
        obtain ⟨j, dj, rfl, haj, hji, hsj, hS, hN, hI⟩ := hrel
        by_cases hja : a < j
        · obtain ⟨q, rfl⟩ : ∃ q, j = q + 1 := ⟨j - 1, by omega⟩
          have x1 := hS.out.2.2.cell (i := q + 1) (by rw [hsj.out]; omega)
          have x2 := hS.out.2.2.cell (i := q) (by rw [hsj.out]; omega)
          have n1 := hN.out (q + 1) (by rw [hsj.out]; omega)
          have n2 := hN.out q (by rw [hsj.out]; omega)
          have hcmp := Lib.hid (HC.out wr.drew hS.out.1.drew _ _ n1 n2)
          obtain ⟨u, hu⟩ : ∃ u, u = dj[q + 1]! := ⟨_, rfl⟩
          obtain ⟨v, hv⟩ : ∃ v, v = dj[q]! := ⟨_, rfl⟩
          have HU := Lib.hid hu
          have HV := Lib.hid hv
          rw [← hu] at x1
          rw [← hv] at x2
          have e1 : ((q : Int) + 1).toNat = q + 1 := by omega
          have e2 : (q : Int) < (L : Int) := by omega
          have e3 : (q : Int) + 1 < (L : Int) := by omega
          have e4 : (a : Int) < (q : Int) + 1 := by omega
          have e5 : IntKind.i64.wrap (q : Int) = (q : Int) := by rw [IntKind.wrap_i64]; omega
          have e6 : (0 : Int) ≤ (q : Int) + 1 := by omega
          have hRB := Lib.hid hS.out.1
          cases hlv : ltC cf u v with
          | true =>
            have hl0 : cf u v < 0 := of_decide_eq_true hlv
            have hd0 : decide (cf u v < 0) = true := hlv
            have HI2 : Hid (insInner (ltC cf) a q (swp dj (q + 1) q) = insInner (ltC cf) a i dk) := by
              rw [HU.out, HV.out] at hlv
              show _ = _
              rw [← hI.out, insInner_go (ltC cf) a (q + 1) dj hja hlv]
              rfl
            have HD0 := Lib.hid hd0
            clear hu hv hlv hl0 hd0
            go_wp2_with fail
            refine wp_region_multiR [([0, 1, 2, 3, 4, 5, 6, 7, 8, 9, 10, 11, 12, 13], [14, 15, 16], [14, 15, 16])] (by kernel_rfl) (by kernel_rfl) ?_
            refine multi_phase (fun W => W.cell? ⟨blk, q + 1, none⟩ = some (.int .i64 u) ∧ W.cell? ⟨blk, q, none⟩ = some (.int .i64 v)) ⟨x1, x2⟩ ?_
            iterate 14 (apply first_step; (rw [List.getElem?_toArray]; (repeat rw [List.getElem?_cons_succ]); rw [List.getElem?_cons_zero]); rfl; (rintro W ⟨u0, u1⟩; go_simp; (first | done | rfl)); go_frame)
            refine first_done ?_
            have ent := HE.out
            apply forced_step; (rw [List.getElem?_toArray]; (repeat rw [List.getElem?_cons_succ]); rw [List.getElem?_cons_zero]); rfl; intro K hK; go_simp
            clear ent
            have hc := hcmp.out
            rw [← HU.out, ← HV.out] at hc
            refine hc.mono ?_
            rintro e w2 ⟨rfl, hb2⟩
            refine hK _ _ (fun h => absurd (by decide) h) ?_
            clear hK K hc
            have hb3 : Below wr.heap.size wr w2 := (Below.refl _ wr).drew.trans hb2
            have S2 := Lib.hid (hS.out.below hB hb3)
            clear hb2 hb3 x1 x2
            have hd0 := HD0.out
            apply forced_step; (rw [List.getElem?_toArray]; (repeat rw [List.getElem?_cons_succ]); rw [List.getElem?_cons_zero]); rfl; intro K hK; go_simp; refine hK _ _ (fun h => absurd (by decide) h) ?_; clear hK K
            apply forced_step; (rw [List.getElem?_toArray]; (repeat rw [List.getElem?_cons_succ]); rw [List.getElem?_cons_zero]); rfl; intro K hK; go_simp; refine hK _ _ (fun h => absurd (by decide) h) ?_; clear hK K
            refine forced_done ?_
            refine multi_done ?_
            go_wp2_with fail
            have z1 := S2.out.2.2.cell (i := q + 1) (by rw [hsj.out]; omega)
            have z2 := S2.out.2.2.cell (i := q) (by rw [hsj.out]; omega)
            have f1 := S2.out.2.2.frozen (q + 1)
            have f2 := S2.out.2.2.frozen q
            have S3 := S2.out.drew.swap (i := q + 1) (j := q) (by rw [hsj.out]; omega) (by rw [hsj.out]; omega)
            rw [← HU.out, ← HV.out] at S3
            rw [← HU.out] at z1
            rw [← HV.out] at z2
            have S4 := Lib.hid S3
            have N4 := Lib.hid (hN.out.swp (i := q + 1) (j := q) (by rw [hsj.out]; omega) (by rw [hsj.out]; omega))
            have SZ : Hid ((swp dj (q + 1) q).size = L) := by unfold Hid; rw [swp_size]; exact hsj.out
            have z3 : ((w2.drew.setCell ⟨blk, q + 1, none⟩ (.int .i64 v)).cell? ⟨blk, q, none⟩) = some (.int .i64 v) := by
              rw [World.cell?_setCell_other _ _ _ _ (by intro e'; simp only [Addr.mk.injEq] at e'; omega)]
              exact z2
            clear S3 hS S2 hN HD0 hd0
            have e7 : (q : Int).toNat = q := by omega
            have ew1 : IntKind.i64.wrap ((q : Int) + 1) = (q : Int) + 1 := by rw [IntKind.wrap_i64]; omega
            go_wp2_with fail
            have mixed : Tryz.prog.follows Departure.mixedOrders = true := by kernel_rfl
            go_big_region_o
            clear mixed
            clear z1 z2 z3 f1 f2
            go_wp2_with fail
            go_roundw
            case rel => exact ⟨q, swp dj (q + 1) q, by go_num, by omega, by omega, SZ, S4, N4, HI2⟩
            case measure => simp [intOf]
          | false =>
            have hd0 : decide (cf u v < 0) = false := hlv
            have HD0 := Lib.hid hd0
            have HO2 : Hid (insOuter (ltC cf) a b (i + 1) dj = insOuter (ltC cf) a b (a + 1) d) := by
              rw [HU.out, HV.out] at hlv
              show _ = _
              rw [← hO.out, insOuter_go _ _ _ _ _ hlt, ← hI.out, insInner_stop _ _ _ _ (.inr hlv)]
            clear hu hv hlv hd0
            go_wp2_with fail
            refine wp_region_multiR [([0, 1, 2, 3, 4, 5, 6, 7, 8, 9, 10, 11, 12, 13], [14, 15, 16], [14, 15, 16])] (by kernel_rfl) (by kernel_rfl) ?_
            refine multi_phase (fun W => W.cell? ⟨blk, q + 1, none⟩ = some (.int .i64 u) ∧ W.cell? ⟨blk, q, none⟩ = some (.int .i64 v)) ⟨x1, x2⟩ ?_
            iterate 14 (apply first_step; (rw [List.getElem?_toArray]; (repeat rw [List.getElem?_cons_succ]); rw [List.getElem?_cons_zero]); rfl; (rintro W ⟨u0, u1⟩; go_simp; (first | done | rfl)); go_frame)
            refine first_done ?_
            have ent := HE.out
            apply forced_step; (rw [List.getElem?_toArray]; (repeat rw [List.getElem?_cons_succ]); rw [List.getElem?_cons_zero]); rfl; intro K hK; go_simp
            clear ent
            have hc := hcmp.out
            rw [← HU.out, ← HV.out] at hc
            refine hc.mono ?_
            rintro e w2 ⟨rfl, hb2⟩
            refine hK _ _ (fun h => absurd (by decide) h) ?_
            clear hK K hc
            have hb3 : Below wr.heap.size wr w2 := (Below.refl _ wr).drew.trans hb2
            have S2 := Lib.hid (hS.out.below hB hb3)
            clear hb2 hb3 x1 x2
            have hd0 := HD0.out
            apply forced_step; (rw [List.getElem?_toArray]; (repeat rw [List.getElem?_cons_succ]); rw [List.getElem?_cons_zero]); rfl; intro K hK; go_simp; refine hK _ _ (fun h => absurd (by decide) h) ?_; clear hK K
            apply forced_step; (rw [List.getElem?_toArray]; (repeat rw [List.getElem?_cons_succ]); rw [List.getElem?_cons_zero]); rfl; intro K hK; go_simp; refine hK _ _ (fun h => absurd (by decide) h) ?_; clear hK K
            refine forced_done ?_
            refine multi_done ?_
            go_wp2_with fail
            clear hd0
            have S3 := S2
            clear hS
            go_roundw
            case rel => exact ⟨i + 1, dj, by go_num, by omega, by omega, hsj, S3, hN, HO2⟩
            case measure => simp [intOf]; omega
        · have HO2 : Hid (insOuter (ltC cf) a b (i + 1) dj = insOuter (ltC cf) a b (a + 1) d) := by
            show _ = _
            rw [← hO.out, insOuter_go _ _ _ _ _ hlt, ← hI.out, insInner_stop _ _ _ _ (.inl (by omega))]
          have e7 : ¬ (a : Int) < (j : Int) := by omega
          have e8 : decide ((a : Int) < (j : Int)) = false := decide_eq_false e7
          go_wp2_with fail
          refine wp_region_multiR [([0, 1, 2, 3, 4, 5, 6, 7, 8, 9, 10, 11, 12, 13], [14, 15, 16], [14, 15, 16])] (by kernel_rfl) (by kernel_rfl) ?_
          refine multi_phase (Below wr.heap.size wr) (Below.refl _ _).drew ?_
          iterate 14 (first | (apply first_step; (rw [List.getElem?_toArray]; (repeat rw [List.getElem?_cons_succ]); rw [List.getElem?_cons_zero]); rfl; (intro W hB; have hc := bcellB hB; go_simp; (first | done | rfl)); go_frame) | (apply first_skip; (rw [List.getElem?_toArray]; (repeat rw [List.getElem?_cons_succ]); rw [List.getElem?_cons_zero]); rfl; go_frame))
          refine first_done ?_
          (apply forced_skip; (rw [List.getElem?_toArray]; (repeat rw [List.getElem?_cons_succ]); rw [List.getElem?_cons_zero]); rfl; exact (fun h => absurd (by decide) h); go_frame)
          (apply forced_skip; (rw [List.getElem?_toArray]; (repeat rw [List.getElem?_cons_succ]); rw [List.getElem?_cons_zero]); rfl; exact (fun h => absurd (by decide) h); go_frame)
          apply forced_step; (rw [List.getElem?_toArray]; (repeat rw [List.getElem?_cons_succ]); rw [List.getElem?_cons_zero]); rfl; intro K hK; go_simp; refine hK _ _ (fun h => absurd (by decide) h) ?_; clear hK K
          refine forced_done ?_
          refine multi_done ?_
          go_wp2_with fail
          have S3 := Lib.hid hS.out.drew
          clear hS
          go_roundw
          case rel => exact ⟨i + 1, dj, by go_num, by omega, by omega, hsj, S3, hN, HO2⟩
          case measure => simp [intOf]; omega
    · have HO2 : Hid (dk = insertionSort (ltC cf) d a b) := by
        show _ = _
        unfold insertionSort
        rw [← hO.out, insOuter_stop _ _ _ _ _ hlt]
      have i1 : ¬ (i : Int) < (b : Int) := by omega
      go_wp2_with fail
      go_end0
      rw [← HO2.out]
      exact ⟨rfl, hS.out, hN.out⟩
end
end Go.Proofs.YtndhmahkglfopaaGreatDoor
/- farray.run from 0: the places in a row. -/
namespace Go.Proofs.YtndhmahkglfopaaGreatDoor
open Go.RowKit Go.Sort
theorem own_rowI {w : World} {B n : Nat} {v : Value} (hn : 1 ≤ n) (h : w.ownsRow B 3 1 v n ((List.range n).map encN)) : ∃ b cap, v = .slice (some ⟨b, 0, none⟩) n cap ∧ B ≤ b ∧ RowI w b (Array.range n) := by
  rcases h.2 with ⟨e, h0⟩ | ⟨gb, cap, cur, hs, hB, hh, hn', hz, hsz, ht⟩
  · omega
  · refine ⟨gb, cap, hs, hB, cur.toList.drop n, hh.trans ?_⟩
    congr 2
    apply Array.ext'
    simp only [Array.toList_range]
    rw [← ht]
    simp
theorem own_sl3 {w : World} {B n : Nat} {v : Value} {l : List Value} (h : w.ownsRow B 3 1 v n l) : ∃ a cap, v = .slice a n cap := by
  rcases h.2 with ⟨e, h0⟩ | ⟨gb, cap, cur, hs, hB, hh, hn', hz, hsz, ht⟩
  · exact ⟨none, 0, by rw [e, h0]⟩
  · exact ⟨_, _, hs⟩
theorem own_ne {w : World} {B n : Nat} {v : Value} {l : List Value} (h : w.ownsRow B 3 1 v n l) : ∀ k, v.ownBlock = some k → B ≤ k := fun k hk => by
  rcases h.2 with ⟨e, h0⟩ | ⟨gb, cap, cur, hs, hB, hh, hn', hz, hsz, ht⟩
  · rw [e] at hk; cases hk
  · rw [hs] at hk
    simp [Value.ownBlock] at hk
    omega
section
variable (w : World)
set_option maxHeartbeats 4000000
set_option maxRecDepth 100000
theorem run_any (n : Nat) (h1 : 1 ≤ n) (h2 : n ≤ 4096) : Calls Tryz.prog 336 #[.int .i64 0, .int .i64 n] w fun e w' => ∃ b cap, e = .returned (.slice (some ⟨b, 0, none⟩) n cap) ∧ w.heap.size ≤ b ∧ RowI w' b (Array.range n) ∧ Go.RowKit.Below w.heap.size w w' := by
  obtain ⟨i0, hi, hz0, hz1, hz2⟩ := info_parts info3
  have HI := Lib.hid hi
  have HZ0 := Lib.hid hz0
  have HZ1 := Lib.hid hz1
  have HZ2 := Lib.hid hz2
  clear hi hz0 hz1 hz2
  go_enter Tryz.func336, Tryz.ntmps336
  go_wp2_with fail
  go_loopw [5, 6] (fun v x wr => ∃ i : Nat, x = .int .i64 i ∧ i ≤ n ∧ Hid (Go.RowKit.Below w.heap.size w wr) ∧ Hid (wr.ownsRow w.heap.size 3 1 v i ((List.range i).map encN))) (fun _ x _ => n - (intOf x).toNat)
  case atStart => exact ⟨0, rfl, Nat.zero_le _, Below.refl _ _, by simp, Or.inl ⟨rfl, rfl⟩⟩
  case round =>
    obtain ⟨i, rfl, hi, hB, hO⟩ := hrel
    by_cases hlt : i < n
    · have i1 : (i : Int) < (n : Int) := by omega
      have wi : wrap64 ((i : Int) + 1) = (i : Int) + 1 := IntWalk.wrap64_in _ (by omega)
      obtain ⟨sa, scap, rfl⟩ := own_sl3 hO.out
      have hle := hB.out.size
      go_wp2_with (
        at_builtin
        refine wpList_append_own_at _ rfl _ _ 75 rfl w.heap.size 3 i0 (.int .i64 0) 1 8 Tryz.underlying75 HI.out HZ0.out HZ1.out HZ2.out rfl (by decide) (.slice sa i scap) i ((List.range i).map encN) rfl (hO.out.alloc _) ⟨wr.heap.size, 0, none⟩ 1 1 [encN i] rfl rfl (fun j u hj => cells_new wr #[encN i] 3 j u hj) (by simp [Value.oneCell', encN]) (by unfold maxLen; omega) (by omega) (by simp; omega) ?_
        intro v' wN hown hgrow _ _
        have FO : Hid (wN.ownsRow w.heap.size 3 1 v' (i + 1) ((List.range (i + 1)).map encN)) := by
          unfold Hid
          rw [List.range_succ, List.map_append]
          exact hown
        have FB : Hid (Go.RowKit.Below w.heap.size w wN) := (hB.out.alloc hB.out.size _).grown hgrow (by simp; omega) (fun k hk => ((own_ne hO.out) k hk))
        clear hown hgrow)
      go_roundw
      case rel => exact ⟨i + 1, by go_num, by omega, FB, FO⟩
      case measure => simp [intOf]; omega
    · have e : i = n := by omega
      subst e
      have i1 : ¬ (i : Int) < (i : Int) := by omega
      obtain ⟨b, cap, rfl, hb, hr⟩ := own_rowI h1 hO.out
      have HR := Lib.hid hr
      have HBB := Lib.hid hb
      clear hr hb
      go_wp2_with fail
      go_ret
      exact ⟨b, ⟨cap, rfl⟩, HBB.out, HR.out, hB.out⟩
end
end Go.Proofs.YtndhmahkglfopaaGreatDoor
/- slices.stableCmpFunc over a row of at most 40 places. -/
namespace Go.Proofs.YtndhmahkglfopaaGreatDoor
open Go.RowKit Go.Sort
def SymOk (W0 : World) (B g : Nat) (cb : Array Value) (N : Nat) (cf : Nat → Nat → Int) (blk L cap : Nat) : Prop :=
  ∀ (w : World) (d : Array Nat) (a m b : Nat), RI W0 B blk d w → InN N d → d.size = L → a < m → m < b → b ≤ L → SortedIn (ltC cf) a m d → SortedIn (ltC cf) m b d →
    Calls Tryz.prog 373 #[.slice (some ⟨blk, 0, none⟩) L cap, .int .i64 a, .int .i64 m, .int .i64 b, .func (.func g) #[] cb] w fun e w' => e = .returned (.tuple #[]) ∧ ∃ d', RI W0 B blk d' w' ∧ PermIn a b d d' ∧ SortedIn (ltC cf) a b d'
/-- A row under way: the blocks of 20 ahead of place 20 k are in order. -/
structure Stb (W0 : World) (B N : Nat) (lt : Nat → Nat → Bool) (blk L : Nat) (d0 : Array Nat) (k : Nat) (d : Array Nat) (w : World) : Prop where
  ri : RI W0 B blk d w
  inn : InN N d
  perm : PermIn 0 L d0 d
  seg : ∀ j, j < k → SortedIn lt (20 * j) (20 * j + 20) d
theorem Stb.next {W0 w w' : World} {B N blk L k b : Nat} {lt : Nat → Nat → Bool} {d0 d d' : Array Nat} (h : Stb W0 B N lt blk L d0 k d w) (hL : d0.size = L) (hb : b ≤ L) (_h20 : 20 * k ≤ b) (h1 : RI W0 B blk d' w') (h2 : InN N d') (h3 : PermIn (20 * k) b d d') :
    Stb W0 B N lt blk L d0 k d' w' where
  ri := h1
  inn := h2
  perm := permIn_trans _ _ _ _ _ h.perm (permIn_mono _ _ _ _ _ _ (Nat.zero_le _) hb (by rw [h.perm.1, hL]; exact Nat.le_refl _) h3)
  seg := fun j hj i i' hi hii hi' => by
    rw [h3.2.1 i (by omega), h3.2.1 i' (by omega)]
    exact h.seg j hj i i' hi hii hi'
section
variable (W0 w : World) (B g : Nat) (cb : Array Value) (N : Nat) (cf : Nat → Nat → Int) (blk cap : Nat)
set_option maxHeartbeats 4000000
set_option maxRecDepth 100000
theorem stable_any (L : Nat) (d : Array Nat) (hE : ∀ (args : Array Value) (W : World), (callFunc g args).run Tryz.prog W = .ok (.enter g args) W) (hSW : SWO (ltC cf)) (hC : CmpOk W0 B g cb N cf) (hM : 20 < L → SymOk W0 B g cb N cf blk L cap) (hB : B ≤ W0.heap.size) (hS : RI W0 B blk d w) (hN : InN N d) (hL : d.size = L) (h40 : L ≤ 40) :
    Calls Tryz.prog 356 #[.slice (some ⟨blk, 0, none⟩) L cap, .int .i64 L, .func (.func g) #[] cb] w fun e w' => e = .returned (.tuple #[]) ∧ ∃ d', RI W0 B blk d' w' ∧ PermIn 0 L d d' ∧ SortedIn (ltC cf) 0 L d' := by
  have INS : Hid (∀ (w : World) (k A b : Nat) (dk : Array Nat), Stb W0 B N (ltC cf) blk L d k dk w → A = 20 * k → A ≤ b → b ≤ L → Calls Tryz.prog 372 #[.slice (some ⟨blk, 0, none⟩) L cap, .int .i64 A, .int .i64 b, .func (.func g) #[] cb] w fun e w' => e = .returned (.tuple #[]) ∧ ∃ d', Stb W0 B N (ltC cf) blk L d k d' w' ∧ SortedIn (ltC cf) (20 * k) b d') := by
    intro w k A b dk h hA h1 h2
    subst hA
    have hz : dk.size = L := h.perm.1.trans hL
    have hi := insertion_any W0 w B g cb N cf blk cap (20 * k) b dk hE hC hB h.ri h.inn h1 (by omega) (by omega)
    rw [hz] at hi
    refine hi.mono ?_
    rintro e w' ⟨rfl, r1, r2⟩
    obtain ⟨p1, p2⟩ := insertionSort_holds hSW dk (20 * k) b h1 (by omega)
    exact ⟨rfl, _, h.next hL h2 h1 r1 r2 p1, p2⟩
  have T0 : Hid (Stb W0 B N (ltC cf) blk L d 0 d w) := ⟨hS, hN, permIn_refl _ _ _, fun j hj => by omega⟩
  have HM := Lib.hid hM
  have HSW := Lib.hid hSW
  have HLD := Lib.hid hL
  clear hE hC hS hN hM hSW hL
  go_enter Tryz.func356, Tryz.ntmps356
  go_wp2_with fail
  go_loopw [7, 8] (fun x y wr => ∃ (k A : Nat) (dk : Array Nat), x = .int .i64 A ∧ y = .int .i64 ((A : Int) + 20) ∧ A ≤ L ∧ Hid (A = 20 * k) ∧ Hid (Stb W0 B N (ltC cf) blk L d k dk wr)) (fun x _ _ => L - (intOf x).toNat)
  case atStart => exact ⟨0, 0, d, rfl, rfl, by omega, rfl, T0⟩
  case round =>
    clear T0
    obtain ⟨k, A, dk, rfl, rfl, hk, hA, hT⟩ := hrel
    by_cases hlt : A + 20 ≤ L
    · have i1 : (A : Int) + 20 ≤ (L : Int) := by omega
      have ha := INS.out wr k A (A + 20) dk hT.out hA.out (by omega) hlt
      have w1 : wrap64 ((A : Int) + 20 + 20) = (A : Int) + 20 + 20 := IntWalk.wrap64_in _ (by omega)
      rw [Int.natCast_add, show ((20 : Nat) : Int) = 20 from rfl] at ha
      go_wp2_with fail
      refine ha.mono ?_
      rintro e w2 ⟨rfl, d2, hT2, hs2⟩
      have T2 : Hid (Stb W0 B N (ltC cf) blk L d (k + 1) d2 w2) := ⟨hT2.ri, hT2.inn, hT2.perm, fun j hj => by
        by_cases e : j < k
        · exact hT2.seg j e
        · have : j = k := by omega
          subst this
          rw [hA.out] at hs2
          exact hs2⟩
      have A2 : Hid (A + 20 = 20 * (k + 1)) := by have := hA.out; show _ = _; omega
      clear ha hT2 hs2 hT
      go_wp2_with fail
      go_roundw
      case rel => exact ⟨k + 1, A + 20, d2, by go_num, by go_num, hlt, A2, T2⟩
      case measure => simp [intOf]; omega
    · have i1 : ¬ (A : Int) + 20 ≤ (L : Int) := by omega
      have ha := INS.out wr k A L dk hT.out hA.out hk (Nat.le_refl _)
      go_wp2_with fail
      refine ha.mono ?_
      rintro e w2 ⟨rfl, d2, hT2, hs2⟩
      have T2 := Lib.hid hT2
      have S2 := Lib.hid hs2
      have IL := Lib.hid hlt
      clear ha hT2 hs2 hT i1 hlt
      go_wp2_with fail
      have hkk : (L ≤ 20 → SortedIn (ltC cf) 0 L d2) ∧ (20 < L → SortedIn (ltC cf) 0 20 d2 ∧ SortedIn (ltC cf) 20 L d2) := by
        have hAk := hA.out
        have hl := IL.out
        refine ⟨fun h => ?_, fun h => ?_⟩
        · by_cases e0 : k = 0
          · subst e0
            exact S2.out
          · have s0 := T2.out.seg 0 (by omega)
            have e2 : L = 20 := by omega
            rw [e2]
            exact s0
        · have s0 := T2.out.seg 0 (by omega)
          refine ⟨s0, ?_⟩
          by_cases e1 : k = 1
          · subst e1
            exact S2.out
          · have e2 : k = 2 := by omega
            have e3 : L = 40 := by omega
            rw [e3]
            exact T2.out.seg 1 (by omega)
      have HKK := Lib.hid hkk
      have SYM : Hid (∀ wx, 20 < L → RI W0 B blk d2 wx → Calls Tryz.prog 373 #[.slice (some ⟨blk, 0, none⟩) L cap, .int .i64 0, .int .i64 20, .int .i64 L, .func (.func g) #[] cb] wx fun e w' => e = .returned (.tuple #[]) ∧ ∃ d', RI W0 B blk d' w' ∧ PermIn 0 L d d' ∧ SortedIn (ltC cf) 0 L d') := fun wx h20 hr => by
        obtain ⟨s1, s2⟩ := HKK.out.2 h20
        refine (HM.out h20 wx d2 0 20 L hr T2.out.inn (T2.out.perm.1.trans HLD.out) (by omega) h20 (Nat.le_refl _) s1 s2).mono ?_
        rintro e w' ⟨rfl, d', r1, r2, r3⟩
        exact ⟨rfl, d', r1, permIn_trans _ _ _ _ _ T2.out.perm r2, r3⟩
      clear hkk HM
      go_loopw [6] (fun x wr => ∃ (bs : Int), x = .int .i64 bs ∧ 20 ≤ bs ∧ bs ≤ 40 ∧ Hid ((bs = 20 ∧ RI W0 B blk d2 wr) ∨ (bs = 40 ∧ ∃ d', RI W0 B blk d' wr ∧ PermIn 0 L d d' ∧ SortedIn (ltC cf) 0 L d'))) (fun x _ => 40 - (intOf x).toNat)
      case atStart => exact ⟨20, rfl, by omega, by omega, .inl ⟨rfl, T2.out.ri⟩⟩
      case round =>
        obtain ⟨bs, rfl, hb0, hbs, hO⟩ := hrel
        by_cases hgo : bs < L
        · obtain ⟨rfl, hr⟩ : bs = 20 ∧ RI W0 B blk d2 wr := by
            rcases hO.out with h | ⟨h, _⟩
            · exact h
            · omega
          have R2 := Lib.hid hr
          have hgo : 20 < L := by omega
          rename World => wo
          have i1 : (20 : Int) < (L : Int) := by omega
          clear hO hr
          go_wp2_with fail
          go_loopw [7, 8] (fun x y wr => ∃ (A : Int), x = .int .i64 A ∧ y = .int .i64 (A + 40) ∧ 0 ≤ A ∧ A ≤ 40 ∧ Hid ((A = 0 ∧ RI W0 B blk d2 wr) ∨ (A = 40 ∧ L = 40 ∧ ∃ d', RI W0 B blk d' wr ∧ PermIn 0 L d d' ∧ SortedIn (ltC cf) 0 L d'))) (fun x _ _ => 40 - (intOf x).toNat)
          case atStart => exact ⟨0, rfl, rfl, by omega, by omega, .inl ⟨rfl, R2⟩⟩
          case round =>
            clear R2
            obtain ⟨A', rfl, rfl, hA0, hA', hI⟩ := hrel
            by_cases hin : A' + 40 ≤ L
            · obtain ⟨rfl, hr⟩ : A' = 0 ∧ RI W0 B blk d2 wr := by
                rcases hI.out with h | ⟨h, _⟩
                · exact h
                · omega
              have e40 : L = 40 := by omega
              have hc := SYM.out wr hgo hr
              have E40 := Lib.hid e40
              rw [show (L : Int) = 40 by omega] at hc
              have i2 : (40 : Int) ≤ (L : Int) := by omega
              clear hI hr e40
              go_wp2_with fail
              refine hc.mono ?_
              rintro e w3 ⟨rfl, hr3⟩
              have R3 := Lib.hid hr3
              clear hc hr3
              go_wp2_with fail
              go_roundw
              case rel => exact ⟨40, by go_num, by go_num, by omega, by omega, .inr ⟨rfl, E40.out, R3.out⟩⟩
              case measure => simp [intOf]
            · have i2 : ¬ A' + 40 ≤ (L : Int) := by omega
              by_cases hm : A' + 20 < L
              · obtain ⟨rfl, hr⟩ : A' = 0 ∧ RI W0 B blk d2 wr := by
                  rcases hI.out with h | ⟨h, _⟩
                  · exact h
                  · omega
                have hc := SYM.out wr hgo hr
                have i3 : ¬ (40 : Int) ≤ (L : Int) := by omega
                clear hI hr i2
                go_wp2_with fail
                refine hc.mono ?_
                rintro e w3 ⟨rfl, hr3⟩
                have R3 := Lib.hid hr3
                clear hc hr3
                go_wp2_with fail
                go_roundw
                case rel => exact ⟨40, by go_num, by omega, by omega, .inr ⟨rfl, R3.out⟩⟩
                case measure => simp [intOf]
              · obtain ⟨rfl, e40, hr3⟩ : A' = 40 ∧ L = 40 ∧ ∃ d', RI W0 B blk d' wr ∧ PermIn 0 L d d' ∧ SortedIn (ltC cf) 0 L d' := by
                  rcases hI.out with ⟨h, _⟩ | h
                  · omega
                  · exact h
                have R3 := Lib.hid hr3
                have i3 : ¬ (80 : Int) ≤ (L : Int) := by omega
                have i4 : ¬ (60 : Int) < (L : Int) := by omega
                clear hI hr3 i2 e40
                go_wp2_with fail
                go_roundw
                case rel => exact ⟨40, by go_num, by omega, by omega, .inr ⟨rfl, R3.out⟩⟩
                case measure => simp [intOf]
        · have i1 : ¬ bs < (L : Int) := by omega
          have FIN : Hid (∃ d', RI W0 B blk d' wr ∧ PermIn 0 L d d' ∧ SortedIn (ltC cf) 0 L d') := by
            rcases hO.out with ⟨h, hr⟩ | ⟨_, h⟩
            · exact ⟨d2, hr, T2.out.perm, HKK.out.1 (by omega)⟩
            · exact h
          clear hO
          go_wp2_with fail
          go_end0
          exact ⟨rfl, FIN.out⟩
end
end Go.Proofs.YtndhmahkglfopaaGreatDoor
