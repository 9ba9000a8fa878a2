/- The document's In, Owner, Fill; rect. -/
import Derived.Test.YtihfmcadcojjnaaS23R1
namespace Go.Proofs.Ytihfmcadcojjnaa
open Go.RowKit
def inB (r c : Int) (v : Ver) : Bool := decide (v.r ≤ r) && decide (r - v.r < v.rs) && decide (v.c ≤ c) && decide (c - v.c < v.cs)
def Small (x : Int) : Prop := -9223372036854775808 ≤ x ∧ x ≤ 9223372036854775807
theorem sub_small {x y : Int} (hx : Small x) (hy : 0 ≤ y) (h : y ≤ x) : IntKind.i64.wrap (x - y) = x - y := by
  unfold Small at hx
  exact IntWalk.i64_in _ (by omega)
set_option maxHeartbeats 2000000 in
theorem in_any (v : Ver) (r c : Int) (w : World) (hr : Small r) (hc : Small c) (h1 : 0 ≤ v.r) (h2 : 0 ≤ v.c) : Calls Try.prog 32 #[rv v, .int .i64 r, .int .i64 c] w fun e w' => e = .returned (.bool (inB r c v)) ∧ Below w.heap.size w w' := by
  obtain ⟨vr, vc, rs, cs, st, kn, br, bc⟩ := v
  unfold rv inB
  simp only at h1 h2 ⊢
  have W1 : vr ≤ r → IntKind.i64.wrap (r - vr) = r - vr := sub_small hr h1
  have W2 : vc ≤ c → IntKind.i64.wrap (c - vc) = c - vc := sub_small hc h2
  clear hr hc
  by_cases g1 : vr ≤ r
  · have w1 := W1 g1
    by_cases g2 : r - vr < rs
    · by_cases g3 : vc ≤ c
      · have w2 := W2 g3
        have e : (decide (vr ≤ r) && decide (r - vr < rs) && decide (vc ≤ c) && decide (c - vc < cs)) = decide (c - vc < cs) := by simp [g1, g2, g3]
        rw [e]
        clear e W1 W2
        go_enter Try.func32, Try.ntmps32
        go_wp2
        go_ret
        refine ⟨rfl, ?_⟩
        (repeat (first | with_reducible exact Below.refl _ _ | with_reducible exact hBW | with_reducible refine Below.setCell ?_ ?_ _ | with_reducible refine Below.alloc ?_ ?_ _ | with_reducible refine belowN ?_ _ | with_reducible refine Below.drew ?_)); all_goals (first | omega | (dsimp only; omega) | ((repeat (first | with_reducible refine le_alloc ?_ | with_reducible refine le_setCell ?_ | with_reducible refine le_drew ?_ | with_reducible refine le_drewN ?_)); omega))
      · have e : (decide (vr ≤ r) && decide (r - vr < rs) && decide (vc ≤ c) && decide (c - vc < cs)) = false := by simp [g3]
        have t3 : decide (vc ≤ c) = false := by simpa using g3
        rw [e]
        clear e g3 W1 W2
        go_enter Try.func32, Try.ntmps32
        go_wp2
        go_ret
        refine ⟨rfl, ?_⟩
        (repeat (first | with_reducible exact Below.refl _ _ | with_reducible exact hBW | with_reducible refine Below.setCell ?_ ?_ _ | with_reducible refine Below.alloc ?_ ?_ _ | with_reducible refine belowN ?_ _ | with_reducible refine Below.drew ?_)); all_goals (first | omega | (dsimp only; omega) | ((repeat (first | with_reducible refine le_alloc ?_ | with_reducible refine le_setCell ?_ | with_reducible refine le_drew ?_ | with_reducible refine le_drewN ?_)); omega))
    · have e : (decide (vr ≤ r) && decide (r - vr < rs) && decide (vc ≤ c) && decide (c - vc < cs)) = false := by simp [g2]
      have t2 : decide (r - vr < rs) = false := by simpa using g2
      rw [e]
      clear e g2 W1 W2
      go_enter Try.func32, Try.ntmps32
      go_wp2
      go_ret
      refine ⟨rfl, ?_⟩
      (repeat (first | with_reducible exact Below.refl _ _ | with_reducible exact hBW | with_reducible refine Below.setCell ?_ ?_ _ | with_reducible refine Below.alloc ?_ ?_ _ | with_reducible refine belowN ?_ _ | with_reducible refine Below.drew ?_)); all_goals (first | omega | (dsimp only; omega) | ((repeat (first | with_reducible refine le_alloc ?_ | with_reducible refine le_setCell ?_ | with_reducible refine le_drew ?_ | with_reducible refine le_drewN ?_)); omega))
  · have e : (decide (vr ≤ r) && decide (r - vr < rs) && decide (vc ≤ c) && decide (c - vc < cs)) = false := by simp [g1]
    have t1 : decide (vr ≤ r) = false := by simpa using g1
    rw [e]
    clear e g1 W1 W2
    go_enter Try.func32, Try.ntmps32
    go_wp2
    go_ret
    refine ⟨rfl, ?_⟩
    (repeat (first | with_reducible exact Below.refl _ _ | with_reducible exact hBW | with_reducible refine Below.setCell ?_ ?_ _ | with_reducible refine Below.alloc ?_ ?_ _ | with_reducible refine belowN ?_ _ | with_reducible refine Below.drew ?_)); all_goals (first | omega | (dsimp only; omega) | ((repeat (first | with_reducible refine le_alloc ?_ | with_reducible refine le_setCell ?_ | with_reducible refine le_drew ?_ | with_reducible refine le_drewN ?_)); omega))
set_option maxHeartbeats 1000000 in
theorem rect_any (v : Ver) (w : World) : Calls Try.prog 20 #[rv v] w fun e w' => e = .returned (encR (v.r, v.c, v.rs, v.cs)) ∧ Below w.heap.size w w' := by
  obtain ⟨vr, vc, rs, cs, st, kn, br, bc⟩ := v
  unfold rv encR
  simp only
  go_enter Try.func20, Try.ntmps20
  go_wp2
  refine bodyPost_ret (v := .agg #[.int .i64 vr, .int .i64 vc, .int .i64 rs, .int .i64 cs]) (by simp [results, Try.results20, go_sem]) rfl ⟨rfl, ?_⟩
  (repeat (first | with_reducible exact Below.refl _ _ | with_reducible exact hBW | with_reducible refine Below.setCell ?_ ?_ _ | with_reducible refine Below.alloc ?_ ?_ _ | with_reducible refine belowN ?_ _ | with_reducible refine Below.drew ?_)); all_goals (first | omega | (dsimp only; omega) | ((repeat (first | with_reducible refine le_alloc ?_ | with_reducible refine le_setCell ?_ | with_reducible refine le_drew ?_ | with_reducible refine le_drewN ?_)); omega))
def owB (r c : Int) (v : Ver) : Bool := v.st && inB r c v
/-- Anchors that may be. -/
def Anch (L : List Ver) : Prop := ∀ v ∈ L, 0 ≤ v.r ∧ 0 ≤ v.c
set_option maxHeartbeats 2000000 in
set_option maxRecDepth 100000 in
theorem refOwner_any (rows cols : Int) (fa : Option Addr) (fn fc : Nat) (la : Option Addr) (lc : Nat) (L : List Ver) (r c : Int) (w : World) (hL : RctAt w la L) (hl : L.length ≤ 100) (hA : Anch L) (hr : Small r) (hc : Small c) :
    Calls Try.prog 30 #[xv rows cols fa fn fc la L.length lc, .int .i64 r, .int .i64 c] w fun e w' => ∃ m, e = .returned (.int .i64 m) ∧ IdxOf (owB r c) L m ∧ Below w.heap.size w w' := by
  have HF := Lib.hid hL
  have HA := Lib.hid hA
  have HR := Lib.hid hr
  have HC := Lib.hid hc
  unfold xv
  clear hL hA hr hc
  go_enter Try.func30, Try.ntmps30
  go_wp2_with fail
  have HB0 : Hid (Below w.heap.size w (w.alloc (xc rows cols fa fn fc la L.length lc)) ∧ (w.alloc (xc rows cols fa fn fc la L.length lc)).heap[w.heap.size]? = some (xc rows cols fa fn fc la L.length lc)) := ⟨by (repeat (first | with_reducible exact Below.refl _ _ | with_reducible exact hBW | with_reducible refine Below.setCell ?_ ?_ _ | with_reducible refine Below.alloc ?_ ?_ _ | with_reducible refine belowN ?_ _ | with_reducible refine Below.drew ?_)); all_goals (first | omega | (dsimp only; omega) | ((repeat (first | with_reducible refine le_alloc ?_ | with_reducible refine le_setCell ?_ | with_reducible refine le_drew ?_ | with_reducible refine le_drewN ?_)); omega)), by (repeat (first | (with_reducible refine heap_alloc_at ?_ _; (first | rfl | (simp; done) | omega | (simp; omega)); done) | with_reducible refine heap_alloc_old ?_ _ | with_reducible refine heap_drew_old ?_ | with_reducible refine heap_drewN_old ?_))⟩
  unfold xc at HB0
  go_loopw [7] (fun x wr => ∃ k : Nat, x = .int .i64 k ∧ k ≤ L.length ∧ Hid (∀ v ∈ L.take k, owB r c v = false) ∧ Hid (Below w.heap.size w wr ∧ wr.heap[w.heap.size]? = some (.cells #[.int .i64 rows, .int .i64 cols, .slice fa fn fc, .slice la L.length lc] 53))) (fun x _ => L.length - (intOf x).toNat)
  case atStart => exact ⟨0, rfl, Nat.zero_le _, fun v hv => (by simp at hv), HB0⟩
  case round =>
    obtain ⟨k, rfl, hk, hA, hS⟩ := hrel
    have k2 := cell_of_heap hS.out.2 3
    have z1 := lt_of_heap hS.out.2
    by_cases hlt : k < L.length
    · obtain ⟨v, hx⟩ : ∃ x, L[k]? = some x := ⟨_, List.getElem?_eq_getElem hlt⟩
      obtain ⟨b, off, rfl, hb, d0, d1, d2, d3, d4, d5, d6, d7⟩ := (HF.out.below hS.out.1).at hx
      have HX := Lib.hid hx
      have j1 : (0 : Int) ≤ (k : Int) := by omega
      have j2 : (k : Int) < (L.length : Int) := by omega
      have AV := Lib.hid (HA.out v (List.mem_of_getElem? hx))
      clear hx
      cases hst : v.st with
      | false =>
        have HN : Hid (∀ u ∈ L.take (k + 1), owB r c u = false) := none_take hA.out HX.out (by simp [owB, hst])
        rw [hst] at d4
        clear hst d0 d1 d2 d3 d5 d6 d7
        go_wp2
        go_roundw
        case rel => exact ⟨k + 1, by go_num, by omega, HN, hS⟩
        case measure => simp [intOf]; omega
      | true =>
        have HST := Lib.hid hst
        have hd4 := d4
        rw [hst] at d4
        clear hst
        obtain ⟨vr, vc, rs, cs, st, kn, br, bc⟩ := v
        simp only at d0 d1 d2 d3 d4 d5 d6 d7 hd4 HST
        have hs : st = true := HST.out
        subst hs
        clear hd4
        go_wp2_with fail
        refine (in_any ⟨vr, vc, rs, cs, true, kn, br, bc⟩ r c _ HR.out HC.out AV.out.1 AV.out.2).mono ?_
        rintro e w2 ⟨rfl, b2⟩
        have S2 : Hid (Below w.heap.size w w2 ∧ w2.heap[w.heap.size]? = some (.cells #[.int .i64 rows, .int .i64 cols, .slice fa fn fc, .slice (some ⟨b, off, none⟩) L.length lc] 53)) := ⟨hS.out.1.trans (b2.mono hS.out.1.size), (b2.block _ z1).trans hS.out.2⟩
        have HO : Hid (owB r c ⟨vr, vc, rs, cs, true, kn, br, bc⟩ = inB r c ⟨vr, vc, rs, cs, true, kn, br, bc⟩) := by unfold Hid; simp [owB]
        clear b2 d0 d1 d2 d3 d4 d5 d6 d7 k2
        generalize inB r c ⟨vr, vc, rs, cs, true, kn, br, bc⟩ = q at HO ⊢
        cases q with
        | true =>
          have HN : Hid (IdxOf (owB r c) L (k : Int)) := .inl ⟨k, _, rfl, HX.out, HO.out⟩
          go_wp2
          refine bodyPost_ret (v := .int .i64 k) (by simp [results, Try.results30, go_sem]) rfl ⟨_, rfl, HN.out, S2.out.1⟩
        | false =>
          have HN : Hid (∀ u ∈ L.take (k + 1), owB r c u = false) := none_take hA.out HX.out HO.out
          go_wp2
          go_roundw
          case rel => exact ⟨k + 1, by go_num, by omega, HN, S2⟩
          case measure => simp [intOf]; omega
    · have HN : Hid (IdxOf (owB r c) L (-1)) := by
        refine .inr ⟨rfl, ?_⟩
        have := hA.out
        rwa [List.take_of_length_le (by omega)] at this
      go_wp2
      refine bodyPost_ret (v := .int .i64 (-1)) (by simp [results, Try.results30, go_sem]) rfl ⟨_, rfl, HN.out, hS.out.1⟩
end Go.Proofs.Ytihfmcadcojjnaa
