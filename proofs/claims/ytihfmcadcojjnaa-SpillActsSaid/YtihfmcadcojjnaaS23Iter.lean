/- Rects: the iterator over the verdicts of a board. -/
import Derived.Test.YtihfmcadcojjnaaS23Play
import Derived.RangeFuncNested
import Derived.RangeFuncBound
import Derived.RangeFuncCalls
import Derived.RangeFuncLeaves
import Derived.Shelf.Abstract
import Derived.Shelf.RegionOpen
import Derived.OwnWalkIn
import Derived.TacticsInMore
import Derived.LoopNIn
import Derived.LoopIn
namespace Go.Proofs.Ytihfmcadcojjnaa
open Go.RowKit Go.Shelf
attribute [local go_sem] Oper.semAt_some
theorem rects_any (p : Option Addr) (w : World) :
    Calls Try.prog 16 #[.pointer p] w fun e w' => e = .returned (.func (.func 25) #[] #[.pointer (some ⟨w.heap.size, 0, none⟩)]) ∧ w' = w.alloc (.cells #[.pointer p] 26) := by
  go_enter Try.func16, Try.ntmps16
  go_wp2
  go_ret
  exact ⟨rfl, rfl⟩
theorem Fr.of_under {B : Nat} {w w' : World} (h : Below B w w') : Fr (fun b => B ≤ b) w w' := ⟨h.os, h.tape, h.output, h.size, fun k _ hn => h.block k (by omega)⟩
abbrev VIn (g : G) := { v : Ver // v ∈ g.L }
def encV (v : Ver) : Array Value := #[.agg #[.int .i64 v.r, .int .i64 v.c, .int .i64 v.rs, .int .i64 v.cs], .bool v.st]
def allV (g : G) : List (VIn g) := g.L.attach
set_option maxRecDepth 100000 in
set_option maxHeartbeats 1000000 in
theorem iter_in (n : Nat) (hn1 : 1 ≤ n) (l Bn n₀ p : Nat) (g : G) (hg : g.L.length ≤ 1000000) (J Jx : List (VIn g) → World → Prop)
    (hY : ∀ pre x W, J pre W → pre.length < g.L.length → YieldAt Fence.wide (n - 1) Try.prog l (encV x.1) W fun e W' =>
      (e = .returned (.bool true) ∧ J (pre ++ [x]) W' ∧ Below n₀ W W') ∨ (e = .returned (.bool false) ∧ Jx (pre ++ [x]) W'))
    (W : World) (S : Nat → Prop) (hBn : W.cell? ⟨Bn, 0, none⟩ = some (.pointer (some ⟨p, 0, none⟩))) (hL : IsBd W p S g) (hS : ∀ k, S k → k < n₀) (hn₀ : n₀ ≤ W.heap.size) (hJ : AbidesFrom W.heap.size J) (h0 : J [] W) :
    CallsIn Fence.wide n Try.prog 25 #[.func (.yield l) #[] #[], .pointer (some ⟨Bn, 0, none⟩)] W fun e W' => (∃ v, e = .returned v) ∧
      ((∃ ys, ys = allV g ∧ J ys W') ∨ (∃ pre, pre <+: allV g ∧ Jx pre W')) := by
  refine callsIn_of_wp Try.func25 rfl trivial ?_ rfl
  simp only [Try.ntmps25, List.size_toArray, List.length_cons, List.length_nil, Nat.reduceAdd, Nat.reduceSub, Array.replicate_succ, Array.replicate_zero, List.push_toArray, List.append_toArray, List.nil_append, List.cons_append]
  obtain ⟨bf, ba, bo, sv, H⟩ := hL
  obtain ⟨_, _, _, c3, _, _⟩ := H.cell
  obtain ⟨sa, scap, hsv⟩ := ownsRow_slice H.row
  subst hsv
  have HH := Lib.hid H
  have HJ := Lib.hid hJ
  have H0 : Hid (J ((allV g).take 0) W) := h0
  clear H hJ h0
  gi_wp2
  gi_loopw [12] (fun x wr => ∃ k : Nat, x = .int .i64 k ∧ k ≤ g.L.length ∧ Hid (Below n₀ W wr) ∧ Hid (J ((allV g).take k) wr)) (fun x _ => g.L.length - (intOf x).toNat)
  case atStart => exact ⟨0, rfl, Nat.zero_le _, Below.refl _ _, H0⟩
  case round =>
    obtain ⟨k, rfl, hk, hB, hJk⟩ := hrel
    by_cases hlt : k < g.L.length
    · obtain ⟨⟨v, hvm⟩, hx⟩ : ∃ x : VIn g, (allV g)[k]? = some x := ⟨_, List.getElem?_eq_getElem (by simp [allV]; exact hlt)⟩
      have hv : g.L[k]? = some v := by
        have := congrArg (Option.map Subtype.val) hx
        rw [← List.getElem?_map] at this
        simpa [allV] using this
      have Hr := HH.out.frame (.of_under hB.out) (fun j h1 h2 => by have := hS j h1; omega)
      obtain ⟨gb, cap, hsv, hgb, hcell⟩ := Hr.ver hv
      simp only [Value.slice.injEq, true_and] at hsv
      obtain ⟨rfl, rfl⟩ := hsv
      have e0 := hcell 0 (by omega)
      rw [Nat.add_zero] at e0
      have e1 := hcell 1 (by omega)
      have e2 := hcell 2 (by omega)
      have e3 := hcell 3 (by omega)
      have e4 := hcell 4 (by omega)
      have e5 := hcell 5 (by omega)
      have e6 := hcell 6 (by omega)
      have e7 := hcell 7 (by omega)
      unfold cellsV at e0 e1 e2 e3 e4 e5 e6 e7
      have TK : Hid ((allV g).take (k + 1) = (allV g).take k ++ [⟨v, hvm⟩]) := by
        unfold Hid
        rw [List.take_add_one, hx]
        rfl
      have PF : Hid ((allV g).take k ++ [⟨v, hvm⟩] <+: allV g) := by
        rw [← TK.out]; exact List.take_prefix _ _
      have hJ2 := HJ.out _ _ _ none hJk.out (World.grownBy_alloc wr (.cells #[.int .i64 v.r, .int .i64 v.c, .int .i64 v.rs, .int .i64 v.cs, .bool v.st, .bool v.kn, .int .i64 v.br, .int .i64 v.bc] 75) none) (fun r h => by cases h)
      obtain ⟨fn, tmps, assign, body, hy, hR⟩ := hY _ ⟨v, hvm⟩ _ hJ2 (by simp [allV]; omega)
      unfold encV at hy
      dsimp only at hy
      have j1 : (0 : Int) ≤ (k : Int) := by omega
      have j2 : (k : Int) < (g.L.length : Int) := by omega
      have hB' : Hid (Below n₀ W (wr.alloc (.cells #[.int .i64 v.r, .int .i64 v.c, .int .i64 v.rs, .int .i64 v.cs, .bool v.st, .bool v.kn, .int .i64 v.br, .int .i64 v.bc] 75))) := hB.out.alloc (Nat.le_trans hn₀ hB.out.size) _
      have HR := Lib.hid hR
      clear hR hJ2 hcell hx hv Hr
      gi_wp2
      refine HR.out.mono ?_
      rintro e W3 (⟨rfl, hJ3, hk3⟩ | ⟨rfl, hJx3⟩)
      · have HJ3 := Lib.hid hJ3
        have HB3 := Lib.hid (hB'.out.trans hk3)
        clear hJ3 hk3 HR hy
        gi_wp2
        go_roundw
        case rel => exact ⟨k + 1, by go_num, by omega, HB3, by rw [TK.out]; exact HJ3⟩
        case measure => simp [intOf]; omega
      · have HJ3 := Lib.hid hJx3
        clear hJx3 HR hy
        gi_wp2
        refine bodyPost_ret (results_none rfl _ _ _) rfl ?_
        exact ⟨⟨_, rfl⟩, .inr ⟨_, PF.out, HJ3.out⟩⟩
    · have e : (allV g).take k = allV g := List.take_of_length_le (by simp [allV]; omega)
      rw [e] at hJk
      clear e
      gi_wp2
      go_end0
      exact ⟨⟨_, rfl⟩, .inl ⟨_, rfl, hJk.out⟩⟩
theorem iter_stops (n : Nat) (hn1 : 1 ≤ n) (Bn n₀ p : Nat) (g : G) (hg : g.L.length ≤ 1000000) (w : World) (S : Nat → Prop) (hBn : w.cell? ⟨Bn, 0, none⟩ = some (.pointer (some ⟨p, 0, none⟩))) (hL : IsBd w p S g) (hS : ∀ k, S k → k < n₀) (hn₀ : n₀ ≤ w.heap.size) :
    SeqStopsK Fence.wide n Try.prog 25 #[.pointer (some ⟨Bn, 0, none⟩)] (fun x : VIn g => encV x.1) (Below n₀) (fun ys => ys = allV g) (fun pre => pre <+: allV g) g.L.length w := fun l J Jx W hW hJ _ hY h0 =>
  iter_in n hn1 l Bn n₀ p g hg J Jx hY W S ((hW.cell (p := ⟨Bn, 0, none⟩) (World.block_lt_of_cell? w _ hBn)).trans hBn) (hL.below hW) hS (Nat.le_trans hn₀ hW.size) hJ h0
end Go.Proofs.Ytihfmcadcojjnaa
