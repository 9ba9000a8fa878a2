/- Same of like arrays; the document's example. -/
import Derived.Test.YtgbedjeiihigaaaF13EachA
namespace Go.Proofs.Ytgbedjeiihigaaa
open Go.RowKit
theorem neq_v (w : World) (a : V) : (binOp .neq 36 (vagg a) (vagg a)).run Try.prog w = .ok (.bool false) w := by
  obtain ⟨a1, a2, a3, a4, a5, a6⟩ := a
  unfold vagg
  simp [go_sem]
set_option maxHeartbeats 1000000 in
set_option maxRecDepth 100000 in
theorem same_yes (A : Arr) (x y : Value) (w : World) (hx : IsArr 0 w x A) (hy : IsArr 0 w y A) (hl : A.l.length ≤ 1000000) :
    Calls Try.prog 11 #[x, y] w fun e w' => e = .returned (.bool true) ∧ Below w.heap.size w w' := by
  obtain ⟨a, cap, rfl, ha⟩ := hx
  obtain ⟨b, bcap, rfl, hb⟩ := hy
  have HA := Lib.hid ha
  have HB := Lib.hid hb
  have r1 : (A.r != A.r) = false := by simp
  have r2 : (A.c != A.c) = false := by simp
  clear ha hb
  go_enter Try.func11, Try.ntmps11
  go_wp2_with fail
  refine abs_world ?_
  intro W0 hW0
  have hB0 : Below w.heap.size w W0 := by rw [hW0]; (repeat (first | with_reducible exact Below.refl _ _ | with_reducible exact hBW | with_reducible refine Below.setCell ?_ ?_ _ | with_reducible refine Below.alloc ?_ ?_ _ | with_reducible refine belowN ?_ _ | with_reducible refine Below.drew ?_)); all_goals (first | omega | (dsimp only; omega) | ((repeat (first | with_reducible refine le_alloc ?_ | with_reducible refine le_setCell ?_ | with_reducible refine le_drew ?_ | with_reducible refine le_drewN ?_)); omega))
  have g0 : W0.heap[w.heap.size]? = some (.cells #[.int .i64 A.r, .int .i64 A.c, .slice a A.l.length cap] 27) := by rw [hW0]; (repeat (first | (with_reducible refine heap_alloc_at ?_ _; (first | rfl | (simp; done) | omega | (simp; omega)); done) | with_reducible refine heap_alloc_old ?_ _ | with_reducible refine heap_drew_old ?_ | with_reducible refine heap_drewN_old ?_))
  have g1 : W0.heap[w.heap.size + 1]? = some (.cells #[.int .i64 A.r, .int .i64 A.c, .slice b A.l.length bcap] 27) := by rw [hW0]; (repeat (first | (with_reducible refine heap_alloc_at ?_ _; (first | rfl | (simp; done) | omega | (simp; omega)); done) | with_reducible refine heap_alloc_old ?_ _ | with_reducible refine heap_drew_old ?_ | with_reducible refine heap_drewN_old ?_))
  have G0 := Lib.hid g0
  have G1 := Lib.hid g1
  have HB0 := Lib.hid hB0
  clear hW0 g0 g1 hB0
  go_loopw [5] (fun i wr => ∃ k : Nat, i = .int .i64 k ∧ k ≤ A.l.length ∧ Hid (Below W0.heap.size W0 wr)) (fun i _ => A.l.length - (intOf i).toNat)
  case atStart => exact ⟨0, rfl, Nat.zero_le _, Below.refl _ _⟩
  case round =>
    obtain ⟨k, rfl, hk, hB⟩ := hrel
    have e0 := (hB.out.block w.heap.size (lt_of_heap G0.out)).trans G0.out
    have e1 := (hB.out.block (w.heap.size + 1) (lt_of_heap G1.out)).trans G1.out
    have x2 := cell_of_heap e0 2
    have y2 := cell_of_heap e1 2
    have z0 := lt_of_heap e0
    have z1 := lt_of_heap e1
    have HBw : Hid (Below w.heap.size w wr) := HB0.out.trans (hB.out.mono HB0.out.size)
    clear e0 e1
    by_cases hlt : k < A.l.length
    · obtain ⟨v, hv⟩ : ∃ v, A.l[k]? = some v := ⟨_, List.getElem?_eq_getElem hlt⟩
      obtain ⟨p, off, rfl, hp, c0, c1, c2, c3, c4, c5⟩ := (HA.out.below HBw.out).cells hv
      obtain ⟨q, off', rfl, hq, d0, d1, d2, d3, d4, d5⟩ := (HB.out.below HBw.out).cells hv
      have nv := fun W => neq_v W v
      simp only [vagg_eq] at nv
      have j1 : (0 : Int) ≤ (k : Int) := by omega
      have j2 : (k : Int) < (A.l.length : Int) := by omega
      clear hv
      go_wp2_with fail
      refine wp_region_mix [0, 1, 2, 3, 4, 5, 6, 7, 8, 9, 10] [] [] (Below wr.heap.size wr) (by kernel_rfl) (by kernel_rfl) (Below.refl _ _).drew ?_
      iterate 11 (first | (apply first_step; (rw [List.getElem?_toArray]; (repeat rw [List.getElem?_cons_succ]); rw [List.getElem?_cons_zero]); rfl; (intro W hB; have hc := bcellB hB; go_simp; (first | done | rfl)); go_frame) | (apply first_skip; (rw [List.getElem?_toArray]; (repeat rw [List.getElem?_cons_succ]); rw [List.getElem?_cons_zero]); rfl; go_frame))
      refine first_done ?_
      refine tail_done ?_
      clear c0 c1 c2 c3 c4 c5 d0 d1 d2 d3 d4 d5 nv x2 y2
      go_wp2_with fail
      go_roundw
      case rel => exact ⟨k + 1, by go_num, by omega, hB.out.drew⟩
      case measure => simp [intOf]; omega
    · go_wp2_with fail
      go_ret
      exact ⟨rfl, HBw.out⟩
theorem tok_truth (b : Bool) : TOk (vTruth b) := tok_plain (by simp [vTruth])
theorem tok_blank : TOk vBlank := tok_plain (by simp [vBlank])
theorem ok_one {v : V} (h : RightOk v) : ArrOk ⟨1, 1, [v]⟩ := ⟨by simp, by simp, by simp, by simp, by simp, fun u hu => by rw [List.mem_singleton.1 hu]; exact h⟩
theorem ent32 : ∀ args W, (callFunc 32 args).run Try.prog W = .ok (.enter 32 args) W := enters_of Try.func32 (by kernel_rfl) rfl
theorem ent33 : ∀ args W, (callFunc 33 args).run Try.prog W = .ok (.enter 33 args) W := enters_of Try.func33 (by kernel_rfl) rfl
theorem ent34 : ∀ args W, (callFunc 34 args).run Try.prog W = .ok (.enter 34 args) W := enters_of Try.func34 (by kernel_rfl) rfl
def andF (y a : Int) : Bool := decide (y = a)
def orF (y _a : Int) : Bool := decide (0 < y)
def xorF (y _a : Int) : Bool := decide (y % 2 = 1)
section
variable (l : List Arr) (h1 : 1 ≤ l.length) (h2 : l.length ≤ 32) (hT : ∀ A ∈ l, ∀ v ∈ A.l, TOk v) (hO : ∀ A ∈ l, ArrOk A) (hN : (allV l).length ≤ 1000000) (a : Option Addr) (cap : Nat) (w : World) (hA : ArgsAt 0 w a l)
include h1 h2 hT hO hN hA
theorem call_and : Calls Try.prog 10 #[.string sAND, .slice a l.length cap] w (CallPost w ⟨1, 1, [truthsV andF l]⟩) :=
  call_truths sAND fn_and ent32 (fun _ _ b1 _ _ _ _ _ _ _ _ h => ⟨b1, rfl, h.c1⟩) l h1 h2 hT hO hN a cap w hA
theorem call_or : Calls Try.prog 10 #[.string sOR, .slice a l.length cap] w (CallPost w ⟨1, 1, [truthsV orF l]⟩) :=
  call_truths sOR fn_or ent33 (fun _ _ _ b2 _ _ _ _ _ _ _ h => ⟨b2, rfl, h.c2⟩) l h1 h2 hT hO hN a cap w hA
theorem call_xor : Calls Try.prog 10 #[.string sXOR, .slice a l.length cap] w (CallPost w ⟨1, 1, [truthsV xorF l]⟩) :=
  call_truths sXOR fn_xor ent34 (fun _ _ _ _ b3 _ _ _ _ _ _ h => ⟨b3, rfl, h.c3⟩) l h1 h2 hT hO hN a cap w hA
end
end Go.Proofs.Ytgbedjeiihigaaa
