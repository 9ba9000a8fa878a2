/- The questions for kinds. -/
import Derived.Test.YtgbedjeiihigaaaF13EachA
namespace Go.Proofs.Ytgbedjeiihigaaa
open Go.RowKit
def kindV (k : Int) (v : V) : V := vTruth (v.k == k)
set_option maxHeartbeats 1000000 in
theorem kind56_any (k : Int) (v : V) (q : Nat) (w : World) (hq : w.heap[q]? = some (.cells #[.int .i64 k] 3)) : Calls Try.prog 56 #[vagg v, .pointer (some ⟨q, 0, none⟩)] w fun e w' => e = .returned (vagg (kindV k v)) ∧ Below w.heap.size w w' := by
  have x0 := cell_of_heap hq 0
  have z0 := lt_of_heap hq
  rw [vagg_eq v]
  unfold kindV
  generalize v.m = m
  generalize v.e = e
  generalize v.t = t
  generalize v.b = b
  generalize v.f = f
  generalize v.k = vk
  generalize hBB : (vk == k) = B
  clear hq
  go_enter Try.func56, Try.ntmps56
  go_wp2_with fail
  refine (truth_any B _).mono ?_
  rintro r w1 ⟨rfl, hb⟩
  have hs1 : w.heap.size + 2 ≤ w1.heap.size := by have := hb.size; simpa using this
  have g1 : w1.heap[w.heap.size + 1]? = some (.cells #[.int .i64 0, .int .i64 0, .int .i64 0, .string ⟨#[]⟩, .bool false, .int .i64 0] 36) := (hb.block _ (by simp)).trans (by (repeat (first | (with_reducible refine heap_alloc_at ?_ _; (first | rfl | (simp; done) | omega | (simp; omega)); done) | with_reducible refine heap_alloc_old ?_ _ | with_reducible refine heap_drew_old ?_ | with_reducible refine heap_drewN_old ?_)))
  have hBW : Below w.heap.size w w1 := by
    refine Below.trans ?_ (hb.mono (by simp; omega))
    (repeat (first | with_reducible exact Below.refl _ _ | with_reducible exact hBW | with_reducible refine Below.setCell ?_ ?_ _ | with_reducible refine Below.alloc ?_ ?_ _ | with_reducible refine belowN ?_ _ | with_reducible refine Below.drew ?_)); all_goals (first | omega | (dsimp only; omega) | ((repeat (first | with_reducible refine le_alloc ?_ | with_reducible refine le_setCell ?_ | with_reducible refine le_drew ?_ | with_reducible refine le_drewN ?_)); omega))
  have HB := Lib.hid hBW
  have x1 := cell_of_heap g1
  have y1 := frozen_of_heap g1
  have z1 := lt_of_heap g1
  unfold vagg vTruth
  clear hBB
  clear hb g1 x0 hBW
  go_wp2_with fail
  have hBW := HB.out
  refine bodyPost_ret (v := .agg #[.int .i64 3, .int .i64 0, .int .i64 0, .string ⟨#[]⟩, .bool B, .int .i64 0]) (by simp [results, Try.results56, go_sem, x1]) rfl ⟨rfl, ?_⟩
  (repeat (first | with_reducible exact Below.refl _ _ | with_reducible exact hBW | with_reducible refine Below.setCell ?_ ?_ _ | with_reducible refine Below.alloc ?_ ?_ _ | with_reducible refine belowN ?_ _ | with_reducible refine Below.drew ?_)); all_goals (first | omega | (dsimp only; omega) | ((repeat (first | with_reducible refine le_alloc ?_ | with_reducible refine le_setCell ?_ | with_reducible refine le_drew ?_ | with_reducible refine le_drewN ?_)); omega))
theorem ent56 : ∀ args W, (callFunc 56 args).run Try.prog W = .ok (.enter 56 args) W := enters_of Try.func56 (by kernel_rfl) rfl
theorem kindAt_fv {w : World} {b : Nat} {k : Int} (h : KindAt w b k) : ∃ q, w.heap[b]? = some (.cells #[.func (.func 56) #[] #[ptrV q]] 65) ∧ ∀ v, FvOk w 56 #[ptrV q] v (kindV k v) := by
  obtain ⟨q, h1, h2⟩ := h
  exact ⟨q, h1, fun v W hW => kind56_any k v q W ((hW.block q (lt_of_heap h2)).trans h2)⟩
def kName : Nat → ByteArray
  | 0 => sBLANK
  | 1 => sNUMBER
  | 2 => sTEXT
  | 3 => sLOGICAL
  | _ => sERROR
theorem call_kind (i : Nat) (hi : i < 5) (A : Arr) (hO : ArrOk A) (a : Option Addr) (cap : Nat) (w : World) (hA : ArgsAt 0 w a [A]) :
    Calls Try.prog 10 #[.string (kName i), .slice a 1 cap] w (CallPost w ⟨A.r, A.c, A.l.map (kindV i)⟩) := by
  refine call_each (kName i) A (fun w B b1 b2 b3 b4 b5 b6 b7 b8 b9 h => ?_) hO (fun v _ => rightOk_truth _) a cap w hA
  match i, hi with
  | 0, _ => obtain ⟨q, h1, h2⟩ := kindAt_fv h.c5; exact ⟨b5, 56, _, rfl, h1, ent56, fun v _ => h2 v⟩
  | 1, _ => obtain ⟨q, h1, h2⟩ := kindAt_fv h.c6; exact ⟨b6, 56, _, rfl, h1, ent56, fun v _ => h2 v⟩
  | 2, _ => obtain ⟨q, h1, h2⟩ := kindAt_fv h.c7; exact ⟨b7, 56, _, rfl, h1, ent56, fun v _ => h2 v⟩
  | 3, _ => obtain ⟨q, h1, h2⟩ := kindAt_fv h.c8; exact ⟨b8, 56, _, rfl, h1, ent56, fun v _ => h2 v⟩
  | 4, _ => obtain ⟨q, h1, h2⟩ := kindAt_fv h.c9; exact ⟨b9, 56, _, rfl, h1, ent56, fun v _ => h2 v⟩
end Go.Proofs.Ytgbedjeiihigaaa
