/- Arrays of values in memory; one, truth, One, alone. -/
import Derived.Test.YtgbedjeiihigaaaF13Val
import Derived.Test.YtgbedjeiihigaaaOwn
namespace Go.Proofs.Ytgbedjeiihigaaa
open Go.RowKit
structure Arr where
  r : Int
  c : Int
  l : List V
def vcells (v : V) : List Value := [.int .i64 v.k, .int .i64 v.m, .int .i64 v.e, .string v.t, .bool v.b, .int .i64 v.f]
/-- A slice of values in memory, from block B on. -/
def SlB (B : Nat) (w : World) (a : Option Addr) (l : List V) : Prop :=
  0 < l.length → ∃ b off, a = some ⟨b, off, none⟩ ∧ B ≤ b ∧ b < w.heap.size ∧ ∀ i v, l[i]? = some v → ∀ j, j < 6 → w.cell? ⟨b, off + i * 6 + j, none⟩ = (vcells v)[j]?
def IsArr (B : Nat) (w : World) (x : Value) (A : Arr) : Prop := ∃ a cap, x = .agg #[.int .i64 A.r, .int .i64 A.c, .slice a A.l.length cap] ∧ SlB B w a A.l
theorem SlB.mono {B B' : Nat} {w : World} {a : Option Addr} {l : List V} (h : SlB B w a l) (hB : B' ≤ B) : SlB B' w a l := fun h0 => by
  obtain ⟨b, off, e, h1, h2, h3⟩ := h h0
  exact ⟨b, off, e, Nat.le_trans hB h1, h2, h3⟩
/-- It stays while only blocks in S change, none of which is at or beyond B. -/
theorem SlB.frame {B : Nat} {w w' : World} {a : Option Addr} {l : List V} {S : Nat → Prop} (h : SlB B w a l) (hf : Fr S w w') (hS : ∀ k, S k → k < B) : SlB B w' a l := fun h0 => by
  obtain ⟨b, off, e, h1, h2, h3⟩ := h h0
  have hb : w'.heap[b]? = w.heap[b]? := hf.block b h2 (fun hs => by have := hS b hs; omega)
  exact ⟨b, off, e, h1, Nat.lt_of_lt_of_le h2 hf.size, fun i v hv j hj => (World.cell?_of_block (w := w) (a := ⟨b, off + i * 6 + j, none⟩) hb).trans (h3 i v hv j hj)⟩
theorem SlB.below {B : Nat} {w w' : World} {a : Option Addr} {l : List V} (h : SlB B w a l) (hb : Below w.heap.size w w') : SlB B w' a l :=
  h.frame (S := fun _ => False) (.of_below hb) (fun _ h => h.elim)
theorem IsArr.below {B : Nat} {w w' : World} {x : Value} {A : Arr} (h : IsArr B w x A) (hb : Below w.heap.size w w') : IsArr B w' x A := by
  obtain ⟨a, cap, e, h⟩ := h
  exact ⟨a, cap, e, h.below hb⟩
theorem IsArr.mono {B B' : Nat} {w : World} {x : Value} {A : Arr} (h : IsArr B w x A) (hB : B' ≤ B) : IsArr B' w x A := by
  obtain ⟨a, cap, e, h⟩ := h
  exact ⟨a, cap, e, h.mono hB⟩
/-- What a call hands back: an array in new memory. -/
def ArrPost (w : World) (A : Arr) (e : Ending) (w' : World) : Prop := ∃ x, e = .returned x ∧ IsArr w.heap.size w' x A ∧ Below w.heap.size w w'
/-- A new block of one value is a slice of it. -/
theorem slv_one {B : Nat} {w : World} {b : Nat} {v : V} (hB : B ≤ b) (h : w.heap[b]? = some (.cells #[.int .i64 v.k, .int .i64 v.m, .int .i64 v.e, .string v.t, .bool v.b, .int .i64 v.f] 36)) : SlB B w (some ⟨b, 0, none⟩) [v] := fun _ => by
  refine ⟨b, 0, rfl, hB, lt_of_heap h, fun i u hu j hj => ?_⟩
  cases i with
  | zero =>
    simp at hu
    subst hu
    rw [cell_of_heap h]
    simp [vcells]
  | succ i => simp at hu
set_option maxHeartbeats 400000 in
theorem one_any (v : V) (w : World) : Calls Try.prog 13 #[vagg v] w (ArrPost w ⟨1, 1, [v]⟩) := by
  obtain ⟨k, m, e, t, b, f⟩ := v
  unfold vagg
  simp only
  go_enter Try.func13, Try.ntmps13
  go_wp2
  refine bodyPost_ret (v := .agg #[.int .i64 1, .int .i64 1, .slice (some ⟨w.heap.size + 1 + 1, 0, none⟩) 1 1]) (by simp [results, Try.results13, go_sem]) rfl ⟨_, rfl, ⟨_, 1, rfl, slv_one (by omega) (by (repeat (first | (with_reducible refine heap_alloc_at ?_ _; (first | rfl | (simp; done) | omega | (simp; omega)); done) | with_reducible refine heap_alloc_old ?_ _ | with_reducible refine heap_drew_old ?_ | with_reducible refine heap_drewN_old ?_)))⟩, ?_⟩
  (repeat (first | with_reducible exact Below.refl _ _ | with_reducible exact hBW | with_reducible refine Below.setCell ?_ ?_ _ | with_reducible refine Below.alloc ?_ ?_ _ | with_reducible refine belowN ?_ _ | with_reducible refine Below.drew ?_)); all_goals (first | omega | (dsimp only; omega) | ((repeat (first | with_reducible refine le_alloc ?_ | with_reducible refine le_setCell ?_ | with_reducible refine le_drew ?_ | with_reducible refine le_drewN ?_)); omega))
/-- The value is told to be right. -/
def RightOk (v : V) : Prop := ∀ W : World, Calls Try.prog 42 #[vagg v] W fun e w' => e = .returned (.bool true) ∧ Below W.heap.size W w'
theorem rightOk_plain {v : V} (h1 : v.k ≠ 1) (h2 : v.k ≠ 2) (h : rightP v = true) : RightOk v := fun W => by
  have := right_plain v h1 h2 W
  rwa [h] at this
theorem rightOk_truth (b : Bool) : RightOk (vTruth b) := rightOk_plain (by simp [vTruth]) (by simp [vTruth]) (by simp [rightP, vTruth])
theorem rightOk_bad (f : Int) : RightOk (vBad f) := rightOk_plain (by simp [vBad]) (by simp [vBad]) (by
  unfold rightP vBad
  by_cases h : f < 1 ∨ 9 < f
  · simp [h]
  · simp [h]; omega)
theorem rightOk_blank : RightOk vBlank := rightOk_plain (by simp [vBlank]) (by simp [vBlank]) (by simp [rightP, vBlank])
set_option maxHeartbeats 400000 in
theorem One_any (v : V) (hR : RightOk v) (w : World) : Calls Try.prog 39 #[vagg v] w (ArrPost w ⟨1, 1, [v]⟩) := by
  have HR := Lib.hid (hR ((w.alloc (.cells #[.int .i64 v.k, .int .i64 v.m, .int .i64 v.e, .string v.t, .bool v.b, .int .i64 v.f] 36)).alloc (.cells #[.int .i64 0, .int .i64 0, .slice none 0 0] 27)))
  clear hR
  obtain ⟨k, m, e, t, b, f⟩ := v
  unfold vagg at HR ⊢
  simp only at HR ⊢
  go_enter Try.func39, Try.ntmps39
  go_wp2_with fail
  refine HR.out.mono ?_
  rintro e' w1 ⟨rfl, hb⟩
  have hs1 : w.heap.size + 2 ≤ w1.heap.size := by have := hb.size; simpa using this
  have g0 : w1.heap[w.heap.size]? = some (.cells #[.int .i64 k, .int .i64 m, .int .i64 e, .string t, .bool b, .int .i64 f] 36) := (hb.block _ (by simp; omega)).trans (by (repeat (first | (with_reducible refine heap_alloc_at ?_ _; (first | rfl | (simp; done) | omega | (simp; omega)); done) | with_reducible refine heap_alloc_old ?_ _ | with_reducible refine heap_drew_old ?_ | with_reducible refine heap_drewN_old ?_)))
  have g1 : w1.heap[w.heap.size + 1]? = some (.cells #[.int .i64 0, .int .i64 0, .slice none 0 0] 27) := (hb.block _ (by simp)).trans (by (repeat (first | (with_reducible refine heap_alloc_at ?_ _; (first | rfl | (simp; done) | omega | (simp; omega)); done) | with_reducible refine heap_alloc_old ?_ _ | with_reducible refine heap_drew_old ?_ | with_reducible refine heap_drewN_old ?_)))
  have FB : Hid (Below w.heap.size w w1) := by
    refine Below.trans ?_ (hb.mono (by simp; omega))
    (repeat (first | with_reducible exact Below.refl _ _ | with_reducible exact hBW | with_reducible refine Below.setCell ?_ ?_ _ | with_reducible refine Below.alloc ?_ ?_ _ | with_reducible refine belowN ?_ _ | with_reducible refine Below.drew ?_)); all_goals (first | omega | (dsimp only; omega) | ((repeat (first | with_reducible refine le_alloc ?_ | with_reducible refine le_setCell ?_ | with_reducible refine le_drew ?_ | with_reducible refine le_drewN ?_)); omega))
  have c0 := cell_of_heap g0
  have c1 := cell_of_heap g1
  have y1 := frozen_of_heap g1
  have hn1 : w.heap.size < w1.heap.size := by omega
  have hn2 : w.heap.size + 1 < w1.heap.size := by omega
  clear hb g0 g1 HR
  go_wp2_with fail
  have hBW := FB.out
  refine bodyPost_ret (v := .agg #[.int .i64 1, .int .i64 1, .slice (some ⟨w1.heap.size, 0, none⟩) 1 1]) (by simp [results, Try.results39, go_sem, c1, hn2]) rfl ⟨_, rfl, ⟨_, 1, rfl, slv_one (by omega) (by (repeat (first | (with_reducible refine heap_alloc_at ?_ _; (first | rfl | (simp; done) | omega | (simp; omega)); done) | with_reducible refine heap_alloc_old ?_ _ | with_reducible refine heap_drew_old ?_ | with_reducible refine heap_drewN_old ?_)))⟩, ?_⟩
  (repeat (first | with_reducible exact Below.refl _ _ | with_reducible exact hBW | with_reducible refine Below.setCell ?_ ?_ _ | with_reducible refine Below.alloc ?_ ?_ _ | with_reducible refine belowN ?_ _ | with_reducible refine Below.drew ?_)); all_goals (first | omega | (dsimp only; omega) | ((repeat (first | with_reducible refine le_alloc ?_ | with_reducible refine le_setCell ?_ | with_reducible refine le_drew ?_ | with_reducible refine le_drewN ?_)); omega))
/-- The end of a function that hands on an array of a callee's, through its own result's block b. -/
theorem arr_hand {w w1 : World} {b : Nat} {A : Arr} {a : Option Addr} {cap n : Nat} (hb : w.heap.size ≤ b) (hsl : SlB (b + 1) w1 a A.l) (hB : Below w.heap.size w w1) (x y z : Value) :
    ArrPost w A (.returned (.agg #[.int .i64 A.r, .int .i64 A.c, .slice a A.l.length cap])) ((((w1.setCell ⟨b, 0, none⟩ x).setCell ⟨b, 1, none⟩ y).setCell ⟨b, 2, none⟩ z).drewN n) := by
  have hf : Fr (fun k => k = b) w1 ((((w1.setCell ⟨b, 0, none⟩ x).setCell ⟨b, 1, none⟩ y).setCell ⟨b, 2, none⟩ z).drewN n) :=
    (((Fr.setCell w1 ⟨b, 0, none⟩ x).trans (Fr.setCell _ ⟨b, 1, none⟩ y) (fun _ _ h => h)).trans (Fr.setCell _ ⟨b, 2, none⟩ z) (fun _ _ h => h)).trans (S' := fun _ => False) (.of_below (below_drewN _ _ _)) (fun _ _ h => h.elim)
  exact ⟨_, rfl, ⟨a, cap, rfl, (hsl.frame hf (fun k hk => by omega)).mono (by omega)⟩, hB.trans (hf.below hB.size (fun k hk => by omega))⟩
set_option maxHeartbeats 400000 in
theorem truth9_any (x : Bool) (w : World) : Calls Try.prog 9 #[.bool x] w (ArrPost w ⟨1, 1, [vTruth x]⟩) := by
  have HR := Lib.hid (one_any (vTruth x) (w.alloc (.cells #[.int .i64 0, .int .i64 0, .slice none 0 0] 27)))
  unfold vagg vTruth at HR
  simp only at HR
  go_enter Try.func9, Try.ntmps9
  go_wp2_with fail
  refine HR.out.mono ?_
  rintro e' w1 ⟨y, rfl, ⟨a, cap, rfl, hsl⟩, hb⟩
  have hs1 : w.heap.size + 1 ≤ w1.heap.size := by have := hb.size; simpa using this
  have g1 : w1.heap[w.heap.size]? = some (.cells #[.int .i64 0, .int .i64 0, .slice none 0 0] 27) := (hb.block _ (by simp)).trans (by (repeat (first | (with_reducible refine heap_alloc_at ?_ _; (first | rfl | (simp; done) | omega | (simp; omega)); done) | with_reducible refine heap_alloc_old ?_ _ | with_reducible refine heap_drew_old ?_ | with_reducible refine heap_drewN_old ?_)))
  have FB : Hid (Below w.heap.size w w1) := by
    refine Below.trans ?_ (hb.mono (by simp))
    (repeat (first | with_reducible exact Below.refl _ _ | with_reducible exact hBW | with_reducible refine Below.setCell ?_ ?_ _ | with_reducible refine Below.alloc ?_ ?_ _ | with_reducible refine belowN ?_ _ | with_reducible refine Below.drew ?_)); all_goals (first | omega | (dsimp only; omega) | ((repeat (first | with_reducible refine le_alloc ?_ | with_reducible refine le_setCell ?_ | with_reducible refine le_drew ?_ | with_reducible refine le_drewN ?_)); omega))
  have c1 := cell_of_heap g1
  have y1 := frozen_of_heap g1
  have hn1 : w.heap.size < w1.heap.size := by omega
  rw [World.size_alloc] at hsl
  have HSL := Lib.hid hsl
  clear hb g1 hsl
  go_wp2_with fail
  refine bodyPost_ret (v := .agg #[.int .i64 1, .int .i64 1, .slice a 1 cap]) (by simp [results, Try.results9, go_sem, c1]) rfl ?_
  exact arr_hand (n := 0) (Nat.le_refl _) HSL.out FB.out _ _ _
set_option maxHeartbeats 400000 in
theorem alone_any (f : Int) (w : World) : Calls Try.prog 21 #[.int .i64 f] w (ArrPost w ⟨1, 1, [vBad f]⟩) := by
  go_enter Try.func21, Try.ntmps21
  go_wp2_with fail
  refine (bad_any f _).mono ?_
  rintro e' w0 ⟨rfl, hb0⟩
  go_wp2_with fail
  refine (One_any (vBad f) (rightOk_bad f) w0).mono ?_
  rintro e' w1 ⟨y, rfl, ⟨a, cap, rfl, hsl0⟩, hb1⟩
  have hsz0 : w.heap.size + 1 ≤ w0.heap.size := by have := hb0.size; simpa using this
  have hsl := hsl0.mono (B' := (w.alloc (.cells #[.int .i64 0, .int .i64 0, .slice none 0 0] 27)).heap.size) (by simpa using hsz0)
  have hb := hb0.trans (hb1.mono hb0.size)
  clear hsl0 hb0 hb1 hsz0
  have hs1 : w.heap.size + 1 ≤ w1.heap.size := by have := hb.size; simpa using this
  have g1 : w1.heap[w.heap.size]? = some (.cells #[.int .i64 0, .int .i64 0, .slice none 0 0] 27) := (hb.block _ (by simp)).trans (by (repeat (first | (with_reducible refine heap_alloc_at ?_ _; (first | rfl | (simp; done) | omega | (simp; omega)); done) | with_reducible refine heap_alloc_old ?_ _ | with_reducible refine heap_drew_old ?_ | with_reducible refine heap_drewN_old ?_)))
  have FB : Hid (Below w.heap.size w w1) := by
    refine Below.trans ?_ (hb.mono (by simp))
    (repeat (first | with_reducible exact Below.refl _ _ | with_reducible exact hBW | with_reducible refine Below.setCell ?_ ?_ _ | with_reducible refine Below.alloc ?_ ?_ _ | with_reducible refine belowN ?_ _ | with_reducible refine Below.drew ?_)); all_goals (first | omega | (dsimp only; omega) | ((repeat (first | with_reducible refine le_alloc ?_ | with_reducible refine le_setCell ?_ | with_reducible refine le_drew ?_ | with_reducible refine le_drewN ?_)); omega))
  have c1 := cell_of_heap g1
  have y1 := frozen_of_heap g1
  have hn1 : w.heap.size < w1.heap.size := by omega
  rw [World.size_alloc] at hsl
  have HSL := Lib.hid hsl
  clear hb g1 hsl
  go_wp2_with fail
  refine bodyPost_ret (v := .agg #[.int .i64 1, .int .i64 1, .slice a 1 cap]) (by simp [results, Try.results21, go_sem, c1]) rfl ?_
  exact arr_hand (n := 0) (Nat.le_refl _) HSL.out FB.out _ _ _
end Go.Proofs.Ytgbedjeiihigaaa
