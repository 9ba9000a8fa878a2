/- shape.Right: an array of right values that fits is right. -/
import Derived.Test.YtgbedjeiihigaaaF13Arr
namespace Go.Proofs.Ytgbedjeiihigaaa
open Go.RowKit
set_option maxHeartbeats 400000 in
theorem fits_yes (r c : Int) (w : World) (h1 : 1 ≤ r) (h2 : 1 ≤ c) (h3 : r ≤ 4096) (h4 : c ≤ 4096 / r) : Calls Try.prog 41 #[.int .i64 r, .int .i64 c] w fun e w' => e = .returned (.bool true) ∧ w = w' := by
  go_enter Try.func41, Try.ntmps41
  go_wp2
  go_ret
  exact ⟨rfl, rfl⟩
/-- An array that may be. -/
structure ArrOk (A : Arr) : Prop where
  h1 : 1 ≤ A.r
  h2 : 1 ≤ A.c
  h3 : A.r ≤ 4096
  h4 : A.c ≤ 4096 / A.r
  h5 : (A.l.length : Int) = A.r * A.c
  h6 : ∀ v ∈ A.l, RightOk v
theorem ArrOk.mul {A : Arr} (h : ArrOk A) : 1 ≤ A.r * A.c ∧ A.r * A.c ≤ 4096 := by
  have e : A.r * (4096 / A.r) ≤ 4096 := Int.mul_ediv_self_le (by have := h.h1; omega)
  have a : A.r * A.c ≤ A.r * (4096 / A.r) := Int.mul_le_mul_of_nonneg_left h.h4 (by have := h.h1; omega)
  have b : 1 * 1 ≤ A.r * A.c := Int.mul_le_mul h.h1 h.h2 (by omega) (by have := h.h1; omega)
  omega
theorem SlB.cells {B : Nat} {w : World} {a : Option Addr} {l : List V} (h : SlB B w a l) {i : Nat} {v : V} (hv : l[i]? = some v) :
    ∃ b off, a = some ⟨b, off, none⟩ ∧ b < w.heap.size ∧ w.cell? ⟨b, off + i * 6, none⟩ = some (.int .i64 v.k) ∧ w.cell? ⟨b, off + i * 6 + 1, none⟩ = some (.int .i64 v.m) ∧ w.cell? ⟨b, off + i * 6 + 2, none⟩ = some (.int .i64 v.e) ∧ w.cell? ⟨b, off + i * 6 + 3, none⟩ = some (.string v.t) ∧ w.cell? ⟨b, off + i * 6 + 4, none⟩ = some (.bool v.b) ∧ w.cell? ⟨b, off + i * 6 + 5, none⟩ = some (.int .i64 v.f) := by
  have hlt := (List.getElem?_eq_some_iff.1 hv).1
  obtain ⟨b, off, e, _, h2, h3⟩ := h (by omega)
  have := h3 i v hv
  exact ⟨b, off, e, h2, this 0 (by omega), this 1 (by omega), this 2 (by omega), this 3 (by omega), this 4 (by omega), this 5 (by omega)⟩
set_option maxHeartbeats 1000000 in
theorem shapeRight_yes (A : Arr) (hA : ArrOk A) (x : Value) (w : World) (hx : IsArr 0 w x A) : Calls Try.prog 22 #[x] w fun e w' => e = .returned (.bool true) ∧ Below w.heap.size w w' := by
  obtain ⟨a, cap, rfl, hsl⟩ := hx
  have hm := hA.mul
  obtain ⟨h1, h2, h3, h4, h5, h6⟩ := hA
  have H5 := Lib.hid h5
  have H6 := Lib.hid h6
  have HSL := Lib.hid hsl
  have n1 : ((A.l.length : Int) != A.r * A.c) = false := by simp [h5]
  have hw1 : IntKind.i64.wrap (A.r * A.c) = A.r * A.c := IntWalk.i64_in _ (by omega)
  have hw2 : wrap64 (A.r * A.c) = A.r * A.c := IntWalk.wrap64_in _ (by omega)
  have hl : A.l.length ≤ 4096 := by omega
  clear h5 h6 hsl
  go_enter Try.func22, Try.ntmps22
  go_wp2_with fail
  refine (fits_yes A.r A.c _ h1 h2 h3 h4).mono ?_
  rintro e w1 ⟨rfl, rfl⟩
  go_wp2_with fail
  refine abs_world ?_
  intro W0 hW0
  have hB0 : Below w.heap.size w W0 := by rw [hW0]; (repeat (first | with_reducible exact Below.refl _ _ | with_reducible exact hBW | with_reducible refine Below.setCell ?_ ?_ _ | with_reducible refine Below.alloc ?_ ?_ _ | with_reducible refine belowN ?_ _ | with_reducible refine Below.drew ?_)); all_goals (first | omega | (dsimp only; omega) | ((repeat (first | with_reducible refine le_alloc ?_ | with_reducible refine le_setCell ?_ | with_reducible refine le_drew ?_ | with_reducible refine le_drewN ?_)); omega))
  have g0 : W0.heap[w.heap.size]? = some (.cells #[.int .i64 A.r, .int .i64 A.c, .slice a A.l.length cap] 27) := by rw [hW0]; (repeat (first | (with_reducible refine heap_alloc_at ?_ _; (first | rfl | (simp; done) | omega | (simp; omega)); done) | with_reducible refine heap_alloc_old ?_ _ | with_reducible refine heap_drew_old ?_ | with_reducible refine heap_drewN_old ?_))
  have G0 := Lib.hid g0
  have HB0 := Lib.hid hB0
  clear hW0 g0 hB0 hw1 hw2 n1
  go_loopw [24] (fun i wr => ∃ k : Nat, i = .int .i64 k ∧ k ≤ A.l.length ∧ Below W0.heap.size W0 wr) (fun i _ => A.l.length - (intOf i).toNat)
  case atStart => exact ⟨0, rfl, Nat.zero_le _, Below.refl _ _⟩
  case round =>
    obtain ⟨k, rfl, hk, hB⟩ := hrel
    have e0 := (hB.block w.heap.size (lt_of_heap G0.out)).trans G0.out
    have x2 := cell_of_heap e0 2
    have hn : w.heap.size < wr.heap.size := lt_of_heap e0
    have HBw : Hid (Below w.heap.size w wr) := HB0.out.trans (hB.mono HB0.out.size)
    have HB := Lib.hid hB
    clear e0 hB
    by_cases hlt : k < A.l.length
    · obtain ⟨v, hv⟩ : ∃ v, A.l[k]? = some v := ⟨_, List.getElem?_eq_getElem hlt⟩
      obtain ⟨b, off, rfl, hb, c0, c1, c2, c3, c4, c5⟩ := (HSL.out.below HBw.out).cells hv
      have HR := Lib.hid (H6.out v (List.mem_of_getElem? hv) wr)
      clear hv
      unfold vagg at HR
      go_wp2_with fail
      refine HR.out.mono ?_
      rintro e' w2 ⟨rfl, hb2⟩
      have HB2 : Hid (Below W0.heap.size W0 w2) := HB.out.trans (hb2.mono HB.out.size)
      clear hb2 c0 c1 c2 c3 c4 c5 x2 HR
      go_wp2_with fail
      go_roundw
      case rel => exact ⟨k + 1, by go_num, by omega, HB2.out⟩
      case measure => simp [intOf]; omega
    · go_wp2_with fail
      go_ret
      exact ⟨rfl, HBw.out⟩
end Go.Proofs.Ytgbedjeiihigaaa
