/- Arguments of the laws on truths, opened. -/
import Derived.Test.YtgbedjeiihigaaaRows
import Derived.Test.YtgbedjeiihigaaaF13Arr
import Derived.Test.YtgbedjeiihigaaaOpens
namespace Go.Proofs.Ytgbedjeiihigaaa
open Go.ChangeShapes Go.WideShapes Go.ChangeAt Go.RowKit
theorem own_try : ownKnob Try.prog.godebug = none := by kernel_rfl
theorem laid_try : laidOutB Try.prog = true := by kernel_rfl
theorem cells4 : Try.prog.cellsOf 4 = 1 := by kernel_rfl
def BoolsAt (w : World) (a : Option Addr) (l : List Bool) : Prop := 0 < l.length → ∃ b off, a = some ⟨b, off, none⟩ ∧ b < w.heap.size ∧ ∀ i x, l[i]? = some x → w.cell? ⟨b, off + i, none⟩ = some (.bool x)
set_option maxRecDepth 100000 in
theorem open_byte {H : Type} {enc : TypeId × Value → H} {W : World} {r : Reach} {base base' : Nat} {sp : Nat → Bool} {held : Bool} {v : Value} {d : DataW H} {ps : List MemPlace} (hv : Value.okWide Try.prog W r base' 5 v) (h : DataW.Trod enc Try.prog W base sp held 5 v d ps) :
    ∃ a, v = .int .u8 a ∧ 0 ≤ a ∧ a ≤ 255 := by
  obtain ⟨n, rfl⟩ := okWide_int Try.underlying5 hv
  obtain ⟨fuel, hf⟩ := h
  obtain ⟨m, hm, wm⟩ := trod_int_c Try.underlying5 hf
  simp only [Value.cells, List.cons.injEq, Value.int.injEq, true_and, and_true] at hm
  subst hm
  exact ⟨n, rfl, wf_u8 wm⟩
set_option maxRecDepth 100000 in
theorem open_bools {H : Type} {enc : TypeId × Value → H} {W : World} {r : Reach} {base base' : Nat} {sp : Nat → Bool} {held : Bool} {v : Value} {d : DataW H} {ps : List MemPlace} (hv : Value.okWide Try.prog W r base' 22 v) (h : DataW.Trod enc Try.prog W base sp held 22 v d ps) :
    ∃ a cap l, v = .slice a l.length cap ∧ BoolsAt W a l := by
  obtain ⟨a0, len0, cap0, rfl⟩ := okWide_slice Try.underlying22 hv
  obtain ⟨fuel, hf⟩ := h
  obtain ⟨a, len, cap, hcs, _, _, hat⟩ := slice_at (n := 1) Try.underlying22 cells4 (by omega) hf
  simp only [Value.cells, List.cons.injEq, Value.slice.injEq, and_true] at hcs
  obtain ⟨rfl, rfl, rfl⟩ := hcs
  by_cases h0 : 0 < len0
  · obtain ⟨b, off, rfl, hb, hall⟩ := hat h0
    obtain ⟨l, hl, hP⟩ := list_of_forall (Q := fun i (x : Bool) => W.cell? ⟨b, off + i, none⟩ = some (.bool x)) len0 (fun i hi => by
      obtain ⟨es, f', y, _, hc, ht⟩ := hall i hi
      obtain ⟨x, rfl⟩ := trod_bool_c Try.underlying4 ht
      have c0 := hc 0 (by omega)
      exact ⟨x, by simpa using c0⟩)
    exact ⟨_, _, l, by rw [hl], fun _ => ⟨b, off, rfl, hb, hP⟩⟩
  · have : len0 = 0 := by omega
    subst this
    exact ⟨_, _, [], rfl, fun h => (by simp at h)⟩
end Go.Proofs.Ytgbedjeiihigaaa
