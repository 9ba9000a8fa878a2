/- New. -/
import Derived.Test.YtebifjjghogboaaD34Iter
namespace Go.Proofs.Ytebifjjghogboaa
open Go.RowKit Go.Shelf Go.Maps
theorem mapL_new (w : World) : MapL (w.alloc (.map #[] 0)) w.heap.size [] := ⟨[], MapS.new w vI vI, List.Perm.refl _, good_nil⟩
theorem new_any (w : World) : Calls Try.prog 11 #[] w fun e w' => e = .returned (.pointer (some ⟨w.heap.size + 1, 0, none⟩)) ∧ Sn w' (w.heap.size + 1) w.heap.size [] ∧ Below w.heap.size w w' ∧ w'.heap.size = w.heap.size + 2 := by
  have hmm := @run_makeMap Try.prog
  go_enter Try.func11, Try.ntmps11
  go_wp2
  go_ret
  refine ⟨by simp, ⟨?_, (mapL_new w).of_block ?_⟩, ?_, by simp⟩
  · exact heap_alloc_at (by simp) _
  · exact Below.heap_alloc _ _ _ (by simp)
  · (repeat (first | with_reducible exact Below.refl _ _ | with_reducible exact hBW | with_reducible refine Below.setCell ?_ ?_ _ | with_reducible refine Below.alloc ?_ ?_ _ | with_reducible refine belowN ?_ _ | with_reducible refine Below.drew ?_)); all_goals (first | omega | (dsimp only; omega) | ((repeat (first | with_reducible refine le_alloc ?_ | with_reducible refine le_setCell ?_ | with_reducible refine le_drew ?_ | with_reducible refine le_drewN ?_)); omega))
end Go.Proofs.Ytebifjjghogboaa
