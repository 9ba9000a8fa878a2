/- judge, by its walk. -/
import Derived.Test.YtihfmcadcojjnaaS23Fill
import Derived.Test.YtihfmcadcojjnaaMix
namespace Go.Proofs.Ytihfmcadcojjnaa
open Go.RowKit
def verV (v : Ver) : Value := .agg #[.int .i64 v.r, .int .i64 v.c, .int .i64 v.rs, .int .i64 v.cs, .bool v.st, .bool v.kn, .int .i64 v.br, .int .i64 v.bc]

set_option maxHeartbeats 1000000 in
theorem judge_beyond {w : World} {p : Nat} {S : Nat → Prop} {g : G} {bf ba bo : Nat} {sv : Value} (H : BdX w p S g bf ba bo sv) (r c rs cs : Int)
    (h1 : 0 ≤ r) (h2 : r < g.rows) (h3 : 0 ≤ c) (h4 : c < g.cols) (hb : beyond g r c rs cs = true) :
    Calls Try.prog 23 #[.pointer (some ⟨p, 0, none⟩), .agg #[.int .i64 r, .int .i64 c, .int .i64 rs, .int .i64 cs]] w fun e w' => e = .returned (verV (gJudge g r c rs cs)) ∧ Below w.heap.size w w' := by
  have fin : gJudge g r c rs cs = ⟨r, c, rs, cs, false, false, 0, 0⟩ := by unfold gJudge; rw [hb]; rfl
  rw [fin]
  clear fin
  have b2 := H.b2
  have b4 := H.b4
  obtain ⟨c0, c1, _, _, _, _⟩ := H.cell
  have hp : p < w.heap.size := H.lt p H.sp
  have hp1 : p < w.heap.size + 1 := by omega
  have hp2 : p < w.heap.size + 1 + 1 := by omega
  clear H
  by_cases hA : g.rows - r < rs
  · clear hb
    have hw1 : IntKind.i64.wrap (g.rows - r) = g.rows - r := IntWalk.i64_in _ (by omega)
    go_enter Try.func23, Try.ntmps23
    go_wp2
    go_quiet (fail)
    go_wp2
    refine bodyPost_ret (v := verV ⟨r, c, rs, cs, false, false, 0, 0⟩) (by simp [results, Try.results23, go_sem, verV]) rfl ⟨rfl, ?_⟩
    go_light
    (repeat (first | with_reducible exact Below.refl _ _ | with_reducible exact hBW | with_reducible refine Below.setCell ?_ ?_ _ | with_reducible refine Below.alloc ?_ ?_ _ | with_reducible refine belowN ?_ _ | with_reducible refine Below.drew ?_)); all_goals (first | omega | (dsimp only; omega) | ((repeat (first | with_reducible refine le_alloc ?_ | with_reducible refine le_setCell ?_ | with_reducible refine le_drew ?_ | with_reducible refine le_drewN ?_)); omega))
  · have hA' : decide (g.rows - r < rs) = false := by simpa using hA
    have hB : g.cols - c < cs := by
      unfold beyond at hb
      simp at hb
      omega
    have hw1 : IntKind.i64.wrap (g.rows - r) = g.rows - r := IntWalk.i64_in _ (by omega)
    have hw2 : IntKind.i64.wrap (g.cols - c) = g.cols - c := IntWalk.i64_in _ (by omega)
    clear hb hA
    go_enter Try.func23, Try.ntmps23
    go_wp2
    go_quiet (fail)
    go_wp2
    refine bodyPost_ret (v := verV ⟨r, c, rs, cs, false, false, 0, 0⟩) (by simp [results, Try.results23, go_sem, verV]) rfl ⟨rfl, ?_⟩
    go_light
    (repeat (first | with_reducible exact Below.refl _ _ | with_reducible exact hBW | with_reducible refine Below.setCell ?_ ?_ _ | with_reducible refine Below.alloc ?_ ?_ _ | with_reducible refine belowN ?_ _ | with_reducible refine Below.drew ?_)); all_goals (first | omega | (dsimp only; omega) | ((repeat (first | with_reducible refine le_alloc ?_ | with_reducible refine le_setCell ?_ | with_reducible refine le_drew ?_ | with_reducible refine le_drewN ?_)); omega))

end Go.Proofs.Ytihfmcadcojjnaa
