/- FlogicTurns: the row: for every slice of truths and every byte the law returns true, and the arguments read as before. No conditions. -/
import Derived.Test.YtgbedjeiihigaaaF13Open
import Derived.Test.YtgbedjeiihigaaaF13Turn
namespace Go.Proofs.Ytgbedjeiihigaaa
open Go.ChangeShapes Go.WideShapes Go.ChangeAt Go.RowKit
set_option maxRecDepth 100000 in
theorem flogicTurns_lifted (os : Os) (started : os.Started) (H : Type) (enc : TypeId × Value → H) :
    ReturnsInHanded {} Try.checked os 3 .any (Rows.flogicTurnsSpec.pre6 enc Try.prog Try.f3 [] false) (Rows.flogicTurnsSpec.post enc Try.prog Try.f3 false true false false) := by
  refine law_lift (C := Try.checked) (fn := Try.f3) (s := Rows.flogicTurnsSpec) (tb := 4) own_try started (by kernel_rfl) Try.func3
    (ChangeSpec.witness6 (enc := enc) (C := Try.checked) false ⟨#[], #[.slice none 0 0, .int .u8 0], []⟩ 8 (by kernel_rfl) (by kernel_rfl) (by kernel_rfl) (by kernel_rfl)) laid_try (by kernel_rfl) rfl Try.underlying4 rfl ?_ ?_
  · intro ds hd
    match ds, hd with
    | [d0, d1], _ => exact ⟨rfl, rfl, rfl⟩
  · intro W base args ds p hval hA hlt hsz
    have hA' : DataW.TrodAll enc Try.prog W 0 (fun _ => true) true [22, 5] args.toList ds p := hA
    obtain ⟨v0, v1, d0, d1, p0, p1, rfl, rfl, rfl, h0, h1⟩ := trodAll_two hA'
    obtain ⟨a, cap, l, rfl, hl⟩ := open_bools (hval 0 22 v0 rfl rfl) h0
    obtain ⟨t, rfl, wt⟩ := open_byte (hval 1 5 v1 rfl rfl) h1
    exact turns_law a cap l t W wt.1 wt.2 hl
theorem flogicTurns_holds : Rows.FlogicTurnsSaid :=
  OpenClaim.holds_of_wide 3 Try.f3 rfl rfl rfl rfl rfl rfl rfl ⟨rfl, rfl, rfl, rfl, rfl⟩ rfl rfl rfl rfl rfl (by kernel_rfl) Try.func3 (by kernel_rfl)
    (of_decide_eq_true (by kernel_rfl)) (by unfold Func.isWrapper; first | (rw [if_pos (by decide +kernel)]; kernel_rfl) | (rw [if_neg (by decide +kernel)]; exact ⟨rfl, rfl⟩))
    (fun os started H enc _ => flogicTurns_lifted os started H enc)
end Go.Proofs.Ytgbedjeiihigaaa
