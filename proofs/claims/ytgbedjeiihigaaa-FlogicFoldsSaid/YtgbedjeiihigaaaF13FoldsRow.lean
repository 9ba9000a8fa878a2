/- FlogicFolds: the row: for every slice of values and every byte the law returns true, and the arguments read as before. No conditions. -/
import Derived.Test.YtgbedjeiihigaaaF13Open2
import Derived.Test.YtgbedjeiihigaaaF13FoldsL
namespace Go.Proofs.Ytgbedjeiihigaaa
open Go.ChangeShapes Go.WideShapes Go.ChangeAt Go.RowKit
set_option maxRecDepth 100000 in
theorem flogicFolds_lifted (os : Os) (started : os.Started) (H : Type) (enc : TypeId × Value → H) :
    ReturnsInHanded {} Try.checked os 5 .any (Rows.flogicFoldsSpec.pre6 enc Try.prog Try.f5 [] false) (Rows.flogicFoldsSpec.post enc Try.prog Try.f5 false true false false) := by
  refine law_lift (C := Try.checked) (fn := Try.f5) (s := Rows.flogicFoldsSpec) (tb := 4) own_try started (by kernel_rfl) Try.func5
    (ChangeSpec.witness6 (enc := enc) (C := Try.checked) false ⟨#[], #[.slice none 0 0, .int .u8 0], []⟩ 8 (by kernel_rfl) (by kernel_rfl) (by kernel_rfl) (by kernel_rfl)) laid_try (by kernel_rfl) rfl Try.underlying4 rfl ?_ ?_
  · intro ds hd
    match ds, hd with
    | [d0, d1], _ => exact ⟨rfl, rfl, rfl⟩
  · intro W base args ds p hval hA hlt hsz
    have hA' : DataW.TrodAll enc Try.prog W 0 (fun _ => true) true [25, 5] args.toList ds p := hA
    obtain ⟨v0, v1, d0, d1, p0, p1, rfl, rfl, rfl, h0, h1⟩ := trodAll_two hA'
    obtain ⟨a, cap, l, rfl, hl⟩ := open_values (hval 0 25 v0 rfl rfl) h0
    obtain ⟨t, rfl, wt⟩ := open_byte (hval 1 5 v1 rfl rfl) h1
    exact folds_law a cap l t W wt.1 wt.2 hl
theorem flogicFolds_holds : Rows.FlogicFoldsSaid :=
  OpenClaim.holds_of_wide 5 Try.f5 rfl rfl rfl rfl rfl rfl rfl ⟨rfl, rfl, rfl, rfl, rfl⟩ rfl rfl rfl rfl rfl (by kernel_rfl) Try.func5 (by kernel_rfl)
    (of_decide_eq_true (by kernel_rfl)) (by unfold Func.isWrapper; first | (rw [if_pos (by decide +kernel)]; kernel_rfl) | (rw [if_neg (by decide +kernel)]; exact ⟨rfl, rfl⟩))
    (fun os started H enc _ => flogicFolds_lifted os started H enc)
end Go.Proofs.Ytgbedjeiihigaaa
