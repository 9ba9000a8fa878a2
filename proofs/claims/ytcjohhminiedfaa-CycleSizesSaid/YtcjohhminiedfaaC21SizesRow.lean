/- CycleSizes: the row: for every two numbers the law returns true, and the arguments read as before. No conditions. -/
import Derived.Test.YtcjohhminiedfaaC21Sizes
import Derived.Test.YtcjohhminiedfaaC21Open
namespace Go.Proofs.Ytcjohhminiedfaa
open Go.ChangeShapes Go.WideShapes Go.ChangeAt Go.RowKit
set_option maxRecDepth 100000 in
theorem cycleSizes_lifted (os : Os) (started : os.Started) (H : Type) (enc : TypeId × Value → H) :
    ReturnsInHanded {} Try.checked os 6 .any (Rows.cycleSizesSpec.pre6 enc Try.prog Try.f6 [] false) (Rows.cycleSizesSpec.post enc Try.prog Try.f6 false true false false) := by
  refine law_lift (C := Try.checked) (fn := Try.f6) (s := Rows.cycleSizesSpec) (tb := 4) own_try started (by kernel_rfl) Try.func6
    (ChangeSpec.witness6 (enc := enc) (C := Try.checked) false ⟨#[], #[.int .i64 0, .int .i64 0], []⟩ 8 (by kernel_rfl) (by kernel_rfl) (by kernel_rfl) (by kernel_rfl)) laid_try (by kernel_rfl) rfl Try.underlying4 rfl ?_ ?_
  · intro ds hd
    match ds, hd with
    | [d0, d1], _ => exact ⟨rfl, rfl, rfl⟩
  · intro W base args ds p hval hA hlt hsz
    have hA' : DataW.TrodAll enc Try.prog W 0 (fun _ => true) true [3, 3] args.toList ds p := hA
    obtain ⟨v0, v1, d0, d1, p0, p1, rfl, rfl, rfl, _, _⟩ := trodAll_two hA'
    obtain ⟨a, rfl⟩ := open_int (hval 0 3 v0 rfl rfl)
    obtain ⟨b, rfl⟩ := open_int (hval 1 3 v1 rfl rfl)
    exact sizes_law a b W
theorem cycleSizes_holds : Rows.CycleSizesSaid :=
  OpenClaim.holds_of_wide 6 Try.f6 rfl rfl rfl rfl rfl rfl rfl ⟨rfl, rfl, rfl, rfl, rfl⟩ rfl rfl rfl rfl rfl (by kernel_rfl) Try.func6 (by kernel_rfl)
    (of_decide_eq_true (by kernel_rfl)) (by unfold Func.isWrapper; first | (rw [if_pos (by decide +kernel)]; kernel_rfl) | (rw [if_neg (by decide +kernel)]; exact ⟨rfl, rfl⟩))
    (fun os started H enc _ => cycleSizes_lifted os started H enc)
end Go.Proofs.Ytcjohhminiedfaa
