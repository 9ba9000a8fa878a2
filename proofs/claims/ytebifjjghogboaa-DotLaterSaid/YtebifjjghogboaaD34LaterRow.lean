/- DotLater: the row: for every slice of ids and every author the law returns true, and the arguments read as before. No conditions. -/
import Derived.Test.YtebifjjghogboaaD34Later
namespace Go.Proofs.Ytebifjjghogboaa
open Go.ChangeShapes Go.WideShapes Go.ChangeAt Go.RowKit
set_option maxRecDepth 100000 in
theorem dotLater_lifted (os : Os) (started : os.Started) (H : Type) (enc : TypeId × Value → H) :
    ReturnsInHanded {} Try.checked os 4 .any (Rows.dotLaterSpec.pre6 enc Try.prog Try.f4 [] false) (Rows.dotLaterSpec.post enc Try.prog Try.f4 false true false false) := by
  refine law_lift (C := Try.checked) (fn := Try.f4) (s := Rows.dotLaterSpec) (tb := 4) own_try started (by kernel_rfl) Try.func4
    (ChangeSpec.witness6 (enc := enc) (C := Try.checked) false ⟨#[], #[.slice none 0 0, .int .i64 0], []⟩ 8 (by kernel_rfl) (by kernel_rfl) (by kernel_rfl) (by kernel_rfl)) laid_try (by kernel_rfl) rfl Try.underlying4 rfl ?_ ?_
  · intro ds hd
    match ds, hd with
    | [d0, d1], _ => exact ⟨rfl, rfl, rfl⟩
  · intro W base args ds p hval hA hlt hsz
    have hA' : DataW.TrodAll enc Try.prog W 0 (fun _ => true) true [22, 3] args.toList ds p := hA
    obtain ⟨v0, v1, d0, d1, p0, p1, rfl, rfl, rfl, h0, h1⟩ := trodAll_two hA'
    obtain ⟨la, lc, l, rfl, lm, li⟩ := open_ids (hval 0 22 v0 rfl rfl) h0
    obtain ⟨x, rfl, x1, x2⟩ := open_int (hval 1 3 v1 rfl rfl) h1
    exact later_law la lc l x W lm li x1 x2
theorem dotLater_holds : Rows.DotLaterSaid :=
  OpenClaim.holds_of_wide 4 Try.f4 rfl rfl rfl rfl rfl rfl rfl ⟨rfl, rfl, rfl, rfl, rfl⟩ rfl rfl rfl rfl rfl (by kernel_rfl) Try.func4 (by kernel_rfl)
    (of_decide_eq_true (by kernel_rfl)) (by unfold Func.isWrapper; first | (rw [if_pos (by decide +kernel)]; kernel_rfl) | (rw [if_neg (by decide +kernel)]; exact ⟨rfl, rfl⟩))
    (fun os started H enc _ => dotLater_lifted os started H enc)
end Go.Proofs.Ytebifjjghogboaa
