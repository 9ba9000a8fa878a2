/- DotAdds: the row: for every slice of ids, every id and every author the law returns true, and the arguments read as before. No conditions. -/
import Derived.Test.YtebifjjghogboaaD34Adds
namespace Go.Proofs.Ytebifjjghogboaa
open Go.ChangeShapes Go.WideShapes Go.ChangeAt Go.RowKit
set_option maxRecDepth 100000 in
theorem dotAdds_lifted (os : Os) (started : os.Started) (H : Type) (enc : TypeId × Value → H) :
    ReturnsInHanded {} Try.checked os 3 .any (Rows.dotAddsSpec.pre6 enc Try.prog Try.f3 [] false) (Rows.dotAddsSpec.post enc Try.prog Try.f3 false true false false) := by
  refine law_lift (C := Try.checked) (fn := Try.f3) (s := Rows.dotAddsSpec) (tb := 4) own_try started (by kernel_rfl) Try.func3
    (ChangeSpec.witness6 (enc := enc) (C := Try.checked) false ⟨#[], #[.slice none 0 0, .agg #[.int .i64 0, .int .i64 0], .int .i64 0], []⟩ 8 (by kernel_rfl) (by kernel_rfl) (by kernel_rfl) (by kernel_rfl)) laid_try (by kernel_rfl) rfl Try.underlying4 rfl ?_ ?_
  · intro ds hd
    match ds, hd with
    | [d0, d1, d2], _ => exact ⟨rfl, rfl, rfl⟩
  · intro W base args ds p hval hA hlt hsz
    have hA' : DataW.TrodAll enc Try.prog W 0 (fun _ => true) true [22, 24, 3] args.toList ds p := hA
    obtain ⟨v0, v1, v2, d0, d1, d2, p0, p1, p2, rfl, rfl, rfl, h0, h1, h2⟩ := trodAll_three hA'
    obtain ⟨la, lc, l, rfl, lm, li⟩ := open_ids (hval 0 22 v0 rfl rfl) h0
    obtain ⟨i, rfl, _⟩ := open_id (hval 1 24 v1 rfl rfl) h1
    obtain ⟨x, rfl, _, _⟩ := open_int (hval 2 3 v2 rfl rfl) h2
    exact adds_law la lc l i x W lm li
theorem dotAdds_holds : Rows.DotAddsSaid :=
  OpenClaim.holds_of_wide 3 Try.f3 rfl rfl rfl rfl rfl rfl rfl ⟨rfl, rfl, rfl, rfl, rfl⟩ rfl rfl rfl rfl rfl (by kernel_rfl) Try.func3 (by kernel_rfl)
    (of_decide_eq_true (by kernel_rfl)) (by unfold Func.isWrapper; first | (rw [if_pos (by decide +kernel)]; kernel_rfl) | (rw [if_neg (by decide +kernel)]; exact ⟨rfl, rfl⟩))
    (fun os started H enc _ => dotAdds_lifted os started H enc)
end Go.Proofs.Ytebifjjghogboaa
