/- DotNone: the row: for every id, every slice of ids and every author the law returns true, and the arguments read as before. No conditions. -/
import Derived.Test.YtebifjjghogboaaD34None
namespace Go.Proofs.Ytebifjjghogboaa
open Go.ChangeShapes Go.WideShapes Go.ChangeAt Go.RowKit
set_option maxRecDepth 100000 in
theorem dotNone_lifted (os : Os) (started : os.Started) (H : Type) (enc : TypeId × Value → H) :
    ReturnsInHanded {} Try.checked os 9 .any (Rows.dotNoneSpec.pre6 enc Try.prog Try.f9 [] false) (Rows.dotNoneSpec.post enc Try.prog Try.f9 false true false false) := by
  refine law_lift (C := Try.checked) (fn := Try.f9) (s := Rows.dotNoneSpec) (tb := 4) own_try started (by kernel_rfl) Try.func9
    (ChangeSpec.witness6 (enc := enc) (C := Try.checked) false ⟨#[], #[.agg #[.int .i64 0, .int .i64 0], .slice none 0 0, .int .i64 0], []⟩ 8 (by kernel_rfl) (by kernel_rfl) (by kernel_rfl) (by kernel_rfl)) laid_try (by kernel_rfl) rfl Try.underlying4 rfl ?_ ?_
  · intro ds hd
    match ds, hd with
    | [d0, d1, d2], _ => exact ⟨rfl, rfl, rfl⟩
  · intro W base args ds p hval hA hlt hsz
    have hA' : DataW.TrodAll enc Try.prog W 0 (fun _ => true) true [24, 22, 3] args.toList ds p := hA
    obtain ⟨v0, v1, v2, d0, d1, d2, p0, p1, p2, rfl, rfl, rfl, h0, h1, h2⟩ := trodAll_three hA'
    obtain ⟨i, rfl, _⟩ := open_id (hval 0 24 v0 rfl rfl) h0
    obtain ⟨la, lc, l, rfl, lm, li⟩ := open_ids (hval 1 22 v1 rfl rfl) h1
    obtain ⟨x, rfl, _, _⟩ := open_int (hval 2 3 v2 rfl rfl) h2
    exact none_law la lc l i x W lm li
theorem dotNone_holds : Rows.DotNoneSaid :=
  OpenClaim.holds_of_wide 9 Try.f9 rfl rfl rfl rfl rfl rfl rfl ⟨rfl, rfl, rfl, rfl, rfl⟩ rfl rfl rfl rfl rfl (by kernel_rfl) Try.func9 (by kernel_rfl)
    (of_decide_eq_true (by kernel_rfl)) (by unfold Func.isWrapper; first | (rw [if_pos (by decide +kernel)]; kernel_rfl) | (rw [if_neg (by decide +kernel)]; exact ⟨rfl, rfl⟩))
    (fun os started H enc _ => dotNone_lifted os started H enc)
end Go.Proofs.Ytebifjjghogboaa
