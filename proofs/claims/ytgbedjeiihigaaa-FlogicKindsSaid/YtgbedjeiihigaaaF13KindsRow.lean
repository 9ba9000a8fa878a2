/- FlogicKinds: the row: for every value the law returns true, and the arguments read as before. No conditions. -/
import Derived.Test.YtgbedjeiihigaaaF13Open
import Derived.Test.YtgbedjeiihigaaaF13Kinds
namespace Go.Proofs.Ytgbedjeiihigaaa
open Go.ChangeShapes Go.WideShapes Go.ChangeAt Go.RowKit
set_option maxRecDepth 100000 in
theorem flogicKinds_lifted (os : Os) (started : os.Started) (H : Type) (enc : TypeId × Value → H) :
    ReturnsInHanded {} Try.checked os 4 .any (Rows.flogicKindsSpec.pre6 enc Try.prog Try.f4 [] false) (Rows.flogicKindsSpec.post enc Try.prog Try.f4 false true false false) := by
  refine law_lift (C := Try.checked) (fn := Try.f4) (s := Rows.flogicKindsSpec) (tb := 4) own_try started (by kernel_rfl) Try.func4
    (ChangeSpec.witness6 (enc := enc) (C := Try.checked) false ⟨#[], #[.agg #[.int .i64 0, .int .i64 0, .int .i64 0, .string ⟨#[]⟩, .bool false, .int .i64 0]], []⟩ 8 (by kernel_rfl) (by kernel_rfl) (by kernel_rfl) (by kernel_rfl)) laid_try (by kernel_rfl) rfl Try.underlying4 rfl ?_ ?_
  · intro ds hd
    match ds, hd with
    | [d0], _ => exact ⟨rfl, rfl, rfl⟩
  · intro W base args ds p hval hA hlt hsz
    have hA' : DataW.TrodAll enc Try.prog W 0 (fun _ => true) true [36] args.toList ds p := hA
    obtain ⟨v0, d0, rfl, rfl, h0⟩ := trodAll_one hA'
    obtain ⟨v, rfl, _⟩ := open_value (hval 0 36 v0 rfl rfl) h0
    exact kinds_law v W
theorem flogicKinds_holds : Rows.FlogicKindsSaid :=
  OpenClaim.holds_of_wide 4 Try.f4 rfl rfl rfl rfl rfl rfl rfl ⟨rfl, rfl, rfl, rfl, rfl⟩ rfl rfl rfl rfl rfl (by kernel_rfl) Try.func4 (by kernel_rfl)
    (of_decide_eq_true (by kernel_rfl)) (by unfold Func.isWrapper; first | (rw [if_pos (by decide +kernel)]; kernel_rfl) | (rw [if_neg (by decide +kernel)]; exact ⟨rfl, rfl⟩))
    (fun os started H enc _ => flogicKinds_lifted os started H enc)
end Go.Proofs.Ytgbedjeiihigaaa
