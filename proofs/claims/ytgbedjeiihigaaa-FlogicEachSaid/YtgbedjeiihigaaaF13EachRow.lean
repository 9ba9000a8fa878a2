/- FlogicEach: the row: for every array and every two bytes the law returns true, and the arguments read as before. No conditions. -/
import Derived.Test.YtgbedjeiihigaaaF13Open2
import Derived.Test.YtgbedjeiihigaaaF13EachL
namespace Go.Proofs.Ytgbedjeiihigaaa
open Go.ChangeShapes Go.WideShapes Go.ChangeAt Go.RowKit
set_option maxRecDepth 100000 in
theorem flogicEach_lifted (os : Os) (started : os.Started) (H : Type) (enc : TypeId × Value → H) :
    ReturnsInHanded {} Try.checked os 6 .any (Rows.flogicEachSpec.pre6 enc Try.prog Try.f6 [] false) (Rows.flogicEachSpec.post enc Try.prog Try.f6 false true false false) := by
  refine law_lift (C := Try.checked) (fn := Try.f6) (s := Rows.flogicEachSpec) (tb := 4) own_try started (by kernel_rfl) Try.func6
    (ChangeSpec.witness6 (enc := enc) (C := Try.checked) false ⟨#[], #[.agg #[.int .i64 0, .int .i64 0, .slice none 0 0], .int .u8 0, .int .u8 0], []⟩ 8 (by kernel_rfl) (by kernel_rfl) (by kernel_rfl) (by kernel_rfl)) laid_try (by kernel_rfl) rfl Try.underlying4 rfl ?_ ?_
  · intro ds hd
    match ds, hd with
    | [d0, d1, d2], _ => exact ⟨rfl, rfl, rfl⟩
  · intro W base args ds p hval hA hlt hsz
    have hA' : DataW.TrodAll enc Try.prog W 0 (fun _ => true) true [27, 5, 5] args.toList ds p := hA
    obtain ⟨v0, v1, v2, d0, d1, d2, p0, p1, p2, rfl, rfl, rfl, h0, h1, h2⟩ := trodAll_three hA'
    obtain ⟨A, a, cap, rfl, hs⟩ := open_array (hval 0 27 v0 rfl rfl) h0
    obtain ⟨p, rfl, wp⟩ := open_byte (hval 1 5 v1 rfl rfl) h1
    obtain ⟨q, rfl, wq⟩ := open_byte (hval 2 5 v2 rfl rfl) h2
    exact each_law A a cap p q W wp.1 wp.2 wq.1 wq.2 hs
theorem flogicEach_holds : Rows.FlogicEachSaid :=
  OpenClaim.holds_of_wide 6 Try.f6 rfl rfl rfl rfl rfl rfl rfl ⟨rfl, rfl, rfl, rfl, rfl⟩ rfl rfl rfl rfl rfl (by kernel_rfl) Try.func6 (by kernel_rfl)
    (of_decide_eq_true (by kernel_rfl)) (by unfold Func.isWrapper; first | (rw [if_pos (by decide +kernel)]; kernel_rfl) | (rw [if_neg (by decide +kernel)]; exact ⟨rfl, rfl⟩))
    (fun os started H enc _ => flogicEach_lifted os started H enc)
end Go.Proofs.Ytgbedjeiihigaaa
