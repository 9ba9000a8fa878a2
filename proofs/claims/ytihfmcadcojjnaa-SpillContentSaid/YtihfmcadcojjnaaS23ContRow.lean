/- SpillContent: the row: for every pair of bytes, every slice of pairs of bytes and every slice of acts the law returns true, and the arguments read as before. No conditions. -/
import Derived.Test.YtihfmcadcojjnaaS23Open
import Derived.Test.YtihfmcadcojjnaaS23Cont
namespace Go.Proofs.Ytihfmcadcojjnaa
open Go.ChangeShapes Go.WideShapes Go.ChangeAt Go.RowKit
set_option maxRecDepth 100000 in
theorem spillContent_lifted (os : Os) (started : os.Started) (H : Type) (enc : TypeId × Value → H) :
    ReturnsInHanded {} Try.checked os 4 .any (Rows.spillContentSpec.pre6 enc Try.prog Try.f4 [] false) (Rows.spillContentSpec.post enc Try.prog Try.f4 false true false false) := by
  refine law_lift (C := Try.checked) (fn := Try.f4) (s := Rows.spillContentSpec) (tb := 4) own_try started (by kernel_rfl) Try.func4
    (ChangeSpec.witness6 (enc := enc) (C := Try.checked) false ⟨#[], #[.agg #[.int .u8 0, .int .u8 0], .slice none 0 0, .slice none 0 0], []⟩ 8 (by kernel_rfl) (by kernel_rfl) (by kernel_rfl) (by kernel_rfl)) laid_try (by kernel_rfl) rfl Try.underlying4 rfl ?_ ?_
  · intro ds hd
    match ds, hd with
    | [d0, d1, d2], _ => exact ⟨rfl, rfl, rfl⟩
  · intro W base args ds p hval hA hlt hsz
    have hA' : DataW.TrodAll enc Try.prog W 0 (fun _ => true) true [29, 24, 34] args.toList ds p := hA
    obtain ⟨v0, v1, v2, d0, d1, d2, p0, p1, p2, rfl, rfl, rfl, h0, h1, h2⟩ := trodAll_three hA'
    obtain ⟨s0, s1, rfl, q1, q2, q3, q4⟩ := open_pair (hval 0 29 v0 rfl rfl) h0
    obtain ⟨a, cap, l, rfl, hP⟩ := open_pairs (hval 1 24 v1 rfl rfl) h1
    obtain ⟨a', cap', q, rfl, hQ⟩ := open_acts (hval 2 34 v2 rfl rfl) h2
    exact cont_law s0 s1 a a' cap cap' l q W q1 q2 q3 q4 hP hQ
theorem spillContent_holds : Rows.SpillContentSaid :=
  OpenClaim.holds_of_wide 4 Try.f4 rfl rfl rfl rfl rfl rfl rfl ⟨rfl, rfl, rfl, rfl, rfl⟩ rfl rfl rfl rfl rfl (by kernel_rfl) Try.func4 (by kernel_rfl)
    (of_decide_eq_true (by kernel_rfl)) (by unfold Func.isWrapper; first | (rw [if_pos (by decide +kernel)]; kernel_rfl) | (rw [if_neg (by decide +kernel)]; exact ⟨rfl, rfl⟩))
    (fun os started H enc _ => spillContent_lifted os started H enc)
end Go.Proofs.Ytihfmcadcojjnaa
