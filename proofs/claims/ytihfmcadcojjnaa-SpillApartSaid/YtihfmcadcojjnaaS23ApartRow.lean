/- SpillApart: the row: for every two bytes and every slice of acts the law returns true, and the arguments read as before. No conditions. -/
import Derived.Test.YtihfmcadcojjnaaS23Open
import Derived.Test.YtihfmcadcojjnaaS23Apart
namespace Go.Proofs.Ytihfmcadcojjnaa
open Go.ChangeShapes Go.WideShapes Go.ChangeAt Go.RowKit
set_option maxRecDepth 100000 in
theorem spillApart_lifted (os : Os) (started : os.Started) (H : Type) (enc : TypeId × Value → H) :
    ReturnsInHanded {} Try.checked os 7 .any (Rows.spillApartSpec.pre6 enc Try.prog Try.f7 [] false) (Rows.spillApartSpec.post enc Try.prog Try.f7 false true false false) := by
  refine law_lift (C := Try.checked) (fn := Try.f7) (s := Rows.spillApartSpec) (tb := 4) own_try started (by kernel_rfl) Try.func7
    (ChangeSpec.witness6 (enc := enc) (C := Try.checked) false ⟨#[], #[.int .u8 0, .int .u8 0, .slice none 0 0], []⟩ 8 (by kernel_rfl) (by kernel_rfl) (by kernel_rfl) (by kernel_rfl)) laid_try (by kernel_rfl) rfl Try.underlying4 rfl ?_ ?_
  · intro ds hd
    match ds, hd with
    | [d0, d1, d2], _ => exact ⟨rfl, rfl, rfl⟩
  · intro W base args ds p hval hA hlt hsz
    have hA' : DataW.TrodAll enc Try.prog W 0 (fun _ => true) true [5, 5, 34] args.toList ds p := hA
    obtain ⟨v0, v1, v2, d0, d1, d2, p0, p1, p2, rfl, rfl, rfl, h0, h1, h2⟩ := trodAll_three hA'
    obtain ⟨a, rfl, wa⟩ := open_byte (hval 0 5 v0 rfl rfl) h0
    obtain ⟨b, rfl, wb⟩ := open_byte (hval 1 5 v1 rfl rfl) h1
    obtain ⟨a', cap', q, rfl, hQ⟩ := open_acts (hval 2 34 v2 rfl rfl) h2
    exact apart_law a b a' cap' q W wa.1 wa.2 wb.1 wb.2 hQ
theorem spillApart_holds : Rows.SpillApartSaid :=
  OpenClaim.holds_of_wide 7 Try.f7 rfl rfl rfl rfl rfl rfl rfl ⟨rfl, rfl, rfl, rfl, rfl⟩ rfl rfl rfl rfl rfl (by kernel_rfl) Try.func7 (by kernel_rfl)
    (of_decide_eq_true (by kernel_rfl)) (by unfold Func.isWrapper; first | (rw [if_pos (by decide +kernel)]; kernel_rfl) | (rw [if_neg (by decide +kernel)]; exact ⟨rfl, rfl⟩))
    (fun os started H enc _ => spillApart_lifted os started H enc)
end Go.Proofs.Ytihfmcadcojjnaa
