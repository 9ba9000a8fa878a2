/- CycleParts: the row: for every number, every row of edges and every row of nodes the law returns true, and the arguments read as before. No conditions. -/
import Derived.Test.YtcjohhminiedfaaQC21PartsL
import Derived.Test.YtcjohhminiedfaaQC21Open2
namespace Go.Proofs.Ytcjohhminiedfaa
open Go.ChangeShapes Go.WideShapes Go.ChangeAt Go.RowKit
set_option maxRecDepth 100000 in
theorem cycleParts_lifted (os : Os) (started : os.Started) (H : Type) (enc : TypeId × Value → H) :
    ReturnsInHanded {} Try.checked os 5 .any (Rows.cyclePartsSpec.pre6 enc Try.prog Try.f5 [] false) (Rows.cyclePartsSpec.post enc Try.prog Try.f5 false true false false) := by
  refine law_lift (C := Try.checked) (fn := Try.f5) (s := Rows.cyclePartsSpec) (tb := 4) own_try started (by kernel_rfl) Try.func5
    (ChangeSpec.witness6 (enc := enc) (C := Try.checked) false ⟨#[], #[.int .u8 0, .slice none 0 0, .slice none 0 0], []⟩ 8 (by kernel_rfl) (by kernel_rfl) (by kernel_rfl) (by kernel_rfl)) laid_try (by kernel_rfl) rfl Try.underlying4 rfl ?_ ?_
  · intro ds hd
    match ds, hd with
    | [d0, d1, d2], _ => exact ⟨rfl, rfl, rfl⟩
  · intro W base args ds p hval hA hlt hsz
    have hA' : DataW.TrodAll enc Try.prog W 0 (fun _ => true) true [5, 22, 31] args.toList ds p := hA
    obtain ⟨v0, v1, v2, d0, d1, d2, p0, p1, p2, rfl, rfl, rfl, t0, t1, t2⟩ := trodAll_three hA'
    obtain ⟨a, rfl, a0, a1⟩ := open_byte (hval 0 5 v0 rfl rfl) t0
    obtain ⟨b, cap, l, rfl, hl⟩ := open_edges (hval 1 22 v1 rfl rfl) t1
    obtain ⟨S, hS⟩ := open_ints (hval 2 31 v2 rfl rfl) t2
    exact parts_law a0 a1 hl hS
theorem cycleParts_holds : Rows.CyclePartsSaid :=
  OpenClaim.holds_of_wide 5 Try.f5 rfl rfl rfl rfl rfl rfl rfl ⟨rfl, rfl, rfl, rfl, rfl⟩ rfl rfl rfl rfl rfl (by kernel_rfl) Try.func5 (by kernel_rfl)
    (of_decide_eq_true (by kernel_rfl)) (by unfold Func.isWrapper; first | (rw [if_pos (by decide +kernel)]; kernel_rfl) | (rw [if_neg (by decide +kernel)]; exact ⟨rfl, rfl⟩))
    (fun os started H enc _ => cycleParts_lifted os started H enc)
end Go.Proofs.Ytcjohhminiedfaa
