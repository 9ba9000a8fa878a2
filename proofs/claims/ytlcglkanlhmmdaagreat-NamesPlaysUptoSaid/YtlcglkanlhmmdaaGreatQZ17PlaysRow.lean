/- NamesPlays: the row of the second form: for every slice of acts the law returns true, and the arguments read as before. Condition: what the arguments read as is of bulk at most 1048576. -/
import Derived.Test.YtlcglkanlhmmdaaGreatQLaw
import Derived.Test.YtlcglkanlhmmdaaGreatQZ17PlaysL
namespace Go.Proofs.YtlcglkanlhmmdaaGreat
open Go.ChangeShapes Go.WideShapes Go.ChangeAt Go.RowKit
theorem small_pl {H : Type} {ds : List (DataW H)} (h : Rows.uptoSmall H ds = true) : Rows.uptoBulkAll ds ≤ 1048576 := of_decide_eq_true h
set_option maxRecDepth 100000 in
theorem namesPlays_lifted (os : Os) (started : os.Started) (H : Type) (enc : TypeId × Value → H) (F : Stop.Interp) :
    ReturnsInHanded {} Tryz.checked os 3 .any ((Rows.OpenSpec.upto Rows.namesPlaysSpec).pre6 enc Tryz.prog Tryz.f3 Rows.namesPlaysUptoRow.domain false) (((Rows.OpenSpec.upto Rows.namesPlaysSpec).at F).post enc Tryz.prog Tryz.f3 false true false false) := by
  refine law_lift_upto (C := Tryz.checked) (fn := Tryz.f3) (s := Rows.namesPlaysSpec) (tb := 4) own_try started (by kernel_rfl) Tryz.func3
    (OpenSpec.witness (enc := enc) (C := Tryz.checked) (s := Rows.OpenSpec.upto Rows.namesPlaysSpec) (k := Rows.uptoSmall) rfl false ⟨#[], #[.slice none 0 0], []⟩ 8 (by kernel_rfl) (by kernel_rfl) (by kernel_rfl)
      (x := ([.nil], [], [])) (by kernel_rfl) rfl (by kernel_rfl))
    laid_try (by kernel_rfl) rfl Tryz.underlying4 rfl ?_ ?_
  · intro ds hd
    match ds, hd with
    | [d0], _ => exact ⟨rfl, rfl, rfl⟩
  · intro W base args ds p hval hA hk
    have hb := small_pl hk
    have hA' : DataW.TrodAll enc Tryz.prog W 0 (fun _ => true) true [22] args.toList ds p := hA
    obtain ⟨v0, d0, rfl, rfl, h0⟩ := trodAll_one hA'
    simp only [Rows.uptoBulkAll] at hb
    obtain ⟨a, cap, l, rfl, hat, hl, hall⟩ := open_deeds (hval 0 22 v0 rfl rfl) h0
    exact plays_law l (by omega) (fun x hx => ⟨by have := (hall x hx).2.1; omega, (hall x hx).2.2.1 (by omega), by have := (hall x hx).1; omega⟩) (fun x hx => (hall x hx).2.2.2) a cap W hat
theorem namesPlays_holds : Rows.NamesPlaysUptoSaid :=
  OpenClaim.holds_of_cond 3 Tryz.f3 rfl rfl rfl rfl rfl rfl rfl ⟨rfl, rfl, rfl, rfl, rfl⟩ rfl rfl rfl rfl rfl (by kernel_rfl) Tryz.func3 (by kernel_rfl)
    (of_decide_eq_true (by kernel_rfl)) (by unfold Func.isWrapper; first | (rw [if_pos (by decide +kernel)]; kernel_rfl) | (rw [if_neg (by decide +kernel)]; exact ⟨rfl, rfl⟩))
    (fun os started H enc _ F => namesPlays_lifted os started H enc F)
end Go.Proofs.YtlcglkanlhmmdaaGreat
