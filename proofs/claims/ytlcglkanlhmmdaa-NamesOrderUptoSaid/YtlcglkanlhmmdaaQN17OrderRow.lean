/- NamesOrder: the row of the second form: for every slice of acts the law returns true, and the arguments read as before. Condition: what the arguments read as is of bulk at most 1048576. -/
import Derived.Test.YtlcglkanlhmmdaaQLaw
import Derived.Test.YtlcglkanlhmmdaaQN17OrderL
namespace Go.Proofs.Ytlcglkanlhmmdaa
open Go.ChangeShapes Go.WideShapes Go.ChangeAt Go.RowKit
theorem small_ord {H : Type} {ds : List (DataW H)} (h : Rows.uptoSmall H ds = true) : Rows.uptoBulkAll ds ≤ 1048576 := of_decide_eq_true h
set_option maxRecDepth 100000 in
theorem namesOrder_lifted (os : Os) (started : os.Started) (H : Type) (enc : TypeId × Value → H) (F : Stop.Interp) :
    ReturnsInHanded {} Try.checked os 6 .any ((Rows.OpenSpec.upto Rows.namesOrderSpec).pre6 enc Try.prog Try.f6 Rows.namesOrderUptoRow.domain false) (((Rows.OpenSpec.upto Rows.namesOrderSpec).at F).post enc Try.prog Try.f6 false true false false) := by
  refine law_lift_upto (C := Try.checked) (fn := Try.f6) (s := Rows.namesOrderSpec) (tb := 4) own_try started (by kernel_rfl) Try.func6
    (OpenSpec.witness (enc := enc) (C := Try.checked) (s := Rows.OpenSpec.upto Rows.namesOrderSpec) (k := Rows.uptoSmall) rfl false ⟨#[], #[.slice none 0 0], []⟩ 8 (by kernel_rfl) (by kernel_rfl) (by kernel_rfl)
      (x := ([.nil], [], [])) (by kernel_rfl) rfl (by kernel_rfl))
    laid_try (by kernel_rfl) rfl Try.underlying4 rfl ?_ ?_
  · intro ds hd
    match ds, hd with
    | [d0], _ => exact ⟨rfl, rfl, rfl⟩
  · intro W base args ds p hval hA hk
    have hb := small_ord hk
    have hA' : DataW.TrodAll enc Try.prog W 0 (fun _ => true) true [22] args.toList ds p := hA
    obtain ⟨v0, d0, rfl, rfl, h0⟩ := trodAll_one hA'
    simp only [Rows.uptoBulkAll] at hb
    obtain ⟨a, cap, l, rfl, hat, hl, hall⟩ := open_deeds (hval 0 22 v0 rfl rfl) h0
    exact order_law l (by omega) (fun x hx => ⟨by have := (hall x hx).2.1; omega, (hall x hx).2.2.1 (by omega), by have := (hall x hx).1; omega⟩) a cap W hat
theorem namesOrder_holds : Rows.NamesOrderUptoSaid :=
  OpenClaim.holds_of_cond 6 Try.f6 rfl rfl rfl rfl rfl rfl rfl ⟨rfl, rfl, rfl, rfl, rfl⟩ rfl rfl rfl rfl rfl (by kernel_rfl) Try.func6 (by kernel_rfl)
    (of_decide_eq_true (by kernel_rfl)) (by unfold Func.isWrapper; first | (rw [if_pos (by decide +kernel)]; kernel_rfl) | (rw [if_neg (by decide +kernel)]; exact ⟨rfl, rfl⟩))
    (fun os started H enc _ F => namesOrder_lifted os started H enc F)
end Go.Proofs.Ytlcglkanlhmmdaa
