/- NamesOnce: the row of the second form: for every slice of acts and every tree the law returns true, and the arguments read as before. Condition: what the arguments read as is of bulk at most 1048576. -/
import Derived.Test.YtlcglkanlhmmdaaQLaw
import Derived.Test.YtlcglkanlhmmdaaQN17Once
namespace Go.Proofs.Ytlcglkanlhmmdaa
open Go.ChangeShapes Go.WideShapes Go.ChangeAt Go.RowKit
theorem small_both {H : Type} {ds : List (DataW H)} (h : Rows.uptoSmall H ds = true) : Rows.uptoBulkAll ds ≤ 1048576 := of_decide_eq_true h
set_option maxRecDepth 100000 in
theorem namesOnce_lifted (os : Os) (started : os.Started) (H : Type) (enc : TypeId × Value → H) (F : Stop.Interp) :
    ReturnsInHanded {} Try.checked os 4 .any ((Rows.OpenSpec.upto Rows.namesOnceSpec).pre6 enc Try.prog Try.f4 Rows.namesOnceUptoRow.domain false) (((Rows.OpenSpec.upto Rows.namesOnceSpec).at F).post enc Try.prog Try.f4 false true false false) := by
  refine law_lift_upto (C := Try.checked) (fn := Try.f4) (s := Rows.namesOnceSpec) (tb := 4) own_try started (by kernel_rfl) Try.func4
    (OpenSpec.witness (enc := enc) (C := Try.checked) (s := Rows.OpenSpec.upto Rows.namesOnceSpec) (k := Rows.uptoSmall) rfl false ⟨#[], #[.slice none 0 0, nagg nd0 (.slice none 0 0)], []⟩ 8 (by kernel_rfl) (by kernel_rfl) (by kernel_rfl)
      (x := ([.nil, .agg [.lit (.int .i64 0), .agg [.lit (.int .i64 0), .agg [.lit (.int .i64 0), .lit (.int .i64 0)], .lit (.string []), .lit (.bool false), .lit (.int .i64 0)], .lit (.string []),
        .agg [.agg [.agg [.lit (.int .i64 0), .lit (.int .i64 0)], .agg [.lit (.int .i64 0), .lit (.int .i64 0)], .lit (.bool false), .lit (.bool false)], .agg [.agg [.lit (.int .i64 0), .lit (.int .i64 0)], .agg [.lit (.int .i64 0), .lit (.int .i64 0)], .lit (.bool false), .lit (.bool false)]], .lit (.int .i64 0), .nil]], [], [])) (by kernel_rfl) rfl (by kernel_rfl))
    laid_try (by kernel_rfl) rfl Try.underlying4 rfl ?_ ?_
  · intro ds hd
    match ds, hd with
    | [d0, d1], _ => exact ⟨rfl, rfl, rfl⟩
  · intro W base args ds p hval hA hk
    have hb := small_both hk
    have hA' : DataW.TrodAll enc Try.prog W 0 (fun _ => true) true [22, 35] args.toList ds p := hA
    obtain ⟨v0, v1, d0, d1, p0, p1, rfl, rfl, rfl, h0, h1⟩ := trodAll_two hA'
    simp only [Rows.uptoBulkAll] at hb
    obtain ⟨a, cap, l, rfl, hat, hl, hall⟩ := open_deeds (hval 0 22 v0 rfl rfl) h0
    obtain ⟨t, ht, hz, hf⟩ := open_tree (hval 1 35 v1 rfl rfl) h1
    exact once_law l t (by omega) (fun x hx => ⟨by have := (hall x hx).2.1; omega, (hall x hx).2.2.1 (by omega), by have := (hall x hx).1; omega⟩) ⟨by omega, hf (by omega)⟩ a cap v1 W hat ht
theorem namesOnce_holds : Rows.NamesOnceUptoSaid :=
  OpenClaim.holds_of_cond 4 Try.f4 rfl rfl rfl rfl rfl rfl rfl ⟨rfl, rfl, rfl, rfl, rfl⟩ rfl rfl rfl rfl rfl (by kernel_rfl) Try.func4 (by kernel_rfl)
    (of_decide_eq_true (by kernel_rfl)) (by unfold Func.isWrapper; first | (rw [if_pos (by decide +kernel)]; kernel_rfl) | (rw [if_neg (by decide +kernel)]; exact ⟨rfl, rfl⟩))
    (fun os started H enc _ F => namesOnce_lifted os started H enc F)
end Go.Proofs.Ytlcglkanlhmmdaa
