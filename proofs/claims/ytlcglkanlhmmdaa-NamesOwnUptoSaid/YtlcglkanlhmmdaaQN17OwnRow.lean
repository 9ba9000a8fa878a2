/- NamesOwn: the row of the second form: for every text and every tree the law returns true, and the arguments read as before. Condition: what the arguments read as is of bulk at most 1048576. -/
import Derived.Test.YtlcglkanlhmmdaaQLaw
import Derived.Test.YtlcglkanlhmmdaaQN17OwnL
namespace Go.Proofs.Ytlcglkanlhmmdaa
open Go.ChangeShapes Go.WideShapes Go.ChangeAt Go.RowKit
theorem small_own {H : Type} {ds : List (DataW H)} (h : Rows.uptoSmall H ds = true) : Rows.uptoBulkAll ds ≤ 1048576 := of_decide_eq_true h
set_option maxRecDepth 100000 in
theorem namesOwn_lifted (os : Os) (started : os.Started) (H : Type) (enc : TypeId × Value → H) (F : Stop.Interp) :
    ReturnsInHanded {} Try.checked os 5 .any ((Rows.OpenSpec.upto Rows.namesOwnSpec).pre6 enc Try.prog Try.f5 Rows.namesOwnUptoRow.domain false) (((Rows.OpenSpec.upto Rows.namesOwnSpec).at F).post enc Try.prog Try.f5 false true false false) := by
  refine law_lift_upto (C := Try.checked) (fn := Try.f5) (s := Rows.namesOwnSpec) (tb := 4) own_try started (by kernel_rfl) Try.func5
    (OpenSpec.witness (enc := enc) (C := Try.checked) (s := Rows.OpenSpec.upto Rows.namesOwnSpec) (k := Rows.uptoSmall) rfl false ⟨#[], #[.string .empty, nagg nd0 (.slice none 0 0)], []⟩ 8 (by kernel_rfl) (by kernel_rfl) (by kernel_rfl)
      (x := ([.lit (.string []), .agg [.lit (.int .i64 0), .agg [.lit (.int .i64 0), .agg [.lit (.int .i64 0), .lit (.int .i64 0)], .lit (.string []), .lit (.bool false), .lit (.int .i64 0)], .lit (.string []),
        .agg [.agg [.agg [.lit (.int .i64 0), .lit (.int .i64 0)], .agg [.lit (.int .i64 0), .lit (.int .i64 0)], .lit (.bool false), .lit (.bool false)], .agg [.agg [.lit (.int .i64 0), .lit (.int .i64 0)], .agg [.lit (.int .i64 0), .lit (.int .i64 0)], .lit (.bool false), .lit (.bool false)]], .lit (.int .i64 0), .nil]], [], [])) (by kernel_rfl) rfl (by kernel_rfl))
    laid_try (by kernel_rfl) rfl Try.underlying4 rfl ?_ ?_
  · intro ds hd
    match ds, hd with
    | [d0, d1], _ => exact ⟨rfl, rfl, rfl⟩
  · intro W base args ds p hval hA hk
    have hb := small_own hk
    have hA' : DataW.TrodAll enc Try.prog W 0 (fun _ => true) true [9, 35] args.toList ds p := hA
    obtain ⟨v0, v1, d0, d1, p0, p1, rfl, rfl, rfl, h0, h1⟩ := trodAll_two hA'
    simp only [Rows.uptoBulkAll] at hb
    obtain ⟨s, rfl⟩ := okWide_string Try.underlying9 (hval 0 9 v0 rfl rfl)
    obtain ⟨fuel, hf0⟩ := h0
    obtain ⟨s', hs, hb0⟩ := trod_string_d Try.underlying9 hf0
    simp only [Value.cells, List.cons.injEq, Value.string.injEq, and_true] at hs
    subst hs
    have hb1 : Rows.uptoBulk d0 = s.size + 1 := hb0
    obtain ⟨t, ht, hz, hf⟩ := open_tree (hval 1 35 v1 rfl rfl) h1
    exact own_law s (by omega) t ⟨by omega, hf (by omega)⟩ v1 W ht
theorem namesOwn_holds : Rows.NamesOwnUptoSaid :=
  OpenClaim.holds_of_cond 5 Try.f5 rfl rfl rfl rfl rfl rfl rfl ⟨rfl, rfl, rfl, rfl, rfl⟩ rfl rfl rfl rfl rfl (by kernel_rfl) Try.func5 (by kernel_rfl)
    (of_decide_eq_true (by kernel_rfl)) (by unfold Func.isWrapper; first | (rw [if_pos (by decide +kernel)]; kernel_rfl) | (rw [if_neg (by decide +kernel)]; exact ⟨rfl, rfl⟩))
    (fun os started H enc _ F => namesOwn_lifted os started H enc F)
end Go.Proofs.Ytlcglkanlhmmdaa
