/- Decide where the cell has no content, or has an anchor already. -/
import Derived.Test.YtihfmcadcojjnaaS23Dec1
namespace Go.Proofs.Ytihfmcadcojjnaa
open Go.RowKit

set_option maxHeartbeats 1000000 in
set_option maxRecDepth 100000 in
theorem dec_none {w : World} {p : Nat} {S : Nat → Prop} {g : G} {bf ba bo : Nat} {sv : Value} (H : BdX w p S g bf ba bo sv) (r c rs cs : Int) (he : gErr g r c rs cs = 3) :
    Calls Try.prog 12 #[.pointer (some ⟨p, 0, none⟩), .int .i64 r, .int .i64 c, .int .i64 rs, .int .i64 cs] w (DecPost w p S g r c rs cs) := by
  have NO : Hid (∀ w', Below w.heap.size w w' → DecPost w p S g r c rs cs (.returned (.tuple #[.bool false, .int .i64 3])) w') := fun w' hb => dec_no H he (by decide) hb
  obtain ⟨hh, h1, h2, h3⟩ := err_ok (by rw [he]; decide)
  have HF : Hid (((getL g.F (r, c)).map Value.bool).getD (.bool false) = .bool false) := by
    have hF : (getL g.F (r, c)).getD false = false := by
      unfold gErr at he
      rw [if_neg (by rw [hh]; simp; omega)] at he
      by_cases hF : (getL g.F (r, c)).getD false = false
      · exact hF
      · rw [if_neg hF] at he
        split at he <;> cases he
    unfold Hid
    cases hg : getL g.F (r, c) with
    | none => rfl
    | some b => rw [hg] at hF; exact congrArg Value.bool hF
  clear he
  have hL3 := h3
  go_enter Try.func12, Try.ntmps12
  go_wp2_with fail
  refine (has_bd_yes (H.below (below_alloc w _ _ (Nat.le_refl _))) r c hh).mono ?_
  rintro e w1 ⟨rfl, hb⟩
  have FB := Lib.hid (below_two hb (Below.refl _ _))
  have H1 := H.below FB.out
  have ea := heap_two hb
  have hs1 : w.heap.size < w1.heap.size := lt_of_heap ea
  have hp1 : p < w1.heap.size := H1.lt p H1.sp
  have k0 := cell_of_heap ea 0
  have k1 := cell_of_heap ea 1
  obtain ⟨c0, c1, c2, c3, c4, c5⟩ := H1.cell
  have hl1 : ∀ W, Below w1.heap.size w1 W → (Instr.lookup 64 (.map (some bf)) (.agg #[.int .i64 r, .int .i64 c]) false).run Try.prog W = .ok (((getL g.F (r, c)).map Value.bool).getD (.bool false)) W := fun W hW =>
    (H1.mf.of_block (hW.block bf H1.mf.lt)).look1 place_fits Try.underlying64 (zero4 W) (r, c)
  have hl2 : ∀ W, Below w1.heap.size w1 W → (Instr.lookup 65 (.map (some ba)) (.agg #[.int .i64 r, .int .i64 c]) true).run Try.prog W = .ok (.tuple #[((getL g.A (r, c)).map (Value.int .i64)).getD (.int .i64 0), .bool (getL g.A (r, c)).isSome]) W := fun W hW =>
    (H1.ma.of_block (hW.block ba H1.ma.lt)).look2 place_fits Try.underlying65 (zero3 W) (r, c)
  have H1' := Lib.hid H1
  have HH := Lib.hid hh
  have EA := Lib.hid ea
  clear H1 hh hb c0 c1 c3 c5 ea
  rw [HF.out] at hl1
  clear hl2
  go_wp2_with fail
  refine wp_region_mix [0, 1, 2, 3, 4, 5, 6] [] [] (Below w1.heap.size w1) (by kernel_rfl) (by kernel_rfl) (Below.refl _ _).drew ?_
  iterate 7 (first | (apply first_step; (rw [List.getElem?_toArray]; (repeat rw [List.getElem?_cons_succ]); rw [List.getElem?_cons_zero]); rfl; (intro W hB; have hc := bcellB hB; go_simp; (first | done | rfl)); go_frame) | (apply first_skip; (rw [List.getElem?_toArray]; (repeat rw [List.getElem?_cons_succ]); rw [List.getElem?_cons_zero]); rfl; go_frame))
  refine first_done ?_
  refine tail_done ?_
  go_wp2_with fail
  go_ret2
  exact NO.out _ FB.out.drew

set_option maxHeartbeats 1000000 in
set_option maxRecDepth 100000 in
theorem dec_twice {w : World} {p : Nat} {S : Nat → Prop} {g : G} {bf ba bo : Nat} {sv : Value} (H : BdX w p S g bf ba bo sv) (r c rs cs : Int) (he : gErr g r c rs cs = 4) :
    Calls Try.prog 12 #[.pointer (some ⟨p, 0, none⟩), .int .i64 r, .int .i64 c, .int .i64 rs, .int .i64 cs] w (DecPost w p S g r c rs cs) := by
  have NO : Hid (∀ w', Below w.heap.size w w' → DecPost w p S g r c rs cs (.returned (.tuple #[.bool false, .int .i64 4])) w') := fun w' hb => dec_no H he (by decide) hb
  obtain ⟨hh, h1, h2, h3⟩ := err_ok (by rw [he]; decide)
  have HFA : Hid (((getL g.F (r, c)).map Value.bool).getD (.bool false) = .bool true ∧ ∃ n, getL g.A (r, c) = some n) := by
    unfold gErr at he
    rw [if_neg (by rw [hh]; simp; omega)] at he
    by_cases hF : (getL g.F (r, c)).getD false = false
    · rw [if_pos hF] at he; cases he
    · rw [if_neg hF] at he
      refine ⟨?_, ?_⟩
      · cases hg : getL g.F (r, c) with
        | none => rw [hg] at hF; exact absurd rfl hF
        | some b => rw [hg] at hF; cases b with
          | true => rfl
          | false => exact absurd rfl hF
      · cases hg : getL g.A (r, c) with
        | none => rw [hg] at he; cases he
        | some n => exact ⟨n, rfl⟩
  clear he
  have hL3 := h3
  go_enter Try.func12, Try.ntmps12
  go_wp2_with fail
  refine (has_bd_yes (H.below (below_alloc w _ _ (Nat.le_refl _))) r c hh).mono ?_
  rintro e w1 ⟨rfl, hb⟩
  have FB := Lib.hid (below_two hb (Below.refl _ _))
  have H1 := H.below FB.out
  have ea := heap_two hb
  have hs1 : w.heap.size < w1.heap.size := lt_of_heap ea
  have hp1 : p < w1.heap.size := H1.lt p H1.sp
  have k0 := cell_of_heap ea 0
  have k1 := cell_of_heap ea 1
  obtain ⟨c0, c1, c2, c3, c4, c5⟩ := H1.cell
  have hl1 : ∀ W, Below w1.heap.size w1 W → (Instr.lookup 64 (.map (some bf)) (.agg #[.int .i64 r, .int .i64 c]) false).run Try.prog W = .ok (((getL g.F (r, c)).map Value.bool).getD (.bool false)) W := fun W hW =>
    (H1.mf.of_block (hW.block bf H1.mf.lt)).look1 place_fits Try.underlying64 (zero4 W) (r, c)
  have hl2 : ∀ W, Below w1.heap.size w1 W → (Instr.lookup 65 (.map (some ba)) (.agg #[.int .i64 r, .int .i64 c]) true).run Try.prog W = .ok (.tuple #[((getL g.A (r, c)).map (Value.int .i64)).getD (.int .i64 0), .bool (getL g.A (r, c)).isSome]) W := fun W hW =>
    (H1.ma.of_block (hW.block ba H1.ma.lt)).look2 place_fits Try.underlying65 (zero3 W) (r, c)
  have H1' := Lib.hid H1
  have HH := Lib.hid hh
  have EA := Lib.hid ea
  clear H1 hh hb c0 c1 c3 c5 ea
  obtain ⟨hF1, n, hA1⟩ := HFA.out
  rw [hF1] at hl1
  rw [hA1] at hl2
  simp only [Option.map_some, Option.getD_some, Option.isSome_some] at hl2
  clear hF1 hA1
  go_wp2_with fail
  refine wp_region_mix [0, 1, 2, 3, 4, 5, 6] [] [] (Below w1.heap.size w1) (by kernel_rfl) (by kernel_rfl) (Below.refl _ _).drew ?_
  iterate 7 (first | (apply first_step; (rw [List.getElem?_toArray]; (repeat rw [List.getElem?_cons_succ]); rw [List.getElem?_cons_zero]); rfl; (intro W hB; have hc := bcellB hB; go_simp; (first | done | rfl)); go_frame) | (apply first_skip; (rw [List.getElem?_toArray]; (repeat rw [List.getElem?_cons_succ]); rw [List.getElem?_cons_zero]); rfl; go_frame))
  refine first_done ?_
  refine tail_done ?_
  go_wp2_with fail
  refine wp_region_mix [0, 1, 2, 3, 4, 5, 6, 7, 8, 9, 10] [] [] (Below w1.heap.size w1) (by kernel_rfl) (by kernel_rfl) (Below.refl _ _).drew.drew ?_
  iterate 11 (first | (apply first_step; (rw [List.getElem?_toArray]; (repeat rw [List.getElem?_cons_succ]); rw [List.getElem?_cons_zero]); rfl; (intro W hB; have hc := bcellB hB; go_simp; (first | done | rfl)); go_frame) | (apply first_skip; (rw [List.getElem?_toArray]; (repeat rw [List.getElem?_cons_succ]); rw [List.getElem?_cons_zero]); rfl; go_frame))
  refine first_done ?_
  refine tail_done ?_
  go_wp2_with fail
  go_ret2
  exact NO.out _ FB.out.drew.drew
end Go.Proofs.Ytihfmcadcojjnaa
