/- The law's awake. -/
import Derived.Test.YtlcglkanlhmmdaaGreatQN17Tree
import Derived.Test.YtlcglkanlhmmdaaGreatQN17Set
import Derived.Test.YtlcglkanlhmmdaaGreatQN17Set2
namespace Go.Proofs.YtlcglkanlhmmdaaGreat
open Go.RowKit
section
variable {ops : Array Oper} {rest : List Oper} {op : Oper} {a : Act} {w : World} {Q : Exit → Act → World → Prop}
theorem wpList_build3 {P : Program} (hw : Region.wanted op (yielded ops a.tmps) = true) (t : TypeId) (i j k : Nat) (x y z : Operand) (ho : op.op = .build t #[(i, x), (j, y), (k, z)])
    (v0 v1 v2 : Value) (hx : a.eval x = v0) (hy : a.eval y = v1) (hz : a.eval z = v2) (v : Value) (hb : ∀ w, (Instr.build t #[(i, v0), (j, v1), (k, v2)]).run P w = .ok v w) (h : wpList P ops Q rest (a.put op.dst v) w) : wpList P ops Q (op :: rest) a w :=
  wpList_step fun K hK => by
    rw [if_pos hw]
    unfold Oper.wp execOp
    simp only [ho, List.map_toArray, List.map_cons, List.map_nil, hx, hy, hz, Sem.run_bind, hb, Result.andThen_ok]
    exact hK _ _ h
theorem wpList_bs_nd (hw : Region.wanted op (yielded ops a.tmps) = true) (x : Operand) (ho : op.op = .buildSlice 40 1 #[(0, x)]) (o : Nd) (s : Value) (hx : a.eval x = .agg (ncells o s).toArray)
    (h : wpList Tryz.prog ops Q rest (a.put op.dst (.slice (some ⟨w.heap.size, 0, none⟩) 1 1)) (w.alloc (.cells (ncells o s).toArray 42))) : wpList Tryz.prog ops Q (op :: rest) a w :=
  wpList_step fun K hK => by
    rw [if_pos hw]
    unfold Oper.wp execOp
    simp only [ho, List.map_toArray, List.map_cons, List.map_nil, hx, Sem.run_bind, bs_nd, Result.andThen_ok]
    exact hK _ _ h
end
theorem build_un (a : Option Addr) (n cap : Nat) (w : World) : (Instr.build 42 #[(0, .int .i64 5), (2, .string ⟨#[45]⟩), (5, .slice a n cap)]).run Tryz.prog w = .ok (nagg unN (.slice a n cap)) w := run_build w 42 _ _ (by kernel_rfl)
theorem one3_is (w : World) : IsT w (nagg (oneN 3) (.slice none 0 0)) one3 := ⟨none, 0, rfl, by unfold one3; rw [T.at_mk]; intro h; cases h⟩
set_option maxHeartbeats 4000000 in
set_option maxRecDepth 100000 in
theorem awake_any (w : World) : Calls Tryz.prog 4 #[] w fun e w' => e = .returned (.bool true) ∧ Below w.heap.size w w' := by
  go_enter Tryz.func4, Tryz.ntmps4
  go_wp2_with fail
  refine (new_any w).mono ?_
  rintro e w1 ⟨rfl, rfl⟩
  obtain ⟨w1, hw1⟩ : ∃ w1, w1 = w.alloc (.cells #[.map none] 62) := ⟨_, rfl⟩
  rw [← hw1]
  have hz1 : Hid (w1.heap.size = w.heap.size + 1) := by unfold Hid; rw [hw1]; simp
  have hB1 : Hid (Below w.heap.size w w1) := by rw [hw1]; unfold Hid; (repeat (first | with_reducible exact Below.refl _ _ | with_reducible exact hBW | with_reducible refine Below.setCell ?_ ?_ _ | with_reducible refine Below.alloc ?_ ?_ _ | with_reducible refine belowN ?_ _ | with_reducible refine Below.drew ?_)); all_goals (first | omega | (dsimp only; omega) | ((repeat (first | with_reducible refine le_alloc ?_ | with_reducible refine le_setCell ?_ | with_reducible refine le_drew ?_ | with_reducible refine le_drewN ?_)); omega))
  have hT1 : Hid (TabK w.heap.size w1 w.heap.size none []) := by rw [hw1]; exact ⟨heap_alloc_new w _, rfl, Nat.le_refl _, fun _ h => by cases h⟩
  clear hw1
  go_upto_region 3 with (first | refine wpList_build2 rfl 42 0 2 (.const (.int .i64 7)) (.const (.string ⟨#[84, 65, 88]⟩)) rfl (.int .i64 7) (.string sTAX) rfl rfl _ (build_kn sTAX) ?_ | (refine wpList_store_nd rfl (.tmp 2) (.tmp 6) rfl w1.heap.size 0 (ncells nd0 (.slice none 0 0)) 42 (heap_alloc_new w1 _) (Nat.le_refl _) taxN (.slice none 0 0) rfl rfl rfl ?_; intro w2 p1 p2 p3))
  have N2 : Hid (w2.heap[w1.heap.size]? = some (.cells (ncells taxN (.slice none 0 0)).toArray 42)) := p1
  have hB12 : Below w1.heap.size w1 w2 := ((Below.refl _ w1).alloc (Nat.le_refl _) _).trans (p2.below (by simp) (fun k hk => by omega))
  have hB2 : Hid (Below w.heap.size w w2) := hB1.out.trans (hB12.mono hB1.out.size)
  have hT2 : Hid (TabK w.heap.size w2 w.heap.size none []) := hT1.out.below hB12
  clear p1 p2 p3 hB12 hT1 hB1
  go_wp2_with fail
  refine (one_any17 3 _).mono ?_
  rintro e w3 ⟨rfl, hb3⟩
  have hB3 : Hid (Below w.heap.size w w3) := hB2.out.trans (hb3.mono hB2.out.size)
  have hT3 : Hid (TabK w.heap.size w3 w.heap.size none []) := hT2.out.below hb3
  have N3 : Hid (w3.heap[w1.heap.size]? = some (.cells (ncells taxN (.slice none 0 0)).toArray 42)) := (hb3.block _ (lt_of_heap N2.out)).trans N2.out
  clear hb3 hT2 hB2 N2
  go_wp2_with fail
  have hset := set_any w.heap.size w.heap.size none [] sTAX (by decide) one3 (by rw [one3_size]; omega) one3_fit _ w3 hT3.out (one3_is w3)
  refine hset.mono ?_
  rintro e w4 ⟨rfl, ⟨mo, hT4, _⟩, hf4⟩
  rw [set_TAX]
  rw [setL_TAX] at hT4
  have HT4 := Lib.hid hT4
  have hB4 : Hid (Below w.heap.size w w4) := hB3.out.trans (hf4.below hB3.out.size (fun k hk => hk.1))
  have N4 : Hid (w4.heap[w1.heap.size]? = some (.cells (ncells taxN (.slice none 0 0)).toArray 42)) := (hf4.block _ (lt_of_heap N3.out) (fun hk => by rcases hk.2 with h | h; (have := hz1.out; omega); cases h)).trans N3.out
  have R4 := Lib.hid (range_blk N4.out)
  clear hset hT4 hf4 hT3 hB3 N3
  go_wp2_with (first | (refine wpList_load_g rfl 42 (.tmp 2) rfl w1.heap.size 0 rfl _ _ R4.out Tryz.underlying42 rfl info35 ?_) | refine wpList_bs_nd rfl (.tmp 11) rfl taxN (.slice none 0 0) rfl ?_ | refine wpList_build3 rfl 42 0 2 5 (.const (.int .i64 5)) (.const (.string ⟨#[45]⟩)) (.tmp 12) rfl (.int .i64 5) (.string ⟨#[45]⟩) (.slice (some ⟨w4.heap.size, 0, none⟩) 1 1) rfl rfl rfl _ (build_un _ 1 1) ?_)
  have hex := expand_any [(sTAX, one3)] (fun p hp => by rw [List.mem_singleton.1 hp]; show one3.size ≤ _; rw [one3_size]; omega) exT (by rw [exT_size]; omega) (nagg unN (.slice (some ⟨w4.heap.size, 0, none⟩) 1 1)) (w4.alloc (.cells (ncells taxN (.slice none 0 0)).toArray 42)) w.heap.size
    (HT4.out.tab.below (below_alloc _ _ _ (Nat.le_refl _))) ⟨some ⟨w4.heap.size, 0, none⟩, 1, rfl, by
      unfold exT
      rw [T.at_mk]
      intro _
      refine ⟨w4.heap.size, 0, rfl, by simp, fun i t ht => ?_⟩
      cases i with
      | zero =>
        simp at ht
        subst ht
        exact ⟨none, 0, fun j hj => by rw [cell_of_heap (heap_alloc_new w4 _), List.getElem?_toArray]; simp only [Nat.zero_mul, Nat.zero_add]; rfl, by rw [T.at_mk]; intro h; cases h⟩
      | succ i => simp at ht⟩
  rw [exT_exp] at hex
  refine hex.mono ?_
  rintro e w5 ⟨a5, c5, S5, rfl, hO5, hS5, hb5⟩
  have hAt := hO5.at
  obtain ⟨g, go, rfl, hg, hk⟩ := T.at_mk.1 hAt (by decide)
  obtain ⟨a6, c6, hn6, hA6⟩ := hk 0 one3 rfl
  have hB5 : Hid (Below w.heap.size w w5) := hB4.out.trans ((((Below.refl _ w4).alloc (Nat.le_refl _) _).trans (hb5.mono (by simp))).mono hB4.out.size)
  change Hid _ at hB5
  have hn6' : NdAt w5 g go (oneN 3) (.slice a6 0 c6) := fun j hj => by have := hn6 j hj; simp only [Nat.zero_mul, Nat.add_zero] at this; exact this
  have HN6 := Lib.hid hn6'
  have HA6 := Lib.hid hA6
  have HG := Lib.hid hg
  clear hex hO5 hS5 hb5 hAt hk hn6 hn6' hA6 hg hB4 N4 R4 HT4
  go_upto_region 5 with (refine wpList_store_nd rfl (.tmp 4) (.tmp 14) rfl w5.heap.size 0 (ncells nd0 (.slice none 0 0)) 42 (heap_alloc_new w5 _) (Nat.le_refl _) unN (.slice (some ⟨g, go, none⟩) 1 c5) rfl rfl rfl ?_; intro w6 p1 p2 p3)
  have N6 : Hid (w6.heap[w5.heap.size]? = some (.cells (ncells unN (.slice (some ⟨g, go, none⟩) 1 c5)).toArray 42)) := p1
  have hB56 : Hid (Below w5.heap.size w5 w6) := ((Below.refl _ w5).alloc (Nat.le_refl _) _).trans (p2.below (by simp) (fun k hk => by omega))
  have hB6 : Hid (Below w.heap.size w w6) := hB5.out.trans (hB56.out.mono hB5.out.size)
  have LDN := load_nd (o := oneN 3) (s := .slice a6 0 c6) (Nat.lt_of_lt_of_le HG.out hB56.out.size) (HN6.out.below hB56.out HG.out)
  have x21 : w6.cell? ⟨w5.heap.size, 21, none⟩ = some (.slice (some ⟨g, go, none⟩) 1 c5) := cell_of_heap N6.out 21
  have z6 := lt_of_heap N6.out
  have HI6 : Hid (∀ W, Below w6.heap.size w6 W → IsT W (nagg (oneN 3) (.slice a6 0 c6)) one3) := fun W hW => ⟨a6, c6, rfl, (HA6.out.below hB56.out one3).below hW one3⟩
  clear p1 p2 p3
  refine wp_region_multiR [([0, 1, 2, 3, 4, 5, 6, 7, 8, 9, 10, 11, 12], [13, 14], [14, 15, 16, 17, 18, 19, 20, 21, 22, 23]), ([15, 16], [17], [17, 18, 19, 20, 21, 22, 23]), ([18, 19], [20], [20, 21, 22, 23]), ([21, 22, 23], [], [])] (by kernel_rfl) (by kernel_rfl) ?_
  refine multi_phase (Below w6.heap.size w6) (Below.refl _ _).drew ?_
  iterate 12 (first | (apply first_step; (rw [List.getElem?_toArray]; (repeat rw [List.getElem?_cons_succ]); rw [List.getElem?_cons_zero]); rfl; (intro W hB; have hc := bcellB hB; go_simp; (first | done | rfl)); go_frame) | (apply first_skip; (rw [List.getElem?_toArray]; (repeat rw [List.getElem?_cons_succ]); rw [List.getElem?_cons_zero]); rfl; go_frame))
  apply first_load; (rw [List.getElem?_toArray]; (repeat rw [List.getElem?_cons_succ]); rw [List.getElem?_cons_zero]); rfl; rfl; rfl; exact LDN; go_frame
  refine first_done ?_
  clear LDN x21
  apply forced_step; (rw [List.getElem?_toArray]; (repeat rw [List.getElem?_cons_succ]); rw [List.getElem?_cons_zero]); rfl; intro K hK; go_simp
  refine (one_any17 3 _).mono ?_
  rintro e w7 ⟨rfl, hb7⟩
  have hB7 : Hid (Below w6.heap.size w6 w7) := (Below.refl _ w6).drew.trans hb7
  refine hK _ _ (fun _ => hB7.out) ?_
  clear hK K hb7
  apply forced_step; (rw [List.getElem?_toArray]; (repeat rw [List.getElem?_cons_succ]); rw [List.getElem?_cons_zero]); rfl; intro K hK; go_simp
  refine (same_any one3 (by rw [one3_size]; omega) one3 _ _ w7 (HI6.out w7 hB7.out) (one3_is w7)).mono ?_
  rintro e w8 ⟨rfl, hb8⟩
  rw [(T.same_iff one3 one3).2 rfl]
  have hB8 : Hid (Below w6.heap.size w6 w8) := hB7.out.trans (hb8.mono hB7.out.size)
  refine hK _ _ (fun h => absurd (by decide) h) ?_
  clear hK K hb8 hB7
  refine forced_done ?_
  refine multi_phase (fun _ => True) trivial ?_
  iterate 2 (first | (apply first_step; (rw [List.getElem?_toArray]; (repeat rw [List.getElem?_cons_succ]); rw [List.getElem?_cons_zero]); rfl; (intro W hB; go_simp; (first | done | rfl)); go_frame) | (apply first_skip; (rw [List.getElem?_toArray]; (repeat rw [List.getElem?_cons_succ]); rw [List.getElem?_cons_zero]); rfl; go_frame))
  refine first_done ?_
  apply forced_step; (rw [List.getElem?_toArray]; (repeat rw [List.getElem?_cons_succ]); rw [List.getElem?_cons_zero]); rfl; intro K hK; go_simp
  refine (rightN_any sTAX (by decide) _).mono ?_
  rintro e w9 ⟨rfl, hb9⟩
  rw [name_TAX]
  have hB9 : Hid (Below w6.heap.size w6 w9) := hB8.out.trans (hb9.mono hB8.out.size)
  refine hK _ _ (fun h => absurd (by decide) h) ?_
  clear hK K hb9 hB8
  refine forced_done ?_
  refine multi_phase (fun _ => True) trivial ?_
  iterate 2 (first | (apply first_step; (rw [List.getElem?_toArray]; (repeat rw [List.getElem?_cons_succ]); rw [List.getElem?_cons_zero]); rfl; (intro W hB; go_simp; (first | done | rfl)); go_frame) | (apply first_skip; (rw [List.getElem?_toArray]; (repeat rw [List.getElem?_cons_succ]); rw [List.getElem?_cons_zero]); rfl; go_frame))
  refine first_done ?_
  apply forced_step; (rw [List.getElem?_toArray]; (repeat rw [List.getElem?_cons_succ]); rw [List.getElem?_cons_zero]); rfl; intro K hK; go_simp
  refine (rightN_any sA1 (by decide) _).mono ?_
  rintro e w10 ⟨rfl, hb10⟩
  rw [name_A1]
  have hB10 : Hid (Below w.heap.size w w10) := hB6.out.trans ((hB9.out.trans (hb10.mono hB9.out.size)).mono hB6.out.size)
  refine hK _ _ (fun h => absurd (by decide) h) ?_
  clear hK K hb10 hB9
  refine forced_done ?_
  refine multi_phase (fun _ => True) trivial ?_
  iterate 3 (first | (apply first_step; (rw [List.getElem?_toArray]; (repeat rw [List.getElem?_cons_succ]); rw [List.getElem?_cons_zero]); rfl; (intro W hB; go_simp; (first | done | rfl)); go_frame) | (apply first_skip; (rw [List.getElem?_toArray]; (repeat rw [List.getElem?_cons_succ]); rw [List.getElem?_cons_zero]); rfl; go_frame))
  refine first_done ?_
  refine forced_done ?_
  refine multi_done ?_
  go_wp2_with fail
  go_ret
  exact ⟨rfl, hB10.out⟩
end Go.Proofs.YtlcglkanlhmmdaaGreat
