/- ref06.Check. -/
import Derived.Test.YtlcglkanlhmmdaaGreatQN17Own
namespace Go.Proofs.YtlcglkanlhmmdaaGreat
open Go.RowKit
set_option maxHeartbeats 4000000 in
set_option maxRecDepth 100000 in
theorem checkR_any (t : T) (hz : t.size ≤ 2097152) (hf : t.fit) (x : Value) (w : World) (hx : IsT w x t) : Calls Tryz.prog 26 #[x] w fun e w' => e = .returned (.int .i64 (checkP t)) ∧ Below w.heap.size w w' := by
  obtain ⟨a, cap, rfl, hA⟩ := hx
  have HA := Lib.hid hA
  have HZ := Lib.hid hz
  have HF := Lib.hid hf
  have hz' : (t.size : Int) ≤ 2097152 := by omega
  have HDL := Lib.hid (T.depth_le t)
  clear hA hz hf
  generalize hl : t.l.length = n
  have HL := Lib.hid hl
  clear hl
  have HT : Hid (∀ W, Below w.heap.size w W → IsT W (nagg t.o (.slice a n cap)) t) := fun W hW => ⟨a, cap, by rw [HL.out], HA.out.below hW t⟩
  rw [nagg_eq] at HT ⊢
  go_enter Tryz.func26, Tryz.ntmps26
  go_upto_region 1 with fail
  refine abs_world ?_
  intro W0 hW0
  have hB0 : Hid (Below w.heap.size w W0) := by rw [hW0]; unfold Hid; (repeat (first | with_reducible exact Below.refl _ _ | with_reducible exact hBW | with_reducible refine Below.setCell ?_ ?_ _ | with_reducible refine Below.alloc ?_ ?_ _ | with_reducible refine belowN ?_ _ | with_reducible refine Below.drew ?_)); all_goals (first | omega | (dsimp only; omega) | ((repeat (first | with_reducible refine le_alloc ?_ | with_reducible refine le_setCell ?_ | with_reducible refine le_drew ?_ | with_reducible refine le_drewN ?_)); omega))
  have g0 : W0.heap[w.heap.size]? = some (.cells (ncells t.o (.slice a n cap)).toArray 42) := by rw [hW0]; exact heap_alloc_new w _
  have z0 := lt_of_heap g0
  have G0 := Lib.hid g0
  have R0 := Lib.hid (range_blk g0)
  clear hW0 g0
  go_wp2_with (refine wpList_load_g rfl 42 (.tmp 1) rfl w.heap.size 0 rfl [.int .i64 t.o.k, .int .i64 t.o.v.k, .int .i64 t.o.v.m, .int .i64 t.o.v.e, .string t.o.v.t, .bool t.o.v.b, .int .i64 t.o.v.f, .string t.o.nm, .int .i64 t.o.a.ra, .int .i64 t.o.a.rn, .int .i64 t.o.a.ca, .int .i64 t.o.a.cn, .bool t.o.a.fr, .bool t.o.a.fc, .int .i64 t.o.b.ra, .int .i64 t.o.b.rn, .int .i64 t.o.b.ca, .int .i64 t.o.b.cn, .bool t.o.b.fr, .bool t.o.b.fc, .int .i64 t.o.rows, .slice a n cap] _ R0.out Tryz.underlying42 rfl info35 ?_)
  refine (nodes_any t HZ.out _ _ (HT.out _ hB0.out)).mono ?_
  rintro e w1 ⟨⟨v, xs, rfl, hown, _⟩, hb1⟩
  have HB1 : Hid (Below w.heap.size w w1) := hB0.out.trans (hb1.mono hB0.out.size)
  have R1 := Lib.hid (range_blk ((hb1.block _ z0).trans G0.out))
  have z1 : w.heap.size < w1.heap.size := Nat.lt_of_lt_of_le z0 hb1.size
  have G1 := Lib.hid ((hb1.block _ z0).trans G0.out)
  obtain ⟨g, cap2, rfl⟩ := Joins.ownsRow_form hown (by cases t; rw [T.size_mk]; omega)
  clear hown hb1 R0 G0 z0
  by_cases c1 : 256 < t.size
  · have d1 : decide ((256 : Int) < (t.size : Int)) = true := by simp; omega
    have Y : Hid (checkP t = 5) := by unfold Hid checkP; simp only [c1]; simp
    go_wp2_with fail
    go_ret
    exact ⟨by rw [Y.out]; exact rfl, HB1.out⟩
  have d1 : decide ((256 : Int) < (t.size : Int)) = false := by simp; omega
  have hc1 : (t.size : Int) ≤ 256 := by omega
  have C1 := Lib.hid c1
  clear c1
  go_wp2_with (refine wpList_load_g rfl 42 (.tmp 1) rfl w.heap.size 0 rfl [.int .i64 t.o.k, .int .i64 t.o.v.k, .int .i64 t.o.v.m, .int .i64 t.o.v.e, .string t.o.v.t, .bool t.o.v.b, .int .i64 t.o.v.f, .string t.o.nm, .int .i64 t.o.a.ra, .int .i64 t.o.a.rn, .int .i64 t.o.a.ca, .int .i64 t.o.a.cn, .bool t.o.a.fr, .bool t.o.a.fc, .int .i64 t.o.b.ra, .int .i64 t.o.b.rn, .int .i64 t.o.b.ca, .int .i64 t.o.b.cn, .bool t.o.b.fr, .bool t.o.b.fc, .int .i64 t.o.rows, .slice a n cap] _ R1.out Tryz.underlying42 rfl info35 ?_)
  refine (depth_any t HZ.out _ _ (HT.out _ HB1.out)).mono ?_
  rintro e w2 ⟨rfl, hb2⟩
  have HB2 : Hid (Below w.heap.size w w2) := HB1.out.trans (hb2.mono HB1.out.size)
  have R2 := Lib.hid (range_blk ((hb2.block _ z1).trans G1.out))
  have G2 := Lib.hid ((hb2.block _ z1).trans G1.out)
  have z2 : w.heap.size < w2.heap.size := Nat.lt_of_lt_of_le z1 hb2.size
  clear hb2 R1 G1 z1 d1
  have hdl := HDL.out
  by_cases c2 : 32 < t.depth
  · have d2 : decide ((32 : Int) < (t.depth : Int)) = true := by simp; omega
    have Y : Hid (checkP t = 8) := by unfold Hid checkP; simp only [C1.out, c2]; simp
    go_wp2_with fail
    go_ret
    exact ⟨by rw [Y.out]; exact rfl, HB2.out⟩
  have d2 : decide ((32 : Int) < (t.depth : Int)) = false := by simp; omega
  have C2 := Lib.hid c2
  clear c2
  go_wp2_with (refine wpList_load_g rfl 42 (.tmp 1) rfl w.heap.size 0 rfl [.int .i64 t.o.k, .int .i64 t.o.v.k, .int .i64 t.o.v.m, .int .i64 t.o.v.e, .string t.o.v.t, .bool t.o.v.b, .int .i64 t.o.v.f, .string t.o.nm, .int .i64 t.o.a.ra, .int .i64 t.o.a.rn, .int .i64 t.o.a.ca, .int .i64 t.o.a.cn, .bool t.o.a.fr, .bool t.o.a.fc, .int .i64 t.o.b.ra, .int .i64 t.o.b.rn, .int .i64 t.o.b.ca, .int .i64 t.o.b.cn, .bool t.o.b.fr, .bool t.o.b.fc, .int .i64 t.o.rows, .slice a n cap] _ R2.out Tryz.underlying42 rfl info35 ?_)
  refine (below_any t.o (.slice a n cap) _).mono ?_
  rintro e w3 ⟨rfl, hb3⟩
  have HB3 : Hid (Below w.heap.size w w3) := HB2.out.trans (hb3.mono HB2.out.size)
  have R3 := Lib.hid (range_blk ((hb3.block _ z2).trans G2.out))
  clear hb3 R2 G2 d2
  cases hB : belowP t.o with
  | true =>
    have Y : Hid (checkP t = 6) := by unfold Hid checkP; simp only [C1.out, C2.out, hB]; simp
    go_wp2_with fail
    go_ret
    exact ⟨by rw [Y.out]; exact rfl, HB3.out⟩
  | false =>
    go_wp2_with (refine wpList_load_g rfl 42 (.tmp 1) rfl w.heap.size 0 rfl [.int .i64 t.o.k, .int .i64 t.o.v.k, .int .i64 t.o.v.m, .int .i64 t.o.v.e, .string t.o.v.t, .bool t.o.v.b, .int .i64 t.o.v.f, .string t.o.nm, .int .i64 t.o.a.ra, .int .i64 t.o.a.rn, .int .i64 t.o.a.ca, .int .i64 t.o.a.cn, .bool t.o.a.fr, .bool t.o.a.fc, .int .i64 t.o.b.ra, .int .i64 t.o.b.rn, .int .i64 t.o.b.ca, .int .i64 t.o.b.cn, .bool t.o.b.fr, .bool t.o.b.fc, .int .i64 t.o.rows, .slice a n cap] _ R3.out Tryz.underlying42 rfl info35 ?_)
    refine (rightR_any t HZ.out HF.out false _ _ (HT.out _ HB3.out)).mono ?_
    rintro e w4 ⟨rfl, hb4⟩
    have HB4 : Hid (Below w.heap.size w w4) := HB3.out.trans (hb4.mono HB3.out.size)
    clear hb4 R3
    cases hR : rightR t false with
    | true =>
      have Y : Hid (checkP t = 0) := by unfold Hid checkP; simp only [C1.out, C2.out, hB, hR]; simp
      go_wp2_with fail
      go_ret
      exact ⟨by rw [Y.out]; exact rfl, HB4.out⟩
    | false =>
      have Y : Hid (checkP t = 6) := by unfold Hid checkP; simp only [C1.out, C2.out, hB, hR]; simp
      go_wp2_with fail
      go_ret
      exact ⟨by rw [Y.out]; exact rfl, HB4.out⟩
end Go.Proofs.YtlcglkanlhmmdaaGreat
