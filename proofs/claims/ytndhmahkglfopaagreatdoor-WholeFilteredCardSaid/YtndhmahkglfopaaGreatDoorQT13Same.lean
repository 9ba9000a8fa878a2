/- Same of like arrays; the document's example. -/
import Derived.Test.YtndhmahkglfopaaGreatDoorQT13Right
namespace Go.Proofs.YtndhmahkglfopaaGreatDoor
open Go.RowKit
theorem neq_v (w : World) (a : V) : (binOp .neq 34 (vagg a) (vagg a)).run Tryz.prog w = .ok (.bool false) w := by
  obtain ⟨a1, a2, a3, a4, a5, a6⟩ := a
  unfold vagg
  simp [go_sem]
set_option maxHeartbeats 1000000 in
set_option maxRecDepth 100000 in
theorem same_yes (A : Arr) (x y : Value) (w : World) (hx : IsArr 0 w x A) (hy : IsArr 0 w y A) (hl : A.l.length ≤ 1000000) :
    Calls Tryz.prog 13 #[x, y] w fun e w' => e = .returned (.bool true) ∧ Below w.heap.size w w' := by
  obtain ⟨a, cap, rfl, ha⟩ := hx
  obtain ⟨b, bcap, rfl, hb⟩ := hy
  have HA := Lib.hid ha
  have HB := Lib.hid hb
  have r1 : (A.r != A.r) = false := by simp
  have r2 : (A.c != A.c) = false := by simp
  clear ha hb
  go_enter Tryz.func13, Tryz.ntmps13
  go_wp2_with fail
  refine abs_world ?_
  intro W0 hW0
  have hB0 : Below w.heap.size w W0 := by rw [hW0]; (repeat with_reducible (first | exact bw0 _ _ | exact hBW | refine bw1 ?_ ?_ _ | refine bw2 ?_ ?_ _ | refine bw3 ?_ _ | refine bw4 ?_)); all_goals (first | omega | (dsimp only; omega) | ((repeat with_reducible (first | refine lz1 ?_ | refine lz2 ?_ | refine lz3 ?_ | refine lz4 ?_)); omega))
  have g0 : W0.heap[w.heap.size]? = some (.cells #[.int .i64 A.r, .int .i64 A.c, .slice a A.l.length cap] 28) := by rw [hW0]; (repeat (first | (with_reducible refine bw5 ?_ _; (first | rfl | (simp; done) | omega | (simp; omega)); done) | with_reducible refine bw6 ?_ _ | with_reducible refine bw7 ?_ | with_reducible refine bw8 ?_))
  have g1 : W0.heap[w.heap.size + 1]? = some (.cells #[.int .i64 A.r, .int .i64 A.c, .slice b A.l.length bcap] 28) := by rw [hW0]; (repeat (first | (with_reducible refine bw5 ?_ _; (first | rfl | (simp; done) | omega | (simp; omega)); done) | with_reducible refine bw6 ?_ _ | with_reducible refine bw7 ?_ | with_reducible refine bw8 ?_))
  have G0 := Lib.hid g0
  have G1 := Lib.hid g1
  have HB0 := Lib.hid hB0
  clear hW0 g0 g1 hB0
  go_loopw [5] (fun i wr => ∃ k : Nat, i = .int .i64 k ∧ k ≤ A.l.length ∧ Hid (Below W0.heap.size W0 wr)) (fun i _ => A.l.length - (intOf i).toNat)
  case atStart => exact ⟨0, rfl, Nat.zero_le _, Below.refl _ _⟩
  case round =>
    obtain ⟨k, rfl, hk, hB⟩ := hrel
    have e0 := (hB.out.block w.heap.size (lt_of_heap G0.out)).trans G0.out
    have e1 := (hB.out.block (w.heap.size + 1) (lt_of_heap G1.out)).trans G1.out
    have x2 := cell_of_heap e0 2
    have y2 := cell_of_heap e1 2
    have z0 := lt_of_heap e0
    have z1 := lt_of_heap e1
    have HBw : Hid (Below w.heap.size w wr) := HB0.out.trans (hB.out.mono HB0.out.size)
    clear e0 e1
    by_cases hlt : k < A.l.length
    · obtain ⟨v, hv⟩ : ∃ v, A.l[k]? = some v := ⟨_, List.getElem?_eq_getElem hlt⟩
      obtain ⟨p, off, rfl, hp, c0, c1, c2, c3, c4, c5⟩ := (HA.out.below HBw.out).cells hv
      obtain ⟨q, off', rfl, hq, d0, d1, d2, d3, d4, d5⟩ := (HB.out.below HBw.out).cells hv
      have nv := fun W => neq_v W v
      simp only [vagg_eq] at nv
      have j1 : (0 : Int) ≤ (k : Int) := by omega
      have j2 : (k : Int) < (A.l.length : Int) := by omega
      clear hv
      go_wp2_with fail
      refine wp_region_mix [0, 1, 2, 3, 4, 5, 6, 7, 8, 9, 10] [] [] (Below wr.heap.size wr) (by kernel_rfl) (by kernel_rfl) (Below.refl _ _).drew ?_
      iterate 11 (first | (apply first_step; (rw [List.getElem?_toArray]; (repeat rw [List.getElem?_cons_succ]); rw [List.getElem?_cons_zero]); rfl; (intro W hB; have hc := bcellB hB; go_simp; (first | done | rfl)); go_frame) | (apply first_skip; (rw [List.getElem?_toArray]; (repeat rw [List.getElem?_cons_succ]); rw [List.getElem?_cons_zero]); rfl; go_frame))
      refine first_done ?_
      refine tail_done ?_
      clear c0 c1 c2 c3 c4 c5 d0 d1 d2 d3 d4 d5 nv x2 y2
      go_wp2_with fail
      go_roundw
      case rel => exact ⟨k + 1, by go_num, by omega, hB.out.drew⟩
      case measure => simp [intOf]; omega
    · go_wp2_with fail
      go_ret
      exact ⟨rfl, HBw.out⟩
end Go.Proofs.YtndhmahkglfopaaGreatDoor
