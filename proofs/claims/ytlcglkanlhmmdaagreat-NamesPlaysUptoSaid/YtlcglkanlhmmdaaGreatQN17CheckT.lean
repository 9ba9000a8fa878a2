/- tree.Check. -/
import Derived.Test.YtlcglkanlhmmdaaGreatQN17Walk
import Derived.Test.YtlcglkanlhmmdaaGreatQN17RightT
namespace Go.Proofs.YtlcglkanlhmmdaaGreat
open Go.RowKit Go.Shelf
attribute [local go_sem] Oper.semAt_some
theorem foldl_max_dl (t : T) : ∀ d m : Nat, (t.dl d).foldl max m = max m (t.depth + d - 1) := by
  induction t using T.ind with
  | h o l ih =>
    intro d m
    rw [T.dl_mk, T.depth_mk, List.foldl_cons]
    have : ∀ (l : List T), (∀ t ∈ l, ∀ d m : Nat, (t.dl d).foldl max m = max m (t.depth + d - 1)) → ∀ (m k : Nat), (l.flatMap fun t => t.dl (d + 1)).foldl max (max m (d + k)) = max m (d + (l.map T.depth).foldl max k) := by
      intro l
      induction l with
      | nil => intro _ m k; rfl
      | cons t r ih2 =>
        intro ih m k
        rw [List.flatMap_cons, List.foldl_append, ih t (by simp), List.map_cons, List.foldl_cons]
        have e : max (max m (d + k)) (t.depth + (d + 1) - 1) = max m (d + max k t.depth) := by omega
        rw [e, ih2 (fun t ht => ih t (List.mem_cons_of_mem _ ht))]
    have h := this l ih m 0
    rw [Nat.add_zero] at h
    rw [h]
    congr 1
    omega
def mx (pre : List Wx) : Nat := (pre.map Prod.snd).foldl max 0
theorem mx_snoc (pre : List Wx) (x : Wx) : mx (pre ++ [x]) = max (mx pre) x.2 := by simp [mx]
set_option maxHeartbeats 4000000 in
set_option maxRecDepth 100000 in
theorem checkT_any (t : T) (hz : t.size ≤ 2097152) (hf : t.fit) (x : Value) (w : World) (hx : IsT w x t) : Calls Tryz.prog 21 #[x] w fun e w' => e = .returned (.int .i64 (checkP t)) ∧ Below w.heap.size w w' := by
  obtain ⟨a, cap, rfl, hA⟩ := hx
  have HA := Lib.hid hA
  have HF := Lib.hid hf
  clear hA hf
  rw [nagg_eq]
  refine (callsIn_wide (n := 8)).1 ?_
  refine callsIn_of_wp_marks Tryz.func21 rfl trivial ?_ rfl
  simp only [Tryz.ntmps21, List.size_toArray, List.length_cons, List.length_nil, Nat.reduceAdd, Nat.reduceSub, Array.replicate_succ, Array.replicate_zero, List.push_toArray, List.append_toArray, List.nil_append, List.cons_append]
  refine wpIn_wide.2 ?_
  go_wp2_with fail
  refine (walk_any _ _).mono ?_
  rintro e w1 ⟨rfl, rfl⟩
  go_wp2_with fail
  refine (wpIn_wide (n := 8)).1 ?_
  refine abs_worldIn ?_
  intro W0 hW0
  have hz0 : W0.heap.size = w.heap.size + 5 := by rw [hW0]; simp
  have hB0 : Below w.heap.size w W0 := by rw [hW0]; (repeat (first | with_reducible exact Below.refl _ _ | with_reducible exact hBW | with_reducible refine Below.setCell ?_ ?_ _ | with_reducible refine Below.alloc ?_ ?_ _ | with_reducible refine belowN ?_ _ | with_reducible refine Below.drew ?_)); all_goals (first | omega | (dsimp only; omega) | ((repeat (first | with_reducible refine le_alloc ?_ | with_reducible refine le_setCell ?_ | with_reducible refine le_drew ?_ | with_reducible refine le_drewN ?_)); omega))
  have g0 : W0.heap[w.heap.size]? = some (.cells (ncells t.o (.slice a t.l.length cap)).toArray 42) := by rw [hW0]; exact heap_alloc_old (heap_alloc_old (heap_alloc_old (heap_alloc_old (heap_alloc_new w _) _) _) _) _
  have g1 : W0.heap[w.heap.size + 1]? = some (.cells #[.int .i64 0] 48) := by rw [hW0]; (repeat (first | (with_reducible refine heap_alloc_at ?_ _; (first | rfl | (simp; done) | omega | (simp; omega)); done) | with_reducible refine heap_alloc_old ?_ _ | with_reducible refine heap_drew_old ?_ | with_reducible refine heap_drewN_old ?_))
  have g2 : W0.heap[w.heap.size + 1 + 1]? = some (.cells #[.int .i64 0] 3) := by rw [hW0]; (repeat (first | (with_reducible refine heap_alloc_at ?_ _; (first | rfl | (simp; done) | omega | (simp; omega)); done) | with_reducible refine heap_alloc_old ?_ _ | with_reducible refine heap_drew_old ?_ | with_reducible refine heap_drewN_old ?_))
  have g3 : W0.heap[w.heap.size + 1 + 1 + 1]? = some (.cells #[.int .i64 0] 3) := by rw [hW0]; (repeat (first | (with_reducible refine heap_alloc_at ?_ _; (first | rfl | (simp; done) | omega | (simp; omega)); done) | with_reducible refine heap_alloc_old ?_ _ | with_reducible refine heap_drew_old ?_ | with_reducible refine heap_drewN_old ?_))
  have g4 : W0.heap[w.heap.size + 1 + 1 + 1 + 1]? = some (.cells #[.pointer (some ⟨w.heap.size, 0, none⟩)] 75) := by rw [hW0]; (repeat (first | (with_reducible refine heap_alloc_at ?_ _; (first | rfl | (simp; done) | omega | (simp; omega)); done) | with_reducible refine heap_alloc_old ?_ _ | with_reducible refine heap_drew_old ?_ | with_reducible refine heap_drewN_old ?_))
  have hKW : Keep (w.alloc (.cells (ncells t.o (.slice a t.l.length cap)).toArray 42)) W0 := by
    rw [hW0]
    exact ((((Keep.refl _).below (below_alloc _ _ _ (Nat.le_refl _))).below (below_alloc _ _ _ (Nat.le_refl _))).below (below_alloc _ _ _ (Nat.le_refl _))).below (below_alloc _ _ _ (Nat.le_refl _))
  have hIt : (⟨w.heap.size, 0, t, 1⟩ : Item).ok (w.alloc (.cells (ncells t.o (.slice a t.l.length cap)).toArray 42)) :=
    ⟨a, cap, by simp, nd_blk (heap_alloc_new w _), HA.out.below (below_alloc w _ _ (Nat.le_refl _)) t⟩
  have G0 := Lib.hid g0
  have G1 := Lib.hid g1
  have HZ0 := Lib.hid hz0
  have HB0 := Lib.hid hB0
  clear hW0
  refine range_low (Z := fun k => k = w.heap.size + 1 + 1 ∨ k = w.heap.size + 1 + 1 + 1) (A := ?A) rfl (by omega) (gf := 50) (lb := #[.pointer (some ⟨w.heap.size + 1 + 1 + 1 + 1, 0, none⟩)]) rfl trivial (enters_of Tryz.func50 (by kernel_rfl) rfl)
    (walk_stops (w.heap.size + 1 + 1 + 1 + 1) w.heap.size 0 t hz _ W0 _ (fun k hk => by rcases hk with rfl | rfl <;> simp <;> omega) g4 hIt hKW) (fun _ => rfl)
    (fun pre W => Below (w.heap.size + 2) W0 W ∧ W.heap[w.heap.size + 1 + 1]? = some (.cells #[.int .i64 (pre.length : Int)] 3) ∧ W.heap[w.heap.size + 1 + 1 + 1]? = some (.cells #[.int .i64 (mx pre : Int)] 3) ∧ pre.length ≤ 256)
    (fun c pre W => c = .ret ∧ 256 < t.size ∧ Below (w.heap.size + 1) W0 W ∧ W.heap[w.heap.size + 1]? = some (.cells #[.int .i64 5] 48)) ?lowI ?lowX ⟨Below.refl _ _, g2, g3, Nat.zero_le _⟩ ?assign ?body ?done ?stop
  case lowI =>
    rintro pre A B ⟨q1, q2, q3, q4⟩ hb
    exact ⟨q1.trans (hb.mono (by omega)), (hb.block _ (by omega)).trans q2, (hb.block _ (by omega)).trans q3, q4⟩
  case lowX =>
    rintro c pre A B ⟨q1, q2, q3, q4⟩ hb
    exact ⟨q1, q2, q3.trans (hb.mono (by omega)), (hb.block _ (by omega)).trans q4⟩
  case assign =>
    intro l x W K hK
    unfold encW
    gi_wp2
    exact hK
  case body =>
    rintro l pre x W hl ⟨r, hr⟩ ⟨q1, q2, q3, q4⟩ hlt
    have x2 := cell_of_heap q2 0
    have x3 := cell_of_heap q3 0
    have y2 := frozen_of_heap q2 0
    have y3 := frozen_of_heap q3 0
    have z2 := lt_of_heap q2
    have z3 := lt_of_heap q3
    have g1 := (q1.block _ (by omega)).trans G1.out
    have x1 := cell_of_heap g1 0
    have y1 := frozen_of_heap g1 0
    have z1 := lt_of_heap g1
    have hS2 := heap_setCell_at q2 0 (.int .i64 ((pre.length : Int) + 1))
    have hlo : Below (w.heap.size + 2) W (W.setCell ⟨w.heap.size + 1 + 1, 0, none⟩ (.int .i64 ((pre.length : Int) + 1))) := (Below.refl _ W).setCell (p := ⟨w.heap.size + 1 + 1, 0, none⟩) (by show w.heap.size + 2 ≤ w.heap.size + 1 + 1; omega) _
    have Q1 := Lib.hid q1
    have Q2 := Lib.hid q2
    have Q3 := Lib.hid q3
    have G1' := Lib.hid g1
    have HS2 := Lib.hid hS2
    have HLO := Lib.hid hlo
    clear q1 q2 q3 g1 hS2 hlo hr
    by_cases hc : pre.length = 256
    · have dc : decide ((256 : Int) < (pre.length : Int) + 1) = true := by simp; omega
      have HT : Hid (256 < t.size) := by unfold Hid; omega
      clear hc hlt
      gi_wp2
      refine ⟨?_, rfl, HT.out, ?_, ?_⟩
      · exact (((KeepsOthers.setCell _ _ _)).trans (KeepsOthers.setCell _ _ _)).from _
      · exact (Q1.out.mono (by omega)).trans ((HLO.out.mono (Nat.le_succ (w.heap.size + 1))).setCell (p := ⟨w.heap.size + 1, 0, none⟩) (B := w.heap.size + 1) (Nat.le_refl (w.heap.size + 1)) _)
      · exact heap_setCell_at ((Below.heap_setCell _ _ _ _ (by show w.heap.size + 1 ≠ w.heap.size + 1 + 1; omega)).trans G1'.out) 0 _
    · have dc : decide ((256 : Int) < (pre.length : Int) + 1) = false := by simp; omega
      have HLE : Hid ((pre ++ [x]).length ≤ 256) := by unfold Hid; rw [List.length_append]; show pre.length + 1 ≤ 256; omega
      have HPL : Hid (((pre ++ [x]).length : Int) = (pre.length : Int) + 1) := by unfold Hid; rw [List.length_append]; rfl
      have HMX := Lib.hid (mx_snoc pre x)
      clear hc hlt
      have hne : (⟨w.heap.size + 1 + 1 + 1, 0, none⟩ : Addr).block ≠ w.heap.size + 1 + 1 := by show w.heap.size + 1 + 1 + 1 ≠ _; omega
      have HNE := Lib.hid hne
      clear hne
      by_cases hm : mx pre < x.2
      · have dm : decide ((mx pre : Int) < (x.2 : Int)) = true := by simp; omega
        have HM : Hid (mx (pre ++ [x]) = x.2) := by unfold Hid; rw [HMX.out]; omega
        gi_wp2
        refine ⟨((KeepsOthers.setCell _ _ _).trans (KeepsOthers.setCell _ _ _)).from _, ?_, Q1.out.trans (HLO.out.setCell (p := ⟨w.heap.size + 1 + 1 + 1, 0, none⟩) (Nat.le_succ (w.heap.size + 1 + 1)) _), ?_, ?_, HLE.out⟩
        · exact (KZ.of_fr ((Fr.setCell W ⟨w.heap.size + 1 + 1, 0, none⟩ _).mono (fun k _ h => .inl h))).trans (KZ.of_fr ((Fr.setCell _ ⟨w.heap.size + 1 + 1 + 1, 0, none⟩ _).mono (fun k _ h => .inr h)))
        · rw [HPL.out, Below.heap_setCell _ _ _ _ (Ne.symm HNE.out)]
          exact HS2.out
        · rw [HM.out]
          exact heap_setCell_at ((Below.heap_setCell W ⟨w.heap.size + 1 + 1, 0, none⟩ _ _ HNE.out).trans Q3.out) 0 _
      · have dm : decide ((mx pre : Int) < (x.2 : Int)) = false := by simp; omega
        have HM : Hid (mx (pre ++ [x]) = mx pre) := by unfold Hid; rw [HMX.out]; omega
        gi_wp2
        refine ⟨((KeepsOthers.setCell _ _ _).trans (KeepsOthers.setCell _ _ _)).from _, ?_, Q1.out.trans (HLO.out.setCell (p := ⟨w.heap.size + 1 + 1 + 1, 0, none⟩) (Nat.le_succ (w.heap.size + 1 + 1)) _), ?_, ?_, HLE.out⟩
        · exact (KZ.of_fr ((Fr.setCell W ⟨w.heap.size + 1 + 1, 0, none⟩ _).mono (fun k _ h => .inl h))).trans (KZ.of_fr ((Fr.setCell _ ⟨w.heap.size + 1 + 1 + 1, 0, none⟩ _).mono (fun k _ h => .inr h)))
        · rw [HPL.out, Below.heap_setCell _ _ _ _ (Ne.symm HNE.out)]
          exact HS2.out
        · rw [HM.out]
          exact heap_setCell_at ((Below.heap_setCell W ⟨w.heap.size + 1 + 1, 0, none⟩ _ _ HNE.out).trans Q3.out) 0 _
  case stop =>
    rintro D c pre W hD _ ⟨rfl, q2, q3, q4⟩ hDD
    have hx : Hid (checkP t = 5) := by unfold Hid checkP; rw [if_pos q2]
    have g1 := (keep_put (D := D) (o' := .deferred none) hDD (lt_of_heap q4) (by omega)).trans q4
    have h3 := cell_of_heap g1
    gi_wp2
    refine end_ret hDD (.int .i64 5) ?_ ⟨by rw [hx.out], below_put (hB0.trans (q3.mono (Nat.le_succ _))) (Nat.le_refl _) _ (by omega)⟩
    simp [results, Tryz.results21, go_sem, h3]
  case done =>
    rintro D xs W hD hS ⟨q1, q2, q3, q4⟩ hDD
    have hlen : xs.length = t.size := by have := congrArg List.length hS; rw [List.length_map, T.dl_length] at this; exact this
    have hmx : mx xs = t.depth := by
      unfold mx
      rw [hS, foldl_max_dl]
      omega
    rw [hmx] at q3
    have hBw : Below w.heap.size w W := hB0.trans (q1.mono (by omega))
    have gn := (q1.block _ (by omega)).trans G0.out
    have g1 := (q1.block _ (by omega)).trans G1.out
    have HIT : Hid (t.At W a) := HA.out.below hBw t
    have x3 := cell_of_heap q3 0
    have x1 := cell_of_heap g1 0
    have y1 := frozen_of_heap g1 0
    have z1 := lt_of_heap g1
    have z3 := lt_of_heap q3
    have hC1 : Hid (¬ 256 < t.size) := by unfold Hid; omega
    have HD := Lib.hid hDD
    have HBW := Lib.hid hBw
    have G1' := Lib.hid g1
    have ND := Lib.hid (nd_blk gn)
    have hzn := lt_of_heap gn
    have HDl : Hid (w.heap.size + 5 ≤ D) := by unfold Hid; omega
    clear q1 q2 q3 q4 hS hlen hmx hBw gn g1 hDD hD
    clear g0 g1 g2 g3 g4 hB0 hKW hIt
    by_cases c2 : 32 < t.depth
    · have d2 : decide ((32 : Int) < (t.depth : Int)) = true := by simp; omega
      have Y : Hid (checkP t = 8) := by unfold Hid checkP; rw [if_neg hC1.out, if_pos c2]
      clear c2
      go_wp2_with fail
      refine end_ret ((KeepsOthers.setCell _ _ _).same D _ HD.out rfl) (.int .i64 8) ?_ ⟨by rw [Y.out], below_put (HBW.out.setCell (p := ⟨w.heap.size + 1, 0, none⟩) (Nat.le_succ _) _) (Nat.le_refl _) _ (by have := HDl.out; omega)⟩
      have hh := heap_setCell_at G1'.out 0 (.int .i64 8)
      have h2 := (keep_put (D := D) (o' := .deferred none) ((KeepsOthers.setCell _ _ _).same D _ HD.out rfl) (lt_of_heap hh) (by have := HDl.out; omega)).trans hh
      have h3 := cell_of_heap h2
      simp [results, Tryz.results21, go_sem, h3]
    · have d2 : decide ((32 : Int) < (t.depth : Int)) = false := by simp; omega
      have hC2 := Lib.hid c2
      have HCK : Hid (checkP t = if rightT t 6 = true then 0 else 6) := by
        unfold Hid checkP
        rw [if_neg hC1.out, if_neg hC2.out, right_top]
        cases (belowP t.o || !rightR t false) <;> rfl
      clear c2
      go_wp2_with fail
      refine (rightT_any t hz HF.out 6 w.heap.size 0 a cap W hzn ND.out HIT.out).mono ?_
      rintro e W5 ⟨rfl, hb5⟩
      have HB5 : Hid (Below w.heap.size w W5) := HBW.out.trans (hb5.mono HBW.out.size)
      have HD5 : Hid (W5.heap[D]? = some (.deferred (some []))) := (hb5.block _ (lt_of_heap HD.out)).trans HD.out
      have G5 : Hid (W5.heap[w.heap.size + 1]? = some (.cells #[.int .i64 0] 48)) := (hb5.block _ (lt_of_heap G1'.out)).trans G1'.out
      have x1 := cell_of_heap G5.out 0
      have y1 := frozen_of_heap G5.out 0
      have z5 := lt_of_heap G5.out
      clear hb5 z1 z3 hzn
      cases hR : rightT t 6 with
      | true =>
        have Y : Hid (checkP t = 0) := by unfold Hid; rw [HCK.out, hR, if_pos rfl]
        go_wp2_with fail
        refine end_ret ((KeepsOthers.setCell _ _ _).same D _ HD5.out rfl) (.int .i64 0) ?_ ⟨by rw [Y.out], below_put (HB5.out.setCell (p := ⟨w.heap.size + 1, 0, none⟩) (Nat.le_succ _) _) (Nat.le_refl _) _ (by have := HDl.out; omega)⟩
        have hh := heap_setCell_at G5.out 0 (.int .i64 0)
        have h2 := (keep_put (D := D) (o' := .deferred none) ((KeepsOthers.setCell _ _ _).same D _ HD5.out rfl) (lt_of_heap hh) (by have := HDl.out; omega)).trans hh
        have h3 := cell_of_heap h2
        simp [results, Tryz.results21, go_sem, h3]
      | false =>
        have Y : Hid (checkP t = 6) := by unfold Hid; rw [HCK.out, hR]; rfl
        go_wp2_with fail
        refine end_ret ((KeepsOthers.setCell _ _ _).same D _ HD5.out rfl) (.int .i64 6) ?_ ⟨by rw [Y.out], below_put (HB5.out.setCell (p := ⟨w.heap.size + 1, 0, none⟩) (Nat.le_succ _) _) (Nat.le_refl _) _ (by have := HDl.out; omega)⟩
        have hh := heap_setCell_at G5.out 0 (.int .i64 6)
        have h2 := (keep_put (D := D) (o' := .deferred none) ((KeepsOthers.setCell _ _ _).same D _ HD5.out rfl) (lt_of_heap hh) (by have := HDl.out; omega)).trans hh
        have h3 := cell_of_heap h2
        simp [results, Tryz.results21, go_sem, h3]
end Go.Proofs.YtlcglkanlhmmdaaGreat
