/- A region that draws its order, where behind the quiet operations two may come first. -/
import Derived.Test.YtlcglkanlhmmdaaGreatQBase
import Derived.Test.YtlcglkanlhmmdaaGreatQN17Leaf
import Derived.Test.YtlcglkanlhmmdaaGreatQN17Alike
namespace Go.Proofs.YtlcglkanlhmmdaaGreat
open Go.RowKit
section
variable {P : Program} {ops : Array Oper} {Q : Exit → Act → World → Prop}
theorem wpAnyG_two {S : World → Prop} {ls : List Nat} {K : Act → World → Prop} (t u : Nat) (ts us : List Nat) (fuel : Nat) (listed : Array Bool) (a : Act) (w : World) (hf : ts.length + 1 ≤ fuel) (hf' : us.length + 1 ≤ fuel)
    (hc : Closed ops listed) (hr : Region.ready .any ops listed = [t, u]) (hT : forcedB ops ts (listed.setIfInBounds t true) = true) (hU : forcedB ops us (listed.setIfInBounds u true) = true)
    (hKT : ∀ fuel' a' w', K a' w' → wpAnyG P ops Q S ls fuel' (listAll ts (listed.setIfInBounds t true)) a' w')
    (hKU : ∀ fuel' a' w', K a' w' → wpAnyG P ops Q S ls fuel' (listAll us (listed.setIfInBounds u true)) a' w')
    (h1 : wpForced P ops Q S ls K (t :: ts) a w) (h2 : wpForced P ops Q S ls K (u :: us) a w) : wpAnyG P ops Q S ls fuel listed a w := by
  cases fuel with
  | zero => omega
  | succ fuel =>
    have ht : t ∈ Region.ready .any ops listed := by rw [hr]; simp
    have hu : u ∈ Region.ready .any ops listed := by rw [hr]; simp
    refine ⟨fun h0 => (by rw [hr] at h0; cases h0), fun i hi => ?_⟩
    rw [hr] at hi
    rcases (by simpa using hi : i = t ∨ i = u) with rfl | rfl
    · exact wpOp_mono (fun a' w' h' => ⟨h'.1, wpAnyG_forced ts fuel _ a' w' (by omega) (hc.set ht) hT (fun f' a'' w'' _ _ hk => hKT f' a'' w'' hk) h'.2⟩) h1
    · exact wpOp_mono (fun a' w' h' => ⟨h'.1, wpAnyG_forced us fuel _ a' w' (by omega) (hc.set hu) hU (fun f' a'' w'' _ _ hk => hKU f' a'' w'' hk) h'.2⟩) h2
theorem wpAnyG_end {S : World → Prop} {ls : List Nat} (fuel : Nat) (listed : Array Bool) (a : Act) (w : World) (hr : (Region.ready .any ops listed).isEmpty = true) (h : Q .normal a w) : wpAnyG P ops Q S ls fuel listed a w := by
  have hr' : Region.ready .any ops listed = [] := by simpa using hr
  cases fuel with
  | zero => exact ⟨hr', h⟩
  | succ fuel => exact ⟨fun _ => h, fun i hi => by rw [hr'] at hi; cases hi⟩
def twoB (ops : Array Oper) (fs ls : List Nat) (t u : Nat) (ts us : List Nat) : Bool :=
  Region.noSelect ops && decide (fs.length + ts.length + 1 ≤ ops.size) && decide (fs.length + us.length + 1 ≤ ops.size) && firstR ops (masks ops) ls fs (Array.replicate ops.size false) &&
  (Region.ready .any ops (listAll fs (Array.replicate ops.size false)) == [t, u]) && forcedB ops ts ((listAll fs (Array.replicate ops.size false)).setIfInBounds t true) && forcedB ops us ((listAll fs (Array.replicate ops.size false)).setIfInBounds u true) &&
  (Region.ready .any ops (listAll ts ((listAll fs (Array.replicate ops.size false)).setIfInBounds t true))).isEmpty && (Region.ready .any ops (listAll us ((listAll fs (Array.replicate ops.size false)).setIfInBounds u true))).isEmpty
/-- First all of fs, which are quiet under S; then t and ts, or u and us. -/
theorem wp_region_two {id : Nat} {a : Act} {w : World} (fs ls : List Nat) (t u : Nat) (ts us : List Nat) (S : World → Prop) (hm : P.follows .mixedOrders = true) (hB : twoB ops fs ls t u ts us = true) (hS : S w.drew)
    (h : wpFirst P ops S (fun a' => wpForced P ops (NoPanic Q) S ls (fun a w => NoPanic Q .normal a w) (t :: ts) a' w.drew ∧ wpForced P ops (NoPanic Q) S ls (fun a w => NoPanic Q .normal a w) (u :: us) a' w.drew) fs a) : (Code.region id ops true).wp P Q a w := by
  simp only [twoB, Bool.and_eq_true, decide_eq_true_eq, beq_iff_eq] at hB
  obtain ⟨⟨⟨⟨⟨⟨⟨⟨b1, b2⟩, b3⟩, b4⟩, b5⟩, b6⟩, b7⟩, b8⟩, b9⟩ := hB
  refine wp_region_noPanic (wp_region_any hm (wpAny_of_G (S := S) (ls := ls) _ _ _ _ (wpAnyG_firstsR (Region.noSelect_spec b1) (fun _ _ _ _ _ h => h) fs ops.size _ a _ (by omega) (closed_none _) b4 hS ?_ h)))
  intro f1 a1 he1 hc1 hk1
  exact wpAnyG_two t u ts us f1 _ a1 _ (by omega) (by omega) hc1 b5 b6 b7 (fun f' a' w' hk => wpAnyG_end f' _ a' w' b8 hk) (fun f' a' w' hk => wpAnyG_end f' _ a' w' b9 hk) hk1.1 hk1.2
theorem two_done {a : Act} {w : World} (h : Q .normal a w) : NoPanic Q .normal a w := h
end
end Go.Proofs.YtlcglkanlhmmdaaGreat
/- tree.rightRange, rightLit. -/
namespace Go.Proofs.YtlcglkanlhmmdaaGreat
open Go.RowKit
set_option maxHeartbeats 4000000 in
set_option maxRecDepth 100000 in
theorem rightRange_any (a b : Cn) (w : World) : Calls Tryz.prog 53 #[aagg a b] w fun e w' => e = .returned (.bool (rangeP a b)) ∧ Below w.heap.size w w' := by
  have ca : aagg a b = .agg #[.int .i64 a.ra, .int .i64 a.rn, .int .i64 a.ca, .int .i64 a.cn, .bool a.fr, .bool a.fc, .int .i64 b.ra, .int .i64 b.rn, .int .i64 b.ca, .int .i64 b.cn, .bool b.fr, .bool b.fc] := rfl
  rw [ca]
  clear ca
  go_enter Tryz.func53, Tryz.ntmps53
  go_wp2_with fail
  refine abs_world ?_
  intro W0 hW0
  have hB0 : Hid (Below w.heap.size w W0) := by rw [hW0]; unfold Hid; (repeat (first | with_reducible exact Below.refl _ _ | with_reducible exact hBW | with_reducible refine Below.setCell ?_ ?_ _ | with_reducible refine Below.alloc ?_ ?_ _ | with_reducible refine belowN ?_ _ | with_reducible refine Below.drew ?_)); all_goals (first | omega | (dsimp only; omega) | ((repeat (first | with_reducible refine le_alloc ?_ | with_reducible refine le_setCell ?_ | with_reducible refine le_drew ?_ | with_reducible refine le_drewN ?_)); omega))
  have g0 : W0.heap[w.heap.size]? = some (.cells #[.int .i64 a.ra, .int .i64 a.rn, .int .i64 a.ca, .int .i64 a.cn, .bool a.fr, .bool a.fc, .int .i64 b.ra, .int .i64 b.rn, .int .i64 b.ca, .int .i64 b.cn, .bool b.fr, .bool b.fc] 39) := by rw [hW0]; (repeat (first | (with_reducible refine heap_alloc_at ?_ _; (first | rfl | (simp; done) | omega | (simp; omega)); done) | with_reducible refine heap_alloc_old ?_ _ | with_reducible refine heap_drew_old ?_ | with_reducible refine heap_drewN_old ?_))
  have hs0 : W0.heap.size = w.heap.size + 1 := by rw [hW0]; simp
  have p0 := cell_of_heap g0
  have z0 := lt_of_heap g0
  clear hW0 g0
  go_cut [3, 4] (fun s3 s4 wx => ∃ b1 b2 : Nat, s3 = .pointer (some ⟨b1, 0, none⟩) ∧ s4 = .pointer (some ⟨b2, 0, none⟩) ∧
    Hid (wx.heap[b1]? = some (.cells #[.int .i64 a.ra, .int .i64 a.rn, .int .i64 a.ca, .int .i64 a.cn, .bool a.fr, .bool a.fc] 37) ∧
      wx.heap[b2]? = some (.cells #[.int .i64 b.ra, .int .i64 b.rn, .int .i64 b.ca, .int .i64 b.cn, .bool b.fr, .bool b.fc] 37) ∧ Below W0.heap.size W0 wx))
  case first =>
    refine wp_region_two [0, 2, 1, 3] [7] 4 5 [5, 6, 7] [4, 6, 7] (Below W0.heap.size W0) (by kernel_rfl) (by kernel_rfl) (Below.refl _ _).drew ?_
    iterate 4 (first | (apply first_step; (rw [List.getElem?_toArray]; (repeat rw [List.getElem?_cons_succ]); rw [List.getElem?_cons_zero]); rfl; (intro W hB; have hc := bcellB hB; go_simp; (first | done | rfl)); go_frame) | (apply first_skip; (rw [List.getElem?_toArray]; (repeat rw [List.getElem?_cons_succ]); rw [List.getElem?_cons_zero]); rfl; go_frame))
    refine first_done ⟨?_, ?_⟩
    · apply forced_step; (rw [List.getElem?_toArray]; (repeat rw [List.getElem?_cons_succ]); rw [List.getElem?_cons_zero]); rfl; intro K hK; go_simp
      refine hK _ _ (fun _ => ((Below.refl _ W0).drew.alloc (Nat.le_refl _) _)) ?_
      clear hK K
      apply forced_step; (rw [List.getElem?_toArray]; (repeat rw [List.getElem?_cons_succ]); rw [List.getElem?_cons_zero]); rfl; intro K hK; go_simp
      refine hK _ _ (fun _ => ?_) ?_
      · (repeat (first | with_reducible exact Below.refl _ _ | with_reducible exact hBW | with_reducible refine Below.setCell ?_ ?_ _ | with_reducible refine Below.alloc ?_ ?_ _ | with_reducible refine belowN ?_ _ | with_reducible refine Below.drew ?_)); all_goals (first | omega | (dsimp only; omega) | ((repeat (first | with_reducible refine le_alloc ?_ | with_reducible refine le_setCell ?_ | with_reducible refine le_drew ?_ | with_reducible refine le_drewN ?_)); omega))
      clear hK K
      apply forced_step; (rw [List.getElem?_toArray]; (repeat rw [List.getElem?_cons_succ]); rw [List.getElem?_cons_zero]); rfl; intro K hK; go_simp
      refine hK _ _ (fun _ => ?_) ?_
      · (repeat (first | with_reducible exact Below.refl _ _ | with_reducible exact hBW | with_reducible refine Below.setCell ?_ ?_ _ | with_reducible refine Below.alloc ?_ ?_ _ | with_reducible refine belowN ?_ _ | with_reducible refine Below.drew ?_)); all_goals (first | omega | (dsimp only; omega) | ((repeat (first | with_reducible refine le_alloc ?_ | with_reducible refine le_setCell ?_ | with_reducible refine le_drew ?_ | with_reducible refine le_drewN ?_)); omega))
      clear hK K
      apply forced_step; (rw [List.getElem?_toArray]; (repeat rw [List.getElem?_cons_succ]); rw [List.getElem?_cons_zero]); rfl; intro K hK; go_simp
      refine hK _ _ (fun h => absurd (by decide) h) ?_
      clear hK K
      refine forced_done ?_
      refine two_done ?_
      go_wp2_with fail
      go_meet
      refine ⟨_, _, rfl, rfl, ?_, ?_, ?_⟩
      · (repeat (first | (with_reducible refine heap_alloc_at ?_ _; (first | rfl | (simp; done) | omega | (simp; omega)); done) | with_reducible refine heap_alloc_old ?_ _ | with_reducible refine heap_drew_old ?_ | with_reducible refine heap_drewN_old ?_))
      · (repeat (first | (with_reducible refine heap_alloc_at ?_ _; (first | rfl | (simp; done) | omega | (simp; omega)); done) | with_reducible refine heap_alloc_old ?_ _ | with_reducible refine heap_drew_old ?_ | with_reducible refine heap_drewN_old ?_))
      · (repeat (first | with_reducible exact Below.refl _ _ | with_reducible exact hBW | with_reducible refine Below.setCell ?_ ?_ _ | with_reducible refine Below.alloc ?_ ?_ _ | with_reducible refine belowN ?_ _ | with_reducible refine Below.drew ?_)); all_goals (first | omega | (dsimp only; omega) | ((repeat (first | with_reducible refine le_alloc ?_ | with_reducible refine le_setCell ?_ | with_reducible refine le_drew ?_ | with_reducible refine le_drewN ?_)); omega))
    · apply forced_step; (rw [List.getElem?_toArray]; (repeat rw [List.getElem?_cons_succ]); rw [List.getElem?_cons_zero]); rfl; intro K hK; go_simp
      refine hK _ _ (fun _ => ((Below.refl _ W0).drew.alloc (Nat.le_refl _) _)) ?_
      clear hK K
      apply forced_step; (rw [List.getElem?_toArray]; (repeat rw [List.getElem?_cons_succ]); rw [List.getElem?_cons_zero]); rfl; intro K hK; go_simp
      refine hK _ _ (fun _ => ?_) ?_
      · (repeat (first | with_reducible exact Below.refl _ _ | with_reducible exact hBW | with_reducible refine Below.setCell ?_ ?_ _ | with_reducible refine Below.alloc ?_ ?_ _ | with_reducible refine belowN ?_ _ | with_reducible refine Below.drew ?_)); all_goals (first | omega | (dsimp only; omega) | ((repeat (first | with_reducible refine le_alloc ?_ | with_reducible refine le_setCell ?_ | with_reducible refine le_drew ?_ | with_reducible refine le_drewN ?_)); omega))
      clear hK K
      apply forced_step; (rw [List.getElem?_toArray]; (repeat rw [List.getElem?_cons_succ]); rw [List.getElem?_cons_zero]); rfl; intro K hK; go_simp
      refine hK _ _ (fun _ => ?_) ?_
      · (repeat (first | with_reducible exact Below.refl _ _ | with_reducible exact hBW | with_reducible refine Below.setCell ?_ ?_ _ | with_reducible refine Below.alloc ?_ ?_ _ | with_reducible refine belowN ?_ _ | with_reducible refine Below.drew ?_)); all_goals (first | omega | (dsimp only; omega) | ((repeat (first | with_reducible refine le_alloc ?_ | with_reducible refine le_setCell ?_ | with_reducible refine le_drew ?_ | with_reducible refine le_drewN ?_)); omega))
      clear hK K
      apply forced_step; (rw [List.getElem?_toArray]; (repeat rw [List.getElem?_cons_succ]); rw [List.getElem?_cons_zero]); rfl; intro K hK; go_simp
      refine hK _ _ (fun h => absurd (by decide) h) ?_
      clear hK K
      refine forced_done ?_
      refine two_done ?_
      go_wp2_with fail
      go_meet
      refine ⟨_, _, rfl, rfl, ?_, ?_, ?_⟩
      · (repeat (first | (with_reducible refine heap_alloc_at ?_ _; (first | rfl | (simp; done) | omega | (simp; omega)); done) | with_reducible refine heap_alloc_old ?_ _ | with_reducible refine heap_drew_old ?_ | with_reducible refine heap_drewN_old ?_))
      · (repeat (first | (with_reducible refine heap_alloc_at ?_ _; (first | rfl | (simp; done) | omega | (simp; omega)); done) | with_reducible refine heap_alloc_old ?_ _ | with_reducible refine heap_drew_old ?_ | with_reducible refine heap_drewN_old ?_))
      · (repeat (first | with_reducible exact Below.refl _ _ | with_reducible exact hBW | with_reducible refine Below.setCell ?_ ?_ _ | with_reducible refine Below.alloc ?_ ?_ _ | with_reducible refine belowN ?_ _ | with_reducible refine Below.drew ?_)); all_goals (first | omega | (dsimp only; omega) | ((repeat (first | with_reducible refine le_alloc ?_ | with_reducible refine le_setCell ?_ | with_reducible refine le_drew ?_ | with_reducible refine le_drewN ?_)); omega))
  case rest =>
  obtain ⟨b1, b2, rfl, rfl, hM⟩ := hcut
  obtain ⟨m1, m2, mB⟩ := hM.out
  have HBw : Hid (Below w.heap.size w wc) := hB0.out.trans (mB.mono hB0.out.size)
  have y1 := lt_of_heap m1
  have y2 := lt_of_heap m2
  have M1 := Lib.hid m1
  have M2 := Lib.hid m2
  have h1 := fun W => neq_id a.ra a.rn W
  have h2 := fun W => neq_id a.ca a.cn W
  have h3 := fun W => neq_id b.ra b.rn W
  have h4 := fun W => neq_id b.ca b.cn W
  clear m1 m2 mB hM p0
  go_upto_region 3 with fail
  refine abs_world ?_
  intro W2 hW2
  have hB2 : Hid (Below wc.heap.size wc W2) := by rw [hW2]; unfold Hid; (repeat (first | with_reducible exact Below.refl _ _ | with_reducible exact hBW | with_reducible refine Below.setCell ?_ ?_ _ | with_reducible refine Below.alloc ?_ ?_ _ | with_reducible refine belowN ?_ _ | with_reducible refine Below.drew ?_)); all_goals (first | omega | (dsimp only; omega) | ((repeat (first | with_reducible refine le_alloc ?_ | with_reducible refine le_setCell ?_ | with_reducible refine le_drew ?_ | with_reducible refine le_drewN ?_)); omega))
  have g3 : W2.heap[wc.heap.size]? = some (.cells #[.int .i64 0, .int .i64 0] 35) := by rw [hW2]; (repeat (first | (with_reducible refine heap_alloc_at ?_ _; (first | rfl | (simp; done) | omega | (simp; omega)); done) | with_reducible refine heap_alloc_old ?_ _ | with_reducible refine heap_drew_old ?_ | with_reducible refine heap_drewN_old ?_))
  have x1 := cell_of_heap ((hB2.out.block _ y1).trans M1.out)
  have x2 := cell_of_heap ((hB2.out.block _ y2).trans M2.out)
  have x3 := cell_of_heap g3
  have u1 : b1 < W2.heap.size := Nat.lt_of_lt_of_le y1 hB2.out.size
  have u2 : b2 < W2.heap.size := Nat.lt_of_lt_of_le y2 hB2.out.size
  have u3 := lt_of_heap g3
  have HBw2 : Hid (Below w.heap.size w W2) := HBw.out.trans (hB2.out.mono HBw.out.size)
  clear hW2 g3
  refine wp_region_multiR [([0, 1, 2, 3, 4, 5, 6, 7, 8, 9], [], [])] (by kernel_rfl) (by kernel_rfl) ?_
  refine multi_phase (Below W2.heap.size W2) (Below.refl _ _).drew ?_
  iterate 10 (first | (apply first_step; (rw [List.getElem?_toArray]; (repeat rw [List.getElem?_cons_succ]); rw [List.getElem?_cons_zero]); rfl; (intro W hB; have hc := bcellB hB; go_simp; (first | done | rfl)); go_frame) | (apply first_skip; (rw [List.getElem?_toArray]; (repeat rw [List.getElem?_cons_succ]); rw [List.getElem?_cons_zero]); rfl; go_frame))
  refine first_done ?_
  refine forced_done ?_
  refine multi_done ?_
  have HR : Hid (rangeP a b = ((oneP a && oneP b) || (!zid a.ra a.rn && !zid b.ra b.rn && zid a.ca a.cn && zid b.ca b.cn && !a.fc && !b.fc) || (!zid a.ca a.cn && !zid b.ca b.cn && zid a.ra a.rn && zid b.ra b.rn && !a.fr && !b.fr))) := rfl
  have HO : Hid (oneP a = (!zid a.ra a.rn && !zid a.ca a.cn) ∧ oneP b = (!zid b.ra b.rn && !zid b.ca b.cn)) := ⟨rfl, rfl⟩
  rw [HO.out.1, HO.out.2] at HR
  clear HO
  generalize zid a.ra a.rn = x1 at h1 HR ⊢
  generalize zid a.ca a.cn = x2 at h2 HR ⊢
  generalize zid b.ra b.rn = x3 at h3 HR ⊢
  generalize zid b.ca b.cn = x4 at h4 HR ⊢
  cases x1 <;> cases x2 <;> cases x3 <;> cases x4
  all_goals
    simp only [Bool.not_true, Bool.not_false, Bool.and_true, Bool.and_false, Bool.true_and, Bool.false_and, Bool.or_false, Bool.false_or] at HR h1 h2 h3 h4 ⊢
    go_wp2_with fail
    all_goals
      go_ret
      refine ⟨?_, HBw2.out.drew⟩
      rw [HR.out]
      refine ret_bool' ?_
      first | (exact rfl) | (simp_all; done) | (cases h1 : a.fc <;> cases h2 : b.fc <;> simp_all; done) | (cases h1 : a.fr <;> cases h2 : b.fr <;> simp_all; done)
end Go.Proofs.YtlcglkanlhmmdaaGreat
/- tree.alike, bare, rightLit. -/
namespace Go.Proofs.YtlcglkanlhmmdaaGreat
open Go.RowKit
theorem eql_a (w : World) (a b c d : Cn) : (binOp .eql 39 (aagg a b) (aagg c d)).run Tryz.prog w = .ok (.bool (decide (a = c ∧ b = d))) w := by
  obtain ⟨a1, a2, a3, a4, a5, a6⟩ := a
  obtain ⟨b1, b2, b3, b4, b5, b6⟩ := b
  obtain ⟨c1, c2, c3, c4, c5, c6⟩ := c
  obtain ⟨d1, d2, d3, d4, d5, d6⟩ := d
  unfold aagg
  simp [go_sem]
  by_cases h1 : a1 = c1
  case neg => simp [h1]
  simp only [h1, if_true]
  by_cases h2 : a2 = c2
  case neg => simp [h2]
  simp only [h2, if_true]
  by_cases h3 : a3 = c3
  case neg => simp [h3]
  simp only [h3, if_true]
  by_cases h4 : a4 = c4
  case neg => simp [h4]
  simp only [h4, if_true]
  by_cases h5 : a5 = c5
  case neg => simp [h5]
  simp only [h5, if_true]
  by_cases h6 : a6 = c6
  case neg => simp [h6]
  simp only [h6, if_true]
  by_cases h7 : b1 = d1
  case neg => simp [h7]
  simp only [h7, if_true]
  by_cases h8 : b2 = d2
  case neg => simp [h8]
  simp only [h8, if_true]
  by_cases h9 : b3 = d3
  case neg => simp [h9]
  simp only [h9, if_true]
  by_cases h10 : b4 = d4
  case neg => simp [h10]
  simp only [h10, if_true]
  by_cases h11 : b5 = d5
  case neg => simp [h11]
  simp only [h11, if_true]
  by_cases h12 : b6 = d6 <;> simp [h12]
theorem alike_any (o p : Nd) (a c : Option Addr) (n cap m cap' b off q : Nat) (w : World) (hb : b < w.heap.size) (hq : q < w.heap.size) (hp : NdAt w b off o (.slice a n cap)) (hr : NdAt w q 0 p (.slice c m cap')) :
    Calls Tryz.prog 64 #[.pointer (some ⟨b, off, none⟩), .pointer (some ⟨q, 0, none⟩)] w fun e w' => e = .returned (.bool (decide (o = p) && decide (n = m))) ∧ Below w.heap.size w w' := by
  by_cases hk : o.k = p.k
  case neg => rw [decide_eq_false (fun e => hk (by rw [e])), Bool.false_and]; exact alike_1 o p a c n cap m cap' b off q w hb hq hp hr (by simpa using hk)
  have k1 : (o.k == p.k) = true := by simpa using hk
  by_cases hv : o.v = p.v
  case neg => rw [decide_eq_false (fun e => hv (by rw [e])), Bool.false_and]; exact alike_2 o p a c n cap m cap' b off q w hb hq hp hr k1 (fun W => by rw [eq_v, decide_eq_false hv])
  have k2 : ∀ W, (binOp .eql 33 (vagg o.v) (vagg p.v)).run Tryz.prog W = .ok (.bool true) W := fun W => by rw [eq_v, decide_eq_true hv]
  by_cases hn : o.nm = p.nm
  case neg => rw [decide_eq_false (fun e => hn (by rw [e])), Bool.false_and]; exact alike_3 o p a c n cap m cap' b off q w hb hq hp hr k1 k2 (by simp only [beq_eq_false_iff_ne, ne_eq]; exact fun h => hn (str_eq.1 h))
  have k3 : (o.nm.toList == p.nm.toList) = true := by rw [hn]; simp
  by_cases ha : o.a = p.a ∧ o.b = p.b
  case neg => rw [decide_eq_false (fun e => ha (by rw [e]; exact ⟨rfl, rfl⟩)), Bool.false_and]; exact alike_4 o p a c n cap m cap' b off q w hb hq hp hr k1 k2 k3 (fun W => by rw [eql_a, decide_eq_false ha])
  have k4 : ∀ W, (binOp .eql 39 (aagg o.a o.b) (aagg p.a p.b)).run Tryz.prog W = .ok (.bool true) W := fun W => by rw [eql_a, decide_eq_true ha]
  by_cases hr' : o.rows = p.rows
  case neg => rw [decide_eq_false (fun e => hr' (by rw [e])), Bool.false_and]; exact alike_5 o p a c n cap m cap' b off q w hb hq hp hr k1 k2 k3 k4 (by simpa using hr')
  have eo : o = p := by
    obtain ⟨o1, o2, o3, o4, o5, o6⟩ := o
    obtain ⟨p1, p2, p3, p4, p5, p6⟩ := p
    simp only at hk hv hn ha hr'
    rw [hk, hv, hn, ha.1, ha.2, hr']
  have h6 := alike_6 o p a c n cap m cap' b off q w hb hq hp hr k1 k2 k3 k4 (by simpa using hr')
  rw [decide_eq_true eo, Bool.true_and]
  have e : decide (n = m) = ((n : Int) == (m : Int)) := by
    rw [Bool.eq_iff_iff]
    simp
    omega
  rw [e]
  exact h6
set_option maxHeartbeats 4000000 in
set_option maxRecDepth 100000 in
theorem bare_any (o p : Nd) (a c : Option Addr) (n cap m cap' b off : Nat) (w : World) (hb : b < w.heap.size) (hp : NdAt w b off o (.slice a n cap)) :
    Calls Tryz.prog 52 #[.pointer (some ⟨b, off, none⟩), nagg p (.slice c m cap')] w fun e w' => e = .returned (.bool (decide (o = { p with k := o.k }) && decide (n = m))) ∧ Below w.heap.size w w' := by
  have HP := Lib.hid hp
  have r0 : w.cell? ⟨b, off, none⟩ = some (.int .i64 o.k) := hp 0 (by omega)
  clear hp
  rw [nagg_eq]
  go_enter Tryz.func52, Tryz.ntmps52
  go_upto_region 2 with fail
  refine abs_world ?_
  intro W0 hW0
  have hB0 : Hid (Below w.heap.size w W0) := by rw [hW0]; unfold Hid; (repeat (first | with_reducible exact Below.refl _ _ | with_reducible exact hBW | with_reducible refine Below.setCell ?_ ?_ _ | with_reducible refine Below.alloc ?_ ?_ _ | with_reducible refine belowN ?_ _ | with_reducible refine Below.drew ?_)); all_goals (first | omega | (dsimp only; omega) | ((repeat (first | with_reducible refine le_alloc ?_ | with_reducible refine le_setCell ?_ | with_reducible refine le_drew ?_ | with_reducible refine le_drewN ?_)); omega))
  have g0 : W0.heap[w.heap.size]? = some (.cells (ncells { p with k := o.k } (.slice c m cap')).toArray 42) := by rw [hW0]; exact heap_alloc_new w _
  have NQ := Lib.hid (nd_blk g0)
  have z0 := lt_of_heap g0
  have HP0 := Lib.hid (HP.out.below hB0.out hb)
  have hb0 : b < W0.heap.size := Nat.lt_of_lt_of_le hb hB0.out.size
  have HC := Lib.hid (alike_any o { p with k := o.k } a c n cap m cap' b off w.heap.size W0 hb0 z0 HP0.out NQ.out)
  clear hW0 g0 r0
  go_wp2_with fail
  refine HC.out.mono ?_
  rintro e w1 ⟨rfl, hb1⟩
  have HB1 : Hid (Below w.heap.size w w1) := hB0.out.trans (hb1.mono hB0.out.size)
  clear hb1 HC
  go_wp2_with fail
  go_ret
  exact ⟨rfl, HB1.out⟩
set_option maxHeartbeats 2000000 in
set_option maxRecDepth 100000 in
theorem rightLit_any (v : V) (im : Bool) (hi : I64 v.m) (w : World) : Calls Tryz.prog 51 #[vagg v, .bool im] w fun e w' => e = .returned (.bool (litP v && (im || decide (0 ≤ v.m)))) ∧ Below w.heap.size w w' := by
  have HR := Lib.hid (right_all v hi)
  have ev : vagg v = .agg #[.int .i64 v.k, .int .i64 v.m, .int .i64 v.e, .string v.t, .bool v.b, .int .i64 v.f] := rfl
  rw [ev] at HR ⊢
  have hi' : -9223372036854775808 ≤ v.m ∧ v.m ≤ 9223372036854775807 := hi
  clear ev hi
  go_enter Tryz.func51, Tryz.ntmps51
  by_cases h0 : v.k = 0
  · have e0 : (v.k != 0) = false := by simpa using h0
    have HL : Hid ((litP v && (im || decide (0 ≤ v.m))) = false) := by unfold Hid litP; simp [h0]
    clear h0
    go_wp2_with fail
    go_ret
    refine ⟨by rw [HL.out]; exact rfl, ?_⟩
    (repeat (first | with_reducible exact Below.refl _ _ | with_reducible exact hBW | with_reducible refine Below.setCell ?_ ?_ _ | with_reducible refine Below.alloc ?_ ?_ _ | with_reducible refine belowN ?_ _ | with_reducible refine Below.drew ?_)); all_goals (first | omega | (dsimp only; omega) | ((repeat (first | with_reducible refine le_alloc ?_ | with_reducible refine le_setCell ?_ | with_reducible refine le_drew ?_ | with_reducible refine le_drewN ?_)); omega))
  · have e0 : (v.k != 0) = true := by simpa using h0
    have HP : Hid (litP v = refR v) := by unfold Hid litP; rw [decide_eq_true h0, Bool.true_and]
    clear h0
    go_wp2_with fail
    refine (HR.out _).mono ?_
    rintro e w1 ⟨rfl, hb1⟩
    have hb1' : Below (w.heap.size + 1) (w.alloc (.cells #[.int .i64 v.k, .int .i64 v.m, .int .i64 v.e, .string v.t, .bool v.b, .int .i64 v.f] 33)) w1 := by rw [World.size_alloc] at hb1; exact hb1
    have c1 : w1.cell? ⟨w.heap.size, 1, none⟩ = some (.int .i64 v.m) := cell_of_heap ((hb1'.block w.heap.size (by omega)).trans (heap_alloc_new w _)) 1
    have HB1 : Hid (Below w.heap.size w w1) := (below_alloc w _ _ (Nat.le_refl _)).trans (hb1'.mono (by omega))
    clear hb1 hb1' HR
    cases hr : refR v with
    | false =>
      have HL : Hid ((litP v && (im || decide (0 ≤ v.m))) = false) := by unfold Hid; rw [HP.out, hr, Bool.false_and]
      go_wp2_with fail
      go_ret
      exact ⟨by rw [HL.out]; exact rfl, HB1.out⟩
    | true =>
      cases im with
      | true =>
        have HL : Hid ((litP v && (true || decide (0 ≤ v.m))) = true) := by unfold Hid; rw [HP.out, hr, Bool.true_or, Bool.true_and]
        go_wp2_with fail
        go_ret
        exact ⟨by rw [HL.out]; exact rfl, HB1.out⟩
      | false =>
        have HL : Hid ((litP v && (false || decide (0 ≤ v.m))) = decide (0 ≤ v.m)) := by unfold Hid; rw [HP.out, hr, Bool.false_or, Bool.true_and]
        go_wp2_with fail
        go_ret
        exact ⟨by rw [HL.out]; exact rfl, HB1.out⟩
end Go.Proofs.YtlcglkanlhmmdaaGreat
/- When a tree is right: plain. -/
namespace Go.Proofs.YtlcglkanlhmmdaaGreat
open Go.RowKit
/-- A node with no more than its kind has. -/
def mO (o : Nd) : Nd :=
  if o.k = 0 then { nd0 with k := o.k, v := o.v } else if o.k = 1 ∨ o.k = 3 then { nd0 with k := o.k, a := o.a } else if o.k = 2 then { nd0 with k := o.k, a := o.a, b := o.b }
  else if o.k = 4 ∨ o.k = 5 ∨ o.k = 6 ∨ o.k = 7 then { nd0 with k := o.k, nm := o.nm } else if o.k = 8 then { nd0 with k := o.k, rows := o.rows } else { nd0 with k := o.k }
/-- The first one's kind. -/
def fk (l : List T) : Int := (l.head?.map fun t => t.o.k).getD 0
def okR (o : Nd) (l : List T) : Bool :=
  if o.k = 0 then litP o.v && decide (l.length = 0) else if o.k = 1 ∨ o.k = 3 then oneP o.a && decide (l.length = 0) else if o.k = 2 then rangeP o.a o.b && decide (l.length = 0)
  else if o.k = 4 then callP (bl o.nm) && decide (l.length ≤ 32) && (decide (l.length ≠ 1) || decide (fk l ≠ 9))
  else if o.k = 5 then unP o.nm && decide (l.length = 1) else if o.k = 6 then binP o.nm && decide (l.length = 2) else if o.k = 7 then nameP o.nm && decide (l.length = 0)
  else if o.k = 8 then decide (1 ≤ o.rows) && decide (1 ≤ l.length) && decide ((l.length : Int).tmod o.rows = 0) else if o.k = 9 then decide (l.length = 0) else false
def ownP (o : Nd) (l : List T) : Bool := okR o l && decide (o = mO o)
/-- As the program asks it. -/
def okT (o : Nd) (l : List T) (above : Int) : Bool := ownP o l && (decide (o.k ≠ 9) || decide (above = 4)) && (decide (o.k ≠ 0) || decide (above = 8) || decide (0 ≤ o.v.m))
def rightT : T → Int → Bool
  | .mk o l, above => okT o l above && l.attach.all (fun c => (decide (o.k ≠ 8) || decide (c.1.o.k = 0)) && rightT c.1 o.k)
termination_by t => SizeOf.sizeOf t
decreasing_by exact T.lt c.2
theorem rightT_mk (o : Nd) (l : List T) (above : Int) : rightT (.mk o l) above = (okT o l above && l.all (fun c => (decide (o.k ≠ 8) || decide (c.o.k = 0)) && rightT c o.k)) := by
  rw [rightT]
  congr 1
  rw [Bool.eq_iff_iff]
  simp
/-- As the document asks it. -/
def rightR : T → Bool → Bool
  | .mk o l, call => ownP o l && (decide (o.k ≠ 9) || call) && l.attach.all (fun c => (decide (o.k ≠ 8) || decide (c.1.o.k = 0)) && (decide (o.k = 8) || !belowP c.1.o) && rightR c.1 (decide (o.k = 4)))
termination_by t => SizeOf.sizeOf t
decreasing_by exact T.lt c.2
theorem rightR_mk (o : Nd) (l : List T) (call : Bool) : rightR (.mk o l) call = (ownP o l && (decide (o.k ≠ 9) || call) && l.all (fun c => (decide (o.k ≠ 8) || decide (c.o.k = 0)) && (decide (o.k = 8) || !belowP c.o) && rightR c (decide (o.k = 4)))) := by
  rw [rightR]
  congr 1
  rw [Bool.eq_iff_iff]
  simp
theorem lit_m {v : V} (h : litP v = true) (hk : v.k ≠ 1) : v.m = 0 := by
  unfold litP refR at h
  simp only [Bool.and_eq_true, decide_eq_true_eq, Bool.or_eq_true] at h
  rcases h.2.1.1.1.1 with h1 | h1
  · exact absurd h1 hk
  · exact h1.1
theorem ok_below (o : Nd) (l : List T) (above : Int) : okT o l above = (ownP o l && (decide (o.k ≠ 9) || decide (above = 4)) && (decide (above = 8) || !belowP o)) := by
  unfold okT
  cases h : ownP o l with
  | false => rfl
  | true =>
    congr 1
    by_cases h0 : o.k = 0
    · have hl : litP o.v = true := by
        unfold ownP okR at h
        rw [if_pos h0] at h
        simp only [Bool.and_eq_true] at h
        exact h.1.1
      by_cases h8 : above = 8
      · simp [h8]
      · unfold belowP
        by_cases h1 : o.v.k = 1
        · by_cases hm : o.v.m < 0
          · have : ¬ 0 ≤ o.v.m := by omega
            simp [h0, h8, h1, hm]
          · have : 0 ≤ o.v.m := by omega
            simp [h0, h8, h1, this]
        · have hm := lit_m hl h1
          simp [h0, h8, h1, hm]
    · unfold belowP
      simp [h0]
/-- Both ask the same. -/
theorem right_both (t : T) : ∀ above : Int, rightT t above = ((decide (above = 8) || !belowP t.o) && rightR t (decide (above = 4))) := by
  induction t using T.ind with
  | h o l ih =>
    intro above
    rw [rightT_mk, rightR_mk, ok_below]
    have : (l.all fun c => (decide (o.k ≠ 8) || decide (c.o.k = 0)) && rightT c o.k) = (l.all fun c => (decide (o.k ≠ 8) || decide (c.o.k = 0)) && (decide (o.k = 8) || !belowP c.o) && rightR c (decide (o.k = 4))) := by
      rw [Bool.eq_iff_iff, List.all_eq_true, List.all_eq_true]
      refine forall_congr' fun c => forall_congr' fun hc => ?_
      rw [ih c hc o.k, Bool.and_assoc]
    rw [this]
    show _ = ((decide (above = 8) || !belowP o) && _)
    cases ownP o l <;> cases (decide (o.k ≠ 9) || decide (above = 4)) <;> cases (decide (above = 8) || !belowP o) <;> rfl
/-- An error's number. -/
def checkP (t : T) : Int := if 256 < t.size then 5 else if 32 < t.depth then 8 else if belowP t.o || !rightR t false then 6 else 0
theorem right_top (t : T) : rightT t 6 = !(belowP t.o || !rightR t false) := by
  rw [right_both]
  simp
end Go.Proofs.YtlcglkanlhmmdaaGreat
