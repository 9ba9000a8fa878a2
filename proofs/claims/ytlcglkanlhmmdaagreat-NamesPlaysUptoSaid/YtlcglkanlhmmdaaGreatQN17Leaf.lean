/- Leaves of a tree's check: literals, corners, ranges, signs. -/
import Derived.Test.YtlcglkanlhmmdaaGreatQN17Nodes
import Derived.Test.YtlcglkanlhmmdaaGreatQN17Val
import Derived.Test.YtlcglkanlhmmdaaGreatQN17NameU
namespace Go.Proofs.YtlcglkanlhmmdaaGreat
open Go.RowKit
/-- No row, or column. -/
def zid (a n : Int) : Bool := decide (a = 0 ∧ n = 0)
theorem neq_id (a n : Int) (W : World) : (binOp .neq 35 (.agg #[.int .i64 a, .int .i64 n]) (.agg #[.int .i64 0, .int .i64 0])).run Tryz.prog W = .ok (.bool (!zid a n)) W := by
  unfold zid
  by_cases h1 : a = 0 <;> by_cases h2 : n = 0 <;> simp [go_sem, h1, h2]
theorem eql_id (a n : Int) (W : World) : (binOp .eql 35 (.agg #[.int .i64 a, .int .i64 n]) (.agg #[.int .i64 0, .int .i64 0])).run Tryz.prog W = .ok (.bool (zid a n)) W := by
  unfold zid
  by_cases h1 : a = 0 <;> by_cases h2 : n = 0 <;> simp [go_sem, h1, h2]
def cagg (c : Cn) : Value := .agg #[.int .i64 c.ra, .int .i64 c.rn, .int .i64 c.ca, .int .i64 c.cn, .bool c.fr, .bool c.fc]
def oneP (c : Cn) : Bool := !zid c.ra c.rn && !zid c.ca c.cn
def rangeP (a b : Cn) : Bool :=
  (oneP a && oneP b) || (!zid a.ra a.rn && !zid b.ra b.rn && zid a.ca a.cn && zid b.ca b.cn && !a.fc && !b.fc) || (!zid a.ca a.cn && !zid b.ca b.cn && zid a.ra a.rn && zid b.ra b.rn && !a.fr && !b.fr)
set_option maxHeartbeats 1000000 in
theorem one_any (c : Cn) (w : World) : Calls Tryz.prog 70 #[cagg c] w fun e w' => e = .returned (.bool (oneP c)) ∧ Below w.heap.size w w' := by
  have h1 := fun W => neq_id c.ra c.rn W
  have h2 := fun W => neq_id c.ca c.cn W
  unfold cagg oneP
  obtain ⟨ra, rn, ca, cn, fr, fc⟩ := c
  simp only at h1 h2 ⊢
  generalize zid ra rn = x at h1 ⊢
  generalize zid ca cn = y at h2 ⊢
  cases x <;> cases y
  all_goals
    go_enter Tryz.func70, Tryz.ntmps70
    go_wp2
    go_ret
    refine ⟨rfl, ?_⟩
    (repeat (first | with_reducible exact Below.refl _ _ | with_reducible exact hBW | with_reducible refine Below.setCell ?_ ?_ _ | with_reducible refine Below.alloc ?_ ?_ _ | with_reducible refine belowN ?_ _ | with_reducible refine Below.drew ?_)); all_goals (first | omega | (dsimp only; omega) | ((repeat (first | with_reducible refine le_alloc ?_ | with_reducible refine le_setCell ?_ | with_reducible refine le_drew ?_ | with_reducible refine le_drewN ?_)); omega))
set_option maxHeartbeats 4000000 in
set_option maxRecDepth 100000 in
theorem area_any (a b : Cn) (w : World) : Calls Tryz.prog 71 #[cagg a, cagg b] w fun e w' => e = .returned (.bool (rangeP a b)) ∧ Below w.heap.size w w' := by
  have ca : cagg a = .agg #[.int .i64 a.ra, .int .i64 a.rn, .int .i64 a.ca, .int .i64 a.cn, .bool a.fr, .bool a.fc] := rfl
  have cb : cagg b = .agg #[.int .i64 b.ra, .int .i64 b.rn, .int .i64 b.ca, .int .i64 b.cn, .bool b.fr, .bool b.fc] := rfl
  have HOA := Lib.hid (one_any a)
  have HOB := Lib.hid (one_any b)
  rw [ca] at HOA ⊢
  rw [cb] at HOB ⊢
  clear ca cb
  go_enter Tryz.func71, Tryz.ntmps71
  go_upto_region 1 with fail
  refine abs_world ?_
  intro W0 hW0
  have hB0 : Hid (Below w.heap.size w W0) := by rw [hW0]; unfold Hid; (repeat (first | with_reducible exact Below.refl _ _ | with_reducible exact hBW | with_reducible refine Below.setCell ?_ ?_ _ | with_reducible refine Below.alloc ?_ ?_ _ | with_reducible refine belowN ?_ _ | with_reducible refine Below.drew ?_)); all_goals (first | omega | (dsimp only; omega) | ((repeat (first | with_reducible refine le_alloc ?_ | with_reducible refine le_setCell ?_ | with_reducible refine le_drew ?_ | with_reducible refine le_drewN ?_)); omega))
  have g0 : W0.heap[w.heap.size]? = some (.cells #[.int .i64 a.ra, .int .i64 a.rn, .int .i64 a.ca, .int .i64 a.cn, .bool a.fr, .bool a.fc] 37) := by rw [hW0]; (repeat (first | (with_reducible refine heap_alloc_at ?_ _; (first | rfl | (simp; done) | omega | (simp; omega)); done) | with_reducible refine heap_alloc_old ?_ _ | with_reducible refine heap_drew_old ?_ | with_reducible refine heap_drewN_old ?_))
  have g1 : W0.heap[w.heap.size + 1]? = some (.cells #[.int .i64 b.ra, .int .i64 b.rn, .int .i64 b.ca, .int .i64 b.cn, .bool b.fr, .bool b.fc] 37) := by rw [hW0]; (repeat (first | (with_reducible refine heap_alloc_at ?_ _; (first | rfl | (simp; done) | omega | (simp; omega)); done) | with_reducible refine heap_alloc_old ?_ _ | with_reducible refine heap_drew_old ?_ | with_reducible refine heap_drewN_old ?_))
  have G0 := Lib.hid g0
  have G1 := Lib.hid g1
  have z0 := lt_of_heap g0
  have z1 := lt_of_heap g1
  clear hW0
  go_cut [12] (fun s12 wx => s12 = .bool (oneP a && oneP b) ∧ Hid (Below W0.heap.size W0 wx))
  case first =>
    have p0 := cell_of_heap g0
    have p1 := cell_of_heap g1
    clear g0 g1
    go_wp2_with fail
    refine (HOA.out _).mono ?_
    rintro e w1 ⟨rfl, hb1⟩
    have HB1 := Lib.hid hb1
    have q1 := cell_of_heap ((hb1.block _ z1).trans G1.out)
    clear p0 p1 hb1
    cases hA : oneP a with
    | false =>
      go_wp2_with fail
      go_meet
      exact ⟨by rw [hA]; rfl, HB1⟩
    | true =>
      go_wp2_with fail
      refine (HOB.out _).mono ?_
      rintro e w2 ⟨rfl, hb2⟩
      have HB2 : Hid (Below W0.heap.size W0 w2) := HB1.out.trans (hb2.mono HB1.out.size)
      clear q1 hb2
      go_wp2_with fail
      go_meet
      exact ⟨by rw [hA]; rfl, HB2⟩
  case rest =>
  obtain ⟨rfl, hB⟩ := hcut
  have f0 := (hB.out.block _ z0).trans g0
  have f1 := (hB.out.block _ z1).trans g1
  have HBw : Hid (Below w.heap.size w wc) := hB0.out.trans (hB.out.mono hB0.out.size)
  have p0 := cell_of_heap f0
  have p1 := cell_of_heap f1
  have h1 := fun W => neq_id a.ra a.rn W
  have h2 := fun W => neq_id a.ca a.cn W
  have h3 := fun W => neq_id b.ra b.rn W
  have h4 := fun W => neq_id b.ca b.cn W
  have k1 := fun W => eql_id a.ra a.rn W
  have k2 := fun W => eql_id a.ca a.cn W
  have k3 := fun W => eql_id b.ra b.rn W
  have k4 := fun W => eql_id b.ca b.cn W
  clear g0 g1 f0 f1 HOA HOB G0 G1
  have HR : Hid (rangeP a b = ((oneP a && oneP b) || (!zid a.ra a.rn && !zid b.ra b.rn && zid a.ca a.cn && zid b.ca b.cn && !a.fc && !b.fc) || (!zid a.ca a.cn && !zid b.ca b.cn && zid a.ra a.rn && zid b.ra b.rn && !a.fr && !b.fr))) := rfl
  have HO : Hid (oneP a = (!zid a.ra a.rn && !zid a.ca a.cn) ∧ oneP b = (!zid b.ra b.rn && !zid b.ca b.cn)) := ⟨rfl, rfl⟩
  rw [HO.out.1, HO.out.2] at HR ⊢
  clear HO
  generalize zid a.ra a.rn = x1 at h1 k1 HR ⊢
  generalize zid a.ca a.cn = x2 at h2 k2 HR ⊢
  generalize zid b.ra b.rn = x3 at h3 k3 HR ⊢
  generalize zid b.ca b.cn = x4 at h4 k4 HR ⊢
  cases x1 <;> cases x2 <;> cases x3 <;> cases x4
  all_goals
    simp only [Bool.not_true, Bool.not_false, Bool.and_true, Bool.and_false, Bool.true_and, Bool.false_and, Bool.or_false, Bool.false_or] at HR h1 h2 h3 h4 ⊢
    go_wp2_with fail
    all_goals
      go_ret
      refine ⟨?_, HBw.out⟩
      rw [HR.out]
      refine ret_bool' ?_
      first | (exact rfl) | (simp_all; done) | (cases h1 : a.fc <;> cases h2 : b.fc <;> simp_all; done) | (cases h1 : a.fr <;> cases h2 : b.fr <;> simp_all; done)
end Go.Proofs.YtlcglkanlhmmdaaGreat
/- Leaves of a tree's check: literals, signs. -/
namespace Go.Proofs.YtlcglkanlhmmdaaGreat
open Go.RowKit
def litP (v : V) : Bool := decide (v.k ≠ 0) && refR v
theorem num_any (m e : Int) (w : World) : Calls Tryz.prog 83 #[.agg #[.int .i64 m, .int .i64 e]] w fun r w' => r = .returned (.bool (numR m e)) ∧ Below w.heap.size w w' := by
  have HR := Lib.hid (refNum_any m e)
  go_enter Tryz.func83, Tryz.ntmps83
  go_wp2_with fail
  refine (HR.out _).mono ?_
  rintro r w1 ⟨rfl, hb⟩
  have HB : Hid (Below w.heap.size w w1) := (below_alloc w _ _ (Nat.le_refl _)).trans (hb.mono (by simp))
  clear hb
  go_wp2_with fail
  go_ret
  exact ⟨rfl, HB.out⟩
section
variable (m e : Int) (t : ByteArray) (b : Bool) (f : Int) (w : World)
set_option maxHeartbeats 2000000
set_option maxRecDepth 100000
theorem literal_1 : Calls Tryz.prog 69 #[vagg ⟨1, m, e, t, b, f⟩] w fun r w' => r = .returned (.bool (litP ⟨1, m, e, t, b, f⟩)) ∧ Below w.heap.size w w' := by
  have HN := Lib.hid (num_any m e)
  obtain ⟨R, hR⟩ : ∃ R, decide ((1 : Int) = 1 ∧ m = m ∧ e = e ∧ ⟨#[]⟩ = t ∧ false = b ∧ 0 = f) = R := ⟨_, rfl⟩
  have hq : ∀ W, (binOp .eql 33 (.agg #[.int .i64 1, .int .i64 m, .int .i64 e, .string ⟨#[]⟩, .bool false, .int .i64 0]) (.agg #[.int .i64 1, .int .i64 m, .int .i64 e, .string t, .bool b, .int .i64 f])).run Tryz.prog W = .ok (.bool R) W := fun W => by
    rw [← hR]
    exact eq_v6 W ⟨1, m, e, ⟨#[]⟩, false, 0⟩ ⟨1, m, e, t, b, f⟩
  have HL : Hid (litP ⟨1, m, e, t, b, f⟩ = (R && numR m e)) := by
    unfold Hid litP refR
    rw [← hR, Bool.eq_iff_iff]
    cases b <;> simp <;> grind
  clear hR
  rw [show vagg ⟨1, m, e, t, b, f⟩ = .agg #[.int .i64 1, .int .i64 m, .int .i64 e, .string t, .bool b, .int .i64 f] from rfl]
  cases R with
  | false =>
    go_enter Tryz.func69, Tryz.ntmps69
    go_wp2_with fail
    go_ret
    refine ⟨by rw [HL.out]; first | exact rfl | (refine ret_bool' ?_; simp), ?_⟩
    (repeat (first | with_reducible exact Below.refl _ _ | with_reducible exact hBW | with_reducible refine Below.setCell ?_ ?_ _ | with_reducible refine Below.alloc ?_ ?_ _ | with_reducible refine belowN ?_ _ | with_reducible refine Below.drew ?_)); all_goals (first | omega | (dsimp only; omega) | ((repeat (first | with_reducible refine le_alloc ?_ | with_reducible refine le_setCell ?_ | with_reducible refine le_drew ?_ | with_reducible refine le_drewN ?_)); omega))
  | true =>
    go_enter Tryz.func69, Tryz.ntmps69
    go_wp2_with fail
    refine (HN.out _).mono ?_
    rintro r w1 ⟨rfl, hb⟩
    have hBW : Below w.heap.size w w1 := by
      refine Below.trans ?_ (hb.mono (by simp; omega))
      (repeat (first | with_reducible exact Below.refl _ _ | with_reducible exact hBW | with_reducible refine Below.setCell ?_ ?_ _ | with_reducible refine Below.alloc ?_ ?_ _ | with_reducible refine belowN ?_ _ | with_reducible refine Below.drew ?_)); all_goals (first | omega | (dsimp only; omega) | ((repeat (first | with_reducible refine le_alloc ?_ | with_reducible refine le_setCell ?_ | with_reducible refine le_drew ?_ | with_reducible refine le_drewN ?_)); omega))
    have HB := Lib.hid hBW
    clear hb hBW hq
    go_wp2_with fail
    go_ret
    exact ⟨by rw [HL.out]; rfl, HB.out⟩
theorem literal_2 (ht : t.size ≤ 1048576) : Calls Tryz.prog 69 #[vagg ⟨2, m, e, t, b, f⟩] w fun r w' => r = .returned (.bool (litP ⟨2, m, e, t, b, f⟩)) ∧ Below w.heap.size w w' := by
  obtain ⟨R, hR⟩ : ∃ R, decide ((2 : Int) = 2 ∧ 0 = m ∧ 0 = e ∧ t = t ∧ false = b ∧ 0 = f) = R := ⟨_, rfl⟩
  have hq : ∀ W, (binOp .eql 33 (.agg #[.int .i64 2, .int .i64 0, .int .i64 0, .string t, .bool false, .int .i64 0]) (.agg #[.int .i64 2, .int .i64 m, .int .i64 e, .string t, .bool b, .int .i64 f])).run Tryz.prog W = .ok (.bool R) W := fun W => by
    rw [← hR]
    exact eq_v6 W ⟨2, 0, 0, t, false, 0⟩ ⟨2, m, e, t, b, f⟩
  have HL : Hid (litP ⟨2, m, e, t, b, f⟩ = (R && decide (t.size ≤ 255))) := by
    unfold Hid litP refR
    rw [← hR, Bool.eq_iff_iff]
    cases b <;> simp <;> grind
  clear hR
  rw [show vagg ⟨2, m, e, t, b, f⟩ = .agg #[.int .i64 2, .int .i64 m, .int .i64 e, .string t, .bool b, .int .i64 f] from rfl]
  cases R with
  | false =>
    go_enter Tryz.func69, Tryz.ntmps69
    go_wp2_with fail
    go_ret
    refine ⟨by rw [HL.out]; first | exact rfl | (refine ret_bool' ?_; simp), ?_⟩
    (repeat (first | with_reducible exact Below.refl _ _ | with_reducible exact hBW | with_reducible refine Below.setCell ?_ ?_ _ | with_reducible refine Below.alloc ?_ ?_ _ | with_reducible refine belowN ?_ _ | with_reducible refine Below.drew ?_)); all_goals (first | omega | (dsimp only; omega) | ((repeat (first | with_reducible refine le_alloc ?_ | with_reducible refine le_setCell ?_ | with_reducible refine le_drew ?_ | with_reducible refine le_drewN ?_)); omega))
  | true =>
    by_cases hs : t.size ≤ 255
    · rw [decide_eq_true hs] at HL
      have hd : decide ((t.size : Int) ≤ 255) = true := by simp; omega
      go_enter Tryz.func69, Tryz.ntmps69
      go_wp2_with fail
      go_ret
      refine ⟨by rw [HL.out]; first | exact rfl | (refine ret_bool' ?_; simp), ?_⟩
      (repeat (first | with_reducible exact Below.refl _ _ | with_reducible exact hBW | with_reducible refine Below.setCell ?_ ?_ _ | with_reducible refine Below.alloc ?_ ?_ _ | with_reducible refine belowN ?_ _ | with_reducible refine Below.drew ?_)); all_goals (first | omega | (dsimp only; omega) | ((repeat (first | with_reducible refine le_alloc ?_ | with_reducible refine le_setCell ?_ | with_reducible refine le_drew ?_ | with_reducible refine le_drewN ?_)); omega))
    · rw [decide_eq_false hs] at HL
      have hd : decide ((t.size : Int) ≤ 255) = false := by simp; omega
      go_enter Tryz.func69, Tryz.ntmps69
      go_wp2_with fail
      go_ret
      refine ⟨by rw [HL.out]; first | exact rfl | (refine ret_bool' ?_; simp), ?_⟩
      (repeat (first | with_reducible exact Below.refl _ _ | with_reducible exact hBW | with_reducible refine Below.setCell ?_ ?_ _ | with_reducible refine Below.alloc ?_ ?_ _ | with_reducible refine belowN ?_ _ | with_reducible refine Below.drew ?_)); all_goals (first | omega | (dsimp only; omega) | ((repeat (first | with_reducible refine le_alloc ?_ | with_reducible refine le_setCell ?_ | with_reducible refine le_drew ?_ | with_reducible refine le_drewN ?_)); omega))
theorem literal_3 : Calls Tryz.prog 69 #[vagg ⟨3, m, e, t, b, f⟩] w fun r w' => r = .returned (.bool (litP ⟨3, m, e, t, b, f⟩)) ∧ Below w.heap.size w w' := by
  obtain ⟨R, hR⟩ : ∃ R, decide ((3 : Int) = 3 ∧ 0 = m ∧ 0 = e ∧ ⟨#[]⟩ = t ∧ b = b ∧ 0 = f) = R := ⟨_, rfl⟩
  have hq : ∀ W, (binOp .eql 33 (.agg #[.int .i64 3, .int .i64 0, .int .i64 0, .string ⟨#[]⟩, .bool b, .int .i64 0]) (.agg #[.int .i64 3, .int .i64 m, .int .i64 e, .string t, .bool b, .int .i64 f])).run Tryz.prog W = .ok (.bool R) W := fun W => by
    rw [← hR]
    exact eq_v6 W ⟨3, 0, 0, ⟨#[]⟩, b, 0⟩ ⟨3, m, e, t, b, f⟩
  have HL : Hid (litP ⟨3, m, e, t, b, f⟩ = (R && true)) := by
    unfold Hid litP refR
    rw [← hR, Bool.eq_iff_iff]
    cases b <;> simp <;> grind
  clear hR
  rw [show vagg ⟨3, m, e, t, b, f⟩ = .agg #[.int .i64 3, .int .i64 m, .int .i64 e, .string t, .bool b, .int .i64 f] from rfl]
  cases R with
  | false =>
    go_enter Tryz.func69, Tryz.ntmps69
    go_wp2_with fail
    go_ret
    refine ⟨by rw [HL.out]; first | exact rfl | (refine ret_bool' ?_; simp), ?_⟩
    (repeat (first | with_reducible exact Below.refl _ _ | with_reducible exact hBW | with_reducible refine Below.setCell ?_ ?_ _ | with_reducible refine Below.alloc ?_ ?_ _ | with_reducible refine belowN ?_ _ | with_reducible refine Below.drew ?_)); all_goals (first | omega | (dsimp only; omega) | ((repeat (first | with_reducible refine le_alloc ?_ | with_reducible refine le_setCell ?_ | with_reducible refine le_drew ?_ | with_reducible refine le_drewN ?_)); omega))
  | true =>
    go_enter Tryz.func69, Tryz.ntmps69
    go_wp2_with fail
    go_ret
    refine ⟨by rw [HL.out]; first | exact rfl | (refine ret_bool' ?_; simp), ?_⟩
    (repeat (first | with_reducible exact Below.refl _ _ | with_reducible exact hBW | with_reducible refine Below.setCell ?_ ?_ _ | with_reducible refine Below.alloc ?_ ?_ _ | with_reducible refine belowN ?_ _ | with_reducible refine Below.drew ?_)); all_goals (first | omega | (dsimp only; omega) | ((repeat (first | with_reducible refine le_alloc ?_ | with_reducible refine le_setCell ?_ | with_reducible refine le_drew ?_ | with_reducible refine le_drewN ?_)); omega))
theorem literal_4 : Calls Tryz.prog 69 #[vagg ⟨4, m, e, t, b, f⟩] w fun r w' => r = .returned (.bool (litP ⟨4, m, e, t, b, f⟩)) ∧ Below w.heap.size w w' := by
  obtain ⟨R, hR⟩ : ∃ R, decide ((4 : Int) = 4 ∧ 0 = m ∧ 0 = e ∧ ⟨#[]⟩ = t ∧ false = b ∧ f = f) = R := ⟨_, rfl⟩
  have hq : ∀ W, (binOp .eql 33 (.agg #[.int .i64 4, .int .i64 0, .int .i64 0, .string ⟨#[]⟩, .bool false, .int .i64 f]) (.agg #[.int .i64 4, .int .i64 m, .int .i64 e, .string t, .bool b, .int .i64 f])).run Tryz.prog W = .ok (.bool R) W := fun W => by
    rw [← hR]
    exact eq_v6 W ⟨4, 0, 0, ⟨#[]⟩, false, f⟩ ⟨4, m, e, t, b, f⟩
  have HL : Hid (litP ⟨4, m, e, t, b, f⟩ = (R && decide (1 ≤ f ∧ f ≤ 9))) := by
    unfold Hid litP refR
    rw [← hR, Bool.eq_iff_iff]
    cases b <;> simp <;> grind
  clear hR
  rw [show vagg ⟨4, m, e, t, b, f⟩ = .agg #[.int .i64 4, .int .i64 m, .int .i64 e, .string t, .bool b, .int .i64 f] from rfl]
  cases R with
  | false =>
    go_enter Tryz.func69, Tryz.ntmps69
    go_wp2_with fail
    go_ret
    refine ⟨by rw [HL.out]; first | exact rfl | (refine ret_bool' ?_; simp), ?_⟩
    (repeat (first | with_reducible exact Below.refl _ _ | with_reducible exact hBW | with_reducible refine Below.setCell ?_ ?_ _ | with_reducible refine Below.alloc ?_ ?_ _ | with_reducible refine belowN ?_ _ | with_reducible refine Below.drew ?_)); all_goals (first | omega | (dsimp only; omega) | ((repeat (first | with_reducible refine le_alloc ?_ | with_reducible refine le_setCell ?_ | with_reducible refine le_drew ?_ | with_reducible refine le_drewN ?_)); omega))
  | true =>
    by_cases h1 : 1 ≤ f
    · by_cases h2 : f ≤ 9
      · have d1 : decide (1 ≤ f) = true := by simpa using h1
        have d2 : decide (f ≤ 9) = true := by simpa using h2
        rw [decide_eq_true ⟨h1, h2⟩] at HL
        go_enter Tryz.func69, Tryz.ntmps69
        go_wp2_with fail
        go_ret
        refine ⟨by rw [HL.out]; first | exact rfl | (refine ret_bool' ?_; simp), ?_⟩
        (repeat (first | with_reducible exact Below.refl _ _ | with_reducible exact hBW | with_reducible refine Below.setCell ?_ ?_ _ | with_reducible refine Below.alloc ?_ ?_ _ | with_reducible refine belowN ?_ _ | with_reducible refine Below.drew ?_)); all_goals (first | omega | (dsimp only; omega) | ((repeat (first | with_reducible refine le_alloc ?_ | with_reducible refine le_setCell ?_ | with_reducible refine le_drew ?_ | with_reducible refine le_drewN ?_)); omega))
      · have d1 : decide (1 ≤ f) = true := by simpa using h1
        have d2 : decide (f ≤ 9) = false := by simpa using h2
        rw [decide_eq_false (fun h => h2 h.2)] at HL
        go_enter Tryz.func69, Tryz.ntmps69
        go_wp2_with fail
        go_ret
        refine ⟨by rw [HL.out]; first | exact rfl | (refine ret_bool' ?_; simp), ?_⟩
        (repeat (first | with_reducible exact Below.refl _ _ | with_reducible exact hBW | with_reducible refine Below.setCell ?_ ?_ _ | with_reducible refine Below.alloc ?_ ?_ _ | with_reducible refine belowN ?_ _ | with_reducible refine Below.drew ?_)); all_goals (first | omega | (dsimp only; omega) | ((repeat (first | with_reducible refine le_alloc ?_ | with_reducible refine le_setCell ?_ | with_reducible refine le_drew ?_ | with_reducible refine le_drewN ?_)); omega))
    · have d1 : decide (1 ≤ f) = false := by simpa using h1
      rw [decide_eq_false (fun h => h1 h.1)] at HL
      go_enter Tryz.func69, Tryz.ntmps69
      go_wp2_with fail
      go_ret
      refine ⟨by rw [HL.out]; first | exact rfl | (refine ret_bool' ?_; simp), ?_⟩
      (repeat (first | with_reducible exact Below.refl _ _ | with_reducible exact hBW | with_reducible refine Below.setCell ?_ ?_ _ | with_reducible refine Below.alloc ?_ ?_ _ | with_reducible refine belowN ?_ _ | with_reducible refine Below.drew ?_)); all_goals (first | omega | (dsimp only; omega) | ((repeat (first | with_reducible refine le_alloc ?_ | with_reducible refine le_setCell ?_ | with_reducible refine le_drew ?_ | with_reducible refine le_drewN ?_)); omega))
theorem literal_0 (k : Int) (k1 : (k == 1) = false) (k2 : (k == 2) = false) (k3 : (k == 3) = false) (k4 : (k == 4) = false) : Calls Tryz.prog 69 #[vagg ⟨k, m, e, t, b, f⟩] w fun r w' => r = .returned (.bool (litP ⟨k, m, e, t, b, f⟩)) ∧ Below w.heap.size w w' := by
  have HL : Hid (litP ⟨k, m, e, t, b, f⟩ = false) := by
    unfold Hid litP refR
    simp at k1 k2 k3 k4
    by_cases h0 : k = 0 <;> simp [k1, k2, k3, k4, h0]
  rw [show vagg ⟨k, m, e, t, b, f⟩ = .agg #[.int .i64 k, .int .i64 m, .int .i64 e, .string t, .bool b, .int .i64 f] from rfl]
  go_enter Tryz.func69, Tryz.ntmps69
  go_wp2_with fail
  go_ret
  refine ⟨by rw [HL.out]; first | exact rfl | (refine ret_bool' ?_; simp), ?_⟩
  (repeat (first | with_reducible exact Below.refl _ _ | with_reducible exact hBW | with_reducible refine Below.setCell ?_ ?_ _ | with_reducible refine Below.alloc ?_ ?_ _ | with_reducible refine belowN ?_ _ | with_reducible refine Below.drew ?_)); all_goals (first | omega | (dsimp only; omega) | ((repeat (first | with_reducible refine le_alloc ?_ | with_reducible refine le_setCell ?_ | with_reducible refine le_drew ?_ | with_reducible refine le_drewN ?_)); omega))
end
theorem literal_any (v : V) (ht : v.t.size ≤ 1048576) (w : World) : Calls Tryz.prog 69 #[vagg v] w fun r w' => r = .returned (.bool (litP v)) ∧ Below w.heap.size w w' := by
  obtain ⟨k, m, e, t, b, f⟩ := v
  by_cases k1 : k = 1
  · subst k1; exact literal_1 m e t b f w
  by_cases k2 : k = 2
  · subst k2; exact literal_2 m e t b f w ht
  by_cases k3 : k = 3
  · subst k3; exact literal_3 m e t b f w
  by_cases k4 : k = 4
  · subst k4; exact literal_4 m e t b f w
  exact literal_0 m e t b f w k (by simpa using k1) (by simpa using k2) (by simpa using k3) (by simpa using k4)
end Go.Proofs.YtlcglkanlhmmdaaGreat
/- below; in; the signs; a range's check. -/
namespace Go.Proofs.YtlcglkanlhmmdaaGreat
open Go.RowKit
def belowP (o : Nd) : Bool := decide (o.k = 0) && decide (o.v.k = 1) && decide (o.v.m < 0)
set_option maxHeartbeats 2000000 in
set_option maxRecDepth 100000 in
theorem below_any (o : Nd) (s : Value) (w : World) : Calls Tryz.prog 40 #[nagg o s] w fun r w' => r = .returned (.bool (belowP o)) ∧ Below w.heap.size w w' := by
  by_cases h1 : o.k = 0
  · have e1 : (o.k == 0) = true := by simpa using h1
    by_cases h2 : o.v.k = 1
    · have e2 : (o.v.k == 1) = true := by simpa using h2
      by_cases h3 : o.v.m < 0
      · have e3 : decide (o.v.m < 0) = true := by simpa using h3
        have HL : Hid (belowP o = true) := by unfold Hid belowP; simp [h1, h2, h3]
        clear h1 h2 h3
        rw [nagg_eq]
        go_enter Tryz.func40, Tryz.ntmps40
        go_wp2_with fail
        go_ret
        refine ⟨by rw [HL.out]; exact rfl, ?_⟩
        (repeat (first | with_reducible exact Below.refl _ _ | with_reducible exact hBW | with_reducible refine Below.setCell ?_ ?_ _ | with_reducible refine Below.alloc ?_ ?_ _ | with_reducible refine belowN ?_ _ | with_reducible refine Below.drew ?_)); all_goals (first | omega | (dsimp only; omega) | ((repeat (first | with_reducible refine le_alloc ?_ | with_reducible refine le_setCell ?_ | with_reducible refine le_drew ?_ | with_reducible refine le_drewN ?_)); omega))
      · have e3 : decide (o.v.m < 0) = false := by simpa using h3
        have HL : Hid (belowP o = false) := by unfold Hid belowP; simp [h3]
        clear h1 h2 h3
        rw [nagg_eq]
        go_enter Tryz.func40, Tryz.ntmps40
        go_wp2_with fail
        go_ret
        refine ⟨by rw [HL.out]; exact rfl, ?_⟩
        (repeat (first | with_reducible exact Below.refl _ _ | with_reducible exact hBW | with_reducible refine Below.setCell ?_ ?_ _ | with_reducible refine Below.alloc ?_ ?_ _ | with_reducible refine belowN ?_ _ | with_reducible refine Below.drew ?_)); all_goals (first | omega | (dsimp only; omega) | ((repeat (first | with_reducible refine le_alloc ?_ | with_reducible refine le_setCell ?_ | with_reducible refine le_drew ?_ | with_reducible refine le_drewN ?_)); omega))
    · have e2 : (o.v.k == 1) = false := by simpa using h2
      have HL : Hid (belowP o = false) := by unfold Hid belowP; simp [h2]
      clear h1 h2
      rw [nagg_eq]
      go_enter Tryz.func40, Tryz.ntmps40
      go_wp2_with fail
      go_ret
      refine ⟨by rw [HL.out]; exact rfl, ?_⟩
      (repeat (first | with_reducible exact Below.refl _ _ | with_reducible exact hBW | with_reducible refine Below.setCell ?_ ?_ _ | with_reducible refine Below.alloc ?_ ?_ _ | with_reducible refine belowN ?_ _ | with_reducible refine Below.drew ?_)); all_goals (first | omega | (dsimp only; omega) | ((repeat (first | with_reducible refine le_alloc ?_ | with_reducible refine le_setCell ?_ | with_reducible refine le_drew ?_ | with_reducible refine le_drewN ?_)); omega))
  · have e1 : (o.k == 0) = false := by simpa using h1
    have HL : Hid (belowP o = false) := by unfold Hid belowP; simp [h1]
    clear h1
    rw [nagg_eq]
    go_enter Tryz.func40, Tryz.ntmps40
    go_wp2_with fail
    go_ret
    refine ⟨by rw [HL.out]; exact rfl, ?_⟩
    (repeat (first | with_reducible exact Below.refl _ _ | with_reducible exact hBW | with_reducible refine Below.setCell ?_ ?_ _ | with_reducible refine Below.alloc ?_ ?_ _ | with_reducible refine belowN ?_ _ | with_reducible refine Below.drew ?_)); all_goals (first | omega | (dsimp only; omega) | ((repeat (first | with_reducible refine le_alloc ?_ | with_reducible refine le_setCell ?_ | with_reducible refine le_drew ?_ | with_reducible refine le_drewN ?_)); omega))
/-- Texts in memory. -/
def StrsAt (w : World) (a : Option Addr) (l : List ByteArray) : Prop := 0 < l.length → ∃ b off, a = some ⟨b, off, none⟩ ∧ b < w.heap.size ∧ ∀ (i : Nat) (x : ByteArray), l[i]? = some x → w.cell? ⟨b, off + i, none⟩ = some (.string x)
theorem StrsAt.below {w w' : World} {a : Option Addr} {l : List ByteArray} (h : StrsAt w a l) (hb : Below w.heap.size w w') : StrsAt w' a l := fun h0 => by
  obtain ⟨b, off, e, h1, h2⟩ := h h0
  exact ⟨b, off, e, Nat.lt_of_lt_of_le h1 hb.size, fun i x hx => (hb.cell (p := ⟨b, _, none⟩) h1).trans (h2 i x hx)⟩
set_option maxHeartbeats 1000000 in
theorem in88_any (s : ByteArray) (l : List ByteArray) (hlen : l.length ≤ 4194304) (a : Option Addr) (cap : Nat) (w : World) (hA : StrsAt w a l) :
    Calls Tryz.prog 73 #[.string s, .slice a l.length cap] w fun e w' => e = .returned (.bool (l.any (fun x => x.toList == s.toList))) ∧ w = w' := by
  have HA := Lib.hid hA
  obtain ⟨n, hn⟩ : ∃ n, l.length = n := ⟨_, rfl⟩
  rw [hn] at hlen ⊢
  have HN := Lib.hid hn
  clear hA hn
  go_enter Tryz.func73, Tryz.ntmps73
  go_wp2_with fail
  go_loopg [5] n (fun g i wr => w = wr ∧ ∃ (k : Nat), i = .int .i64 k ∧ g = n - k ∧ k ≤ n ∧ Hid ((l.take k).any (fun x => x.toList == s.toList) = false))
  case atStart => exact ⟨rfl, 0, rfl, rfl, Nat.zero_le _, rfl⟩
  case round =>
    obtain ⟨rfl, k, rfl, rfl, hk, hE⟩ := hrel
    by_cases hlt : k < n
    · obtain ⟨x, ht⟩ : ∃ t, l[k]? = some t := ⟨_, List.getElem?_eq_getElem (by rw [HN.out]; exact hlt)⟩
      obtain ⟨b, off, rfl, hb, hall⟩ := HA.out (by rw [HN.out]; omega)
      have c0 := hall k x ht
      have HT := Lib.hid ht
      have j1 : (0 : Int) ≤ (k : Int) := by omega
      have j2 : (k : Int) < (n : Int) := by omega
      have NX : Hid ((x.toList == s.toList) = false → (l.take (k + 1)).any (fun x => x.toList == s.toList) = false) := fun h => by
        rw [List.take_add_one, HT.out, List.any_append, hE.out]
        simp only [Option.toList_some, List.any_cons, List.any_nil, h]
        rfl
      have YES : Hid ((x.toList == s.toList) = true → l.any (fun x => x.toList == s.toList) = true) := fun h => List.any_eq_true.2 ⟨x, List.mem_of_getElem? HT.out, h⟩
      clear hall ht hE
      cases hx : (x.toList == s.toList) with
      | true =>
        have Y := Lib.hid (YES.out hx)
        clear YES NX
        go_wp2_with fail
        go_ret
        exact ⟨by rw [Y.out]; rfl, rfl⟩
      | false =>
        have Y := Lib.hid (NX.out hx)
        clear YES NX
        go_wp2_with fail
        go_roundg (n - (k + 1))
        case measure => omega
        case rel => exact ⟨rfl, k + 1, by go_num, rfl, by omega, Y⟩
    · have Y : Hid (l.any (fun x => x.toList == s.toList) = false) := by
        have := hE.out
        rwa [List.take_of_length_le (by rw [HN.out]; omega)] at this
      clear hE
      go_wp2_with fail
      go_ret
      exact ⟨by rw [Y.out]; rfl, rfl⟩
set_option maxHeartbeats 1000000 in
theorem in28_any (s : ByteArray) (l : List ByteArray) (hlen : l.length ≤ 4194304) (a : Option Addr) (cap : Nat) (w : World) (hA : StrsAt w a l) :
    Calls Tryz.prog 42 #[.string s, .slice a l.length cap] w fun e w' => e = .returned (.bool (l.any (fun x => x.toList == s.toList))) ∧ w = w' := by
  have HA := Lib.hid hA
  obtain ⟨n, hn⟩ : ∃ n, l.length = n := ⟨_, rfl⟩
  rw [hn] at hlen ⊢
  have HN := Lib.hid hn
  clear hA hn
  go_enter Tryz.func42, Tryz.ntmps42
  go_wp2_with fail
  go_loopg [5] n (fun g i wr => w = wr ∧ ∃ (k : Nat), i = .int .i64 k ∧ g = n - k ∧ k ≤ n ∧ Hid ((l.take k).any (fun x => x.toList == s.toList) = false))
  case atStart => exact ⟨rfl, 0, rfl, rfl, Nat.zero_le _, rfl⟩
  case round =>
    obtain ⟨rfl, k, rfl, rfl, hk, hE⟩ := hrel
    by_cases hlt : k < n
    · obtain ⟨x, ht⟩ : ∃ t, l[k]? = some t := ⟨_, List.getElem?_eq_getElem (by rw [HN.out]; exact hlt)⟩
      obtain ⟨b, off, rfl, hb, hall⟩ := HA.out (by rw [HN.out]; omega)
      have c0 := hall k x ht
      have HT := Lib.hid ht
      have j1 : (0 : Int) ≤ (k : Int) := by omega
      have j2 : (k : Int) < (n : Int) := by omega
      have NX : Hid ((x.toList == s.toList) = false → (l.take (k + 1)).any (fun x => x.toList == s.toList) = false) := fun h => by
        rw [List.take_add_one, HT.out, List.any_append, hE.out]
        simp only [Option.toList_some, List.any_cons, List.any_nil, h]
        rfl
      have YES : Hid ((x.toList == s.toList) = true → l.any (fun x => x.toList == s.toList) = true) := fun h => List.any_eq_true.2 ⟨x, List.mem_of_getElem? HT.out, h⟩
      clear hall ht hE
      cases hx : (x.toList == s.toList) with
      | true =>
        have Y := Lib.hid (YES.out hx)
        clear YES NX
        go_wp2_with fail
        go_ret
        exact ⟨by rw [Y.out]; rfl, rfl⟩
      | false =>
        have Y := Lib.hid (NX.out hx)
        clear YES NX
        go_wp2_with fail
        go_roundg (n - (k + 1))
        case measure => omega
        case rel => exact ⟨rfl, k + 1, by go_num, rfl, by omega, Y⟩
    · have Y : Hid (l.any (fun x => x.toList == s.toList) = false) := by
        have := hE.out
        rwa [List.take_of_length_le (by rw [HN.out]; omega)] at this
      clear hE
      go_wp2_with fail
      go_ret
      exact ⟨by rw [Y.out]; rfl, rfl⟩
/-- Signs. -/
def unP (s : ByteArray) : Bool := (s.toList == [45]) || (s.toList == [43]) || (s.toList == [37])
theorem unary_any (s : ByteArray) (w : World) : Calls Tryz.prog 55 #[.string s] w fun e w' => e = .returned (.bool (unP s)) ∧ w = w' := by
  unfold unP
  cases h1 : (s.toList == [45]) <;> cases h2 : (s.toList == [43]) <;> cases h3 : (s.toList == [37])
  all_goals
    go_enter Tryz.func55, Tryz.ntmps55
    go_wp2
    go_ret
    exact ⟨by first | exact rfl | (rw [h1, h2, h3]; exact rfl), rfl⟩
def binL : List (List UInt8) := [[43], [45], [42], [47], [94], [38], [61], [60, 62], [60], [60, 61], [62], [62, 61]]
def binP (s : ByteArray) : Bool := binL.any (fun x => s.toList == x)
set_option maxHeartbeats 1000000 in
theorem binary_any (s : ByteArray) (w : World) : Calls Tryz.prog 56 #[.string s] w fun e w' => e = .returned (.bool (binP s)) ∧ w = w' := by
  go_enter Tryz.func56, Tryz.ntmps56
  cases h1 : (s.toList == [43])
  case true =>
    have Y : Hid (binP s = true) := by unfold Hid binP binL; simp [h1]
    go_wp2_with fail
    go_ret
    exact ⟨by rw [Y.out]; exact rfl, rfl⟩
  cases h2 : (s.toList == [45])
  case true =>
    have Y : Hid (binP s = true) := by unfold Hid binP binL; simp [h2]
    go_wp2_with fail
    go_ret
    exact ⟨by rw [Y.out]; exact rfl, rfl⟩
  cases h3 : (s.toList == [42])
  case true =>
    have Y : Hid (binP s = true) := by unfold Hid binP binL; simp [h3]
    go_wp2_with fail
    go_ret
    exact ⟨by rw [Y.out]; exact rfl, rfl⟩
  cases h4 : (s.toList == [47])
  case true =>
    have Y : Hid (binP s = true) := by unfold Hid binP binL; simp [h4]
    go_wp2_with fail
    go_ret
    exact ⟨by rw [Y.out]; exact rfl, rfl⟩
  cases h5 : (s.toList == [94])
  case true =>
    have Y : Hid (binP s = true) := by unfold Hid binP binL; simp [h5]
    go_wp2_with fail
    go_ret
    exact ⟨by rw [Y.out]; exact rfl, rfl⟩
  cases h6 : (s.toList == [38])
  case true =>
    have Y : Hid (binP s = true) := by unfold Hid binP binL; simp [h6]
    go_wp2_with fail
    go_ret
    exact ⟨by rw [Y.out]; exact rfl, rfl⟩
  cases h7 : (s.toList == [61])
  case true =>
    have Y : Hid (binP s = true) := by unfold Hid binP binL; simp [h7]
    go_wp2_with fail
    go_ret
    exact ⟨by rw [Y.out]; exact rfl, rfl⟩
  cases h8 : (s.toList == [60, 62])
  case true =>
    have Y : Hid (binP s = true) := by unfold Hid binP binL; simp [h8]
    go_wp2_with fail
    go_ret
    exact ⟨by rw [Y.out]; exact rfl, rfl⟩
  cases h9 : (s.toList == [60])
  case true =>
    have Y : Hid (binP s = true) := by unfold Hid binP binL; simp [h9]
    go_wp2_with fail
    go_ret
    exact ⟨by rw [Y.out]; exact rfl, rfl⟩
  cases h10 : (s.toList == [60, 61])
  case true =>
    have Y : Hid (binP s = true) := by unfold Hid binP binL; simp [h10]
    go_wp2_with fail
    go_ret
    exact ⟨by rw [Y.out]; exact rfl, rfl⟩
  cases h11 : (s.toList == [62])
  case true =>
    have Y : Hid (binP s = true) := by unfold Hid binP binL; simp [h11]
    go_wp2_with fail
    go_ret
    exact ⟨by rw [Y.out]; exact rfl, rfl⟩
  cases h12 : (s.toList == [62, 61])
  case true =>
    have Y : Hid (binP s = true) := by unfold Hid binP binL; simp [h12]
    go_wp2_with fail
    go_ret
    exact ⟨by rw [Y.out]; exact rfl, rfl⟩
  have Y : Hid (binP s = false) := by unfold Hid binP binL; simp only [List.any_cons, List.any_nil, h1, h2, h3, h4, h5, h6, h7, h8, h9, h10, h11, h12, Bool.or_false]
  go_wp2_with fail
  go_ret
  exact ⟨by rw [Y.out]; exact rfl, rfl⟩
end Go.Proofs.YtlcglkanlhmmdaaGreat
