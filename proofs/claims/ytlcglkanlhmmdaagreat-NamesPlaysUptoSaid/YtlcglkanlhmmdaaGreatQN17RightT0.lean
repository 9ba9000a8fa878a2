/- When a node is right where it stands, kind by kind: plain. -/
import Derived.Test.YtlcglkanlhmmdaaGreatQN17Own
namespace Go.Proofs.YtlcglkanlhmmdaaGreat
open Go.RowKit
section
variable (o : Nd) (l : List T) (above : Int)
theorem okT_of {A B : Bool} {m : Nd} (e1 : okR o l = A) (e2 : mO o = m) (e3 : ((decide (o.k ≠ 9) || decide (above = 4)) && (decide (o.k ≠ 0) || decide (above = 8) || decide (0 ≤ o.v.m))) = B) :
    okT o l above = (A && B && decide (o = m)) := by
  unfold okT ownP
  rw [e1, e2, Bool.and_assoc, e3]
  cases A <;> cases B <;> cases decide (o = m) <;> rfl
theorem okT_0 (h : o.k = 0) : okT o l above = (litP o.v && (decide (above = 8) || decide (0 ≤ o.v.m)) && (decide (o = { nd0 with k := o.k, v := o.v }) && decide (l.length = 0))) := by
  rw [okT_of o l above (A := litP o.v && decide (l.length = 0)) (B := decide (above = 8) || decide (0 ≤ o.v.m)) (m := { nd0 with k := o.k, v := o.v }) (by unfold okR; simp [h]) (by unfold mO; simp [h]) (by simp [h])]
  generalize decide (o = _) = X
  generalize litP o.v = Y
  generalize decide (l.length = 0) = Z
  generalize (decide (above = 8) || decide (0 ≤ o.v.m)) = U
  cases X <;> cases Y <;> cases Z <;> cases U <;> rfl
theorem okT_1 (h : o.k = 1 ∨ o.k = 3) : okT o l above = (oneP o.a && (decide (o = { nd0 with k := o.k, a := o.a }) && decide (l.length = 0))) := by
  have h0 : o.k ≠ 0 := by omega
  have h9 : o.k ≠ 9 := by omega
  rw [okT_of o l above (A := oneP o.a && decide (l.length = 0)) (B := true) (m := { nd0 with k := o.k, a := o.a }) (by unfold okR; rw [if_neg h0, if_pos h]) (by unfold mO; rw [if_neg h0, if_pos h]) (by simp [h0, h9])]
  generalize decide (o = _) = X
  generalize oneP o.a = Y
  generalize decide (l.length = 0) = Z
  cases X <;> cases Y <;> cases Z <;> rfl
theorem okT_2 (h : o.k = 2) : okT o l above = (rangeP o.a o.b && (decide (o = { nd0 with k := o.k, a := o.a, b := o.b }) && decide (l.length = 0))) := by
  rw [okT_of o l above (A := rangeP o.a o.b && decide (l.length = 0)) (B := true) (m := { nd0 with k := o.k, a := o.a, b := o.b }) (by unfold okR; simp [h]) (by unfold mO; simp [h]) (by simp [h])]
  generalize decide (o = _) = X
  generalize rangeP o.a o.b = Y
  generalize decide (l.length = 0) = Z
  cases X <;> cases Y <;> cases Z <;> rfl
theorem okT_4 (h : o.k = 4) : okT o l above = (callP (bl o.nm) && decide (l.length ≤ 32) && (decide (l.length ≠ 1) || decide (fk l ≠ 9)) && decide (o = { nd0 with k := o.k, nm := o.nm })) := by
  rw [okT_of o l above (A := callP (bl o.nm) && decide (l.length ≤ 32) && (decide (l.length ≠ 1) || decide (fk l ≠ 9))) (B := true) (m := { nd0 with k := o.k, nm := o.nm }) (by unfold okR; simp [h]) (by unfold mO; simp [h]) (by simp [h]), Bool.and_true]
theorem okT_5 (h : o.k = 5) : okT o l above = (unP o.nm && decide (l.length = 1) && decide (o = { nd0 with k := o.k, nm := o.nm })) := by
  rw [okT_of o l above (A := unP o.nm && decide (l.length = 1)) (B := true) (m := { nd0 with k := o.k, nm := o.nm }) (by unfold okR; simp [h]) (by unfold mO; simp [h]) (by simp [h]), Bool.and_true]
theorem okT_6 (h : o.k = 6) : okT o l above = (binP o.nm && decide (l.length = 2) && decide (o = { nd0 with k := o.k, nm := o.nm })) := by
  rw [okT_of o l above (A := binP o.nm && decide (l.length = 2)) (B := true) (m := { nd0 with k := o.k, nm := o.nm }) (by unfold okR; simp [h]) (by unfold mO; simp [h]) (by simp [h]), Bool.and_true]
theorem okT_7 (h : o.k = 7) : okT o l above = (nameP o.nm && (decide (o = { nd0 with k := o.k, nm := o.nm }) && decide (l.length = 0))) := by
  rw [okT_of o l above (A := nameP o.nm && decide (l.length = 0)) (B := true) (m := { nd0 with k := o.k, nm := o.nm }) (by unfold okR; simp [h]) (by unfold mO; simp [h]) (by simp [h])]
  generalize decide (o = _) = X
  generalize nameP o.nm = Y
  generalize decide (l.length = 0) = Z
  cases X <;> cases Y <;> cases Z <;> rfl
theorem okT_8 (h : o.k = 8) : okT o l above = (decide (1 ≤ o.rows) && decide (1 ≤ l.length) && decide ((l.length : Int).tmod o.rows = 0) && decide (o = { nd0 with k := o.k, rows := o.rows })) := by
  rw [okT_of o l above (A := decide (1 ≤ o.rows) && decide (1 ≤ l.length) && decide ((l.length : Int).tmod o.rows = 0)) (B := true) (m := { nd0 with k := o.k, rows := o.rows }) (by unfold okR; simp [h]) (by unfold mO; simp [h]) (by simp [h]), Bool.and_true]
theorem okT_9 (h : o.k = 9) : okT o l above = (decide (above = 4) && (decide (o = { nd0 with k := o.k }) && decide (l.length = 0))) := by
  rw [okT_of o l above (A := decide (l.length = 0)) (B := decide (above = 4)) (m := { nd0 with k := o.k }) (by unfold okR; simp [h]) (by unfold mO; simp [h]) (by simp [h])]
  generalize decide (o = _) = X
  generalize decide (above = 4) = Y
  generalize decide (l.length = 0) = Z
  cases X <;> cases Y <;> cases Z <;> rfl
theorem okT_no (h0 : o.k ≠ 0) (h1 : o.k ≠ 1) (h2 : o.k ≠ 2) (h3 : o.k ≠ 3) (h4 : o.k ≠ 4) (h5 : o.k ≠ 5) (h6 : o.k ≠ 6) (h7 : o.k ≠ 7) (h8 : o.k ≠ 8) (h9 : o.k ≠ 9) : okT o l above = false := by
  unfold okT ownP okR
  simp [h0, h1, h2, h3, h4, h5, h6, h7, h8, h9]
end
def kidT (o : Nd) (c : T) : Bool := (decide (o.k ≠ 8) || decide (c.o.k = 0)) && rightT c o.k
end Go.Proofs.YtlcglkanlhmmdaaGreat
