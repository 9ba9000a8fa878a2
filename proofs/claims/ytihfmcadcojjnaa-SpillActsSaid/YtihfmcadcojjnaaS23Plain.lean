/- What a board is, in plain words, and what its functions make of it. -/
import Derived.Test.YtihfmcadcojjnaaBase
namespace Go.Proofs.Ytihfmcadcojjnaa
open Go.RowKit
abbrev P2 := Int × Int
abbrev R4 := Int × Int × Int × Int
structure Ver where
  r : Int
  c : Int
  rs : Int
  cs : Int
  st : Bool
  kn : Bool
  br : Int
  bc : Int
deriving DecidableEq
structure G where
  rows : Int
  cols : Int
  F : List (P2 × Bool)
  L : List Ver
  A : List (P2 × Int)
  O : List (P2 × R4)
def clamp (n : Int) : Int := if n < 0 then 0 else if 1000 < n then 1000 else n
theorem clamp_bd (n : Int) : 0 ≤ clamp n ∧ clamp n ≤ 1000 := by unfold clamp; split <;> (try split) <;> omega
def gNew (rows cols : Int) : G := ⟨clamp rows, clamp cols, [], [], [], []⟩
def G.has (g : G) (r c : Int) : Bool := decide (0 ≤ r) && decide (r < g.rows) && decide (0 ≤ c) && decide (c < g.cols)
theorem G.has_iff {g : G} {r c : Int} : g.has r c = true ↔ 0 ≤ r ∧ r < g.rows ∧ 0 ≤ c ∧ c < g.cols := by
  simp [G.has, and_assoc]
def okFill (g : G) (r c : Int) : Bool := g.has r c && g.L.isEmpty
def gFill (g : G) (r c : Int) : G := if okFill g r c then { g with F := putL g.F (r, c) true } else g
def blocked (g : G) (q : R4) (p : P2) : Bool :=
  (match getL g.O p with | some o => decide (o ≠ q) | none => false) || ((getL g.F p).getD false && decide (p ≠ (q.1, q.2.1)))
def rowOf (r c : Int) (cs : Nat) (i : Nat) : List P2 := (List.range cs).map fun (j : Nat) => (r + (i : Int), c + (j : Int))
def cellsOf (r c : Int) (rs cs : Nat) : List P2 := (List.range rs).flatMap fun i => rowOf r c cs i
def beyond (g : G) (r c rs cs : Int) : Bool := decide (g.rows - r < rs) || decide (g.cols - c < cs)
def gJudge (g : G) (r c rs cs : Int) : Ver :=
  if beyond g r c rs cs then ⟨r, c, rs, cs, false, false, 0, 0⟩ else
  match (cellsOf r c rs.toNat cs.toNat).find? (blocked g (r, c, rs, cs)) with
  | some p => ⟨r, c, rs, cs, false, true, p.1, p.2⟩
  | none => ⟨r, c, rs, cs, true, false, 0, 0⟩
def gErr (g : G) (r c rs cs : Int) : Int :=
  if g.has r c = false ∨ rs < 1 ∨ cs < 1 ∨ 4096 / cs < rs then 2
  else if (getL g.F (r, c)).getD false = false then 3
  else if (getL g.A (r, c)).isSome then 4 else 0
def own (o : List (P2 × R4)) (q : R4) (l : List P2) : List (P2 × R4) := l.foldl (fun o p => putL o p q) o
def gDecide (g : G) (r c rs cs : Int) : G :=
  if gErr g r c rs cs = 0 then
    { g with A := putL g.A (r, c) (g.L.length : Int), L := g.L ++ [gJudge g r c rs cs],
             O := if (gJudge g r c rs cs).st then own g.O (r, c, rs, cs) (cellsOf r c rs.toNat cs.toNat) else g.O }
  else g
def gStands (g : G) (r c rs cs : Int) : Bool := decide (gErr g r c rs cs = 0) && (gJudge g r c rs cs).st
def cellsV (v : Ver) : List Value := [.int .i64 v.r, .int .i64 v.c, .int .i64 v.rs, .int .i64 v.cs, .bool v.st, .bool v.kn, .int .i64 v.br, .int .i64 v.bc]
theorem cellsV_len (l : List Ver) : (l.flatMap cellsV).length = l.length * 8 := by
  induction l with
  | nil => rfl
  | cons a r ih => simp [List.flatMap_cons, ih, cellsV]; omega

theorem flat_get (l : List Ver) (n i : Nat) (v : Ver) (h : l[n]? = some v) (hi : i < 8) : (l.flatMap cellsV)[n * 8 + i]? = (cellsV v)[i]? := by
  induction l generalizing n with
  | nil => simp at h
  | cons a r ih =>
    rw [List.flatMap_cons]
    have ha : (cellsV a).length = 8 := rfl
    cases n with
    | zero =>
      simp at h
      subst h
      rw [List.getElem?_append_left (by omega)]
      simp
    | succ m =>
      simp only [List.getElem?_cons_succ] at h
      rw [List.getElem?_append_right (by omega), ← ih m h, ha]
      congr 1
      omega
theorem cellsOf_succ (r c : Int) (i cs : Nat) : cellsOf r c (i + 1) cs = cellsOf r c i cs ++ rowOf r c cs i := by
  simp [cellsOf, List.range_succ, List.flatMap_append]
theorem rowOf_succ (r c : Int) (j i : Nat) : rowOf r c (j + 1) i = rowOf r c j i ++ [(r + (i : Int), c + (j : Int))] := by
  simp [rowOf, List.range_succ]
theorem cellsOf_split (r c : Int) {i rs : Nat} (cs : Nat) (h : i < rs) : ∃ post, cellsOf r c rs cs = cellsOf r c i cs ++ rowOf r c cs i ++ post := by
  induction rs with
  | zero => omega
  | succ n ih =>
    rw [cellsOf_succ]
    by_cases hi : i = n
    · subst hi; exact ⟨[], by simp⟩
    · obtain ⟨post, hp⟩ := ih (by omega)
      exact ⟨post ++ rowOf r c cs n, by rw [hp]; simp⟩
theorem rowOf_split (r c : Int) {j cs : Nat} (i : Nat) (h : j < cs) : ∃ post, rowOf r c cs i = rowOf r c j i ++ (r + (i : Int), c + (j : Int)) :: post := by
  induction cs with
  | zero => omega
  | succ n ih =>
    rw [rowOf_succ]
    by_cases hi : j = n
    · subst hi; exact ⟨[], by simp⟩
    · obtain ⟨post, hp⟩ := ih (by omega)
      exact ⟨post ++ [(r + (i : Int), c + (n : Int))], by rw [hp]; simp⟩
/-- Nothing bars among these cells. -/
def Free (g : G) (q : R4) (l : List P2) : Prop := ∀ x ∈ l, blocked g q x = false
theorem find_at {f : P2 → Bool} {pre post : List P2} {x : P2} (hp : ∀ y ∈ pre, f y = false) (hx : f x = true) : (pre ++ x :: post).find? f = some x := by
  induction pre with
  | nil => simp [hx]
  | cons a r ih =>
    simp only [List.cons_append, List.find?_cons, hp a (by simp)]
    exact ih (fun y hy => hp y (List.mem_cons_of_mem _ hy))
theorem judge_found {g : G} {r c rs cs : Int} (hb : beyond g r c rs cs = false) {i j : Nat} (hi : i < rs.toNat) (hj : j < cs.toNat)
    (h1 : Free g (r, c, rs, cs) (cellsOf r c i cs.toNat)) (h2 : Free g (r, c, rs, cs) (rowOf r c j i)) (hx : blocked g (r, c, rs, cs) (r + (i : Int), c + (j : Int)) = true) :
    gJudge g r c rs cs = ⟨r, c, rs, cs, false, true, r + (i : Int), c + (j : Int)⟩ := by
  obtain ⟨p1, e1⟩ := cellsOf_split r c cs.toNat hi
  obtain ⟨p2, e2⟩ := rowOf_split r c i hj
  have hf : (cellsOf r c rs.toNat cs.toNat).find? (blocked g (r, c, rs, cs)) = some (r + (i : Int), c + (j : Int)) := by
    rw [e1, e2, ← List.append_assoc, List.append_assoc, List.cons_append]
    refine find_at (fun y hy => ?_) hx
    rcases List.mem_append.1 hy with h | h
    · exact h1 y h
    · exact h2 y h
  unfold gJudge
  rw [hb, hf]
  rfl
theorem judge_free {g : G} {r c rs cs : Int} (hb : beyond g r c rs cs = false) (h1 : Free g (r, c, rs, cs) (cellsOf r c rs.toNat cs.toNat)) :
    gJudge g r c rs cs = ⟨r, c, rs, cs, true, false, 0, 0⟩ := by
  have hf : (cellsOf r c rs.toNat cs.toNat).find? (blocked g (r, c, rs, cs)) = none := by
    rw [List.find?_eq_none]
    intro x hx
    simp [h1 x hx]
  unfold gJudge
  rw [hb, hf]
  rfl
theorem Free.row {g : G} {q : R4} {r c : Int} {j i : Nat} (h : Free g q (rowOf r c j i)) (hx : blocked g q (r + (i : Int), c + (j : Int)) = false) : Free g q (rowOf r c (j + 1) i) := by
  rw [rowOf_succ]
  intro x hx'
  rcases List.mem_append.1 hx' with h' | h'
  · exact h x h'
  · rw [List.mem_singleton.1 h']; exact hx
theorem Free.cells {g : G} {q : R4} {r c : Int} {i cs : Nat} (h : Free g q (cellsOf r c i cs)) (h2 : Free g q (rowOf r c cs i)) : Free g q (cellsOf r c (i + 1) cs) := by
  rw [cellsOf_succ]
  intro x hx'
  rcases List.mem_append.1 hx' with h' | h'
  · exact h x h'
  · exact h2 x h'
end Go.Proofs.Ytihfmcadcojjnaa
