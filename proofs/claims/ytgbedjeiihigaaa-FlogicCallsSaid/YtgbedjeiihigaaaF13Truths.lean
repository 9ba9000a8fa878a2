/- AND, OR, XOR: the function that truths makes. -/
import Derived.Test.YtgbedjeiihigaaaF13Right
namespace Go.Proofs.Ytgbedjeiihigaaa
open Go.RowKit
/-- Capital letters. -/
def upB (c : UInt8) : UInt8 := if 97 ≤ c ∧ c ≤ 122 then c - 97 + 65 else c
def upL (l : List UInt8) : List UInt8 := l.map upB
def TT (v : V) : Bool × Int := if v.k = 2 then (if upL v.t.data.toList = [84, 82, 85, 69] then (true, 0) else if upL v.t.data.toList = [70, 65, 76, 83, 69] then (false, 0) else (false, 2)) else toT v
def TOk (v : V) : Prop := ∀ W : World, Calls Try.prog 52 #[vagg v] W fun e w' => e = .returned (.tuple #[.bool (TT v).1, .int .i64 (TT v).2]) ∧ Below W.heap.size W w'
theorem tok_plain {v : V} (h : v.k ≠ 2) : TOk v := fun W => by
  unfold TT
  rw [if_neg h]
  exact totruth_plain v h W
/-- How many are true, how many there are; or a fault. -/
def scan : List V → Int → Int → Except Int (Int × Int)
  | [], y, a => .ok (y, a)
  | v :: r, y, a => if (TT v).2 ≠ 0 then .error (TT v).2 else if v.k = 0 then scan r y a else scan r (if (TT v).1 then y + 1 else y) (a + 1)
theorem scan_append (l r : List V) (y a : Int) : scan (l ++ r) y a = match scan l y a with | .ok p => scan r p.1 p.2 | .error f => .error f := by
  induction l generalizing y a with
  | nil => rfl
  | cons v l ih =>
    simp only [List.cons_append, scan]
    split
    · rfl
    · split
      · exact ih _ _
      · exact ih _ _
/-- A slice of arrays in memory. -/
def ArgsAt (B : Nat) (w : World) (a : Option Addr) (l : List Arr) : Prop :=
  0 < l.length → ∃ b off, a = some ⟨b, off, none⟩ ∧ B ≤ b ∧ b < w.heap.size ∧ ∀ i A, l[i]? = some A → ∃ a' cap', w.cell? ⟨b, off + i * 3, none⟩ = some (.int .i64 A.r) ∧ w.cell? ⟨b, off + i * 3 + 1, none⟩ = some (.int .i64 A.c) ∧ w.cell? ⟨b, off + i * 3 + 2, none⟩ = some (.slice a' A.l.length cap') ∧ SlB B w a' A.l
theorem ArgsAt.below {B : Nat} {w w' : World} {a : Option Addr} {l : List Arr} (h : ArgsAt B w a l) (hb : Below w.heap.size w w') : ArgsAt B w' a l := fun h0 => by
  obtain ⟨b, off, e, h1, h2, h3⟩ := h h0
  refine ⟨b, off, e, h1, Nat.lt_of_lt_of_le h2 hb.size, fun i A hA => ?_⟩
  obtain ⟨a', cap', c0, c1, c2, hs⟩ := h3 i A hA
  exact ⟨a', cap', (hb.cell (p := ⟨b, off + i * 3, none⟩) h2).trans c0, (hb.cell (p := ⟨b, off + i * 3 + 1, none⟩) h2).trans c1, (hb.cell (p := ⟨b, off + i * 3 + 2, none⟩) h2).trans c2, hs.below hb⟩
def allV (l : List Arr) : List V := l.flatMap (·.l)
theorem allV_snoc (l : List Arr) (A : Arr) : allV (l ++ [A]) = allV l ++ A.l := by simp [allV]
def truthsV (fn : Int → Int → Bool) (l : List Arr) : V := match scan (allV l) 0 0 with
  | .error f => vBad f
  | .ok p => if p.2 = 0 then vBad 2 else vTruth (fn p.1 p.2)
/-- A function value that counts yes and all. -/
def FnOk (g : Nat) (fn : Int → Int → Bool) : Prop := ∀ (y a : Int) (W : World), 0 ≤ y → y ≤ a → a ≤ 1000000 → Calls Try.prog g #[.int .i64 y, .int .i64 a] W fun e w' => e = .returned (.bool (fn y a)) ∧ W = w'
set_option maxHeartbeats 400000 in
theorem fn_and : FnOk 32 (fun y a => decide (y = a)) := fun y a W h1 h2 h3 => by
  go_enter Try.func32, Try.ntmps32
  go_wp2
  go_ret
  exact ⟨by by_cases h : y = a <;> simp [h], rfl⟩
set_option maxHeartbeats 400000 in
theorem fn_or : FnOk 33 (fun y _ => decide (0 < y)) := fun y a W h1 h2 h3 => by
  go_enter Try.func33, Try.ntmps33
  go_wp2
  go_ret
  exact ⟨by simp, rfl⟩
set_option maxHeartbeats 400000 in
theorem fn_xor : FnOk 34 (fun y _ => decide (y % 2 = 1)) := fun y a W h1 h2 h3 => by
  go_enter Try.func34, Try.ntmps34
  go_wp2
  go_ret
  exact ⟨by by_cases h : y % 2 = 1 <;> simp [h], rfl⟩
end Go.Proofs.Ytgbedjeiihigaaa
