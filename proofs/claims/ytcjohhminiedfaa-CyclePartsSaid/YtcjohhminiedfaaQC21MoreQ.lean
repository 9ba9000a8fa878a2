/- CycleMore, CycleTurned: maps of numbers, rows read, remainders. -/
import Derived.Test.YtcjohhminiedfaaQC21MoreP
namespace Go.Proofs.Ytcjohhminiedfaa
open Go.RowKit
theorem int52 : KeyFits Try.prog 3 (fun n : Int => Value.int .i64 n) := int_fits Try.underlying3
/-- A map that has these numbers, and no others. -/
def SetI (w : World) (mb : Nat) (l : List Nat) : Prop := ∃ M : List (Int × Bool), MapIs w mb (fun n : Int => Value.int .i64 n) Value.bool M ∧ ∀ y : Int, getL M y = if y ∈ l.map (fun x : Nat => (x : Int)) then some true else none
theorem SetI.new (w : World) : SetI (w.alloc (.map #[] 0)) w.heap.size [] := ⟨[], MapIs.new w _ _, fun _ => rfl⟩
theorem SetI.lt {w : World} {mb : Nat} {l : List Nat} (h : SetI w mb l) : mb < w.heap.size := by
  obtain ⟨M, h1, _⟩ := h
  exact h1.lt
theorem SetI.keep {w w' : World} {mb : Nat} {l : List Nat} (h : SetI w mb l) (hk : w'.heap[mb]? = w.heap[mb]?) : SetI w' mb l := by
  obtain ⟨M, h1, h2⟩ := h
  exact ⟨M, h1.of_block hk, h2⟩
theorem SetI.put {w : World} {mb : Nat} {l : List Nat} (h : SetI w mb l) (x : Nat) : ∃ w', (Instr.mapUpdate 52 (.map (some mb)) (.int .i64 (x : Int)) (.bool true)).run Try.prog w = .ok () w' ∧ SetI w' mb (l ++ [x]) ∧ Fr (fun k => k = mb) w w' ∧ w'.heap.size = w.heap.size := by
  obtain ⟨M, h1, h2⟩ := h
  obtain ⟨w', u1, u2, u3, u4⟩ := h1.upd int52 Try.underlying52 (x : Int) true
  refine ⟨w', u1, ⟨_, u2, fun y => ?_⟩, u3, u4⟩
  rw [getL_putL, h2]
  by_cases e : (x : Int) = y
  · rw [if_pos e, if_pos (by simp [e])]
  · rw [if_neg e]
    have : y ∈ (l ++ [x]).map (fun x : Nat => (x : Int)) ↔ y ∈ l.map (fun x : Nat => (x : Int)) := by simp [Ne.symm e]
    simp only [this]
theorem SetI.get {w : World} {mb : Nat} {l : List Nat} (h : SetI w mb l) (x : Nat) : (Instr.lookup 52 (.map (some mb)) (.int .i64 (x : Int)) false).run Try.prog w = .ok (.bool (decide (x ∈ l))) w := by
  obtain ⟨M, h1, h2⟩ := h
  have hl := h1.look1 int52 Try.underlying52 (zero4 w) (x : Int)
  rw [hl, h2]
  by_cases e : x ∈ l
  · rw [if_pos (List.mem_map.2 ⟨x, e, rfl⟩)]
    simp [e]
  · rw [if_neg (fun h => by
      obtain ⟨y, hy, e2⟩ := List.mem_map.1 h
      have : y = x := by omega
      exact e (this ▸ hy))]
    simp [e]
theorem GrE.belowK {K H n : Nat} {w w' : World} {G : Gb} {E : List (Nat × Nat)} (h : GrE K w G n E) (hb : Below H w w') (hH : ∀ k, G.has k → k < H) : GrE K w' G n E := GrD.belowK h hb hH
theorem IR.at {B : Nat} {w : World} {a : Option Addr} {c n : Nat} {l : List Nat} (h : IR B w (.slice a n c) l) {j x : Nat} (hx : l[j]? = some x) : ∃ g, a = some ⟨g, 0, none⟩ ∧ g < w.heap.size ∧ w.cell? ⟨g, j, none⟩ = some (.int .i64 (x : Int)) := by
  obtain ⟨a', c', e, _, h1⟩ := h.slice
  injection e with e1 _ _
  obtain ⟨g, e2, _, z, _, hc⟩ := h1 (by have := (List.getElem?_eq_some_iff.1 hx).1; omega)
  exact ⟨g, e1.trans e2, z, hc j x hx⟩
theorem mod31 {v : Int} (h0 : 0 ≤ v) : ∃ n : Nat, n ≤ 30 ∧ v % 31 = (n : Int) ∧ v.tmod 31 = (n : Int) := ⟨(v % 31).toNat, by omega, by omega, by rw [Int.tmod_eq_emod_of_nonneg h0]; omega⟩
end Go.Proofs.Ytcjohhminiedfaa
