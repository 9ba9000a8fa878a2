/- A board in memory. -/
import Derived.Test.YtihfmcadcojjnaaS23Types
import Derived.Test.YtihfmcadcojjnaaS23Plain
namespace Go.Proofs.Ytihfmcadcojjnaa
open Go.RowKit
/-- Block p is a board that reads as g; its blocks lie in S. -/
structure BdX (w : World) (p : Nat) (S : Nat → Prop) (g : G) (bf ba bo : Nat) (sv : Value) : Prop where
  head : w.heap[p]? = some (.cells #[.int .i64 g.rows, .int .i64 g.cols, .map (some bf), sv, .map (some ba), .map (some bo)] 69 (0, 0))
  mf : MapIs w bf encP Value.bool g.F
  ma : MapIs w ba encP (Value.int .i64) g.A
  mo : MapIs w bo encP encR g.O
  row : w.ownsRow 0 75 8 sv g.L.length (g.L.flatMap cellsV)
  sp : S p
  sf : S bf
  sa : S ba
  so : S bo
  sr : ∀ k, sv.ownBlock = some k → S k
  d1 : bf ≠ ba
  d2 : bf ≠ bo
  d3 : ba ≠ bo
  lt : ∀ k, S k → k < w.heap.size
  b1 : 0 ≤ g.rows
  b2 : g.rows ≤ 1000
  b3 : 0 ≤ g.cols
  b4 : g.cols ≤ 1000
def IsBd (w : World) (p : Nat) (S : Nat → Prop) (g : G) : Prop := ∃ bf ba bo sv, BdX w p S g bf ba bo sv

theorem ownsRow_of_block {w w' : World} {base : Nat} {e : TypeId} {size : Nat} {v : Value} {n : Nat} {xs : List Value} (h : w.ownsRow base e size v n xs) (hb : ∀ k, v.ownBlock = some k → w'.heap[k]? = w.heap[k]?) : w'.ownsRow base e size v n xs := by
  obtain ⟨h1, h2⟩ := h
  refine ⟨h1, ?_⟩
  rcases h2 with h2 | ⟨g, cap, cur, hv, hg, hh, r⟩
  · exact Or.inl h2
  · exact Or.inr ⟨g, cap, cur, hv, hg, by rw [hb g (by rw [hv]; rfl)]; exact hh, r⟩

theorem BdX.frame {w w' : World} {p : Nat} {S S' : Nat → Prop} {g : G} {bf ba bo : Nat} {sv : Value} (h : BdX w p S g bf ba bo sv) (hf : Fr S' w w') (hd : ∀ k, S k → S' k → False) : BdX w' p S g bf ba bo sv := by
  have hb : ∀ k, S k → w'.heap[k]? = w.heap[k]? := fun k hk => hf.block k (h.lt k hk) (fun h' => hd k hk h')
  exact { h with
    head := (hb p h.sp).trans h.head
    mf := h.mf.of_block (hb _ h.sf)
    ma := h.ma.of_block (hb _ h.sa)
    mo := h.mo.of_block (hb _ h.so)
    row := ownsRow_of_block h.row (fun k hk => hb k (h.sr k hk))
    lt := fun k hk => Nat.lt_of_lt_of_le (h.lt k hk) hf.size }
theorem BdX.below {w w' : World} {p : Nat} {S : Nat → Prop} {g : G} {bf ba bo : Nat} {sv : Value} (h : BdX w p S g bf ba bo sv) (hf : Below w.heap.size w w') : BdX w' p S g bf ba bo sv :=
  h.frame (S' := fun _ => False) (.of_below hf) (fun _ _ h => h)
theorem IsBd.frame {w w' : World} {p : Nat} {S S' : Nat → Prop} {g : G} (h : IsBd w p S g) (hf : Fr S' w w') (hd : ∀ k, S k → S' k → False) : IsBd w' p S g := by
  obtain ⟨bf, ba, bo, sv, h⟩ := h
  exact ⟨bf, ba, bo, sv, h.frame hf hd⟩
theorem IsBd.below {w w' : World} {p : Nat} {S : Nat → Prop} {g : G} (h : IsBd w p S g) (hf : Below w.heap.size w w') : IsBd w' p S g :=
  h.frame (S' := fun _ => False) (.of_below hf) (fun _ _ h => h)

section
variable {w w2 : World} {p : Nat} {S : Nat → Prop} {g : G} {bf ba bo : Nat} {sv : Value}
theorem BdX.p_ne {b : Nat} {κ ν : Type} {enc : κ → Value} {ve : ν → Value} {l : List (κ × ν)} (H : BdX w p S g bf ba bo sv) (hm : MapIs w b enc ve l) : p ≠ b := fun e => by
  obtain ⟨es, cl, he, _⟩ := hm
  have := H.head
  rw [e, he] at this
  cases this
theorem BdX.row_ne {b k : Nat} {κ ν : Type} {enc : κ → Value} {ve : ν → Value} {l : List (κ × ν)} (H : BdX w p S g bf ba bo sv) (hm : MapIs w b enc ve l) (hk : sv.ownBlock = some k) : k ≠ b := fun e => by
  obtain ⟨es, cl, he, _⟩ := hm
  rcases H.row.2 with ⟨h, _⟩ | ⟨g0, cap0, cur, hv, _, hh0, _⟩
  · rw [h] at hk; cases hk
  · rw [hv] at hk
    simp [Value.ownBlock] at hk
    subst hk
    rw [e, he] at hh0
    cases hh0
theorem BdX.row_ne_p {k : Nat} (H : BdX w p S g bf ba bo sv) (hk : sv.ownBlock = some k) : k ≠ p := fun e => by
  rcases H.row.2 with ⟨h, _⟩ | ⟨g0, cap0, cur, hv, _, hh0, _⟩
  · rw [h] at hk; cases hk
  · rw [hv] at hk
    simp [Value.ownBlock] at hk
    subst hk
    have := H.head
    rw [← e, hh0] at this
    simp at this
theorem BdX.setF (H : BdX w p S g bf ba bo sv) {F' : List (P2 × Bool)} (hm : MapIs w2 bf encP Value.bool F') (hf : Fr (fun x => x = bf) w w2) : BdX w2 p S { g with F := F' } bf ba bo sv := by
  have hblk : ∀ k, S k → k ≠ bf → w2.heap[k]? = w.heap[k]? := fun k hk hne => hf.block k (H.lt k hk) hne
  exact { H with
    head := (hblk p H.sp (H.p_ne H.mf)).trans H.head
    mf := hm
    ma := H.ma.of_block (hblk _ H.sa (Ne.symm H.d1))
    mo := H.mo.of_block (hblk _ H.so (Ne.symm H.d2))
    row := ownsRow_of_block H.row (fun k hk => hblk k (H.sr k hk) (H.row_ne H.mf hk))
    lt := fun k hk => Nat.lt_of_lt_of_le (H.lt k hk) hf.size }
theorem BdX.setA (H : BdX w p S g bf ba bo sv) {A' : List (P2 × Int)} (hm : MapIs w2 ba encP (Value.int .i64) A') (hf : Fr (fun x => x = ba) w w2) : BdX w2 p S { g with A := A' } bf ba bo sv := by
  have hblk : ∀ k, S k → k ≠ ba → w2.heap[k]? = w.heap[k]? := fun k hk hne => hf.block k (H.lt k hk) hne
  exact { H with
    head := (hblk p H.sp (H.p_ne H.ma)).trans H.head
    mf := H.mf.of_block (hblk _ H.sf H.d1)
    ma := hm
    mo := H.mo.of_block (hblk _ H.so (Ne.symm H.d3))
    row := ownsRow_of_block H.row (fun k hk => hblk k (H.sr k hk) (H.row_ne H.ma hk))
    lt := fun k hk => Nat.lt_of_lt_of_le (H.lt k hk) hf.size }
theorem BdX.setO (H : BdX w p S g bf ba bo sv) {O' : List (P2 × R4)} (hm : MapIs w2 bo encP encR O') (hf : Fr (fun x => x = bo) w w2) : BdX w2 p S { g with O := O' } bf ba bo sv := by
  have hblk : ∀ k, S k → k ≠ bo → w2.heap[k]? = w.heap[k]? := fun k hk hne => hf.block k (H.lt k hk) hne
  exact { H with
    head := (hblk p H.sp (H.p_ne H.mo)).trans H.head
    mf := H.mf.of_block (hblk _ H.sf H.d2)
    ma := H.ma.of_block (hblk _ H.sa H.d3)
    mo := hm
    row := ownsRow_of_block H.row (fun k hk => hblk k (H.sr k hk) (H.row_ne H.mo hk))
    lt := fun k hk => Nat.lt_of_lt_of_le (H.lt k hk) hf.size }
theorem BdX.cell (H : BdX w p S g bf ba bo sv) : w.cell? ⟨p, 0, none⟩ = some (.int .i64 g.rows) ∧ w.cell? ⟨p, 1, none⟩ = some (.int .i64 g.cols) ∧ w.cell? ⟨p, 2, none⟩ = some (.map (some bf)) ∧ w.cell? ⟨p, 3, none⟩ = some sv ∧ w.cell? ⟨p, 4, none⟩ = some (.map (some ba)) ∧ w.cell? ⟨p, 5, none⟩ = some (.map (some bo)) := by
  refine ⟨?_, ?_, ?_, ?_, ?_, ?_⟩ <;> (rw [cell_of_heap H.head]; rfl)
end

set_option maxHeartbeats 400000 in
theorem new_any (rows cols : Int) (w : World) :
    Calls Try.prog 10 #[.int .i64 rows, .int .i64 cols] w fun e w' => e = .returned (.pointer (some ⟨w.heap.size + 3, 0, none⟩)) ∧ IsBd w' (w.heap.size + 3) (fun b => w.heap.size ≤ b ∧ b < w'.heap.size) (gNew rows cols) ∧ Below w.heap.size w w' ∧ w'.heap.size = w.heap.size + 4 := by
  have hmm := @run_makeMap Try.prog
  have fin : ∀ (x y : Int), x = clamp rows → y = clamp cols → ∀ w' : World, w' = ((((w.alloc (Obj.map #[] 0)).alloc (Obj.map #[] 0)).alloc (Obj.map #[] 0)).alloc (Obj.cells #[Value.int IntKind.i64 x, Value.int IntKind.i64 y, Value.map (some w.heap.size), Value.slice none 0 0, Value.map (some (w.heap.size + 1)), Value.map (some (w.heap.size + 1 + 1))] 69)) →
      IsBd w' (w.heap.size + 3) (fun b => w.heap.size ≤ b ∧ b < w'.heap.size) (gNew rows cols) ∧ Below w.heap.size w w' ∧ w'.heap.size = w.heap.size + 4 := by
    intro x y hx hy w' hw'
    have c1 := clamp_bd rows
    have c2 := clamp_bd cols
    have hs1 : (w.alloc (Obj.map #[] 0)).heap.size = w.heap.size + 1 := by simp
    have hs2 : ((w.alloc (Obj.map #[] 0)).alloc (Obj.map #[] 0)).heap.size = w.heap.size + 2 := by simp
    have hs3 : (((w.alloc (Obj.map #[] 0)).alloc (Obj.map #[] 0)).alloc (Obj.map #[] 0)).heap.size = w.heap.size + 3 := by simp
    have e0 := heap_alloc_new w (Obj.map #[] 0)
    have e1 := heap_alloc_new (w.alloc (Obj.map #[] 0)) (Obj.map #[] 0)
    have e2 := heap_alloc_new ((w.alloc (Obj.map #[] 0)).alloc (Obj.map #[] 0)) (Obj.map #[] 0)
    have e3 := heap_alloc_new (((w.alloc (Obj.map #[] 0)).alloc (Obj.map #[] 0)).alloc (Obj.map #[] 0)) (Obj.cells #[Value.int IntKind.i64 x, Value.int IntKind.i64 y, Value.map (some w.heap.size), Value.slice none 0 0, Value.map (some (w.heap.size + 1)), Value.map (some (w.heap.size + 1 + 1))] 69)
    rw [hs1] at e1
    rw [hs2] at e2
    rw [hs3, ← hw'] at e3
    have f0 := heap_alloc_old (heap_alloc_old (heap_alloc_old e0 (Obj.map #[] 0)) (Obj.map #[] 0)) (Obj.cells #[Value.int IntKind.i64 x, Value.int IntKind.i64 y, Value.map (some w.heap.size), Value.slice none 0 0, Value.map (some (w.heap.size + 1)), Value.map (some (w.heap.size + 1 + 1))] 69)
    have f1 := heap_alloc_old (heap_alloc_old e1 (Obj.map #[] 0)) (Obj.cells #[Value.int IntKind.i64 x, Value.int IntKind.i64 y, Value.map (some w.heap.size), Value.slice none 0 0, Value.map (some (w.heap.size + 1)), Value.map (some (w.heap.size + 1 + 1))] 69)
    have f2 := heap_alloc_old e2 (Obj.cells #[Value.int IntKind.i64 x, Value.int IntKind.i64 y, Value.map (some w.heap.size), Value.slice none 0 0, Value.map (some (w.heap.size + 1)), Value.map (some (w.heap.size + 1 + 1))] 69)
    rw [← hw'] at f0 f1 f2
    have hsz : w'.heap.size = w.heap.size + 4 := by rw [hw']; simp
    refine ⟨⟨w.heap.size, w.heap.size + 1, w.heap.size + 2, .slice none 0 0, ?_⟩, ?_, hsz⟩
    · exact { head := by rw [e3, hx, hy]; rfl
              mf := ⟨#[], 0, f0, rfl, by simp [gNew]⟩
              ma := ⟨#[], 0, f1, rfl, by simp [gNew]⟩
              mo := ⟨#[], 0, f2, rfl, by simp [gNew]⟩
              row := ⟨rfl, .inl ⟨rfl, rfl⟩⟩
              sp := ⟨by omega, by omega⟩
              sf := ⟨by omega, by omega⟩
              sa := ⟨by omega, by omega⟩
              so := ⟨by omega, by omega⟩
              sr := fun k hk => by cases hk
              d1 := by omega
              d2 := by omega
              d3 := by omega
              lt := fun k hk => hk.2
              b1 := c1.1
              b2 := c1.2
              b3 := c2.1
              b4 := c2.2 }
    · rw [hw']
      exact ((((Below.refl _ w).alloc (Nat.le_refl _) _).alloc (by simp) _).alloc (by simp; omega) _).alloc (by simp; omega) _
  have FIN := Lib.hid fin
  clear fin
  go_enter Try.func10, Try.ntmps10
  go_wp2
  all_goals
    go_ret
    exact ⟨rfl, FIN.out _ _ (by unfold clamp; split <;> (try split) <;> omega) (by unfold clamp; split <;> (try split) <;> omega) _ rfl⟩
end Go.Proofs.Ytihfmcadcojjnaa
