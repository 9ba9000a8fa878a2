/- Cycle: a row of numbers from whose head is taken and behind whose end is put. -/
import Derived.ArgAppend
import Derived.Test.YtcjohhminiedfaaQC21Build
namespace Go.Proofs.Ytcjohhminiedfaa
open Go.RowKit
/-- An append whose run is known. -/
theorem wpList_append_run {P : Program} {w w' : World} {ops : Array Oper} {rest : List Oper} {o : Oper} {a : Act} {Q : Exit → Act → World → Prop} (hgd : o.guard = none) (s x : Operand) (t : TypeId) (ho : o.op = .call { callee := .builtin .append, args := #[s, x], argTypes := #[t, t] })
    (v x' v' : Value) (hs : a.eval s = v) (hx : a.eval x = x') (hr : ∀ ty, (Builtin.append_ #[t, t] ty #[v, x']).run P w = .ok v' w') (h : wpList P ops Q rest (a.put o.dst v') w') : wpList P ops Q (o :: rest) a w := by
  refine wpList_plain hgd fun K hK => ?_
  unfold Oper.wp execOp
  simp only [ho, resolve, invoke, builtin, Sem.run_bind, Sem.run_pure, Result.andThen_ok, List.map_toArray, List.map_cons, List.map_nil, hs, hx, hr]
  exact hK _ _ h
/-- A row of its own that begins anywhere in its block. -/
def QR (B : Nat) (w : World) (v : Value) (l : List Nat) : Prop := l.length ≤ 1000000 ∧ ∃ g off cap cur, v = .slice (some ⟨g, off, none⟩) l.length cap ∧ B ≤ g ∧ w.heap[g]? = some (.cells cur 3 (0, 0)) ∧ l.length ≤ cap ∧ off + cap ≤ cur.size ∧ cap ≤ maxLen ∧ ∀ (j x : Nat), l[j]? = some x → cur[off + j]? = some (iv x)
theorem QR.shape {B : Nat} {w : World} {v : Value} {l : List Nat} (h : QR B w v l) : ∃ a c, v = .slice a l.length c := by
  obtain ⟨_, g, off, cap, cur, e, _⟩ := h
  exact ⟨_, _, e⟩
theorem QR.start {B : Nat} {w : World} (x : Nat) (hB : B ≤ w.heap.size) : QR B (w.alloc (.cells #[.int .i64 (x : Int)] 3)) (.slice (some ⟨w.heap.size, 0, none⟩) 1 1) [x] := by
  refine ⟨by simp, w.heap.size, 0, 1, _, rfl, hB, heap_alloc_new w _, Nat.le_refl _, by simp, by decide, fun j y hy => ?_⟩
  cases j with
  | zero =>
    simp at hy
    subst hy
    rfl
  | succ j => simp at hy
theorem QR.keep {B : Nat} {w w' : World} {v : Value} {l : List Nat} (h : QR B w v l) (hk : ∀ k, B ≤ k → k < w.heap.size → w'.heap[k]? = w.heap[k]?) : QR B w' v l := by
  obtain ⟨h0, g, off, cap, cur, e, hB, hg, h1, h2, h3, h4⟩ := h
  exact ⟨h0, g, off, cap, cur, e, hB, (hk g hB (lt_of_heap hg)).trans hg, h1, h2, h3, h4⟩
theorem QR.at {B : Nat} {w : World} {v : Value} {l : List Nat} (h : QR B w v l) : ∃ g off cap, v = .slice (some ⟨g, off, none⟩) l.length cap ∧ l.length ≤ cap ∧ B ≤ g ∧ g < w.heap.size ∧ ∀ (j x : Nat), l[j]? = some x → w.cell? ⟨g, off + j, none⟩ = some (.int .i64 (x : Int)) := by
  obtain ⟨h0, g, off, cap, cur, e, hB, hg, h1, h2, h3, h4⟩ := h
  exact ⟨g, off, cap, e, h1, hB, lt_of_heap hg, fun j x hx => by rw [cell_of_heap hg]; exact h4 j x hx⟩
/-- Without its head. -/
theorem QR.rest {B x : Nat} {w : World} {v : Value} {l : List Nat} (h : QR B w v (x :: l)) : ∃ v', (Instr.slice 31 v (some (.int .i64 1)) none none).run Try.prog w = .ok v' w ∧ QR B w v' l := by
  obtain ⟨h0, g, off, cap, cur, rfl, hB, hg, h1, h2, h3, h4⟩ := h
  rw [List.length_cons] at h1 ⊢
  by_cases hc : cap = 1
  · subst hc
    have hl : l = [] := List.length_eq_zero_iff.1 (by omega)
    subst hl
    refine ⟨.slice (some ⟨g, off, none⟩) 0 0, ?_, by simp, g, off, 0, cur, rfl, hB, hg, Nat.le_refl _, by omega, by decide, fun j y hy => by simp at hy⟩
    simp [Instr.slice, Instr.sliceBounds, Instr.sliceBound, go_sem]
  · refine ⟨.slice (some ⟨g, off + 1, none⟩) l.length (cap - 1), ?_, by rw [List.length_cons] at h0; omega, g, off + 1, cap - 1, cur, rfl, hB, hg, by omega, by omega, by omega, fun j y hy => ?_⟩
    · simp [Instr.slice, Instr.sliceBounds, Instr.sliceBound, go_sem]
      rw [if_pos (by omega), if_neg hc]
    · have := h4 (j + 1) y (by simpa using hy)
      rw [show off + 1 + j = off + (j + 1) by omega]
      exact this
theorem setCells_one (w : World) (b o : Nat) (v : Value) : w.setCells b o [v] = w.setCell ⟨b, o, none⟩ v := rfl
/-- With one more. -/
theorem QR.push {B y : Nat} {w : World} {v : Value} {l : List Nat} (h : QR B w v l) {ad : Addr} (had : w.cell? ad = some (.int .i64 (y : Int))) (hl : l.length + 1 ≤ 1000000) (hB : B ≤ w.heap.size) (hadd : ad.add 0 = ad) : ∃ v' w', (∀ ty, (Builtin.append_ #[31, 31] ty #[v, .slice (some ad) 1 1]).run Try.prog w = .ok v' w') ∧ QR B w' v' (l ++ [y]) ∧ Below B w w' := by
  obtain ⟨h0, g, off, cap, cur, rfl, hBg, hg, h1, h2, h3, h4⟩ := h
  obtain ⟨i0, hi, hz0, hz1, hz2⟩ := info_parts info3
  have hnew : ∀ j u, [iv y][j]? = some u → w.cell? (ad.add j) = some u := fun j u hu => by
    cases j with
    | zero =>
      simp at hu
      subst hu
      rw [hadd]
      exact had
    | succ j => simp at hu
  by_cases hroom : l.length + 1 ≤ cap
  · have hcell : w.cell? ⟨g, off + l.length, none⟩ = some cur[off + l.length] := by
      rw [cell_of_heap hg]
      exact Array.getElem?_eq_getElem (by omega)
    refine ⟨_, _, fun ty => run_append_room_cells (P := Try.prog) w 31 ty 3 i0 Try.underlying31 hi g off l.length cap ad 1 1 [iv y] (by rw [hz1]; rfl) hnew (by simp [iv, Value.oneCell']) hroom (fun j hj => ?_) (fun j hj => ?_), ?_, ?_⟩
    · rw [hz1]
      simp at hj
      subst hj
      rw [Nat.mul_one, Nat.add_zero, hcell]
      rfl
    · exact frozen_of_heap hg _
    · rw [hz1, Nat.mul_one, setCells_one]
      refine ⟨by simpa using hl, g, off, cap, _, by rw [List.length_append]; rfl, hBg, heap_setCell_at hg _ _, by rw [List.length_append]; exact hroom, by simpa using h2, h3, fun j x hx => ?_⟩
      by_cases hj : j < l.length
      · rw [List.getElem?_append_left hj] at hx
        rw [Array.getElem?_setIfInBounds_ne (by show off + l.length ≠ off + j; omega)]
        exact h4 j x hx
      · have hj2 : j = l.length := by
          have := (List.getElem?_eq_some_iff.1 hx).1
          rw [List.length_append, List.length_singleton] at this
          omega
        subst hj2
        rw [List.getElem?_append_right (Nat.le_refl _), Nat.sub_self] at hx
        cases hx
        exact Array.getElem?_setIfInBounds_self_of_lt (by omega)
    · rw [hz1, Nat.mul_one, setCells_one]
      exact (Below.refl B w).setCell (p := ⟨g, off + l.length, none⟩) hBg _
  · have holds : ∀ j u, (l.map iv)[j]? = some u → w.cell? ((⟨g, off, none⟩ : Addr).add j) = some u := fun j u hu => by
      rw [List.getElem?_map] at hu
      cases e : l[j]? with
      | none => rw [e] at hu; cases hu
      | some x =>
        rw [e] at hu
        cases hu
        have ha : (⟨g, off, none⟩ : Addr).add j = ⟨g, off + j, none⟩ := by unfold Addr.add; split <;> simp_all
        rw [ha, cell_of_heap hg]
        exact h4 j x e
    have hge := grownCap_ge w (l.length + 1) cap 3
    have hcm := grownCap_le_maxLen w (l.length + 1) cap 3 (by unfold maxLen; omega)
    refine ⟨_, _, fun ty => run_append_grow (P := Try.prog) w 31 ty 3 i0 (.int .i64 0) Try.underlying31 hi hz0 ⟨g, off, none⟩ l.length cap (l.map iv) (by rw [hz1]; simp) holds ad 1 1 [iv y] (by rw [hz1]; rfl) hnew (by omega) (by omega) (growslice_fits (by omega) (by rw [hz2]; omega)), ?_, ?_⟩
    · refine ⟨by simpa using hl, w.heap.size, 0, grownCap w (l.length + 1) cap 3, _, by rw [List.length_append]; rfl, hB, heap_alloc_new w.drew _, by rw [List.length_append]; exact hge, ?_, hcm, fun j x hx => ?_⟩
      · simp [size_zeroCells, Value.cells]
        omega
      · rw [Nat.zero_add, ← Array.getElem?_toList]
        simp only [Array.toList_append]
        rw [show (l.map iv).toArray.toList ++ [iv y].toArray.toList = (l ++ [y]).map iv by simp, List.getElem?_append_left (by rw [List.length_map]; exact (List.getElem?_eq_some_iff.1 hx).1), List.getElem?_map, hx]
        rfl
    · exact (Below.refl B w).drew.alloc hB _
end Go.Proofs.Ytcjohhminiedfaa
