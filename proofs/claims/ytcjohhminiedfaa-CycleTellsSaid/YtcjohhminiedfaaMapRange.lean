/- delete, and a range over a map whose entries are told as a list of pairs. -/
import Derived.Test.YtcjohhminiedfaaD34Map
import Derived.Maps.RangeWalk
namespace Go.Proofs.Ytcjohhminiedfaa
open Go.RowKit Go.ChangeMaps
theorem filter_at {κ ν : Type} [DecidableEq κ] {l : List (κ × ν)} {k : κ} {v : ν} {j : Nat} (hn : (l.map Prod.fst).Nodup) (h : l[j]? = some (k, v)) : (l.filter fun p => decide (p.1 ≠ k)) = l.eraseIdx j := by
  induction l generalizing j with
  | nil => simp at h
  | cons a r ih =>
    obtain ⟨x, u⟩ := a
    simp only [List.map_cons, List.nodup_cons] at hn
    rw [List.filter_cons]
    cases j with
    | zero =>
      simp at h
      rw [if_neg (by simp [h.1]), List.eraseIdx_cons_zero, List.filter_eq_self]
      intro p hp
      have : p.1 ≠ k := fun e => hn.1 (by rw [h.1, ← e]; exact List.mem_map.2 ⟨p, hp, rfl⟩)
      simpa using this
    | succ j =>
      simp only [List.getElem?_cons_succ] at h
      have hx : x ≠ k := fun e => hn.1 (by rw [e]; exact List.mem_map.2 ⟨_, List.mem_of_getElem? h, rfl⟩)
      rw [if_pos (by simp [hx]), ih hn.2 h, List.eraseIdx_cons_succ]
section
variable {κ ν : Type} [DecidableEq κ] {P : Program} {kt : TypeId} {enc : κ → Value} {ve : ν → Value} {w : World} {b : Nat} {l : List (κ × ν)}
/-- 'delete(m, k)'. -/
theorem MapS.del (K : KeyFits P kt enc) (h : MapS w b enc ve l) {t et : TypeId} (ht : P.underlying t = some (.map kt et)) (k : κ) (ty : TypeId) :
    ∃ w', (Builtin.delete_ #[t, kt] ty #[.map (some b), enc k]).run P w = .ok (.tuple #[]) w' ∧ MapS w' b enc ve (l.filter fun p => decide (p.1 ≠ k)) ∧ Fr (fun x => x = b) w w' ∧ w'.heap.size = w.heap.size := by
  obtain ⟨es, c, hb, he, hn, hbo1, hbo2⟩ := h
  have hlt := lt_of_heap hb
  rcases MapIs.finds K he hn k w with ⟨h1, h2⟩ | ⟨j, e, v', h1, hj, hk, hl, h2⟩
  · have hf : (l.filter fun p => decide (p.1 ≠ k)) = l := by
      rw [List.filter_eq_self]
      intro p hp
      simpa using getL_none.1 h2 p hp
    refine ⟨{ w with heap := w.heap.setIfInBounds b (.map es c) }, ?_, ⟨es, c, by simp [hlt], by rw [hf]; exact he, by rw [hf]; exact hn, hbo1, hbo2⟩, ⟨rfl, rfl, rfl, by simp, fun j _ hne => by simp [Array.getElem?_setIfInBounds_ne (Ne.symm hne)]⟩, by simp⟩
    unfold Builtin.delete_
    simp [run_underlying ht, getObj, setObj, Sem.run, hb, K.check, h1, Result.andThen]
  · have hjl : j < es.toList.length := (List.getElem?_eq_some_iff.1 hj).1
    have hjs : j < es.size := by simpa using hjl
    have hsub : (es.eraseIdxIfInBounds j).toList = es.toList.eraseIdx j := by
      unfold Array.eraseIdxIfInBounds
      rw [dif_pos hjs]
      simp
    have hf := filter_at hn hl
    refine ⟨{ w with heap := w.heap.setIfInBounds b (.map (es.eraseIdxIfInBounds j) c) }, ?_, ⟨es.eraseIdxIfInBounds j, c, by simp [hlt], ?_, ?_, fun x hx => ?_, ?_⟩, ⟨rfl, rfl, rfl, by simp, fun j _ hne => by simp [Array.getElem?_setIfInBounds_ne (Ne.symm hne)]⟩, by simp⟩
    · unfold Builtin.delete_
      simp [run_underlying ht, getObj, setObj, Sem.run, hb, K.check, h1, Result.andThen]
    · rw [hsub, hf, map_eraseIdx, he, map_eraseIdx]
    · exact hn.sublist (List.filter_sublist.map _)
    · rw [hsub] at hx
      exact hbo1 x ((List.eraseIdx_sublist _ _).subset hx)
    · rw [hsub]
      exact hbo2.sublist ((List.eraseIdx_sublist _ _).map _)
end
section
variable {κ ν : Type} [DecidableEq κ] {P : Program} {kt : TypeId} {enc : κ → Value} {ve : ν → Value} {b : Nat} {l : List (κ × ν)} {ops : Array Oper} {rest : List Oper} {op : Oper} {a : Act} {w : World} {Q : Exit → Act → World → Prop}
theorem wpList_delete_s (hw : Region.wanted op (yielded ops a.tmps) = true) (K : KeyFits P kt enc) (h : MapS w b enc ve l) {t et : TypeId} (ht : P.underlying t = some (.map kt et)) (m x : Operand) (ho : op.op = .call { callee := .builtin .delete, args := #[m, x], argTypes := #[t, kt] }) (k : κ)
    (hm : a.eval m = .map (some b)) (hx : a.eval x = enc k) (hK : ∀ w', MapS w' b enc ve (l.filter fun p => decide (p.1 ≠ k)) → Fr (fun y => y = b) w w' → w'.heap.size = w.heap.size → wpList P ops Q rest (a.put op.dst (.tuple #[])) w') : wpList P ops Q (op :: rest) a w :=
  wpList_step fun K' hK' => by
    rw [if_pos hw]
    obtain ⟨w', hr, h1, h2, h3⟩ := h.del K ht k op.type
    unfold Oper.wp
    simp [execOp, ho, resolve, invoke, builtin, hm, hx, hr, Result.andThen]
    exact hK' _ _ (hK w' h1 h2 h3)
end
/-- A range over a map is under way. -/
structure RangeS (w : World) (b r : Nat) (es : Array MapEntry) (clock : Nat) (seen : Array Nat) : Prop where
  map : w.heap[b]? = some (.map es clock)
  it : ∃ c0, w.heap[r]? = some (.mapIter (some b) clock seen c0) ∧ clock ≤ c0
theorem RangeS.keep {w w' : World} {b r clock : Nat} {es : Array MapEntry} {seen : Array Nat} (h : RangeS w b r es clock seen) (h1 : w'.heap[b]? = w.heap[b]?) (h2 : w'.heap[r]? = w.heap[r]?) : RangeS w' b r es clock seen := by
  obtain ⟨c0, h3, h4⟩ := h.it
  exact ⟨h1.trans h.map, c0, h2.trans h3, h4⟩
section
variable {P : Program} {ops : Array Oper} {rest : List Oper} {op : Oper} {a : Act} {w : World} {Q : Exit → Act → World → Prop}
theorem wpList_range_s (hw : Region.wanted op (yielded ops a.tmps) = true) (m : Operand) (t k e : TypeId) (ho : op.op = .range t m) (ht : P.underlying t = some (.map k e)) (b : Nat) (es : Array MapEntry) (clock : Nat) (hm : a.eval m = .map (some b)) (hb : w.heap[b]? = some (.map es clock))
    (h : RangeS (w.alloc (.mapIter (some b) clock #[] clock)) b w.heap.size es clock #[] → wpList P ops Q rest (a.put op.dst (.pointer (some ⟨w.heap.size, 0, none⟩))) (w.alloc (.mapIter (some b) clock #[] clock))) : wpList P ops Q (op :: rest) a w :=
  wpList_step fun K hK => by
    rw [if_pos hw]
    have hr := run_range_map (P := P) w t k e b es clock ht hb
    unfold Oper.wp execOp
    simp only [ho, hm, Sem.run_bind, hr, Result.andThen_ok, Sem.run_pure]
    exact hK _ _ (h ⟨heap_alloc_old hb _, clock, heap_alloc_new w _, Nat.le_refl _⟩)
theorem wpList_next_s (hw : Region.wanted op (yielded ops a.tmps) = true) (x : Operand) (ho : op.op = .next x false) (b r clock : Nat) (es : Array MapEntry) (seen : Array Nat) (hx : a.eval x = .pointer (some ⟨r, 0, none⟩)) (h : RangeS w b r es clock seen) (hbo : BornOk es clock) (hne : b ≠ r)
    (hDone : (∀ e ∈ es.toList, seen.contains e.born = true) → wpList P ops Q rest (a.put op.dst (.tuple #[.bool false])) w)
    (hMore : ∀ (e : MapEntry) (w' : World), e ∈ es.toList → seen.contains e.born = false → RangeS w' b r es clock (seen.push e.born) → Fr (fun k => k = r) w w' → (leftOf es (seen.push e.born)).size < (leftOf es seen).size →
      (Instr.entry (.pointer (some ⟨r, 0, none⟩))).run P w' = .ok (.tuple #[e.key, e.val]) w' → wpList P ops Q rest (a.put op.dst (.tuple #[.bool true, e.key, e.val])) w') : wpList P ops Q (op :: rest) a w :=
  wpList_step fun K hK => by
    rw [if_pos hw]
    obtain ⟨c0, hr, hc⟩ := h.it
    unfold Oper.wp execOp
    rcases run_next_at (P := P) w op.type r b clock c0 seen es clock hr h.map hbo.1 hc with ⟨h0, hrun⟩ | ⟨e, he, w1, hal, hrun⟩
    · simp only [ho, hx, Sem.run_bind, hrun, Result.andThen_ok, Sem.run_pure]
      exact hK _ _ (hDone fun e he => all_seen es seen h0 e he)
    · obtain ⟨hem, hes⟩ := mem_left he
      have hr1 : w1.heap[r]? = some (.mapIter (some b) clock seen c0) := by rcases hal with rfl | rfl <;> exact hr
      have hb1 : w1.heap[b]? = some (.map es clock) := by rcases hal with rfl | rfl <;> exact h.map
      have hset := MapKept.heap_set (o' := .mapIter (some b) clock (seen.push e.born) clock) hr1
      have hb' : (setBlock w1 r (.mapIter (some b) clock (seen.push e.born) clock)).heap[b]? = some (.map es clock) := (hset.2 b hne).trans hb1
      have hr' : (setBlock w1 r (.mapIter (some b) clock (seen.push e.born) clock)).heap[r]? = some (.mapIter (some b) clock (seen.push e.born) clock) := hset.1
      simp only [ho, hx, Sem.run_bind, hrun, Result.andThen_ok, Sem.run_pure]
      refine hK _ _ (hMore e _ hem hes ⟨hb', clock, hr', Nat.le_refl _⟩ ?_ (left_shrinks es seen e he) (run_entry_at _ r b clock seen es clock e hr' hb' hem hbo.2))
      rcases hal with rfl | rfl <;> exact ⟨rfl, rfl, rfl, by simp [setBlock], fun i _ hi => hset.2 i hi⟩
end
end Go.Proofs.Ytcjohhminiedfaa
