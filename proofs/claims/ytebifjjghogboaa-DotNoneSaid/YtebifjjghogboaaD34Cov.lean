/- Covers. -/
import Derived.Test.YtebifjjghogboaaD34Next
namespace Go.Proofs.Ytebifjjghogboaa
open Go.RowKit Go.Shelf Go.Maps
attribute [local go_sem] Oper.semAt_some
theorem own_pure {β : Type} (B : Nat) (f : β → Prop) : OwnFrom B (fun s _ => f s) := fun _ _ _ _ h _ _ => h
theorem vals_append {L : List Id2} (pre : List (SIn L)) (x : SIn L) : vals (pre ++ [x]) = vals pre ++ [x.1] := by simp [vals]
theorem vals_prefix {L : List Id2} {pre : List (SIn L)} (h : pre <+: L.attach) : vals pre <+: L := by
  have := h.map Subtype.val
  rwa [List.attach_map_subtype_val] at this
theorem all_prefix {α : Type} {p : α → Bool} {M L : List α} (h : M <+: L) (hf : M.all p = false) : L.all p = false := by
  obtain ⟨t, rfl⟩ := h
  rw [List.all_append, hf]
  rfl
theorem SnV.ptr' {w : World} {v : Value} {L : List Id2} (h : SnV w v L) : ∃ q, v = .pointer q := by
  rcases h.ptr with h | ⟨p, h⟩
  · exact ⟨_, h⟩
  · exact ⟨_, h⟩
set_option maxHeartbeats 2000000 in
set_option maxRecDepth 100000 in
theorem covers_any {v u : Value} {L M : List Id2} {w : World} (hs : SnV w v L) (ht : SnV w u M) : Calls Try.prog 22 #[v, u] w fun e w' => e = .returned (.bool (covL L M)) ∧ Below w.heap.size w w' := by
  obtain ⟨q, rfl⟩ := hs.ptr'
  have hu := ht.ptr
  have HS := Lib.hid hs
  have HT := Lib.hid ht
  have HU := Lib.hid hu
  clear hs ht hu
  refine (callsIn_wide (n := 8)).1 ?_
  refine callsIn_of_wp_marks Try.func22 rfl trivial ?_ rfl
  simp only [Try.ntmps22, List.size_toArray, List.length_cons, List.length_nil, Nat.reduceAdd, Nat.reduceSub, Array.replicate_succ, Array.replicate_zero, List.push_toArray, List.append_toArray, List.nil_append, List.cons_append]
  refine wpIn_wide.2 ?_
  go_wp2_with fail
  refine (all_any u _ HU.out).mono ?_
  rintro e w1 ⟨rfl, rfl⟩
  go_wp2_with fail
  refine (wpIn_wide (n := 8)).1 ?_
  refine abs_worldIn ?_
  intro W0 hW0
  have hz0 : W0.heap.size = w.heap.size + 3 := by rw [hW0]; simp
  have B0 : Hid (Below w.heap.size w W0) := by rw [hW0]; unfold Hid; (repeat (first | with_reducible exact Below.refl _ _ | with_reducible exact hBW | with_reducible refine Below.setCell ?_ ?_ _ | with_reducible refine Below.alloc ?_ ?_ _ | with_reducible refine belowN ?_ _ | with_reducible refine Below.drew ?_)); all_goals (first | omega | (dsimp only; omega) | ((repeat (first | with_reducible refine le_alloc ?_ | with_reducible refine le_setCell ?_ | with_reducible refine le_drew ?_ | with_reducible refine le_drewN ?_)); omega))
  have e1 : W0.heap[w.heap.size]? = some (.cells #[.pointer q] 26) := by rw [hW0]; (repeat (first | (with_reducible refine heap_alloc_at ?_ _; (first | rfl | (simp; done) | omega | (simp; omega)); done) | with_reducible refine heap_alloc_old ?_ _ | with_reducible refine heap_drew_old ?_ | with_reducible refine heap_drewN_old ?_))
  have e2 : W0.heap[w.heap.size + 1]? = some (.cells #[.bool false] 4) := by rw [hW0]; (repeat (first | (with_reducible refine heap_alloc_at ?_ _; (first | rfl | (simp; done) | omega | (simp; omega)); done) | with_reducible refine heap_alloc_old ?_ _ | with_reducible refine heap_drew_old ?_ | with_reducible refine heap_drewN_old ?_))
  have e3 : W0.heap[w.heap.size + 1 + 1]? = some (.cells #[u] 26) := by rw [hW0]; (repeat (first | (with_reducible refine heap_alloc_at ?_ _; (first | rfl | (simp; done) | omega | (simp; omega)); done) | with_reducible refine heap_alloc_old ?_ _ | with_reducible refine heap_drew_old ?_ | with_reducible refine heap_drewN_old ?_))
  have hT0 := HT.out.below B0.out
  clear hW0
  refine range_plain (A := ?A) (Z := fun k => k = w.heap.size + 1) rfl (by omega) (gf := 31) (lb := #[.pointer (some ⟨w.heap.size + 1 + 1, 0, none⟩)]) rfl trivial (enters_of Try.func31 (by kernel_rfl) rfl)
    (iter_stops (w.heap.size + 1 + 1) u M _ W0 (fun k h => by omega) e3 hT0) (fun _ => rfl)
    (fun pre W => ((Below w.heap.size w W ∧ W.heap[w.heap.size]? = some (.cells #[.pointer q] 26)) ∧ W.heap[w.heap.size + 1]? = some (.cells #[.bool false] 4)) ∧ (vals pre).all (hasB L) = true)
    (fun c pre W => ((Below w.heap.size w W ∧ W.heap[w.heap.size + 1]? = some (.cells #[.bool false] 4)) ∧ (vals pre).all (hasB L) = false) ∧ c = .ret)
    ((((ownFrom_below (by omega) B0.out.size).and (own_heap _ _ (fun _ => .cells #[.pointer q] 26) (fun _ => rfl))).and (own_heap _ _ (fun _ => .cells #[.bool false] 4) (fun _ => rfl))).and (own_pure _ _))
    (fun c => (((ownFrom_below (by omega) B0.out.size).and (own_heap _ _ (fun _ => .cells #[.bool false] 4) (fun _ => rfl))).and (own_pure _ _)).and (own_pure _ _)) ⟨⟨⟨B0.out, e1⟩, e2⟩, rfl⟩ ?assign ?body ?done ?stop
  case assign =>
    intro l x W K hK
    unfold encS
    gi_wp2
    exact hK
  case stop =>
    rintro D c pre W hD hp ⟨⟨⟨hB1, f1⟩, hf⟩, rfl⟩ hK
    have hx : Hid (covL L M = false) := all_prefix (vals_prefix hp) hf
    have g1 := (keep_put (D := D) (o' := .deferred none) hK (lt_of_heap f1) (by omega)).trans f1
    have h3 := cell_of_heap g1
    gi_wp2
    refine end_ret hK (.bool false) ?_ ⟨by rw [hx.out], below_put hB1 (Nat.le_refl _) _ (by omega)⟩
    simp [results, Try.results22, go_sem, h3]
  case body =>
    rintro l pre ⟨⟨xa, xn⟩, hx⟩ W hl ⟨r, hr⟩ ⟨⟨⟨hB1, f1⟩, f2⟩, hall⟩ hlt
    have g2 := cell_of_heap f1 0
    have g4 := lt_of_heap f1
    gi_wp2_with fail
    refine ⟨trivial, (CallsIn.inRound l (callsIn_wide.2 (has_any (xa, xn) (HS.out.below hB1)))).mono ?_⟩
    rintro e W5 ⟨rfl, f5⟩
    have KF : Hid (KeepsFrom W0.heap.size W W5) := ⟨f5.size, fun k o _ hk _ => (f5.block k (lt_of_heap hk)).trans hk⟩
    have K5 : Hid (KZ (fun k => k = w.heap.size + 1) W W5) := KZ.of_fr (Fr.of_below f5)
    have B5 : Hid (Below w.heap.size w W5) := hB1.trans (f5.mono hB1.size)
    have k1 : Hid (W5.heap[w.heap.size]? = some (.cells #[.pointer q] 26)) := (f5.block _ (lt_of_heap f1)).trans f1
    have k2 : Hid (W5.heap[w.heap.size + 1]? = some (.cells #[.bool false] 4)) := (f5.block _ (lt_of_heap f2)).trans f2
    have HA : Hid ((vals (pre ++ [⟨(xa, xn), hx⟩])).all (hasB L) = hasB L (xa, xn)) := by
      unfold Hid
      rw [vals_append, List.all_append, hall]
      simp
    have g5 := cell_of_heap k2.out 0
    have g6 := frozen_of_heap k2.out 0
    have g7 := lt_of_heap k2.out
    clear g2 g4 f5 hall
    generalize hasB L (xa, xn) = b at HA ⊢
    cases b with
    | true =>
      gi_wp2
      exact ⟨KF.out, K5.out, ⟨⟨B5.out, k1.out⟩, k2.out⟩, HA.out⟩
    | false =>
      gi_wp2
      refine ⟨KF.out.trans ((KeepsOthers.setCell _ _ _).from _), ⟨⟨?_, ?_⟩, HA.out⟩, rfl⟩
      · exact B5.out.setCell (p := ⟨w.heap.size + 1, 0, none⟩) (by show w.heap.size ≤ w.heap.size + 1; omega) _
      · exact (heap_setCell_at k2.out 0 _).trans rfl
  case done =>
    rintro D zs W hD rfl ⟨⟨⟨hB1, f1⟩, f2⟩, hall⟩ hK
    rw [vals_attach] at hall
    have hx : Hid (covL L M = true) := hall
    have g2 := cell_of_heap f2 0
    have g3 := frozen_of_heap f2
    have g4 := lt_of_heap f2
    have F2 := Lib.hid f2
    clear f2 hall
    go_wp2
    refine end_ret ((KeepsOthers.setCell _ _ _).same D _ hK rfl) (.bool true) ?_ ⟨by rw [hx.out], below_put ?_ (Nat.le_refl _) _ (by omega)⟩
    · have hh := heap_setCell_at F2.out 0 (.bool true)
      have h2 := (keep_put (D := D) (o' := .deferred none) ((KeepsOthers.setCell _ _ _).same D _ hK rfl) (lt_of_heap hh) (by omega)).trans hh
      have h3 := cell_of_heap h2
      simp [results, Try.results22, go_sem, h3]
    · exact hB1.setCell (p := ⟨w.heap.size + 1, 0, none⟩) (by show w.heap.size ≤ w.heap.size + 1; omega) _
end Go.Proofs.Ytebifjjghogboaa
