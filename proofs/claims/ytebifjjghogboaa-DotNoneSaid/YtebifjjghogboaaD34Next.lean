/- Next. -/
import Derived.Test.YtebifjjghogboaaD34Add
import Derived.Test.YtebifjjghogboaaD34New
import Derived.Test.YtebifjjghogboaaRangePlain
namespace Go.Proofs.Ytebifjjghogboaa
open Go.RowKit Go.Shelf Go.Maps
attribute [local go_sem] Oper.semAt_some
theorem own_heap {β : Type} (B k : Nat) (f : β → Obj) (hf : ∀ s, (f s).isCells = true) : OwnFrom B (fun s W => W.heap[k]? = some (f s)) := fun s X Y row hs hg hr =>
  (hg.block k (lt_of_heap hs) (fun e => by
    obtain ⟨_, o, ho, hc⟩ := hr k e.symm
    rw [hs] at ho
    cases ho
    rw [hf] at hc
    cases hc)).trans hs
theorem own_map {β : Type} {B b : Nat} (hb : b < B) (f : β → List Id2) : OwnFrom B (fun s W => MapL W b (f s)) := fun s X Y row hs hg hr =>
  hs.of_block (hg.block b hs.lt (fun e => by
    obtain ⟨h, _⟩ := hr b e.symm
    omega))
theorem own_sn {β : Type} {B p b : Nat} (hb : b < B) (f : β → List Id2) : OwnFrom B (fun s W => Sn W p b (f s)) :=
  (own_heap B p (fun _ => .cells #[.map (some b)] 49) (fun _ => rfl)).and (own_map hb f)
theorem SnV.ptr {w : World} {v : Value} {L : List Id2} (h : SnV w v L) : v = .pointer none ∨ ∃ p, v = .pointer (some p) := by
  rcases h with ⟨h, _⟩ | ⟨p, h, _⟩ | ⟨p, b, h, _⟩
  · exact .inl h
  · exact .inr ⟨_, h⟩
  · exact .inr ⟨_, h⟩
theorem most_append (L : List Id2) (x : Id2) : most (L ++ [x]) = max (most L) x.2 := by simp [most]
theorem most_bound {L M : List Id2} (h : Good L) (hM : ∀ p ∈ M, p ∈ L) : 0 ≤ most M ∧ most M ≤ 9223372036854775807 := by
  unfold most
  have key : ∀ (M : List Id2) (m : Int), 0 ≤ m → m ≤ 9223372036854775807 → (∀ p ∈ M, p ∈ L) → 0 ≤ M.foldl (fun m p => max m p.2) m ∧ M.foldl (fun m p => max m p.2) m ≤ 9223372036854775807 := by
    intro M
    induction M with
    | nil => intro m h1 h2 _; exact ⟨h1, h2⟩
    | cons x r ih =>
      intro m h1 h2 hM
      have := h.2 x (hM x (by simp))
      exact ih (max m x.2) (by omega) (by omega) (fun p hp => hM p (List.mem_cons_of_mem _ hp))
  exact key M 0 (by omega) (by omega) hM
abbrev vals {L : List Id2} (pre : List (SIn L)) : List Id2 := pre.map Subtype.val
theorem vals_attach (L : List Id2) : vals L.attach = L := List.attach_map_subtype_val L
theorem vals_mem {L : List Id2} (pre : List (SIn L)) : ∀ p ∈ vals pre, p ∈ L := fun p hp => by
  obtain ⟨x, _, rfl⟩ := List.mem_map.1 hp
  exact x.2
set_option maxHeartbeats 2000000 in
set_option maxRecDepth 100000 in
theorem next_any {v : Value} {L : List Id2} (x : Int) {w : World} (h : SnV w v L) : Calls Try.prog 17 #[v, .int .i64 x] w fun e w' => e = .returned (encI (nextL L x)) ∧ Below w.heap.size w w' := by
  have hv := h.ptr
  have HH := Lib.hid h
  have HV := Lib.hid hv
  clear h hv
  refine (callsIn_wide (n := 8)).1 ?_
  refine callsIn_of_wp_marks Try.func17 rfl trivial ?_ rfl
  simp only [Try.ntmps17, List.size_toArray, List.length_cons, List.length_nil, Nat.reduceAdd, Nat.reduceSub, Array.replicate_succ, Array.replicate_zero, List.push_toArray, List.append_toArray, List.nil_append, List.cons_append]
  refine wpIn_wide.2 ?_
  go_wp2_with fail
  refine (all_any v _ HV.out).mono ?_
  rintro e w1 ⟨rfl, rfl⟩
  go_wp2_with fail
  refine (wpIn_wide (n := 8)).1 ?_
  refine abs_worldIn ?_
  intro W0 hW0
  have hz0 : W0.heap.size = w.heap.size + 3 := by rw [hW0]; simp
  have B0 : Hid (Below w.heap.size w W0) := by rw [hW0]; unfold Hid; (repeat (first | with_reducible exact Below.refl _ _ | with_reducible exact hBW | with_reducible refine Below.setCell ?_ ?_ _ | with_reducible refine Below.alloc ?_ ?_ _ | with_reducible refine belowN ?_ _ | with_reducible refine Below.drew ?_)); all_goals (first | omega | (dsimp only; omega) | ((repeat (first | with_reducible refine le_alloc ?_ | with_reducible refine le_setCell ?_ | with_reducible refine le_drew ?_ | with_reducible refine le_drewN ?_)); omega))
  have e1 : W0.heap[w.heap.size]? = some (.cells #[.int .i64 0, .int .i64 0] 24) := by rw [hW0]; (repeat (first | (with_reducible refine heap_alloc_at ?_ _; (first | rfl | (simp; done) | omega | (simp; omega)); done) | with_reducible refine heap_alloc_old ?_ _ | with_reducible refine heap_drew_old ?_ | with_reducible refine heap_drewN_old ?_))
  have e2 : W0.heap[w.heap.size + 1]? = some (.cells #[.int .i64 0] 3) := by rw [hW0]; (repeat (first | (with_reducible refine heap_alloc_at ?_ _; (first | rfl | (simp; done) | omega | (simp; omega)); done) | with_reducible refine heap_alloc_old ?_ _ | with_reducible refine heap_drew_old ?_ | with_reducible refine heap_drewN_old ?_))
  have e3 : W0.heap[w.heap.size + 1 + 1]? = some (.cells #[v] 26) := by rw [hW0]; (repeat (first | (with_reducible refine heap_alloc_at ?_ _; (first | rfl | (simp; done) | omega | (simp; omega)); done) | with_reducible refine heap_alloc_old ?_ _ | with_reducible refine heap_drew_old ?_ | with_reducible refine heap_drewN_old ?_))
  have hS0 := HH.out.below B0.out
  have HG := Lib.hid HH.out.good
  clear hW0
  refine range_plain (A := ?A) (Z := fun k => k = w.heap.size + 1) rfl (by omega) (gf := 31) (lb := #[.pointer (some ⟨w.heap.size + 1 + 1, 0, none⟩)]) rfl trivial (enters_of Try.func31 (by kernel_rfl) rfl)
    (iter_stops (w.heap.size + 1 + 1) v L _ W0 (fun k h => by omega) e3 hS0) (fun _ => rfl)
    (fun pre W => (Below w.heap.size w W ∧ W.heap[w.heap.size]? = some (.cells #[.int .i64 0, .int .i64 0] 24)) ∧ W.heap[w.heap.size + 1]? = some (.cells #[.int .i64 (most (vals pre))] 3)) (fun _ _ _ => False)
    (((ownFrom_below (by omega) B0.out.size).and (own_heap _ _ (fun _ => .cells #[.int .i64 0, .int .i64 0] 24) (fun _ => rfl))).and (own_heap _ _ (fun pre => .cells #[.int .i64 (most (vals pre))] 3) (fun _ => rfl))) (fun _ _ _ _ _ hs _ _ => hs) ⟨⟨B0.out, e1⟩, e2⟩ ?assign ?body ?done ?stop
  case assign =>
    intro l x W K hK
    unfold encS
    gi_wp2
    exact hK
  case stop =>
    rintro D c pre W _ _ h _
    exact h.elim
  case body =>
    rintro l pre ⟨⟨xa, xn⟩, hx⟩ W hl ⟨r, hr⟩ ⟨⟨hB1, f1⟩, f2⟩ hlt
    have g2 := cell_of_heap f2 0
    have g3 := frozen_of_heap f2 0
    have g4 := lt_of_heap f2
    have hmx := most_append (vals pre) (xa, xn)
    gi_wp2
    refine ⟨(KeepsOthers.setCell _ _ _).from _, KZ.of_fr (Fr.setCell W ⟨w.heap.size + 1, 0, none⟩ _), ⟨?_, ?_⟩, ?_⟩
    · exact hB1.setCell (p := ⟨w.heap.size + 1, 0, none⟩) (by show w.heap.size ≤ w.heap.size + 1; omega) _
    · exact (Below.heap_setCell _ _ _ _ (by show w.heap.size ≠ w.heap.size + 1; omega)).trans f1
    · refine (heap_setCell_at f2 0 _).trans ?_
      rw [show vals (pre ++ [⟨(xa, xn), hx⟩]) = vals pre ++ [(xa, xn)] by simp [vals], hmx]
      rfl
  case done =>
    rintro D zs W hD rfl ⟨⟨hB1, f1⟩, f2⟩ hK
    rw [vals_attach] at f2
    have hmb := most_bound HG.out (fun p hp => hp)
    have hE : nextL L x = if (decide (1 ≤ x) && decide (x ≤ 1000)) && !decide (most L = 9223372036854775807) then (x, most L + 1) else (0, 0) := rfl
    generalize most L = mm at f2 hmb hE
    have hW := writes_any x
    generalize (decide (1 ≤ x) && decide (x ≤ 1000)) = B at hW hE
    have HW := Lib.hid hW
    have HE := Lib.hid hE
    have F1 := Lib.hid f1
    have g2 := cell_of_heap f2 0
    have g3 := frozen_of_heap f1
    have g4 := lt_of_heap f2
    have g5 := cell_of_heap f1
    have g6 := lt_of_heap f1
    clear hW f1 f2 hE
    go_wp2_with fail
    refine (HW.out _).mono ?_
    rintro e w5 ⟨rfl, rfl⟩
    cases B with
    | false =>
      go_wp2_with fail
      have hx : Hid (nextL L x = (0, 0)) := by rw [HE.out]; rfl
      refine end_ret ((KeepsOthers.setCell _ _ _).same D _ ((KeepsOthers.setCell _ _ _).same D _ hK rfl) rfl) (encI (0, 0)) ?_ ?_
      · have hh := heap_setCell_at (heap_setCell_at F1.out 0 (.int .i64 0)) 1 (.int .i64 0)
        have h2 := (keep_put (D := D) (o' := .deferred none) ((KeepsOthers.setCell _ _ _).same D _ ((KeepsOthers.setCell _ _ _).same D _ hK rfl) rfl) (lt_of_heap hh) (by omega)).trans hh
        have h3 := cell_of_heap h2
        simp [results, Try.results17, go_sem, h3, encI]
      · refine ⟨by rw [hx.out], below_put ?_ (Nat.le_refl _) _ (by omega)⟩
        refine Below.setCell (Below.setCell hB1 ?_ _) ?_ _ <;> exact Nat.le_refl _
    | true =>
      by_cases hmx : mm = 9223372036854775807
      · subst hmx
        go_wp2_with fail
        have hx : Hid (nextL L x = (0, 0)) := by rw [HE.out]; rfl
        refine end_ret ((KeepsOthers.setCell _ _ _).same D _ ((KeepsOthers.setCell _ _ _).same D _ hK rfl) rfl) (encI (0, 0)) ?_ ?_
        · have hh := heap_setCell_at (heap_setCell_at F1.out 0 (.int .i64 0)) 1 (.int .i64 0)
          have h2 := (keep_put (D := D) (o' := .deferred none) ((KeepsOthers.setCell _ _ _).same D _ ((KeepsOthers.setCell _ _ _).same D _ hK rfl) rfl) (lt_of_heap hh) (by omega)).trans hh
          have h3 := cell_of_heap h2
          simp [results, Try.results17, go_sem, h3, encI]
        · refine ⟨by rw [hx.out], below_put ?_ (Nat.le_refl _) _ (by omega)⟩
          refine Below.setCell (Below.setCell hB1 ?_ _) ?_ _ <;> exact Nat.le_refl _
      · have hd : (mm == 9223372036854775807) = false := by simpa using hmx
        go_wp2_with fail
        have hx : Hid (nextL L x = (x, mm + 1)) := by show _ = _; rw [HE.out]; simp [hmx]
        refine end_ret ((KeepsOthers.setCell _ _ _).same D _ ((KeepsOthers.setCell _ _ _).same D _ hK rfl) rfl) (encI (x, mm + 1)) ?_ ?_
        · have hh := heap_setCell_at (heap_setCell_at F1.out 0 (.int .i64 x)) 1 (.int .i64 (mm + 1))
          have h2 := (keep_put (D := D) (o' := .deferred none) ((KeepsOthers.setCell _ _ _).same D _ ((KeepsOthers.setCell _ _ _).same D _ hK rfl) rfl) (lt_of_heap hh) (by omega)).trans hh
          have h3 := cell_of_heap h2
          simp [results, Try.results17, go_sem, h3, encI]
        · refine ⟨by rw [hx.out], below_put ?_ (Nat.le_refl _) _ (by omega)⟩
          refine Below.setCell (Below.setCell hB1 ?_ _) ?_ _ <;> exact Nat.le_refl _
end Go.Proofs.Ytebifjjghogboaa
