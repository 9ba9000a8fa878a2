/- Join, Clone. -/
import Derived.Test.YtebifjjghogboaaD34Cov
namespace Go.Proofs.Ytebifjjghogboaa
open Go.RowKit Go.Shelf Go.Maps
attribute [local go_sem] Oper.semAt_some
theorem own_fr {β : Type} {B : Nat} {S : Nat → Prop} {w₀ : World} (hB : w₀.heap.size ≤ B) : OwnFrom B (fun (_ : β) W => Fr S w₀ W) := fun _ X Y row hs hg hr =>
  ⟨hg.os.trans hs.os, hg.tape.trans hs.tape, hg.output.trans hs.output, Nat.le_trans hs.size hg.size, fun k hk hn => (hg.block k (Nat.lt_of_lt_of_le hk hs.size) (fun e => by have := (hr k e.symm).1; omega)).trans (hs.block k hk hn)⟩
theorem joinL_append (L : List Id2) (M : List Id2) (x : Id2) : joinL L (M ++ [x]) = addL (joinL L M) x := by simp [joinL]
theorem fr_put {S : Nat → Prop} {w W : World} {D : Nat} (h : Fr S w W) (o : Obj) (hD : w.heap.size ≤ D) : Fr S w (W.putObj D o) :=
  h.trans (S' := fun k => k = D) ((Fr.grown (grownBy_putObj' W D o)).mono (fun k _ e => by cases e; rfl)) (fun i hi e => by omega)
set_option maxHeartbeats 2000000 in
set_option maxRecDepth 100000 in
theorem join_sn {p b : Nat} {u : Value} {L M : List Id2} {w : World} (hs : Sn w p b L) (ht : SnV w u M) : Calls Try.prog 23 #[.pointer (some ⟨p, 0, none⟩), u] w fun e w' => e = .returned (.tuple #[]) ∧ Sn w' p b (joinL L M) ∧ Fr (fun x => x = b) w w' := by
  have hu := ht.ptr
  have hpb := hs.2.lt
  have hpp := lt_of_heap hs.1
  have HS := Lib.hid hs
  have HT := Lib.hid ht
  have HU := Lib.hid hu
  clear hs ht hu
  refine (callsIn_wide (n := 8)).1 ?_
  refine callsIn_of_wp_marks Try.func23 rfl trivial ?_ rfl
  simp only [Try.ntmps23, List.size_toArray, List.length_cons, List.length_nil, Nat.reduceAdd, Nat.reduceSub, Array.replicate_succ, Array.replicate_zero, List.push_toArray, List.append_toArray, List.nil_append, List.cons_append]
  refine wpIn_wide.2 ?_
  go_wp2_with fail
  refine (all_any u _ HU.out).mono ?_
  rintro e w1 ⟨rfl, rfl⟩
  go_wp2_with fail
  refine (wpIn_wide (n := 8)).1 ?_
  refine abs_worldIn ?_
  intro W0 hW0
  have hz0 : W0.heap.size = w.heap.size + 2 := by rw [hW0]; simp
  have B0 : Hid (Below w.heap.size w W0) := by rw [hW0]; unfold Hid; (repeat (first | with_reducible exact Below.refl _ _ | with_reducible exact hBW | with_reducible refine Below.setCell ?_ ?_ _ | with_reducible refine Below.alloc ?_ ?_ _ | with_reducible refine belowN ?_ _ | with_reducible refine Below.drew ?_)); all_goals (first | omega | (dsimp only; omega) | ((repeat (first | with_reducible refine le_alloc ?_ | with_reducible refine le_setCell ?_ | with_reducible refine le_drew ?_ | with_reducible refine le_drewN ?_)); omega))
  have e1 : W0.heap[w.heap.size]? = some (.cells #[.pointer (some ⟨p, 0, none⟩)] 26) := by rw [hW0]; (repeat (first | (with_reducible refine heap_alloc_at ?_ _; (first | rfl | (simp; done) | omega | (simp; omega)); done) | with_reducible refine heap_alloc_old ?_ _ | with_reducible refine heap_drew_old ?_ | with_reducible refine heap_drewN_old ?_))
  have e3 : W0.heap[w.heap.size + 1]? = some (.cells #[u] 26) := by rw [hW0]; (repeat (first | (with_reducible refine heap_alloc_at ?_ _; (first | rfl | (simp; done) | omega | (simp; omega)); done) | with_reducible refine heap_alloc_old ?_ _ | with_reducible refine heap_drew_old ?_ | with_reducible refine heap_drewN_old ?_))
  have hT0 := HT.out.below B0.out
  have hS0 := HS.out.below B0.out
  have GM := Lib.hid HT.out.good
  clear hW0
  refine range_plain (A := ?A) (Z := fun k => k = b) rfl (by omega) (gf := 31) (lb := #[.pointer (some ⟨w.heap.size + 1, 0, none⟩)]) rfl trivial (enters_of Try.func31 (by kernel_rfl) rfl)
    (iter_stops (w.heap.size + 1) u M _ W0 (fun k h => by omega) e3 hT0) (fun _ => rfl)
    (fun pre W => (Fr (fun x => x = b) w W ∧ W.heap[w.heap.size]? = some (.cells #[.pointer (some ⟨p, 0, none⟩)] 26)) ∧ Sn W p b (joinL L (vals pre)))
    (fun _ _ _ => False)
    (((own_fr B0.out.size).and (own_heap _ _ (fun _ => .cells #[.pointer (some ⟨p, 0, none⟩)] 26) (fun _ => rfl))).and (own_sn (by omega) (fun pre => joinL L (vals pre))))
    (fun _ _ _ _ _ hs _ _ => hs) ⟨⟨Fr.of_below B0.out, e1⟩, hS0⟩ ?assign ?body ?done ?stop
  case assign =>
    intro l x W K hK
    unfold encS
    gi_wp2
    exact hK
  case stop =>
    rintro D c pre W _ _ h _
    exact h.elim
  case body =>
    rintro l pre ⟨⟨xa, xn⟩, hx⟩ W hl ⟨r, hr⟩ ⟨⟨hB1, f1⟩, f2⟩ hlt
    have g2 := cell_of_heap f1 0
    have g4 := lt_of_heap f1
    gi_wp2_with fail
    refine ⟨trivial, (CallsIn.inRound l (callsIn_wide.2 (add_sn f2 (xa, xn) (GM.out.inI _ hx)))).mono ?_⟩
    rintro e W5 ⟨rfl, s5, f5⟩
    have KF : Hid (KeepsFrom W0.heap.size W W5) := ⟨f5.size, fun k o hk0 hk _ => (f5.block k (lt_of_heap hk) (by omega)).trans hk⟩
    have K5 : Hid (KZ (fun k => k = b) W W5) := KZ.of_fr f5
    have B5 : Hid (Fr (fun x => x = b) w W5) := hB1.trans f5 (fun _ _ h => h)
    have k1 : Hid (W5.heap[w.heap.size]? = some (.cells #[.pointer (some ⟨p, 0, none⟩)] 26)) := (f5.block _ (lt_of_heap f1) (by omega)).trans f1
    have S5 : Hid (Sn W5 p b (joinL L (vals (pre ++ [⟨(xa, xn), hx⟩])))) := by
      unfold Hid
      rw [vals_append, joinL_append]
      exact s5
    clear g2 g4 f5 s5
    gi_wp2
    exact ⟨KF.out, K5.out, ⟨B5.out, k1.out⟩, S5.out⟩
  case done =>
    rintro D zs W hD rfl ⟨⟨hB1, f1⟩, f2⟩ hK
    rw [vals_attach] at f2
    have F2 := Lib.hid f2
    have hB := Lib.hid hB1
    clear f2 hB1
    go_wp2
    refine end_normal hK (.tuple #[]) (results_none rfl _ _ _) ⟨rfl, ?_, fr_put hB.out _ (by omega)⟩
    refine F2.out.frame (S := fun k => k = D) ((Fr.grown (grownBy_putObj' W D _)).mono (fun k _ e => by cases e; rfl)) ?_ ?_ <;> (show ¬ _ = _; omega)
set_option maxHeartbeats 2000000 in
set_option maxRecDepth 100000 in
theorem join_nil {u : Value} {M : List Id2} {w : World} (ht : SnV w u M) : Calls Try.prog 23 #[.pointer none, u] w fun e w' => e = .returned (.tuple #[]) ∧ Below w.heap.size w w' := by
  have hu := ht.ptr
  have HT := Lib.hid ht
  have HU := Lib.hid hu
  clear ht hu
  refine (callsIn_wide (n := 8)).1 ?_
  refine callsIn_of_wp_marks Try.func23 rfl trivial ?_ rfl
  simp only [Try.ntmps23, List.size_toArray, List.length_cons, List.length_nil, Nat.reduceAdd, Nat.reduceSub, Array.replicate_succ, Array.replicate_zero, List.push_toArray, List.append_toArray, List.nil_append, List.cons_append]
  refine wpIn_wide.2 ?_
  go_wp2_with fail
  refine (all_any u _ HU.out).mono ?_
  rintro e w1 ⟨rfl, rfl⟩
  go_wp2_with fail
  refine (wpIn_wide (n := 8)).1 ?_
  refine abs_worldIn ?_
  intro W0 hW0
  have hz0 : W0.heap.size = w.heap.size + 2 := by rw [hW0]; simp
  have B0 : Hid (Below w.heap.size w W0) := by rw [hW0]; unfold Hid; (repeat (first | with_reducible exact Below.refl _ _ | with_reducible exact hBW | with_reducible refine Below.setCell ?_ ?_ _ | with_reducible refine Below.alloc ?_ ?_ _ | with_reducible refine belowN ?_ _ | with_reducible refine Below.drew ?_)); all_goals (first | omega | (dsimp only; omega) | ((repeat (first | with_reducible refine le_alloc ?_ | with_reducible refine le_setCell ?_ | with_reducible refine le_drew ?_ | with_reducible refine le_drewN ?_)); omega))
  have e1 : W0.heap[w.heap.size]? = some (.cells #[.pointer none] 26) := by rw [hW0]; (repeat (first | (with_reducible refine heap_alloc_at ?_ _; (first | rfl | (simp; done) | omega | (simp; omega)); done) | with_reducible refine heap_alloc_old ?_ _ | with_reducible refine heap_drew_old ?_ | with_reducible refine heap_drewN_old ?_))
  have e3 : W0.heap[w.heap.size + 1]? = some (.cells #[u] 26) := by rw [hW0]; (repeat (first | (with_reducible refine heap_alloc_at ?_ _; (first | rfl | (simp; done) | omega | (simp; omega)); done) | with_reducible refine heap_alloc_old ?_ _ | with_reducible refine heap_drew_old ?_ | with_reducible refine heap_drewN_old ?_))
  have hT0 := HT.out.below B0.out
  clear hW0
  refine range_plain (A := ?A) (Z := fun _ => False) rfl (by omega) (gf := 31) (lb := #[.pointer (some ⟨w.heap.size + 1, 0, none⟩)]) rfl trivial (enters_of Try.func31 (by kernel_rfl) rfl)
    (iter_stops (w.heap.size + 1) u M _ W0 (fun k h => h.elim) e3 hT0) (fun _ => rfl)
    (fun _ W => Below w.heap.size w W ∧ W.heap[w.heap.size]? = some (.cells #[.pointer none] 26))
    (fun _ _ _ => False)
    ((ownFrom_below (by omega) B0.out.size).and (own_heap _ _ (fun _ => .cells #[.pointer none] 26) (fun _ => rfl)))
    (fun _ _ _ _ _ hs _ _ => hs) ⟨B0.out, e1⟩ ?assign ?body ?done ?stop
  case assign =>
    intro l x W K hK
    unfold encS
    gi_wp2
    exact hK
  case stop =>
    rintro D c pre W _ _ h _
    exact h.elim
  case body =>
    rintro l pre ⟨⟨xa, xn⟩, hx⟩ W hl ⟨r, hr⟩ ⟨hB1, f1⟩ hlt
    have g2 := cell_of_heap f1 0
    have g4 := lt_of_heap f1
    gi_wp2_with fail
    refine ⟨trivial, (CallsIn.inRound l (callsIn_wide.2 (add_nil (xa, xn) W))).mono ?_⟩
    rintro e W5 ⟨rfl, f5⟩
    have KF : Hid (KeepsFrom W0.heap.size W W5) := ⟨f5.size, fun k o _ hk _ => (f5.block k (lt_of_heap hk)).trans hk⟩
    have K5 : Hid (KZ (fun _ => False) W W5) := KZ.of_fr (Fr.of_below f5)
    have B5 : Hid (Below w.heap.size w W5) := hB1.trans (f5.mono hB1.size)
    have k1 : Hid (W5.heap[w.heap.size]? = some (.cells #[.pointer none] 26)) := (f5.block _ (lt_of_heap f1)).trans f1
    clear g2 g4 f5
    gi_wp2
    exact ⟨KF.out, K5.out, B5.out, k1.out⟩
  case done =>
    rintro D zs W hD rfl ⟨hB1, f1⟩ hK
    have hB := Lib.hid hB1
    clear hB1
    go_wp2
    exact end_normal hK (.tuple #[]) (results_none rfl _ _ _) ⟨rfl, below_put hB.out (Nat.le_refl _) _ (by omega)⟩
theorem joinL_nil {M : List Id2} (h : Good M) : joinL [] M = M := eq_of_mo (good_joinL good_nil h) h fun a => by
  rw [mo_joinL good_nil h, mo_nil]
  have := mo_bound h a
  omega
theorem clone_any {u : Value} {M : List Id2} {w : World} (ht : SnV w u M) : Calls Try.prog 25 #[u] w fun e w' => e = .returned (.pointer (some ⟨w.heap.size + 1, 0, none⟩)) ∧ Sn w' (w.heap.size + 1) w.heap.size M ∧ Below w.heap.size w w' := by
  have HT := Lib.hid ht
  have HG := Lib.hid ht.good
  clear ht
  go_enter Try.func25, Try.ntmps25
  go_wp2_with fail
  refine (new_any _).mono ?_
  rintro e w1 ⟨rfl, s1, b1, z1⟩
  have S1 := Lib.hid s1
  have B1 := Lib.hid b1
  clear s1 b1 z1
  go_wp2_with fail
  refine (join_sn S1.out (HT.out.below B1.out)).mono ?_
  rintro e w2 ⟨rfl, s2, f2⟩
  rw [joinL_nil HG.out] at s2
  have S2 := Lib.hid s2
  have B2 : Hid (Below w.heap.size w w2) := B1.out.trans (f2.below B1.out.size (fun k h => by omega))
  clear s2 f2
  go_wp2_with fail
  go_ret
  exact ⟨rfl, S2.out, B2.out⟩
end Go.Proofs.Ytebifjjghogboaa
