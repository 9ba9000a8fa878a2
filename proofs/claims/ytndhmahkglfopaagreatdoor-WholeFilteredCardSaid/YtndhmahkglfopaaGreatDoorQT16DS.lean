/- awake16. -/
import Derived.Test.YtndhmahkglfopaaGreatDoorQT16CD
import Derived.Test.YtndhmahkglfopaaGreatDoorQInv
import Derived.Test.YtndhmahkglfopaaGreatDoorQT16R
import Derived.Test.YtndhmahkglfopaaGreatDoorQT13Same
namespace Go.Proofs.YtndhmahkglfopaaGreatDoor
open Go.RowKit Go.Sort
theorem c16_new (w : World) (D : List Int) : C16 (w.alloc (.cells (D.map (Value.int .i16)).toArray 23)) w.heap.size D := by
  refine ⟨by simp, fun i d hd => ?_⟩
  rw [cell_of_heap (heap_alloc_new w _) i]
  simp [hd]
theorem args1_new (w : World) (D : List Int) (a : Option Addr) (cap : Nat) (n : Nat) (hn : n = D.length) (hs : SlB 0 w a (D.map cntV)) : ArgC D w.heap.size 0 a cap (w.alloc (.cells #[.int .i64 n, .int .i64 1, .slice a n cap] 28)) := by
  subst hn
  have hh := heap_alloc_new w (.cells #[.int .i64 D.length, .int .i64 1, .slice a D.length cap] 28)
  exact ⟨by simp, cell_of_heap hh 0, cell_of_heap hh 1, cell_of_heap hh 2, hs.below (below_alloc w _ _ (Nat.le_refl _))⟩
section
/- the end, behind the column; $1: its world (BB: Below W5, SC: its slice, sp scap) -/
variable (w : World)
set_option maxHeartbeats 4000000
set_option maxRecDepth 100000
theorem awake_any (ht : Tab w) : Calls Tryz.prog 5 #[] w fun e w' => e = .returned (.bool true) ∧ Below w.heap.size w w' := by
  have HT := Lib.hid ht
  clear ht
  go_enter Tryz.func5, Tryz.ntmps5
  go_wp2_with fail
  refine (column_any _ [1, 2, 3] (by simp) (by simp) _ 3 (c16_new w [1, 2, 3])).mono ?_
  rintro e w1 ⟨a1, cap1, rfl, _, hs1, hb1⟩
  have HB1 : Hid (Go.RowKit.Below w.heap.size w w1) := (below_alloc w _ _ (Nat.le_refl _)).trans (hb1.mono (by simp))
  have S1 := Lib.hid (hs1.mono (Nat.zero_le _))
  clear hs1 hb1
  simp only [List.length_map, List.length_cons, List.length_nil, Nat.zero_add, Nat.reduceAdd]
  go_wp2_with fail
  have ha := (args1_new w1 [1, 2, 3] a1 cap1 3 rfl S1.out).args
  have hR : ∀ d ∈ [1, 2, 3], refR (cntV d) = true := fun d hd => by
    simp only [List.mem_cons, List.mem_nil_iff, or_false] at hd
    rcases hd with rfl | rfl | rfl
    · exact cnt1_right (n := 1) (by omega) (by omega)
    · exact cnt1_right (n := 2) (by omega) (by omega)
    · exact cnt1_right (n := 3) (by omega) (by omega)
  have key := call_sum ⟨3, 1, [1, 2, 3].map cntV⟩ (col_right hR (by simp) (by simp)) (by simp) (by simp) (fun v hv => by
    obtain ⟨d, _, rfl⟩ := List.mem_map.1 hv
    rfl) (some ⟨w1.heap.size, 0, none⟩) 1 _ ha (HT.out.below (HB1.out.alloc HB1.out.size _))
  rw [sum123] at key
  refine key.mono ?_
  clear key ha hR
  rintro e w2 ⟨x, rfl, ⟨a2, cap2, rfl, hs2⟩, hb2⟩
  have HB2 : Hid (Go.RowKit.Below w.heap.size w w2) := (HB1.out.alloc HB1.out.size _).trans (hb2.mono (by have := HB1.out.size; simp; omega))
  have S2 := Lib.hid (hs2.mono (Nat.zero_le _))
  clear hs2 hb2 S1 HB1
  simp only [List.length_cons, List.length_nil, Nat.zero_add]
  go_wp2_with fail
  have hc := c16_new (w2.alloc (.cells #[.int .i64 1, .int .i64 1, .slice a2 1 cap2] 28)) [3, 1]
  rw [World.size_alloc] at hc
  refine (column_any _ [3, 1] (by simp) (by simp) _ 2 hc).mono ?_
  clear hc
  rintro e w3 ⟨a3, cap3, rfl, hx3, hs3, hb3⟩
  have hb3' : Go.RowKit.Below w2.heap.size w2 w3 := ((below_alloc w2 _ _ (Nat.le_refl _)).alloc (by simp) _).trans (hb3.mono (by simp; omega))
  have G1 : Hid (w3.heap[w2.heap.size]? = some (.cells #[.int .i64 1, .int .i64 1, .slice a2 1 cap2] 28)) := (hb3.block _ (by simp; omega)).trans (by (repeat (first | (with_reducible refine bw5 ?_ _; (first | rfl | (simp; done) | omega | (simp; omega)); done) | with_reducible refine bw6 ?_ _ | with_reducible refine bw7 ?_ | with_reducible refine bw8 ?_)))
  have HB3 := Lib.hid (HB2.out.trans (hb3'.mono HB2.out.size))
  have S2' := Lib.hid (S2.out.below hb3')
  have S3 := Lib.hid (hs3.mono (Nat.zero_le _))
  clear hs3 hb3 hb3' S2 HB2
  simp only [List.length_map, List.length_cons, List.length_nil, Nat.zero_add, Nat.reduceAdd] at hx3 ⊢
  go_wp2_with fail
  have ha := args1_new w3 [3, 1] a3 cap3 2 rfl S3.out
  have hR : ∀ d ∈ [3, 1], refR (cntV d) = true := fun d hd => by
    simp only [List.mem_cons, List.mem_nil_iff, or_false] at hd
    rcases hd with rfl | rfl
    · exact cnt1_right (n := 3) (by omega) (by omega)
    · exact cnt1_right (n := 1) (by omega) (by omega)
  have key := call_sort [3, 1] hR cmp31 (by simp) (by simp) (fun h => by simp at h) _ 0 1 cap3 a3 hx3 _ ha
  rw [sort31] at key
  refine key.mono ?_
  clear key ha hR
  rintro e w4 ⟨a4, cap4, rfl, _, hs4, hb4⟩
  have hb4' : Go.RowKit.Below w3.heap.size w3 w4 := (below_alloc w3 _ _ (Nat.le_refl _)).trans (hb4.mono (by simp))
  have G2 := Lib.hid ((hb4'.block _ (lt_of_heap G1.out)).trans G1.out)
  have HB4 := Lib.hid (HB3.out.trans (hb4'.mono HB3.out.size))
  have S2 := Lib.hid (S2'.out.below hb4')
  have S4' := Lib.hid (hs4.mono (Nat.zero_le _))
  clear hs4 hb4 hb4' S2' HB3 G1 S3 hx3
  simp only [List.length_map, List.length_cons, List.length_nil, Nat.zero_add, Nat.reduceAdd]
  go_wp2_with fail
  refine abs_world ?_
  intro W5 hW5
  have b5 : Go.RowKit.Below w4.heap.size w4 W5 := by rw [hW5]; exact below_alloc w4 _ _ (Nat.le_refl _)
  have g1 := (b5.block _ (lt_of_heap G2.out)).trans G2.out
  have g2 : W5.heap[w4.heap.size]? = some (.cells #[.int .i64 2, .int .i64 1, .slice a4 2 cap4] 28) := by rw [hW5]; exact heap_alloc_new w4 _
  have HB5 := Lib.hid (HB4.out.trans (b5.mono HB4.out.size))
  have S1 := Lib.hid (S2.out.below b5)
  have S4 := Lib.hid (S4'.out.below b5)
  have HG2 := Lib.hid g2
  have p0 := cell_of_heap g1 0
  have p1 := cell_of_heap g1 1
  have p2 := cell_of_heap g1 2
  have zp := lt_of_heap g1
  clear hW5 b5 g1 g2 HB4 S2 S4' G2
  refine wp_region_ord [0] (.one 1 (.one 2 (.one 3 (.one 4 (.two 5 6 (.one 6 (.one 7 (.one 8 (.one 9 (.one 10 .nil))))) (.two 5 7 (.one 7 (.one 8 (.one 9 (.one 10 .nil)))) (.one 5 (.one 8 (.one 9 (.one 10 .nil)))))))))) [3, 4, 5, 6, 7, 8, 9, 10] (Go.RowKit.Below W5.heap.size W5) (by kernel_rfl) (by kernel_rfl) (Below.refl _ _).drew ?_
  iterate 1 (first | (apply first_step; (rw [List.getElem?_toArray]; (repeat rw [List.getElem?_cons_succ]); rw [List.getElem?_cons_zero]); rfl; (intro W hB; have hc := bcellB hB; go_simp; (first | done | rfl)); go_frame) | (apply first_skip; (rw [List.getElem?_toArray]; (repeat rw [List.getElem?_cons_succ]); rw [List.getElem?_cons_zero]); rfl; go_frame))
  refine first_done ?_
  clear p0 p1 p2 zp
  apply ord_step; (rw [List.getElem?_toArray]; (repeat rw [List.getElem?_cons_succ]); rw [List.getElem?_cons_zero]); rfl; intro K hK; go_simp
  refine (topcount_any _ 6 (by unfold Small; omega)).mono ?_
  rintro e y1 ⟨rfl, hy1⟩
  have hz1 : Go.RowKit.Below W5.heap.size W5 y1 := (Below.refl _ W5).drew.trans hy1
  refine hK _ _ (fun _ => hz1) ?_
  clear hK K hy1
  have HZ1 := Lib.hid hz1
  clear hz1
  apply ord_step; (rw [List.getElem?_toArray]; (repeat rw [List.getElem?_cons_succ]); rw [List.getElem?_cons_zero]); rfl; intro K hK; go_simp
  refine (single_any _ (cntV 6) (cnt1_right (n := 6) (by omega) (by omega))).mono ?_
  rintro e y2 ⟨x, rfl, ⟨a5, cap5, rfl, hs5⟩, hy2⟩
  have hz2 := HZ1.out.trans (hy2.mono HZ1.out.size)
  refine hK _ _ (fun _ => hz2) ?_
  clear hK K hy2
  have HZ2 := Lib.hid hz2
  have S5 := Lib.hid (hs5.mono (Nat.zero_le _))
  clear hz2 hs5 HZ1
  apply ord_step; (rw [List.getElem?_toArray]; (repeat rw [List.getElem?_cons_succ]); rw [List.getElem?_cons_zero]); rfl; intro K hK; go_simp
  refine (same_yes ⟨1, 1, [cntV 6]⟩ _ _ _ ⟨a2, cap2, rfl, S1.out.below HZ2.out⟩ ⟨a5, cap5, rfl, S5.out⟩ (by simp)).mono ?_
  rintro e y3 ⟨rfl, hy3⟩
  refine hK _ _ (fun h => absurd (by decide) h) ?_
  clear hK K
  have hz3 := HZ2.out.trans (hy3.mono HZ2.out.size)
  have HZ3 := Lib.hid hz3
  have g2 := (hz3.block _ (lt_of_heap HG2.out)).trans HG2.out
  have q0 := cell_of_heap g2 0
  have q1 := cell_of_heap g2 1
  have q2 := cell_of_heap g2 2
  have zr := lt_of_heap g2
  have zr1 : w4.heap.size ≠ y3.heap.size := by omega
  have zr2 : w4.heap.size < y3.heap.size + 1 := by omega
  clear hy3 hz3 g2 S1 S5 HZ2
  apply ord_step; (rw [List.getElem?_toArray]; (repeat rw [List.getElem?_cons_succ]); rw [List.getElem?_cons_zero]); rfl; intro K hK; go_simp
  refine hK _ _ (fun h => absurd (by decide) h) ?_; clear hK K
  refine ord_two ?_ ?_
  · apply ord_step; (rw [List.getElem?_toArray]; (repeat rw [List.getElem?_cons_succ]); rw [List.getElem?_cons_zero]); rfl; intro K hK; go_simp
    refine hK _ _ (fun h => absurd (by decide) h) ?_; clear hK K
    apply ord_step; (rw [List.getElem?_toArray]; (repeat rw [List.getElem?_cons_succ]); rw [List.getElem?_cons_zero]); rfl; intro K hK; go_simp
    refine hK _ _ (fun h => absurd (by decide) h) ?_; clear hK K
    apply ord_step; (rw [List.getElem?_toArray]; (repeat rw [List.getElem?_cons_succ]); rw [List.getElem?_cons_zero]); rfl; intro K hK; go_simp
    refine (column_any _ [1, 3] (by simp) (by simp) _ 2 (c16_new y3 [1, 3])).mono ?_
    rintro e y4 ⟨sp, scap, rfl, _, hsc, hy4⟩
    simp only [List.length_map, List.length_cons, List.length_nil, Nat.zero_add, Nat.reduceAdd]
    refine hK _ _ (fun h => absurd (by decide) h) ?_
    clear hK K
    have hy5 : Go.RowKit.Below y3.heap.size y3 y4 := (below_alloc y3 _ _ (Nat.le_refl _)).trans (hy4.mono (by simp))
    have BB := Lib.hid (HZ3.out.trans (hy5.mono HZ3.out.size))
    have SC := Lib.hid (hsc.mono (Nat.zero_le _))
    have r0 := (hy5.cell (p := ⟨w4.heap.size, 0, none⟩) zr).trans q0
    have r1 := (hy5.cell (p := ⟨w4.heap.size, 1, none⟩) zr).trans q1
    have r2 := (hy5.cell (p := ⟨w4.heap.size, 2, none⟩) zr).trans q2
    have zs := Nat.lt_of_lt_of_le zr hy5.size
    clear hy4 hy5 hsc q0 q1 q2 zr
    apply ord_step; (rw [List.getElem?_toArray]; (repeat rw [List.getElem?_cons_succ]); rw [List.getElem?_cons_zero]); rfl; intro K hK; go_simp
    refine (same_yes ⟨2, 1, [1, 3].map cntV⟩ _ _ _ ⟨a4, cap4, rfl, S4.out.below BB.out⟩ ⟨sp, scap, rfl, SC.out⟩ (by simp)).mono ?_
    rintro e (y5) ⟨rfl, hbz⟩
    refine hK _ _ (fun h => absurd (by decide) h) ?_
    clear hK K
    have BZ := Lib.hid (BB.out.trans (hbz.mono BB.out.size))
    clear hbz
    apply ord_step; (rw [List.getElem?_toArray]; (repeat rw [List.getElem?_cons_succ]); rw [List.getElem?_cons_zero]); rfl; intro K hK; go_simp
    refine hK _ _ (fun h => absurd (by decide) h) ?_; clear hK K
    apply ord_step; (rw [List.getElem?_toArray]; (repeat rw [List.getElem?_cons_succ]); rw [List.getElem?_cons_zero]); rfl; intro K hK; go_simp
    refine hK _ _ (fun h => absurd (by decide) h) ?_; clear hK K
    refine ord_done ?_
    go_wp2_with fail
    refine bodyPost_ret (v := .bool true) (by simp [results, Tryz.results5, go_sem]) rfl ⟨rfl, ?_⟩
    exact HB5.out.trans (BZ.out.mono HB5.out.size)
  · apply ord_step; (rw [List.getElem?_toArray]; (repeat rw [List.getElem?_cons_succ]); rw [List.getElem?_cons_zero]); rfl; intro K hK; go_simp
    refine hK _ _ (fun h => absurd (by decide) h) ?_; clear hK K
    refine ord_two ?_ ?_
    · apply ord_step; (rw [List.getElem?_toArray]; (repeat rw [List.getElem?_cons_succ]); rw [List.getElem?_cons_zero]); rfl; intro K hK; go_simp
      refine hK _ _ (fun h => absurd (by decide) h) ?_; clear hK K
      apply ord_step; (rw [List.getElem?_toArray]; (repeat rw [List.getElem?_cons_succ]); rw [List.getElem?_cons_zero]); rfl; intro K hK; go_simp
      refine (column_any _ [1, 3] (by simp) (by simp) _ 2 (c16_new y3 [1, 3])).mono ?_
      rintro e y4 ⟨sp, scap, rfl, _, hsc, hy4⟩
      simp only [List.length_map, List.length_cons, List.length_nil, Nat.zero_add, Nat.reduceAdd]
      refine hK _ _ (fun h => absurd (by decide) h) ?_
      clear hK K
      have hy5 : Go.RowKit.Below y3.heap.size y3 y4 := (below_alloc y3 _ _ (Nat.le_refl _)).trans (hy4.mono (by simp))
      have BB := Lib.hid (HZ3.out.trans (hy5.mono HZ3.out.size))
      have SC := Lib.hid (hsc.mono (Nat.zero_le _))
      have r0 := (hy5.cell (p := ⟨w4.heap.size, 0, none⟩) zr).trans q0
      have r1 := (hy5.cell (p := ⟨w4.heap.size, 1, none⟩) zr).trans q1
      have r2 := (hy5.cell (p := ⟨w4.heap.size, 2, none⟩) zr).trans q2
      have zs := Nat.lt_of_lt_of_le zr hy5.size
      clear hy4 hy5 hsc q0 q1 q2 zr
      apply ord_step; (rw [List.getElem?_toArray]; (repeat rw [List.getElem?_cons_succ]); rw [List.getElem?_cons_zero]); rfl; intro K hK; go_simp
      refine (same_yes ⟨2, 1, [1, 3].map cntV⟩ _ _ _ ⟨a4, cap4, rfl, S4.out.below BB.out⟩ ⟨sp, scap, rfl, SC.out⟩ (by simp)).mono ?_
      rintro e (y5) ⟨rfl, hbz⟩
      refine hK _ _ (fun h => absurd (by decide) h) ?_
      clear hK K
      have BZ := Lib.hid (BB.out.trans (hbz.mono BB.out.size))
      clear hbz
      apply ord_step; (rw [List.getElem?_toArray]; (repeat rw [List.getElem?_cons_succ]); rw [List.getElem?_cons_zero]); rfl; intro K hK; go_simp
      refine hK _ _ (fun h => absurd (by decide) h) ?_; clear hK K
      apply ord_step; (rw [List.getElem?_toArray]; (repeat rw [List.getElem?_cons_succ]); rw [List.getElem?_cons_zero]); rfl; intro K hK; go_simp
      refine hK _ _ (fun h => absurd (by decide) h) ?_; clear hK K
      refine ord_done ?_
      go_wp2_with fail
      refine bodyPost_ret (v := .bool true) (by simp [results, Tryz.results5, go_sem]) rfl ⟨rfl, ?_⟩
      exact HB5.out.trans (BZ.out.mono HB5.out.size)
    · apply ord_step; (rw [List.getElem?_toArray]; (repeat rw [List.getElem?_cons_succ]); rw [List.getElem?_cons_zero]); rfl; intro K hK; go_simp
      refine (column_any _ [1, 3] (by simp) (by simp) _ 2 (c16_new y3 [1, 3])).mono ?_
      rintro e y4 ⟨sp, scap, rfl, _, hsc, hy4⟩
      simp only [List.length_map, List.length_cons, List.length_nil, Nat.zero_add, Nat.reduceAdd]
      refine hK _ _ (fun h => absurd (by decide) h) ?_
      clear hK K
      have hy5 : Go.RowKit.Below y3.heap.size y3 y4 := (below_alloc y3 _ _ (Nat.le_refl _)).trans (hy4.mono (by simp))
      have BB := Lib.hid (HZ3.out.trans (hy5.mono HZ3.out.size))
      have SC := Lib.hid (hsc.mono (Nat.zero_le _))
      have r0 := (hy5.cell (p := ⟨w4.heap.size, 0, none⟩) zr).trans q0
      have r1 := (hy5.cell (p := ⟨w4.heap.size, 1, none⟩) zr).trans q1
      have r2 := (hy5.cell (p := ⟨w4.heap.size, 2, none⟩) zr).trans q2
      have zs := Nat.lt_of_lt_of_le zr hy5.size
      clear hy4 hy5 hsc q0 q1 q2 zr
      apply ord_step; (rw [List.getElem?_toArray]; (repeat rw [List.getElem?_cons_succ]); rw [List.getElem?_cons_zero]); rfl; intro K hK; go_simp
      refine hK _ _ (fun h => absurd (by decide) h) ?_; clear hK K
      apply ord_step; (rw [List.getElem?_toArray]; (repeat rw [List.getElem?_cons_succ]); rw [List.getElem?_cons_zero]); rfl; intro K hK; go_simp
      refine (same_yes ⟨2, 1, [1, 3].map cntV⟩ _ _ _ ⟨a4, cap4, rfl, S4.out.below BB.out⟩ ⟨sp, scap, rfl, SC.out⟩ (by simp)).mono ?_
      rintro e (y5) ⟨rfl, hbz⟩
      refine hK _ _ (fun h => absurd (by decide) h) ?_
      clear hK K
      have BZ := Lib.hid (BB.out.trans (hbz.mono BB.out.size))
      clear hbz
      apply ord_step; (rw [List.getElem?_toArray]; (repeat rw [List.getElem?_cons_succ]); rw [List.getElem?_cons_zero]); rfl; intro K hK; go_simp
      refine hK _ _ (fun h => absurd (by decide) h) ?_; clear hK K
      apply ord_step; (rw [List.getElem?_toArray]; (repeat rw [List.getElem?_cons_succ]); rw [List.getElem?_cons_zero]); rfl; intro K hK; go_simp
      refine hK _ _ (fun h => absurd (by decide) h) ?_; clear hK K
      refine ord_done ?_
      go_wp2_with fail
      refine bodyPost_ret (v := .bool true) (by simp [results, Tryz.results5, go_sem]) rfl ⟨rfl, ?_⟩
      exact HB5.out.trans (BZ.out.mono HB5.out.size)
end
end Go.Proofs.YtndhmahkglfopaaGreatDoor
/- The law's drawn regions: what each operation yields. -/
namespace Go.Proofs.YtndhmahkglfopaaGreatDoor
open Go.RowKit
/-- A list of words, one for each operation. -/
def OpW (ps : List (Value → World → Prop)) (i : Nat) : Value → World → Prop := (ps[i]?).getD (fun _ _ => False)
def StabP (p : Value → World → Prop) : Prop := ∀ v w w', p v w → Below w.heap.size w w' → p v w'
theorem OpW.stab {ps : List (Value → World → Prop)} (h : ∀ p ∈ ps, StabP p) (i : Nat) (v : Value) (w w' : World) (ht : OpW ps i v w) (hb : Below w.heap.size w w') : OpW ps i v w' := by
  unfold OpW at *
  cases hp : ps[i]? with
  | none => rw [hp] at ht; exact ht
  | some p =>
    rw [hp] at ht
    exact h p (List.mem_of_getElem? hp) v w w' ht hb
def isV (x : Value) (v : Value) (_ : World) : Prop := v = x
def isArg (l : List Arr) (v : Value) (w : World) : Prop := ∃ b, v = .slice (some ⟨b, 0, none⟩) l.length l.length ∧ ArgsAt 0 w (some ⟨b, 0, none⟩) l
def isA (A : Arr) (v : Value) (w : World) : Prop := ∃ a c, v = arrA A a c ∧ SlB 0 w a A.l
def isP (A : Arr) (v : Value) (w : World) : Prop := ∃ a c, v = .tuple #[arrA A a c, .bool true] ∧ SlB 0 w a A.l
def isBox (B : Nat) (v : Value) (w : World) : Prop := ∃ b, v = .pointer (some ⟨b, 0, none⟩) ∧ B ≤ b ∧ w.heap[b]? = some (.cells #[.int .i64 0, .int .i64 0, .slice none 0 0] 28)
theorem isV.stab (x : Value) : StabP (isV x) := fun _ _ _ h _ => h
theorem isArg.stab (l : List Arr) : StabP (isArg l) := fun _ _ _ ⟨b, h1, h2⟩ hb => ⟨b, h1, h2.below hb⟩
theorem isA.stab (A : Arr) : StabP (isA A) := fun _ _ _ ⟨a, c, h1, h2⟩ hb => ⟨a, c, h1, h2.below hb⟩
theorem isP.stab (A : Arr) : StabP (isP A) := fun _ _ _ ⟨a, c, h1, h2⟩ hb => ⟨a, c, h1, h2.below hb⟩
theorem isBox.stab (B : Nat) : StabP (isBox B) := fun _ _ _ ⟨b, h1, h2, h3⟩ hb => ⟨b, h1, h2, (hb.block _ (lt_of_heap h3)).trans h3⟩
def oldB (ops : Array Oper) (F : List Nat) (d : Nat) : Bool := F.all (fun j => dstOf ops j != some d)
theorem old_of {ops : Array Oper} {F : List Nat} {d : Nat} (h : oldB ops F d = true) : ∀ j ∈ F, dstOf ops j ≠ some d := fun j hj e => by
  have := List.all_eq_true.1 h j hj
  rw [e] at this
  simp at this
theorem dep_val {ops : Array Oper} {F : List Nat} {T : Nat → Value → World → Prop} {a : Act} {u : World} {i : Nat} (hd : ∀ j ∈ F, depB ops i j = true → ∃ d v, dstOf ops j = some d ∧ a.tmps[d]? = some v ∧ T j v u) (j d : Nat) (hj : F.contains j = true) (hB : depB ops i j = true) (hdst : dstOf ops j = some d) : ∃ v, a.tmps[d]? = some v ∧ T j v u := by
  obtain ⟨d', v, h1, h2, h3⟩ := hd j (List.contains_iff_mem.1 hj) hB
  rw [hdst] at h1
  cases h1
  exact ⟨v, h2, h3⟩
/-- A header written into a box. -/
def boxed (w : World) (b : Nat) (r c : Int) (v : Value) : World := ((w.setCell ⟨b, 0, none⟩ (.int .i64 r)).setCell ⟨b, 1, none⟩ (.int .i64 c)).setCell ⟨b, 2, none⟩ v
theorem boxed_at {w : World} {b : Nat} {x y z : Value} (h : w.heap[b]? = some (.cells #[x, y, z] 28)) (r c : Int) (v : Value) : (boxed w b r c v).heap[b]? = some (.cells #[.int .i64 r, .int .i64 c, v] 28) := heap_setCell_at (heap_setCell_at (heap_setCell_at h 0 _) 1 _) 2 _
theorem boxed_ne {w : World} {b k : Nat} (h : k ≠ b) (r c : Int) (v : Value) : (boxed w b r c v).heap[k]? = w.heap[k]? := (Below.heap_setCell _ _ _ _ h).trans ((Below.heap_setCell _ _ _ _ h).trans (Below.heap_setCell _ _ _ _ h))
theorem boxed_below {w w' : World} {B b : Nat} (h : Below B w w') (hb : B ≤ b) (r c : Int) (v : Value) : Below B w (boxed w' b r c v) := ((h.setCell (p := ⟨b, 0, none⟩) hb _).setCell (p := ⟨b, 1, none⟩) hb _).setCell (p := ⟨b, 2, none⟩) hb _
theorem slb_boxed {w : World} {b : Nat} {x y z : Value} {a : Option Addr} {l : List V} (hs : SlB 0 w a l) (h : w.heap[b]? = some (.cells #[x, y, z] 28)) (r c : Int) (v : Value) : SlB 0 (boxed w b r c v) a l := fun h0 => by
  obtain ⟨k, off, e, h1, h2, h3⟩ := hs h0
  have hne : k ≠ b := fun e2 => by
    subst e2
    obtain ⟨u, hu⟩ : ∃ u, l[0]? = some u := ⟨_, List.getElem?_eq_getElem h0⟩
    have := h3 0 u hu 5 (by omega)
    rw [cell_of_heap h] at this
    have e3 : (#[x, y, z] : Array Value)[off + 0 * 6 + 5]? = none := Array.getElem?_eq_none (by show 3 ≤ off + 0 * 6 + 5; omega)
    rw [e3] at this
    simp [vcells] at this
  refine ⟨k, off, e, h1, by unfold boxed; simpa using h2, fun i u hu j hj => ?_⟩
  have hc : ∀ o, (boxed w b r c v).cell? ⟨k, o, none⟩ = w.cell? ⟨k, o, none⟩ := fun o => by
    unfold World.cell?
    rw [boxed_ne hne]
  rw [hc]
  exact h3 i u hu j hj
theorem args_two {w : World} {A B : Arr} {a b : Option Addr} {ca cb : Nat} (ha : SlB 0 w a A.l) (hb : SlB 0 w b B.l) : ArgsAt 0 (w.alloc (.cells #[.int .i64 A.r, .int .i64 A.c, .slice a A.l.length ca, .int .i64 B.r, .int .i64 B.c, .slice b B.l.length cb] 28)) (some ⟨w.heap.size, 0, none⟩) [A, B] := fun _ => by
  have hh := heap_alloc_new w (.cells #[.int .i64 A.r, .int .i64 A.c, .slice a A.l.length ca, .int .i64 B.r, .int .i64 B.c, .slice b B.l.length cb] 28)
  refine ⟨_, 0, rfl, Nat.zero_le _, by simp, fun i X hX => ?_⟩
  have hbl := below_alloc w (.cells #[.int .i64 A.r, .int .i64 A.c, .slice a A.l.length ca, .int .i64 B.r, .int .i64 B.c, .slice b B.l.length cb] 28) _ (Nat.le_refl _)
  match i, hX with
  | 0, hX =>
    simp only [List.getElem?_cons_zero, Option.some.injEq] at hX
    subst hX
    exact ⟨a, ca, cell_of_heap hh 0, cell_of_heap hh 1, cell_of_heap hh 2, ha.below hbl⟩
  | 1, hX =>
    simp only [List.getElem?_cons_succ, List.getElem?_cons_zero, Option.some.injEq] at hX
    subst hX
    exact ⟨b, cb, cell_of_heap hh 3, cell_of_heap hh 4, cell_of_heap hh 5, hb.below hbl⟩
theorem args_one {w : World} {A : Arr} {a : Option Addr} {ca : Nat} (ha : SlB 0 w a A.l) : ArgsAt 0 (w.alloc (.cells #[.int .i64 A.r, .int .i64 A.c, .slice a A.l.length ca] 28)) (some ⟨w.heap.size, 0, none⟩) [A] := fun _ => by
  have hh := heap_alloc_new w (.cells #[.int .i64 A.r, .int .i64 A.c, .slice a A.l.length ca] 28)
  refine ⟨_, 0, rfl, Nat.zero_le _, by simp, fun i X hX => ?_⟩
  match i, hX with
  | 0, hX =>
    simp only [List.getElem?_cons_zero, Option.some.injEq] at hX
    subst hX
    exact ⟨a, ca, cell_of_heap hh 0, cell_of_heap hh 1, cell_of_heap hh 2, ha.below (below_alloc w _ _ (Nat.le_refl _))⟩
end Go.Proofs.YtndhmahkglfopaaGreatDoor
