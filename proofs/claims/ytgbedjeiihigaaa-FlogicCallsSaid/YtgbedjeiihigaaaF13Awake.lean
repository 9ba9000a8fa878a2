/- The document's example. -/
import Derived.Test.YtgbedjeiihigaaaF13Same
namespace Go.Proofs.Ytgbedjeiihigaaa
open Go.RowKit
/-- A block of arrays, three cells each. -/
theorem args_two {w : World} {b : Nat} {A1 A2 : Arr} {a1 a2 : Option Addr} {c1 c2 : Nat} (h : w.heap[b]? = some (.cells #[.int .i64 A1.r, .int .i64 A1.c, .slice a1 A1.l.length c1, .int .i64 A2.r, .int .i64 A2.c, .slice a2 A2.l.length c2] 27))
    (h1 : SlB 0 w a1 A1.l) (h2 : SlB 0 w a2 A2.l) : ArgsAt 0 w (some ⟨b, 0, none⟩) [A1, A2] := fun _ => by
  refine ⟨b, 0, rfl, Nat.zero_le _, lt_of_heap h, fun i A hA => ?_⟩
  match i, hA with
  | 0, hA => cases hA; exact ⟨a1, c1, by rw [cell_of_heap h]; rfl, by rw [cell_of_heap h]; rfl, by rw [cell_of_heap h]; rfl, h1⟩
  | 1, hA => cases hA; exact ⟨a2, c2, by rw [cell_of_heap h]; rfl, by rw [cell_of_heap h]; rfl, by rw [cell_of_heap h]; rfl, h2⟩
theorem args_one {w : World} {b : Nat} {A1 : Arr} {a1 : Option Addr} {c1 : Nat} (h : w.heap[b]? = some (.cells #[.int .i64 A1.r, .int .i64 A1.c, .slice a1 A1.l.length c1] 27))
    (h1 : SlB 0 w a1 A1.l) : ArgsAt 0 w (some ⟨b, 0, none⟩) [A1] := fun _ => by
  refine ⟨b, 0, rfl, Nat.zero_le _, lt_of_heap h, fun i A hA => ?_⟩
  match i, hA with
  | 0, hA => cases hA; exact ⟨a1, c1, by rw [cell_of_heap h]; rfl, by rw [cell_of_heap h]; rfl, by rw [cell_of_heap h]; rfl, h1⟩
theorem awake_v : truthsV andF [⟨1, 1, [vTruth true]⟩, ⟨1, 1, [vBlank]⟩] = vTruth true := by
  simp [truthsV, allV, scan, TT, toT, vTruth, vBlank, andF]
set_option maxHeartbeats 1000000 in
set_option maxRecDepth 100000 in
theorem awake_any (w : World) : Calls Try.prog 8 #[] w fun e w' => e = .returned (.bool true) ∧ Below w.heap.size w w' := by
  go_enter Try.func8, Try.ntmps8
  go_wp2_with fail
  refine (truth9_any true _).mono ?_
  rintro e' w1 ⟨x1, rfl, ⟨a1, c1, rfl, s1⟩, f1⟩
  have S1 := Lib.hid s1
  clear s1
  go_wp2_with fail
  refine (one_any vBlank _).mono ?_
  rintro e' w2 ⟨x2, rfl, ⟨a2, c2, rfl, s2⟩, f2⟩
  have S2 := Lib.hid s2
  have F2 : Hid (Below w.heap.size w w2) := f1.trans (f2.mono f1.size)
  have S12 := Lib.hid (S1.out.below f2)
  clear s2 f1 f2 S1
  go_wp2_with fail
  have hb := below_alloc w2 (.cells #[.int .i64 1, .int .i64 1, .slice a1 1 c1, .int .i64 1, .int .i64 1, .slice a2 1 c2] 27) _ (Nat.le_refl _)
  refine (call_and [⟨1, 1, [vTruth true]⟩, ⟨1, 1, [vBlank]⟩] (by simp) (by simp) (by simp [tok_truth, tok_blank]) (by simp [ok_one, rightOk_truth, rightOk_blank]) (by simp [allV]) _ _ _ (args_two (heap_alloc_new w2 _) ((S12.out.mono (Nat.zero_le _)).below hb) ((S2.out.mono (Nat.zero_le _)).below hb))).mono ?_
  rintro e' w3 ⟨x3, rfl, ⟨a3, c3, rfl, s3⟩, f3⟩
  rw [awake_v] at s3
  have S3 := Lib.hid s3
  have F3 : Hid (Below w.heap.size w w3) := F2.out.trans ((hb.trans (f3.mono hb.size)).mono F2.out.size)
  clear s3 f3 hb S12 S2 F2
  simp only [List.length_cons, List.length_nil]
  go_wp2_with fail
  refine abs_world ?_
  intro W4 hW4
  have hB4 : Below w3.heap.size w3 W4 := by rw [hW4]; (repeat (first | with_reducible exact Below.refl _ _ | with_reducible exact hBW | with_reducible refine Below.setCell ?_ ?_ _ | with_reducible refine Below.alloc ?_ ?_ _ | with_reducible refine belowN ?_ _ | with_reducible refine Below.drew ?_)); all_goals (first | omega | (dsimp only; omega) | ((repeat (first | with_reducible refine le_alloc ?_ | with_reducible refine le_setCell ?_ | with_reducible refine le_drew ?_ | with_reducible refine le_drewN ?_)); omega))
  have g4 : W4.heap[w3.heap.size]? = some (.cells #[.int .i64 1, .int .i64 1, .slice a3 1 c3] 27) := by rw [hW4]; (repeat (first | (with_reducible refine heap_alloc_at ?_ _; (first | rfl | (simp; done) | omega | (simp; omega)); done) | with_reducible refine heap_alloc_old ?_ _ | with_reducible refine heap_drew_old ?_ | with_reducible refine heap_drewN_old ?_))
  have S4 := Lib.hid (S3.out.below hB4)
  have F4 := Lib.hid (F3.out.trans (hB4.mono F3.out.size))
  have x4 := cell_of_heap g4
  have z4 := lt_of_heap g4
  clear hW4 hB4 g4 S3 F3
  refine wp_region_mix [0, 1, 2] [3, 4, 5, 6] [4, 5, 6] (Below W4.heap.size W4) (by kernel_rfl) (by kernel_rfl) (Below.refl _ _).drew ?_
  iterate 3 (apply first_step; (rw [List.getElem?_toArray]; (repeat rw [List.getElem?_cons_succ]); rw [List.getElem?_cons_zero]); rfl; (intro W hB; have hc := bcellB hB; go_simp; (first | done | rfl)); go_frame)
  refine first_done ?_
  apply tail_step; (rw [List.getElem?_toArray]; (repeat rw [List.getElem?_cons_succ]); rw [List.getElem?_cons_zero]); rfl; rfl; intro K hK; go_simp
  refine (truth9_any true _).mono ?_
  rintro e' w5 ⟨x5, rfl, ⟨a5, c5, rfl, s5⟩, f5⟩
  refine hK _ _ (fun _ => (Below.refl _ W4).drew.trans f5) ?_
  clear hK K
  have S5 := Lib.hid s5
  have f5' : Below W4.heap.size W4 w5 := (Below.refl _ W4).drew.trans f5
  have S45 := Lib.hid (S4.out.below f5')
  have F5 := Lib.hid (F4.out.trans (f5'.mono F4.out.size))
  clear s5 f5 f5' x4
  apply tail_step; (rw [List.getElem?_toArray]; (repeat rw [List.getElem?_cons_succ]); rw [List.getElem?_cons_zero]); rfl; rfl; intro K hK; go_simp
  refine (same_yes ⟨1, 1, [vTruth true]⟩ _ _ w5 ⟨a3, c3, rfl, S45.out.mono (Nat.zero_le _)⟩ ⟨a5, c5, rfl, S5.out.mono (Nat.zero_le _)⟩ (by simp)).mono ?_
  rintro e' w6 ⟨rfl, f6⟩
  refine hK _ _ (fun h => absurd (by decide) h) ?_
  clear hK K
  have F6 := Lib.hid (F5.out.trans (f6.mono F5.out.size))
  clear f6
  (apply tail_step; (rw [List.getElem?_toArray]; (repeat rw [List.getElem?_cons_succ]); rw [List.getElem?_cons_zero]); rfl; rfl; intro K hK; go_simp; refine hK _ _ (fun h => absurd (by decide) h) ?_; clear hK K)
  (apply tail_step; (rw [List.getElem?_toArray]; (repeat rw [List.getElem?_cons_succ]); rw [List.getElem?_cons_zero]); rfl; rfl; intro K hK; go_simp; refine hK _ _ (fun h => absurd (by decide) h) ?_; clear hK K)
  refine tail_done ?_
  go_wp2_with fail
  go_ret
  exact ⟨rfl, F6.out⟩
end Go.Proofs.Ytgbedjeiihigaaa
