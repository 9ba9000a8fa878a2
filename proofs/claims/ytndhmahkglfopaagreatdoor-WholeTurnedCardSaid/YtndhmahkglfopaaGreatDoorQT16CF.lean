/- The law's call: ROUND, TRANSPOSE. -/
import Derived.Test.YtndhmahkglfopaaGreatDoorQT16CE
namespace Go.Proofs.YtndhmahkglfopaaGreatDoor
open Go.RowKit
section
variable (w : World)
set_option maxHeartbeats 2000000
set_option maxRecDepth 100000
theorem call11 {X : Nat → Prop} (s : ByteArray) (a : Option Addr) (n cap : Nat) (R : Arr) (hh : ∀ W, Below w.heap.size w W → Calls Tryz.prog 21 #[.agg #[], .string s, .slice a n cap] W (CallPostC X W R)) : Calls Tryz.prog 11 #[.string s, .slice a n cap] w (ArrPostC X w R) := by
  have HH := Lib.hid hh
  clear hh
  go_enter Tryz.func11, Tryz.ntmps11
  go_wp2_with fail
  have hba : Below w.heap.size w (w.alloc (.cells #[.int .i64 0, .int .i64 0, .slice none 0 0] 28)) := by (repeat with_reducible (first | exact bw0 _ _ | exact hBW | refine bw1 ?_ ?_ _ | refine bw2 ?_ ?_ _ | refine bw3 ?_ _ | refine bw4 ?_)); all_goals (first | omega | (dsimp only; omega) | ((repeat with_reducible (first | refine lz1 ?_ | refine lz2 ?_ | refine lz3 ?_ | refine lz4 ?_)); omega))
  refine (HH.out _ hba).mono ?_
  rintro e w2 ⟨a2, cap2, rfl, hx2, hsl, hb2⟩
  have HX2 := Lib.hid hx2
  clear hx2
  have e0 := (hb2.block w.heap.size (by simp)).trans (show _ = some (.cells #[.int .i64 0, .int .i64 0, .slice none 0 0] 28 (0, 0)) by (repeat (first | (with_reducible refine bw5 ?_ _; (first | rfl | (simp; done) | omega | (simp; omega)); done) | with_reducible refine bw6 ?_ _ | with_reducible refine bw7 ?_ | with_reducible refine bw8 ?_)))
  have x0 := cell_of_heap e0
  have y0 := frozen_of_heap e0
  have z0 := lt_of_heap e0
  have HSL := Lib.hid (hsl.mono (B' := w.heap.size + 1) (by simp))
  have HB2 : Hid (Below w.heap.size w w2) := hba.trans (hb2.mono (by simp))
  clear hsl hb2 hba e0
  go_wp2_with fail
  refine bodyPost_ret (v := .agg #[.int .i64 R.r, .int .i64 R.c, .slice a2 R.l.length cap2]) (by simp [results, Tryz.results11, go_sem, x0, z0]) rfl ?_
  obtain ⟨a3, cap3, he, hx, h1, h2⟩ := arr_handC HX2.out (A := R) (n := 0) (Nat.le_refl w.heap.size) HSL.out HB2.out (.int .i64 R.r) (.int .i64 R.c) (.slice a2 R.l.length cap2)
  exact ⟨a3, cap3, he, hx, h1.below (below_alloc _ _ _ (Nat.le_refl _)), h2.alloc h2.size _⟩
end
theorem call_round (A B : Arr) (hA : ArrR A) (hB : ArrR B) (h1 : max A.r B.r ≤ 4096) (h2 : max A.c B.c ≤ 4096 / max A.r B.r) (a : Option Addr) (cap : Nat) (w : World) (hs : ArgsAt 0 w a [A, B]) (ht : Tab w) : Calls Tryz.prog 11 #[.string sROUND, .slice a 2 cap] w (ArrPost w (bothV roundedV A B)) :=
  Calls.mono (R := ArrPostC (fun _ => True) w _) (call11 w sROUND a 2 cap _ fun W hW => lib_0 W sROUND a 2 cap _ fun W' hW' =>
    have hb := hW.trans (hW'.mono hW.size)
    call82_hit sROUND 2 2 [A, B] a cap _ W' stays_tab (hit_round A B hA hB h1 h2 a cap) (fun X hX => by
      rcases List.mem_cons.1 hX with rfl | hX
      · exact hA.ok
      · rw [List.mem_singleton.1 hX]; exact hB.ok) (Nat.le_refl _) (Nat.le_refl _) (by omega) (hs.below hb) (ht.below hb)) fun _ _ h => h.post
theorem call_turn (A : Arr) (hA : ArrR A) (a : Option Addr) (cap : Nat) (w : World) (hs : ArgsAt 0 w a [A]) (ht : Tab w) : Calls Tryz.prog 11 #[.string sTRANSPOSE, .slice a 1 cap] w (ArrPost w (turnV A)) :=
  Calls.mono (R := ArrPostC (fun _ => True) w _) (call11 w sTRANSPOSE a 1 cap _ fun W hW => lib_4 W sTRANSPOSE a 1 cap _ (by kernel_rfl) (by kernel_rfl) (by kernel_rfl) (by kernel_rfl) fun W' hW' =>
    have hb := hW.trans (hW'.mono hW.size)
    call94_hit sTRANSPOSE 1 1 [A] a cap _ W' stays_tab (hit_turn A hA a cap) (fun X hX => by rw [List.mem_singleton.1 hX]; exact hA.ok) (Nat.le_refl _) (Nat.le_refl _) (by omega) (hs.below hb) (ht.below hb)) fun _ _ h => h.post
end Go.Proofs.YtndhmahkglfopaaGreatDoor
/- Both and Turn of right arrays are right. -/
namespace Go.Proofs.YtndhmahkglfopaaGreatDoor
theorem grid_mem {U : Nat → Nat → V} {r c : Nat} {v : V} (h : v ∈ grid U r c) : ∃ i j, i < r ∧ j < c ∧ v = U i j := by
  unfold grid at h
  obtain ⟨i, hi, hv⟩ := List.mem_flatMap.1 h
  unfold gridRow at hv
  obtain ⟨j, hj, rfl⟩ := List.mem_map.1 hv
  exact ⟨i, j, List.mem_range.1 hi, List.mem_range.1 hj, rfl⟩
theorem len_bd {A : Arr} (hA : ArrR A) (h : A.l.length ≤ 40) : A.r ≤ 40 ∧ A.c ≤ 40 := by
  have h1 := hA.h1
  have h2 := hA.h2
  have h6 := hA.h6
  have hr : A.r * 1 ≤ A.r * A.c := Int.mul_le_mul_of_nonneg_left h2 (by omega)
  have hc : 1 * A.c ≤ A.r * A.c := Int.mul_le_mul_of_nonneg_right h1 (by omega)
  omega
theorem both_bd {A B : Arr} (hA : ArrR A) (hB : ArrR B) (h : A.l.length ≤ 40) (h' : B.l.length ≤ 40) : max A.r B.r ≤ 4096 ∧ max A.c B.c ≤ 4096 / max A.r B.r := by
  have a := len_bd hA h
  have b := len_bd hB h'
  have a1 := hA.h1
  refine ⟨by omega, (Int.le_ediv_iff_mul_le (by omega)).2 ?_⟩
  have : max A.c B.c * max A.r B.r ≤ 40 * 40 := Int.mul_le_mul (by omega) (by omega) (by omega) (by omega)
  omega
theorem atP_mem {A : Arr} {i j : Nat} {x : V} (h : atP A i j = some x) : x ∈ A.l := by
  unfold atP at h
  split at h
  · exact List.mem_of_getElem? h
  · cases h
theorem both_right {F : V → V → V} (hF : ∀ x y, refR x = true → refR y = true → refR (F x y) = true) {A B : Arr} (hA : ArrR A) (hB : ArrR B) (h : A.l.length ≤ 40) (h' : B.l.length ≤ 40) : ArrR (bothV F A B) := by
  have a := len_bd hA h
  have b := len_bd hB h'
  have a1 := hA.h1
  have a2 := hA.h2
  have key : max A.r B.r * max A.c B.c ≤ 40 * 40 := Int.mul_le_mul (by omega) (by omega) (by omega) (by omega)
  refine ⟨?_, ?_, ?_, ?_, ?_, ?_, ?_⟩
  · show 1 ≤ max A.r B.r; omega
  · show 1 ≤ max A.c B.c; omega
  · show max A.r B.r ≤ 4096; omega
  · show max A.c B.c ≤ 4096; omega
  · show max A.r B.r * max A.c B.c ≤ 4096; omega
  · show ((grid (bothU F A B) (max A.r B.r).toNat (max A.c B.c).toNat).length : Int) = max A.r B.r * max A.c B.c
    rw [grid_len, Int.natCast_mul, Int.toNat_of_nonneg (by omega), Int.toNat_of_nonneg (by omega)]
  · intro v hv
    obtain ⟨i, j, _, _, rfl⟩ := grid_mem hv
    unfold bothU
    cases hx : atP A i j with
    | none => exact refR_bad 6
    | some x =>
      cases hy : atP B i j with
      | none => exact refR_bad 6
      | some y => exact hF x y (hA.h7 x (atP_mem hx)) (hB.h7 y (atP_mem hy))
theorem turn_right {A : Arr} (hA : ArrR A) : ArrR (turnV A) := by
  have a1 := hA.h1
  have a2 := hA.h2
  refine ⟨hA.h2, hA.h1, hA.h4, hA.h3, by show A.c * A.r ≤ 4096; rw [Int.mul_comm]; exact hA.h5, ?_, ?_⟩
  · show ((grid (turnU A) A.c.toNat A.r.toNat).length : Int) = A.c * A.r
    rw [grid_len, Int.natCast_mul, Int.toNat_of_nonneg (by omega), Int.toNat_of_nonneg (by omega)]
  · intro v hv
    obtain ⟨i, j, _, _, rfl⟩ := grid_mem hv
    unfold turnU
    cases h : A.l[j * A.c.toNat + i]? with
    | none => rfl
    | some v => exact hA.h7 v (List.mem_of_getElem? h)
theorem turn_len {A : Arr} (hA : ArrR A) : (turnV A).l.length = A.l.length := by
  have h1 := (turn_right hA).h6
  have h2 := hA.h6
  have e : (turnV A).r * (turnV A).c = A.r * A.c := Int.mul_comm _ _
  omega
end Go.Proofs.YtndhmahkglfopaaGreatDoor
