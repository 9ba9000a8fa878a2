/- Each, and Call at NOT and the questions for kinds. -/
import Derived.Test.YtgbedjeiihigaaaF13Build
import Derived.Test.YtgbedjeiihigaaaF13Call
namespace Go.Proofs.Ytgbedjeiihigaaa
open Go.RowKit
theorem grid_lin (f : Nat → V) (r c : Nat) : grid (fun i j => f (i * c + j)) r c = (List.range (r * c)).map f := by
  induction r with
  | zero => simp [grid]
  | succ r ih =>
    rw [grid_succ, ih, Nat.succ_mul, List.range_add, List.map_append]
    simp [gridRow]
theorem map_lin (l : List V) (F : V → V) : (List.range l.length).map (fun i => F (l.getD i vBlank)) = l.map F := by
  apply List.ext_getElem?
  intro i
  simp only [List.getElem?_map]
  by_cases h : i < l.length
  · simp [h]
  · simp [h]
theorem ent68 : ∀ args W, (callFunc 68 args).run Try.prog W = .ok (.enter 68 args) W := enters_of Try.func68 (by kernel_rfl) rfl
set_option maxHeartbeats 1000000 in
set_option maxRecDepth 100000 in
theorem Each_any {g : Nat} {cp : Array Value} (hE : ∀ args W, (callFunc g args).run Try.prog W = .ok (.enter g args) W) (F : V → V) (A : Arr) (hA : ArrOk A) (hR : ∀ v ∈ A.l, RightOk (F v)) (a : Option Addr) (cap : Nat) (w : World) (hs : SlB 0 w a A.l) (hF : ∀ v ∈ A.l, FvOk w g cp v (F v)) :
    Calls Try.prog 55 #[.agg #[.int .i64 A.r, .int .i64 A.c, .slice a A.l.length cap], .func (.func g) #[] cp] w (ArrPost w ⟨A.r, A.c, A.l.map F⟩) := by
  have hm := hA.mul
  have HA := Lib.hid hA
  have HR := Lib.hid hR
  have HS := Lib.hid hs
  have HF := Lib.hid hF
  have HE := Lib.hid hE
  clear hA hR hs hF hE
  go_enter Try.func55, Try.ntmps55
  go_wp2_with fail
  refine (shapeRight_yes A HA.out _ _ ⟨a, cap, rfl, HS.out.below (by (repeat (first | with_reducible exact Below.refl _ _ | with_reducible exact hBW | with_reducible refine Below.setCell ?_ ?_ _ | with_reducible refine Below.alloc ?_ ?_ _ | with_reducible refine belowN ?_ _ | with_reducible refine Below.drew ?_)); all_goals (first | omega | (dsimp only; omega) | ((repeat (first | with_reducible refine le_alloc ?_ | with_reducible refine le_setCell ?_ | with_reducible refine le_drew ?_ | with_reducible refine le_drewN ?_)); omega)))⟩).mono ?_
  rintro e' w1 ⟨rfl, hb⟩
  have hs1 : w.heap.size + 3 ≤ w1.heap.size := by have := hb.size; simpa using this
  have g0 : w1.heap[w.heap.size]? = some (.cells #[.int .i64 A.r, .int .i64 A.c, .slice a A.l.length cap] 27) := (hb.block _ (by simp; omega)).trans (by (repeat (first | (with_reducible refine heap_alloc_at ?_ _; (first | rfl | (simp; done) | omega | (simp; omega)); done) | with_reducible refine heap_alloc_old ?_ _ | with_reducible refine heap_drew_old ?_ | with_reducible refine heap_drewN_old ?_)))
  have g1 : w1.heap[w.heap.size + 1]? = some (.cells #[.func (.func g) #[] cp] 65) := (hb.block _ (by simp)).trans (by (repeat (first | (with_reducible refine heap_alloc_at ?_ _; (first | rfl | (simp; done) | omega | (simp; omega)); done) | with_reducible refine heap_alloc_old ?_ _ | with_reducible refine heap_drew_old ?_ | with_reducible refine heap_drewN_old ?_)))
  have g2 : w1.heap[w.heap.size + 1 + 1]? = some (.cells #[.int .i64 0, .int .i64 0, .slice none 0 0] 27) := (hb.block _ (by simp)).trans (by (repeat (first | (with_reducible refine heap_alloc_at ?_ _; (first | rfl | (simp; done) | omega | (simp; omega)); done) | with_reducible refine heap_alloc_old ?_ _ | with_reducible refine heap_drew_old ?_ | with_reducible refine heap_drewN_old ?_)))
  have hB1 : Below w.heap.size w w1 := by
    refine Below.trans ?_ (hb.mono (by simp; omega))
    (repeat (first | with_reducible exact Below.refl _ _ | with_reducible exact hBW | with_reducible refine Below.setCell ?_ ?_ _ | with_reducible refine Below.alloc ?_ ?_ _ | with_reducible refine belowN ?_ _ | with_reducible refine Below.drew ?_)); all_goals (first | omega | (dsimp only; omega) | ((repeat (first | with_reducible refine le_alloc ?_ | with_reducible refine le_setCell ?_ | with_reducible refine le_drew ?_ | with_reducible refine le_drewN ?_)); omega))
  have x0 := cell_of_heap g0
  have y0 := lt_of_heap g0
  have HB1 := Lib.hid hB1
  have G0 := Lib.hid g0
  have G1 := Lib.hid g1
  have G2 := Lib.hid g2
  clear hb hB1 g0 g1 g2
  go_wp2_with fail
  clear x0
  obtain ⟨r, hr⟩ : ∃ r : Nat, A.r = (r : Int) := ⟨A.r.toNat, by have := HA.out.h1; omega⟩
  obtain ⟨c, hc⟩ : ∃ c : Nat, A.c = (c : Int) := ⟨A.c.toNat, by have := HA.out.h2; omega⟩
  have hrc : A.l.length = r * c := by
    have := HA.out.h5
    rw [hr, hc, ← Int.natCast_mul] at this
    omega
  have q1 : 1 ≤ r := by have := HA.out.h1; omega
  have q2 : 1 ≤ c := by have := HA.out.h2; omega
  have q3 : r * c ≤ 4096 := by rw [hr, hc, ← Int.natCast_mul] at hm; omega
  have q4 : r ≤ 4096 := Nat.le_trans (Nat.le_mul_of_pos_right r q2) q3
  have q5 : c ≤ 4096 := Nat.le_trans (Nat.le_mul_of_pos_left c q1) q3
  have key := build_any (cp := #[ptrV (w.heap.size + 1), ptrV w.heap.size]) ent68 (fun i j => F (A.l.getD (i * c + j) vBlank)) r c q1 q2 q4 q5 q3 w1 (fun i j hi hj W hW => by
    have hlt : i * c + j < A.l.length := by
      have : i * c + c ≤ r * c := by rw [← Nat.succ_mul]; exact Nat.mul_le_mul_right c hi
      omega
    have hic : i * c ≤ 4096 := by omega
    have hv : A.l[i * c + j]? = some (A.l.getD (i * c + j) vBlank) := by
      rw [List.getElem?_eq_getElem hlt]
      simp [hlt]
    have hmem := List.mem_of_getElem? hv
    have hbW : Below w.heap.size w W := HB1.out.trans (hW.mono HB1.out.size)
    exact each1_any HE.out _ _ (HR.out _ hmem) i j A (i * c + j) hv (by rw [hc]; omega) (by omega) (by rw [hc, ← Int.natCast_mul]; omega) (by rw [hc, ← Int.natCast_mul]; omega) (w.heap.size + 1) w.heap.size a cap W ((HF.out _ hmem).below hbW) ((hW.block _ (lt_of_heap G1.out)).trans G1.out) ((hW.block _ y0).trans G0.out) (HS.out.below hbW))
  rw [grid_lin (fun n => F (A.l.getD n vBlank)) r c, ← hrc, map_lin, ← hr, ← hc] at key
  unfold ptrV at key
  refine key.mono ?_
  clear key
  rintro e' w2 ⟨x, rfl, ⟨a2, cap2, rfl, hsl⟩, hb2⟩
  have e0 := (hb2.block _ (lt_of_heap G2.out)).trans G2.out
  have x0 := cell_of_heap e0
  have z0 := frozen_of_heap e0
  have hn0 := lt_of_heap e0
  have HSL := Lib.hid (hsl.mono (B' := w.heap.size + 1 + 1 + 1) (by omega))
  have HB2 := Lib.hid (HB1.out.trans (hb2.mono HB1.out.size))
  clear hsl hb2 e0 hr hc hrc
  simp only [List.length_map]
  go_wp2_with fail
  refine bodyPost_ret (v := .agg #[.int .i64 A.r, .int .i64 A.c, .slice a2 (A.l.map F).length cap2]) (by simp [results, Try.results55, go_sem, x0]) rfl ?_
  exact arr_hand (A := ⟨A.r, A.c, A.l.map F⟩) (n := 0) (by omega) HSL.out HB2.out _ _ _
set_option maxHeartbeats 1000000 in
set_option maxRecDepth 100000 in
theorem each54_any {g : Nat} {cp : Array Value} (hE : ∀ args W, (callFunc g args).run Try.prog W = .ok (.enter g args) W) (F : V → V) (A : Arr) (hA : ArrOk A) (hR : ∀ v ∈ A.l, RightOk (F v)) (a : Option Addr) (cap fb : Nat) (w : World) (hs : ArgsAt 0 w a [A])
    (hf : w.heap[fb]? = some (.cells #[.func (.func g) #[] cp] 65)) (hF : ∀ v ∈ A.l, FvOk w g cp v (F v)) :
    Calls Try.prog 54 #[.slice a 1 cap, .pointer (some ⟨fb, 0, none⟩)] w (ArrPost w ⟨A.r, A.c, A.l.map F⟩) := by
  obtain ⟨b, off, rfl, _, hb, hall⟩ := hs (by simp)
  obtain ⟨a', cap', c0, c1, c2, hsl⟩ := hall 0 A rfl
  simp only [Nat.zero_mul, Nat.add_zero] at c0 c1 c2
  have f0 := cell_of_heap hf 0
  have hfl := lt_of_heap hf
  have HA := Lib.hid hA
  have HR := Lib.hid hR
  have HS := Lib.hid hsl
  have HF := Lib.hid hF
  have HE := Lib.hid hE
  clear hA hR hs hF hE hsl hall hf
  go_enter Try.func54, Try.ntmps54
  go_wp2_with fail
  refine abs_world ?_
  intro W1 hW1
  have hB1 : Below w.heap.size w W1 := by rw [hW1]; (repeat (first | with_reducible exact Below.refl _ _ | with_reducible exact hBW | with_reducible refine Below.setCell ?_ ?_ _ | with_reducible refine Below.alloc ?_ ?_ _ | with_reducible refine belowN ?_ _ | with_reducible refine Below.drew ?_)); all_goals (first | omega | (dsimp only; omega) | ((repeat (first | with_reducible refine le_alloc ?_ | with_reducible refine le_setCell ?_ | with_reducible refine le_drew ?_ | with_reducible refine le_drewN ?_)); omega))
  have g3 : W1.heap[w.heap.size]? = some (.cells #[.int .i64 0, .int .i64 0, .slice none 0 0] 27) := by rw [hW1]; (repeat (first | (with_reducible refine heap_alloc_at ?_ _; (first | rfl | (simp; done) | omega | (simp; omega)); done) | with_reducible refine heap_alloc_old ?_ _ | with_reducible refine heap_drew_old ?_ | with_reducible refine heap_drewN_old ?_))
  have c0 := (hB1.cell (p := ⟨b, off, none⟩) hb).trans c0
  have c1 := (hB1.cell (p := ⟨b, off + 1, none⟩) hb).trans c1
  have c2 := (hB1.cell (p := ⟨b, off + 2, none⟩) hb).trans c2
  have f0 := (hB1.cell (p := ⟨fb, 0, none⟩) hfl).trans f0
  have hb := Nat.lt_of_lt_of_le hb hB1.size
  have hfl := Nat.lt_of_lt_of_le hfl hB1.size
  have HB1 := Lib.hid hB1
  have G3 := Lib.hid g3
  clear hW1 hB1 g3
  refine wp_region_mix [0, 1, 2, 3] [4, 5] [4, 5] (Below W1.heap.size W1) (by kernel_rfl) (by kernel_rfl) (Below.refl _ _).drew ?_
  iterate 4 (first | (apply first_step; (rw [List.getElem?_toArray]; (repeat rw [List.getElem?_cons_succ]); rw [List.getElem?_cons_zero]); rfl; (intro W hB; have hc := bcellB hB; go_simp; (first | done | rfl)); go_frame) | (apply first_skip; (rw [List.getElem?_toArray]; (repeat rw [List.getElem?_cons_succ]); rw [List.getElem?_cons_zero]); rfl; go_frame))
  refine first_done ?_
  apply tail_step; (rw [List.getElem?_toArray]; (repeat rw [List.getElem?_cons_succ]); rw [List.getElem?_cons_zero]); rfl; rfl; intro K hK; go_simp
  refine (Each_any HE.out F A HA.out HR.out a' cap' _ (HS.out.below HB1.out.drew) (fun v hv => (HF.out v hv).below HB1.out.drew)).mono ?_
  rintro e' w2 ⟨x, rfl, ⟨a2, cap2, rfl, hsl⟩, hb2⟩
  refine hK _ _ (fun h => absurd (by decide) h) ?_
  clear hK K
  have hb2' : Below W1.heap.size W1 w2 := (Below.refl _ W1).drew.trans hb2
  have e0 := (hb2'.block _ (lt_of_heap G3.out)).trans G3.out
  have x0 := cell_of_heap e0
  have z0 := frozen_of_heap e0
  have hn0 := lt_of_heap e0
  have HSL := Lib.hid (hsl.mono (B' := w.heap.size + 1) (by have := lt_of_heap G3.out; exact this))
  have HB2 := Lib.hid (HB1.out.trans (hb2'.mono HB1.out.size))
  clear hsl hb2 hb2' e0 c0 c1 c2 f0
  simp only [List.length_map]
  apply tail_step; (rw [List.getElem?_toArray]; (repeat rw [List.getElem?_cons_succ]); rw [List.getElem?_cons_zero]); rfl; rfl; intro K hK; go_simp; refine hK _ _ (fun h => absurd (by decide) h) ?_; clear hK K
  refine tail_done ?_
  go_wp2_with fail
  refine bodyPost_ret (v := .agg #[.int .i64 A.r, .int .i64 A.c, .slice a2 (A.l.map F).length cap2]) (by simp [results, Try.results54, go_sem, x0]) rfl ?_
  exact arr_hand (A := ⟨A.r, A.c, A.l.map F⟩) (n := 0) (Nat.le_refl _) HSL.out HB2.out _ _ _
set_option maxHeartbeats 2000000 in
set_option maxRecDepth 100000 in
/-- F of each value of the one argument; fb: the block of the function value. -/
theorem call_each {F : V → V} (s : ByteArray) (A : Arr)
    (hG : ∀ (w : World) (B b1 b2 b3 b4 b5 b6 b7 b8 b9 : Nat), TableAt w B b1 b2 b3 b4 b5 b6 b7 b8 b9 → ∃ b g cp, getL (tbl b1 b2 b3 b4 b5 b6 b7 b8 b9) s = some (fnV 1 1 54 #[ptrV b]) ∧ w.heap[b]? = some (.cells #[.func (.func g) #[] cp] 65) ∧ (∀ args W, (callFunc g args).run Try.prog W = .ok (.enter g args) W) ∧ ∀ v ∈ A.l, FvOk w g cp v (F v))
    (hO : ArrOk A) (hR : ∀ v ∈ A.l, RightOk (F v)) (a : Option Addr) (cap : Nat) (w : World) (hA : ArgsAt 0 w a [A]) :
    Calls Try.prog 10 #[.string s, .slice a 1 cap] w (CallPost w ⟨A.r, A.c, A.l.map F⟩) := by
  have HG := Lib.hid hG
  have HO := Lib.hid hO
  have HR := Lib.hid hR
  have HA := Lib.hid hA
  clear hG hO hR hA
  go_enter Try.func10, Try.ntmps10
  go_wp2_with fail
  refine (table_any _).mono ?_
  rintro e w1 ⟨B, b1, b2, b3, b4, b5, b6, b7, b8, b9, rfl, hTab, hb⟩
  obtain ⟨bf, g, cp, hget, hbf, hent, hfv⟩ := HG.out w1 B b1 b2 b3 b4 b5 b6 b7 b8 b9 hTab
  have hl := hTab.map.look2 (string_fits Try.underlying9) Try.underlying50 (zero48 w1) s
  rw [hget] at hl
  unfold fnV ptrV at hl
  simp only [Option.map_some, Option.getD_some, Option.isSome_some, id] at hl
  have hs1 : w.heap.size + 1 ≤ w1.heap.size := by have := hb.size; simpa using this
  have g0 : w1.heap[w.heap.size]? = some (.cells #[.int .i64 0, .int .i64 0, .slice none 0 0] 27) := (hb.block _ (by simp)).trans (by (repeat (first | (with_reducible refine heap_alloc_at ?_ _; (first | rfl | (simp; done) | omega | (simp; omega)); done) | with_reducible refine heap_alloc_old ?_ _ | with_reducible refine heap_drew_old ?_ | with_reducible refine heap_drewN_old ?_)))
  have FB : Hid (Below w.heap.size w w1) := by
    refine Below.trans ?_ (hb.mono (by simp))
    (repeat (first | with_reducible exact Below.refl _ _ | with_reducible exact hBW | with_reducible refine Below.setCell ?_ ?_ _ | with_reducible refine Below.alloc ?_ ?_ _ | with_reducible refine belowN ?_ _ | with_reducible refine Below.drew ?_)); all_goals (first | omega | (dsimp only; omega) | ((repeat (first | with_reducible refine le_alloc ?_ | with_reducible refine le_setCell ?_ | with_reducible refine le_drew ?_ | with_reducible refine le_drewN ?_)); omega))
  have G0 := Lib.hid g0
  have HBF := Lib.hid hbf
  have HENT := Lib.hid hent
  have HFV := Lib.hid hfv
  clear g0 hb hbf hget hTab HG hent hfv
  go_wp2_with fail
  clear hl
  refine abs_world ?_
  intro W2 hW2
  have hB2 : Below w1.heap.size w1 W2 := by rw [hW2]; (repeat (first | with_reducible exact Below.refl _ _ | with_reducible exact hBW | with_reducible refine Below.setCell ?_ ?_ _ | with_reducible refine Below.alloc ?_ ?_ _ | with_reducible refine belowN ?_ _ | with_reducible refine Below.drew ?_)); all_goals (first | omega | (dsimp only; omega) | ((repeat (first | with_reducible refine le_alloc ?_ | with_reducible refine le_setCell ?_ | with_reducible refine le_drew ?_ | with_reducible refine le_drewN ?_)); omega))
  have e6 : W2.heap[w1.heap.size]? = some (.cells #[.int .i64 1, .int .i64 1, .func (.func 54) #[] #[.pointer (some ⟨bf, 0, none⟩)]] 48) := by rw [hW2]; (repeat (first | (with_reducible refine heap_alloc_at ?_ _; (first | rfl | (simp; done) | omega | (simp; omega)); done) | with_reducible refine heap_alloc_old ?_ _ | with_reducible refine heap_drew_old ?_ | with_reducible refine heap_drewN_old ?_))
  have E6 := Lib.hid e6
  have HB2 := Lib.hid hB2
  clear hW2 hB2 e6
  go_loopw [34] (fun i wr => ∃ k : Nat, i = .int .i64 k ∧ k ≤ 1 ∧ Below W2.heap.size W2 wr) (fun i _ => 1 - (intOf i).toNat)
  case atStart => exact ⟨0, rfl, Nat.zero_le _, Below.refl _ _⟩
  case round =>
    obtain ⟨k, rfl, hk, hB⟩ := hrel
    have HB := Lib.hid hB
    have HBw : Hid (Below w.heap.size w wr) := FB.out.trans ((HB2.out.trans (hB.mono HB2.out.size)).mono FB.out.size)
    clear hB
    by_cases hlt : k < 1
    · have hk0 : k = 0 := by omega
      subst hk0
      obtain ⟨b, off, rfl, _, hb, hall⟩ := (HA.out.below HBw.out) (by simp)
      obtain ⟨a', cap', c0, c1, c2, hsl⟩ := hall 0 A rfl
      have HSL := Lib.hid hsl
      simp only [Nat.zero_mul, Nat.add_zero] at c0 c1 c2
      clear hall hsl
      go_wp2_with fail
      refine (shapeRight_yes A HO.out _ _ ⟨a', cap', rfl, HSL.out.below (below_alloc wr _ _ (Nat.le_refl _))⟩).mono ?_
      rintro e' w3 ⟨rfl, hb3⟩
      have HB3 : Hid (Below W2.heap.size W2 w3) := HB.out.trans (((below_alloc wr _ _ (Nat.le_refl _)).trans (hb3.mono (by simp))).mono HB.out.size)
      clear hb3 c0 c1 c2
      go_wp2_with fail
      go_roundw
      case rel => exact ⟨0 + 1, by go_num, by omega, HB3.out⟩
      case measure => simp [intOf]
    · have e6 := (HB.out.block w1.heap.size (lt_of_heap E6.out)).trans E6.out
      have x2 := cell_of_heap e6 2
      have hn6 : w1.heap.size < wr.heap.size := lt_of_heap e6
      have HBF2 : Hid (wr.heap[bf]? = _) := ((HB2.out.trans (HB.out.mono HB2.out.size)).block bf (lt_of_heap HBF.out)).trans HBF.out
      clear e6
      go_wp2_with fail
      refine (each54_any HENT.out F A HO.out HR.out a cap bf wr (HA.out.below HBw.out) HBF2.out (fun v hv => (HFV.out v hv).below (HB2.out.trans (HB.out.mono HB2.out.size)))).mono ?_
      rintro e' w3 ⟨x3, rfl, ⟨a3, cap3, rfl, hsl3⟩, hb4⟩
      simp only [List.length_map] at hsl3 ⊢
      have hB3 : Below w1.heap.size w1 w3 := HB2.out.trans ((HB.out.trans (hb4.mono HB.out.size)).mono HB2.out.size)
      have e0 := (hB3.block w.heap.size (lt_of_heap G0.out)).trans G0.out
      have x0 := cell_of_heap e0
      have y0 := frozen_of_heap e0
      have hn0 : w.heap.size < w3.heap.size := lt_of_heap e0
      have HSL3 := Lib.hid (hsl3.mono (B' := w.heap.size + 1) (by have := HBw.out.size; omega))
      have HB3 := Lib.hid (FB.out.trans (hB3.mono FB.out.size))
      clear hsl3 hb4 hB3 e0 x2
      go_wp2_with fail
      refine bodyPost_ret (v := .tuple #[.agg #[.int .i64 A.r, .int .i64 A.c, .slice a3 (A.l.map F).length cap3], .bool true]) (by simp [results, Try.results10, go_sem, x0]) rfl ?_
      exact call_hand (A := ⟨A.r, A.c, A.l.map F⟩) (n := 0) (Nat.le_refl _) HSL3.out HB3.out _ _ _
theorem ent36 : ∀ args W, (callFunc 36 args).run Try.prog W = .ok (.enter 36 args) W := enters_of Try.func36 (by kernel_rfl) rfl
theorem call_not (A : Arr) (hT : ∀ v ∈ A.l, TOk v) (hO : ArrOk A) (a : Option Addr) (cap : Nat) (w : World) (hA : ArgsAt 0 w a [A]) :
    Calls Try.prog 10 #[.string sNOT, .slice a 1 cap] w (CallPost w ⟨A.r, A.c, A.l.map notV⟩) :=
  call_each sNOT A (fun _ _ _ _ _ b4 _ _ _ _ _ h => ⟨b4, 36, #[], rfl, h.c4, ent36, fun v hv W _ => not_any v (hT v hv) W⟩) hO (fun v _ => rightOk_not v) a cap w hA
end Go.Proofs.Ytgbedjeiihigaaa
