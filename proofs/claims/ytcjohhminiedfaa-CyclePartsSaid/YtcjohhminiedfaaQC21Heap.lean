/- Cycle: container/heap over the parts that may come next: what its functions make of the row of numbers. -/
import Derived.Test.YtcjohhminiedfaaQBase
import Derived.Test.YtcjohhminiedfaaQC21W2
namespace Go.Proofs.Ytcjohhminiedfaa
open Go.RowKit
/-- ready in memory: its block r holds the row's value. -/
structure HpR (r : Nat) (w : World) (sv : Value) (h : List Nat) : Prop where
  blk : w.heap[r]? = some (.cells #[sv] 66)
  row : IR 0 w sv h
def swapN (h : List Nat) (i j : Nat) : List Nat := (h.set i (h.getD j 0)).set j (h.getD i 0)
theorem swapN_length (h : List Nat) (i j : Nat) : (swapN h i j).length = h.length := by simp [swapN]
theorem getD_at {l : List Nat} {i v : Nat} (h : l[i]? = some v) : l.getD i 0 = v := by rw [List.getD_eq_getElem?_getD, h]; rfl
theorem IR.ne {r : Nat} {w : World} {sv : Value} {h : List Nat} {t : TypeId} {cs : Array Value} (hr : IR 0 w sv h) (hb : w.heap[r]? = some (.cells cs t)) (ht : t ≠ 3) : sv.ownBlock ≠ some r := fun e => by
  rcases hr.2 with ⟨e1, _⟩ | ⟨g, cap, cur, e1, _, hh, _⟩
  · rw [e1] at e; cases e
  · rw [e1] at e
    cases e
    rw [hb] at hh
    cases hh
    exact ht rfl
set_option maxHeartbeats 1000000 in
set_option maxRecDepth 100000 in
theorem len_any (a : Option Addr) (n c : Nat) (w : World) : Calls Try.prog 35 #[.slice a n c] w fun e w' => e = .returned (.int .i64 (n : Int)) ∧ w = w' := by
  go_enter Try.func35, Try.ntmps35
  go_wp2_with fail
  go_ret
  exact ⟨rfl, rfl⟩
set_option maxHeartbeats 1000000 in
set_option maxRecDepth 100000 in
theorem less_any {g n c i j x y : Nat} {w : World} (hi : i < n) (hj : j < n) (hg : g < w.heap.size) (hx : w.cell? ⟨g, i, none⟩ = some (.int .i64 (x : Int))) (hy : w.cell? ⟨g, j, none⟩ = some (.int .i64 (y : Int))) :
    Calls Try.prog 93 #[.slice (some ⟨g, 0, none⟩) n c, .int .i64 (i : Int), .int .i64 (j : Int)] w fun e w' => e = .returned (.bool (decide (x < y))) ∧ w' = w.drew := by
  have j1 : (0 : Int) ≤ (i : Int) := by omega
  have j2 : (i : Int) < (n : Int) := by omega
  have j3 : (0 : Int) ≤ (j : Int) := by omega
  have j4 : (j : Int) < (n : Int) := by omega
  have e : decide (x < y) = decide ((x : Int) < (y : Int)) := by simp
  rw [e]
  clear e
  go_enter Try.func93, Try.ntmps93
  go_wp2_with fail
  refine wp_region_mix [0, 1, 2, 3, 4, 5, 6, 7, 8, 9] [] [] (Below w.heap.size w) (by kernel_rfl) (by kernel_rfl) (Below.refl _ _).drew ?_
  iterate 10 (first | (apply first_step; (rw [List.getElem?_toArray]; (repeat rw [List.getElem?_cons_succ]); rw [List.getElem?_cons_zero]); rfl; (intro W hB; have hc := bcellB hB; go_simp; (first | done | rfl)); go_frame) | (apply first_skip; (rw [List.getElem?_toArray]; (repeat rw [List.getElem?_cons_succ]); rw [List.getElem?_cons_zero]); rfl; go_frame))
  refine first_done ?_
  refine tail_done ?_
  go_wp2_with fail
  go_ret
  exact ⟨by first | rfl | simp, rfl⟩
theorem own_put {B g c k x n : Nat} {w : World} {h : List Nat} (hr : IR B w (.slice (some ⟨g, 0, none⟩) n c) h) : IR B (w.setCell ⟨g, k, none⟩ (.int .i64 (x : Int))) (.slice (some ⟨g, 0, none⟩) n c) (h.set k x) ∧ w.grownBy (w.setCell ⟨g, k, none⟩ (.int .i64 (x : Int))) (some g) := by
  have e : n = h.length := by
    rcases hr.2 with ⟨e1, _⟩ | ⟨_, _, _, e1, _⟩
    · cases e1
    · cases e1; rfl
  subst e
  obtain ⟨h1, h2⟩ := World.ownsRow.stored hr k (iv x)
  refine ⟨?_, h2⟩
  unfold IR
  rw [List.length_set, List.map_set]
  exact h1
set_option maxHeartbeats 1000000 in
set_option maxRecDepth 100000 in
theorem swap_any {g c i j : Nat} {h : List Nat} {w : World} (hn : h.length ≤ 1000000) (hi : i < h.length) (hj : j < h.length) (hr : IR 0 w (.slice (some ⟨g, 0, none⟩) h.length c) h) :
    Calls Try.prog 97 #[.slice (some ⟨g, 0, none⟩) h.length c, .int .i64 (i : Int), .int .i64 (j : Int)] w fun e w' => e = .returned (.tuple #[]) ∧ IR 0 w' (.slice (some ⟨g, 0, none⟩) h.length c) (swapN h i j) ∧ Fr (fun k => k = g) w w' ∧ w'.heap.size = w.heap.size := by
  obtain ⟨_, _, e, _, h1⟩ := hr.slice
  cases e
  obtain ⟨_, e, _, zg, hf, hc⟩ := h1 (by omega)
  cases e
  obtain ⟨x, hx⟩ : ∃ x, h[i]? = some x := ⟨_, List.getElem?_eq_getElem hi⟩
  obtain ⟨y, hy⟩ : ∃ y, h[j]? = some y := ⟨_, List.getElem?_eq_getElem hj⟩
  have k1 := hc i x hx
  have k2 := hc j y hy
  have y1 := hf i
  have y2 := hf j
  obtain ⟨n, hn'⟩ : ∃ n, h.length = n := ⟨_, rfl⟩
  have HN := Lib.hid hn'
  have HR := Lib.hid hr
  have SW : Hid (swapN h i j = (h.set i y).set j x) := by unfold Hid swapN; rw [getD_at hx, getD_at hy]
  have SWF : Hid (IR 0 ((w.setCell ⟨g, i, none⟩ (.int .i64 (y : Int))).setCell ⟨g, j, none⟩ (.int .i64 (x : Int))).drew (.slice (some ⟨g, 0, none⟩) n c) (swapN h i j) ∧ Fr (fun k => k = g) w ((w.setCell ⟨g, i, none⟩ (.int .i64 (y : Int))).setCell ⟨g, j, none⟩ (.int .i64 (x : Int))).drew ∧
      ((w.setCell ⟨g, i, none⟩ (.int .i64 (y : Int))).setCell ⟨g, j, none⟩ (.int .i64 (x : Int))).drew.heap.size = w.heap.size) := by
    rw [SW.out, ← hn']
    have o1 := own_put (k := i) (x := y) hr
    have o2 := own_put (k := j) (x := x) o1.1
    refine ⟨o2.1, ?_, by simp [heap_drew]⟩
    refine ((Fr.setCell w ⟨g, i, none⟩ _).trans (Fr.setCell _ ⟨g, j, none⟩ _) fun _ _ h => h).trans (S' := fun _ => False) (Fr.of_below (Below.refl _ _).drew) fun _ _ h => h.elim
  rw [hn'] at hn hi hj ⊢
  clear h1 hf hc hx hy hr hn'
  have j1 : (0 : Int) ≤ (i : Int) := by omega
  have j2 : (i : Int) < (n : Int) := by omega
  have j3 : (0 : Int) ≤ (j : Int) := by omega
  have j4 : (j : Int) < (n : Int) := by omega
  go_enter Try.func97, Try.ntmps97
  go_wp2_with fail
  refine wp_region_two [0, 1, 2, 3, 4, 5, 6, 8, 9, 10] [] 7 11 [11, 12, 13, 14, 15] [7, 12, 13, 14, 15] (fun _ => True) (by kernel_rfl) (by kernel_rfl) trivial ?_
  iterate 10 (apply first_step; (rw [List.getElem?_toArray]; (repeat rw [List.getElem?_cons_succ]); rw [List.getElem?_cons_zero]); rfl; (intro W _; go_simp; (first | done | rfl)); go_frame)
  by_cases hij : i = j
  · subst hij
    have hxy : y = x := by
      rw [k1] at k2
      injection k2 with k2
      injection k2 with _ k2
      omega
    subst hxy
    refine first_done ⟨?_, ?_⟩
    · iterate 6 (apply forced_step; (rw [List.getElem?_toArray]; (repeat rw [List.getElem?_cons_succ]); rw [List.getElem?_cons_zero]); rfl; intro K hK; go_simp; refine hK _ _ (fun _ => trivial) ?_; clear hK K)
      refine forced_done ?_
      refine two_done ?_
      refine bodyPost_end (v := .tuple #[]) (by simp [results, Try.results97, go_sem]) rfl ⟨rfl, ?_⟩
      exact SWF.out
    · iterate 6 (apply forced_step; (rw [List.getElem?_toArray]; (repeat rw [List.getElem?_cons_succ]); rw [List.getElem?_cons_zero]); rfl; intro K hK; go_simp; refine hK _ _ (fun _ => trivial) ?_; clear hK K)
      refine forced_done ?_
      refine two_done ?_
      refine bodyPost_end (v := .tuple #[]) (by simp [results, Try.results97, go_sem]) rfl ⟨rfl, ?_⟩
      exact SWF.out
  · have hji : j ≠ i := fun e => hij e.symm
    refine first_done ⟨?_, ?_⟩
    · iterate 6 (apply forced_step; (rw [List.getElem?_toArray]; (repeat rw [List.getElem?_cons_succ]); rw [List.getElem?_cons_zero]); rfl; intro K hK; go_simp; refine hK _ _ (fun _ => trivial) ?_; clear hK K)
      refine forced_done ?_
      refine two_done ?_
      refine bodyPost_end (v := .tuple #[]) (by simp [results, Try.results97, go_sem]) rfl ⟨rfl, ?_⟩
      exact SWF.out
    · iterate 6 (apply forced_step; (rw [List.getElem?_toArray]; (repeat rw [List.getElem?_cons_succ]); rw [List.getElem?_cons_zero]); rfl; intro K hK; go_simp; refine hK _ _ (fun _ => trivial) ?_; clear hK K)
      refine forced_done ?_
      refine two_done ?_
      refine bodyPost_end (v := .tuple #[]) (by simp [results, Try.results97, go_sem]) rfl ⟨rfl, ?_⟩
      exact SWF.out
end Go.Proofs.Ytcjohhminiedfaa
