/- Each: place by place. -/
import Derived.Test.YtgbedjeiihigaaaF13Not
import Derived.Test.YtgbedjeiihigaaaF13Table
namespace Go.Proofs.Ytgbedjeiihigaaa
open Go.RowKit
/-- A function value (g with what it has captured) makes u of v, from the world w on. -/
def FvOk (w : World) (g : Nat) (cp : Array Value) (v u : V) : Prop := ∀ W, Below w.heap.size w W → Calls Try.prog g (#[vagg v] ++ cp) W fun e w' => e = .returned (vagg u) ∧ Below W.heap.size W w'
theorem FvOk.below {w w' : World} {g : Nat} {cp : Array Value} {v u : V} (h : FvOk w g cp v u) (hb : Below w.heap.size w w') : FvOk w' g cp v u := fun W hW => h W (hb.trans (hW.mono hb.size))
theorem vagg_eq (v : V) : vagg v = .agg #[.int .i64 v.k, .int .i64 v.m, .int .i64 v.e, .string v.t, .bool v.b, .int .i64 v.f] := rfl
theorem nil_fn (g : Nat) (cp : Array Value) (W : World) : (binOp .eql 65 (.func (.func g) #[] cp) .nilFunc).run Try.prog W = .ok (.bool false) W := by kernel_rfl
set_option maxHeartbeats 1000000 in
set_option maxRecDepth 100000 in
theorem each1_any {g : Nat} {cp : Array Value} (hE : ∀ args W, (callFunc g args).run Try.prog W = .ok (.enter g args) W) (v u : V) (hR : RightOk u) (row col : Int) (A : Arr) (i : Nat) (hi : A.l[i]? = some v)
    (hrow : row * A.c + col = (i : Int)) (hl : A.l.length ≤ 4096) (hm : 0 ≤ row * A.c) (hm2 : row * A.c ≤ 4096) (fb ab : Nat) (a : Option Addr) (cap : Nat) (w : World) (hF : FvOk w g cp v u) (c1 : w.heap[fb]? = some (.cells #[.func (.func g) #[] cp] 65))
    (c2 : w.heap[ab]? = some (.cells #[.int .i64 A.r, .int .i64 A.c, .slice a A.l.length cap] 27)) (hs : SlB 0 w a A.l) :
    Calls Try.prog 68 #[.int .i64 row, .int .i64 col, ptrV fb, ptrV ab] w fun e w' => e = .returned (vagg u) ∧ Below w.heap.size w w' := by
  have hil : i < A.l.length := (List.getElem?_eq_some_iff.1 hi).1
  obtain ⟨b, off, rfl, hb, v0, v1, v2, v3, v4, v5⟩ := hs.cells hi
  have HF := Lib.hid hF
  have HR := Lib.hid hR
  have f0 := cell_of_heap c1 0
  have a1 := cell_of_heap c2 1
  have a2 := cell_of_heap c2 2
  have hf := lt_of_heap c1
  have ha := lt_of_heap c2
  have wm1 : IntKind.i64.wrap (row * A.c) = row * A.c := IntWalk.i64_in _ (by omega)
  have wm2 : IntKind.i64.wrap (row * A.c + col) = (i : Int) := by rw [hrow]; exact IntWalk.i64_in _ (by omega)
  have j1 : (0 : Int) ≤ (i : Int) := by omega
  have j2 : (i : Int) < (A.l.length : Int) := by omega
  have HE := Lib.hid hE
  have nf := nil_fn g cp
  clear hF hR hi hrow c1 c2 hs hE hm hm2
  unfold ptrV
  go_enter Try.func68, Try.ntmps68
  go_wp2_with fail
  clear nf
  refine abs_world ?_
  intro W1 hW1
  have hB1 : Below w.heap.size w W1 := by rw [hW1]; (repeat (first | with_reducible exact Below.refl _ _ | with_reducible exact hBW | with_reducible refine Below.setCell ?_ ?_ _ | with_reducible refine Below.alloc ?_ ?_ _ | with_reducible refine belowN ?_ _ | with_reducible refine Below.drew ?_)); all_goals (first | omega | (dsimp only; omega) | ((repeat (first | with_reducible refine le_alloc ?_ | with_reducible refine le_setCell ?_ | with_reducible refine le_drew ?_ | with_reducible refine le_drewN ?_)); omega))
  have g6 : W1.heap[w.heap.size]? = some (.cells #[.int .i64 0, .int .i64 0, .int .i64 0, .string ⟨#[]⟩, .bool false, .int .i64 0] 36) := by rw [hW1]; (repeat (first | (with_reducible refine heap_alloc_at ?_ _; (first | rfl | (simp; done) | omega | (simp; omega)); done) | with_reducible refine heap_alloc_old ?_ _ | with_reducible refine heap_drew_old ?_ | with_reducible refine heap_drewN_old ?_))
  have v0 := (hB1.cell (p := ⟨b, off + i * 6, none⟩) hb).trans v0
  have v1 := (hB1.cell (p := ⟨b, off + i * 6 + 1, none⟩) hb).trans v1
  have v2 := (hB1.cell (p := ⟨b, off + i * 6 + 2, none⟩) hb).trans v2
  have v3 := (hB1.cell (p := ⟨b, off + i * 6 + 3, none⟩) hb).trans v3
  have v4 := (hB1.cell (p := ⟨b, off + i * 6 + 4, none⟩) hb).trans v4
  have v5 := (hB1.cell (p := ⟨b, off + i * 6 + 5, none⟩) hb).trans v5
  have f0 := (hB1.cell (p := ⟨fb, 0, none⟩) hf).trans f0
  have a1 := (hB1.cell (p := ⟨ab, 1, none⟩) ha).trans a1
  have a2 := (hB1.cell (p := ⟨ab, 2, none⟩) ha).trans a2
  have hf := Nat.lt_of_lt_of_le hf hB1.size
  have ha := Nat.lt_of_lt_of_le ha hB1.size
  have hb := Nat.lt_of_lt_of_le hb hB1.size
  have HB1 := Lib.hid hB1
  have G6 := Lib.hid g6
  clear hW1 hB1 g6
  refine wp_region_mix [0, 1, 2, 3, 4, 5, 6, 7, 8, 9, 10] [11, 12, 13] [11, 12, 13] (Below W1.heap.size W1) (by kernel_rfl) (by kernel_rfl) (Below.refl _ _).drew ?_
  iterate 11 (first | (apply first_step; (rw [List.getElem?_toArray]; (repeat rw [List.getElem?_cons_succ]); rw [List.getElem?_cons_zero]); rfl; (intro W hB; have hc := bcellB hB; go_simp; (first | done | rfl)); go_frame) | (apply first_skip; (rw [List.getElem?_toArray]; (repeat rw [List.getElem?_cons_succ]); rw [List.getElem?_cons_zero]); rfl; go_frame))
  refine first_done ?_
  have ent := HE.out
  apply tail_step; (rw [List.getElem?_toArray]; (repeat rw [List.getElem?_cons_succ]); rw [List.getElem?_cons_zero]); rfl; rfl; intro K hK; go_simp
  clear ent
  refine (HF.out _ HB1.out.drew).mono ?_
  rintro e' w2 ⟨rfl, hb2⟩
  refine hK _ _ (fun h => absurd (by decide) h) ?_
  clear hK K
  have HB2 : Hid (Below W1.heap.size W1 w2) := (Below.refl _ W1).drew.trans hb2
  clear hb2 v0 v1 v2 v3 v4 v5 f0 a1 a2 wm1 wm2
  apply tail_step; (rw [List.getElem?_toArray]; (repeat rw [List.getElem?_cons_succ]); rw [List.getElem?_cons_zero]); rfl; rfl; intro K hK; go_simp
  refine (sound_ok u HR.out _).mono ?_
  rintro e' w3 ⟨rfl, hb3⟩
  refine hK _ _ (fun h => absurd (by decide) h) ?_
  clear hK K
  have hB3 : Below W1.heap.size W1 w3 := HB2.out.trans (hb3.mono HB2.out.size)
  have e0 := (hB3.block w.heap.size (lt_of_heap G6.out)).trans G6.out
  have x0 := cell_of_heap e0
  have y0 := frozen_of_heap e0
  have hn0 : w.heap.size < w3.heap.size := lt_of_heap e0
  have HB3 : Hid (Below w.heap.size w w3) := HB1.out.trans (hB3.mono HB1.out.size)
  rw [vagg_eq u]
  clear hb3 hB3 e0
  apply tail_step; (rw [List.getElem?_toArray]; (repeat rw [List.getElem?_cons_succ]); rw [List.getElem?_cons_zero]); rfl; rfl; intro K hK; go_simp; refine hK _ _ (fun h => absurd (by decide) h) ?_; clear hK K
  refine tail_done ?_
  go_wp2_with fail
  have hBW := HB3.out
  refine bodyPost_ret (v := .agg #[.int .i64 u.k, .int .i64 u.m, .int .i64 u.e, .string u.t, .bool u.b, .int .i64 u.f]) (by simp [results, Try.results68, go_sem, x0]) rfl ⟨rfl, ?_⟩
  (repeat (first | with_reducible exact Below.refl _ _ | with_reducible exact hBW | with_reducible refine Below.setCell ?_ ?_ _ | with_reducible refine Below.alloc ?_ ?_ _ | with_reducible refine belowN ?_ _ | with_reducible refine Below.drew ?_)); all_goals (first | omega | (dsimp only; omega) | ((repeat (first | with_reducible refine le_alloc ?_ | with_reducible refine le_setCell ?_ | with_reducible refine le_drew ?_ | with_reducible refine le_drewN ?_)); omega))
end Go.Proofs.Ytgbedjeiihigaaa
