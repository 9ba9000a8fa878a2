/- SORT: absent arguments; how two numbers stand. -/
import Derived.Test.YtndhmahkglfopaaGreatDoorQT16DE
import Derived.Test.YtndhmahkglfopaaGreatDoorQT16SA
import Derived.Test.YtndhmahkglfopaaGreatDoorQInv
namespace Go.Proofs.YtndhmahkglfopaaGreatDoor
open Go.RowKit
section
variable (w : World)
set_option maxHeartbeats 4000000
set_option maxRecDepth 100000
theorem given_no (a : Option Addr) (n cap i : Nat) (h : n ≤ i) : Calls Tryz.prog 290 #[.slice a n cap, .int .i64 i] w fun e w' => e = .returned (.bool false) ∧ Below w.heap.size w w' := by
  have h' : (n : Int) ≤ (i : Int) := by omega
  go_enter Tryz.func290, Tryz.ntmps290
  go_wp2_with fail
  go_ret
  refine ⟨rfl, ?_⟩
  (repeat with_reducible (first | exact bw0 _ _ | exact hBW | refine bw1 ?_ ?_ _ | refine bw2 ?_ ?_ _ | refine bw3 ?_ _ | refine bw4 ?_)); all_goals (first | omega | (dsimp only; omega) | ((repeat with_reducible (first | refine lz1 ?_ | refine lz2 ?_ | refine lz3 ?_ | refine lz4 ?_)); omega))
theorem number_no (a : Option Addr) (n cap i : Nat) (x : Int) (h : n ≤ i) : Calls Tryz.prog 286 #[.slice a n cap, .int .i64 i, .int .i64 x] w fun e w' => e = .returned (.tuple #[.int .i64 x, .int .i64 0]) ∧ Below w.heap.size w w' := by
  go_enter Tryz.func286, Tryz.ntmps286
  go_wp2_with fail
  refine (given_no _ a n cap i h).mono ?_
  rintro e w1 ⟨rfl, hb⟩
  have HB := Lib.hid hb
  clear hb
  go_wp2_with fail
  refine bodyPost_ret (v := .tuple #[.int .i64 x, .int .i64 0]) (by simp [results, Tryz.results286, go_sem]) rfl ⟨rfl, HB.out⟩
theorem order_any (x y : V) (hx : refR x = true) (hy : refR y = true) (kx : x.k = 1) (ky : y.k = 1) : Calls Tryz.prog 299 #[vagg x, vagg y] w (CPost w (cmpV x y)) := by
  have HK := Lib.hid (fun w => Compare_any x y hx hy w)
  generalize cmpV x y = c at HK ⊢
  obtain ⟨k, m, e, t, b, f⟩ := x
  obtain ⟨k', m', e', t', b', f'⟩ := y
  simp only at kx ky
  subst kx ky
  unfold vagg CPost at *
  simp only at HK ⊢
  clear hx hy
  go_enter Tryz.func299, Tryz.ntmps299
  go_wp2_with fail
  have hba : Below w.heap.size w ((w.alloc (.cells #[.int .i64 1, .int .i64 m, .int .i64 e, .string t, .bool b, .int .i64 f] 34)).alloc (.cells #[.int .i64 1, .int .i64 m', .int .i64 e', .string t', .bool b', .int .i64 f'] 34)) := by (repeat with_reducible (first | exact bw0 _ _ | exact hBW | refine bw1 ?_ ?_ _ | refine bw2 ?_ ?_ _ | refine bw3 ?_ _ | refine bw4 ?_)); all_goals (first | omega | (dsimp only; omega) | ((repeat with_reducible (first | refine lz1 ?_ | refine lz2 ?_ | refine lz3 ?_ | refine lz4 ?_)); omega))
  refine (HK.out _).mono ?_
  rintro r w1 ⟨rfl, hb1⟩
  have HB : Hid (Below w.heap.size w w1) := hba.trans (hb1.mono (by simp; omega))
  clear hb1 hba
  go_wp2_with fail
  go_ret
  exact ⟨rfl, HB.out⟩
end
end Go.Proofs.YtndhmahkglfopaaGreatDoor
/- SORT's comparison of two places. -/
namespace Go.Proofs.YtndhmahkglfopaaGreatDoor
open Go.RowKit
section
variable (w : World)
set_option maxHeartbeats 4000000
set_option maxRecDepth 100000
theorem sortRows1_any (l : List V) (ab bb yb : Nat) (r : Int) (a : Option Addr) (cap : Nat) (hA : w.heap[ab]? = some (.cells #[.int .i64 r, .int .i64 1, .slice a l.length cap] 28)) (hb : w.heap[bb]? = some (.cells #[.int .i64 1] 3)) (hy : w.heap[yb]? = some (.cells #[.int .i64 1] 3)) (hs : SlB 0 w a l)
    (h2 : l.length ≤ 4096) (x y : Nat) (u v : V) (hx : l[x]? = some u) (hv : l[y]? = some v) (ku : u.k = 1) (kv : v.k = 1) (ru : refR u = true) (rv : refR v = true) (hc1 : -1 ≤ cmpV u v) (hc2 : cmpV u v ≤ 1) :
    Calls Tryz.prog 298 #[.int .i64 x, .int .i64 y, .pointer (some ⟨ab, 0, none⟩), .pointer (some ⟨bb, 0, none⟩), .pointer (some ⟨yb, 0, none⟩)] w (CPost w (cmpV u v)) := by
  have HK := Lib.hid (fun w => order_any w u v ru rv ku kv)
  have hlx := (List.getElem?_eq_some_iff.1 hx).1
  have hly := (List.getElem?_eq_some_iff.1 hv).1
  obtain ⟨b, off, rfl, _, hbl, hall⟩ := hs (by omega)
  have xs := hall x u hx
  have ys := hall y v hv
  generalize cmpV u v = c at HK hc1 hc2 ⊢
  have wc : IntKind.i64.wrap c = c := by rw [IntKind.wrap_i64]; omega
  have wx : IntKind.i64.wrap (x : Int) = (x : Int) := by rw [IntKind.wrap_i64]; omega
  have wy : IntKind.i64.wrap (y : Int) = (y : Int) := by rw [IntKind.wrap_i64]; omega
  have wx1 : IntKind.i64.wrap ((x : Int) + 1) = (x : Int) + 1 := by rw [IntKind.wrap_i64]; omega
  have wy1 : IntKind.i64.wrap ((y : Int) + 1) = (y : Int) + 1 := by rw [IntKind.wrap_i64]; omega
  obtain ⟨k, m, e, t, bo, f⟩ := u
  obtain ⟨k', m', e', t', bo', f'⟩ := v
  simp only at ku kv
  subst ku kv
  have c0 := xs 0 (by omega)
  have c1 := xs 1 (by omega)
  have c2 := xs 2 (by omega)
  have c3 := xs 3 (by omega)
  have c4 := xs 4 (by omega)
  have c5 := xs 5 (by omega)
  have d0 := ys 0 (by omega)
  have d1 := ys 1 (by omega)
  have d2 := ys 2 (by omega)
  have d3 := ys 3 (by omega)
  have d4 := ys 4 (by omega)
  have d5 := ys 5 (by omega)
  simp only [vcells, Nat.add_zero, List.getElem?_cons_zero, List.getElem?_cons_succ] at c0 c1 c2 c3 c4 c5 d0 d1 d2 d3 d4 d5
  have p1 := cell_of_heap hA 1
  have p2 := cell_of_heap hA 2
  have q1 := cell_of_heap hb 0
  have q2 := cell_of_heap hy 0
  have za := lt_of_heap hA
  have zb := lt_of_heap hb
  have zy := lt_of_heap hy
  have n1 : (x : Int) < (l.length : Int) := by omega
  have n2 : (y : Int) < (l.length : Int) := by omega
  generalize l.length = L at *
  unfold vagg CPost at *
  simp only at HK ⊢
  clear xs ys hall hs hA hb hy hx hv hlx hly ru rv h2
  go_enter Tryz.func298, Tryz.ntmps298
  go_wp2_with fail
  refine wp_region_ord [0, 2, 3, 6, 11, 13, 14, 17, 1, 4, 12, 15, 5, 16, 7, 18, 8, 19, 9, 20, 10, 21] (.two 22 23 (.one 23 (.one 24 (.one 25 .nil))) (.one 22 (.one 24 (.one 25 .nil)))) [25] (Below w.heap.size w) (by kernel_rfl) (by kernel_rfl) (Below.refl _ _).drew ?_
  iterate 22 (first | (apply first_step; (rw [List.getElem?_toArray]; (repeat rw [List.getElem?_cons_succ]); rw [List.getElem?_cons_zero]); rfl; (intro W hB; have hc := bcellB hB; go_simp; (first | done | rfl)); go_frame) | (apply first_skip; (rw [List.getElem?_toArray]; (repeat rw [List.getElem?_cons_succ]); rw [List.getElem?_cons_zero]); rfl; go_frame))
  refine first_done ?_
  refine ord_two ?_ ?_
  · apply ord_step; (rw [List.getElem?_toArray]; (repeat rw [List.getElem?_cons_succ]); rw [List.getElem?_cons_zero]); rfl; intro K hK; go_simp; refine hK _ _ (fun _ => ?_) ?_; (focus (clear hK; (repeat with_reducible (first | exact bw0 _ _ | exact hBW | refine bw1 ?_ ?_ _ | refine bw2 ?_ ?_ _ | refine bw3 ?_ _ | refine bw4 ?_)); all_goals (first | omega | (dsimp only; omega) | ((repeat with_reducible (first | refine lz1 ?_ | refine lz2 ?_ | refine lz3 ?_ | refine lz4 ?_)); omega)))); clear hK K
    apply ord_step; (rw [List.getElem?_toArray]; (repeat rw [List.getElem?_cons_succ]); rw [List.getElem?_cons_zero]); rfl; intro K hK; go_simp; refine hK _ _ (fun _ => ?_) ?_; (focus (clear hK; (repeat with_reducible (first | exact bw0 _ _ | exact hBW | refine bw1 ?_ ?_ _ | refine bw2 ?_ ?_ _ | refine bw3 ?_ _ | refine bw4 ?_)); all_goals (first | omega | (dsimp only; omega) | ((repeat with_reducible (first | refine lz1 ?_ | refine lz2 ?_ | refine lz3 ?_ | refine lz4 ?_)); omega)))); clear hK K
    apply ord_step; (rw [List.getElem?_toArray]; (repeat rw [List.getElem?_cons_succ]); rw [List.getElem?_cons_zero]); rfl; intro K hK; go_simp; refine hK _ _ (fun _ => ?_) ?_; (focus (clear hK; (repeat with_reducible (first | exact bw0 _ _ | exact hBW | refine bw1 ?_ ?_ _ | refine bw2 ?_ ?_ _ | refine bw3 ?_ _ | refine bw4 ?_)); all_goals (first | omega | (dsimp only; omega) | ((repeat with_reducible (first | refine lz1 ?_ | refine lz2 ?_ | refine lz3 ?_ | refine lz4 ?_)); omega)))); clear hK K
    apply ord_step; (rw [List.getElem?_toArray]; (repeat rw [List.getElem?_cons_succ]); rw [List.getElem?_cons_zero]); rfl; intro K hK; go_simp; refine hK _ _ (fun h => absurd (by decide) h) ?_; clear hK K
    refine ord_done ?_
    clear c0 c1 c2 c3 c4 c5 d0 d1 d2 d3 d4 d5 p1 p2 q1
    go_wp2_with fail
    refine (HK.out _).mono ?_
    rintro r2 w2 ⟨rfl, hb2⟩
    have e8 : w2.heap[w.heap.size]? = some (.cells #[.int .i64 1, .int .i64 m, .int .i64 e, .string t, .bool bo, .int .i64 f] 34) := (hb2.block (w.heap.size) (by simp <;> omega)).trans (by (repeat (first | (with_reducible refine bw5 ?_ _; (first | rfl | (simp; done) | omega | (simp; omega)); done) | with_reducible refine bw6 ?_ _ | with_reducible refine bw7 ?_ | with_reducible refine bw8 ?_)))
    have e9 : w2.heap[w.heap.size + 1]? = some (.cells #[.int .i64 1, .int .i64 m', .int .i64 e', .string t', .bool bo', .int .i64 f'] 34) := (hb2.block (w.heap.size + 1) (by simp <;> omega)).trans (by (repeat (first | (with_reducible refine bw5 ?_ _; (first | rfl | (simp; done) | omega | (simp; omega)); done) | with_reducible refine bw6 ?_ _ | with_reducible refine bw7 ?_ | with_reducible refine bw8 ?_)))
    have HB2 : Hid (Below w.heap.size w w2) := by
      refine Below.trans ?_ (hb2.mono (by simp <;> omega))
      (repeat with_reducible (first | exact bw0 _ _ | exact hBW | refine bw1 ?_ ?_ _ | refine bw2 ?_ ?_ _ | refine bw3 ?_ _ | refine bw4 ?_)); all_goals (first | omega | (dsimp only; omega) | ((repeat with_reducible (first | refine lz1 ?_ | refine lz2 ?_ | refine lz3 ?_ | refine lz4 ?_)); omega))
    have x8 := cell_of_heap e8 0
    have x9 := cell_of_heap e9 0
    have q3 := (HB2.out.cell (p := ⟨yb, 0, none⟩) zy).trans q2
    have z8 := lt_of_heap e8
    have z9 := lt_of_heap e9
    have zyb := Nat.lt_of_lt_of_le zy HB2.out.size
    clear hb2 e8 e9 q2
    go_wp2_with fail
    go_ret
    exact ⟨rfl, HB2.out⟩
  · apply ord_step; (rw [List.getElem?_toArray]; (repeat rw [List.getElem?_cons_succ]); rw [List.getElem?_cons_zero]); rfl; intro K hK; go_simp; refine hK _ _ (fun _ => ?_) ?_; (focus (clear hK; (repeat with_reducible (first | exact bw0 _ _ | exact hBW | refine bw1 ?_ ?_ _ | refine bw2 ?_ ?_ _ | refine bw3 ?_ _ | refine bw4 ?_)); all_goals (first | omega | (dsimp only; omega) | ((repeat with_reducible (first | refine lz1 ?_ | refine lz2 ?_ | refine lz3 ?_ | refine lz4 ?_)); omega)))); clear hK K
    apply ord_step; (rw [List.getElem?_toArray]; (repeat rw [List.getElem?_cons_succ]); rw [List.getElem?_cons_zero]); rfl; intro K hK; go_simp; refine hK _ _ (fun _ => ?_) ?_; (focus (clear hK; (repeat with_reducible (first | exact bw0 _ _ | exact hBW | refine bw1 ?_ ?_ _ | refine bw2 ?_ ?_ _ | refine bw3 ?_ _ | refine bw4 ?_)); all_goals (first | omega | (dsimp only; omega) | ((repeat with_reducible (first | refine lz1 ?_ | refine lz2 ?_ | refine lz3 ?_ | refine lz4 ?_)); omega)))); clear hK K
    apply ord_step; (rw [List.getElem?_toArray]; (repeat rw [List.getElem?_cons_succ]); rw [List.getElem?_cons_zero]); rfl; intro K hK; go_simp; refine hK _ _ (fun _ => ?_) ?_; (focus (clear hK; (repeat with_reducible (first | exact bw0 _ _ | exact hBW | refine bw1 ?_ ?_ _ | refine bw2 ?_ ?_ _ | refine bw3 ?_ _ | refine bw4 ?_)); all_goals (first | omega | (dsimp only; omega) | ((repeat with_reducible (first | refine lz1 ?_ | refine lz2 ?_ | refine lz3 ?_ | refine lz4 ?_)); omega)))); clear hK K
    apply ord_step; (rw [List.getElem?_toArray]; (repeat rw [List.getElem?_cons_succ]); rw [List.getElem?_cons_zero]); rfl; intro K hK; go_simp; refine hK _ _ (fun h => absurd (by decide) h) ?_; clear hK K
    refine ord_done ?_
    clear c0 c1 c2 c3 c4 c5 d0 d1 d2 d3 d4 d5 p1 p2 q1
    go_wp2_with fail
    refine (HK.out _).mono ?_
    rintro r2 w2 ⟨rfl, hb2⟩
    have e8 : w2.heap[w.heap.size + 1]? = some (.cells #[.int .i64 1, .int .i64 m, .int .i64 e, .string t, .bool bo, .int .i64 f] 34) := (hb2.block (w.heap.size + 1) (by simp <;> omega)).trans (by (repeat (first | (with_reducible refine bw5 ?_ _; (first | rfl | (simp; done) | omega | (simp; omega)); done) | with_reducible refine bw6 ?_ _ | with_reducible refine bw7 ?_ | with_reducible refine bw8 ?_)))
    have e9 : w2.heap[w.heap.size]? = some (.cells #[.int .i64 1, .int .i64 m', .int .i64 e', .string t', .bool bo', .int .i64 f'] 34) := (hb2.block (w.heap.size) (by simp <;> omega)).trans (by (repeat (first | (with_reducible refine bw5 ?_ _; (first | rfl | (simp; done) | omega | (simp; omega)); done) | with_reducible refine bw6 ?_ _ | with_reducible refine bw7 ?_ | with_reducible refine bw8 ?_)))
    have HB2 : Hid (Below w.heap.size w w2) := by
      refine Below.trans ?_ (hb2.mono (by simp <;> omega))
      (repeat with_reducible (first | exact bw0 _ _ | exact hBW | refine bw1 ?_ ?_ _ | refine bw2 ?_ ?_ _ | refine bw3 ?_ _ | refine bw4 ?_)); all_goals (first | omega | (dsimp only; omega) | ((repeat with_reducible (first | refine lz1 ?_ | refine lz2 ?_ | refine lz3 ?_ | refine lz4 ?_)); omega))
    have x8 := cell_of_heap e8 0
    have x9 := cell_of_heap e9 0
    have q3 := (HB2.out.cell (p := ⟨yb, 0, none⟩) zy).trans q2
    have z8 := lt_of_heap e8
    have z9 := lt_of_heap e9
    have zyb := Nat.lt_of_lt_of_le zy HB2.out.size
    clear hb2 e8 e9 q2
    go_wp2_with fail
    go_ret
    exact ⟨rfl, HB2.out⟩
end
end Go.Proofs.YtndhmahkglfopaaGreatDoor
/- SORT: the places in order. -/
namespace Go.Proofs.YtndhmahkglfopaaGreatDoor
open Go.RowKit Go.Sort
section
variable (w : World) (g : Nat) (cb : Array Value) (cf : Nat → Nat → Int)
set_option maxHeartbeats 4000000
set_option maxRecDepth 100000
theorem sortStable_any (W0 : World) (B blk cap N L : Nat) (d : Array Nat) (hE : ∀ (args : Array Value) (W : World), (callFunc g args).run Tryz.prog W = .ok (.enter g args) W) (hSW : SWO (ltC cf)) (hC : CmpOk W0 B g cb N cf) (hM : 20 < L → SymOk W0 B g cb N cf blk L cap) (hB : B ≤ W0.heap.size) (hS : RI W0 B blk d w) (hN : InN N d) (hL : d.size = L) (h40 : L ≤ 40) :
    Calls Tryz.prog 337 #[.slice (some ⟨blk, 0, none⟩) L cap, .func (.func g) #[] cb] w fun e w' => e = .returned (.tuple #[]) ∧ ∃ d', RI W0 B blk d' w' ∧ PermIn 0 L d d' ∧ SortedIn (ltC cf) 0 L d' := by
  have HK := Lib.hid (stable_any W0 w B g cb N cf blk cap L d hE hSW hC hM hB hS hN hL h40)
  clear hE hSW hC hM hB hS hN hL h40
  go_enter Tryz.func337, Tryz.ntmps337
  go_wp2_with fail
  refine HK.out.mono ?_
  rintro e w1 ⟨rfl, h⟩
  have H := Lib.hid h
  clear h HK
  go_wp2_with fail
  go_end0
  exact ⟨rfl, H.out⟩
theorem inOrder_any (n : Nat) (h1 : 1 ≤ n) (h40 : n ≤ 40) (hE : ∀ (args : Array Value) (W : World), (callFunc g args).run Tryz.prog W = .ok (.enter g args) W) (hSW : SWO (ltC cf)) (hC : CmpOk w w.heap.size g cb n cf) (hM : 20 < n → ∀ blk cap, SymOk w w.heap.size g cb n cf blk n cap) :
    Calls Tryz.prog 297 #[.int .i64 n, .func (.func g) #[] cb] w fun e w' => ∃ b cap d', e = .returned (.slice (some ⟨b, 0, none⟩) n cap) ∧ RI w w.heap.size b d' w' ∧ PermIn 0 n (Array.range n) d' ∧ SortedIn (ltC cf) 0 n d' := by
  have HR := Lib.hid (run_any w n h1 (by omega))
  have HK := Lib.hid (fun w1 b cap (hS : RI w w.heap.size b (Array.range n) w1) => sortStable_any w1 g cb cf w w.heap.size b cap n n (Array.range n) hE hSW hC (fun h => hM h b cap) (Nat.le_refl _) hS (fun i hi => by
    simp only [Array.size_range] at hi
    simp [hi]) (by simp) h40)
  clear hE hSW hC hM h1 h40
  go_enter Tryz.func297, Tryz.ntmps297
  go_wp2_with fail
  refine HR.out.mono ?_
  rintro e w1 ⟨b, cap, rfl, hb, hr, hbb⟩
  have S1 : Hid (RI w w.heap.size b (Array.range n) w1) := ⟨hbb, hb, hr⟩
  clear hb hr hbb HR
  go_wp2_with fail
  refine (HK.out w1 b cap S1.out).mono ?_
  rintro e w2 ⟨rfl, d', r1, r2, r3⟩
  have R1 := Lib.hid r1
  have R2 := Lib.hid r2
  have R3 := Lib.hid r3
  clear r1 r2 r3 S1 HK
  go_wp2_with fail
  refine bodyPost_ret (v := .slice (some ⟨b, 0, none⟩) n cap) (by simp [results, Tryz.results297, go_sem]) rfl ?_
  exact ⟨b, cap, d', rfl, R1.out, R2.out, R3.out⟩
end
end Go.Proofs.YtndhmahkglfopaaGreatDoor
/- farray.rowsOf: an array's rows of these places (of one column). -/
namespace Go.Proofs.YtndhmahkglfopaaGreatDoor
open Go.RowKit Go.Sort
/-- The values at these places. -/
def atPl (l : List V) (d : Array Nat) : List V := d.toList.map fun p => (l[p]?).getD vBlank
section
variable (w : World)
set_option maxHeartbeats 4000000
set_option maxRecDepth 100000
theorem made211_any (r c : Int) (a : Option Addr) (n cap : Nat) : Calls Tryz.prog 211 #[.int .i64 r, .int .i64 c, .slice a n cap] w fun e w' => e = .returned (.agg #[.int .i64 r, .int .i64 c, .slice a n cap]) ∧ Below w.heap.size w w' := by
  go_enter Tryz.func211, Tryz.ntmps211
  go_wp2_with fail
  refine bodyPost_ret (v := .agg #[.int .i64 r, .int .i64 c, .slice a n cap]) (by simp [results, Tryz.results211, go_sem]) rfl ⟨rfl, ?_⟩
  (repeat with_reducible (first | exact bw0 _ _ | exact hBW | refine bw1 ?_ ?_ _ | refine bw2 ?_ ?_ _ | refine bw3 ?_ _ | refine bw4 ?_)); all_goals (first | omega | (dsimp only; omega) | ((repeat with_reducible (first | refine lz1 ?_ | refine lz2 ?_ | refine lz3 ?_ | refine lz4 ?_)); omega))
theorem rowsOf_any (l : List V) (r : Int) (a : Option Addr) (cap : Nat) (hs : SlB 0 w a l) (hcap : l.length ≤ cap) (hl : l.length ≤ 4096) (d : Array Nat) (b pcap : Nat) (hd : RowI w b d) (hN : InN l.length d) (h1 : 1 ≤ d.size) (h2 : d.size ≤ 4096) :
    Calls Tryz.prog 289 #[.agg #[.int .i64 r, .int .i64 1, .slice a l.length cap], .slice (some ⟨b, 0, none⟩) d.size pcap] w (ArrPostC (fun c => d.size ≤ c) w ⟨d.size, 1, atPl l d⟩) := by
  have HN := Lib.hid hN
  have HD := Lib.hid hd
  obtain ⟨bb, off, rfl, _, hbl, hall⟩ := hs (by have := hN 0 (by omega); omega)
  have HALL := Lib.hid hall
  obtain ⟨L, hL⟩ : ∃ L, L = d.size := ⟨_, rfl⟩
  have EL := Lib.hid hL
  obtain ⟨K, hK⟩ : ∃ K, K = l.length := ⟨_, rfl⟩
  have EK := Lib.hid hK
  rw [← hL] at h1 h2 ⊢
  rw [← hK] at hcap hl ⊢
  obtain ⟨i0, hi, hz0, hz1, hz2⟩ := info_parts info36
  have wm1 : wrap64 ((L : Int)) = (L : Int) := IntWalk.wrap64_in _ (by omega)
  obtain ⟨wm, hmk, hown0, hgr0⟩ := run_make_own (P := Tryz.prog) ((w.alloc (.cells #[.int .i64 r, .int .i64 1, .slice (some ⟨bb, off, none⟩) K cap] 28)).alloc (.cells #[.int .i64 0, .int .i64 0, .slice none 0 0] 28)) (w.heap.size + 2) 26 34 i0 _ 6 Tryz.underlying26 hi hz0 hz1 .i64 .i64 L (by rw [hz2]; omega) (by unfold maxLen; omega) (by simp)
  have HI := Lib.hid hi
  have HZ0 := Lib.hid hz0
  have HZ1 := Lib.hid hz1
  have HZ2 := Lib.hid hz2
  have HOWN := Lib.hid hown0
  have HGR := Lib.hid hgr0
  clear hN hd hs hall hi hz0 hz1 hz2 hown0 hgr0 hL hK
  simp only [World.size_alloc] at hmk HOWN
  go_enter Tryz.func289, Tryz.ntmps289
  go_wp2_with fail
  clear hmk wm1
  have hw2 : Below w.heap.size w ((w.alloc (.cells #[.int .i64 r, .int .i64 1, .slice (some ⟨bb, off, none⟩) K cap] 28)).alloc (.cells #[.int .i64 0, .int .i64 0, .slice none 0 0] 28)) := by (repeat with_reducible (first | exact bw0 _ _ | exact hBW | refine bw1 ?_ ?_ _ | refine bw2 ?_ ?_ _ | refine bw3 ?_ _ | refine bw4 ?_)); all_goals (first | omega | (dsimp only; omega) | ((repeat with_reducible (first | refine lz1 ?_ | refine lz2 ?_ | refine lz3 ?_ | refine lz4 ?_)); omega))
  have hB0 : Below w.heap.size w wm := hw2.grown HGR.out (by simp; omega) (fun k e => by cases e)
  have g0 : wm.heap[w.heap.size]? = some (.cells #[.int .i64 r, .int .i64 1, .slice (some ⟨bb, off, none⟩) K cap] 28) := (HGR.out.block w.heap.size (by simp; omega) (by simp)).trans (by (repeat (first | (with_reducible refine bw5 ?_ _; (first | rfl | (simp; done) | omega | (simp; omega)); done) | with_reducible refine bw6 ?_ _ | with_reducible refine bw7 ?_ | with_reducible refine bw8 ?_)))
  have g1 : wm.heap[w.heap.size + 1]? = some (.cells #[.int .i64 0, .int .i64 0, .slice none 0 0] 28) := (HGR.out.block (w.heap.size + 1) (by simp) (by simp)).trans (by (repeat (first | (with_reducible refine bw5 ?_ _; (first | rfl | (simp; done) | omega | (simp; omega)); done) | with_reducible refine bw6 ?_ _ | with_reducible refine bw7 ?_ | with_reducible refine bw8 ?_)))
  have HB0 := Lib.hid hB0
  have G0 := Lib.hid g0
  have G1 := Lib.hid g1
  have RW0 : Hid (wm.ownsRow (w.heap.size + 2) 34 6 (.slice (some ⟨w.heap.size + 2, 0, none⟩) 0 L) 0 (((d.toList.take 0).map fun p => (l[p]?).getD vBlank).flatMap vcells)) := HOWN.out
  clear hw2 hB0 g0 g1 HOWN HGR
  go_loopw [5, 16] (fun v x wr => ∃ i : Nat, x = .int .i64 i ∧ i ≤ L ∧ Hid (Below w.heap.size w wr) ∧ Hid (wr.heap[w.heap.size]? = some (.cells #[.int .i64 r, .int .i64 1, .slice (some ⟨bb, off, none⟩) K cap] 28)) ∧ Hid (wr.heap[w.heap.size + 1]? = some (.cells #[.int .i64 0, .int .i64 0, .slice none 0 0] 28)) ∧ Hid (wr.ownsRow (w.heap.size + 2) 34 6 v i (((d.toList.take i).map fun p => (l[p]?).getD vBlank).flatMap vcells))) (fun _ x _ => L - (intOf x).toNat)
  case atStart => exact ⟨0, rfl, Nat.zero_le _, HB0, G0, G1, RW0⟩
  case round =>
    clear HB0 G0 G1 RW0
    obtain ⟨i, rfl, hi, hB, h0, hz, hO⟩ := hrel
    by_cases hlt : i < L
    · obtain ⟨p, hp⟩ : ∃ p, p = d[i]! := ⟨_, rfl⟩
      have hpn : p < K := by rw [hp, EK.out]; exact HN.out i (by rw [← EL.out]; exact hlt)
      have dp : d.toList[i]? = some p := by
        have : i < d.size := by rw [← EL.out]; exact hlt
        simp [hp, this]
      obtain ⟨u, hu⟩ : ∃ u, l[p]? = some u := ⟨_, List.getElem?_eq_getElem (by rw [← EK.out]; exact hpn)⟩
      have HT : Hid ((((d.toList.take (i + 1)).map fun p => (l[p]?).getD vBlank).flatMap vcells) = (((d.toList.take i).map fun p => (l[p]?).getD vBlank).flatMap vcells) ++ vcells u) := by
        unfold Hid
        rw [List.take_add_one, dp]
        simp [hu]
      have HC : Hid (∀ j, j < 6 → wr.cell? ⟨bb, off + p * 6 + j, none⟩ = (vcells u)[j]?) := fun j hj => (hB.out.cell (p := ⟨bb, off + p * 6 + j, none⟩) hbl).trans (HALL.out p u hu j hj)
      have cp := (HD.out.below hB.out).cell (i := i) (by rw [← EL.out]; exact hlt)
      rw [← hp] at cp
      have c1 := cell_of_heap h0.out 1
      have c2 := cell_of_heap h0.out 2
      have z0 := lt_of_heap h0.out
      have i1 : (i : Int) < (L : Int) := by omega
      have wp0 : IntKind.i64.wrap (p : Int) = (p : Int) := by rw [IntKind.wrap_i64]; omega
      have wp1 : IntKind.i64.wrap ((p : Int) + 1) = (p : Int) + 1 := by rw [IntKind.wrap_i64]; omega
      have k5 : ¬ cap = p := by omega
      have hle : w.heap.size + 2 ≤ wr.heap.size := by have := lt_of_heap hz.out; omega
      have k1 : (0 : Int) ≤ (p : Int) := by omega
      have k2 : (p : Int) ≤ (p : Int) + 1 := by omega
      have k3 : (p : Int) + 1 ≤ (cap : Int) := by omega
      have k4 : ((p : Int) + 1).toNat = p + 1 := by omega
      obtain ⟨sa, scap, rfl⟩ := own_slx hO.out
      generalize ((d.toList.take i).map fun p => (l[p]?).getD vBlank).flatMap vcells = XS at hO HT
      clear hp dp hu
      go_wp2_with (
        at_builtin
        refine wpList_append_own_at _ rfl _ _ 26 rfl (w.heap.size + 2) 34 i0 _ 6 56 Tryz.underlying26 HI.out HZ0.out HZ1.out HZ2.out rfl (by decide) (.slice sa i scap) i XS rfl hO.out ⟨bb, off + p * 6, none⟩ 1 (cap - p) (vcells u) rfl rfl (fun j x hj => by rw [show (⟨bb, off + p * 6, none⟩ : Addr).add j = ⟨bb, off + p * 6 + j, none⟩ by simp [Addr.add]]; rw [HC.out j (List.getElem?_eq_some_iff.1 hj).1]; exact hj) (by simp [vcells, Value.oneCell']) (by unfold maxLen; omega) (by omega) hle ?_
        intro v' wN hown hgrow _ _
        have FO : Hid (wN.ownsRow (w.heap.size + 2) 34 6 v' (i + 1) (((d.toList.take (i + 1)).map fun p => (l[p]?).getD vBlank).flatMap vcells)) := by
          unfold Hid
          rw [HT.out]
          exact hown
        have FB : Hid (Below w.heap.size w wN) := hB.out.grown hgrow hB.out.size (fun k hk => by have := own_nex hO.out k hk; omega)
        have F0 : Hid (wN.heap[w.heap.size]? = some (.cells #[.int .i64 r, .int .i64 1, .slice (some ⟨bb, off, none⟩) K cap] 28)) := (hgrow.block _ (by omega) (fun e => by have := own_nex hO.out _ e.symm; omega)).trans h0.out
        have F1 : Hid (wN.heap[w.heap.size + 1]? = some (.cells #[.int .i64 0, .int .i64 0, .slice none 0 0] 28)) := (hgrow.block _ (by omega) (fun e => by have := own_nex hO.out _ e.symm; omega)).trans hz.out
        clear hown hgrow)
      go_roundw
      case rel => exact ⟨i + 1, by go_num, by omega, FB, F0, F1, FO⟩
      case measure => simp [intOf]; omega
    · have e : i = L := by omega
      have i1 : ¬ (i : Int) < (L : Int) := by omega
      have h1' := hO.out
      rw [e, List.take_of_length_le (by rw [Array.length_toList, ← EL.out]; exact Nat.le_refl _)] at h1'
      have ln : (atPl l d).length = L := by unfold atPl; rw [List.length_map, Array.length_toList]; exact EL.out.symm
      rw [← ln] at h1'
      obtain ⟨sa, scap, rfl, hsl, hcp⟩ := own_slbC (l := atPl l d) h1'
      rw [ln] at hcp
      have HSL := Lib.hid hsl
      have HCP := Lib.hid hcp
      have LN := Lib.hid ln
      have c1 := cell_of_heap h0.out 1
      have z0 := lt_of_heap h0.out
      rw [ln]
      clear hO h1' hsl hcp e ln
      go_wp2_with fail
      refine (made211_any _ _ _ _ _ _).mono ?_
      rintro e w2 ⟨rfl, hb2⟩
      have e0 := (hb2.block (w.heap.size + 1) (lt_of_heap hz.out)).trans hz.out
      have x0 := cell_of_heap e0
      have y0 := frozen_of_heap e0
      have hn0 := lt_of_heap e0
      have HS2 := Lib.hid (HSL.out.below hb2)
      have HB2 := Lib.hid (hB.out.trans (hb2.mono hB.out.size))
      clear hb2 e0 c1
      go_wp2_with fail
      refine bodyPost_ret (v := .agg #[.int .i64 L, .int .i64 1, .slice sa L scap]) (by simp [results, Tryz.results289, go_sem, x0]) rfl ?_
      have key := arr_handC (X := fun c => L ≤ c) HCP.out (A := ⟨L, 1, atPl l d⟩) (n := 0) (b := w.heap.size + 1) (by omega) HS2.out HB2.out (.int .i64 L) (.int .i64 1) (.slice sa L scap)
      simp only [LN.out] at key
      exact key
end
end Go.Proofs.YtndhmahkglfopaaGreatDoor
/- SORT of a column of whole numbers, plainly. -/
namespace Go.Proofs.YtndhmahkglfopaaGreatDoor
open Go.Sort
def cmpI (a b : Int) : Int := if a = b then 0 else if a < b then -1 else 1
/-- The number at a place; a number of the row's in any case. -/
def dxI (D : List Int) (x : Nat) : Int := (D[x]?).getD (D.headD 0)
def cfI (D : List Int) (x y : Nat) : Int := cmpI (dxI D x) (dxI D y)
def ltI (x y : Int) : Bool := decide (x < y)
def sortD (D : List Int) : List Int := D.mergeSort (fun x y => !ltI y x)
/-- What the comparison of such numbers' values tells. -/
def CmpInt (D : List Int) : Prop := ∀ a ∈ D, ∀ b ∈ D, cmpV (cntV a) (cntV b) = cmpI a b
theorem cmpI_bd (a b : Int) : -1 ≤ cmpI a b ∧ cmpI a b ≤ 1 := by
  unfold cmpI
  split
  · omega
  · split <;> omega
theorem cmpI_lt (a b : Int) : decide (cmpI a b < 0) = ltI a b := by
  unfold cmpI ltI
  by_cases h1 : a = b
  · simp [h1]
  · by_cases h2 : a < b
    · simp [h1, h2]
    · simp [h1, h2]
theorem ltC_cf (D : List Int) (x y : Nat) : ltC (cfI D) x y = ltI (dxI D x) (dxI D y) := cmpI_lt _ _
theorem swo_ltI : SWO ltI where
  irrefl := fun x => by simp [ltI]
  trans := fun x y z h1 h2 => by simp [ltI] at *; omega
  ntrans := fun x y z h1 h2 => by simp [ltI] at *; omega
theorem swo_cf (D : List Int) : SWO (ltC (cfI D)) where
  irrefl := fun x => by rw [ltC_cf]; exact swo_ltI.irrefl _
  trans := fun x y z h1 h2 => by rw [ltC_cf] at *; exact swo_ltI.trans _ _ _ h1 h2
  ntrans := fun x y z h1 h2 => by rw [ltC_cf] at *; exact swo_ltI.ntrans _ _ _ h1 h2
theorem dx_mem {D : List Int} (h : 1 ≤ D.length) (x : Nat) : dxI D x ∈ D := by
  unfold dxI
  cases hx : D[x]? with
  | some v => simpa using List.mem_of_getElem? hx
  | none =>
    cases D with
    | nil => simp at h
    | cons a r => simp
theorem map_dx (D : List Int) : (List.range D.length).map (dxI D) = D := by
  apply List.ext_getElem?
  intro i
  rw [List.getElem?_map]
  by_cases h : i < D.length
  · rw [List.getElem?_range h]
    simp [dxI, h]
  · rw [List.getElem?_eq_none (by simp; omega), List.getElem?_eq_none (by omega)]
    rfl
theorem places_sorted {D : List Int} {d : Array Nat} (hp : PermIn 0 D.length (Array.range D.length) d) (hs : SortedIn (ltC (cfI D)) 0 D.length d) : d.toList.map (dxI D) = sortD D := by
  have hz : d.size = D.length := by rw [hp.1]; simp
  have e1 : (d.extract 0 D.length).toList = d.toList := by rw [← hz]; simp
  have e2 : ((Array.range D.length).extract 0 D.length).toList = List.range D.length := by
    simp
  have hperm := hp.2.2
  rw [e1, e2] at hperm
  have hperm2 := hperm.map (dxI D)
  rw [map_dx] at hperm2
  have key := sorted_unique_holds (lt := ltI) swo_ltI (fun x y h1 h2 => by simp [ltI] at h1 h2; omega) D.toArray (d.toList.map (dxI D)).toArray ⟨by simp [hz], fun i hi => ?_, ?_⟩ ?_
  · simpa [sortD] using key
  · have hi2 : D.length ≤ i := by simpa using hi
    simp only [getElem!_def]
    rw [Array.getElem?_eq_none (by simp; omega), Array.getElem?_eq_none (by simp; omega)]
  · have e3 : ((d.toList.map (dxI D)).toArray.extract 0 D.toArray.size).toList = d.toList.map (dxI D) := by
      have : D.toArray.size = (d.toList.map (dxI D)).toArray.size := by simp [hz]
      rw [this]
      simp only [Array.toList_extract, List.size_toArray, List.extract_eq_take_drop, List.drop_zero, Nat.sub_zero]
      exact List.take_of_length_le (Nat.le_refl _)
    have e4 : (D.toArray.extract 0 D.toArray.size).toList = D := by simp
    rw [e3, e4]
    exact hperm2
  · intro i j _ hij hj
    have hj2 : j < d.size := by rw [hz]; simpa using hj
    have g : ∀ k, k < d.size → (d.toList.map (dxI D)).toArray[k]! = dxI D d[k]! := fun k hk => by simp [hk]
    rw [g i (by omega), g j hj2, ← ltC_cf]
    exact hs i j (Nat.zero_le _) hij (by simpa using hj)
theorem atPl_sorted {D : List Int} {d : Array Nat} (hp : PermIn 0 D.length (Array.range D.length) d) (hs : SortedIn (ltC (cfI D)) 0 D.length d) (hN : ∀ x ∈ d.toList, x < D.length) : atPl (D.map cntV) d = (sortD D).map cntV := by
  rw [← places_sorted hp hs]
  unfold atPl
  rw [List.map_map]
  apply List.map_congr_left
  intro x hx
  have := hN x hx
  simp [dxI, this]
theorem sortD_mem {D : List Int} (d : Int) : d ∈ sortD D ↔ d ∈ D := by
  unfold sortD
  exact (List.mergeSort_perm _ _).mem_iff
theorem sortD_len (D : List Int) : (sortD D).length = D.length := by
  unfold sortD
  exact List.length_mergeSort _
end Go.Proofs.YtndhmahkglfopaaGreatDoor
/- SORT of a column of whole numbers: the walk. -/
namespace Go.Proofs.YtndhmahkglfopaaGreatDoor
open Go.RowKit Go.Sort
theorem ent298 (args : Array Value) (W : World) : (callFunc 298 args).run Tryz.prog W = .ok (.enter 298 args) W := enters_of Tryz.func298 (by kernel_rfl) rfl args W
section
variable (w : World)
set_option maxHeartbeats 4000000
set_option maxRecDepth 100000
/-- The comparison that SORT hands to the sort: from a world in which the array's block, the two boxes and the values stand. -/
theorem sort_cmp (D : List Int) (hR : ∀ d ∈ D, refR (cntV d) = true) (hC : CmpInt D) (h1 : 1 ≤ D.length) (h2 : D.length ≤ 40) (ab bb yb : Nat) (r : Int) (a : Option Addr) (cap : Nat) (hA : w.heap[ab]? = some (.cells #[.int .i64 r, .int .i64 1, .slice a D.length cap] 28)) (hb : w.heap[bb]? = some (.cells #[.int .i64 1] 3)) (hy : w.heap[yb]? = some (.cells #[.int .i64 1] 3)) (hs : SlB 0 w a (D.map cntV)) :
    CmpOk w w.heap.size 298 #[.pointer (some ⟨ab, 0, none⟩), .pointer (some ⟨bb, 0, none⟩), .pointer (some ⟨yb, 0, none⟩)] D.length (cfI D) := fun W hW x y hx hy2 => by
  have hl : (D.map cntV).length = D.length := by simp
  have gx : (D.map cntV)[x]? = some (cntV (dxI D x)) := by simp [dxI, hx]
  have gy : (D.map cntV)[y]? = some (cntV (dxI D y)) := by simp [dxI, hy2]
  have hc := hC _ (dx_mem h1 x) _ (dx_mem h1 y)
  have hbd := cmpI_bd (dxI D x) (dxI D y)
  have key := sortRows1_any W (D.map cntV) ab bb yb r a cap (by rw [hl]; exact (hW.block ab (lt_of_heap hA)).trans hA) ((hW.block bb (lt_of_heap hb)).trans hb) ((hW.block yb (lt_of_heap hy)).trans hy) (hs.below hW) (by omega) x y _ _ gx gy rfl rfl (hR _ (dx_mem h1 x)) (hR _ (dx_mem h1 y)) (by rw [hc]; exact hbd.1) (by rw [hc]; exact hbd.2)
  rw [hc] at key
  exact key
theorem sortRows_any (D : List Int) (hR : ∀ d ∈ D, refR (cntV d) = true) (hC : CmpInt D) (h1 : 1 ≤ D.length) (h2 : D.length ≤ 40) (b off cap : Nat) (hb : b < w.heap.size) (r : Int) (a : Option Addr) (acap : Nat) (hcap : D.length ≤ acap)
    (c0 : w.cell? ⟨b, off, none⟩ = some (.int .i64 r)) (c1 : w.cell? ⟨b, off + 1, none⟩ = some (.int .i64 1)) (c2 : w.cell? ⟨b, off + 2, none⟩ = some (.slice a D.length acap)) (hs : SlB 0 w a (D.map cntV)) (hr : r = D.length)
    (hM : 20 < D.length → ∀ (W : World) (ab bb yb blk scap : Nat), CmpOk W W.heap.size 298 #[.pointer (some ⟨ab, 0, none⟩), .pointer (some ⟨bb, 0, none⟩), .pointer (some ⟨yb, 0, none⟩)] D.length (cfI D) → SymOk W W.heap.size 298 #[.pointer (some ⟨ab, 0, none⟩), .pointer (some ⟨bb, 0, none⟩), .pointer (some ⟨yb, 0, none⟩)] D.length (cfI D) blk D.length scap) :
    Calls Tryz.prog 208 #[.slice (some ⟨b, off, none⟩) 1 cap] w (ArrPostC (fun c => D.length ≤ c) w ⟨D.length, 1, (sortD D).map cntV⟩) := by
  have HCM := Lib.hid (fun w ab bb yb a cap hA hb hy hs => sort_cmp w D hR hC h1 h2 ab bb yb r a cap hA hb hy hs)
  have HM := Lib.hid hM
  have HS := Lib.hid hs
  have HD1 := Lib.hid h1
  have HD2 := Lib.hid h2
  have HCAP := Lib.hid hcap
  have h2' : D.length ≤ 4096 := by omega
  have HD3 := Lib.hid h2'
  obtain ⟨n, hn⟩ : ∃ n, n = D.length := ⟨_, rfl⟩
  have EN := Lib.hid hn
  rw [← hn] at hcap c2 hr ⊢
  subst hr
  have hb1 : b ≠ w.heap.size := by omega
  have hb2 : b < w.heap.size + 1 := by omega
  have hb3 : b ≠ w.heap.size + 1 := by omega
  clear hR hC hs hM h1 h2 hn h2'
  go_enter Tryz.func208, Tryz.ntmps208
  go_wp2_with fail
  refine (number_no _ (some ⟨b, off, none⟩) 1 cap 1 1 (Nat.le_refl _)).mono ?_
  rintro e w1 ⟨rfl, hb1⟩
  have g0 : w1.heap[w.heap.size]? = some (.cells #[.int .i64 0, .int .i64 0, .slice none 0 0] 28) := (hb1.block _ (by simp; omega)).trans (by (repeat (first | (with_reducible refine bw5 ?_ _; (first | rfl | (simp; done) | omega | (simp; omega)); done) | with_reducible refine bw6 ?_ _ | with_reducible refine bw7 ?_ | with_reducible refine bw8 ?_)))
  have g1 : w1.heap[w.heap.size + 1]? = some (.cells #[.int .i64 n, .int .i64 1, .slice a n acap] 28) := (hb1.block _ (by simp)).trans (by (repeat (first | (with_reducible refine bw5 ?_ _; (first | rfl | (simp; done) | omega | (simp; omega)); done) | with_reducible refine bw6 ?_ _ | with_reducible refine bw7 ?_ | with_reducible refine bw8 ?_)))
  have HB1 : Hid (Below w.heap.size w w1) := by
    refine Below.trans ?_ (hb1.mono (by simp; omega))
    (repeat with_reducible (first | exact bw0 _ _ | exact hBW | refine bw1 ?_ ?_ _ | refine bw2 ?_ ?_ _ | refine bw3 ?_ _ | refine bw4 ?_)); all_goals (first | omega | (dsimp only; omega) | ((repeat with_reducible (first | refine lz1 ?_ | refine lz2 ?_ | refine lz3 ?_ | refine lz4 ?_)); omega))
  have G0 := Lib.hid g0
  have G1 := Lib.hid g1
  clear hb1 g0 g1 c0 c1 c2
  go_wp2_with fail
  refine (number_no _ (some ⟨b, off, none⟩) 1 cap 2 1 (by omega)).mono ?_
  rintro e w2 ⟨rfl, hb2⟩
  have hb2' : Below w1.heap.size w1 w2 := (below_alloc w1 _ _ (Nat.le_refl _)).trans (hb2.mono (by simp))
  have g0 := (hb2'.block _ (lt_of_heap G0.out)).trans G0.out
  have g1 := (hb2'.block _ (lt_of_heap G1.out)).trans G1.out
  have g2 : w2.heap[w1.heap.size]? = some (.cells #[.int .i64 1] 3) := (hb2.block _ (by simp)).trans (by (repeat (first | (with_reducible refine bw5 ?_ _; (first | rfl | (simp; done) | omega | (simp; omega)); done) | with_reducible refine bw6 ?_ _ | with_reducible refine bw7 ?_ | with_reducible refine bw8 ?_)))
  have HB2 := Lib.hid (HB1.out.trans (hb2'.mono HB1.out.size))
  clear hb2 hb2' G0 G1
  have G0 := Lib.hid g0
  have G1 := Lib.hid g1
  have G2 := Lib.hid g2
  have x1 := cell_of_heap g1 1
  have x2 := cell_of_heap g2 0
  have z1 := lt_of_heap g1
  have z2 := lt_of_heap g2
  have q1 : w.heap.size + 1 ≠ w2.heap.size := by omega
  have q2 : w1.heap.size ≠ w2.heap.size := by omega
  have q3 : w.heap.size + 1 < w2.heap.size + 1 := by omega
  have q4 : w1.heap.size < w2.heap.size + 1 := by omega
  clear g0 g1 g2
  go_wp2_with fail
  clear x1 x2 z1 z2 q1 q2 q3 q4
  refine abs_world ?_
  intro W3 hW3
  have g0 : W3.heap[w.heap.size]? = some (.cells #[.int .i64 0, .int .i64 0, .slice none 0 0] 28) := by rw [hW3]; exact heap_alloc_old G0.out _
  have g1 : W3.heap[w.heap.size + 1]? = some (.cells #[.int .i64 n, .int .i64 1, .slice a n acap] 28) := by rw [hW3]; exact heap_alloc_old G1.out _
  have g2 : W3.heap[w1.heap.size]? = some (.cells #[.int .i64 1] 3) := by rw [hW3]; exact heap_alloc_old G2.out _
  have g3 : W3.heap[w2.heap.size]? = some (.cells #[.int .i64 1] 3) := by rw [hW3]; exact heap_alloc_new w2 _
  have HB3 : Hid (Below w.heap.size w W3) := by rw [hW3]; exact HB2.out.alloc HB2.out.size _
  have H0 := Lib.hid g0
  have H1 := Lib.hid g1
  have H2 := Lib.hid g2
  have H3 := Lib.hid g3
  have c0 := cell_of_heap g1 0
  have c1 := cell_of_heap g1 1
  have c2 := cell_of_heap g1 2
  have z1 := lt_of_heap g1
  clear hW3 g0 g1 g2 g3 G0 G1 G2
  refine wp_region_mix [0, 1, 2, 3] [4, 5, 6] [5, 6] (Below W3.heap.size W3) (by kernel_rfl) (by kernel_rfl) (Below.refl _ _).drew ?_
  iterate 4 (first | (apply first_step; (rw [List.getElem?_toArray]; (repeat rw [List.getElem?_cons_succ]); rw [List.getElem?_cons_zero]); rfl; (intro W hB; have hc := bcellB hB; go_simp; (first | done | rfl)); go_frame) | (apply first_skip; (rw [List.getElem?_toArray]; (repeat rw [List.getElem?_cons_succ]); rw [List.getElem?_cons_zero]); rfl; go_frame))
  refine first_done ?_
  apply tail_step; (rw [List.getElem?_toArray]; (repeat rw [List.getElem?_cons_succ]); rw [List.getElem?_cons_zero]); rfl; rfl; intro K hK; go_simp
  have hcm := HCM.out W3.drew (w.heap.size + 1) w1.heap.size w2.heap.size a acap (by rw [← EN.out]; exact H1.out) H2.out H3.out (HS.out.below HB3.out.drew)
  have key := inOrder_any W3.drew 298 _ (cfI D) D.length HD1.out HD2.out ent298 (swo_cf D) hcm (fun h blk scap => HM.out h W3.drew _ _ _ blk scap hcm)
  rw [← EN.out] at key
  refine key.mono ?_
  clear key hcm
  rintro e' w4 ⟨pb, pcap, d', rfl, r1, r2, r3⟩
  have hb4 : Below W3.heap.size W3 w4 := (Below.refl _ W3).drew.trans r1.1
  refine hK _ _ (fun _ => hb4) ?_
  clear hK K
  have HB4 := Lib.hid hb4
  have R1 := Lib.hid r1.2.2
  have hz : d'.size = n := by rw [r2.1]; simp
  have hN : InN n d' := InN.perm (a := 0) (b := n) (d := Array.range n) (fun i hi => by
    simp only [Array.size_range] at hi
    simp [hi]) (by simp) r2
  have hat : atPl (D.map cntV) d' = (sortD D).map cntV := by
    rw [EN.out] at r2 r3 hN hz
    exact atPl_sorted r2 r3 (fun x hx => by
      obtain ⟨i, hi, rfl⟩ := List.getElem_of_mem hx
      have hi2 : i < d'.size := by simpa using hi
      have := hN i hi2
      simpa [hi2] using this)
  have key2 := rowsOf_any w4 (D.map cntV) n a acap ((HS.out.below HB3.out).below HB4.out) (by rw [List.length_map, ← EN.out]; exact hcap) (by rw [List.length_map]; exact HD3.out) d' pb pcap R1.out (by rw [List.length_map, ← EN.out]; exact hN) (by rw [hz, EN.out]; exact HD1.out) (by rw [hz, EN.out]; exact HD3.out)
  rw [List.length_map, ← EN.out, hz, hat] at key2
  have KEY := Lib.hid key2
  clear key2 hat hN hz r1 r2 r3 hb4 c0 c1 c2
  apply tail_step; (rw [List.getElem?_toArray]; (repeat rw [List.getElem?_cons_succ]); rw [List.getElem?_cons_zero]); rfl; rfl; intro K hK; go_simp
  refine KEY.out.mono ?_
  rintro e' w5 ⟨a5, cap5, rfl, hx5, hsl5, hb5⟩
  refine hK _ _ (fun h => absurd (by decide) h) ?_
  clear hK K KEY
  have hb5' := HB4.out.trans (hb5.mono HB4.out.size)
  have e0 := (hb5'.block _ (lt_of_heap H0.out)).trans H0.out
  have x0 := cell_of_heap e0
  have y0 := frozen_of_heap e0
  have hn0 := lt_of_heap e0
  have HX5 := Lib.hid hx5
  have ln : ((sortD D).map cntV).length = n := by rw [List.length_map, sortD_len, EN.out]
  have LN := Lib.hid ln
  have HSL := Lib.hid (hsl5.mono (B' := w.heap.size + 1) (by have := HB4.out.size; omega))
  have HB5 := Lib.hid (HB3.out.trans (hb5'.mono HB3.out.size))
  dsimp only
  rw [ln]
  clear hx5 hsl5 hb5 hb5' e0 ln
  apply tail_step; (rw [List.getElem?_toArray]; (repeat rw [List.getElem?_cons_succ]); rw [List.getElem?_cons_zero]); rfl; rfl; intro K hK; go_simp; refine hK _ _ (fun h => absurd (by decide) h) ?_; clear hK K
  refine tail_done ?_
  go_wp2_with fail
  refine bodyPost_ret (v := .agg #[.int .i64 n, .int .i64 1, .slice a5 n cap5]) (by simp [results, Tryz.results208, go_sem, x0]) rfl ?_
  have key := arr_handC (X := fun c => n ≤ c) HX5.out (A := ⟨n, 1, (sortD D).map cntV⟩) (n := 0) (b := w.heap.size) (Nat.le_refl _) HSL.out HB5.out (.int .i64 n) (.int .i64 1) (.slice a5 n cap5)
  simp only [LN.out] at key
  exact key
end
end Go.Proofs.YtndhmahkglfopaaGreatDoor
