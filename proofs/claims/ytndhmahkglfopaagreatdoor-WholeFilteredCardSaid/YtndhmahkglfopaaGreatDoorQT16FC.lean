/- Same of unlike numbers; the law's call of FILTER; boxes of arrays. -/
import Derived.Test.YtndhmahkglfopaaGreatDoorQT16CD
import Derived.Test.YtndhmahkglfopaaGreatDoorQT16DE
import Derived.Test.YtndhmahkglfopaaGreatDoorQT13Same
import Derived.Test.YtndhmahkglfopaaGreatDoorQT16DS
import Derived.Test.YtndhmahkglfopaaGreatDoorQT16FK
namespace Go.Proofs.YtndhmahkglfopaaGreatDoor
open Go.RowKit
theorem neq_num (w : World) (a b : Int × Int) (h : a.1 ≠ b.1) : (binOp .neq 34 (vagg (numV a)) (vagg (numV b))).run Tryz.prog w = .ok (.bool true) w := by
  obtain ⟨a1, a2⟩ := a
  obtain ⟨b1, b2⟩ := b
  unfold vagg numV
  simp only at h ⊢
  simp [go_sem, h]
set_option maxHeartbeats 1000000 in
set_option maxRecDepth 100000 in
theorem same_no (m n : Int × Int) (h : m.1 ≠ n.1) (x y : Value) (w : World) (hx : IsArr 0 w x ⟨1, 1, [numV m]⟩) (hy : IsArr 0 w y ⟨1, 1, [numV n]⟩) :
    Calls Tryz.prog 13 #[x, y] w fun e w' => e = .returned (.bool false) ∧ Below w.heap.size w w' := by
  obtain ⟨a, cap, rfl, ha⟩ := hx
  obtain ⟨b, bcap, rfl, hb⟩ := hy
  have nv := fun W => neq_num W m n h
  simp only [vagg_eq] at nv
  have l1 : [numV m].length = 1 := rfl
  have l2 : [numV n].length = 1 := rfl
  have HA : Hid (∀ W, Below w.heap.size w W → ∃ p off, a = some ⟨p, off, none⟩ ∧ p < W.heap.size ∧ W.cell? ⟨p, off, none⟩ = some (.int .i64 (numV m).k) ∧ W.cell? ⟨p, off + 1, none⟩ = some (.int .i64 (numV m).m) ∧ W.cell? ⟨p, off + 2, none⟩ = some (.int .i64 (numV m).e) ∧ W.cell? ⟨p, off + 3, none⟩ = some (.string (numV m).t) ∧ W.cell? ⟨p, off + 4, none⟩ = some (.bool (numV m).b) ∧ W.cell? ⟨p, off + 5, none⟩ = some (.int .i64 (numV m).f)) := fun W hW => by
    have := (ha.below hW).cells (i := 0) rfl
    simpa using this
  have HB : Hid (∀ W, Below w.heap.size w W → ∃ p off, b = some ⟨p, off, none⟩ ∧ p < W.heap.size ∧ W.cell? ⟨p, off, none⟩ = some (.int .i64 (numV n).k) ∧ W.cell? ⟨p, off + 1, none⟩ = some (.int .i64 (numV n).m) ∧ W.cell? ⟨p, off + 2, none⟩ = some (.int .i64 (numV n).e) ∧ W.cell? ⟨p, off + 3, none⟩ = some (.string (numV n).t) ∧ W.cell? ⟨p, off + 4, none⟩ = some (.bool (numV n).b) ∧ W.cell? ⟨p, off + 5, none⟩ = some (.int .i64 (numV n).f)) := fun W hW => by
    have := (hb.below hW).cells (i := 0) rfl
    simpa using this
  rw [l1, l2]
  clear ha hb l1 l2 h
  generalize numV m = u at nv HA
  generalize numV n = v at nv HB
  dsimp only
  go_enter Tryz.func13, Tryz.ntmps13
  go_wp2_with fail
  refine abs_world ?_
  intro W0 hW0
  have hB0 : Below w.heap.size w W0 := by rw [hW0]; (repeat with_reducible (first | exact bw0 _ _ | exact hBW | refine bw1 ?_ ?_ _ | refine bw2 ?_ ?_ _ | refine bw3 ?_ _ | refine bw4 ?_)); all_goals (first | omega | (dsimp only; omega) | ((repeat with_reducible (first | refine lz1 ?_ | refine lz2 ?_ | refine lz3 ?_ | refine lz4 ?_)); omega))
  have g0 : W0.heap[w.heap.size]? = some (.cells #[.int .i64 1, .int .i64 1, .slice a 1 cap] 28) := by rw [hW0]; (repeat (first | (with_reducible refine bw5 ?_ _; (first | rfl | (simp; done) | omega | (simp; omega)); done) | with_reducible refine bw6 ?_ _ | with_reducible refine bw7 ?_ | with_reducible refine bw8 ?_))
  have g1 : W0.heap[w.heap.size + 1]? = some (.cells #[.int .i64 1, .int .i64 1, .slice b 1 bcap] 28) := by rw [hW0]; (repeat (first | (with_reducible refine bw5 ?_ _; (first | rfl | (simp; done) | omega | (simp; omega)); done) | with_reducible refine bw6 ?_ _ | with_reducible refine bw7 ?_ | with_reducible refine bw8 ?_))
  have G0 := Lib.hid g0
  have G1 := Lib.hid g1
  have HB0 := Lib.hid hB0
  have NV := Lib.hid nv
  clear hW0 g0 g1 hB0 nv
  go_loopw [5] (fun i wr => i = .int .i64 0 ∧ Hid (Below W0.heap.size W0 wr)) (fun _ _ => 0)
  case atStart => exact ⟨rfl, Below.refl _ _⟩
  case round =>
    obtain ⟨rfl, hB⟩ := hrel
    have e0 := (hB.out.block w.heap.size (lt_of_heap G0.out)).trans G0.out
    have e1 := (hB.out.block (w.heap.size + 1) (lt_of_heap G1.out)).trans G1.out
    have x2 := cell_of_heap e0 2
    have y2 := cell_of_heap e1 2
    have z0 := lt_of_heap e0
    have z1 := lt_of_heap e1
    have HBw : Hid (Below w.heap.size w wr) := HB0.out.trans (hB.out.mono HB0.out.size)
    clear e0 e1
    obtain ⟨p, off, rfl, hp, c0, c1, c2, c3, c4, c5⟩ := HA.out wr HBw.out
    obtain ⟨q, off', rfl, hq, d0, d1, d2, d3, d4, d5⟩ := HB.out wr HBw.out
    have nv := NV.out
    go_wp2_with fail
    refine wp_region_mix [0, 1, 2, 3, 4, 5, 6, 7, 8, 9, 10] [] [] (Below wr.heap.size wr) (by kernel_rfl) (by kernel_rfl) (Below.refl _ _).drew ?_
    iterate 11 (first | (apply first_step; (rw [List.getElem?_toArray]; (repeat rw [List.getElem?_cons_succ]); rw [List.getElem?_cons_zero]); rfl; (intro W hB; have hc := bcellB hB; go_simp; (first | done | rfl)); go_frame) | (apply first_skip; (rw [List.getElem?_toArray]; (repeat rw [List.getElem?_cons_succ]); rw [List.getElem?_cons_zero]); rfl; go_frame))
    refine first_done ?_
    refine tail_done ?_
    clear c0 c1 c2 c3 c4 c5 d0 d1 d2 d3 d4 d5 nv x2 y2
    go_wp2_with fail
    go_ret
    exact ⟨rfl, HBw.out.drew⟩
/-- Three arrays in a row, in a block just laid. -/
theorem args_three {w : World} {A B C : Arr} {a b c : Option Addr} {ca cb cc : Nat} (ha : SlB 0 w a A.l) (hb : SlB 0 w b B.l) (hc : SlB 0 w c C.l) : ArgsAt 0 (w.alloc (.cells #[.int .i64 A.r, .int .i64 A.c, .slice a A.l.length ca, .int .i64 B.r, .int .i64 B.c, .slice b B.l.length cb, .int .i64 C.r, .int .i64 C.c, .slice c C.l.length cc] 28)) (some ⟨w.heap.size, 0, none⟩) [A, B, C] := fun _ => by
  have hh := heap_alloc_new w (.cells #[.int .i64 A.r, .int .i64 A.c, .slice a A.l.length ca, .int .i64 B.r, .int .i64 B.c, .slice b B.l.length cb, .int .i64 C.r, .int .i64 C.c, .slice c C.l.length cc] 28)
  have hB := below_alloc w (.cells #[.int .i64 A.r, .int .i64 A.c, .slice a A.l.length ca, .int .i64 B.r, .int .i64 B.c, .slice b B.l.length cb, .int .i64 C.r, .int .i64 C.c, .slice c C.l.length cc] 28) _ (Nat.le_refl _)
  refine ⟨w.heap.size, 0, rfl, Nat.zero_le _, by simp, fun i X hX => ?_⟩
  match i, hX with
  | 0, hX =>
    simp at hX
    subst hX
    exact ⟨a, ca, cell_of_heap hh 0, cell_of_heap hh 1, cell_of_heap hh 2, ha.below hB⟩
  | 1, hX =>
    simp at hX
    subst hX
    exact ⟨b, cb, cell_of_heap hh 3, cell_of_heap hh 4, cell_of_heap hh 5, hb.below hB⟩
  | 2, hX =>
    simp at hX
    subst hX
    exact ⟨c, cc, cell_of_heap hh 6, cell_of_heap hh 7, cell_of_heap hh 8, hc.below hB⟩
  | i + 3, hX => simp at hX
/-- The first argument's slice, capacity and all. -/
structure FilC (D : List Int) (b off : Nat) (a : Option Addr) (acap : Nat) (w : World) : Prop where
  lt : b < w.heap.size
  c2 : w.cell? ⟨b, off + 2, none⟩ = some (.slice a D.length acap)
  sl : SlB 0 w a (D.map cntV)
theorem FilC.below {D : List Int} {b off acap : Nat} {a : Option Addr} {w w' : World} (h : FilC D b off a acap w) (hb : Below w.heap.size w w') : FilC D b off a acap w' :=
  ⟨Nat.lt_of_lt_of_le h.lt hb.size, (hb.cell (p := ⟨b, off + 2, none⟩) h.lt).trans h.c2, h.sl.below hb⟩
def sFILTER : ByteArray := ⟨#[70, 73, 76, 84, 69, 82]⟩
theorem ent202 : Ent 202 := enters_of Tryz.func202 (by kernel_rfl) rfl
/-- The mask's array. -/
def maskA (p : Int → Bool) (D : List Int) : Arr := ⟨D.length, 1, D.map fun d => vTruth (p d)⟩
theorem mask_right (p : Int → Bool) {D : List Int} (h1 : 1 ≤ D.length) (h2 : D.length ≤ 40) : ArrR (maskA p D) where
  h1 := by unfold maskA; dsimp only; omega
  h2 := by unfold maskA; dsimp only; omega
  h3 := by unfold maskA; dsimp only; omega
  h4 := by unfold maskA; dsimp only; omega
  h5 := by unfold maskA; dsimp only; omega
  h6 := by simp [maskA]
  h7 := fun v hv => by
    obtain ⟨d, _, rfl⟩ := List.mem_map.1 hv
    exact refR_truth _
/-- FILTER with what is told for none. -/
theorem call_filter3 (p : Int → Bool) (D : List Int) (hD : ∀ d ∈ D, Small d) (h1 : 1 ≤ D.length) (h2 : D.length ≤ 40) (u : V) (hu : refR u = true) (hk : u.k = 2) (R : Arr) (hR1 : D.filter p ≠ [] → R = ⟨(D.filter p).length, 1, (D.filter p).map cntV⟩) (hR0 : D.filter p = [] → R = ⟨1, 1, [u]⟩)
    (b off cap acap : Nat) (a : Option Addr) (hcap : D.length ≤ acap) (w : World) (hs : ArgsAt 0 w (some ⟨b, off, none⟩) [⟨D.length, 1, D.map cntV⟩, maskA p D, ⟨1, 1, [u]⟩]) (hc : FilC D b off a acap w) :
    Calls Tryz.prog 11 #[.string sFILTER, .slice (some ⟨b, off, none⟩) 3 cap] w (ArrPostC (fun c => R.l.length ≤ c) w R) :=
  call11 w sFILTER (some ⟨b, off, none⟩) 3 cap _ fun W hW => lib_4 W sFILTER (some ⟨b, off, none⟩) 3 cap _ (by kernel_rfl) (by kernel_rfl) (by kernel_rfl) (by kernel_rfl) fun W' hW' =>
    have hb := hW.trans (hW'.mono hW.size)
    call94_hit sFILTER 2 3 [⟨D.length, 1, D.map cntV⟩, maskA p D, ⟨1, 1, [u]⟩] (some ⟨b, off, none⟩) cap R W' (C := FilC D b off a acap) (fun _ _ h hb => h.below hb) (fun w w' e h ha hc => by
      obtain ⟨BB, l, he, hm, _, hb, h1', _⟩ := h
      refine ⟨BB, l, 202, #[], he, hm, hb, .inl rfl, h1', ent202, fun W hW => ?_⟩
      have hc2 := hc.below hW
      obtain ⟨b', off', e', _, hlt, hall⟩ := (ha.below hW) (by simp)
      simp only [Option.some.injEq, Addr.mk.injEq, and_true] at e'
      obtain ⟨rfl, rfl⟩ := e'
      obtain ⟨_, _, c0, c1, _, _⟩ := hall 0 _ rfl
      obtain ⟨am, mcap, d0, d1, d2, hsm⟩ := hall 1 _ rfl
      obtain ⟨an, ncap, n0, n1, n2, hsn⟩ := hall 2 _ rfl
      obtain ⟨bb, off2, rfl, _⟩ := hsn.cells (i := 0) rfl
      refine filter_any W p D R h1 (by omega) 3 b off cap acap mcap a am hlt hcap (by simpa using c0) (by simpa using c1) hc2.c2 (by simpa [maskA] using d0) (by simpa [maskA] using d1) (by simpa [maskA] using d2) hc2.sl hsm (by omega) hR1 (fun hf => ⟨rfl, u, bb, off2, ncap, hR0 hf, hk, n0, n1, n2, hsn⟩)) (fun X hX => by
      rcases List.mem_cons.1 hX with rfl | hX
      · exact (col_ok hD h1 h2).ok
      · rcases List.mem_cons.1 hX with rfl | hX
        · exact (mask_right p h1 h2).ok
        · rw [List.mem_singleton.1 hX]; exact (one_right hu).ok) (by simp) (by simp) (by omega) (hs.below hb) (hc.below hb)
/-- FILTER of something. -/
theorem call_filter2 (p : Int → Bool) (D : List Int) (hD : ∀ d ∈ D, Small d) (h1 : 1 ≤ D.length) (h2 : D.length ≤ 40) (hf : D.filter p ≠ [])
    (b off cap acap : Nat) (a : Option Addr) (hcap : D.length ≤ acap) (w : World) (hs : ArgsAt 0 w (some ⟨b, off, none⟩) [⟨D.length, 1, D.map cntV⟩, maskA p D]) (hc : FilC D b off a acap w) :
    Calls Tryz.prog 11 #[.string sFILTER, .slice (some ⟨b, off, none⟩) 2 cap] w (ArrPostC (fun c => (D.filter p).length ≤ c) w ⟨(D.filter p).length, 1, (D.filter p).map cntV⟩) :=
  call11 w sFILTER (some ⟨b, off, none⟩) 2 cap _ fun W hW => lib_4 W sFILTER (some ⟨b, off, none⟩) 2 cap _ (by kernel_rfl) (by kernel_rfl) (by kernel_rfl) (by kernel_rfl) fun W' hW' =>
    have hb := hW.trans (hW'.mono hW.size)
    call94_hit sFILTER 2 3 [⟨D.length, 1, D.map cntV⟩, maskA p D] (some ⟨b, off, none⟩) cap _ W' (C := FilC D b off a acap) (fun _ _ h hb => h.below hb) (fun w w' e h ha hc => by
      obtain ⟨BB, l, he, hm, _, hb, h1', _⟩ := h
      refine ⟨BB, l, 202, #[], he, hm, hb, .inl rfl, h1', ent202, fun W hW => ?_⟩
      have hc2 := hc.below hW
      obtain ⟨b', off', e', _, hlt, hall⟩ := (ha.below hW) (by simp)
      simp only [Option.some.injEq, Addr.mk.injEq, and_true] at e'
      obtain ⟨rfl, rfl⟩ := e'
      obtain ⟨_, _, c0, c1, _, _⟩ := hall 0 _ rfl
      obtain ⟨am, mcap, d0, d1, d2, hsm⟩ := hall 1 _ rfl
      have key := filter_any W p D ⟨(D.filter p).length, 1, (D.filter p).map cntV⟩ h1 (by omega) 2 b off cap acap mcap a am hlt hcap (by simpa using c0) (by simpa using c1) hc2.c2 (by simpa [maskA] using d0) (by simpa [maskA] using d1) (by simpa [maskA] using d2) hc2.sl hsm (by omega) (fun _ => rfl) (fun h => absurd h hf)
      simpa using key) (fun X hX => by
      rcases List.mem_cons.1 hX with rfl | hX
      · exact (col_ok hD h1 h2).ok
      · rw [List.mem_singleton.1 hX]; exact (mask_right p h1 h2).ok) (by simp) (by simp) (by omega) (hs.below hb) (hc.below hb)
/-- An array in a box, its capacity at least n. -/
def BoxC (b : Nat) (A : Arr) (n : Nat) (w : World) : Prop := ∃ a cap, w.heap[b]? = some (.cells #[.int .i64 A.r, .int .i64 A.c, .slice a A.l.length cap] 28) ∧ SlB 0 w a A.l ∧ n ≤ cap
theorem BoxC.below {b : Nat} {A : Arr} {n : Nat} {w w' : World} (h : BoxC b A n w) (hb : Below w.heap.size w w') : BoxC b A n w' := by
  obtain ⟨a, cap, h1, h2, h3⟩ := h
  exact ⟨a, cap, (hb.block _ (lt_of_heap h1)).trans h1, h2.below hb, h3⟩
end Go.Proofs.YtndhmahkglfopaaGreatDoor
/- top's column: an array of whole numbers that stand anywhere in their block. -/
namespace Go.Proofs.YtndhmahkglfopaaGreatDoor
open Go.RowKit
/-- Small whole numbers in memory, from off on. -/
def CO (w : World) (b off : Nat) (D : List Int) : Prop := b < w.heap.size ∧ ∀ (i : Nat) (d : Int), D[i]? = some d → w.cell? ⟨b, off + i, none⟩ = some (.int .i16 d)
theorem CO.below {w w' : World} {b off : Nat} {D : List Int} (h : CO w b off D) (hb : Below w.heap.size w w') : CO w' b off D :=
  ⟨Nat.lt_of_lt_of_le h.1 hb.size, fun i d hd => (hb.cell (p := ⟨b, off + i, none⟩) h.1).trans (h.2 i d hd)⟩
section
variable (w : World)
set_option maxHeartbeats 4000000
set_option maxRecDepth 100000
theorem columnO_any (D : List Int) (hD : ∀ d ∈ D, -32768 ≤ d ∧ d ≤ 32767) (h30 : D.length ≤ 40) (b off cap : Nat) (hC : CO w b off D) : Calls Tryz.prog 6 #[.slice (some ⟨b, off, none⟩) D.length cap] w (ArrPostC (fun c => D.length ≤ c) w ⟨D.length, 1, D.map cntV⟩) := by
  have HD := Lib.hid hD
  have HC := Lib.hid hC
  obtain ⟨L, hL⟩ : ∃ L, L = D.length := ⟨_, rfl⟩
  have EL := Lib.hid hL
  rw [← hL] at h30 ⊢
  obtain ⟨i0, hi, hz0, hz1, hz2⟩ := info_parts info36
  have HI := Lib.hid hi
  have HZ0 := Lib.hid hz0
  have HZ1 := Lib.hid hz1
  have HZ2 := Lib.hid hz2
  clear hD hC hL hi hz0 hz1 hz2
  go_enter Tryz.func6, Tryz.ntmps6
  go_wp2_with fail
  refine abs_world ?_
  intro W0 hW0
  have h6 : W0.heap[w.heap.size]? = some (.cells #[.int .i64 0, .int .i64 0, .slice none 0 0] 28) := by rw [hW0]; (repeat (first | (with_reducible refine bw5 ?_ _; (first | rfl | (simp; done) | omega | (simp; omega)); done) | with_reducible refine bw6 ?_ _ | with_reducible refine bw7 ?_ | with_reducible refine bw8 ?_))
  have h7 : W0.heap[w.heap.size + 1]? = some (.cells #[.int .i64 L, .int .i64 1, .slice none 0 0] 28) := by rw [hW0]; (repeat (first | (with_reducible refine bw5 ?_ _; (first | rfl | (simp; done) | omega | (simp; omega)); done) | with_reducible refine bw6 ?_ _ | with_reducible refine bw7 ?_ | with_reducible refine bw8 ?_))
  have hB0 : Below w.heap.size w W0 := by rw [hW0]; (repeat with_reducible (first | exact bw0 _ _ | exact hBW | refine bw1 ?_ ?_ _ | refine bw2 ?_ ?_ _ | refine bw3 ?_ _ | refine bw4 ?_)); all_goals (first | omega | (dsimp only; omega) | ((repeat with_reducible (first | refine lz1 ?_ | refine lz2 ?_ | refine lz3 ?_ | refine lz4 ?_)); omega))
  have B0 : Hid (BSt W0 (w.heap.size + 1) (w.heap.size + 1) L 1 ((D.take 0).map cntV) W0) := ⟨Below.refl _ _, _, h7, ⟨by simp, Or.inl ⟨rfl, rfl⟩⟩⟩
  have hs0 : w.heap.size + 1 ≤ W0.heap.size := by have := lt_of_heap h6; omega
  have H6 := Lib.hid h6
  have HB0 := Lib.hid hB0
  clear hW0 h6 h7 hB0
  go_loopw [4] (fun x wr => ∃ i : Nat, x = .int .i64 i ∧ i ≤ L ∧ Hid (BSt W0 (w.heap.size + 1) (w.heap.size + 1) L 1 ((D.take i).map cntV) wr)) (fun x _ => L - (intOf x).toNat)
  case atStart => exact ⟨0, rfl, Nat.zero_le _, B0⟩
  case round =>
    clear B0
    obtain ⟨i, rfl, hi, hS⟩ := hrel
    by_cases hlt : i < L
    · obtain ⟨hbw, v, hv, hrow⟩ := hS.out
      have hBw : Hid (Below w.heap.size w wr) := HB0.out.trans (hbw.mono (by omega))
      obtain ⟨d, hd⟩ : ∃ d, D[i]? = some d := ⟨_, List.getElem?_eq_getElem (by rw [← EL.out]; exact hlt)⟩
      have hdd := HD.out d (List.mem_of_getElem? hd)
      have HK := Lib.hid (cnt_any d (by unfold Small; omega))
      have hc2 := (HC.out.below hBw.out).2 i d hd
      have hcb := (HC.out.below hBw.out).1
      have wd : IntKind.i64.wrap d = d := by rw [IntKind.wrap_i64]; omega
      have wi : wrap64 ((i : Int) + 1) = (i : Int) + 1 := IntWalk.wrap64_in _ (by omega)
      have i0' : (0 : Int) ≤ (i : Int) := by omega
      have i1 : (i : Int) < (L : Int) := by omega
      have i2 : decide ((i : Int) < (L : Int)) = true := decide_eq_true i1
      have hlen : ((D.take i).map cntV).length ≤ 4096 := by simp; omega
      have HBW := Lib.hid hbw
      have HV := Lib.hid hv
      have HROW := Lib.hid hrow
      have GS : Hid ((D.take (i + 1)).map cntV = (D.take i).map cntV ++ [cntV d]) := by unfold Hid; rw [List.take_add_one, hd, List.map_append]; rfl
      obtain ⟨sa, scap, rfl⟩ : ∃ sa scap, v = .slice sa ((D.take i).map cntV).length scap := by
        obtain ⟨a, cap, e, _⟩ := own_slb hrow
        exact ⟨a, cap, e⟩
      generalize (D.take i).map cntV = ll at hlen HROW GS HV ⊢
      generalize cntV d = u at HK GS
      have hp := lt_of_heap HV.out
      clear hS hbw hv hrow hd hdd
      go_wp2_with fail
      refine wp_region_mix [0, 1, 2, 3, 4, 5, 6] [7, 8, 9, 10, 11] [9, 10, 11] (fun W => W.heap[w.heap.size + 1]? = some (.cells #[.int .i64 L, .int .i64 1, .slice sa ll.length scap] 28) ∧ W.cell? ⟨b, off + i, none⟩ = some (.int .i16 d)) (by kernel_rfl) (by kernel_rfl) ⟨HV.out, hc2⟩ ?_
      iterate 7 (apply first_step; (rw [List.getElem?_toArray]; (repeat rw [List.getElem?_cons_succ]); rw [List.getElem?_cons_zero]); rfl; (intro W u0; obtain ⟨u0, c0⟩ := u0; have x0 := cell_of_heap u0; have x1 := lt_of_heap u0; clear u0; go_simp; (first | done | rfl)); go_frame)
      refine first_done ?_
      apply tail_step; (rw [List.getElem?_toArray]; (repeat rw [List.getElem?_cons_succ]); rw [List.getElem?_cons_zero]); rfl; rfl; intro K hK; go_simp
      refine (HK.out _).mono ?_
      rintro e' w2 ⟨rfl, hb2⟩
      have hb2' : Below wr.heap.size wr w2 := (Below.refl _ wr).drew.trans hb2
      have hv2 := (hb2'.block _ hp).trans HV.out
      have hcc2 : w2.cell? ⟨b, off + i, none⟩ = some (.int .i16 d) := (hb2'.cell (p := ⟨b, off + i, none⟩) hcb).trans hc2
      refine hK _ _ (fun _ => ⟨hv2, hcc2⟩) ?_
      clear hK K
      have HV2 := Lib.hid hv2
      have HCC := Lib.hid hcc2
      have hcb2 : b < w2.heap.size := Nat.lt_of_lt_of_le hcb hb2'.size
      have HROW2 := Lib.hid (own_of_block HROW.out (fun k _ hk => hb2'.block k hk))
      have HB2 : Hid (Below (w.heap.size + 1) W0 w2) := HBW.out.trans (hb2'.mono (by have := HBW.out.size; omega))
      have hp2 := lt_of_heap hv2
      rw [vagg_eq u]
      clear hb2 hb2' hv2 hc2 hcc2
      apply tail_step; (rw [List.getElem?_toArray]; (repeat rw [List.getElem?_cons_succ]); rw [List.getElem?_cons_zero]); rfl; rfl; intro K hK; go_simp; refine hK _ _ (fun _ => ⟨heap_alloc_old HV2.out _, ?_⟩) ?_
      focus
        have hne : b < w2.heap.size := hcb2
        rw [(below_alloc w2 _ _ (Nat.le_refl _)).cell (p := ⟨b, off + i, none⟩) hne]
        exact HCC.out
      clear hK K
      apply tail_step; (rw [List.getElem?_toArray]; (repeat rw [List.getElem?_cons_succ]); rw [List.getElem?_cons_zero]); rfl; rfl; intro K hK
      refine wp_append_at (.tmp 15) (.tmp 22) 26 rfl (w.heap.size + 1) 34 i0 _ 6 56 Tryz.underlying26 HI.out HZ0.out HZ1.out HZ2.out rfl (by decide) (.slice sa ll.length scap) ll.length (ll.flatMap vcells) rfl (HROW2.out.alloc _) ⟨w2.heap.size, 0, none⟩ 1 1 (vcells u) rfl rfl (fun q x hx => cells_new w2 #[.int .i64 u.k, .int .i64 u.m, .int .i64 u.e, .string u.t, .bool u.b, .int .i64 u.f] 34 q x hx) (by simp [vcells, Value.oneCell']) (by unfold maxLen; omega) (by omega) (by have := HB2.out.size; simp; omega) ?_
      intro v' W5 hown5 hgrow5 hloc5
      obtain ⟨gb, cap5, rfl⟩ := ownsRow_succ hown5
      have hne := row_ne_head (cs := [.int .i64 L, .int .i64 1, .slice sa ll.length scap]) HROW2.out HV2.out
      have hv5 : W5.heap[w.heap.size + 1]? = some (.cells #[.int .i64 L, .int .i64 1, .slice sa ll.length scap] 28) := (hgrow5.block _ (by simp; omega) (fun e => (hne _ e.symm).1 rfl)).trans (heap_alloc_old HV2.out _)
      have hne5 := row_ne_head (cs := [.int .i64 L, .int .i64 1, .slice sa ll.length scap]) hown5 hv5
      refine hK _ _ (fun h => absurd (by decide) h) ?_
      clear hK K
      go_frame
      have hb5 : Below (w.heap.size + 1) W0 W5 := (HB2.out.alloc (by have := HB2.out.size; omega) _).grown hgrow5 (by have := HB2.out.size; simp; omega) (fun k e => (hne k e).2)
      have S6 : Hid (BSt W0 (w.heap.size + 1) (w.heap.size + 1) L 1 (ll ++ [u]) (W5.setCell ⟨w.heap.size + 1, 2, none⟩ (.slice (some ⟨gb, 0, none⟩) (ll.length + 1) cap5))) := by
        refine ⟨hb5.setCell (p := ⟨w.heap.size + 1, 2, none⟩) (Nat.le_refl _) _, _, heap_setCell_at hv5 2 _, ?_⟩
        rw [List.length_append, List.flatMap_append]
        exact own_of_block (by simpa using hown5) (fun k hk _ => Below.heap_setCell _ _ _ _ (hne5 k hk).1)
      have x5 := cell_of_heap hv5
      have y5 := frozen_of_heap hv5
      have hp5 := lt_of_heap hv5
      clear hv5 hne5 hne hb5 hown5 hgrow5 hloc5
      apply tail_step; (rw [List.getElem?_toArray]; (repeat rw [List.getElem?_cons_succ]); rw [List.getElem?_cons_zero]); rfl; rfl; intro K hK; go_simp; refine hK _ _ (fun h => absurd (by decide) h) ?_; clear hK K
      apply tail_step; (rw [List.getElem?_toArray]; (repeat rw [List.getElem?_cons_succ]); rw [List.getElem?_cons_zero]); rfl; rfl; intro K hK; go_simp; refine hK _ _ (fun h => absurd (by decide) h) ?_; clear hK K
      refine tail_done ?_
      clear x5 y5
      go_wp2_with fail
      go_roundw
      case rel => exact ⟨i + 1, by go_num, by omega, by rw [GS.out]; exact S6⟩
      case measure => simp [intOf]; omega
    · have e : i = L := by omega
      rw [e] at hS
      clear e
      have e0 : D.take L = D := List.take_of_length_le (by rw [EL.out]; exact Nat.le_refl _)
      rw [e0] at hS
      obtain ⟨hbw, v, hv, hrow⟩ := hS.out
      obtain ⟨a, cap', rfl, hsl, hcp⟩ := own_slbC hrow
      rw [List.length_map, ← EL.out] at hcp
      have HCP := Lib.hid hcp
      have e6 := (hbw.block w.heap.size (by omega)).trans H6.out
      have x6 := cell_of_heap e6
      have y6 := frozen_of_heap e6
      have z6 := lt_of_heap e6
      have x7 := cell_of_heap hv
      have z7 := lt_of_heap hv
      have HSL := Lib.hid hsl
      have HB : Hid (Below w.heap.size w wr) := HB0.out.trans (hbw.mono (by omega))
      have i1 : ¬ (i : Int) < (L : Int) := by omega
      generalize hG : D.map cntV = G at HSL x7
      have HG := Lib.hid hG
      clear hG
      clear hS hbw hv hrow hsl hcp e6 e0
      go_wp2_with fail
      refine bodyPost_ret (v := .agg #[.int .i64 L, .int .i64 1, .slice a G.length cap']) (by simp [results, Tryz.results6, go_sem, x6]) rfl ?_
      rw [HG.out]
      exact arr_handC (X := fun c => L ≤ c) HCP.out (A := ⟨L, 1, G⟩) (n := 0) (Nat.le_refl _) HSL.out HB.out _ _ _
end
end Go.Proofs.YtndhmahkglfopaaGreatDoor
