/- shape.Right: an array of right values that fits is right. -/
import Derived.Shelf.Abstract
import Derived.Laws.MakeOwn
import Derived.Test.YtndhmahkglfopaaGreatDoorQBase
namespace Go.Proofs.YtndhmahkglfopaaGreatDoor
open Go.RowKit
set_option maxHeartbeats 400000 in
theorem fits_yes (r c : Int) (w : World) (h1 : 1 ≤ r) (h2 : 1 ≤ c) (h3 : r ≤ 4096) (h4 : c ≤ 4096 / r) : Calls Tryz.prog 75 #[.int .i64 r, .int .i64 c] w fun e w' => e = .returned (.bool true) ∧ w = w' := by
  go_enter Tryz.func75, Tryz.ntmps75
  go_wp2
  go_ret
  exact ⟨rfl, rfl⟩
/-- An array that may be. -/
structure ArrOk (A : Arr) : Prop where
  h1 : 1 ≤ A.r
  h2 : 1 ≤ A.c
  h3 : A.r ≤ 4096
  h4 : A.c ≤ 4096 / A.r
  h5 : (A.l.length : Int) = A.r * A.c
  h6 : ∀ v ∈ A.l, RightOk v
theorem ArrOk.mul {A : Arr} (h : ArrOk A) : 1 ≤ A.r * A.c ∧ A.r * A.c ≤ 4096 := by
  have e : A.r * (4096 / A.r) ≤ 4096 := Int.mul_ediv_self_le (by have := h.h1; omega)
  have a : A.r * A.c ≤ A.r * (4096 / A.r) := Int.mul_le_mul_of_nonneg_left h.h4 (by have := h.h1; omega)
  have b : 1 * 1 ≤ A.r * A.c := Int.mul_le_mul h.h1 h.h2 (by omega) (by have := h.h1; omega)
  omega
theorem SlB.cells {B : Nat} {w : World} {a : Option Addr} {l : List V} (h : SlB B w a l) {i : Nat} {v : V} (hv : l[i]? = some v) :
    ∃ b off, a = some ⟨b, off, none⟩ ∧ b < w.heap.size ∧ w.cell? ⟨b, off + i * 6, none⟩ = some (.int .i64 v.k) ∧ w.cell? ⟨b, off + i * 6 + 1, none⟩ = some (.int .i64 v.m) ∧ w.cell? ⟨b, off + i * 6 + 2, none⟩ = some (.int .i64 v.e) ∧ w.cell? ⟨b, off + i * 6 + 3, none⟩ = some (.string v.t) ∧ w.cell? ⟨b, off + i * 6 + 4, none⟩ = some (.bool v.b) ∧ w.cell? ⟨b, off + i * 6 + 5, none⟩ = some (.int .i64 v.f) := by
  have hlt := (List.getElem?_eq_some_iff.1 hv).1
  obtain ⟨b, off, e, _, h2, h3⟩ := h (by omega)
  have := h3 i v hv
  exact ⟨b, off, e, h2, this 0 (by omega), this 1 (by omega), this 2 (by omega), this 3 (by omega), this 4 (by omega), this 5 (by omega)⟩
set_option maxHeartbeats 1000000 in
theorem shapeRight_yes (A : Arr) (hA : ArrOk A) (x : Value) (w : World) (hx : IsArr 0 w x A) : Calls Tryz.prog 39 #[x] w fun e w' => e = .returned (.bool true) ∧ Below w.heap.size w w' := by
  obtain ⟨a, cap, rfl, hsl⟩ := hx
  have hm := hA.mul
  obtain ⟨h1, h2, h3, h4, h5, h6⟩ := hA
  have H5 := Lib.hid h5
  have H6 := Lib.hid h6
  have HSL := Lib.hid hsl
  have n1 : ((A.l.length : Int) != A.r * A.c) = false := by simp [h5]
  have hw1 : IntKind.i64.wrap (A.r * A.c) = A.r * A.c := IntWalk.i64_in _ (by omega)
  have hw2 : wrap64 (A.r * A.c) = A.r * A.c := IntWalk.wrap64_in _ (by omega)
  have hl : A.l.length ≤ 4096 := by omega
  clear h5 h6 hsl
  go_enter Tryz.func39, Tryz.ntmps39
  go_wp2_with fail
  refine (fits_yes A.r A.c _ h1 h2 h3 h4).mono ?_
  rintro e w1 ⟨rfl, rfl⟩
  go_wp2_with fail
  refine abs_world ?_
  intro W0 hW0
  have hB0 : Below w.heap.size w W0 := by rw [hW0]; (repeat with_reducible (first | exact bw0 _ _ | exact hBW | refine bw1 ?_ ?_ _ | refine bw2 ?_ ?_ _ | refine bw3 ?_ _ | refine bw4 ?_)); all_goals (first | omega | (dsimp only; omega) | ((repeat with_reducible (first | refine lz1 ?_ | refine lz2 ?_ | refine lz3 ?_ | refine lz4 ?_)); omega))
  have g0 : W0.heap[w.heap.size]? = some (.cells #[.int .i64 A.r, .int .i64 A.c, .slice a A.l.length cap] 28) := by rw [hW0]; (repeat (first | (with_reducible refine bw5 ?_ _; (first | rfl | (simp; done) | omega | (simp; omega)); done) | with_reducible refine bw6 ?_ _ | with_reducible refine bw7 ?_ | with_reducible refine bw8 ?_))
  have G0 := Lib.hid g0
  have HB0 := Lib.hid hB0
  clear hW0 g0 hB0 hw1 hw2 n1
  go_loopw [24] (fun i wr => ∃ k : Nat, i = .int .i64 k ∧ k ≤ A.l.length ∧ Below W0.heap.size W0 wr) (fun i _ => A.l.length - (intOf i).toNat)
  case atStart => exact ⟨0, rfl, Nat.zero_le _, Below.refl _ _⟩
  case round =>
    obtain ⟨k, rfl, hk, hB⟩ := hrel
    have e0 := (hB.block w.heap.size (lt_of_heap G0.out)).trans G0.out
    have x2 := cell_of_heap e0 2
    have hn : w.heap.size < wr.heap.size := lt_of_heap e0
    have HBw : Hid (Below w.heap.size w wr) := HB0.out.trans (hB.mono HB0.out.size)
    have HB := Lib.hid hB
    clear e0 hB
    by_cases hlt : k < A.l.length
    · obtain ⟨v, hv⟩ : ∃ v, A.l[k]? = some v := ⟨_, List.getElem?_eq_getElem hlt⟩
      obtain ⟨b, off, rfl, hb, c0, c1, c2, c3, c4, c5⟩ := (HSL.out.below HBw.out).cells hv
      have HR := Lib.hid (H6.out v (List.mem_of_getElem? hv) wr)
      clear hv
      unfold vagg at HR
      go_wp2_with fail
      refine HR.out.mono ?_
      rintro e' w2 ⟨rfl, hb2⟩
      have HB2 : Hid (Below W0.heap.size W0 w2) := HB.out.trans (hb2.mono HB.out.size)
      clear hb2 c0 c1 c2 c3 c4 c5 x2 HR
      go_wp2_with fail
      go_roundw
      case rel => exact ⟨k + 1, by go_num, by omega, HB2.out⟩
      case measure => simp [intOf]; omega
    · go_wp2_with fail
      go_ret
      exact ⟨rfl, HBw.out⟩
end Go.Proofs.YtndhmahkglfopaaGreatDoor
/- AND, OR, XOR: the function that truths makes. -/
namespace Go.Proofs.YtndhmahkglfopaaGreatDoor
open Go.RowKit
/-- Capital letters. -/
def upB (c : UInt8) : UInt8 := if 97 ≤ c ∧ c ≤ 122 then c - 97 + 65 else c
def upL (l : List UInt8) : List UInt8 := l.map upB
/-- A slice of arrays in memory. -/
def ArgsAt (B : Nat) (w : World) (a : Option Addr) (l : List Arr) : Prop :=
  0 < l.length → ∃ b off, a = some ⟨b, off, none⟩ ∧ B ≤ b ∧ b < w.heap.size ∧ ∀ i A, l[i]? = some A → ∃ a' cap', w.cell? ⟨b, off + i * 3, none⟩ = some (.int .i64 A.r) ∧ w.cell? ⟨b, off + i * 3 + 1, none⟩ = some (.int .i64 A.c) ∧ w.cell? ⟨b, off + i * 3 + 2, none⟩ = some (.slice a' A.l.length cap') ∧ SlB B w a' A.l
theorem ArgsAt.below {B : Nat} {w w' : World} {a : Option Addr} {l : List Arr} (h : ArgsAt B w a l) (hb : Below w.heap.size w w') : ArgsAt B w' a l := fun h0 => by
  obtain ⟨b, off, e, h1, h2, h3⟩ := h h0
  refine ⟨b, off, e, h1, Nat.lt_of_lt_of_le h2 hb.size, fun i A hA => ?_⟩
  obtain ⟨a', cap', c0, c1, c2, hs⟩ := h3 i A hA
  exact ⟨a', cap', (hb.cell (p := ⟨b, off + i * 3, none⟩) h2).trans c0, (hb.cell (p := ⟨b, off + i * 3 + 1, none⟩) h2).trans c1, (hb.cell (p := ⟨b, off + i * 3 + 2, none⟩) h2).trans c2, hs.below hb⟩
end Go.Proofs.YtndhmahkglfopaaGreatDoor
/- not, sound, kind's function: functions of one value. -/
namespace Go.Proofs.YtndhmahkglfopaaGreatDoor
open Go.RowKit
set_option maxHeartbeats 400000 in
theorem sound_ok (v : V) (hR : RightOk v) (w : World) : Calls Tryz.prog 47 #[vagg v] w fun e w' => e = .returned (vagg v) ∧ Below w.heap.size w w' := by
  have HR := Lib.hid hR
  clear hR
  have hva : vagg v = .agg #[.int .i64 v.k, .int .i64 v.m, .int .i64 v.e, .string v.t, .bool v.b, .int .i64 v.f] := rfl
  have HVA := Lib.hid hva
  rw [hva]
  clear hva
  go_enter Tryz.func47, Tryz.ntmps47
  go_wp2_with fail
  refine (HR.out _).mono ?_
  rintro e' w1 ⟨rfl, hb⟩
  have hs1 : w.heap.size + 2 ≤ w1.heap.size := by have := hb.size; simpa using this
  have g0 : w1.heap[w.heap.size]? = some (.cells #[.int .i64 v.k, .int .i64 v.m, .int .i64 v.e, .string v.t, .bool v.b, .int .i64 v.f] 34) := (hb.block _ (by simp; omega)).trans (by (repeat (first | (with_reducible refine bw5 ?_ _; (first | rfl | (simp; done) | omega | (simp; omega)); done) | with_reducible refine bw6 ?_ _ | with_reducible refine bw7 ?_ | with_reducible refine bw8 ?_)))
  have g1 : w1.heap[w.heap.size + 1]? = some (.cells #[.int .i64 0, .int .i64 0, .int .i64 0, .string ⟨#[]⟩, .bool false, .int .i64 0] 34) := (hb.block _ (by simp)).trans (by (repeat (first | (with_reducible refine bw5 ?_ _; (first | rfl | (simp; done) | omega | (simp; omega)); done) | with_reducible refine bw6 ?_ _ | with_reducible refine bw7 ?_ | with_reducible refine bw8 ?_)))
  have FB : Hid (Below w.heap.size w w1) := by
    refine Below.trans ?_ (hb.mono (by simp; omega))
    (repeat with_reducible (first | exact bw0 _ _ | exact hBW | refine bw1 ?_ ?_ _ | refine bw2 ?_ ?_ _ | refine bw3 ?_ _ | refine bw4 ?_)); all_goals (first | omega | (dsimp only; omega) | ((repeat with_reducible (first | refine lz1 ?_ | refine lz2 ?_ | refine lz3 ?_ | refine lz4 ?_)); omega))
  have x0 := cell_of_heap g0
  have x1 := cell_of_heap g1
  have y1 := frozen_of_heap g1
  have hn0 : w.heap.size < w1.heap.size := by omega
  have hn1 : w.heap.size + 1 < w1.heap.size := by omega
  clear hb g0 g1
  go_wp2_with fail
  have hBW := FB.out
  refine bodyPost_ret (v := .agg #[.int .i64 v.k, .int .i64 v.m, .int .i64 v.e, .string v.t, .bool v.b, .int .i64 v.f]) (by simp [results, Tryz.results47, go_sem, x1]) rfl ⟨rfl, ?_⟩
  (repeat with_reducible (first | exact bw0 _ _ | exact hBW | refine bw1 ?_ ?_ _ | refine bw2 ?_ ?_ _ | refine bw3 ?_ _ | refine bw4 ?_)); all_goals (first | omega | (dsimp only; omega) | ((repeat with_reducible (first | refine lz1 ?_ | refine lz2 ?_ | refine lz3 ?_ | refine lz4 ?_)); omega))
end Go.Proofs.YtndhmahkglfopaaGreatDoor
/- The table of functions: a map from names to how many arguments they take and what they are. -/
namespace Go.Proofs.YtndhmahkglfopaaGreatDoor
open Go.RowKit
theorem string_fits {P : Program} {kt : TypeId} (hk : P.underlying kt = some .string) : KeyFits P kt Value.string where
  inj h := by injection h
  check w em k := MapKept.run_checkKey (k := Value.string k) hk trivial em 9999
  find w k es hes := by
    have hks : ∀ y ∈ es, MapKept.IsKey .string y.key := fun y hy => by obtain ⟨k', h⟩ := hes y hy; rw [h]; trivial
    rcases MapKept.findNow_spec (d := .string) (k := Value.string k) trivial es 0 hks with ⟨h1, h2⟩ | ⟨j, e0, h1, h2, h3⟩
    · exact Or.inl ⟨MapKept.run_findKey hk h1, h2⟩
    · exact Or.inr ⟨j, e0, by simpa using MapKept.run_findKey hk h1, h2, h3⟩
  stays w k := MapKept.run_keyThatStays (d := .string) trivial
def ptrV (b : Nat) : Value := .pointer (some ⟨b, 0, none⟩)
end Go.Proofs.YtndhmahkglfopaaGreatDoor
/- Each: place by place. -/
namespace Go.Proofs.YtndhmahkglfopaaGreatDoor
open Go.RowKit
theorem vagg_eq (v : V) : vagg v = .agg #[.int .i64 v.k, .int .i64 v.m, .int .i64 v.e, .string v.t, .bool v.b, .int .i64 v.f] := rfl
end Go.Proofs.YtndhmahkglfopaaGreatDoor
/- build: an array of what a function tells of each place. -/
namespace Go.Proofs.YtndhmahkglfopaaGreatDoor
open Go.RowKit
def gridRow (U : Nat → Nat → V) (c i : Nat) : List V := (List.range c).map (U i)
def grid (U : Nat → Nat → V) (r c : Nat) : List V := (List.range r).flatMap (gridRow U c)
theorem gridRow_succ (U : Nat → Nat → V) (j i : Nat) : gridRow U (j + 1) i = gridRow U j i ++ [U i j] := by simp [gridRow, List.range_succ]
theorem grid_succ (U : Nat → Nat → V) (i c : Nat) : grid U (i + 1) c = grid U i c ++ gridRow U c i := by simp [grid, List.range_succ, List.flatMap_append]
theorem gridRow_len (U : Nat → Nat → V) (c i : Nat) : (gridRow U c i).length = c := by simp [gridRow]
theorem grid_len (U : Nat → Nat → V) (r c : Nat) : (grid U r c).length = r * c := by
  induction r with
  | zero => simp [grid]
  | succ r ih => rw [grid_succ, List.length_append, ih, gridRow_len, Nat.succ_mul]
/-- A function value makes u of a place, from the world w on. -/
def BvOk (w : World) (g : Nat) (cp : Array Value) (i j : Nat) (u : V) : Prop := ∀ W, Below w.heap.size w W → Calls Tryz.prog g (#[.int .i64 i, .int .i64 j] ++ cp) W fun e w' => e = .returned (vagg u) ∧ Below W.heap.size W w'
theorem info36 : (Tryz.prog.info? 34).map (fun i => (i.zero, i.size, i.bytes)) = some (some (vagg vBlank), 6, 56) := by kernel_rfl
theorem vcells_get (l : List V) (n i : Nat) (v : V) (h : l[n]? = some v) (hi : i < 6) : (l.flatMap vcells)[n * 6 + i]? = (vcells v)[i]? := by
  induction l generalizing n with
  | nil => simp at h
  | cons a r ih =>
    rw [List.flatMap_cons]
    have ha : (vcells a).length = 6 := rfl
    cases n with
    | zero =>
      simp at h
      subst h
      rw [List.getElem?_append_left (by omega)]
      simp
    | succ m =>
      simp only [List.getElem?_cons_succ] at h
      rw [List.getElem?_append_right (by omega), ← ih m h, ha]
      congr 1
      omega
theorem own_slb {w : World} {B : Nat} {v : Value} {l : List V} (h : w.ownsRow B 34 6 v l.length (l.flatMap vcells)) : ∃ a cap, v = .slice a l.length cap ∧ SlB B w a l := by
  rcases h.2 with ⟨e, h0⟩ | ⟨gb, cap, cur, hs, hB, hh, hn, _, hsz, ht⟩
  · exact ⟨none, 0, by rw [e, h0], fun h => by omega⟩
  · refine ⟨_, cap, hs, fun _ => ⟨gb, 0, rfl, hB, lt_of_heap hh, fun i u hu j hj => ?_⟩⟩
    have hlt : i < l.length := (List.getElem?_eq_some_iff.1 hu).1
    rw [cell_of_heap hh, ← vcells_get l i j u hu hj, ← ht, List.getElem?_take_of_lt (by omega)]
    simp
theorem own_of_block {w w' : World} {base : Nat} {e : TypeId} {size : Nat} {v : Value} {n : Nat} {xs : List Value} (h : w.ownsRow base e size v n xs) (hb : ∀ k, v.ownBlock = some k → k < w.heap.size → w'.heap[k]? = w.heap[k]?) : w'.ownsRow base e size v n xs := by
  obtain ⟨h1, h2⟩ := h
  refine ⟨h1, ?_⟩
  rcases h2 with h2 | ⟨g, cap, cur, hv, hg, hh, r⟩
  · exact Or.inl h2
  · exact Or.inr ⟨g, cap, cur, hv, hg, by rw [hb g (by rw [hv]; rfl) (lt_of_heap hh)]; exact hh, r⟩
theorem row_ne_head {w : World} {B p : Nat} {v : Value} {n : Nat} {xs cs : List Value} (h : w.ownsRow B 34 6 v n xs) (hp : w.heap[p]? = some (.cells cs.toArray 28)) : ∀ k, v.ownBlock = some k → k ≠ p ∧ B ≤ k := fun k hk => by
  rcases h.2 with ⟨e, _⟩ | ⟨g, cap, cur, hv, hg, hh, _⟩
  · rw [e] at hk; cases hk
  · rw [hv] at hk
    simp [Value.ownBlock] at hk
    subst hk
    exact ⟨fun e => by rw [e, hp] at hh; simp at hh, hg⟩
/-- The array under way: block p, whose slice owns a row from block B on. -/
def BSt (W0 : World) (B p : Nat) (r c : Int) (l : List V) (W : World) : Prop :=
  Below B W0 W ∧ ∃ v, W.heap[p]? = some (.cells #[.int .i64 r, .int .i64 c, v] 28) ∧ W.ownsRow B 34 6 v l.length (l.flatMap vcells)
set_option maxHeartbeats 1000000 in
set_option maxRecDepth 100000 in
theorem build_any {g : Nat} {cp : Array Value} (hE : ∀ args W, (callFunc g args).run Tryz.prog W = .ok (.enter g args) W) (U : Nat → Nat → V) (r c : Nat) (h1 : 1 ≤ r) (h2 : 1 ≤ c) (h3 : r ≤ 4096) (h4 : c ≤ 4096) (h5 : r * c ≤ 4096) (w : World)
    (hU : ∀ i j, i < r → j < c → BvOk w g cp i j (U i j)) :
    Calls Tryz.prog 43 #[.int .i64 r, .int .i64 c, .func (.func g) #[] cp] w (ArrPost w ⟨r, c, grid U r c⟩) := by
  have HU := Lib.hid hU
  have HE := Lib.hid hE
  have wm1 : wrap64 ((r : Int) * (c : Int)) = (r : Int) * (c : Int) := IntWalk.wrap64_in _ (by rw [← Int.natCast_mul]; omega)
  obtain ⟨i0, hi, hz0, hz1, hz2⟩ := info_parts info36
  obtain ⟨wm, hmk, hown0, hgr0⟩ := run_make_own (P := Tryz.prog) (w.alloc (.cells #[.int .i64 0, .int .i64 0, .slice none 0 0] 28)) (w.heap.size + 1) 26 34 i0 _ 6 Tryz.underlying26 hi hz0 hz1 .i64 .i64 (r * c) (by rw [hz2]; omega) (by unfold maxLen; omega) (by simp)
  rw [Int.natCast_mul] at hmk
  rw [World.size_alloc] at hown0 hmk
  have HI := Lib.hid hi
  have HZ0 := Lib.hid hz0
  have HZ1 := Lib.hid hz1
  have HZ2 := Lib.hid hz2
  have HOWN := Lib.hid hown0
  have HGR := Lib.hid hgr0
  clear hU hE hi hz0 hz1 hz2 hown0 hgr0
  go_enter Tryz.func43, Tryz.ntmps43
  go_wp2_with fail
  clear hmk wm1
  refine abs_world ?_
  intro W0 hW0
  have hsm : w.heap.size + 1 ≤ wm.heap.size := by have := HGR.out.size; simpa using this
  have h6 : W0.heap[w.heap.size]? = some (.cells #[.int .i64 0, .int .i64 0, .slice none 0 0] 28) := by
    rw [hW0]
    exact heap_alloc_old ((HGR.out.block w.heap.size (by simp) (by simp)).trans (heap_alloc_new w _)) _
  have h7 : W0.heap[wm.heap.size]? = some (.cells #[.int .i64 r, .int .i64 c, .slice (some ⟨w.heap.size + 1, 0, none⟩) 0 (r * c)] 28) := by rw [hW0]; (repeat (first | (with_reducible refine bw5 ?_ _; (first | rfl | (simp; done) | omega | (simp; omega)); done) | with_reducible refine bw6 ?_ _ | with_reducible refine bw7 ?_ | with_reducible refine bw8 ?_))
  have hB0 : Below w.heap.size w W0 := by
    rw [hW0]
    exact ((below_alloc w _ _ (Nat.le_refl _)).grown HGR.out (by simp) (fun k e => by cases e)).alloc (by omega) _
  have hs0 : w.heap.size + 1 ≤ W0.heap.size := by have := lt_of_heap h6; omega
  have B0 : Hid (BSt W0 (w.heap.size + 1) wm.heap.size r c (grid U 0 c) W0) := ⟨Below.refl _ _, _, h7, by
    rw [hW0]
    exact HOWN.out.alloc _⟩
  have H6 := Lib.hid h6
  have HB0 := Lib.hid hB0
  clear hW0 h6 h7 hB0 HOWN HGR
  go_loopw [18] (fun x wr => ∃ i : Nat, x = .int .i64 i ∧ i ≤ r ∧ Hid (BSt W0 (w.heap.size + 1) wm.heap.size r c (grid U i c) wr)) (fun x _ => r - (intOf x).toNat)
  case atStart => exact ⟨0, rfl, Nat.zero_le _, B0⟩
  case round =>
    obtain ⟨i, rfl, hi, hS⟩ := hrel
    by_cases hlt : i < r
    · have S1 : Hid (BSt W0 (w.heap.size + 1) wm.heap.size r c (grid U i c ++ gridRow U 0 i) wr) := by simpa [gridRow] using hS
      clear hS
      go_wp2_with fail
      go_loopw [22] (fun x wr => ∃ j : Nat, x = .int .i64 j ∧ j ≤ c ∧ Hid (BSt W0 (w.heap.size + 1) wm.heap.size r c (grid U i c ++ gridRow U j i) wr)) (fun x _ => c - (intOf x).toNat)
      case atStart => exact ⟨0, rfl, Nat.zero_le _, S1⟩
      case round =>
        clear S1
        obtain ⟨j, rfl, hj, hS⟩ := hrel
        by_cases hjt : j < c
        · obtain ⟨hbw, v, hv, hrow⟩ := hS.out
          have hBw : Hid (Below w.heap.size w wr) := HB0.out.trans (hbw.mono (by omega))
          have HC := Lib.hid (HU.out i j hlt hjt)
          have hlen : (grid U i c ++ gridRow U j i).length ≤ 4096 := by
            rw [List.length_append, grid_len, gridRow_len]
            have : i * c + c ≤ r * c := by rw [← Nat.succ_mul]; exact Nat.mul_le_mul_right c hlt
            omega
          have HBW := Lib.hid hbw
          have HV := Lib.hid hv
          have HROW := Lib.hid hrow
          have GS : Hid (grid U i c ++ gridRow U (j + 1) i = (grid U i c ++ gridRow U j i) ++ [U i j]) := by unfold Hid; rw [gridRow_succ, List.append_assoc]
          obtain ⟨sa, scap, rfl⟩ : ∃ sa scap, v = .slice sa (grid U i c ++ gridRow U j i).length scap := by
            obtain ⟨a, cap, e, _⟩ := own_slb hrow
            exact ⟨a, cap, e⟩
          generalize grid U i c ++ gridRow U j i = ll at hlen HROW GS HV ⊢
          generalize U i j = u at HC GS
          have hc2 := cell_of_heap HV.out 2
          have hp := lt_of_heap HV.out
          clear hS hbw hv hrow
          go_wp2_with fail
          refine wp_region_mix [0, 1, 2, 3, 4] [5, 6, 7, 8, 9] [7, 8, 9] (fun W => W.heap[wm.heap.size]? = some (.cells #[.int .i64 r, .int .i64 c, .slice sa ll.length scap] 28)) (by kernel_rfl) (by kernel_rfl) HV.out ?_
          iterate 5 (apply first_step; (rw [List.getElem?_toArray]; (repeat rw [List.getElem?_cons_succ]); rw [List.getElem?_cons_zero]); rfl; (intro W u0; have x0 := cell_of_heap u0; have x1 := lt_of_heap u0; clear u0; go_simp; (first | done | rfl)); go_frame)
          refine first_done ?_
          have ent := HE.out
          apply tail_step; (rw [List.getElem?_toArray]; (repeat rw [List.getElem?_cons_succ]); rw [List.getElem?_cons_zero]); rfl; rfl; intro K hK; go_simp
          clear ent
          refine (HC.out _ hBw.out.drew).mono ?_
          rintro e' w2 ⟨rfl, hb2⟩
          have hb2' : Below wr.heap.size wr w2 := (Below.refl _ wr).drew.trans hb2
          have hv2 := (hb2'.block _ hp).trans HV.out
          refine hK _ _ (fun _ => hv2) ?_
          clear hK K
          have HV2 := Lib.hid hv2
          have HROW2 := Lib.hid (own_of_block HROW.out (fun k _ hk => hb2'.block k hk))
          have HB2 : Hid (Below (w.heap.size + 1) W0 w2) := HBW.out.trans (hb2'.mono (by have := HBW.out.size; omega))
          have hp2 := lt_of_heap hv2
          rw [vagg_eq u]
          clear hb2 hb2' hv2 hc2
          apply tail_step; (rw [List.getElem?_toArray]; (repeat rw [List.getElem?_cons_succ]); rw [List.getElem?_cons_zero]); rfl; rfl; intro K hK; go_simp; refine hK _ _ (fun _ => heap_alloc_old HV2.out _) ?_; clear hK K
          apply tail_step; (rw [List.getElem?_toArray]; (repeat rw [List.getElem?_cons_succ]); rw [List.getElem?_cons_zero]); rfl; rfl; intro K hK
          refine wp_append_at (.tmp 26) (.tmp 31) 26 rfl (w.heap.size + 1) 34 i0 _ 6 56 Tryz.underlying26 HI.out HZ0.out HZ1.out HZ2.out rfl (by decide) (.slice sa ll.length scap) ll.length (ll.flatMap vcells) rfl (HROW2.out.alloc _) ⟨w2.heap.size, 0, none⟩ 1 1 (vcells u) rfl rfl (fun q x hx => cells_new w2 #[.int .i64 u.k, .int .i64 u.m, .int .i64 u.e, .string u.t, .bool u.b, .int .i64 u.f] 34 q x hx) (by simp [vcells, Value.oneCell']) (by unfold maxLen; omega) (by omega) (by have := HB2.out.size; simp; omega) ?_
          intro v' W5 hown5 hgrow5 hloc5
          obtain ⟨gb, cap5, rfl⟩ := ownsRow_succ hown5
          have hne := row_ne_head (cs := [.int .i64 r, .int .i64 c, .slice sa ll.length scap]) HROW2.out HV2.out
          have hv5 : W5.heap[wm.heap.size]? = some (.cells #[.int .i64 r, .int .i64 c, .slice sa ll.length scap] 28) := (hgrow5.block _ (by simp; omega) (fun e => (hne _ e.symm).1 rfl)).trans (heap_alloc_old HV2.out _)
          have hne5 := row_ne_head (cs := [.int .i64 r, .int .i64 c, .slice sa ll.length scap]) hown5 hv5
          refine hK _ _ (fun h => absurd (by decide) h) ?_
          clear hK K
          go_frame
          have hb5 : Below (w.heap.size + 1) W0 W5 := (HB2.out.alloc (by have := HB2.out.size; omega) _).grown hgrow5 (by have := HB2.out.size; simp; omega) (fun k e => (hne k e).2)
          have S6 : Hid (BSt W0 (w.heap.size + 1) wm.heap.size r c (ll ++ [u]) (W5.setCell ⟨wm.heap.size, 2, none⟩ (.slice (some ⟨gb, 0, none⟩) (ll.length + 1) cap5))) := by
            refine ⟨hb5.setCell (p := ⟨wm.heap.size, 2, none⟩) hsm _, _, heap_setCell_at hv5 2 _, ?_⟩
            rw [List.length_append, List.flatMap_append]
            exact own_of_block (by simpa using hown5) (fun k hk _ => Below.heap_setCell _ _ _ _ (hne5 k hk).1)
          have x5 := cell_of_heap hv5
          have y5 := frozen_of_heap hv5
          have hp5 := lt_of_heap hv5
          clear hv5 hne5 hne hb5 hown5 hgrow5 hloc5
          apply tail_step; (rw [List.getElem?_toArray]; (repeat rw [List.getElem?_cons_succ]); rw [List.getElem?_cons_zero]); rfl; rfl; intro K hK; go_simp; refine hK _ _ (fun h => absurd (by decide) h) ?_; clear hK K
          apply tail_step; (rw [List.getElem?_toArray]; (repeat rw [List.getElem?_cons_succ]); rw [List.getElem?_cons_zero]); rfl; rfl; intro K hK; go_simp; refine hK _ _ (fun h => absurd (by decide) h) ?_; clear hK K
          refine tail_done ?_
          clear x5 y5
          go_wp2_with fail
          go_roundw
          case rel => exact ⟨j + 1, by go_num, by omega, by rw [GS.out]; exact S6⟩
          case measure => simp [intOf]; omega
        · have S2 : Hid (BSt W0 (w.heap.size + 1) wm.heap.size r c (grid U (i + 1) c) wr) := by
            rw [grid_succ]
            have e : j = c := by omega
            rw [e] at hS
            exact hS
          clear hS
          go_wp2_with fail
          go_roundw
          case rel => exact ⟨i + 1, by go_num, by omega, S2⟩
          case measure => simp [intOf]; omega
    · have e : i = r := by omega
      rw [e] at hS
      clear e
      obtain ⟨hbw, v, hv, hrow⟩ := hS.out
      obtain ⟨a, cap, rfl, hsl⟩ := own_slb hrow
      have e6 := (hbw.block w.heap.size (by omega)).trans H6.out
      have x6 := cell_of_heap e6
      have y6 := frozen_of_heap e6
      have z6 := lt_of_heap e6
      have x7 := cell_of_heap hv
      have z7 := lt_of_heap hv
      have HSL := Lib.hid hsl
      have HB : Hid (Below w.heap.size w wr) := HB0.out.trans (hbw.mono (by omega))
      have hne : wm.heap.size ≠ w.heap.size := by omega
      clear hS hbw hv hrow hsl e6
      go_wp2_with fail
      refine bodyPost_ret (v := .agg #[.int .i64 r, .int .i64 c, .slice a (grid U r c).length cap]) (by simp [results, Tryz.results43, go_sem, x6]) rfl ?_
      exact arr_hand (A := ⟨r, c, grid U r c⟩) (n := 0) (Nat.le_refl _) HSL.out HB.out _ _ _
end Go.Proofs.YtndhmahkglfopaaGreatDoor
