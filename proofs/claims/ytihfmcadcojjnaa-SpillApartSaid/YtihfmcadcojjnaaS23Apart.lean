/- SpillApart: for every two bytes and every slice of acts. -/
import Derived.Test.YtihfmcadcojjnaaS23Iter
import Derived.Test.YtihfmcadcojjnaaRangeBox2
import Derived.Maps.AppendAt
namespace Go.Proofs.Ytihfmcadcojjnaa
open Go.RowKit Go.Shelf
attribute [local go_sem] Oper.semAt_some
def c4 (q : R4) : List Value := [.int .i64 q.1, .int .i64 q.2.1, .int .i64 q.2.2.1, .int .i64 q.2.2.2]
theorem c4_get (l : List R4) (n i : Nat) (v : R4) (h : l[n]? = some v) (hi : i < 4) : (l.flatMap c4)[n * 4 + i]? = (c4 v)[i]? := by
  induction l generalizing n with
  | nil => simp at h
  | cons a r ih =>
    rw [List.flatMap_cons]
    have ha : (c4 a).length = 4 := rfl
    cases n with
    | zero =>
      simp at h
      subst h
      rw [List.getElem?_append_left (by omega)]
      simp
    | succ m =>
      simp only [List.getElem?_cons_succ] at h
      rw [List.getElem?_append_right (by omega), ← ih m h, ha]
      congr 1
      omega
/-- The rects that stand, of those that have come. -/
def stR {g : G} (pre : List (VIn g)) : List R4 := (pre.filter fun x => x.1.st).map fun x => x.1.q
theorem stR_len {g : G} (pre : List (VIn g)) : (stR pre).length ≤ pre.length := by
  unfold stR
  rw [List.length_map]
  exact List.length_filter_le _ _
theorem stR_no {g : G} (pre : List (VIn g)) (x : VIn g) (h : x.1.st = false) : stR (pre ++ [x]) = stR pre := by simp [stR, h]
theorem stR_yes {g : G} (pre : List (VIn g)) (x : VIn g) (h : x.1.st = true) : stR (pre ++ [x]) = stR pre ++ [x.1.q] := by simp [stR, h]
def Meets (a b : R4) : Prop := a.1 < b.1 + b.2.2.1 ∧ b.1 < a.1 + a.2.2.1 ∧ a.2.1 < b.2.1 + b.2.2.2 ∧ b.2.1 < a.2.1 + a.2.2.2
/-- The last one stands and meets an earlier one that stands. -/
def Clash {g : G} (l : List (VIn g)) : Prop := ∃ pre x, l = pre ++ [x] ∧ x.1.st = true ∧ ∃ o ∈ stR pre, Meets x.1.q o
theorem no_clash {g : G} (h : BInv g) {l : List (VIn g)} (hp : l <+: allV g) : ¬ Clash l := by
  rintro ⟨pre, x, rfl, hx, o, ho, hm⟩
  unfold stR at ho
  obtain ⟨y, hy, rfl⟩ := List.mem_map.1 ho
  obtain ⟨hy1, hy2⟩ := List.mem_filter.1 hy
  obtain ⟨j, hj⟩ := List.mem_iff_getElem?.1 hy1
  have hjl : j < pre.length := (List.getElem?_eq_some_iff.1 hj).1
  obtain ⟨suf, hs⟩ := hp
  have hat : ∀ (i : Nat) (z : VIn g), (pre ++ [x])[i]? = some z → g.L[i]? = some z.1 := fun i z hz => by
    have h1 : (allV g)[i]? = some z := by
      rw [← hs, List.getElem?_append_left (List.getElem?_eq_some_iff.1 hz).1]
      exact hz
    have := congrArg (Option.map Subtype.val) h1
    rw [← List.getElem?_map] at this
    simpa [allV] using this
  have e1 := hat pre.length x (by simp)
  have e2 := hat j y (by rw [List.getElem?_append_left hjl]; exact hj)
  have := apart_at h e1 e2 hx (by simpa using hy2) hm
  omega
theorem info38 : (Try.prog.info? 38).map (fun i => (i.zero, i.size, i.bytes)) = some (some (.agg #[.int .i64 0, .int .i64 0, .int .i64 0, .int .i64 0]), 4, 32) := by kernel_rfl
def ApI (g : G) (z : Nat) (W0 : World) (pre : List (VIn g)) (W : World) : Prop :=
  (∃ v, Boxed W (z + 1) 50 v ∧ W.ownsRow (z + 1) 38 4 v (stR pre).length ((stR pre).flatMap c4) ∧ True) ∧ Below (z + 1) W0 W
def ApE (z : Nat) (Bx : Nat) (W : World) : Prop := ∃ v, Boxed W (z + 1) 50 v ∧ v.ownBlock ≠ some Bx
theorem boxed_one {W : World} {B : Nat} {t : TypeId} {v v' : Value} (h : Boxed W B t v) (h' : Boxed W B t v') : v = v' := by
  unfold Boxed at h h'
  rw [h] at h'
  simpa using h'
theorem row_at {W : World} {base : Nat} {v : Value} {l : List R4} (h : W.ownsRow base 38 4 v l.length (l.flatMap c4)) {n : Nat} {x : R4} (hx : l[n]? = some x) :
    ∃ gb cap, v = .slice (some ⟨gb, 0, none⟩) l.length cap ∧ gb < W.heap.size ∧ ∀ i, i < 4 → W.cell? ⟨gb, n * 4 + i, none⟩ = (c4 x)[i]? := by
  have hlt : n < l.length := (List.getElem?_eq_some_iff.1 hx).1
  rcases h.2 with ⟨_, h0⟩ | ⟨gb, cap, cur, hs, _, hh, hn, _, hsz, ht⟩
  · omega
  · refine ⟨gb, cap, hs, lt_of_heap hh, fun i hi => ?_⟩
    rw [cell_of_heap hh, ← c4_get l n i x hx hi, ← ht, List.getElem?_take_of_lt (by omega)]
    simp
theorem row_lt {W : World} {base : Nat} {v : Value} {n : Nat} {xs : List Value} (h : W.ownsRow base 38 4 v n xs) {k : Nat} (hk : v.ownBlock = some k) : k < W.heap.size := by
  rcases h.2 with ⟨e, _⟩ | ⟨gb, cap, cur, hs, _, hh, _⟩
  · rw [e] at hk; cases hk
  · rw [hs] at hk; simp [Value.ownBlock] at hk; rw [← hk]; exact lt_of_heap hh
theorem ownE (z B : Nat) (Bx : Nat) : OwnFrom B (fun (_ : Unit) W => ApE z Bx W) := fun s X Y row hs hg hr => by
  obtain ⟨v, h1, h2⟩ := hs
  exact ⟨v, boxed_own (z + 1) 50 (fun (_ : Unit) => v) () X Y row h1 hg (fun r e => (hr r e).2), h2⟩
set_option maxHeartbeats 2000000 in
set_option maxRecDepth 100000 in
theorem apart_main (a b : Int) (aa : Option Addr) (acap : Nat) (q : List Ac) (w : World) (q1 : 0 ≤ a) (q2 : a ≤ 255) (q3 : 0 ≤ b) (q4 : b ≤ 255) (hq : q.length ≤ 60) (hA : ActsAt w aa q) :
    Calls Try.prog 7 #[.int .u8 a, .int .u8 b, .slice aa q.length acap] w fun e w' => e = .returned (.bool true) ∧ Below w.heap.size w w' := by
  have HA := Lib.hid hA
  clear hA
  refine (callsIn_wide (n := 8)).1 ?_
  refine callsIn_of_wp_marks Try.func7 rfl trivial ?_ rfl
  simp only [Try.ntmps7, List.size_toArray, List.length_cons, List.length_nil, Nat.reduceAdd, Nat.reduceSub, Array.replicate_succ, Array.replicate_zero, List.push_toArray, List.append_toArray, List.nil_append, List.cons_append]
  refine wpIn_wide.2 ?_
  go_wp2_with fail
  refine (awake_any _).mono ?_
  rintro e w1 ⟨rfl, hb⟩
  have hs1 : w.heap.size + 3 ≤ w1.heap.size := by have := hb.size; simpa using this
  have g0 : w1.heap[w.heap.size]? = some (.cells #[.int .u8 a] 5) := (hb.block _ (by simp; omega)).trans (by (repeat (first | (with_reducible refine heap_alloc_at ?_ _; (first | rfl | (simp; done) | omega | (simp; omega)); done) | with_reducible refine heap_alloc_old ?_ _ | with_reducible refine heap_drew_old ?_ | with_reducible refine heap_drewN_old ?_)))
  have g1 : w1.heap[w.heap.size + 1]? = some (.cells #[.int .u8 b] 5) := (hb.block _ (by simp)).trans (by (repeat (first | (with_reducible refine heap_alloc_at ?_ _; (first | rfl | (simp; done) | omega | (simp; omega)); done) | with_reducible refine heap_alloc_old ?_ _ | with_reducible refine heap_drew_old ?_ | with_reducible refine heap_drewN_old ?_)))
  have g2 : w1.heap[w.heap.size + 1 + 1]? = some (.cells #[.bool false] 4) := (hb.block _ (by simp)).trans (by (repeat (first | (with_reducible refine heap_alloc_at ?_ _; (first | rfl | (simp; done) | omega | (simp; omega)); done) | with_reducible refine heap_alloc_old ?_ _ | with_reducible refine heap_drew_old ?_ | with_reducible refine heap_drewN_old ?_)))
  have hBW : Below w.heap.size w w1 := by
    refine Below.trans ?_ (hb.mono (by simp; omega))
    (repeat (first | with_reducible exact Below.refl _ _ | with_reducible exact hBW | with_reducible refine Below.setCell ?_ ?_ _ | with_reducible refine Below.alloc ?_ ?_ _ | with_reducible refine belowN ?_ _ | with_reducible refine Below.drew ?_)); all_goals (first | omega | (dsimp only; omega) | ((repeat (first | with_reducible refine le_alloc ?_ | with_reducible refine le_setCell ?_ | with_reducible refine le_drew ?_ | with_reducible refine le_drewN ?_)); omega))
  have FB := Lib.hid hBW
  have ha1 : ActsAt w1 aa q := fun h => by
    obtain ⟨b', off, h1, h2, h3⟩ := HA.out h
    refine ⟨b', off, h1, Nat.lt_of_lt_of_le h2 hBW.size, fun k x hx => ?_⟩
    obtain ⟨e0, e1, e2, e3, e4⟩ := h3 k x hx
    exact ⟨(hBW.cell (p := ⟨b', off + k * 5, none⟩) h2).trans e0, (hBW.cell (p := ⟨b', off + k * 5 + 1, none⟩) h2).trans e1, (hBW.cell (p := ⟨b', off + k * 5 + 2, none⟩) h2).trans e2, (hBW.cell (p := ⟨b', off + k * 5 + 3, none⟩) h2).trans e3, (hBW.cell (p := ⟨b', off + k * 5 + 4, none⟩) h2).trans e4⟩
  have HA1 := Lib.hid ha1
  clear hb hBW ha1 HA
  have x0 := cell_of_heap g0 0
  have x1 := cell_of_heap g1 0
  have y0 : w.heap.size < w1.heap.size := by omega
  have y1 : w.heap.size + 1 < w1.heap.size := by omega
  have y2 : w.heap.size + 1 + 1 < w1.heap.size := by omega
  have G0 := Lib.hid g0
  have G1 := Lib.hid g1
  have G2 := Lib.hid g2
  clear g0 g1 g2
  go_wp2_with fail
  refine (play_any a b aa acap q w1 q1 q2 q3 q4 hq HA1.out).mono ?_
  rintro e w2 ⟨rfl, b2, f2⟩
  generalize hR : a % 12 = R0 at b2
  generalize hC : b % 12 = C0 at b2
  obtain ⟨g, hg⟩ : ∃ g, g = actAll (gNew R0 C0) q := ⟨_, rfl⟩
  rw [← hg] at b2
  clear x0 x1
  go_wp2_with fail
  refine (rects_any _ _).mono ?_
  rintro e w3 ⟨rfl, rfl⟩
  go_wp2_with fail
  refine (wpIn_wide (n := 8)).1 ?_
  obtain ⟨W0, hW0⟩ : ∃ W0, ((w2.alloc (.cells #[.pointer (some ⟨w1.heap.size + 3, 0, none⟩)] 26)).alloc (.cells #[.slice none 0 0] 50)).alloc (.cells #[.pointer (some ⟨w1.heap.size + 3, 0, none⟩)] 26) = W0 := ⟨_, rfl⟩
  rw [hW0]
  have hz0 : W0.heap.size = w2.heap.size + 3 := by rw [← hW0]; simp
  have hb20 : Below w2.heap.size w2 W0 := by rw [← hW0]; exact (((Below.refl _ w2).alloc (Nat.le_refl _) _).alloc (by simp) _).alloc (by simp; omega) _
  have e1 : W0.heap[w2.heap.size]? = some (.cells #[.pointer (some ⟨w1.heap.size + 3, 0, none⟩)] 26) := by rw [← hW0]; (repeat (first | (with_reducible refine heap_alloc_at ?_ _; (first | rfl | (simp; done) | omega | (simp; omega)); done) | with_reducible refine heap_alloc_old ?_ _ | with_reducible refine heap_drew_old ?_ | with_reducible refine heap_drewN_old ?_))
  have e2 : W0.heap[w2.heap.size + 1]? = some (.cells #[.slice none 0 0] 50) := by rw [← hW0]; (repeat (first | (with_reducible refine heap_alloc_at ?_ _; (first | rfl | (simp; done) | omega | (simp; omega)); done) | with_reducible refine heap_alloc_old ?_ _ | with_reducible refine heap_drew_old ?_ | with_reducible refine heap_drewN_old ?_))
  have e3 : W0.heap[w2.heap.size + 1 + 1]? = some (.cells #[.pointer (some ⟨w1.heap.size + 3, 0, none⟩)] 26) := by rw [← hW0]; (repeat (first | (with_reducible refine heap_alloc_at ?_ _; (first | rfl | (simp; done) | omega | (simp; omega)); done) | with_reducible refine heap_alloc_old ?_ _ | with_reducible refine heap_drew_old ?_ | with_reducible refine heap_drewN_old ?_))
  clear hW0
  have OB2 := Lib.hid b2
  obtain ⟨_, _, S, hS1, _⟩ := b2
  have hSlt : ∀ k, S k → k < w2.heap.size + 1 := fun k hk => by
    obtain ⟨_, _, _, _, H⟩ := hS1
    have := H.lt k hk
    omega
  have hS0 := hS1.below hb20
  have BI : Hid (BInv g) := by rw [hg]; exact bInv_all (bInv_new _ _) q
  have GL : Hid (g.L.length ≤ 60) := by
    have h1 := actAll_len (gNew R0 C0) q
    have h2 : (gNew R0 C0).L.length = 0 := rfl
    rw [hg]
    unfold Hid
    omega
  have GR : Hid (g.rows = R0 ∧ g.cols = C0) := by
    have := actAll_size (gNew R0 C0) q
    rw [hg]
    refine ⟨this.1.trans ?_, this.2.trans ?_⟩
    · unfold gNew clamp; simp only; rw [if_neg (by omega), if_neg (by omega)]
    · unfold gNew clamp; simp only; rw [if_neg (by omega), if_neg (by omega)]
  have hB10 : Below w1.heap.size w1 W0 := f2.trans (hb20.mono f2.size)
  have hwz : w1.heap.size ≤ w2.heap.size := f2.size
  have G0' : Hid (W0.heap[w.heap.size]? = _) := (hB10.block _ y0).trans G0.out
  have G1' : Hid (W0.heap[w.heap.size + 1]? = _) := (hB10.block _ y1).trans G1.out
  have G2' : Hid (W0.heap[w.heap.size + 1 + 1]? = _) := (hB10.block _ y2).trans G2.out
  have FB0 : Hid (Below w.heap.size w W0) := FB.out.trans (hB10.mono FB.out.size)
  have HB20 := Lib.hid hb20
  clear hg f2 HA1 FB G0 G1 G2 hS1 hb20 hB10
  obtain ⟨i0, hi, hi0, hi1, hi2⟩ := info_parts info38
  have HI := Lib.hid hi
  have HZ0 := Lib.hid hi0
  have HZ1 := Lib.hid hi1
  have HZ2 := Lib.hid hi2
  clear hi hi0 hi1 hi2
  refine range_box2 (A := ?A) (E := ApE w2.heap.size) rfl (by omega) (gf := 25) (lb := #[.pointer (some ⟨w2.heap.size + 1 + 1, 0, none⟩)]) rfl trivial (enters_of Try.func25 (by kernel_rfl) rfl)
    (iter_stops 7 (by omega) (w2.heap.size + 1 + 1) (w2.heap.size + 1) (w1.heap.size + 3) g (Nat.le_trans GL.out (by omega)) W0 S (cell_of_heap e3 0) hS0 hSlt (by omega)) (by omega) (fun _ => rfl)
    (ApI g w2.heap.size W0) (fun _ l _ => Clash l)
    (OwnFrom.and (Own.from (holdsRow_own (w2.heap.size + 1) (w2.heap.size + 1) 50 38 4 (fun pre => (stR pre).length) (fun pre => (stR pre).flatMap c4) (fun _ _ => True)) _) (ownFrom_below (by omega) (by omega)))
    (fun _ _ _ _ _ hs _ _ => hs) ⟨⟨_, e2, World.ownsRow_nil _ _ _ _, trivial⟩, Below.refl _ _⟩ (fun _ _ h => h.2.size)
    (fun x => .cells #[.int .i64 x.1.r, .int .i64 x.1.c, .int .i64 x.1.rs, .int .i64 x.1.cs] 38) (fun _ => rfl) (fun Bx => ownE _ _ Bx)
    (fun pre x W h => by
      obtain ⟨⟨v, h1, h2, _⟩, _⟩ := h
      exact ⟨v, h1.alloc _, fun e => absurd (row_lt h2 e) (Nat.lt_irrefl _)⟩) ?assign ?body ?done ?stop
  case assign =>
    intro l x W Bx K hB hK
    unfold encV
    gi_wp2
    rw [← hB]
    exact hK
  case stop =>
    rintro D c pre W _ hp h _
    exact (no_clash BI.out hp h).elim
  case done =>
    rintro D zs W hD _ ⟨_, hB1⟩ hK
    have g2 := (hB1.block _ (by omega)).trans G2'.out
    have x2 := cell_of_heap g2
    have z2 := frozen_of_heap g2
    have hw2 := lt_of_heap g2
    clear g2
    go_wp2
    refine ⟨by simp, .inl ⟨_, _, rfl, run_takeDeferred ((KeepsOthers.setCell _ _ _).same D _ hK rfl), ?_⟩⟩
    have hne : D ≠ w.heap.size + 1 + 1 := by omega
    have hc : ((W.setCell ⟨w.heap.size + 1 + 1, 0, none⟩ (.bool true)).putObj D (.deferred none)).cell? ⟨w.heap.size + 1 + 1, 0, none⟩ = some (.bool true) :=
      cell_kept (World.cell?_setCell_same' _ _ _ (by rw [x2]; rfl)) (grownBy_putObj' _ D _) (fun r e => by cases e; exact ⟨_, (KeepsOthers.setCell _ _ _).same D _ hK rfl, rfl⟩)
    refine ⟨.bool true, ?_, rfl, ?_⟩
    · simp [results, Try.results7, go_sem, hc]
    · have h1 := FB0.out.trans (hB1.mono (by omega))
      have h2 : Below w.heap.size W (W.setCell ⟨w.heap.size + 1 + 1, 0, none⟩ (.bool true)) := (Below.refl _ W).setCell (p := ⟨w.heap.size + 1 + 1, 0, none⟩) (by show w.heap.size ≤ w.heap.size + 1 + 1; omega) _
      exact (h1.trans h2).trans (belowK_b (w := w) (Nat.le_refl _) _ D _ _ (by omega) ((KeepsOthers.setCell _ _ _).same D _ hK rfl) rfl rfl)
  case body =>
    rintro l pre ⟨v, hv⟩ Bx W hl ⟨r, hr⟩ ⟨⟨sv, hbx, hrow, _⟩, hB1⟩ hBx hO ⟨sv', hbx', hne⟩ hlt
    obtain rfl := boxed_one hbx hbx'
    have hW : W0.heap.size ≤ W.heap.size := hB1.size
    have GLl := GL.out
    have hsl := stR_len pre
    have HV := Lib.hid (BI.out.ok v hv)
    by_cases hst : v.st = true
    · have KPre : Hid (stR (pre ++ [⟨v, hv⟩]) = stR pre ++ [v.q]) := stR_yes pre ⟨v, hv⟩ hst
      have OWN : Hid (getL g.O (v.r + v.rs - 1, v.c + v.cs - 1) = some v.q) := by
        have V := HV.out
        have a0 := V.a0
        have b0 := V.b0
        exact BI.out.own v hv hst _ (mem_cellsOf.2 (by omega))
      have HCL : Hid (∀ o ∈ stR pre, Meets v.q o → Clash (pre ++ [(⟨v, hv⟩ : VIn g)])) := fun o ho hm => ⟨pre, ⟨v, hv⟩, rfl, hst, o, ho, hm⟩
      have RB : Hid (∀ o ∈ stR pre, 0 ≤ o.1 ∧ o.1 ≤ 1000 ∧ 0 ≤ o.2.1 ∧ o.2.1 ≤ 1000 ∧ 1 ≤ o.2.2.1 ∧ o.2.2.1 ≤ 4096 ∧ 1 ≤ o.2.2.2 ∧ o.2.2.2 ≤ 4096) := fun o ho => by
        unfold stR at ho
        obtain ⟨y, hy, rfl⟩ := List.mem_map.1 ho
        have V := BI.out.ok y.1 y.2
        have h1 := V.r1
        have h2 := V.c1
        rw [GR.out.1] at h1
        rw [GR.out.2] at h2
        have h3 := V.r0
        have h4 := V.c0
        simp only [Ver.q]
        exact ⟨h3, by omega, h4, by omega, V.a0, V.a1, V.b0, V.b1⟩
      generalize stR pre = Rs at hrow hsl KPre HCL RB
      obtain ⟨sa, scap, rfl⟩ := ownsRow_slice hrow
      have g0 := cell_of_heap ((hB1.block _ (by omega)).trans G0'.out) 0
      have g1 := cell_of_heap ((hB1.block _ (by omega)).trans G1'.out) 0
      have k1 := cell_of_heap ((hB1.block _ (by omega)).trans e1) 0
      have o0 := cell_of_heap hO 0
      have o1 := cell_of_heap hO 1
      have o2 := cell_of_heap hO 2
      have o3 := cell_of_heap hO 3
      have c8 := hbx.cell
      have z0 : w.heap.size < W.heap.size := by omega
      have z1 : w.heap.size + 1 < W.heap.size := by omega
      have z8 : w2.heap.size + 1 < W.heap.size := by omega
      have zb : Bx < W.heap.size := lt_of_heap hO
      obtain ⟨r0, c, rs, cs, st, kn, br, bc⟩ := v
      simp only at hst o0 o1 o2 o3
      subst hst
      obtain ⟨v1, v2, v3, v4, v5, v6, v7, v8, v9, v10, v11, v12⟩ := HV.out
      obtain ⟨rfl, u1, u2⟩ := v11 rfl
      rw [GR.out.1] at v2 u1
      rw [GR.out.2] at v4 u2
      simp only at v1 v2 v3 v4 v5 v6 v7 v8 u1 u2
      have HB1 := Lib.hid hB1
      have HO := Lib.hid hO
      have HBX := Lib.hid hbx
      have HROW := Lib.hid hrow
      have HR := Lib.hid hr
      clear v9 v10 v11 v12 hB1 hO hbx hbx' hrow hr HV
      gi_wp2
      gi_loopw [75] (fun x wr => ∃ k : Nat, x = .int .i64 k ∧ k ≤ Rs.length ∧ Hid (Below W.heap.size W wr)) (fun x _ => Rs.length - (intOf x).toNat)
      case atStart => exact ⟨0, rfl, Nat.zero_le _, Below.refl _ _⟩
      case round =>
        obtain ⟨k, rfl, hk, hB⟩ := hrel
        by_cases hkt : k < Rs.length
        · obtain ⟨⟨p1, p2, p3, p4⟩, hx⟩ : ∃ x, Rs[k]? = some x := ⟨_, List.getElem?_eq_getElem hkt⟩
          obtain ⟨gb, cap', hsv, hgb, hcell⟩ := row_at HROW.out hx
          simp only [Value.slice.injEq, true_and] at hsv
          obtain ⟨rfl, rfl⟩ := hsv
          obtain ⟨s1, s2, s3, s4, s5, s6, s7, s8⟩ := RB.out _ (List.mem_of_getElem? hx)
          simp only at s1 s2 s3 s4 s5 s6 s7 s8
          have hm : Hid ((p1, p2, p3, p4) ∈ Rs) := List.mem_of_getElem? hx
          have w0 := (hB.out.cell (p := ⟨gb, k * 4, none⟩) hgb).trans (hcell 0 (by omega))
          have w1' := (hB.out.cell (p := ⟨gb, k * 4 + 1, none⟩) hgb).trans (hcell 1 (by omega))
          have w2' := (hB.out.cell (p := ⟨gb, k * 4 + 2, none⟩) hgb).trans (hcell 2 (by omega))
          have w3' := (hB.out.cell (p := ⟨gb, k * 4 + 3, none⟩) hgb).trans (hcell 3 (by omega))
          unfold c4 at w0 w1' w2' w3'
          have hg2 : gb < wr.heap.size := Nat.lt_of_lt_of_le hgb hB.out.size
          have n0 := (hB.out.cell (p := ⟨Bx, 0, none⟩) zb).trans o0
          have n1 := (hB.out.cell (p := ⟨Bx, 1, none⟩) zb).trans o1
          have n2 := (hB.out.cell (p := ⟨Bx, 2, none⟩) zb).trans o2
          have n3 := (hB.out.cell (p := ⟨Bx, 3, none⟩) zb).trans o3
          have zb2 : Bx < wr.heap.size := Nat.lt_of_lt_of_le zb hB.out.size
          have hg2' := (hB.out.block _ (by omega)).trans ((HB1.out.block _ (by omega)).trans G2'.out)
          have x6 := cell_of_heap hg2'
          have y6 := frozen_of_heap hg2'
          have z6 := lt_of_heap hg2'
          have j1 : (0 : Int) ≤ (k : Int) := by omega
          have j2 : (k : Int) < (Rs.length : Int) := by omega
          clear hcell hx hg2' o0 o1 o2 o3 g0 g1 k1 c8
          by_cases t1 : r0 < p1 + p3
          · by_cases t2 : p1 < r0 + rs
            · by_cases t3 : c < p2 + p4
              · by_cases t4 : p2 < c + cs
                · have CL := Lib.hid (HCL.out _ hm.out ⟨t1, t2, t3, t4⟩)
                  gi_wp2
                  exact ⟨⟨by simp; exact Nat.le_trans hB.out.size (Nat.le_succ _), fun i o _ hi ho => ((KeepsOthers.setCell wr _ _).trans (KeepsOthers.alloc _ _)).same i o ((hB.out.block i (lt_of_heap hi)).trans hi) ho⟩, CL.out⟩
                · gi_wp2
                  go_roundw
                  case rel => exact ⟨k + 1, by go_num, by omega, hB.out.alloc hB.out.size _⟩
                  case measure => simp [intOf]; omega
              · gi_wp2
                go_roundw
                case rel => exact ⟨k + 1, by go_num, by omega, hB.out.alloc hB.out.size _⟩
                case measure => simp [intOf]; omega
            · gi_wp2
              go_roundw
              case rel => exact ⟨k + 1, by go_num, by omega, hB.out.alloc hB.out.size _⟩
              case measure => simp [intOf]; omega
          · gi_wp2
            go_roundw
            case rel => exact ⟨k + 1, by go_num, by omega, hB.out.alloc hB.out.size _⟩
            case measure => simp [intOf]; omega
        · have HBX2 : Hid (Boxed wr (w2.heap.size + 1) 50 (.slice sa Rs.length scap)) := (hB.out.block _ (by omega)).trans HBX.out
          have HROW2 : Hid (wr.ownsRow (w2.heap.size + 1) 38 4 (.slice sa Rs.length scap) Rs.length (Rs.flatMap c4)) := ownsRow_of_block HROW.out (fun i hi => hB.out.block i (row_lt HROW.out hi))
          have ho2 : Hid (wr.heap[Bx]? = _) := (hB.out.block Bx zb).trans HO.out
          have hk2 : Hid (wr.heap[w2.heap.size]? = _) := (hB.out.block _ (by omega)).trans ((HB1.out.block _ (by omega)).trans e1)
          have n0 := cell_of_heap ho2.out 0
          have n1 := cell_of_heap ho2.out 1
          have n2 := cell_of_heap ho2.out 2
          have n3 := cell_of_heap ho2.out 3
          have zb2 : Bx < wr.heap.size := Nat.lt_of_lt_of_le zb hB.out.size
          have c82 := HBX2.out.cell
          have z82 : w2.heap.size + 1 < wr.heap.size := by have := hB.out.size; omega
          clear o0 o1 o2 o3 g0 g1 k1 c8
          have hrz : (Value.slice sa Rs.length scap).ownBlock ≠ some w2.heap.size := fun e => by
            rcases HROW2.out.2 with ⟨h, _⟩ | ⟨g0, cap0, cur, h, hg0, _⟩
            · rw [h] at e; cases e
            · rw [h] at e; simp [Value.ownBlock] at e; omega
          have hbz : Bx ≠ w2.heap.size + 1 := by omega
          have hzz : w2.heap.size ≠ w2.heap.size + 1 := by omega
          gi_wp2_with (gi_at_builtin; refine wpListIn_append_own _ rfl _ _ 50 rfl (w2.heap.size + 1) 38 i0 (.agg #[.int .i64 0, .int .i64 0, .int .i64 0, .int .i64 0]) 4 32 Try.underlying50 HI.out HZ0.out HZ1.out HZ2.out rfl (by decide) _ _ _ rfl (HROW2.out.alloc _) ⟨wr.heap.size, 0, none⟩ 1 1 (c4 (r0, c, rs, cs)) rfl rfl (cells_new _ #[.int .i64 r0, .int .i64 c, .int .i64 rs, .int .i64 cs] 38) (by simp [c4, Value.oneCell']) (by unfold maxLen; omega) (by omega) (by simp; omega) ?_; intro v' w6 hown' hgrow _; obtain ⟨g', cap', rfl⟩ := ownsRow_succ hown'; obtain ⟨hv1, hv2, hr2, hk3, hb2⟩ := HBX2.out.appended (by decide) HROW2.out (by omega) (Nat.le_refl _) hown' hgrow; have hc1 := hv1.cell; have hf1 := hv1.frozen; have hob := (hgrow.block Bx (by simp; omega) (fun e => hne e.symm)).trans (heap_alloc_old ho2.out _); have hkb := (hgrow.block w2.heap.size (by simp; omega) (fun e => hrz e.symm)).trans (heap_alloc_old hk2.out _); have m0 := cell_of_heap hob 0; have m1 := cell_of_heap hob 1; have m2 := cell_of_heap hob 2; have m3 := cell_of_heap hob 3; have mk := cell_of_heap hkb 0; have qb := lt_of_heap hob; have qk := lt_of_heap hkb)
          have hB6 : Below (w2.heap.size + 1) W (w6.setCell ⟨w2.heap.size + 1, 0, none⟩ (.slice (some ⟨g', 0, none⟩) (Rs.length + 1) cap')) := (hB.out.mono (by omega)).trans hb2
          have HOB := Lib.hid (OB2.out.below (HB20.out.trans ((HB1.out.trans hB6).mono (by omega))))
          have HB6 := Lib.hid hB6
          have HBX6 := Lib.hid hv2
          have HROW6 := Lib.hid hr2
          have HK6 : Hid (KeepsFrom W0.heap.size W (w6.setCell ⟨w2.heap.size + 1, 0, none⟩ (.slice (some ⟨g', 0, none⟩) (Rs.length + 1) cap'))) :=
            ⟨Nat.le_trans hB.out.size hk3.size, fun i o _ hi ho => hk3.same i o ((hB.out.block i (lt_of_heap hi)).trans hi) ho⟩
          have ho6 : Hid ((w6.setCell ⟨w2.heap.size + 1, 0, none⟩ (.slice (some ⟨g', 0, none⟩) (Rs.length + 1) cap')).heap[Bx]? = _) := (Below.heap_setCell _ _ _ _ hbz).trans hob
          generalize (w6.setCell ⟨w2.heap.size + 1, 0, none⟩ (.slice (some ⟨g', 0, none⟩) (Rs.length + 1) cap')) = W6 at HOB HB6 HBX6 HROW6 HK6 ho6 ⊢
          refine ⟨trivial, (CallsIn.inRound l (callsIn_wide.2 (owner_o HOB.out (r0 + rs - 1) (c + cs - 1)))).mono ?_⟩
          rintro e W7 ⟨rfl, _, f7⟩
          unfold ownerR
          rw [OWN.out, Option.getD_some, Option.isSome_some]
          unfold Ver.q encR
          have ho7 := (f7.block Bx (lt_of_heap ho6.out)).trans ho6.out
          have a0 := cell_of_heap ho7 0
          have a1 := cell_of_heap ho7 1
          have a2 := cell_of_heap ho7 2
          have a3 := cell_of_heap ho7 3
          have ab := lt_of_heap ho7
          have hneq : ∀ W, (binOp .neq 38 (.agg #[.int .i64 r0, .int .i64 c, .int .i64 rs, .int .i64 cs]) (.agg #[.int .i64 r0, .int .i64 c, .int .i64 rs, .int .i64 cs])).run Try.prog W = .ok (.bool false) W := fun W => by
            have := neq_rect W (r0, c, rs, cs) (r0, c, rs, cs)
            rw [decide_eq_false (fun h => h rfl)] at this
            exact this
          have F7 := Lib.hid f7
          clear f7 ho7 ho6 hob hkb m0 m1 m2 m3 mk qb qk n0 n1 n2 n3 c82 hc1 hf1 hv1 hv2 hr2 hk3 hb2 hB6 hown' hgrow OWN
          gi_wp2
          have hF8 : Below W6.heap.size W6 (W7.alloc (.cells #[.int .i64 r0, .int .i64 c, .int .i64 rs, .int .i64 cs] 38)) := F7.out.alloc F7.out.size _
          refine ⟨⟨Nat.le_trans HK6.out.size hF8.size, fun i o h1 hi ho => (hF8.block i (lt_of_heap (HK6.out.same i o h1 hi ho))).trans (HK6.out.same i o h1 hi ho)⟩, HB6.out.trans (hF8.mono (by have := HB6.out.size; omega)), ?_⟩
          unfold ApI
          rw [KPre.out]
          refine ⟨⟨_, (hF8.block _ HBX6.out.lt).trans HBX6.out, ?_, trivial⟩, HB1.out.trans (HB6.out.trans (hF8.mono (by have := HB6.out.size; omega)))⟩
          rw [List.length_append, List.flatMap_append]
          exact ownsRow_of_block (by simpa [Ver.q] using HROW6.out) (fun i hi => hF8.block i (row_lt HROW6.out hi))
    · have hno : v.st = false := by simpa using hst
      have KPre : Hid (stR (pre ++ [⟨v, hv⟩]) = stR pre) := stR_no pre ⟨v, hv⟩ hno
      gi_wp2
      exact ⟨KeepsFrom.refl _ _, Below.refl _ _, by unfold ApI; rw [KPre.out]; exact ⟨⟨_, hbx, hrow, trivial⟩, hB1⟩⟩
set_option maxHeartbeats 2000000 in
set_option maxRecDepth 100000 in
theorem apart_long (a b : Int) (aa : Option Addr) (acap : Nat) (q : List Ac) (w : World) (hq : 60 < q.length) :
    Calls Try.prog 7 #[.int .u8 a, .int .u8 b, .slice aa q.length acap] w fun e w' => e = .returned (.bool true) ∧ Below w.heap.size w w' := by
  go_enter Try.func7, Try.ntmps7
  go_wp2_with fail
  refine (awake_any _).mono ?_
  rintro e w1 ⟨rfl, hb⟩
  have hs1 : w.heap.size + 3 ≤ w1.heap.size := by have := hb.size; simpa using this
  have FB : Hid (Below w.heap.size w w1) := by
    refine Below.trans ?_ (hb.mono (by simp; omega))
    (repeat (first | with_reducible exact Below.refl _ _ | with_reducible exact hBW | with_reducible refine Below.setCell ?_ ?_ _ | with_reducible refine Below.alloc ?_ ?_ _ | with_reducible refine belowN ?_ _ | with_reducible refine Below.drew ?_)); all_goals (first | omega | (dsimp only; omega) | ((repeat (first | with_reducible refine le_alloc ?_ | with_reducible refine le_setCell ?_ | with_reducible refine le_drew ?_ | with_reducible refine le_drewN ?_)); omega))
  have G2 : Hid (w1.heap[w.heap.size + 1 + 1]? = some (.cells #[.bool false] 4)) := (hb.block _ (by simp)).trans (by (repeat (first | (with_reducible refine heap_alloc_at ?_ _; (first | rfl | (simp; done) | omega | (simp; omega)); done) | with_reducible refine heap_alloc_old ?_ _ | with_reducible refine heap_drew_old ?_ | with_reducible refine heap_drewN_old ?_)))
  clear hb
  go_wp2_with fail
  refine (awake_any _).mono ?_
  rintro e w2 ⟨rfl, hb⟩
  have g2 := (hb.block _ (by omega)).trans G2.out
  have x2 := cell_of_heap g2
  have z2 := frozen_of_heap g2
  have hw2 := lt_of_heap g2
  have hBW : Below w.heap.size w w2 := FB.out.trans (hb.mono FB.out.size)
  have FB2 := Lib.hid hBW
  clear hb g2 hBW
  go_wp2_with fail
  refine bodyPost_ret (v := .bool true) (by simp [results, Try.results7, go_sem, x2]) rfl ⟨rfl, ?_⟩
  exact FB2.out.setCell (p := ⟨w.heap.size + 1 + 1, 0, none⟩) (by show w.heap.size ≤ w.heap.size + 1 + 1; omega) _
theorem apart_law (a b : Int) (aa : Option Addr) (acap : Nat) (q : List Ac) (w : World) (q1 : 0 ≤ a) (q2 : a ≤ 255) (q3 : 0 ≤ b) (q4 : b ≤ 255) (hA : ActsAt w aa q) :
    Calls Try.prog 7 #[.int .u8 a, .int .u8 b, .slice aa q.length acap] w fun e w' => e = .returned (.bool true) ∧ Below w.heap.size w w' := by
  by_cases h : 60 < q.length
  · exact apart_long a b aa acap q w h
  · exact apart_main a b aa acap q w q1 q2 q3 q4 (by omega) hA
end Go.Proofs.Ytihfmcadcojjnaa
