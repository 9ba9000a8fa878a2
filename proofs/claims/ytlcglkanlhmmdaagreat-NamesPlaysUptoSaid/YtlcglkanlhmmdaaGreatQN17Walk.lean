/- tree.walk: the iterator over the nodes of a tree. -/
import Derived.Sort.LoopGhostIn
import Derived.Test.YtlcglkanlhmmdaaGreatQN17Tree
import Derived.Test.YtlcglkanlhmmdaaGreatQN17Nodes
import Derived.Test.YtlcglkanlhmmdaaGreatQN17Alike
import Derived.Test.YtlcglkanlhmmdaaGreatQKZ
namespace Go.Proofs.YtlcglkanlhmmdaaGreat
open Go.RowKit Go.Shelf
attribute [local go_sem] Oper.semAt_some
theorem walk_any (p : Option Addr) (w : World) :
    Calls Tryz.prog 35 #[.pointer p] w fun e w' => e = .returned (.func (.func 50) #[] #[.pointer (some ⟨w.heap.size, 0, none⟩)]) ∧ w' = w.alloc (.cells #[.pointer p] 75) := by
  go_enter Tryz.func35, Tryz.ntmps35
  go_wp2
  go_ret
  exact ⟨rfl, rfl⟩
/-- The depths of all nodes, in order. -/
def T.dl : T → Nat → List Nat
  | .mk _ l, d => d :: l.attach.flatMap fun t => T.dl t.1 (d + 1)
termination_by t => SizeOf.sizeOf t
decreasing_by exact T.lt t.2
theorem T.dl_mk (o : Nd) (l : List T) (d : Nat) : (T.mk o l).dl d = d :: l.flatMap fun t => t.dl (d + 1) := by
  rw [T.dl]
  congr 1
  simp only [List.flatMap_def]
  congr 1
  exact List.attach_map_val (f := fun t => T.dl t (d + 1))
theorem T.dl_length (t : T) : ∀ d, (t.dl d).length = t.size := by
  induction t using T.ind with
  | h o l ih =>
    intro d
    rw [T.dl_mk, T.size_mk, List.length_cons, List.length_flatMap, Nat.add_comm]
    congr 2
    exact List.map_congr_left fun t ht => ih t ht (d + 1)
/-- Cells of before are as they were. -/
structure Keep (w W : World) : Prop where
  size : w.heap.size ≤ W.heap.size
  same : ∀ (k : Nat) (o : Obj), w.heap[k]? = some o → o.isCells = true → W.heap[k]? = some o
theorem Keep.refl (w : World) : Keep w w := ⟨Nat.le_refl _, fun _ _ h _ => h⟩
theorem Keep.below {w A B : World} (h : Keep w A) (hb : Below A.heap.size A B) : Keep w B := ⟨Nat.le_trans h.size hb.size, fun k o hk ho => (hb.block k (lt_of_heap (h.same k o hk ho))).trans (h.same k o hk ho)⟩
theorem Keep.low {w A C : World} {B : Nat} (h : Keep w A) (hb : Below B A C) (hB : w.heap.size ≤ B) : Keep w C :=
  ⟨Nat.le_trans h.size hb.size, fun k o hk ho => (hb.block k (Nat.lt_of_lt_of_le (lt_of_heap hk) hB)).trans (h.same k o hk ho)⟩
theorem Keep.kz {w A B : World} {Z : Nat → Prop} (h : Keep w A) (hz : KZ Z A B) (hZ : ∀ k, Z k → w.heap.size ≤ k) : Keep w B :=
  ⟨Nat.le_trans h.size hz.size, fun k o hk ho => hz.same k o (fun hh => by have := hZ k hh; have := lt_of_heap hk; omega) (h.same k o hk ho) (.inl ho)⟩
theorem cells_of_cell {w : World} {b o : Nat} {v : Value} (h : w.cell? ⟨b, o, none⟩ = some v) : ∃ cs t fz, w.heap[b]? = some (.cells cs t fz) := by
  unfold World.cell? at h
  cases hb : w.heap[b]? with
  | none => rw [hb] at h; simp at h
  | some x =>
    rw [hb] at h
    cases x with
    | cells cs t fz => exact ⟨cs, t, fz, rfl⟩
    | _ => simp at h
theorem Keep.cell {w W : World} (h : Keep w W) {b o : Nat} {v : Value} (hc : w.cell? ⟨b, o, none⟩ = some v) : W.cell? ⟨b, o, none⟩ = some v := by
  obtain ⟨cs, t, fz, hb⟩ := cells_of_cell hc
  rw [cell_of_heap (h.same _ _ hb rfl), ← cell_of_heap hb]
  exact hc
theorem nd_some (o : Nd) (s : Value) {j : Nat} (hj : j < 22) : ∃ v, (ncells o s)[j]? = some v := ⟨_, List.getElem?_eq_getElem (by show j < (ncells o s).length; exact hj)⟩
theorem Keep.nd {w W : World} (h : Keep w W) {b off : Nat} {o : Nd} {s : Value} (hn : NdAt w b off o s) : NdAt W b off o s := fun j hj => by
  obtain ⟨v, hv⟩ := nd_some o s hj
  rw [hv]
  exact h.cell ((hn j hj).trans hv)
/-- A node that is still to come. -/
structure Item where
  b : Nat
  off : Nat
  t : T
  d : Nat
def Item.cells (x : Item) : List Value := [.pointer (some ⟨x.b, x.off, none⟩), .int .i64 (x.d : Int)]
def Item.ok (w : World) (x : Item) : Prop := ∃ a cap, x.b < w.heap.size ∧ NdAt w x.b x.off x.t.o (.slice a x.t.l.length cap) ∧ x.t.At w a
def kids (g go d : Nat) (l : List T) : List Item := l.zipIdx.map fun p => ⟨g, go + p.2 * 22, p.1, d + 1⟩
theorem kids_at {g go d : Nat} {l : List T} {i : Nat} {t : T} (h : l[i]? = some t) : (kids g go d l)[i]? = some ⟨g, go + i * 22, t, d + 1⟩ := by
  unfold kids
  rw [List.getElem?_map, List.getElem?_zipIdx, h]
  simp
theorem kids_length (g go d : Nat) (l : List T) : (kids g go d l).length = l.length := by simp [kids]
theorem kids_dl (g go d : Nat) (l : List T) : (kids g go d l).flatMap (fun x => x.t.dl x.d) = l.flatMap fun t => t.dl (d + 1) := by
  unfold kids
  rw [List.flatMap_map]
  have : ∀ (k : Nat), (l.zipIdx k).flatMap (fun p => p.1.dl (d + 1)) = l.flatMap fun t => t.dl (d + 1) := by
    induction l with
    | nil => intro k; rfl
    | cons t r ih => intro k; rw [List.zipIdx_cons, List.flatMap_cons, List.flatMap_cons, ih]
  exact this 0
abbrev Wx := (Nat × Nat) × Nat
def encW (x : Wx) : Array Value := #[.pointer (some ⟨x.1.1, x.1.2, none⟩), .int .i64 (x.2 : Int)]
theorem info100 : (Tryz.prog.info? 98).map (fun i => (i.zero, i.size, i.bytes)) = some (some (.agg #[.pointer none, .int .i64 0]), 2, 16) := by kernel_rfl
theorem cells_length (l : List Item) : (l.flatMap Item.cells).length = l.length * 2 := by
  induction l with
  | nil => rfl
  | cons y r ih => rw [List.flatMap_cons, List.length_append, ih]; show 2 + _ = (r.length + 1) * 2; omega
theorem step_cell {w : World} {B n g cap : Nat} {st : List Item} {x : Item} (h : w.ownsRow B 98 2 (.slice (some ⟨g, 0, none⟩) n cap) n ((st ++ [x]).flatMap Item.cells)) :
    w.cell? ⟨g, st.length * 2, none⟩ = some (.pointer (some ⟨x.b, x.off, none⟩)) ∧ w.cell? ⟨g, st.length * 2 + 1, none⟩ = some (.int .i64 (x.d : Int)) := by
  have h1 := own_cells h (st.length * 2) (.pointer (some ⟨x.b, x.off, none⟩)) (by rw [List.flatMap_append, List.getElem?_append_right (by rw [cells_length]; omega), cells_length, Nat.sub_self]; rfl)
  have h2 := own_cells h (st.length * 2 + 1) (.int .i64 (x.d : Int)) (by rw [List.flatMap_append, List.getElem?_append_right (by rw [cells_length]; omega), cells_length, Nat.add_sub_cancel_left]; rfl)
  rw [Addr.add_mid, Nat.zero_add] at h1 h2
  exact ⟨h1, h2⟩
theorem own_pop {w : World} {B g cap : Nat} {st : List Item} {x : Item} (h : w.ownsRow B 98 2 (.slice (some ⟨g, 0, none⟩) (st.length + 1) cap) (st.length + 1) ((st ++ [x]).flatMap Item.cells)) :
    w.ownsRow B 98 2 (.slice (some ⟨g, 0, none⟩) st.length cap) st.length (st.flatMap Item.cells) := by
  obtain ⟨h1, h2⟩ := h
  refine ⟨cells_length st, ?_⟩
  rcases h2 with ⟨h2, _⟩ | ⟨g', cap', cur, h2, hb, hh, h3, h4, h5, ht⟩
  · cases h2
  · cases h2
    refine .inr ⟨g, cap, cur, rfl, hb, hh, by omega, h4, h5, ?_⟩
    have : (cur.toList.take ((st.length + 1) * 2)).take (st.length * 2) = ((st ++ [x]).flatMap Item.cells).take (st.length * 2) := by rw [ht]
    rw [List.take_take, Nat.min_eq_left (by omega), List.flatMap_append, List.take_append_of_le_length (by rw [cells_length]; omega), List.take_of_length_le (l := st.flatMap Item.cells) (by rw [cells_length]; omega)] at this
    exact this
theorem own_keep {w w' : World} {B n : Nat} {v : Value} {xs : List Value} {e : TypeId} {size : Nat} (h : w.ownsRow B e size v n xs) (hk : ∀ (k : Nat) (o : Obj), B ≤ k → w.heap[k]? = some o → o.isCells = true → w'.heap[k]? = some o) : w'.ownsRow B e size v n xs := by
  refine ⟨h.1, ?_⟩
  rcases h.2 with h2 | ⟨g, cap, cur, h2, h3, hh, h4⟩
  · exact .inl h2
  · exact .inr ⟨g, cap, cur, h2, h3, hk g _ h3 hh rfl, h4⟩
theorem own_slice {w : World} {B n : Nat} {v : Value} {xs : List Value} {e : TypeId} {size : Nat} (h : w.ownsRow B e size v n xs) : ∃ a cap, v = .slice a n cap := by
  rcases h.2 with ⟨h2, h3⟩ | ⟨g, cap, cur, h2, _⟩
  · exact ⟨none, 0, by rw [h2, h3]⟩
  · exact ⟨_, _, h2⟩
theorem kids_ok {w : World} {x : Item} {a : Option Addr} (hx : x.t.At w a) : ∃ g go, (0 < x.t.l.length → a = some ⟨g, go, none⟩) ∧ ∀ y ∈ kids g go x.d x.t.l, y.ok w := by
  obtain ⟨b, off, t, d⟩ := x
  obtain ⟨o, l⟩ := t
  by_cases h0 : 0 < l.length
  · obtain ⟨g, go, h1, h2, h3⟩ := T.at_mk.1 hx h0
    refine ⟨g, go, fun _ => h1, fun y hy => ?_⟩
    obtain ⟨i, hi⟩ := List.mem_iff_getElem?.1 hy
    have hil : i < l.length := by have := (List.getElem?_eq_some_iff.1 hi).1; rw [kids_length] at this; exact this
    have ht : l[i]? = some l[i] := List.getElem?_eq_getElem hil
    change (kids g go d l)[i]? = some y at hi
    rw [kids_at ht] at hi
    cases hi
    obtain ⟨a', cap', h4, h5⟩ := h3 i _ ht
    exact ⟨a', cap', h2, h4, h5⟩
  · refine ⟨0, 0, fun h => absurd h h0, fun y hy => ?_⟩
    have hl : l = [] := by cases l with
      | nil => rfl
      | cons a r => simp at h0
    subst hl
    cases hy
theorem own_base {w : World} {B n : Nat} {v : Value} {xs : List Value} {e : TypeId} {size : Nat} (h : w.ownsRow B e size v n xs) : ∀ r, v.ownBlock = some r → B ≤ r := by
  intro r hr
  rcases h.2 with ⟨h, _⟩ | ⟨g, cap, cur, h, hb, _⟩
  · rw [h] at hr; cases hr
  · rw [h] at hr; cases hr; exact hb
structure Walks (w0 W : World) (t : T) (J : List Wx → World → Prop) (st : List Item) (pre : List Wx) (v : Value) (wr : World) : Prop where
  own : wr.ownsRow W.heap.size 98 2 v st.length (st.flatMap Item.cells)
  ok : ∀ x ∈ st, x.ok w0
  keep : Keep w0 wr
  sz : W.heap.size ≤ wr.heap.size
  j : J pre wr
  dep : ∀ x ∈ st, x.d + x.t.size ≤ t.size + 1
  seq : pre.map Prod.snd ++ st.reverse.flatMap (fun x => x.t.dl x.d) = t.dl 1
def stk (st : List Item) : Nat := (st.map fun x => x.t.size).sum
theorem dl_len (st : List Item) : (st.flatMap fun x => x.t.dl x.d).length = stk st := by
  rw [List.length_flatMap]
  unfold stk
  congr 1
  exact List.map_congr_left fun x _ => T.dl_length x.t x.d
theorem stk_rev (st : List Item) : stk st.reverse = stk st := by
  unfold stk
  rw [List.map_reverse, List.sum_reverse]
theorem stk_ge (st : List Item) : st.length ≤ stk st := by
  induction st with
  | nil => exact Nat.zero_le _
  | cons x r ih =>
    have : 1 ≤ x.t.size := by cases x.t; rw [T.size_mk]; omega
    have e : stk (x :: r) = x.t.size + stk r := rfl
    rw [List.length_cons, e]
    omega
theorem kids_stk (g go d : Nat) (l : List T) : stk (kids g go d l) = (l.map T.size).sum := by
  rw [← dl_len, kids_dl, List.length_flatMap]
  congr 1
  exact List.map_congr_left fun t _ => T.dl_length t (d + 1)
theorem Walks.total {w0 W : World} {t : T} {J : List Wx → World → Prop} {st : List Item} {pre : List Wx} {v : Value} {wr : World} (h : Walks w0 W t J st pre v wr) : pre.length + stk st = t.size := by
  have := congrArg List.length h.seq
  rw [List.length_append, List.length_map, dl_len, stk_rev, T.dl_length] at this
  exact this
set_option maxRecDepth 100000 in
set_option maxHeartbeats 4000000 in
theorem walk_inn (l Bn b off : Nat) (t : T) (ht : t.size ≤ 2097152) (w0 : World) (Z : Nat → Prop) (J Jx : List Wx → World → Prop)
    (hY : ∀ pre x W, J pre W → pre.length < t.size → YieldAt Fence.wide 6 Tryz.prog l (encW x) W fun e W' =>
      (e = .returned (.bool true) ∧ J (pre ++ [x]) W' ∧ KZ Z W W') ∨ (e = .returned (.bool false) ∧ Jx (pre ++ [x]) W'))
    (W : World) (hZ : ∀ k, Z k → w0.heap.size ≤ k ∧ k < W.heap.size) (hBn : W.heap[Bn]? = some (.cells #[.pointer (some ⟨b, off, none⟩)] 75)) (hv : (⟨b, off, t, 1⟩ : Item).ok w0) (hK : Keep w0 W) (hJ : LowFrom W.heap.size J) (h0 : J [] W) :
    CallsIn Fence.wide 7 Tryz.prog 50 #[.func (.yield l) #[] #[], .pointer (some ⟨Bn, 0, none⟩)] W fun e W' => (∃ v, e = .returned v) ∧
      ((∃ ys, ys.map Prod.snd = t.dl 1 ∧ J ys W') ∨ (∃ pre, pre.map Prod.snd <+: t.dl 1 ∧ Jx pre W')) := by
  have c0 := cell_of_heap hBn 0
  refine callsIn_of_wp Tryz.func50 rfl trivial ?_ rfl
  simp only [Tryz.ntmps50, List.size_toArray, List.length_cons, List.length_nil, Nat.reduceAdd, Nat.reduceSub, Array.replicate_succ, Array.replicate_zero, List.push_toArray, List.append_toArray, List.nil_append, List.cons_append]
  have HK := Lib.hid hK
  have HJ := Lib.hid hJ
  have HV := Lib.hid hv
  have HZ := Lib.hid hZ
  clear hK hJ hv hZ
  gi_wp2
  have W0 : Hid (Walks w0 W t J [⟨b, off, t, 1⟩] [] (.slice (some ⟨W.heap.size, 0, none⟩) 1 1) (W.alloc (.cells #[.pointer (some ⟨b, off, none⟩), .int .i64 1] 98))) := by
    refine ⟨⟨rfl, .inr ⟨W.heap.size, 1, _, rfl, Nat.le_refl _, heap_alloc_new W _, Nat.le_refl _, by unfold maxLen; omega, rfl, rfl⟩⟩, fun x hx => by rw [List.mem_singleton.1 hx]; exact HV.out, HK.out.below (below_alloc W _ _ (Nat.le_refl _)), by simp, ?_, ?_, by simp⟩
    · exact HJ.out _ _ _ h0 (below_alloc W _ _ (Nat.le_refl _))
    · intro x hx
      rw [List.mem_singleton.1 hx]
      show 1 + t.size ≤ t.size + 1
      omega
  clear h0 c0 hBn
  gi_loopg [3] t.size (fun g s3 wr => ∃ st pre, g = stk st ∧ Hid (Walks w0 W t J st pre s3 wr))
  case atStart => exact ⟨_, _, by simp [stk], W0⟩
  case round =>
    obtain ⟨st, pre, rfl, hW⟩ := hrel
    obtain ⟨v3, cap3, hs3⟩ := own_slice hW.out.own
    subst hs3
    rcases List.eq_nil_or_concat st with rfl | ⟨st', x, rfl⟩
    · have hJ3 := hW.out.j
      have hseq := hW.out.seq
      rw [List.reverse_nil, List.flatMap_nil, List.append_nil] at hseq
      clear hW
      rw [List.length_nil]
      gi_wp2
      go_end0
      exact ⟨⟨_, rfl⟩, .inl ⟨_, hseq, hJ3⟩⟩
    · rw [List.concat_eq_append] at hW ⊢
      have hln : (st' ++ [x]).length = st'.length + 1 := by rw [List.length_append]; rfl
      rw [hln] at hW ⊢
      have hlt : st'.length + 1 ≤ 2097152 := by
        have h1 := hW.out.total
        have h2 := stk_ge (st' ++ [x])
        rw [hln] at h2
        omega
      obtain ⟨g, hv3⟩ : ∃ g, v3 = some ⟨g, 0, none⟩ := by
        rcases hW.out.own.2 with ⟨_, h⟩ | ⟨g, cap, cur, h, _⟩
        · rw [hln] at h; omega
        · simp only [Value.slice.injEq] at h; exact ⟨g, h.1⟩
      subst hv3
      have hown := hW.out.own
      rw [hln] at hown
      obtain ⟨s0, s1⟩ := step_cell hown
      have hp := own_pop hown
      have hgl := own_lt hown
      obtain ⟨a, cap, hxb, hxn, hxt⟩ := hW.out.ok x (by simp)
      have d21 : wr.cell? ⟨x.b, x.off + 21, none⟩ = some (.slice a x.t.l.length cap) := (hW.out.keep.nd hxn) 21 (by omega)
      have hxw : x.b < wr.heap.size := Nat.lt_of_lt_of_le hxb hW.out.keep.size
      have hcap : st'.length + 1 ≤ cap3 := by
        rcases hown.2 with ⟨h, _⟩ | ⟨g', cap', cur, h, _, _, h3, _⟩
        · cases h
        · cases h; exact h3
      have hcm : cap3 ≤ maxLen := by
        rcases hown.2 with ⟨h, _⟩ | ⟨g', cap', cur, h, _, _, h3, h4, _⟩
        · cases h
        · cases h; exact h4
      generalize st'.length = m at *
      clear hown
      have HX := Lib.hid (And.intro hxb (And.intro hxn hxt))
      have HP := Lib.hid hp
      clear hxn hxt hp hxb
      have j1 : (0 : Int) < (m : Int) + 1 := by omega
      have j2 : (m : Int) < (m : Int) + 1 := by omega
      unfold maxLen at hcm
      have hBa : Hid (Below W.heap.size wr (wr.alloc (.cells #[.pointer (some ⟨x.b, x.off, none⟩), .int .i64 x.d] 98))) := (Below.refl _ wr).alloc hW.out.sz _
      obtain ⟨fn, tmps, assign, body, hy, hR⟩ := hY pre ((x.b, x.off), x.d) _ (HJ.out _ _ _ hW.out.j hBa.out) (by
        have h1 := hW.out.total
        have h2 := stk_ge (st' ++ [x])
        rw [hln] at h2
        omega)
      unfold encW at hy
      dsimp only at hy
      have HR := Lib.hid hR
      have HLN := Lib.hid hln
      have HX2 : Hid (x.b < w0.heap.size ∧ NdAt w0 x.b x.off x.t.o (.slice a x.t.l.length cap) ∧ x.t.At w0 a) := HX
      clear hR hY hln
      gi_wp2
      refine HR.out.mono ?_
      rintro e W3 (⟨rfl, hJ3, hk3⟩ | ⟨rfl, hJx3⟩)
      · obtain ⟨g1, go1, hag, hkids⟩ := kids_ok HX.out.2.2
        have hWz : Hid (∀ k, W.heap.size ≤ k → ¬ Z k) := fun k hk h => by have := (HZ.out k h).2; omega
        have KX : Hid (Keep w0 W3) := (hW.out.keep.below (below_alloc wr _ _ (Nat.le_refl _))).kz hk3 (fun k h => (HZ.out k h).1)
        have ROW : Hid (W3.ownsRow W.heap.size 98 2 (.slice (some ⟨g, 0, none⟩) m cap3) m (st'.flatMap Item.cells)) :=
          own_keep (own_below HP.out (below_alloc wr _ _ (Nat.le_refl _)) (Nat.le_refl _)) (fun k o hk ho hc => hk3.same k o (hWz.out k hk) ho (.inl hc))
        have TOP : Hid (W3.heap[wr.heap.size]? = some (.cells #[.pointer (some ⟨x.b, x.off, none⟩), .int .i64 x.d] 98)) := hk3.same _ _ (hWz.out _ hW.out.sz) (heap_alloc_new wr _) (.inl rfl)
        have SZ : Hid (W.heap.size ≤ W3.heap.size) := Nat.le_trans hW.out.sz (Nat.le_trans hBa.out.size hk3.size)
        have HJ3 := Lib.hid hJ3
        have HAG := Lib.hid hag
        have HKI := Lib.hid hkids
        have HST : Hid (st'.length = m) := by have := HLN.out; rw [List.length_append] at this; exact Nat.succ.inj this
        have hnm : m + x.t.l.length ≤ 2097152 := by
          have h1 := hW.out.total
          have h2 := stk_ge (st' ++ kids g1 go1 x.d x.t.l)
          have h3 : stk (st' ++ kids g1 go1 x.d x.t.l) ≤ stk (st' ++ [x]) := by
            unfold stk
            rw [List.map_append, List.map_append, List.sum_append, List.sum_append]
            have := kids_stk g1 go1 x.d x.t.l
            unfold stk at this
            rw [this]
            obtain ⟨xb, xoff, ⟨xo, xl⟩, xd⟩ := x
            simp only [List.map_cons, List.map_nil, List.sum_cons, List.sum_nil, T.size_mk, Nat.add_zero]
            show _ + (xl.map T.size).sum ≤ _
            omega
          rw [List.length_append, kids_length] at h2
          have := HST.out
          omega
        obtain ⟨kd, hkd⟩ : ∃ kd, kd = kids g1 go1 x.d x.t.l := ⟨_, rfl⟩
        have hkl : Hid (kd.length = x.t.l.length) := by unfold Hid; rw [hkd, kids_length]
        have hkt : Hid (∀ (i : Nat), i < x.t.l.length → ∃ t', kd[i]? = some ⟨g1, go1 + i * 22, t', x.d + 1⟩) := fun i hi => by rw [hkd]; exact ⟨_, kids_at (List.getElem?_eq_getElem hi)⟩
        have LT : Hid (stk (st' ++ kd.reverse) < stk (st'.concat x)) := by
          unfold Hid
          rw [List.concat_eq_append, hkd]
          unfold stk
          rw [List.map_append, List.map_append, List.sum_append, List.sum_append]
          have := kids_stk g1 go1 x.d x.t.l
          rw [← stk_rev] at this
          unfold stk at this
          rw [this]
          obtain ⟨xb, xoff, ⟨xo, xl⟩, xd⟩ := x
          simp only [List.map_cons, List.map_nil, List.sum_cons, List.sum_nil, T.size_mk, Nat.add_zero]
          show _ + (xl.map T.size).sum < _
          omega
        have NEXT : Hid (∀ (s3 : Value) (wi : World), wi.ownsRow W.heap.size 98 2 s3 (m + x.t.l.length) ((st' ++ kd.reverse).flatMap Item.cells) → Keep w0 wi → J (pre ++ [((x.b, x.off), x.d)]) wi → W.heap.size ≤ wi.heap.size → Walks w0 W t J (st' ++ kd.reverse) (pre ++ [((x.b, x.off), x.d)]) s3 wi) := by
          intro s3 wi q1 q2 q3 q4
          refine ⟨?_, fun y hy => ?_, q2, q4, q3, fun y hy => ?_, ?_⟩
          · rw [List.length_append, List.length_reverse, HST.out, hkl.out]
            exact q1
          · rcases List.mem_append.1 hy with h | h
            · exact hW.out.ok y (List.mem_append_left _ h)
            · exact hkids y (by rw [← hkd]; exact List.mem_reverse.1 h)
          · rcases List.mem_append.1 hy with h | h
            · exact hW.out.dep y (List.mem_append_left _ h)
            · have h2 := hW.out.dep x (by simp)
              obtain ⟨xb, xoff, ⟨xo, xl⟩, xd⟩ := x
              rw [hkd] at h
              obtain ⟨p, hp, rfl⟩ := List.mem_map.1 (List.mem_reverse.1 h)
              have h3 : p.1.size < (T.mk xo xl).size := T.size_le (o := xo) (List.fst_mem_of_mem_zipIdx hp)
              change xd + (T.mk xo xl).size ≤ t.size + 1 at h2
              show xd + 1 + p.1.size ≤ t.size + 1
              omega
          · rw [← hW.out.seq, List.map_append, List.reverse_append, List.reverse_reverse, List.flatMap_append, List.reverse_append, List.flatMap_append, hkd, kids_dl, List.append_assoc]
            congr 1
            obtain ⟨xb, xoff, ⟨xo, xl⟩, xd⟩ := x
            simp only [List.reverse_cons, List.reverse_nil, List.nil_append, List.flatMap_cons, List.flatMap_nil, List.append_nil, T.dl_mk, List.map_cons, List.map_nil, List.cons_append]
            rfl
        obtain ⟨i0, hi, hz0, hz1, hz2⟩ := info_parts info100
        have HI := Lib.hid hi
        have HZ0 := Lib.hid hz0
        have HZ1 := Lib.hid hz1
        have HZ2 := Lib.hid hz2
        have hgw : g ≠ wr.heap.size := by omega
        clear hJ3 hk3 hag hkids HR hy s0 s1 d21 hcap hcm hkd hi hz0 hz1 hz2 HLN HX2
        generalize hn : x.t.l.length = n at *
        have jd : (x.d : Int) ≤ 2097153 := by
          have := hW.out.dep x (by simp)
          omega
        have HN := Lib.hid hn
        clear hn
        obtain ⟨wo, rfl⟩ : ∃ wo : World, wo = wr := ⟨_, rfl⟩
        gi_wp2
        gi_loopg [3, 6] n (fun g6 s3 s6 wi => ∃ k : Nat, g6 = k ∧ s6 = .int .i64 ((k : Int) - 1) ∧ k ≤ n ∧ Hid (wi.ownsRow W.heap.size 98 2 s3 (m + (n - k)) ((st' ++ (kd.drop k).reverse).flatMap Item.cells)) ∧ Hid (Keep w0 wi) ∧ Hid (J (pre ++ [((x.b, x.off), x.d)]) wi) ∧
          Hid (wi.heap[wo.heap.size]? = some (.cells #[.pointer (some ⟨x.b, x.off, none⟩), .int .i64 x.d] 98)) ∧ Hid (W.heap.size ≤ wi.heap.size ∧ ∀ r, s3.ownBlock = some r → r ≠ wo.heap.size))
        case atStart =>
          refine ⟨n, rfl, rfl, Nat.le_refl _, ?_, KX, HJ3, TOP, SZ.out, fun r h => by cases h; exact hgw⟩
          unfold Hid
          rw [Nat.sub_self, List.drop_of_length_le (by rw [hkl.out]; omega), List.reverse_nil, List.append_nil]
          exact ROW.out
        case round =>
          obtain ⟨_, rfl, rfl, hk, hO, hKi, hJi, hTi, hSi⟩ := hrel
          clear hW HP HX
          cases gk with
          | zero =>
            have N2 : Hid (Walks w0 W t J (st' ++ kd.reverse) (pre ++ [((x.b, x.off), x.d)]) _ wr) := NEXT.out _ wr hO.out hKi.out hJi.out hSi.out.1
            clear NEXT hO hKi hJi hTi hSi
            gi_wp2
            gi_roundg (stk (st' ++ kd.reverse))
            case measure => exact LT.out
            case rel => exact ⟨_, _, rfl, N2⟩
          | succ q =>
            obtain ⟨t', ht'⟩ := hkt.out q (by omega)
            have ha := HAG.out (by omega)
            subst ha
            have e1 : ((q + 1 : Nat) : Int) - 1 = (q : Int) := by omega
            rw [e1]
            clear e1
            obtain ⟨sa, scap, rfl⟩ := own_slice hO.out
            have hT := hTi.out
            have hc0 := cell_of_heap hT 0
            have hc1 := cell_of_heap hT 1
            have hTl := lt_of_heap hT
            have j3 : (0 : Int) ≤ (q : Int) := by omega
            have jw : IntKind.i64.wrap ((x.d : Int) + 1) = (x.d : Int) + 1 := IntWalk.i64_in _ (by omega)
            have j4 : (q : Int) < (n : Int) := by omega
            clear hT NEXT LT
            gi_wp2
            refine wpIn_wide.2 ?_
            refine wp_region_multiR [([1, 2, 3, 4, 5, 6, 7, 0], [8, 9], [9, 10]), ([10], [], [])] (by kernel_rfl) (by kernel_rfl) ?_
            refine multi_phase (Below wr.heap.size wr) (Below.refl _ _).drew ?_
            iterate 8 (first | (apply first_step; (rw [List.getElem?_toArray]; (repeat rw [List.getElem?_cons_succ]); rw [List.getElem?_cons_zero]); rfl; (intro W hB; have hc := bcellB hB; go_simp; (first | done | rfl)); go_frame) | (apply first_skip; (rw [List.getElem?_toArray]; (repeat rw [List.getElem?_cons_succ]); rw [List.getElem?_cons_zero]); rfl; go_frame))
            refine first_done ?_
            apply forced_step; (rw [List.getElem?_toArray]; (repeat rw [List.getElem?_cons_succ]); rw [List.getElem?_cons_zero]); rfl; intro K hK; go_simp
            refine hK _ _ (fun _ => ?_) ?_
            · (repeat (first | with_reducible exact Below.refl _ _ | with_reducible exact hBW | with_reducible refine Below.setCell ?_ ?_ _ | with_reducible refine Below.alloc ?_ ?_ _ | with_reducible refine belowN ?_ _ | with_reducible refine Below.drew ?_)); all_goals (first | omega | (dsimp only; omega) | ((repeat (first | with_reducible refine le_alloc ?_ | with_reducible refine le_setCell ?_ | with_reducible refine le_drew ?_ | with_reducible refine le_drewN ?_)); omega))
            clear hK K
            apply forced_step; (rw [List.getElem?_toArray]; (repeat rw [List.getElem?_cons_succ]); rw [List.getElem?_cons_zero]); rfl; intro K hK
            refine wp_append_at (.tmp 43) (.tmp 51) 99 rfl W.heap.size 98 i0 _ 2 16 Tryz.underlying99 HI.out HZ0.out HZ1.out HZ2.out rfl (by decide) (.slice sa (m + (n - (q + 1))) scap) (m + (n - (q + 1))) _ rfl (hO.out.alloc _) ⟨wr.heap.size, 0, none⟩ 1 1 [.pointer (some ⟨g1, go1 + q * 22, none⟩), .int .i64 ((x.d : Int) + 1)] rfl rfl (fun j u hu => cells_new wr #[.pointer (some ⟨g1, go1 + q * 22, none⟩), .int .i64 ((x.d : Int) + 1)] 98 j u hu) (by simp [Value.oneCell']) (by unfold maxLen; omega) (by omega) (by simp; have := hSi.out.1; omega) ?_
            intro v' W5 hown5 hgrow5 hloc5
            have E1 : m + (n - (q + 1)) + 1 = m + (n - q) := by omega
            have E2 : (st' ++ (kd.drop (q + 1)).reverse).flatMap Item.cells ++ [.pointer (some ⟨g1, go1 + q * 22, none⟩), .int .i64 ((x.d : Int) + 1)] = (st' ++ (kd.drop q).reverse).flatMap Item.cells := by
              obtain ⟨hq, hqe⟩ := List.getElem?_eq_some_iff.1 ht'
              rw [List.drop_eq_getElem_cons hq, hqe, List.reverse_cons, ← List.append_assoc, List.flatMap_append (ys := [_]), List.flatMap_cons, List.flatMap_nil, List.append_nil]
              rfl
            rw [E1, E2] at hown5
            have O5 := Lib.hid hown5
            have hgb : Below W.heap.size (wr.alloc (.cells #[.pointer (some ⟨g1, go1 + q * 22, none⟩), .int .i64 ((x.d : Int) + 1)] 98)).drew W5 := (Below.refl _ _).grown hgrow5 (by simp; have := hSi.out.1; omega) (own_base hO.out)
            have hB5 : Hid (Below W.heap.size wr W5) := (((Below.refl _ wr).alloc hSi.out.1 _).drew).trans hgb
            have hT5 : Hid (W5.heap[wo.heap.size]? = some (.cells #[.pointer (some ⟨x.b, x.off, none⟩), .int .i64 x.d] 98)) :=
              (hgrow5.block _ (by simp; omega) (fun e => hSi.out.2 _ e.symm rfl)).trans (heap_drew_old (heap_alloc_old hTi.out _))
            have hS5 : Hid (W.heap.size ≤ W5.heap.size ∧ ∀ r, v'.ownBlock = some r → r ≠ wo.heap.size) := ⟨Nat.le_trans hSi.out.1 hB5.out.size, fun r hr => by
              rcases hloc5 with h | h
              · exact hSi.out.2 r (h ▸ hr)
              · rw [h] at hr; cases hr; simp; omega⟩
            have hK5 : Hid (Keep w0 W5) := hKi.out.low hB5.out HK.out.size
            have hJ5 : Hid (J (pre ++ [((x.b, x.off), x.d)]) W5) := HJ.out _ _ _ hJi.out hB5.out
            refine hK _ _ (fun h => absurd (by decide) h) ?_
            clear hK K hB5 hgb hown5 hgrow5 hloc5 hO hKi hJi hTi hSi E1 E2 hc0 hc1
            go_frame
            refine forced_done ?_
            refine multi_phase (fun _ => True) trivial ?_
            apply first_step; (rw [List.getElem?_toArray]; (repeat rw [List.getElem?_cons_succ]); rw [List.getElem?_cons_zero]); rfl; (intro W hB; go_simp; (first | done | rfl)); go_frame
            refine first_done ?_
            refine forced_done ?_
            refine multi_done ?_
            gi_wp2
            gi_roundg q
            case measure => exact Nat.lt_succ_self q
            case rel => exact ⟨q, rfl, rfl, by omega, O5, hK5, hJ5, hT5, hS5⟩
      · have HJ3 := Lib.hid hJx3
        have PF : Hid ((pre ++ [((x.b, x.off), x.d)]).map Prod.snd <+: t.dl 1) := by
          unfold Hid
          have := hW.out.seq
          rw [List.reverse_append, List.flatMap_append] at this
          rw [← this, List.map_append]
          refine (List.prefix_append_right_inj _).2 ?_
          obtain ⟨xb, xoff, ⟨xo, xl⟩, xd⟩ := x
          simp only [List.reverse_cons, List.reverse_nil, List.nil_append, List.flatMap_cons, List.flatMap_nil, List.append_nil, T.dl_mk, List.map_cons, List.map_nil]
          exact ⟨_, rfl⟩
        clear hJx3 HR hy
        gi_wp2
        refine bodyPost_ret (results_none rfl _ _ _) rfl ?_
        exact ⟨⟨_, rfl⟩, .inr ⟨_, PF.out, HJ3.out⟩⟩
theorem walk_stops (Bn b off : Nat) (t : T) (ht : t.size ≤ 2097152) (w0 w : World) (Z : Nat → Prop) (hZ : ∀ k, Z k → w0.heap.size ≤ k ∧ k < w.heap.size) (hBn : w.heap[Bn]? = some (.cells #[.pointer (some ⟨b, off, none⟩)] 75)) (hv : (⟨b, off, t, 1⟩ : Item).ok w0) (hK : Keep w0 w) :
    SeqLow Fence.wide 7 Tryz.prog 50 #[.pointer (some ⟨Bn, 0, none⟩)] encW Z (fun ys => ys.map Prod.snd = t.dl 1) (fun pre => pre.map Prod.snd <+: t.dl 1) t.size w := fun l J Jx W hW hJ _ hY h0 =>
  walk_inn l Bn b off t ht w0 Z J Jx hY W (fun k h => ⟨(hZ k h).1, Nat.lt_of_lt_of_le (hZ k h).2 hW.size⟩) ((hW.block Bn (lt_of_heap hBn)).trans hBn) hv (hK.below hW) hJ h0
end Go.Proofs.YtlcglkanlhmmdaaGreat
