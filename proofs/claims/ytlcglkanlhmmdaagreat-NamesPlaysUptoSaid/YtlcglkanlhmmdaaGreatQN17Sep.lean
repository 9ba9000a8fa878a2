/- names.separate: a node, and all below it, in memory of their own. -/
import Derived.Test.YtlcglkanlhmmdaaGreatQN17Owned
namespace Go.Proofs.YtlcglkanlhmmdaaGreat
open Go.RowKit
theorem rows_of_at {w : World} {o : Nd} {l : List T} {a : Option Addr} (h : (T.mk o l).At w a) (h0 : 0 < l.length) : ∃ (b off : Nat) (es : List (Nd × Value)), a = some ⟨b, off, none⟩ ∧ es.length = l.length ∧ (∀ j v, (rowC es)[j]? = some v → w.cell? ⟨b, off + j, none⟩ = some v) ∧
    ∀ (i : Nat) (t : T), l[i]? = some t → ∃ a' c', es[i]? = some (t.o, .slice a' t.l.length c') ∧ t.At w a' := by
  obtain ⟨b, off, h1, h2, h3⟩ := T.at_mk.1 h h0
  have hch : ∀ i : Fin l.length, ∃ p : Option Addr × Nat, (∀ j, j < 22 → w.cell? ⟨b, off + i.1 * 22 + j, none⟩ = (ncells l[i].o (.slice p.1 l[i].l.length p.2))[j]?) ∧ T.At w l[i] p.1 := fun i => by
    obtain ⟨a', c', p1, p2⟩ := h3 i.1 l[i] (List.getElem?_eq_getElem i.2)
    exact ⟨(a', c'), p1, p2⟩
  have hch2 : ∃ f : Fin l.length → Option Addr × Nat, ∀ i, (∀ j, j < 22 → w.cell? ⟨b, off + i.1 * 22 + j, none⟩ = (ncells l[i].o (.slice (f i).1 l[i].l.length (f i).2))[j]?) ∧ T.At w l[i] (f i).1 := ⟨fun i => Classical.choose (hch i), fun i => Classical.choose_spec (hch i)⟩
  obtain ⟨f, hf⟩ := hch2
  refine ⟨b, off, List.ofFn fun i : Fin l.length => (l[i].o, .slice (f i).1 l[i].l.length (f i).2), h1, by simp, ?_, ?_⟩
  · intro j v hv
    have hj := (List.getElem?_eq_some_iff.1 hv).1
    rw [rowC_length, List.length_ofFn] at hj
    have hq : j / 22 < l.length := by omega
    have e : j = j / 22 * 22 + j % 22 := by omega
    have hm : j % 22 < 22 := Nat.mod_lt _ (by omega)
    rw [e, rowC_at (o := l[j / 22].o) (s := .slice (f ⟨j / 22, hq⟩).1 l[j / 22].l.length (f ⟨j / 22, hq⟩).2) (by simp [hq]) hm] at hv
    rw [e, ← hv, ← Nat.add_assoc]
    exact (hf ⟨j / 22, hq⟩).1 _ hm
  · intro i t ht
    obtain ⟨hi, rfl⟩ := List.getElem?_eq_some_iff.1 ht
    exact ⟨(f ⟨i, hi⟩).1, (f ⟨i, hi⟩).2, by simp [hi], (hf ⟨i, hi⟩).2⟩
theorem rowC_one {es : List (Nd × Value)} (h : ∀ p ∈ es, p.2.oneCell' = true) : ∀ v ∈ rowC es, v.oneCell' = true := by
  intro v hv
  obtain ⟨p, hp, hv2⟩ := List.mem_flatMap.1 hv
  exact one_nd p.1 (h p hp) v hv2
theorem setRow_alloc (w : World) (M C : Array Value) (t : TypeId) : (w.alloc (.cells M t)).setRow w.heap.size C = w.alloc (.cells C t) := by
  unfold World.setRow World.alloc
  congr 1
  simp only
  apply Array.ext_getElem?
  intro i
  rw [Array.getElem?_modify]
  by_cases hi : w.heap.size = i
  · subst hi
    simp
  · rw [if_neg hi, Array.getElem?_push, Array.getElem?_push]
    rw [if_neg (Ne.symm hi), if_neg (Ne.symm hi)]
section
variable {ops : Array Oper} {rest : List Oper} {op : Oper} {a : Act} {w : World} {Q : Exit → Act → World → Prop}
theorem wpList_make_nd (hw : Region.wanted op (yielded ops a.tmps) = true) (x y : Operand) (ho : op.op = .makeSlice 40 x y) (n : Nat) (hn : n ≤ 2097152) (hx : a.eval x = .int .i64 (n : Int)) (hy : a.eval y = .int .i64 (n : Int))
    (h : ∀ M : Array Value, M.size = n * 22 → wpList Tryz.prog ops Q rest (a.put op.dst (.slice (some ⟨w.heap.size, 0, none⟩) n n)) (w.alloc (.cells M 42))) : wpList Tryz.prog ops Q (op :: rest) a w :=
  wpList_step fun K hK => by
    rw [if_pos hw]
    obtain ⟨i0, hi, hz0, hz1, hz2⟩ := info_parts info35z
    have hr := run_make (P := Tryz.prog) w 40 42 i0 _ Tryz.underlying40 hi hz0 .i64 .i64 (n : Int) (n : Int) (by omega) (Int.le_refl _) (by rw [hz2]; omega) (by omega)
    unfold Oper.wp execOp
    simp only [ho, hx, hy, Sem.run_bind, hr, Result.andThen_ok, Int.toNat_natCast, hz1]
    exact hK _ _ (h _ (size_madeCells _ _))
set_option maxRecDepth 100000 in
theorem wpList_copy_nd (hw : Region.wanted op (yielded ops a.tmps) = true) (x y : Operand) (ho : op.op = .call { callee := .builtin .copy, args := #[x, y], argTypes := #[40, 40] }) (n cap b off : Nat)
    (g : Nat) (hg : g = w.heap.size) (hx : a.eval x = .slice (some ⟨g, 0, none⟩) n n) (hy : a.eval y = .slice (some ⟨b, off, none⟩) n cap) (M : Array Value) (hM : M.size = n * 22) (es : List (Nd × Value)) (hes : es.length = n)
    (h1 : ∀ p ∈ es, p.2.oneCell' = true) (hsrc : ∀ j v, (rowC es)[j]? = some v → (w.alloc (.cells M 42)).cell? ⟨b, off + j, none⟩ = some v)
    (h : wpList Tryz.prog ops Q rest (a.put op.dst (goInt n)) (w.alloc (.cells (rowC es).toArray 42))) : wpList Tryz.prog ops Q (op :: rest) a (w.alloc (.cells M 42)) :=
  wpList_step fun K hK => by
    subst hg
    rw [if_pos hw]
    obtain ⟨i0, hi, hz0, hz1, hz2⟩ := info_parts info35z
    have hl := run_loadCells_list (P := Tryz.prog) (w.alloc (.cells M 42)) ⟨b, off, none⟩ (rowC es) (fun j v hv => by rw [Addr.add_mid]; exact hsrc j v hv)
    have hst := run_storeCells_at Tryz.prog w.heap.size 0 42 (rowC es) 0 M (w.alloc (.cells M 42)) (heap_alloc_new w _) (by rw [rowC_length]; omega) (rowC_one h1)
    rw [rowC_length, hes] at hl
    have e : (M.toList.take (0 + 0) ++ rowC es ++ M.toList.drop (0 + 0 + (rowC es).length)).toArray = (rowC es).toArray := by
      congr 1
      rw [List.drop_of_length_le (by rw [rowC_length, Array.length_toList]; omega)]
      simp
    rw [e, setRow_alloc] at hst
    have hrun : (Builtin.copy_ #[40, 40] op.type #[.slice (some ⟨w.heap.size, 0, none⟩) n n, .slice (some ⟨b, off, none⟩) n cap]).run Tryz.prog (w.alloc (.cells M 42)) = .ok (goInt n) (w.alloc (.cells (rowC es).toArray 42)) := by
      simp [Builtin.copy_, run_underlying Tryz.underlying40, Builtin.lenOf, Builtin.firstCells, sizeOf, typeInfo, hi, hz1, hl, hst]
    unfold Oper.wp
    simp [execOp, ho, resolve, invoke, builtin, hx, hy, hrun, Result.andThen]
    exact hK _ _ h
end
theorem sum_rest : ∀ (l : List T) (i : Nat), i ≤ l.length → (l.length - i) + ((l.take i).map T.size).sum ≤ (l.map T.size).sum
  | [], i, h => by simp at h; subst h; simp
  | t :: r, 0, _ => by
    have h := sum_rest r 0 (Nat.zero_le _)
    have : 1 ≤ t.size := by cases t; rw [T.size_mk]; omega
    rw [List.take_zero, List.map_nil, List.sum_nil] at h ⊢
    rw [List.map_cons, List.sum_cons, List.length_cons]
    omega
  | t :: r, i + 1, h => by
    have h2 := sum_rest r i (by simpa using h)
    rw [List.take_succ_cons, List.map_cons, List.sum_cons, List.map_cons, List.sum_cons, List.length_cons]
    omega
/-- What separate does to a node at b, off. -/
def SepR (w : World) (b off q : Nat) (C : List Value) (k : Int) (t : T) : Ending → World → Prop := fun e w' => e = .returned (.bool true) ∧ ∃ a' S,
  w'.heap[b]? = some (.cells (C.set (off + 21) (.slice a' t.l.length t.l.length)).toArray 42) ∧ w'.heap[q]? = some (.cells #[.int .i64 (k - ((t.size : Int) - 1))] 3) ∧ t.Own w' a' S ∧ (∀ x, S x → w.heap.size ≤ x ∧ x < w'.heap.size) ∧ Fr (fun x => x = b ∨ x = q) w w'
/-- Between two rounds: i of the row at g have memory of their own. -/
structure SepI (w0 w : World) (l : List T) (b q g : Nat) (C : List Value) (k : Int) (es0 : List (Nd × Value)) (i : Nat) (wr : World) : Prop where
  hb : wr.heap[b]? = some (.cells C.toArray 42)
  hq : wr.heap[q]? = some (.cells #[.int .i64 (k - (l.length : Int) + (i : Int) - (((l.take i).map T.size).sum : Nat))] 3)
  keep : Keep w0 wr
  fr : Fr (fun x => x = q) w wr
  sz : g < wr.heap.size
  row : ∃ (es : List (Nd × Value)) (Si : Nat → Nat → Prop), wr.heap[g]? = some (.cells (rowC es).toArray 42) ∧ es.length = l.length ∧ (∀ j, i ≤ j → es[j]? = es0[j]?) ∧
    ∀ (j : Nat) (t : T), j < i → l[j]? = some t → (∃ a', es[j]? = some (t.o, .slice a' t.l.length t.l.length) ∧ t.Own wr a' (Si j)) ∧ (∀ x, Si j x → g < x ∧ x < wr.heap.size ∧ ∀ j', j' < j → ¬ Si j' x)
set_option maxHeartbeats 4000000 in
set_option maxRecDepth 100000 in
theorem separate_any (t : T) : ∀ (_ : t.size ≤ 2097152) (w0 w : World) (b off q : Nat) (k : Int) (C : List Value) (a : Option Addr) (cap : Nat), t.At w0 a → Keep w0 w → w0.heap.size ≤ q → w0.heap.size ≤ b →
    w.heap[q]? = some (.cells #[.int .i64 k] 3) → w.heap[b]? = some (.cells C.toArray 42) → b ≠ q → (∀ j, j < 22 → C[off + j]? = (ncells t.o (.slice a t.l.length cap))[j]?) → (t.size : Int) - 1 ≤ k → k ≤ 2097152 →
    Calls Tryz.prog 38 #[.pointer (some ⟨b, off, none⟩), .pointer (some ⟨q, 0, none⟩)] w (SepR w b off q C k t) := by
  induction t using T.ind with
  | h o l ih =>
    intro hz w0 w b off q k C a cap hA hK hq0 hb0 hq hb hne hC hk1 hk2
    change ∀ j, j < 22 → C[off + j]? = (ncells o (.slice a l.length cap))[j]? at hC
    have hlen : l.length ≤ 2097152 := by have := T.len_le o l; omega
    have hlk : (l.length : Int) ≤ k := by have := T.len_le o l; omega
    have hsum : ((l.map T.size).sum : Int) ≤ k := by rw [T.size_mk] at hk1; omega
    have IH := Lib.hid ih
    have HA := Lib.hid hA
    have HK := Lib.hid hK
    have HSM := Lib.hid hsum
    obtain ⟨n, hn⟩ : ∃ n, l.length = n := ⟨_, rfl⟩
    rw [hn] at hC hlen hlk
    have c21 : w.cell? ⟨b, off + 21, none⟩ = some (.slice a n cap) := by rw [cell_of_heap hb, List.getElem?_toArray]; exact hC 21 (by omega)
    have cq := cell_of_heap hq 0
    have fq := frozen_of_heap hq 0
    have zq := lt_of_heap hq
    have zb := lt_of_heap hb
    have HQ := Lib.hid hq
    have HB := Lib.hid hb
    have HC := Lib.hid hC
    have HN := Lib.hid hn
    have HZ := Lib.hid hz
    have HK1 := Lib.hid hk1
    clear ih hA hK hn hz hq hb hC hk1 hsum
    have jw : IntKind.i64.wrap (k - (n : Int)) = k - (n : Int) := IntWalk.i64_in _ (by omega)
    go_enter Tryz.func38, Tryz.ntmps38
    go_wp2_with fail
    refine wp_region_mix [0, 1, 2, 3, 4, 5, 6, 7, 8, 9] [10] [10] (Below w.heap.size w) (by kernel_rfl) (by kernel_rfl) (Below.refl _ _).drew ?_
    iterate 10 (first | (apply first_step; (rw [List.getElem?_toArray]; (repeat rw [List.getElem?_cons_succ]); rw [List.getElem?_cons_zero]); rfl; (intro W hB; have hc := bcellB hB; go_simp; (first | done | rfl)); go_frame) | (apply first_skip; (rw [List.getElem?_toArray]; (repeat rw [List.getElem?_cons_succ]); rw [List.getElem?_cons_zero]); rfl; go_frame))
    refine first_done ?_
    apply tail_step; (rw [List.getElem?_toArray]; (repeat rw [List.getElem?_cons_succ]); rw [List.getElem?_cons_zero]); rfl; rfl; intro K hK; go_simp
    refine hK _ _ (fun h => absurd (by decide) h) ?_
    clear hK K
    refine tail_done ?_
    obtain ⟨W1, hW1⟩ : ∃ W1, W1 = (w.setCell ⟨q, 0, none⟩ (.int .i64 (k - (n : Int)))).drew := ⟨_, rfl⟩
    rw [← hW1]
    have hf1 : Fr (fun x => x = q) w W1 := by rw [hW1]; exact (Fr.setCell w ⟨q, 0, none⟩ _).trans (Fr.of_below (below_drewN _ 1 _)) (fun i _ h => h)
    have hz1 : W1.heap.size = w.heap.size := by rw [hW1]; exact World.size_setCell _ _ _
    have hq1 : W1.heap[q]? = some (.cells #[.int .i64 (k - (n : Int))] 3) := by rw [hW1]; exact heap_setCell_at HQ.out 0 _
    have hb1 : W1.heap[b]? = some (.cells C.toArray 42) := (hf1.block b zb hne).trans HB.out
    have d21 : W1.cell? ⟨b, off + 21, none⟩ = some (.slice a n cap) := by rw [cell_of_heap hb1, List.getElem?_toArray]; exact HC.out 21 (by omega)
    have e21 := frozen_of_heap hb1 (off + 21)
    have dq := cell_of_heap hq1 0
    have zq1 := lt_of_heap hq1
    have zb1 := lt_of_heap hb1
    have F1 := Lib.hid hf1
    have Z1 := Lib.hid hz1
    have Q1 := Lib.hid hq1
    have B1 := Lib.hid hb1
    have hk0 : decide (k - (n : Int) < 0) = false := by simp; omega
    clear hW1 hf1 hz1 hq1 hb1 c21 cq fq jw
    by_cases h0 : n = 0
    · have d0 : ((n : Int) == 0) = true := by simp [h0]
      have H0 := Lib.hid h0
      clear h0
      go_wp2_with fail
      go_ret
      have hl0 : l = [] := List.length_eq_zero_iff.1 (HN.out.trans H0.out)
      subst hl0
      refine ⟨rfl, none, fun _ => False, ?_, ?_, T.Own.nil _ _, fun x h => h.elim, ?_⟩
      · have := heap_setCell_at B1.out (off + 21) (.slice none 0 0)
        rw [List.setIfInBounds_toArray] at this
        exact this
      · rw [Below.heap_setCell _ _ _ _ (Ne.symm hne), Q1.out, H0.out]
        have : (T.mk o []).size = 1 := by rw [T.size_mk]; rfl
        rw [this]
        simp
      · exact (F1.out.mono (fun x _ h => .inr h)).trans ((Fr.setCell W1 ⟨b, off + 21, none⟩ _).mono (fun x _ h => .inl h)) (fun i _ h => h)
    · have d0 : ((n : Int) == 0) = false := by simp [h0]
      have H0 : Hid (0 < n) := Nat.pos_of_ne_zero h0
      clear h0
      obtain ⟨gb, go, es0, rfl, he1, he2, he3⟩ := rows_of_at HA.out (by rw [HN.out]; exact H0.out)
      rw [HN.out] at he1
      have HE1 := Lib.hid he1
      have HE3 := Lib.hid he3
      have h1 : ∀ p ∈ es0, p.2.oneCell' = true := fun p hp => by
        obtain ⟨i, hi⟩ := List.mem_iff_getElem?.1 hp
        have hil : i < l.length := by have := (List.getElem?_eq_some_iff.1 hi).1; rw [HN.out]; omega
        obtain ⟨a', c', p1, _⟩ := he3 i l[i] (List.getElem?_eq_getElem hil)
        rw [hi] at p1
        cases p1
        rfl
      have HO := Lib.hid h1
      have hsrc : ∀ (M : Array Value) (j : Nat) (v : Value), (rowC es0)[j]? = some v → (W1.alloc (.cells M 42)).cell? ⟨gb, go + j, none⟩ = some v := fun M j v hv => by
        have h2 := HK.out.cell (he2 j v hv)
        have h3 : W1.cell? ⟨gb, go + j, none⟩ = some v := by
          have hgl : gb < w.heap.size := World.block_lt_of_cell? w _ h2
          have : gb ≠ q := fun e => by
            have h4 := he2 j v hv
            rw [e] at h4
            have h5 : q < w0.heap.size := World.block_lt_of_cell? w0 _ h4
            omega
          rw [← h2]
          unfold World.cell?
          rw [F1.out.block gb hgl this]
        exact cell_new_old _ h3
      have HS := Lib.hid hsrc
      clear he1 he2 he3 h1 hsrc
      go_wp2_with (first | (refine wpList_make_nd rfl (.tmp 34) (.tmp 34) rfl n hlen rfl rfl ?_; intro M hM) | (refine wpList_copy_nd rfl (.tmp 36) (.tmp 40) rfl n cap gb go W1.heap.size rfl rfl rfl M hM es0 HE1.out HO.out (HS.out M) ?_))
      have START : Hid (SepI w0 w l b q W1.heap.size C k es0 0 (W1.alloc (.cells (rowC es0).toArray 42))) := by
        refine ⟨heap_alloc_old B1.out _, ?_, ?_, F1.out.trans (Fr.of_below (below_alloc W1 _ _ (Nat.le_refl _))) (fun _ _ h => by omega), by simp, es0, fun _ _ => False, heap_alloc_new W1 _, by rw [HE1.out, HN.out], fun _ _ => rfl, fun j t h => by omega⟩
        · rw [heap_alloc_old Q1.out, HN.out]
          simp
        · exact (HK.out.low (F1.out.below (Nat.le_trans HK.out.size (Nat.le_refl _)) (fun x h => by omega)) (Nat.le_refl _)).below (below_alloc W1 _ _ (Nat.le_refl _))
      have hgs : Hid (W1.heap.size = w.heap.size) := Z1
      have hw0g : Hid (w0.heap.size ≤ W1.heap.size) := by unfold Hid; rw [Z1.out]; exact HK.out.size
      clear d21 e21 dq hk0 d0
      generalize hg : W1.heap.size = g at *
      clear HS Q1 B1 F1
      go_loopg [44] n (fun gh s44 wr => ∃ i : Nat, s44 = .int .i64 (i : Int) ∧ gh = n - i ∧ i ≤ n ∧ Hid (SepI w0 w l b q g C k es0 i wr))
      case atStart => exact ⟨0, rfl, rfl, Nat.zero_le _, START⟩
      case round =>
        obtain ⟨i, rfl, rfl, hi, hI⟩ := hrel
        clear START
        by_cases hlt : i < n
        · obtain ⟨t, ht⟩ : ∃ t, l[i]? = some t := ⟨_, List.getElem?_eq_getElem (by rw [HN.out]; exact hlt)⟩
          obtain ⟨es, Si, hrow, hel, hrest, hdone⟩ := hI.out.row
          obtain ⟨a', c', hes, hat⟩ := HE3.out i t ht
          rw [← hrest i (Nat.le_refl _)] at hes
          have hts : t.size < (T.mk o l).size := T.size_le (List.mem_of_getElem? ht)
          have hsm := sum_take ht
          have hsl := sum_le (l := l) (i + 1)
          have CALL := Lib.hid (IH.out t (List.mem_of_getElem? ht) (by have := HZ.out; omega) w0 wr g (i * 22) q (k - (l.length : Int) + (i : Int) - (((l.take i).map T.size).sum : Nat)) (rowC es) a' c' hat hI.out.keep hq0 hw0g.out hI.out.hq hrow (by have := hgs.out; omega) (fun j hj => rowC_at hes hj) (by
            have h1 := HSM.out
            have h2 := HN.out
            rw [hsm] at hsl
            have h3 := sum_rest l (i + 1) (by omega)
            omega) (by have := HN.out; omega))
          have j1 : (0 : Int) ≤ (i : Int) := by omega
          have j2 : (i : Int) < (n : Int) := by omega
          have NEXT : Hid (∀ (w3 : World) (a3 : Option Addr) (S : Nat → Prop), w3.heap[g]? = some (.cells ((rowC es).set (i * 22 + 21) (.slice a3 t.l.length t.l.length)).toArray 42) →
              w3.heap[q]? = some (.cells #[.int .i64 (k - (l.length : Int) + (i : Int) - (((l.take i).map T.size).sum : Nat) - ((t.size : Int) - 1))] 3) → t.Own w3 a3 S → (∀ x, S x → wr.heap.size ≤ x ∧ x < w3.heap.size) → Fr (fun x => x = g ∨ x = q) wr w3 → SepI w0 w l b q g C k es0 (i + 1) w3) := by
            intro w3 a3 S p1 p2 p3 p4 p5
            have hgq : w.heap.size = g := hgs.out.symm
            refine ⟨(p5.block b (lt_of_heap hI.out.hb) (by omega)).trans hI.out.hb, ?_, hI.out.keep.low (p5.below (Nat.le_trans hI.out.keep.size (Nat.le_refl _)) (fun x h => ?_)) (Nat.le_refl _), hI.out.fr.trans p5 (fun x h1 h2 => by omega), Nat.lt_of_lt_of_le hI.out.sz p5.size,
              es.set i (t.o, .slice a3 t.l.length t.l.length), fun j x => if j = i then S x else Si j x, ?_, by rw [List.length_set]; exact hel, fun j hj => ?_, fun j u hj hu => ?_⟩
            · have e : k - (l.length : Int) + (i : Int) - (((l.take i).map T.size).sum : Nat) - ((t.size : Int) - 1) = k - (l.length : Int) + ((i + 1 : Nat) : Int) - (((l.take (i + 1)).map T.size).sum : Nat) := by
                rw [sum_take ht]
                push_cast
                omega
              rw [p2, e]
            · have := hw0g.out
              rcases h with rfl | rfl
              · exact hw0g.out
              · exact hq0
            · rw [← rowC_set hes]
              exact p1
            · rw [List.getElem?_set_ne (by omega)]
              exact hrest j (by omega)
            · by_cases hji : j = i
              · subst hji
                rw [ht] at hu
                cases hu
                refine ⟨⟨a3, by rw [List.getElem?_set_self (by rw [hel, HN.out]; exact hlt)], by simpa using p3⟩, fun x hx => ?_⟩
                dsimp only at hx
                rw [if_pos rfl] at hx
                have hx2 := p4 x hx
                refine ⟨Nat.lt_of_lt_of_le hI.out.sz hx2.1, hx2.2, fun j' hj' hs => ?_⟩
                dsimp only at hs
                rw [if_neg (by omega)] at hs
                obtain ⟨u', hu'⟩ : ∃ u', l[j']? = some u' := ⟨_, List.getElem?_eq_getElem (by rw [HN.out]; omega)⟩
                have := ((hdone j' u' hj' hu').2 x hs).2.1
                omega
              · obtain ⟨⟨a4, q1, q2⟩, q3⟩ := hdone j u (by omega) hu
                refine ⟨⟨a4, by rw [List.getElem?_set_ne (Ne.symm hji)]; exact q1, ?_⟩, fun x hx => ?_⟩
                · have e : (fun x => if j = i then S x else Si j x) = Si j := by funext x; rw [if_neg hji]
                  show u.Own w3 a4 (fun x => if j = i then S x else Si j x)
                  rw [e]
                  exact q2.frame u (fun x hx hxl => p5.block x hxl (by have := (q3 x hx).1; have := lt_of_heap hI.out.hq; omega))
                · dsimp only at hx
                  rw [if_neg hji] at hx
                  obtain ⟨r1, r2, r3⟩ := q3 x hx
                  refine ⟨r1, Nat.lt_of_lt_of_le r2 p5.size, fun j' hj' hs => ?_⟩
                  dsimp only at hs
                  rw [if_neg (by omega)] at hs
                  exact r3 j' hj' hs
          clear hrow hrest hdone hes hat hel hsm hsl ht hts hI
          go_wp2_with fail
          refine CALL.out.mono ?_
          rintro e w3 ⟨rfl, a3, S, p1, p2, p3, p4, p5⟩
          have NX := Lib.hid (NEXT.out w3 a3 S p1 p2 p3 p4 p5)
          clear p1 p2 p3 p4 p5 CALL NEXT
          go_wp2_with fail
          go_roundg (n - (i + 1))
          case measure => omega
          case rel => exact ⟨i + 1, by go_num, rfl, by omega, NX⟩
        · have hin : i = n := by omega
          obtain ⟨es, Si, hrow, hel, _, hdone⟩ := hI.out.row
          have hbr := hI.out.hb
          have f21 := frozen_of_heap hbr (off + 21)
          have x21 : wr.cell? ⟨b, off + 21, none⟩ = some (.slice (some ⟨gb, go, none⟩) n cap) := by rw [cell_of_heap hbr, List.getElem?_toArray]; exact HC.out 21 (by omega)
          have zbr := lt_of_heap hbr
          have END : Hid (SepR w b off q C k (T.mk o l) (.returned (.bool true)) (wr.setCell ⟨b, off + 21, none⟩ (.slice (some ⟨g, 0, none⟩) n n))) := by
            have hgq : w.heap.size = g := hgs.out.symm
            refine ⟨rfl, some ⟨g, 0, none⟩, fun x => x = g ∨ ∃ j, j < n ∧ Si j x, ?_, ?_, ?_, ?_, ?_⟩
            · have := heap_setCell_at hbr (off + 21) (.slice (some ⟨g, 0, none⟩) n n)
              rw [List.setIfInBounds_toArray] at this
              rw [this]
              show _ = some (Obj.cells (C.set (off + 21) (.slice (some ⟨g, 0, none⟩) l.length l.length)).toArray 42 (0, 0))
              rw [HN.out]
            · rw [Below.heap_setCell _ _ _ _ (Ne.symm hne), hI.out.hq, T.size_mk, hin, List.take_of_length_le (by rw [HN.out]; exact Nat.le_refl _)]
              have e : k - (l.length : Int) + (n : Int) - ((l.map T.size).sum : Nat) = k - (((1 + (l.map T.size).sum : Nat) : Int) - 1) := by
                have := HN.out
                push_cast
                omega
              rw [e]
            · rw [T.own_mk]
              intro _
              refine ⟨g, es, Si, rfl, .inl rfl, (Below.heap_setCell _ _ _ _ (show g ≠ b by omega)).trans hrow, hel, fun j u hu => ?_⟩
              have hjn : j < n := by have := (List.getElem?_eq_some_iff.1 hu).1; rw [HN.out] at this; exact this
              obtain ⟨⟨a4, q1, q2⟩, q3⟩ := hdone j u (by omega) hu
              refine ⟨⟨a4, _, q1, q2.frame u (fun x hx _ => Below.heap_setCell _ _ _ _ (show x ≠ b by have := (q3 x hx).1; omega))⟩, fun x hx => ⟨.inr ⟨j, hjn, hx⟩, by have := (q3 x hx).1; omega, (q3 x hx).2.2⟩⟩
            · rintro x (rfl | ⟨j, hj, hx⟩)
              · exact ⟨by omega, by rw [World.size_setCell]; exact hI.out.sz⟩
              · obtain ⟨u, hu⟩ : ∃ u, l[j]? = some u := ⟨_, List.getElem?_eq_getElem (by rw [HN.out]; exact hj)⟩
                have := (hdone j u (by omega) hu).2 x hx
                rw [World.size_setCell]
                omega
            · exact (hI.out.fr.mono (fun x _ h => .inr h)).trans ((Fr.setCell wr ⟨b, off + 21, none⟩ _).mono (fun x _ h => .inl h)) (fun i _ h => h)
          clear hrow hdone hel hbr hI
          go_wp2_with fail
          go_ret
          exact END.out
end Go.Proofs.YtlcglkanlhmmdaaGreat
/- names.copied: the same tree in memory of its own. -/
namespace Go.Proofs.YtlcglkanlhmmdaaGreat
open Go.RowKit
theorem results_nd1 {fn : Func} {tm : Array Value} {k b off : Nat} {o : Nd} {s : Value} {W : World} (hf : fn.results = #[.cell k 42]) (ht : tm.getD k undef = .pointer (some ⟨b, off, none⟩)) (hr : W.rangeAt b off (ncells o s)) :
    (results fn tm).run Tryz.prog W = .ok (nagg o s) W := by
  have h := run_loadVar_mid (P := Tryz.prog) W b off 42 (ncells o s) _ hr Tryz.underlying42 rfl info35
  have ht2 : tm[k]?.getD undef = .pointer (some ⟨b, off, none⟩) := by rw [← ht]; simp
  unfold results
  simp [hf, h, asAddr, ht2]
  rfl
theorem abs_calls {P : Program} {f : FuncId} {args : Array Value} {w : World} {R : Ending → World → Prop} (h : ∀ W, W = w → Calls P f args W R) : Calls P f args w R := h w rfl
theorem results_nd2 {fn : Func} {tm : Array Value} {k m b off : Nat} {o : Nd} {s v : Value} {W : World} (hf : fn.results = #[.cell k 42, .tmp m]) (ht : tm.getD k undef = .pointer (some ⟨b, off, none⟩)) (hm : tm.getD m undef = v) (hr : W.rangeAt b off (ncells o s)) :
    (results fn tm).run Tryz.prog W = .ok (.tuple #[nagg o s, v]) W := by
  have h := run_loadVar_mid (P := Tryz.prog) W b off 42 (ncells o s) _ hr Tryz.underlying42 rfl info35
  have ht2 : tm[k]?.getD undef = .pointer (some ⟨b, off, none⟩) := by rw [← ht]; simp
  have hm2 : tm[m]?.getD undef = v := by rw [← hm]; simp
  unfold results
  simp [hf, h, asAddr, ht2, hm2]
  rfl
section
variable {ops : Array Oper} {rest : List Oper} {op : Oper} {a : Act} {w : World} {Q : Exit → Act → World → Prop}
/-- A whole node is stored. -/
theorem wp_store_nd {K : Act → World → Prop} (x y : Operand) (ho : op.op = .store 42 x y) (b off : Nat) (C : List Value) (ty : TypeId) (hb : w.heap[b]? = some (.cells C.toArray ty)) (hoff : off + 22 ≤ C.length) (o : Nd) (s : Value) (hs : s.oneCell' = true)
    (hx : a.eval x = .pointer (some ⟨b, off, none⟩)) (hy : a.eval y = .agg (ncells o s).toArray)
    (h : ∀ W', W'.heap[b]? = some (.cells (C.take off ++ ncells o s ++ C.drop (off + 22)).toArray ty) → Fr (fun k => k = b) w W' → W'.heap.size = w.heap.size → K (a.put op.dst undef) W') : op.wp Tryz.prog a w K Q := by
  have hl : (ncells o s).length = 22 := rfl
  have hst := run_storeCells_at Tryz.prog b off ty (ncells o s) 0 C.toArray w hb (by rw [hl]; simpa using hoff) (one_nd o hs)
  simp only [Nat.add_zero] at hst
  rw [hl] at hst
  have hi := info35
  cases hq : Tryz.prog.info? 42 with
  | none => rw [hq] at hi; simp at hi
  | some i =>
    have hsz : i.size = 22 := by rw [hq] at hi; simpa using hi
    have hsv : (storeVar 42 ⟨b, off, none⟩ (.agg (ncells o s).toArray)).run Tryz.prog w = .ok () (w.setRow b (C.toArray.toList.take off ++ ncells o s ++ C.toArray.toList.drop (off + 22)).toArray) := by
      have hc : (Value.agg (ncells o s).toArray).cells.size = i.size := by rw [hsz]; rfl
      have hc2 : (Value.agg (ncells o s).toArray).cells.toList = ncells o s := rfl
      simp [storeVar, sizeOf, typeInfo, hq, hc, hc2, hst]
    unfold Oper.wp execOp
    simp only [ho, hx, hy, Instr.storeAt, Instr.sureAddr, Sem.run_bind, Sem.run_pure, Result.andThen_ok, hsv]
    exact h _ (setRow_heap w b _ _ ty _ hb) ⟨rfl, rfl, rfl, by simp [World.setRow], fun k _ hk => setRow_other w b k _ hk⟩ (by simp [World.setRow])
theorem wpList_store_nd (hw : Region.wanted op (yielded ops a.tmps) = true) (x y : Operand) (ho : op.op = .store 42 x y) (b off : Nat) (C : List Value) (ty : TypeId) (hb : w.heap[b]? = some (.cells C.toArray ty)) (hoff : off + 22 ≤ C.length) (o : Nd) (s : Value) (hs : s.oneCell' = true)
    (hx : a.eval x = .pointer (some ⟨b, off, none⟩)) (hy : a.eval y = .agg (ncells o s).toArray)
    (h : ∀ W', W'.heap[b]? = some (.cells (C.take off ++ ncells o s ++ C.drop (off + 22)).toArray ty) → Fr (fun k => k = b) w W' → W'.heap.size = w.heap.size → wpList Tryz.prog ops Q rest (a.put op.dst undef) W') : wpList Tryz.prog ops Q (op :: rest) a w :=
  wpList_step fun K hK => by
    rw [if_pos hw]
    exact wp_store_nd x y ho b off C ty hb hoff o s hs hx hy fun W' h1 h2 h3 => hK _ _ (h W' h1 h2 h3)
end
theorem ncells_set (o : Nd) (s v : Value) : (ncells o s).set 21 v = ncells o v := rfl
def CopR (w : World) (t : T) : Ending → World → Prop := fun e w' => ∃ a' S, e = .returned (nagg t.o (.slice a' t.l.length t.l.length)) ∧ t.Own w' a' S ∧ (∀ k, S k → w.heap.size ≤ k ∧ k < w'.heap.size) ∧ Below w.heap.size w w'
set_option maxHeartbeats 4000000 in
set_option maxRecDepth 100000 in
theorem copied_any (t : T) (hz : t.size ≤ 2097152) (x : Value) (w : World) (hx : IsT w x t) : Calls Tryz.prog 25 #[x] w (CopR w t) := by
  obtain ⟨a, cap, rfl, hA⟩ := hx
  have HA := Lib.hid hA
  clear hA
  obtain ⟨n, hn⟩ : ∃ n, t.l.length = n := ⟨_, rfl⟩
  rw [hn]
  have HN := Lib.hid hn
  clear hn
  rw [nagg_eq]
  go_enter Tryz.func25, Tryz.ntmps25
  go_wp2_with fail
  refine abs_calls ?_
  intro W1 hW1
  have hz1 : W1.heap.size = w.heap.size + 3 := by rw [hW1]; simp
  have hB1 : Below w.heap.size w W1 := by rw [hW1]; (repeat (first | with_reducible exact Below.refl _ _ | with_reducible exact hBW | with_reducible refine Below.setCell ?_ ?_ _ | with_reducible refine Below.alloc ?_ ?_ _ | with_reducible refine belowN ?_ _ | with_reducible refine Below.drew ?_)); all_goals (first | omega | (dsimp only; omega) | ((repeat (first | with_reducible refine le_alloc ?_ | with_reducible refine le_setCell ?_ | with_reducible refine le_drew ?_ | with_reducible refine le_drewN ?_)); omega))
  have g0 : W1.heap[w.heap.size]? = some (.cells (ncells t.o (.slice a n cap)).toArray 42) := by rw [hW1]; exact heap_alloc_old (heap_alloc_old (heap_alloc_new w _) _) _
  have g1 : W1.heap[w.heap.size + 1]? = some (.cells (ncells nd0 (.slice none 0 0)).toArray 42) := by rw [hW1]; exact heap_alloc_old (heap_alloc_at (by simp) _) _
  have g2 : W1.heap[w.heap.size + 1 + 1]? = some (.cells #[.int .i64 2097152] 3) := by rw [hW1]; exact heap_alloc_at (by simp) _
  have hK1 : Keep w W1 := (Keep.refl w).below hB1
  clear hW1
  have hs := separate_any t hz w W1 w.heap.size 0 (w.heap.size + 1 + 1) 2097152 (ncells t.o (.slice a n cap)) a cap HA.out hK1 (by omega) (Nat.le_refl _) g2 g0 (by omega) (fun j hj => by rw [HN.out, Nat.zero_add]) (by omega) (Int.le_refl _)
  refine hs.mono ?_
  rintro e w2 ⟨rfl, a', S, p1, p2, p3, p4, p5⟩
  rw [HN.out, Nat.zero_add, ncells_set] at p1
  have q1 : w2.heap[w.heap.size + 1]? = some (.cells (ncells nd0 (.slice none 0 0)).toArray 42) := (p5.block _ (by omega) (by omega)).trans g1
  have R1 := Lib.hid (range_blk p1)
  have Q1 := Lib.hid q1
  have P3 := Lib.hid p3
  have P4 : Hid (∀ k, S k → w.heap.size + 3 ≤ k ∧ k < w2.heap.size) := fun k hk => by have := p4 k hk; omega
  have HB2 : Hid (Below w.heap.size w w2) := hB1.trans (p5.below (by omega) (fun k hk => by omega))
  clear hs p1 p2 p3 p4 p5 q1 g0 g1 g2 hK1 hB1 hz1
  go_wp2_with (first | (refine wpList_load_g rfl 42 (.tmp 1) rfl w.heap.size 0 rfl _ _ R1.out Tryz.underlying42 rfl info35 ?_) | (refine wpList_store_nd rfl (.tmp 2) (.tmp 7) rfl (w.heap.size + 1) 0 (ncells nd0 (.slice none 0 0)) 42 Q1.out (Nat.le_refl _) t.o (.slice a' n n) rfl rfl rfl ?_; intro W3 hb3 hf3 hz3))
  have hb3' : W3.heap[w.heap.size + 1]? = some (.cells (ncells t.o (.slice a' n n)).toArray 42) := hb3
  refine bodyPost_ret (v := nagg t.o (.slice a' n n)) (results_nd1 rfl rfl (range_blk hb3')) rfl ?_
  refine ⟨a', S, by rw [HN.out], P3.out.frame t (fun k hk _ => hf3.block k (P4.out k hk).2 (by have := P4.out k hk; omega)), fun k hk => ?_, HB2.out.trans (hf3.below HB2.out.size (fun k hk => by omega))⟩
  have := P4.out k hk
  omega
end Go.Proofs.YtlcglkanlhmmdaaGreat
