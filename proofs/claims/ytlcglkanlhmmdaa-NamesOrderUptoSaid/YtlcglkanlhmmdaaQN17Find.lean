/- ref17: rows of names; find. -/
import Derived.Test.YtlcglkanlhmmdaaQN17FreeP
namespace Go.Proofs.Ytlcglkanlhmmdaa
open Go.RowKit
/-- Rows of names and trees, in memory. -/
def RowsAt (w : World) (a : Option Addr) (R : List (ByteArray × T)) : Prop := 0 < R.length → ∃ b off, a = some ⟨b, off, none⟩ ∧ b < w.heap.size ∧ ∀ (i : Nat) (s : ByteArray) (t : T), R[i]? = some (s, t) →
  w.cell? ⟨b, off + i * 23, none⟩ = some (.string s) ∧ ∃ a' cap', NdAt w b (off + i * 23 + 1) t.o (.slice a' t.l.length cap') ∧ t.At w a'
theorem RowsAt.below {w w' : World} {a : Option Addr} {R : List (ByteArray × T)} (h : RowsAt w a R) (hb : Below w.heap.size w w') : RowsAt w' a R := fun h0 => by
  obtain ⟨b, off, e, h1, h2⟩ := h h0
  refine ⟨b, off, e, Nat.lt_of_lt_of_le h1 hb.size, fun i s t hi => ?_⟩
  obtain ⟨h3, a', cap', h4, h5⟩ := h2 i s t hi
  exact ⟨(hb.cell (p := ⟨b, _, none⟩) h1).trans h3, a', cap', NdAt.below h4 hb h1, h5.below hb t⟩
theorem getL_drop {R : List (ByteArray × T)} {k : Nat} {x : ByteArray} {t : T} (h : R[k]? = some (x, t)) (s : ByteArray) : getL (R.drop k) s = if x = s then some t else getL (R.drop (k + 1)) s := by
  obtain ⟨hk, he⟩ := List.getElem?_eq_some_iff.1 h
  rw [List.drop_eq_getElem_cons hk, he, getL]
def FindR (R : List (ByteArray × T)) (s : ByteArray) (z : Int) : Prop := (getL R s = none ∧ z = -1) ∨ ∃ (i : Nat) (t : T), R[i]? = some (s, t) ∧ getL R s = some t ∧ z = (i : Int)
set_option maxHeartbeats 2000000 in
set_option maxRecDepth 100000 in
theorem find_any (R : List (ByteArray × T)) (hlen : R.length ≤ 2097152) (a : Option Addr) (cap : Nat) (s : ByteArray) (w : World) (hA : RowsAt w a R) :
    Calls Try.prog 29 #[.agg #[.slice a R.length cap], .string s] w fun e w' => (∃ z, e = .returned (.int .i64 z) ∧ FindR R s z) ∧ Below w.heap.size w w' := by
  have HA := Lib.hid hA
  obtain ⟨n, hn⟩ : ∃ n, R.length = n := ⟨_, rfl⟩
  rw [hn] at hlen ⊢
  have HN := Lib.hid hn
  clear hA hn
  go_enter Try.func29, Try.ntmps29
  go_wp2_with fail
  refine abs_world ?_
  intro W0 hW0
  have hB0 : Hid (Below w.heap.size w W0) := by rw [hW0]; unfold Hid; (repeat (first | with_reducible exact Below.refl _ _ | with_reducible exact hBW | with_reducible refine Below.setCell ?_ ?_ _ | with_reducible refine Below.alloc ?_ ?_ _ | with_reducible refine belowN ?_ _ | with_reducible refine Below.drew ?_)); all_goals (first | omega | (dsimp only; omega) | ((repeat (first | with_reducible refine le_alloc ?_ | with_reducible refine le_setCell ?_ | with_reducible refine le_drew ?_ | with_reducible refine le_drewN ?_)); omega))
  have x0 : W0.cell? ⟨w.heap.size, 0, none⟩ = some (.slice a n cap) := by rw [hW0]; exact cell_of_heap (heap_alloc_new w _) 0
  have z0 : w.heap.size < W0.heap.size := by rw [hW0]; simp
  have HA0 := Lib.hid (HA.out.below hB0.out)
  clear hW0 HA
  go_loopg [5] n (fun gh i wr => W0 = wr ∧ ∃ k : Nat, i = .int .i64 (k : Int) ∧ gh = n - k ∧ k ≤ n ∧ Hid (getL R s = getL (R.drop k) s))
  case atStart => exact ⟨rfl, 0, rfl, rfl, Nat.zero_le _, rfl⟩
  case round =>
    obtain ⟨rfl, k, rfl, rfl, hk, hE⟩ := hrel
    by_cases hlt : k < n
    · obtain ⟨⟨x, t⟩, ht⟩ : ∃ t, R[k]? = some t := ⟨_, List.getElem?_eq_getElem (by rw [HN.out]; exact hlt)⟩
      obtain ⟨b, off, rfl, hb, hall⟩ := HA0.out (by rw [HN.out]; omega)
      have c0 := (hall k x t ht).1
      have HT := Lib.hid ht
      have GD := Lib.hid (getL_drop ht s)
      have j1 : (0 : Int) ≤ (k : Int) := by omega
      have j2 : (k : Int) < (n : Int) := by omega
      clear hall ht
      cases hx : (x.toList == s.toList) with
      | true =>
        have hxs : x = s := str_eq.1 (by simpa using hx)
        have Y : Hid (FindR R s (k : Int)) := .inr ⟨k, t, by rw [← hxs]; exact HT.out, by rw [hE.out, GD.out, if_pos hxs], rfl⟩
        clear hxs hE GD HT
        go_wp2_with fail
        go_ret
        exact ⟨⟨_, rfl, Y.out⟩, hB0.out⟩
      | false =>
        have hxs : x ≠ s := fun e => by rw [e] at hx; simp at hx
        have Y : Hid (getL R s = getL (R.drop (k + 1)) s) := by unfold Hid; rw [hE.out, GD.out, if_neg hxs]
        clear hxs hE GD HT
        go_wp2_with fail
        go_roundg (n - (k + 1))
        case measure => omega
        case rel => exact ⟨rfl, k + 1, by go_num, rfl, by omega, Y⟩
    · have Y : Hid (FindR R s (-1)) := by
        refine .inl ⟨?_, rfl⟩
        rw [hE.out, List.drop_of_length_le (by rw [HN.out]; omega)]
        rfl
      clear hE
      go_wp2_with fail
      go_ret
      exact ⟨⟨_, rfl, Y.out⟩, hB0.out⟩
end Go.Proofs.Ytlcglkanlhmmdaa
/- A row of nodes of the call's own, whose trees lie in older memory or in memory of the call's. -/
namespace Go.Proofs.Ytlcglkanlhmmdaa
open Go.RowKit
theorem T.At.agree {w W : World} {t : T} {a : Option Addr} (h : t.At w a) (hs : w.heap.size ≤ W.heap.size) (hk : ∀ k, k < w.heap.size → W.heap[k]? = w.heap[k]?) : t.At W a :=
  T.At.keep ⟨hs, fun k _ hw _ => (hk k (lt_of_heap hw)).trans hw⟩ t h
/-- The tree is there in every world that has the blocks of S as w has. -/
def StabS (S : Nat → Prop) (w : World) (t : T) (a : Option Addr) : Prop := ∀ W : World, w.heap.size ≤ W.heap.size → (∀ k, S k → W.heap[k]? = w.heap[k]?) → t.At W a
theorem StabS.at {S : Nat → Prop} {w : World} {t : T} {a : Option Addr} (h : StabS S w t a) : t.At w a := h w (Nat.le_refl _) (fun _ _ => rfl)
theorem StabS.mono {S S' : Nat → Prop} {w w' : World} {t : T} {a : Option Addr} (h : StabS S w t a) (hs : w.heap.size ≤ w'.heap.size) (hk : ∀ k, S k → w'.heap[k]? = w.heap[k]? ∧ S' k) : StabS S' w' t a := fun W h1 h2 =>
  h W (Nat.le_trans hs h1) (fun k hS => (h2 k (hk k hS).2).trans (hk k hS).1)
theorem StabS.old {w0 w : World} {S : Nat → Prop} {t : T} {a : Option Addr} (h : t.At w0 a) (hb : Below w0.heap.size w0 w) (hS : ∀ k, k < w0.heap.size → S k) : StabS S w t a := fun _ h1 h2 =>
  h.agree (Nat.le_trans hb.size h1) (fun k hk => (h2 k (hS k hk)).trans (hb.block k hk))
structure KidsE (B0 B base : Nat) (w : World) (v : Value) (ts : List T) (es : List (Nd × Value)) (S : Nat → Prop) : Prop where
  row : w.ownsRow base 35 22 v ts.length (rowC es)
  len : es.length = ts.length
  kid : ∀ (i : Nat) (t : T), ts[i]? = some t → ∃ a c, es[i]? = some (t.o, .slice a t.l.length c) ∧ StabS (fun k => k < B0 ∨ S k) w t a
  lo : ∀ k, S k → B ≤ k ∧ k < w.heap.size
  own : ∀ k, v.ownBlock = some k → ¬ S k
def KidsO (B0 B base : Nat) (w : World) (v : Value) (ts : List T) : Prop := ∃ es S, KidsE B0 B base w v ts es S
theorem KidsO.nil (B0 B base : Nat) (w : World) : KidsO B0 B base w (.slice none 0 0) [] :=
  ⟨[], fun _ => False, ⟨rfl, .inl ⟨rfl, rfl⟩⟩, rfl, fun i t h => by simp at h, fun _ h => h.elim, fun _ _ h => h⟩
theorem KidsE.below {B0 B base : Nat} {w w' : World} {v : Value} {ts : List T} {es : List (Nd × Value)} {S : Nat → Prop} (h : KidsE B0 B base w v ts es S) (hb : Below w.heap.size w w') (hB : B0 ≤ w.heap.size) : KidsE B0 B base w' v ts es S := by
  refine ⟨own_below h.row hb (Nat.le_refl _), h.len, fun i t hi => ?_, fun k hk => ⟨(h.lo k hk).1, Nat.lt_of_lt_of_le (h.lo k hk).2 hb.size⟩, h.own⟩
  obtain ⟨a, c, h1, h2⟩ := h.kid i t hi
  refine ⟨a, c, h1, h2.mono hb.size (fun k hk => ⟨hb.block k ?_, hk⟩)⟩
  rcases hk with hk | hk
  · omega
  · exact (h.lo k hk).2
theorem KidsE.push {B0 B base b3 : Nat} {w w' W5 : World} {v v5 : Value} {ts : List T} {es : List (Nd × Value)} {S : Nat → Prop} (h : KidsE B0 B base w v ts es S) (hb : Below w.heap.size w w') (hB0 : B0 ≤ B) (hB : B ≤ base) (hw : base ≤ w.heap.size) (h3 : w.heap.size ≤ b3)
    {t : T} {a : Option Addr} {c : Nat} (ht : StabS (fun k => k < B0 ∨ (b3 ≤ k ∧ k < w'.heap.size)) w' t a) (o5 : Obj)
    (ho : W5.ownsRow base 35 22 v5 (ts.length + 1) (rowC es ++ ncells t.o (.slice a t.l.length c))) (hg : (w'.alloc o5).grownBy W5 v.ownBlock) (hloc : v5.ownBlock = v.ownBlock ∨ v5.ownBlock = some (w'.heap.size + 1)) : KidsO B0 B base W5 v5 (ts ++ [t]) := by
  have hs1 : w'.heap.size < W5.heap.size := by
    have := hg.size
    simp at this
    omega
  have hown : ∀ k, v.ownBlock = some k → base ≤ k ∧ k < w.heap.size := fun k hk => by
    refine ⟨own_base h.row k hk, ?_⟩
    rcases h.row.2 with ⟨h1, _⟩ | ⟨g, cap, cur, h1, h2, h4, _⟩
    · rw [h1] at hk; cases hk
    · rw [h1] at hk; cases hk; exact lt_of_heap h4
  have hkeep : ∀ k, k < w'.heap.size → v.ownBlock ≠ some k → W5.heap[k]? = w'.heap[k]? := fun k hk hne => by
    rw [hg.block k (by simp; omega) (fun e => hne e.symm)]
    exact Below.heap_alloc _ _ _ hk
  have hkS : ∀ k, (k < B0 ∨ S k) → v.ownBlock ≠ some k ∧ k < w.heap.size := fun k hk => by
    rcases hk with hk | hk
    · exact ⟨fun e => by have := (hown k e).1; omega, by omega⟩
    · exact ⟨fun e => h.own k e hk, (h.lo k hk).2⟩
  refine ⟨es ++ [(t.o, .slice a t.l.length c)], fun k => S k ∨ (b3 ≤ k ∧ k < w'.heap.size), ?_, by simp [h.len], fun i u hu => ?_, fun k hk => ?_, fun k hk hS => ?_⟩
  · have e1 : rowC (es ++ [(t.o, .slice a t.l.length c)]) = rowC es ++ ncells t.o (.slice a t.l.length c) := by unfold rowC; simp
    rw [e1, List.length_append]
    exact ho
  · by_cases hi : i < ts.length
    · rw [List.getElem?_append_left hi] at hu
      obtain ⟨a', c', h1, h2⟩ := h.kid i u hu
      refine ⟨a', c', by rw [List.getElem?_append_left (by rw [h.len]; exact hi)]; exact h1, h2.mono (Nat.le_trans hb.size (Nat.le_of_lt hs1)) (fun k hk => ?_)⟩
      obtain ⟨h4, h5⟩ := hkS k hk
      exact ⟨(hkeep k (Nat.lt_of_lt_of_le h5 hb.size) h4).trans (hb.block k h5), hk.elim .inl (fun h => .inr (.inl h))⟩
    · have hi2 : i = ts.length := by
        have := (List.getElem?_eq_some_iff.1 hu).1
        simp at this
        omega
      subst hi2
      rw [List.getElem?_append_right (Nat.le_refl _), Nat.sub_self] at hu
      simp at hu
      subst hu
      refine ⟨a, c, by rw [List.getElem?_append_right (by rw [h.len]; omega), h.len, Nat.sub_self]; rfl, ht.mono (Nat.le_of_lt hs1) (fun k hk => ?_)⟩
      rcases hk with hk | ⟨hk1, hk2⟩
      · obtain ⟨h4, h5⟩ := hkS k (.inl hk)
        exact ⟨hkeep k (Nat.lt_of_lt_of_le h5 hb.size) h4, .inl hk⟩
      · exact ⟨hkeep k hk2 (fun e => by have := (hown k e).2; omega), .inr (.inr ⟨hk1, hk2⟩)⟩
  · rcases hk with hk | ⟨hk1, hk2⟩
    · exact ⟨(h.lo k hk).1, by have := (h.lo k hk).2; have := hb.size; omega⟩
    · omega
  · rcases hloc with e | e
    · rw [e] at hk
      rcases hS with hS | ⟨hS, _⟩
      · exact h.own k hk hS
      · have := (hown k hk).2
        omega
    · rw [e] at hk
      cases hk
      rcases hS with hS | ⟨_, hS⟩
      · have := (h.lo _ hS).2
        have := hb.size
        omega
      · omega
theorem KidsE.fin {B0 B base : Nat} {w wf : World} {n cap : Nat} {a : Option Addr} {ts : List T} {es : List (Nd × Value)} {S : Nat → Prop} (h : KidsE B0 B base w (.slice a n cap) ts es S) (hB0 : B0 ≤ B) (hB : B ≤ base) (hs : w.heap.size ≤ wf.heap.size) (hb : ∀ k, (k < B0 ∨ B ≤ k) → k < w.heap.size → wf.heap[k]? = w.heap[k]?) (o : Nd) :
    StabS (fun k => k < B0 ∨ (B ≤ k ∧ k < wf.heap.size)) wf (.mk o ts) a := by
  intro W hW hS
  rw [T.at_mk]
  intro h0
  rcases h.row.2 with ⟨_, h2⟩ | ⟨g, cap', cur, h1, h2, h3, _, _, h4, h5⟩
  · omega
  · cases h1
    have hg : g < w.heap.size := lt_of_heap h3
    have hg2 : W.heap[g]? = some (.cells cur 35) := (hS g (.inr ⟨by omega, Nat.lt_of_lt_of_le hg hs⟩)).trans ((hb g (.inr (by omega)) hg).trans h3)
    refine ⟨g, 0, rfl, lt_of_heap hg2, fun i t ht => ?_⟩
    obtain ⟨a', c', h6, h7⟩ := h.kid i t ht
    have hi : i < ts.length := (List.getElem?_eq_some_iff.1 ht).1
    refine ⟨a', c', fun j hj => ?_, h7 W (Nat.le_trans hs hW) (fun k hk => ?_)⟩
    · rw [cell_of_heap hg2, Nat.zero_add, ← rowC_at h6 hj, ← h5, List.getElem?_take_of_lt (by omega)]
      simp
    · rcases hk with hk | hk
      · exact (hS k (.inl hk)).trans (hb k (.inl hk) (by omega))
      · have := h.lo k hk
        exact (hS k (.inr ⟨this.1, Nat.lt_of_lt_of_le this.2 hs⟩)).trans (hb k (.inr this.1) this.2)
theorem kidE_told {sub : ByteArray → Option T} {o : Nd} {l : List T} {ar : List ByteArray} {i : Nat} {c : T} (hc : l[i]? = some c) : kidE sub o l ar i c = expT sub c (ar ++ bnP o l i) (toldP o l i) := by
  unfold kidE
  rcases told_tl (o := o) hc with h | h
  · rw [h]
  · exact exp_nok _ h _ _
end Go.Proofs.Ytlcglkanlhmmdaa
/- ref17: Expand. -/
namespace Go.Proofs.Ytlcglkanlhmmdaa
open Go.RowKit
def ExpR (B0 : Nat) (w : World) (t : T) : Ending → World → Prop := fun e w' => ∃ a' cap', e = .returned (nagg t.o (.slice a' t.l.length cap')) ∧ StabS (fun k => k < B0 ∨ (w.heap.size ≤ k ∧ k < w'.heap.size)) w' t a' ∧ Below w.heap.size w w'
theorem wp_bs_nd {op : Oper} {a : Act} {w : World} {K : Act → World → Prop} {Q : Exit → Act → World → Prop} (x : Operand) (ho : op.op = .buildSlice 33 1 #[(0, x)]) (o : Nd) (s : Value) (hx : a.eval x = .agg (ncells o s).toArray)
    (h : K (a.put op.dst (.slice (some ⟨w.heap.size, 0, none⟩) 1 1)) (w.alloc (.cells (ncells o s).toArray 35))) : op.wp Try.prog a w K Q := by
  unfold Oper.wp execOp
  simp only [ho, List.map_toArray, List.map_cons, List.map_nil, hx, Sem.run_bind, bs_nd, Result.andThen_ok]
  exact h
set_option maxHeartbeats 4000000 in
set_option maxRecDepth 100000 in
theorem exp14_step (R : List (ByteArray × T)) (hR : R.length ≤ 2097152) (ra : Option Addr) (rc : Nat) (w0 : World) (hRA : RowsAt w0 ra R) (o : Nd) (l : List T) (hz : (T.mk o l).size ≤ 2097152) (ar : List ByteArray) (told : Bool) (har : ar.length + (T.mk o l).size ≤ 4194304) (a : Option Addr) (cap : Nat) (aa : Option Addr) (ac : Nat) (w : World) (hb0 : Below w0.heap.size w0 w) (hA : (T.mk o l).At w0 a) (hS : StrsAt w aa ar)
    (ih : ∀ t ∈ l, ∀ (br : List ByteArray) (tl : Bool) (x : Value) (ba : Option Addr) (bc : Nat) (w : World), br.length + t.size ≤ 4194304 → Below w0.heap.size w0 w → IsT w0 x t → StrsAt w ba br → Calls Try.prog 14 #[.agg #[.slice ra R.length rc], x, .slice ba br.length bc, .bool tl] w (ExpR w0.heap.size w (expT (subL R) t br tl))) :
    Calls Try.prog 14 #[.agg #[.slice ra R.length rc], nagg o (.slice a l.length cap), .slice aa ar.length ac, .bool told] w (ExpR w0.heap.size w (expT (subL R) (.mk o l) ar told)) := by
  have hll : l.length < (T.mk o l).size := T.len_le o l
  have HA := Lib.hid hA
  have HS := Lib.hid hS
  have IH := Lib.hid ih
  have HZ := Lib.hid hz
  have HAR := Lib.hid har
  have HRA := Lib.hid hRA
  have H0 := Lib.hid hb0
  obtain ⟨n, hn⟩ : ∃ n, l.length = n := ⟨_, rfl⟩
  rw [hn] at hll ⊢
  have HN := Lib.hid hn
  have hn2 : n ≤ 2097152 := by omega
  have har2 : ar.length ≤ 4194304 := by omega
  have IN := Lib.hid (fun W (h : Below w.heap.size w W) => in28_any o.nm ar har2 aa ac W (hS.below h))
  obtain ⟨i0, hii, hz0, hz1, hz2⟩ := info_parts info35z
  have HI := Lib.hid (And.intro hii (And.intro hz0 (And.intro hz1 hz2)))
  obtain ⟨r, hr⟩ : ∃ r, R.length = r := ⟨_, rfl⟩
  have FND := Lib.hid (fun W (h : Below w0.heap.size w0 W) => find_any R hR ra rc o.nm W (hRA.below h))
  rw [hr] at FND IH hR ⊢
  have HR := Lib.hid hr
  clear hA hS ih hn hii hz0 hz1 hz2 hz har hRA hb0 hr
  rw [nagg_eq]
  go_enter Try.func14, Try.ntmps14
  go_upto_region 1 with fail
  refine abs_world ?_
  intro W0 hW0
  have hB0 : Hid (Below w.heap.size w W0) := by rw [hW0]; unfold Hid; (repeat (first | with_reducible exact Below.refl _ _ | with_reducible exact hBW | with_reducible refine Below.setCell ?_ ?_ _ | with_reducible refine Below.alloc ?_ ?_ _ | with_reducible refine belowN ?_ _ | with_reducible refine Below.drew ?_)); all_goals (first | omega | (dsimp only; omega) | ((repeat (first | with_reducible refine le_alloc ?_ | with_reducible refine le_setCell ?_ | with_reducible refine le_drew ?_ | with_reducible refine le_drewN ?_)); omega))
  have g0 : W0.heap[w.heap.size]? = some (.cells #[.slice ra r rc] 43) := by rw [hW0]; exact heap_alloc_old (heap_alloc_old (heap_alloc_new w _) _) _
  have g1 : W0.heap[w.heap.size + 1]? = some (.cells (ncells o (.slice a n cap)).toArray 35) := by rw [hW0]; exact heap_alloc_old (heap_alloc_at (by simp) _) _
  have g2 : W0.heap[w.heap.size + 1 + 1]? = some (.cells (ncells nd0 (.slice none 0 0)).toArray 35) := by rw [hW0]; exact heap_alloc_at (by simp) _
  have hs0 : Hid (W0.heap.size = w.heap.size + 3) := by rw [hW0]; unfold Hid; simp
  have G0 := Lib.hid g0
  have G1 := Lib.hid g1
  have G2 := Lib.hid g2
  clear hW0 g0 g1 g2
  go_cut [26] (fun s26 wx => W0 = wx ∧ s26 = .bool (hereP o ar told))
  case first =>
    have x0 : W0.cell? ⟨w.heap.size + 1, 0, none⟩ = some (.int .i64 o.k) := cell_of_heap G1.out 0
    have x7 : W0.cell? ⟨w.heap.size + 1, 7, none⟩ = some (.string o.nm) := cell_of_heap G1.out 7
    have z0 := lt_of_heap G1.out
    have HI0 := Lib.hid (IN.out W0 hB0.out)
    by_cases h7 : o.k = 7
    case neg =>
      have e7 : (o.k == 7) = false := by simp [h7]
      have HH : Hid (hereP o ar told = false) := by unfold Hid hereP; simp [h7]
      clear h7
      go_wp2_with fail
      go_meet
      exact ⟨rfl, by rw [HH.out]⟩
    have e7 : (o.k == 7) = true := by simp [h7]
    have HH : Hid (hereP o ar told = (!told && !(ar.any (fun x => x.toList == o.nm.toList)))) := by unfold Hid hereP inL; simp [h7]
    clear h7
    cases told with
    | true =>
      go_wp2_with fail
      go_meet
      exact ⟨rfl, by rw [HH.out]; rfl⟩
    | false =>
      go_wp2_with fail
      refine HI0.out.mono ?_
      rintro e w1 ⟨rfl, rfl⟩
      go_wp2_with fail
      go_meet
      exact ⟨rfl, by rw [HH.out]; rfl⟩
  case rest =>
  obtain ⟨rfl, rfl⟩ := hcut
  go_upto_if 26 with fail
  go_cut [9] (fun s9 wx => Hid (Below (w.heap.size + 3) W0 wx) ∧ Hid (expT (subL R) (.mk o l) ar told = .mk o (kidsE (subL R) o l ar)))
  case first =>
    have x7 : W0.cell? ⟨w.heap.size + 1, 7, none⟩ = some (.string o.nm) := cell_of_heap G1.out 7
    have x0 : W0.cell? ⟨w.heap.size, 0, none⟩ = some (.slice ra r rc) := cell_of_heap G0.out 0
    have z0 := lt_of_heap G0.out
    have z1 := lt_of_heap G1.out
    cases hin : hereP o ar told with
    | false =>
      have HH : Hid (expT (subL R) (.mk o l) ar told = .mk o (kidsE (subL R) o l ar)) := by unfold Hid; rw [expT_mk, hin]; rfl
      clear hin
      go_wp2_with fail
      go_meet
      exact ⟨Below.refl _ _, HH⟩
    | true =>
      have HH : Hid (expT (subL R) (.mk o l) ar told = (getL R o.nm).getD (.mk o (kidsE (subL R) o l ar))) := by unfold Hid; rw [expT_mk, hin]; rfl
      clear hin
      go_wp2_with fail
      refine (FND.out W0 (H0.out.trans (hB0.out.mono H0.out.size))).mono ?_
      rintro e w1 ⟨⟨z, rfl, hF⟩, hb1⟩
      have HB1 : Hid (Below (w.heap.size + 3) W0 w1) := hb1.mono (Nat.le_of_eq hs0.out.symm)
      rcases hF with ⟨hg, rfl⟩ | ⟨i, t, hi, hg, rfl⟩
      · have HE : Hid (expT (subL R) (.mk o l) ar told = .mk o (kidsE (subL R) o l ar)) := by unfold Hid; rw [HH.out, hg]; rfl
        clear hg hb1 HH
        go_wp2_with fail
        go_meet
        exact ⟨HB1, HE⟩
      · have HE : Hid (expT (subL R) (.mk o l) ar told = t) := by unfold Hid; rw [HH.out, hg]; rfl
        have hir : i < r := by have := (List.getElem?_eq_some_iff.1 hi).1; rw [HR.out] at this; exact this
        obtain ⟨b, off, rfl, hb, hall⟩ := HRA.out (by rw [HR.out]; omega)
        obtain ⟨_, ua, uc, hnd, hat⟩ := hall i o.nm t hi
        have HWB : Hid (Below w.heap.size w w1) := hB0.out.trans (hb1.mono hB0.out.size)
        have H01 : Hid (Below w0.heap.size w0 w1) := H0.out.trans (HWB.out.mono H0.out.size)
        have RU := Lib.hid (range_nd (NdAt.below hnd H01.out hb))
        have HAT := Lib.hid hat
        have K2 : Hid (w1.heap[w.heap.size + 1 + 1]? = some (.cells (ncells nd0 (.slice none 0 0)).toArray 35)) := (hb1.block _ (lt_of_heap G2.out)).trans G2.out
        have y0 : w1.cell? ⟨w.heap.size, 0, none⟩ = some (.slice (some ⟨b, off, none⟩) r rc) := (hb1.cell (p := ⟨w.heap.size, 0, none⟩) z0).trans x0
        have z3 : w.heap.size < w1.heap.size := Nat.lt_of_lt_of_le z0 hb1.size
        have hb2 : b < w1.heap.size := Nat.lt_of_lt_of_le hb H01.out.size
        have j1 : (0 : Int) ≤ (i : Int) := by omega
        have j2 : (i : Int) < (r : Int) := by omega
        clear hg hb1 HH hall hnd hat hi x0 x7
        go_wp2_with (first | (refine wpList_load_g rfl 35 (.tmp 37) rfl b (off + i * 23 + 1) rfl _ _ RU.out Try.underlying35 rfl info35 ?_) | (refine wpList_store_nd rfl (.tmp 8) (.tmp 38) rfl (w.heap.size + 1 + 1) 0 (ncells nd0 (.slice none 0 0)) 35 K2.out (Nat.le_refl _) t.o (.slice ua t.l.length uc) rfl rfl rfl ?_; intro W5 p1 p2 p3))
        have p1' : W5.heap[w.heap.size + 1 + 1]? = some (.cells (ncells t.o (.slice ua t.l.length uc)).toArray 35) := p1
        have hb5 : Below w.heap.size w W5 := HWB.out.trans (p2.below HWB.out.size (fun k hk => by omega))
        refine bodyPost_ret (v := nagg t.o (.slice ua t.l.length uc)) (results_nd1 rfl rfl (range_blk p1')) rfl ?_
        rw [HE.out]
        exact ⟨ua, uc, rfl, StabS.old HAT.out (H0.out.trans (hb5.mono H0.out.size)) (fun k hk => .inl hk), hb5⟩
  case rest =>
  obtain ⟨hB, hE⟩ := hcut
  have HK0 := Lib.hid (KidsO.nil w0.heap.size (w.heap.size + 3) (w.heap.size + 3) wc)
  go_wp2_with fail
  go_loopg [10, 11] n (fun gh s10 s11 wr => ∃ k : Nat, s11 = .int .i64 (k : Int) ∧ gh = n - k ∧ k ≤ n ∧ Hid (KidsO w0.heap.size (w.heap.size + 3) (w.heap.size + 3) wr s10 ((kidsE (subL R) o l ar).take k)) ∧ Hid (Below (w.heap.size + 3) W0 wr))
  case atStart => exact ⟨0, rfl, rfl, Nat.zero_le _, HK0.out, hB⟩
  clear HK0 hB
  case round =>
    obtain ⟨k, rfl, rfl, hk, hO, hB⟩ := hrel
    have HW : Hid (Below w.heap.size w wr) := hB0.out.trans (hB.out.mono (by omega))
    have g1 : wr.heap[w.heap.size + 1]? = some (.cells (ncells o (.slice a n cap)).toArray 35) := (hB.out.block _ (by omega)).trans G1.out
    have g0 : wr.heap[w.heap.size]? = some (.cells #[.slice ra r rc] 43) := (hB.out.block _ (by omega)).trans G0.out
    have GR1 := Lib.hid g1
    have x21 : wr.cell? ⟨w.heap.size + 1, 21, none⟩ = some (.slice a n cap) := cell_of_heap g1 21
    have x0 : wr.cell? ⟨w.heap.size, 0, none⟩ = some (.slice ra r rc) := cell_of_heap g0 0
    have z0 := lt_of_heap g0
    have z1 := lt_of_heap g1
    have HZR : Hid (w.heap.size + 3 ≤ wr.heap.size) := by have := hB.out.size; have := hs0.out; show _ ≤ _; omega
    clear g0
    by_cases hlt : k < n
    · obtain ⟨c, hc⟩ : ∃ c, l[k]? = some c := ⟨_, List.getElem?_eq_getElem (by rw [HN.out]; exact hlt)⟩
      have HC := Lib.hid hc
      have HKS := Lib.hid (kid_size (o := o) hc)
      rw [HN.out] at HKS
      obtain ⟨g, go, rfl, hg, hall⟩ := T.at_mk.1 HA.out (by rw [HN.out]; omega)
      obtain ⟨ta, tc, hnd, hat⟩ := hall k c hc
      have H0W : Hid (Below w0.heap.size w0 wr) := H0.out.trans (HW.out.mono H0.out.size)
      have hg1 : g < wr.heap.size := Nat.lt_of_lt_of_le hg H0W.out.size
      have LDN := load_nd z1 (nd_of g1)
      have LDK := load_nd hg1 (NdAt.below hnd H0W.out hg)
      have HAT : Hid (c.At w0 ta) := hat
      have j1 : (0 : Int) ≤ (k : Int) := by omega
      have j2 : (k : Int) < (n : Int) := by omega
      obtain ⟨br, hbr⟩ : ∃ br, ar ++ bnP o l k = br := ⟨_, rfl⟩
      have hbl : br.length + c.size ≤ 4194304 := by
        have h1 := HKS.out
        have h2 := HAR.out
        have h3 := bnP_length o l k
        rw [← hbr, List.length_append]
        omega
      have HBR := Lib.hid hbr
      obtain ⟨ts, hts⟩ : ∃ ts, (kidsE (subL R) o l ar).take k = ts := ⟨_, rfl⟩
      have HTS := Lib.hid hts
      have htl : ts.length = k := by rw [← hts, List.length_take, kidsE_length, HN.out]; omega
      rw [hts] at hO
      obtain ⟨es, S, hE4⟩ := hO.out
      have HKE := Lib.hid hE4
      clear hnd hat hall hg hc hbr hts g1 hO hE4
      go_wp2_with fail
      refine wp_region_multiR [([7, 8, 9, 0, 1, 2, 4, 11, 12, 3, 5, 6], [10, 13, 14, 15, 16], [16, 17]), ([17], [], [])] (by kernel_rfl) (by kernel_rfl) ?_
      refine multi_phase (Below wr.heap.size wr) (Below.refl _ _).drew ?_
      apply first_load; (rw [List.getElem?_toArray]; (repeat rw [List.getElem?_cons_succ]); rw [List.getElem?_cons_zero]); rfl; rfl; rfl; exact LDN; go_frame
      iterate 6 (first | (apply first_step; (rw [List.getElem?_toArray]; (repeat rw [List.getElem?_cons_succ]); rw [List.getElem?_cons_zero]); rfl; (intro W hB; have hc := bcellB hB; go_simp; (first | done | rfl)); go_frame) | (apply first_skip; (rw [List.getElem?_toArray]; (repeat rw [List.getElem?_cons_succ]); rw [List.getElem?_cons_zero]); rfl; go_frame))
      apply first_load; (rw [List.getElem?_toArray]; (repeat rw [List.getElem?_cons_succ]); rw [List.getElem?_cons_zero]); rfl; rfl; rfl; exact LDN; go_frame
      iterate 3 (first | (apply first_step; (rw [List.getElem?_toArray]; (repeat rw [List.getElem?_cons_succ]); rw [List.getElem?_cons_zero]); rfl; (intro W hB; have hc := bcellB hB; go_simp; (first | done | rfl)); go_frame) | (apply first_skip; (rw [List.getElem?_toArray]; (repeat rw [List.getElem?_cons_succ]); rw [List.getElem?_cons_zero]); rfl; go_frame))
      apply first_load; (rw [List.getElem?_toArray]; (repeat rw [List.getElem?_cons_succ]); rw [List.getElem?_cons_zero]); rfl; rfl; rfl; exact LDK; go_frame
      refine first_done ?_
      apply forced_step; (rw [List.getElem?_toArray]; (repeat rw [List.getElem?_cons_succ]); rw [List.getElem?_cons_zero]); rfl; intro K hK; go_simp
      have BND := bound_any o l (some ⟨g, go, none⟩) cap k (by rw [HN.out]; exact hn2) (by rw [HN.out]; exact hlt) ar har2 aa ac wr.drew ((HA.out.below H0W.out).below (Below.refl _ wr).drew) ((HS.out.below HW.out).below (Below.refl _ wr).drew)
      rw [HN.out] at BND
      rw [HBR.out] at BND
      refine BND.mono ?_
      rintro e w2 ⟨bv, rfl, hbv, hb2⟩
      have HB2 : Hid (Below wr.heap.size wr w2) := (Below.refl _ wr).drew.trans hb2
      obtain ⟨ba, bc, rfl, hbs⟩ := hbv.strs
      have HBS := Lib.hid hbs
      refine hK _ _ (fun _ => HB2.out) ?_
      clear hK K hb2 hbv hbs BND LDN LDK x21 x0
      apply forced_step; (rw [List.getElem?_toArray]; (repeat rw [List.getElem?_cons_succ]); rw [List.getElem?_cons_zero]); rfl; intro K hK; go_simp
      have TLD := told_any o l (some ⟨g, go, none⟩) cap k (by rw [HN.out]; exact hn2) (by rw [HN.out]; exact hlt) w2 ((HA.out.below H0W.out).below HB2.out)
      rw [HN.out] at TLD
      refine TLD.mono ?_
      rintro e w3 ⟨rfl, hb3⟩
      have HB3 : Hid (Below wr.heap.size wr w3) := HB2.out.trans (hb3.mono HB2.out.size)
      have CL := Lib.hid (IH.out c (List.mem_of_getElem? HC.out) br (toldP o l k) (nagg c.o (.slice ta c.l.length tc)) ba bc w3 hbl (H0W.out.trans (HB3.out.mono H0W.out.size)) ⟨ta, tc, rfl, HAT.out⟩ (HBS.out.below hb3))
      refine hK _ _ (fun _ => HB3.out) ?_
      clear hK K hb3 TLD
      apply forced_step; (rw [List.getElem?_toArray]; (repeat rw [List.getElem?_cons_succ]); rw [List.getElem?_cons_zero]); rfl; intro K hK; go_simp
      refine CL.out.mono ?_
      obtain ⟨u, hu⟩ : ∃ u, expT (subL R) c br (toldP o l k) = u := ⟨_, rfl⟩
      rw [hu]
      rintro e w4 ⟨a4, c4, rfl, hst, hb4⟩
      have HB4 : Hid (Below wr.heap.size wr w4) := HB3.out.trans (hb4.mono HB3.out.size)
      have HU := Lib.hid hu
      have HST := Lib.hid hst
      have HS3 : Hid (wr.heap.size ≤ w3.heap.size) := HB3.out.size
      refine hK _ _ (fun _ => HB4.out) ?_
      clear hK K hb4 hst hu CL
      apply forced_step; (rw [List.getElem?_toArray]; (repeat rw [List.getElem?_cons_succ]); rw [List.getElem?_cons_zero]); rfl; intro K hK
      refine wp_bs_nd (.tmp 60) rfl u.o (.slice a4 u.l.length c4) rfl ?_
      refine hK _ _ (fun _ => (HB4.out.alloc HB4.out.size _)) ?_
      clear hK K
      have KE4 := Lib.hid (HKE.out.below HB4.out (by have := H0.out.size; have := HW.out.size; omega))
      have hbase : w.heap.size + 3 ≤ w4.heap.size := Nat.le_trans HZR.out HB4.out.size
      apply forced_step; (rw [List.getElem?_toArray]; (repeat rw [List.getElem?_cons_succ]); rw [List.getElem?_cons_zero]); rfl; intro K hK
      refine wp_append_at (.tmp 46) (.tmp 61) 33 rfl (w.heap.size + 3) 35 i0 _ 22 192 Try.underlying33 HI.out.1 HI.out.2.1 HI.out.2.2.1 HI.out.2.2.2 rfl (by decide) u10 ts.length (rowC es) rfl (World.ownsRow.alloc KE4.out.row _) ⟨w4.heap.size, 0, none⟩ 1 1 (ncells u.o (.slice a4 u.l.length c4)) rfl rfl (fun j v hv => cells_new w4 (ncells u.o (.slice a4 u.l.length c4)).toArray 35 j v hv) (one_nd u.o rfl) (by unfold maxLen; omega) (by omega) (by simp; omega) ?_
      intro v5 W5 ho5 hg5 hl5
      simp only [World.size_alloc] at hl5
      have HB5 : Hid (Below (w.heap.size + 3) W0 W5) := (hB.out.trans (HB4.out.mono HZR.out)).trans (((Below.refl _ w4).alloc hbase _).grown hg5 (by simp; omega) (own_base KE4.out.row))
      have KO5 := Lib.hid (HKE.out.push HB4.out (Nat.le_trans H0.out.size (Nat.le_add_right _ 3)) (Nat.le_refl _) HZR.out HS3.out HST.out _ ho5 hg5 hl5)
      refine hK _ _ (fun h => absurd (by decide) h) ?_
      clear hK K hg5 ho5 KE4 hbase hl5
      refine forced_done ?_
      refine multi_phase (fun _ => True) trivial ?_
      apply first_step; (rw [List.getElem?_toArray]; (repeat rw [List.getElem?_cons_succ]); rw [List.getElem?_cons_zero]); rfl; (intro W hB; go_simp; (first | done | rfl)); go_frame
      refine first_done ?_
      refine forced_done ?_
      refine multi_done ?_
      go_wp2_with fail
      go_roundg (n - (k + 1))
      case measure => omega
      case rel =>
        refine ⟨k + 1, by go_num, rfl, by omega, ?_, HB5⟩
        rw [List.take_add_one, kidsE_at HC.out, kidE_told HC.out, HBR.out, HU.out, HTS.out]
        exact KO5
    · have hkn : k = n := by omega
      have hts : (kidsE (subL R) o l ar).take k = kidsE (subL R) o l ar := List.take_of_length_le (by rw [kidsE_length, HN.out]; omega)
      rw [hts] at hO
      have hkl : (kidsE (subL R) o l ar).length = n := by rw [kidsE_length, HN.out]
      obtain ⟨es, S, hKE⟩ := hO.out
      obtain ⟨a5, c5, rfl⟩ := own_slice hKE.row
      rw [hkl] at hKE
      have HKE := Lib.hid hKE
      have HKL := Lib.hid hkl
      have RR := Lib.hid (range_blk GR1.out)
      have GR2 : Hid (wr.heap[w.heap.size + 1 + 1]? = some (.cells (ncells nd0 (.slice none 0 0)).toArray 35)) := (hB.out.block _ (by omega)).trans G2.out
      clear hts hkl hKE hO g1 x0
      go_upto_region 11 with (first | (refine wpList_load_g rfl 35 (.tmp 5) rfl (w.heap.size + 1) 0 rfl _ _ RR.out Try.underlying35 rfl info35 ?_) | (refine wpList_store_nd rfl (.tmp 12) (.tmp 63) rfl wr.heap.size 0 (ncells nd0 (.slice none 0 0)) 35 (heap_alloc_new wr _) (Nat.le_refl _) o (.slice a n cap) rfl rfl rfl ?_; intro W5 p1 p2 p3))
      have N5 : W5.heap[wr.heap.size]? = some (.cells (ncells o (.slice a n cap)).toArray 35) := p1
      have hb5 : Hid (Below wr.heap.size wr W5) := ((Below.refl _ wr).alloc (Nat.le_refl _) _).trans (p2.below (by simp) (fun k hk => by omega))
      have z5 : wr.heap.size < W5.heap.size := lt_of_heap N5
      have c21 : W5.cell? ⟨wr.heap.size, 21, none⟩ = some (.slice a n cap) := cell_of_heap N5 21
      have y5 := frozen_of_heap N5
      have HN5 := Lib.hid N5
      clear p1 p2 p3 N5
      go_upto_region 12 with fail
      refine abs_world ?_
      intro W6 hW6
      have hb6 : Hid (Below wr.heap.size wr W6) := by rw [hW6]; exact hb5.out.setCell (Nat.le_refl _) _
      have N6 : Hid (W6.heap[wr.heap.size]? = some (.cells (ncells o (.slice a5 n c5)).toArray 35)) := by
        rw [hW6]
        have h := heap_setCell_at HN5.out 21 (.slice a5 (kidsE (subL R) o l ar).length c5)
        rw [HKL.out] at h
        rw [HKL.out]
        exact h
      have R6 := Lib.hid (range_blk N6.out)
      have G6 : Hid (W6.heap[w.heap.size + 1 + 1]? = some (.cells (ncells nd0 (.slice none 0 0)).toArray 35)) := (hb6.out.block _ (lt_of_heap GR2.out)).trans GR2.out
      clear hW6 c21 y5 z5 hb5 HN5
      go_wp2_with (first | (refine wpList_load_g rfl 35 (.tmp 12) rfl wr.heap.size 0 rfl _ _ R6.out Try.underlying35 rfl info35 ?_) | (refine wpList_store_nd rfl (.tmp 8) (.tmp 66) rfl (w.heap.size + 1 + 1) 0 (ncells nd0 (.slice none 0 0)) 35 G6.out (Nat.le_refl _) o (.slice a5 n c5) rfl rfl rfl ?_; intro W7 p1 p2 p3))
      have p1' : W7.heap[w.heap.size + 1 + 1]? = some (.cells (ncells o (.slice a5 n c5)).toArray 35) := p1
      refine bodyPost_ret (v := nagg o (.slice a5 n c5)) (results_nd1 rfl rfl (range_blk p1')) rfl ?_
      rw [hE.out]
      have hb67 : Below (w.heap.size + 1 + 1) W6 W7 := p2.below (by have := lt_of_heap G6.out; omega) (fun k hk => by omega)
      have hbw : Below w.heap.size w W7 := HW.out.trans ((hb6.out.mono HW.out.size).trans (hb67.mono (by omega)))
      have hs67 : W6.heap.size = W7.heap.size := p3.symm
      have hst := HKE.out.fin (wf := W7) (Nat.le_trans H0.out.size (Nat.le_add_right _ 3)) (Nat.le_refl _) (Nat.le_trans hb6.out.size (Nat.le_of_eq hs67)) (fun k hk hk2 => (p2.block k (Nat.lt_of_lt_of_le hk2 hb6.out.size) (fun e => by have := H0.out.size; omega)).trans (hb6.out.block k hk2)) o
      exact ⟨a5, c5, by show _ = Ending.returned (nagg o (.slice a5 (kidsE (subL R) o l ar).length c5)); rw [HKL.out], hst.mono (Nat.le_refl _) (fun k hk => ⟨rfl, hk.elim .inl (fun h => .inr ⟨Nat.le_trans (Nat.le_add_right _ 3) h.1, h.2⟩)⟩), hbw⟩
theorem exp14_all (R : List (ByteArray × T)) (hR : R.length ≤ 2097152) (ra : Option Addr) (rc : Nat) (w0 : World) (hRA : RowsAt w0 ra R) (t : T) : t.size ≤ 2097152 → ∀ (br : List ByteArray) (tl : Bool) (x : Value) (ba : Option Addr) (bc : Nat) (w : World), br.length + t.size ≤ 4194304 → Below w0.heap.size w0 w → IsT w0 x t → StrsAt w ba br → Calls Try.prog 14 #[.agg #[.slice ra R.length rc], x, .slice ba br.length bc, .bool tl] w (ExpR w0.heap.size w (expT (subL R) t br tl)) := by
  induction t using T.ind with
  | h o l ih =>
    rintro hz br tl x ba bc w hbr hb ⟨a, cap, rfl, hA⟩ hS
    exact exp14_step R hR ra rc w0 hRA o l hz br tl hbr a cap ba bc w hb hA hS (fun t ht => ih t ht (by have := T.size_le (o := o) ht; omega))
theorem exp14_any (R : List (ByteArray × T)) (hR : R.length ≤ 2097152) (ra : Option Addr) (rc : Nat) (t : T) (hz : t.size ≤ 2097152) (x : Value) (w : World) (hRA : RowsAt w ra R) (hx : IsT w x t) : Calls Try.prog 14 #[.agg #[.slice ra R.length rc], x, .slice none 0 0, .bool false] w fun e w' => (∃ v, e = .returned v ∧ IsT w' v (expT (subL R) t [] false)) ∧ Below w.heap.size w w' :=
  (exp14_all R hR ra rc w hRA t hz [] false x none 0 w (by simp; omega) (Below.refl _ _) hx (fun h => by cases h)).mono fun e w' ⟨a', c', h1, h2, h3⟩ => ⟨⟨_, h1, a', c', rfl, h2.at⟩, h3⟩
end Go.Proofs.Ytlcglkanlhmmdaa
/- Rows of names and trees of the call's own. -/
namespace Go.Proofs.Ytlcglkanlhmmdaa
open Go.RowKit
def nmcells (s : ByteArray) (o : Nd) (v : Value) : List Value := .string s :: ncells o v
def rowN (es : List (ByteArray × Nd × Value)) : List Value := es.flatMap fun p => nmcells p.1 p.2.1 p.2.2
theorem rowN_length (es : List (ByteArray × Nd × Value)) : (rowN es).length = es.length * 23 := by
  induction es with
  | nil => rfl
  | cons x r ih => unfold rowN at ih ⊢; rw [List.flatMap_cons, List.length_append, ih]; show 23 + _ = (r.length + 1) * 23; omega
theorem rowN_at {es : List (ByteArray × Nd × Value)} {i j : Nat} {s : ByteArray} {o : Nd} {v : Value} (h : es[i]? = some (s, o, v)) (hj : j < 23) : (rowN es)[i * 23 + j]? = (nmcells s o v)[j]? := by
  induction es generalizing i with
  | nil => simp at h
  | cons x r ih =>
    have e : rowN (x :: r) = nmcells x.1 x.2.1 x.2.2 ++ rowN r := rfl
    have hl : (nmcells x.1 x.2.1 x.2.2).length = 23 := rfl
    rw [e]
    cases i with
    | zero =>
      simp at h
      subst h
      rw [Nat.zero_mul, Nat.zero_add, List.getElem?_append_left (by rw [hl]; exact hj)]
    | succ i =>
      rw [List.getElem?_append_right (by rw [hl]; omega), hl, ← ih (i := i) (by simpa using h)]
      congr 1
      omega
/-- A row of names and trees of the call's own; the trees lie in the world w. -/
def NamO (w wr : World) (base : Nat) (v : Value) (A : List (ByteArray × T)) : Prop := ∃ es : List (ByteArray × Nd × Value), wr.ownsRow base 81 23 v A.length (rowN es) ∧ es.length = A.length ∧ ∀ (i : Nat) (s : ByteArray) (t : T), A[i]? = some (s, t) → ∃ a c, es[i]? = some (s, t.o, .slice a t.l.length c) ∧ t.At w a
theorem NamO.nil (w wr : World) (base : Nat) : NamO w wr base (.slice none 0 0) [] := ⟨[], ⟨rfl, .inl ⟨rfl, rfl⟩⟩, rfl, fun i s t h => by simp at h⟩
theorem NamO.below {w wr wr' : World} {base : Nat} {v : Value} {A : List (ByteArray × T)} (h : NamO w wr base v A) (hb : Below wr.heap.size wr wr') : NamO w wr' base v A := by
  obtain ⟨es, h1, h2, h3⟩ := h
  exact ⟨es, own_below h1 hb (Nat.le_refl _), h2, h3⟩
theorem NamO.push {w W5 : World} {base : Nat} {v5 : Value} {A : List (ByteArray × T)} {es : List (ByteArray × Nd × Value)} (h2 : es.length = A.length) (h3 : ∀ (i : Nat) (s : ByteArray) (t : T), A[i]? = some (s, t) → ∃ a c, es[i]? = some (s, t.o, .slice a t.l.length c) ∧ t.At w a)
    {s : ByteArray} {t : T} {a : Option Addr} {c : Nat} (ht : t.At w a) (ho : W5.ownsRow base 81 23 v5 (A.length + 1) (rowN es ++ nmcells s t.o (.slice a t.l.length c))) : NamO w W5 base v5 (A ++ [(s, t)]) := by
  refine ⟨es ++ [(s, t.o, .slice a t.l.length c)], ?_, by simp [h2], fun i s' t' hi => ?_⟩
  · have e1 : rowN (es ++ [(s, t.o, .slice a t.l.length c)]) = rowN es ++ nmcells s t.o (.slice a t.l.length c) := by unfold rowN; simp
    rw [e1, List.length_append]
    exact ho
  · by_cases hlt : i < A.length
    · rw [List.getElem?_append_left hlt] at hi
      obtain ⟨a', c', p1, p2⟩ := h3 i s' t' hi
      exact ⟨a', c', by rw [List.getElem?_append_left (by rw [h2]; exact hlt)]; exact p1, p2⟩
    · have hi2 : i = A.length := by
        have := (List.getElem?_eq_some_iff.1 hi).1
        simp at this
        omega
      subst hi2
      rw [List.getElem?_append_right (Nat.le_refl _), Nat.sub_self] at hi
      simp at hi
      obtain ⟨rfl, rfl⟩ := hi
      exact ⟨a, c, by rw [List.getElem?_append_right (by rw [h2]; omega), h2, Nat.sub_self]; rfl, ht⟩
theorem NamO.rows {w wr : World} {base n cap : Nat} {a : Option Addr} {A : List (ByteArray × T)} (h : NamO w wr base (.slice a n cap) A) (hb : Below w.heap.size w wr) : RowsAt wr a A := by
  obtain ⟨es, h1, h2, h3⟩ := h
  intro h0
  rcases h1.2 with ⟨_, h4⟩ | ⟨g, cap', cur, e, h5, h6, _, _, h7, h8⟩
  · omega
  · cases e
    have cell : ∀ j u, (rowN es)[j]? = some u → wr.cell? ⟨g, 0 + j, none⟩ = some u := fun j u hu => by
      have hj : j < A.length * 23 := by have := (List.getElem?_eq_some_iff.1 hu).1; rw [rowN_length, h2] at this; exact this
      rw [cell_of_heap h6, Nat.zero_add, ← hu, ← h8, List.getElem?_take_of_lt hj]
      simp
    refine ⟨g, 0, rfl, lt_of_heap h6, fun i s t hi => ?_⟩
    obtain ⟨a', c', p1, p2⟩ := h3 i s t hi
    refine ⟨cell _ _ (by have := rowN_at p1 (j := 0) (by omega); exact this), a', c', fun j hj => ?_, p2.below hb t⟩
    have h9 := rowN_at p1 (j := j + 1) (by omega)
    have h10 : (nmcells s t.o (.slice a' t.l.length c'))[j + 1]? = (ncells t.o (.slice a' t.l.length c'))[j]? := rfl
    obtain ⟨u, hu⟩ : ∃ u, (ncells t.o (.slice a' t.l.length c'))[j]? = some u := ⟨_, List.getElem?_eq_getElem (by show j < 22; exact hj)⟩
    rw [hu] at h10 ⊢
    rw [h10] at h9
    have := cell _ _ h9
    rw [show 0 + i * 23 + 1 + j = 0 + (i * 23 + (j + 1)) from by omega]
    exact this
/-- The rows with a name set. -/
def insG (s : ByteArray) (t : T) (gt : ByteArray → Bool) : List (ByteArray × T) → Bool → List (ByteArray × T)
  | [], b => if b then [] else [(s, t)]
  | (x, u) :: r, b => if x = s then insG s t gt r b else if !b && gt x then (s, t) :: (x, u) :: insG s t gt r true else (x, u) :: insG s t gt r b
theorem insG_get (s : ByteArray) (t : T) (gt : ByteArray → Bool) : ∀ (l : List (ByteArray × T)) (b : Bool) (y : ByteArray), getL (insG s t gt l b) y = if y = s then (if b then none else some t) else getL l y
  | [], b, y => by
    have e : (s = y) ↔ (y = s) := eq_comm
    cases b <;> by_cases h : y = s <;> simp [insG, getL, h, e]
  | (x, u) :: r, b, y => by
    rw [insG]
    by_cases hx : x = s
    · rw [if_pos hx, insG_get s t gt r b y]
      by_cases hy : y = s
      · rw [if_pos hy, if_pos hy]
      · rw [if_neg hy, if_neg hy, getL, if_neg (fun e => hy (by rw [← e, hx]))]
    · rw [if_neg hx]
      cases hb : (!b && gt x) with
      | true =>
        rw [if_pos rfl, getL]
        have hb2 : b = false := by cases b <;> simp at hb ⊢
        by_cases hy : y = s
        · rw [if_pos hy.symm, if_pos hy, hb2]; rfl
        · rw [if_neg (Ne.symm hy), if_neg hy, getL, getL]
          by_cases hxy : x = y
          · rw [if_pos hxy, if_pos hxy]
          · rw [if_neg hxy, if_neg hxy, insG_get s t gt r true y, if_neg hy]
      | false =>
        rw [if_neg (by simp), getL, getL]
        by_cases hxy : x = y
        · rw [if_pos hxy, if_pos hxy, if_neg (fun e => hx (by rw [hxy, e]))]
        · rw [if_neg hxy, if_neg hxy, insG_get s t gt r b y]
theorem insG_length (s : ByteArray) (t : T) (gt : ByteArray → Bool) : ∀ (l : List (ByteArray × T)) (b : Bool), (l.map Prod.fst).Nodup → (insG s t gt l b).length + (if b then 1 else 0) + (if (getL l s).isSome then 1 else 0) = l.length + 1
  | [], b, _ => by cases b <;> simp [insG, getL]
  | (x, u) :: r, b, h => by
    simp only [List.map_cons, List.nodup_cons] at h
    have ih := fun b => insG_length s t gt r b h.2
    rw [insG, getL]
    by_cases hx : x = s
    · rw [if_pos hx, if_pos hx]
      have hn : getL r s = none := by
        rw [← hx]
        cases hg : getL r x with
        | none => rfl
        | some v =>
          obtain ⟨i, hi⟩ := List.mem_iff_getElem?.1 (mem_of_getL hg)
          exact absurd (List.mem_map.2 ⟨(x, v), List.mem_of_getElem? hi, rfl⟩) h.1
      have := ih b
      rw [hn] at this
      simp at this ⊢
      omega
    · rw [if_neg hx, if_neg hx]
      cases hb : (!b && gt x) with
      | true =>
        have hb2 : b = false := by cases b <;> simp at hb ⊢
        have := ih true
        rw [if_pos rfl, hb2]
        simp at this ⊢
        omega
      | false =>
        have := ih b
        rw [if_neg (by simp)]
        simp at this ⊢
        omega
theorem insG_fst (s : ByteArray) (t : T) (gt : ByteArray → Bool) : ∀ (l : List (ByteArray × T)) (b : Bool), (l.map Prod.fst).Nodup → ((insG s t gt l b).map Prod.fst).Nodup ∧ (∀ x, x ∈ (insG s t gt l b).map Prod.fst → x = s ∧ b = false ∨ x ≠ s ∧ x ∈ l.map Prod.fst)
  | [], b, _ => by cases b <;> simp [insG]
  | (x, u) :: r, b, h => by
    simp only [List.map_cons, List.nodup_cons] at h
    have ih := fun b => insG_fst s t gt r b h.2
    rw [insG]
    by_cases hx : x = s
    · rw [if_pos hx]
      refine ⟨(ih b).1, fun y hy => ?_⟩
      rcases (ih b).2 y hy with h1 | ⟨h1, h2⟩
      · exact .inl h1
      · exact .inr ⟨h1, List.mem_cons_of_mem _ h2⟩
    · rw [if_neg hx]
      cases hb : (!b && gt x) with
      | true =>
        have hb2 : b = false := by cases b <;> simp at hb ⊢
        rw [if_pos rfl]
        simp only [List.map_cons, List.nodup_cons, List.mem_cons]
        refine ⟨⟨?_, ?_, (ih true).1⟩, fun y hy => ?_⟩
        · rintro (h1 | h1)
          · exact hx h1.symm
          · rcases (ih true).2 s h1 with ⟨_, h2⟩ | ⟨h2, _⟩
            · cases h2
            · exact h2 rfl
        · intro h1
          rcases (ih true).2 x h1 with ⟨_, h2⟩ | ⟨_, h2⟩
          · cases h2
          · exact h.1 h2
        · rcases hy with hy | hy | hy
          · exact .inl ⟨hy, hb2⟩
          · exact .inr ⟨by rw [hy]; exact hx, .inl hy⟩
          · rcases (ih true).2 y hy with ⟨_, h2⟩ | ⟨h2, h4⟩
            · cases h2
            · exact .inr ⟨h2, .inr h4⟩
      | false =>
        rw [if_neg (by simp)]
        simp only [List.map_cons, List.nodup_cons, List.mem_cons]
        refine ⟨⟨fun h1 => ?_, (ih b).1⟩, fun y hy => ?_⟩
        · rcases (ih b).2 x h1 with ⟨h2, _⟩ | ⟨_, h2⟩
          · exact hx h2
          · exact h.1 h2
        · rcases hy with hy | hy
          · exact .inr ⟨by rw [hy]; exact hx, .inl hy⟩
          · rcases (ih b).2 y hy with h1 | ⟨h1, h2⟩
            · exact .inl h1
            · exact .inr ⟨h1, .inr h2⟩
end Go.Proofs.Ytlcglkanlhmmdaa
