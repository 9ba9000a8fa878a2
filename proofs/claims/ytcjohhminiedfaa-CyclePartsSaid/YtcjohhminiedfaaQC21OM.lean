/- Cycle: Order's blocks in memory. -/
import Derived.Test.YtcjohhminiedfaaQC21O
namespace Go.Proofs.Ytcjohhminiedfaa
open Go.RowKit
/-- A row of the graph, as it is read; K: all its blocks lie below. -/
def RowAt (K : Nat) (ra : Option Addr) (l : List Nat) (w : World) : Prop := ∀ W, Below K w W → ∀ (k y : Nat), l[k]? = some y → ∃ rg, ra = some ⟨rg, 0, none⟩ ∧ rg < W.heap.size ∧ W.cell? ⟨rg, k, none⟩ = some (.int .i64 (y : Int))
theorem RR.rowAt {K x : Nat} {w : World} {v : Value} {vs : List Value} {L : List (List Nat)} (h : RR 0 w v vs L) (hK : ∀ (i : Nat) (u : Value) (k : Nat), vs[i]? = some u → u.ownBlock = some k → k < K) (hx : x < L.length) :
    (L.getD x []).length ≤ maxLen ∧ ∃ (ta tc : Nat) (ra : Option Addr) (rc : Nat), v = .slice (some ⟨ta, 0, none⟩) L.length tc ∧ ta < w.heap.size ∧ w.cell? ⟨ta, x, none⟩ = some (.slice ra (L.getD x []).length rc) ∧ RowAt K ra (L.getD x []) w := by
  obtain ⟨a, cap, e1, _, hr⟩ := h.slice
  have hx1 : L[x]? = some (L.getD x []) := by
    rw [List.getD_eq_getElem?_getD, List.getElem?_eq_getElem hx]
    rfl
  obtain ⟨g, rfl, hg, a', c', hv, hc, hrow⟩ := hr x _ hx1
  refine ⟨own_max hrow, g, cap, a', c', e1, hg, hc, fun W hW k y hy => ?_⟩
  obtain ⟨a2, cap2, e2, _, h2⟩ := hrow.slice
  cases e2
  have h0 : 0 < (L.getD x []).length := by have := (List.getElem?_eq_some_iff.1 hy).1; omega
  obtain ⟨rg, rfl, _, hlt, _, hcell⟩ := h2 h0
  exact ⟨rg, rfl, Nat.lt_of_lt_of_le hlt hW.size, (hW.cell (p := ⟨rg, k, none⟩) (hK x _ rg hv rfl)).trans (hcell k y hy)⟩
theorem GrR.rowT {K x : Nat} {w : World} {G : Gb} {T F : List (List Nat)} (h : GrR w G T F) (hK : ∀ k, G.has k → k < K) (hx : x < T.length) :
    (T.getD x []).length ≤ maxLen ∧ ∃ (ta tc : Nat) (ra : Option Addr) (rc : Nat), w.cell? ⟨G.p, 0, none⟩ = some (.slice (some ⟨ta, 0, none⟩) T.length tc) ∧ ta < w.heap.size ∧ w.cell? ⟨ta, x, none⟩ = some (.slice ra (T.getD x []).length rc) ∧ RowAt K ra (T.getD x []) w := by
  obtain ⟨h1, ta, tc, ra, rc, e, h2⟩ := h.to.rowAt (K := K) (fun i u k e1 e2 => hK k (.inr (.inr (.inr (.inr (.inl ⟨i, u, e1, e2⟩)))))) hx
  exact ⟨h1, ta, tc, ra, rc, by rw [← e]; exact cell_of_heap h.blk 0, h2⟩
theorem GrR.rowF {K x : Nat} {w : World} {G : Gb} {T F : List (List Nat)} (h : GrR w G T F) (hK : ∀ k, G.has k → k < K) (hx : x < F.length) :
    (F.getD x []).length ≤ maxLen ∧ ∃ (ta tc : Nat) (ra : Option Addr) (rc : Nat), w.cell? ⟨G.p, 1, none⟩ = some (.slice (some ⟨ta, 0, none⟩) F.length tc) ∧ ta < w.heap.size ∧ w.cell? ⟨ta, x, none⟩ = some (.slice ra (F.getD x []).length rc) ∧ RowAt K ra (F.getD x []) w := by
  obtain ⟨h1, ta, tc, ra, rc, e, h2⟩ := h.fr.rowAt (K := K) (fun i u k e1 e2 => hK k (.inr (.inr (.inr (.inr (.inr ⟨i, u, e1, e2⟩)))))) hx
  exact ⟨h1, ta, tc, ra, rc, by rw [← e]; exact cell_of_heap h.blk 1, h2⟩
/-- The graph, the parts, whose part each node is of. -/
structure OB (K n bo : Nat) (G : Gb) (T F L : List (List Nat)) (pv : Value) (vs : List Value) (w : World) (os : List Nat) : Prop where
  KB : K ≤ bo
  gr : 0 < n → GrR w G T F
  grK : 0 < n → ∀ k, G.has k → k < K
  pa : RR K w pv vs L
  paB : ∀ k, pv.ownBlock = some k → k < bo
  vsB : ∀ (i : Nat) (u : Value) (k : Nat), vs[i]? = some u → u.ownBlock = some k → k < bo
  bo : w.heap[bo]? = some (.cells (os.map iv).toArray 3)
section
variable {K n bo bw r : Nat} {G : Gb} {T F L : List (List Nat)} {pv sv lv : Value} {vs : List Value} {w w' : World} {os W h l : List Nat}
theorem OB.keep (hO : OB K n bo G T F L pv vs w os) (hk : ∀ k, k ≤ bo → k < w.heap.size → w'.heap[k]? = w.heap[k]?) : OB K n bo G T F L pv vs w' os :=
  ⟨hO.KB, fun h0 => (hO.gr h0).keep fun k e hlt => hk k (by have := hO.grK h0 k e; have := hO.KB; omega) hlt, hO.grK,
   hO.pa.block (fun k e hlt => hk k (Nat.le_of_lt (hO.paB k e)) hlt) fun i u k e1 e2 hlt => hk k (Nat.le_of_lt (hO.vsB i u k e1 e2)) hlt, hO.paB, hO.vsB, (hk _ (Nat.le_refl _) (lt_of_heap hO.bo)).trans hO.bo⟩
theorem OB.put (hO : OB K n bo G T F L pv vs w os) (x i : Nat) {v : Int} (hv : v = i) : OB K n bo G T F L pv vs (w.setCell ⟨bo, x, none⟩ (.int .i64 v)) (os.set x i) := by
  have hk : ∀ k, k < bo → (w.setCell ⟨bo, x, none⟩ (.int .i64 v)).heap[k]? = w.heap[k]? := fun k h => set_other k (fun e => by change k = bo at e; omega)
  exact ⟨hO.KB, fun h0 => (hO.gr h0).keep fun k e _ => hk k (by have := hO.grK h0 k e; have := hO.KB; omega), hO.grK,
   hO.pa.block (fun k e _ => hk k (hO.paB k e)) fun i u k e1 e2 _ => hk k (hO.vsB i u k e1 e2), hO.paB, hO.vsB, by rw [heap_setCell_at hO.bo, hv]; simp [List.map_set, iv]⟩
theorem OB.at (hO : OB K n bo G T F L pv vs w os) {y v : Nat} (hy : os[y]? = some v) : w.cell? ⟨bo, y, none⟩ = some (.int .i64 (v : Int)) := by
  rw [cell_of_heap hO.bo]; simp [hy, iv]
/-- A part as it is read. -/
theorem OB.part (hO : OB K n bo G T F L pv vs w os) {i : Nat} {p : List Nat} (hp : L[i]? = some p) : p.length ≤ maxLen ∧ ∃ (g pc : Nat) (ra : Option Addr) (rc : Nat), pv = .slice (some ⟨g, 0, none⟩) L.length pc ∧ g < w.heap.size ∧ w.cell? ⟨g, i, none⟩ = some (.slice ra p.length rc) ∧ RowAt bo ra p w := by
  obtain ⟨a, cap, e1, _, hr⟩ := hO.pa.slice
  obtain ⟨g, rfl, hg, a', c', hv, hc, hrow⟩ := hr i _ hp
  refine ⟨own_max hrow, g, cap, a', c', e1, hg, hc, fun W hW k y hy => ?_⟩
  obtain ⟨a2, cap2, e2, _, h2⟩ := hrow.slice
  cases e2
  have h0 : 0 < p.length := by have := (List.getElem?_eq_some_iff.1 hy).1; omega
  obtain ⟨rg, rfl, _, hlt, _, hcell⟩ := h2 h0
  exact ⟨rg, rfl, Nat.lt_of_lt_of_le hlt hW.size, (hW.cell (p := ⟨rg, k, none⟩) (hO.vsB i _ rg hv rfl)).trans (hcell k y hy)⟩
/-- With what is waited for. -/
structure OW (K n bo bw : Nat) (G : Gb) (T F L : List (List Nat)) (pv : Value) (vs : List Value) (w : World) (os W : List Nat) : Prop where
  ob : OB K n bo G T F L pv vs w os
  lt : bo < bw
  wt : w.heap[bw]? = some (.cells (W.map iv).toArray 3)
theorem OW.keep (hO : OW K n bo bw G T F L pv vs w os W) (hk : ∀ k, k ≤ bw → k < w.heap.size → w'.heap[k]? = w.heap[k]?) : OW K n bo bw G T F L pv vs w' os W :=
  ⟨hO.ob.keep fun k h1 h2 => hk k (by have := hO.lt; omega) h2, hO.lt, (hk _ (Nat.le_refl _) (lt_of_heap hO.wt)).trans hO.wt⟩
theorem OW.below (hO : OW K n bo bw G T F L pv vs w os W) (hb : Below w.heap.size w w') : OW K n bo bw G T F L pv vs w' os W := hO.keep fun k _ hk => hb.block k hk
theorem OW.put (hO : OW K n bo bw G T F L pv vs w os W) (x i : Nat) {v : Int} (hv : v = i) : OW K n bo bw G T F L pv vs (w.setCell ⟨bw, x, none⟩ (.int .i64 v)) os (W.set x i) :=
  ⟨hO.ob.keep fun k h1 _ => set_other k (fun e => by have := hO.lt; change k = bw at e; omega), hO.lt, by rw [heap_setCell_at hO.wt, hv]; simp [List.map_set, iv]⟩
theorem OW.at (hO : OW K n bo bw G T F L pv vs w os W) {y v : Nat} (hy : W[y]? = some v) : w.cell? ⟨bw, y, none⟩ = some (.int .i64 (v : Int)) := by
  rw [cell_of_heap hO.wt]; simp [hy, iv]
/-- With the parts that may come, and who came. -/
structure OM (K n bo bw r : Nat) (G : Gb) (T F L : List (List Nat)) (pv : Value) (vs : List Value) (w : World) (os W h l : List Nat) (sv lv : Value) : Prop where
  ow : OW K n bo bw G T F L pv vs w os W
  hr : HpR r w sv h
  rlt : bw < r
  svlt : ∀ k, sv.ownBlock = some k → bw < k
  l : IR (bw + 1) w lv l
  ap : ∀ k, sv.ownBlock = some k → lv.ownBlock ≠ some k
theorem IR.ne' {B r : Nat} {w : World} {sv : Value} {h : List Nat} {t : TypeId} {cs : Array Value} (hr : IR B w sv h) (hb : w.heap[r]? = some (.cells cs t)) (ht : t ≠ 3) : sv.ownBlock ≠ some r := (hr.base (Nat.zero_le B)).ne hb ht
theorem OM.below (hO : OM K n bo bw r G T F L pv vs w os W h l sv lv) (hb : Below w.heap.size w w') : OM K n bo bw r G T F L pv vs w' os W h l sv lv :=
  ⟨hO.ow.below hb, ⟨(hb.block _ (lt_of_heap hO.hr.blk)).trans hO.hr.blk, hO.hr.row.below hb⟩, hO.rlt, hO.svlt, hO.l.below hb, hO.ap⟩
theorem OM.heap {h' : List Nat} (hO : OM K n bo bw r G T F L pv vs w os W h l sv lv) (hp : HpP r w sv h' w') : ∃ sv', OM K n bo bw r G T F L pv vs w' os W h' l sv' lv := by
  obtain ⟨sv', h1, h2, h3⟩ := hp
  refine ⟨sv', hO.ow.keep fun k hk hlt => h2.block k hlt fun e => ?_, h1, hO.rlt, fun k e => ?_, hO.l.block fun k e hlt => h2.block k hlt fun e2 => ?_, fun k e e2 => ?_⟩
  · rcases e with e | e
    · have := hO.rlt
      omega
    · have := hO.svlt k e
      omega
  · rcases h3 k e with e2 | e2
    · exact hO.svlt k e2
    · have := lt_of_heap hO.ow.wt
      omega
  · rcases e2 with e2 | e2
    · exact hO.l.ne' hO.hr.blk (by decide) (e2 ▸ e)
    · exact hO.ap k e2 e
  · rcases h3 k e with e3 | e3
    · exact hO.ap k e3 e2
    · have := (hO.l.lt k e2).2
      omega
theorem OM.heapBelow {h' : List Nat} (hO : OM K n bo bw r G T F L pv vs w os W h l sv lv) (hp : HpP r w sv h' w') : Below bw w w' := by
  obtain ⟨sv', h1, h2, h3⟩ := hp
  refine ⟨h2.os, h2.tape, h2.output, h2.size, fun k hk => ?_⟩
  by_cases hlt : k < w.heap.size
  · refine h2.block k hlt fun e => ?_
    rcases e with e | e
    · have := hO.rlt
      omega
    · have := hO.svlt k e
      omega
  · have := lt_of_heap hO.ow.wt
    omega
theorem OM.put (hO : OM K n bo bw r G T F L pv vs w os W h l sv lv) (x i : Nat) {v : Int} (hv : v = i) : OM K n bo bw r G T F L pv vs (w.setCell ⟨bw, x, none⟩ (.int .i64 v)) os (W.set x i) h l sv lv :=
  ⟨hO.ow.put x i hv, ⟨(set_other r (fun e => by have := hO.rlt; change r = bw at e; omega)).trans hO.hr.blk, hO.hr.row.block fun k e _ => set_other k fun e2 => by have := hO.svlt k e; change k = bw at e2; omega⟩, hO.rlt, hO.svlt,
   hO.l.block fun k e _ => set_other k fun e2 => (by have := (hO.l.lt k e).1; change k = bw at e2; omega), hO.ap⟩
theorem OM.push (hO : OM K n bo bw r G T F L pv vs w os W h l sv lv) {v' : Value} {p : List Nat} (hown : w'.ownsRow (bw + 1) 3 1 v' (l.length + p.length) (l.map iv ++ p.map iv)) (hg : w.grownBy w' lv.ownBlock) (hloc : v'.ownBlock = lv.ownBlock ∨ v'.ownBlock = some w.heap.size) :
    OM K n bo bw r G T F L pv vs w' os W h (l ++ p) sv v' ∧ Below bw w w' := by
  have hne : ∀ k, lv.ownBlock = some k → bw < k := fun k e => (hO.l.lt k e).1
  refine ⟨⟨hO.ow.keep fun k hk hlt => hg.block k hlt fun e => ?_, ⟨(hg.block _ (lt_of_heap hO.hr.blk) fun e => ?_).trans hO.hr.blk, hO.hr.row.block fun k e hlt => hg.block k hlt fun e2 => hO.ap k e e2.symm⟩, hO.rlt, hO.svlt, ?_, fun k e e2 => ?_⟩, ?_⟩
  · have := hne k e.symm
    omega
  · exact hO.l.ne' hO.hr.blk (by decide) e.symm
  · unfold IR
    rw [List.length_append, List.map_append]
    exact hown
  · rcases hloc with h1 | h1
    · exact hO.ap k e (h1 ▸ e2)
    · rw [h1] at e2
      cases e2
      have := (hO.hr.row.lt _ e).2
      omega
  · refine ⟨hg.os, hg.tape, hg.output, hg.size, fun k hk => ?_⟩
    by_cases hlt : k < w.heap.size
    · refine hg.block k hlt fun e => ?_
      have := hne k e.symm
      omega
    · have := lt_of_heap hO.ow.wt
      omega
theorem OM.start (hO : OW K n bo bw G T F L pv vs w os W) : OM K n bo bw w.heap.size G T F L pv vs (w.alloc (.cells #[.slice none 0 0] 66)) os W [] [] (.slice none 0 0) (.slice none 0 0) :=
  ⟨hO.below (below_alloc w _ _ (Nat.le_refl _)), ⟨heap_alloc_new w _, IR.nil _ _⟩, lt_of_heap hO.wt, fun k e => (by cases e), IR.nil _ _, fun k e => (by cases e)⟩
theorem OM.slices (hO : OM K n bo bw r G T F L pv vs w os W h l sv lv) : (∃ sa sc, sv = .slice sa h.length sc) ∧ ∃ la lc, lv = .slice la l.length lc := by
  obtain ⟨sa, sc, e, _⟩ := hO.hr.row.slice
  obtain ⟨la, lc, e2, _⟩ := hO.l.slice
  exact ⟨⟨sa, sc, e⟩, la, lc, e2⟩
end
theorem flat_nodup {n : Nat} {T L : List (List Nat)} (hs : SCC n T L) : ∀ (O : List Nat), O.Nodup → (∀ i ∈ O, i < L.length) → (O.flatMap fun i => L.getD i []).Nodup ∧ ∀ x ∈ O.flatMap (fun i => L.getD i []), x < n := by
  intro O
  induction O with
  | nil => intro _ _; exact ⟨List.nodup_nil, fun x hx => by simp at hx⟩
  | cons i O ih =>
    intro h1 h2
    rw [List.nodup_cons] at h1
    obtain ⟨k1, k2⟩ := ih h1.2 fun j hj => h2 j (List.mem_cons_of_mem _ hj)
    have hi := h2 i (by simp)
    have hp : L[i]? = some (L.getD i []) := by rw [List.getD_eq_getElem?_getD, List.getElem?_eq_getElem hi]; rfl
    rw [List.flatMap_cons]
    refine ⟨List.nodup_append.2 ⟨hs.nod _ (List.mem_of_getElem? hp), k1, fun a ha b hb e => ?_⟩, fun x hx => ?_⟩
    · subst e
      obtain ⟨j, hj, hb⟩ := List.mem_flatMap.1 hb
      have hjl := h2 j (List.mem_cons_of_mem _ hj)
      have hq : L[j]? = some (L.getD j []) := by rw [List.getD_eq_getElem?_getD, List.getElem?_eq_getElem hjl]; rfl
      have := hs.same hp hq ha hb
      subst this
      exact h1.1 hj
    · rcases List.mem_append.1 hx with hx | hx
      · exact hs.lt _ (List.mem_of_getElem? hp) x hx
      · exact k2 x hx
theorem flat_le {n : Nat} {T L : List (List Nat)} (hs : SCC n T L) (O : List Nat) (h1 : O.Nodup) (h2 : ∀ i ∈ O, i < L.length) : (O.flatMap fun i => L.getD i []).length ≤ n :=
  len_le (fun j => List.nodup_iff_count.1 (flat_nodup hs O h1 h2).1 j) (flat_nodup hs O h1 h2).2
/-! Whose part each node is of, laid row by row -/
/-- The first i parts, and the first k nodes of the next one, are told. -/
def OsK (n : Nat) (L : List (List Nat)) (i k : Nat) (os : List Nat) : Prop := os.length = n ∧ (∀ (i' : Nat) (p : List Nat), i' < i → L[i']? = some p → ∀ y ∈ p, os.getD y 0 = i') ∧ ∀ (p : List Nat), L[i]? = some p → ∀ y ∈ p.take k, os.getD y 0 = i
theorem OsK.zero (n : Nat) (L : List (List Nat)) : OsK n L 0 0 (List.replicate n 0) := ⟨by simp, fun i' p h => by omega, fun p _ y hy => by simp at hy⟩
theorem OsK.set {n : Nat} {T L : List (List Nat)} {i k x : Nat} {os p : List Nat} (hs : SCC n T L) (h : OsK n L i k os) (hp : L[i]? = some p) (hx : p[k]? = some x) : OsK n L i (k + 1) (os.set x i) := by
  have hxp := List.mem_of_getElem? hx
  have hxl : x < os.length := by rw [h.1]; exact hs.lt p (List.mem_of_getElem? hp) x hxp
  refine ⟨by rw [List.length_set]; exact h.1, fun i' q hi hq y hy => ?_, fun q hq y hy => ?_⟩
  · have : x ≠ y := fun e => by
      subst e
      have := hs.same hp hq hxp hy
      omega
    rw [getD_set_other this]
    exact h.2.1 i' q hi hq y hy
  · rw [hp] at hq
    cases hq
    by_cases e : x = y
    · subst e
      exact getD_set_self hxl
    · rw [getD_set_other e]
      rw [List.take_add_one, hx] at hy
      rcases List.mem_append.1 hy with hy | hy
      · exact h.2.2 p hp y hy
      · exact absurd (List.mem_singleton.1 hy).symm e
theorem OsK.next {n : Nat} {L : List (List Nat)} {i : Nat} {os p : List Nat} (h : OsK n L i p.length os) (hp : L[i]? = some p) : OsK n L (i + 1) 0 os := by
  refine ⟨h.1, fun i' q hi hq y hy => ?_, fun q _ y hy => by simp at hy⟩
  by_cases e : i' = i
  · subst e
    rw [hp] at hq
    cases hq
    exact h.2.2 p hp y (by rw [List.take_of_length_le (Nat.le_refl _)]; exact hy)
  · exact h.2.1 i' q (by omega) hq y hy
theorem OsK.done {n : Nat} {T L : List (List Nat)} {os : List Nat} (hs : SCC n T L) (h : OsK n L L.length 0 os) {y : Nat} (hy : y < n) : os[y]? = some (ofL L y) := by
  obtain ⟨p, hp, hyp⟩ := hs.of_at hy
  have h1 := h.2.1 _ p (hs.of_lt hy) hp y hyp
  have hl : y < os.length := by rw [h.1]; exact hy
  rw [getDn hl] at h1
  rw [List.getElem?_eq_getElem hl, h1]
/-! How many edges lead out of each part -/
def cntW (m : Nat) (D : List Nat) : List Nat := (List.range m).map fun j => D.count j
theorem cntW_at {m j : Nat} {D : List Nat} (hj : j < m) : (cntW m D)[j]? = some (D.count j) := by
  unfold cntW
  rw [List.getElem?_map, List.getElem?_range hj]
  rfl
theorem cntW_len (m : Nat) (D : List Nat) : (cntW m D).length = m := by simp [cntW]
theorem cntW_nil (m : Nat) : cntW m [] = List.replicate m 0 := by
  apply List.ext_getElem?
  intro i
  by_cases hi : i < m
  · rw [cntW_at hi, List.getElem?_replicate, if_pos hi]
    rfl
  · rw [List.getElem?_eq_none (by rw [cntW_len]; omega), List.getElem?_eq_none (by simp; omega)]
theorem cntW_push {m j : Nat} {D : List Nat} (hj : j < m) : (cntW m D).set j (D.count j + 1) = cntW m (D ++ [j]) := by
  apply List.ext_getElem?
  intro i
  by_cases hi : i < m
  · rw [cntW_at hi]
    by_cases e : j = i
    · subst e
      rw [List.getElem?_set_self (by rw [cntW_len]; exact hj), List.count_append]
      simp
    · rw [List.getElem?_set_ne e, cntW_at hi, List.count_append, List.count_singleton]
      have : (j == i) = false := by simpa using e
      simp [this]
  · rw [List.getElem?_eq_none (by rw [List.length_set, cntW_len]; omega), List.getElem?_eq_none (by rw [cntW_len]; omega)]
/-- The edges of x that lead out of its part, told by that part. -/
def outX (L : List (List Nat)) (x : Nat) (row : List Nat) : List Nat := (row.filter fun y => ofL L y != ofL L x).map fun _ => ofL L x
def outsX (T L : List (List Nat)) (k : Nat) : List Nat := (List.range k).flatMap fun x => outX L x (T.getD x [])
theorem outX_push (L : List (List Nat)) (x : Nat) (row : List Nat) (b y : Nat) (h : row[b]? = some y) : outX L x (row.take (b + 1)) = outX L x (row.take b) ++ if ofL L y = ofL L x then [] else [ofL L x] := by
  unfold outX
  rw [List.take_add_one, h, List.filter_append, List.map_append]
  by_cases e : ofL L y = ofL L x
  · simp [e]
  · simp [e]
theorem outsX_succ (T L : List (List Nat)) (k : Nat) : outsX T L (k + 1) = outsX T L k ++ outX L k (T.getD k []) := by
  unfold outsX
  rw [List.range_succ, List.flatMap_append]
  simp
theorem jsOf_len (L : List (List Nat)) (x : Nat) (row : List Nat) (j : Nat) : (outX L x row).count j = if ofL L x = j then (jsOf L j row).length else 0 := by
  unfold outX jsOf
  split
  · rename_i e
    subst e
    rw [List.count_eq_length.2 (fun b hb => by obtain ⟨_, _, e⟩ := List.mem_map.1 hb; exact e), List.length_map]
    induction row with
    | nil => rfl
    | cons a r ih =>
      rw [List.filter_cons, List.map_cons, List.filter_cons]
      split
      · rw [List.length_cons, List.length_cons, ih]
      · exact ih
  · rename_i e
    exact List.count_eq_zero.2 fun h => by
      obtain ⟨_, _, e2⟩ := List.mem_map.1 h
      exact e e2
theorem PL.part_eq {n : Nat} {T L : List (List Nat)} (h : PL n T L) {j : Nat} {p : List Nat} (hp : L[j]? = some p) : p = (List.range n).filter fun x => ofL L x == j := by
  refine rise_eq (h.rise p (List.mem_of_getElem? hp)) (List.Pairwise.filter _ List.pairwise_lt_range) fun x => ?_
  rw [List.mem_filter, List.mem_range]
  constructor
  · exact fun hx => ⟨h.scc.lt p (List.mem_of_getElem? hp) x hx, by simpa using h.scc.of_eq hp hx⟩
  · rintro ⟨h1, h2⟩
    obtain ⟨q, hq, hx⟩ := h.scc.of_at h1
    rw [beq_iff_eq.1 h2, hp] at hq
    cases hq
    exact hx
theorem sum_filter (l : List Nat) (q : Nat → Bool) (f : Nat → Nat) : ((l.filter q).map f).sum = (l.map fun x => if q x = true then f x else 0).sum := by
  induction l with
  | nil => rfl
  | cons a r ih =>
    rw [List.filter_cons]
    by_cases h : q a = true
    · rw [if_pos h, List.map_cons, List.sum_cons, List.map_cons, List.sum_cons, if_pos h, ih]
    · rw [if_neg h, List.map_cons, List.sum_cons, if_neg h, ih, Nat.zero_add]
theorem outsX_count {n : Nat} {T L : List (List Nat)} (h : PL n T L) {j : Nat} (hj : j < L.length) : (outsX T L n).count j = (outs T L j).length := by
  have hp := List.getElem?_eq_getElem hj
  unfold outsX outs
  rw [List.count_flatMap, List.length_flatMap, List.getD_eq_getElem?_getD, hp]
  show _ = (L[j].map _).sum
  rw [h.part_eq hp, sum_filter]
  refine sum_congr fun x _ => ?_
  show (outX L x _).count j = _
  rw [jsOf_len]
  simp only [beq_iff_eq]
theorem OInv.start {n : Nat} {T L : List (List Nat)} (h : PL n T L) {hh : List Nat} (hp : IsHp hh) (hc : ∀ j, hh.count j = if j < L.length ∧ (outsX T L n).count j = 0 then 1 else 0) : OInv T L [] (cntW L.length (outsX T L n)) hh := by
  have hrem : ∀ j, j < L.length → rem T L [] j = (outsX T L n).count j := fun j hj => by
    rw [outsX_count h hj]
    unfold rem
    rw [List.countP_eq_length]
    simp
  refine ⟨List.nodup_nil, fun i hi => (by cases hi), cntW_len _ _, fun j hj => ?_, hp, fun j => ?_, fun A i B e => (by simp at e)⟩
  · rw [List.getD_eq_getElem?_getD, cntW_at hj, hrem j hj]
    rfl
  · rw [hc]
    by_cases hj : j < L.length
    · rw [hrem j hj]
      simp [hj]
    · rw [if_neg (fun h => hj h.1), if_neg (fun h => hj h.1)]
theorem outX_le (L : List (List Nat)) (x : Nat) (row : List Nat) : (outX L x row).length ≤ row.length := by
  unfold outX
  rw [List.length_map]
  exact List.length_filter_le _ _
theorem outsX_take {T : List (List Nat)} (L : List (List Nat)) : ∀ k, k ≤ T.length → (outsX T L k).length ≤ ((T.take k).map List.length).sum := by
  intro k
  induction k with
  | zero => intro _; simp [outsX]
  | succ k ih =>
    intro hk
    have h1 := ih (by omega)
    have h2 := outX_le L k (T.getD k [])
    have e : T[k]? = some (T.getD k []) := by rw [List.getD_eq_getElem?_getD, List.getElem?_eq_getElem (by omega)]; rfl
    rw [outsX_succ, List.length_append, List.take_add_one, e]
    simp only [Option.toList_some, List.map_append, List.map_cons, List.map_nil, List.sum_append, List.sum_cons, List.sum_nil]
    omega
theorem outsX_le {T : List (List Nat)} (L : List (List Nat)) {k : Nat} (hk : k < T.length) : (outsX T L k).length + (T.getD k []).length ≤ (T.map List.length).sum := by
  have h1 := outsX_take (T := T) L k (by omega)
  have e : T[k]? = some (T.getD k []) := by rw [List.getD_eq_getElem?_getD, List.getElem?_eq_getElem hk]; rfl
  have h2 : (T.map List.length).sum = ((T.take (k + 1)).map List.length).sum + ((T.drop (k + 1)).map List.length).sum := by rw [← List.sum_append, ← List.map_append, List.take_append_drop]
  rw [h2, List.take_add_one, e]
  simp only [Option.toList_some, List.map_append, List.map_cons, List.map_nil, List.sum_append, List.sum_cons, List.sum_nil]
  omega
theorem OInv.wle {n : Nat} {T L : List (List Nat)} {O W h : List Nat} (hI : OInv T L O W h) (hT : TOk n T) (hp : PL n T L) (j : Nat) : W.getD j 0 ≤ (T.map List.length).sum := by
  by_cases hj : j < L.length
  · rw [hI.w j hj]
    unfold rem
    refine Nat.le_trans List.countP_le_length ?_
    rw [← outsX_count hp hj]
    refine Nat.le_trans List.count_le_length ?_
    have h1 := outsX_take (T := T) L n (by rw [hT.1]; exact Nat.le_refl _)
    rw [List.take_of_length_le (by rw [hT.1]; exact Nat.le_refl _)] at h1
    exact h1
  · rw [List.getD_eq_getElem?_getD, List.getElem?_eq_none (by rw [hI.len]; omega)]
    exact Nat.zero_le _
/-- The edges to a popped part, as the walk meets them. -/
def insX (F L : List (List Nat)) (i a b : Nat) : List Nat := ((L.getD i []).take a).flatMap (fun x => jsOf L i (F.getD x [])) ++ match (L.getD i [])[a]? with
  | none => []
  | some x => jsOf L i ((F.getD x []).take b)
theorem jsOf_push (L : List (List Nat)) (i : Nat) (row : List Nat) (b y : Nat) (h : row[b]? = some y) : jsOf L i (row.take (b + 1)) = jsOf L i (row.take b) ++ if ofL L y = i then [] else [ofL L y] := by
  unfold jsOf
  rw [List.take_add_one, h, List.map_append, List.filter_append]
  by_cases e : ofL L y = i
  · simp [e]
  · simp [e]
theorem insX_push {F L : List (List Nat)} {i a b x y : Nat} (hx : (L.getD i [])[a]? = some x) (hy : (F.getD x [])[b]? = some y) : insX F L i a (b + 1) = insX F L i a b ++ if ofL L y = i then [] else [ofL L y] := by
  unfold insX
  rw [hx]
  show _ ++ jsOf L i _ = _
  rw [jsOf_push L i _ b y hy]
  simp
theorem insX_zero (F L : List (List Nat)) (i : Nat) : insX F L i 0 0 = [] := by
  unfold insX
  cases (L.getD i [])[0]? <;> simp [jsOf]
theorem insX_next {F L : List (List Nat)} {i a x : Nat} (hx : (L.getD i [])[a]? = some x) : insX F L i a (F.getD x []).length = insX F L i (a + 1) 0 := by
  unfold insX
  rw [hx, List.take_add_one, hx, List.flatMap_append]
  cases (L.getD i [])[a + 1]? <;> simp [jsOf]
theorem insX_end (F L : List (List Nat)) (i : Nat) : insX F L i (L.getD i []).length 0 = outs F L i := by
  unfold insX outs
  rw [List.getElem?_eq_none (Nat.le_refl _), List.take_of_length_le (Nat.le_refl _)]
  simp
theorem insX_split {F L : List (List Nat)} {i a b x : Nat} (hx : (L.getD i [])[a]? = some x) : ∃ E, insX F L i a b ++ (jsOf L i ((F.getD x []).drop b) ++ E) = outs F L i := by
  refine ⟨((L.getD i []).drop (a + 1)).flatMap fun x => jsOf L i (F.getD x []), ?_⟩
  unfold insX outs
  rw [hx]
  show _ ++ jsOf L i _ ++ _ = _
  have h1 : jsOf L i ((F.getD x []).take b) ++ jsOf L i ((F.getD x []).drop b) = jsOf L i (F.getD x []) := by
    unfold jsOf
    rw [← List.filter_append, ← List.map_append, List.take_append_drop]
  conv => rhs; rw [← List.take_append_drop a (L.getD i []), List.flatMap_append, List.drop_eq_getElem_cons (List.getElem?_eq_some_iff.1 hx).1, List.flatMap_cons]
  rw [(List.getElem?_eq_some_iff.1 hx).2, ← h1]
  simp [List.append_assoc]
end Go.Proofs.Ytcjohhminiedfaa
