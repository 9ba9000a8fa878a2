/- Cycle: whom some reach, plain. -/
import Derived.Test.YtcjohhminiedfaaQC21AwakeP
namespace Go.Proofs.Ytcjohhminiedfaa
def cmL (n : Nat) (l : List Nat) : List Bool := (List.range n).map fun y => l.contains y
theorem cmL_at {n y : Nat} (l : List Nat) (hy : y < n) : (cmL n l)[y]? = some (l.contains y) := by
  unfold cmL
  rw [List.getElem?_map, List.getElem?_range hy]
  rfl
theorem cmL_len (n : Nat) (l : List Nat) : (cmL n l).length = n := by simp [cmL]
theorem cmL_nil (n : Nat) : cmL n [] = List.replicate n false := by
  apply List.ext_getElem?
  intro i
  by_cases hi : i < n
  · rw [cmL_at _ hi, List.getElem?_replicate, if_pos hi]
    rfl
  · rw [List.getElem?_eq_none (by rw [cmL_len]; omega), List.getElem?_eq_none (by simp; omega)]
theorem cmL_push {n x : Nat} (l : List Nat) (hx : x < n) : (cmL n l).set x true = cmL n (l ++ [x]) := by
  apply List.ext_getElem?
  intro i
  by_cases hi : i < n
  · rw [cmL_at _ hi, List.getElem?_set]
    by_cases e : x = i
    · subst e
      rw [if_pos rfl, if_pos (by rw [cmL_len]; exact hx)]
      simp
    · rw [if_neg e, cmL_at _ hi]
      have : i ∈ l ++ [x] ↔ i ∈ l := by simp [Ne.symm e]
      simp [this]
  · rw [List.getElem?_eq_none (by rw [List.length_set, cmL_len]; omega), List.getElem?_eq_none (by rw [cmL_len]; omega)]
/-- take. -/
def takeI (n : Nat) (l : List Nat) (x : Int) : List Nat := if 0 ≤ x ∧ x < (n : Int) ∧ x.toNat ∉ l then l ++ [x.toNat] else l
structure LOk (n : Nat) (l : List Nat) : Prop where
  nod : l.Nodup
  lt : ∀ y ∈ l, y < n
theorem LOk.le {n : Nat} {l : List Nat} (h : LOk n l) : l.length ≤ n := by
  have := h.nod.length_le_of_subset (l₂ := List.range n) fun j hj => List.mem_range.2 (h.lt j hj)
  simpa using this
theorem LOk.nil (n : Nat) : LOk n [] := ⟨List.nodup_nil, fun y hy => by cases hy⟩
theorem LOk.take {n : Nat} {l : List Nat} (h : LOk n l) (x : Int) : LOk n (takeI n l x) := by
  unfold takeI
  split
  · rename_i hx
    refine ⟨List.nodup_append.2 ⟨h.nod, by simp, fun a ha b hb e => hx.2.2 (by rw [List.mem_singleton.1 hb] at e; rw [← e]; exact ha)⟩, fun y hy => ?_⟩
    rcases List.mem_append.1 hy with hy | hy
    · exact h.lt y hy
    · rw [List.mem_singleton.1 hy]
      omega
  · exact h
theorem take_mem {n : Nat} {l : List Nat} {x : Int} {y : Nat} : y ∈ takeI n l x ↔ y ∈ l ∨ (0 ≤ x ∧ x < (n : Int) ∧ y = x.toNat) := by
  unfold takeI
  split
  · rename_i hx
    rw [List.mem_append, List.mem_singleton]
    constructor
    · rintro (h | h)
      · exact .inl h
      · exact .inr ⟨hx.1, hx.2.1, h⟩
    · rintro (h | ⟨_, _, h⟩)
      · exact .inl h
      · exact .inr h
  · rename_i hx
    constructor
    · exact .inl
    · rintro (h | ⟨h1, h2, h3⟩)
      · exact h
      · rw [h3]
        exact Classical.byContradiction fun h => hx ⟨h1, h2, h⟩
theorem take_pre {n : Nat} {l : List Nat} (x : Int) : ∃ m, takeI n l x = l ++ m := by
  unfold takeI
  split
  · exact ⟨_, rfl⟩
  · exact ⟨[], by simp⟩
/-- Who of these numbers is a node. -/
def nodesI (n : Nat) (S : List Int) : List Nat := (S.filter fun x => decide (0 ≤ x ∧ x < (n : Int))).map Int.toNat
theorem mem_nodesI {n : Nat} {S : List Int} {y : Nat} : y ∈ nodesI n S ↔ y < n ∧ (y : Int) ∈ S := by
  unfold nodesI
  rw [List.mem_map]
  constructor
  · rintro ⟨x, hx, rfl⟩
    obtain ⟨h1, h2⟩ := List.mem_filter.1 hx
    have h3 : 0 ≤ x ∧ x < (n : Int) := by simpa using h2
    refine ⟨by omega, ?_⟩
    rw [show (x.toNat : Int) = x by omega]
    exact h1
  · rintro ⟨h1, h2⟩
    exact ⟨(y : Int), List.mem_filter.2 ⟨h2, by simpa using h1⟩, by simp⟩
/-- What holds while Reach goes: whom S reaches; i: whose edges are looked at; done: those that were. -/
structure RInv (n : Nat) (T : List (List Nat)) (S : List Nat) (i : Nat) (done l : List Nat) : Prop where
  ok : LOk n l
  src : ∀ y ∈ l, ∃ s ∈ S, Rch T s y
  st : ∀ s ∈ S, s ∈ l
  seen : ∀ (a p : Nat), a < i → l[a]? = some p → ∀ y ∈ T.getD p [], y ∈ l
  part : ∀ (p : Nat), l[i]? = some p → ∀ y ∈ done, y ∈ l
theorem RInv.take {n : Nat} {T : List (List Nat)} {S : List Nat} {i y p : Nat} {done l : List Nat} (h : RInv n T S i done l) (hp : l[i]? = some p) (hy : y ∈ T.getD p []) (hyn : y < n) : RInv n T S i (done ++ [y]) (takeI n l (y : Int)) ∧ (takeI n l (y : Int))[i]? = some p := by
  obtain ⟨m, hm⟩ := take_pre (n := n) (l := l) (y : Int)
  have hil := (List.getElem?_eq_some_iff.1 hp).1
  have hpp : ∀ (a q : Nat), a ≤ i → (takeI n l (y : Int))[a]? = some q → l[a]? = some q := fun a q ha hq => by
    rw [hm, List.getElem?_append_left (by omega)] at hq
    exact hq
  refine ⟨⟨h.ok.take _, fun z hz => ?_, fun s hs => take_mem.2 (.inl (h.st s hs)), fun a q ha hq z hz => take_mem.2 (.inl (h.seen a q ha (hpp a q (by omega) hq) z hz)), fun q hq z hz => ?_⟩, by rw [hm, List.getElem?_append_left hil]; exact hp⟩
  · rcases take_mem.1 hz with hz | ⟨_, _, rfl⟩
    · exact h.src z hz
    · obtain ⟨s, hs, hr⟩ := h.src p (List.mem_of_getElem? hp)
      exact ⟨s, hs, hr.trans (.one (by simpa using hy))⟩
  · rcases List.mem_append.1 hz with hz | hz
    · exact take_mem.2 (.inl (h.part q (hpp i q (Nat.le_refl _) hq) z hz))
    · rw [List.mem_singleton.1 hz]
      exact take_mem.2 (.inr ⟨by omega, by omega, by simp⟩)
theorem RInv.next {n : Nat} {T : List (List Nat)} {S : List Nat} {i p : Nat} {done l : List Nat} (h : RInv n T S i done l) (hp : l[i]? = some p) (hd : ∀ y ∈ T.getD p [], y ∈ done) : RInv n T S (i + 1) [] l := by
  refine ⟨h.ok, h.src, h.st, fun a q ha hq y hy => ?_, fun q _ y hy => by cases hy⟩
  by_cases e : a = i
  · subst e
    rw [hp] at hq
    cases hq
    exact h.part p hp y (hd y hy)
  · exact h.seen a q (by omega) hq y hy
theorem RInv.end {n : Nat} {T : List (List Nat)} {S : List Nat} {i : Nat} {l : List Nat} (h : RInv n T S i [] l) (hi : l.length ≤ i) (y : Nat) : y ∈ l ↔ ∃ s ∈ S, Rch T s y := by
  refine ⟨h.src y, fun ⟨s, hs, hr⟩ => ?_⟩
  refine hr.stay (P := fun z => z ∈ l) (h.st s hs) fun u hu v hv => ?_
  obtain ⟨a, ha⟩ := List.mem_iff_getElem?.1 hu
  exact h.seen a u (by have := (List.getElem?_eq_some_iff.1 ha).1; omega) ha v hv
/-- What Reach tells. -/
def ReachR (n : Nat) (T : List (List Nat)) (S : List Int) (r : List Nat) : Prop := r.Pairwise (· < ·) ∧ ∀ y, y ∈ r ↔ ∃ s ∈ nodesI n S, Rch T s y
theorem ReachR.uniq {n : Nat} {T : List (List Nat)} {S : List Int} {r s : List Nat} (h : ReachR n T S r) (k : ReachR n T S s) : r = s := rise_eq h.1 k.1 fun x => by rw [h.2, k.2]
theorem RInv.reach {n : Nat} {T : List (List Nat)} {S : List Int} {i : Nat} {l : List Nat} (h : RInv n T (nodesI n S) i [] l) (hi : l.length ≤ i) : ReachR n T S (sortN l) := by
  refine ⟨strict_of (sortN_sorted l) ((sortN_perm l).symm.nodup h.ok.nod), fun y => ?_⟩
  rw [(sortN_perm l).mem_iff, h.end hi]
end Go.Proofs.Ytcjohhminiedfaa
/- Cycle: Reach's closure. -/
namespace Go.Proofs.Ytcjohhminiedfaa
open Go.RowKit
/-- A row of numbers that is read. -/
def RdI (w : World) (v : Value) (S : List Int) : Prop := S.length ≤ maxLen ∧ ∃ a cap, v = .slice a S.length cap ∧ ∀ (j : Nat) (x : Int), S[j]? = some x → ∃ g off, a = some ⟨g, off, none⟩ ∧ g < w.heap.size ∧ w.cell? ⟨g, off + j, none⟩ = some (.int .i64 x)
theorem RdI.below {w w' : World} {v : Value} {S : List Int} (h : RdI w v S) (hb : Below w.heap.size w w') : RdI w' v S := by
  obtain ⟨h0, a, cap, e, h1⟩ := h
  refine ⟨h0, a, cap, e, fun j x hx => ?_⟩
  obtain ⟨g, off, e2, z, c⟩ := h1 j x hx
  exact ⟨g, off, e2, Nat.lt_of_lt_of_le z hb.size, (hb.cell (p := ⟨g, off + j, none⟩) z).trans c⟩
theorem GrN.keepK {w w' : World} {G : Gb} {n K : Nat} {T F : List (List Nat)} (h : GrN w G n T F) (hG : ∀ p, G.pv = .pointer (some p) → ∀ k, G.has k → k < K) (hb : Below K w w') : GrN w' G n T F := by
  rcases h with h | ⟨h1, h2, h3⟩
  · exact .inl h
  · exact .inr ⟨h1.keep fun k hk _ => hb.block k (hG _ h1.ptr k hk), h2, h3⟩
/-- Reach's boxes. -/
structure RM (K H n cb b5 b6 : Nat) (G : Gb) (T F : List (List Nat)) (w : World) (l : List Nat) (lv : Value) : Prop where
  gr : GrN w G n T F
  grK : ∀ p, G.pv = .pointer (some p) → ∀ k, G.has k → k < K
  c2 : w.heap[K]? = some (.cells #[G.pv] 24)
  c5 : w.heap[b5]? = some (.cells #[.slice (some ⟨cb, 0, none⟩) n n] 42)
  c6 : w.heap[b6]? = some (.cells #[lv] 31)
  cm : w.heap[cb]? = some (.cells ((cmL n l).map Value.bool).toArray 4)
  o1 : K < cb
  o2 : K < b5
  o3 : K < b6
  ne1 : cb ≠ b5
  ne2 : cb ≠ b6
  ne3 : b5 ≠ b6
  h1 : cb < H
  h2 : b5 < H
  h3 : b6 < H
  hH : H ≤ w.heap.size
  row : IR H w lv l
section
variable {K H n cb b5 b6 : Nat} {G : Gb} {T F : List (List Nat)} {w w' : World} {l : List Nat} {lv : Value}
theorem RM.below (h : RM K H n cb b5 b6 G T F w l lv) (hb : Below w.heap.size w w') : RM K H n cb b5 b6 G T F w' l lv :=
  ⟨h.gr.below hb, h.grK, (hb.block _ (lt_of_heap h.c2)).trans h.c2, (hb.block _ (lt_of_heap h.c5)).trans h.c5, (hb.block _ (lt_of_heap h.c6)).trans h.c6, (hb.block _ (lt_of_heap h.cm)).trans h.cm, h.o1, h.o2, h.o3, h.ne1, h.ne2, h.ne3, h.h1, h.h2, h.h3, Nat.le_trans h.hH hb.size, h.row.below hb⟩
theorem RM.at (h : RM K H n cb b5 b6 G T F w l lv) {y : Nat} (hy : y < n) : w.cell? ⟨cb, y, none⟩ = some (.bool (l.contains y)) := by
  rw [cell_of_heap h.cm]
  simp [cmL_at l hy]
/-- x comes. -/
theorem RM.come (h : RM K H n cb b5 b6 G T F w l lv) {x : Nat} {o : Obj} {W : World} {v' : Value} (hx : x < n) (hown : W.ownsRow H 3 1 v' (l.length + 1) (l.map iv ++ [iv x])) (hg : ((w.setCell ⟨cb, x, none⟩ (.bool true)).alloc o).grownBy W lv.ownBlock) :
    W.heap[b6]? = some (.cells #[lv] 31) ∧ RM K H n cb b5 b6 G T F (W.setCell ⟨b6, 0, none⟩ v') (l ++ [x]) v' ∧ Below (K + 1) w (W.setCell ⟨b6, 0, none⟩ v') := by
  have hz : w.heap.size ≤ W.heap.size := Nat.le_trans (by simp) hg.size
  have hlo : ∀ k, lv.ownBlock = some k → H ≤ k := fun k e => (h.row.lt k e).1
  have ho1 := h.o1
  have ho2 := h.o2
  have ho3 := h.o3
  have hh1 := h.h1
  have hh2 := h.h2
  have hh3 := h.h3
  have hk : ∀ k, k < w.heap.size → k < H → k ≠ cb → W.heap[k]? = w.heap[k]? := fun k h1 h2 h3 => ((hg.block k (by simp; omega) (fun e => by have := hlo k e.symm; omega)).trans (Below.heap_alloc _ _ _ (by simpa using h1))).trans (set_other k h3)
  have hcm : W.heap[cb]? = some (.cells ((cmL n (l ++ [x])).map Value.bool).toArray 4) := by
    refine (hg.block cb (by have := lt_of_heap h.cm; simp; omega) (fun e => by have := hlo cb e.symm; omega)).trans ?_
    rw [Below.heap_alloc _ _ _ (by simpa using lt_of_heap h.cm), heap_setCell_at h.cm, ← cmL_push l hx]
    simp [List.map_set]
  have hb6 : W.heap[b6]? = some (.cells #[lv] 31) := (hk b6 (lt_of_heap h.c6) h.h3 (fun e => h.ne2 e.symm)).trans h.c6
  have hkK : ∀ k, k ≤ K → k < w.heap.size → (W.setCell ⟨b6, 0, none⟩ v').heap[k]? = w.heap[k]? := fun k h1 h2 => (set_other k (fun e => by change k = b6 at e; omega)).trans (hk k h2 (by omega) (by omega))
  have hKw : K < w.heap.size := lt_of_heap h.c2
  have hBK : Below (K + 1) w (W.setCell ⟨b6, 0, none⟩ v') := ⟨hg.os, hg.tape, hg.output, by simpa using hz, fun k h1 => hkK k (by omega) (by omega)⟩
  refine ⟨hb6, ⟨h.gr.keepK h.grK (hBK.mono (Nat.le_succ K)), h.grK, (hkK K (Nat.le_refl _) hKw).trans h.c2, ?_, by rw [heap_setCell_at hb6]; rfl, (set_other cb h.ne2).trans hcm, h.o1, h.o2, h.o3, h.ne1, h.ne2, h.ne3, h.h1, h.h2, h.h3, Nat.le_trans h.hH hBK.size, ?_⟩, hBK⟩
  · exact (set_other b5 h.ne3).trans ((hk b5 (lt_of_heap h.c5) h.h2 (fun e => h.ne1 e.symm)).trans h.c5)
  · refine (IR.pushed hown).block fun k e _ => set_other k fun e2 => ?_
    have := (World.ownsRow.lt hown k e).1
    change k = b6 at e2
    omega
end
set_option maxHeartbeats 2000000 in
set_option maxRecDepth 100000 in
theorem take_any {K H n cb b5 b6 : Nat} {G : Gb} {T F : List (List Nat)} {w : World} {l : List Nat} {lv : Value} (hn : n ≤ 100000) (hl : LOk n l) (h : RM K H n cb b5 b6 G T F w l lv) (x : Int) :
    Calls Try.prog 37 #[.int .i64 x, pb K, pb b5, pb b6] w fun e w' => e = .returned (.tuple #[]) ∧ ∃ lv', RM K H n cb b5 b6 G T F w' (takeI n l x) lv' ∧ Below (K + 1) w w' := by
  have HM := Lib.hid h
  have CS := Lib.hid (has_any h.gr x)
  have c1 := cell_of_heap h.c2 0
  have z1 := lt_of_heap h.c2
  obtain ⟨gv, hgv⟩ : ∃ gv, G.pv = gv := ⟨_, rfl⟩
  rw [hgv] at CS c1
  have hln := hl.le
  obtain ⟨T', hT'⟩ : ∃ T', takeI n l x = T' := ⟨_, rfl⟩
  rw [hT']
  have HT := Lib.hid hT'
  clear hgv hT' h hl
  unfold pb
  by_cases hx : 0 ≤ x ∧ x < (n : Int)
  · rw [show decide (0 ≤ x ∧ x < (n : Int)) = true by simpa using hx] at CS
    obtain ⟨y, rfl⟩ : ∃ y : Nat, x = (y : Int) := ⟨x.toNat, by omega⟩
    have hy : y < n := by omega
    have j3 : (0 : Int) ≤ (y : Int) := by omega
    have j4 : (y : Int) < (n : Int) := by omega
    clear hx
    go_enter Try.func37, Try.ntmps37
    go_wp2_with fail
    refine CS.out.mono ?_
    rintro e w1 ⟨rfl, hb1⟩
    have HM1 := Lib.hid (HM.out.below hb1)
    have HB1 : Hid (Below (K + 1) w w1) := hb1.mono z1
    clear hb1 CS HM
    have c5 := cell_of_heap HM1.out.c5 0
    have z5 := lt_of_heap HM1.out.c5
    have cc := HM1.out.at hy
    have zc := lt_of_heap HM1.out.cm
    by_cases hm : y ∈ l
    · rw [show l.contains y = true by simpa using hm] at cc
      have hTl : T' = l := by
        rw [← HT.out]
        unfold takeI
        rw [if_neg (by simp [hm])]
      subst hTl
      clear hm
      go_wp2_with fail
      refine bodyPost_end (v := .tuple #[]) (by simp [results, Try.results37, go_sem]) rfl ⟨rfl, lv, HM1.out, HB1.out⟩
    · rw [show l.contains y = false by simpa using hm] at cc
      have hTl : Hid (T' = l ++ [y]) := by
        unfold Hid
        rw [← HT.out]
        unfold takeI
        rw [if_pos ⟨by omega, by omega, by simpa using hm⟩]
        simp
      have yc := frozen_of_heap HM1.out.cm y
      have c6 := cell_of_heap HM1.out.c6 0
      have z6 := lt_of_heap HM1.out.c6
      have n26 : b6 ≠ cb := fun e => HM1.out.ne2 e.symm
      obtain ⟨la, lc, rfl, _⟩ := HM1.out.row.slice
      obtain ⟨i0, hi, hz0, hz1, hz2⟩ := info_parts info3
      have HI3 := Lib.hid (⟨hi, hz0, hz1, hz2⟩ : _ ∧ _ ∧ _ ∧ _)
      obtain ⟨q, hq⟩ : ∃ q, l.length = q := ⟨_, rfl⟩
      have hHz : H ≤ w1.heap.size := HM1.out.hH
      have PU : Hid (∀ (v' : Value) (w' : World), w'.ownsRow H 3 1 v' (q + 1) (l.map iv ++ [iv y]) → ((w1.setCell ⟨cb, y, none⟩ (.bool true)).alloc (.cells #[.int .i64 (y : Int)] 3)).grownBy w' (Value.slice la q lc).ownBlock →
          w'.heap[b6]? = some (.cells #[.slice la q lc] 31) ∧ RM K H n cb b5 b6 G T F (w'.setCell ⟨b6, 0, none⟩ v') T' v' ∧ Below (K + 1) w (w'.setCell ⟨b6, 0, none⟩ v')) := fun v' w' h1 h2 => by
        rw [hTl.out]
        rw [← hq] at h1 h2 ⊢
        obtain ⟨p1, p2, p3⟩ := HM1.out.come hy h1 h2
        exact ⟨p1, p2, HB1.out.trans p3⟩
      have HR : Hid ((w1.setCell ⟨cb, y, none⟩ (.bool true)).ownsRow H 3 1 (.slice la q lc) q (l.map iv)) := by
        rw [← hq]
        exact HM1.out.row.block fun k e _ => set_other k fun e2 => by
          have h1 := (HM1.out.row.lt k e).1
          have h2 := HM1.out.h1
          change k = cb at e2
          omega
      rw [hq] at c6 hln
      clear hi hz0 hz1 hz2 hm hq HT
      go_wp2_with (at_builtin; refine wpList_append_own_at _ rfl _ _ 31 rfl H 3 i0 (.int .i64 0) 1 8 Try.underlying31 HI3.out.1 HI3.out.2.1 HI3.out.2.2.1 HI3.out.2.2.2 rfl (by decide) (.slice la q lc) q (l.map iv) rfl (World.ownsRow.alloc HR.out _) ⟨w1.heap.size, 0, none⟩ 1 1 [iv y] rfl rfl (by rw [← World.size_setCell w1 ⟨cb, y, none⟩ (.bool true)]; exact cells_new _ #[.int .i64 (y : Int)] 3) (by simp [iv, Value.oneCell']) (by unfold maxLen; omega) (by omega) (by simp; omega) ?_; intro v9 w9 hown hgrow _ _; obtain ⟨va, vc, rfl, _⟩ := own_slice hown; obtain ⟨p1, p2, p3⟩ := PU.out _ w9 hown hgrow; have P2 := Lib.hid p2; have P3 := Lib.hid p3; clear hown hgrow c6 z6; have c6 := cell_of_heap p1 0; have y6 := frozen_of_heap p1 0; have z6 := lt_of_heap p1; clear p1 p2 p3)
      refine bodyPost_end (v := .tuple #[]) (by simp [results, Try.results37, go_sem]) rfl ⟨rfl, _, P2.out, P3.out⟩
  · rw [show decide (0 ≤ x ∧ x < (n : Int)) = false by simpa using hx] at CS
    have hTl : T' = l := by
      rw [← HT.out]
      unfold takeI
      rw [if_neg (fun h => hx ⟨h.1, h.2.1⟩)]
    subst hTl
    clear hx
    go_enter Try.func37, Try.ntmps37
    go_wp2_with fail
    refine CS.out.mono ?_
    rintro e w1 ⟨rfl, hb1⟩
    have HM1 := Lib.hid (HM.out.below hb1)
    have HB1 : Hid (Below (K + 1) w w1) := hb1.mono z1
    clear hb1 CS HM
    go_wp2_with fail
    refine bodyPost_end (v := .tuple #[]) (by simp [results, Try.results37, go_sem]) rfl ⟨rfl, lv, HM1.out, HB1.out⟩
end Go.Proofs.Ytcjohhminiedfaa
/- Cycle: Reach. -/
namespace Go.Proofs.Ytcjohhminiedfaa
open Go.RowKit Go.Shelf
theorem RM.begin {K n cb b5 b6 : Nat} {G : Gb} {T F : List (List Nat)} {w : World} (hg : GrN w G n T F) (hK : ∀ p, G.pv = .pointer (some p) → ∀ k, G.has k → k < K) (c2 : w.heap[K]? = some (.cells #[G.pv] 24)) (c5 : w.heap[b5]? = some (.cells #[.slice (some ⟨cb, 0, none⟩) n n] 42)) (c6 : w.heap[b6]? = some (.cells #[.slice none 0 0] 31))
    (cm : w.heap[cb]? = some (.cells (List.replicate n (.bool false)).toArray 4)) (o : K < cb ∧ cb < b5 ∧ b5 < b6) : RM K (b6 + 1) n cb b5 b6 G T F w [] (.slice none 0 0) :=
  ⟨hg, hK, c2, c5, c6, by rw [cm, cmL_nil, List.map_replicate], o.1, by omega, by omega, by omega, by omega, by omega, by omega, by omega, by omega, lt_of_heap c6, IR.nil _ _⟩
theorem sort_all {B : Nat} {v : Value} {l : List Nat} {w : World} (h : IR B w v l) (hl : l.length ≤ 1000000) : Calls Try.prog 30 #[v] w fun e w' => e = .returned (.tuple #[]) ∧ IR B w' v (sortN l) ∧ w.grownBy w' v.ownBlock := by
  by_cases h0 : 0 < l.length
  · exact sort_any h h0 hl
  · have hL : l = [] := List.length_eq_zero_iff.1 (by omega)
    subst hL
    obtain ⟨a, cap, rfl, _⟩ := h.slice
    have c := AnyM.slices_Sort_int_none Try.sortA a cap w
    change Calls Try.prog 30 _ w _ at c
    refine c.mono ?_
    rintro e w' ⟨rfl, rfl⟩
    rw [show sortN [] = [] from List.length_eq_zero_iff.1 (sortN_length [])]
    exact ⟨rfl, h, ⟨rfl, rfl, rfl, Nat.le_refl _, fun _ _ _ => rfl⟩⟩
/-- The first k were taken. -/
def P1 (n : Nat) (S : List Int) (k : Nat) (l : List Nat) : Prop := LOk n l ∧ ∀ y, y ∈ l ↔ y ∈ nodesI n (S.take k)
theorem P1.take {n k : Nat} {S : List Int} {l : List Nat} {x : Int} (h : P1 n S k l) (hx : S[k]? = some x) : P1 n S (k + 1) (takeI n l x) := by
  refine ⟨h.1.take x, fun y => ?_⟩
  rw [take_mem, h.2, List.take_add_one, hx, mem_nodesI, mem_nodesI]
  simp only [Option.toList_some, List.mem_append, List.mem_singleton]
  constructor
  · rintro (⟨h1, h2⟩ | ⟨h1, h2, h3⟩)
    · exact ⟨h1, .inl h2⟩
    · exact ⟨by omega, .inr (by omega)⟩
  · rintro ⟨h1, h2 | h2⟩
    · exact .inl ⟨h1, h2⟩
    · exact .inr ⟨by omega, by omega, by omega⟩
theorem P1.start {n : Nat} {T : List (List Nat)} {S : List Int} {l : List Nat} (h : P1 n S S.length l) : RInv n T (nodesI n S) 0 [] l := by
  have hm : ∀ y, y ∈ l ↔ y ∈ nodesI n S := fun y => by rw [h.2, List.take_of_length_le (Nat.le_refl _)]
  exact ⟨h.1, fun y hy => ⟨y, (hm y).1 hy, .refl y⟩, fun s hs => (hm s).2 hs, fun a p ha => by omega, fun p _ y hy => by cases hy⟩
set_option maxHeartbeats 4000000 in
set_option maxRecDepth 100000 in
theorem reach_any {w : World} {G : Gb} {n : Nat} {T F : List (List Nat)} {S : List Int} {sv : Value} (hT : TOk n T) (hn : n ≤ 100000) (h : GrN w G n T F) (hG : ∀ p, G.pv = .pointer (some p) → ∀ k, G.has k → k < w.heap.size) (hS : RdI w sv S) :
    Calls Try.prog 18 #[G.pv, sv] w fun e w' => ∃ v r, e = .returned v ∧ IR w.heap.size w' v r ∧ ReachR n T S r ∧ Below w.heap.size w w' := by
  have HT := Lib.hid hT
  have HG := Lib.hid hG
  have HGR := Lib.hid h
  obtain ⟨hm0, a, cap, rfl, hsr⟩ := hS
  obtain ⟨m, hm⟩ : ∃ m, S.length = m := ⟨_, rfl⟩
  have HM := Lib.hid hm
  have HSR := Lib.hid hsr
  rw [hm] at hm0 ⊢
  unfold maxLen at hm0
  have hgp : ∃ o, G.pv = .pointer o := by
    rcases h with ⟨_, h, _⟩ | ⟨h, _⟩
    · exact ⟨_, h⟩
    · exact ⟨_, h.ptr⟩
  obtain ⟨go, hgo⟩ := hgp
  have HGV := Lib.hid hgo
  rw [hgo]
  obtain ⟨K, hK⟩ : ∃ K, w.heap.size = K := ⟨_, rfl⟩
  have HK := Lib.hid hK
  rw [hK] at HG
  clear hT hG h hm hsr hgo hK
  go_enter Try.func18, Try.ntmps18
  go_wp2_with fail
  have CS := size_any (HGR.out.below (w' := w.alloc (.cells #[.pointer go] 24)) (below_alloc w _ _ (Nat.le_refl _)))
  rw [HGV.out] at CS
  refine CS.mono ?_
  clear CS
  rintro e w1 ⟨rfl, hb1⟩
  have hz1 : w.heap.size < w1.heap.size := by have := hb1.size; simp at this; omega
  have HB1 : Hid (Below w.heap.size w w1) := (below_alloc w _ _ (Nat.le_refl _)).trans (hb1.mono (by simp))
  have q2 : Hid (w1.heap[w.heap.size]? = some (.cells #[.pointer go] 24)) := (hb1.block _ (by simp)).trans (heap_alloc_new _ _)
  have MK := mk4 n (by omega)
  clear hb1
  go_wp2_with fail
  refine abs_world ?_
  intro W3 hW3
  have hGp : Hid (∀ p, G.pv = .pointer (some p) → ∀ k, G.has k → k < w.heap.size) := by rw [HK.out]; exact HG.out
  have HB3 : Hid (Below w.heap.size w W3) := by
    rw [hW3]
    exact ((HB1.out.alloc (by omega) _).alloc (by simp; omega) _).alloc (by simp; omega) _
  have HM3 : Hid (RM w.heap.size (w1.heap.size + 1 + 1 + 1) n w1.heap.size (w1.heap.size + 1) (w1.heap.size + 1 + 1) G T F W3 [] (.slice none 0 0)) := by
    refine RM.begin (HGR.out.keepK hGp.out HB3.out) hGp.out ?_ ?_ ?_ ?_ ⟨hz1, by omega, by omega⟩
    · rw [HGV.out, hW3]
      exact heap_alloc_old (heap_alloc_old (heap_alloc_old q2.out _) _) _
    · rw [hW3]
      exact heap_alloc_old (heap_alloc_at (by simp) _) _
    · rw [hW3]
      exact heap_alloc_at (by simp) _
    · rw [hW3, ← List.toArray_replicate]
      exact heap_alloc_old (heap_alloc_old (heap_alloc_new _ _) _) _
  obtain ⟨cb, hcb⟩ : ∃ cb, w1.heap.size = cb := ⟨_, rfl⟩
  rw [hcb] at HM3 hz1 ⊢
  obtain ⟨b5, hb5⟩ : ∃ b5, cb + 1 = b5 := ⟨_, rfl⟩
  rw [hb5] at HM3 ⊢
  obtain ⟨b6, hb6⟩ : ∃ b6, b5 + 1 = b6 := ⟨_, rfl⟩
  rw [hb6] at HM3 ⊢
  obtain ⟨H, hH⟩ : ∃ H, b6 + 1 = H := ⟨_, rfl⟩
  rw [hH] at HM3
  obtain ⟨K, hK⟩ : ∃ K, w.heap.size = K := ⟨_, rfl⟩
  have HK := Lib.hid hK
  rw [hK] at HM3 HB3 hz1 hGp ⊢
  clear hcb hb5 hb6 hH hK hW3 MK HB1 q2 HG
  go_loopg [19] m (fun g i wr => ∃ (k : Nat) (l : List Nat) (lv : Value), i = .int .i64 (k : Int) ∧ g = m - k ∧ k ≤ m ∧ Hid (P1 n S k l) ∧ Hid (RM K H n cb b5 b6 G T F wr l lv) ∧ Hid (Below K w wr))
  case atStart => exact ⟨0, [], _, rfl, rfl, Nat.zero_le _, ⟨LOk.nil n, fun y => by simp [nodesI]⟩, HM3, HB3⟩
  case round =>
    obtain ⟨k, l, lv, rfl, rfl, hk, hP, hM, hB⟩ := hrel
    by_cases hlt : k < m
    · obtain ⟨x, hx⟩ : ∃ x, S[k]? = some x := ⟨_, List.getElem?_eq_getElem (by rw [HM.out]; exact hlt)⟩
      obtain ⟨g, off, rfl, zg, cg⟩ := HSR.out k x hx
      have zg' := Nat.lt_of_lt_of_le zg hB.out.size
      have cg' := (hB.out.cell (p := ⟨g, off + k, none⟩) (by rw [← HK.out]; exact zg)).trans cg
      have HP2 := Lib.hid (hP.out.take hx)
      have CT := Lib.hid (take_any hn hP.out.1 hM.out x)
      have j1 : (0 : Int) ≤ (k : Int) := by omega
      have j2 : (k : Int) < (m : Int) := by omega
      unfold pb at CT
      clear cg zg hx hP
      go_wp2_with fail
      refine CT.out.mono ?_
      rintro e w5 ⟨rfl, lv5, hM5, hB5⟩
      have HM5 := Lib.hid hM5
      have HB5 := Lib.hid (hB.out.trans (hB5.mono (Nat.le_succ K)))
      clear hM5 hB5 CT cg' zg' hM hB
      go_wp2_with fail
      go_roundg (m - (k + 1))
      case measure => omega
      case rel => exact ⟨k + 1, _, lv5, by go_num, rfl, by omega, HP2, HM5, HB5⟩
    · have hkm : k = m := by omega
      have HR0 : Hid (RInv n T (nodesI n S) 0 [] l) := by
        have h1 := hP.out
        rw [hkm, ← HM.out] at h1
        exact h1.start
      clear hP hkm HM3 HB3
      go_wp2_with fail
      go_loopg [10] n (fun g s10 wr => ∃ (i : Nat) (l : List Nat) (lv : Value), s10 = .int .i64 (i : Int) ∧ g = n - i ∧ i ≤ l.length ∧ Hid (RInv n T (nodesI n S) i [] l) ∧ Hid (RM K H n cb b5 b6 G T F wr l lv) ∧ Hid (Below K w wr))
      case atStart => exact ⟨0, l, lv, rfl, rfl, Nat.zero_le _, HR0, hM, hB⟩
      case round =>
        obtain ⟨i, l, lv, rfl, rfl, hil, hR, hM, hB⟩ := hrel
        obtain ⟨la, lc, rfl, hlc, hls⟩ := hM.out.row.slice
        have hln := hR.out.ok.le
        have c6 := cell_of_heap hM.out.c6 0
        have z6 := lt_of_heap hM.out.c6
        obtain ⟨q, hq⟩ : ∃ q, l.length = q := ⟨_, rfl⟩
        have HQL := Lib.hid hq
        by_cases hlt2 : i < q
        · obtain ⟨p, hp⟩ : ∃ p, l[i]? = some p := ⟨_, List.getElem?_eq_getElem (by omega)⟩
          obtain ⟨lg, rfl, _, zl, _, hcl⟩ := hls (by omega)
          have cl := hcl i p hp
          have hpn : p < n := hR.out.ok.lt p (List.mem_of_getElem? hp)
          have hgr : GrR wr G T F ∧ T.length = n := by
            rcases hM.out.gr with ⟨h, _⟩ | ⟨h1, h2, _⟩
            · omega
            · exact ⟨h1, h2⟩
          have c2 := cell_of_heap hM.out.c2 0
          have z2 := lt_of_heap hM.out.c2
          have hpv := hgr.1.ptr
          rw [hpv] at c2
          obtain ⟨hmax, ta, tc, ra, rc, cp, zt, ct, hrow⟩ := hgr.1.rowT (hGp.out _ hpv) (x := p) (by rw [hgr.2]; exact hpn)
          rw [hgr.2] at cp
          have zp := lt_of_heap hgr.1.blk
          obtain ⟨row, hrw⟩ : ∃ row, T.getD p [] = row := ⟨_, rfl⟩
          have HRW := Lib.hid hrw
          obtain ⟨r, hr⟩ : ∃ r, row.length = r := ⟨_, rfl⟩
          rw [hrw] at ct hmax hrow
          rw [hr] at ct hmax
          unfold maxLen at hmax
          have HRL := Lib.hid hr
          have HP := Lib.hid hp
          rw [hq] at hil hlc hln c6
          have j1 : (0 : Int) ≤ (i : Int) := by omega
          have j2 : (i : Int) < (q : Int) := by omega
          have j3 : (0 : Int) ≤ (p : Int) := by omega
          have j4 : (p : Int) < (n : Int) := by omega
          have HROW := Lib.hid hrow
          clear hgr hrow hr hrw hq hls hcl hp hpv
          go_wp2_with fail
          refine wp_region_mix [0, 1, 2, 3, 4, 5, 6, 7, 8, 9, 10, 11] [] [] (Below wr.heap.size wr) (by kernel_rfl) (by kernel_rfl) (Below.refl _ _).drew ?_
          iterate 12 (first | (apply first_step; (rw [List.getElem?_toArray]; (repeat rw [List.getElem?_cons_succ]); rw [List.getElem?_cons_zero]); rfl; (intro W hB; have hc := bcellB hB; go_simp; (first | done | rfl)); go_frame) | (apply first_skip; (rw [List.getElem?_toArray]; (repeat rw [List.getElem?_cons_succ]); rw [List.getElem?_cons_zero]); rfl; go_frame))
          refine first_done ?_
          refine tail_done ?_
          refine abs_exit ?_
          intro W6 hW6
          have HM6 : Hid (RM K H n cb b5 b6 G T F W6 l (.slice (some ⟨lg, 0, none⟩) l.length lc)) := by rw [hW6]; exact hM.out.below (Below.refl _ _).drew
          have HB6 : Hid (Below K w W6) := by rw [hW6]; exact hB.out.drew
          have HROW6 : Hid (RowAt K ra row W6) := fun W hW => HROW.out W ((show Below K wr W6 by rw [hW6]; exact (Below.refl _ _).drew).trans hW)
          clear hW6 hM hB c2 z2 cp zt ct zp cl zl c6 z6 HROW j1 j2 j3 j4
          go_wp2_with fail
          go_loopg [44] r (fun g s44 wr2 => ∃ (b : Nat) (l : List Nat) (lv : Value), s44 = .int .i64 (b : Int) ∧ g = r - b ∧ b ≤ r ∧ Hid (RInv n T (nodesI n S) i (row.take b) l) ∧ Hid (l[i]? = some p) ∧ Hid (RM K H n cb b5 b6 G T F wr2 l lv) ∧ Hid (Below K w wr2) ∧ Hid (Below K W6 wr2))
          case atStart => exact ⟨0, l, _, rfl, rfl, Nat.zero_le _, hR, HP, HM6, HB6, Below.refl _ _⟩
          case round =>
            obtain ⟨b, l, lv, rfl, rfl, hb, hR, hP, hM, hB, hB2⟩ := hrel
            by_cases hlt3 : b < r
            · obtain ⟨y, hy⟩ : ∃ y, row[b]? = some y := ⟨_, List.getElem?_eq_getElem (by rw [HRL.out]; exact hlt3)⟩
              obtain ⟨rg, rfl, zr, cr⟩ := HROW6.out wr hB2.out b y hy
              have hyT : y ∈ T.getD p [] := by rw [HRW.out]; exact List.mem_of_getElem? hy
              obtain ⟨t1, t2⟩ := hR.out.take hP.out hyT (HT.out.at hyT)
              have TK : row.take (b + 1) = row.take b ++ [y] := by
                rw [List.take_add_one, hy]
                rfl
              rw [← TK] at t1
              have HR2 := Lib.hid t1
              have HP2 := Lib.hid t2
              have CT := Lib.hid (take_any hn hR.out.ok hM.out (y : Int))
              have j1 : (0 : Int) ≤ (b : Int) := by omega
              have j2 : (b : Int) < (r : Int) := by omega
              unfold pb at CT
              clear hy hyT t1 t2 TK hR hP
              go_wp2_with fail
              refine CT.out.mono ?_
              rintro e w5 ⟨rfl, lv5, hM5, hB5⟩
              have HM5 := Lib.hid hM5
              have HB5 := Lib.hid (hB.out.trans (hB5.mono (Nat.le_succ K)))
              have HB6' := Lib.hid (hB2.out.trans (hB5.mono (Nat.le_succ K)))
              clear hM5 hB5 CT cr zr hM hB hB2
              go_wp2_with fail
              go_roundg (r - (b + 1))
              case measure => omega
              case rel => exact ⟨b + 1, _, lv5, by go_num, rfl, by omega, HR2, HP2, HM5, HB5, HB6'⟩
            · have HR2 : Hid (RInv n T (nodesI n S) (i + 1) [] l) := by
                have h1 := hR.out
                rw [List.take_of_length_le (by rw [HRL.out]; omega)] at h1
                exact h1.next hP.out fun y hy => by rw [← HRW.out]; exact hy
              have hil2 : i + 1 ≤ l.length := (List.getElem?_eq_some_iff.1 hP.out).1
              have hln2 := hR.out.ok.le
              clear hR hP hB2 HROW6
              go_wp2_with fail
              go_roundg (n - (i + 1))
              case measure => omega
              case rel => exact ⟨i + 1, l, lv, by go_num, rfl, hil2, HR2, hM, hB⟩
        · have HRR := Lib.hid (hR.out.reach (by omega))
          have CS := sort_all hM.out.row (by omega)
          have HKH : K ≤ H := by have h1 := hM.out.o3; have h2 := hM.out.h3; omega
          have hH6 := hM.out.h3
          rw [hq] at c6 CS
          have CS := Lib.hid CS
          have HM7 := Lib.hid (hM.out.c6)
          have HRLT : Hid (∀ k, (Value.slice la q lc).ownBlock = some k → H ≤ k) := fun k e => (hM.out.row.lt k (by rw [hq]; exact e)).1
          rw [hq] at HM7
          clear hls hq hM
          go_wp2_with fail
          refine CS.out.mono ?_
          rintro e w8 ⟨rfl, hI8, hg8⟩
          have e6 : w8.heap[b6]? = some (.cells #[.slice la q lc] 31) := (hg8.block b6 z6 (fun e => by have := HRLT.out b6 e.symm; omega)).trans HM7.out
          have HI8 := Lib.hid hI8
          have HB8 : Hid (Below K w w8) := hB.out.grown hg8 (by rw [← HK.out]; exact hB.out.size) fun k e => Nat.le_trans HKH (HRLT.out k e)
          clear c6 z6
          have c6 := cell_of_heap e6 0
          have z6 := lt_of_heap e6
          clear hI8 hg8 e6 CS
          go_wp2_with fail
          refine bodyPost_ret (v := .slice la q lc) (by simp [results, Try.results18, go_sem]) rfl ⟨_, sortN l, rfl, by rw [HK.out]; exact HI8.out.base HKH, HRR.out, by rw [HK.out]; exact HB8.out⟩
end Go.Proofs.Ytcjohhminiedfaa
