/- Cycle: the document's graph in memory; ref.New, ref.Has. -/
import Derived.Test.YtcjohhminiedfaaQC21MoreQ
namespace Go.Proofs.Ytcjohhminiedfaa
open Go.RowKit
/-- Truths as cells. -/
def bvs (l : List Bool) : List Value := l.map Value.bool
/-- A row of n truths of block b. -/
def rowV (n b : Nat) : Value := .slice (some ⟨b, 0, none⟩) n n
/-- Rows of n truths, each of a block of its own. -/
structure MB (B : Nat) (w : World) (tv : Value) (n : Nat) (bs : List Nat) (L : List (List Bool)) : Prop where
  row : w.ownsRow B 42 1 tv bs.length (bs.map (rowV n))
  nod : bs.Nodup
  len : L.length = bs.length
  at' : ∀ (i b : Nat) (l : List Bool), bs[i]? = some b → L[i]? = some l → l.length = n ∧ B ≤ b ∧ w.heap[b]? = some (.cells (bvs l).toArray 4)
/-- A table that is read: A i k stands at place k of row i. -/
def MxA (w : World) (a : Option Addr) (n : Nat) (A : Nat → Nat → Bool) : Prop := ∀ i, i < n → ∃ g, a = some ⟨g, 0, none⟩ ∧ g < w.heap.size ∧ ∃ r rc, w.cell? ⟨g, i, none⟩ = some (.slice (some ⟨r, 0, none⟩) n rc) ∧ r < w.heap.size ∧ ∀ k, k < n → w.cell? ⟨r, k, none⟩ = some (.bool (A i k))
theorem MxA.below {w w' : World} {a : Option Addr} {n : Nat} {A : Nat → Nat → Bool} (h : MxA w a n A) (hb : Below w.heap.size w w') : MxA w' a n A := fun i hi => by
  obtain ⟨g, e, z, r, rc, c, z2, h2⟩ := h i hi
  exact ⟨g, e, Nat.lt_of_lt_of_le z hb.size, r, rc, (hb.cell (p := ⟨g, i, none⟩) z).trans c, Nat.lt_of_lt_of_le z2 hb.size, fun k hk => (hb.cell (p := ⟨r, k, none⟩) z2).trans (h2 k hk)⟩
theorem info42 : (Try.prog.info? 42).map (fun i => (i.zero, i.size, i.bytes)) = some (some (.slice none 0 0), 1, 24) := by kernel_rfl
section
variable {B n : Nat} {w w' : World} {tv : Value} {bs : List Nat} {L : List (List Bool)}
theorem MB.ne (h : MB B w tv n bs L) {i b : Nat} (hb : bs[i]? = some b) : tv.ownBlock ≠ some b := fun e => by
  obtain ⟨cs, h1⟩ := own_cells h.row e
  have hi := (List.getElem?_eq_some_iff.1 hb).1
  obtain ⟨_, _, h2⟩ := h.at' i b _ hb (List.getElem?_eq_getElem (by rw [h.len]; exact hi))
  rw [h1] at h2
  injection h2 with h2
  injection h2 with _ h2
  exact absurd h2 (by decide)
theorem MB.lt (h : MB B w tv n bs L) {i b : Nat} (hb : bs[i]? = some b) : B ≤ b ∧ b < w.heap.size := by
  have hi := (List.getElem?_eq_some_iff.1 hb).1
  obtain ⟨_, h1, h2⟩ := h.at' i b _ hb (List.getElem?_eq_getElem (by rw [h.len]; exact hi))
  exact ⟨h1, lt_of_heap h2⟩
theorem MB.put (h : MB B w tv n bs L) {i b : Nat} (hb : bs[i]? = some b) {l : List Bool} (hl : l.length = n) (h1 : w'.heap[b]? = some (.cells (bvs l).toArray 4)) (h2 : ∀ k, k < w.heap.size → k ≠ b → w'.heap[k]? = w.heap[k]?) : MB B w' tv n bs (L.set i l) := by
  refine ⟨own_block h.row fun k e hlt => h2 k hlt fun e2 => h.ne hb (by rw [← e2]; exact e), h.nod, by rw [List.length_set]; exact h.len, fun j c m hc hm => ?_⟩
  by_cases e : i = j
  · subst e
    rw [hb] at hc
    cases hc
    rw [List.getElem?_set_self (by rw [h.len]; exact (List.getElem?_eq_some_iff.1 hb).1)] at hm
    cases hm
    exact ⟨hl, (h.lt hb).1, h1⟩
  · rw [List.getElem?_set_ne e] at hm
    obtain ⟨k1, k2, k3⟩ := h.at' j c m hc hm
    refine ⟨k1, k2, (h2 c (lt_of_heap k3) fun e2 => ?_).trans k3⟩
    subst e2
    obtain ⟨i1, i2⟩ := List.getElem?_eq_some_iff.1 hb
    obtain ⟨j1, j2⟩ := List.getElem?_eq_some_iff.1 hc
    exact e ((List.getElem_inj h.nod).1 (i2.trans j2.symm))
theorem MB.keep (h : MB B w tv n bs L) (hb : ∀ k, B ≤ k → k < w.heap.size → w'.heap[k]? = w.heap[k]?) : MB B w' tv n bs L :=
  ⟨own_block h.row fun k e hlt => hb k (World.ownsRow.lt h.row k e).1 hlt, h.nod, h.len, fun i b l h1 h2 => by
    obtain ⟨k1, k2, k3⟩ := h.at' i b l h1 h2
    exact ⟨k1, k2, (hb b k2 (lt_of_heap k3)).trans k3⟩⟩
theorem MB.below (h : MB B w tv n bs L) (hb : Below w.heap.size w w') : MB B w' tv n bs L := h.keep fun k _ hk => hb.block k hk
theorem MB.base (h : MB B w tv n bs L) {B' : Nat} (hB : B' ≤ B) : MB B' w tv n bs L :=
  ⟨own_base h.row hB, h.nod, h.len, fun i b l h1 h2 => by
    obtain ⟨k1, k2, k3⟩ := h.at' i b l h1 h2
    exact ⟨k1, Nat.le_trans hB k2, k3⟩⟩
theorem MB.slice (h : MB B w tv n bs L) : ∃ a cap, tv = .slice a bs.length cap ∧ ∀ (i b : Nat), bs[i]? = some b → ∃ g, a = some ⟨g, 0, none⟩ ∧ g < w.heap.size ∧ w.cell? ⟨g, i, none⟩ = some (rowV n b) := by
  obtain ⟨a, cap, e, _, h1⟩ := own_slice h.row
  refine ⟨a, cap, e, fun i b hb => ?_⟩
  obtain ⟨g, e2, _, z, _, hc⟩ := h1 (by have := (List.getElem?_eq_some_iff.1 hb).1; omega)
  exact ⟨g, e2, z, hc i _ (by rw [List.getElem?_map, hb]; rfl)⟩
theorem bcell {b : Nat} {l : List Bool} (h : w.heap[b]? = some (.cells (bvs l).toArray 4)) {k : Nat} {v : Bool} (hk : l[k]? = some v) : w.cell? ⟨b, k, none⟩ = some (.bool v) := by
  rw [cell_of_heap h]
  simp [bvs, hk]
theorem bput {b : Nat} {l : List Bool} (h : w.heap[b]? = some (.cells (bvs l).toArray 4)) (k : Nat) (v : Bool) : (w.setCell ⟨b, k, none⟩ (.bool v)).heap[b]? = some (.cells (bvs (l.set k v)).toArray 4) := by
  rw [heap_setCell_at h]
  simp [bvs, List.map_set]
theorem MB.mx {a : Option Addr} {m cap : Nat} (h : MB B w (.slice a m cap) n bs L) (hbs : bs.length = n) {A : Nat → Nat → Bool} (hA : ∀ i k, i < n → k < n → (L.getD i []).getD k false = A i k) : MxA w a n A := fun i hi => by
  obtain ⟨a', cap', e, h1⟩ := h.slice
  injection e with e _ _
  subst e
  obtain ⟨b, hb⟩ : ∃ b, bs[i]? = some b := ⟨_, List.getElem?_eq_getElem (by omega)⟩
  obtain ⟨l, hl⟩ : ∃ l, L[i]? = some l := ⟨_, List.getElem?_eq_getElem (by rw [h.len]; omega)⟩
  obtain ⟨g, e, z, c⟩ := h1 i b hb
  obtain ⟨k1, _, k3⟩ := h.at' i b l hb hl
  refine ⟨g, e, z, b, n, c, lt_of_heap k3, fun k hk => bcell k3 ?_⟩
  have h2 := hA i k hi hk
  have e2 : L.getD i [] = l := by
    rw [List.getD_eq_getElem?_getD, hl]
    rfl
  rw [e2] at h2
  rw [← h2, List.getD_eq_getElem?_getD, List.getElem?_eq_getElem (by omega)]
  rfl
theorem MB.push (h : MB B w tv n bs L) {W W' : World} {v' : Value} {b : Nat} {l : List Bool} (hW : Below w.heap.size w W) (hb : w.heap.size ≤ b) (hB : B ≤ w.heap.size) (hl : l.length = n) (hbh : W.heap[b]? = some (.cells (bvs l).toArray 4))
    (hown : W'.ownsRow B 42 1 v' (bs.length + 1) (bs.map (rowV n) ++ [rowV n b])) (hg : W.grownBy W' tv.ownBlock) : MB B W' v' n (bs ++ [b]) (L ++ [l]) := by
  have hbn : b ∉ bs := fun hm => by
    obtain ⟨i, hi⟩ := List.mem_iff_getElem?.1 hm
    have := (h.lt hi).2
    omega
  refine ⟨by rw [List.length_append, List.map_append]; exact hown, List.nodup_append.2 ⟨h.nod, by simp, fun x hx y hy e => hbn (by rw [← List.mem_singleton.1 hy, ← e]; exact hx)⟩, by simp [h.len], fun i c m hc hm => ?_⟩
  by_cases hi : i < bs.length
  · rw [List.getElem?_append_left hi] at hc
    rw [List.getElem?_append_left (by rw [h.len]; exact hi)] at hm
    obtain ⟨k1, k2, k3⟩ := h.at' i c m hc hm
    have hz := lt_of_heap k3
    exact ⟨k1, k2, (hg.block c (Nat.lt_of_lt_of_le hz hW.size) fun e => h.ne hc e.symm).trans ((hW.block c hz).trans k3)⟩
  · have hi2 : i = bs.length := by
      have := (List.getElem?_eq_some_iff.1 hc).1
      rw [List.length_append, List.length_singleton] at this
      omega
    subst hi2
    rw [List.getElem?_append_right (Nat.le_refl _), Nat.sub_self] at hc
    rw [← h.len, List.getElem?_append_right (Nat.le_refl _), Nat.sub_self] at hm
    cases hc
    cases hm
    refine ⟨hl, Nat.le_trans hB hb, (hg.block b (lt_of_heap hbh) fun e => ?_).trans hbh⟩
    have := (World.ownsRow.lt h.row b e.symm).2
    omega
end
/-- While ref.New goes. -/
structure NWI (K n : Nat) (w wr : World) (tv : Value) (bs : List Nat) : Prop where
  res : wr.heap[K]? = some (.cells #[.slice none 0 0] 27)
  box : wr.heap[K + 1]? = some (.cells #[tv] 27)
  mb : MB (K + 2) wr tv n bs (List.replicate bs.length (List.replicate n false))
  bel : Below K w wr
theorem NWI.push {K n k : Nat} {w wr W5 : World} {tv v' : Value} {bs : List Nat} (h : NWI K n w wr tv bs) (hk : bs.length = k)
    (hown : W5.ownsRow (K + 2) 42 1 v' (k + 1) (bs.map (rowV n) ++ [rowV n wr.heap.size])) (hg : ((wr.drew.alloc (.cells (List.replicate n (.bool false)).toArray 4)).alloc (.cells #[rowV n wr.heap.size] 42)).grownBy W5 tv.ownBlock) :
    NWI K n w (W5.setCell ⟨K + 1, 0, none⟩ v') v' (bs ++ [wr.heap.size]) ∧ W5.cell? ⟨K + 1, 0, none⟩ = some tv ∧ K + 1 < W5.heap.size ∧ W5.frozen? ⟨K + 1, 0, none⟩ = false := by
  have hz := lt_of_heap h.box
  have hW : Below wr.heap.size wr ((wr.drew.alloc (.cells (List.replicate n (.bool false)).toArray 4)).alloc (.cells #[rowV n wr.heap.size] 42)) := ((Below.refl _ wr).drew.alloc (Nat.le_refl _) _).alloc (by simp) _
  have hm := h.mb.push (l := List.replicate n false) hW (Nat.le_refl _) (by omega) (by simp) (by
    have : bvs (List.replicate n false) = List.replicate n (.bool false) := by simp [bvs]
    rw [this]
    exact heap_alloc_old (heap_alloc_new wr.drew _) _) (by rw [hk]; exact hown) hg
  have hno : tv.ownBlock ≠ some (K + 1) := fun e => by
    have := (World.ownsRow.lt h.mb.row _ e).1
    omega
  have hno2 : tv.ownBlock ≠ some K := fun e => by
    have := (World.ownsRow.lt h.mb.row _ e).1
    omega
  have hb1 : W5.heap[K + 1]? = some (.cells #[tv] 27) := (hg.block _ (Nat.lt_of_lt_of_le hz hW.size) fun e => hno e.symm).trans ((hW.block _ hz).trans h.box)
  have hb0 : W5.heap[K]? = some (.cells #[.slice none 0 0] 27) := (hg.block _ (Nat.lt_of_lt_of_le (lt_of_heap h.res) hW.size) fun e => hno2 e.symm).trans ((hW.block _ (lt_of_heap h.res)).trans h.res)
  have hbel : Below K w W5 := (h.bel.trans (hW.mono (by omega))).trans ⟨hg.os, hg.tape, hg.output, hg.size, fun j hj => hg.block j (by have := hW.size; omega) fun e => by
    have := (World.ownsRow.lt h.mb.row _ e.symm).1
    omega⟩
  refine ⟨⟨(set_other K (by simp)).trans hb0, ?_, ?_, hbel.setCell (p := ⟨K + 1, 0, none⟩) (Nat.le_succ K) _⟩, ?_, lt_of_heap hb1, frozen_of_heap hb1 0⟩
  · rw [heap_setCell_at hb1]
    simp
  · have e : List.replicate bs.length (List.replicate n false) ++ [List.replicate n false] = List.replicate (bs ++ [wr.heap.size]).length (List.replicate n false) := by
      rw [List.length_append, List.length_singleton, List.replicate_succ']
    rw [e] at hm
    exact hm.keep fun j hj _ => set_other j (by simp; omega)
  · rw [cell_of_heap hb1]
    rfl
set_option maxHeartbeats 4000000 in
set_option maxRecDepth 100000 in
theorem rnew_any {w : World} {n : Nat} (hn : n ≤ 10000) :
    Calls Try.prog 23 #[.int .i64 (n : Int)] w fun e w' => ∃ tv bs, e = .returned (.agg #[tv]) ∧ MB w.heap.size w' tv n bs (List.replicate n (List.replicate n false)) ∧ bs.length = n ∧ Below w.heap.size w w' := by
  have MK := mk4 n (by omega)
  go_enter Try.func23, Try.ntmps23
  go_wp2_with fail
  refine abs_world ?_
  intro W1 hW1
  have H1 : Hid (NWI w.heap.size n w W1 (.slice none 0 0) []) := by
    rw [hW1]
    refine ⟨heap_alloc_old (heap_alloc_new w _) _, ?_, ⟨World.ownsRow_nil _ _ _ _, List.nodup_nil, rfl, fun i b l h => by simp at h⟩, (below_alloc w _ _ (Nat.le_refl _)).alloc (by simp) _⟩
    exact heap_alloc_at (by simp) _
  obtain ⟨K, hK⟩ : ∃ K, w.heap.size = K := ⟨_, rfl⟩
  have HK := Lib.hid hK
  rw [hK] at H1 ⊢
  clear hW1 hK
  go_loopg [4] n (fun g s4 wr => ∃ (k : Nat) (tv : Value) (bs : List Nat), s4 = .int .i64 (k : Int) ∧ g = n - k ∧ k ≤ n ∧ Hid (NWI K n w wr tv bs) ∧ Hid (bs.length = k))
  case atStart => exact ⟨0, _, [], rfl, rfl, Nat.zero_le _, H1, rfl⟩
  case round =>
    clear H1
    obtain ⟨k, tv, bs, rfl, rfl, hk, hI, hL⟩ := hrel
    obtain ⟨ta, tc, rfl, _⟩ := own_slice hI.out.mb.row
    rw [hL.out] at hI
    have c1 := cell_of_heap hI.out.box 0
    have z1 := lt_of_heap hI.out.box
    by_cases hlt : k < n
    · obtain ⟨i0, hi, hz0, hz1, hz2⟩ := info_parts info42
      have HI := Lib.hid (⟨hi, hz0, hz1, hz2⟩ : _ ∧ _ ∧ _ ∧ _)
      have HROW : Hid (wr.ownsRow (K + 2) 42 1 (.slice ta k tc) k (bs.map (rowV n))) := by
        have h1 := hI.out.mb.row
        rw [hL.out] at h1
        exact h1
      have PU : Hid (∀ (v' : Value) (W5 : World), W5.ownsRow (K + 2) 42 1 v' (k + 1) (bs.map (rowV n) ++ [rowV n wr.heap.size]) → ((wr.drew.alloc (.cells (List.replicate n (.bool false)).toArray 4)).alloc (.cells #[rowV n wr.heap.size] 42)).grownBy W5 (Value.slice ta k tc).ownBlock → NWI K n w (W5.setCell ⟨K + 1, 0, none⟩ v') v' (bs ++ [wr.heap.size]) ∧ W5.cell? ⟨K + 1, 0, none⟩ = some (.slice ta k tc) ∧ K + 1 < W5.heap.size ∧ W5.frozen? ⟨K + 1, 0, none⟩ = false) := fun v' W5 h1 h2 => hI.out.push hL.out h1 h2
      have hL2 : Hid ((bs ++ [wr.heap.size]).length = k + 1) := by
        unfold Hid
        rw [List.length_append, List.length_singleton, hL.out]
      have hzK : K + 2 ≤ wr.heap.size := by omega
      clear hi hz0 hz1 hz2
      go_wp2_with fail
      refine wp_region_mix [0, 1, 2] [3, 4, 5, 6, 7] [5, 6, 7] (Below wr.heap.size wr) (by kernel_rfl) (by kernel_rfl) (Below.refl _ _).drew ?_
      iterate 3 (first | (apply first_step; (rw [List.getElem?_toArray]; (repeat rw [List.getElem?_cons_succ]); rw [List.getElem?_cons_zero]); rfl; (intro W hB; have hc := bcellB hB; go_simp; (first | done | rfl)); go_frame) | (apply first_skip; (rw [List.getElem?_toArray]; (repeat rw [List.getElem?_cons_succ]); rw [List.getElem?_cons_zero]); rfl; go_frame))
      refine first_done ?_
      apply tail_step; (rw [List.getElem?_toArray]; (repeat rw [List.getElem?_cons_succ]); rw [List.getElem?_cons_zero]); rfl; rfl; intro K' hK; go_simp; refine hK _ _ (fun _ => ((Below.refl _ wr).drew.alloc (Nat.le_refl _) _)) ?_; clear hK K'
      apply tail_step; (rw [List.getElem?_toArray]; (repeat rw [List.getElem?_cons_succ]); rw [List.getElem?_cons_zero]); rfl; rfl; intro K' hK; go_simp; refine hK _ _ (fun _ => (((Below.refl _ wr).drew.alloc (Nat.le_refl _) _).alloc (by simp) _)) ?_; clear hK K'
      apply tail_step; (rw [List.getElem?_toArray]; (repeat rw [List.getElem?_cons_succ]); rw [List.getElem?_cons_zero]); rfl; rfl; intro K' hK
      refine wp_append_at (.tmp 12) (.tmp 15) 25 rfl (K + 2) 42 i0 _ 1 24 Try.underlying25 HI.out.1 HI.out.2.1 HI.out.2.2.1 HI.out.2.2.2 rfl (by decide) (.slice ta k tc) k (bs.map (rowV n)) rfl ?_ ⟨wr.heap.size + 1, 0, none⟩ 1 1 [rowV n wr.heap.size] ?_ rfl ?_ ?_ (by unfold maxLen; omega) (by omega) (by simp; omega) ?_
      focus exact World.ownsRow.alloc (World.ownsRow.alloc HROW.out _) _
      focus (go_simp; done)
      focus (intro j u hu; have h9 := cells_new (wr.alloc (.cells (Array.replicate n (.bool false)) 4)) #[rowV n wr.heap.size] 42 j u hu; rw [World.size_alloc] at h9; exact h9)
      focus (simp [rowV, Value.oneCell'])
      intro v' W5 hown5 hgrow5 _
      obtain ⟨va, vc, rfl, _⟩ := own_slice hown5
      obtain ⟨P1, P2, P3, P4⟩ := PU.out _ W5 hown5 hgrow5
      have HP1 := Lib.hid P1
      refine hK _ _ (fun h => absurd (by decide) h) ?_
      clear hK K' hown5 hgrow5 P1 c1 z1
      go_frame
      (apply tail_step; (rw [List.getElem?_toArray]; (repeat rw [List.getElem?_cons_succ]); rw [List.getElem?_cons_zero]); rfl; rfl; intro K hK; go_simp; refine hK _ _ (fun h => absurd (by decide) h) ?_; clear hK K)
      (apply tail_step; (rw [List.getElem?_toArray]; (repeat rw [List.getElem?_cons_succ]); rw [List.getElem?_cons_zero]); rfl; rfl; intro K hK; go_simp; refine hK _ _ (fun h => absurd (by decide) h) ?_; clear hK K)
      refine tail_done ?_
      clear P2 P3 P4
      go_wp2_with fail
      go_roundg (n - (k + 1))
      case measure => omega
      case rel => exact ⟨k + 1, _, _, by go_num, rfl, by omega, HP1, hL2⟩
    · have hkn : k = n := by omega
      subst hkn
      have c0 := cell_of_heap hI.out.res 0
      have y0 := frozen_of_heap hI.out.res 0
      have z0 := lt_of_heap hI.out.res
      have HM : Hid (MB K (wr.setCell ⟨K, 0, none⟩ (.slice ta k tc)) (.slice ta k tc) k bs (List.replicate k (List.replicate k false))) := by
        have h1 := hI.out.mb
        rw [hL.out] at h1
        exact (h1.keep fun j hj _ => set_other j (by simp; omega)).base (by omega)
      have HB : Hid (Below K w (wr.setCell ⟨K, 0, none⟩ (.slice ta k tc))) := hI.out.bel.setCell (p := ⟨K, 0, none⟩) (Nat.le_refl _) _
      go_wp2_with fail
      refine bodyPost_ret (v := .agg #[.slice ta k tc]) ?_ rfl ⟨_, bs, rfl, by rw [HK.out]; exact HM.out, hL.out, by rw [HK.out]; exact HB.out⟩
      simp [results, Try.results23, go_sem, c0]
set_option maxHeartbeats 1000000 in
set_option maxRecDepth 100000 in
theorem rhas_any {w : World} (a : Option Addr) (n cap : Nat) (x : Int) : Calls Try.prog 27 #[.agg #[.slice a n cap], .int .i64 x] w fun e w' => e = .returned (.bool (decide (0 ≤ x ∧ x < (n : Int)))) ∧ Below w.heap.size w w' := by
  have HB := below_alloc w (.cells #[.slice a n cap] 27) w.heap.size (Nat.le_refl _)
  by_cases h0 : 0 ≤ x
  · have hb : decide (0 ≤ x) = true := by simpa using h0
    have e : decide (0 ≤ x ∧ x < (n : Int)) = decide (x < (n : Int)) := by simp [h0]
    rw [e]
    clear e h0
    go_enter Try.func27, Try.ntmps27
    go_wp2_with fail
    go_ret
    exact ⟨rfl, HB⟩
  · have hb : decide (0 ≤ x) = false := by simpa using h0
    have e : decide (0 ≤ x ∧ x < (n : Int)) = false := by simp [h0]
    rw [e]
    clear e h0
    go_enter Try.func27, Try.ntmps27
    go_wp2_with fail
    go_ret
    exact ⟨rfl, HB⟩
end Go.Proofs.Ytcjohhminiedfaa
