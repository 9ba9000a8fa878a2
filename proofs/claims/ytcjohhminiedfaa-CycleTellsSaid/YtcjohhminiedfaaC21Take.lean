/- Cycle: Reach's closure. -/
import Derived.Test.YtcjohhminiedfaaC21ReachP
namespace Go.Proofs.Ytcjohhminiedfaa
open Go.RowKit
/-- A row of numbers that is read. -/
def RdI (w : World) (v : Value) (S : List Int) : Prop := S.length ≤ maxLen ∧ ∃ a cap, v = .slice a S.length cap ∧ ∀ (j : Nat) (x : Int), S[j]? = some x → ∃ g off, a = some ⟨g, off, none⟩ ∧ g < w.heap.size ∧ w.cell? ⟨g, off + j, none⟩ = some (.int .i64 x)
theorem RdI.below {w w' : World} {v : Value} {S : List Int} (h : RdI w v S) (hb : Below w.heap.size w w') : RdI w' v S := by
  obtain ⟨h0, a, cap, e, h1⟩ := h
  refine ⟨h0, a, cap, e, fun j x hx => ?_⟩
  obtain ⟨g, off, e2, z, c⟩ := h1 j x hx
  exact ⟨g, off, e2, Nat.lt_of_lt_of_le z hb.size, (hb.cell (p := ⟨g, off + j, none⟩) z).trans c⟩
theorem GrN.keepK {w w' : World} {G : Gb} {n K : Nat} {T F : List (List Nat)} (h : GrN w G n T F) (hG : ∀ p, G.pv = .pointer (some p) → ∀ k, G.has k → k < K) (hb : Below K w w') : GrN w' G n T F := by
  rcases h with h | ⟨h1, h2, h3⟩
  · exact .inl h
  · exact .inr ⟨h1.keep fun k hk _ => hb.block k (hG _ h1.ptr k hk), h2, h3⟩
/-- Reach's boxes. -/
structure RM (K H n cb b5 b6 : Nat) (G : Gb) (T F : List (List Nat)) (w : World) (l : List Nat) (lv : Value) : Prop where
  gr : GrN w G n T F
  grK : ∀ p, G.pv = .pointer (some p) → ∀ k, G.has k → k < K
  c2 : w.heap[K]? = some (.cells #[G.pv] 24)
  c5 : w.heap[b5]? = some (.cells #[.slice (some ⟨cb, 0, none⟩) n n] 42)
  c6 : w.heap[b6]? = some (.cells #[lv] 31)
  cm : w.heap[cb]? = some (.cells ((cmL n l).map Value.bool).toArray 4)
  o1 : K < cb
  o2 : K < b5
  o3 : K < b6
  ne1 : cb ≠ b5
  ne2 : cb ≠ b6
  ne3 : b5 ≠ b6
  h1 : cb < H
  h2 : b5 < H
  h3 : b6 < H
  hH : H ≤ w.heap.size
  row : IR H w lv l
section
variable {K H n cb b5 b6 : Nat} {G : Gb} {T F : List (List Nat)} {w w' : World} {l : List Nat} {lv : Value}
theorem RM.below (h : RM K H n cb b5 b6 G T F w l lv) (hb : Below w.heap.size w w') : RM K H n cb b5 b6 G T F w' l lv :=
  ⟨h.gr.below hb, h.grK, (hb.block _ (lt_of_heap h.c2)).trans h.c2, (hb.block _ (lt_of_heap h.c5)).trans h.c5, (hb.block _ (lt_of_heap h.c6)).trans h.c6, (hb.block _ (lt_of_heap h.cm)).trans h.cm, h.o1, h.o2, h.o3, h.ne1, h.ne2, h.ne3, h.h1, h.h2, h.h3, Nat.le_trans h.hH hb.size, h.row.below hb⟩
theorem RM.at (h : RM K H n cb b5 b6 G T F w l lv) {y : Nat} (hy : y < n) : w.cell? ⟨cb, y, none⟩ = some (.bool (l.contains y)) := by
  rw [cell_of_heap h.cm]
  simp [cmL_at l hy]
/-- x comes. -/
theorem RM.come (h : RM K H n cb b5 b6 G T F w l lv) {x : Nat} {o : Obj} {W : World} {v' : Value} (hx : x < n) (hown : W.ownsRow H 3 1 v' (l.length + 1) (l.map iv ++ [iv x])) (hg : ((w.setCell ⟨cb, x, none⟩ (.bool true)).alloc o).grownBy W lv.ownBlock) :
    W.heap[b6]? = some (.cells #[lv] 31) ∧ RM K H n cb b5 b6 G T F (W.setCell ⟨b6, 0, none⟩ v') (l ++ [x]) v' ∧ Below (K + 1) w (W.setCell ⟨b6, 0, none⟩ v') := by
  have hz : w.heap.size ≤ W.heap.size := Nat.le_trans (by simp) hg.size
  have hlo : ∀ k, lv.ownBlock = some k → H ≤ k := fun k e => (h.row.lt k e).1
  have ho1 := h.o1
  have ho2 := h.o2
  have ho3 := h.o3
  have hh1 := h.h1
  have hh2 := h.h2
  have hh3 := h.h3
  have hk : ∀ k, k < w.heap.size → k < H → k ≠ cb → W.heap[k]? = w.heap[k]? := fun k h1 h2 h3 => ((hg.block k (by simp; omega) (fun e => by have := hlo k e.symm; omega)).trans (Below.heap_alloc _ _ _ (by simpa using h1))).trans (set_other k h3)
  have hcm : W.heap[cb]? = some (.cells ((cmL n (l ++ [x])).map Value.bool).toArray 4) := by
    refine (hg.block cb (by have := lt_of_heap h.cm; simp; omega) (fun e => by have := hlo cb e.symm; omega)).trans ?_
    rw [Below.heap_alloc _ _ _ (by simpa using lt_of_heap h.cm), heap_setCell_at h.cm, ← cmL_push l hx]
    simp [List.map_set]
  have hb6 : W.heap[b6]? = some (.cells #[lv] 31) := (hk b6 (lt_of_heap h.c6) h.h3 (fun e => h.ne2 e.symm)).trans h.c6
  have hkK : ∀ k, k ≤ K → k < w.heap.size → (W.setCell ⟨b6, 0, none⟩ v').heap[k]? = w.heap[k]? := fun k h1 h2 => (set_other k (fun e => by change k = b6 at e; omega)).trans (hk k h2 (by omega) (by omega))
  have hKw : K < w.heap.size := lt_of_heap h.c2
  have hBK : Below (K + 1) w (W.setCell ⟨b6, 0, none⟩ v') := ⟨hg.os, hg.tape, hg.output, by simpa using hz, fun k h1 => hkK k (by omega) (by omega)⟩
  refine ⟨hb6, ⟨h.gr.keepK h.grK (hBK.mono (Nat.le_succ K)), h.grK, (hkK K (Nat.le_refl _) hKw).trans h.c2, ?_, by rw [heap_setCell_at hb6]; rfl, (set_other cb h.ne2).trans hcm, h.o1, h.o2, h.o3, h.ne1, h.ne2, h.ne3, h.h1, h.h2, h.h3, Nat.le_trans h.hH hBK.size, ?_⟩, hBK⟩
  · exact (set_other b5 h.ne3).trans ((hk b5 (lt_of_heap h.c5) h.h2 (fun e => h.ne1 e.symm)).trans h.c5)
  · refine (IR.pushed hown).block fun k e _ => set_other k fun e2 => ?_
    have := (World.ownsRow.lt hown k e).1
    change k = b6 at e2
    omega
end
set_option maxHeartbeats 2000000 in
set_option maxRecDepth 100000 in
theorem take_any {K H n cb b5 b6 : Nat} {G : Gb} {T F : List (List Nat)} {w : World} {l : List Nat} {lv : Value} (hn : n ≤ 100000) (hl : LOk n l) (h : RM K H n cb b5 b6 G T F w l lv) (x : Int) :
    Calls Try.prog 37 #[.int .i64 x, pb K, pb b5, pb b6] w fun e w' => e = .returned (.tuple #[]) ∧ ∃ lv', RM K H n cb b5 b6 G T F w' (takeI n l x) lv' ∧ Below (K + 1) w w' := by
  have HM := Lib.hid h
  have CS := Lib.hid (has_any h.gr x)
  have c1 := cell_of_heap h.c2 0
  have z1 := lt_of_heap h.c2
  obtain ⟨gv, hgv⟩ : ∃ gv, G.pv = gv := ⟨_, rfl⟩
  rw [hgv] at CS c1
  have hln := hl.le
  obtain ⟨T', hT'⟩ : ∃ T', takeI n l x = T' := ⟨_, rfl⟩
  rw [hT']
  have HT := Lib.hid hT'
  clear hgv hT' h hl
  unfold pb
  by_cases hx : 0 ≤ x ∧ x < (n : Int)
  · rw [show decide (0 ≤ x ∧ x < (n : Int)) = true by simpa using hx] at CS
    obtain ⟨y, rfl⟩ : ∃ y : Nat, x = (y : Int) := ⟨x.toNat, by omega⟩
    have hy : y < n := by omega
    have j3 : (0 : Int) ≤ (y : Int) := by omega
    have j4 : (y : Int) < (n : Int) := by omega
    clear hx
    go_enter Try.func37, Try.ntmps37
    go_wp2_with fail
    refine CS.out.mono ?_
    rintro e w1 ⟨rfl, hb1⟩
    have HM1 := Lib.hid (HM.out.below hb1)
    have HB1 : Hid (Below (K + 1) w w1) := hb1.mono z1
    clear hb1 CS HM
    have c5 := cell_of_heap HM1.out.c5 0
    have z5 := lt_of_heap HM1.out.c5
    have cc := HM1.out.at hy
    have zc := lt_of_heap HM1.out.cm
    by_cases hm : y ∈ l
    · rw [show l.contains y = true by simpa using hm] at cc
      have hTl : T' = l := by
        rw [← HT.out]
        unfold takeI
        rw [if_neg (by simp [hm])]
      subst hTl
      clear hm
      go_wp2_with fail
      refine bodyPost_end (v := .tuple #[]) (by simp [results, Try.results37, go_sem]) rfl ⟨rfl, lv, HM1.out, HB1.out⟩
    · rw [show l.contains y = false by simpa using hm] at cc
      have hTl : Hid (T' = l ++ [y]) := by
        unfold Hid
        rw [← HT.out]
        unfold takeI
        rw [if_pos ⟨by omega, by omega, by simpa using hm⟩]
        simp
      have yc := frozen_of_heap HM1.out.cm y
      have c6 := cell_of_heap HM1.out.c6 0
      have z6 := lt_of_heap HM1.out.c6
      have n26 : b6 ≠ cb := fun e => HM1.out.ne2 e.symm
      obtain ⟨la, lc, rfl, _⟩ := HM1.out.row.slice
      obtain ⟨i0, hi, hz0, hz1, hz2⟩ := info_parts info3
      have HI3 := Lib.hid (⟨hi, hz0, hz1, hz2⟩ : _ ∧ _ ∧ _ ∧ _)
      obtain ⟨q, hq⟩ : ∃ q, l.length = q := ⟨_, rfl⟩
      have hHz : H ≤ w1.heap.size := HM1.out.hH
      have PU : Hid (∀ (v' : Value) (w' : World), w'.ownsRow H 3 1 v' (q + 1) (l.map iv ++ [iv y]) → ((w1.setCell ⟨cb, y, none⟩ (.bool true)).alloc (.cells #[.int .i64 (y : Int)] 3)).grownBy w' (Value.slice la q lc).ownBlock →
          w'.heap[b6]? = some (.cells #[.slice la q lc] 31) ∧ RM K H n cb b5 b6 G T F (w'.setCell ⟨b6, 0, none⟩ v') T' v' ∧ Below (K + 1) w (w'.setCell ⟨b6, 0, none⟩ v')) := fun v' w' h1 h2 => by
        rw [hTl.out]
        rw [← hq] at h1 h2 ⊢
        obtain ⟨p1, p2, p3⟩ := HM1.out.come hy h1 h2
        exact ⟨p1, p2, HB1.out.trans p3⟩
      have HR : Hid ((w1.setCell ⟨cb, y, none⟩ (.bool true)).ownsRow H 3 1 (.slice la q lc) q (l.map iv)) := by
        rw [← hq]
        exact HM1.out.row.block fun k e _ => set_other k fun e2 => by
          have h1 := (HM1.out.row.lt k e).1
          have h2 := HM1.out.h1
          change k = cb at e2
          omega
      rw [hq] at c6 hln
      clear hi hz0 hz1 hz2 hm hq HT
      go_wp2_with (at_builtin; refine wpList_append_own_at _ rfl _ _ 31 rfl H 3 i0 (.int .i64 0) 1 8 Try.underlying31 HI3.out.1 HI3.out.2.1 HI3.out.2.2.1 HI3.out.2.2.2 rfl (by decide) (.slice la q lc) q (l.map iv) rfl (World.ownsRow.alloc HR.out _) ⟨w1.heap.size, 0, none⟩ 1 1 [iv y] rfl rfl (by rw [← World.size_setCell w1 ⟨cb, y, none⟩ (.bool true)]; exact cells_new _ #[.int .i64 (y : Int)] 3) (by simp [iv, Value.oneCell']) (by unfold maxLen; omega) (by omega) (by simp; omega) ?_; intro v9 w9 hown hgrow _ _; obtain ⟨va, vc, rfl, _⟩ := own_slice hown; obtain ⟨p1, p2, p3⟩ := PU.out _ w9 hown hgrow; have P2 := Lib.hid p2; have P3 := Lib.hid p3; clear hown hgrow c6 z6; have c6 := cell_of_heap p1 0; have y6 := frozen_of_heap p1 0; have z6 := lt_of_heap p1; clear p1 p2 p3)
      refine bodyPost_end (v := .tuple #[]) (by simp [results, Try.results37, go_sem]) rfl ⟨rfl, _, P2.out, P3.out⟩
  · rw [show decide (0 ≤ x ∧ x < (n : Int)) = false by simpa using hx] at CS
    have hTl : T' = l := by
      rw [← HT.out]
      unfold takeI
      rw [if_neg (fun h => hx ⟨h.1, h.2.1⟩)]
    subst hTl
    clear hx
    go_enter Try.func37, Try.ntmps37
    go_wp2_with fail
    refine CS.out.mono ?_
    rintro e w1 ⟨rfl, hb1⟩
    have HM1 := Lib.hid (HM.out.below hb1)
    have HB1 : Hid (Below (K + 1) w w1) := hb1.mono z1
    clear hb1 CS HM
    go_wp2_with fail
    refine bodyPost_end (v := .tuple #[]) (by simp [results, Try.results37, go_sem]) rfl ⟨rfl, lv, HM1.out, HB1.out⟩
end Go.Proofs.Ytcjohhminiedfaa
