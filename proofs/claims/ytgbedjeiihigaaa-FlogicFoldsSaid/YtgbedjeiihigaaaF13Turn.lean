/- FlogicTurns: for every slice of truths and every byte. -/
import Derived.Test.YtgbedjeiihigaaaF13TurnP
import Derived.Test.YtgbedjeiihigaaaMultiR
import Derived.Test.YtgbedjeiihigaaaF13Open
namespace Go.Proofs.Ytgbedjeiihigaaa
open Go.RowKit
def Dis (v u : Value) : Prop := ∀ b, v.ownBlock = some b → u.ownBlock ≠ some b
theorem Dis.symm {v u : Value} (h : Dis v u) : Dis u v := fun b hb e => h b e hb
/-- The three slices under way. -/
structure Tri (B : Nat) (W : World) (v1 v2 v3 : Value) (l1 l2 l3 : List V) : Prop where
  a1 : Arow B W v1 l1
  a2 : Arow B W v2 l2
  a3 : Arow B W v3 l3
  d12 : Dis v1 v2
  d13 : Dis v1 v3
  d23 : Dis v2 v3
theorem Tri.rot {B : Nat} {W : World} {v1 v2 v3 : Value} {l1 l2 l3 : List V} (h : Tri B W v1 v2 v3 l1 l2 l3) : Tri B W v2 v3 v1 l2 l3 l1 := ⟨h.a2, h.a3, h.a1, h.d23, h.d12.symm, h.d13.symm⟩
theorem Tri.below {B : Nat} {W W' : World} {v1 v2 v3 : Value} {l1 l2 l3 : List V} (h : Tri B W v1 v2 v3 l1 l2 l3) (hb : Below W.heap.size W W') : Tri B W' v1 v2 v3 l1 l2 l3 := ⟨h.a1.below hb, h.a2.below hb, h.a3.below hb, h.d12, h.d13, h.d23⟩
/-- The first one is appended to. -/
theorem Tri.app {B : Nat} {W W0 W' : World} {v1 v2 v3 v' : Value} {l1 l2 l3 : List V} {b : Nat} {x : V} {bs : List Nat} (h : Tri B W v1 v2 v3 l1 l2 l3) (hb : Below W.heap.size W W0)
    (he : bs.length = l1.length) (hr : W.ownsRow B 27 3 v1 l1.length (bs.flatMap cell3)) (hc : ∀ (i b : Nat) (x : V), bs[i]? = some b → l1[i]? = some x → W.heap[b]? = some (.cells (vcells x).toArray 36))
    (hx : W0.heap[b]? = some (.cells (vcells x).toArray 36)) (hown : W'.ownsRow B 27 3 v' (l1.length + 1) (bs.flatMap cell3 ++ cell3 b)) (hg : W0.grownBy W' v1.ownBlock) (hl : v'.ownBlock = v1.ownBlock ∨ v'.ownBlock = some W0.heap.size) :
    Tri B W' v' v2 v3 (l1 ++ [x]) l2 l3 := by
  have h' := h.below hb
  have hd : ∀ u l, Arow B W0 u l → Dis v1 u → Dis v' u := fun u l hu hd k hk e => by
    rcases hl with e1 | e1
    · exact hd k (e1 ▸ hk) e
    · rw [e1] at hk
      cases hk
      exact absurd (hu.lt e).1 (Nat.lt_irrefl _)
  exact ⟨Arow.appended hb he hr hc hx hown hg, h'.a2.other h'.a1 hg (fun k hk => h'.d12.symm k hk), h'.a3.other h'.a1 hg (fun k hk => h'.d13.symm k hk), hd _ _ h'.a2 h'.d12, hd _ _ h'.a3 h'.d13, h'.d23⟩
theorem Tri.grown {B : Nat} {W W0 W' : World} {v1 v2 v3 : Value} {l1 l2 l3 : List V} (h : Tri B W v1 v2 v3 l1 l2 l3) (hb : Below W.heap.size W W0) (hB : B ≤ W.heap.size) (hg : W0.grownBy W' v1.ownBlock) : Below B W W' :=
  (hb.mono hB).grown hg (Nat.le_trans hB hb.size) (fun _ e => ((h.below hb).a1.lt e).2.1)
def TurnS (w1 : World) (l : List Bool) (k i : Nat) (v1 v2 v3 : Value) (W : World) : Prop :=
  Below w1.heap.size w1 W ∧ Tri w1.heap.size W v1 v2 v3 ((l.take i).map vTruth) (((l.take i).map (!·)).map vTruth) ((rot l k i).map vTruth)
theorem arrs_len (L : List V) : (arrs L).length = L.length := by simp [arrs]
section
variable {B : Nat} {W : World} {a : Option Addr} {cap : Nat} {L : List V} (h : Arow B W (.slice a L.length cap) L) (hT : ∀ v ∈ L, TOk v) (hR : ∀ v ∈ L, RightOk v) (h1 : 1 ≤ L.length) (h2 : L.length ≤ 32)
include h hT hR h1 h2
theorem call_andR : Calls Try.prog 10 #[.string sAND, .slice a L.length cap] W (CallPost W ⟨1, 1, [truthsV andF (arrs L)]⟩) := by
  have := call_and (arrs L) (by rw [arrs_len]; exact h1) (by rw [arrs_len]; exact h2) (fun A hA v hv => by obtain ⟨u, hu, rfl⟩ := List.mem_map.1 hA; rw [List.mem_singleton.1 hv]; exact hT u hu) (fun A hA => by obtain ⟨u, hu, rfl⟩ := List.mem_map.1 hA; exact ok_one (hR u hu)) (by rw [allV_arrs]; omega) a cap W h.args
  rwa [arrs_len] at this
theorem call_orR : Calls Try.prog 10 #[.string sOR, .slice a L.length cap] W (CallPost W ⟨1, 1, [truthsV orF (arrs L)]⟩) := by
  have := call_or (arrs L) (by rw [arrs_len]; exact h1) (by rw [arrs_len]; exact h2) (fun A hA v hv => by obtain ⟨u, hu, rfl⟩ := List.mem_map.1 hA; rw [List.mem_singleton.1 hv]; exact hT u hu) (fun A hA => by obtain ⟨u, hu, rfl⟩ := List.mem_map.1 hA; exact ok_one (hR u hu)) (by rw [allV_arrs]; omega) a cap W h.args
  rwa [arrs_len] at this
theorem call_xorR : Calls Try.prog 10 #[.string sXOR, .slice a L.length cap] W (CallPost W ⟨1, 1, [truthsV xorF (arrs L)]⟩) := by
  have := call_xor (arrs L) (by rw [arrs_len]; exact h1) (by rw [arrs_len]; exact h2) (fun A hA v hv => by obtain ⟨u, hu, rfl⟩ := List.mem_map.1 hA; rw [List.mem_singleton.1 hv]; exact hT u hu) (fun A hA => by obtain ⟨u, hu, rfl⟩ := List.mem_map.1 hA; exact ok_one (hR u hu)) (by rw [allV_arrs]; omega) a cap W h.args
  rwa [arrs_len] at this
end
theorem toks (l : List Bool) : ∀ v ∈ l.map vTruth, TOk v := fun v hv => by obtain ⟨b, _, rfl⟩ := List.mem_map.1 hv; exact tok_truth b
theorem rights (l : List Bool) : ∀ v ∈ l.map vTruth, RightOk v := fun v hv => by obtain ⟨b, _, rfl⟩ := List.mem_map.1 hv; exact rightOk_truth b
theorem tok_of (fn : Int → Int → Bool) (l : List V) : TOk (truthsV fn (arrs l)) := by
  unfold truthsV
  split
  · exact tok_plain (by simp [vBad])
  · split
    · exact tok_plain (by simp [vBad])
    · exact tok_truth _
theorem right_of (fn : Int → Int → Bool) (l : List V) : RightOk (truthsV fn (arrs l)) := by
  unfold truthsV
  split
  · exact rightOk_bad _
  · split
    · exact rightOk_bad _
    · exact rightOk_truth _
/-- An array of 1 in a box. -/
def BoxA (W : World) (b : Nat) (v : V) : Prop := ∃ p c, W.heap[b]? = some (.cells #[.int .i64 1, .int .i64 1, .slice p 1 c] 27) ∧ SlB 0 W p [v]
theorem BoxA.below {W W' : World} {b : Nat} {v : V} (h : BoxA W b v) (hb : Below W.heap.size W W') : BoxA W' b v := by
  obtain ⟨p, c, h1, h2⟩ := h
  exact ⟨p, c, (hb.block b (lt_of_heap h1)).trans h1, h2.below hb⟩
set_option maxHeartbeats 2000000 in
set_option maxRecDepth 100000 in
theorem turns_main (a : Option Addr) (cap : Nat) (l : List Bool) (t : Int) (w : World) (q1 : 0 ≤ t) (q2 : t ≤ 255) (h1 : 1 ≤ l.length) (h2 : l.length ≤ 20) (hA : BoolsAt w a l) :
    Calls Try.prog 3 #[.slice a l.length cap, .int .u8 t] w fun e w' => e = .returned (.bool true) ∧ Below w.heap.size w w' := by
  obtain ⟨b, off, rfl, hb, hcell⟩ := hA (by omega)
  have HC := Lib.hid hcell
  have i1 : IntKind.i64.wrap t = t := IntWalk.i64_in _ (by omega)
  obtain ⟨k, hk⟩ : ∃ k : Nat, t % (l.length : Int) = (k : Int) := ⟨(t % (l.length : Int)).toNat, by have := Int.emod_nonneg t (b := (l.length : Int)) (by omega); omega⟩
  have hkl : k < l.length := by have := Int.emod_lt_of_pos t (b := (l.length : Int)) (by omega); omega
  have n0 : ((l.length : Int) == 0) = false := beq_eq_false_iff_ne.2 (by omega)
  clear hA hcell
  go_enter Try.func3, Try.ntmps3
  go_wp2_with fail
  refine (awake_any _).mono ?_
  rintro e w1 ⟨rfl, f1⟩
  have F1 := Lib.hid f1
  have S1 : Hid (TurnS w1 l k 0 (.slice none 0 0) (.slice none 0 0) (.slice none 0 0) w1) := ⟨Below.refl _ _, Arow.nil _ _, Arow.nil _ _, Arow.nil _ _, (fun b h => by cases h), (fun b h => by cases h), (fun b h => by cases h)⟩
  clear f1
  go_wp2_with fail
  rw [hk]
  clear i1 hk n0
  obtain ⟨i0, hi, hz0, hz1, hz2⟩ := info_parts info27
  have HI := Lib.hid hi
  have HZ0 := Lib.hid hz0
  have HZ1 := Lib.hid hz1
  have HZ2 := Lib.hid hz2
  clear hi hz0 hz1 hz2
  go_loopw [5, 6, 7, 9, 10] (fun v1 v2 v3 o x wr => ∃ i : Nat, o = .bool (oddOf (l.take i)) ∧ x = .int .i64 i ∧ i ≤ l.length ∧ Hid (TurnS w1 l k i v1 v2 v3 wr)) (fun _ _ _ _ x _ => l.length - (intOf x).toNat)
  case atStart => exact ⟨0, rfl, rfl, Nat.zero_le _, S1⟩
  case round =>
    obtain ⟨i, rfl, rfl, hi, hS⟩ := hrel
    by_cases hlt : i < l.length
    · obtain ⟨x, hx⟩ : ∃ x, l[i]? = some x := ⟨_, List.getElem?_eq_getElem hlt⟩
      have hil : ((l.take i).map vTruth).length ≤ 20 := by simp; omega
      have hil2 : (((l.take i).map (!·)).map vTruth).length ≤ 20 := by simp; omega
      have hil3 : ((rot l k i).map vTruth).length ≤ 20 := by simp [rot_len]; omega
      obtain ⟨m, hm⟩ : ∃ m, m = (i + k) % l.length := ⟨_, rfl⟩
      have hml : m < l.length := by rw [hm]; exact Nat.mod_lt _ (by omega)
      have RM : Hid (((i : Int) + (k : Int)) % (l.length : Int) = (m : Int)) := by unfold Hid; rw [hm]; simp
      obtain ⟨y, hy⟩ : ∃ y, l[m]? = some y := ⟨_, List.getElem?_eq_getElem hml⟩
      have SN1 : Hid ((l.take (i + 1)).map vTruth = (l.take i).map vTruth ++ [vTruth x]) := by unfold Hid; rw [take_snoc' hx]; simp
      have SN2 : Hid (((l.take (i + 1)).map (!·)).map vTruth = ((l.take i).map (!·)).map vTruth ++ [vTruth (!x)]) := by unfold Hid; rw [take_snoc' hx]; simp
      have SN3 : Hid ((rot l k (i + 1)).map vTruth = (rot l k i).map vTruth ++ [vTruth y]) := by unfold Hid; rw [rot_snoc, ← hm]; simp [hy]
      have SN4 : Hid (oddOf (l.take (i + 1)) = (oddOf (l.take i) != x)) := by unfold Hid; rw [take_snoc' hx, oddOf_snoc]
      have CX := Lib.hid (HC.out i x hx)
      have CY := Lib.hid (HC.out _ y hy)
      have HB0 : Hid (Below w1.heap.size w1 wr) := hS.out.1
      have T0 := Lib.hid hS.out.2
      generalize (l.take i).map vTruth = la at T0 SN1 hil
      generalize ((l.take i).map (!·)).map vTruth = lb at T0 SN2 hil2
      generalize (rot l k i).map vTruth = lc at T0 SN3 hil3
      have hBw := F1.out.trans (HB0.out.mono F1.out.size)
      have cx := (hBw.cell (p := ⟨b, off + i, none⟩) hb).trans CX.out
      have hbr : b < wr.heap.size := Nat.lt_of_lt_of_le hb hBw.size
      clear hS hx hy hBw hm
      go_wp2_with fail
      refine (truth_b x _).mono ?_
      rintro e u1 ⟨bb1, rfl, _, hx1, fx1⟩
      obtain ⟨bs1, he1, hr1, hc1⟩ := (T0.out.below fx1).a1
      have HX1 := Lib.hid hx1
      have HE1 := Lib.hid he1
      have HR1 := Lib.hid hr1
      have HCC1 := Lib.hid hc1
      have HT1 := Lib.hid (T0.out.below fx1)
      have HB1 : Hid (Below w1.heap.size w1 u1) := HB0.out.trans (fx1.mono HB0.out.size)
      clear hx1 he1 hr1 hc1 fx1 T0 cx hbr
      go_wp2_with (at_builtin; refine wpList_append_own_at _ rfl _ _ 24 rfl w1.heap.size 27 i0 (.agg #[.int .i64 0, .int .i64 0, .slice none 0 0]) 3 40 Try.underlying24 HI.out HZ0.out HZ1.out HZ2.out rfl (by decide) _ _ _ rfl (HR1.out.alloc _) ⟨u1.heap.size, 0, none⟩ 1 1 (cell3 bb1) rfl rfl (cells_new _ #[.int .i64 1, .int .i64 1, .slice (some ⟨bb1, 0, none⟩) 1 1] 27) (by simp [cell3, Value.oneCell']) (by unfold maxLen; omega) (by omega) (by have := HB1.out.size; simp; omega) ?_; intro v1' y1 hown hgrow _ hloc; have hba := below_alloc u1 (.cells #[.int .i64 1, .int .i64 1, .slice (some ⟨bb1, 0, none⟩) 1 1] 27) _ (Nat.le_refl _); have HS1 := Lib.hid (HT1.out.app hba HE1.out HR1.out HCC1.out (heap_alloc_old HX1.out _) hown hgrow hloc).rot; have HY1 : Hid (Below w1.heap.size w1 y1) := HB1.out.trans (HT1.out.grown hba HB1.out.size hgrow); have hBw := F1.out.trans (HY1.out.mono F1.out.size); have cx := (hBw.cell (p := ⟨b, off + i, none⟩) hb).trans CX.out; have hbr : b < y1.heap.size := Nat.lt_of_lt_of_le hb hBw.size; clear hown hgrow hloc hba hBw)
      clear HX1 HE1 HR1 HCC1 HT1 HB1
      have HB1 := HY1
      clear HY1
      refine (truth_b (!x) _).mono ?_
      rintro e u2 ⟨bb2, rfl, _, hx2, fx2⟩
      obtain ⟨bs2, he2, hr2, hc2⟩ := (HS1.out.below fx2).a1
      have HX2 := Lib.hid hx2
      have HE2 := Lib.hid he2
      have HR2 := Lib.hid hr2
      have HCC2 := Lib.hid hc2
      have HT2 := Lib.hid (HS1.out.below fx2)
      have HB2 : Hid (Below w1.heap.size w1 u2) := HB1.out.trans (fx2.mono HB1.out.size)
      clear hx2 he2 hr2 hc2 fx2 HS1 cx hbr
      go_wp2_with (at_builtin; refine wpList_append_own_at _ rfl _ _ 24 rfl w1.heap.size 27 i0 (.agg #[.int .i64 0, .int .i64 0, .slice none 0 0]) 3 40 Try.underlying24 HI.out HZ0.out HZ1.out HZ2.out rfl (by decide) _ _ _ rfl (HR2.out.alloc _) ⟨u2.heap.size, 0, none⟩ 1 1 (cell3 bb2) rfl rfl (cells_new _ #[.int .i64 1, .int .i64 1, .slice (some ⟨bb2, 0, none⟩) 1 1] 27) (by simp [cell3, Value.oneCell']) (by unfold maxLen; omega) (by omega) (by have := HB2.out.size; simp; omega) ?_; intro v2' y2 hown hgrow _ hloc; have hba := below_alloc u2 (.cells #[.int .i64 1, .int .i64 1, .slice (some ⟨bb2, 0, none⟩) 1 1] 27) _ (Nat.le_refl _); have HS2 := Lib.hid (HT2.out.app hba HE2.out HR2.out HCC2.out (heap_alloc_old HX2.out _) hown hgrow hloc).rot; have HY2 : Hid (Below w1.heap.size w1 y2) := HB2.out.trans (HT2.out.grown hba HB2.out.size hgrow); have hBw := F1.out.trans (HY2.out.mono F1.out.size); have cx := (hBw.cell (p := ⟨b, off + m, none⟩) hb).trans CY.out; have hbr : b < y2.heap.size := Nat.lt_of_lt_of_le hb hBw.size; clear hown hgrow hloc hba hBw; have n0 : ((l.length : Int) == 0) = false := beq_eq_false_iff_ne.2 (by omega); have jm1 : (0 : Int) ≤ (m : Int) := Int.natCast_nonneg m; have jm2 : (m : Int) < (l.length : Int) := (by omega); have rm := RM.out)
      clear HX2 HE2 HR2 HCC2 HT2 HB2
      have HB2 := HY2
      clear HY2
      clear rm n0 jm1 jm2
      refine (truth_b y _).mono ?_
      rintro e u3 ⟨bb3, rfl, _, hx3, fx3⟩
      obtain ⟨bs3, he3, hr3, hc3⟩ := (HS2.out.below fx3).a1
      have HX3 := Lib.hid hx3
      have HE3 := Lib.hid he3
      have HR3 := Lib.hid hr3
      have HCC3 := Lib.hid hc3
      have HT3 := Lib.hid (HS2.out.below fx3)
      have HB3 : Hid (Below w1.heap.size w1 u3) := HB2.out.trans (fx3.mono HB2.out.size)
      clear hx3 he3 hr3 hc3 fx3 HS2 cx hbr
      go_wp2_with (at_builtin; refine wpList_append_own_at _ rfl _ _ 24 rfl w1.heap.size 27 i0 (.agg #[.int .i64 0, .int .i64 0, .slice none 0 0]) 3 40 Try.underlying24 HI.out HZ0.out HZ1.out HZ2.out rfl (by decide) _ _ _ rfl (HR3.out.alloc _) ⟨u3.heap.size, 0, none⟩ 1 1 (cell3 bb3) rfl rfl (cells_new _ #[.int .i64 1, .int .i64 1, .slice (some ⟨bb3, 0, none⟩) 1 1] 27) (by simp [cell3, Value.oneCell']) (by unfold maxLen; omega) (by omega) (by have := HB3.out.size; simp; omega) ?_; intro v3' y3 hown hgrow _ hloc; have hba := below_alloc u3 (.cells #[.int .i64 1, .int .i64 1, .slice (some ⟨bb3, 0, none⟩) 1 1] 27) _ (Nat.le_refl _); have HS3 := Lib.hid (HT3.out.app hba HE3.out HR3.out HCC3.out (heap_alloc_old HX3.out _) hown hgrow hloc).rot; have HY3 : Hid (Below w1.heap.size w1 y3) := HB3.out.trans (HT3.out.grown hba HB3.out.size hgrow); have hBw := F1.out.trans (HY3.out.mono F1.out.size); have cx := (hBw.cell (p := ⟨b, off + i, none⟩) hb).trans CX.out; have hbr : b < y3.heap.size := Nat.lt_of_lt_of_le hb hBw.size; clear hown hgrow hloc hba hBw)
      clear HX3 HE3 HR3 HCC3 HT3 HB3
      have HB3 := HY3
      clear HY3
      go_roundw
      case rel => exact ⟨i + 1, by rw [SN4.out]; rfl, by go_num, by omega, HB3.out, by rw [SN1.out, SN2.out, SN3.out]; exact HS3.out⟩
      case measure => simp [intOf]; omega
    · have e : i = l.length := by omega
      subst e
      unfold TurnS at hS
      rw [List.take_of_length_le (Nat.le_refl _)] at hS
      have OD : Hid (oddOf (l.take l.length) = oddOf l) := by unfold Hid; rw [List.take_of_length_le (Nat.le_refl _)]
      have hne : l ≠ [] := fun e => by rw [e] at h1; simp at h1
      have A1 := Lib.hid (and_nor l hne)
      have A2 := Lib.hid (xor_odd l hne)
      have A3 := Lib.hid (rot_truths andF l k hkl)
      have A4 := Lib.hid (rot_truths xorF l k hkl)
      have HB : Hid (Below w.heap.size w wr) := F1.out.trans (hS.out.1.mono F1.out.size)
      obtain ⟨a1, cc1, rfl⟩ := hS.out.2.a1.slice
      obtain ⟨a2, cc2, rfl⟩ := hS.out.2.a2.slice
      obtain ⟨a3, cc3, rfl⟩ := hS.out.2.a3.slice
      have T := Lib.hid hS.out.2
      have t1 := toks l
      have t2 := rights l
      have t3 := toks (l.map (!·))
      have t4 := rights (l.map (!·))
      have t5 := toks (rot l k l.length)
      have t6 := rights (rot l k l.length)
      have n1 : (l.map vTruth).length = l.length := by simp
      have n2 : ((l.map (!·)).map vTruth).length = l.length := by simp
      have n3 : ((rot l k l.length).map vTruth).length = l.length := by simp [rot_len]
      have T1 := Lib.hid t1
      have T2 := Lib.hid t2
      have T3 := Lib.hid t3
      have T4 := Lib.hid t4
      have T5 := Lib.hid t5
      have T6 := Lib.hid t6
      have m1 : 1 ≤ (l.map vTruth).length ∧ (l.map vTruth).length ≤ 32 := by rw [n1]; omega
      have m2 : 1 ≤ ((l.map (!·)).map vTruth).length ∧ ((l.map (!·)).map vTruth).length ≤ 32 := by rw [n2]; omega
      have m3 : 1 ≤ ((rot l k l.length).map vTruth).length ∧ ((rot l k l.length).map vTruth).length ≤ 32 := by rw [n3]; omega
      rw [OD.out]
      generalize l.map vTruth = L1 at *
      generalize (l.map (!·)).map vTruth = L2 at *
      generalize (rot l k l.length).map vTruth = L3 at *
      generalize oddOf l = od at *
      obtain ⟨m11, m12⟩ := m1
      obtain ⟨m21, m22⟩ := m2
      obtain ⟨m31, m32⟩ := m3
      clear hS t1 t2 t3 t4 t5 t6 n1 n2 n3 OD S1 HC hne hi hlt
      go_wp2_with fail
      refine (call_andR T.out.a1 T1.out T2.out m11 m12).mono ?_
      rintro e u1 ⟨x1, rfl, ⟨p1, c1, rfl, s1⟩, f1⟩
      simp only [List.length_cons, List.length_nil] at s1 ⊢
      have hB1 : Below wr.heap.size wr (u1.alloc (.cells #[.int .i64 1, .int .i64 1, .slice p1 1 c1] 27)) := ((f1) : Below wr.heap.size wr u1).alloc ((f1) : Below wr.heap.size wr u1).size _
      have X1 : Hid (BoxA (u1.alloc (.cells #[.int .i64 1, .int .i64 1, .slice p1 1 c1] 27)) u1.heap.size (truthsV andF (arrs L1))) := ⟨p1, c1, heap_alloc_new u1 _, (s1.mono (Nat.zero_le _)).below (below_alloc u1 _ _ (Nat.le_refl _))⟩
      have T' := Lib.hid (T.out.below hB1)
      have HB' : Hid (Below w.heap.size w (u1.alloc (.cells #[.int .i64 1, .int .i64 1, .slice p1 1 c1] 27))) := HB.out.trans (hB1.mono HB.out.size)
      clear T HB
      have T := T'
      have HB := HB'
      clear T' HB' s1 f1 hB1
      go_wp2_with fail
      generalize (u1.alloc (.cells #[.int .i64 1, .int .i64 1, .slice p1 1 c1] 27)) = W1 at T HB X1 ⊢
      refine (call_orR T.out.a2 T3.out T4.out m21 m22).mono ?_
      rintro e u2 ⟨x2, rfl, ⟨p2, c2, rfl, s2⟩, f2⟩
      simp only [List.length_cons, List.length_nil] at s2 ⊢
      have hB2 : Below W1.heap.size W1 (u2.alloc (.cells #[.int .i64 1, .int .i64 1, .slice p2 1 c2] 27)) := ((f2) : Below W1.heap.size W1 u2).alloc ((f2) : Below W1.heap.size W1 u2).size _
      have X2 : Hid (BoxA (u2.alloc (.cells #[.int .i64 1, .int .i64 1, .slice p2 1 c2] 27)) u2.heap.size (truthsV orF (arrs L2))) := ⟨p2, c2, heap_alloc_new u2 _, (s2.mono (Nat.zero_le _)).below (below_alloc u2 _ _ (Nat.le_refl _))⟩
      have X1' := Lib.hid (X1.out.below hB2)
      clear X1
      have X1 := X1'
      clear X1'
      have T' := Lib.hid (T.out.below hB2)
      have HB' : Hid (Below w.heap.size w (u2.alloc (.cells #[.int .i64 1, .int .i64 1, .slice p2 1 c2] 27))) := HB.out.trans (hB2.mono HB.out.size)
      clear T HB
      have T := T'
      have HB := HB'
      have S2 : Hid (SlB 0 (u2.alloc (.cells #[.int .i64 1, .int .i64 1, .slice p2 1 c2] 27)) p2 [truthsV orF (arrs L2)]) := (s2.mono (Nat.zero_le _)).below (below_alloc u2 _ _ (Nat.le_refl _))
      have hz2 : (u2.alloc (.cells #[.int .i64 1, .int .i64 1, .slice p2 1 c2] 27)).heap.size = u2.heap.size + 1 := World.size_alloc _ _
      have HZZ := Lib.hid hz2
      clear hz2
      clear T' HB' s2 f2 hB2
      go_wp2_with fail
      generalize (u2.alloc (.cells #[.int .i64 1, .int .i64 1, .slice p2 1 c2] 27)) = W2 at T HB X1 X2 S2 HZZ ⊢
      have hb3 := below_alloc W2 (.cells #[.int .i64 1, .int .i64 1, .slice p2 1 c2] 27) _ (Nat.le_refl _)
      have ha3 : ArgsAt 0 (W2.alloc (.cells #[.int .i64 1, .int .i64 1, .slice p2 1 c2] 27)) (some ⟨W2.heap.size, 0, none⟩) [⟨1, 1, [truthsV orF (arrs L2)]⟩] := args_one (A1 := ⟨1, 1, [truthsV orF (arrs L2)]⟩) (heap_alloc_new W2 _) (S2.out.below hb3)
      have key := call_not ⟨1, 1, [truthsV orF (arrs L2)]⟩ (fun v hv => by rw [List.mem_singleton.1 hv]; exact tok_of orF L2) (ok_one (right_of orF L2)) _ 1 _ ha3
      clear ha3
      rw [HZZ.out] at key
      refine key.mono ?_
      clear key
      rintro e u3 ⟨x3, rfl, ⟨p3, c3, rfl, s3⟩, f3⟩
      simp only [List.length_cons, List.length_nil, List.map_cons, List.map_nil] at s3 ⊢
      have hB3 : Below W2.heap.size W2 (u3.alloc (.cells #[.int .i64 1, .int .i64 1, .slice p3 1 c3] 27)) := ((hb3.trans (f3.mono hb3.size)) : Below W2.heap.size W2 u3).alloc ((hb3.trans (f3.mono hb3.size)) : Below W2.heap.size W2 u3).size _
      have X3 : Hid (BoxA (u3.alloc (.cells #[.int .i64 1, .int .i64 1, .slice p3 1 c3] 27)) u3.heap.size (notV (truthsV orF (arrs L2)))) := ⟨p3, c3, heap_alloc_new u3 _, (s3.mono (Nat.zero_le _)).below (below_alloc u3 _ _ (Nat.le_refl _))⟩
      have X1' := Lib.hid (X1.out.below hB3)
      clear X1
      have X1 := X1'
      clear X1'
      have T' := Lib.hid (T.out.below hB3)
      have HB' : Hid (Below w.heap.size w (u3.alloc (.cells #[.int .i64 1, .int .i64 1, .slice p3 1 c3] 27))) := HB.out.trans (hB3.mono HB.out.size)
      clear T HB
      have T := T'
      have HB := HB'
      clear T' HB' s3 f3 hB3
      clear hb3 X2 S2
      go_wp2_with fail
      generalize (u3.alloc (.cells #[.int .i64 1, .int .i64 1, .slice p3 1 c3] 27)) = W3 at T HB X1 X3 ⊢
      refine (call_xorR T.out.a1 T1.out T2.out m11 m12).mono ?_
      rintro e u4 ⟨x4, rfl, ⟨p4, c4, rfl, s4⟩, f4⟩
      simp only [List.length_cons, List.length_nil] at s4 ⊢
      have hB4 : Below W3.heap.size W3 (u4.alloc (.cells #[.int .i64 1, .int .i64 1, .slice p4 1 c4] 27)) := ((f4) : Below W3.heap.size W3 u4).alloc ((f4) : Below W3.heap.size W3 u4).size _
      have X4 : Hid (BoxA (u4.alloc (.cells #[.int .i64 1, .int .i64 1, .slice p4 1 c4] 27)) u4.heap.size (truthsV xorF (arrs L1))) := ⟨p4, c4, heap_alloc_new u4 _, (s4.mono (Nat.zero_le _)).below (below_alloc u4 _ _ (Nat.le_refl _))⟩
      have X1' := Lib.hid (X1.out.below hB4)
      clear X1
      have X1 := X1'
      clear X1'
      have X3' := Lib.hid (X3.out.below hB4)
      clear X3
      have X3 := X3'
      clear X3'
      have T' := Lib.hid (T.out.below hB4)
      have HB' : Hid (Below w.heap.size w (u4.alloc (.cells #[.int .i64 1, .int .i64 1, .slice p4 1 c4] 27))) := HB.out.trans (hB4.mono HB.out.size)
      clear T HB
      have T := T'
      have HB := HB'
      clear T' HB' s4 f4 hB4
      go_wp2_with fail
      generalize (u4.alloc (.cells #[.int .i64 1, .int .i64 1, .slice p4 1 c4] 27)) = W4 at T HB X1 X3 X4 ⊢
      refine (call_andR T.out.a3 T5.out T6.out m31 m32).mono ?_
      rintro e u5 ⟨x5, rfl, ⟨p5, c5, rfl, s5⟩, f5⟩
      simp only [List.length_cons, List.length_nil] at s5 ⊢
      have hB5 : Below W4.heap.size W4 (u5.alloc (.cells #[.int .i64 1, .int .i64 1, .slice p5 1 c5] 27)) := ((f5) : Below W4.heap.size W4 u5).alloc ((f5) : Below W4.heap.size W4 u5).size _
      have X5 : Hid (BoxA (u5.alloc (.cells #[.int .i64 1, .int .i64 1, .slice p5 1 c5] 27)) u5.heap.size (truthsV andF (arrs L3))) := ⟨p5, c5, heap_alloc_new u5 _, (s5.mono (Nat.zero_le _)).below (below_alloc u5 _ _ (Nat.le_refl _))⟩
      have X1' := Lib.hid (X1.out.below hB5)
      clear X1
      have X1 := X1'
      clear X1'
      have X3' := Lib.hid (X3.out.below hB5)
      clear X3
      have X3 := X3'
      clear X3'
      have X4' := Lib.hid (X4.out.below hB5)
      clear X4
      have X4 := X4'
      clear X4'
      have T' := Lib.hid (T.out.below hB5)
      have HB' : Hid (Below w.heap.size w (u5.alloc (.cells #[.int .i64 1, .int .i64 1, .slice p5 1 c5] 27))) := HB.out.trans (hB5.mono HB.out.size)
      clear T HB
      have T := T'
      have HB := HB'
      clear T' HB' s5 f5 hB5
      go_wp2_with fail
      generalize (u5.alloc (.cells #[.int .i64 1, .int .i64 1, .slice p5 1 c5] 27)) = W5 at T HB X1 X3 X4 X5 ⊢
      refine (call_xorR T.out.a3 T5.out T6.out m31 m32).mono ?_
      rintro e u6 ⟨x6, rfl, ⟨p6, c6, rfl, s6⟩, f6⟩
      simp only [List.length_cons, List.length_nil] at s6 ⊢
      have hB6 : Below W5.heap.size W5 (u6.alloc (.cells #[.int .i64 1, .int .i64 1, .slice p6 1 c6] 27)) := ((f6) : Below W5.heap.size W5 u6).alloc ((f6) : Below W5.heap.size W5 u6).size _
      have X6 : Hid (BoxA (u6.alloc (.cells #[.int .i64 1, .int .i64 1, .slice p6 1 c6] 27)) u6.heap.size (truthsV xorF (arrs L3))) := ⟨p6, c6, heap_alloc_new u6 _, (s6.mono (Nat.zero_le _)).below (below_alloc u6 _ _ (Nat.le_refl _))⟩
      have X1' := Lib.hid (X1.out.below hB6)
      clear X1
      have X1 := X1'
      clear X1'
      have X3' := Lib.hid (X3.out.below hB6)
      clear X3
      have X3 := X3'
      clear X3'
      have X4' := Lib.hid (X4.out.below hB6)
      clear X4
      have X4 := X4'
      clear X4'
      have X5' := Lib.hid (X5.out.below hB6)
      clear X5
      have X5 := X5'
      clear X5'
      have T' := Lib.hid (T.out.below hB6)
      have HB' : Hid (Below w.heap.size w (u6.alloc (.cells #[.int .i64 1, .int .i64 1, .slice p6 1 c6] 27))) := HB.out.trans (hB6.mono HB.out.size)
      clear T HB
      have T := T'
      have HB := HB'
      clear T' HB' s6 f6 hB6
      go_wp2_with fail
      generalize (u6.alloc (.cells #[.int .i64 1, .int .i64 1, .slice p6 1 c6] 27)) = W6 at T HB X1 X3 X4 X5 X6 ⊢
      rw [← A1.out] at X3
      rw [A2.out] at X4
      rw [A3.out] at X5
      rw [A4.out, A2.out] at X6
      generalize truthsV andF (arrs L1) = vA at X1 X3 X5
      obtain ⟨pa, ca, ea, sa⟩ := X1.out
      obtain ⟨pb, cb, eb, sb⟩ := X3.out
      obtain ⟨pc, cc, ec, sc⟩ := X4.out
      obtain ⟨pd, cd, ed, sd⟩ := X5.out
      obtain ⟨pe, ce, ee, se⟩ := X6.out
      have xa := cell_of_heap ea
      have xb := cell_of_heap eb
      have xc := cell_of_heap ec
      have xd := cell_of_heap ed
      have xe := cell_of_heap ee
      have za := lt_of_heap ea
      have zb := lt_of_heap eb
      have zc := lt_of_heap ec
      have zd := lt_of_heap ed
      have ze := lt_of_heap ee
      have SA := Lib.hid sa
      have SB := Lib.hid sb
      have SC := Lib.hid sc
      have SD := Lib.hid sd
      have SE := Lib.hid se
      clear ea eb ec ed ee sa sb sc sd se X1 X3 X4 X5 X6 A1 A2 A3 A4 T T1 T2 T3 T4 T5 T6
      refine wp_region_multiR [([0, 1, 2, 3, 4, 5, 6, 7, 8, 9, 10, 11, 12, 13, 14, 15, 16, 17, 18], [19], [19, 20, 21, 22, 23, 24, 25, 26, 27, 28, 29, 30, 31, 32, 33, 34, 35, 36, 37]), ([20, 21, 23, 22], [24, 25], [25, 26, 27, 28, 29, 30, 31, 32, 33, 34, 35, 36, 37]), ([26, 27, 28, 29], [30], [30, 31, 32, 33, 34, 35, 36, 37]), ([31, 32, 33, 34], [35], [35, 36, 37]), ([36, 37], [], [])] (by kernel_rfl) (by kernel_rfl) ?_
      refine multi_phase (Below W6.heap.size W6) (Below.refl _ _).drew ?_
      iterate 19 (first | (apply first_step; (rw [List.getElem?_toArray]; (repeat rw [List.getElem?_cons_succ]); rw [List.getElem?_cons_zero]); rfl; (intro W hB; have hc := bcellB hB; go_simp; (first | done | rfl)); go_frame) | (apply first_skip; (rw [List.getElem?_toArray]; (repeat rw [List.getElem?_cons_succ]); rw [List.getElem?_cons_zero]); rfl; go_frame))
      refine first_done ?_
      apply forced_step; (rw [List.getElem?_toArray]; (repeat rw [List.getElem?_cons_succ]); rw [List.getElem?_cons_zero]); rfl; intro K hK; go_simp
      refine (same_yes ⟨1, 1, [vA]⟩ _ _ _ ⟨pa, ca, rfl, SA.out.below (Below.refl _ _).drew⟩ ⟨pb, cb, rfl, SB.out.below (Below.refl _ _).drew⟩ (by simp)).mono ?_
      rintro e' y1 ⟨rfl, g1⟩
      refine hK _ _ (fun h => absurd (by decide) h) ?_
      clear hK K
      refine forced_done ?_
      have G1 : Hid (Below W6.heap.size W6 y1) := (Below.refl _ W6).drew.trans g1
      clear g1
      refine multi_phase (Below W6.heap.size W6) G1.out ?_
      iterate 4 (first | (apply first_step; (rw [List.getElem?_toArray]; (repeat rw [List.getElem?_cons_succ]); rw [List.getElem?_cons_zero]); rfl; (intro W hB; have hc := bcellB hB; go_simp; (first | done | rfl)); go_frame) | (apply first_skip; (rw [List.getElem?_toArray]; (repeat rw [List.getElem?_cons_succ]); rw [List.getElem?_cons_zero]); rfl; go_frame))
      refine first_done ?_
      apply forced_step; (rw [List.getElem?_toArray]; (repeat rw [List.getElem?_cons_succ]); rw [List.getElem?_cons_zero]); rfl; intro K hK; go_simp
      refine (truth9_any od _).mono ?_
      rintro e' y2 ⟨x2, rfl, ⟨pt, ct, rfl, st⟩, g2⟩
      have G2 : Hid (Below W6.heap.size W6 y2) := G1.out.trans (g2.mono G1.out.size)
      refine hK _ _ (fun _ => G2.out) ?_
      clear hK K
      have ST := Lib.hid st
      clear st g2
      apply forced_step; (rw [List.getElem?_toArray]; (repeat rw [List.getElem?_cons_succ]); rw [List.getElem?_cons_zero]); rfl; intro K hK; go_simp
      refine (same_yes ⟨1, 1, [vTruth od]⟩ _ _ _ ⟨pc, cc, rfl, SC.out.below G2.out⟩ ⟨pt, ct, rfl, ST.out.mono (Nat.zero_le _)⟩ (by simp)).mono ?_
      rintro e' y3 ⟨rfl, g3⟩
      refine hK _ _ (fun h => absurd (by decide) h) ?_
      clear hK K
      refine forced_done ?_
      have G3 : Hid (Below W6.heap.size W6 y3) := G2.out.trans (g3.mono G2.out.size)
      clear g3
      refine multi_phase (Below W6.heap.size W6) G3.out ?_
      iterate 4 (first | (apply first_step; (rw [List.getElem?_toArray]; (repeat rw [List.getElem?_cons_succ]); rw [List.getElem?_cons_zero]); rfl; (intro W hB; have hc := bcellB hB; go_simp; (first | done | rfl)); go_frame) | (apply first_skip; (rw [List.getElem?_toArray]; (repeat rw [List.getElem?_cons_succ]); rw [List.getElem?_cons_zero]); rfl; go_frame))
      refine first_done ?_
      apply forced_step; (rw [List.getElem?_toArray]; (repeat rw [List.getElem?_cons_succ]); rw [List.getElem?_cons_zero]); rfl; intro K hK; go_simp
      refine (same_yes ⟨1, 1, [vA]⟩ _ _ _ ⟨pa, ca, rfl, SA.out.below G3.out⟩ ⟨pd, cd, rfl, SD.out.below G3.out⟩ (by simp)).mono ?_
      rintro e' y4 ⟨rfl, g4⟩
      refine hK _ _ (fun h => absurd (by decide) h) ?_
      clear hK K
      refine forced_done ?_
      have G4 : Hid (Below W6.heap.size W6 y4) := G3.out.trans (g4.mono G3.out.size)
      clear g4
      refine multi_phase (Below W6.heap.size W6) G4.out ?_
      iterate 4 (first | (apply first_step; (rw [List.getElem?_toArray]; (repeat rw [List.getElem?_cons_succ]); rw [List.getElem?_cons_zero]); rfl; (intro W hB; have hc := bcellB hB; go_simp; (first | done | rfl)); go_frame) | (apply first_skip; (rw [List.getElem?_toArray]; (repeat rw [List.getElem?_cons_succ]); rw [List.getElem?_cons_zero]); rfl; go_frame))
      refine first_done ?_
      apply forced_step; (rw [List.getElem?_toArray]; (repeat rw [List.getElem?_cons_succ]); rw [List.getElem?_cons_zero]); rfl; intro K hK; go_simp
      refine (same_yes ⟨1, 1, [vTruth od]⟩ _ _ _ ⟨pc, cc, rfl, SC.out.below G4.out⟩ ⟨pe, ce, rfl, SE.out.below G4.out⟩ (by simp)).mono ?_
      rintro e' y5 ⟨rfl, g5⟩
      refine hK _ _ (fun h => absurd (by decide) h) ?_
      clear hK K
      refine forced_done ?_
      have G5 : Hid (Below W6.heap.size W6 y5) := G4.out.trans (g5.mono G4.out.size)
      clear g5
      refine multi_phase (Below W6.heap.size W6) G5.out ?_
      iterate 2 (first | (apply first_step; (rw [List.getElem?_toArray]; (repeat rw [List.getElem?_cons_succ]); rw [List.getElem?_cons_zero]); rfl; (intro W hB; have hc := bcellB hB; go_simp; (first | done | rfl)); go_frame) | (apply first_skip; (rw [List.getElem?_toArray]; (repeat rw [List.getElem?_cons_succ]); rw [List.getElem?_cons_zero]); rfl; go_frame))
      refine first_done ?_
      refine forced_done ?_
      refine multi_done ?_
      go_wp2_with fail
      go_ret
      exact ⟨rfl, HB.out.trans (G5.out.mono HB.out.size)⟩
set_option maxHeartbeats 400000 in
theorem turns_none (a : Option Addr) (cap : Nat) (t : Int) (w : World) : Calls Try.prog 3 #[.slice a 0 cap, .int .u8 t] w fun e w' => e = .returned (.bool true) ∧ Below w.heap.size w w' := by
  go_enter Try.func3, Try.ntmps3
  go_wp2_with fail
  refine (awake_any _).mono ?_
  rintro e w1 ⟨rfl, f1⟩
  have F1 := Lib.hid f1
  clear f1
  go_wp2_with fail
  go_ret
  exact ⟨rfl, F1.out⟩
set_option maxHeartbeats 400000 in
theorem turns_long (a : Option Addr) (cap n : Nat) (t : Int) (w : World) (h : 20 < n) : Calls Try.prog 3 #[.slice a n cap, .int .u8 t] w fun e w' => e = .returned (.bool true) ∧ Below w.heap.size w w' := by
  have n0 : ((n : Int) == 0) = false := beq_eq_false_iff_ne.2 (by omega)
  go_enter Try.func3, Try.ntmps3
  go_wp2_with fail
  refine (awake_any _).mono ?_
  rintro e w1 ⟨rfl, f1⟩
  have F1 := Lib.hid f1
  clear f1
  go_wp2_with fail
  go_ret
  exact ⟨rfl, F1.out⟩
theorem turns_law (a : Option Addr) (cap : Nat) (l : List Bool) (t : Int) (w : World) (q1 : 0 ≤ t) (q2 : t ≤ 255) (hA : BoolsAt w a l) :
    Calls Try.prog 3 #[.slice a l.length cap, .int .u8 t] w fun e w' => e = .returned (.bool true) ∧ Below w.heap.size w w' := by
  by_cases h0 : l.length = 0
  · rw [h0]; exact turns_none a cap t w
  · by_cases h1 : 20 < l.length
    · exact turns_long a cap _ t w h1
    · exact turns_main a cap l t w q1 q2 (by omega) (by omega) hA
end Go.Proofs.Ytgbedjeiihigaaa
