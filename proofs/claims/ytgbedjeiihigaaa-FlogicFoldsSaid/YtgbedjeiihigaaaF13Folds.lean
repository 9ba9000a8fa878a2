/- FlogicFolds: the first loop. -/
import Derived.Test.YtgbedjeiihigaaaF13FoldsP
import Derived.Test.YtgbedjeiihigaaaF13Turn
namespace Go.Proofs.Ytgbedjeiihigaaa
open Go.RowKit
def FoldS (w1 : World) (l : List V) (k i : Nat) (v1 v2 : Value) (W : World) : Prop :=
  Below w1.heap.size w1 W ∧ FoldR w1.heap.size W v1 v2 (l.take i) (moreL l k i) ∧ ∀ v ∈ l.take i, refR v = true
set_option maxHeartbeats 2000000 in
set_option maxRecDepth 100000 in
theorem folds_main (a : Option Addr) (cap : Nat) (l : List V) (t : Int) (w : World) (q1 : 0 ≤ t) (q2 : t ≤ 255) (h1 : 1 ≤ l.length) (h2 : l.length ≤ 30) (hA : SlB 0 w a l) :
    Calls Try.prog 5 #[.slice a l.length cap, .int .u8 t] w fun e w' => e = .returned (.bool true) ∧ Below w.heap.size w w' := by
  have HSL := Lib.hid hA
  obtain ⟨b, off, rfl, hb⟩ : ∃ b off, a = some ⟨b, off, none⟩ ∧ b < w.heap.size := by
    obtain ⟨b, off, e, _, h, _⟩ := hA (by omega)
    exact ⟨b, off, e, h⟩
  have i1 : IntKind.i64.wrap t = t := IntWalk.i64_in _ (by omega)
  obtain ⟨k, hk⟩ : ∃ k : Nat, t % (l.length : Int) = (k : Int) := ⟨(t % (l.length : Int)).toNat, by have := Int.emod_nonneg t (b := (l.length : Int)) (by omega); omega⟩
  have hkl : k < l.length := by have := Int.emod_lt_of_pos t (b := (l.length : Int)) (by omega); omega
  have n0 : ((l.length : Int) == 0) = false := beq_eq_false_iff_ne.2 (by omega)
  clear hA
  go_enter Try.func5, Try.ntmps5
  go_wp2_with fail
  refine (awake_any _).mono ?_
  rintro e w1 ⟨rfl, f1⟩
  have F1 := Lib.hid f1
  have S1 : Hid (FoldS w1 l k 0 (.slice none 0 0) (.slice none 0 0) w1) := ⟨Below.refl _ _, FoldR.nil _ _, fun v hv => (by simp at hv)⟩
  clear f1
  go_wp2_with fail
  rw [hk]
  clear i1 hk n0
  obtain ⟨i0, hi, hz0, hz1, hz2⟩ := info_parts info27
  have HI := Lib.hid hi
  have HZ0 := Lib.hid hz0
  have HZ1 := Lib.hid hz1
  have HZ2 := Lib.hid hz2
  clear hi hz0 hz1 hz2
  obtain ⟨j0, hi, hz0, hz1, hz2⟩ := info_parts info36
  have JI := Lib.hid hi
  have JZ0 := Lib.hid hz0
  have JZ1 := Lib.hid hz1
  have JZ2 := Lib.hid hz2
  clear hi hz0 hz1 hz2
  go_loopw [5, 6, 8] (fun v1 v2 x wr => ∃ i : Nat, x = .int .i64 i ∧ i ≤ l.length ∧ Hid (FoldS w1 l k i v1 v2 wr)) (fun _ _ x _ => l.length - (intOf x).toNat)
  case atStart => exact ⟨0, rfl, Nat.zero_le _, S1⟩
  case round =>
    obtain ⟨i, rfl, hi, hS⟩ := hrel
    by_cases hlt : i < l.length
    · obtain ⟨v, hv⟩ : ∃ v, l[i]? = some v := ⟨_, List.getElem?_eq_getElem hlt⟩
      have hml : (moreL l k i).length ≤ 31 := by rw [moreL_len]; split <;> omega
      have hll : (l.take i).length ≤ 30 := by simp; omega
      have hgd : l.getD i vBlank = v := by simp [hv]
      have SN1 : Hid (l.take (i + 1) = l.take i ++ [v]) := take_snoc' hv
      have SN2 : Hid (moreL l k (i + 1) = moreL l k i ++ (if i = k then [vBlank] else []) ++ [v]) := by unfold Hid; rw [moreL, hgd]
      have NX : Hid (refR v = true → ∀ u ∈ l.take (i + 1), refR u = true) := fun h u hu => by
        rw [take_snoc' hv] at hu
        rcases List.mem_append.1 hu with hu | hu
        · exact hS.out.2.2 u hu
        · simp at hu; rw [hu]; exact h
      have HB0 : Hid (Below w1.heap.size w1 wr) := hS.out.1
      have T0 := Lib.hid hS.out.2.1
      have HCV := Lib.hid (fun (W : World) (hW : Below w.heap.size w W) => by
        have := (HSL.out.below hW).cells hv
        obtain ⟨b', off', e, r⟩ := this
        simp only [Option.some.injEq, Addr.mk.injEq, and_true] at e
        obtain ⟨rfl, rfl⟩ := e
        exact r)
      generalize l.take i = la at T0 SN1 hll
      generalize moreL l k i = lm at T0 SN2 hml
      obtain ⟨hbr, c0, c1, c2, c3, c4, c5⟩ := HCV.out wr (F1.out.trans (HB0.out.mono F1.out.size))
      have HR := Lib.hid (ref02_any v)
      have j1 : (0 : Int) ≤ (i : Int) := by omega
      have j2 : (i : Int) < (l.length : Int) := by omega
      clear hS hv hgd
      go_wp2_with fail
      refine (HR.out _).mono ?_
      rintro e w2 ⟨rfl, f2⟩
      have HB2 : Hid (Below w1.heap.size w1 w2) := HB0.out.trans (f2.mono HB0.out.size)
      have T2 := Lib.hid (T0.out.below f2)
      clear f2 c0 c1 c2 c3 c4 c5 hbr T0 HB0 HR
      cases hrv : refR v with
      | false =>
        clear NX hrv
        go_wp2_with fail
        go_ret
        exact ⟨rfl, F1.out.trans (HB2.out.mono F1.out.size)⟩
      | true =>
        have NN := Lib.hid (NX.out hrv)
        clear NX hrv
        obtain ⟨hbr, c0, c1, c2, c3, c4, c5⟩ := HCV.out w2 (F1.out.trans (HB2.out.mono F1.out.size))
        go_wp2_with fail
        refine (one_b v _).mono ?_
        rintro e u1 ⟨bb, rfl, hle, hx, fx⟩
        obtain ⟨r36, bs, he, hr, hc⟩ := T2.out.below fx
        have HX := Lib.hid hx
        have HX2 : Hid (_ ≠ some bb) := fun e => absurd (row36 T2.out.1 e).1 (by omega)
        have H36 := Lib.hid r36
        have HE := Lib.hid he
        have HRW := Lib.hid hr
        have HCC := Lib.hid hc
        have T3 := Lib.hid (T2.out.below fx)
        have HB3 : Hid (Below w1.heap.size w1 u1) := HB2.out.trans (fx.mono HB2.out.size)
        clear hx r36 he hr hc fx T2 hle c0 c1 c2 c3 c4 c5 hbr HB2
        have hmlB : (lm ++ [vBlank]).length ≤ 32 := by simp; omega
        by_cases hik : i = k
        · have t1 : ((i : Int) == (k : Int)) = true := by simp [hik]
          have SN3 : Hid (moreL l k (i + 1) = lm ++ [vBlank] ++ [v]) := by have := SN2.out; rw [if_pos hik] at this; exact this
          clear SN2 hik
          go_wp2_with (first | (at_builtin; refine wpList_append_own_at _ rfl _ _ 24 rfl w1.heap.size 27 i0 (.agg #[.int .i64 0, .int .i64 0, .slice none 0 0]) 3 40 Try.underlying24 HI.out HZ0.out HZ1.out HZ2.out rfl (by decide) _ _ _ rfl (HRW.out.alloc _) ⟨u1.heap.size, 0, none⟩ 1 1 (cell3 bb) rfl rfl (cells_new _ #[.int .i64 1, .int .i64 1, .slice (some ⟨bb, 0, none⟩) 1 1] 27) (by simp [cell3, Value.oneCell']) (by unfold maxLen; omega) (by omega) (by have := HB3.out.size; simp; omega) ?_; intro v1' y1 hown hgrow _ _; have hba := below_alloc u1 (.cells #[.int .i64 1, .int .i64 1, .slice (some ⟨bb, 0, none⟩) 1 1] 27) _ (Nat.le_refl _); have T4 := Lib.hid (FoldR.appA H36.out HE.out HRW.out HCC.out hba (heap_alloc_old HX.out _) HX2.out hown hgrow); have HY1 : Hid (Below w1.heap.size w1 y1) := HB3.out.trans (T3.out.belowA hba HB3.out.size hgrow); obtain ⟨hbr, c0, c1, c2, c3, c4, c5⟩ := HCV.out y1 (F1.out.trans (HY1.out.mono F1.out.size)); clear hown hgrow hba) | (at_builtin; refine wpList_append_own_at _ rfl _ _ 25 rfl w1.heap.size 36 j0 (vagg vBlank) 6 56 Try.underlying25 JI.out JZ0.out JZ1.out JZ2.out rfl (by decide) _ _ _ rfl (T5.out.1.alloc _) ⟨y2.heap.size, 0, none⟩ 1 1 (vcells v) rfl rfl (cells_new _ #[.int .i64 v.k, .int .i64 v.m, .int .i64 v.e, .string v.t, .bool v.b, .int .i64 v.f] 36) (by simp [vcells, Value.oneCell']) (by unfold maxLen; omega) (by omega) (by have := HY2.out.size; simp; omega) ?_; intro v3' y3 hown hgrow _ hloc; have hba := below_alloc y2 (.cells #[.int .i64 v.k, .int .i64 v.m, .int .i64 v.e, .string v.t, .bool v.b, .int .i64 v.f] 36) _ (Nat.le_refl _); have T6 := Lib.hid (T5.out.appM hba hown hgrow hloc); have HY3 : Hid (Below w1.heap.size w1 y3) := HY2.out.trans (T5.out.belowM hba HY2.out.size hgrow); clear c0 c1 c2 c3 c4 c5 hbr; obtain ⟨hbr, c0, c1, c2, c3, c4, c5⟩ := HCV.out y3 (F1.out.trans (HY3.out.mono F1.out.size)); clear hown hgrow hloc hba) | (at_builtin; refine wpList_append_own_at _ rfl _ _ 25 rfl w1.heap.size 36 j0 (vagg vBlank) 6 56 Try.underlying25 JI.out JZ0.out JZ1.out JZ2.out rfl (by decide) _ _ _ rfl (T4.out.1.alloc _) ⟨y1.heap.size, 0, none⟩ 1 1 (vcells vBlank) rfl rfl (cells_new _ #[.int .i64 0, .int .i64 0, .int .i64 0, .string ⟨#[]⟩, .bool false, .int .i64 0] 36) (by simp [vcells, Value.oneCell']) (by unfold maxLen; omega) (by omega) (by have := HY1.out.size; simp; omega) ?_; intro v2' y2 hown hgrow _ hloc; have hba := below_alloc y1 (.cells #[.int .i64 0, .int .i64 0, .int .i64 0, .string ⟨#[]⟩, .bool false, .int .i64 0] 36) _ (Nat.le_refl _); have T5 := Lib.hid (T4.out.appM hba hown hgrow hloc); have HY2 : Hid (Below w1.heap.size w1 y2) := HY1.out.trans (T4.out.belowM hba HY1.out.size hgrow); clear c0 c1 c2 c3 c4 c5 hbr; obtain ⟨hbr, c0, c1, c2, c3, c4, c5⟩ := HCV.out y2 (F1.out.trans (HY2.out.mono F1.out.size)); clear hown hgrow hloc hba))
          go_roundw
          case rel => exact ⟨i + 1, by go_num, by omega, HY3.out, by rw [SN1.out, SN3.out]; exact T6.out, NN.out⟩
          case measure => simp [intOf]; omega
        · have t1 : ((i : Int) == (k : Int)) = false := by simp; omega
          have SN3 : Hid (moreL l k (i + 1) = lm ++ [v]) := by have := SN2.out; rw [if_neg hik] at this; unfold Hid; simpa using this
          clear SN2 hik
          go_wp2_with (first | (at_builtin; refine wpList_append_own_at _ rfl _ _ 24 rfl w1.heap.size 27 i0 (.agg #[.int .i64 0, .int .i64 0, .slice none 0 0]) 3 40 Try.underlying24 HI.out HZ0.out HZ1.out HZ2.out rfl (by decide) _ _ _ rfl (HRW.out.alloc _) ⟨u1.heap.size, 0, none⟩ 1 1 (cell3 bb) rfl rfl (cells_new _ #[.int .i64 1, .int .i64 1, .slice (some ⟨bb, 0, none⟩) 1 1] 27) (by simp [cell3, Value.oneCell']) (by unfold maxLen; omega) (by omega) (by have := HB3.out.size; simp; omega) ?_; intro v1' y1 hown hgrow _ _; have hba := below_alloc u1 (.cells #[.int .i64 1, .int .i64 1, .slice (some ⟨bb, 0, none⟩) 1 1] 27) _ (Nat.le_refl _); have T4 := Lib.hid (FoldR.appA H36.out HE.out HRW.out HCC.out hba (heap_alloc_old HX.out _) HX2.out hown hgrow); have HY1 : Hid (Below w1.heap.size w1 y1) := HB3.out.trans (T3.out.belowA hba HB3.out.size hgrow); obtain ⟨hbr, c0, c1, c2, c3, c4, c5⟩ := HCV.out y1 (F1.out.trans (HY1.out.mono F1.out.size)); clear hown hgrow hba) | (at_builtin; refine wpList_append_own_at _ rfl _ _ 25 rfl w1.heap.size 36 j0 (vagg vBlank) 6 56 Try.underlying25 JI.out JZ0.out JZ1.out JZ2.out rfl (by decide) _ _ _ rfl (T4.out.1.alloc _) ⟨y1.heap.size, 0, none⟩ 1 1 (vcells v) rfl rfl (cells_new _ #[.int .i64 v.k, .int .i64 v.m, .int .i64 v.e, .string v.t, .bool v.b, .int .i64 v.f] 36) (by simp [vcells, Value.oneCell']) (by unfold maxLen; omega) (by omega) (by have := HY1.out.size; simp; omega) ?_; intro v3' y3 hown hgrow _ hloc; have hba := below_alloc y1 (.cells #[.int .i64 v.k, .int .i64 v.m, .int .i64 v.e, .string v.t, .bool v.b, .int .i64 v.f] 36) _ (Nat.le_refl _); have T6 := Lib.hid (T4.out.appM hba hown hgrow hloc); have HY3 : Hid (Below w1.heap.size w1 y3) := HY1.out.trans (T4.out.belowM hba HY1.out.size hgrow); clear c0 c1 c2 c3 c4 c5 hbr; obtain ⟨hbr, c0, c1, c2, c3, c4, c5⟩ := HCV.out y3 (F1.out.trans (HY3.out.mono F1.out.size)); clear hown hgrow hloc hba))
          go_roundw
          case rel => exact ⟨i + 1, by go_num, by omega, HY3.out, by rw [SN1.out, SN3.out]; exact T6.out, NN.out⟩
          case measure => simp [intOf]; omega
    · have e : i = l.length := by omega
      subst e
      unfold FoldS at hS
      rw [List.take_of_length_le (Nat.le_refl _)] at hS
      obtain ⟨hb0, hF, hAll⟩ := hS.out
      have AR0 := Lib.hid hF.arow
      obtain ⟨am, cm, e2, sm⟩ := own_slb hF.1
      obtain ⟨a1, cc1, e1⟩ := hF.arow.slice
      subst e1
      subst e2
      have FB : Hid (Below w.heap.size w wr) := F1.out.trans (hb0.mono F1.out.size)
      have FS := Lib.hid (fun fn => folds_same fn l k 1 l.length (moreL l k l.length).length 1)
      have TK : Hid (∀ v ∈ l, TOk v) := fun v hv => refR_tok (hAll v hv)
      have RK : Hid (∀ v ∈ l, RightOk v) := fun v hv => refR_right (hAll v hv)
      have TM : Hid (∀ v ∈ moreL l k l.length, TOk v) := fun v hv => by
        rcases moreL_mem (Nat.le_refl _) hv with h | h
        · rw [h]; exact tok_blank
        · exact TK.out v h
      have RM : Hid (∀ v ∈ moreL l k l.length, RightOk v) := fun v hv => by
        rcases moreL_mem (Nat.le_refl _) hv with h | h
        · rw [h]; exact rightOk_blank
        · exact RK.out v h
      have hlm : (moreL l k l.length).length = l.length + 1 := by rw [moreL_len, if_pos hkl]
      have OKL : Hid (ArrOk ⟨1, l.length, l⟩) := ⟨by simp, by simp; omega, by simp, by simp; omega, by simp, RK.out⟩
      have OKM : Hid (ArrOk ⟨(moreL l k l.length).length, 1, moreL l k l.length⟩) := ⟨by rw [hlm]; simp; omega, by simp, by rw [hlm]; simp; omega, by rw [hlm]; simp only; rw [Int.le_ediv_iff_mul_le (by omega)]; omega, by simp, RM.out⟩
      have SM0 := Lib.hid (sm.mono (Nat.zero_le _))
      have hl31 : (moreL l k l.length).length ≤ 31 := by omega
      generalize moreL l k l.length = lm at FS TM RM OKM SM0 hl31 ⊢
      clear hS hb0 hF hAll sm S1 hlm hi hlt HI HZ0 HZ1 HZ2 JI JZ0 JZ1 JZ2
      go_wp2_with fail
      obtain ⟨W0, hW0⟩ : ∃ W0 : World, W0 = wr := ⟨_, rfl⟩
      rw [← hW0] at AR0 SM0 FB ⊢
      go_loopw [9] (fun x wq => ∃ j : Nat, x = .int .i64 j ∧ j ≤ 3 ∧ Hid (Below W0.heap.size W0 wq)) (fun x _ => 3 - (intOf x).toNat)
      case atStart => exact ⟨0, rfl, by omega, by rw [hW0]; exact Below.refl _ _⟩
      case round =>
        obtain ⟨j, rfl, hj, hq⟩ := hrel
        clear hW0
        by_cases hj3 : j < 3
        · have AR := Lib.hid (AR0.out.below hq.out)
          have SM := Lib.hid (SM0.out.below hq.out)
          have SL := Lib.hid (HSL.out.below (FB.out.trans (hq.out.mono FB.out.size)))
          match j, hj3 with
          | 0, _ =>
          go_wp2_with fail
          have hbA := below_alloc wr (.cells #[.string ⟨#[65, 78, 68]⟩, .string ⟨#[79, 82]⟩, .string ⟨#[88, 79, 82]⟩] 9) _ (Nat.le_refl _)
          have key := call_andR (AR.out.below hbA) TK.out RK.out h1 (by omega)
          refine key.mono ?_
          clear key
          rintro e u1 ⟨y1, rfl, ⟨p1, c1, rfl, s1⟩, f1⟩
          simp only [List.length_cons, List.length_nil] at s1 ⊢
          have hb1 := (hbA.trans (f1.mono hbA.size)).alloc (o := .cells #[.int .i64 1, .int .i64 1, .slice p1 1 c1] 27) (hbA.trans (f1.mono hbA.size)).size
          have X1 : Hid (BoxA (u1.alloc (.cells #[.int .i64 1, .int .i64 1, .slice p1 1 c1] 27)) u1.heap.size (truthsV andF (arrs l))) := ⟨p1, c1, heap_alloc_new u1 _, (s1.mono (Nat.zero_le _)).below (below_alloc u1 _ _ (Nat.le_refl _))⟩
          have HB1 := Lib.hid hb1
          have hz1 : (u1.alloc (.cells #[.int .i64 1, .int .i64 1, .slice p1 1 c1] 27)).heap.size = u1.heap.size + 1 := World.size_alloc _ _
          have HZA := Lib.hid hz1
          clear hbA s1 f1 hb1 hz1
          go_wp2_with fail
          generalize (u1.alloc (.cells #[.int .i64 1, .int .i64 1, .slice p1 1 c1] 27)) = W1 at X1 HB1 HZA ⊢
          have hbB := below_alloc W1 (.cells #[.int .i64 1, .int .i64 l.length, .slice (some ⟨b, off, none⟩) l.length cap] 27) _ (Nat.le_refl _)
          have key := call_and [⟨1, l.length, l⟩] (by simp) (by simp) (fun A hA v hv => by rw [List.mem_singleton.1 hA] at hv; exact TK.out v hv) (fun A hA => by rw [List.mem_singleton.1 hA]; exact OKL.out) (by simp [allV]; omega) _ 1 _ (args_one (A1 := ⟨1, l.length, l⟩) (c1 := cap) (heap_alloc_new W1 _) ((SL.out.below HB1.out).below hbB))
          rw [HZA.out] at key
          refine key.mono ?_
          clear key
          rintro e u2 ⟨y2, rfl, ⟨p2, c2, rfl, s2⟩, f2⟩
          simp only [List.length_cons, List.length_nil] at s2 ⊢
          have hb2 := (hbB.trans (f2.mono hbB.size)).alloc (o := .cells #[.int .i64 1, .int .i64 1, .slice p2 1 c2] 27) (hbB.trans (f2.mono hbB.size)).size
          have X2 : Hid (BoxA (u2.alloc (.cells #[.int .i64 1, .int .i64 1, .slice p2 1 c2] 27)) u2.heap.size (truthsV andF [⟨1, l.length, l⟩])) := ⟨p2, c2, heap_alloc_new u2 _, (s2.mono (Nat.zero_le _)).below (below_alloc u2 _ _ (Nat.le_refl _))⟩
          have X1' := Lib.hid (X1.out.below hb2)
          have HB2 := Lib.hid (HB1.out.trans (hb2.mono HB1.out.size))
          have hz2 : (u2.alloc (.cells #[.int .i64 1, .int .i64 1, .slice p2 1 c2] 27)).heap.size = u2.heap.size + 1 := World.size_alloc _ _
          have HZB := Lib.hid hz2
          clear hbB s2 f2 hb2 hz2 X1 HB1 HZA
          go_wp2_with fail
          generalize (u2.alloc (.cells #[.int .i64 1, .int .i64 1, .slice p2 1 c2] 27)) = W2 at X1' X2 HB2 HZB ⊢
          have hbC := below_alloc W2 (.cells #[.int .i64 lm.length, .int .i64 1, .slice am lm.length cm] 27) _ (Nat.le_refl _)
          have key := call_and [⟨lm.length, 1, lm⟩] (by simp) (by simp) (fun A hA v hv => by rw [List.mem_singleton.1 hA] at hv; exact TM.out v hv) (fun A hA => by rw [List.mem_singleton.1 hA]; exact OKM.out) (by simp [allV]; omega) _ 1 _ (args_one (A1 := ⟨lm.length, 1, lm⟩) (c1 := cm) (heap_alloc_new W2 _) ((SM.out.below HB2.out).below hbC))
          rw [HZB.out] at key
          refine key.mono ?_
          clear key
          rintro e u3 ⟨y3, rfl, ⟨p3, c3, rfl, s3⟩, f3⟩
          simp only [List.length_cons, List.length_nil] at s3 ⊢
          have hb3 := (hbC.trans (f3.mono hbC.size)).alloc (o := .cells #[.int .i64 1, .int .i64 1, .slice p3 1 c3] 27) (hbC.trans (f3.mono hbC.size)).size
          have X3 : Hid (BoxA (u3.alloc (.cells #[.int .i64 1, .int .i64 1, .slice p3 1 c3] 27)) u3.heap.size (truthsV andF [⟨lm.length, 1, lm⟩])) := ⟨p3, c3, heap_alloc_new u3 _, (s3.mono (Nat.zero_le _)).below (below_alloc u3 _ _ (Nat.le_refl _))⟩
          have X1 := Lib.hid (X1'.out.below hb3)
          have X2' := Lib.hid (X2.out.below hb3)
          have HB3 := Lib.hid (HB2.out.trans (hb3.mono HB2.out.size))
          have EQ := FS.out andF
          rw [← EQ.1] at X2'
          rw [← EQ.2] at X3
          generalize truthsV andF (arrs l) = vA at X1 X2' X3
          obtain ⟨O3, hO3⟩ : ∃ O3, O3 = (u3.alloc (.cells #[.int .i64 1, .int .i64 1, .slice p3 1 c3] 27)) := ⟨_, rfl⟩
          rw [← hO3] at X1 X2' X3 HB3
          obtain ⟨pa, ca, ea, sa⟩ := X1.out
          obtain ⟨pb, cb, eb, sb⟩ := X2'.out
          obtain ⟨pc, cc, ec, sc⟩ := X3.out
          have ea' := ea
          have eb' := eb
          rw [hO3] at ea' eb' ec
          have xa := cell_of_heap ea'
          have xb := cell_of_heap eb'
          have za := lt_of_heap ea'
          have zb := lt_of_heap eb'
          have hcc : pc = p3 ∧ cc = c3 := by
            have := ec.symm.trans (heap_alloc_new u3 _)
            simpa using this
          obtain ⟨rfl, rfl⟩ := hcc
          have EA := Lib.hid ea
          have EC : Hid (O3.heap[u3.heap.size]? = some (.cells #[.int .i64 1, .int .i64 1, .slice pc 1 cc] 27)) := by rw [hO3]; exact heap_alloc_new u3 _
          have SA := Lib.hid sa
          have SB := Lib.hid sb
          have SC := Lib.hid sc
          have HO3 := Lib.hid hO3
          clear hbC f3 s3 hb3 X1' X2 X2' X1 X3 HB2 HZB EQ ea eb ec ea' eb' sa sb sc hO3
          go_wp2_with fail
          rw [← HO3.out]
          refine (same_yes ⟨1, 1, [vA]⟩ _ _ O3 ⟨pa, ca, rfl, SA.out⟩ ⟨pb, cb, rfl, SB.out⟩ (by simp)).mono ?_
          rintro e u5 ⟨rfl, f5⟩
          have e5 := (f5.block _ (lt_of_heap EA.out)).trans EA.out
          have g5 := (f5.block _ (lt_of_heap EC.out)).trans EC.out
          have x5 := cell_of_heap e5
          have y5 := cell_of_heap g5
          have z5 := lt_of_heap e5
          have zz5 := lt_of_heap g5
          have HB5 := Lib.hid (HB3.out.trans (f5.mono HB3.out.size))
          have SA5 := Lib.hid (SA.out.below f5)
          have SC5 := Lib.hid (SC.out.below f5)
          clear f5 e5 g5 xa xb za zb SA SB SC EA EC HB3 HO3
          go_wp2_with fail
          refine (same_yes ⟨1, 1, [vA]⟩ _ _ u5 ⟨pa, ca, rfl, SA5.out⟩ ⟨pc, cc, rfl, SC5.out⟩ (by simp)).mono ?_
          rintro e u6 ⟨rfl, f6⟩
          have HB6 := Lib.hid (HB5.out.trans (f6.mono HB5.out.size))
          clear f6 x5 y5 z5 zz5 SA5 SC5 HB5
          go_wp2_with fail
          go_roundw
          case rel => exact ⟨0 + 1, by go_num, by omega, hq.out.trans (HB6.out.mono hq.out.size)⟩
          case measure => simp [intOf]
          | 1, _ =>
          go_wp2_with fail
          have hbA := below_alloc wr (.cells #[.string ⟨#[65, 78, 68]⟩, .string ⟨#[79, 82]⟩, .string ⟨#[88, 79, 82]⟩] 9) _ (Nat.le_refl _)
          have key := call_orR (AR.out.below hbA) TK.out RK.out h1 (by omega)
          refine key.mono ?_
          clear key
          rintro e u1 ⟨y1, rfl, ⟨p1, c1, rfl, s1⟩, f1⟩
          simp only [List.length_cons, List.length_nil] at s1 ⊢
          have hb1 := (hbA.trans (f1.mono hbA.size)).alloc (o := .cells #[.int .i64 1, .int .i64 1, .slice p1 1 c1] 27) (hbA.trans (f1.mono hbA.size)).size
          have X1 : Hid (BoxA (u1.alloc (.cells #[.int .i64 1, .int .i64 1, .slice p1 1 c1] 27)) u1.heap.size (truthsV orF (arrs l))) := ⟨p1, c1, heap_alloc_new u1 _, (s1.mono (Nat.zero_le _)).below (below_alloc u1 _ _ (Nat.le_refl _))⟩
          have HB1 := Lib.hid hb1
          have hz1 : (u1.alloc (.cells #[.int .i64 1, .int .i64 1, .slice p1 1 c1] 27)).heap.size = u1.heap.size + 1 := World.size_alloc _ _
          have HZA := Lib.hid hz1
          clear hbA s1 f1 hb1 hz1
          go_wp2_with fail
          generalize (u1.alloc (.cells #[.int .i64 1, .int .i64 1, .slice p1 1 c1] 27)) = W1 at X1 HB1 HZA ⊢
          have hbB := below_alloc W1 (.cells #[.int .i64 1, .int .i64 l.length, .slice (some ⟨b, off, none⟩) l.length cap] 27) _ (Nat.le_refl _)
          have key := call_or [⟨1, l.length, l⟩] (by simp) (by simp) (fun A hA v hv => by rw [List.mem_singleton.1 hA] at hv; exact TK.out v hv) (fun A hA => by rw [List.mem_singleton.1 hA]; exact OKL.out) (by simp [allV]; omega) _ 1 _ (args_one (A1 := ⟨1, l.length, l⟩) (c1 := cap) (heap_alloc_new W1 _) ((SL.out.below HB1.out).below hbB))
          rw [HZA.out] at key
          refine key.mono ?_
          clear key
          rintro e u2 ⟨y2, rfl, ⟨p2, c2, rfl, s2⟩, f2⟩
          simp only [List.length_cons, List.length_nil] at s2 ⊢
          have hb2 := (hbB.trans (f2.mono hbB.size)).alloc (o := .cells #[.int .i64 1, .int .i64 1, .slice p2 1 c2] 27) (hbB.trans (f2.mono hbB.size)).size
          have X2 : Hid (BoxA (u2.alloc (.cells #[.int .i64 1, .int .i64 1, .slice p2 1 c2] 27)) u2.heap.size (truthsV orF [⟨1, l.length, l⟩])) := ⟨p2, c2, heap_alloc_new u2 _, (s2.mono (Nat.zero_le _)).below (below_alloc u2 _ _ (Nat.le_refl _))⟩
          have X1' := Lib.hid (X1.out.below hb2)
          have HB2 := Lib.hid (HB1.out.trans (hb2.mono HB1.out.size))
          have hz2 : (u2.alloc (.cells #[.int .i64 1, .int .i64 1, .slice p2 1 c2] 27)).heap.size = u2.heap.size + 1 := World.size_alloc _ _
          have HZB := Lib.hid hz2
          clear hbB s2 f2 hb2 hz2 X1 HB1 HZA
          go_wp2_with fail
          generalize (u2.alloc (.cells #[.int .i64 1, .int .i64 1, .slice p2 1 c2] 27)) = W2 at X1' X2 HB2 HZB ⊢
          have hbC := below_alloc W2 (.cells #[.int .i64 lm.length, .int .i64 1, .slice am lm.length cm] 27) _ (Nat.le_refl _)
          have key := call_or [⟨lm.length, 1, lm⟩] (by simp) (by simp) (fun A hA v hv => by rw [List.mem_singleton.1 hA] at hv; exact TM.out v hv) (fun A hA => by rw [List.mem_singleton.1 hA]; exact OKM.out) (by simp [allV]; omega) _ 1 _ (args_one (A1 := ⟨lm.length, 1, lm⟩) (c1 := cm) (heap_alloc_new W2 _) ((SM.out.below HB2.out).below hbC))
          rw [HZB.out] at key
          refine key.mono ?_
          clear key
          rintro e u3 ⟨y3, rfl, ⟨p3, c3, rfl, s3⟩, f3⟩
          simp only [List.length_cons, List.length_nil] at s3 ⊢
          have hb3 := (hbC.trans (f3.mono hbC.size)).alloc (o := .cells #[.int .i64 1, .int .i64 1, .slice p3 1 c3] 27) (hbC.trans (f3.mono hbC.size)).size
          have X3 : Hid (BoxA (u3.alloc (.cells #[.int .i64 1, .int .i64 1, .slice p3 1 c3] 27)) u3.heap.size (truthsV orF [⟨lm.length, 1, lm⟩])) := ⟨p3, c3, heap_alloc_new u3 _, (s3.mono (Nat.zero_le _)).below (below_alloc u3 _ _ (Nat.le_refl _))⟩
          have X1 := Lib.hid (X1'.out.below hb3)
          have X2' := Lib.hid (X2.out.below hb3)
          have HB3 := Lib.hid (HB2.out.trans (hb3.mono HB2.out.size))
          have EQ := FS.out orF
          rw [← EQ.1] at X2'
          rw [← EQ.2] at X3
          generalize truthsV orF (arrs l) = vA at X1 X2' X3
          obtain ⟨O3, hO3⟩ : ∃ O3, O3 = (u3.alloc (.cells #[.int .i64 1, .int .i64 1, .slice p3 1 c3] 27)) := ⟨_, rfl⟩
          rw [← hO3] at X1 X2' X3 HB3
          obtain ⟨pa, ca, ea, sa⟩ := X1.out
          obtain ⟨pb, cb, eb, sb⟩ := X2'.out
          obtain ⟨pc, cc, ec, sc⟩ := X3.out
          have ea' := ea
          have eb' := eb
          rw [hO3] at ea' eb' ec
          have xa := cell_of_heap ea'
          have xb := cell_of_heap eb'
          have za := lt_of_heap ea'
          have zb := lt_of_heap eb'
          have hcc : pc = p3 ∧ cc = c3 := by
            have := ec.symm.trans (heap_alloc_new u3 _)
            simpa using this
          obtain ⟨rfl, rfl⟩ := hcc
          have EA := Lib.hid ea
          have EC : Hid (O3.heap[u3.heap.size]? = some (.cells #[.int .i64 1, .int .i64 1, .slice pc 1 cc] 27)) := by rw [hO3]; exact heap_alloc_new u3 _
          have SA := Lib.hid sa
          have SB := Lib.hid sb
          have SC := Lib.hid sc
          have HO3 := Lib.hid hO3
          clear hbC f3 s3 hb3 X1' X2 X2' X1 X3 HB2 HZB EQ ea eb ec ea' eb' sa sb sc hO3
          go_wp2_with fail
          rw [← HO3.out]
          refine (same_yes ⟨1, 1, [vA]⟩ _ _ O3 ⟨pa, ca, rfl, SA.out⟩ ⟨pb, cb, rfl, SB.out⟩ (by simp)).mono ?_
          rintro e u5 ⟨rfl, f5⟩
          have e5 := (f5.block _ (lt_of_heap EA.out)).trans EA.out
          have g5 := (f5.block _ (lt_of_heap EC.out)).trans EC.out
          have x5 := cell_of_heap e5
          have y5 := cell_of_heap g5
          have z5 := lt_of_heap e5
          have zz5 := lt_of_heap g5
          have HB5 := Lib.hid (HB3.out.trans (f5.mono HB3.out.size))
          have SA5 := Lib.hid (SA.out.below f5)
          have SC5 := Lib.hid (SC.out.below f5)
          clear f5 e5 g5 xa xb za zb SA SB SC EA EC HB3 HO3
          go_wp2_with fail
          refine (same_yes ⟨1, 1, [vA]⟩ _ _ u5 ⟨pa, ca, rfl, SA5.out⟩ ⟨pc, cc, rfl, SC5.out⟩ (by simp)).mono ?_
          rintro e u6 ⟨rfl, f6⟩
          have HB6 := Lib.hid (HB5.out.trans (f6.mono HB5.out.size))
          clear f6 x5 y5 z5 zz5 SA5 SC5 HB5
          go_wp2_with fail
          go_roundw
          case rel => exact ⟨1 + 1, by go_num, by omega, hq.out.trans (HB6.out.mono hq.out.size)⟩
          case measure => simp [intOf]
          | 2, _ =>
          go_wp2_with fail
          have hbA := below_alloc wr (.cells #[.string ⟨#[65, 78, 68]⟩, .string ⟨#[79, 82]⟩, .string ⟨#[88, 79, 82]⟩] 9) _ (Nat.le_refl _)
          have key := call_xorR (AR.out.below hbA) TK.out RK.out h1 (by omega)
          refine key.mono ?_
          clear key
          rintro e u1 ⟨y1, rfl, ⟨p1, c1, rfl, s1⟩, f1⟩
          simp only [List.length_cons, List.length_nil] at s1 ⊢
          have hb1 := (hbA.trans (f1.mono hbA.size)).alloc (o := .cells #[.int .i64 1, .int .i64 1, .slice p1 1 c1] 27) (hbA.trans (f1.mono hbA.size)).size
          have X1 : Hid (BoxA (u1.alloc (.cells #[.int .i64 1, .int .i64 1, .slice p1 1 c1] 27)) u1.heap.size (truthsV xorF (arrs l))) := ⟨p1, c1, heap_alloc_new u1 _, (s1.mono (Nat.zero_le _)).below (below_alloc u1 _ _ (Nat.le_refl _))⟩
          have HB1 := Lib.hid hb1
          have hz1 : (u1.alloc (.cells #[.int .i64 1, .int .i64 1, .slice p1 1 c1] 27)).heap.size = u1.heap.size + 1 := World.size_alloc _ _
          have HZA := Lib.hid hz1
          clear hbA s1 f1 hb1 hz1
          go_wp2_with fail
          generalize (u1.alloc (.cells #[.int .i64 1, .int .i64 1, .slice p1 1 c1] 27)) = W1 at X1 HB1 HZA ⊢
          have hbB := below_alloc W1 (.cells #[.int .i64 1, .int .i64 l.length, .slice (some ⟨b, off, none⟩) l.length cap] 27) _ (Nat.le_refl _)
          have key := call_xor [⟨1, l.length, l⟩] (by simp) (by simp) (fun A hA v hv => by rw [List.mem_singleton.1 hA] at hv; exact TK.out v hv) (fun A hA => by rw [List.mem_singleton.1 hA]; exact OKL.out) (by simp [allV]; omega) _ 1 _ (args_one (A1 := ⟨1, l.length, l⟩) (c1 := cap) (heap_alloc_new W1 _) ((SL.out.below HB1.out).below hbB))
          rw [HZA.out] at key
          refine key.mono ?_
          clear key
          rintro e u2 ⟨y2, rfl, ⟨p2, c2, rfl, s2⟩, f2⟩
          simp only [List.length_cons, List.length_nil] at s2 ⊢
          have hb2 := (hbB.trans (f2.mono hbB.size)).alloc (o := .cells #[.int .i64 1, .int .i64 1, .slice p2 1 c2] 27) (hbB.trans (f2.mono hbB.size)).size
          have X2 : Hid (BoxA (u2.alloc (.cells #[.int .i64 1, .int .i64 1, .slice p2 1 c2] 27)) u2.heap.size (truthsV xorF [⟨1, l.length, l⟩])) := ⟨p2, c2, heap_alloc_new u2 _, (s2.mono (Nat.zero_le _)).below (below_alloc u2 _ _ (Nat.le_refl _))⟩
          have X1' := Lib.hid (X1.out.below hb2)
          have HB2 := Lib.hid (HB1.out.trans (hb2.mono HB1.out.size))
          have hz2 : (u2.alloc (.cells #[.int .i64 1, .int .i64 1, .slice p2 1 c2] 27)).heap.size = u2.heap.size + 1 := World.size_alloc _ _
          have HZB := Lib.hid hz2
          clear hbB s2 f2 hb2 hz2 X1 HB1 HZA
          go_wp2_with fail
          generalize (u2.alloc (.cells #[.int .i64 1, .int .i64 1, .slice p2 1 c2] 27)) = W2 at X1' X2 HB2 HZB ⊢
          have hbC := below_alloc W2 (.cells #[.int .i64 lm.length, .int .i64 1, .slice am lm.length cm] 27) _ (Nat.le_refl _)
          have key := call_xor [⟨lm.length, 1, lm⟩] (by simp) (by simp) (fun A hA v hv => by rw [List.mem_singleton.1 hA] at hv; exact TM.out v hv) (fun A hA => by rw [List.mem_singleton.1 hA]; exact OKM.out) (by simp [allV]; omega) _ 1 _ (args_one (A1 := ⟨lm.length, 1, lm⟩) (c1 := cm) (heap_alloc_new W2 _) ((SM.out.below HB2.out).below hbC))
          rw [HZB.out] at key
          refine key.mono ?_
          clear key
          rintro e u3 ⟨y3, rfl, ⟨p3, c3, rfl, s3⟩, f3⟩
          simp only [List.length_cons, List.length_nil] at s3 ⊢
          have hb3 := (hbC.trans (f3.mono hbC.size)).alloc (o := .cells #[.int .i64 1, .int .i64 1, .slice p3 1 c3] 27) (hbC.trans (f3.mono hbC.size)).size
          have X3 : Hid (BoxA (u3.alloc (.cells #[.int .i64 1, .int .i64 1, .slice p3 1 c3] 27)) u3.heap.size (truthsV xorF [⟨lm.length, 1, lm⟩])) := ⟨p3, c3, heap_alloc_new u3 _, (s3.mono (Nat.zero_le _)).below (below_alloc u3 _ _ (Nat.le_refl _))⟩
          have X1 := Lib.hid (X1'.out.below hb3)
          have X2' := Lib.hid (X2.out.below hb3)
          have HB3 := Lib.hid (HB2.out.trans (hb3.mono HB2.out.size))
          have EQ := FS.out xorF
          rw [← EQ.1] at X2'
          rw [← EQ.2] at X3
          generalize truthsV xorF (arrs l) = vA at X1 X2' X3
          obtain ⟨O3, hO3⟩ : ∃ O3, O3 = (u3.alloc (.cells #[.int .i64 1, .int .i64 1, .slice p3 1 c3] 27)) := ⟨_, rfl⟩
          rw [← hO3] at X1 X2' X3 HB3
          obtain ⟨pa, ca, ea, sa⟩ := X1.out
          obtain ⟨pb, cb, eb, sb⟩ := X2'.out
          obtain ⟨pc, cc, ec, sc⟩ := X3.out
          have ea' := ea
          have eb' := eb
          rw [hO3] at ea' eb' ec
          have xa := cell_of_heap ea'
          have xb := cell_of_heap eb'
          have za := lt_of_heap ea'
          have zb := lt_of_heap eb'
          have hcc : pc = p3 ∧ cc = c3 := by
            have := ec.symm.trans (heap_alloc_new u3 _)
            simpa using this
          obtain ⟨rfl, rfl⟩ := hcc
          have EA := Lib.hid ea
          have EC : Hid (O3.heap[u3.heap.size]? = some (.cells #[.int .i64 1, .int .i64 1, .slice pc 1 cc] 27)) := by rw [hO3]; exact heap_alloc_new u3 _
          have SA := Lib.hid sa
          have SB := Lib.hid sb
          have SC := Lib.hid sc
          have HO3 := Lib.hid hO3
          clear hbC f3 s3 hb3 X1' X2 X2' X1 X3 HB2 HZB EQ ea eb ec ea' eb' sa sb sc hO3
          go_wp2_with fail
          rw [← HO3.out]
          refine (same_yes ⟨1, 1, [vA]⟩ _ _ O3 ⟨pa, ca, rfl, SA.out⟩ ⟨pb, cb, rfl, SB.out⟩ (by simp)).mono ?_
          rintro e u5 ⟨rfl, f5⟩
          have e5 := (f5.block _ (lt_of_heap EA.out)).trans EA.out
          have g5 := (f5.block _ (lt_of_heap EC.out)).trans EC.out
          have x5 := cell_of_heap e5
          have y5 := cell_of_heap g5
          have z5 := lt_of_heap e5
          have zz5 := lt_of_heap g5
          have HB5 := Lib.hid (HB3.out.trans (f5.mono HB3.out.size))
          have SA5 := Lib.hid (SA.out.below f5)
          have SC5 := Lib.hid (SC.out.below f5)
          clear f5 e5 g5 xa xb za zb SA SB SC EA EC HB3 HO3
          go_wp2_with fail
          refine (same_yes ⟨1, 1, [vA]⟩ _ _ u5 ⟨pa, ca, rfl, SA5.out⟩ ⟨pc, cc, rfl, SC5.out⟩ (by simp)).mono ?_
          rintro e u6 ⟨rfl, f6⟩
          have HB6 := Lib.hid (HB5.out.trans (f6.mono HB5.out.size))
          clear f6 x5 y5 z5 zz5 SA5 SC5 HB5
          go_wp2_with fail
          go_roundw
          case rel => exact ⟨2 + 1, by go_num, by omega, hq.out.trans (HB6.out.mono hq.out.size)⟩
          case measure => simp [intOf]
        · go_wp2_with fail
          go_ret
          exact ⟨rfl, FB.out.trans (hq.out.mono FB.out.size)⟩
end Go.Proofs.Ytgbedjeiihigaaa
