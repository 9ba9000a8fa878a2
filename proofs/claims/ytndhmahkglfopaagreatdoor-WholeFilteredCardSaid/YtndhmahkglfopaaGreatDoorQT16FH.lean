/- num.Make at small whole numbers; counted's function; COUNTIF. -/
import Derived.Test.YtndhmahkglfopaaGreatDoorQT16P
import Derived.Test.YtndhmahkglfopaaGreatDoorQT13R09
import Derived.Test.YtndhmahkglfopaaGreatDoorQT16DE
import Derived.Test.YtndhmahkglfopaaGreatDoorQT16FF
namespace Go.Proofs.YtndhmahkglfopaaGreatDoor
open Go.RowKit
theorem digs_rdg : ∀ (k n : Nat), n ≤ k → n ≠ 0 → digs n = rdg n
  | 0, n, h, h0 => by omega
  | k + 1, n, h, h0 => by
    by_cases h10 : n < 10
    · rw [digs1 h10, rdg_pos h0, show n / 10 = 0 by omega, rdg_zero, show n % 10 = n by omega]
      rfl
    · have ih := digs_rdg k (n / 10) (by omega) (by omega)
      rw [rdg_pos h0, ← ih]
      unfold digs
      rw [Lib.decDigits, dif_neg h10, List.map_append]
      simp [UInt8.toNat_ofNat']
      omega
theorem digs_cDig (k : Nat) : digs k = cDig k := by
  unfold cDig
  by_cases h : k = 0
  · subst h
    exact digs1 (by omega)
  · rw [if_neg (by omega), Int.natAbs_natCast]
    exact digs_rdg k k (Nat.le_refl _) h
theorem round_cDig {d : Int} (h : Small d) : roundP (decide (d < 0)) (cDig d) 0 = ((mkM d, mkX d), true) := by
  unfold cDig mkM mkX
  by_cases h0 : d = 0
  · simp only [h0, if_true]
    unfold roundP
    simp [bareP]
  · have hr := mk_right h
    unfold mkM mkX at hr
    simp only [h0, if_false] at hr ⊢
    exact round_rdg _ (by omega) h hr
theorem small_nat {k : Nat} (h : k ≤ 4096) : Small (k : Int) := by
  unfold Small
  omega
section
variable (w : World)
set_option maxHeartbeats 4000000
set_option maxRecDepth 100000
theorem make285_any (k : Nat) (h : k ≤ 4096) (ht : Tab w) : Calls Tryz.prog 285 #[.int .i64 k, .int .i64 0] w fun e w' => e = .returned (.tuple #[.agg #[.int .i64 (mkM k), .int .i64 (mkX k)], .bool true]) ∧ Below w.heap.size w w' := by
  have HZ := Lib.hid (fun w => size_all (k : Int) (by unfold I64; omega) w)
  rw [Int.natAbs_natCast] at HZ
  have HD := Lib.hid (fun w ht => digitsOf_any k (by omega) w ht)
  have hr := round_cDig (small_nat h)
  rw [decide_eq_false (show ¬ (k : Int) < 0 by omega), ← digs_cDig] at hr
  have HS := Lib.hid (digs_small k)
  have HL : Hid (0 < (digs k).length ∧ (digs k).length ≤ 100) := by
    unfold Hid
    rw [digs_len]
    have := dec_pos k
    have := dec_le k (by omega)
    omega
  have HT := Lib.hid ht
  have HRR := Lib.hid hr
  have d0 : decide ((k : Int) < 0) = false := decide_eq_false (by omega)
  generalize digs k = D at HD HS HL HRR
  generalize mkM k = M at HRR ⊢
  generalize mkX k = X at HRR ⊢
  clear h hr ht
  go_enter Tryz.func285, Tryz.ntmps285
  go_wp2_with fail
  refine (HZ.out _).mono ?_
  rintro e w1 ⟨rfl, rfl⟩
  clear HZ
  go_wp2_with fail
  refine (HD.out _ (HT.out.below (by (repeat with_reducible (first | exact bw0 _ _ | exact hBW | refine bw1 ?_ ?_ _ | refine bw2 ?_ ?_ _ | refine bw3 ?_ _ | refine bw4 ?_)); all_goals (first | omega | (dsimp only; omega) | ((repeat with_reducible (first | refine lz1 ?_ | refine lz2 ?_ | refine lz3 ?_ | refine lz4 ?_)); omega))))).mono ?_
  rintro e w2 ⟨v, rfl, hrow, hb2⟩
  obtain ⟨b, cap, rfl, hDG⟩ := dgs_of_own hrow HS.out HL.out.1
  have hba : Below w.heap.size w (w.alloc (.cells #[.int .i64 0, .int .i64 0] 32)) := by (repeat with_reducible (first | exact bw0 _ _ | exact hBW | refine bw1 ?_ ?_ _ | refine bw2 ?_ ?_ _ | refine bw3 ?_ _ | refine bw4 ?_)); all_goals (first | omega | (dsimp only; omega) | ((repeat with_reducible (first | refine lz1 ?_ | refine lz2 ?_ | refine lz3 ?_ | refine lz4 ?_)); omega))
  have HB2 : Hid (Below w.heap.size w w2) := hba.trans (hb2.mono (by simp))
  have G0 := Lib.hid ((hb2.block w.heap.size (by simp)).trans (show _ = some (.cells #[.int .i64 0, .int .i64 0] 32 (0, 0)) by (repeat (first | (with_reducible refine bw5 ?_ _; (first | rfl | (simp; done) | omega | (simp; omega)); done) | with_reducible refine bw6 ?_ _ | with_reducible refine bw7 ?_ | with_reducible refine bw8 ?_))))
  have DG := Lib.hid hDG
  have hz2 : (w.alloc (.cells #[.int .i64 0, .int .i64 0] 32)).heap.size ≤ w2.heap.size := hb2.size
  have HZ2 := Lib.hid hz2
  have HSB : Hid (w.heap.size + 1 ≤ b) := by unfold Hid; have := hDG.le; simp at this; exact this
  clear hrow hb2 hba hDG hz2 HD
  go_wp2_with fail
  have key := round_any false 0 _ HZ2.out DG.out (by have := HL.out; omega) (by omega)
  rw [HRR.out] at key
  refine key.mono ?_
  clear key
  unfold RoundPost NumV
  simp only
  rintro e w3 ⟨rfl, f3⟩
  have hb := HSB.out
  have HB3 : Hid (Below w.heap.size w w3) := HB2.out.trans (f3.below HB2.out.size (fun q hq => by rw [hq]; omega))
  have e0 := (f3.block w.heap.size (lt_of_heap G0.out) (by omega)).trans G0.out
  have x0 := cell_of_heap e0
  have y0 := frozen_of_heap e0
  have z0 := lt_of_heap e0
  clear f3 e0 hb DG HRR
  go_wp2_with fail
  refine bodyPost_ret (v := .tuple #[.agg #[.int .i64 M, .int .i64 X], .bool true]) (by simp [results, Tryz.results285, go_sem, x0]) rfl ⟨rfl, ?_⟩
  have hBW := HB3.out
  (repeat with_reducible (first | exact bw0 _ _ | exact hBW | refine bw1 ?_ ?_ _ | refine bw2 ?_ ?_ _ | refine bw3 ?_ _ | refine bw4 ?_)); all_goals (first | omega | (dsimp only; omega) | ((repeat with_reducible (first | refine lz1 ?_ | refine lz2 ?_ | refine lz3 ?_ | refine lz4 ?_)); omega))
theorem whole237_any (k : Nat) (h : k ≤ 4096) (ht : Tab w) : Calls Tryz.prog 237 #[.int .i64 k] w fun e w' => e = .returned (.agg #[.int .i64 (mkM k), .int .i64 (mkX k)]) ∧ Below w.heap.size w w' := by
  have HM := Lib.hid (fun w ht => make285_any w k h ht)
  have HT := Lib.hid ht
  generalize mkM k = M at HM ⊢
  generalize mkX k = X at HM ⊢
  clear h ht
  go_enter Tryz.func237, Tryz.ntmps237
  go_wp2_with fail
  have hba : Below w.heap.size w (w.alloc (.cells #[.int .i64 0, .int .i64 0] 32)) := by (repeat with_reducible (first | exact bw0 _ _ | exact hBW | refine bw1 ?_ ?_ _ | refine bw2 ?_ ?_ _ | refine bw3 ?_ _ | refine bw4 ?_)); all_goals (first | omega | (dsimp only; omega) | ((repeat with_reducible (first | refine lz1 ?_ | refine lz2 ?_ | refine lz3 ?_ | refine lz4 ?_)); omega))
  refine (HM.out _ (HT.out.below hba)).mono ?_
  rintro e w2 ⟨rfl, hb2⟩
  have HB2 : Hid (Below w.heap.size w w2) := hba.trans (hb2.mono (by simp))
  have G0 := Lib.hid ((hb2.block w.heap.size (by simp)).trans (show _ = some (.cells #[.int .i64 0, .int .i64 0] 32 (0, 0)) by (repeat (first | (with_reducible refine bw5 ?_ _; (first | rfl | (simp; done) | omega | (simp; omega)); done) | with_reducible refine bw6 ?_ _ | with_reducible refine bw7 ?_ | with_reducible refine bw8 ?_))))
  have x0 := cell_of_heap G0.out
  have y0 := frozen_of_heap G0.out
  have z0 := lt_of_heap G0.out
  have z1 : w.heap.size ≠ w2.heap.size := by omega
  have z2 : w.heap.size < w2.heap.size + 1 := by omega
  clear hb2 hba HM
  go_wp2_with fail
  refine body_abs ?_
  intro W hW
  have e9 : W.heap[w.heap.size]? = some (.cells #[.int .i64 M, .int .i64 X] 32) := by rw [hW]; exact heap_alloc_old (heap_set2 G0.out) _
  have hB9 : Below w.heap.size w W := by
    have hBW := HB2.out
    have hsz := hBW.size
    rw [hW]
    (repeat with_reducible (first | exact bw0 _ _ | exact hBW | refine bw1 ?_ ?_ _ | refine bw2 ?_ ?_ _ | refine bw3 ?_ _ | refine bw4 ?_)); all_goals (first | omega | (dsimp only; omega) | ((repeat with_reducible (first | refine lz1 ?_ | refine lz2 ?_ | refine lz3 ?_ | refine lz4 ?_)); omega))
  have x9 := cell_of_heap e9
  clear hW
  exact bodyPost_ret (v := .agg #[.int .i64 M, .int .i64 X]) (by simp [results, Tryz.results237, go_sem, x9]) rfl ⟨rfl, hB9⟩
theorem count200_any (k : Nat) (h : k ≤ 4096) (ht : Tab w) : Calls Tryz.prog 200 #[.int .i64 k] w fun e w' => e = .returned (vagg (cntV k)) ∧ Below w.heap.size w w' := by
  have HM := Lib.hid (fun w ht => make285_any w k h ht)
  have HT := Lib.hid ht
  unfold vagg cntV numV
  simp only
  generalize mkM k = M at HM ⊢
  generalize mkX k = X at HM ⊢
  clear h ht
  go_enter Tryz.func200, Tryz.ntmps200
  go_wp2_with fail
  have hba : Below w.heap.size w (w.alloc (.cells #[.int .i64 0, .int .i64 0, .int .i64 0, .string ⟨#[]⟩, .bool false, .int .i64 0] 34)) := by (repeat with_reducible (first | exact bw0 _ _ | exact hBW | refine bw1 ?_ ?_ _ | refine bw2 ?_ ?_ _ | refine bw3 ?_ _ | refine bw4 ?_)); all_goals (first | omega | (dsimp only; omega) | ((repeat with_reducible (first | refine lz1 ?_ | refine lz2 ?_ | refine lz3 ?_ | refine lz4 ?_)); omega))
  refine (HM.out _ (HT.out.below hba)).mono ?_
  rintro e w2 ⟨rfl, hb2⟩
  have HB2 : Hid (Below w.heap.size w w2) := hba.trans (hb2.mono (by simp))
  have G0 := Lib.hid ((hb2.block w.heap.size (by simp)).trans (show _ = some (.cells #[.int .i64 0, .int .i64 0, .int .i64 0, .string ⟨#[]⟩, .bool false, .int .i64 0] 34 (0, 0)) by (repeat (first | (with_reducible refine bw5 ?_ _; (first | rfl | (simp; done) | omega | (simp; omega)); done) | with_reducible refine bw6 ?_ _ | with_reducible refine bw7 ?_ | with_reducible refine bw8 ?_))))
  have z0 := lt_of_heap G0.out
  clear hb2 hba HM
  go_wp2_with fail
  refine (Of_any M X _).mono ?_
  rintro e w3 ⟨rfl, hb3⟩
  have hb3' : Below w2.heap.size w2 w3 := (below_alloc w2 _ _ (Nat.le_refl _)).trans (hb3.mono (by simp))
  have e0 := (hb3'.block _ z0).trans G0.out
  have HB3 : Hid (Below w.heap.size w w3) := HB2.out.trans (hb3'.mono HB2.out.size)
  have x0 := cell_of_heap e0
  have y0 := frozen_of_heap e0
  have z3 := lt_of_heap e0
  clear hb3 hb3' e0
  go_wp2_with fail
  refine bodyPost_ret (v := .agg #[.int .i64 1, .int .i64 M, .int .i64 X, .string ⟨#[]⟩, .bool false, .int .i64 0]) (by simp [results, Tryz.results200, go_sem, x0]) rfl ⟨rfl, ?_⟩
  have hBW := HB3.out
  (repeat with_reducible (first | exact bw0 _ _ | exact hBW | refine bw1 ?_ ?_ _ | refine bw2 ?_ ?_ _ | refine bw3 ?_ _ | refine bw4 ?_)); all_goals (first | omega | (dsimp only; omega) | ((repeat with_reducible (first | refine lz1 ?_ | refine lz2 ?_ | refine lz3 ?_ | refine lz4 ?_)); omega))
/-- The criterion's function, boxed. -/
def fun317 (b1 b2 : Nat) : Value := .func (.func 317) #[] #[.pointer (some ⟨b1, 0, none⟩), .pointer (some ⟨b2, 0, none⟩)]
theorem ent317 : Ent 317 := enters_of Tryz.func317 (by kernel_rfl) rfl
theorem counted1_any {s : ByteArray} {is : Int → Bool} (hS : Sg s is) (D : List Int) (v : Int) (hD : ∀ d ∈ D, Small d) (hv : Small v) (h1 : 1 ≤ D.length) (h2 : D.length ≤ 4096) (a : Option Addr) (cap fb b1 b2 : Nat) (hs : ArgsAt 0 w a [⟨D.length, 1, D.map cntV⟩]) (hC : CritAt w b1 b2 s (cntV v)) (hf : w.heap[fb]? = some (.cells #[fun317 b1 b2] 60)) (ht : Tab w) :
    Calls Tryz.prog 236 #[.slice a 1 cap, .pointer (some ⟨fb, 0, none⟩)] w (ArrPost w ⟨1, 1, [cntV (D.filter (lets is v)).length]⟩) := by
  have HA := Lib.hid (fun w hs => all232_any w ⟨D.length, 1, D.map cntV⟩ (by simpa using h1) (by simpa using h2) a cap hs)
  have HK := Lib.hid (fun d hd w hC => crit1_any w hS d v (hD d hd) hv b1 b2 hC)
  have HW := Lib.hid (fun w k hk ht => whole237_any w k hk ht)
  have HS := Lib.hid hs
  have HC := Lib.hid hC
  have HF := Lib.hid hf
  have HT := Lib.hid ht
  obtain ⟨p, hp⟩ : ∃ p, p = lets is v := ⟨_, rfl⟩
  rw [← hp]
  have HP : Hid (∀ d, lets is v d = p d) := by unfold Hid; intro d; rw [hp]
  obtain ⟨L, hL⟩ : ∃ L, L = D.length := ⟨_, rfl⟩
  have EL := Lib.hid hL
  rw [← hL] at h1 h2
  have hfl := lt_of_heap hf
  clear hs hC hf ht hS hD hv hp hL
  go_enter Tryz.func236, Tryz.ntmps236
  go_wp2_with fail
  have hba : Below w.heap.size w (w.alloc (.cells #[.int .i64 0, .int .i64 0, .slice none 0 0] 28)) := by (repeat with_reducible (first | exact bw0 _ _ | exact hBW | refine bw1 ?_ ?_ _ | refine bw2 ?_ ?_ _ | refine bw3 ?_ _ | refine bw4 ?_)); all_goals (first | omega | (dsimp only; omega) | ((repeat with_reducible (first | refine lz1 ?_ | refine lz2 ?_ | refine lz3 ?_ | refine lz4 ?_)); omega))
  refine (HA.out _ (HS.out.below hba)).mono ?_
  rintro r w1 ⟨v1, rfl, hrow, hb1⟩
  obtain ⟨a1, cap1, rfl, hsl⟩ := own_slb hrow
  rw [show (⟨(D.length : Int), 1, D.map cntV⟩ : Arr).l.length = L by rw [EL.out]; simp]
  have HB1 := Lib.hid (hba.trans (hb1.mono (by simp)))
  have SL1 := Lib.hid (hsl.mono (Nat.zero_le _))
  have G0 := Lib.hid ((hb1.block w.heap.size (by simp)).trans (show _ = some (.cells #[.int .i64 0, .int .i64 0, .slice none 0 0] 28 (0, 0)) by (repeat (first | (with_reducible refine bw5 ?_ _; (first | rfl | (simp; done) | omega | (simp; omega)); done) | with_reducible refine bw6 ?_ _ | with_reducible refine bw7 ?_ | with_reducible refine bw8 ?_))))
  clear hrow hsl hb1 hba HA
  go_wp2_with fail
  go_loopw [4, 10] (fun n x wr => ∃ i : Nat, x = .int .i64 i ∧ n = .int .i64 (((D.take i).filter p).length : Nat) ∧ i ≤ L ∧ Hid (Below w1.heap.size w1 wr)) (fun _ x _ => L - (intOf x).toNat)
  case atStart => exact ⟨0, rfl, rfl, Nat.zero_le _, Below.refl _ _⟩
  case round =>
    obtain ⟨i, rfl, rfl, hi, hB⟩ := hrel
    have HBw : Hid (Below w.heap.size w wr) := HB1.out.trans (hB.out.mono HB1.out.size)
    by_cases hlt : i < L
    · obtain ⟨d, hd⟩ : ∃ d, D[i]? = some d := ⟨_, List.getElem?_eq_getElem (by rw [← EL.out]; exact hlt)⟩
      have hu : (D.map cntV)[i]? = some (cntV d) := by simp [hd]
      obtain ⟨bb, off, rfl, hb, c0, c1, c2, c3, c4, c5⟩ := (SL1.out.below hB.out).cells hu
      have KEY := Lib.hid (fun w hC => HK.out d (List.mem_of_getElem? hd) w hC)
      rw [HP.out d] at KEY
      have TK : Hid (((D.take (i + 1)).filter p).length = ((D.take i).filter p).length + (if p d then 1 else 0)) := by
        unfold Hid
        rw [take_filter p D i d hd, List.length_append]
        split <;> rfl
      have hcl : ((D.take i).filter p).length ≤ i := Nat.le_trans (List.length_filter_le _ _) (by simp; omega)
      obtain ⟨n, hn⟩ : ∃ n, n = ((D.take i).filter p).length := ⟨_, rfl⟩
      rw [← hn] at hcl TK ⊢
      have f0 := cell_of_heap ((HBw.out.block _ hfl).trans HF.out) 0
      have zf := Nat.lt_of_lt_of_le hfl HBw.out.size
      have q1 : bb ≠ wr.heap.size := by omega
      have q2 : bb < wr.heap.size + 1 := by omega
      have q3 : fb ≠ wr.heap.size := by omega
      have q4 : fb < wr.heap.size + 1 := by omega
      have i1 : (i : Int) < (L : Int) := by omega
      have i0 : (0 : Int) ≤ (i : Int) := by omega
      have IL : Hid (i + 1 ≤ L) := by unfold Hid; omega
      have bi : i ≤ 8192 := by omega
      have bn : n ≤ 8192 := by omega
      have ent := ent317
      unfold Ent at ent
      rw [vagg_eq] at KEY
      generalize cntV d = u at KEY c0 c1 c2 c3 c4 c5
      generalize hpd : p d = R at KEY TK
      have v1 := w64s i bi
      have v2 := w64s n bn
      unfold fun317 at f0
      clear hn hd hu bi bn hpd
      go_wp2_with fail
      clear ent
      refine (KEY.out _ (HC.out.below (HBw.out.trans ((below_alloc wr _ _ (Nat.le_refl _)).mono HBw.out.size)))).mono ?_
      rintro e w3 ⟨rfl, hb3⟩
      have HB3 : Hid (Below w1.heap.size w1 w3) := hB.out.trans (((below_alloc wr _ _ (Nat.le_refl _)).trans (hb3.mono (by simp))).mono hB.out.size)
      clear hb3 c0 c1 c2 c3 c4 c5 f0 zf q1 q2 q3 q4 KEY hb
      cases R with
      | true =>
        have TK2 : Hid (((D.take (i + 1)).filter p).length = n + 1) := TK.out
        clear v1 v2
        have v1 := w64s i (by have := IL.out; omega)
        have v2 := w64s n (by omega)
        go_wp2_with fail
        go_roundw
        case rel => exact ⟨i + 1, by first | rfl | go_num, by rw [TK2.out]; first | rfl | go_num, IL.out, HB3⟩
        case measure =>
          clear v1 v2
          simp [intOf]; omega
      | false =>
        have TK2 : Hid (((D.take (i + 1)).filter p).length = n) := TK.out
        go_wp2_with fail
        go_roundw
        case rel => exact ⟨i + 1, by first | rfl | go_num, by rw [TK2.out], IL.out, HB3⟩
        case measure =>
          clear v1 v2
          simp [intOf]; omega
    · have i1 : ¬ (i : Int) < (L : Int) := by omega
      have e : i = L := by omega
      rw [e, List.take_of_length_le (by rw [← EL.out]; exact Nat.le_refl _)]
      have hcl : (D.filter p).length ≤ 4096 := Nat.le_trans (List.length_filter_le _ _) (by rw [← EL.out]; omega)
      obtain ⟨n, hn⟩ : ∃ n, n = (D.filter p).length := ⟨_, rfl⟩
      have FE : Hid (cntV (D.filter p).length = ⟨1, mkM n, mkX n, ⟨#[]⟩, false, 0⟩) := by unfold Hid; rw [← hn]; rfl
      rw [← hn] at hcl ⊢
      have HW2 := Lib.hid (fun w ht => HW.out w n hcl ht)
      have H1 := Lib.hid (fun w => One_any (cntV n) (refR_right (cnt_refR (small_nat hcl))) w)
      have E0 := Lib.hid ((hB.out.block _ (lt_of_heap G0.out)).trans G0.out)
      have HTr := Lib.hid (HT.out.below HBw.out)
      unfold vagg at H1
      unfold cntV numV at H1
      simp only at H1
      generalize mkM n = M at HW2 H1 FE
      generalize mkX n = X at HW2 H1 FE
      clear e hlt hi hB HK HW hn
      go_wp2_with fail
      refine (HW2.out _ HTr.out).mono ?_
      rintro e w3 ⟨rfl, hb3⟩
      have E1 := Lib.hid ((hb3.block _ (lt_of_heap E0.out)).trans E0.out)
      have HB3 := Lib.hid (HBw.out.trans (hb3.mono HBw.out.size))
      clear hb3 HW2
      go_wp2_with fail
      refine (Of_any M X _).mono ?_
      rintro e w4 ⟨rfl, hb4⟩
      have E2 := Lib.hid ((hb4.block _ (lt_of_heap E1.out)).trans E1.out)
      have HB4 := Lib.hid (HB3.out.trans (hb4.mono HB3.out.size))
      clear hb4
      go_wp2_with fail
      refine (H1.out _).mono ?_
      rintro r w5 ⟨x, rfl, ⟨a4, cap4, rfl, hsl⟩, hb4⟩
      have e0 := (hb4.block w.heap.size (lt_of_heap E2.out)).trans E2.out
      have HB5 := Lib.hid (HB4.out.trans (hb4.mono HB4.out.size))
      have x0 := cell_of_heap e0
      have z0 := frozen_of_heap e0
      have hn0 := lt_of_heap e0
      have HSL := Lib.hid (hsl.mono (B' := w.heap.size + 1) (lt_of_heap E2.out))
      clear hsl hb4 e0 H1
      go_wp2_with fail
      refine bodyPost_ret (v := .agg #[.int .i64 1, .int .i64 1, .slice a4 1 cap4]) (by simp [results, Tryz.results236, go_sem, x0]) rfl ?_
      rw [FE.out]
      exact arr_hand (A := ⟨1, 1, [⟨1, M, X, ⟨#[]⟩, false, 0⟩]⟩) (n := 0) (Nat.le_refl _) HSL.out HB5.out _ _ _
end
end Go.Proofs.YtndhmahkglfopaaGreatDoor
/- COUNTIF. -/
namespace Go.Proofs.YtndhmahkglfopaaGreatDoor
open Go.RowKit
theorem args_take {w : World} {a : Option Addr} {A C : Arr} (h : ArgsAt 0 w a [A, C]) : ArgsAt 0 w a [A] := fun _ => by
  obtain ⟨b, off, e, h1, h2, h3⟩ := h (by simp)
  refine ⟨b, off, e, h1, h2, fun i X hX => ?_⟩
  cases i with
  | zero => exact h3 0 X hX
  | succ i => simp at hX
section
variable (w : World)
set_option maxHeartbeats 4000000
set_option maxRecDepth 100000
theorem countIf_any {s : ByteArray} {is : Int → Bool} (hS : Sg s is) (D : List Int) (v : Int) (hD : ∀ d ∈ D, Small d) (hv : Small v) (h1 : 1 ≤ D.length) (h2 : D.length ≤ 4096) (a : Option Addr) (cap : Nat) (hcap : 2 ≤ cap) (hs : ArgsAt 0 w a [⟨D.length, 1, D.map cntV⟩, ⟨1, 1, [tV (s ++ cT v)]⟩]) (ht : Tab w) :
    Calls Tryz.prog 151 #[.slice a 2 cap] w (ArrPost w ⟨1, 1, [cntV (D.filter (lets is v)).length]⟩) := by
  have HK := Lib.hid (fun w a cap fb b1 b2 hs hC hf ht => counted1_any w hS D v hD hv h1 h2 a cap fb b1 b2 hs hC hf ht)
  have HQ := Lib.hid (fun w => criterion_any w hS v hv)
  have HA1 := Lib.hid (args_take hs)
  have HT := Lib.hid ht
  obtain ⟨b, off, rfl, _, hb, hall⟩ := hs (by simp)
  obtain ⟨b', capb, d0, d1, d2, hsl2⟩ := hall 1 _ rfl
  simp only [Nat.one_mul] at d0 d1 d2
  obtain ⟨bb, off2, rfl, hbb, c0, c1, c2, c3, c4, c5⟩ := hsl2.cells (i := 0) rfl
  simp only [Nat.zero_mul, Nat.add_zero] at c0 c1 c2 c3 c4 c5
  have d2' : w.cell? ⟨b, off + 5, none⟩ = some (.slice (some ⟨bb, off2, none⟩) 1 capb) := d2
  have q1 : b ≠ w.heap.size := by omega
  have q2 : b < w.heap.size + 1 := by omega
  have q3 : bb ≠ w.heap.size := by omega
  have q4 : bb < w.heap.size + 1 := by omega
  have hc1 : (1 : Int) ≤ (cap : Int) := by omega
  have hc2 : ¬ (cap : Int) < 1 := by omega
  have hc3 : (2 : Int) ≤ (cap : Int) := by omega
  rw [vagg_eq] at HQ
  generalize cntV v = u at HQ HK
  generalize tV (s ++ cT v) = tv at *
  clear hs ht hall hS hD hv h1 h2 hcap hsl2 d0 d1
  go_enter Tryz.func151, Tryz.ntmps151
  go_wp2_with fail
  have hba : Below w.heap.size w (w.alloc (.cells #[.int .i64 0, .int .i64 0, .slice none 0 0] 28)) := by (repeat with_reducible (first | exact bw0 _ _ | exact hBW | refine bw1 ?_ ?_ _ | refine bw2 ?_ ?_ _ | refine bw3 ?_ _ | refine bw4 ?_)); all_goals (first | omega | (dsimp only; omega) | ((repeat with_reducible (first | refine lz1 ?_ | refine lz2 ?_ | refine lz3 ?_ | refine lz4 ?_)); omega))
  refine (HQ.out _).mono ?_
  rintro e w1 ⟨b1, b2, rfl, hC, hb1⟩
  have HB1 := Lib.hid (hba.trans (hb1.mono (by simp)))
  have HC := Lib.hid hC
  have G0 := Lib.hid ((hb1.block w.heap.size (by simp)).trans (show _ = some (.cells #[.int .i64 0, .int .i64 0, .slice none 0 0] 28 (0, 0)) by (repeat (first | (with_reducible refine bw5 ?_ _; (first | rfl | (simp; done) | omega | (simp; omega)); done) | with_reducible refine bw6 ?_ _ | with_reducible refine bw7 ?_ | with_reducible refine bw8 ?_))))
  clear hb1 hba hC HQ c0 c1 c2 c3 c4 c5 d2 d2' q1 q2 q3 q4 hb hbb
  go_wp2_with fail
  refine wp_region_multiR [([0, 2, 3], [1, 4, 5], [4, 5])] (by kernel_rfl) (by kernel_rfl) ?_
  refine multi_phase (Below w1.heap.size w1) (Below.refl _ _).drew ?_
  iterate 3 (first | (apply first_step; (rw [List.getElem?_toArray]; (repeat rw [List.getElem?_cons_succ]); rw [List.getElem?_cons_zero]); rfl; (intro W hB; have hc := bcellB hB; go_simp; (first | done | rfl)); go_frame) | (apply first_skip; (rw [List.getElem?_toArray]; (repeat rw [List.getElem?_cons_succ]); rw [List.getElem?_cons_zero]); rfl; go_frame))
  refine first_done ?_
  apply forced_step; (rw [List.getElem?_toArray]; (repeat rw [List.getElem?_cons_succ]); rw [List.getElem?_cons_zero]); rfl; intro K hK; go_simp
  refine (mk142_any _ ⟨_, _, rfl⟩ _).mono ?_
  rintro e w2 ⟨fb, rfl, hfb, hfl, hb2⟩
  have hb2' : Below w1.heap.size w1 w2 := (Below.refl _ w1).drew.trans hb2
  refine hK _ _ (fun _ => hb2') ?_
  clear hK K
  have HB2 := Lib.hid hb2'
  have HFB := Lib.hid hfb
  clear hb2 hb2' hfb hfl
  have ent := (show Ent 236 from enters_of Tryz.func236 (by kernel_rfl) rfl)
  unfold Ent at ent
  apply forced_step; (rw [List.getElem?_toArray]; (repeat rw [List.getElem?_cons_succ]); rw [List.getElem?_cons_zero]); rfl; intro K hK; go_simp
  clear ent
  refine (HK.out w2 _ cap fb b1 b2 (HA1.out.below (HB1.out.trans (HB2.out.mono HB1.out.size))) (HC.out.below HB2.out) HFB.out (HT.out.below (HB1.out.trans (HB2.out.mono HB1.out.size)))).mono ?_
  rintro e w3 ⟨x, rfl, ⟨a3, cap3, rfl, hsl⟩, hb3⟩
  refine hK _ _ (fun h => absurd (by decide) h) ?_
  clear hK K
  have hb3' := HB2.out.trans (hb3.mono HB2.out.size)
  have e0 := (hb3'.block _ (lt_of_heap G0.out)).trans G0.out
  have x0 := cell_of_heap e0
  have z0 := frozen_of_heap e0
  have hn0 := lt_of_heap e0
  have HSL := Lib.hid (hsl.mono (B' := w.heap.size + 1) (by have := lt_of_heap G0.out; have := HB2.out.size; omega))
  have HB3 := Lib.hid (HB1.out.trans (hb3'.mono HB1.out.size))
  clear hsl hb3 hb3' e0
  apply forced_step; (rw [List.getElem?_toArray]; (repeat rw [List.getElem?_cons_succ]); rw [List.getElem?_cons_zero]); rfl; intro K hK; go_simp; refine hK _ _ (fun h => absurd (by decide) h) ?_; clear hK K
  refine forced_done ?_
  refine multi_done ?_
  go_wp2_with fail
  refine bodyPost_ret (v := .agg #[.int .i64 1, .int .i64 1, .slice a3 1 cap3]) (by simp [results, Tryz.results151, go_sem, x0]) rfl ?_
  exact arr_hand (A := ⟨1, 1, [cntV (D.filter (lets is v)).length]⟩) (n := 0) (Nat.le_refl _) HSL.out HB3.out _ _ _
end
def sCOUNTIF : ByteArray := ⟨#[67, 79, 85, 78, 84, 73, 70]⟩
theorem ent151 : Ent 151 := enters_of Tryz.func151 (by kernel_rfl) rfl
theorem col_ok {D : List Int} (hD : ∀ d ∈ D, Small d) (h1 : 1 ≤ D.length) (h2 : D.length ≤ 40) : ArrR ⟨D.length, 1, D.map cntV⟩ := col_right (fun d hd => cnt_refR (hD d hd)) h1 h2
theorem one_right {u : V} (h : refR u = true) : ArrR ⟨1, 1, [u]⟩ where
  h1 := by dsimp only; omega
  h2 := by dsimp only; omega
  h3 := by dsimp only; omega
  h4 := by dsimp only; omega
  h5 := by dsimp only; omega
  h6 := by simp
  h7 := fun v hv => by
    rw [List.mem_singleton.1 hv]
    exact h
theorem crit_right {s : ByteArray} (hs : s.size ≤ 2) {v : Int} (hv : Small v) : refR (tV (s ++ cT v)) = true := tV_right (by
  have := (cT_size hv).2
  rw [ByteArray.size_append]
  omega)
/-- The law's call of COUNTIF. -/
theorem call_countIf {s : ByteArray} {is : Int → Bool} (hS : Sg s is) (D : List Int) (v : Int) (hD : ∀ d ∈ D, Small d) (hv : Small v) (h1 : 1 ≤ D.length) (h2 : D.length ≤ 40) (a : Option Addr) (cap : Nat) (hcap : 2 ≤ cap) (w : World) (hs : ArgsAt 0 w a [⟨D.length, 1, D.map cntV⟩, ⟨1, 1, [tV (s ++ cT v)]⟩]) (ht : Tab w) :
    Calls Tryz.prog 11 #[.string sCOUNTIF, .slice a 2 cap] w (ArrPost w ⟨1, 1, [cntV (D.filter (lets is v)).length]⟩) :=
  Calls.mono (R := ArrPostC (fun _ => True) w _) (call11 w sCOUNTIF a 2 cap _ fun W hW => lib_0 W sCOUNTIF a 2 cap _ fun W' hW' =>
    have hb := hW.trans (hW'.mono hW.size)
    call82_hit sCOUNTIF 2 2 [⟨D.length, 1, D.map cntV⟩, ⟨1, 1, [tV (s ++ cT v)]⟩] a cap _ W' stays_tab (fun w w' e h ha ht => by
      obtain ⟨BB, l, he, hm, _, hb, _, h4, _⟩ := h
      refine ⟨BB, l, 151, #[], he, hm, hb, .inl rfl, h4, ent151, fun W hW => ?_⟩
      exact Calls.mono (R := ArrPost W _) (countIf_any W hS D v hD hv h1 (by omega) a cap hcap (ha.below hW) (ht.below hW)) fun _ _ h => h.any) (fun X hX => by
      rcases List.mem_cons.1 hX with rfl | hX
      · exact (col_ok hD h1 h2).ok
      · rw [List.mem_singleton.1 hX]; exact (one_right (crit_right hS.size hv)).ok) (Nat.le_refl _) (Nat.le_refl _) (by omega) (hs.below hb) (ht.below hb)) fun _ _ h => h.post
end Go.Proofs.YtndhmahkglfopaaGreatDoor
/- SUMIF. -/
namespace Go.Proofs.YtndhmahkglfopaaGreatDoor
open Go.RowKit
section
variable (w : World)
set_option maxHeartbeats 4000000
set_option maxRecDepth 100000
theorem alike240_any (r c : Int) (x y : Value) (hx : ∃ a n cap, x = .slice a n cap) (hy : ∃ a n cap, y = .slice a n cap) : Calls Tryz.prog 240 #[.agg #[.int .i64 r, .int .i64 c, x], .agg #[.int .i64 r, .int .i64 c, y]] w fun e w' => e = .returned (.bool true) ∧ Below w.heap.size w w' := by
  obtain ⟨a, n, cap, rfl⟩ := hx
  obtain ⟨a', n', cap', rfl⟩ := hy
  have r1 : (r == r) = true := by simp
  have r2 : (c == c) = true := by simp
  go_enter Tryz.func240, Tryz.ntmps240
  go_wp2_with fail
  go_ret
  refine ⟨rfl, ?_⟩
  (repeat with_reducible (first | exact bw0 _ _ | exact hBW | refine bw1 ?_ ?_ _ | refine bw2 ?_ ?_ _ | refine bw3 ?_ _ | refine bw4 ?_)); all_goals (first | omega | (dsimp only; omega) | ((repeat with_reducible (first | refine lz1 ?_ | refine lz2 ?_ | refine lz3 ?_ | refine lz4 ?_)); omega))
theorem sumIf_any {s : ByteArray} {is : Int → Bool} (hS : Sg s is) (D : List Int) (v : Int) (hD : ∀ d ∈ D, Small d) (hv : Small v) (h1 : 1 ≤ D.length) (h2 : D.length ≤ 4096) (a : Option Addr) (cap : Nat) (hs : ArgsAt 0 w a [⟨D.length, 1, D.map cntV⟩, ⟨1, 1, [tV (s ++ cT v)]⟩]) (ht : Tab w) :
    Calls Tryz.prog 152 #[.slice a 2 cap] w (ArrPost w ⟨1, 1, [sumV (((D.filter (lets is v)).map cntV).map prV)]⟩) := by
  have HK := Lib.hid (fun d hd w b1 b2 hC => crit1_any w hS d v (hD d hd) hv b1 b2 hC)
  have HQ := Lib.hid (fun w => criterion_any w hS v hv)
  have HDD := Lib.hid hD
  have HT := Lib.hid ht
  obtain ⟨p, hp⟩ : ∃ p, p = lets is v := ⟨_, rfl⟩
  rw [← hp]
  have HP : Hid (∀ d, lets is v d = p d) := by unfold Hid; intro d; rw [hp]
  obtain ⟨b, off, rfl, _, hb, hall⟩ := hs (by simp)
  obtain ⟨b', capb, d0, d1, d2, hsl2⟩ := hall 1 _ rfl
  obtain ⟨ac, acap, f0, f1, f2, hslc⟩ := hall 0 _ rfl
  simp only [Nat.one_mul] at d0 d1 d2
  simp only [Nat.zero_mul, Nat.add_zero, List.length_map] at f0 f1 f2
  obtain ⟨bb, off2, rfl, hbb, c0, c1, c2, c3, c4, c5⟩ := hsl2.cells (i := 0) rfl
  simp only [Nat.zero_mul, Nat.add_zero] at c0 c1 c2 c3 c4 c5
  have d2' : w.cell? ⟨b, off + 5, none⟩ = some (.slice (some ⟨bb, off2, none⟩) 1 capb) := d2
  have HSC := Lib.hid hslc
  have HF0 := Lib.hid f0
  have HF1 := Lib.hid f1
  have HF2 := Lib.hid f2
  obtain ⟨L, hL⟩ : ∃ L, L = D.length := ⟨_, rfl⟩
  have EL := Lib.hid hL
  rw [← hL] at h1 h2 HF0 HF2
  obtain ⟨i0, hi, hz0, hz1, hz2⟩ := info_parts info36
  have HI := Lib.hid hi
  have HZ0 := Lib.hid hz0
  have HZ1 := Lib.hid hz1
  have HZ2 := Lib.hid hz2
  have q1 : b ≠ w.heap.size := by omega
  have q2 : b < w.heap.size + 1 := by omega
  have q3 : bb ≠ w.heap.size := by omega
  have q4 : bb < w.heap.size + 1 := by omega
  have HBL := Lib.hid hb
  rw [vagg_eq] at HQ
  have RL := Lib.hid (fun d (hd : d ∈ D) => cnt_refR (hD d hd))
  generalize hcv : cntV v = cv at HQ HK
  generalize tV (s ++ cT v) = tv at *
  clear hs ht hall hS hD hv hsl2 hslc d0 d1 f0 f1 f2 hi hz0 hz1 hz2 hp hL hcv
  go_enter Tryz.func152, Tryz.ntmps152
  go_wp2_with fail
  have hba : Below w.heap.size w (w.alloc (.cells #[.int .i64 0, .int .i64 0, .slice none 0 0] 28)) := by (repeat with_reducible (first | exact bw0 _ _ | exact hBW | refine bw1 ?_ ?_ _ | refine bw2 ?_ ?_ _ | refine bw3 ?_ _ | refine bw4 ?_)); all_goals (first | omega | (dsimp only; omega) | ((repeat with_reducible (first | refine lz1 ?_ | refine lz2 ?_ | refine lz3 ?_ | refine lz4 ?_)); omega))
  refine (HQ.out _).mono ?_
  rintro e w1 ⟨b1, b2, rfl, hC, hb1⟩
  have HB1 := Lib.hid (hba.trans (hb1.mono (by simp)))
  have HC := Lib.hid hC
  have G0 := Lib.hid ((hb1.block w.heap.size (by simp)).trans (show _ = some (.cells #[.int .i64 0, .int .i64 0, .slice none 0 0] 28 (0, 0)) by (repeat (first | (with_reducible refine bw5 ?_ _; (first | rfl | (simp; done) | omega | (simp; omega)); done) | with_reducible refine bw6 ?_ _ | with_reducible refine bw7 ?_ | with_reducible refine bw8 ?_))))
  clear hb1 hba hC HQ c0 c1 c2 c3 c4 c5 d2 d2' q1 q2 q3 q4 hb hbb
  have f0 := (HB1.out.cell (p := ⟨b, off, none⟩) HBL.out).trans HF0.out
  have f1 := (HB1.out.cell (p := ⟨b, off + 1, none⟩) HBL.out).trans HF1.out
  have f2 := (HB1.out.cell (p := ⟨b, off + 2, none⟩) HBL.out).trans HF2.out
  have hbl := Nat.lt_of_lt_of_le HBL.out HB1.out.size
  have q1 : b ≠ w1.heap.size := by omega
  have q2 : b < w1.heap.size + 1 := by omega
  go_wp2_with fail
  refine abs_world ?_
  intro W2 hW2
  have g5 : W2.heap[w1.heap.size]? = some (.cells #[.int .i64 L, .int .i64 1, .slice ac L acap] 28) := by rw [hW2]; (repeat (first | (with_reducible refine bw5 ?_ _; (first | rfl | (simp; done) | omega | (simp; omega)); done) | with_reducible refine bw6 ?_ _ | with_reducible refine bw7 ?_ | with_reducible refine bw8 ?_))
  have hb2 : Below w1.heap.size w1 W2 := by rw [hW2]; (repeat with_reducible (first | exact bw0 _ _ | exact hBW | refine bw1 ?_ ?_ _ | refine bw2 ?_ ?_ _ | refine bw3 ?_ _ | refine bw4 ?_)); all_goals (first | omega | (dsimp only; omega) | ((repeat with_reducible (first | refine lz1 ?_ | refine lz2 ?_ | refine lz3 ?_ | refine lz4 ?_)); omega))
  have hz2 : w1.heap.size + 1 ≤ W2.heap.size := lt_of_heap g5
  have G5 := Lib.hid g5
  have HB2 := Lib.hid hb2
  have HZ22 := Lib.hid hz2
  have k0 := (hb2.cell (p := ⟨b, off, none⟩) hbl).trans f0
  have k1 := (hb2.cell (p := ⟨b, off + 1, none⟩) hbl).trans f1
  have k2 := (hb2.cell (p := ⟨b, off + 2, none⟩) hbl).trans f2
  have kb := Nat.lt_of_lt_of_le hbl hb2.size
  have l0 := cell_of_heap g5
  have lz := lt_of_heap g5
  have HBW2 : Hid (Below w.heap.size w W2) := HB1.out.trans (hb2.mono HB1.out.size)
  clear hW2 g5 hb2 f0 f1 f2 hbl q1 q2 hz2
  refine wp_region_multiR [([0, 1, 2, 3], [4], [4, 5]), ([5], [], [])] (by kernel_rfl) (by kernel_rfl) ?_
  refine multi_phase (Below W2.heap.size W2) (Below.refl _ _).drew ?_
  iterate 4 (first | (apply first_step; (rw [List.getElem?_toArray]; (repeat rw [List.getElem?_cons_succ]); rw [List.getElem?_cons_zero]); rfl; (intro W hB; have hc := bcellB hB; go_simp; (first | done | rfl)); go_frame) | (apply first_skip; (rw [List.getElem?_toArray]; (repeat rw [List.getElem?_cons_succ]); rw [List.getElem?_cons_zero]); rfl; go_frame))
  refine first_done ?_
  apply forced_step; (rw [List.getElem?_toArray]; (repeat rw [List.getElem?_cons_succ]); rw [List.getElem?_cons_zero]); rfl; intro K hK; go_simp
  refine (alike240_any _ _ _ _ _ ⟨_, _, _, rfl⟩ ⟨_, _, _, rfl⟩).mono ?_
  rintro e w3 ⟨rfl, hb3⟩
  have HB3 : Hid (Below W2.heap.size W2 w3) := (Below.refl _ W2).drew.trans hb3
  refine hK _ _ (fun h => absurd (by decide) h) ?_
  clear hK K hb3
  refine forced_done ?_
  refine multi_phase (Below W2.heap.size W2) HB3.out ?_
  (first | (apply first_step; (rw [List.getElem?_toArray]; (repeat rw [List.getElem?_cons_succ]); rw [List.getElem?_cons_zero]); rfl; (intro W hB; have hc := bcellB hB; go_simp; (first | done | rfl)); go_frame) | (apply first_skip; (rw [List.getElem?_toArray]; (repeat rw [List.getElem?_cons_succ]); rw [List.getElem?_cons_zero]); rfl; go_frame))
  refine first_done ?_
  refine forced_done ?_
  refine multi_done ?_
  clear k0 k1 k2 kb l0 lz
  have k0 := (HBW2.out.cell (p := ⟨b, off, none⟩) HBL.out).trans HF0.out
  have k2 := (HBW2.out.cell (p := ⟨b, off + 2, none⟩) HBL.out).trans HF2.out
  have kb := Nat.lt_of_lt_of_le HBL.out HBW2.out.size
  have m2 := (HB3.out.cell (p := ⟨b, off + 2, none⟩) kb).trans k2
  have mb := Nat.lt_of_lt_of_le kb HB3.out.size
  clear k0 k2 kb
  go_wp2_with fail
  clear m2 mb
  go_loopw [6, 45] (fun sl x wr => ∃ i : Nat, x = .int .i64 i ∧ i ≤ L ∧ Hid (Below W2.heap.size W2 wr) ∧ Hid (wr.ownsRow W2.heap.size 34 6 sl ((D.take i).filter p).length ((((D.take i).filter p).map cntV).flatMap vcells))) (fun _ x _ => L - (intOf x).toNat)
  case atStart => exact ⟨0, rfl, Nat.zero_le _, HB3.out, by simp, Or.inl ⟨rfl, rfl⟩⟩
  case round =>
    obtain ⟨i, rfl, hi, hB, hO⟩ := hrel
    have HBw : Hid (Below w.heap.size w wr) := HBW2.out.trans (hB.out.mono HBW2.out.size)
    by_cases hlt : i < L
    · obtain ⟨d, hd⟩ : ∃ d, D[i]? = some d := ⟨_, List.getElem?_eq_getElem (by rw [← EL.out]; exact hlt)⟩
      have hu : (D.map cntV)[i]? = some (cntV d) := by simp [hd]
      obtain ⟨bb, off2, rfl, hb, c0, c1, c2, c3, c4, c5⟩ := (HSC.out.below HBw.out).cells hu
      have KEY := Lib.hid (fun w b1 b2 hC => HK.out d (List.mem_of_getElem? hd) w b1 b2 hC)
      rw [HP.out d] at KEY
      have TK : Hid ((D.take (i + 1)).filter p = (D.take i).filter p ++ (if p d then [d] else [])) := take_filter p D i d hd
      have hcl : ((D.take i).filter p).length ≤ i := Nat.le_trans (List.length_filter_le _ _) (by simp; omega)
      obtain ⟨X, hX⟩ : ∃ X, X = (D.take i).filter p := ⟨_, rfl⟩
      rw [← hX] at hcl TK hO
      have q1 : bb ≠ wr.heap.size := by omega
      have q2 : bb < wr.heap.size + 1 := by omega
      have i1 : (i : Int) < (L : Int) := by omega
      have i0' : (0 : Int) ≤ (i : Int) := by omega
      have IL : Hid (i + 1 ≤ L) := by unfold Hid; omega
      have HXL : Hid (X.length ≤ 4096) := by unfold Hid; omega
      have bi : i ≤ 8192 := by omega
      have ent := ent317
      unfold Ent at ent
      rw [vagg_eq] at KEY
      have HCU : Hid (∀ j, j < 6 → wr.cell? ⟨bb, off2 + i * 6 + j, none⟩ = (vcells (cntV d))[j]?) := by
        intro j hj
        have h6 : j = 0 ∨ j = 1 ∨ j = 2 ∨ j = 3 ∨ j = 4 ∨ j = 5 := by omega
        rcases h6 with rfl | rfl | rfl | rfl | rfl | rfl
        · exact c0
        · exact c1
        · exact c2
        · exact c3
        · exact c4
        · exact c5
      have HCV : Hid (∀ x : List Int, (x ++ [d]).map cntV = x.map cntV ++ [cntV d]) := by unfold Hid; intro x; simp
      generalize cntV d = u at KEY c0 c1 c2 c3 c4 c5 HCU HCV
      obtain ⟨uk, um, ue, ut, ub, uf⟩ := u
      simp only at KEY c0 c1 c2 c3 c4 c5
      generalize hpd : p d = R at KEY TK
      have v1 := w64s i bi
      obtain ⟨sa, scap, rfl⟩ := own_slx hO.out
      have HBB := Lib.hid hb
      clear hX hd hu bi hpd
      go_wp2_with fail
      clear ent
      refine (KEY.out _ _ _ (HC.out.below ((HB2.out.trans (hB.out.mono HB2.out.size)).trans ((below_alloc wr _ _ (Nat.le_refl _)).mono (by have := HB2.out.size; have := hB.out.size; omega))))).mono ?_
      rintro e w4 ⟨rfl, hb4⟩
      have hb4' : Below wr.heap.size wr w4 := (below_alloc wr _ _ (Nat.le_refl _)).trans (hb4.mono (by simp))
      have HB4' := Lib.hid hb4'
      have HB4 : Hid (Below W2.heap.size W2 w4) := hB.out.trans (hb4'.mono hB.out.size)
      have HO4 : Hid (w4.ownsRow W2.heap.size 34 6 (.slice sa X.length scap) X.length ((X.map cntV).flatMap vcells)) := own_of_block hO.out (fun k _ hk => hb4'.block k hk)
      clear hb4 hb4' c0 c1 c2 c3 c4 c5 q1 q2 KEY hb hO
      cases R with
      | true =>
        have TK2 : Hid ((D.take (i + 1)).filter p = X ++ [d]) := TK.out
        have g5 := (HB4.out.block _ (lt_of_heap G5.out)).trans G5.out
        have m2 := cell_of_heap g5 2
        have mz := lt_of_heap g5
        have cc := fun j hj => (HB4'.out.cell (p := ⟨bb, off2 + i * 6 + j, none⟩) HBB.out).trans (HCU.out j hj)
        have hb4 := Nat.lt_of_lt_of_le HBB.out HB4'.out.size
        have c0 := cc 0 (by omega)
        have c1 := cc 1 (by omega)
        have c2 := cc 2 (by omega)
        have c3 := cc 3 (by omega)
        have c4 := cc 4 (by omega)
        have c5 := cc 5 (by omega)
        simp only [vcells, Nat.add_zero, List.getElem?_cons_zero, List.getElem?_cons_succ] at c0 c1 c2 c3 c4 c5
        have hxl := HXL.out
        have hz4 := HB4.out.size
        have q1 : bb ≠ w4.heap.size := by omega
        have q2 : bb < w4.heap.size + 1 := by omega
        clear cc g5
        go_wp2_with (
          at_builtin
          refine wpList_append_own_at _ rfl _ _ 26 rfl W2.heap.size 34 i0 _ 6 56 Tryz.underlying26 HI.out HZ0.out HZ1.out HZ2.out rfl (by decide) (.slice sa X.length scap) X.length ((X.map cntV).flatMap vcells) rfl (HO4.out.alloc _) ⟨w4.heap.size, 0, none⟩ 1 1 (vcells ⟨uk, um, ue, ut, ub, uf⟩) rfl rfl (fun j x hj => cells_new w4 #[.int .i64 uk, .int .i64 um, .int .i64 ue, .string ut, .bool ub, .int .i64 uf] 34 j x hj) (by simp [vcells, Value.oneCell']) (by unfold maxLen; omega) (by omega) (by simp; omega) ?_
          intro v' wN hown hgrow _ _
          have FO : Hid (wN.ownsRow W2.heap.size 34 6 v' ((D.take (i + 1)).filter p).length ((((D.take (i + 1)).filter p).map cntV).flatMap vcells)) := by
            unfold Hid
            rw [TK2.out, HCV.out, List.length_append, List.flatMap_append]
            simpa using hown
          have FB : Hid (Below W2.heap.size W2 wN) := (HB4.out.alloc HB4.out.size _).grown hgrow (by have := HB4.out.size; simp; omega) (fun k hk => own_nex HO4.out k hk)
          clear hown hgrow)
        go_roundw
        case rel => exact ⟨i + 1, by first | rfl | go_num, IL.out, FB, FO⟩
        case measure =>
          clear v1
          simp [intOf]; omega
      | false =>
        have TK2 : Hid ((D.take (i + 1)).filter p = X) := by unfold Hid; rw [TK.out]; simp
        go_wp2_with fail
        go_roundw
        case rel => exact ⟨i + 1, by first | rfl | go_num, IL.out, HB4, by rw [TK2.out]; exact HO4⟩
        case measure =>
          clear v1
          simp [intOf]; omega
    · have e : i = L := by omega
      have i1 : ¬ (i : Int) < (L : Int) := by omega
      have h1' := hO.out
      rw [e, List.take_of_length_le (by rw [← EL.out]; exact Nat.le_refl _)] at h1'
      obtain ⟨U, hU⟩ : ∃ U, U = sumV (((D.filter p).map cntV).map prV) := ⟨_, rfl⟩
      have FE := Lib.hid hU
      have hXL : (D.filter p).length ≤ 4096 := Nat.le_trans (List.length_filter_le _ _) (by rw [← EL.out]; omega)
      have hXD : ∀ d ∈ D.filter p, d ∈ D := fun d hd => (List.mem_filter.1 hd).1
      generalize D.filter p = X at h1' hXL hXD hU
      have h1'' := h1'
      rw [show X.length = (X.map cntV).length by simp] at h1''
      obtain ⟨sa, scap, rfl, hsl⟩ := own_slb h1''
      have hkl : ∀ v ∈ X.map cntV, v.k = 1 := fun v hv => by
        obtain ⟨d, _, rfl⟩ := List.mem_map.1 hv
        rfl
      have hN : ∀ n ∈ (X.map cntV).map prV, numR n.1 n.2 = true := fun n hn => by
        obtain ⟨v, hv, rfl⟩ := List.mem_map.1 hn
        obtain ⟨d, hd, rfl⟩ := List.mem_map.1 hv
        exact (cprop (RL.out d (hXD d hd))).1 rfl
      have hLM : ((X.map cntV).map prV).length = (X.map cntV).length := by simp
      have hLC : (X.map cntV).length = X.length := by simp
      have SLX := Lib.hid (hsl.mono (Nat.zero_le _))
      generalize X.map cntV = Y at hkl hN hU SLX hLM hLC ⊢
      have H2 := Lib.hid (fun w a cap hs => numbers231_any w Y hkl (by rw [hLC]; exact hXL) a cap hs)
      have H3 := Lib.hid (fun w a cap hs ht => sum137_any w (Y.map prV) hN (by rw [hLM, hLC]; exact hXL) a cap hs ht)
      have H4 := Lib.hid (fun w => One_any U (refR_right (by rw [hU]; exact sumV_right _)) w)
      rw [← hU] at H3
      generalize Y.map prV = NL at H2 H3 hLM hN hU
      have LM := Lib.hid hLM
      unfold VPost at H3
      generalize Y.length = K at H2 LM hLC ⊢
      obtain ⟨uk, um, ue, ut, ub, uf⟩ := U
      unfold vagg at H3 H4
      simp only at H3 H4
      have E0 := Lib.hid (((HB2.out.trans (hB.out.mono HB2.out.size)).block _ (lt_of_heap G0.out)).trans G0.out)
      have HTr := Lib.hid (HT.out.below HBw.out)
      clear e hlt hi hB hO h1' h1'' hsl hkl hN hLM hLC hXL hXD hU HK
      go_wp2_with fail
      refine (H2.out _ _ _ SLX.out).mono ?_
      rintro r w5 ⟨v5, rfl, hrow, hb5⟩
      rw [← LM.out] at hrow
      obtain ⟨a5, cap5, rfl, hsn⟩ := own_sln hrow
      rw [LM.out]
      have E1 := Lib.hid ((hb5.block _ (lt_of_heap E0.out)).trans E0.out)
      have HB5 := Lib.hid (HBw.out.trans (hb5.mono HBw.out.size))
      have SN := Lib.hid hsn
      clear hrow hsn hb5 H2
      go_wp2_with fail
      have h3 := H3.out _ _ cap5 SN.out (HT.out.below HB5.out)
      rw [LM.out] at h3
      refine h3.mono ?_
      clear h3 H3
      rintro r w6 ⟨rfl, hb6⟩
      have E2 := Lib.hid ((hb6.block _ (lt_of_heap E1.out)).trans E1.out)
      have HB6 := Lib.hid (HB5.out.trans (hb6.mono HB5.out.size))
      clear hb6
      go_wp2_with fail
      refine (H4.out _).mono ?_
      rintro r w7 ⟨x, rfl, ⟨a7, cap7, rfl, hsl⟩, hb7⟩
      have e0 := (hb7.block w.heap.size (lt_of_heap E2.out)).trans E2.out
      have HB7 := Lib.hid (HB6.out.trans (hb7.mono HB6.out.size))
      have x0 := cell_of_heap e0
      have z0 := frozen_of_heap e0
      have hn0 := lt_of_heap e0
      have HSL := Lib.hid (hsl.mono (B' := w.heap.size + 1) (lt_of_heap E2.out))
      clear hsl hb7 e0 H4
      go_wp2_with fail
      refine bodyPost_ret (v := .agg #[.int .i64 1, .int .i64 1, .slice a7 1 cap7]) (by simp [results, Tryz.results152, go_sem, x0]) rfl ?_
      rw [← FE.out]
      exact arr_hand (A := ⟨1, 1, [⟨uk, um, ue, ut, ub, uf⟩]⟩) (n := 0) (Nat.le_refl _) HSL.out HB7.out _ _ _
end
def sSUMIF : ByteArray := ⟨#[83, 85, 77, 73, 70]⟩
theorem ent152 : Ent 152 := enters_of Tryz.func152 (by kernel_rfl) rfl
/-- The law's call of SUMIF. -/
theorem call_sumIf {s : ByteArray} {is : Int → Bool} (hS : Sg s is) (D : List Int) (v : Int) (hD : ∀ d ∈ D, Small d) (hv : Small v) (h1 : 1 ≤ D.length) (h2 : D.length ≤ 40) (a : Option Addr) (cap : Nat) (w : World) (hs : ArgsAt 0 w a [⟨D.length, 1, D.map cntV⟩, ⟨1, 1, [tV (s ++ cT v)]⟩]) (ht : Tab w) :
    Calls Tryz.prog 11 #[.string sSUMIF, .slice a 2 cap] w (ArrPost w ⟨1, 1, [sumV (((D.filter (lets is v)).map cntV).map prV)]⟩) :=
  Calls.mono (R := ArrPostC (fun _ => True) w _) (call11 w sSUMIF a 2 cap _ fun W hW => lib_0 W sSUMIF a 2 cap _ fun W' hW' =>
    have hb := hW.trans (hW'.mono hW.size)
    call82_hit sSUMIF 2 3 [⟨D.length, 1, D.map cntV⟩, ⟨1, 1, [tV (s ++ cT v)]⟩] a cap _ W' stays_tab (fun w w' e h ha ht => by
      obtain ⟨BB, l, he, hm, _, hb, _, _, h5, _⟩ := h
      refine ⟨BB, l, 152, #[], he, hm, hb, .inl rfl, h5, ent152, fun W hW => ?_⟩
      exact Calls.mono (R := ArrPost W _) (sumIf_any W hS D v hD hv h1 (by omega) a cap (ha.below hW) (ht.below hW)) fun _ _ h => h.any) (fun X hX => by
      rcases List.mem_cons.1 hX with rfl | hX
      · exact (col_ok hD h1 h2).ok
      · rw [List.mem_singleton.1 hX]; exact (one_right (crit_right hS.size hv)).ok) (Nat.le_refl _) (by simp) (by omega) (hs.below hb) (ht.below hb)) fun _ _ h => h.post
end Go.Proofs.YtndhmahkglfopaaGreatDoor
