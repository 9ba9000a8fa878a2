/- num.Mul. -/
import Derived.Test.YtndhmahkglfopaaGreatDoorQT13Right
import Derived.Test.YtndhmahkglfopaaGreatDoorQT13Fold2
import Derived.Test.YtndhmahkglfopaaGreatDoorQT16N
import Derived.Test.YtndhmahkglfopaaGreatDoorQT16L
namespace Go.Proofs.YtndhmahkglfopaaGreatDoor
open Go.RowKit
theorem lz15 (w : World) : Calls Tryz.prog 101 #[.int .u64 1000000000000000] w fun e w' => e = .returned (.int .i64 14) ∧ w' = w := by
  have := Tryz.bits_LeadingZeros64 1000000000000000 w (by omega) (by omega)
  have hb : (64 - (Lib.bitLen (1000000000000000 : Int).toNat : Int)) = 14 := by kernel_rfl
  rw [hb] at this
  exact this
theorem g_ex : ∃ g, DivOk g := div_ok lz15
/-- What Div64 tells. -/
noncomputable def gD : Nat → Nat → Nat × Nat := g_ex.choose
theorem gD_ok : DivOk gD := g_ex.choose_spec
noncomputable def mulG (m e m' e' : Int) : (Int × Int) × Bool := mulR gD m e m' e'
theorem digs_two {n : Nat} (h : 10 ≤ n) : 2 ≤ (digs n).length := by
  rw [digs_len, Lib.decDigits, dif_neg (by omega), List.length_append]
  have := dec_pos (n / 10)
  simp
  omega
theorem digs_bd (n : Nat) (h : n < 18446744073709551616) : 0 < (digs n).length ∧ (digs n).length ≤ 20 ∧ ∀ d ∈ digs n, d < 256 := by
  rw [digs_len]
  exact ⟨dec_pos n, dec_le n h, digs_small n⟩
/-- A row of bytes behind its first one. -/
theorem own_tail {w : World} {B : Nat} {v : Value} {D : List Nat} (h : w.ownsRow B 5 1 v D.length (D.map dv)) (h0 : 0 < D.length) :
    ∃ b cap, v = .slice (some ⟨b, 0, none⟩) D.length cap ∧ D.length ≤ cap ∧ ∀ j u, ((D.drop 1).map dv)[j]? = some u → w.cell? ((⟨b, 1, none⟩ : Addr).add j) = some u := by
  rcases h.2 with ⟨e, h1⟩ | ⟨gb, cap, cur, hv, hB, hh, hn, _, hsz, ht⟩
  · omega
  · refine ⟨gb, cap, hv, hn, fun j u hj => ?_⟩
    have e : (⟨gb, 1, none⟩ : Addr).add j = ⟨gb, 1 + j, none⟩ := by
      by_cases hj : j = 0
      · subst hj; simp [Addr.add]
      · simp [Addr.add, hj]
    rw [e, cell_of_heap hh]
    rw [List.map_drop, List.getElem?_drop] at hj
    have hlt : 1 + j < D.length := by have := (List.getElem?_eq_some_iff.1 hj).1; simpa using this
    have : (cur.toList.take (D.length * 1))[1 + j]? = some u := by rw [ht]; exact hj
    rw [List.getElem?_take_of_lt (by omega)] at this
    simpa using this
section
variable (m e m' e' : Int) (w : World)
set_option maxHeartbeats 4000000
set_option maxRecDepth 100000
theorem mul_yes (h : numR m e = true) (h' : numR m' e' = true) (htab : Tab w) : Calls Tryz.prog 28 #[.agg #[.int .i64 m, .int .i64 e], .agg #[.int .i64 m', .int .i64 e']] w (NumPost w (mulG m e m' e')) := by
  have HR := Lib.hid (right_yes h)
  have HR2 := Lib.hid (right_yes h')
  have hb := numR_small h
  have hb' := numR_small h'
  have HS := Lib.hid (size_all m (numR_i64 h))
  have HS2 := Lib.hid (size_all m' (numR_i64 h'))
  have hee : -80 ≤ e + e' ∧ e + e' ≤ 80 := by omega
  have wee : IntKind.i64.wrap (e + e') = e + e' := IntWalk.i64_in _ (by omega)
  have wee2 : wrap64 (e + e') = e + e' := IntWalk.wrap64_in _ (by omega)
  have HEE := Lib.hid hee
  have HWEE := Lib.hid wee
  have HWEE2 := Lib.hid wee2
  clear hee wee wee2
  obtain ⟨a, ha⟩ : ∃ a, a = m.natAbs := ⟨_, rfl⟩
  obtain ⟨b, hb2⟩ : ∃ b, b = m'.natAbs := ⟨_, rfl⟩
  obtain ⟨R, hR⟩ : ∃ R, R = mulG m e m' e' := ⟨_, rfl⟩
  have ER := Lib.hid hR
  rw [← hR]
  unfold mulG mulR at hR
  simp only at hR
  rw [← ha, ← hb2] at hR
  rw [← ha] at HS
  rw [← hb2] at HS2
  have hP : a * b < 1000000000000000 * 1000000000000000 := Nat.mul_lt_mul'' (by omega) (by omega)
  have HM := Lib.hid (fun w => Tryz.bits_Mul64 a b (by omega) (by omega) w)
  obtain ⟨hi, hhi⟩ : ∃ hi, hi = a * b / 18446744073709551616 := ⟨_, rfl⟩
  obtain ⟨lo, hlo⟩ : ∃ lo, lo = a * b % 18446744073709551616 := ⟨_, rfl⟩
  rw [← hhi, ← hlo] at HM hR
  have hG := gD_ok hi lo (by generalize a * b = x at *; omega) (by generalize a * b = x at *; omega)
  obtain ⟨q, hq⟩ : ∃ q, q = (gD hi lo).1 := ⟨_, rfl⟩
  obtain ⟨t, ht⟩ : ∃ t, t = (gD hi lo).2 := ⟨_, rfl⟩
  rw [← hq, ← ht] at hG hR
  obtain ⟨bq, bt, hG⟩ := hG
  have HG := Lib.hid hG
  rw [Nat.mod_eq_of_lt (show 1000000000000000 + t < 18446744073709551616 by omega)] at hR
  obtain ⟨s, hs⟩ : ∃ s, s = 1000000000000000 + t := ⟨_, rfl⟩
  have ws : IntKind.u64.wrap (1000000000000000 + (t : Int)) = (s : Int) := by rw [show 1000000000000000 + (t : Int) = (s : Int) by omega]; exact IntWalk.u64_in _ (by omega)
  rw [← hs] at hR
  have bd1 := digs_bd q bq
  have bd2 := digs_bd s (by omega)
  have two2 := digs_two (show 10 ≤ s by omega)
  have HD1 := Lib.hid (digitsOf_any q bq)
  have HD2 := Lib.hid (digitsOf_any s (by omega))
  generalize digs q = D1 at hR bd1 HD1
  generalize digs s = D2 at hR bd2 two2 HD2
  have hRR := Lib.hid hR
  clear hR hP hhi hlo hq ht hs hG h h' ha hb2 hb hb'
  go_enter Tryz.func28, Tryz.ntmps28
  go_wp2_with fail
  refine (HR.out _).mono ?_
  rintro r w1 ⟨rfl, hb1⟩
  have ev0 : w1.heap[w.heap.size]? = some (.cells #[.int .i64 m, .int .i64 e] 32 (0, 0)) := (hb1.block _ (by simp; omega)).trans (by (repeat (first | (with_reducible refine bw5 ?_ _; (first | rfl | (simp; done) | omega | (simp; omega)); done) | with_reducible refine bw6 ?_ _ | with_reducible refine bw7 ?_ | with_reducible refine bw8 ?_)))
  have ev1 : w1.heap[w.heap.size + 1]? = some (.cells #[.int .i64 m', .int .i64 e'] 32 (0, 0)) := (hb1.block _ (by simp)).trans (by (repeat (first | (with_reducible refine bw5 ?_ _; (first | rfl | (simp; done) | omega | (simp; omega)); done) | with_reducible refine bw6 ?_ _ | with_reducible refine bw7 ?_ | with_reducible refine bw8 ?_)))
  have ev2 : w1.heap[w.heap.size + 1 + 1]? = some (.cells #[.int .i64 0, .int .i64 0] 32 (0, 0)) := (hb1.block _ (by simp)).trans (by (repeat (first | (with_reducible refine bw5 ?_ _; (first | rfl | (simp; done) | omega | (simp; omega)); done) | with_reducible refine bw6 ?_ _ | with_reducible refine bw7 ?_ | with_reducible refine bw8 ?_)))
  have FB1 : Hid (Below w.heap.size w w1) := by
    refine Below.trans ?_ (hb1.mono (by simp; omega))
    (repeat with_reducible (first | exact bw0 _ _ | exact hBW | refine bw1 ?_ ?_ _ | refine bw2 ?_ ?_ _ | refine bw3 ?_ _ | refine bw4 ?_)); all_goals (first | omega | (dsimp only; omega) | ((repeat with_reducible (first | refine lz1 ?_ | refine lz2 ?_ | refine lz3 ?_ | refine lz4 ?_)); omega))
  have EV0 := Lib.hid ev0
  have EV1 := Lib.hid ev1
  have EV2 := Lib.hid ev2
  clear hb1
  have k0 := cell_of_heap ev1 0
  have k1 := cell_of_heap ev1 1
  have z1 := lt_of_heap ev1
  clear ev0 ev1 ev2
  go_wp2_with fail
  refine (HR2.out _).mono ?_
  rintro r w2 ⟨rfl, hb2⟩
  have ev0 := (hb2.block _ (lt_of_heap EV0.out)).trans EV0.out
  have ev1 := (hb2.block _ (lt_of_heap EV1.out)).trans EV1.out
  have FB2 : Hid (Below w.heap.size w w2) := FB1.out.trans (hb2.mono FB1.out.size)
  clear k0 k1 z1
  have k0 := cell_of_heap ev0 0
  have k1 := cell_of_heap ev0 1
  have j0 := cell_of_heap ev1 0
  have j1 := cell_of_heap ev1 1
  have z0 := lt_of_heap ev0
  have z1 := lt_of_heap ev1
  have EV0 := Lib.hid ev0
  have EV1 := Lib.hid ev1
  have EV2 := Lib.hid ((hb2.block _ (lt_of_heap EV2.out)).trans EV2.out)
  clear hb2 ev0 ev1
  have HT2 := Lib.hid (htab.below FB2.out)
  clear htab
  go_wp2_with fail
  refine wp_region_mix3 [0, 1, 3, 4] [2, 5, 6, 7, 8, 9, 10, 11] [5, 6, 7, 8, 9, 10, 11] [8, 9] (Below w2.heap.size w2) (by kernel_rfl) (by kernel_rfl) (Below.refl _ _).drew ?_
  iterate 4 (first | (apply first_step; (rw [List.getElem?_toArray]; (repeat rw [List.getElem?_cons_succ]); rw [List.getElem?_cons_zero]); rfl; (intro W hB; have hc := bcellB hB; go_simp; (first | done | rfl)); go_frame) | (apply first_skip; (rw [List.getElem?_toArray]; (repeat rw [List.getElem?_cons_succ]); rw [List.getElem?_cons_zero]); rfl; go_frame))
  refine first_done ?_
  apply tail_step; (rw [List.getElem?_toArray]; (repeat rw [List.getElem?_cons_succ]); rw [List.getElem?_cons_zero]); rfl; rfl; intro K hK; go_simp
  refine (HS.out _).mono ?_
  rintro r w3 ⟨rfl, rfl⟩
  refine hK _ _ (fun _ => (Below.refl _ w2).drew) ?_
  clear hK K
  apply tail_step; (rw [List.getElem?_toArray]; (repeat rw [List.getElem?_cons_succ]); rw [List.getElem?_cons_zero]); rfl; rfl; intro K hK; go_simp
  refine (HS2.out _).mono ?_
  rintro r w3 ⟨rfl, rfl⟩
  refine hK _ _ (fun h => absurd (by decide) h) ?_
  clear hK K
  apply tail_step; (rw [List.getElem?_toArray]; (repeat rw [List.getElem?_cons_succ]); rw [List.getElem?_cons_zero]); rfl; rfl; intro K hK; go_simp
  refine (HM.out _).mono ?_
  rintro r w3 ⟨rfl, rfl⟩
  refine hK _ _ (fun h => absurd (by decide) h) ?_
  clear hK K
  (apply tail_step; (rw [List.getElem?_toArray]; (repeat rw [List.getElem?_cons_succ]); rw [List.getElem?_cons_zero]); rfl; rfl; intro K hK; go_simp; refine hK _ _ (fun h => absurd (by decide) h) ?_; clear hK K)
  (apply tail_pure; (rw [List.getElem?_toArray]; (repeat rw [List.getElem?_cons_succ]); rw [List.getElem?_cons_zero]); rfl; rfl; (intro W; go_simp; (first | done | rfl)); go_frame)
  (apply tail_pure; (rw [List.getElem?_toArray]; (repeat rw [List.getElem?_cons_succ]); rw [List.getElem?_cons_zero]); rfl; rfl; (intro W; go_simp; (first | done | rfl)); go_frame)
  iterate 2 (apply tail_step; (rw [List.getElem?_toArray]; (repeat rw [List.getElem?_cons_succ]); rw [List.getElem?_cons_zero]); rfl; rfl; intro K hK; go_simp; refine hK _ _ (fun h => absurd (by decide) h) ?_; clear hK K)
  refine tail_done ?_
  go_wp2_with fail
  refine (HG.out _).mono ?_
  rintro r w3 ⟨rfl, hb3⟩
  have HB3 : Hid (Below w2.heap.size w2 w3) := (Below.refl _ w2).drew.trans hb3
  clear hb3 k0 k1 j0 j1 z0 z1
  go_wp2_with fail
  refine (HD1.out _ (HT2.out.below HB3.out)).mono ?_
  rintro r w4 ⟨v4, rfl, hown4, hb4⟩
  obtain ⟨b4, cap4, rfl, _, _⟩ := own_tail hown4 bd1.1
  have HB4 := Lib.hid (HB3.out.trans (hb4.mono HB3.out.size))
  have HOWN4 := Lib.hid hown4
  have hz3 := HB3.out.size
  have h34 := hb4.size
  clear hb4 hown4
  go_wp2_with fail
  refine (HD2.out _ (HT2.out.below HB4.out)).mono ?_
  rintro r w5 ⟨v5, rfl, hown5, hb5⟩
  obtain ⟨b5, cap5, rfl, hcap5, hsrc5⟩ := own_tail hown5 bd2.1
  have HB5 := Lib.hid (HB4.out.trans (hb5.mono HB4.out.size))
  have HOWN5 := Lib.hid (own_of_block (w' := w5) HOWN4.out (fun k _ hk => hb5.block k hk))
  have HSRC := Lib.hid hsrc5
  have hz4 := HB4.out.size
  have hz5 := HB5.out.size
  have h35 : w3.heap.size ≤ w5.heap.size := Nat.le_trans h34 hb5.size
  have c51 : (cap5 == 1) = false := by simp; omega
  have c52 : ¬ cap5 = 1 := by omega
  have c53 : 1 < cap5 := by omega
  have bd22 := bd2.2.1
  have bd12 := bd1.2.1
  obtain ⟨i0, hi, hz0, hz1, hz2⟩ := info_parts info5
  have HI := Lib.hid hi
  have HZ0 := Lib.hid hz0
  have HZ1 := Lib.hid hz1
  have HZ2 := Lib.hid hz2
  clear hb5 hown5 hsrc5 hi hz0 hz1 hz2
  go_wp2_with (
    at_builtin
    refine wpList_append_src rfl _ _ 87 rfl w3.heap.size 5 i0 (.int .u8 0) 1 1 Tryz.underlying87 HI.out HZ0.out HZ1.out HZ2.out rfl (by decide) _ D1.length (D1.map dv) rfl HOWN5.out (some ⟨b5, 1, none⟩) (D2.length - 1) (cap5 - 1) ((D2.drop 1).map dv) rfl (by simp) (fun _ => ⟨_, rfl, HSRC.out⟩) (by intro u hu; obtain ⟨d, _, rfl⟩ := List.mem_map.1 hu; rfl) (by unfold maxLen; omega) (by omega) (by omega) ?_
    intro v' w6 hown6 hgrow6
    have hne5 : ∀ k, (Value.slice (some ⟨b4, 0, none⟩) D1.length cap4).ownBlock = some k → w3.heap.size ≤ k := fun k hk => (HOWN5.out.lt k hk).1
    obtain ⟨D3, hD3⟩ : ∃ D3, D3 = D1 ++ D2.drop 1 := ⟨_, rfl⟩
    have hl3 : D3.length = D1.length + (D2.length - 1) := by rw [hD3]; simp
    have hown6' : w6.ownsRow w3.heap.size 5 1 v' D3.length (D3.map dv) := by rw [hl3, hD3, List.map_append]; exact hown6
    obtain ⟨g6, c6, rfl, d6⟩ := dgs_of_own hown6' (by
      intro d hd
      rw [hD3] at hd
      rcases List.mem_append.1 hd with hd | hd
      · exact bd1.2.2 d hd
      · exact bd2.2.2 d (List.mem_of_mem_drop hd)) (by omega)
    have HB6 : Hid (Below w2.heap.size w2 w6) := HB5.out.grown hgrow6 hz5 (fun k e => by have := hne5 k e; omega)
    have ER : Hid (R = roundP (decide (m < 0) != decide (m' < 0)) D3 (e + e')) := by rw [hD3]; exact hRR.out
    have D6 := Lib.hid d6
    have hl4 : D3.length ≤ 100000 := by omega
    have q0 := (HB6.out.block _ (lt_of_heap EV0.out)).trans EV0.out
    have q1 := (HB6.out.block _ (lt_of_heap EV1.out)).trans EV1.out
    have k0 := cell_of_heap q0 0
    have k1 := cell_of_heap q0 1
    have j0 := cell_of_heap q1 0
    have j1 := cell_of_heap q1 1
    have z0 := lt_of_heap q0
    have z1 := lt_of_heap q1
    have wee := HWEE.out
    have wee2 := HWEE2.out
    have hw36 : w3.heap.size ≤ w6.heap.size := by have := hgrow6.size; have := HB5.out.size; omega
    clear hown6 hown6' hgrow6 hD3 hl3 d6 q0 q1 hne5 c51 c52 c53 two2 bd1 bd2 bd12 bd22
  )
  have HRN := round_any (!(decide (m < 0) == decide (m' < 0))) (e + e') _ hw36 D6.out hl4 (by have := HEE.out; omega)
  refine HRN.mono ?_
  clear HRN
  rintro r w8 ⟨rfl, f8⟩
  have hgb := D6.out.le
  have HB8 : Hid (Below w2.heap.size w2 w8) := HB6.out.trans (f8.below HB6.out.size (fun k hk => by rw [hk]; omega))
  have ER1 : Hid (R = roundP (!(decide (m < 0) == decide (m' < 0))) D3 (e + e')) := ER.out
  generalize roundP (!(decide (m < 0) == decide (m' < 0))) D3 (e + e') = RR at ER1 ⊢
  obtain ⟨⟨rm, rx⟩, rk⟩ := RR
  have q2 := (HB8.out.block _ (lt_of_heap EV2.out)).trans EV2.out
  have x0 := cell_of_heap q2
  have y0 := frozen_of_heap q2
  have z2 := lt_of_heap q2
  have HBW : Hid (Below w.heap.size w w8) := FB2.out.trans (HB8.out.mono FB2.out.size)
  clear f8 q2 D6 ER EV0 EV1 EV2 HB8 hgb k0 k1 j0 j1 z0 z1 wee wee2
  unfold NumV
  simp only
  go_wp2_with fail
  refine bodyPost_ret (v := .tuple #[.agg #[.int .i64 rm, .int .i64 rx], .bool rk]) (by simp [results, Tryz.results28, go_sem, x0]) rfl ⟨by rw [ER1.out]; rfl, ?_⟩
  have hBW := HBW.out
  (repeat with_reducible (first | exact bw0 _ _ | exact hBW | refine bw1 ?_ ?_ _ | refine bw2 ?_ ?_ _ | refine bw3 ?_ _ | refine bw4 ?_)); all_goals (first | omega | (dsimp only; omega) | ((repeat with_reducible (first | refine lz1 ?_ | refine lz2 ?_ | refine lz3 ?_ | refine lz4 ?_)); omega))
end
end Go.Proofs.YtndhmahkglfopaaGreatDoor
/- num.Pow. -/
namespace Go.Proofs.YtndhmahkglfopaaGreatDoor
open Go.RowKit
structure PowSt (w1 : World) (b : Nat) (m e : Int) (n k : Nat) (p : Int × Int) (wr : World) : Prop where
  blk : wr.heap[b]? = some (.cells #[.int .i64 p.1, .int .i64 p.2] 32 (0, 0))
  right : numR p.1 p.2 = true
  eq : powL gD m e (n - k) p = powL gD m e n (1, 0)
  bel : Below w1.heap.size w1 wr
section
variable (m e : Int) (w : World)
set_option maxHeartbeats 4000000
set_option maxRecDepth 100000
theorem pow_pos (h : numR m e = true) (n : Nat) (hn : n ≤ 1000) (htab : Tab w) : Calls Tryz.prog 69 #[.agg #[.int .i64 m, .int .i64 e], .int .i64 n] w (NumPost w (powN gD m e n)) := by
  have HR := Lib.hid (right_yes h)
  obtain ⟨R, hR⟩ : ∃ R, R = powN gD m e n := ⟨_, rfl⟩
  rw [← hR]
  have ER := Lib.hid hR
  have HM := Lib.hid (fun (p : Int × Int) (hp : numR p.1 p.2 = true) w htab => mul_yes p.1 p.2 m e w hp h htab)
  have HT := Lib.hid htab
  have d1 : decide ((n : Int) < -1000) = false := decide_eq_false (by omega)
  have d2 : decide (1000 < (n : Int)) = false := decide_eq_false (by omega)
  have d3 : decide ((n : Int) < 0) = false := decide_eq_false (by omega)
  clear h hR htab
  go_enter Tryz.func69, Tryz.ntmps69
  go_wp2_with fail
  refine (HR.out _).mono ?_
  rintro r w1 ⟨rfl, hb1⟩
  have ev0 : w1.heap[w.heap.size]? = some (.cells #[.int .i64 m, .int .i64 e] 32 (0, 0)) := (hb1.block _ (by simp <;> omega)).trans (by (repeat (first | (with_reducible refine bw5 ?_ _; (first | rfl | (simp; done) | omega | (simp; omega)); done) | with_reducible refine bw6 ?_ _ | with_reducible refine bw7 ?_ | with_reducible refine bw8 ?_)))
  have ev1 : w1.heap[w.heap.size + 1]? = some (.cells #[.int .i64 0, .int .i64 0] 32 (0, 0)) := (hb1.block _ (by simp)).trans (by (repeat (first | (with_reducible refine bw5 ?_ _; (first | rfl | (simp; done) | omega | (simp; omega)); done) | with_reducible refine bw6 ?_ _ | with_reducible refine bw7 ?_ | with_reducible refine bw8 ?_)))
  have FB1 : Hid (Below w.heap.size w w1) := by
    refine Below.trans ?_ (hb1.mono (by simp <;> omega))
    (repeat with_reducible (first | exact bw0 _ _ | exact hBW | refine bw1 ?_ ?_ _ | refine bw2 ?_ ?_ _ | refine bw3 ?_ _ | refine bw4 ?_)); all_goals (first | omega | (dsimp only; omega) | ((repeat with_reducible (first | refine lz1 ?_ | refine lz2 ?_ | refine lz3 ?_ | refine lz4 ?_)); omega))
  have k0 := cell_of_heap ev0 0
  have k1 := cell_of_heap ev0 1
  have z0 := lt_of_heap ev0
  have x1 := cell_of_heap ev1
  have y1 := frozen_of_heap ev1
  have z1 := lt_of_heap ev1
  have EV0 := Lib.hid ev0
  have EV1 := Lib.hid ev1
  clear hb1 ev0 ev1 HR
  have HT1 := Lib.hid (HT.out.below FB1.out)
  go_wp2_with fail
  refine abs_world ?_
  intro W2 hW2
  have hb2 : Below w1.heap.size w1 W2 := by rw [hW2]; (repeat with_reducible (first | exact bw0 _ _ | exact hBW | refine bw1 ?_ ?_ _ | refine bw2 ?_ ?_ _ | refine bw3 ?_ _ | refine bw4 ?_)); all_goals (first | omega | (dsimp only; omega) | ((repeat with_reducible (first | refine lz1 ?_ | refine lz2 ?_ | refine lz3 ?_ | refine lz4 ?_)); omega))
  have e9 : W2.heap[w1.heap.size + 1]? = some (.cells #[.int .i64 1, .int .i64 0] 32 (0, 0)) := by rw [hW2]; (repeat (first | (with_reducible refine bw5 ?_ _; (first | rfl | (simp; done) | omega | (simp; omega)); done) | with_reducible refine bw6 ?_ _ | with_reducible refine bw7 ?_ | with_reducible refine bw8 ?_))
  have S0 : Hid (PowSt w1 (w1.heap.size + 1) m e n 0 (1, 0) W2) := ⟨e9, numR_one, rfl, hb2⟩
  clear hW2 hb2 e9 k0 k1 x1 y1 z0 z1
  go_loopw [44] (fun x44 wr => ∃ (k : Nat) (p : Int × Int), x44 = .int .i64 k ∧ k ≤ n ∧ Hid (PowSt w1 (w1.heap.size + 1) m e n k p wr)) (fun x44 _ => n - (intOf x44).toNat)
  case atStart => exact ⟨0, (1, 0), rfl, Nat.zero_le _, S0⟩
  case round =>
    clear S0
    obtain ⟨k, ⟨p, px⟩, rfl, hk, hS⟩ := hrel
    have q0 := (hS.out.bel.block _ (lt_of_heap EV0.out)).trans EV0.out
    have q1 := (hS.out.bel.block _ (lt_of_heap EV1.out)).trans EV1.out
    have k0 := cell_of_heap q0 0
    have k1 := cell_of_heap q0 1
    have z0 := lt_of_heap q0
    have x1 := cell_of_heap q1
    have y1 := frozen_of_heap q1
    have z1 := lt_of_heap q1
    have p0 := cell_of_heap hS.out.blk 0
    have p1 := cell_of_heap hS.out.blk 1
    have yp := frozen_of_heap hS.out.blk
    have zp := lt_of_heap hS.out.blk
    simp only at p0 p1
    clear q0 q1
    by_cases hlt : k < n
    · have HC := Lib.hid (HM.out (p, px) hS.out.right wr (HT1.out.below hS.out.bel))
      obtain ⟨j, hj⟩ : ∃ j, n - k = j + 1 := ⟨n - k - 1, by omega⟩
      have EQ : Hid (powL gD m e n (1, 0) = if (mulR gD p px m e).2 then powL gD m e j (mulR gD p px m e).1 else none) := by
        unfold Hid
        rw [← hS.out.eq, hj]
        rfl
      have HMR : Hid (numR (mulR gD p px m e).1.1 (mulR gD p px m e).1.2 = true) := mulR_right _ _ _ _ _
      have HJ : Hid (j = n - (k + 1)) := by unfold Hid; omega
      unfold mulG at HC
      generalize mulR gD p px m e = M at HC EQ HMR
      obtain ⟨⟨rm, rx⟩, rk⟩ := M
      have HBL := Lib.hid hS.out.bel
      have HBK := Lib.hid hS.out.blk
      have hzw := hS.out.bel.size
      unfold NumPost NumV at HC
      simp only at HC
      clear hj hS
      go_wp2_with fail
      refine HC.out.mono ?_
      rintro r w3 ⟨rfl, hb3⟩
      have HB3 := Lib.hid (HBL.out.trans (hb3.mono HBL.out.size))
      have hzz := hb3.size
      have q1 := (HB3.out.block _ (lt_of_heap EV1.out)).trans EV1.out
      have q9 := (hb3.block _ (lt_of_heap HBK.out)).trans HBK.out
      have Q9 := Lib.hid q9
      clear k0 k1 z0 x1 y1 z1 p0 p1 yp zp hb3
      have x1 := cell_of_heap q1
      have y1 := frozen_of_heap q1
      have z1 := lt_of_heap q1
      have p0 := cell_of_heap q9
      have yp := frozen_of_heap q9
      have zp := lt_of_heap q9
      clear q1 q9
      cases rk with
      | true =>
        have EQ2 : Hid (powL gD m e j (rm, rx) = powL gD m e n (1, 0)) := by have := EQ.out; unfold Hid; rw [this]; rfl
        clear EQ
        go_wp2_with fail
        have hb9 : w1.heap.size ≤ w1.heap.size + 1 := Nat.le_succ _
        have hw3 := HB3.out.size
        go_roundw
        case rel =>
          refine ⟨k + 1, (rm, rx), by go_num, by omega, ⟨?_, HMR.out, by rw [← HJ.out]; exact EQ2.out, ?_⟩⟩
          · exact heap_alloc_old (heap_setCell_at (heap_setCell_at Q9.out 0 (.int .i64 rm)) 1 (.int .i64 rx)) _
          · have hBW := HB3.out
            (repeat with_reducible (first | exact bw0 _ _ | exact hBW | refine bw1 ?_ ?_ _ | refine bw2 ?_ ?_ _ | refine bw3 ?_ _ | refine bw4 ?_)); all_goals (first | omega | (dsimp only; omega) | ((repeat with_reducible (first | refine lz1 ?_ | refine lz2 ?_ | refine lz3 ?_ | refine lz4 ?_)); omega))
        case measure => simp [intOf]; omega
      | false =>
        have EQ2 : Hid (R = noR) := by unfold Hid; rw [ER.out]; unfold powN; rw [EQ.out]; rfl
        have HBW := Lib.hid (FB1.out.trans (HB3.out.mono FB1.out.size))
        clear EQ
        go_wp2_with fail
        refine bodyPost_ret (v := .tuple #[.agg #[.int .i64 0, .int .i64 0], .bool false]) (by simp [results, Tryz.results69, go_sem, x1, z1]) rfl ⟨by rw [EQ2.out]; rfl, ?_⟩
        have hBW := HBW.out
        (repeat with_reducible (first | exact bw0 _ _ | exact hBW | refine bw1 ?_ ?_ _ | refine bw2 ?_ ?_ _ | refine bw3 ?_ _ | refine bw4 ?_)); all_goals (first | omega | (dsimp only; omega) | ((repeat with_reducible (first | refine lz1 ?_ | refine lz2 ?_ | refine lz3 ?_ | refine lz4 ?_)); omega))
    · have EQ2 : Hid (R = ((p, px), true)) := by
        have := hS.out.eq
        rw [show n - k = 0 by omega] at this
        unfold Hid
        rw [ER.out]
        unfold powN
        rw [← this]
        rfl
      have HBW := Lib.hid (FB1.out.trans (hS.out.bel.mono FB1.out.size))
      clear hS
      go_wp2_with fail
      refine bodyPost_ret (v := .tuple #[.agg #[.int .i64 p, .int .i64 px], .bool true]) (by simp [results, Tryz.results69, go_sem, x1]) rfl ⟨by rw [EQ2.out]; rfl, ?_⟩
      have hBW := HBW.out
      (repeat with_reducible (first | exact bw0 _ _ | exact hBW | refine bw1 ?_ ?_ _ | refine bw2 ?_ ?_ _ | refine bw3 ?_ _ | refine bw4 ?_)); all_goals (first | omega | (dsimp only; omega) | ((repeat with_reducible (first | refine lz1 ?_ | refine lz2 ?_ | refine lz3 ?_ | refine lz4 ?_)); omega))
theorem pow_neg (h : numR m e = true) (n : Nat) (hn : n ≤ 1000) (hn0 : 0 < n) (htab : Tab w) : Calls Tryz.prog 69 #[.agg #[.int .i64 m, .int .i64 e], .int .i64 (-(n : Int))] w (NumPost w (if (powN gD m e n).2 then divR 1 0 (powN gD m e n).1.1 (powN gD m e n).1.2 else noR)) := by
  have HR := Lib.hid (right_yes h)
  have HC := Lib.hid (fun w htab => pow_pos m e w h n hn htab)
  have HMR : Hid (numR (powN gD m e n).1.1 (powN gD m e n).1.2 = true) := powN_right _ _ _ _
  obtain ⟨R, hR⟩ : ∃ R, R = (if (powN gD m e n).2 then divR 1 0 (powN gD m e n).1.1 (powN gD m e n).1.2 else noR) := ⟨_, rfl⟩
  rw [← hR]
  have ER := Lib.hid hR
  have HT := Lib.hid htab
  clear hR h htab
  generalize powN gD m e n = M at HC HMR ER
  obtain ⟨⟨rm, rx⟩, rk⟩ := M
  unfold NumPost NumV at HC
  simp only at HC
  have d1 : decide (-(n : Int) < -1000) = false := decide_eq_false (by omega)
  have d2 : decide (1000 < -(n : Int)) = false := decide_eq_false (by omega)
  have d3 : decide (-(n : Int) < 0) = true := decide_eq_true (by omega)
  have wn : IntKind.i64.wrap (- -(n : Int)) = (n : Int) := by rw [Int.neg_neg]; exact IntWalk.i64_in _ (by omega)
  have wn2 : wrap64 (- -(n : Int)) = (n : Int) := by rw [Int.neg_neg]; exact IntWalk.wrap64_in _ (by omega)
  have wn3 : IntKind.i64.wrap (n : Int) = (n : Int) := IntWalk.i64_in _ (by omega)
  have wn4 : wrap64 (n : Int) = (n : Int) := IntWalk.wrap64_in _ (by omega)
  obtain ⟨N, hN⟩ : ∃ N : Int, N = -(n : Int) := ⟨_, rfl⟩
  rw [← hN] at d1 d2 d3 wn wn2 ⊢
  clear hN hn hn0
  go_enter Tryz.func69, Tryz.ntmps69
  go_wp2_with fail
  refine (HR.out _).mono ?_
  rintro r w1 ⟨rfl, hb1⟩
  have ev0 : w1.heap[w.heap.size]? = some (.cells #[.int .i64 m, .int .i64 e] 32 (0, 0)) := (hb1.block _ (by simp <;> omega)).trans (by (repeat (first | (with_reducible refine bw5 ?_ _; (first | rfl | (simp; done) | omega | (simp; omega)); done) | with_reducible refine bw6 ?_ _ | with_reducible refine bw7 ?_ | with_reducible refine bw8 ?_)))
  have ev1 : w1.heap[w.heap.size + 1]? = some (.cells #[.int .i64 0, .int .i64 0] 32 (0, 0)) := (hb1.block _ (by simp)).trans (by (repeat (first | (with_reducible refine bw5 ?_ _; (first | rfl | (simp; done) | omega | (simp; omega)); done) | with_reducible refine bw6 ?_ _ | with_reducible refine bw7 ?_ | with_reducible refine bw8 ?_)))
  have FB1 : Hid (Below w.heap.size w w1) := by
    refine Below.trans ?_ (hb1.mono (by simp <;> omega))
    (repeat with_reducible (first | exact bw0 _ _ | exact hBW | refine bw1 ?_ ?_ _ | refine bw2 ?_ ?_ _ | refine bw3 ?_ _ | refine bw4 ?_)); all_goals (first | omega | (dsimp only; omega) | ((repeat with_reducible (first | refine lz1 ?_ | refine lz2 ?_ | refine lz3 ?_ | refine lz4 ?_)); omega))
  have k0 := cell_of_heap ev0 0
  have k1 := cell_of_heap ev0 1
  have z0 := lt_of_heap ev0
  have x1 := cell_of_heap ev1
  have y1 := frozen_of_heap ev1
  have z1 := lt_of_heap ev1
  have EV0 := Lib.hid ev0
  have EV1 := Lib.hid ev1
  clear hb1 ev0 ev1 HR
  have HT1 := Lib.hid (HT.out.below FB1.out)
  go_wp2_with fail
  refine (HC.out _ (HT1.out.below (by (repeat with_reducible (first | exact bw0 _ _ | exact hBW | refine bw1 ?_ ?_ _ | refine bw2 ?_ ?_ _ | refine bw3 ?_ _ | refine bw4 ?_)); all_goals (first | omega | (dsimp only; omega) | ((repeat with_reducible (first | refine lz1 ?_ | refine lz2 ?_ | refine lz3 ?_ | refine lz4 ?_)); omega))))).mono ?_
  rintro r w3 ⟨rfl, hb3⟩
  have e6 : w3.heap[w1.heap.size]? = some (.cells #[.int .i64 1, .int .i64 0] 32 (0, 0)) := (hb3.block _ (by simp)).trans (by (repeat (first | (with_reducible refine bw5 ?_ _; (first | rfl | (simp; done) | omega | (simp; omega)); done) | with_reducible refine bw6 ?_ _ | with_reducible refine bw7 ?_ | with_reducible refine bw8 ?_)))
  have hB3 : Below w1.heap.size w1 w3 := by
    refine Below.trans ?_ (hb3.mono (by simp))
    (repeat with_reducible (first | exact bw0 _ _ | exact hBW | refine bw1 ?_ ?_ _ | refine bw2 ?_ ?_ _ | refine bw3 ?_ _ | refine bw4 ?_)); all_goals (first | omega | (dsimp only; omega) | ((repeat with_reducible (first | refine lz1 ?_ | refine lz2 ?_ | refine lz3 ?_ | refine lz4 ?_)); omega))
  have q1 := (hB3.block _ (lt_of_heap EV1.out)).trans EV1.out
  have HB3 := Lib.hid hB3
  clear hb3 hB3 k0 k1 z0 x1 y1 z1
  have x1 := cell_of_heap q1
  have y1 := frozen_of_heap q1
  have z1 := lt_of_heap q1
  have c0 := cell_of_heap e6 0
  have c1 := cell_of_heap e6 1
  have z6 := lt_of_heap e6
  have Q1 := Lib.hid q1
  clear e6 q1
  cases rk with
  | false =>
    have EQ2 : Hid (R = noR) := by unfold Hid; rw [ER.out]; rfl
    have HBW := Lib.hid (FB1.out.trans (HB3.out.mono FB1.out.size))
    clear ER
    go_wp2_with fail
    refine bodyPost_ret (v := .tuple #[.agg #[.int .i64 0, .int .i64 0], .bool false]) (by simp [results, Tryz.results69, go_sem, x1, z1]) rfl ⟨by rw [EQ2.out]; rfl, ?_⟩
    have hBW := HBW.out
    (repeat with_reducible (first | exact bw0 _ _ | exact hBW | refine bw1 ?_ ?_ _ | refine bw2 ?_ ?_ _ | refine bw3 ?_ _ | refine bw4 ?_)); all_goals (first | omega | (dsimp only; omega) | ((repeat with_reducible (first | refine lz1 ?_ | refine lz2 ?_ | refine lz3 ?_ | refine lz4 ?_)); omega))
  | true =>
    have EQ2 : Hid (R = divR 1 0 rm rx) := by unfold Hid; rw [ER.out]; rfl
    have HRR : Hid (numR rm rx = true) := HMR.out
    clear ER HMR
    go_wp2_with fail
    have HDV : Hid (∀ W, Tab W → Calls Tryz.prog 66 #[.agg #[.int .i64 1, .int .i64 0], .agg #[.int .i64 rm, .int .i64 rx]] W (NumPost W (divR 1 0 rm rx))) := fun W hW => by
      by_cases h0 : rm = 0
      · have hr := HRR.out
        subst h0
        have := div_zero2 1 0 rx W numR_one hr
        unfold divR
        rw [if_pos rfl]
        exact this
      · exact div_yes 1 0 rm rx W numR_one HRR.out h0 hW
    rw [← EQ2.out] at HDV
    obtain ⟨⟨qm, qx⟩, qk⟩ := R
    unfold NumPost NumV at HDV
    simp only at HDV
    refine (HDV.out _ (HT1.out.below (by have hBW := HB3.out; (repeat with_reducible (first | exact bw0 _ _ | exact hBW | refine bw1 ?_ ?_ _ | refine bw2 ?_ ?_ _ | refine bw3 ?_ _ | refine bw4 ?_)); all_goals (first | omega | (dsimp only; omega) | ((repeat with_reducible (first | refine lz1 ?_ | refine lz2 ?_ | refine lz3 ?_ | refine lz4 ?_)); omega))))).mono ?_
    rintro r w4 ⟨rfl, hb4⟩
    have hB4 : Below w3.heap.size w3 w4 := by
      refine Below.trans ?_ (hb4.mono (by simp))
      (repeat with_reducible (first | exact bw0 _ _ | exact hBW | refine bw1 ?_ ?_ _ | refine bw2 ?_ ?_ _ | refine bw3 ?_ _ | refine bw4 ?_)); all_goals (first | omega | (dsimp only; omega) | ((repeat with_reducible (first | refine lz1 ?_ | refine lz2 ?_ | refine lz3 ?_ | refine lz4 ?_)); omega))
    have q1 := (hB4.block _ (lt_of_heap Q1.out)).trans Q1.out
    have HBW := Lib.hid (FB1.out.trans ((HB3.out.trans (hB4.mono HB3.out.size)).mono FB1.out.size))
    clear x1 y1 z1 hb4 hB4 c0 c1 z6
    have x1 := cell_of_heap q1
    have y1 := frozen_of_heap q1
    have z1 := lt_of_heap q1
    clear q1
    go_wp2_with fail
    refine bodyPost_ret (v := .tuple #[.agg #[.int .i64 qm, .int .i64 qx], .bool qk]) (by simp [results, Tryz.results69, go_sem, x1]) rfl ⟨rfl, ?_⟩
    have hBW := HBW.out
    (repeat with_reducible (first | exact bw0 _ _ | exact hBW | refine bw1 ?_ ?_ _ | refine bw2 ?_ ?_ _ | refine bw3 ?_ _ | refine bw4 ?_)); all_goals (first | omega | (dsimp only; omega) | ((repeat with_reducible (first | refine lz1 ?_ | refine lz2 ?_ | refine lz3 ?_ | refine lz4 ?_)); omega))
end
theorem pow_out1 (m e : Int) (w : World) (h : numR m e = true) (k : Int) (hk : k < -1000) : Calls Tryz.prog 69 #[.agg #[.int .i64 m, .int .i64 e], .int .i64 k] w (NumPost w noR) := by
  have HR := Lib.hid (right_yes h)
  have d1 : decide (k < -1000) = true := decide_eq_true hk
  clear h hk
  go_enter Tryz.func69, Tryz.ntmps69
  go_wp2_with fail
  refine (HR.out _).mono ?_
  rintro r w1 ⟨rfl, hb1⟩
  have ev0 : w1.heap[w.heap.size]? = some (.cells #[.int .i64 m, .int .i64 e] 32 (0, 0)) := (hb1.block _ (by simp <;> omega)).trans (by (repeat (first | (with_reducible refine bw5 ?_ _; (first | rfl | (simp; done) | omega | (simp; omega)); done) | with_reducible refine bw6 ?_ _ | with_reducible refine bw7 ?_ | with_reducible refine bw8 ?_)))
  have ev1 : w1.heap[w.heap.size + 1]? = some (.cells #[.int .i64 0, .int .i64 0] 32 (0, 0)) := (hb1.block _ (by simp)).trans (by (repeat (first | (with_reducible refine bw5 ?_ _; (first | rfl | (simp; done) | omega | (simp; omega)); done) | with_reducible refine bw6 ?_ _ | with_reducible refine bw7 ?_ | with_reducible refine bw8 ?_)))
  have FB1 : Hid (Below w.heap.size w w1) := by
    refine Below.trans ?_ (hb1.mono (by simp <;> omega))
    (repeat with_reducible (first | exact bw0 _ _ | exact hBW | refine bw1 ?_ ?_ _ | refine bw2 ?_ ?_ _ | refine bw3 ?_ _ | refine bw4 ?_)); all_goals (first | omega | (dsimp only; omega) | ((repeat with_reducible (first | refine lz1 ?_ | refine lz2 ?_ | refine lz3 ?_ | refine lz4 ?_)); omega))
  have k0 := cell_of_heap ev0 0
  have k1 := cell_of_heap ev0 1
  have z0 := lt_of_heap ev0
  have x1 := cell_of_heap ev1
  have y1 := frozen_of_heap ev1
  have z1 := lt_of_heap ev1
  have EV0 := Lib.hid ev0
  have EV1 := Lib.hid ev1
  clear hb1 ev0 ev1 HR
  go_wp2_with fail
  refine bodyPost_ret (v := .tuple #[.agg #[.int .i64 0, .int .i64 0], .bool false]) (by simp [results, Tryz.results69, go_sem, x1]) rfl ⟨rfl, ?_⟩
  have hBW := FB1.out
  (repeat with_reducible (first | exact bw0 _ _ | exact hBW | refine bw1 ?_ ?_ _ | refine bw2 ?_ ?_ _ | refine bw3 ?_ _ | refine bw4 ?_)); all_goals (first | omega | (dsimp only; omega) | ((repeat with_reducible (first | refine lz1 ?_ | refine lz2 ?_ | refine lz3 ?_ | refine lz4 ?_)); omega))
theorem pow_out2 (m e : Int) (w : World) (h : numR m e = true) (k : Int) (hk : 1000 < k) : Calls Tryz.prog 69 #[.agg #[.int .i64 m, .int .i64 e], .int .i64 k] w (NumPost w noR) := by
  have HR := Lib.hid (right_yes h)
  have d1 : decide (k < -1000) = false := decide_eq_false (by omega)
  have d2 : decide (1000 < k) = true := decide_eq_true hk
  clear h hk
  go_enter Tryz.func69, Tryz.ntmps69
  go_wp2_with fail
  refine (HR.out _).mono ?_
  rintro r w1 ⟨rfl, hb1⟩
  have ev0 : w1.heap[w.heap.size]? = some (.cells #[.int .i64 m, .int .i64 e] 32 (0, 0)) := (hb1.block _ (by simp <;> omega)).trans (by (repeat (first | (with_reducible refine bw5 ?_ _; (first | rfl | (simp; done) | omega | (simp; omega)); done) | with_reducible refine bw6 ?_ _ | with_reducible refine bw7 ?_ | with_reducible refine bw8 ?_)))
  have ev1 : w1.heap[w.heap.size + 1]? = some (.cells #[.int .i64 0, .int .i64 0] 32 (0, 0)) := (hb1.block _ (by simp)).trans (by (repeat (first | (with_reducible refine bw5 ?_ _; (first | rfl | (simp; done) | omega | (simp; omega)); done) | with_reducible refine bw6 ?_ _ | with_reducible refine bw7 ?_ | with_reducible refine bw8 ?_)))
  have FB1 : Hid (Below w.heap.size w w1) := by
    refine Below.trans ?_ (hb1.mono (by simp <;> omega))
    (repeat with_reducible (first | exact bw0 _ _ | exact hBW | refine bw1 ?_ ?_ _ | refine bw2 ?_ ?_ _ | refine bw3 ?_ _ | refine bw4 ?_)); all_goals (first | omega | (dsimp only; omega) | ((repeat with_reducible (first | refine lz1 ?_ | refine lz2 ?_ | refine lz3 ?_ | refine lz4 ?_)); omega))
  have k0 := cell_of_heap ev0 0
  have k1 := cell_of_heap ev0 1
  have z0 := lt_of_heap ev0
  have x1 := cell_of_heap ev1
  have y1 := frozen_of_heap ev1
  have z1 := lt_of_heap ev1
  have EV0 := Lib.hid ev0
  have EV1 := Lib.hid ev1
  clear hb1 ev0 ev1 HR
  go_wp2_with fail
  refine bodyPost_ret (v := .tuple #[.agg #[.int .i64 0, .int .i64 0], .bool false]) (by simp [results, Tryz.results69, go_sem, x1]) rfl ⟨rfl, ?_⟩
  have hBW := FB1.out
  (repeat with_reducible (first | exact bw0 _ _ | exact hBW | refine bw1 ?_ ?_ _ | refine bw2 ?_ ?_ _ | refine bw3 ?_ _ | refine bw4 ?_)); all_goals (first | omega | (dsimp only; omega) | ((repeat with_reducible (first | refine lz1 ?_ | refine lz2 ?_ | refine lz3 ?_ | refine lz4 ?_)); omega))
theorem Pow_any (m e k : Int) (h : numR m e = true) (w : World) (htab : Tab w) : Calls Tryz.prog 69 #[.agg #[.int .i64 m, .int .i64 e], .int .i64 k] w (NumPost w (powR gD m e k)) := by
  unfold powR
  by_cases h1 : k < -1000 ∨ 1000 < k
  · rw [if_pos h1]
    rcases h1 with h1 | h1
    · exact pow_out1 m e w h k h1
    · exact pow_out2 m e w h k h1
  rw [if_neg h1]
  by_cases h2 : k < 0
  · rw [if_pos h2]
    have := pow_neg m e w h k.natAbs (by omega) (by omega) htab
    rwa [show -((k.natAbs : Nat) : Int) = k by omega] at this
  · rw [if_neg h2]
    have := pow_pos m e w h k.natAbs (by omega) htab
    rwa [show ((k.natAbs : Nat) : Int) = k by omega] at this
end Go.Proofs.YtndhmahkglfopaaGreatDoor
