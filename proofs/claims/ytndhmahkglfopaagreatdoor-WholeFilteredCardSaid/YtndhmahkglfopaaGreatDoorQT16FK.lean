/- FILTER's pieces: given, a copy of one value; ROWS. -/
import Derived.Test.YtndhmahkglfopaaGreatDoorQT16R
import Derived.Test.YtndhmahkglfopaaGreatDoorQT16FH
namespace Go.Proofs.YtndhmahkglfopaaGreatDoor
open Go.RowKit
theorem nil_sl (bb off n cap : Nat) (W : World) : (binOp .eql 26 (.slice (some ⟨bb, off, none⟩) n cap) (.slice none 0 0)).run Tryz.prog W = .ok (.bool false) W := by kernel_rfl
section
variable (w : World)
set_option maxHeartbeats 4000000
set_option maxRecDepth 100000
theorem given_yes (b off cap bb off2 capb : Nat) (u : V) (hu : u.k = 2) (hb : b < w.heap.size) (e0 : w.cell? ⟨b, off + 6, none⟩ = some (.int .i64 1)) (e1 : w.cell? ⟨b, off + 6 + 1, none⟩ = some (.int .i64 1)) (e2 : w.cell? ⟨b, off + 6 + 2, none⟩ = some (.slice (some ⟨bb, off2, none⟩) 1 capb)) (hs : SlB 0 w (some ⟨bb, off2, none⟩) [u]) :
    Calls Tryz.prog 290 #[.slice (some ⟨b, off, none⟩) 3 cap, .int .i64 2] w fun e w' => e = .returned (.bool true) ∧ Below w.heap.size w w' := by
  obtain ⟨b', off', he, hbb, c0, _⟩ := hs.cells (i := 0) rfl
  simp only [Option.some.injEq, Addr.mk.injEq, and_true] at he
  obtain ⟨rfl, rfl⟩ := he
  rw [hu] at c0
  simp only [Nat.zero_mul, Nat.add_zero] at c0
  have q1 : b ≠ w.heap.size := by omega
  have q2 : b < w.heap.size + 1 := by omega
  have q3 : bb ≠ w.heap.size := by omega
  have q4 : bb < w.heap.size + 1 := by omega
  clear hs hu
  go_enter Tryz.func290, Tryz.ntmps290
  go_wp2_with fail
  go_ret
  refine ⟨rfl, ?_⟩
  (repeat with_reducible (first | exact bw0 _ _ | exact hBW | refine bw1 ?_ ?_ _ | refine bw2 ?_ ?_ _ | refine bw3 ?_ _ | refine bw4 ?_)); all_goals (first | omega | (dsimp only; omega) | ((repeat with_reducible (first | refine lz1 ?_ | refine lz2 ?_ | refine lz3 ?_ | refine lz4 ?_)); omega))
theorem clone212_any (u : V) (bb off capb : Nat) (hs : SlB 0 w (some ⟨bb, off, none⟩) [u]) : Calls Tryz.prog 212 #[.slice (some ⟨bb, off, none⟩) 1 capb] w fun e w' => ∃ v, e = .returned v ∧ w'.ownsRow w.heap.size 34 6 v 1 (vcells u) ∧ Below w.heap.size w w' := by
  have hn := fun W => nil_sl bb off 1 capb W
  obtain ⟨i0, hi, hz0, hz1, hz2⟩ := info_parts info36
  have HI := Lib.hid hi
  have HZ0 := Lib.hid hz0
  have HZ1 := Lib.hid hz1
  have HZ2 := Lib.hid hz2
  have HO : Hid ((w.alloc (.cells #[] 34)).ownsRow w.heap.size 34 6 (.slice (some ⟨w.heap.size, 0, none⟩) 0 0) 0 []) := ⟨rfl, .inr ⟨w.heap.size, 0, #[], rfl, Nat.le_refl _, heap_alloc_new w _, Nat.le_refl _, by unfold maxLen; omega, rfl, rfl⟩⟩
  have HB : Hid (Below w.heap.size w (w.alloc (.cells #[] 34))) := below_alloc w _ _ (Nat.le_refl _)
  have HC : Hid (∀ j x, (vcells u)[j]? = some x → (w.alloc (.cells #[] 34)).cell? ((⟨bb, off, none⟩ : Addr).add j) = some x) := by
    intro j x hj
    obtain ⟨b', off', he, _, hbb, hall⟩ := hs (by simp)
    simp only [Option.some.injEq, Addr.mk.injEq, and_true] at he
    obtain ⟨rfl, rfl⟩ := he
    rw [show (⟨bb, off, none⟩ : Addr).add j = ⟨bb, off + j, none⟩ by simp [Addr.add]]
    have hj6 : j < 6 := (List.getElem?_eq_some_iff.1 hj).1
    have := hall 0 u rfl j hj6
    simp only [Nat.zero_mul, Nat.add_zero] at this
    rw [(HB.out.cell (p := ⟨bb, off + j, none⟩) hbb), this]
    exact hj
  clear hi hz0 hz1 hz2 hs
  go_enter Tryz.func212, Tryz.ntmps212
  go_wp2_with (
    at_builtin
    refine wpList_append_own_at _ rfl _ _ 26 rfl w.heap.size 34 i0 _ 6 56 Tryz.underlying26 HI.out HZ0.out HZ1.out HZ2.out rfl (by decide) (.slice (some ⟨w.heap.size, 0, none⟩) 0 0) 0 [] rfl HO.out ⟨bb, off, none⟩ 1 capb (vcells u) rfl rfl HC.out (by simp [vcells, Value.oneCell']) (by unfold maxLen; omega) (by omega) (by simp) ?_
    intro v' wN hown hgrow _ _
    have FO : Hid (wN.ownsRow w.heap.size 34 6 v' 1 (vcells u)) := by
      unfold Hid
      simpa using hown
    have FB : Hid (Below w.heap.size w wN) := HB.out.grown hgrow (by simp) (fun k hk => own_nex HO.out k hk)
    clear hown hgrow)
  go_ret
  exact ⟨_, rfl, FO.out, FB.out⟩
theorem copied_one (u : V) (bb off capb : Nat) (hs : SlB 0 w (some ⟨bb, off, none⟩) [u]) : Calls Tryz.prog 291 #[.agg #[.int .i64 1, .int .i64 1, .slice (some ⟨bb, off, none⟩) 1 capb]] w (ArrPostC (fun c => 1 ≤ c) w ⟨1, 1, [u]⟩) := by
  have HK := Lib.hid (fun w hs => clone212_any w u bb off capb hs)
  have HS := Lib.hid hs
  clear hs
  go_enter Tryz.func291, Tryz.ntmps291
  go_wp2_with fail
  refine abs_world ?_
  intro W1 hW1
  have g0 : W1.heap[w.heap.size]? = some (.cells #[.int .i64 1, .int .i64 1, .slice (some ⟨bb, off, none⟩) 1 capb] 28) := by rw [hW1]; (repeat (first | (with_reducible refine bw5 ?_ _; (first | rfl | (simp; done) | omega | (simp; omega)); done) | with_reducible refine bw6 ?_ _ | with_reducible refine bw7 ?_ | with_reducible refine bw8 ?_))
  have g1 : W1.heap[w.heap.size + 1]? = some (.cells #[.int .i64 0, .int .i64 0, .slice none 0 0] 28) := by rw [hW1]; (repeat (first | (with_reducible refine bw5 ?_ _; (first | rfl | (simp; done) | omega | (simp; omega)); done) | with_reducible refine bw6 ?_ _ | with_reducible refine bw7 ?_ | with_reducible refine bw8 ?_))
  have hb1 : Below w.heap.size w W1 := by rw [hW1]; (repeat with_reducible (first | exact bw0 _ _ | exact hBW | refine bw1 ?_ ?_ _ | refine bw2 ?_ ?_ _ | refine bw3 ?_ _ | refine bw4 ?_)); all_goals (first | omega | (dsimp only; omega) | ((repeat with_reducible (first | refine lz1 ?_ | refine lz2 ?_ | refine lz3 ?_ | refine lz4 ?_)); omega))
  have x0 := cell_of_heap g0
  have z0 := lt_of_heap g0
  have G1 := Lib.hid g1
  have HB1 := Lib.hid hb1
  clear hW1 g0 g1 hb1
  refine wp_region_multiR [([4, 5, 0, 2, 1, 3], [6, 7, 8], [7, 8])] (by kernel_rfl) (by kernel_rfl) ?_
  refine multi_phase (Below W1.heap.size W1) (Below.refl _ _).drew ?_
  iterate 6 (first | (apply first_step; (rw [List.getElem?_toArray]; (repeat rw [List.getElem?_cons_succ]); rw [List.getElem?_cons_zero]); rfl; (intro W hB; have hc := bcellB hB; go_simp; (first | done | rfl)); go_frame) | (apply first_skip; (rw [List.getElem?_toArray]; (repeat rw [List.getElem?_cons_succ]); rw [List.getElem?_cons_zero]); rfl; go_frame))
  refine first_done ?_
  apply forced_step; (rw [List.getElem?_toArray]; (repeat rw [List.getElem?_cons_succ]); rw [List.getElem?_cons_zero]); rfl; intro K hK; go_simp
  refine (HK.out _ (HS.out.below HB1.out.drew)).mono ?_
  rintro e w2 ⟨v2, rfl, hrow, hb2⟩
  have hb2' : Below W1.heap.size W1 w2 := (Below.refl _ W1).drew.trans hb2
  refine hK _ _ (fun _ => hb2') ?_
  clear hK K
  have hrow' : w2.ownsRow W1.drew.heap.size 34 6 v2 [u].length ([u].flatMap vcells) := by simpa using hrow
  obtain ⟨a2, cap2, rfl, hsl, hcp⟩ := own_slbC hrow'
  have HSL := Lib.hid hsl
  have HCP := Lib.hid hcp
  have HB2 := Lib.hid hb2'
  have EL : [u].length = 1 := rfl
  rw [EL]
  clear hrow hrow' hsl hcp hb2 hb2' EL
  apply forced_step; (rw [List.getElem?_toArray]; (repeat rw [List.getElem?_cons_succ]); rw [List.getElem?_cons_zero]); rfl; intro K hK; go_simp
  refine (made211_any _ _ _ _ _ _).mono ?_
  rintro e w3 ⟨rfl, hb3⟩
  refine hK _ _ (fun h => absurd (by decide) h) ?_
  clear hK K
  have e0 := ((HB2.out.trans (hb3.mono HB2.out.size)).block _ (lt_of_heap G1.out)).trans G1.out
  have HB3 := Lib.hid (HB1.out.trans ((HB2.out.trans (hb3.mono HB2.out.size)).mono HB1.out.size))
  have HS3 := Lib.hid ((HSL.out.below hb3).mono (B' := w.heap.size + 1 + 1) (by have := lt_of_heap G1.out; exact this))
  have e1 := cell_of_heap e0
  have y1 := frozen_of_heap e0
  have z1 := lt_of_heap e0
  clear hb3 e0 x0 z0
  apply forced_step; (rw [List.getElem?_toArray]; (repeat rw [List.getElem?_cons_succ]); rw [List.getElem?_cons_zero]); rfl; intro K hK; go_simp; refine hK _ _ (fun h => absurd (by decide) h) ?_; clear hK K
  refine forced_done ?_
  refine multi_done ?_
  go_wp2_with fail
  refine bodyPost_ret (v := .agg #[.int .i64 1, .int .i64 1, .slice a2 1 cap2]) (by simp [results, Tryz.results291, go_sem, e1]) rfl ?_
  exact arr_handC (X := fun c => 1 ≤ c) HCP.out (A := ⟨1, 1, [u]⟩) (n := 0) (b := w.heap.size + 1) (by omega) HS3.out HB3.out _ _ _
theorem rows206_any (A : Arr) (k : Nat) (hk : A.r = k) (h : k ≤ 4096) (a : Option Addr) (cap : Nat) (hs : ArgsAt 0 w a [A]) (ht : Tab w) : Calls Tryz.prog 206 #[.slice a 1 cap] w (ArrPost w ⟨1, 1, [cntV k]⟩) := by
  have HM := Lib.hid (fun w ht => count200_any w k h ht)
  have H1 := Lib.hid (fun w => One_any (cntV k) (refR_right (cnt_refR (small_nat h))) w)
  have HT := Lib.hid ht
  obtain ⟨b, off, rfl, _, hb, hall⟩ := hs (by simp)
  obtain ⟨a', cap', c0, c1, c2, hsl⟩ := hall 0 A rfl
  rw [hk] at c0
  simp only [Nat.zero_mul, Nat.add_zero] at c0
  have q1 : b ≠ w.heap.size := by omega
  have q2 : b < w.heap.size + 1 := by omega
  generalize cntV k = u at HM H1 ⊢
  obtain ⟨uk, um, ue, ut, ub, uf⟩ := u
  unfold vagg at HM H1
  simp only at HM H1
  clear hs hall h ht hk c1 c2 hsl
  go_enter Tryz.func206, Tryz.ntmps206
  go_wp2_with fail
  have hba : Below w.heap.size w (w.alloc (.cells #[.int .i64 0, .int .i64 0, .slice none 0 0] 28)) := by (repeat with_reducible (first | exact bw0 _ _ | exact hBW | refine bw1 ?_ ?_ _ | refine bw2 ?_ ?_ _ | refine bw3 ?_ _ | refine bw4 ?_)); all_goals (first | omega | (dsimp only; omega) | ((repeat with_reducible (first | refine lz1 ?_ | refine lz2 ?_ | refine lz3 ?_ | refine lz4 ?_)); omega))
  refine (HM.out _ (HT.out.below hba)).mono ?_
  rintro e w1 ⟨rfl, hb1⟩
  have G0 := Lib.hid ((hb1.block w.heap.size (by simp)).trans (show _ = some (.cells #[.int .i64 0, .int .i64 0, .slice none 0 0] 28 (0, 0)) by (repeat (first | (with_reducible refine bw5 ?_ _; (first | rfl | (simp; done) | omega | (simp; omega)); done) | with_reducible refine bw6 ?_ _ | with_reducible refine bw7 ?_ | with_reducible refine bw8 ?_))))
  have HB1 := Lib.hid (hba.trans (hb1.mono (by simp)))
  clear hb1 hba c0 q1 q2 hb
  go_wp2_with fail
  refine (H1.out _).mono ?_
  rintro r w7 ⟨x, rfl, ⟨a7, cap7, rfl, hsl⟩, hb7⟩
  have e0 := (hb7.block w.heap.size (lt_of_heap G0.out)).trans G0.out
  have HB7 := Lib.hid (HB1.out.trans (hb7.mono HB1.out.size))
  have x0 := cell_of_heap e0
  have z0 := frozen_of_heap e0
  have hn0 := lt_of_heap e0
  have HSL := Lib.hid (hsl.mono (B' := w.heap.size + 1) (lt_of_heap G0.out))
  clear hsl hb7 e0 H1
  go_wp2_with fail
  refine bodyPost_ret (v := .agg #[.int .i64 1, .int .i64 1, .slice a7 1 cap7]) (by simp [results, Tryz.results206, go_sem, x0]) rfl ?_
  exact arr_hand (A := ⟨1, 1, [⟨uk, um, ue, ut, ub, uf⟩]⟩) (n := 0) (Nat.le_refl _) HSL.out HB7.out _ _ _
end
def sROWS : ByteArray := ⟨#[82, 79, 87, 83]⟩
theorem ent206 : Ent 206 := enters_of Tryz.func206 (by kernel_rfl) rfl
/-- The law's call of ROWS. -/
theorem call_rows (A : Arr) (hA : ArrR A) (k : Nat) (hk : A.r = k) (h : k ≤ 4096) (a : Option Addr) (cap : Nat) (w : World) (hs : ArgsAt 0 w a [A]) (ht : Tab w) : Calls Tryz.prog 11 #[.string sROWS, .slice a 1 cap] w (ArrPost w ⟨1, 1, [cntV k]⟩) :=
  Calls.mono (R := ArrPostC (fun _ => True) w _) (call11 w sROWS a 1 cap _ fun W hW => lib_4 W sROWS a 1 cap _ (by kernel_rfl) (by kernel_rfl) (by kernel_rfl) (by kernel_rfl) fun W' hW' =>
    have hb := hW.trans (hW'.mono hW.size)
    call94_hit sROWS 1 1 [A] a cap _ W' stays_tab (fun w w' e h ha ht => by
      obtain ⟨BB, l, he, hm, _, hb, _, h2, _⟩ := h
      refine ⟨BB, l, 206, #[], he, hm, hb, .inl rfl, h2, ent206, fun W hW => ?_⟩
      exact Calls.mono (R := ArrPost W _) (rows206_any W A k hk h a cap (ha.below hW) (ht.below hW)) fun _ _ h => h.any) (fun X hX => by rw [List.mem_singleton.1 hX]; exact hA.ok) (Nat.le_refl _) (Nat.le_refl _) (by omega) (hs.below hb) (ht.below hb)) fun _ _ h => h.post
end Go.Proofs.YtndhmahkglfopaaGreatDoor
/- FILTER of a column by a mask. -/
namespace Go.Proofs.YtndhmahkglfopaaGreatDoor
open Go.RowKit
theorem toT_truth (b : Bool) : toT (vTruth b) = (b, 0) := by simp [toT, vTruth]
theorem own_rowL {w : World} {B : Nat} {v : Value} {l : List Nat} (hn : 1 ≤ l.length) (h : w.ownsRow B 3 1 v l.length (l.map encN)) : ∃ b cap, v = .slice (some ⟨b, 0, none⟩) l.length cap ∧ B ≤ b ∧ RowI w b l.toArray := by
  rcases h.2 with ⟨e, h0⟩ | ⟨gb, cap, cur, hs, hB, hh, hn', hz, hsz, ht⟩
  · omega
  · refine ⟨gb, cap, hs, hB, cur.toList.drop l.length, hh.trans ?_⟩
    congr 2
    apply Array.ext'
    rw [← ht]
    simp
theorem dxI_get {D : List Int} {i : Nat} {d : Int} (h : D[i]? = some d) : dxI D i = d := by simp [dxI, h]
section
variable (w : World)
set_option maxHeartbeats 4000000
set_option maxRecDepth 100000
theorem filter_any (p : Int → Bool) (D : List Int) (R : Arr) (h1 : 1 ≤ D.length) (h2 : D.length ≤ 4096) (na b off cap acap mcap : Nat) (ac am : Option Addr) (hb : b < w.heap.size) (hcap : D.length ≤ acap)
    (c0 : w.cell? ⟨b, off, none⟩ = some (.int .i64 D.length)) (c1 : w.cell? ⟨b, off + 1, none⟩ = some (.int .i64 1)) (c2 : w.cell? ⟨b, off + 2, none⟩ = some (.slice ac D.length acap))
    (d0 : w.cell? ⟨b, off + 3, none⟩ = some (.int .i64 D.length)) (d1 : w.cell? ⟨b, off + 3 + 1, none⟩ = some (.int .i64 1)) (d2 : w.cell? ⟨b, off + 3 + 2, none⟩ = some (.slice am D.length mcap))
    (hsA : SlB 0 w ac (D.map cntV)) (hsM : SlB 0 w am (D.map fun d => vTruth (p d))) (hna : 2 ≤ na)
    (hR1 : D.filter p ≠ [] → R = ⟨(D.filter p).length, 1, (D.filter p).map cntV⟩)
    (hR0 : D.filter p = [] → na = 3 ∧ ∃ (u : V) (bb off2 capb : Nat), R = ⟨1, 1, [u]⟩ ∧ u.k = 2 ∧ w.cell? ⟨b, off + 6, none⟩ = some (.int .i64 1) ∧ w.cell? ⟨b, off + 6 + 1, none⟩ = some (.int .i64 1) ∧ w.cell? ⟨b, off + 6 + 2, none⟩ = some (.slice (some ⟨bb, off2, none⟩) 1 capb) ∧ SlB 0 w (some ⟨bb, off2, none⟩) [u]) :
    Calls Tryz.prog 202 #[.slice (some ⟨b, off, none⟩) na cap] w (ArrPostC (fun c => R.l.length ≤ c) w R) := by
  have HSA := Lib.hid hsA
  have HSM := Lib.hid hsM
  have HR1 := Lib.hid hR1
  have HR0 := Lib.hid hR0
  have HBL := Lib.hid hb
  have HD1 := Lib.hid h1
  have HD2 := Lib.hid h2
  have HCAP := Lib.hid hcap
  obtain ⟨L, hL⟩ : ∃ L, L = D.length := ⟨_, rfl⟩
  have EL := Lib.hid hL
  rw [← hL] at h1 h2 hcap c0 c2 d0 d2
  obtain ⟨i0, hi, hz0, hz1, hz2⟩ := info_parts info3
  have HI := Lib.hid hi
  have HZ0 := Lib.hid hz0
  have HZ1 := Lib.hid hz1
  have HZ2 := Lib.hid hz2
  have hn2 : (1 : Int) < (na : Int) := by omega
  have hn1 : (0 : Int) < (na : Int) := by omega
  have hn3 : 1 < na := by omega
  have hn4 : 0 < na := by omega
  clear hsA hsM hR1 hR0 hi hz0 hz1 hz2 hL
  go_enter Tryz.func202, Tryz.ntmps202
  go_upto_region 1 with fail
  refine abs_world ?_
  intro W1 hW1
  have g0 : W1.heap[w.heap.size]? = some (.cells #[.int .i64 0, .int .i64 0, .slice none 0 0] 28) := by rw [hW1]; (repeat (first | (with_reducible refine bw5 ?_ _; (first | rfl | (simp; done) | omega | (simp; omega)); done) | with_reducible refine bw6 ?_ _ | with_reducible refine bw7 ?_ | with_reducible refine bw8 ?_))
  have hb1 : Below w.heap.size w W1 := by rw [hW1]; (repeat with_reducible (first | exact bw0 _ _ | exact hBW | refine bw1 ?_ ?_ _ | refine bw2 ?_ ?_ _ | refine bw3 ?_ _ | refine bw4 ?_)); all_goals (first | omega | (dsimp only; omega) | ((repeat with_reducible (first | refine lz1 ?_ | refine lz2 ?_ | refine lz3 ?_ | refine lz4 ?_)); omega))
  have G0 := Lib.hid g0
  have HB1 := Lib.hid hb1
  have c0 := (hb1.cell (p := ⟨b, off, none⟩) hb).trans c0
  have c1 := (hb1.cell (p := ⟨b, off + 1, none⟩) hb).trans c1
  have c2 := (hb1.cell (p := ⟨b, off + 2, none⟩) hb).trans c2
  have d0 := (hb1.cell (p := ⟨b, off + 3, none⟩) hb).trans d0
  have d1 := (hb1.cell (p := ⟨b, off + 3 + 1, none⟩) hb).trans d1
  have d2 := (hb1.cell (p := ⟨b, off + 3 + 2, none⟩) hb).trans d2
  have hb := Nat.lt_of_lt_of_le hb hb1.size
  clear hW1 g0 hb1
  go_cut [3, 4] (fun s3 s4 wx => ∃ b3 b4, s3 = .pointer (some ⟨b3, 0, none⟩) ∧ s4 = .pointer (some ⟨b4, 0, none⟩) ∧ Hid (b3 ≠ b4 ∧ W1.heap.size ≤ b3 ∧ W1.heap.size ≤ b4) ∧ Hid (wx.heap[b3]? = some (.cells #[.int .i64 L, .int .i64 1, .slice ac L acap] 28)) ∧ Hid (wx.heap[b4]? = some (.cells #[.int .i64 L, .int .i64 1, .slice am L mcap] 28)) ∧ Hid (Below W1.heap.size W1 wx))
  case first =>
    refine wp_region_ord [0, 3, 1, 4, 2, 5] (.two 6 7 (.one 7 (.one 8 (.one 9 .nil))) (.one 6 (.one 8 (.one 9 .nil)))) [9] (Below W1.heap.size W1) (by kernel_rfl) (by kernel_rfl) (Below.refl _ _).drew ?_
    iterate 6 (first | (apply first_step; (rw [List.getElem?_toArray]; (repeat rw [List.getElem?_cons_succ]); rw [List.getElem?_cons_zero]); rfl; (intro W hB; have hc := bcellB hB; go_simp; (first | done | rfl)); go_frame) | (apply first_skip; (rw [List.getElem?_toArray]; (repeat rw [List.getElem?_cons_succ]); rw [List.getElem?_cons_zero]); rfl; go_frame))
    refine first_done ?_
    refine ord_two ?_ ?_
    · apply ord_step; (rw [List.getElem?_toArray]; (repeat rw [List.getElem?_cons_succ]); rw [List.getElem?_cons_zero]); rfl; intro K hK; go_simp; refine hK _ _ (fun _ => by first | (exfalso; simp at *; done) | (repeat with_reducible (first | exact bw0 _ _ | exact hBW | refine bw1 ?_ ?_ _ | refine bw2 ?_ ?_ _ | refine bw3 ?_ _ | refine bw4 ?_)); all_goals (first | omega | (dsimp only; omega) | ((repeat with_reducible (first | refine lz1 ?_ | refine lz2 ?_ | refine lz3 ?_ | refine lz4 ?_)); omega))) ?_; clear hK K
      apply ord_step; (rw [List.getElem?_toArray]; (repeat rw [List.getElem?_cons_succ]); rw [List.getElem?_cons_zero]); rfl; intro K hK; go_simp; refine hK _ _ (fun _ => by first | (exfalso; simp at *; done) | (repeat with_reducible (first | exact bw0 _ _ | exact hBW | refine bw1 ?_ ?_ _ | refine bw2 ?_ ?_ _ | refine bw3 ?_ _ | refine bw4 ?_)); all_goals (first | omega | (dsimp only; omega) | ((repeat with_reducible (first | refine lz1 ?_ | refine lz2 ?_ | refine lz3 ?_ | refine lz4 ?_)); omega))) ?_; clear hK K
      apply ord_step; (rw [List.getElem?_toArray]; (repeat rw [List.getElem?_cons_succ]); rw [List.getElem?_cons_zero]); rfl; intro K hK; go_simp; refine hK _ _ (fun _ => by first | (exfalso; simp at *; done) | (repeat with_reducible (first | exact bw0 _ _ | exact hBW | refine bw1 ?_ ?_ _ | refine bw2 ?_ ?_ _ | refine bw3 ?_ _ | refine bw4 ?_)); all_goals (first | omega | (dsimp only; omega) | ((repeat with_reducible (first | refine lz1 ?_ | refine lz2 ?_ | refine lz3 ?_ | refine lz4 ?_)); omega))) ?_; clear hK K
      apply ord_step; (rw [List.getElem?_toArray]; (repeat rw [List.getElem?_cons_succ]); rw [List.getElem?_cons_zero]); rfl; intro K hK; go_simp; refine hK _ _ (fun _ => by first | (exfalso; simp at *; done) | (repeat with_reducible (first | exact bw0 _ _ | exact hBW | refine bw1 ?_ ?_ _ | refine bw2 ?_ ?_ _ | refine bw3 ?_ _ | refine bw4 ?_)); all_goals (first | omega | (dsimp only; omega) | ((repeat with_reducible (first | refine lz1 ?_ | refine lz2 ?_ | refine lz3 ?_ | refine lz4 ?_)); omega))) ?_; clear hK K
      refine ord_done ?_
      go_wp2_with fail
      go_meet
      exact ⟨W1.heap.size, W1.heap.size + 1, rfl, rfl, by unfold Hid; omega, by unfold Hid; (repeat (first | (with_reducible refine bw5 ?_ _; (first | rfl | (simp; done) | omega | (simp; omega)); done) | with_reducible refine bw6 ?_ _ | with_reducible refine bw7 ?_ | with_reducible refine bw8 ?_)), by unfold Hid; (repeat (first | (with_reducible refine bw5 ?_ _; (first | rfl | (simp; done) | omega | (simp; omega)); done) | with_reducible refine bw6 ?_ _ | with_reducible refine bw7 ?_ | with_reducible refine bw8 ?_)), by unfold Hid; (repeat with_reducible (first | exact bw0 _ _ | exact hBW | refine bw1 ?_ ?_ _ | refine bw2 ?_ ?_ _ | refine bw3 ?_ _ | refine bw4 ?_)); all_goals (first | omega | (dsimp only; omega) | ((repeat with_reducible (first | refine lz1 ?_ | refine lz2 ?_ | refine lz3 ?_ | refine lz4 ?_)); omega))⟩
    · apply ord_step; (rw [List.getElem?_toArray]; (repeat rw [List.getElem?_cons_succ]); rw [List.getElem?_cons_zero]); rfl; intro K hK; go_simp; refine hK _ _ (fun _ => by first | (exfalso; simp at *; done) | (repeat with_reducible (first | exact bw0 _ _ | exact hBW | refine bw1 ?_ ?_ _ | refine bw2 ?_ ?_ _ | refine bw3 ?_ _ | refine bw4 ?_)); all_goals (first | omega | (dsimp only; omega) | ((repeat with_reducible (first | refine lz1 ?_ | refine lz2 ?_ | refine lz3 ?_ | refine lz4 ?_)); omega))) ?_; clear hK K
      apply ord_step; (rw [List.getElem?_toArray]; (repeat rw [List.getElem?_cons_succ]); rw [List.getElem?_cons_zero]); rfl; intro K hK; go_simp; refine hK _ _ (fun _ => by first | (exfalso; simp at *; done) | (repeat with_reducible (first | exact bw0 _ _ | exact hBW | refine bw1 ?_ ?_ _ | refine bw2 ?_ ?_ _ | refine bw3 ?_ _ | refine bw4 ?_)); all_goals (first | omega | (dsimp only; omega) | ((repeat with_reducible (first | refine lz1 ?_ | refine lz2 ?_ | refine lz3 ?_ | refine lz4 ?_)); omega))) ?_; clear hK K
      apply ord_step; (rw [List.getElem?_toArray]; (repeat rw [List.getElem?_cons_succ]); rw [List.getElem?_cons_zero]); rfl; intro K hK; go_simp; refine hK _ _ (fun _ => by first | (exfalso; simp at *; done) | (repeat with_reducible (first | exact bw0 _ _ | exact hBW | refine bw1 ?_ ?_ _ | refine bw2 ?_ ?_ _ | refine bw3 ?_ _ | refine bw4 ?_)); all_goals (first | omega | (dsimp only; omega) | ((repeat with_reducible (first | refine lz1 ?_ | refine lz2 ?_ | refine lz3 ?_ | refine lz4 ?_)); omega))) ?_; clear hK K
      apply ord_step; (rw [List.getElem?_toArray]; (repeat rw [List.getElem?_cons_succ]); rw [List.getElem?_cons_zero]); rfl; intro K hK; go_simp; refine hK _ _ (fun _ => by first | (exfalso; simp at *; done) | (repeat with_reducible (first | exact bw0 _ _ | exact hBW | refine bw1 ?_ ?_ _ | refine bw2 ?_ ?_ _ | refine bw3 ?_ _ | refine bw4 ?_)); all_goals (first | omega | (dsimp only; omega) | ((repeat with_reducible (first | refine lz1 ?_ | refine lz2 ?_ | refine lz3 ?_ | refine lz4 ?_)); omega))) ?_; clear hK K
      refine ord_done ?_
      go_wp2_with fail
      go_meet
      exact ⟨W1.heap.size + 1, W1.heap.size, rfl, rfl, by unfold Hid; omega, by unfold Hid; (repeat (first | (with_reducible refine bw5 ?_ _; (first | rfl | (simp; done) | omega | (simp; omega)); done) | with_reducible refine bw6 ?_ _ | with_reducible refine bw7 ?_ | with_reducible refine bw8 ?_)), by unfold Hid; (repeat (first | (with_reducible refine bw5 ?_ _; (first | rfl | (simp; done) | omega | (simp; omega)); done) | with_reducible refine bw6 ?_ _ | with_reducible refine bw7 ?_ | with_reducible refine bw8 ?_)), by unfold Hid; (repeat with_reducible (first | exact bw0 _ _ | exact hBW | refine bw1 ?_ ?_ _ | refine bw2 ?_ ?_ _ | refine bw3 ?_ _ | refine bw4 ?_)); all_goals (first | omega | (dsimp only; omega) | ((repeat with_reducible (first | refine lz1 ?_ | refine lz2 ?_ | refine lz3 ?_ | refine lz4 ?_)); omega))⟩
  case rest =>
  obtain ⟨b3, b4, rfl, rfl, HNE, H3, H4, HBC⟩ := hcut
  rename World => W2
  have HBW : Hid (Below w.heap.size w W2) := HB1.out.trans (HBC.out.mono HB1.out.size)
  have GG0 := Lib.hid ((HBC.out.block _ (lt_of_heap G0.out)).trans G0.out)
  have x3 := cell_of_heap H3.out
  have x4 := cell_of_heap H4.out
  have z3 := lt_of_heap H3.out
  have z4 := lt_of_heap H4.out
  clear c0 c1 c2 d0 d1 d2 hb
  go_wp2_with fail
  clear x3 x4 z3 z4
  go_loopw [6, 45] (fun sl x wr => ∃ i : Nat, x = .int .i64 i ∧ i ≤ L ∧ Hid (Below W2.heap.size W2 wr) ∧ Hid (wr.ownsRow W2.heap.size 3 1 sl (plcL p D i).length ((plcL p D i).map encN))) (fun _ x _ => L - (intOf x).toNat)
  case atStart => exact ⟨0, rfl, Nat.zero_le _, Below.refl _ _, by simp [plcL], Or.inl ⟨rfl, rfl⟩⟩
  case round =>
    obtain ⟨i, rfl, hi, hB, hO⟩ := hrel
    have HBw : Hid (Below w.heap.size w wr) := HBW.out.trans (hB.out.mono HBW.out.size)
    by_cases hlt : i < L
    · obtain ⟨d, hd⟩ : ∃ d, D[i]? = some d := ⟨_, List.getElem?_eq_getElem (by rw [← EL.out]; exact hlt)⟩
      have hu : (D.map fun d => vTruth (p d))[i]? = some (vTruth (p d)) := by simp [hd]
      obtain ⟨bb, off2, rfl, hbb, c0, c1, c2, c3, c4, c5⟩ := (HSM.out.below HBw.out).cells hu
      have TK : Hid (plcL p D (i + 1) = plcL p D i ++ (if p d then [i] else [])) := by
        unfold Hid
        rw [plcL_succ, dxI_get hd]
      have hcl := plcL_len p D i
      obtain ⟨X, hX⟩ : ∃ X, X = plcL p D i := ⟨_, rfl⟩
      rw [← hX] at hcl TK hO
      have q1 : bb ≠ wr.heap.size := by omega
      have q2 : bb < wr.heap.size + 1 := by omega
      have i1 : (i : Int) < (L : Int) := by omega
      have i0' : (0 : Int) ≤ (i : Int) := by omega
      have IL : Hid (i + 1 ≤ L) := by unfold Hid; omega
      have HXL : Hid (X.length ≤ 4096) := by unfold Hid; omega
      have bi : i ≤ 8192 := by omega
      generalize hpd : p d = Q at TK c0 c1 c2 c3 c4 c5
      have KEY := Lib.hid (fun w => totruth_plain (vTruth Q) (by simp [vTruth]) w)
      rw [toT_truth] at KEY
      unfold vagg vTruth at KEY
      unfold vTruth at c0 c1 c2 c3 c4 c5
      simp only at KEY c0 c1 c2 c3 c4 c5
      have v1 := w64s i bi
      obtain ⟨sa, scap, rfl⟩ := own_sl3 hO.out
      clear hX hd hu bi hpd
      go_wp2_with fail
      refine (KEY.out _).mono ?_
      rintro e w4 ⟨rfl, hb4⟩
      have hb4' : Below wr.heap.size wr w4 := (below_alloc wr _ _ (Nat.le_refl _)).trans (hb4.mono (by simp))
      have HB4 : Hid (Below W2.heap.size W2 w4) := hB.out.trans (hb4'.mono hB.out.size)
      have HO4 : Hid (w4.ownsRow W2.heap.size 3 1 (.slice sa X.length scap) X.length (X.map encN)) := own_of_block hO.out (fun k _ hk => hb4'.block k hk)
      clear hb4 hb4' c0 c1 c2 c3 c4 c5 q1 q2 KEY hbb hO
      cases Q with
      | true =>
        have TK2 : Hid (plcL p D (i + 1) = X ++ [i]) := TK.out
        have hxl := HXL.out
        have hz4 := HB4.out.size
        go_wp2_with (
          at_builtin
          refine wpList_append_own_at _ rfl _ _ 75 rfl W2.heap.size 3 i0 (.int .i64 0) 1 8 Tryz.underlying75 HI.out HZ0.out HZ1.out HZ2.out rfl (by decide) (.slice sa X.length scap) X.length (X.map encN) rfl (HO4.out.alloc _) ⟨w4.heap.size, 0, none⟩ 1 1 [encN i] rfl rfl (fun j u hj => cells_new w4 #[encN i] 3 j u hj) (by simp [Value.oneCell', encN]) (by unfold maxLen; omega) (by omega) (by simp; omega) ?_
          intro v' wN hown hgrow _ _
          have FO : Hid (wN.ownsRow W2.heap.size 3 1 v' (plcL p D (i + 1)).length ((plcL p D (i + 1)).map encN)) := by
            unfold Hid
            rw [TK2.out, List.length_append, List.map_append]
            exact hown
          have FB : Hid (Below W2.heap.size W2 wN) := (HB4.out.alloc HB4.out.size _).grown hgrow (by have := HB4.out.size; simp; omega) (fun k hk => own_ne HO4.out k hk)
          clear hown hgrow)
        go_roundw
        case rel => exact ⟨i + 1, by first | rfl | go_num, IL.out, FB, FO⟩
        case measure =>
          clear v1
          simp [intOf]; omega
      | false =>
        have TK2 : Hid (plcL p D (i + 1) = X) := by unfold Hid; rw [TK.out]; simp
        go_wp2_with fail
        go_roundw
        case rel => exact ⟨i + 1, by first | rfl | go_num, IL.out, HB4, by rw [TK2.out]; exact HO4⟩
        case measure =>
          clear v1
          simp [intOf]; omega
    · have e : i = L := by omega
      have i1 : ¬ (i : Int) < (L : Int) := by omega
      have h1' := hO.out
      rw [e, EL.out] at h1'
      have E0 := Lib.hid ((hB.out.block _ (lt_of_heap GG0.out)).trans GG0.out)
      have E3 := Lib.hid ((hB.out.block _ (lt_of_heap H3.out)).trans H3.out)
      have E4 := Lib.hid ((hB.out.block _ (lt_of_heap H4.out)).trans H4.out)
      have x3 := cell_of_heap E3.out
      have z3 := lt_of_heap E3.out
      clear e hlt hi hO
      by_cases hf : D.filter p = []
      · obtain ⟨hn3, u, bb, off2, capb, hR, hu, y0, y1, y2, hsl⟩ := HR0.out hf
        subst hn3
        have hp0 : plcL p D D.length = [] := List.eq_nil_of_length_eq_zero (by rw [plcL_size, hf]; rfl)
        rw [hp0] at h1'
        obtain ⟨sa, scap, rfl⟩ := own_sl3 h1'
        have hbw := HBw.out
        have y0 := (hbw.cell (p := ⟨b, off + 6, none⟩) HBL.out).trans y0
        have y1 := (hbw.cell (p := ⟨b, off + 6 + 1, none⟩) HBL.out).trans y1
        have y2 := (hbw.cell (p := ⟨b, off + 6 + 2, none⟩) HBL.out).trans y2
        have hbr := Nat.lt_of_lt_of_le HBL.out hbw.size
        have KG := Lib.hid (given_yes wr b off cap bb off2 capb u hu hbr y0 y1 y2 (hsl.below hbw))
        have KC := Lib.hid (fun w hs => copied_one w u bb off2 capb hs)
        have HSU := Lib.hid (hsl.below hbw)
        have Y0 := Lib.hid y0
        have Y1 := Lib.hid y1
        have Y2 := Lib.hid y2
        have HBR := Lib.hid hbr
        have FE := Lib.hid hR
        simp only [List.length_nil] at *
        clear h1' hsl hbw hbr hR hu y0 y1 y2 hp0 hf HR0 HR1
        go_wp2_with fail
        refine KG.out.mono ?_
        rintro e w5 ⟨rfl, hb5⟩
        have y0 := (hb5.cell (p := ⟨b, off + 6, none⟩) HBR.out).trans Y0.out
        have y1 := (hb5.cell (p := ⟨b, off + 6 + 1, none⟩) HBR.out).trans Y1.out
        have y2 := (hb5.cell (p := ⟨b, off + 6 + 2, none⟩) HBR.out).trans Y2.out
        have hbr := Nat.lt_of_lt_of_le HBR.out hb5.size
        have E5 := Lib.hid ((hb5.block _ (lt_of_heap E0.out)).trans E0.out)
        have HB5 := Lib.hid (HBw.out.trans (hb5.mono HBw.out.size))
        have HS5 := Lib.hid (HSU.out.below hb5)
        clear hb5 KG x3 z3
        go_wp2_with fail
        refine (KC.out _ HS5.out).mono ?_
        rintro e w6 ⟨a6, cap6, rfl, hx6, hsl6, hb6⟩
        have e0 := (hb6.block _ (lt_of_heap E5.out)).trans E5.out
        have x0 := cell_of_heap e0
        have f0 := frozen_of_heap e0
        have z0 := lt_of_heap e0
        have HX6 := Lib.hid hx6
        have HSL := Lib.hid (hsl6.mono (B' := w.heap.size + 1) (lt_of_heap E5.out))
        have HB6 := Lib.hid (HB5.out.trans (hb6.mono HB5.out.size))
        have EL1 : [u].length = 1 := rfl
        rw [EL1]
        clear hx6 hsl6 hb6 e0 y0 y1 y2 hbr EL1
        go_wp2_with fail
        refine bodyPost_ret (v := .agg #[.int .i64 1, .int .i64 1, .slice a6 1 cap6]) (by simp [results, Tryz.results202, go_sem, x0]) rfl ?_
        rw [FE.out]
        exact arr_handC (X := fun c => 1 ≤ c) HX6.out (A := ⟨1, 1, [u]⟩) (n := 0) (b := w.heap.size) (Nat.le_refl _) HSL.out HB6.out _ _ _
      · have hR := HR1.out hf
        have hp1 : 1 ≤ (plcL p D D.length).length := by
          rw [plcL_size]
          cases hq : D.filter p with
          | nil => exact absurd hq hf
          | cons x r => simp
        obtain ⟨pb, pcap, rfl, hpb, hrow⟩ := own_rowL hp1 h1'
        have key := rowsOf_any wr (D.map cntV) L ac acap (HSA.out.below HBw.out) (by rw [List.length_map]; exact HCAP.out) (by rw [List.length_map]; exact HD2.out) (plcL p D D.length).toArray pb pcap hrow (fun k hk => by
          simp only [List.size_toArray] at hk
          rw [List.length_map]
          have := plcL_lt p D D.length _ (List.getElem_mem hk)
          simpa [hk] using this) (by simpa using hp1) (by
            rw [List.size_toArray]
            exact Nat.le_trans (plcL_len p D _) HD2.out)
        rw [show atPl (D.map cntV) (plcL p D D.length).toArray = (D.filter p).map cntV from atPl_plc p D _ rfl, List.size_toArray, plcL_size, List.length_map, ← EL.out] at key
        rw [plcL_size] at hp1 ⊢
        obtain ⟨n, hn⟩ : ∃ n, n = (D.filter p).length := ⟨_, rfl⟩
        rw [← hn] at key hp1 hR ⊢
        have hYL : ((D.filter p).map cntV).length = n := by rw [List.length_map, hn]
        generalize (D.filter p).map cntV = Y at key hR hYL
        have KEY := Lib.hid key
        have FE := Lib.hid hR
        have YL := Lib.hid hYL
        have n0 : ((n : Int) == 0) = false := beq_eq_false_iff_ne.2 (by omega)
        have n00 : ¬ (n : Int) = 0 := by omega
        have n01 : ¬ n = 0 := by omega
        clear h1' key hR hp1 hn hf hpb hrow HR0 HR1 hYL
        go_wp2_with fail
        refine KEY.out.mono ?_
        rintro e w6 ⟨a6, cap6, rfl, hx6, hsl6, hb6⟩
        have e0 := (hb6.block _ (lt_of_heap E0.out)).trans E0.out
        have x0 := cell_of_heap e0
        have f0 := frozen_of_heap e0
        have z0 := lt_of_heap e0
        have HX6 := Lib.hid hx6
        have HSL := Lib.hid (hsl6.mono (B' := w.heap.size + 1) (lt_of_heap E0.out))
        have HB6 := Lib.hid (HBw.out.trans (hb6.mono HBw.out.size))
        dsimp only
        rw [YL.out]
        clear hx6 hsl6 hb6 e0 KEY x3 z3
        go_wp2_with fail
        refine bodyPost_ret (v := .agg #[.int .i64 n, .int .i64 1, .slice a6 n cap6]) (by simp [results, Tryz.results202, go_sem, x0]) rfl ?_
        rw [FE.out]
        have key := arr_handC (X := fun c => n ≤ c) HX6.out (A := ⟨n, 1, Y⟩) (n := 0) (b := w.heap.size) (Nat.le_refl _) HSL.out HB6.out (.int .i64 n) (.int .i64 1) (.slice a6 n cap6)
        simp only [YL.out] at key ⊢
        exact key
end
end Go.Proofs.YtndhmahkglfopaaGreatDoor
