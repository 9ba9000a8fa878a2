/- CycleRounds: the walk. -/
import Derived.Test.YtcjohhminiedfaaQC21RRound
namespace Go.Proofs.Ytcjohhminiedfaa
open Go.RowKit
/-- What Round tells at any number. -/
def RndI (n : Nat) (A : Nat → Nat → Bool) (x : Int) (r : List Nat) : Prop := (∀ a : Nat, x = (a : Int) → a < n → ∃ f, Dist n A a f ∧ RoundR n A f a r) ∧ (¬ (0 ≤ x ∧ x < (n : Int)) → r = [])
theorem RndI.uniq {n : Nat} {A : Nat → Nat → Bool} {x : Int} {r s : List Nat} (h : RndI n A x r) (k : RndI n A x s) : r = s := by
  by_cases hx : 0 ≤ x ∧ x < (n : Int)
  · obtain ⟨f, h1, h2⟩ := h.1 x.toNat (by omega) (by omega)
    obtain ⟨g, k1, k2⟩ := k.1 x.toNat (by omega) (by omega)
    exact (h2.congr (g := g) fun y hy => h1.uniq k1 y hy).uniq k2
  · rw [h.2 hx, k.2 hx]
theorem roundX {K n : Nat} {w : World} {G : Gb} {E : List (Nat × Nat)} {p : Addr} (hok : EOk n E) (hn : n ≤ 10000) (hp : G.pv = .pointer (some p)) (h : GrE K w G n E) (x : Int) :
    Calls Try.prog 12 #[.pointer (some p), .int .i64 x] w fun e w' => ∃ (v : Value) (ring : List Nat), e = .returned v ∧ IR 0 w' v ring ∧ RndI n (adjE E) x ring ∧ Below w.heap.size w w' := by
  rw [← hp]
  refine (roundI_E hok (by omega) h x).mono ?_
  rintro e w' ⟨v, ring, rfl, h1, h2, h3, h4⟩
  exact ⟨v, ring, rfl, h1.base (Nat.zero_le _), ⟨h2, h3⟩, h4⟩
theorem rroundX {n cap : Nat} {w : World} {a : Option Addr} {A : Nat → Nat → Bool} (hn : n ≤ 10000) (hM : MxA w a n A) (x : Int) :
    Calls Try.prog 13 #[.agg #[.slice a n cap], .int .i64 x] w fun e w' => ∃ (v : Value) (ring : List Nat), e = .returned v ∧ IR 0 w' v ring ∧ RndI n A x ring ∧ Below w.heap.size w w' := by
  by_cases hx : 0 ≤ x ∧ x < (n : Int)
  · obtain ⟨b, rfl⟩ : ∃ b : Nat, x = (b : Int) := ⟨x.toNat, by omega⟩
    refine (rround_any hn (by omega) hM).mono ?_
    rintro e w' ⟨v, ring, f, rfl, h1, h2, h3, h4⟩
    exact ⟨v, ring, rfl, h1.base (Nat.zero_le _), ⟨fun c e _ => by
      have : c = b := by omega
      subst this
      exact ⟨f, h2, h3⟩, fun h => absurd hx h⟩, h4⟩
  · refine (rround_out a n cap x hx).mono ?_
    rintro e w' ⟨rfl, h1⟩
    exact ⟨_, [], rfl, IR.nil _ _, ⟨fun c e hc => absurd (by omega) hx, fun _ => rfl⟩, h1⟩
set_option maxHeartbeats 8000000 in
set_option maxRecDepth 100000 in
theorem rounds_law {v : Int} (v0 : 0 ≤ v) (v1 : v ≤ 255) {w : World} {a : Option Addr} {cap : Nat} {l : List (Int × Int)} (hE : EdAt w a l) (x : Int) :
    Calls Try.prog 3 #[.int .u8 v, .slice a l.length cap, .int .i64 x] w fun e w' => e = .returned (.bool true) ∧ Below w.heap.size w w' := by
  obtain ⟨n, hn, _, hmod⟩ := mod31 v0
  have hwr : IntKind.i64.wrap v = v := by rw [IntKind.wrap_i64]; omega
  have HE := Lib.hid hE
  obtain ⟨m, hm⟩ : ∃ m, l.length = m := ⟨_, rfl⟩
  have HM0 := Lib.hid hm
  rw [hm]
  clear hm hE
  go_enter Try.func3, Try.ntmps3
  go_wp2_with fail
  refine (awake_any w).mono ?_
  rintro e w1 ⟨rfl, hb1⟩
  have HB1 := Lib.hid hb1
  clear hb1
  by_cases h1 : 100 < m
  · have b1 : decide ((100 : Int) < (m : Int)) = true := by simp; omega
    go_wp2_with fail
    refine bodyPost_ret (v := .bool true) (by simp [results, Try.results3, go_sem]) rfl ⟨rfl, HB1.out⟩
  have b1 : decide ((100 : Int) < (m : Int)) = false := by simp; omega
  obtain ⟨E, hEE⟩ : ∃ E, laidE n false l = E := ⟨_, rfl⟩
  have HOK : Hid (EOk n E) := by rw [← hEE]; exact laidE_ok n false l
  have C3 := Lib.hid (build_any (w := w1) (n := n) (cap := cap) (by omega) (by rw [HM0.out]; omega) ((HE.out.below HB1.out)))
  rw [HM0.out, hEE] at C3
  clear hEE
  go_wp2_with fail
  clear hwr hmod
  refine C3.out.mono ?_
  rintro e w3 ⟨G, a3, cap3, K3, rfl, hG3, hM3, hb3⟩
  obtain ⟨p, hp⟩ : ∃ p, G.pv = .pointer (some p) := ⟨_, hG3.gr.ptr⟩
  have HP := Lib.hid hp
  have HB3 := Lib.hid (HB1.out.trans (hb3.mono HB1.out.size))
  have HG3 := Lib.hid hG3
  have HM3 := Lib.hid hM3
  rw [hp]
  clear hp hG3 hM3 hb3 C3 HB1
  go_upto_region 7 with fail
  refine abs_world ?_
  intro W4 hW4
  have hw : Below w3.heap.size w3 W4 := by
    rw [hW4]
    exact below_alloc w3 _ _ (Nat.le_refl _)
  obtain ⟨Q, hQ⟩ : ∃ Q, w3.heap.size = Q := ⟨_, rfl⟩
  have HQ4 : Hid (W4.heap[Q]? = some (.cells #[.slice a3 n cap3] 27)) := by
    rw [hW4, ← hQ]
    exact heap_alloc_new w3 _
  have HG : Hid (GrE K3 W4 G n E) := HG3.out.below hw
  have HM : Hid (MxA W4 a3 n (adjE E)) := HM3.out.below hw
  have HB4 : Hid (Below w.heap.size w W4) := HB3.out.trans (hw.mono HB3.out.size)
  rw [hQ]
  clear hW4 hw hQ HG3 HM3 HB3
  have q0 := cell_of_heap HQ4.out 0
  have z0 := lt_of_heap HQ4.out
  have C5 := Lib.hid (roundX HOK.out (by omega) HP.out (HG.out.below (Below.refl _ W4).drew) x)
  go_wp2_with fail
  refine wp_region_mix [0, 1, 2, 3, 4, 6, 7] [5, 8, 9, 10, 11] [8, 9, 10, 11] (Below W4.heap.size W4) (by kernel_rfl) (by kernel_rfl) (Below.refl _ _).drew ?_
  iterate 7 (first | (apply first_step; (rw [List.getElem?_toArray]; (repeat rw [List.getElem?_cons_succ]); rw [List.getElem?_cons_zero]); rfl; (intro W hB; have hc := bcellB hB; go_simp; (first | done | rfl)); go_frame) | (apply first_skip; (rw [List.getElem?_toArray]; (repeat rw [List.getElem?_cons_succ]); rw [List.getElem?_cons_zero]); rfl; go_frame))
  refine first_done ?_
  apply tail_step; (rw [List.getElem?_toArray]; (repeat rw [List.getElem?_cons_succ]); rw [List.getElem?_cons_zero]); rfl; rfl; intro K' hK; go_simp
  refine C5.out.mono ?_
  rintro e w5 ⟨v5, r5, rfl, hI5, hR5, hb5⟩
  have hb5' : Below W4.heap.size W4 w5 := (Below.refl _ _).drew.trans hb5
  refine hK _ _ (fun _ => hb5') ?_
  clear hK K'
  have HI5 := Lib.hid hI5
  have HR5 := Lib.hid hR5
  have HB5 := Lib.hid hb5'
  have C6 := Lib.hid (rroundX (cap := cap3) (by omega) (HM.out.below hb5') x)
  clear hI5 hR5 hb5 hb5' C5
  apply tail_step; (rw [List.getElem?_toArray]; (repeat rw [List.getElem?_cons_succ]); rw [List.getElem?_cons_zero]); rfl; rfl; intro K' hK; go_simp
  refine C6.out.mono ?_
  rintro e w6 ⟨v6, r6, rfl, hI6, hR6, hb6⟩
  refine hK _ _ (fun h => absurd (by decide) h) ?_
  clear hK K'
  have HB6 : Hid (Below W4.heap.size W4 w6) := HB5.out.trans (hb6.mono HB5.out.size)
  have C7 := Lib.hid (same_any (HI5.out.below hb6) hI6)
  rw [decide_eq_true (HR5.out.uniq hR6)] at C7
  clear hI6 hR6 hb6 C6 HI5 HR5 HB5
  apply tail_step; (rw [List.getElem?_toArray]; (repeat rw [List.getElem?_cons_succ]); rw [List.getElem?_cons_zero]); rfl; rfl; intro K' hK; go_simp
  refine C7.out.mono ?_
  rintro e w7 ⟨rfl, hb7⟩
  refine hK _ _ (fun h => absurd (by decide) h) ?_
  clear hK K'
  have HB7 : Hid (Below W4.heap.size W4 w7) := HB6.out.trans (hb7.mono HB6.out.size)
  clear hb7 C7 HB6
  (apply tail_step; (rw [List.getElem?_toArray]; (repeat rw [List.getElem?_cons_succ]); rw [List.getElem?_cons_zero]); rfl; rfl; intro K hK; go_simp; refine hK _ _ (fun h => absurd (by decide) h) ?_; clear hK K)
  (apply tail_step; (rw [List.getElem?_toArray]; (repeat rw [List.getElem?_cons_succ]); rw [List.getElem?_cons_zero]); rfl; rfl; intro K hK; go_simp; refine hK _ _ (fun h => absurd (by decide) h) ?_; clear hK K)
  refine tail_done ?_
  have HG7 : Hid (GrE K3 w7 G n E) := HG.out.below HB7.out
  have HM7 : Hid (MxA w7 a3 n (adjE E)) := HM.out.below HB7.out
  have HQ7 : Hid (w7.heap[Q]? = some (.cells #[.slice a3 n cap3] 27)) := (HB7.out.block Q z0).trans HQ4.out
  have HB8 : Hid (Below w.heap.size w w7) := HB4.out.trans (HB7.out.mono HB4.out.size)
  clear HG HM HQ4 HB4 HB7 q0 z0
  go_wp2_with fail
  go_loopg [40] n (fun g s40 wr => ∃ (k : Nat), s40 = .int .i64 (k : Int) ∧ g = n - k ∧ k ≤ n ∧ Hid (GrE K3 wr G n E) ∧ Hid (MxA wr a3 n (adjE E)) ∧ Hid (wr.heap[Q]? = some (.cells #[.slice a3 n cap3] 27)) ∧ Hid (Below w.heap.size w wr))
  case atStart => exact ⟨0, rfl, rfl, Nat.zero_le _, HG7, HM7, HQ7, HB8⟩
  case round =>
    clear HG7 HM7 HQ7 HB8
    obtain ⟨k, rfl, rfl, hk, HG, HM, HQ, HB⟩ := hrel
    by_cases hlt : k < n
    · have q0 := cell_of_heap HQ.out 0
      have z0 := lt_of_heap HQ.out
      have C5 := Lib.hid (roundX HOK.out (by omega) HP.out (HG.out.below (Below.refl _ wr).drew) (k : Int))
      have j1 : (0 : Int) ≤ (k : Int) := by omega
      have j2 : (k : Int) < (n : Int) := by omega
      go_wp2_with fail
      refine wp_region_mix [0, 1, 3, 4] [2, 5, 6, 7] [5, 6, 7] (Below wr.heap.size wr) (by kernel_rfl) (by kernel_rfl) (Below.refl _ _).drew ?_
      iterate 4 (first | (apply first_step; (rw [List.getElem?_toArray]; (repeat rw [List.getElem?_cons_succ]); rw [List.getElem?_cons_zero]); rfl; (intro W hB; have hc := bcellB hB; go_simp; (first | done | rfl)); go_frame) | (apply first_skip; (rw [List.getElem?_toArray]; (repeat rw [List.getElem?_cons_succ]); rw [List.getElem?_cons_zero]); rfl; go_frame))
      refine first_done ?_
      apply tail_step; (rw [List.getElem?_toArray]; (repeat rw [List.getElem?_cons_succ]); rw [List.getElem?_cons_zero]); rfl; rfl; intro K' hK; go_simp
      refine C5.out.mono ?_
      rintro e w5 ⟨v5, r5, rfl, hI5, hR5, hb5⟩
      have hb5' : Below wr.heap.size wr w5 := (Below.refl _ _).drew.trans hb5
      refine hK _ _ (fun _ => hb5') ?_
      clear hK K'
      have HI5 := Lib.hid hI5
      have HR5 := Lib.hid hR5
      have HB5 := Lib.hid hb5'
      have C6 := Lib.hid (rroundX (cap := cap3) (by omega) (HM.out.below hb5') (k : Int))
      clear hI5 hR5 hb5 hb5' C5
      apply tail_step; (rw [List.getElem?_toArray]; (repeat rw [List.getElem?_cons_succ]); rw [List.getElem?_cons_zero]); rfl; rfl; intro K' hK; go_simp
      refine C6.out.mono ?_
      rintro e w6 ⟨v6, r6, rfl, hI6, hR6, hb6⟩
      refine hK _ _ (fun h => absurd (by decide) h) ?_
      clear hK K'
      have HB6 : Hid (Below wr.heap.size wr w6) := HB5.out.trans (hb6.mono HB5.out.size)
      have C7 := Lib.hid (same_any (HI5.out.below hb6) hI6)
      rw [decide_eq_true (HR5.out.uniq hR6)] at C7
      clear hI6 hR6 hb6 C6 HI5 HR5 HB5
      apply tail_step; (rw [List.getElem?_toArray]; (repeat rw [List.getElem?_cons_succ]); rw [List.getElem?_cons_zero]); rfl; rfl; intro K' hK; go_simp
      refine C7.out.mono ?_
      rintro e w7 ⟨rfl, hb7⟩
      refine hK _ _ (fun h => absurd (by decide) h) ?_
      clear hK K'
      have HB7 : Hid (Below wr.heap.size wr w7) := HB6.out.trans (hb7.mono HB6.out.size)
      clear hb7 C7 HB6
      (apply tail_step; (rw [List.getElem?_toArray]; (repeat rw [List.getElem?_cons_succ]); rw [List.getElem?_cons_zero]); rfl; rfl; intro K hK; go_simp; refine hK _ _ (fun h => absurd (by decide) h) ?_; clear hK K)
      refine tail_done ?_
      have HG7 : Hid (GrE K3 w7 G n E) := HG.out.below HB7.out
      have HM7 : Hid (MxA w7 a3 n (adjE E)) := HM.out.below HB7.out
      have HQ7 : Hid (w7.heap[Q]? = some (.cells #[.slice a3 n cap3] 27)) := (HB7.out.block Q z0).trans HQ.out
      have HB8 : Hid (Below w.heap.size w w7) := HB.out.trans (HB7.out.mono HB.out.size)
      clear HG HM HQ HB HB7 q0 z0
      go_wp2_with fail
      go_roundg (n - (k + 1))
      case measure => omega
      case rel => exact ⟨k + 1, by go_num, rfl, by omega, HG7, HM7, HQ7, HB8⟩
    · go_wp2_with fail
      refine bodyPost_ret (v := .bool true) (by simp [results, Try.results3, go_sem]) rfl ⟨rfl, HB.out⟩
end Go.Proofs.Ytcjohhminiedfaa
