/- Numbers: how many digits; when a number may be. -/
import Derived.Test.YtlcglkanlhmmdaaGreatProg
import Derived.Laws.AppendOwnNone
import Derived.Test.YtlcglkanlhmmdaaGreatQBase
import Derived.Test.YtlcglkanlhmmdaaGreatQN17Tree
namespace Go.Proofs.YtlcglkanlhmmdaaGreat
open Go.RowKit
/-- How many digits, of 0 none. -/
def nd (n : Nat) : Nat := if h : n = 0 then 0 else nd (n / 10) + 1
theorem nd_zero : nd 0 = 0 := by unfold nd; simp
theorem nd_pos {n : Nat} (h : n ≠ 0) : nd n = nd (n / 10) + 1 := by
  rw [nd]
  simp [h]
theorem nd_small {n : Nat} (h : n ≠ 0) (h2 : n < 10) : nd n = 1 := by
  rw [nd_pos h, show n / 10 = 0 by omega, nd_zero]
theorem nd_le : ∀ (k n : Nat), n < 10 ^ k → nd n ≤ k
  | 0, n, h => by
    have : n = 0 := by simp at h; exact h
    rw [this, nd_zero]
    exact Nat.le_refl _
  | k + 1, n, h => by
    by_cases h0 : n = 0
    · rw [h0, nd_zero]; omega
    · rw [nd_pos h0]
      have := nd_le k (n / 10) (by rw [Nat.pow_succ] at h; omega)
      omega
def numR (m e : Int) : Bool := if m = 0 then decide (e = 0) else decide (m.natAbs < 1000000000000000 ∧ m.natAbs % 10 ≠ 0 ∧ -40 ≤ e ∧ e ≤ 40 ∧ (nd m.natAbs : Int) + e ≤ 40)
theorem ret_int {k : IntKind} {a b : Int} (h : a = b) : Ending.returned (.int k a) = .returned (.int k b) := by rw [h]
set_option maxHeartbeats 400000 in
theorem count_any (n : Nat) (h1 : 1 ≤ n) (h2 : n < 1000000000000000) (w : World) : Calls Tryz.prog 97 #[.int .u64 n] w fun e w' => e = .returned (.int .i64 (nd n)) ∧ w = w' := by
  have hN := nd_le 15 n (by omega)
  go_enter Tryz.func97, Tryz.ntmps97
  go_wp2_with fail
  go_loop [0, 3] (fun x d => ∃ m j : Nat, x = .int .u64 m ∧ d = .int .i64 j ∧ 1 ≤ m ∧ m ≤ n ∧ 1 ≤ j ∧ Hid (nd m + j = nd n + 1)) (fun x _ => (intOf x).toNat)
  case atStart => exact ⟨n, 1, rfl, rfl, h1, Nat.le_refl _, Nat.le_refl _, rfl⟩
  case round =>
    obtain ⟨m, j, rfl, rfl, hm, hmn, hj, hS⟩ := hrel
    have hjb : j ≤ 16 := by have := hS.out; omega
    by_cases hlt : m < 10
    · have HJ : Hid (j = nd n) := by have := hS.out; rw [nd_small (by omega) hlt] at this; unfold Hid; omega
      go_wp2_with fail
      go_ret
      exact ⟨ret_int (by rw [HJ.out]), rfl⟩
    · have HS : Hid (nd (m / 10) + (j + 1) = nd n + 1) := by have := hS.out; rw [nd_pos (by omega)] at this; unfold Hid; omega
      clear hS
      go_wp2_with fail
      go_round
      case rel => exact ⟨m / 10, j + 1, by go_num, by go_num, by omega, by omega, by omega, HS⟩
      case measure => simp [intOf]; omega
set_option maxHeartbeats 400000 in
theorem size_any (m : Int) (h : m.natAbs < 1000000000000000) (w : World) : Calls Tryz.prog 96 #[.int .i64 m] w fun e w' => e = .returned (.int .u64 (m.natAbs : Nat)) ∧ w = w' := by
  by_cases h0 : m < 0
  · go_enter Tryz.func96, Tryz.ntmps96
    go_wp2_with fail
    go_ret
    refine ⟨ret_int ?_, rfl⟩
    simp only [IntKind.wrap, IntKind.signed, IntKind.bits]
    simp
    omega
  · go_enter Tryz.func96, Tryz.ntmps96
    go_wp2_with fail
    go_ret
    exact ⟨ret_int (by omega), rfl⟩
set_option maxHeartbeats 1000000 in
set_option maxRecDepth 100000 in
theorem numRight_yes (m e : Int) (h : numR m e = true) (w : World) : Calls Tryz.prog 77 #[.agg #[.int .i64 m, .int .i64 e]] w fun r w' => r = .returned (.bool true) ∧ Below w.heap.size w w' := by
  unfold numR at h
  by_cases h0 : m = 0
  · rw [if_pos h0] at h
    have he : e = 0 := by simpa using h
    subst h0
    subst he
    clear h
    go_enter Tryz.func77, Tryz.ntmps77
    go_wp2_with fail
    go_ret
    refine ⟨rfl, ?_⟩
    (repeat (first | with_reducible exact Below.refl _ _ | with_reducible exact hBW | with_reducible refine Below.setCell ?_ ?_ _ | with_reducible refine Below.alloc ?_ ?_ _ | with_reducible refine belowN ?_ _ | with_reducible refine Below.drew ?_)); all_goals (first | omega | (dsimp only; omega) | ((repeat (first | with_reducible refine le_alloc ?_ | with_reducible refine le_setCell ?_ | with_reducible refine le_drew ?_ | with_reducible refine le_drewN ?_)); omega))
  · rw [if_neg h0] at h
    obtain ⟨h1, h2, h3, h4, h5⟩ : m.natAbs < 1000000000000000 ∧ m.natAbs % 10 ≠ 0 ∧ -40 ≤ e ∧ e ≤ 40 ∧ (nd m.natAbs : Int) + e ≤ 40 := by simpa using h
    have hn1 : 1 ≤ m.natAbs := by omega
    have hd := nd_pos (n := m.natAbs) (by omega)
    have hd15 := nd_le 15 m.natAbs (by omega)
    have n0 : (m == 0) = false := by simpa using h0
    have he : e < 40 := by omega
    have HC := Lib.hid (count_any m.natAbs hn1 h1)
    have HS := Lib.hid (size_any m h1)
    generalize nd m.natAbs = D at HC h5 hd15
    generalize m.natAbs = M at HC HS h1 h2 hn1
    have n1 : ((M : Int) % 10 == 0) = false := by simp; omega
    have hbig : decide ((1000000000000000 : Int) ≤ (M : Int)) = false := by simp; omega
    have H1 := Lib.hid h1
    clear h hd h0 h1
    go_enter Tryz.func77, Tryz.ntmps77
    go_wp2_with fail
    refine (HS.out _).mono ?_
    rintro r w1 ⟨rfl, rfl⟩
    go_wp2_with fail
    refine abs_world ?_
    intro W1 hW1
    have hB1 : Hid (Below w.heap.size w W1) := by rw [hW1]; unfold Hid; (repeat (first | with_reducible exact Below.refl _ _ | with_reducible exact hBW | with_reducible refine Below.setCell ?_ ?_ _ | with_reducible refine Below.alloc ?_ ?_ _ | with_reducible refine belowN ?_ _ | with_reducible refine Below.drew ?_)); all_goals (first | omega | (dsimp only; omega) | ((repeat (first | with_reducible refine le_alloc ?_ | with_reducible refine le_setCell ?_ | with_reducible refine le_drew ?_ | with_reducible refine le_drewN ?_)); omega))
    have ev : W1.heap[w.heap.size]? = some (.cells #[.int .i64 m, .int .i64 e] 31) := by rw [hW1]; (repeat (first | (with_reducible refine heap_alloc_at ?_ _; (first | rfl | (simp; done) | omega | (simp; omega)); done) | with_reducible refine heap_alloc_old ?_ _ | with_reducible refine heap_drew_old ?_ | with_reducible refine heap_drewN_old ?_))
    have k1 := cell_of_heap ev 1
    have z1 := lt_of_heap ev
    have wd : IntKind.i64.wrap ((D : Int) + e) = (D : Int) + e := IntWalk.i64_in _ (by omega)
    have wl : decide ((D : Int) + e ≤ 40) = true := by simpa using h5
    clear hW1 ev n0 n1 hbig
    refine wp_region_mix [0, 2, 3] [1, 4, 5, 6] [4, 5, 6] (Below W1.heap.size W1) (by kernel_rfl) (by kernel_rfl) (Below.refl _ _).drew ?_
    iterate 3 (first | (apply first_step; (rw [List.getElem?_toArray]; (repeat rw [List.getElem?_cons_succ]); rw [List.getElem?_cons_zero]); rfl; (intro W hB; have hc := bcellB hB; go_simp; (first | done | rfl)); go_frame) | (apply first_skip; (rw [List.getElem?_toArray]; (repeat rw [List.getElem?_cons_succ]); rw [List.getElem?_cons_zero]); rfl; go_frame))
    refine first_done ?_
    apply tail_step; (rw [List.getElem?_toArray]; (repeat rw [List.getElem?_cons_succ]); rw [List.getElem?_cons_zero]); rfl; rfl; intro K hK; go_simp
    refine (HC.out _).mono ?_
    rintro r w2 ⟨rfl, rfl⟩
    refine hK _ _ (fun _ => (Below.refl _ W1).drew) ?_
    clear hK K
    (apply tail_step; (rw [List.getElem?_toArray]; (repeat rw [List.getElem?_cons_succ]); rw [List.getElem?_cons_zero]); rfl; rfl; intro K hK; go_simp; refine hK _ _ (fun h => absurd (by decide) h) ?_; clear hK K)
    (apply tail_step; (rw [List.getElem?_toArray]; (repeat rw [List.getElem?_cons_succ]); rw [List.getElem?_cons_zero]); rfl; rfl; intro K hK; go_simp; refine hK _ _ (fun h => absurd (by decide) h) ?_; clear hK K)
    (apply tail_step; (rw [List.getElem?_toArray]; (repeat rw [List.getElem?_cons_succ]); rw [List.getElem?_cons_zero]); rfl; rfl; intro K hK; go_simp; refine hK _ _ (fun h => absurd (by decide) h) ?_; clear hK K)
    refine tail_done ?_
    go_wp2_with fail
    go_ret
    exact ⟨rfl, hB1.out.drew⟩
theorem cell_new_old {W : World} {a : Addr} {v : Value} (o : Obj) (h : W.cell? a = some v) : (W.alloc o).cell? a = some v :=
  ((below_alloc W o _ (Nat.le_refl _)).cell (World.block_lt_of_cell? W _ h)).trans h
theorem own_new1 (W : World) (B : Nat) (x : Value) (hB : B ≤ W.heap.size) : (W.alloc (.cells #[x] 3)).ownsRow B 3 1 (.slice (some ⟨W.heap.size, 0, none⟩) 1 1) 1 [x] :=
  ⟨rfl, .inr ⟨W.heap.size, 1, #[x], rfl, hB, heap_alloc_new W _, Nat.le_refl _, by unfold maxLen; omega, rfl, rfl⟩⟩
def Small (k : Int) : Prop := k.natAbs < 1000000000000000
theorem info3 : (Tryz.prog.info? 3).map (fun i => (i.zero, i.size, i.bytes)) = some (some (.int .i64 0), 1, 8) := by kernel_rfl
set_option maxHeartbeats 1000000 in
set_option maxRecDepth 100000 in
theorem digits_any (m : Int) (h : Small m) (w : World) : Calls Tryz.prog 107 #[.int .i64 m] w fun r w' => (∃ a cap, r = .returned (.slice a (nd m.natAbs) cap)) ∧ Below w.heap.size w w' := by
  have hN := nd_le 15 m.natAbs (by unfold Small at h; omega)
  obtain ⟨i0, hi, hz0, hz1, hz2⟩ := info_parts info3
  have HI := Lib.hid hi
  have HZ0 := Lib.hid hz0
  have HZ1 := Lib.hid hz1
  have HZ2 := Lib.hid hz2
  clear hi hz0 hz1 hz2
  go_enter Tryz.func107, Tryz.ntmps107
  go_wp2_with fail
  go_loopw [0, 3] (fun x v wr => ∃ (k : Int) (n : Nat) (xs : List Value), x = .int .i64 k ∧ Small k ∧ Hid (nd k.natAbs + n = nd m.natAbs) ∧ Hid (wr.ownsRow w.heap.size 3 1 v n xs ∧ ∀ u ∈ xs, u.oneCell' = true) ∧ Hid (Below w.heap.size w wr)) (fun x _ _ => (intOf x).natAbs)
  case atStart => exact ⟨m, 0, [], rfl, h, rfl, ⟨World.ownsRow_nil _ _ _ _, fun u hu => by cases hu⟩, Below.refl _ _⟩
  case round =>
    obtain ⟨k, n, xs, rfl, hk, hS, hO, hB⟩ := hrel
    have hn15 : n ≤ 15 := by have := hS.out; omega
    by_cases h0 : k = 0
    · subst h0
      have e : n = nd m.natAbs := by have := hS.out; rw [show (0 : Int).natAbs = 0 from rfl, nd_zero] at this; omega
      have EN : Hid (n = nd m.natAbs) := e
      have SV : Hid (∃ a cap, u3 = .slice a n cap) := by
        obtain ⟨_, h2⟩ := hO.out.1
        rcases h2 with ⟨h2, h3⟩ | ⟨g, c, cur, h2, _⟩
        · exact ⟨none, 0, by rw [h2, h3]⟩
        · exact ⟨_, _, h2⟩
      clear e hS
      go_wp2_with fail
      go_ret
      refine ⟨?_, hB.out⟩
      obtain ⟨a, cap, e⟩ := SV.out
      exact ⟨a, cap, by rw [← EN.out, ← e]; rfl⟩
    · have n0 : (k != 0) = true := by simpa using h0
      have hkz : k.natAbs ≠ 0 := by omega
      have HS : Hid (nd (k.natAbs / 10) + (n + 1) = nd m.natAbs) := by have := hS.out; rw [nd_pos hkz] at this; unfold Hid; omega
      obtain ⟨hrow, hone⟩ := hO.out
      have HONE := Lib.hid hone
      have hbs := hB.out.size
      have qd : (k.tdiv 10).natAbs = k.natAbs / 10 := by rw [Int.natAbs_tdiv]; rfl
      have QS : Hid (Small (k.tdiv 10)) := by unfold Small Hid at *; omega
      have WT : Hid (wrap64 (k.tdiv 10) = k.tdiv 10) := IntWalk.wrap64_in _ (by unfold Small at hk; omega)
      have QN : Hid (nd (k.tdiv 10).natAbs + (n + 1) = nd m.natAbs) := by unfold Hid; rw [qd]; exact HS.out
      have QM : Hid ((k.tdiv 10).natAbs < k.natAbs) := by unfold Hid; omega
      rcases hrow.2 with ⟨hv, hn0⟩ | ⟨g, cap, cur, hv, hg, hh, hnc, hcm, hsz, ht⟩
      · subst hv
        subst hn0
        clear hS hO hrow hone h hkz h0 qd HS
        go_wp2_with fail
        all_goals
          refine ⟨⟨k.tdiv 10, 1, _, by rw [WT.out], QS.out, QN.out, ⟨own_new1 wr _ _ hbs, by simp [Value.oneCell']⟩, hB.out.alloc hbs _⟩, ?_⟩
          rw [WT.out]
          exact QM.out
      · have hcell : ∀ (j : Nat) (u : Value), xs[j]? = some u → wr.cell? ((⟨g, 0, none⟩ : Addr).add j) = some u := fun j u hu => by
          have hj : j < xs.length := (List.getElem?_eq_some_iff.1 hu).1
          have e : (⟨g, 0, none⟩ : Addr).add j = ⟨g, j, none⟩ := by
            by_cases hj0 : j = 0
            · subst hj0; simp [Addr.add]
            · simp [Addr.add, hj0]
          rw [e, cell_of_heap hh, ← hu, ← ht, List.getElem?_take_of_lt (by have := hrow.1; omega)]
          simp
        have HCE := Lib.hid hcell
        have hxl : xs.length = n := by have := hrow.1; omega
        have HXL := Lib.hid hxl
        have hgl := lt_of_heap hh
        subst hv
        clear hS hO hrow hone h hkz h0 qd HS hcell hh hsz ht hxl
        go_wp2_with (at_builtin; refine wpList_append_own_at _ rfl _ _ 140 rfl w.heap.size 3 i0 (.int .i64 0) 1 8 Tryz.underlying140 HI.out HZ0.out HZ1.out HZ2.out rfl (by decide) _ _ _ rfl (own_new1 wr w.heap.size _ hbs) ⟨g, 0, none⟩ n cap xs rfl (by rw [HXL.out]; omega) (fun j u hu => (cell_new_old _ (HCE.out j u hu))) HONE.out (by unfold maxLen; omega) (by omega) (by simp; omega) ?_; intro v' wN hown hgrow _ _)
        all_goals
          refine ⟨⟨k.tdiv 10, n + 1, _, by rw [WT.out], QS.out, QN.out, ⟨by rw [Nat.add_comm]; exact hown, ?_⟩, ?_⟩, ?_⟩
          · intro u hu
            rcases List.mem_append.1 hu with hu | hu
            · rw [List.mem_singleton.1 hu]; rfl
            · exact HONE.out u hu
          · exact (hB.out.alloc hbs _).grown hgrow (by simp; omega) (fun j e => by cases e; exact hbs)
          · rw [WT.out]
            exact QM.out
set_option maxHeartbeats 1000000 in
set_option maxRecDepth 100000 in
theorem of_any (m e : Int) (h : Small m) (w : World) : Calls Tryz.prog 105 #[.agg #[.int .i64 m, .int .i64 e]] w fun r w' => (∃ b a cap, r = .returned (.agg #[.bool b, .slice a (nd m.natAbs) cap, .int .i64 e])) ∧ Below w.heap.size w w' := by
  have HD := Lib.hid (digits_any m h)
  clear h
  generalize nd m.natAbs = N at HD ⊢
  go_enter Tryz.func105, Tryz.ntmps105
  go_wp2_with fail
  refine abs_world ?_
  intro W1 hW1
  have hB1 : Hid (Below w.heap.size w W1) := by rw [hW1]; unfold Hid; (repeat (first | with_reducible exact Below.refl _ _ | with_reducible exact hBW | with_reducible refine Below.setCell ?_ ?_ _ | with_reducible refine Below.alloc ?_ ?_ _ | with_reducible refine belowN ?_ _ | with_reducible refine Below.drew ?_)); all_goals (first | omega | (dsimp only; omega) | ((repeat (first | with_reducible refine le_alloc ?_ | with_reducible refine le_setCell ?_ | with_reducible refine le_drew ?_ | with_reducible refine le_drewN ?_)); omega))
  have ev : W1.heap[w.heap.size]? = some (.cells #[.int .i64 m, .int .i64 e] 31) := by rw [hW1]; (repeat (first | (with_reducible refine heap_alloc_at ?_ _; (first | rfl | (simp; done) | omega | (simp; omega)); done) | with_reducible refine heap_alloc_old ?_ _ | with_reducible refine heap_drew_old ?_ | with_reducible refine heap_drewN_old ?_))
  have er : W1.heap[w.heap.size + 1]? = some (.cells #[.bool false, .slice none 0 0, .int .i64 0] 142) := by rw [hW1]; (repeat (first | (with_reducible refine heap_alloc_at ?_ _; (first | rfl | (simp; done) | omega | (simp; omega)); done) | with_reducible refine heap_alloc_old ?_ _ | with_reducible refine heap_drew_old ?_ | with_reducible refine heap_drewN_old ?_))
  have k0 := cell_of_heap ev 0
  have k1 := cell_of_heap ev 1
  have z1 := lt_of_heap ev
  have ER := Lib.hid er
  clear hW1 ev er
  refine wp_region_mix [0, 1, 2, 3, 4, 6, 7] [5, 8, 9] [8, 9] (Below W1.heap.size W1) (by kernel_rfl) (by kernel_rfl) (Below.refl _ _).drew ?_
  iterate 7 (first | (apply first_step; (rw [List.getElem?_toArray]; (repeat rw [List.getElem?_cons_succ]); rw [List.getElem?_cons_zero]); rfl; (intro W hB; have hc := bcellB hB; go_simp; (first | done | rfl)); go_frame) | (apply first_skip; (rw [List.getElem?_toArray]; (repeat rw [List.getElem?_cons_succ]); rw [List.getElem?_cons_zero]); rfl; go_frame))
  refine first_done ?_
  apply tail_step; (rw [List.getElem?_toArray]; (repeat rw [List.getElem?_cons_succ]); rw [List.getElem?_cons_zero]); rfl; rfl; intro K hK; go_simp
  refine (HD.out _).mono ?_
  rintro r w2 ⟨⟨a, cap, rfl⟩, hb2⟩
  have hb2' : Below W1.heap.size W1 w2 := (Below.refl _ W1).drew.trans hb2
  refine hK _ _ (fun _ => hb2') ?_
  clear hK K
  have er2 := (hb2'.block _ (lt_of_heap ER.out)).trans ER.out
  have x2 := cell_of_heap er2
  have y2 := frozen_of_heap er2
  have z2 := lt_of_heap er2
  have HB2 := Lib.hid (hB1.out.trans (hb2'.mono hB1.out.size))
  clear hb2 hb2' er2 k0 k1
  (apply tail_step; (rw [List.getElem?_toArray]; (repeat rw [List.getElem?_cons_succ]); rw [List.getElem?_cons_zero]); rfl; rfl; intro K hK; go_simp; refine hK _ _ (fun h => absurd (by decide) h) ?_; clear hK K)
  (apply tail_step; (rw [List.getElem?_toArray]; (repeat rw [List.getElem?_cons_succ]); rw [List.getElem?_cons_zero]); rfl; rfl; intro K hK; go_simp; refine hK _ _ (fun h => absurd (by decide) h) ?_; clear hK K)
  refine tail_done ?_
  go_wp2_with fail
  have hBW := HB2.out
  refine bodyPost_ret (v := .agg #[.bool (decide (m < 0)), .slice a N cap, .int .i64 e]) (by simp [results, Tryz.results105, go_sem, x2]) rfl ⟨⟨_, _, _, rfl⟩, ?_⟩
  (repeat (first | with_reducible exact Below.refl _ _ | with_reducible exact hBW | with_reducible refine Below.setCell ?_ ?_ _ | with_reducible refine Below.alloc ?_ ?_ _ | with_reducible refine belowN ?_ _ | with_reducible refine Below.drew ?_)); all_goals (first | omega | (dsimp only; omega) | ((repeat (first | with_reducible refine le_alloc ?_ | with_reducible refine le_setCell ?_ | with_reducible refine le_drew ?_ | with_reducible refine le_drewN ?_)); omega))
theorem numR_no {m e : Int} (h0 : m ≠ 0) (h : ¬ (m.natAbs < 1000000000000000 ∧ m.natAbs % 10 ≠ 0 ∧ -40 ≤ e ∧ e ≤ 40 ∧ (nd m.natAbs : Int) + e ≤ 40)) : numR m e = false := by
  unfold numR
  rw [if_neg h0]
  exact decide_eq_false h
theorem numR_at {m e : Int} (h0 : m ≠ 0) (h1 : m.natAbs < 1000000000000000) (h2 : m.natAbs % 10 ≠ 0) (h3 : -40 ≤ e) (h4 : e ≤ 40) : numR m e = decide ((nd m.natAbs : Int) + e ≤ 40) := by
  unfold numR
  rw [if_neg h0]
  apply decide_eq_decide.2
  exact ⟨fun h => h.2.2.2.2, fun h => ⟨h1, h2, h3, h4, h⟩⟩
theorem tmod10 (m : Int) : m.tmod 10 = 0 ↔ m.natAbs % 10 = 0 := by
  rw [← Int.natAbs_eq_zero, Int.natAbs_tmod]
  rfl
set_option maxHeartbeats 1000000 in
set_option maxRecDepth 100000 in
theorem refNum_any (m e : Int) (w : World) : Calls Tryz.prog 98 #[.agg #[.int .i64 m, .int .i64 e]] w fun r w' => r = .returned (.bool (numR m e)) ∧ Below w.heap.size w w' := by
  by_cases h0 : m = 0
  · subst h0
    have hr : numR 0 e = (e == 0) := by unfold numR; rw [if_pos rfl]; by_cases h : e = 0 <;> simp [h]
    rw [hr]
    clear hr
    go_enter Tryz.func98, Tryz.ntmps98
    go_wp2_with fail
    go_ret
    refine ⟨rfl, ?_⟩
    (repeat (first | with_reducible exact Below.refl _ _ | with_reducible exact hBW | with_reducible refine Below.setCell ?_ ?_ _ | with_reducible refine Below.alloc ?_ ?_ _ | with_reducible refine belowN ?_ _ | with_reducible refine Below.drew ?_)); all_goals (first | omega | (dsimp only; omega) | ((repeat (first | with_reducible refine le_alloc ?_ | with_reducible refine le_setCell ?_ | with_reducible refine le_drew ?_ | with_reducible refine le_drewN ?_)); omega))
  · have n0 : (m == 0) = false := by simpa using h0
    by_cases h1 : 1000000000000000 ≤ m
    · rw [numR_no h0 (by omega)]
      have t1 : decide (1000000000000000 ≤ m) = true := by simpa using h1
      clear h1
      go_enter Tryz.func98, Tryz.ntmps98
      go_wp2_with fail
      go_ret
      refine ⟨rfl, ?_⟩
      (repeat (first | with_reducible exact Below.refl _ _ | with_reducible exact hBW | with_reducible refine Below.setCell ?_ ?_ _ | with_reducible refine Below.alloc ?_ ?_ _ | with_reducible refine belowN ?_ _ | with_reducible refine Below.drew ?_)); all_goals (first | omega | (dsimp only; omega) | ((repeat (first | with_reducible refine le_alloc ?_ | with_reducible refine le_setCell ?_ | with_reducible refine le_drew ?_ | with_reducible refine le_drewN ?_)); omega))
    · have t1 : decide (1000000000000000 ≤ m) = false := by simpa using h1
      by_cases h2 : m ≤ -1000000000000000
      · rw [numR_no h0 (by omega)]
        have t2 : decide (m ≤ -1000000000000000) = true := by simpa using h2
        clear h1 h2
        go_enter Tryz.func98, Tryz.ntmps98
        go_wp2_with fail
        go_ret
        refine ⟨rfl, ?_⟩
        (repeat (first | with_reducible exact Below.refl _ _ | with_reducible exact hBW | with_reducible refine Below.setCell ?_ ?_ _ | with_reducible refine Below.alloc ?_ ?_ _ | with_reducible refine belowN ?_ _ | with_reducible refine Below.drew ?_)); all_goals (first | omega | (dsimp only; omega) | ((repeat (first | with_reducible refine le_alloc ?_ | with_reducible refine le_setCell ?_ | with_reducible refine le_drew ?_ | with_reducible refine le_drewN ?_)); omega))
      · have t2 : decide (m ≤ -1000000000000000) = false := by simpa using h2
        have hs : Small m := by unfold Small; omega
        by_cases h3 : m.tmod 10 = 0
        · rw [numR_no h0 (fun h => h.2.1 ((tmod10 m).1 h3))]
          clear h1 h2
          go_enter Tryz.func98, Tryz.ntmps98
          go_wp2_with fail
          go_ret
          refine ⟨rfl, ?_⟩
          (repeat (first | with_reducible exact Below.refl _ _ | with_reducible exact hBW | with_reducible refine Below.setCell ?_ ?_ _ | with_reducible refine Below.alloc ?_ ?_ _ | with_reducible refine belowN ?_ _ | with_reducible refine Below.drew ?_)); all_goals (first | omega | (dsimp only; omega) | ((repeat (first | with_reducible refine le_alloc ?_ | with_reducible refine le_setCell ?_ | with_reducible refine le_drew ?_ | with_reducible refine le_drewN ?_)); omega))
        · have h3' : m.natAbs % 10 ≠ 0 := fun h => h3 ((tmod10 m).2 h)
          have t3 : (m.tmod 10 == 0) = false := by simpa using h3
          by_cases h4 : e < -40
          · rw [numR_no h0 (by omega)]
            clear h1 h2 h3
            go_enter Tryz.func98, Tryz.ntmps98
            go_wp2_with fail
            go_ret
            refine ⟨rfl, ?_⟩
            (repeat (first | with_reducible exact Below.refl _ _ | with_reducible exact hBW | with_reducible refine Below.setCell ?_ ?_ _ | with_reducible refine Below.alloc ?_ ?_ _ | with_reducible refine belowN ?_ _ | with_reducible refine Below.drew ?_)); all_goals (first | omega | (dsimp only; omega) | ((repeat (first | with_reducible refine le_alloc ?_ | with_reducible refine le_setCell ?_ | with_reducible refine le_drew ?_ | with_reducible refine le_drewN ?_)); omega))
          · by_cases h5 : 40 < e
            · rw [numR_no h0 (by omega)]
              clear h1 h2 h3
              go_enter Tryz.func98, Tryz.ntmps98
              go_wp2_with fail
              go_ret
              refine ⟨rfl, ?_⟩
              (repeat (first | with_reducible exact Below.refl _ _ | with_reducible exact hBW | with_reducible refine Below.setCell ?_ ?_ _ | with_reducible refine Below.alloc ?_ ?_ _ | with_reducible refine belowN ?_ _ | with_reducible refine Below.drew ?_)); all_goals (first | omega | (dsimp only; omega) | ((repeat (first | with_reducible refine le_alloc ?_ | with_reducible refine le_setCell ?_ | with_reducible refine le_drew ?_ | with_reducible refine le_drewN ?_)); omega))
            · rw [numR_at h0 (by omega) h3' (by omega) (by omega)]
              have HO := Lib.hid (of_any m e hs)
              have hd15 := nd_le 15 m.natAbs (by unfold Small at hs; omega)
              generalize nd m.natAbs = D at HO hd15 ⊢
              clear h1 h2 h3 h3' hs
              go_enter Tryz.func98, Tryz.ntmps98
              go_wp2_with fail
              refine abs_world ?_
              intro W1 hW1
              have hB1 : Hid (Below w.heap.size w W1) := by rw [hW1]; unfold Hid; (repeat (first | with_reducible exact Below.refl _ _ | with_reducible exact hBW | with_reducible refine Below.setCell ?_ ?_ _ | with_reducible refine Below.alloc ?_ ?_ _ | with_reducible refine belowN ?_ _ | with_reducible refine Below.drew ?_)); all_goals (first | omega | (dsimp only; omega) | ((repeat (first | with_reducible refine le_alloc ?_ | with_reducible refine le_setCell ?_ | with_reducible refine le_drew ?_ | with_reducible refine le_drewN ?_)); omega))
              have ev : W1.heap[w.heap.size]? = some (.cells #[.int .i64 m, .int .i64 e] 31) := by rw [hW1]; (repeat (first | (with_reducible refine heap_alloc_at ?_ _; (first | rfl | (simp; done) | omega | (simp; omega)); done) | with_reducible refine heap_alloc_old ?_ _ | with_reducible refine heap_drew_old ?_ | with_reducible refine heap_drewN_old ?_))
              have k0 := cell_of_heap ev 0
              have k1 := cell_of_heap ev 1
              have z1 := lt_of_heap ev
              have wd : IntKind.i64.wrap ((D : Int) + e) = (D : Int) + e := IntWalk.i64_in _ (by omega)
              clear hW1 ev n0 t1 t2 t3
              refine wp_region_mix [0, 4, 5] [1, 2, 3, 6, 7, 8] [6, 7, 8] (Below W1.heap.size W1) (by kernel_rfl) (by kernel_rfl) (Below.refl _ _).drew ?_
              iterate 3 (first | (apply first_step; (rw [List.getElem?_toArray]; (repeat rw [List.getElem?_cons_succ]); rw [List.getElem?_cons_zero]); rfl; (intro W hB; have hc := bcellB hB; go_simp; (first | done | rfl)); go_frame) | (apply first_skip; (rw [List.getElem?_toArray]; (repeat rw [List.getElem?_cons_succ]); rw [List.getElem?_cons_zero]); rfl; go_frame))
              refine first_done ?_
              apply tail_step; (rw [List.getElem?_toArray]; (repeat rw [List.getElem?_cons_succ]); rw [List.getElem?_cons_zero]); rfl; rfl; intro K hK; go_simp
              refine (HO.out _).mono ?_
              rintro r w2 ⟨⟨b, a, cap, rfl⟩, hb2⟩
              have hb2' : Below W1.heap.size W1 w2 := (Below.refl _ W1).drew.trans hb2
              refine hK _ _ (fun _ => hb2') ?_
              clear hK K
              have HB2 := Lib.hid hb2'
              clear hb2 hb2' k0 k1
              apply tail_step; (rw [List.getElem?_toArray]; (repeat rw [List.getElem?_cons_succ]); rw [List.getElem?_cons_zero]); rfl; rfl; intro K hK; go_simp; refine hK _ _ (fun _ => HB2.out) ?_; clear hK K
              apply tail_step; (rw [List.getElem?_toArray]; (repeat rw [List.getElem?_cons_succ]); rw [List.getElem?_cons_zero]); rfl; rfl; intro K hK; go_simp; refine hK _ _ (fun _ => HB2.out) ?_; clear hK K
              (apply tail_step; (rw [List.getElem?_toArray]; (repeat rw [List.getElem?_cons_succ]); rw [List.getElem?_cons_zero]); rfl; rfl; intro K hK; go_simp; refine hK _ _ (fun h => absurd (by decide) h) ?_; clear hK K)
              (apply tail_step; (rw [List.getElem?_toArray]; (repeat rw [List.getElem?_cons_succ]); rw [List.getElem?_cons_zero]); rfl; rfl; intro K hK; go_simp; refine hK _ _ (fun h => absurd (by decide) h) ?_; clear hK K)
              (apply tail_step; (rw [List.getElem?_toArray]; (repeat rw [List.getElem?_cons_succ]); rw [List.getElem?_cons_zero]); rfl; rfl; intro K hK; go_simp; refine hK _ _ (fun h => absurd (by decide) h) ?_; clear hK K)
              refine tail_done ?_
              go_wp2_with fail
              go_ret
              exact ⟨rfl, hB1.out.trans (HB2.out.mono hB1.out.size)⟩
def I64 (n : Int) : Prop := -9223372036854775808 ≤ n ∧ n ≤ 9223372036854775807
set_option maxHeartbeats 400000 in
theorem size_all (m : Int) (h : I64 m) (w : World) : Calls Tryz.prog 96 #[.int .i64 m] w fun e w' => e = .returned (.int .u64 (m.natAbs : Nat)) ∧ w = w' := by
  unfold I64 at h
  by_cases h0 : m < 0
  · go_enter Tryz.func96, Tryz.ntmps96
    go_wp2_with fail
    go_ret
    refine ⟨ret_int ?_, rfl⟩
    simp only [IntKind.wrap, IntKind.signed, IntKind.bits]
    simp
    omega
  · go_enter Tryz.func96, Tryz.ntmps96
    go_wp2_with fail
    go_ret
    exact ⟨ret_int (by omega), rfl⟩
section
variable (m e : Int) (M : Nat) (w : World)
set_option maxHeartbeats 1000000
set_option maxRecDepth 100000
theorem numN_1 (n0 : (m == 0) = false) (hbig : decide ((1000000000000000 : Int) ≤ (M : Int)) = true) (HS : ∀ w : World, Calls Tryz.prog 96 #[.int .i64 m] w fun e w' => e = .returned (.int .u64 (M : Nat)) ∧ w = w') : Calls Tryz.prog 77 #[.agg #[.int .i64 m, .int .i64 e]] w fun r w' => r = .returned (.bool false) ∧ Below w.heap.size w w' := by
  have HS := Lib.hid HS
  go_enter Tryz.func77, Tryz.ntmps77
  go_wp2_with fail
  refine (HS.out _).mono ?_
  rintro r w1 ⟨rfl, rfl⟩
  go_wp2_with fail
  go_ret
  refine ⟨rfl, ?_⟩
  (repeat (first | with_reducible exact Below.refl _ _ | with_reducible exact hBW | with_reducible refine Below.setCell ?_ ?_ _ | with_reducible refine Below.alloc ?_ ?_ _ | with_reducible refine belowN ?_ _ | with_reducible refine Below.drew ?_)); all_goals (first | omega | (dsimp only; omega) | ((repeat (first | with_reducible refine le_alloc ?_ | with_reducible refine le_setCell ?_ | with_reducible refine le_drew ?_ | with_reducible refine le_drewN ?_)); omega))
theorem numN_2 (n0 : (m == 0) = false) (hbig : decide ((1000000000000000 : Int) ≤ (M : Int)) = false) (n1 : ((M : Int) % 10 == 0) = true) (HS : ∀ w : World, Calls Tryz.prog 96 #[.int .i64 m] w fun e w' => e = .returned (.int .u64 (M : Nat)) ∧ w = w') : Calls Tryz.prog 77 #[.agg #[.int .i64 m, .int .i64 e]] w fun r w' => r = .returned (.bool false) ∧ Below w.heap.size w w' := by
  have HS := Lib.hid HS
  go_enter Tryz.func77, Tryz.ntmps77
  go_wp2_with fail
  refine (HS.out _).mono ?_
  rintro r w1 ⟨rfl, rfl⟩
  go_wp2_with fail
  go_ret
  refine ⟨rfl, ?_⟩
  (repeat (first | with_reducible exact Below.refl _ _ | with_reducible exact hBW | with_reducible refine Below.setCell ?_ ?_ _ | with_reducible refine Below.alloc ?_ ?_ _ | with_reducible refine belowN ?_ _ | with_reducible refine Below.drew ?_)); all_goals (first | omega | (dsimp only; omega) | ((repeat (first | with_reducible refine le_alloc ?_ | with_reducible refine le_setCell ?_ | with_reducible refine le_drew ?_ | with_reducible refine le_drewN ?_)); omega))
theorem numN_3 (n0 : (m == 0) = false) (hbig : decide ((1000000000000000 : Int) ≤ (M : Int)) = false) (n1 : ((M : Int) % 10 == 0) = false) (he : decide (e < -40) = true) (HS : ∀ w : World, Calls Tryz.prog 96 #[.int .i64 m] w fun e w' => e = .returned (.int .u64 (M : Nat)) ∧ w = w') : Calls Tryz.prog 77 #[.agg #[.int .i64 m, .int .i64 e]] w fun r w' => r = .returned (.bool false) ∧ Below w.heap.size w w' := by
  have HS := Lib.hid HS
  go_enter Tryz.func77, Tryz.ntmps77
  go_wp2_with fail
  refine (HS.out _).mono ?_
  rintro r w1 ⟨rfl, rfl⟩
  go_wp2_with fail
  go_ret
  refine ⟨rfl, ?_⟩
  (repeat (first | with_reducible exact Below.refl _ _ | with_reducible exact hBW | with_reducible refine Below.setCell ?_ ?_ _ | with_reducible refine Below.alloc ?_ ?_ _ | with_reducible refine belowN ?_ _ | with_reducible refine Below.drew ?_)); all_goals (first | omega | (dsimp only; omega) | ((repeat (first | with_reducible refine le_alloc ?_ | with_reducible refine le_setCell ?_ | with_reducible refine le_drew ?_ | with_reducible refine le_drewN ?_)); omega))
theorem numN_4 (n0 : (m == 0) = false) (hbig : decide ((1000000000000000 : Int) ≤ (M : Int)) = false) (n1 : ((M : Int) % 10 == 0) = false) (he : decide (e < -40) = false) (he2 : decide (40 ≤ e) = true) (HS : ∀ w : World, Calls Tryz.prog 96 #[.int .i64 m] w fun e w' => e = .returned (.int .u64 (M : Nat)) ∧ w = w') : Calls Tryz.prog 77 #[.agg #[.int .i64 m, .int .i64 e]] w fun r w' => r = .returned (.bool false) ∧ Below w.heap.size w w' := by
  have HS := Lib.hid HS
  go_enter Tryz.func77, Tryz.ntmps77
  go_wp2_with fail
  refine (HS.out _).mono ?_
  rintro r w1 ⟨rfl, rfl⟩
  go_wp2_with fail
  go_ret
  refine ⟨rfl, ?_⟩
  (repeat (first | with_reducible exact Below.refl _ _ | with_reducible exact hBW | with_reducible refine Below.setCell ?_ ?_ _ | with_reducible refine Below.alloc ?_ ?_ _ | with_reducible refine belowN ?_ _ | with_reducible refine Below.drew ?_)); all_goals (first | omega | (dsimp only; omega) | ((repeat (first | with_reducible refine le_alloc ?_ | with_reducible refine le_setCell ?_ | with_reducible refine le_drew ?_ | with_reducible refine le_drewN ?_)); omega))
theorem numN_5 (D : Nat) (n0 : (m == 0) = false) (hbig : decide ((1000000000000000 : Int) ≤ (M : Int)) = false) (n1 : ((M : Int) % 10 == 0) = false) (he : decide (e < -40) = false) (he2 : decide (40 ≤ e) = false) (hD : D ≤ 15) (wl : decide ((D : Int) + e ≤ 40) = false) (HS : ∀ w : World, Calls Tryz.prog 96 #[.int .i64 m] w fun e w' => e = .returned (.int .u64 (M : Nat)) ∧ w = w') (HC : ∀ w : World, Calls Tryz.prog 97 #[.int .u64 M] w fun e w' => e = .returned (.int .i64 D) ∧ w = w') : Calls Tryz.prog 77 #[.agg #[.int .i64 m, .int .i64 e]] w fun r w' => r = .returned (.bool false) ∧ Below w.heap.size w w' := by
  have HS := Lib.hid HS
  have HC := Lib.hid HC
  go_enter Tryz.func77, Tryz.ntmps77
  go_wp2_with fail
  refine (HS.out _).mono ?_
  rintro r w1 ⟨rfl, rfl⟩
  go_wp2_with fail
  refine abs_world ?_
  intro W1 hW1
  have hB1 : Hid (Below w.heap.size w W1) := by rw [hW1]; unfold Hid; (repeat (first | with_reducible exact Below.refl _ _ | with_reducible exact hBW | with_reducible refine Below.setCell ?_ ?_ _ | with_reducible refine Below.alloc ?_ ?_ _ | with_reducible refine belowN ?_ _ | with_reducible refine Below.drew ?_)); all_goals (first | omega | (dsimp only; omega) | ((repeat (first | with_reducible refine le_alloc ?_ | with_reducible refine le_setCell ?_ | with_reducible refine le_drew ?_ | with_reducible refine le_drewN ?_)); omega))
  have ev : W1.heap[w.heap.size]? = some (.cells #[.int .i64 m, .int .i64 e] 31) := by rw [hW1]; (repeat (first | (with_reducible refine heap_alloc_at ?_ _; (first | rfl | (simp; done) | omega | (simp; omega)); done) | with_reducible refine heap_alloc_old ?_ _ | with_reducible refine heap_drew_old ?_ | with_reducible refine heap_drewN_old ?_))
  have k1 := cell_of_heap ev 1
  have z1 := lt_of_heap ev
  have wd : IntKind.i64.wrap ((D : Int) + e) = (D : Int) + e := IntWalk.i64_in _ (by simp at he he2; omega)
  clear hW1 ev n0 n1 hbig
  refine wp_region_mix [0, 2, 3] [1, 4, 5, 6] [4, 5, 6] (Below W1.heap.size W1) (by kernel_rfl) (by kernel_rfl) (Below.refl _ _).drew ?_
  iterate 3 (first | (apply first_step; (rw [List.getElem?_toArray]; (repeat rw [List.getElem?_cons_succ]); rw [List.getElem?_cons_zero]); rfl; (intro W hB; have hc := bcellB hB; go_simp; (first | done | rfl)); go_frame) | (apply first_skip; (rw [List.getElem?_toArray]; (repeat rw [List.getElem?_cons_succ]); rw [List.getElem?_cons_zero]); rfl; go_frame))
  refine first_done ?_
  apply tail_step; (rw [List.getElem?_toArray]; (repeat rw [List.getElem?_cons_succ]); rw [List.getElem?_cons_zero]); rfl; rfl; intro K hK; go_simp
  refine (HC.out _).mono ?_
  rintro r w2 ⟨rfl, rfl⟩
  refine hK _ _ (fun _ => (Below.refl _ W1).drew) ?_
  clear hK K
  (apply tail_step; (rw [List.getElem?_toArray]; (repeat rw [List.getElem?_cons_succ]); rw [List.getElem?_cons_zero]); rfl; rfl; intro K hK; go_simp; refine hK _ _ (fun h => absurd (by decide) h) ?_; clear hK K)
  (apply tail_step; (rw [List.getElem?_toArray]; (repeat rw [List.getElem?_cons_succ]); rw [List.getElem?_cons_zero]); rfl; rfl; intro K hK; go_simp; refine hK _ _ (fun h => absurd (by decide) h) ?_; clear hK K)
  (apply tail_step; (rw [List.getElem?_toArray]; (repeat rw [List.getElem?_cons_succ]); rw [List.getElem?_cons_zero]); rfl; rfl; intro K hK; go_simp; refine hK _ _ (fun h => absurd (by decide) h) ?_; clear hK K)
  refine tail_done ?_
  go_wp2_with fail
  go_ret
  exact ⟨rfl, hB1.out.drew⟩
theorem numN_0 (he : (e == 0) = false) : Calls Tryz.prog 77 #[.agg #[.int .i64 0, .int .i64 e]] w fun r w' => r = .returned (.bool false) ∧ Below w.heap.size w w' := by
  go_enter Tryz.func77, Tryz.ntmps77
  go_wp2_with fail
  go_ret
  refine ⟨rfl, ?_⟩
  (repeat (first | with_reducible exact Below.refl _ _ | with_reducible exact hBW | with_reducible refine Below.setCell ?_ ?_ _ | with_reducible refine Below.alloc ?_ ?_ _ | with_reducible refine belowN ?_ _ | with_reducible refine Below.drew ?_)); all_goals (first | omega | (dsimp only; omega) | ((repeat (first | with_reducible refine le_alloc ?_ | with_reducible refine le_setCell ?_ | with_reducible refine le_drew ?_ | with_reducible refine le_drewN ?_)); omega))
end
theorem num_all (m e : Int) (h : I64 m) (w : World) : Calls Tryz.prog 77 #[.agg #[.int .i64 m, .int .i64 e]] w fun r w' => r = .returned (.bool (numR m e)) ∧ Below w.heap.size w w' := by
  by_cases hT : numR m e = true
  · rw [hT]; exact numRight_yes m e hT w
  · have hF : numR m e = false := by simpa using hT
    rw [hF]
    by_cases h0 : m = 0
    · subst h0
      refine numN_0 e w ?_
      unfold numR at hF
      simpa using hF
    · have n0 : (m == 0) = false := by simpa using h0
      unfold numR at hF
      rw [if_neg h0] at hF
      have hF' := of_decide_eq_false hF
      have HS := size_all m h
      by_cases c1 : (1000000000000000 : Int) ≤ (m.natAbs : Int)
      · exact numN_1 m e m.natAbs w n0 (by simpa using c1) HS
      by_cases c2 : m.natAbs % 10 = 0
      · exact numN_2 m e m.natAbs w n0 (by simpa using c1) (by simp; omega) HS
      by_cases c3 : e < -40
      · exact numN_3 m e m.natAbs w n0 (by simpa using c1) (by simp; omega) (by simpa using c3) HS
      by_cases c4 : 40 ≤ e
      · exact numN_4 m e m.natAbs w n0 (by simpa using c1) (by simp; omega) (by simpa using c3) (by simpa using c4) HS
      · have hd15 := nd_le 15 m.natAbs (by omega)
        refine numN_5 m e m.natAbs w (nd m.natAbs) n0 (by simpa using c1) (by simp; omega) (by simpa using c3) (by simpa using c4) hd15 ?_ HS (count_any m.natAbs (by omega) (by omega))
        simp only [decide_eq_false_iff_not]
        intro h5
        exact hF' ⟨by omega, c2, by omega, by omega, h5⟩
end Go.Proofs.YtlcglkanlhmmdaaGreat
