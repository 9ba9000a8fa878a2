/- The document's Make: digits, strip, Near. -/
import Derived.Test.YtndhmahkglfopaaGreatDoorQT13Num2
import Derived.Test.YtndhmahkglfopaaGreatDoorQT13NumA
import Derived.Test.YtndhmahkglfopaaGreatDoorQT13Right
namespace Go.Proofs.YtndhmahkglfopaaGreatDoor
open Go.RowKit
/-- A number's digits, the first one first. -/
def rdg (n : Nat) : List Nat := if _h : n = 0 then [] else rdg (n / 10) ++ [n % 10]
decreasing_by omega
theorem rdg_zero : rdg 0 = [] := by unfold rdg; simp
theorem rdg_pos {n : Nat} (h : n ≠ 0) : rdg n = rdg (n / 10) ++ [n % 10] := by
  rw [rdg]; simp [h]
theorem rdg_len : ∀ (k n : Nat), n ≤ k → (rdg n).length = nd n
  | 0, 0, _ => by rw [rdg_zero, nd_zero]; rfl
  | k + 1, n, h => by
    by_cases h0 : n = 0
    · subst h0; rw [rdg_zero, nd_zero]; rfl
    · rw [rdg_pos h0, nd_pos h0, List.length_append, rdg_len k (n / 10) (by omega)]
      rfl
def iv6 (d : Nat) : Value := .int .i64 (d : Int)
theorem iv6_one (l : List Nat) : ∀ u ∈ l.map iv6, u.oneCell' = true := fun u hu => by
  obtain ⟨d, _, rfl⟩ := List.mem_map.1 hu
  rfl
theorem tmod_neg {k : Int} (h : k < 0) : Int.tmod k 10 = -((k.natAbs % 10 : Nat) : Int) := by
  obtain ⟨n, rfl⟩ : ∃ n : Nat, k = -(n : Int) := ⟨k.natAbs, by omega⟩
  rw [Int.neg_tmod, Int.natAbs_neg, Int.natAbs_natCast]
  exact congrArg (fun x : Int => -x) (Int.ofNat_tmod n 10).symm
theorem tmod_pos {k : Int} (h : 0 ≤ k) : Int.tmod k 10 = ((k.natAbs % 10 : Nat) : Int) := by
  obtain ⟨n, rfl⟩ : ∃ n : Nat, k = (n : Int) := ⟨k.natAbs, by omega⟩
  rw [Int.natAbs_natCast]
  exact (Int.ofNat_tmod n 10).symm
theorem tmod_both {k : Int} {d : Nat} (hd : d = k.natAbs % 10) : (Int.tmod k 10 = (d : Int) ∧ decide ((d : Int) < 0) = false) ∨ (Int.tmod k 10 = -(d : Int) ∧ decide (-(d : Int) < 0) = true ∧ 0 < d) := by
  by_cases hk0 : 0 ≤ k
  · exact .inl ⟨by rw [tmod_pos hk0, hd], decide_eq_false (by omega)⟩
  · have h := tmod_neg (k := k) (by omega)
    rw [← hd] at h
    by_cases hd0 : d = 0
    · subst hd0
      exact .inl ⟨h, decide_eq_false (by omega)⟩
    · exact .inr ⟨h, decide_eq_true (by omega), by omega⟩
set_option maxHeartbeats 1000000 in
set_option maxRecDepth 100000 in
theorem digitsC_any (m : Int) (h : Small m) (w : World) : Calls Tryz.prog 49 #[.int .i64 m] w fun r w' => (∃ v, r = .returned v ∧ w'.ownsRow w.heap.size 3 1 v (rdg m.natAbs).length ((rdg m.natAbs).map iv6)) ∧ Below w.heap.size w w' := by
  have hN := nd_le 15 m.natAbs (by unfold Small at h; omega)
  obtain ⟨i0, hi, hz0, hz1, hz2⟩ := info_parts info3
  have HI := Lib.hid hi
  have HZ0 := Lib.hid hz0
  have HZ1 := Lib.hid hz1
  have HZ2 := Lib.hid hz2
  clear hi hz0 hz1 hz2
  go_enter Tryz.func49, Tryz.ntmps49
  go_wp2_with fail
  go_loopw [0, 3] (fun x v wr => ∃ (k : Int) (ys : List Nat), x = .int .i64 k ∧ Small k ∧ Hid (rdg k.natAbs ++ ys = rdg m.natAbs) ∧ Hid (wr.ownsRow w.heap.size 3 1 v ys.length (ys.map iv6)) ∧ Hid (Below w.heap.size w wr)) (fun x _ _ => (intOf x).natAbs)
  case atStart => exact ⟨m, [], rfl, h, by unfold Hid; rw [List.append_nil], World.ownsRow_nil _ _ _ _, Below.refl _ _⟩
  case round =>
    obtain ⟨k, ys, rfl, hk, hS, hO, hB⟩ := hrel
    have hn15 : ys.length ≤ 15 := by
      have h1 := congrArg List.length hS.out
      rw [List.length_append, rdg_len _ m.natAbs (Nat.le_refl _)] at h1
      omega
    by_cases h0 : k = 0
    · subst h0
      have EN : Hid (ys = rdg m.natAbs) := by have := hS.out; rw [show (0 : Int).natAbs = 0 from rfl, rdg_zero, List.nil_append] at this; exact this
      clear hS
      go_wp2_with fail
      go_ret
      refine ⟨⟨u3, rfl, ?_⟩, hB.out⟩
      rw [← EN.out]
      exact hO.out
    · have n0 : (k != 0) = true := by simpa using h0
      have hkz : k.natAbs ≠ 0 := by omega
      obtain ⟨d, hd⟩ : ∃ d, d = k.natAbs % 10 := ⟨_, rfl⟩
      have HS : Hid (rdg (k.natAbs / 10) ++ (d :: ys) = rdg m.natAbs) := by
        have := hS.out
        rw [rdg_pos hkz, ← hd, List.append_assoc] at this
        exact this
      have hrow := hO.out
      have hbs := hB.out.size
      have hd9 : d ≤ 9 := by omega
      have qd : (k.tdiv 10).natAbs = k.natAbs / 10 := by rw [Int.natAbs_tdiv]; rfl
      have QS : Hid (Small (k.tdiv 10)) := by show (k.tdiv 10).natAbs < 1000000000000000; rw [qd]; exact Nat.lt_of_le_of_lt (Nat.div_le_self _ _) hk
      have WT : Hid (wrap64 (k.tdiv 10) = k.tdiv 10) := by
        have h1 : (k.tdiv 10).natAbs < 1000000000000000 := QS.out
        exact IntWalk.wrap64_in _ (by generalize k.tdiv 10 = z at h1; omega)
      have QN : Hid (rdg (k.tdiv 10).natAbs ++ (d :: ys) = rdg m.natAbs) := by unfold Hid; rw [qd]; exact HS.out
      have QM : Hid ((k.tdiv 10).natAbs < k.natAbs) := by unfold Hid; rw [qd]; exact Nat.div_lt_self (Nat.pos_of_ne_zero hkz) (by decide)
      have wd1 : wrap64 (-(-(d : Int))) = (d : Int) := by rw [Int.neg_neg]; exact IntWalk.wrap64_in _ (by omega)
      have wd2 : wrap64 (-(d : Int)) = -(d : Int) := IntWalk.wrap64_in _ (by omega)
      have wd3 : wrap64 (d : Int) = (d : Int) := IntWalk.wrap64_in _ (by omega)
      have htm := tmod_both hd
      clear hS h hkz hd qd HS
      rcases hrow.2 with ⟨hv, hn0⟩ | ⟨g, cap, cur, hv, hg, hh, hnc, hcm, hsz, ht⟩
      · have hy : ys = [] := List.length_eq_zero_iff.1 hn0
        subst hv
        subst hy
        clear hO hrow hn0
        rcases htm with ⟨tm, ds⟩ | ⟨tm, ds, dp⟩
        · go_wp2_with fail
          go_roundw
          case rel => exact ⟨k.tdiv 10, [d], by rw [WT.out], QS.out, QN.out, own_new1 wr _ _ hbs, hB.out.alloc hbs _⟩
          case measure =>
            simp only [intOf]
            rw [WT.out]
            exact QM.out
        · go_wp2_with fail
          go_roundw
          case rel => exact ⟨k.tdiv 10, [d], by rw [WT.out], QS.out, QN.out, own_new1 wr _ _ hbs, hB.out.alloc hbs _⟩
          case measure =>
            simp only [intOf]
            rw [WT.out]
            exact QM.out
      · have hcell : ∀ (j : Nat) (u : Value), (ys.map iv6)[j]? = some u → wr.cell? ((⟨g, 0, none⟩ : Addr).add j) = some u := fun j u hu => by
          have hj : j < (ys.map iv6).length := (List.getElem?_eq_some_iff.1 hu).1
          have e : (⟨g, 0, none⟩ : Addr).add j = ⟨g, j, none⟩ := by
            by_cases hj0 : j = 0
            · subst hj0; simp [Addr.add]
            · simp [Addr.add, hj0]
          rw [e, cell_of_heap hh, ← hu, ← ht, List.getElem?_take_of_lt (by simpa using hj)]
          simp
        have HCE := Lib.hid hcell
        have hgl := lt_of_heap hh
        subst hv
        clear hO hrow hcell hh hsz ht
        rcases htm with ⟨tm, ds⟩ | ⟨tm, ds, dp⟩
        · go_wp2_with (at_builtin; refine wpList_append_own_at _ rfl _ _ 75 rfl w.heap.size 3 i0 (.int .i64 0) 1 8 Tryz.underlying75 HI.out HZ0.out HZ1.out HZ2.out rfl (by decide) (.slice (some ⟨wr.heap.size, 0, none⟩) 1 1) 1 [.int .i64 (d : Int)] rfl (own_new1 wr w.heap.size _ hbs) ⟨g, 0, none⟩ ys.length cap (ys.map iv6) rfl (by rw [List.length_map]; omega) (fun j u hu => (cell_new_old _ (HCE.out j u hu))) (iv6_one ys) (by unfold maxLen; omega) (by omega) (by simp; omega) ?_; intro v' wN hown hgrow _ _)
          go_roundw
          case rel =>
            refine ⟨k.tdiv 10, d :: ys, by rw [WT.out], QS.out, QN.out, ?_, (hB.out.alloc hbs _).grown hgrow (by simp; omega) (fun j e => by cases e; exact hbs)⟩
            rw [List.length_cons, Nat.add_comm]
            exact hown
          case measure =>
            simp only [intOf]
            rw [WT.out]
            exact QM.out
        · go_wp2_with (at_builtin; refine wpList_append_own_at _ rfl _ _ 75 rfl w.heap.size 3 i0 (.int .i64 0) 1 8 Tryz.underlying75 HI.out HZ0.out HZ1.out HZ2.out rfl (by decide) (.slice (some ⟨wr.heap.size, 0, none⟩) 1 1) 1 [.int .i64 (d : Int)] rfl (own_new1 wr w.heap.size _ hbs) ⟨g, 0, none⟩ ys.length cap (ys.map iv6) rfl (by rw [List.length_map]; omega) (fun j u hu => (cell_new_old _ (HCE.out j u hu))) (iv6_one ys) (by unfold maxLen; omega) (by omega) (by simp; omega) ?_; intro v' wN hown hgrow _ _)
          go_roundw
          case rel =>
            refine ⟨k.tdiv 10, d :: ys, by rw [WT.out], QS.out, QN.out, ?_, (hB.out.alloc hbs _).grown hgrow (by simp; omega) (fun j e => by cases e; exact hbs)⟩
            rw [List.length_cons, Nat.add_comm]
            exact hown
          case measure =>
            simp only [intOf]
            rw [WT.out]
            exact QM.out
end Go.Proofs.YtndhmahkglfopaaGreatDoor
/- The document's Make: strip, Near. -/
namespace Go.Proofs.YtndhmahkglfopaaGreatDoor
open Go.RowKit
/-- Digits in memory. -/
def RdS (w : World) (b : Nat) (D : List Nat) : Prop := b < w.heap.size ∧ ∀ (i d : Nat), D[i]? = some d → w.cell? ⟨b, i, none⟩ = some (.int .i64 (d : Int))
theorem RdS.below {w w' : World} {b : Nat} {D : List Nat} (h : RdS w b D) (hb : Below w.heap.size w w') : RdS w' b D :=
  ⟨Nat.lt_of_lt_of_le h.1 hb.size, fun i d hd => (hb.cell (p := ⟨b, i, none⟩) h.1).trans (h.2 i d hd)⟩
theorem rds_of_own {w : World} {B : Nat} {v : Value} {D : List Nat} (h : w.ownsRow B 3 1 v D.length (D.map iv6)) (h0 : 0 < D.length) : ∃ b cap, v = .slice (some ⟨b, 0, none⟩) D.length cap ∧ D.length ≤ cap ∧ RdS w b D := by
  rcases h.2 with ⟨e, h1⟩ | ⟨gb, cap, cur, hv, hB, hh, hn, _, hsz, ht⟩
  · omega
  · refine ⟨gb, cap, hv, hn, lt_of_heap hh, fun i d hd => ?_⟩
    have hlt : i < D.length := (List.getElem?_eq_some_iff.1 hd).1
    have : (D.map iv6)[i]? = some (iv6 d) := by simp [hd]
    rw [← ht, List.getElem?_take_of_lt (by omega)] at this
    rw [cell_of_heap hh]
    simpa [iv6] using this
theorem rdg_head : ∀ (k n : Nat), n ≤ k → n ≠ 0 → ∃ d, (rdg n)[0]? = some d ∧ d ≠ 0
  | 0, 0, _, h => absurd rfl h
  | k + 1, n, hk, h => by
    rw [rdg_pos h]
    by_cases h1 : n / 10 = 0
    · rw [h1, rdg_zero]
      exact ⟨n % 10, rfl, by omega⟩
    · obtain ⟨d, hd, h0⟩ := rdg_head k (n / 10) (by omega) h1
      exact ⟨d, by rw [List.getElem?_append_left (List.getElem?_eq_some_iff.1 hd).1]; exact hd, h0⟩
/-- What digits tell. -/
def valR (D : List Nat) : Nat := D.foldl (fun a d => 10 * a + d) 0
theorem valR_rdg : ∀ (k n : Nat), n ≤ k → valR (rdg n) = n
  | 0, 0, _ => by rw [rdg_zero]; rfl
  | k + 1, n, hk => by
    by_cases h : n = 0
    · subst h; rw [rdg_zero]; rfl
    · rw [rdg_pos h]
      unfold valR
      rw [List.foldl_append]
      have := valR_rdg k (n / 10) (by omega)
      unfold valR at this
      rw [this]
      simp
      omega
theorem valR_take {D : List Nat} {i d : Nat} (hd : D[i]? = some d) : valR (D.take (i + 1)) = 10 * valR (D.take i) + d := by
  unfold valR
  rw [List.take_add_one, hd, List.foldl_append]
  rfl
section
variable (w : World)
set_option maxHeartbeats 2000000
set_option maxRecDepth 100000
theorem strip_no (b : Nat) (D : List Nat) (cap d0 : Nat) (hD : RdS w b D) (h0 : D[0]? = some d0) (hd : d0 ≠ 0) : Calls Tryz.prog 79 #[.slice (some ⟨b, 0, none⟩) D.length cap] w fun e w' => e = .returned (.slice (some ⟨b, 0, none⟩) D.length cap) ∧ w = w' := by
  have c0 := hD.2 0 d0 h0
  have hl : 0 < D.length := (List.getElem?_eq_some_iff.1 h0).1
  have n0 : ((d0 : Int) == 0) = false := by simp; omega
  have hlt : decide (0 < (D.length : Int)) = true := decide_eq_true (by omega)
  have hb := hD.1
  go_enter Tryz.func79, Tryz.ntmps79
  go_wp2_with fail
  go_loop [0] (fun v => v = .slice (some ⟨b, 0, none⟩) D.length cap) (fun _ => 0)
  case atStart => rfl
  case round =>
    subst hrel
    go_wp2_with fail
    go_ret
    exact ⟨rfl, rfl⟩
end
end Go.Proofs.YtndhmahkglfopaaGreatDoor
