/- The document's answer: when an array may be. -/
import Derived.Laws.IdiomStrings
import Derived.Test.YtndhmahkglfopaaGreatDoorQT13Ref
import Derived.Test.YtndhmahkglfopaaGreatDoorQT13NumA
import Derived.Test.YtndhmahkglfopaaGreatDoorQT13Right
import Derived.Test.YtndhmahkglfopaaGreatDoorQT16P
import Derived.Test.YtndhmahkglfopaaGreatDoorQT16H
import Derived.Test.YtndhmahkglfopaaGreatDoorQT16X
namespace Go.Proofs.YtndhmahkglfopaaGreatDoor
open Go.RowKit
structure ArrR (A : Arr) : Prop where
  h1 : 1 ≤ A.r
  h2 : 1 ≤ A.c
  h3 : A.r ≤ 4096
  h4 : A.c ≤ 4096
  h5 : A.r * A.c ≤ 4096
  h6 : (A.l.length : Int) = A.r * A.c
  h7 : ∀ v ∈ A.l, refR v = true
theorem ArrR.ok {A : Arr} (h : ArrR A) : ArrOk A :=
  ⟨h.h1, h.h2, h.h3, (Int.le_ediv_iff_mul_le (by have := h.h1; omega)).2 (by rw [Int.mul_comm]; exact h.h5), h.h6, fun v hv => refR_right (h.h7 v hv)⟩
section
variable (A : Arr) (a : Option Addr) (cap : Nat) (w : World)
set_option maxHeartbeats 1000000
set_option maxRecDepth 100000
end
end Go.Proofs.YtndhmahkglfopaaGreatDoor
/- Fold: capital letters. -/
namespace Go.Proofs.YtndhmahkglfopaaGreatDoor
open Go.RowKit
theorem upB_hi {c : UInt8} (h1 : 97 ≤ (c.toNat : Int)) (h2 : (c.toNat : Int) ≤ 122) : ((upB c).toNat : Int) = (c.toNat : Int) - 97 + 65 := by
  unfold upB
  have h : 97 ≤ c ∧ c ≤ 122 := by
    rw [UInt8.le_iff_toNat_le, UInt8.le_iff_toNat_le]
    simp
    omega
  rw [if_pos h]
  have h3 : c.toNat < 256 := c.toNat_lt
  simp [UInt8.toNat_add, UInt8.toNat_sub]
  omega
theorem upB_lo {c : UInt8} (h : ¬ (97 ≤ (c.toNat : Int) ∧ (c.toNat : Int) ≤ 122)) : upB c = c := by
  unfold upB
  rw [if_neg]
  rw [UInt8.le_iff_toNat_le, UInt8.le_iff_toNat_le]
  simp
  omega
/-- The block of bytes under way: the first i are folded. -/
def FSt (w : World) (n i : Nat) (l : List UInt8) (wr : World) : Prop :=
  Below w.heap.size w wr ∧ ∃ (C : Array Value) (m : Nat), wr.heap[w.heap.size]? = some (.cells C 5 (m, m + 1)) ∧ n ≤ m ∧ ∀ (j : Nat) (c : UInt8), (upL (l.take i) ++ l.drop i)[j]? = some c → C[j]? = some (.int .u8 (c.toNat : Int))
theorem FSt.cell {w wr : World} {n i : Nat} {l : List UInt8} (h : FSt w n i l wr) {c : UInt8} (hc : l[i]? = some c) : wr.cell? ⟨w.heap.size, i, none⟩ = some (.int .u8 (c.toNat : Int)) := by
  obtain ⟨_, C, m, h1, _, h3⟩ := h
  have hi := (List.getElem?_eq_some_iff.1 hc).1
  have e : (upL (l.take i) ++ l.drop i)[i]? = some c := by
    rw [List.getElem?_append_right (by simp [upL]; omega)]
    simp [upL, Nat.min_eq_left (Nat.le_of_lt hi), hc]
  have := h3 i c e
  simp [World.cell?, h1, this]
theorem FSt.frozen {w wr : World} {n i : Nat} {l : List UInt8} (h : FSt w n i l wr) (j : Nat) (hj : j < n) : wr.frozen? ⟨w.heap.size, j, none⟩ = false := by
  obtain ⟨_, C, m, h1, h2, _⟩ := h
  simp [World.frozen?, h1]
  omega
theorem up_step {l : List UInt8} {i : Nat} {c : UInt8} (hc : l[i]? = some c) : upL (l.take (i + 1)) ++ l.drop (i + 1) = (upL (l.take i) ++ l.drop i).set i (upB c) := by
  have hi := (List.getElem?_eq_some_iff.1 hc).1
  have e1 : l.take (i + 1) = l.take i ++ [c] := by rw [List.take_add_one, hc]; rfl
  have e2 : l.drop i = c :: l.drop (i + 1) := by
    rw [List.drop_eq_getElem_cons hi]
    have : l[i] = c := by rw [List.getElem?_eq_getElem hi] at hc; simpa using hc
    rw [this]
  have hlen : (upL (l.take i)).length = i := by simp [upL]; omega
  rw [e1, e2, List.set_append_right _ _ (by omega), hlen, Nat.sub_self]
  simp [upL]
theorem FSt.keep {w wr : World} {n i : Nat} {l : List UInt8} (h : FSt w n i l wr) {c : UInt8} (hc : l[i]? = some c) (hu : upB c = c) : FSt w n (i + 1) l wr := by
  obtain ⟨h0, C, m, h1, h2, h3⟩ := h
  refine ⟨h0, C, m, h1, h2, fun j d hd => ?_⟩
  rw [up_step hc, hu] at hd
  have e : (upL (l.take i) ++ l.drop i).set i c = upL (l.take i) ++ l.drop i := by
    have hi := (List.getElem?_eq_some_iff.1 hc).1
    apply List.ext_getElem?
    intro q
    rw [List.getElem?_set]
    split
    · rename_i hq
      subst hq
      split
      · rw [List.getElem?_append_right (by simp [upL]; omega)]
        simp [upL, Nat.min_eq_left (Nat.le_of_lt hi), hc]
      · rename_i hq
        exfalso
        apply hq
        simp [upL]
        omega
    · rfl
  rw [e] at hd
  exact h3 j d hd
theorem FSt.put {w wr : World} {n i : Nat} {l : List UInt8} (h : FSt w n i l wr) {c : UInt8} (hc : l[i]? = some c) {x : Int} (hx : ((upB c).toNat : Int) = x) : FSt w n (i + 1) l (wr.setCell ⟨w.heap.size, i, none⟩ (.int .u8 x)) := by
  obtain ⟨h0, C, m, h1, h2, h3⟩ := h
  refine ⟨h0.setCell (p := ⟨w.heap.size, i, none⟩) (Nat.le_refl _) _, _, m, heap_setCell_at h1 i _, h2, fun j d hd => ?_⟩
  rw [up_step hc, List.getElem?_set] at hd
  split at hd
  · rename_i hq
    subst hq
    split at hd
    · cases hd
      rw [← hx]
      have hin : i < C.size := by
        have hi := (List.getElem?_eq_some_iff.1 hc).1
        have e : (upL (l.take i) ++ l.drop i)[i]? = some c := by
          rw [List.getElem?_append_right (by simp [upL]; omega)]
          simp [upL, Nat.min_eq_left (Nat.le_of_lt hi), hc]
        exact (Array.getElem?_eq_some_iff.1 (h3 i c e)).1
      simp [hin]
    · cases hd
  · rename_i hq
    rw [Array.getElem?_setIfInBounds_ne hq]
    exact h3 j d hd
set_option maxHeartbeats 1000000 in
set_option maxRecDepth 100000 in
theorem folded_any (s : ByteArray) (hs : s.size ≤ 255) (w : World) : Calls Tryz.prog 135 #[.string s] w fun e w' => e = .returned (.string ⟨(upL s.data.toList).toArray⟩) ∧ Below w.heap.size w w' := by
  have hconv := run_bytes_of_string (P := Tryz.prog) w 9 87 5 s Tryz.underlying9 Tryz.underlying87 Tryz.underlying5
  have S0 : Hid (FSt w s.size 0 s.data.toList (w.drew.alloc (.cells (bytesRow s (grownCap w s.size 0 5)) 5 ((bytesRow s (grownCap w s.size 0 5)).size, (bytesRow s (grownCap w s.size 0 5)).size + 1)))) := by
    refine ⟨(Below.refl _ w).drew.alloc (Nat.le_refl _) _, _, _, heap_alloc_new w.drew _, ?_, fun j c hc => ?_⟩
    · unfold bytesRow
      rw [Array.size_append, Array.size_map]
      exact Nat.le_add_right _ _
    · simp [upL] at hc
      have hj : j < s.data.size := (Array.getElem?_eq_some_iff.1 hc).1
      rw [bytesRow_at s _ j hj]
      have : s.data[j] = c := by rw [Array.getElem?_eq_getElem hj] at hc; simpa using hc
      rw [this]
  obtain ⟨cap, hcap⟩ : ∃ cap, cap = grownCap w s.size 0 5 := ⟨_, rfl⟩
  obtain ⟨W0, hW0⟩ : ∃ W0, W0 = w.drew.alloc (.cells (bytesRow s (grownCap w s.size 0 5)) 5 ((bytesRow s (grownCap w s.size 0 5)).size, (bytesRow s (grownCap w s.size 0 5)).size + 1)) := ⟨_, rfl⟩
  rw [← hW0] at hconv S0
  rw [← hcap] at hconv
  clear hcap hW0
  have hul : (upL s.data.toList).length = s.size := by unfold upL; rw [List.length_map, Array.length_toList]; rfl
  have hback : ∀ (W : World), (∀ j (hj : j < (upL s.data.toList).length), W.cell? ((⟨w.heap.size, 0, none⟩ : Addr).add j) = some (.int .u8 ((upL s.data.toList)[j].toNat : Int))) → (convert 87 9 (.slice (some ⟨w.heap.size, 0, none⟩) s.size cap)).run Tryz.prog W = .ok (.string ⟨(upL s.data.toList).toArray⟩) W := fun W hc => by
    have := run_convert_bytes_back (P := Tryz.prog) W 87 9 5 ⟨w.heap.size, 0, none⟩ cap (upL s.data.toList) Tryz.underlying87 Tryz.underlying5 Tryz.underlying9 hc
    rwa [hul] at this
  have HBK := Lib.hid hback
  have HUL := Lib.hid hul
  clear hback hul
  go_enter Tryz.func135, Tryz.ntmps135
  go_wp2_with fail
  clear hconv
  go_loopw [10] (fun x wr => ∃ i : Nat, x = .int .i64 i ∧ i ≤ s.size ∧ Hid (FSt w s.size i s.data.toList wr)) (fun x _ => s.size - (intOf x).toNat)
  case atStart => exact ⟨0, rfl, Nat.zero_le _, S0⟩
  case round =>
    obtain ⟨i, rfl, hi, hS⟩ := hrel
    by_cases hlt : i < s.size
    · obtain ⟨c, hc⟩ : ∃ c, s.data.toList[i]? = some c := ⟨_, List.getElem?_eq_getElem (by rw [Array.length_toList]; exact hlt)⟩
      have x0 := hS.out.cell hc
      have y0 := hS.out.frozen i hlt
      have z0 : w.heap.size < wr.heap.size := World.block_lt_of_cell? wr _ x0
      have c1 : (c.toNat : Int) ≤ 255 := by have := c.toNat_lt; omega
      have c0 : (0 : Int) ≤ (c.toNat : Int) := by omega
      have HC := Lib.hid hc
      have j1 : (0 : Int) ≤ (i : Int) := by omega
      have j2 : (i : Int) < (s.size : Int) := by omega
      clear hc
      have HUP := Lib.hid (@upB_hi c)
      have HLO := Lib.hid (@upB_lo c)
      generalize (c.toNat : Int) = cc at x0 c1 c0 HUP HLO
      by_cases h1 : 97 ≤ cc
      · by_cases h2 : cc ≤ 122
        · have SS := Lib.hid (hS.out.put HC.out (HUP.out h1 h2))
          clear hS HUP HLO
          go_wp2_with fail
          go_roundw
          case rel => exact ⟨i + 1, by go_num, by omega, SS⟩
          case measure => simp [intOf]; omega
        · have SS := Lib.hid (hS.out.keep HC.out (HLO.out (fun h => h2 h.2)))
          have t2 : decide (cc ≤ 122) = false := by simpa using h2
          clear hS HUP HLO h2
          go_wp2_with fail
          go_roundw
          case rel => exact ⟨i + 1, by go_num, by omega, SS⟩
          case measure => simp [intOf]; omega
      · have SS := Lib.hid (hS.out.keep HC.out (HLO.out (fun h => h1 h.1)))
        have t1 : decide (97 ≤ cc) = false := by simpa using h1
        clear hS HUP HLO h1
        go_wp2_with fail
        go_roundw
        case rel => exact ⟨i + 1, by go_num, by omega, SS⟩
        case measure => simp [intOf]; omega
    · have hcv := HBK.out wr (fun j hj => by
        obtain ⟨_, C, m, h1, _, h3⟩ := hS.out
        have e : (⟨w.heap.size, 0, none⟩ : Addr).add j = ⟨w.heap.size, j, none⟩ := by
          by_cases hj0 : j = 0
          · subst hj0; simp [Addr.add]
          · simp [Addr.add, hj0]
        have e2 : upL (s.data.toList.take i) ++ s.data.toList.drop i = upL s.data.toList := by
          have hsz : s.data.toList.length = s.size := by rw [Array.length_toList]; rfl
          rw [List.take_of_length_le (by omega), List.drop_eq_nil_of_le (by omega), List.append_nil]
        rw [e2] at h3
        have := h3 j _ (List.getElem?_eq_getElem hj)
        rw [e]
        simp [World.cell?, h1, this])
      have HB := Lib.hid hS.out.1
      clear hS
      go_wp2_with fail
      go_ret
      exact ⟨rfl, HB.out⟩
end Go.Proofs.YtndhmahkglfopaaGreatDoor
/- Fold; ToTruth of texts. -/
namespace Go.Proofs.YtndhmahkglfopaaGreatDoor
open Go.RowKit
theorem upL_same {l : List UInt8} (h : ∀ c ∈ l, upB c = c) : upL l = l := by
  unfold upL
  induction l with
  | nil => rfl
  | cons a r ih =>
    rw [List.map_cons, h a (by simp), ih (fun c hc => h c (List.mem_cons_of_mem _ hc))]
set_option maxHeartbeats 1000000 in
set_option maxRecDepth 100000 in
theorem fold_any (s : ByteArray) (hs : s.size ≤ 255) (w : World) : Calls Tryz.prog 110 #[.string s] w fun e w' => e = .returned (.string ⟨(upL s.data.toList).toArray⟩) ∧ Below w.heap.size w w' := by
  have HF := Lib.hid (folded_any s hs)
  go_enter Tryz.func110, Tryz.ntmps110
  go_wp2_with fail
  go_loop [6] (fun x => ∃ i : Nat, x = .int .i64 i ∧ i ≤ s.size ∧ Hid (∀ c ∈ s.data.toList.take i, upB c = c)) (fun x => s.size - (intOf x).toNat)
  case atStart => exact ⟨0, rfl, Nat.zero_le _, fun c hc => by simp at hc⟩
  case round =>
    obtain ⟨i, rfl, hi, hS⟩ := hrel
    by_cases hlt : i < s.size
    · have hsz : s.data.toList.length = s.size := by rw [Array.length_toList]; rfl
      have hc : s.data.toList[i]? = some s[i] := by
        rw [List.getElem?_eq_getElem (by omega)]
        simp
        rfl
      have NX : Hid (upB s[i] = s[i] → ∀ c ∈ s.data.toList.take (i + 1), upB c = c) := fun hu c hm => by
        rw [List.take_add_one, hc] at hm
        rcases List.mem_append.1 hm with hm | hm
        · exact hS.out c hm
        · simp at hm; rw [hm]; exact hu
      have HLO := Lib.hid (@upB_lo s[i])
      have j1 : (0 : Int) ≤ (i : Int) := by omega
      have j2 : (i : Int) < (s.size : Int) := by omega
      clear hsz hc hS
      by_cases h1 : 97 ≤ (s[i].toNat : Int)
      · by_cases h2 : (s[i].toNat : Int) ≤ 122
        · go_wp2_with fail
          refine (HF.out _).mono ?_
          rintro e w1 ⟨rfl, f1⟩
          have F1 := Lib.hid f1
          clear f1
          go_wp2_with fail
          go_ret
          exact ⟨rfl, F1.out⟩
        · have SS := Lib.hid (NX.out (HLO.out (fun h => h2 h.2)))
          have t2 : decide ((s[i].toNat : Int) ≤ 122) = false := by simpa using h2
          clear NX HLO h2
          go_wp2_with fail
          go_round
          case rel => exact ⟨i + 1, by go_num, by omega, SS⟩
          case measure => simp [intOf]; omega
      · have SS := Lib.hid (NX.out (HLO.out (fun h => h1 h.1)))
        have t1 : decide (97 ≤ (s[i].toNat : Int)) = false := by simpa using h1
        clear NX HLO h1
        go_wp2_with fail
        go_round
        case rel => exact ⟨i + 1, by go_num, by omega, SS⟩
        case measure => simp [intOf]; omega
    · have hsz : s.data.toList.length = s.size := by rw [Array.length_toList]; rfl
      have ES : Hid (s = ⟨(upL s.data.toList).toArray⟩) := by
        have := hS.out
        rw [List.take_of_length_le (by omega)] at this
        rw [upL_same this]
        rfl
      clear hsz hS
      go_wp2_with fail
      go_ret
      refine ⟨?_, Below.refl _ _⟩
      rw [← ES.out]
      rfl
end Go.Proofs.YtndhmahkglfopaaGreatDoor
/- The reckoning, plainly. -/
namespace Go.Proofs.YtndhmahkglfopaaGreatDoor
open Go.RowKit
theorem addR_right (m e m' e' : Int) : numR (addR m e m' e').1.1 (addR m e m' e').1.2 = true := by
  unfold addR
  exact roundP_right _ _ _
def numV (n : Int × Int) : V := ⟨1, n.1, n.2, ⟨#[]⟩, false, 0⟩
def toldV (R : (Int × Int) × Bool) : V := if R.2 then numV R.1 else vBad 5
theorem refR_num {n : Int × Int} (h : numR n.1 n.2 = true) : refR (numV n) = true := by
  unfold refR numV
  simp [h]
theorem refR_bad (f : Int) : refR (vBad f) = true := by
  unfold refR vBad
  by_cases h : f < 1 ∨ 9 < f
  · simp [h]
  · simp [h]
    omega
theorem refR_truth (b : Bool) : refR (vTruth b) = true := by simp [refR, vTruth]
theorem refR_told {R : (Int × Int) × Bool} (h : numR R.1.1 R.1.2 = true) : refR (toldV R) = true := by
  unfold toldV
  split
  · exact refR_num h
  · exact refR_bad _
/-- How two values stand to each other. -/
def besV (v w : V) : V := if v.k = 0 ∧ (w.k = 1 ∨ w.k = 2 ∨ w.k = 3) then ⟨w.k, 0, 0, ⟨#[]⟩, false, 0⟩ else v
theorem bes_right {v w : V} (h : refR v = true) : refR (besV v w) = true := by
  unfold besV
  split
  · rename_i hc
    obtain ⟨_, hc | hc | hc⟩ := hc
    · simp [refR, hc, numR]
    · simp [refR, hc]
      exact Nat.zero_le _
    · simp [refR, hc]
  · exact h
def bOrd (a b : Bool) : Int := if a = b then 0 else if b then -1 else 1
def sameK (a b : V) : Int :=
  if a.k = 1 then cmpN a.m a.e b.m b.e else if a.k = 2 then Lib.compareBytes (upL a.t.data.toList) (upL b.t.data.toList) else if a.k = 3 then bOrd a.b b.b else if a.k = 4 then (if a.f < b.f then -1 else if b.f < a.f then 1 else 0) else 0
def cmpB (a b : V) : Int := if a.k ≠ b.k then (if a.k < b.k then -1 else 1) else sameK a b
def cmpV (x y : V) : Int := cmpB (besV x y) (besV y x)
def holdV (is : Int → Bool) (x y : V) : V := if x.k = 4 then x else if y.k = 4 then y else vTruth (is (cmpV x y))
theorem hold_right (is : Int → Bool) {x y : V} (hx : refR x = true) (hy : refR y = true) : refR (holdV is x y) = true := by
  unfold holdV
  split
  · exact hx
  · split
    · exact hy
    · exact refR_truth _
end Go.Proofs.YtndhmahkglfopaaGreatDoor
/- value.ToNum, beside, truthOrder. -/
namespace Go.Proofs.YtndhmahkglfopaaGreatDoor
open Go.RowKit
def NumF (R : (Int × Int) × Int) : Value := .tuple #[.agg #[.int .i64 R.1.1, .int .i64 R.1.2], .int .i64 R.2]
def TNPost (w : World) (R : (Int × Int) × Int) (e : Ending) (w' : World) : Prop := e = .returned (NumF R) ∧ Below w.heap.size w w'
section
variable (k m e f : Int) (t : ByteArray) (b : Bool) (w : World)
set_option maxHeartbeats 2000000
set_option maxRecDepth 100000
theorem tn_1 : Calls Tryz.prog 103 #[.agg #[.int .i64 1, .int .i64 m, .int .i64 e, .string t, .bool b, .int .i64 f]] w (TNPost w ((m, e), 0)) := by
  go_enter Tryz.func103, Tryz.ntmps103
  go_wp2_with fail
  refine bodyPost_ret (v := .tuple #[.agg #[.int .i64 m, .int .i64 e], .int .i64 0]) (by simp [results, Tryz.results103, go_sem]) rfl ⟨rfl, ?_⟩
  (repeat with_reducible (first | exact bw0 _ _ | exact hBW | refine bw1 ?_ ?_ _ | refine bw2 ?_ ?_ _ | refine bw3 ?_ _ | refine bw4 ?_)); all_goals (first | omega | (dsimp only; omega) | ((repeat with_reducible (first | refine lz1 ?_ | refine lz2 ?_ | refine lz3 ?_ | refine lz4 ?_)); omega))
end
section
set_option maxHeartbeats 2000000
set_option maxRecDepth 100000
theorem truthOrder_any (a b : Bool) (w : World) : Calls Tryz.prog 111 #[.bool a, .bool b] w fun e w' => e = .returned (.int .i64 (bOrd a b)) ∧ w = w' := by
  cases a <;> cases b <;>
  · go_enter Tryz.func111, Tryz.ntmps111
    go_wp2_with fail
    go_ret
    exact ⟨rfl, rfl⟩
theorem beside_any (v u : V) (w : World) : Calls Tryz.prog 107 #[vagg v, vagg u] w fun e w' => e = .returned (vagg (besV v u)) ∧ Below w.heap.size w w' := by
  obtain ⟨k, m, e, t, b, f⟩ := v
  obtain ⟨k', m', e', t', b', f'⟩ := u
  unfold vagg besV
  simp only
  by_cases k0 : k = 0
  · subst k0
    have n0 : ((0 : Int) != 0) = false := rfl
    by_cases k1 : k' = 1
    · subst k1
      rw [if_pos ⟨rfl, .inl rfl⟩]
      go_enter Tryz.func107, Tryz.ntmps107
      go_wp2_with fail
      refine bodyPost_ret (v := vagg ⟨1, 0, 0, ⟨#[]⟩, false, 0⟩) (by simp [results, Tryz.results107, go_sem, vagg]) rfl ⟨rfl, ?_⟩
      (repeat with_reducible (first | exact bw0 _ _ | exact hBW | refine bw1 ?_ ?_ _ | refine bw2 ?_ ?_ _ | refine bw3 ?_ _ | refine bw4 ?_)); all_goals (first | omega | (dsimp only; omega) | ((repeat with_reducible (first | refine lz1 ?_ | refine lz2 ?_ | refine lz3 ?_ | refine lz4 ?_)); omega))
    have e1 : (k' == 1) = false := by simpa using k1
    by_cases k2 : k' = 2
    · subst k2
      rw [if_pos ⟨rfl, .inr (.inl rfl)⟩]
      clear k1 e1
      go_enter Tryz.func107, Tryz.ntmps107
      go_wp2_with fail
      refine bodyPost_ret (v := vagg ⟨2, 0, 0, ⟨#[]⟩, false, 0⟩) (by simp [results, Tryz.results107, go_sem, vagg]) rfl ⟨rfl, ?_⟩
      (repeat with_reducible (first | exact bw0 _ _ | exact hBW | refine bw1 ?_ ?_ _ | refine bw2 ?_ ?_ _ | refine bw3 ?_ _ | refine bw4 ?_)); all_goals (first | omega | (dsimp only; omega) | ((repeat with_reducible (first | refine lz1 ?_ | refine lz2 ?_ | refine lz3 ?_ | refine lz4 ?_)); omega))
    have e2 : (k' == 2) = false := by simpa using k2
    by_cases k3 : k' = 3
    · subst k3
      rw [if_pos ⟨rfl, .inr (.inr rfl)⟩]
      clear k1 e1 k2 e2
      go_enter Tryz.func107, Tryz.ntmps107
      go_wp2_with fail
      refine bodyPost_ret (v := vagg ⟨3, 0, 0, ⟨#[]⟩, false, 0⟩) (by simp [results, Tryz.results107, go_sem, vagg]) rfl ⟨rfl, ?_⟩
      (repeat with_reducible (first | exact bw0 _ _ | exact hBW | refine bw1 ?_ ?_ _ | refine bw2 ?_ ?_ _ | refine bw3 ?_ _ | refine bw4 ?_)); all_goals (first | omega | (dsimp only; omega) | ((repeat with_reducible (first | refine lz1 ?_ | refine lz2 ?_ | refine lz3 ?_ | refine lz4 ?_)); omega))
    have e3 : (k' == 3) = false := by simpa using k3
    rw [if_neg (by omega)]
    clear k1 k2 k3
    go_enter Tryz.func107, Tryz.ntmps107
    go_wp2_with fail
    refine bodyPost_ret (v := vagg ⟨0, m, e, t, b, f⟩) (by simp [results, Tryz.results107, go_sem, vagg]) rfl ⟨rfl, ?_⟩
    (repeat with_reducible (first | exact bw0 _ _ | exact hBW | refine bw1 ?_ ?_ _ | refine bw2 ?_ ?_ _ | refine bw3 ?_ _ | refine bw4 ?_)); all_goals (first | omega | (dsimp only; omega) | ((repeat with_reducible (first | refine lz1 ?_ | refine lz2 ?_ | refine lz3 ?_ | refine lz4 ?_)); omega))
  · have n0 : (k != 0) = true := by simpa using k0
    rw [if_neg (fun h => k0 h.1)]
    clear k0
    go_enter Tryz.func107, Tryz.ntmps107
    go_wp2_with fail
    refine bodyPost_ret (v := vagg ⟨k, m, e, t, b, f⟩) (by simp [results, Tryz.results107, go_sem, vagg]) rfl ⟨rfl, ?_⟩
    (repeat with_reducible (first | exact bw0 _ _ | exact hBW | refine bw1 ?_ ?_ _ | refine bw2 ?_ ?_ _ | refine bw3 ?_ _ | refine bw4 ?_)); all_goals (first | omega | (dsimp only; omega) | ((repeat with_reducible (first | refine lz1 ?_ | refine lz2 ?_ | refine lz3 ?_ | refine lz4 ?_)); omega))
end
end Go.Proofs.YtndhmahkglfopaaGreatDoor
