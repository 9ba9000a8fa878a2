/- Fold: capital letters. -/
import Derived.Test.YtgbedjeiihigaaaF13Truths
import Derived.Laws.IdiomStrings
namespace Go.Proofs.Ytgbedjeiihigaaa
open Go.RowKit
theorem upB_hi {c : UInt8} (h1 : 97 ≤ (c.toNat : Int)) (h2 : (c.toNat : Int) ≤ 122) : ((upB c).toNat : Int) = (c.toNat : Int) - 97 + 65 := by
  unfold upB
  have h : 97 ≤ c ∧ c ≤ 122 := by
    rw [UInt8.le_iff_toNat_le, UInt8.le_iff_toNat_le]
    simp
    omega
  rw [if_pos h]
  have h3 : c.toNat < 256 := c.toNat_lt
  simp [UInt8.toNat_add, UInt8.toNat_sub]
  omega
theorem upB_lo {c : UInt8} (h : ¬ (97 ≤ (c.toNat : Int) ∧ (c.toNat : Int) ≤ 122)) : upB c = c := by
  unfold upB
  rw [if_neg]
  rw [UInt8.le_iff_toNat_le, UInt8.le_iff_toNat_le]
  simp
  omega
/-- The block of bytes under way: the first i are folded. -/
def FSt (w : World) (n i : Nat) (l : List UInt8) (wr : World) : Prop :=
  Below w.heap.size w wr ∧ ∃ (C : Array Value) (m : Nat), wr.heap[w.heap.size]? = some (.cells C 5 (m, m + 1)) ∧ n ≤ m ∧ ∀ (j : Nat) (c : UInt8), (upL (l.take i) ++ l.drop i)[j]? = some c → C[j]? = some (.int .u8 (c.toNat : Int))
theorem FSt.cell {w wr : World} {n i : Nat} {l : List UInt8} (h : FSt w n i l wr) {c : UInt8} (hc : l[i]? = some c) : wr.cell? ⟨w.heap.size, i, none⟩ = some (.int .u8 (c.toNat : Int)) := by
  obtain ⟨_, C, m, h1, _, h3⟩ := h
  have hi := (List.getElem?_eq_some_iff.1 hc).1
  have e : (upL (l.take i) ++ l.drop i)[i]? = some c := by
    rw [List.getElem?_append_right (by simp [upL]; omega)]
    simp [upL, Nat.min_eq_left (Nat.le_of_lt hi), hc]
  have := h3 i c e
  simp [World.cell?, h1, this]
theorem FSt.frozen {w wr : World} {n i : Nat} {l : List UInt8} (h : FSt w n i l wr) (j : Nat) (hj : j < n) : wr.frozen? ⟨w.heap.size, j, none⟩ = false := by
  obtain ⟨_, C, m, h1, h2, _⟩ := h
  simp [World.frozen?, h1]
  omega
theorem up_step {l : List UInt8} {i : Nat} {c : UInt8} (hc : l[i]? = some c) : upL (l.take (i + 1)) ++ l.drop (i + 1) = (upL (l.take i) ++ l.drop i).set i (upB c) := by
  have hi := (List.getElem?_eq_some_iff.1 hc).1
  have e1 : l.take (i + 1) = l.take i ++ [c] := by rw [List.take_add_one, hc]; rfl
  have e2 : l.drop i = c :: l.drop (i + 1) := by
    rw [List.drop_eq_getElem_cons hi]
    have : l[i] = c := by rw [List.getElem?_eq_getElem hi] at hc; simpa using hc
    rw [this]
  have hlen : (upL (l.take i)).length = i := by simp [upL]; omega
  rw [e1, e2, List.set_append_right _ _ (by omega), hlen, Nat.sub_self]
  simp [upL]
theorem FSt.keep {w wr : World} {n i : Nat} {l : List UInt8} (h : FSt w n i l wr) {c : UInt8} (hc : l[i]? = some c) (hu : upB c = c) : FSt w n (i + 1) l wr := by
  obtain ⟨h0, C, m, h1, h2, h3⟩ := h
  refine ⟨h0, C, m, h1, h2, fun j d hd => ?_⟩
  rw [up_step hc, hu] at hd
  have e : (upL (l.take i) ++ l.drop i).set i c = upL (l.take i) ++ l.drop i := by
    have hi := (List.getElem?_eq_some_iff.1 hc).1
    apply List.ext_getElem?
    intro q
    rw [List.getElem?_set]
    split
    · rename_i hq
      subst hq
      split
      · rw [List.getElem?_append_right (by simp [upL]; omega)]
        simp [upL, Nat.min_eq_left (Nat.le_of_lt hi), hc]
      · rename_i hq
        exfalso
        apply hq
        simp [upL]
        omega
    · rfl
  rw [e] at hd
  exact h3 j d hd
theorem FSt.put {w wr : World} {n i : Nat} {l : List UInt8} (h : FSt w n i l wr) {c : UInt8} (hc : l[i]? = some c) {x : Int} (hx : ((upB c).toNat : Int) = x) : FSt w n (i + 1) l (wr.setCell ⟨w.heap.size, i, none⟩ (.int .u8 x)) := by
  obtain ⟨h0, C, m, h1, h2, h3⟩ := h
  refine ⟨h0.setCell (p := ⟨w.heap.size, i, none⟩) (Nat.le_refl _) _, _, m, heap_setCell_at h1 i _, h2, fun j d hd => ?_⟩
  rw [up_step hc, List.getElem?_set] at hd
  split at hd
  · rename_i hq
    subst hq
    split at hd
    · cases hd
      rw [← hx]
      have hin : i < C.size := by
        have hi := (List.getElem?_eq_some_iff.1 hc).1
        have e : (upL (l.take i) ++ l.drop i)[i]? = some c := by
          rw [List.getElem?_append_right (by simp [upL]; omega)]
          simp [upL, Nat.min_eq_left (Nat.le_of_lt hi), hc]
        exact (Array.getElem?_eq_some_iff.1 (h3 i c e)).1
      simp [hin]
    · cases hd
  · rename_i hq
    rw [Array.getElem?_setIfInBounds_ne hq]
    exact h3 j d hd
set_option maxHeartbeats 1000000 in
set_option maxRecDepth 100000 in
theorem folded_any (s : ByteArray) (hs : s.size ≤ 255) (w : World) : Calls Try.prog 83 #[.string s] w fun e w' => e = .returned (.string ⟨(upL s.data.toList).toArray⟩) ∧ Below w.heap.size w w' := by
  have hconv := run_bytes_of_string (P := Try.prog) w 9 93 5 s Try.underlying9 Try.underlying93 Try.underlying5
  have S0 : Hid (FSt w s.size 0 s.data.toList (w.drew.alloc (.cells (bytesRow s (grownCap w s.size 0 5)) 5 ((bytesRow s (grownCap w s.size 0 5)).size, (bytesRow s (grownCap w s.size 0 5)).size + 1)))) := by
    refine ⟨(Below.refl _ w).drew.alloc (Nat.le_refl _) _, _, _, heap_alloc_new w.drew _, ?_, fun j c hc => ?_⟩
    · unfold bytesRow
      rw [Array.size_append, Array.size_map]
      exact Nat.le_add_right _ _
    · simp [upL] at hc
      have hj : j < s.data.size := (Array.getElem?_eq_some_iff.1 hc).1
      rw [bytesRow_at s _ j hj]
      have : s.data[j] = c := by rw [Array.getElem?_eq_getElem hj] at hc; simpa using hc
      rw [this]
  obtain ⟨cap, hcap⟩ : ∃ cap, cap = grownCap w s.size 0 5 := ⟨_, rfl⟩
  obtain ⟨W0, hW0⟩ : ∃ W0, W0 = w.drew.alloc (.cells (bytesRow s (grownCap w s.size 0 5)) 5 ((bytesRow s (grownCap w s.size 0 5)).size, (bytesRow s (grownCap w s.size 0 5)).size + 1)) := ⟨_, rfl⟩
  rw [← hW0] at hconv S0
  rw [← hcap] at hconv
  clear hcap hW0
  have hul : (upL s.data.toList).length = s.size := by unfold upL; rw [List.length_map, Array.length_toList]; rfl
  have hback : ∀ (W : World), (∀ j (hj : j < (upL s.data.toList).length), W.cell? ((⟨w.heap.size, 0, none⟩ : Addr).add j) = some (.int .u8 ((upL s.data.toList)[j].toNat : Int))) → (convert 93 9 (.slice (some ⟨w.heap.size, 0, none⟩) s.size cap)).run Try.prog W = .ok (.string ⟨(upL s.data.toList).toArray⟩) W := fun W hc => by
    have := run_convert_bytes_back (P := Try.prog) W 93 9 5 ⟨w.heap.size, 0, none⟩ cap (upL s.data.toList) Try.underlying93 Try.underlying5 Try.underlying9 hc
    rwa [hul] at this
  have HBK := Lib.hid hback
  have HUL := Lib.hid hul
  clear hback hul
  go_enter Try.func83, Try.ntmps83
  go_wp2_with fail
  clear hconv
  go_loopw [10] (fun x wr => ∃ i : Nat, x = .int .i64 i ∧ i ≤ s.size ∧ Hid (FSt w s.size i s.data.toList wr)) (fun x _ => s.size - (intOf x).toNat)
  case atStart => exact ⟨0, rfl, Nat.zero_le _, S0⟩
  case round =>
    obtain ⟨i, rfl, hi, hS⟩ := hrel
    by_cases hlt : i < s.size
    · obtain ⟨c, hc⟩ : ∃ c, s.data.toList[i]? = some c := ⟨_, List.getElem?_eq_getElem (by rw [Array.length_toList]; exact hlt)⟩
      have x0 := hS.out.cell hc
      have y0 := hS.out.frozen i hlt
      have z0 : w.heap.size < wr.heap.size := World.block_lt_of_cell? wr _ x0
      have c1 : (c.toNat : Int) ≤ 255 := by have := c.toNat_lt; omega
      have c0 : (0 : Int) ≤ (c.toNat : Int) := by omega
      have HC := Lib.hid hc
      have j1 : (0 : Int) ≤ (i : Int) := by omega
      have j2 : (i : Int) < (s.size : Int) := by omega
      clear hc
      have HUP := Lib.hid (@upB_hi c)
      have HLO := Lib.hid (@upB_lo c)
      generalize (c.toNat : Int) = cc at x0 c1 c0 HUP HLO
      by_cases h1 : 97 ≤ cc
      · by_cases h2 : cc ≤ 122
        · have SS := Lib.hid (hS.out.put HC.out (HUP.out h1 h2))
          clear hS HUP HLO
          go_wp2_with fail
          go_roundw
          case rel => exact ⟨i + 1, by go_num, by omega, SS⟩
          case measure => simp [intOf]; omega
        · have SS := Lib.hid (hS.out.keep HC.out (HLO.out (fun h => h2 h.2)))
          have t2 : decide (cc ≤ 122) = false := by simpa using h2
          clear hS HUP HLO h2
          go_wp2_with fail
          go_roundw
          case rel => exact ⟨i + 1, by go_num, by omega, SS⟩
          case measure => simp [intOf]; omega
      · have SS := Lib.hid (hS.out.keep HC.out (HLO.out (fun h => h1 h.1)))
        have t1 : decide (97 ≤ cc) = false := by simpa using h1
        clear hS HUP HLO h1
        go_wp2_with fail
        go_roundw
        case rel => exact ⟨i + 1, by go_num, by omega, SS⟩
        case measure => simp [intOf]; omega
    · have hcv := HBK.out wr (fun j hj => by
        obtain ⟨_, C, m, h1, _, h3⟩ := hS.out
        have e : (⟨w.heap.size, 0, none⟩ : Addr).add j = ⟨w.heap.size, j, none⟩ := by
          by_cases hj0 : j = 0
          · subst hj0; simp [Addr.add]
          · simp [Addr.add, hj0]
        have e2 : upL (s.data.toList.take i) ++ s.data.toList.drop i = upL s.data.toList := by
          have hsz : s.data.toList.length = s.size := by rw [Array.length_toList]; rfl
          rw [List.take_of_length_le (by omega), List.drop_eq_nil_of_le (by omega), List.append_nil]
        rw [e2] at h3
        have := h3 j _ (List.getElem?_eq_getElem hj)
        rw [e]
        simp [World.cell?, h1, this])
      have HB := Lib.hid hS.out.1
      clear hS
      go_wp2_with fail
      go_ret
      exact ⟨rfl, HB.out⟩
end Go.Proofs.Ytgbedjeiihigaaa
