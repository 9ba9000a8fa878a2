/- Cycle: same. -/
import Derived.Test.YtcjohhminiedfaaQC21Round
namespace Go.Proofs.Ytcjohhminiedfaa
open Go.RowKit
theorem take_ne {l m : List Nat} {k : Nat} (h : l.take (k + 1) ≠ m.take (k + 1)) : l ≠ m := fun e => h (by rw [e])
set_option maxHeartbeats 2000000 in
set_option maxRecDepth 100000 in
theorem same_any {w : World} {v1 v2 : Value} {l m : List Nat} (h1 : IR 0 w v1 l) (h2 : IR 0 w v2 m) : Calls Try.prog 11 #[v1, v2] w fun e w' => e = .returned (.bool (decide (l = m))) ∧ Below w.heap.size w w' := by
  have hmax := own_max h1
  obtain ⟨a, c, rfl, _, ha⟩ := h1.slice
  obtain ⟨b, d, rfl, _, hb⟩ := h2.slice
  obtain ⟨n, hn⟩ : ∃ n, l.length = n := ⟨_, rfl⟩
  obtain ⟨q, hq⟩ : ∃ q, m.length = q := ⟨_, rfl⟩
  have HN := Lib.hid hn
  have HQ := Lib.hid hq
  have HA : Hid (∀ (j x : Nat), l[j]? = some x → ∃ g, a = some ⟨g, 0, none⟩ ∧ g < w.heap.size ∧ w.cell? ⟨g, j, none⟩ = some (.int .i64 (x : Int))) := fun j x hx => by
    obtain ⟨g, e, _, z, _, h⟩ := ha (by have := (List.getElem?_eq_some_iff.1 hx).1; omega)
    exact ⟨g, e, z, h j x hx⟩
  have HB : Hid (∀ (j x : Nat), m[j]? = some x → ∃ g, b = some ⟨g, 0, none⟩ ∧ g < w.heap.size ∧ w.cell? ⟨g, j, none⟩ = some (.int .i64 (x : Int))) := fun j x hx => by
    obtain ⟨g, e, _, z, _, h⟩ := hb (by have := (List.getElem?_eq_some_iff.1 hx).1; omega)
    exact ⟨g, e, z, h j x hx⟩
  rw [hn] at hmax
  rw [hn, hq]
  unfold maxLen at hmax
  clear ha hb h1 h2 hn hq
  obtain ⟨r, hr⟩ : ∃ r, decide (l = m) = r := ⟨_, rfl⟩
  rw [hr]
  have HR := Lib.hid hr
  clear hr
  by_cases hnq : n = q
  · have hnb : ((n : Int) != (q : Int)) = false := by simp; omega
    go_enter Try.func11, Try.ntmps11
    go_wp2_with fail
    go_loopg [13] n (fun g i wr => ∃ (k : Nat), i = .int .i64 k ∧ g = n - k ∧ k ≤ n ∧ Hid (l.take k = m.take k) ∧ Hid (Below w.heap.size w wr))
    case atStart => exact ⟨0, rfl, rfl, Nat.zero_le _, rfl, Below.refl _ _⟩
    case round =>
      obtain ⟨k, rfl, rfl, hk, hT, hB⟩ := hrel
      by_cases hlt : k < n
      · obtain ⟨x, hx⟩ : ∃ x, l[k]? = some x := ⟨_, List.getElem?_eq_getElem (by rw [HN.out]; exact hlt)⟩
        obtain ⟨y, hy⟩ : ∃ y, m[k]? = some y := ⟨_, List.getElem?_eq_getElem (by rw [HQ.out]; omega)⟩
        obtain ⟨g1, rfl, z1, c1⟩ := HA.out k x hx
        obtain ⟨g2, rfl, z2, c2⟩ := HB.out k y hy
        have c1' := (hB.out.cell (p := ⟨g1, k, none⟩) z1).trans c1
        have c2' := (hB.out.cell (p := ⟨g2, k, none⟩) z2).trans c2
        have z1' := Nat.lt_of_lt_of_le z1 hB.out.size
        have z2' := Nat.lt_of_lt_of_le z2 hB.out.size
        have TK : Hid (l.take (k + 1) = l.take k ++ [x] ∧ m.take (k + 1) = m.take k ++ [y]) := by
          unfold Hid
          rw [List.take_add_one, hx, List.take_add_one, hy]
          exact ⟨rfl, rfl⟩
        have j1 : (0 : Int) ≤ (k : Int) := by omega
        have j2 : (k : Int) < (n : Int) := by omega
        have j3 : (k : Int) < (q : Int) := by omega
        clear hx hy c1 c2 z1 z2
        go_wp2_with fail
        refine wp_region_mix [0, 1, 2, 3, 4, 5, 6, 7, 8] [] [] (Below wr.heap.size wr) (by kernel_rfl) (by kernel_rfl) (Below.refl _ _).drew ?_
        iterate 9 (first | (apply first_step; (rw [List.getElem?_toArray]; (repeat rw [List.getElem?_cons_succ]); rw [List.getElem?_cons_zero]); rfl; (intro W hB; have hc := bcellB hB; go_simp; (first | done | rfl)); go_frame) | (apply first_skip; (rw [List.getElem?_toArray]; (repeat rw [List.getElem?_cons_succ]); rw [List.getElem?_cons_zero]); rfl; go_frame))
        refine first_done ?_
        refine tail_done ?_
        have hB2 : Hid (Below w.heap.size w wr.drew) := hB.out.drew
        clear c1' c2' z1' z2' hB
        by_cases hxy : x = y
        · have hxb : ((x : Int) != (y : Int)) = false := by simp; omega
          have hT2 : Hid (l.take (k + 1) = m.take (k + 1)) := by
            unfold Hid
            rw [TK.out.1, TK.out.2, hT.out, hxy]
          clear hxy
          go_wp2_with fail
          go_roundg (n - (k + 1))
          case measure => omega
          case rel => exact ⟨k + 1, by go_num, rfl, by omega, hT2, hB2⟩
        · have hxb : ((x : Int) != (y : Int)) = true := by simp; omega
          have hrF : r = false := by
            rw [← HR.out]
            refine decide_eq_false (take_ne (k := k) ?_)
            rw [TK.out.1, TK.out.2, hT.out]
            exact fun e => hxy (by simpa using e)
          subst hrF
          clear hxy
          go_wp2_with fail
          refine bodyPost_ret (v := .bool false) (by simp [results, Try.results11, go_sem]) rfl ⟨rfl, hB2.out⟩
      · have hrT : r = true := by
          rw [← HR.out]
          refine decide_eq_true ?_
          have h1 := hT.out
          rw [List.take_of_length_le (by rw [HN.out]; omega), List.take_of_length_le (by rw [HQ.out]; omega)] at h1
          exact h1
        subst hrT
        go_wp2_with fail
        refine bodyPost_ret (v := .bool true) (by simp [results, Try.results11, go_sem]) rfl ⟨rfl, hB.out⟩
  · have hnb : ((n : Int) != (q : Int)) = true := by simp; omega
    have hrF : r = false := by
      rw [← HR.out]
      refine decide_eq_false fun e => hnq ?_
      rw [← HN.out, ← HQ.out, e]
    subst hrF
    go_enter Try.func11, Try.ntmps11
    go_wp2_with fail
    refine bodyPost_ret (v := .bool false) (by simp [results, Try.results11, go_sem]) rfl ⟨rfl, Below.refl _ _⟩
end Go.Proofs.Ytcjohhminiedfaa
