/- Cycle: ref.Edge. -/
import Derived.Laws.CopyOwn
import Derived.Test.YtcjohhminiedfaaQC21Mem
namespace Go.Proofs.Ytcjohhminiedfaa
open Go.RowKit
/-- Whom i has an edge to, as a row. -/
def rowE (n : Nat) (E : List (Nat × Nat)) (i : Nat) : List Bool := (List.range n).map fun j => adjE E i j
theorem rowE_len (n : Nat) (E : List (Nat × Nat)) (i : Nat) : (rowE n E i).length = n := by simp [rowE]
theorem rowE_at {n : Nat} (E : List (Nat × Nat)) (i : Nat) {j : Nat} (hj : j < n) : (rowE n E i)[j]? = some (adjE E i j) := by
  unfold rowE
  rw [List.getElem?_map, List.getElem?_range hj]
  rfl
/-- The first k rows are copied. -/
def mixM (n : Nat) (E : List (Nat × Nat)) (k : Nat) : List (List Bool) := (List.range n).map fun i => if i < k then rowE n E i else List.replicate n false
theorem mixM_len (n : Nat) (E : List (Nat × Nat)) (k : Nat) : (mixM n E k).length = n := by simp [mixM]
theorem mixM_at {n : Nat} (E : List (Nat × Nat)) (k : Nat) {i : Nat} (hi : i < n) : (mixM n E k)[i]? = some (if i < k then rowE n E i else List.replicate n false) := by
  unfold mixM
  rw [List.getElem?_map, List.getElem?_range hi]
  rfl
theorem mixM_zero (n : Nat) (E : List (Nat × Nat)) : mixM n E 0 = List.replicate n (List.replicate n false) := by
  apply List.ext_getElem?
  intro i
  by_cases hi : i < n
  · rw [mixM_at E 0 hi, List.getElem?_replicate, if_pos hi, if_neg (Nat.not_lt_zero i)]
  · rw [List.getElem?_eq_none (by rw [mixM_len]; omega), List.getElem?_eq_none (by simp; omega)]
theorem mixM_succ {n k : Nat} (E : List (Nat × Nat)) (hk : k < n) : (mixM n E k).set k (rowE n E k) = mixM n E (k + 1) := by
  apply List.ext_getElem?
  intro i
  by_cases hi : i < n
  · rw [mixM_at E (k + 1) hi, List.getElem?_set]
    by_cases e : k = i
    · subst e
      rw [if_pos rfl, if_pos (by rw [mixM_len]; exact hk), if_pos (Nat.lt_succ_self k)]
    · rw [if_neg e, mixM_at E k hi]
      by_cases h : i < k
      · rw [if_pos h, if_pos (by omega)]
      · rw [if_neg h, if_neg (by omega)]
  · rw [List.getElem?_eq_none (by rw [List.length_set, mixM_len]; omega), List.getElem?_eq_none (by rw [mixM_len]; omega)]
theorem mixM_new {n s d : Nat} (E : List (Nat × Nat)) (hs : s < n) (hd : d < n) (i k : Nat) (hi : i < n) (hk : k < n) : (((mixM n E n).set s ((rowE n E s).set d true)).getD i []).getD k false = adjE (E ++ [(s, d)]) i k := by
  have hadj : adjE (E ++ [(s, d)]) i k = (adjE E i k || decide (s = i ∧ d = k)) := by
    rw [Bool.eq_iff_iff, Bool.or_eq_true, adjE_mem, adjE_mem, decide_eq_true_iff, List.mem_append, List.mem_singleton, Prod.mk.injEq]
    constructor
    · rintro (h | ⟨h1, h2⟩)
      · exact .inl h
      · exact .inr ⟨h1.symm, h2.symm⟩
    · rintro (h | ⟨h1, h2⟩)
      · exact .inl h
      · exact .inr ⟨h1.symm, h2.symm⟩
  have hrow : ((mixM n E n).set s ((rowE n E s).set d true)).getD i [] = if s = i then (rowE n E s).set d true else rowE n E i := by
    rw [List.getD_eq_getElem?_getD, List.getElem?_set]
    by_cases e : s = i
    · rw [if_pos e, if_pos e, if_pos (by rw [mixM_len]; exact hs)]
      rfl
    · rw [if_neg e, if_neg e, mixM_at E n hi, if_pos hi]
      rfl
  rw [hadj, hrow]
  by_cases e : s = i
  · subst e
    rw [if_pos rfl, List.getD_eq_getElem?_getD, List.getElem?_set]
    by_cases e2 : d = k
    · subst e2
      rw [if_pos rfl, if_pos (by rw [rowE_len]; exact hd)]
      simp
    · rw [if_neg e2, rowE_at E s hk]
      simp [e2]
  · rw [if_neg e, List.getD_eq_getElem?_getD, rowE_at E i hk]
    simp [e]
/-- What copy does with a row of the call's own. -/
theorem copy_row {K n b r rc : Nat} {w W : World} {l m : List Bool} (hl : l.length = n) (hm : m.length = n) (hb : W.heap[b]? = some (.cells (bvs l).toArray 4)) (hr : ∀ k v, m[k]? = some v → W.cell? ⟨r, k, none⟩ = some (.bool v)) (hB : Below K w W) (hK : K ≤ b) :
    ∃ W7, (∀ ty, (Builtin.copy_ #[42, 42] ty #[.slice (some ⟨b, 0, none⟩) n n, .slice (some ⟨r, 0, none⟩) n rc]).run Try.prog W = .ok (.int .i64 (n : Int)) W7) ∧ W7.heap[b]? = some (.cells (bvs m).toArray 4) ∧ (∀ k, k ≠ b → W7.heap[k]? = W.heap[k]?) ∧ Below K w W7 := by
  have hi : (Try.prog.info? 4).map (·.size) = some 1 := by kernel_rfl
  have hmc : (bvs m).length = n := by simp [bvs, hm]
  refine ⟨W.setRow b ((bvs l).toArray.toList.take 0 ++ bvs m ++ (bvs l).toArray.toList.drop (0 + n)).toArray, fun ty => ?_, ?_, fun k hk => ?_, ?_⟩
  · have := run_copy_row (P := Try.prog) W 42 42 ty 4 b 0 n n ⟨r, 0, none⟩ n rc (bvs l).toArray 4 (bvs m) Try.underlying42 hi hb (by rw [hmc]; exact (Nat.min_self n).symm) (fun j v hj => by
      unfold bvs at hj
      rw [List.getElem?_map] at hj
      cases e : m[j]? with
      | none => rw [e] at hj; cases hj
      | some x =>
        rw [e] at hj
        cases hj
        have := hr j x e
        have ha : (⟨r, 0, none⟩ : Addr).add j = ⟨r, j, none⟩ := by unfold Addr.add; split <;> simp_all
        rw [ha]
        exact this) (by simp [bvs, hl, hm]) (fun v hv => by
      unfold bvs at hv
      obtain ⟨x, _, rfl⟩ := List.mem_map.1 hv
      rfl)
    rw [hmc] at this
    exact this
  · have e := setRow_heap W b _ ((bvs l).toArray.toList.take 0 ++ bvs m ++ (bvs l).toArray.toList.drop (0 + n)).toArray 4 (0, 0) hb
    have hd : List.drop n (List.map Value.bool l) = [] := List.drop_of_length_le (by simp [hl])
    simpa [bvs, hd] using e
  · exact setRow_other W b k _ hk
  · exact below_setRow hB hK _
set_option maxHeartbeats 4000000 in
set_option maxRecDepth 100000 in
theorem redge_any {w : World} {a : Option Addr} {n cap : Nat} {E : List (Nat × Nat)} (hn : n ≤ 10000) (hM : MxA w a n (adjE E)) (x y : Int) :
    Calls Try.prog 24 #[.agg #[.slice a n cap], .int .i64 x, .int .i64 y] w fun e w' => ∃ a' cap', e = .returned (.tuple #[.agg #[.slice a' n cap'], .bool (okE n E x y)]) ∧ MxA w' a' n (adjE (addE n E x y)) ∧ (∀ S : Nat → Prop, (∀ k, S k → k < w.heap.size) → (∀ W, Fr S w W → MxA W a n (adjE E)) → ∀ W, Fr S w' W → MxA W a' n (adjE (addE n E x y))) ∧ Below w.heap.size w w' := by
  have HMX := Lib.hid hM
  obtain ⟨K, hK⟩ : ∃ K, w.heap.size = K := ⟨_, rfl⟩
  have HK := Lib.hid hK
  have C1 := Lib.hid (fun W => rhas_any (w := W) a n cap x)
  have C2 := Lib.hid (fun W => rhas_any (w := W) a n cap y)
  clear hM hK
  by_cases hx : 0 ≤ x ∧ x < (n : Int)
  · have ex : decide (0 ≤ x ∧ x < (n : Int)) = true := by simpa using hx
    by_cases hy : 0 ≤ y ∧ y < (n : Int)
    · have ey : decide (0 ≤ y ∧ y < (n : Int)) = true := by simpa using hy
      rw [ex] at C1
      rw [ey] at C2
      obtain ⟨s, rfl⟩ : ∃ s : Nat, x = (s : Int) := ⟨x.toNat, by omega⟩
      obtain ⟨d, rfl⟩ : ∃ d : Nat, y = (d : Int) := ⟨y.toNat, by omega⟩
      have hsn : s < n := by omega
      have hdn : d < n := by omega
      have hoke : okE n E (s : Int) (d : Int) = !E.contains (s, d) := by
        unfold okE
        rw [ex, ey]
        simp
      have i1 : (0 : Int) ≤ (s : Int) := by omega
      have i2 : (s : Int) < (n : Int) := by omega
      have i3 : (0 : Int) ≤ (d : Int) := by omega
      have i4 : (d : Int) < (n : Int) := by omega
      clear ex ey hx hy
      by_cases hm : (s, d) ∈ E
      · have hok2 : okE n E (s : Int) (d : Int) = false := by rw [hoke]; simpa using hm
        have hadd : addE n E (s : Int) (d : Int) = E := by
          unfold addE
          rw [hok2]
          rfl
        have ha : adjE E s d = true := adjE_mem.2 hm
        rw [hok2, hadd]
        clear hok2 hadd hoke hm
        go_enter Try.func24, Try.ntmps24
        go_wp2_with fail
        refine (C1.out _).mono ?_
        rintro e w1 ⟨rfl, hb1⟩
        have HC1 : Hid (w1.heap[w.heap.size]? = some (.cells #[.slice a n cap] 27) ∧ w1.heap[w.heap.size + 1]? = some (.cells #[.slice none 0 0] 27)) := ⟨(hb1.block _ (by simp; omega)).trans (heap_alloc_old (heap_alloc_new w _) _), (hb1.block _ (by simp)).trans (heap_alloc_at (by simp) _)⟩
        have HB1 : Hid (Below K w w1) := by
          have h1 := ((below_alloc w (.cells #[.slice a n cap] 27) w.heap.size (Nat.le_refl _)).alloc (by simp) (.cells #[.slice none 0 0] 27)).trans (hb1.mono (by simp; omega))
          rw [HK.out] at h1
          exact h1
        rw [HK.out] at HC1 ⊢
        clear hb1 C1
        have c0 := cell_of_heap HC1.out.1 0
        have z0 := lt_of_heap HC1.out.1
        go_wp2_with fail
        refine (C2.out _).mono ?_
        rintro e w2 ⟨rfl, hb2⟩
        have HC2 : Hid (w2.heap[K]? = some (.cells #[.slice a n cap] 27) ∧ w2.heap[K + 1]? = some (.cells #[.slice none 0 0] 27)) := ⟨(hb2.block _ (lt_of_heap HC1.out.1)).trans HC1.out.1, (hb2.block _ (lt_of_heap HC1.out.2)).trans HC1.out.2⟩
        have HB2 : Hid (Below K w w2) := HB1.out.trans (hb2.mono (by have := lt_of_heap HC1.out.1; omega))
        clear hb2 C2 c0 z0 HC1 HB1
        obtain ⟨g, rfl, zg, r, rc, cg, zr, hr⟩ := (HMX.out.below (by rw [HK.out]; exact HB2.out)) s hsn
        have cr := hr d hdn
        rw [ha] at cr
        clear hr ha
        have c0 := cell_of_heap HC2.out.1 0
        have z0 := lt_of_heap HC2.out.1
        have c1 := cell_of_heap HC2.out.2 0
        have y1 := frozen_of_heap HC2.out.2 0
        have z1 := lt_of_heap HC2.out.2
        have HB9 : Hid (Below K w (w2.setCell ⟨K + 1, 0, none⟩ (.slice (some ⟨g, 0, none⟩) n cap))) := HB2.out.setCell (p := ⟨K + 1, 0, none⟩) (Nat.le_succ K) _
        have HM9 : Hid (MxA (w2.setCell ⟨K + 1, 0, none⟩ (.slice (some ⟨g, 0, none⟩) n cap)) (some ⟨g, 0, none⟩) n (adjE E)) := HMX.out.below (by rw [HK.out]; exact HB9.out)
        go_wp2_with fail
        refine bodyPost_ret (v := .tuple #[.agg #[.slice (some ⟨g, 0, none⟩) n cap], .bool false]) (by simp [results, Try.results24, go_sem, c1]) rfl ⟨(some ⟨g, 0, none⟩), cap, rfl, HM9.out, fun S _ h W hW => h W (Fr.trans (Fr.of_below (by rw [HK.out]; exact HB9.out)) hW fun _ _ h => h), by rw [HK.out]; exact HB9.out⟩
      · have hok2 : okE n E (s : Int) (d : Int) = true := by rw [hoke]; simpa using hm
        have hadd : addE n E (s : Int) (d : Int) = E ++ [(s, d)] := by
          unfold addE
          rw [hok2]
          simp
        have ha : adjE E s d = false := by
          cases e : adjE E s d with
          | false => rfl
          | true => exact absurd (adjE_mem.1 e) hm
        rw [hok2, hadd]
        clear hok2 hadd hoke hm
        go_enter Try.func24, Try.ntmps24
        go_wp2_with fail
        refine (C1.out _).mono ?_
        rintro e w1 ⟨rfl, hb1⟩
        have HC1 : Hid (w1.heap[w.heap.size]? = some (.cells #[.slice a n cap] 27) ∧ w1.heap[w.heap.size + 1]? = some (.cells #[.slice none 0 0] 27)) := ⟨(hb1.block _ (by simp; omega)).trans (heap_alloc_old (heap_alloc_new w _) _), (hb1.block _ (by simp)).trans (heap_alloc_at (by simp) _)⟩
        have HB1 : Hid (Below K w w1) := by
          have h1 := ((below_alloc w (.cells #[.slice a n cap] 27) w.heap.size (Nat.le_refl _)).alloc (by simp) (.cells #[.slice none 0 0] 27)).trans (hb1.mono (by simp; omega))
          rw [HK.out] at h1
          exact h1
        rw [HK.out] at HC1 ⊢
        clear hb1 C1
        have c0 := cell_of_heap HC1.out.1 0
        have z0 := lt_of_heap HC1.out.1
        go_wp2_with fail
        refine (C2.out _).mono ?_
        rintro e w2 ⟨rfl, hb2⟩
        have HC2 : Hid (w2.heap[K]? = some (.cells #[.slice a n cap] 27) ∧ w2.heap[K + 1]? = some (.cells #[.slice none 0 0] 27)) := ⟨(hb2.block _ (lt_of_heap HC1.out.1)).trans HC1.out.1, (hb2.block _ (lt_of_heap HC1.out.2)).trans HC1.out.2⟩
        have HB2 : Hid (Below K w w2) := HB1.out.trans (hb2.mono (by have := lt_of_heap HC1.out.1; omega))
        clear hb2 C2 c0 z0 HC1 HB1
        have HM2 : Hid (MxA w2 a n (adjE E)) := HMX.out.below (by rw [HK.out]; exact HB2.out)
        obtain ⟨g, rfl, zg, r, rc, cg, zr, hr⟩ := HM2.out s hsn
        have cr := hr d hdn
        rw [ha] at cr
        have c0 := cell_of_heap HC2.out.1 0
        have z0 := lt_of_heap HC2.out.1
        have C3 := Lib.hid (rnew_any (w := w2) hn)
        clear hr ha
        go_wp2_with fail
        refine C3.out.mono ?_
        rintro e w3 ⟨tv, bs, rfl, hm3, hbs, hb3⟩
        have HC3 : Hid (w3.heap[K]? = some (.cells #[.slice (some ⟨g, 0, none⟩) n cap] 27) ∧ w3.heap[K + 1]? = some (.cells #[.slice none 0 0] 27)) := ⟨(hb3.block _ (lt_of_heap HC2.out.1)).trans HC2.out.1, (hb3.block _ (lt_of_heap HC2.out.2)).trans HC2.out.2⟩
        have hK2 : K + 2 ≤ w2.heap.size := by have := lt_of_heap HC2.out.2; omega
        have HB3 : Hid (Below K w w3) := HB2.out.trans (hb3.mono (by omega))
        have HM3 : Hid (MB (K + 2) w3 tv n bs (mixM n E 0)) := by rw [mixM_zero]; exact hm3.base hK2
        have HBS := Lib.hid hbs
        have hz3 : K + 2 ≤ w3.heap.size := Nat.le_trans hK2 hb3.size
        obtain ⟨ta, tc, e, _⟩ := own_slice hm3.row
        subst e
        rw [hbs] at HM3 ⊢
        clear hm3 hbs hb3 C3 HC2 HB2 HM2 cg zg cr zr c0 z0
        go_upto_region 4 with fail
        refine abs_world ?_
        intro W4 hW4
        obtain ⟨P, hP⟩ : ∃ P, w3.heap.size = P := ⟨_, rfl⟩
        have hw34 : Below w3.heap.size w3 W4 := by
          rw [hW4]
          exact below_alloc w3 _ _ (Nat.le_refl _)
        have HP4 : Hid (W4.heap[P]? = some (.cells #[.slice ta n tc] 27)) := by
          rw [hW4, ← hP]
          exact heap_alloc_new _ _
        have HC4 : Hid (W4.heap[K]? = some (.cells #[.slice (some ⟨g, 0, none⟩) n cap] 27) ∧ W4.heap[K + 1]? = some (.cells #[.slice none 0 0] 27)) := ⟨(hw34.block _ (lt_of_heap HC3.out.1)).trans HC3.out.1, (hw34.block _ (lt_of_heap HC3.out.2)).trans HC3.out.2⟩
        have HB4 : Hid (Below K w W4) := HB3.out.trans (hw34.mono (by omega))
        have HM4 : Hid (MB (K + 2) W4 (.slice ta n tc) n bs (mixM n E 0)) := HM3.out.below hw34
        have HLT : Hid (∀ (i b : Nat), bs[i]? = some b → K + 2 ≤ b ∧ b < P) := fun i b hb => by
          rw [← hP]
          exact HM3.out.lt hb
        rw [hP] at hz3 ⊢
        clear hW4 hP hw34 HM3 HC3 HB3
        go_wp2_with fail
        go_loopg [9] n (fun gg s9 wr => ∃ (k : Nat), s9 = .int .i64 (k : Int) ∧ gg = n - k ∧ k ≤ n ∧ Hid (MB (K + 2) wr (.slice ta n tc) n bs (mixM n E k)) ∧ Hid (wr.heap[P]? = some (.cells #[.slice ta n tc] 27)) ∧ Hid (wr.heap[K]? = some (.cells #[.slice (some ⟨g, 0, none⟩) n cap] 27) ∧ wr.heap[K + 1]? = some (.cells #[.slice none 0 0] 27)) ∧ Hid (Below K w wr))
        case atStart => exact ⟨0, rfl, rfl, Nat.zero_le _, HM4, HP4, HC4, HB4⟩
        case round =>
          clear HM4 HP4 HC4 HB4
          obtain ⟨k, rfl, rfl, hk, hM, hP, hC, hB⟩ := hrel
          have c0 := cell_of_heap hC.out.1 0
          have z0 := lt_of_heap hC.out.1
          have c4 := cell_of_heap hP.out 0
          have z4 := lt_of_heap hP.out
          by_cases hlt : k < n
          · obtain ⟨b, hb⟩ : ∃ b, bs[k]? = some b := ⟨_, List.getElem?_eq_getElem (by rw [HBS.out]; exact hlt)⟩
            obtain ⟨hKb, hbP⟩ := HLT.out k b hb
            obtain ⟨ta', tc', e, hr1⟩ := hM.out.slice
            injection e with e e3 e4
            clear e3 e4
            subst e
            obtain ⟨g1, rfl, z1, c1⟩ := hr1 k b hb
            obtain ⟨m1, _, m3⟩ := hM.out.at' k b _ hb (mixM_at E k hlt)
            obtain ⟨g2, e2, z2, r2, rc2, c2, z3, hr2⟩ := (HMX.out.below (by rw [HK.out]; exact hB.out)) k hlt
            injection e2 with e2
            injection e2 with e2 e3 e4
            clear e3 e4
            subst e2
            obtain ⟨W7, hCP, h7, h8, h9⟩ := copy_row (rc := rc2) (W := wr.drew) m1 (rowE_len n E k) m3 (fun j v hj => by
              have hjn : j < n := by have := (List.getElem?_eq_some_iff.1 hj).1; rw [rowE_len] at this; exact this
              rw [rowE_at E k hjn] at hj
              cases hj
              exact hr2 j hjn) hB.out.drew (by omega)
            have HM7 : Hid (MB (K + 2) W7 (.slice (some ⟨g1, 0, none⟩) n tc) n bs (mixM n E (k + 1))) := by
              rw [← mixM_succ E hlt]
              exact hM.out.put hb (rowE_len n E k) h7 fun j _ hne => h8 j hne
            have HP7 : Hid (W7.heap[P]? = some (.cells #[.slice (some ⟨g1, 0, none⟩) n tc] 27)) := (h8 P (by omega)).trans hP.out
            have HC7 : Hid (W7.heap[K]? = some (.cells #[.slice (some ⟨g, 0, none⟩) n cap] 27) ∧ W7.heap[K + 1]? = some (.cells #[.slice none 0 0] 27)) := ⟨(h8 K (by omega)).trans hC.out.1, (h8 (K + 1) (by omega)).trans hC.out.2⟩
            have HB7 := Lib.hid h9
            have j1 : (0 : Int) ≤ (k : Int) := by omega
            have j2 : (k : Int) < (n : Int) := by omega
            unfold rowV at c1
            clear hb hr1 m1 m3 hr2 h7 h8 h9 hM hP hC hB
            go_wp2_with fail
            refine wp_region_mix [0, 1, 2, 3, 4, 5, 6, 7, 8, 9] [10] [10] (Below wr.heap.size wr) (by kernel_rfl) (by kernel_rfl) (Below.refl _ _).drew ?_
            iterate 10 (first | (apply first_step; (rw [List.getElem?_toArray]; (repeat rw [List.getElem?_cons_succ]); rw [List.getElem?_cons_zero]); rfl; (intro W hB; have hc := bcellB hB; go_simp; (first | done | rfl)); go_frame) | (apply first_skip; (rw [List.getElem?_toArray]; (repeat rw [List.getElem?_cons_succ]); rw [List.getElem?_cons_zero]); rfl; go_frame))
            refine first_done ?_
            apply tail_step; (rw [List.getElem?_toArray]; (repeat rw [List.getElem?_cons_succ]); rw [List.getElem?_cons_zero]); rfl; rfl; intro K' hK; go_simp; refine hK _ _ (fun h => absurd (by decide) h) ?_; clear hK K'
            refine tail_done ?_
            clear hCP c0 z0 c1 z1 c2 z2 z3 c4 z4
            go_wp2_with fail
            go_roundg (n - (k + 1))
            case measure => omega
            case rel => exact ⟨k + 1, by go_num, rfl, by omega, HM7, HP7, HC7, HB7⟩
          · have HM5 : Hid (MB (K + 2) wr (.slice ta n tc) n bs (mixM n E n)) := by
              have h1 := hM.out
              rw [show k = n by omega] at h1
              exact h1
            obtain ⟨b, hb⟩ : ∃ b, bs[s]? = some b := ⟨_, List.getElem?_eq_getElem (by rw [HBS.out]; exact hsn)⟩
            obtain ⟨hKb, hbP⟩ := HLT.out s b hb
            obtain ⟨ta', tc', e, hr1⟩ := HM5.out.slice
            injection e with e e3 e4
            clear e3 e4
            subst e
            obtain ⟨g1, rfl, z1, c1⟩ := hr1 s b hb
            obtain ⟨_, _, m3⟩ := HM5.out.at' s b _ hb (mixM_at E n hsn)
            rw [if_pos hsn] at m3
            have c2 := bcell m3 (rowE_at E s hdn)
            have y2 := frozen_of_heap m3 d
            have z2 := lt_of_heap m3
            have c3 := cell_of_heap hC.out.2 0
            have y3 := frozen_of_heap hC.out.2 0
            have z3 := lt_of_heap hC.out.2
            have hnP : P ≠ b := by omega
            have hn1 : K + 1 ≠ b := by omega
            have HM6 : Hid (MB (K + 2) (wr.setCell ⟨b, d, none⟩ (.bool true)) (.slice (some ⟨g1, 0, none⟩) n tc) n bs ((mixM n E n).set s ((rowE n E s).set d true))) := HM5.out.put hb (by rw [List.length_set, rowE_len]) (bput m3 d true) fun j _ hne => set_other j hne
            have HM8 : Hid (MB (K + 2) ((wr.setCell ⟨b, d, none⟩ (.bool true)).setCell ⟨K + 1, 0, none⟩ (.slice (some ⟨g1, 0, none⟩) n tc)) (.slice (some ⟨g1, 0, none⟩) n tc) n bs ((mixM n E n).set s ((rowE n E s).set d true))) := HM6.out.keep fun j hj _ => set_other j (by simp; omega)
            have HM7 : Hid (MxA ((wr.setCell ⟨b, d, none⟩ (.bool true)).setCell ⟨K + 1, 0, none⟩ (.slice (some ⟨g1, 0, none⟩) n tc)) (some ⟨g1, 0, none⟩) n (adjE (E ++ [(s, d)]))) := HM8.out.mx HBS.out fun i k hi hk => mixM_new E hsn hdn i k hi hk
            have HB7 : Hid (Below K w ((wr.setCell ⟨b, d, none⟩ (.bool true)).setCell ⟨K + 1, 0, none⟩ (.slice (some ⟨g1, 0, none⟩) n tc))) := (hB.out.setCell (p := ⟨b, d, none⟩) (by show K ≤ b; omega) _).setCell (p := ⟨K + 1, 0, none⟩) (Nat.le_succ K) _
            unfold rowV at c1
            clear hb hr1 m3 hM hP hC hB HM5 HM6
            go_wp2_with fail
            refine bodyPost_ret (v := .tuple #[.agg #[.slice (some ⟨g1, 0, none⟩) n tc], .bool true]) (by simp [results, Try.results24, go_sem, c3]) rfl ⟨_, tc, rfl, HM7.out, fun S hS _ W hW => (HM8.out.keep fun j hj hlt => hW.block j hlt fun h => by have := hS j h; rw [HK.out] at this; omega).mx HBS.out fun i k hi hk => mixM_new E hsn hdn i k hi hk, by rw [HK.out]; exact HB7.out⟩
    · have ey : decide (0 ≤ y ∧ y < (n : Int)) = false := by simpa using hy
      have hok2 : okE n E x y = false := by unfold okE; rw [ey]; simp
      have hadd : addE n E x y = E := by
        unfold addE
        rw [hok2]
        rfl
      rw [hok2, hadd]
      rw [ex] at C1
      rw [ey] at C2
      clear hok2 hadd ex ey hx hy
      go_enter Try.func24, Try.ntmps24
      go_wp2_with fail
      refine (C1.out _).mono ?_
      rintro e w1 ⟨rfl, hb1⟩
      have HC1 : Hid (w1.heap[w.heap.size]? = some (.cells #[.slice a n cap] 27) ∧ w1.heap[w.heap.size + 1]? = some (.cells #[.slice none 0 0] 27)) := ⟨(hb1.block _ (by simp; omega)).trans (heap_alloc_old (heap_alloc_new w _) _), (hb1.block _ (by simp)).trans (heap_alloc_at (by simp) _)⟩
      have HB1 : Hid (Below K w w1) := by
        have h1 := ((below_alloc w (.cells #[.slice a n cap] 27) w.heap.size (Nat.le_refl _)).alloc (by simp) (.cells #[.slice none 0 0] 27)).trans (hb1.mono (by simp; omega))
        rw [HK.out] at h1
        exact h1
      rw [HK.out] at HC1 ⊢
      clear hb1 C1
      have c0 := cell_of_heap HC1.out.1 0
      have z0 := lt_of_heap HC1.out.1
      go_wp2_with fail
      refine (C2.out _).mono ?_
      rintro e w2 ⟨rfl, hb2⟩
      have HC2 : Hid (w2.heap[K]? = some (.cells #[.slice a n cap] 27) ∧ w2.heap[K + 1]? = some (.cells #[.slice none 0 0] 27)) := ⟨(hb2.block _ (lt_of_heap HC1.out.1)).trans HC1.out.1, (hb2.block _ (lt_of_heap HC1.out.2)).trans HC1.out.2⟩
      have HB2 : Hid (Below K w w2) := HB1.out.trans (hb2.mono (by have := lt_of_heap HC1.out.1; omega))
      clear hb2 C2 c0 z0 HC1 HB1
      have c0 := cell_of_heap HC2.out.1 0
      have z0 := lt_of_heap HC2.out.1
      have c1 := cell_of_heap HC2.out.2 0
      have y1 := frozen_of_heap HC2.out.2 0
      have z1 := lt_of_heap HC2.out.2
      have HB9 : Hid (Below K w (w2.setCell ⟨K + 1, 0, none⟩ (.slice a n cap))) := HB2.out.setCell (p := ⟨K + 1, 0, none⟩) (Nat.le_succ K) _
      have HM9 : Hid (MxA (w2.setCell ⟨K + 1, 0, none⟩ (.slice a n cap)) a n (adjE E)) := HMX.out.below (by rw [HK.out]; exact HB9.out)
      go_wp2_with fail
      refine bodyPost_ret (v := .tuple #[.agg #[.slice a n cap], .bool false]) (by simp [results, Try.results24, go_sem, c1]) rfl ⟨a, cap, rfl, HM9.out, fun S _ h W hW => h W (Fr.trans (Fr.of_below (by rw [HK.out]; exact HB9.out)) hW fun _ _ h => h), by rw [HK.out]; exact HB9.out⟩
  · have ex : decide (0 ≤ x ∧ x < (n : Int)) = false := by simpa using hx
    have hok2 : okE n E x y = false := by unfold okE; rw [ex]; rfl
    have hadd : addE n E x y = E := by
      unfold addE
      rw [hok2]
      rfl
    rw [hok2, hadd]
    rw [ex] at C1
    clear hok2 hadd ex hx C2
    go_enter Try.func24, Try.ntmps24
    go_wp2_with fail
    refine (C1.out _).mono ?_
    rintro e w1 ⟨rfl, hb1⟩
    have HC1 : Hid (w1.heap[w.heap.size]? = some (.cells #[.slice a n cap] 27) ∧ w1.heap[w.heap.size + 1]? = some (.cells #[.slice none 0 0] 27)) := ⟨(hb1.block _ (by simp; omega)).trans (heap_alloc_old (heap_alloc_new w _) _), (hb1.block _ (by simp)).trans (heap_alloc_at (by simp) _)⟩
    have HB1 : Hid (Below K w w1) := by
      have h1 := ((below_alloc w (.cells #[.slice a n cap] 27) w.heap.size (Nat.le_refl _)).alloc (by simp) (.cells #[.slice none 0 0] 27)).trans (hb1.mono (by simp; omega))
      rw [HK.out] at h1
      exact h1
    rw [HK.out] at HC1 ⊢
    clear hb1 C1
    have c0 := cell_of_heap HC1.out.1 0
    have z0 := lt_of_heap HC1.out.1
    have c1 := cell_of_heap HC1.out.2 0
    have y1 := frozen_of_heap HC1.out.2 0
    have z1 := lt_of_heap HC1.out.2
    have HB9 : Hid (Below K w (w1.setCell ⟨K + 1, 0, none⟩ (.slice a n cap))) := HB1.out.setCell (p := ⟨K + 1, 0, none⟩) (Nat.le_succ K) _
    have HM9 : Hid (MxA (w1.setCell ⟨K + 1, 0, none⟩ (.slice a n cap)) a n (adjE E)) := HMX.out.below (by rw [HK.out]; exact HB9.out)
    go_wp2_with fail
    refine bodyPost_ret (v := .tuple #[.agg #[.slice a n cap], .bool false]) (by simp [results, Try.results24, go_sem, c1]) rfl ⟨a, cap, rfl, HM9.out, fun S _ h W hW => h W (Fr.trans (Fr.of_below (by rw [HK.out]; exact HB9.out)) hW fun _ _ h => h), by rw [HK.out]; exact HB9.out⟩
end Go.Proofs.Ytcjohhminiedfaa
