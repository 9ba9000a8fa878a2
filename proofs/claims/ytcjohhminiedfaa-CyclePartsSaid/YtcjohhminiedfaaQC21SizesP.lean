/- CycleSizes, plain. -/
import Derived.Test.YtcjohhminiedfaaQC21ReachP
namespace Go.Proofs.Ytcjohhminiedfaa
theorem flat_all {n : Nat} {T L : List (List Nat)} (hs : SCC n T L) {O : List Nat} (h1 : O.Nodup) (h2 : ∀ i, i ∈ O ↔ i < L.length) : (O.flatMap fun i => L.getD i []).length = n := by
  obtain ⟨k1, k2⟩ := flat_nodup hs O h1 fun i hi => (h2 i).1 hi
  have hp : (O.flatMap fun i => L.getD i []).Perm (List.range n) := by
    refine (List.perm_ext_iff_of_nodup k1 List.nodup_range).2 fun y => ?_
    rw [List.mem_range]
    refine ⟨k2 y, fun hy => ?_⟩
    obtain ⟨p, hp, hyp⟩ := hs.of_at hy
    refine List.mem_flatMap.2 ⟨ofL L y, (h2 _).2 (hs.of_lt hy), ?_⟩
    rw [List.getD_eq_getElem?_getD, hp]
    exact hyp
  rw [hp.length_eq, List.length_range]
theorem order_len {n : Nat} {T L : List (List Nat)} {O : List Nat} (hT : TOk n T) (hL : PartsR n T L) (hO : IsOrd T L O) : (O.flatMap fun i => L.getD i []).length = n := flat_all (hL.pl hT).scc hO.nod hO.all
theorem rch_nil {n x y : Nat} (h : Rch (tos n []) x y) : x = y := by
  cases h with
  | refl => rfl
  | step e _ =>
    rw [mem_tos (EOk.nil n)] at e
    cases e
theorem sum_ones {α : Type} (l : List α) : (l.map fun _ => 1).sum = l.length := by
  induction l with
  | nil => rfl
  | cons a r ih =>
    rw [List.map_cons, List.sum_cons, ih, List.length_cons]
    omega
theorem parts_len {n : Nat} {L : List (List Nat)} (hL : PartsR n (tos n []) L) : L.length = n := by
  have hp := hL.pl (tos_ok (EOk.nil n))
  have h1 := flat_all hp.scc (O := List.range L.length) List.nodup_range fun i => List.mem_range
  rw [List.length_flatMap] at h1
  have h2 : (List.range L.length).map (fun i => (L.getD i []).length) = (List.range L.length).map fun _ => 1 := by
    refine List.map_congr_left fun i hi => ?_
    have hi := List.mem_range.1 hi
    have hl : L[i]? = some (L.getD i []) := by rw [List.getD_eq_getElem?_getD, List.getElem?_eq_getElem hi]; rfl
    have hm := List.mem_of_getElem? hl
    generalize L.getD i [] = p at *
    have hne := hp.scc.ne p hm
    have hnd := hp.scc.nod p hm
    have hb := hp.scc.both p hm
    match p, hne, hnd, hb with
    | [a], _, _, _ => rfl
    | a :: b :: r, _, hnd, hb =>
      have := rch_nil (hb a (by simp) b (by simp))
      subst this
      simp at hnd
  rw [h2, sum_ones, List.length_range] at h1
  exact h1
theorem reach_len {n : Nat} {x : Int} {r : List Nat} (h : ReachR n (tos n []) [x] r) : r.length = if 0 ≤ x ∧ x < (n : Int) then 1 else 0 := by
  by_cases hx : 0 ≤ x ∧ x < (n : Int)
  · rw [if_pos hx]
    have : r = [x.toNat] := by
      refine rise_eq h.1 (List.pairwise_singleton _ _) fun y => ?_
      rw [h.2]
      constructor
      · rintro ⟨s, hs, hr⟩
        obtain ⟨h1, h2⟩ := mem_nodesI.1 hs
        have := rch_nil hr
        simp only [List.mem_singleton] at h2 ⊢
        omega
      · intro hy
        rw [List.mem_singleton] at hy
        exact ⟨y, mem_nodesI.2 ⟨by omega, by simp; omega⟩, .refl y⟩
    rw [this]
    rfl
  · rw [if_neg hx]
    refine List.length_eq_zero_iff.2 (List.eq_nil_iff_forall_not_mem.2 fun y hy => ?_)
    obtain ⟨s, hs, _⟩ := (h.2 y).1 hy
    obtain ⟨h1, h2⟩ := mem_nodesI.1 hs
    simp only [List.mem_singleton] at h2
    omega
theorem round_len0 {n x : Nat} {f : Nat → Int} {r : List Nat} (h : RoundR n (adjE []) f x r) : r.length = 0 := by
  rcases h with ⟨l, rfl, h1⟩ | ⟨rfl, _⟩
  · obtain ⟨z, hz⟩ := h1.first
    have := hz.edge
    simp [adjE] at this
  · rfl
theorem round_len1 {n x : Nat} {f : Nat → Int} {r : List Nat} (hx : x < n) (hf : Dist n (adjE [(x, x)]) x f) (h : RoundR n (adjE [(x, x)]) f x r) : r.length = 1 := by
  rcases h with ⟨l, rfl, h1⟩ | ⟨rfl, h1⟩
  · cases h1 with
    | stop _ => rfl
    | go k1 k2 _ =>
      have := k1.edge
      simp [adjE] at this
      exact absurd this k2
  · have := h1 x hx (by simp [adjE])
    rw [hf.zero] at this
    omega
theorem none_ok : TOk 0 [] := ⟨rfl, fun l hl => by cases hl⟩
theorem parts_none {L : List (List Nat)} (hL : PartsR 0 [] L) : L.length = 0 := parts_len (n := 0) hL
theorem order_none {L : List (List Nat)} {O : List Nat} (hL : PartsR 0 [] L) (hO : IsOrd [] L O) : (O.flatMap fun i => L.getD i []).length = 0 := order_len none_ok hL hO
theorem reach_none {x : Int} {r : List Nat} (h : ReachR 0 [] [x] r) : r.length = 0 := by
  have := reach_len (n := 0) h
  rw [if_neg (by omega)] at this
  exact this
theorem okE_nil {n : Nat} (x : Int) : okE n [] x x = decide (0 ≤ x ∧ x < (n : Int)) := by
  unfold okE
  simp
theorem addE_nil {n : Nat} {x : Int} (hx : 0 ≤ x ∧ x < (n : Int)) : addE n [] x x = [(x.toNat, x.toNat)] := by
  unfold addE
  rw [okE_nil, if_pos (by simpa using hx)]
  rfl
end Go.Proofs.Ytcjohhminiedfaa
/- CycleSizes: the walk. -/
namespace Go.Proofs.Ytcjohhminiedfaa
open Go.RowKit
/-- A graph that is nil. -/
def Gnil : Gb := ⟨.pointer none, 0, .slice none 0 0, [], .slice none 0 0, [], none⟩
theorem gnil_ok (w : World) : GrN w Gnil 0 [] [] := .inl ⟨rfl, rfl, rfl, rfl⟩
/-- A graph that is zero. -/
def Gz (b : Nat) : Gb := ⟨.pointer (some ⟨b, 0, none⟩), b, .slice none 0 0, [], .slice none 0 0, [], none⟩
theorem gz_ok {w : World} {b : Nat} (h : w.heap[b]? = some (.cells #[.slice none 0 0, .slice none 0 0, .map none] 50)) : GrN w (Gz b) 0 [] [] :=
  .inr ⟨⟨rfl, h, ⟨World.ownsRow_nil _ _ _ _, fun i l hl => by simp at hl⟩, ⟨World.ownsRow_nil _ _ _ _, fun i l hl => by simp at hl⟩⟩, rfl, rfl⟩
theorem gz_has {b k : Nat} (h : (Gz b).has k) : k = b := by
  rcases h with h | h | h | h | ⟨i, u, h, _⟩ | ⟨i, u, h, _⟩
  · exact h
  · cases h
  · cases h
  · cases h
  · simp [Gz] at h
  · simp [Gz] at h
/-- A row of one number, just laid. -/
theorem rd_one {w : World} (x : Int) : RdI (w.alloc (.cells #[.int .i64 x] 3)) (.slice (some ⟨w.heap.size, 0, none⟩) 1 1) [x] := by
  refine ⟨by simp [maxLen], _, _, rfl, fun j y hy => ⟨w.heap.size, 0, rfl, by simp, ?_⟩⟩
  rw [cell_of_heap (heap_alloc_new w _)]
  cases j with
  | zero =>
    simp at hy
    subst hy
    rfl
  | succ j => simp at hy
/-- Round at any number. -/
theorem roundI_E {K n : Nat} {w : World} {G : Gb} {E : List (Nat × Nat)} (hok : EOk n E) (hn : n ≤ 100000) (h : GrE K w G n E) (x : Int) :
    Calls Try.prog 12 #[G.pv, .int .i64 x] w fun e w' => ∃ (v : Value) (ring : List Nat), e = .returned v ∧ IR w.heap.size w' v ring ∧ (∀ a : Nat, x = (a : Int) → a < n → ∃ f, Dist n (adjE E) a f ∧ RoundR n (adjE E) f a ring) ∧ (¬ (0 ≤ x ∧ x < (n : Int)) → ring = []) ∧ Below w.heap.size w w' := by
  by_cases hx : 0 ≤ x ∧ x < (n : Int)
  · obtain ⟨a, rfl⟩ : ∃ a : Nat, x = (a : Int) := ⟨x.toNat, by omega⟩
    refine (round_E hok hn (by omega) h).mono ?_
    rintro e w' ⟨v, ring, f, rfl, h1, h2, h3, h4⟩
    exact ⟨v, ring, rfl, h1, fun b e _ => by
      have : a = b := by omega
      subst this
      exact ⟨f, h2, h3⟩, fun h => absurd hx h, h4⟩
  · refine (round_out (n := n) (.inr ⟨h.gr, tos_len n E, frs_len n E⟩) x hx).mono ?_
    rintro e w' ⟨rfl, h1⟩
    exact ⟨_, [], rfl, IR.nil _ _, fun a e ha => absurd (by omega) hx, fun _ => rfl, h1⟩
theorem IR.shape {B : Nat} {w : World} {v : Value} {l : List Nat} (h : IR B w v l) : ∃ a c, v = .slice a l.length c := by
  obtain ⟨a, c, e, _⟩ := h.slice
  exact ⟨a, c, e⟩
theorem reach_E {K n : Nat} {w : World} {G : Gb} {E : List (Nat × Nat)} {S : List Int} {sv : Value} (hok : EOk n E) (hn : n ≤ 100000) (h : GrE K w G n E) (hS : RdI w sv S) :
    Calls Try.prog 18 #[G.pv, sv] w fun e w' => ∃ v r, e = .returned v ∧ IR w.heap.size w' v r ∧ ReachR n (tos n E) S r ∧ Below w.heap.size w w' :=
  reach_any (tos_ok hok) hn (.inr ⟨h.gr, tos_len n E, frs_len n E⟩) (fun _ _ => h.has) hS
set_option maxHeartbeats 4000000 in
set_option maxRecDepth 100000 in
theorem sizes_law (nodes x : Int) (w : World) : Calls Try.prog 6 #[.int .i64 nodes, .int .i64 x] w fun e w' => e = .returned (.bool true) ∧ Below w.heap.size w w' := by
  obtain ⟨n, hn⟩ : ∃ n : Nat, (n : Int) = min (max nodes 0) 10000 := ⟨(min (max nodes 0) 10000).toNat, by omega⟩
  have hn2 : n ≤ 10000 := by omega
  have HN := Lib.hid hn
  go_enter Try.func6, Try.ntmps6
  go_wp2_with fail
  refine (awake_any w).mono ?_
  rintro e w1 ⟨rfl, hb1⟩
  have HB1 := Lib.hid hb1
  have C2 := Lib.hid (new_E (w := w1) nodes n hn)
  clear hb1
  go_wp2_with fail
  refine C2.out.mono ?_
  rintro e w2 ⟨G, rfl, hG2, hb2⟩
  obtain ⟨p, hp⟩ : ∃ p, G.pv = .pointer (some p) := ⟨_, hG2.gr.ptr⟩
  have HP2 := Lib.hid hp
  have HG2 := Lib.hid hG2
  have HB2 := Lib.hid (HB1.out.trans (hb2.mono HB1.out.size))
  rw [hp, ← hn]
  obtain ⟨m, hm⟩ : ∃ m, max nodes 0 = m := ⟨_, rfl⟩
  rw [hm]
  obtain ⟨t, ht⟩ : ∃ t, decide (0 ≤ x ∧ x < (n : Int)) = t := ⟨_, rfl⟩
  have HT := Lib.hid ht
  have htt : (t != t) = false := by cases t <;> rfl
  clear hp hG2 hb2 hm hn C2
  by_cases h0 : 0 ≤ x
  · have hb0 : decide (0 ≤ x) = true := by simpa using h0
    have hb1 : decide (x < (n : Int)) = t := by
      rw [← ht]
      simp [h0]
    clear ht h0
    have C3 := order_E (EOk.nil n) (by omega) (by simp) HG2.out
    rw [HP2.out] at C3
    have C3 := Lib.hid C3
    go_wp2_with fail
    refine C3.out.mono ?_
    rintro e w3 ⟨v3, L3, O3, rfl, hL3, hO3, hI3, hb3⟩
    have hn3 := order_len (tos_ok (EOk.nil n)) hL3 hO3
    have HB3 := Lib.hid (HB2.out.trans (hb3.mono (by have := HB2.out.size; omega)))
    have HG3 := Lib.hid (HG2.out.below hb3)
    obtain ⟨a3, c3, e⟩ := hI3.shape
    subst e
    obtain ⟨l3, hl3⟩ : ∃ k, (O3.flatMap fun i => L3.getD i []).length = k := ⟨_, rfl⟩
    have HL3 := Lib.hid hl3
    rw [hl3]
    clear hl3
    have e3 : ((l3 : Int) != (n : Int)) = false := by have := HL3.out; simp; omega
    have C4 := parts_E (EOk.nil n) (by omega) HG3.out
    rw [HP2.out] at C4
    have C4 := Lib.hid C4
    have hs3 := HB3.out.size
    clear hL3 hO3 hI3 hb3 hn3 C3 HG2 HB2
    go_wp2_with fail
    refine C4.out.mono ?_
    rintro e w4 ⟨v4, vs4, L4, rfl, hR4, hL4, hb4⟩
    have hn4 := parts_len hL4
    have HB4 := Lib.hid (HB3.out.trans (hb4.mono hs3))
    have HG4 := Lib.hid (HG3.out.below hb4)
    obtain ⟨a4, c4, e, _⟩ := hR4.slice
    subst e
    obtain ⟨l4, hl4⟩ : ∃ k, L4.length = k := ⟨_, rfl⟩
    rw [hl4] at hn4 ⊢
    have e4 : ((l4 : Int) != (n : Int)) = false := by simp; omega
    have hs4 := HB4.out.size
    clear hR4 hL4 hb4 hl4 hn4 C4 HG3 HB3 e3
    go_wp2_with fail
    have C5 := reach_E (S := [x]) (EOk.nil n) (by omega) (HG4.out.below (below_alloc w4 (.cells #[.int .i64 x] 3) _ (Nat.le_refl _))) (rd_one x)
    rw [HP2.out] at C5
    refine C5.mono ?_
    clear C5
    rintro e w5 ⟨v5, r5, rfl, hI5, hR5, hb5⟩
    have hn5 := reach_len hR5
    have hB45 : Below w4.heap.size w4 w5 := (below_alloc w4 _ _ (Nat.le_refl _)).trans (hb5.mono (by simp))
    have HB5 := Lib.hid (HB4.out.trans (hB45.mono hs4))
    have HG5 := Lib.hid (HG4.out.below hB45)
    obtain ⟨a5, c5, e⟩ := hI5.shape
    subst e
    obtain ⟨l5, hl5⟩ : ∃ k, r5.length = k := ⟨_, rfl⟩
    have HL5 := Lib.hid hl5
    rw [hl5]
    clear hl5
    have e5 : ((l5 : Int) == 1) = t := by
      have h1 := HL5.out
      have h2 := HT.out
      rw [← h2]
      by_cases hx : 0 ≤ x ∧ x < (n : Int)
      · rw [if_pos hx] at hn5
        have : l5 = 1 := by omega
        simp [this, hx]
      · rw [if_neg hx] at hn5
        have : l5 = 0 := by omega
        simp [this, hx]
    have C6 := roundI_E (EOk.nil n) (by omega) HG5.out x
    rw [HP2.out] at C6
    have C6 := Lib.hid C6
    have hs5 := HB5.out.size
    clear hR5 hI5 hb5 hB45 hn5 HG4 HB4 e4
    go_wp2_with fail
    refine C6.out.mono ?_
    rintro e w6 ⟨v6, r6, rfl, hI6, hR6, hR6', hb6⟩
    have hn6 : r6.length = 0 := by
      by_cases hx : 0 ≤ x ∧ x < (n : Int)
      · obtain ⟨f, _, hf⟩ := hR6 x.toNat (by omega) (by omega)
        exact round_len0 hf
      · rw [hR6' hx]
        rfl
    have HB6 := Lib.hid (HB5.out.trans (hb6.mono hs5))
    have HG6 := Lib.hid (HG5.out.below hb6)
    obtain ⟨a6, c6, e⟩ := hI6.shape
    subst e
    rw [hn6]
    have C7 := edge_E (by simp) HG6.out x x
    rw [HP2.out] at C7
    have C7 := Lib.hid C7
    have hs6 := HB6.out.size
    clear hR6 hR6' hI6 hb6 hn6 C6 HG5 HB5 e5
    go_wp2_with fail
    refine C7.out.mono ?_
    rintro e w7 ⟨rfl, ⟨G7, hp7, hG7, _⟩, _, hB7⟩
    rw [okE_nil, HT.out]
    have HB7 := Lib.hid (HB6.out.trans (hB7.mono (by have := HB1.out.size; omega)))
    have C8 := roundI_E ((EOk.nil n).add x x) (by omega) hG7 x
    rw [hp7] at C8
    have C8 := Lib.hid C8
    have hs7 := HB7.out.size
    clear hp7 hG7 hB7 C7 HG6 HB6
    go_wp2_with fail
    refine C8.out.mono ?_
    rintro e w8 ⟨v8, r8, rfl, hI8, hR8, hR8', hb8⟩
    have hn8 : r8.length = if 0 ≤ x ∧ x < (n : Int) then 1 else 0 := by
      by_cases hx : 0 ≤ x ∧ x < (n : Int)
      · obtain ⟨f, hd, hf⟩ := hR8 x.toNat (by omega) (by omega)
        rw [addE_nil hx] at hd hf
        rw [if_pos hx]
        exact round_len1 (by omega) hd hf
      · rw [hR8' hx, if_neg hx]
        rfl
    have HB8 := Lib.hid (HB7.out.trans (hb8.mono hs7))
    obtain ⟨a8, c8, e⟩ := hI8.shape
    subst e
    obtain ⟨l8, hl8⟩ : ∃ k, r8.length = k := ⟨_, rfl⟩
    have HL8 := Lib.hid hl8
    rw [hl8]
    clear hl8
    have e8 : ((l8 : Int) == 1) = t := by
      have h1 := HL8.out
      have h2 := HT.out
      rw [← h2]
      by_cases hx : 0 ≤ x ∧ x < (n : Int)
      · rw [if_pos hx] at hn8
        have : l8 = 1 := by omega
        simp [this, hx]
      · rw [if_neg hx] at hn8
        have : l8 = 0 := by omega
        simp [this, hx]
    have hs8 := HB8.out.size
    clear hR8 hR8' hI8 hb8 hn8 C8 HB7
    go_wp2_with fail
    refine (edge_none (gnil_ok _) 0 0).mono ?_
    rintro e w9 ⟨rfl, hb9⟩
    have HZ9 : Hid (w9.heap[w8.heap.size]? = some (.cells #[.slice none 0 0, .slice none 0 0, .map none] 50)) := (hb9.block _ (by simp)).trans (heap_alloc_new _ _)
    have HB9 : Hid (Below w.heap.size w w9) := (HB8.out.alloc hs8 _).trans (hb9.mono (by simp; omega))
    have hs9 := HB9.out.size
    obtain ⟨b, hb⟩ : ∃ b, w8.heap.size = b := ⟨_, rfl⟩
    rw [hb] at HZ9 ⊢
    clear hb hb9 HB8 e8
    go_wp2_with fail
    refine (parts_any none_ok (by omega) (gnil_ok w9) (by omega)).mono ?_
    rintro e w10 ⟨v10, vs10, L10, rfl, hR10, hL10, hb10⟩
    have hn10 := parts_none hL10
    obtain ⟨a10, c10, e, _⟩ := hR10.slice
    subst e
    rw [hn10]
    have HZ10 : Hid (w10.heap[b]? = some (.cells #[.slice none 0 0, .slice none 0 0, .map none] 50)) := (hb10.block _ (lt_of_heap HZ9.out)).trans HZ9.out
    have HB10 : Hid (Below w.heap.size w w10) := HB9.out.trans (hb10.mono hs9)
    have hs10 := HB10.out.size
    clear hb10 HZ9 HB9
    clear hR10 hL10 hn10
    go_wp2_with fail
    refine (order_any none_ok none_ok (fun x y => by simp) (by omega) (by simp) (gnil_ok w10) (by omega)).mono ?_
    rintro e w11 ⟨v11, L11, O11, rfl, hL11, hO11, hI11, hb11⟩
    have hn11 := order_none hL11 hO11
    obtain ⟨a11, c11, e⟩ := hI11.shape
    subst e
    rw [hn11]
    have HZ11 : Hid (w11.heap[b]? = some (.cells #[.slice none 0 0, .slice none 0 0, .map none] 50)) := (hb11.block _ (lt_of_heap HZ10.out)).trans HZ10.out
    have HB11 : Hid (Below w.heap.size w w11) := HB10.out.trans (hb11.mono hs10)
    have hs11 := HB11.out.size
    clear hb11 HZ10 HB10
    clear hL11 hO11 hI11 hn11
    go_wp2_with fail
    refine (round_out (gnil_ok w11) 0 (by omega)).mono ?_
    rintro e w12 ⟨rfl, hb12⟩
    have HZ12 : Hid (w12.heap[b]? = some (.cells #[.slice none 0 0, .slice none 0 0, .map none] 50)) := (hb12.block _ (lt_of_heap HZ11.out)).trans HZ11.out
    have HB12 : Hid (Below w.heap.size w w12) := HB11.out.trans (hb12.mono hs11)
    have hs12 := HB12.out.size
    clear hb12 HZ11 HB11
    go_wp2_with fail
    refine (reach_any (S := [0]) none_ok (by omega) (gnil_ok _) (fun p h => by cases h) (rd_one 0)).mono ?_
    rintro e w13 ⟨v13, r13, rfl, hI13, hR13, hb13⟩
    have hn13 := reach_none hR13
    obtain ⟨a13, c13, e⟩ := hI13.shape
    subst e
    rw [hn13]
    have hB13 : Below w12.heap.size w12 w13 := (below_alloc w12 _ _ (Nat.le_refl _)).trans (hb13.mono (by simp))
    have HZ13 : Hid (w13.heap[b]? = some (.cells #[.slice none 0 0, .slice none 0 0, .map none] 50)) := (hB13.block _ (lt_of_heap HZ12.out)).trans HZ12.out
    have HB13 : Hid (Below w.heap.size w w13) := HB12.out.trans (hB13.mono hs12)
    have hs13 := HB13.out.size
    clear hb13 hB13 HZ12 HB12
    clear hI13 hR13 hn13
    go_wp2_with fail
    refine (edge_none (gz_ok HZ13.out) 0 0).mono ?_
    rintro e w14 ⟨rfl, hb14⟩
    have HZ14 : Hid (w14.heap[b]? = some (.cells #[.slice none 0 0, .slice none 0 0, .map none] 50)) := (hb14.block _ (lt_of_heap HZ13.out)).trans HZ13.out
    have HB14 : Hid (Below w.heap.size w w14) := HB13.out.trans (hb14.mono hs13)
    have hs14 := HB14.out.size
    clear hb14 HZ13 HB13
    go_wp2_with fail
    refine (parts_any none_ok (by omega) (gz_ok HZ14.out) (by omega)).mono ?_
    rintro e w15 ⟨v15, vs15, L15, rfl, hR15, hL15, hb15⟩
    have hn15 := parts_none hL15
    obtain ⟨a15, c15, e, _⟩ := hR15.slice
    subst e
    rw [hn15]
    have HZ15 : Hid (w15.heap[b]? = some (.cells #[.slice none 0 0, .slice none 0 0, .map none] 50)) := (hb15.block _ (lt_of_heap HZ14.out)).trans HZ14.out
    have HB15 : Hid (Below w.heap.size w w15) := HB14.out.trans (hb15.mono hs14)
    have hs15 := HB15.out.size
    clear hb15 HZ14 HB14
    clear hR15 hL15 hn15
    go_wp2_with fail
    refine (reach_any (S := [0]) none_ok (by omega) (gz_ok (heap_alloc_old HZ15.out _)) (fun p _ k hk => by rw [gz_has hk]; simp; have := lt_of_heap HZ15.out; omega) (rd_one 0)).mono ?_
    rintro e w16 ⟨v16, r16, rfl, hI16, hR16, hb16⟩
    have hn16 := reach_none hR16
    obtain ⟨a16, c16, e⟩ := hI16.shape
    subst e
    rw [hn16]
    have hB16 : Below w15.heap.size w15 w16 := (below_alloc w15 _ _ (Nat.le_refl _)).trans (hb16.mono (by simp))
    have HZ16 : Hid (w16.heap[b]? = some (.cells #[.slice none 0 0, .slice none 0 0, .map none] 50)) := (hB16.block _ (lt_of_heap HZ15.out)).trans HZ15.out
    have HB16 : Hid (Below w.heap.size w w16) := HB15.out.trans (hB16.mono hs15)
    have hs16 := HB16.out.size
    clear hb16 hB16 HZ15 HB15
    clear hI16 hR16 hn16
    go_wp2_with fail
    go_ret
    exact ⟨rfl, HB16.out⟩
  · have hb0 : decide (0 ≤ x) = false := by simpa using h0
    have htf : t = false := by
      rw [← ht]
      simp [h0]
    subst htf
    clear ht h0
    have C3 := order_E (EOk.nil n) (by omega) (by simp) HG2.out
    rw [HP2.out] at C3
    have C3 := Lib.hid C3
    go_wp2_with fail
    refine C3.out.mono ?_
    rintro e w3 ⟨v3, L3, O3, rfl, hL3, hO3, hI3, hb3⟩
    have hn3 := order_len (tos_ok (EOk.nil n)) hL3 hO3
    have HB3 := Lib.hid (HB2.out.trans (hb3.mono (by have := HB2.out.size; omega)))
    have HG3 := Lib.hid (HG2.out.below hb3)
    obtain ⟨a3, c3, e⟩ := hI3.shape
    subst e
    obtain ⟨l3, hl3⟩ : ∃ k, (O3.flatMap fun i => L3.getD i []).length = k := ⟨_, rfl⟩
    have HL3 := Lib.hid hl3
    rw [hl3]
    clear hl3
    have e3 : ((l3 : Int) != (n : Int)) = false := by have := HL3.out; simp; omega
    have C4 := parts_E (EOk.nil n) (by omega) HG3.out
    rw [HP2.out] at C4
    have C4 := Lib.hid C4
    have hs3 := HB3.out.size
    clear hL3 hO3 hI3 hb3 hn3 C3 HG2 HB2
    go_wp2_with fail
    refine C4.out.mono ?_
    rintro e w4 ⟨v4, vs4, L4, rfl, hR4, hL4, hb4⟩
    have hn4 := parts_len hL4
    have HB4 := Lib.hid (HB3.out.trans (hb4.mono hs3))
    have HG4 := Lib.hid (HG3.out.below hb4)
    obtain ⟨a4, c4, e, _⟩ := hR4.slice
    subst e
    obtain ⟨l4, hl4⟩ : ∃ k, L4.length = k := ⟨_, rfl⟩
    rw [hl4] at hn4 ⊢
    have e4 : ((l4 : Int) != (n : Int)) = false := by simp; omega
    have hs4 := HB4.out.size
    clear hR4 hL4 hb4 hl4 hn4 C4 HG3 HB3 e3
    go_wp2_with fail
    have C5 := reach_E (S := [x]) (EOk.nil n) (by omega) (HG4.out.below (below_alloc w4 (.cells #[.int .i64 x] 3) _ (Nat.le_refl _))) (rd_one x)
    rw [HP2.out] at C5
    refine C5.mono ?_
    clear C5
    rintro e w5 ⟨v5, r5, rfl, hI5, hR5, hb5⟩
    have hn5 := reach_len hR5
    have hB45 : Below w4.heap.size w4 w5 := (below_alloc w4 _ _ (Nat.le_refl _)).trans (hb5.mono (by simp))
    have HB5 := Lib.hid (HB4.out.trans (hB45.mono hs4))
    have HG5 := Lib.hid (HG4.out.below hB45)
    obtain ⟨a5, c5, e⟩ := hI5.shape
    subst e
    obtain ⟨l5, hl5⟩ : ∃ k, r5.length = k := ⟨_, rfl⟩
    have HL5 := Lib.hid hl5
    rw [hl5]
    clear hl5
    have e5 : ((l5 : Int) == 1) = false := by
      have h1 := HL5.out
      have h2 := HT.out
      rw [← h2]
      by_cases hx : 0 ≤ x ∧ x < (n : Int)
      · rw [if_pos hx] at hn5
        have : l5 = 1 := by omega
        simp [this, hx]
      · rw [if_neg hx] at hn5
        have : l5 = 0 := by omega
        simp [this, hx]
    have C6 := roundI_E (EOk.nil n) (by omega) HG5.out x
    rw [HP2.out] at C6
    have C6 := Lib.hid C6
    have hs5 := HB5.out.size
    clear hR5 hI5 hb5 hB45 hn5 HG4 HB4 e4
    go_wp2_with fail
    refine C6.out.mono ?_
    rintro e w6 ⟨v6, r6, rfl, hI6, hR6, hR6', hb6⟩
    have hn6 : r6.length = 0 := by
      by_cases hx : 0 ≤ x ∧ x < (n : Int)
      · obtain ⟨f, _, hf⟩ := hR6 x.toNat (by omega) (by omega)
        exact round_len0 hf
      · rw [hR6' hx]
        rfl
    have HB6 := Lib.hid (HB5.out.trans (hb6.mono hs5))
    have HG6 := Lib.hid (HG5.out.below hb6)
    obtain ⟨a6, c6, e⟩ := hI6.shape
    subst e
    rw [hn6]
    have C7 := edge_E (by simp) HG6.out x x
    rw [HP2.out] at C7
    have C7 := Lib.hid C7
    have hs6 := HB6.out.size
    clear hR6 hR6' hI6 hb6 hn6 C6 HG5 HB5 e5
    go_wp2_with fail
    refine C7.out.mono ?_
    rintro e w7 ⟨rfl, ⟨G7, hp7, hG7, _⟩, _, hB7⟩
    rw [okE_nil, HT.out]
    have HB7 := Lib.hid (HB6.out.trans (hB7.mono (by have := HB1.out.size; omega)))
    have C8 := roundI_E ((EOk.nil n).add x x) (by omega) hG7 x
    rw [hp7] at C8
    have C8 := Lib.hid C8
    have hs7 := HB7.out.size
    clear hp7 hG7 hB7 C7 HG6 HB6
    go_wp2_with fail
    refine C8.out.mono ?_
    rintro e w8 ⟨v8, r8, rfl, hI8, hR8, hR8', hb8⟩
    have hn8 : r8.length = if 0 ≤ x ∧ x < (n : Int) then 1 else 0 := by
      by_cases hx : 0 ≤ x ∧ x < (n : Int)
      · obtain ⟨f, hd, hf⟩ := hR8 x.toNat (by omega) (by omega)
        rw [addE_nil hx] at hd hf
        rw [if_pos hx]
        exact round_len1 (by omega) hd hf
      · rw [hR8' hx, if_neg hx]
        rfl
    have HB8 := Lib.hid (HB7.out.trans (hb8.mono hs7))
    obtain ⟨a8, c8, e⟩ := hI8.shape
    subst e
    obtain ⟨l8, hl8⟩ : ∃ k, r8.length = k := ⟨_, rfl⟩
    have HL8 := Lib.hid hl8
    rw [hl8]
    clear hl8
    have e8 : ((l8 : Int) == 1) = false := by
      have h1 := HL8.out
      have h2 := HT.out
      rw [← h2]
      by_cases hx : 0 ≤ x ∧ x < (n : Int)
      · rw [if_pos hx] at hn8
        have : l8 = 1 := by omega
        simp [this, hx]
      · rw [if_neg hx] at hn8
        have : l8 = 0 := by omega
        simp [this, hx]
    have hs8 := HB8.out.size
    clear hR8 hR8' hI8 hb8 hn8 C8 HB7
    go_wp2_with fail
    refine (edge_none (gnil_ok _) 0 0).mono ?_
    rintro e w9 ⟨rfl, hb9⟩
    have HZ9 : Hid (w9.heap[w8.heap.size]? = some (.cells #[.slice none 0 0, .slice none 0 0, .map none] 50)) := (hb9.block _ (by simp)).trans (heap_alloc_new _ _)
    have HB9 : Hid (Below w.heap.size w w9) := (HB8.out.alloc hs8 _).trans (hb9.mono (by simp; omega))
    have hs9 := HB9.out.size
    obtain ⟨b, hb⟩ : ∃ b, w8.heap.size = b := ⟨_, rfl⟩
    rw [hb] at HZ9 ⊢
    clear hb hb9 HB8 e8
    go_wp2_with fail
    refine (parts_any none_ok (by omega) (gnil_ok w9) (by omega)).mono ?_
    rintro e w10 ⟨v10, vs10, L10, rfl, hR10, hL10, hb10⟩
    have hn10 := parts_none hL10
    obtain ⟨a10, c10, e, _⟩ := hR10.slice
    subst e
    rw [hn10]
    have HZ10 : Hid (w10.heap[b]? = some (.cells #[.slice none 0 0, .slice none 0 0, .map none] 50)) := (hb10.block _ (lt_of_heap HZ9.out)).trans HZ9.out
    have HB10 : Hid (Below w.heap.size w w10) := HB9.out.trans (hb10.mono hs9)
    have hs10 := HB10.out.size
    clear hb10 HZ9 HB9
    clear hR10 hL10 hn10
    go_wp2_with fail
    refine (order_any none_ok none_ok (fun x y => by simp) (by omega) (by simp) (gnil_ok w10) (by omega)).mono ?_
    rintro e w11 ⟨v11, L11, O11, rfl, hL11, hO11, hI11, hb11⟩
    have hn11 := order_none hL11 hO11
    obtain ⟨a11, c11, e⟩ := hI11.shape
    subst e
    rw [hn11]
    have HZ11 : Hid (w11.heap[b]? = some (.cells #[.slice none 0 0, .slice none 0 0, .map none] 50)) := (hb11.block _ (lt_of_heap HZ10.out)).trans HZ10.out
    have HB11 : Hid (Below w.heap.size w w11) := HB10.out.trans (hb11.mono hs10)
    have hs11 := HB11.out.size
    clear hb11 HZ10 HB10
    clear hL11 hO11 hI11 hn11
    go_wp2_with fail
    refine (round_out (gnil_ok w11) 0 (by omega)).mono ?_
    rintro e w12 ⟨rfl, hb12⟩
    have HZ12 : Hid (w12.heap[b]? = some (.cells #[.slice none 0 0, .slice none 0 0, .map none] 50)) := (hb12.block _ (lt_of_heap HZ11.out)).trans HZ11.out
    have HB12 : Hid (Below w.heap.size w w12) := HB11.out.trans (hb12.mono hs11)
    have hs12 := HB12.out.size
    clear hb12 HZ11 HB11
    go_wp2_with fail
    refine (reach_any (S := [0]) none_ok (by omega) (gnil_ok _) (fun p h => by cases h) (rd_one 0)).mono ?_
    rintro e w13 ⟨v13, r13, rfl, hI13, hR13, hb13⟩
    have hn13 := reach_none hR13
    obtain ⟨a13, c13, e⟩ := hI13.shape
    subst e
    rw [hn13]
    have hB13 : Below w12.heap.size w12 w13 := (below_alloc w12 _ _ (Nat.le_refl _)).trans (hb13.mono (by simp))
    have HZ13 : Hid (w13.heap[b]? = some (.cells #[.slice none 0 0, .slice none 0 0, .map none] 50)) := (hB13.block _ (lt_of_heap HZ12.out)).trans HZ12.out
    have HB13 : Hid (Below w.heap.size w w13) := HB12.out.trans (hB13.mono hs12)
    have hs13 := HB13.out.size
    clear hb13 hB13 HZ12 HB12
    clear hI13 hR13 hn13
    go_wp2_with fail
    refine (edge_none (gz_ok HZ13.out) 0 0).mono ?_
    rintro e w14 ⟨rfl, hb14⟩
    have HZ14 : Hid (w14.heap[b]? = some (.cells #[.slice none 0 0, .slice none 0 0, .map none] 50)) := (hb14.block _ (lt_of_heap HZ13.out)).trans HZ13.out
    have HB14 : Hid (Below w.heap.size w w14) := HB13.out.trans (hb14.mono hs13)
    have hs14 := HB14.out.size
    clear hb14 HZ13 HB13
    go_wp2_with fail
    refine (parts_any none_ok (by omega) (gz_ok HZ14.out) (by omega)).mono ?_
    rintro e w15 ⟨v15, vs15, L15, rfl, hR15, hL15, hb15⟩
    have hn15 := parts_none hL15
    obtain ⟨a15, c15, e, _⟩ := hR15.slice
    subst e
    rw [hn15]
    have HZ15 : Hid (w15.heap[b]? = some (.cells #[.slice none 0 0, .slice none 0 0, .map none] 50)) := (hb15.block _ (lt_of_heap HZ14.out)).trans HZ14.out
    have HB15 : Hid (Below w.heap.size w w15) := HB14.out.trans (hb15.mono hs14)
    have hs15 := HB15.out.size
    clear hb15 HZ14 HB14
    clear hR15 hL15 hn15
    go_wp2_with fail
    refine (reach_any (S := [0]) none_ok (by omega) (gz_ok (heap_alloc_old HZ15.out _)) (fun p _ k hk => by rw [gz_has hk]; simp; have := lt_of_heap HZ15.out; omega) (rd_one 0)).mono ?_
    rintro e w16 ⟨v16, r16, rfl, hI16, hR16, hb16⟩
    have hn16 := reach_none hR16
    obtain ⟨a16, c16, e⟩ := hI16.shape
    subst e
    rw [hn16]
    have hB16 : Below w15.heap.size w15 w16 := (below_alloc w15 _ _ (Nat.le_refl _)).trans (hb16.mono (by simp))
    have HZ16 : Hid (w16.heap[b]? = some (.cells #[.slice none 0 0, .slice none 0 0, .map none] 50)) := (hB16.block _ (lt_of_heap HZ15.out)).trans HZ15.out
    have HB16 : Hid (Below w.heap.size w w16) := HB15.out.trans (hB16.mono hs15)
    have hs16 := HB16.out.size
    clear hb16 hB16 HZ15 HB15
    clear hI16 hR16 hn16
    go_wp2_with fail
    go_ret
    exact ⟨rfl, HB16.out⟩
end Go.Proofs.Ytcjohhminiedfaa
