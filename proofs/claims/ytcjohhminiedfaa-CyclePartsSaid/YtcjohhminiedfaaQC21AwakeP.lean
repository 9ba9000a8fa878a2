/- Cycle: the document's example, plain. -/
import Derived.Test.YtcjohhminiedfaaQC21Same
namespace Go.Proofs.Ytcjohhminiedfaa
def E3 : List (Nat × Nat) := [(0, 1), (1, 0), (1, 2)]
theorem E3_ok : EOk 3 E3 := by
  refine ⟨by decide, fun e he => ?_⟩
  simp only [E3, List.mem_cons, List.not_mem_nil, or_false] at he
  rcases he with rfl | rfl | rfl <;> decide
theorem found3 : foundF 3 (tos 3 E3) = [[2], [0, 1]] := by decide
theorem sort_of {l m : List Nat} (hp : l.Perm m) (hm : m.Pairwise (· < ·)) : sortN l = m := by
  refine ((sortN_perm l).trans hp).eq_of_pairwise (le := (· ≤ ·)) (fun a b _ _ h1 h2 => by omega) (sortN_sorted l) (hm.imp Nat.le_of_lt)
theorem parts3 {L : List (List Nat)} (h : PartsR 3 (tos 3 E3) L) : L = [[0, 1], [2]] := by
  obtain ⟨h1, h2⟩ := h
  rw [found3] at h1
  have e : [[2], [0, 1]].map sortN = [[2], [0, 1]] := by
    simp only [List.map_cons, List.map_nil]
    rw [sort_of (List.Perm.refl [2]) (by decide), sort_of (List.Perm.refl [0, 1]) (by decide)]
  rw [e] at h1
  have h3 : L.Perm [[0, 1], [2]] := h1.trans (List.Perm.swap _ _ _)
  refine h3.eq_of_pairwise (le := fun a b => hd a ≤ hd b) (fun a b ha hb k1 k2 => ?_) h2 (by decide)
  have ha' := h3.mem_iff.1 ha
  simp only [List.mem_cons, List.not_mem_nil, or_false] at ha' hb
  rcases ha' with rfl | rfl <;> rcases hb with rfl | rfl <;> first | rfl | (exact absurd k1 (by decide)) | exact absurd k2 (by decide)
theorem order3 {O : List Nat} (h : IsOrd (tos 3 E3) [[0, 1], [2]] O) : O = [1, 0] := by
  refine h.uniq ⟨by decide, fun i => ?_, fun A i B e => ?_⟩
  · simp
    omega
  · cases A with
    | nil =>
      cases e
      exact ⟨by decide, fun j hj _ => by
        have : j = 0 := by omega
        subst this
        decide⟩
    | cons a A =>
      cases A with
      | nil =>
        cases e
        exact ⟨by decide, fun j hj => by omega⟩
      | cons b A => simp at e
theorem round3 {f : Nat → Int} {r : List Nat} (hf : Dist 3 (adjE E3) 0 f) (h : RoundR 3 (adjE E3) f 0 r) : r = [0, 1] := by
  have e0 := hf.zero
  have e1 := hf.edge 1 0 (by decide) (by decide) (by decide) (by omega)
  have e2 : f 1 = 1 := by
    rcases hf.pos 1 (by decide) (by decide) with h1 | ⟨k, _, _, _, h1⟩ <;> omega
  have e3 : f 2 = -1 := by
    rcases hf.pos 2 (by decide) (by decide) with h1 | ⟨k, k1, k2, _, _⟩
    · exact h1
    · exfalso
      have : k = 0 ∨ k = 1 ∨ k = 2 := by omega
      rcases this with rfl | rfl | rfl <;> exact absurd k2 (by decide)
  have cs : ∀ y, y < 3 → y = 0 ∨ y = 1 ∨ y = 2 := fun y hy => by omega
  refine h.uniq (.inl ⟨[1], rfl, .go ⟨by decide, by decide, by omega, fun h => by omega, fun y hy ha h0 _ => ?_⟩ (by decide) (.stop ⟨by decide, by decide, by omega, fun h => by omega, fun y hy ha h0 _ => ?_⟩)⟩)
  · rcases cs y hy with rfl | rfl | rfl
    · exact absurd ha (by decide)
    · omega
    · exact absurd ha (by decide)
  · rcases cs y hy with rfl | rfl | rfl
    · omega
    · exact absurd ha (by decide)
    · omega
end Go.Proofs.Ytcjohhminiedfaa
/- Cycle: awake. -/
namespace Go.Proofs.Ytcjohhminiedfaa
open Go.RowKit
/-- A graph of these edges, all its blocks at least K. -/
def GrE (K : Nat) (w : World) (G : Gb) (n : Nat) (E : List (Nat × Nat)) : Prop := GrD K w G (tos n E) (frs n E) (mE E)
theorem GrE.below {K n : Nat} {w w' : World} {G : Gb} {E : List (Nat × Nat)} (h : GrE K w G n E) (hb : Below w.heap.size w w') : GrE K w' G n E := GrD.below h hb
theorem GrE.has {K n : Nat} {w : World} {G : Gb} {E : List (Nat × Nat)} (h : GrE K w G n E) : ∀ k, G.has k → k < w.heap.size := fun _ hk => GrD.has_lt h hk
theorem GrE.size {K n : Nat} {w : World} {G : Gb} {E : List (Nat × Nat)} (h : GrE K w G n E) : K ≤ w.heap.size := by
  have h1 := GrD.lo h G.p (.inl rfl)
  have h2 := h.has G.p (.inl rfl)
  omega
/-- Edge, told by the edges. -/
theorem edge_E {K n : Nat} {w : World} {G : Gb} {E : List (Nat × Nat)} (hE : E.length ≤ 1000000) (h : GrE K w G n E) (x y : Int) :
    Calls Try.prog 15 #[G.pv, .int .i64 x, .int .i64 y] w fun e w' => e = .returned (.bool (okE n E x y)) ∧ (∃ G', G'.pv = G.pv ∧ GrE K w' G' n (addE n E x y) ∧ (∀ k, G'.has k → G.has k ∨ w.heap.size ≤ k)) ∧ Fr (fun k => G.has k) w w' ∧ Below K w w' := by
  refine (edge_any hE h x y).mono ?_
  rintro e w' ⟨rfl, G', h1, h2, h3, h4⟩
  exact ⟨rfl, ⟨G', h1, h2, h4⟩, h3, h3.below h.size h.lo⟩
theorem order_E {K n : Nat} {w : World} {G : Gb} {E : List (Nat × Nat)} (hok : EOk n E) (hn : n ≤ 100000) (hE : E.length ≤ 1000000) (h : GrE K w G n E) :
    Calls Try.prog 17 #[G.pv] w fun e w' => ∃ v L O, e = .returned v ∧ PartsR n (tos n E) L ∧ IsOrd (tos n E) L O ∧ IR w.heap.size w' v (O.flatMap fun i => L.getD i []) ∧ Below w.heap.size w w' :=
  order_any (tos_ok hok) (frs_ok hok) (flip_E hok) hn (Nat.le_trans (tos_sum n E) hE) (.inr ⟨h.gr, tos_len n E, frs_len n E⟩) fun _ => h.has
theorem parts_E {K n : Nat} {w : World} {G : Gb} {E : List (Nat × Nat)} (hok : EOk n E) (hn : n ≤ 100000) (h : GrE K w G n E) :
    Calls Try.prog 16 #[G.pv] w fun e w' => ∃ v vs L, e = .returned v ∧ RR w.heap.size w' v vs L ∧ PartsR n (tos n E) L ∧ Below w.heap.size w w' :=
  parts_any (tos_ok hok) hn (.inr ⟨h.gr, tos_len n E, frs_len n E⟩) fun _ => h.has
theorem round_E {K n x : Nat} {w : World} {G : Gb} {E : List (Nat × Nat)} (hok : EOk n E) (hn : n ≤ 100000) (hx : x < n) (h : GrE K w G n E) :
    Calls Try.prog 12 #[G.pv, .int .i64 (x : Int)] w fun e w' => ∃ (v : Value) (ring : List Nat) (f : Nat → Int), e = .returned v ∧ IR w.heap.size w' v ring ∧ Dist n (adjE E) x f ∧ RoundR n (adjE E) f x ring ∧ Below w.heap.size w w' :=
  round_any hok hn hx h.gr h.has
theorem new_E {w : World} (x : Int) (n : Nat) (hn : (n : Int) = min (max x 0) 10000) : Calls Try.prog 14 #[.int .i64 x] w fun e w' => ∃ G, e = .returned G.pv ∧ GrE w.heap.size w' G n [] ∧ Below w.heap.size w w' := new_any x n hn
set_option maxHeartbeats 4000000 in
set_option maxRecDepth 100000 in
theorem awake_any (w : World) : Calls Try.prog 9 #[] w fun e w' => e = .returned (.bool true) ∧ Below w.heap.size w w' := by
  have C0 := Lib.hid (new_E (w := w) 3 3 (by decide))
  go_enter Try.func9, Try.ntmps9
  go_wp2_with fail
  refine C0.out.mono ?_
  rintro e w1 ⟨G0, rfl, hG1, hB1⟩
  obtain ⟨p, hp0⟩ : ∃ p, G0.pv = .pointer (some p) := ⟨_, hG1.gr.ptr⟩
  have HP1 := Lib.hid hp0
  have HG1 := Lib.hid hG1
  have HB1 := Lib.hid hB1
  have C2 := edge_E (by decide) hG1 0 1
  rw [hp0] at C2 ⊢
  have C2 := Lib.hid C2
  clear hp0 hG1 hB1 C0
  go_wp2_with fail
  refine (C2.out).mono ?_
  rintro e w2 ⟨rfl, ⟨G2, hp2, hG2, _⟩, _, hB2⟩
  have HP2 := Lib.hid hp2
  have HG2 := Lib.hid hG2
  have HB2 := Lib.hid (HB1.out.trans hB2)
  clear hp2 hG2 hB2 C2
  have C3 := edge_E (by decide) HG2.out 1 0
  rw [HP2.out] at C3
  have C3 := Lib.hid C3
  rw [show okE 3 [] 0 1 = true by decide]
  go_wp2_with fail
  refine (C3.out).mono ?_
  rintro e w3 ⟨rfl, ⟨G3, hp3, hG3, _⟩, _, hB3⟩
  have HP3 := Lib.hid hp3
  have HG3 := Lib.hid hG3
  have HB3 := Lib.hid (HB2.out.trans hB3)
  clear hp3 hG3 hB3 C3
  have C4 := edge_E (by decide) HG3.out 1 2
  rw [HP3.out] at C4
  have C4 := Lib.hid C4
  rw [show okE 3 (addE 3 [] 0 1) 1 0 = true by decide]
  go_wp2_with fail
  refine (C4.out).mono ?_
  rintro e w4 ⟨rfl, ⟨G4, hp4, hG4, _⟩, _, hB4⟩
  have HP4 := Lib.hid hp4
  have HG4 := Lib.hid hG4
  have HB4 := Lib.hid (HB3.out.trans hB4)
  clear hp4 hG4 hB4 C4
  have C5 := edge_E (by decide) HG4.out 1 2
  rw [HP4.out] at C5
  have C5 := Lib.hid C5
  rw [show okE 3 (addE 3 (addE 3 [] 0 1) 1 0) 1 2 = true by decide]
  go_wp2_with fail
  refine (C5.out).mono ?_
  rintro e w5 ⟨rfl, ⟨G5, hp5, hG5, _⟩, _, hB5⟩
  have HP5 := Lib.hid hp5
  have HG5 := Lib.hid hG5
  have HB5 := Lib.hid (HB4.out.trans hB5)
  clear hp5 hG5 hB5 C5
  rw [show addE 3 (addE 3 (addE 3 (addE 3 [] 0 1) 1 0) 1 2) 1 2 = E3 by decide] at HG5
  rw [show okE 3 (addE 3 (addE 3 (addE 3 [] 0 1) 1 0) 1 2) 1 2 = false by decide]
  have C6 := order_E E3_ok (by decide) (by decide) HG5.out
  rw [HP5.out] at C6
  have C6 := Lib.hid C6
  have hs5 : w.heap.size ≤ w5.heap.size := HB5.out.size
  clear HP1 HP2 HP3 HP4 HG1 HG2 HG3 HG4 HB1 HB2 HB3 HB4
  go_wp2_with fail
  refine C6.out.mono ?_
  rintro e w6 ⟨v6, L, O, rfl, hL, hO, hI6, hb6⟩
  have hL3 := parts3 hL
  subst hL3
  have hO3 := order3 hO
  subst hO3
  have HB6 := Lib.hid (HB5.out.trans (hb6.mono hs5))
  have HG6 := Lib.hid (HG5.out.below hb6)
  have HI6 : Hid (IR w5.heap.size w6 v6 [2, 0, 1]) := hI6
  have hs6 : w5.heap.size ≤ w6.heap.size := hb6.size
  obtain ⟨a6, c6, rfl, _⟩ := hI6.slice
  clear hI6 hL hO hb6 C6
  go_wp2_with fail
  refine Calls.mono (same_any (l := [2, 0, 1]) (m := [2, 0, 1]) ?_ ?_) ?_
  · exact (HI6.out.below (below_alloc w6 _ _ (Nat.le_refl _))).base (Nat.zero_le _)
  · exact IR.new (B := 0) (w := w6) [2, 0, 1] (Nat.zero_le _) (by decide)
  rintro e w7 ⟨rfl, hb7⟩
  have hs7 : w6.heap.size < w7.heap.size := by have := hb7.size; simp at this; omega
  have HB67 : Hid (Below w6.heap.size w6 w7) := (below_alloc w6 _ _ (Nat.le_refl _)).trans (hb7.mono (by simp))
  have HG7 := Lib.hid (HG6.out.below HB67.out)
  have HB7 := Lib.hid (HB6.out.trans (HB67.out.mono (by omega)))
  have C7 := round_E (x := 0) E3_ok (by decide) (by decide) HG7.out
  rw [HP5.out] at C7
  have C7 := Lib.hid C7
  rw [show decide (([2, 0, 1] : List Nat) = [2, 0, 1]) = true by simp]
  clear hb7 HB67 HI6 HG6 HB6
  go_wp2_with fail
  refine C7.out.mono ?_
  rintro e w8 ⟨v8, ring, f, rfl, hI8, hD, hR, hb8⟩
  have hr3 := round3 hD hR
  subst hr3
  have hs8 : w7.heap.size ≤ w8.heap.size := hb8.size
  have HG8 := Lib.hid (HG7.out.below hb8)
  have HB8 := Lib.hid (HB7.out.trans (hb8.mono (by omega)))
  have HI8 := Lib.hid hI8
  obtain ⟨a8, c8, rfl, _⟩ := hI8.slice
  clear hI8 hD hR hb8 C7
  go_wp2_with fail
  refine Calls.mono (same_any (l := [0, 1]) (m := [0, 1]) ?_ ?_) ?_
  · exact (HI8.out.below (below_alloc w8 _ _ (Nat.le_refl _))).base (Nat.zero_le _)
  · exact IR.new (B := 0) (w := w8) [0, 1] (Nat.zero_le _) (by decide)
  rintro e w9 ⟨rfl, hb9⟩
  have hs9 : w8.heap.size < w9.heap.size := by have := hb9.size; simp at this; omega
  have HB89 : Hid (Below w8.heap.size w8 w9) := (below_alloc w8 _ _ (Nat.le_refl _)).trans (hb9.mono (by simp))
  have HG9 := Lib.hid (HG8.out.below HB89.out)
  have HB9 := Lib.hid (HB8.out.trans (HB89.out.mono (by omega)))
  have C9 := parts_E E3_ok (by decide) HG9.out
  rw [HP5.out] at C9
  have C9 := Lib.hid C9
  rw [show decide (([0, 1] : List Nat) = [0, 1]) = true by simp]
  clear hb9 HB89 HI8 HG8 HB8
  go_wp2_with fail
  refine C9.out.mono ?_
  rintro e w10 ⟨v10, vs, L, rfl, hR10, hL, hb10⟩
  have hL3 := parts3 hL
  subst hL3
  obtain ⟨a10, c10, e, _⟩ := hR10.slice
  subst e
  have HB10 := Lib.hid (HB9.out.trans (hb10.mono (by omega)))
  clear hR10 hL hb10 C9
  go_wp2_with fail
  go_ret
  exact ⟨rfl, HB10.out⟩
end Go.Proofs.Ytcjohhminiedfaa
