/- Cycle: ref.Reach. -/
import Derived.Test.YtcjohhminiedfaaQC21RFrom
import Derived.Test.YtcjohhminiedfaaQC21TurnedP
namespace Go.Proofs.Ytcjohhminiedfaa
open Go.RowKit
/-- Truths told place by place. -/
def TB (n : Nat) (P : Nat → Prop) (L : List Bool) : Prop := L.length = n ∧ ∀ (y : Nat) (v : Bool), L[y]? = some v → (v = true ↔ P y)
theorem TB.get {n : Nat} {P : Nat → Prop} {L : List Bool} (h : TB n P L) {y : Nat} (hy : y < n) : ∃ v, L[y]? = some v ∧ (v = true ↔ P y) := by
  have hl : y < L.length := by rw [h.1]; exact hy
  exact ⟨L[y], List.getElem?_eq_getElem hl, h.2 y _ (List.getElem?_eq_getElem hl)⟩
theorem TB.lt {n : Nat} {P : Nat → Prop} {L : List Bool} (h : TB n P L) {y : Nat} {v : Bool} (hy : L[y]? = some v) : y < n := by
  rw [← h.1]
  exact (List.getElem?_eq_some_iff.1 hy).1
theorem TB.congr {n : Nat} {P P' : Nat → Prop} {L : List Bool} (h : TB n P L) (hp : ∀ y, y < n → (P y ↔ P' y)) : TB n P' L := ⟨h.1, fun y v hy => (h.2 y v hy).trans (hp y (h.lt hy))⟩
theorem TB.start (n : Nat) : TB n (fun _ => False) (List.replicate n false) := by
  refine ⟨by simp, fun y v hy => ?_⟩
  rw [List.getElem?_replicate] at hy
  split at hy
  · cases hy
    simp
  · cases hy
theorem TB.set {n : Nat} {P P' : Nat → Prop} {L : List Bool} (h : TB n P L) {x : Nat} {v : Bool} (hv : v = true ↔ P' x) (ho : ∀ y, y ≠ x → (P y ↔ P' y)) : TB n P' (L.set x v) := by
  refine ⟨by rw [List.length_set]; exact h.1, fun y u hy => ?_⟩
  rw [List.getElem?_set] at hy
  by_cases e : x = y
  · subst e
    rw [if_pos rfl] at hy
    split at hy
    · cases hy
      exact hv
    · cases hy
  · rw [if_neg e] at hy
    exact (h.2 y u hy).trans (ho y (Ne.symm e))
theorem TB.cm {n : Nat} {l : List Nat} {P : Nat → Prop} (h : ∀ y, y ∈ l ↔ P y) : TB n P (cmL n l) := by
  refine ⟨cmL_len n l, fun y v hy => ?_⟩
  have hyn : y < n := by
    have := (List.getElem?_eq_some_iff.1 hy).1
    rw [cmL_len] at this
    exact this
  rw [cmL_at l hyn] at hy
  cases hy
  rw [← h y]
  simp
/-- A rising row of those below k that are P. -/
def UpTo (P : Nat → Prop) (k : Nat) (r : List Nat) : Prop := r.Pairwise (· < ·) ∧ ∀ y, y ∈ r ↔ y < k ∧ P y
theorem UpTo.start (P : Nat → Prop) : UpTo P 0 [] := ⟨List.Pairwise.nil, fun y => by simp⟩
theorem UpTo.skip {P : Nat → Prop} {k : Nat} {r : List Nat} (h : UpTo P k r) (hk : ¬ P k) : UpTo P (k + 1) r := by
  refine ⟨h.1, fun y => (h.2 y).trans ?_⟩
  constructor
  · exact fun ⟨h1, h2⟩ => ⟨by omega, h2⟩
  · rintro ⟨h1, h2⟩
    by_cases e : y = k
    · subst e
      exact absurd h2 hk
    · exact ⟨by omega, h2⟩
theorem UpTo.push {P : Nat → Prop} {k : Nat} {r : List Nat} (h : UpTo P k r) (hk : P k) : UpTo P (k + 1) (r ++ [k]) := by
  refine ⟨List.pairwise_append.2 ⟨h.1, by simp, fun a ha b hb => ?_⟩, fun y => ?_⟩
  · rw [List.mem_singleton.1 hb]
    exact ((h.2 a).1 ha).1
  · rw [List.mem_append, List.mem_singleton, h.2]
    constructor
    · rintro (⟨h1, h2⟩ | rfl)
      · exact ⟨by omega, h2⟩
      · exact ⟨by omega, hk⟩
    · rintro ⟨h1, h2⟩
      by_cases e : y = k
      · exact .inr e
      · exact .inl ⟨by omega, h2⟩
theorem UpTo.len {P : Nat → Prop} {k : Nat} {r : List Nat} (h : UpTo P k r) : r.length ≤ k := by
  have hn : r.Nodup := h.1.imp fun h e => by omega
  have := hn.length_le_of_subset (l₂ := List.range k) fun j hj => List.mem_range.2 ((h.2 j).1 hj).1
  rw [List.length_range] at this
  exact this
theorem nodesI_snoc {n i : Nat} {S : List Int} {x : Int} (hx : S[i]? = some x) (y : Nat) : y ∈ nodesI n (S.take (i + 1)) ↔ y ∈ nodesI n (S.take i) ∨ (y < n ∧ x = (y : Int)) := by
  rw [mem_nodesI, mem_nodesI, List.take_add_one, hx]
  simp only [Option.toList_some, List.mem_append, List.mem_singleton]
  constructor
  · rintro ⟨h1, h2 | h2⟩
    · exact .inl ⟨h1, h2⟩
    · exact .inr ⟨h1, h2.symm⟩
  · rintro (⟨h1, h2⟩ | ⟨h1, h2⟩)
    · exact ⟨h1, .inl h2⟩
    · exact ⟨h1, .inr h2.symm⟩
set_option maxHeartbeats 4000000 in
set_option maxRecDepth 100000 in
theorem rreach_any {w : World} {a : Option Addr} {n cap : Nat} {E : List (Nat × Nat)} {S : List Int} {sv : Value} (hn : n ≤ 10000) (hok : EOk n E) (hM : MxA w a n (adjE E)) (hS : RdI w sv S) :
    Calls Try.prog 19 #[.agg #[.slice a n cap], sv] w fun e w' => ∃ v r, e = .returned v ∧ IR w.heap.size w' v r ∧ ReachR n (tos n E) S r ∧ Below w.heap.size w w' := by
  have HMX := Lib.hid hM
  have HOK := Lib.hid hok
  obtain ⟨hSm, sa, sc, rfl, hSr⟩ := hS
  have HSR := Lib.hid hSr
  obtain ⟨m, hm⟩ : ∃ m, S.length = m := ⟨_, rfl⟩
  have HM := Lib.hid hm
  rw [hm] at hSm ⊢
  unfold maxLen at hSm
  obtain ⟨K, hK⟩ : ∃ K, w.heap.size = K := ⟨_, rfl⟩
  have HK := Lib.hid hK
  have MK := mk4 n (by omega)
  clear hM hok hK hSr hm
  go_enter Try.func19, Try.ntmps19
  go_upto_region 2 with fail
  refine abs_world ?_
  intro W1 hW1
  have HC1 : Hid (W1.heap[K]? = some (.cells #[.slice a n cap] 27) ∧ Below K w W1) := by
    rw [hW1, ← HK.out]
    exact ⟨heap_alloc_old (heap_alloc_new w _) _, (below_alloc w _ _ (Nat.le_refl _)).alloc (by simp) _⟩
  have HO1 : Hid (BM W1 (K + 1) (List.replicate n false)) := by
    unfold Hid BM bvs
    rw [hW1, List.map_replicate, ← List.toArray_replicate]
    exact heap_alloc_at (by simp; exact HK.out.symm) _
  have HT1 : Hid (TB n (fun y => ∃ s ∈ nodesI n (S.take 0), Rch (tos n E) s y) (List.replicate n false)) := (TB.start n).congr fun y _ => by simp [nodesI]
  rw [HK.out]
  clear hW1 MK
  go_wp2_with fail
  go_loopg [6] m (fun g s6 wr => ∃ (i : Nat) (AL : List Bool), s6 = .int .i64 (i : Int) ∧ g = m - i ∧ i ≤ m ∧ Hid (TB n (fun y => ∃ s ∈ nodesI n (S.take i), Rch (tos n E) s y) AL) ∧ Hid (BM wr (K + 1) AL) ∧ Hid (wr.heap[K]? = some (.cells #[.slice a n cap] 27) ∧ Below K w wr))
  case atStart => exact ⟨0, _, rfl, rfl, Nat.zero_le _, HT1, HO1, HC1⟩
  case round =>
    clear HT1 HO1 HC1
    obtain ⟨i, AL, rfl, rfl, hi, hT, hO, hC⟩ := hrel
    by_cases hlt : i < m
    · obtain ⟨x, hx⟩ : ∃ x, S[i]? = some x := ⟨_, List.getElem?_eq_getElem (by rw [HM.out]; exact hlt)⟩
      obtain ⟨g, off, rfl, zg, cg⟩ := HSR.out i x hx
      have HX := Lib.hid hx
      have zg2 := Nat.lt_of_lt_of_le zg hC.out.2.size
      have cg2 := (hC.out.2.cell (p := ⟨g, off + i, none⟩) (by rw [← HK.out]; exact zg)).trans cg
      have m1 := cell_of_heap hC.out.1 0
      have m2 := lt_of_heap hC.out.1
      have i1 : (0 : Int) ≤ (i : Int) := by omega
      have i2 : (i : Int) < (m : Int) := by omega
      have C5 := Lib.hid (rhas_any (w := wr.drew) a n cap x)
      clear hx cg
      go_wp2_with fail
      refine wp_region_mix [0, 1, 2, 3, 4] [5] [5] (Below wr.heap.size wr) (by kernel_rfl) (by kernel_rfl) (Below.refl _ _).drew ?_
      iterate 5 (first | (apply first_step; (rw [List.getElem?_toArray]; (repeat rw [List.getElem?_cons_succ]); rw [List.getElem?_cons_zero]); rfl; (intro W hB; have hc := bcellB hB; go_simp; (first | done | rfl)); go_frame) | (apply first_skip; (rw [List.getElem?_toArray]; (repeat rw [List.getElem?_cons_succ]); rw [List.getElem?_cons_zero]); rfl; go_frame))
      refine first_done ?_
      apply tail_step; (rw [List.getElem?_toArray]; (repeat rw [List.getElem?_cons_succ]); rw [List.getElem?_cons_zero]); rfl; rfl; intro K' hK; go_simp
      refine C5.out.mono ?_
      rintro e w5 ⟨rfl, hb5⟩
      refine hK _ _ (fun h => absurd (by decide) h) ?_
      clear hK K'
      have hb5' : Below wr.heap.size wr w5 := (Below.refl _ wr).drew.trans hb5
      have HC5 : Hid (w5.heap[K]? = some (.cells #[.slice a n cap] 27) ∧ Below K w w5) := ⟨(hb5'.block K m2).trans hC.out.1, hC.out.2.trans (hb5'.mono (Nat.le_of_lt m2))⟩
      have HO5 : Hid (BM w5 (K + 1) AL) := hO.out.keep (hb5'.block _ (lt_of_heap hO.out))
      refine tail_done ?_
      clear hb5 hb5' C5 cg2 zg2 m1 m2 hC hO
      by_cases hxn : 0 ≤ x ∧ x < (n : Int)
      · obtain ⟨s, rfl⟩ : ∃ s : Nat, x = (s : Int) := ⟨x.toNat, by omega⟩
        have hsn : s < n := by omega
        have bx : decide (0 ≤ (s : Int) ∧ (s : Int) < (n : Int)) = true := by simpa using hxn
        have zg2 := Nat.lt_of_lt_of_le zg HC5.out.2.size
        have cg2 := (HC5.out.2.cell (p := ⟨g, off + i, none⟩) (by rw [← HK.out]; exact zg)).trans (by
          obtain ⟨g', off', e, _, h⟩ := HSR.out i _ HX.out
          injection e with e
          injection e with e1 e2 _
          subst e1 e2
          exact h)
        have m1 := cell_of_heap HC5.out.1 0
        have m2 := lt_of_heap HC5.out.1
        have C6 := Lib.hid (rfrom_any (w := w5.drew) (cap := cap) hn HOK.out hsn (HMX.out.below (by rw [HK.out]; exact HC5.out.2.drew)))
        rw [bx]
        clear hxn bx
        go_wp2_with fail
        refine wp_region_mix [0, 1, 2, 3, 4] [5, 6] [5, 6] (Below w5.heap.size w5) (by kernel_rfl) (by kernel_rfl) (Below.refl _ _).drew ?_
        iterate 5 (first | (apply first_step; (rw [List.getElem?_toArray]; (repeat rw [List.getElem?_cons_succ]); rw [List.getElem?_cons_zero]); rfl; (intro W hB; have hc := bcellB hB; go_simp; (first | done | rfl)); go_frame) | (apply first_skip; (rw [List.getElem?_toArray]; (repeat rw [List.getElem?_cons_succ]); rw [List.getElem?_cons_zero]); rfl; go_frame))
        refine first_done ?_
        apply tail_step; (rw [List.getElem?_toArray]; (repeat rw [List.getElem?_cons_succ]); rw [List.getElem?_cons_zero]); rfl; rfl; intro K' hK; go_simp
        refine C6.out.mono ?_
        rintro e w6 ⟨b7, ls, rfl, hb7, hL7, hls, hb6⟩
        refine hK _ _ (fun h => absurd (by decide) h) ?_
        clear hK K'
        have hb6' : Below w5.heap.size w5 w6 := (Below.refl _ w5).drew.trans hb6
        have HC6 : Hid (w6.heap[K]? = some (.cells #[.slice a n cap] 27) ∧ Below K w w6) := ⟨(hb6'.block K m2).trans HC5.out.1, HC5.out.2.trans (hb6'.mono (Nat.le_of_lt m2))⟩
        have HO6 : Hid (BM w6 (K + 1) AL) := HO5.out.keep (hb6'.block _ (lt_of_heap HO5.out))
        have HL6 := Lib.hid hL7
        have HLS := Lib.hid (TB.cm (n := n) hls)
        have hb7n : b7 ≠ K + 1 := by
          have h1 := lt_of_heap HO5.out
          have h2 : w5.heap.size ≤ b7 := hb7
          omega
        (apply tail_step; (rw [List.getElem?_toArray]; (repeat rw [List.getElem?_cons_succ]); rw [List.getElem?_cons_zero]); rfl; rfl; intro K hK; go_simp; refine hK _ _ (fun h => absurd (by decide) h) ?_; clear hK K)
        refine tail_done ?_
        have HT0 : Hid (TB n (fun y => (∃ s ∈ nodesI n (S.take i), Rch (tos n E) s y) ∨ (y < 0 ∧ Rch (tos n E) s y)) AL) := hT.out.congr fun y _ => by simp
        clear hb7 hL7 hls hb6 hb6' C6 cg2 zg2 m1 m2 HC5 HO5 hT
        go_wp2_with fail
        go_loopg [8] n (fun g s8 wr => ∃ (k : Nat) (AL : List Bool), s8 = .int .i64 (k : Int) ∧ g = n - k ∧ k ≤ n ∧ Hid (TB n (fun y => (∃ s ∈ nodesI n (S.take i), Rch (tos n E) s y) ∨ (y < k ∧ Rch (tos n E) s y)) AL) ∧ Hid (BM wr (K + 1) AL) ∧ Hid (BM wr b7 (cmL n ls)) ∧ Hid (wr.heap[K]? = some (.cells #[.slice a n cap] 27) ∧ Below K w wr))
        case atStart => exact ⟨0, AL, rfl, rfl, Nat.zero_le _, HT0, HO6, HL6, HC6⟩
        case round =>
          clear HT0 HO6 HL6 HC6 AL
          obtain ⟨k, AL, rfl, rfl, hk, hT, hO, hL, hC⟩ := hrel
          by_cases hlt2 : k < n
          · obtain ⟨va, ha1, ha2⟩ := hT.out.get hlt2
            obtain ⟨vs, hs1, hs2⟩ := HLS.out.get hlt2
            have c1 := bcell hO.out ha1
            have c2 := bcell hL.out hs1
            have y1 := frozen_of_heap hO.out k
            have z1 := lt_of_heap hO.out
            have z2 := lt_of_heap hL.out
            have i3 : (0 : Int) ≤ (k : Int) := by omega
            have i4 : (k : Int) < (n : Int) := by omega
            cases va with
            | true =>
              have HT2 : Hid (TB n (fun y => (∃ s ∈ nodesI n (S.take i), Rch (tos n E) s y) ∨ (y < k + 1 ∧ Rch (tos n E) s y)) (AL.set k true)) := hT.out.set ⟨fun _ => (ha2.1 rfl).elim .inl fun h => absurd h.1 (Nat.lt_irrefl k), fun _ => rfl⟩ fun y hy => by
                constructor
                · rintro (h | ⟨h1, h2⟩)
                  · exact .inl h
                  · exact .inr ⟨by omega, h2⟩
                · rintro (h | ⟨h1, h2⟩)
                  · exact .inl h
                  · exact .inr ⟨by omega, h2⟩
              have HO2 : Hid (BM (wr.setCell ⟨K + 1, k, none⟩ (.bool true)) (K + 1) (AL.set k true)) := bput hO.out k _
              have HL2 : Hid (BM (wr.setCell ⟨K + 1, k, none⟩ (.bool true)) b7 (cmL n ls)) := hL.out.keep (set_other b7 (by show b7 ≠ K + 1; omega))
              have HC2 : Hid ((wr.setCell ⟨K + 1, k, none⟩ (.bool true)).heap[K]? = some (.cells #[.slice a n cap] 27) ∧ Below K w (wr.setCell ⟨K + 1, k, none⟩ (.bool true))) := ⟨(set_other K (by simp)).trans hC.out.1, hC.out.2.setCell (p := ⟨K + 1, k, none⟩) (Nat.le_succ K) _⟩
              clear hT hO hL hC ha1 ha2 hs1
              go_wp2_with fail
              clear c1 c2 y1 z1 z2
              go_roundg (n - (k + 1))
              case measure => omega
              case rel => exact ⟨k + 1, _, by go_num, rfl, by omega, HT2, HO2, HL2, HC2⟩
            | false =>
              have HT2 : Hid (TB n (fun y => (∃ s ∈ nodesI n (S.take i), Rch (tos n E) s y) ∨ (y < k + 1 ∧ Rch (tos n E) s y)) (AL.set k vs)) := hT.out.set ⟨fun h => .inr ⟨Nat.lt_succ_self k, hs2.1 h⟩, fun h => h.elim (fun h => absurd (ha2.2 (.inl h)) (by simp)) fun h => hs2.2 h.2⟩ fun y hy => by
                constructor
                · rintro (h | ⟨h1, h2⟩)
                  · exact .inl h
                  · exact .inr ⟨by omega, h2⟩
                · rintro (h | ⟨h1, h2⟩)
                  · exact .inl h
                  · exact .inr ⟨by omega, h2⟩
              have HO2 : Hid (BM (wr.setCell ⟨K + 1, k, none⟩ (.bool vs)) (K + 1) (AL.set k vs)) := bput hO.out k _
              have HL2 : Hid (BM (wr.setCell ⟨K + 1, k, none⟩ (.bool vs)) b7 (cmL n ls)) := hL.out.keep (set_other b7 (by show b7 ≠ K + 1; omega))
              have HC2 : Hid ((wr.setCell ⟨K + 1, k, none⟩ (.bool vs)).heap[K]? = some (.cells #[.slice a n cap] 27) ∧ Below K w (wr.setCell ⟨K + 1, k, none⟩ (.bool vs))) := ⟨(set_other K (by simp)).trans hC.out.1, hC.out.2.setCell (p := ⟨K + 1, k, none⟩) (Nat.le_succ K) _⟩
              clear hT hO hL hC ha1 ha2 hs1
              go_wp2_with fail
              clear c1 c2 y1 z1 z2
              go_roundg (n - (k + 1))
              case measure => omega
              case rel => exact ⟨k + 1, _, by go_num, rfl, by omega, HT2, HO2, HL2, HC2⟩
          · have HT2 : Hid (TB n (fun y => ∃ s ∈ nodesI n (S.take (i + 1)), Rch (tos n E) s y) AL) := hT.out.congr fun y hy => by
              constructor
              · rintro (⟨u, hu, h⟩ | ⟨_, h⟩)
                · exact ⟨u, (nodesI_snoc HX.out u).2 (.inl hu), h⟩
                · exact ⟨s, (nodesI_snoc HX.out s).2 (.inr ⟨hsn, rfl⟩), h⟩
              · rintro ⟨u, hu, h⟩
                rcases (nodesI_snoc HX.out u).1 hu with h1 | ⟨_, h1⟩
                · exact .inl ⟨u, h1, h⟩
                · have : u = s := by omega
                  rw [this] at h
                  exact .inr ⟨by omega, h⟩
            clear hT hL
            go_wp2_with fail
            go_roundg (m - (i + 1))
            case measure => omega
            case rel => exact ⟨i + 1, AL, by go_num, rfl, by omega, HT2, hO, hC⟩
      · have bx : decide (0 ≤ x ∧ x < (n : Int)) = false := by simpa using hxn
        have HT2 : Hid (TB n (fun y => ∃ s ∈ nodesI n (S.take (i + 1)), Rch (tos n E) s y) AL) := hT.out.congr fun y hy => by
          constructor
          · rintro ⟨u, hu, h⟩
            exact ⟨u, (nodesI_snoc HX.out u).2 (.inl hu), h⟩
          · rintro ⟨u, hu, h⟩
            rcases (nodesI_snoc HX.out u).1 hu with h1 | ⟨h0, h1⟩
            · exact ⟨u, h1, h⟩
            · exact absurd ⟨by omega, by omega⟩ hxn
        rw [bx]
        clear hT bx hxn
        go_wp2_with fail
        go_roundg (m - (i + 1))
        case measure => omega
        case rel => exact ⟨i + 1, AL, by go_num, rfl, by omega, HT2, HO5, HC5⟩
    · have HTm : Hid (TB n (fun y => ∃ s ∈ nodesI n S, Rch (tos n E) s y) AL) := by
        have h1 := hT.out
        rw [List.take_of_length_le (by rw [HM.out]; omega)] at h1
        exact h1
      clear hT
      go_upto_region 12 with fail
      refine abs_world ?_
      intro W3 hW3
      obtain ⟨R, hR⟩ : ∃ R, wr.heap.size = R := ⟨_, rfl⟩
      have hw3 : Below wr.heap.size wr W3 := by
        rw [hW3]
        exact below_alloc wr _ _ (Nat.le_refl _)
      have HI3 : Hid (IR R W3 (.slice (some ⟨R, 0, none⟩) 0 0) []) := by
        rw [hW3, ← hR]
        exact IR.new (w := wr) [] (Nat.le_refl _) (by simp)
      have HO3 : Hid (BM W3 (K + 1) AL) := hO.out.keep (hw3.block _ (lt_of_heap hO.out))
      have HB3 : Hid (Below K w W3) := hC.out.2.trans (hw3.mono (Nat.le_of_lt (lt_of_heap hC.out.1)))
      have hKR : K + 1 < R := by rw [← hR]; exact lt_of_heap hO.out
      have hRz : R ≤ W3.heap.size := by rw [← hR]; exact hw3.size
      rw [hR]
      clear hW3 hw3 hR hO hC
      go_wp2_with fail
      go_loopg [9, 10] n (fun g s9 s10 wr => ∃ (k : Nat) (r : List Nat), s10 = .int .i64 (k : Int) ∧ g = n - k ∧ k ≤ n ∧ Hid (UpTo (fun y => ∃ s ∈ nodesI n S, Rch (tos n E) s y) k r) ∧ Hid (IR R wr s9 r) ∧ Hid (BM wr (K + 1) AL) ∧ Hid (Below K w wr) ∧ R ≤ wr.heap.size)
      case atStart => exact ⟨0, [], rfl, rfl, Nat.zero_le _, UpTo.start _, HI3, HO3, HB3, hRz⟩
      case round =>
        clear HI3 HO3 HB3 hRz
        obtain ⟨k, r, rfl, rfl, hk, hU, hI, hO, hB, hRz⟩ := hrel
        obtain ⟨la, lc, e⟩ := hI.out.shape
        subst e
        by_cases hlt2 : k < n
        · obtain ⟨va, ha1, ha2⟩ := HTm.out.get hlt2
          have c1 := bcell hO.out ha1
          have z1 := lt_of_heap hO.out
          have i3 : (0 : Int) ≤ (k : Int) := by omega
          have i4 : (k : Int) < (n : Int) := by omega
          cases va with
          | true =>
            have hU2 := Lib.hid (hU.out.push (ha2.1 rfl))
            have hrl := hU.out.len
            obtain ⟨q, hq⟩ : ∃ q, r.length = q := ⟨_, rfl⟩
            have HQ := Lib.hid hq
            have HROW : Hid (wr.ownsRow R 3 1 (.slice la q lc) q (r.map iv)) := by
              have h1 := hI.out
              unfold IR at h1
              rw [hq] at h1
              exact h1
            rw [hq] at hrl ⊢
            obtain ⟨i0, hi0, hz0, hz1, hz2⟩ := info_parts info3
            have HI0 := Lib.hid (⟨hi0, hz0, hz1, hz2⟩ : _ ∧ _ ∧ _ ∧ _)
            have PU : Hid (∀ (v' : Value) (w' : World), w'.ownsRow R 3 1 v' (q + 1) (r.map iv ++ [iv k]) → (wr.alloc (.cells #[.int .i64 (k : Int)] 3)).grownBy w' (Value.slice la q lc).ownBlock → IR R w' v' (r ++ [k]) ∧ BM w' (K + 1) AL ∧ Below K w w' ∧ R ≤ w'.heap.size) := fun v' w' h1 h2 => by
              have hb : Below R wr w' := (below_alloc wr _ _ hRz).trans ⟨h2.os, h2.tape, h2.output, h2.size, fun j hj => h2.block j (by simp; omega) fun e => by
                have := (World.ownsRow.lt HROW.out j e.symm).1
                omega⟩
              exact ⟨IR.pushed (by rw [HQ.out]; exact h1), hO.out.keep (hb.block _ hKR), hB.out.trans (hb.mono (by omega)), Nat.le_trans hRz hb.size⟩
            clear hi0 hz0 hz1 hz2 hq ha1 ha2 hU hI hO hB
            go_upto_region 14 with (at_builtin; refine wpList_append_own_at _ rfl _ _ 31 rfl R 3 i0 (.int .i64 0) 1 8 Try.underlying31 HI0.out.1 HI0.out.2.1 HI0.out.2.2.1 HI0.out.2.2.2 rfl (by decide) (.slice la q lc) q (r.map iv) rfl (World.ownsRow.alloc HROW.out _) ⟨wr.heap.size, 0, none⟩ 1 1 [iv k] rfl rfl (cells_new _ #[.int .i64 (k : Int)] 3) (by simp [iv, Value.oneCell']) (by unfold maxLen; omega) (by omega) (by simp; omega) ?_; intro v9 w9 hown hgrow _ _; obtain ⟨va, vc, rfl, _⟩ := own_slice hown; obtain ⟨p1, p2, p3, p4⟩ := PU.out _ w9 hown hgrow; have P1 := Lib.hid p1; have P2 := Lib.hid p2; have P3 := Lib.hid p3; clear hown hgrow p1 p2 p3)
            clear c1 z1
            go_wp2_with fail
            go_roundg (n - (k + 1))
            case measure => omega
            case rel => exact ⟨k + 1, _, by go_num, rfl, by omega, hU2, P1, P2, P3, p4⟩
          | false =>
            have hU2 := Lib.hid (hU.out.skip fun h => by
              have := ha2.2 h
              cases this)
            clear ha1 ha2 hU
            go_wp2_with fail
            clear c1 z1
            go_roundg (n - (k + 1))
            case measure => omega
            case rel => exact ⟨k + 1, r, by go_num, rfl, by omega, hU2, hI, hO, hB, hRz⟩
        · have HRR : Hid (ReachR n (tos n E) S r) := by
            refine ⟨hU.out.1, fun y => (hU.out.2 y).trans ⟨fun h => h.2, fun h => ⟨?_, h⟩⟩⟩
            obtain ⟨s, hs, hr⟩ := h
            have := rch_lt (tos_ok HOK.out) (mem_nodesI.1 hs).1 hr
            omega
          obtain ⟨q, hq⟩ : ∃ q, r.length = q := ⟨_, rfl⟩
          rw [hq] at hI ⊢
          clear hU hO
          go_wp2_with fail
          refine bodyPost_ret (v := .slice la q lc) (by simp [results, Try.results19, go_sem]) rfl ⟨_, r, rfl, by rw [HK.out]; exact hI.out.base (by omega), HRR.out, by rw [HK.out]; exact hB.out⟩
end Go.Proofs.Ytcjohhminiedfaa
