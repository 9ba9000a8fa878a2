/- Cycle: the document's order, plain. -/
import Derived.Test.YtcjohhminiedfaaQC21RReady
namespace Go.Proofs.Ytcjohhminiedfaa
/-- The order so far. -/
structure OPre (T L : List (List Nat)) (O : List Nat) : Prop where
  nod : O.Nodup
  lt : ∀ i ∈ O, i < L.length
  ord : ∀ A i B, O = A ++ i :: B → rem T L A i = 0 ∧ ∀ j, j < i → j ∉ A → rem T L A j ≠ 0
/-- The nodes of these parts. -/
def flat (L : List (List Nat)) (O : List Nat) : List Nat := O.flatMap fun i => L.getD i []
theorem flat_push (L : List (List Nat)) (O : List Nat) (i : Nat) : flat L (O ++ [i]) = flat L O ++ L.getD i [] := by
  unfold flat
  rw [List.flatMap_append]
  simp
section
variable {n : Nat} {T L : List (List Nat)} {O : List Nat}
theorem OPre.start (T L : List (List Nat)) : OPre T L [] := ⟨List.nodup_nil, fun i hi => (by cases hi), fun A i B e => by simp at e⟩
theorem OPre.push (h : OPre T L O) {i : Nat} (hi : i ∉ O) (hl : i < L.length) (h0 : rem T L O i = 0) (hj : ∀ j, j < i → j ∉ O → rem T L O j ≠ 0) : OPre T L (O ++ [i]) := by
  refine ⟨List.nodup_append.2 ⟨h.nod, by simp, fun a ha b hb e => hi (by rw [List.mem_singleton.1 hb] at e; rw [← e]; exact ha)⟩, fun j hjm => ?_, fun A k B e => ?_⟩
  · rcases List.mem_append.1 hjm with h1 | h1
    · exact h.lt j h1
    · rw [List.mem_singleton.1 h1]
      exact hl
  · rcases List.eq_nil_or_concat B with rfl | ⟨B', b, rfl⟩
    · obtain ⟨e1, e2⟩ := List.append_inj' e rfl
      injection e2 with e2 _
      subst e1 e2
      exact ⟨h0, hj⟩
    · have e' : O ++ [i] = (A ++ k :: B') ++ [b] := by rw [e]; simp
      obtain ⟨e1, _⟩ := List.append_inj' e' rfl
      exact h.ord A k B' e1
theorem mem_flat (hL : PL n T L) {y : Nat} (hy : y < n) : y ∈ flat L O ↔ ofL L y ∈ O := by
  obtain ⟨p, p1, p2⟩ := hL.scc.of_at hy
  unfold flat
  rw [List.mem_flatMap]
  constructor
  · rintro ⟨i, hi, hm⟩
    have hil : i < L.length := by
      refine Classical.byContradiction fun h => ?_
      rw [List.getD_eq_getElem?_getD, List.getElem?_eq_none (by omega)] at hm
      cases hm
    have hp : L[i]? = some (L.getD i []) := by rw [List.getD_eq_getElem?_getD, List.getElem?_eq_getElem hil]; rfl
    rw [hL.scc.of_eq hp hm]
    exact hi
  · exact fun h => ⟨_, h, by rw [List.getD_eq_getElem?_getD, p1]; exact p2⟩
/-- Nothing is left to wait for just if whoever it leads to is of the part, or came. -/
theorem rem_zero {E : List (Nat × Nat)} (hE : EOk n E) (hL : PL n (tos n E) L) {i : Nat} {p : List Nat} (hp : L[i]? = some p) : rem (tos n E) L O i = 0 ↔ ∀ x ∈ p, Led n (adjE E) p (fun y => y ∈ flat L O) x := by
  have hg : L.getD i [] = p := by rw [List.getD_eq_getElem?_getD, hp]; rfl
  have key : rem (tos n E) L O i = 0 ↔ ∀ x ∈ p, ∀ k ∈ (tos n E).getD x [], ofL L k ≠ i → ofL L k ∈ O := by
    unfold rem outs
    rw [hg, List.countP_eq_zero]
    constructor
    · intro h x hx k hk hne
      have := h (ofL L k) (List.mem_flatMap.2 ⟨x, hx, by unfold jsOf; exact List.mem_filter.2 ⟨List.mem_map.2 ⟨k, hk, rfl⟩, by simpa using hne⟩⟩)
      simpa using this
    · intro h j hj
      obtain ⟨x, hx, hj2⟩ := List.mem_flatMap.1 hj
      unfold jsOf at hj2
      obtain ⟨h1, h2⟩ := List.mem_filter.1 hj2
      obtain ⟨k, hk, rfl⟩ := List.mem_map.1 h1
      have := h x hx k hk (by simpa using h2)
      simpa using this
  rw [key]
  constructor
  · intro h x hx k hk ha
    have hm := (mem_tos hE).2 (adjE_mem.1 ha)
    by_cases e : ofL L k = i
    · obtain ⟨q, q1, q2⟩ := hL.scc.of_at hk
      rw [e, hp] at q1
      injection q1 with q1
      exact .inl (by rw [q1]; exact q2)
    · exact .inr ((mem_flat hL hk).2 (h x hx k hm e))
  · intro h x hx k hk hne
    have he := (mem_tos hE).1 hk
    have hkn : k < n := (hE.lt _ he).2
    rcases h x hx k hkn (adjE_mem.2 he) with h1 | h1
    · exact absurd (hL.scc.of_eq hp h1) hne
    · exact (mem_flat hL hkn).1 h1
theorem OPre.flat_nod (hL : PL n T L) (h : OPre T L O) : (flat L O).Nodup ∧ ∀ y ∈ flat L O, y < n := flat_nodup hL.scc O h.nod h.lt
theorem OPre.flat_le (hL : PL n T L) (h : OPre T L O) : (flat L O).length ≤ n := by
  obtain ⟨h1, h2⟩ := h.flat_nod hL
  have := h1.length_le_of_subset (l₂ := List.range n) fun j hj => List.mem_range.2 (h2 j hj)
  rw [List.length_range] at this
  exact this
/-- Where a part is left, not all nodes came. -/
theorem OPre.fin (hL : PL n T L) (h : OPre T L O) (hlen : n ≤ (flat L O).length) : IsOrd T L O := by
  refine ⟨h.nod, fun i => ⟨h.lt i, fun hi => Classical.byContradiction fun hno => ?_⟩, h.ord⟩
  have hp : L[i]? = some L[i] := List.getElem?_eq_getElem hi
  have hne := hL.scc.ne _ (List.getElem_mem hi)
  have hm := hd_mem hne
  have hn := hL.scc.lt _ (List.getElem_mem hi) _ hm
  obtain ⟨h1, h2⟩ := h.flat_nod hL
  have hx : hd L[i] ∉ flat L O := fun hf => hno (by
    have := (mem_flat hL hn).1 hf
    rw [hL.scc.of_eq hp hm] at this
    exact this)
  have := (List.nodup_cons.2 ⟨hx, h1⟩).length_le_of_subset (l₂ := List.range n) fun j hj => List.mem_range.2 (by
    rcases List.mem_cons.1 hj with e | e
    · rw [e]; exact hn
    · exact h2 j e)
  rw [List.length_range, List.length_cons] at this
  omega
theorem OPre.left (hT : TOk n T) (hL : PL n T L) (h : OPre T L O) (hlen : (flat L O).length < n) : ∃ j, j < L.length ∧ j ∉ O ∧ rem T L O j = 0 := by
  have hO : ∃ j, j < L.length ∧ j ∉ O := Classical.byContradiction fun hno => by
    have hall : ∀ j, j < L.length → j ∈ O := fun j hj => Classical.byContradiction fun h2 => hno ⟨j, hj, h2⟩
    have := flat_all hL.scc h.nod fun i => ⟨h.lt i, hall i⟩
    unfold flat at hlen
    omega
  obtain ⟨f1, f2⟩ := found_scc hT
  refine progress hL.scc f2 (fun l hl => ?_) (fun p hp => ?_) O hO
  · have hm := hd_mem (hL.scc.ne l hl)
    obtain ⟨p, hp, hmp⟩ := f1.cover _ (hL.scc.lt l hl _ hm)
    exact ⟨p, hp, fun x => by rw [f1.part hp hmp, hL.scc.part hl hm]⟩
  · have hm := hd_mem (f1.ne p hp)
    obtain ⟨l, hl, hml⟩ := hL.scc.cover _ (f1.lt p hp _ hm)
    exact ⟨l, hl, fun x => by rw [f1.part hp hm, hL.scc.part hl hml]⟩
end
end Go.Proofs.Ytcjohhminiedfaa
/- Cycle: ref.Order. -/
namespace Go.Proofs.Ytcjohhminiedfaa
open Go.RowKit
theorem addr_add (g j : Nat) : (⟨g, 0, none⟩ : Addr).add j = ⟨g, j, none⟩ := by unfold Addr.add; split <;> simp_all
set_option maxHeartbeats 8000000 in
set_option maxRecDepth 100000 in
theorem rorder_any {w : World} {a : Option Addr} {n cap : Nat} {E : List (Nat × Nat)} (hn : n ≤ 10000) (hok : EOk n E) (hM : MxA w a n (adjE E)) :
    Calls Try.prog 20 #[.agg #[.slice a n cap]] w fun e w' => ∃ v L O, e = .returned v ∧ PL n (tos n E) L ∧ IsOrd (tos n E) L O ∧ IR w.heap.size w' v (flat L O) ∧ Below w.heap.size w w' := by
  have HMX := Lib.hid hM
  have HOK := Lib.hid hok
  obtain ⟨K, hK⟩ : ∃ K, w.heap.size = K := ⟨_, rfl⟩
  have HK := Lib.hid hK
  have MK := mk4 n (by omega)
  have C1 := Lib.hid (rparts_any (cap := cap) hn hok (hM.below (below_alloc w (.cells #[.slice a n cap] 27) _ (Nat.le_refl _))))
  clear hM hok hK
  go_enter Try.func20, Try.ntmps20
  go_wp2_with fail
  refine C1.out.mono ?_
  rintro e w2 ⟨v2, vs, L, rfl, hV, hL, hb2⟩
  have HC2 : Hid (w2.heap[w.heap.size]? = some (.cells #[.slice a n cap] 27) ∧ Below w.heap.size w w2) := ⟨(hb2.block _ (by simp)).trans (heap_alloc_new w _), (below_alloc w _ _ (Nat.le_refl _)).trans (hb2.mono (by simp))⟩
  rw [HK.out] at HC2 ⊢
  have hmx := own_max hV.row
  obtain ⟨pa, pc, e, _⟩ := own_slice hV.row
  subst e
  have HV2 : Hid (RR 0 w2 (.slice pa L.length pc) vs L) := hV.base' (Nat.zero_le _)
  have HL := Lib.hid hL
  obtain ⟨mm, hmm⟩ : ∃ mm, L.length = mm := ⟨_, rfl⟩
  have HMM := Lib.hid hmm
  rw [hmm] at hmx HV2 ⊢
  unfold maxLen at hmx
  have m1 := cell_of_heap HC2.out.1 0
  have m2 := lt_of_heap HC2.out.1
  clear hV hL hb2 hmm C1
  go_wp2_with fail
  refine abs_world ?_
  intro W2 hW2
  obtain ⟨bd, hbd⟩ : ∃ bd, w2.heap.size = bd := ⟨_, rfl⟩
  have hw2 : Below w2.heap.size w2 W2 := by
    rw [hW2]
    exact (below_alloc w2 _ _ (Nat.le_refl _)).alloc (by simp) _
  have HD2 : Hid (BM W2 bd (List.replicate n false)) := by
    unfold Hid BM bvs
    rw [hW2, ← hbd, List.map_replicate, ← List.toArray_replicate]
    exact heap_alloc_old (heap_alloc_new w2 _) _
  have HI2 : Hid (IR (bd + 1) W2 (.slice (some ⟨bd + 1, 0, none⟩) 0 0) (flat L [])) := by
    refine ⟨by simp [flat], .inr ⟨bd + 1, 0, #[], rfl, Nat.le_refl _, ?_, Nat.le_refl _, by decide, by simp, by simp [flat]⟩⟩
    rw [hW2, ← hbd]
    exact heap_alloc_at (by simp) _
  have HTB2 : Hid (TB n (fun y => y ∈ flat L []) (List.replicate n false)) := (TB.start n).congr fun y _ => by simp [flat]
  have hKbd : K < bd := by rw [← hbd]; exact m2
  have HWB : Hid (∀ W, Below bd W2 W → MxA W a n (adjE E) ∧ RR 0 W (.slice pa mm pc) vs L ∧ W.heap[K]? = some (.cells #[.slice a n cap] 27) ∧ Below K w W) := fun W hW => by
    have h1 : Below w2.heap.size w2 W := by rw [hbd] at hw2 ⊢; exact hw2.trans hW
    have h2 : Below K w W := HC2.out.2.trans (h1.mono (Nat.le_of_lt m2))
    exact ⟨HMX.out.below (by rw [HK.out]; exact h2), HV2.out.below h1, (h1.block K m2).trans HC2.out.1, h2⟩
  have hz2 : bd + 1 ≤ W2.heap.size := lt_of_heap HD2.out
  rw [hbd]
  clear hW2 hw2 hbd HV2 HC2 m1 m2 MK HMX
  go_loopg [5] n (fun g s5 wr => ∃ (O : List Nat) (C : List Bool), g = n - (flat L O).length ∧ Hid (OPre (tos n E) L O) ∧ Hid (TB n (fun y => y ∈ flat L O) C) ∧ Hid (BM wr bd C) ∧ Hid (IR (bd + 1) wr s5 (flat L O)) ∧ Hid (Below bd W2 wr) ∧ bd + 1 ≤ wr.heap.size)
  case atStart => exact ⟨[], _, rfl, OPre.start _ _, HTB2, HD2, HI2, Below.refl _ _, hz2⟩
  case round =>
    clear HTB2 HD2 HI2 hz2
    obtain ⟨O, C, rfl, hP, hT, hD, hI, hB, hz⟩ := hrel
    rename World => wz
    obtain ⟨la, lc, e⟩ := hI.out.shape
    subst e
    have hqn := hP.out.flat_le HL.out
    obtain ⟨q, hq⟩ : ∃ q, (flat L O).length = q := ⟨_, rfl⟩
    have HQ := Lib.hid hq
    have HIQ : Hid (IR (bd + 1) wz (.slice la q lc) (flat L O)) := by rw [← hq]; exact hI
    have hbox := (HWB.out wz hB.out).2.2.1
    have m1 := cell_of_heap hbox 0
    have m2 := lt_of_heap hbox
    rw [hq] at hqn ⊢
    clear hI hbox hq
    by_cases hlt : q < n
    · obtain ⟨j0, j1, j2, j3⟩ := hP.out.left (tos_ok HOK.out) HL.out (by rw [HQ.out]; exact hlt)
      have HJ0 : Hid (j0 < mm ∧ j0 ∉ O ∧ rem (tos n E) L O j0 = 0) := ⟨by rw [← HMM.out]; exact j1, j2, j3⟩
      clear j1 j2 j3
      go_wp2_with fail
      clear m1 m2
      go_loopg [5, 6] mm (fun g s5 s6 wr => ∃ (i : Nat), s5 = .slice la q lc ∧ s6 = .int .i64 (i : Int) ∧ g = mm - i ∧ i ≤ mm ∧ Hid (∀ j, j < i → j ∉ O → rem (tos n E) L O j ≠ 0) ∧ Hid (Below wz.heap.size wz wr))
      case atStart => exact ⟨0, rfl, rfl, rfl, Nat.zero_le _, fun j hj => by omega, Below.refl _ _⟩
      case round =>
        obtain ⟨i, rfl, rfl, rfl, hi, hN, hBz⟩ := hrel
        by_cases hlt2 : i < mm
        · obtain ⟨p, hp⟩ : ∃ p, L[i]? = some p := ⟨_, List.getElem?_eq_getElem (by rw [HMM.out]; exact hlt2)⟩
          have hpm := List.mem_of_getElem? hp
          have hpne := HL.out.scc.ne p hpm
          have hhm := hd_mem hpne
          have hhn := HL.out.scc.lt p hpm _ hhm
          obtain ⟨h0, hh0⟩ : ∃ h0, hd p = h0 := ⟨_, rfl⟩
          rw [hh0] at hhm hhn
          have HHD : Hid (p[0]? = some h0) := by
            rw [← hh0]
            cases p with
            | nil => exact absurd rfl hpne
            | cons x r => rfl
          have HROWP := Lib.hid hp
          have hof : ofL L h0 = i := HL.out.scc.of_eq hp hhm
          obtain ⟨qp, hqp⟩ : ∃ qp, p.length = qp := ⟨_, rfl⟩
          have HQP := Lib.hid hqp
          have hqp0 : 0 < qp := by
            rw [← hqp]
            cases p with
            | nil => exact absurd rfl hpne
            | cons x r => simp
          have hqpn : qp ≤ n := by
            rw [← hqp]
            have := (HL.out.scc.nod p hpm).length_le_of_subset (l₂ := List.range n) fun j hj => List.mem_range.2 (HL.out.scc.lt p hpm j hj)
            rw [List.length_range] at this
            exact this
          have hBW : Hid (Below bd W2 wr) := hB.out.trans (hBz.out.mono (by omega))
          have hg : Hid (L.getD i [] = p) := by unfold Hid; rw [List.getD_eq_getElem?_getD, hp]; rfl
          obtain ⟨_, hRR, hbox, hBK⟩ := HWB.out wr hBW.out
          obtain ⟨pa2, pc2, e, _, hr⟩ := hRR.slice
          injection e with e e3 e4
          clear e3 e4
          subst e
          obtain ⟨gt, rfl, zt, ra, rc, _, ct, hI9⟩ := hr i p HROWP.out
          obtain ⟨gp, rfl, zp, ch⟩ := hI9.at HHD.out
          have hIP := Lib.hid hI9
          rw [HQP.out] at hIP ct
          clear hr hI9 hRR
          have hD2 : Hid (BM wr bd C) := hD.out.keep (hBz.out.block _ (by omega))
          obtain ⟨vc, hc1, hc2⟩ := hT.out.get hhn
          have hc3 := hc2.trans (mem_flat (O := O) HL.out hhn)
          rw [hof] at hc3
          have c1 := bcell hD2.out hc1
          have z1 := lt_of_heap hD2.out
          have m1 := cell_of_heap hbox 0
          have m2 := lt_of_heap hbox
          have i1 : (0 : Int) ≤ (i : Int) := by omega
          have i2 : (i : Int) < (mm : Int) := by omega
          have i3 : (0 : Int) < (qp : Int) := by omega
          have i4 : (0 : Int) ≤ (h0 : Int) := by omega
          have i5 : (h0 : Int) < (n : Int) := by omega
          clear hp hpm hpne hhm hh0 hof hqp hc1 hc2 hbox
          cases vc with
          | true =>
            have hN2 : Hid (∀ j, j < i + 1 → j ∉ O → rem (tos n E) L O j ≠ 0) := fun j hj hjO => by
              by_cases e : j = i
              · rw [e] at hjO
                exact absurd (hc3.1 rfl) hjO
              · exact hN.out j (by omega) hjO
            clear hN hc3
            go_wp2_with fail
            refine wp_region_mix [0, 1, 2, 3, 4, 5, 6, 7, 8, 9, 10, 11, 12, 13, 14, 15, 16] [17, 18] [17, 18] (Below wr.heap.size wr) (by kernel_rfl) (by kernel_rfl) (Below.refl _ _).drew ?_
            iterate 17 (first | (apply first_step; (rw [List.getElem?_toArray]; (repeat rw [List.getElem?_cons_succ]); rw [List.getElem?_cons_zero]); rfl; (intro W hB; have hc := bcellB hB; go_simp; (first | done | rfl)); go_frame) | (apply first_skip; (rw [List.getElem?_toArray]; (repeat rw [List.getElem?_cons_succ]); rw [List.getElem?_cons_zero]); rfl; go_frame))
            refine first_done ?_
            apply tail_skip; (rw [List.getElem?_toArray]; (repeat rw [List.getElem?_cons_succ]); rw [List.getElem?_cons_zero]); rfl; rfl; exact fun h => absurd (by decide) h
            apply tail_step; (rw [List.getElem?_toArray]; (repeat rw [List.getElem?_cons_succ]); rw [List.getElem?_cons_zero]); rfl; rfl; intro K' hK; go_simp; refine hK _ _ (fun h => absurd (by decide) h) ?_; clear hK K'
            refine tail_done ?_
            have hBz2 : Hid (Below wz.heap.size wz wr.drew) := hBz.out.drew
            clear c1 z1 m1 m2 ct zt ch zp hBz
            go_wp2_with fail
            go_roundg (mm - (i + 1))
            case measure => omega
            case rel => exact ⟨i + 1, rfl, by go_num, rfl, by omega, hN2, hBz2⟩
          | false =>
            have hiO : i ∉ O := fun h => by
              have := hc3.2 h
              cases this
            have C5 := Lib.hid (rready_any (w := wr.drew) (cap := cap) (CP := fun y => y ∈ flat L O) hn ((HWB.out wr hBW.out).1.below (Below.refl _ wr).drew) (hIP.out.below (Below.refl _ wr).drew) (fun x hx => HL.out.scc.lt p (List.mem_of_getElem? HROWP.out) x hx) (hD2.out.keep rfl) hT.out)
            clear hc3
            go_wp2_with fail
            refine wp_region_mix [0, 1, 2, 3, 4, 5, 6, 7, 8, 9, 10, 11, 12, 13, 14, 15, 16] [17, 18] [17, 18] (Below wr.heap.size wr) (by kernel_rfl) (by kernel_rfl) (Below.refl _ _).drew ?_
            iterate 17 (first | (apply first_step; (rw [List.getElem?_toArray]; (repeat rw [List.getElem?_cons_succ]); rw [List.getElem?_cons_zero]); rfl; (intro W hB; have hc := bcellB hB; go_simp; (first | done | rfl)); go_frame) | (apply first_skip; (rw [List.getElem?_toArray]; (repeat rw [List.getElem?_cons_succ]); rw [List.getElem?_cons_zero]); rfl; go_frame))
            refine first_done ?_
            apply tail_step; (rw [List.getElem?_toArray]; (repeat rw [List.getElem?_cons_succ]); rw [List.getElem?_cons_zero]); rfl; rfl; intro K' hK; go_simp
            refine C5.out.mono ?_
            rintro e w6 ⟨t, rfl, ht, hb6⟩
            refine hK _ _ (fun h => absurd (by decide) h) ?_
            clear hK K'
            have hb6' : Below wr.heap.size wr w6 := (Below.refl _ wr).drew.trans hb6
            have hBz2 : Hid (Below wz.heap.size wz w6) := hBz.out.trans (hb6'.mono hBz.out.size)
            have hrz := ht.trans (rem_zero HOK.out HL.out HROWP.out).symm
            (apply tail_step; (rw [List.getElem?_toArray]; (repeat rw [List.getElem?_cons_succ]); rw [List.getElem?_cons_zero]); rfl; rfl; intro K hK; go_simp; refine hK _ _ (fun h => absurd (by decide) h) ?_; clear hK K)
            refine tail_done ?_
            clear c1 z1 m1 m2 ct zt ch zp hb6 hb6' C5 ht hBz hBW hD2 hIP
            cases t with
            | false =>
              have hN2 : Hid (∀ j, j < i + 1 → j ∉ O → rem (tos n E) L O j ≠ 0) := fun j hj hjO => by
                by_cases e : j = i
                · rw [e]
                  intro h
                  have := hrz.2 h
                  cases this
                · exact hN.out j (by omega) hjO
              clear hN hrz
              go_wp2_with fail
              go_roundg (mm - (i + 1))
              case measure => omega
              case rel => exact ⟨i + 1, rfl, by go_num, rfl, by omega, hN2, hBz2⟩
            | true =>
              have HP2 : Hid (OPre (tos n E) L (O ++ [i])) := hP.out.push hiO (by rw [HMM.out]; exact hlt2) (hrz.1 rfl) hN.out
              have HFP : Hid (flat L (O ++ [i]) = flat L O ++ p) := by unfold Hid; rw [flat_push, hg.out]
              have HT0 : Hid (TB n (fun y => y ∈ flat L O ∨ y ∈ p.take 0) C) := hT.out.congr fun y _ => by simp
              have HD0 : Hid (BM w6 bd C) := hD.out.keep (hBz2.out.block _ (by omega))
              have HI0 : Hid (IR (bd + 1) w6 (.slice la q lc) (flat L O)) := HIQ.out.block fun j _ hj => hBz2.out.block j hj
              have HB0 : Hid (Below bd W2 w6) := hB.out.trans (hBz2.out.mono (by omega))
              have hz0 : bd + 1 ≤ w6.heap.size := Nat.le_trans hz hBz2.out.size
              clear hrz hN hiO hT hBz2 hg
              go_wp2_with fail
              rename World => wy
              go_loopg [7] qp (fun g s7 wr => ∃ (k : Nat) (C : List Bool), s7 = .int .i64 (k : Int) ∧ g = qp - k ∧ k ≤ qp ∧ Hid (TB n (fun y => y ∈ flat L O ∨ y ∈ p.take k) C) ∧ Hid (BM wr bd C) ∧ Hid (IR (bd + 1) wr (.slice la q lc) (flat L O)) ∧ Hid (Below bd W2 wr) ∧ bd + 1 ≤ wr.heap.size)
              case atStart => exact ⟨0, C, rfl, rfl, Nat.zero_le _, HT0, HD0, HI0, HB0, hz0⟩
              case round =>
                clear HT0 HD0 HI0 HB0 hz0 hD hB hz HIQ C
                obtain ⟨k, C, rfl, rfl, hk, hT, hD, HIQ, hB, hz⟩ := hrel
                obtain ⟨_, hRR, hbox, hBK⟩ := HWB.out wr hB.out
                obtain ⟨pa2, pc2, e, _, hr⟩ := hRR.slice
                injection e with e e3 e4
                clear e3 e4
                subst e
                obtain ⟨gt2, e, zt, ra, rc, _, ct, hI9⟩ := hr i p HROWP.out
                injection e with e
                injection e with e e3 e4
                clear e3 e4
                subst e
                obtain ⟨gp, rfl, zp, ch⟩ := hI9.at HHD.out
                have hIP := Lib.hid hI9
                rw [HQP.out] at hIP ct
                clear hr hI9 hRR
                by_cases hlt3 : k < qp
                · obtain ⟨x, hx⟩ : ∃ x, p[k]? = some x := ⟨_, List.getElem?_eq_getElem (by rw [HQP.out]; exact hlt3)⟩
                  have hxn := HL.out.scc.lt p (List.mem_of_getElem? HROWP.out) x (List.mem_of_getElem? hx)
                  obtain ⟨gp2, e, _, cx⟩ := hIP.out.at hx
                  injection e with e
                  injection e with e e3 e4
                  clear e3 e4
                  subst e
                  obtain ⟨vx, hv, _⟩ := hT.out.get hxn
                  have c1 := bcell hD.out hv
                  have y1 := frozen_of_heap hD.out x
                  have z1 := lt_of_heap hD.out
                  have j1 : (0 : Int) ≤ (k : Int) := by omega
                  have j2 : (k : Int) < (qp : Int) := by omega
                  have j3 : (0 : Int) ≤ (x : Int) := by omega
                  have j4 : (x : Int) < (n : Int) := by omega
                  have hT2 : Hid (TB n (fun y => y ∈ flat L O ∨ y ∈ p.take (k + 1)) (C.set x true)) := hT.out.set ⟨fun _ => .inr (by rw [take_snoc hx]; simp), fun _ => rfl⟩ fun y hy => by
                    rw [take_snoc hx]
                    simp [hy]
                  have hD2 : Hid (BM (wr.setCell ⟨bd, x, none⟩ (.bool true)) bd (C.set x true)) := bput hD.out x true
                  have hI2 : Hid (IR (bd + 1) (wr.setCell ⟨bd, x, none⟩ (.bool true)) (.slice la q lc) (flat L O)) := HIQ.out.block fun j hj _ => set_other j (by show j ≠ bd; have := (HIQ.out.lt j hj).1; omega)
                  have hB2 : Hid (Below bd W2 (wr.setCell ⟨bd, x, none⟩ (.bool true))) := hB.out.setCell (p := ⟨bd, x, none⟩) (Nat.le_refl _) _
                  have hz3 : bd + 1 ≤ (wr.setCell ⟨bd, x, none⟩ (.bool true)).heap.size := by simpa using hz
                  clear hx hv hT hD HIQ hB hz hIP hbox
                  go_wp2_with fail
                  clear c1 y1 z1 cx ct zt ch zp
                  go_roundg (qp - (k + 1))
                  case measure => omega
                  case rel => exact ⟨k + 1, _, by go_num, rfl, by omega, hT2, hD2, hI2, hB2, hz3⟩
                · have HT9 : Hid (TB n (fun y => y ∈ flat L (O ++ [i])) C) := hT.out.congr fun y _ => by
                    rw [HFP.out, List.mem_append, List.take_of_length_le (by rw [HQP.out]; omega)]
                  have HROW : Hid (wr.ownsRow (bd + 1) 3 1 (.slice la q lc) q ((flat L O).map iv)) := by
                    have h1 := HIQ.out
                    unfold IR at h1
                    rw [HQ.out] at h1
                    exact h1
                  obtain ⟨i0, hi0, hz0, hz1, hz2⟩ := info_parts info3
                  have HI0 := Lib.hid (⟨hi0, hz0, hz1, hz2⟩ : _ ∧ _ ∧ _ ∧ _)
                  have HNEW : Hid (∀ j u, (p.map iv)[j]? = some u → wr.cell? ((⟨gp, 0, none⟩ : Addr).add j) = some u) := fun j u hu => by
                    rw [List.getElem?_map] at hu
                    cases e : p[j]? with
                    | none => rw [e] at hu; cases hu
                    | some x =>
                      rw [e] at hu
                      cases hu
                      obtain ⟨gp2, e2, _, cx⟩ := hIP.out.at e
                      injection e2 with e2
                      injection e2 with e2 e3 e4
                      subst e2
                      rw [addr_add]
                      exact cx
                  have PU : Hid (∀ (v' : Value) (w' : World), w'.ownsRow (bd + 1) 3 1 v' (q + qp) ((flat L O).map iv ++ p.map iv) → wr.grownBy w' (Value.slice la q lc).ownBlock → IR (bd + 1) w' v' (flat L (O ++ [i])) ∧ BM w' bd C ∧ Below bd W2 w' ∧ bd + 1 ≤ w'.heap.size) := fun v' w' h1 h2 => by
                    have hb : Below (bd + 1) wr w' := ⟨h2.os, h2.tape, h2.output, h2.size, fun j hj => h2.block j (by omega) fun e => by
                      have := (World.ownsRow.lt HROW.out j e.symm).1
                      omega⟩
                    refine ⟨?_, hD.out.keep (hb.block _ (Nat.lt_succ_self bd)), hB.out.trans (hb.mono (Nat.le_succ bd)), Nat.le_trans hz hb.size⟩
                    unfold IR
                    rw [HFP.out, List.length_append, HQ.out, HQP.out, List.map_append]
                    exact h1
                  have hmeas : n - (flat L (O ++ [i])).length < n - (flat L O).length := by
                    rw [HFP.out, List.length_append, HQ.out, HQP.out]
                    omega
                  clear hi0 hz0 hz1 hz2 hT hD HIQ hB hIP hbox
                  go_wp2_with (at_builtin; refine wpList_append_own_at _ rfl _ _ 31 rfl (bd + 1) 3 i0 (.int .i64 0) 1 8 Try.underlying31 HI0.out.1 HI0.out.2.1 HI0.out.2.2.1 HI0.out.2.2.2 rfl (by decide) (.slice la q lc) q ((flat L O).map iv) rfl HROW.out ⟨gp, 0, none⟩ qp rc (p.map iv) rfl (by rw [List.length_map, HQP.out, Nat.mul_one]) HNEW.out (iv_one p) (by unfold maxLen; omega) (by omega) hz ?_; intro v9 w9 hown hgrow _ _; obtain ⟨va, vc, rfl, _⟩ := own_slice hown; obtain ⟨p1, p2, p3, p4⟩ := PU.out _ w9 hown hgrow; have P1 := Lib.hid p1; have P2 := Lib.hid p2; have P3 := Lib.hid p3; clear hown hgrow p1 p2 p3)
                  go_roundg (n - (flat L (O ++ [i])).length)
                  case measure => exact hmeas
                  case rel => exact ⟨_, _, rfl, HP2, HT9, P2, P1, P3, p4⟩
        · exfalso
          exact hN.out j0 (by have := HJ0.out.1; omega) HJ0.out.2.1 HJ0.out.2.2
    · have HO : Hid (IsOrd (tos n E) L O) := hP.out.fin HL.out (by rw [HQ.out]; omega)
      have hBK := (HWB.out wz hB.out).2.2.2
      clear hP hT hD
      go_wp2_with fail
      refine bodyPost_ret (v := .slice la q lc) (by simp [results, Try.results20, go_sem]) rfl ⟨_, L, O, rfl, HL.out, HO.out, by rw [HK.out]; exact IR.base HIQ.out (by omega), by rw [HK.out]; exact hBK⟩
end Go.Proofs.Ytcjohhminiedfaa
