/- Cycle: Build. -/
import Derived.Test.YtcjohhminiedfaaQC21REdge
namespace Go.Proofs.Ytcjohhminiedfaa
open Go.RowKit
/-- While Build goes. -/
structure BI (K P n : Nat) (w wr : World) (G : Gb) (p : Addr) (a : Option Addr) (cap : Nat) (E : List (Nat × Nat)) : Prop where
  pv : G.pv = .pointer (some p)
  gr : GrE (K + 1) wr G n E
  np : ¬ G.has P
  mx : ∀ W, Fr (fun k => G.has k ∨ k = P ∨ k = K) wr W → MxA W a n (adjE E)
  box : wr.heap[P]? = some (.cells #[.slice a n cap] 27)
  res : wr.heap[K]? = some (.cells #[.slice none 0 0] 27)
  bel : Below K w wr
  kp : K < P
theorem BI.below {K P n : Nat} {w wr w' : World} {G : Gb} {p : Addr} {a : Option Addr} {cap : Nat} {E : List (Nat × Nat)} (h : BI K P n w wr G p a cap E) (hb : Below wr.heap.size wr w') : BI K P n w w' G p a cap E :=
  ⟨h.pv, h.gr.below hb, h.np, fun W hW => h.mx W (Fr.trans (Fr.of_below hb) hW fun _ _ h => h), (hb.block _ (lt_of_heap h.box)).trans h.box, (hb.block _ (lt_of_heap h.res)).trans h.res, h.bel.trans (hb.mono (Nat.le_of_lt (lt_of_heap h.res))), h.kp⟩
theorem BI.mxa {K P n : Nat} {w wr : World} {G : Gb} {p : Addr} {a : Option Addr} {cap : Nat} {E : List (Nat × Nat)} (h : BI K P n w wr G p a cap E) : MxA wr a n (adjE E) := h.mx wr (Fr.refl _ _)
theorem BI.step {K P n : Nat} {w w5 w6 w7 : World} {G G' : Gb} {p : Addr} {a a' : Option Addr} {cap cap' : Nat} {E E' : List (Nat × Nat)} (h : BI K P n w w5 G p a cap E) (hb6 : Below w5.heap.size w5 w6) (hS : ∀ S : Nat → Prop, (∀ k, S k → k < w5.heap.size) → (∀ W, Fr S w5 W → MxA W a n (adjE E)) → ∀ W, Fr S w6 W → MxA W a' n (adjE E'))
    (hp : G'.pv = G.pv) (hg : GrE (K + 1) w7 G' n E') (hn : ∀ k, G'.has k → G.has k ∨ (w6.alloc (.cells #[.slice a' n cap'] 27)).heap.size ≤ k) (hf : Fr (fun k => G.has k) (w6.alloc (.cells #[.slice a' n cap'] 27)) w7) :
    (w7.heap[w6.heap.size]? = some (.cells #[.slice a' n cap'] 27) ∧ w7.heap[P]? = some (.cells #[.slice a n cap] 27)) ∧ BI K P n w (w7.setCell ⟨P, 0, none⟩ (.slice a' n cap')) G' p a' cap' E' := by
  have h6 := h.below hb6
  have hP5 := lt_of_heap h.box
  have hP6 := lt_of_heap h6.box
  have hK6 := lt_of_heap h6.res
  have hGK : ¬ G.has K := fun e => by have := GrD.lo h.gr K e; omega
  have hGw : ∀ k, G.has k → k < w5.heap.size := h.gr.has
  have hGQ : ¬ G.has w6.heap.size := fun e => by have := h6.gr.has _ e; omega
  have hQ : w7.heap[w6.heap.size]? = some (.cells #[.slice a' n cap'] 27) := (hf.block _ (by simp) hGQ).trans (heap_alloc_new w6 _)
  have hP7 : w7.heap[P]? = some (.cells #[.slice a n cap] 27) := (hf.block P (by simp; omega) h.np).trans (heap_alloc_old h6.box _)
  have hK7 : w7.heap[K]? = some (.cells #[.slice none 0 0] 27) := (hf.block K (by simp; omega) hGK).trans (heap_alloc_old h6.res _)
  have hnp : ¬ G'.has P := fun e => by
    rcases hn P e with e | e
    · exact h.np e
    · simp at e
      omega
  have hf6 : Fr (fun k => G.has k) w6 w7 := Fr.trans (Fr.of_below (below_alloc w6 _ _ (Nat.le_refl _))) hf fun _ _ h => h
  refine ⟨⟨hQ, hP7⟩, ⟨hp.trans h.pv, GrD.keep hg fun k hk _ => set_other k fun e => hnp (by rw [← show k = P from e]; exact hk), hnp, fun W hW => ?_, ?_, ?_, ?_, h.kp⟩⟩
  · have h1 := hf6.size
    have h2 := hW.size
    rw [World.size_setCell] at h2
    refine hS (fun k => G.has k ∨ k = P ∨ k = K) (fun k hk => ?_) h.mx W ⟨hW.os.trans hf6.os, hW.tape.trans hf6.tape, hW.output.trans hf6.output, by omega, fun k hk hG => ?_⟩
    · rcases hk with hk | rfl | rfl
      · exact hGw k hk
      · exact hP5
      · exact lt_of_heap h.res
    · have hkP : k ≠ P := fun e => hG (.inr (.inl e))
      have h3 : ¬ (G'.has k ∨ k = P ∨ k = K) := fun e => by
        rcases e with e | e | e
        · rcases hn k e with e | e
          · exact hG (.inl e)
          · simp at e
            omega
        · exact hkP e
        · exact hG (.inr (.inr e))
      exact (hW.block k (by rw [World.size_setCell]; omega) h3).trans ((set_other k hkP).trans (hf6.block k hk fun e => hG (.inl e)))
  · rw [heap_setCell_at hP7]
    simp
  · exact (set_other K (by show K ≠ P; have := h.kp; omega)).trans hK7
  · have h1 : Below K w w7 := h6.bel.trans (hf6.below (Nat.le_of_lt hK6) fun k hk => by have := GrD.lo h.gr k hk; omega)
    exact h1.setCell (p := ⟨P, 0, none⟩) (Nat.le_of_lt h.kp) _
set_option maxHeartbeats 4000000 in
set_option maxRecDepth 100000 in
theorem build_any {w : World} {n : Nat} {a : Option Addr} {cap : Nat} {l : List (Int × Int)} (hn : n ≤ 10000) (hl : l.length ≤ 100000) (hE : EdAt w a l) :
    Calls Try.prog 10 #[.int .i64 (n : Int), .slice a l.length cap] w fun e w' => ∃ G a' cap' K, e = .returned (.tuple #[G.pv, .agg #[.slice a' n cap'], .int .i64 1]) ∧ GrE K w' G n (laidE n false l) ∧ MxA w' a' n (adjE (laidE n false l)) ∧ Below w.heap.size w w' := by
  have HE := Lib.hid hE
  obtain ⟨m, hm⟩ : ∃ m, l.length = m := ⟨_, rfl⟩
  have HM := Lib.hid hm
  rw [hm] at hl ⊢
  obtain ⟨K, hK⟩ : ∃ K, w.heap.size = K := ⟨_, rfl⟩
  have HK := Lib.hid hK
  have C1 := Lib.hid (fun W => new_E (w := W) (n : Int) n (by omega))
  have C2 := Lib.hid (fun W => rnew_any (w := W) hn)
  clear hm hE hK
  go_enter Try.func10, Try.ntmps10
  go_wp2_with fail
  refine (C1.out _).mono ?_
  rintro e w1 ⟨G, rfl, hG1, hb1⟩
  obtain ⟨p, hp⟩ : ∃ p, G.pv = .pointer (some p) := ⟨_, hG1.gr.ptr⟩
  rw [World.size_alloc] at hG1 hb1
  have hz1 : w.heap.size < w1.heap.size := by have := hb1.size; simp at this; omega
  have HR1 : Hid (w1.heap[w.heap.size]? = some (.cells #[.slice none 0 0] 27)) := (hb1.block _ (by omega)).trans (heap_alloc_new w _)
  have HB1 : Hid (Below w.heap.size w w1) := (below_alloc w _ _ (Nat.le_refl _)).trans (hb1.mono (by omega))
  have HG1 := Lib.hid hG1
  have HP := Lib.hid hp
  rw [hp]
  rw [HK.out] at HR1 HB1 HG1 hz1 ⊢
  clear hG1 hb1 hp C1
  go_wp2_with fail
  refine (C2.out _).mono ?_
  rintro e w2 ⟨tv, bs, rfl, hm2, hbs, hb2⟩
  have HR2 : Hid (w2.heap[K]? = some (.cells #[.slice none 0 0] 27)) := (hb2.block _ (lt_of_heap HR1.out)).trans HR1.out
  have HB2 : Hid (Below K w w2) := HB1.out.trans (hb2.mono (Nat.le_of_lt (lt_of_heap HR1.out)))
  have HG2 : Hid (GrE (K + 1) w2 G n []) := HG1.out.below hb2
  have HGL : Hid (∀ k, G.has k → k < w1.heap.size) := HG1.out.has
  have HM2 := Lib.hid hm2
  have HBS := Lib.hid hbs
  have hz2 := lt_of_heap HR2.out
  have hz12 : w1.heap.size ≤ w2.heap.size := hb2.size
  obtain ⟨ta, tc, e, _⟩ := own_slice hm2.row
  subst e
  rw [hbs] at HM2 ⊢
  clear hm2 hbs hb2 C2 HB1 HR1 HG1
  go_upto_region 2 with fail
  refine abs_world ?_
  intro W3 hW3
  have HI3 : Hid (BI K w2.heap.size n w W3 G p ta tc (laidE n false (l.take 0))) := by
    have hw : Below w2.heap.size w2 W3 := by
      rw [hW3]
      exact below_alloc w2 _ _ (Nat.le_refl _)
    refine ⟨HP.out, HG2.out.below hw, fun e => by have := HGL.out _ e; omega, fun W hW => ?_, by rw [hW3]; exact heap_alloc_new w2 _, (hw.block _ hz2).trans HR2.out, HB2.out.trans (hw.mono (Nat.le_of_lt hz2)), hz2⟩
    have h1 : MB w1.heap.size W (.slice ta n tc) n bs (List.replicate n (List.replicate n false)) := by
      refine HM2.out.keep fun k hk hlt => (hW.block k (Nat.lt_of_lt_of_le hlt hw.size) fun e => ?_).trans (hw.block k hlt)
      rcases e with e | e | e
      · have := HGL.out k e
        omega
      · omega
      · omega
    refine h1.mx HBS.out fun i k hi hk => ?_
    have e0 : adjE (laidE n false (l.take 0)) i k = false := rfl
    have e1 : (List.replicate n (List.replicate n false)).getD i [] = List.replicate n false := by
      rw [List.getD_eq_getElem?_getD, List.getElem?_replicate, if_pos hi]
      rfl
    rw [e0, e1, List.getD_eq_getElem?_getD, List.getElem?_replicate, if_pos hk]
    rfl
  obtain ⟨P, hP⟩ : ∃ P, w2.heap.size = P := ⟨_, rfl⟩
  rw [hP] at HI3 ⊢
  clear hW3 HM2 HG2 HB2 HR2 HBS HGL hP hz2 hz12
  go_wp2_with fail
  go_loopg [19] m (fun g s19 wr => ∃ (k : Nat) (G : Gb) (a' : Option Addr) (cap' : Nat), s19 = .int .i64 (k : Int) ∧ g = m - k ∧ k ≤ m ∧ Hid (BI K P n w wr G p a' cap' (laidE n false (l.take k))))
  case atStart => exact ⟨0, G, ta, tc, rfl, rfl, Nat.zero_le _, HI3⟩
  case round =>
    clear HI3 HP
    obtain ⟨k, G, a1, cap1, rfl, rfl, hk, hI⟩ := hrel
    have c4 := cell_of_heap hI.out.box 0
    have z4 := lt_of_heap hI.out.box
    by_cases hlt : k < m
    · obtain ⟨⟨x, y⟩, hx⟩ : ∃ x, l[k]? = some x := ⟨_, List.getElem?_eq_getElem (by rw [HM.out]; exact hlt)⟩
      obtain ⟨b, off, rfl, zb, c1, c2⟩ := HE.out k _ hx
      have zb' := Nat.lt_of_lt_of_le zb hI.out.bel.size
      have c1' := (hI.out.bel.cell (p := ⟨b, off + k * 2, none⟩) (by rw [← HK.out]; exact zb)).trans c1
      have c2' := (hI.out.bel.cell (p := ⟨b, off + k * 2 + 1, none⟩) (by rw [← HK.out]; exact zb)).trans c2
      have TK : Hid (laidE n false (l.take (k + 1)) = addE n (laidE n false (l.take k)) x y) := by
        unfold Hid
        rw [take_snoc hx, laidE_push]
        rfl
      have hlen : (laidE n false (l.take k)).length ≤ 1000000 := by
        have h1 := laidE_len n false (l.take k)
        rw [List.length_take] at h1
        omega
      have j1 : (0 : Int) ≤ (k : Int) := by omega
      have j2 : (k : Int) < (m : Int) := by omega
      clear c1 c2 zb hx
      go_upto_region 5 with fail
      refine abs_world ?_
      intro W5 hW5
      have hw5 : Below wr.heap.size wr W5 := by
        rw [hW5]
        exact below_alloc wr _ _ (Nat.le_refl _)
      have HI5 := Lib.hid (hI.out.below hw5)
      have q5 : Hid (W5.heap[wr.heap.size]? = some (.cells #[.int .i64 x, .int .i64 y] 37)) := by
        rw [hW5]
        exact heap_alloc_new wr _
      obtain ⟨B, hB⟩ : ∃ B, wr.heap.size = B := ⟨_, rfl⟩
      rw [hB] at q5 ⊢
      clear hW5 hw5 hI c1' c2' zb' c4 z4 hB
      have c4 := cell_of_heap HI5.out.box 0
      have z4 := lt_of_heap HI5.out.box
      have c5 := cell_of_heap q5.out 0
      have c6 := cell_of_heap q5.out 1
      have z5 := lt_of_heap q5.out
      have C1 := Lib.hid (redge_any (cap := cap1) hn HI5.out.mxa x y)
      go_wp2_with fail
      refine C1.out.mono ?_
      rintro e w6 ⟨a2, cap2, rfl, _, hS6, hb6⟩
      have HS6 := Lib.hid hS6
      have HB6 := Lib.hid hb6
      have q6 : Hid (w6.heap[B]? = some (.cells #[.int .i64 x, .int .i64 y] 37)) := (hb6.block _ z5).trans q5.out
      have HG6 : Hid (GrE (K + 1) (w6.alloc (.cells #[.slice a2 n cap2] 27)) G n (laidE n false (l.take k))) := (HI5.out.below hb6).gr.below (below_alloc w6 _ _ (Nat.le_refl _))
      have HPV : Hid (G.pv = .pointer (some p)) := HI5.out.pv
      clear hS6 hb6 C1 c4 z4 c5 c6 z5
      have c5 := cell_of_heap q6.out 0
      have c6 := cell_of_heap q6.out 1
      have z5 := lt_of_heap q6.out
      have C2 := edge_E hlen HG6.out x y
      rw [HPV.out] at C2
      have C2 := Lib.hid C2
      have bb : ∀ t : Bool, (t != t) = false := fun t => by cases t <;> rfl
      have hbb := bb (okE n (laidE n false (l.take k)) x y)
      obtain ⟨t, ht⟩ : ∃ t, okE n (laidE n false (l.take k)) x y = t := ⟨_, rfl⟩
      rw [ht] at C2 hbb ⊢
      clear hlen bb ht
      go_wp2_with fail
      refine C2.out.mono ?_
      rintro e w7 ⟨rfl, ⟨G7, hp7, hG7, hn7⟩, hf7, _⟩
      obtain ⟨⟨hQ, hP7⟩, hI7⟩ := HI5.out.step HB6.out HS6.out (hp7.trans HPV.out.symm) hG7 hn7 hf7
      rw [← TK.out] at hI7
      have HI7 := Lib.hid hI7
      have c7 := cell_of_heap hQ 0
      have z7 := lt_of_heap hQ
      have c8 := cell_of_heap hP7 0
      have y8 := frozen_of_heap hP7 0
      have z8 := lt_of_heap hP7
      clear hp7 hG7 hn7 hf7 hQ hP7 hI7 C2 c5 c6 z5 HI5 q5 q6
      go_wp2_with fail
      go_roundg (m - (k + 1))
      case measure => omega
      case rel => exact ⟨k + 1, G7, a2, cap2, by go_num, rfl, by omega, HI7⟩
    · have hT : l.take k = l := List.take_of_length_le (by rw [HM.out]; omega)
      rw [hT] at hI
      have c0 := cell_of_heap hI.out.res 0
      have y0 := frozen_of_heap hI.out.res 0
      have z0 := lt_of_heap hI.out.res
      have HB9 : Hid (Below K w (wr.drew.setCell ⟨K, 0, none⟩ (.slice a1 n cap1))) := hI.out.bel.drew.setCell (p := ⟨K, 0, none⟩) (Nat.le_refl _) _
      have HM9 : Hid (MxA (wr.drew.setCell ⟨K, 0, none⟩ (.slice a1 n cap1)) a1 n (adjE (laidE n false l))) := by
        refine hI.out.mx _ ⟨rfl, rfl, rfl, by simp, fun k _ hG => set_other k fun e => hG (.inr (.inr e))⟩
      have HG9 : Hid (GrE (K + 1) (wr.drew.setCell ⟨K, 0, none⟩ (.slice a1 n cap1)) G n (laidE n false l)) := GrD.keep hI.out.gr fun k hk _ => set_other k fun e => by
        have := GrD.lo hI.out.gr k hk
        have e2 : k = K := e
        omega
      have HPV : Hid (G.pv = .pointer (some p)) := hI.out.pv
      clear hT hI
      go_wp2_with fail
      refine wp_region_mix [0, 1, 2] [3, 4] [3, 4] (Below wr.heap.size wr) (by kernel_rfl) (by kernel_rfl) (Below.refl _ _).drew ?_
      iterate 3 (first | (apply first_step; (rw [List.getElem?_toArray]; (repeat rw [List.getElem?_cons_succ]); rw [List.getElem?_cons_zero]); rfl; (intro W hB; have hc := bcellB hB; go_simp; (first | done | rfl)); go_frame) | (apply first_skip; (rw [List.getElem?_toArray]; (repeat rw [List.getElem?_cons_succ]); rw [List.getElem?_cons_zero]); rfl; go_frame))
      refine first_done ?_
      apply tail_step; (rw [List.getElem?_toArray]; (repeat rw [List.getElem?_cons_succ]); rw [List.getElem?_cons_zero]); rfl; rfl; intro K' hK; go_simp; refine hK _ _ (fun h => absurd (by decide) h) ?_; clear hK K'
      (apply tail_step; (rw [List.getElem?_toArray]; (repeat rw [List.getElem?_cons_succ]); rw [List.getElem?_cons_zero]); rfl; rfl; intro K hK; go_simp; refine hK _ _ (fun h => absurd (by decide) h) ?_; clear hK K)
      refine tail_done ?_
      go_wp2_with fail
      refine bodyPost_ret (v := .tuple #[.pointer (some p), .agg #[.slice a1 n cap1], .int .i64 1]) (by simp [results, Try.results10, go_sem, c0]) rfl ⟨G, a1, cap1, K + 1, by rw [HPV.out], HG9.out, HM9.out, by rw [HK.out]; exact HB9.out⟩
end Go.Proofs.Ytcjohhminiedfaa
