/- (*names.Table).Set. -/
import Derived.Laws.Cover3
import Derived.Test.YtlcglkanlhmmdaaGreatQN17Set
namespace Go.Proofs.YtlcglkanlhmmdaaGreat
open Go.RowKit
theorem eql_mapnil (m : Option Nat) (w : World) : (binOp .eql 60 (.map m) (.map none)).run Tryz.prog w = .ok (.bool m.isNone) w := by
  have h := run_equal_map_nil (P := Tryz.prog) (w := w) 60 9 42 m Tryz.underlying60
  simp [binOp, h]
/-- What Set changes. -/
def SetR (K : Nat) (w : World) (pt : Nat) (mo : Option Nat) (L : List (ByteArray × T)) (s : ByteArray) (t : T) : Ending → World → Prop := fun e w' =>
  e = .returned (.int .i64 (setE L s t)) ∧ (∃ mo', TabK K w' pt mo' (setL L s t) ∧ ∀ mt, mo' = some mt → mo = some mt ∨ w.heap.size ≤ mt) ∧ Fr (fun k => K ≤ k ∧ (k = pt ∨ mo = some k)) w w'
theorem set_no {K : Nat} {w w' : World} {pt : Nat} {mo : Option Nat} {L : List (ByteArray × T)} {s : ByteArray} {t : T} {z : Int} (hT : TabK K w pt mo L) (hz : setE L s t = z) (hz0 : z ≠ 0) (hb : Below w.heap.size w w') : SetR K w pt mo L s t (.returned (.int .i64 z)) w' := by
  refine ⟨by rw [hz], ⟨mo, ?_, fun mt h => .inl h⟩, Fr.of_below hb⟩
  unfold setL
  rw [if_neg (by rw [hz]; exact hz0)]
  exact hT.below hb
theorem set_fin {K : Nat} {w W w5 w6 : World} {pt mt : Nat} {mo : Option Nat} {L : List (ByteArray × T)} {s : ByteArray} {t : T} {a5 : Option Addr} {S5 : Nat → Prop} {vs : List (ByteArray × Value)} (hT : TabK K w pt mo L) (hE : setE L s t = 0)
    (hFW : Fr (fun k => K ≤ k ∧ (k = pt ∨ mo = some k)) w W) (hP : W.heap[pt]? = some (.cells #[.map (some mt)] 62)) (hM : MapS W mt Value.string (id : Value → Value) vs) (hL : TabL W vs L) (hKm : K ≤ mt) (hom : mo = some mt ∨ w.heap.size ≤ mt)
    (hb5 : Below W.heap.size W w5) (hO5 : t.Own w5 a5 S5) (h6 : MapS w6 mt Value.string (id : Value → Value) (putL vs s (nagg t.o (.slice a5 t.l.length t.l.length)))) (hf6 : Fr (fun k => k = mt) w5 w6) : SetR K w pt mo L s t (.returned (.int .i64 0)) w6 := by
  obtain ⟨es, c, hm, _⟩ := hM
  have hne : pt ≠ mt := fun e => by rw [e, hm] at hP; cases hP
  have hm5 := (hb5.block mt (lt_of_heap hm)).trans hm
  have k56 : Keep w5 w6 := ⟨hf6.size, fun k o hk ho => (hf6.block k (lt_of_heap hk) (fun e => by rw [e, hm5] at hk; cases hk; cases ho)).trans hk⟩
  have kW : Keep W w6 := by
    have h := (Keep.refl W).below hb5
    exact ⟨Nat.le_trans h.size k56.size, fun k o hk ho => k56.same k o (h.same k o hk ho) ho⟩
  have hI : IsT w6 (nagg t.o (.slice a5 t.l.length t.l.length)) t := ⟨a5, _, rfl, hO5.at.keep k56⟩
  refine ⟨by rw [hE], ⟨some mt, ⟨(hf6.block pt (lt_of_heap ((hb5.block pt (lt_of_heap hP)).trans hP)) hne).trans ((hb5.block pt (lt_of_heap hP)).trans hP), ?_, hT.2.2.1, fun m h => by cases h; exact hKm⟩, fun m h => by cases h; exact hom⟩, ?_⟩
  · unfold setL
    rw [if_pos hE]
    exact ⟨_, h6, (hL.keep kW).put hI⟩
  · refine (hFW.trans (Fr.of_below hb5) (fun _ _ h => h)).trans hf6 (fun k hk e => ?_)
    subst e
    rcases hom with h | h
    · exact ⟨hKm, .inr h⟩
    · omega
/-- A tree does not lie in a block of one cell. -/
theorem T.At.but {w w' : World} {pt : Nat} {x : Value} {ty : TypeId} (hp : w.heap[pt]? = some (.cells #[x] ty)) (hs : w.heap.size ≤ w'.heap.size) (hk : ∀ k, k < w.heap.size → k ≠ pt → w'.heap[k]? = w.heap[k]?) (t : T) : ∀ {a : Option Addr}, t.At w a → t.At w' a := by
  induction t using T.ind with
  | h o l ih =>
    intro a h
    rw [T.at_mk] at h ⊢
    intro h0
    obtain ⟨b, off, e, h1, h2⟩ := h h0
    have hb : b ≠ pt := fun hb => by
      obtain ⟨a', c', h3, _⟩ := h2 0 l[0] (List.getElem?_eq_getElem h0)
      have h4 := h3 1 (by omega)
      rw [hb, cell_of_heap hp] at h4
      have h5 : (ncells l[0].o (.slice a' l[0].l.length c'))[1]? = some (.int .i64 l[0].o.v.k) := rfl
      rw [h5] at h4
      have := (Array.getElem?_eq_some_iff.1 h4).1
      simp at this
    refine ⟨b, off, e, Nat.lt_of_lt_of_le h1 hs, fun i t ht => ?_⟩
    obtain ⟨a', c', h3, h4⟩ := h2 i t ht
    refine ⟨a', c', fun j hj => ?_, ih t (List.mem_of_getElem? ht) h4⟩
    rw [← h3 j hj]
    unfold World.cell?
    rw [hk b h1 hb]
set_option maxHeartbeats 8000000 in
set_option maxRecDepth 100000 in
theorem set_any (K pt : Nat) (mo : Option Nat) (L : List (ByteArray × T)) (s : ByteArray) (hs : s.size ≤ 1048576) (t : T) (hz : t.size ≤ 2097152) (hf : t.fit) (x : Value) (w : World) (hT : TabK K w pt mo L) (hx : IsT w x t) :
    Calls Tryz.prog 11 #[.pointer (some ⟨pt, 0, none⟩), .string s, x] w (SetR K w pt mo L s t) := by
  obtain ⟨a, cap, rfl, hA⟩ := hx
  have HA := Lib.hid hA
  have HT := Lib.hid hT
  have HF := Lib.hid hf
  clear hA hT hf
  have hmm := @run_makeMap Tryz.prog
  obtain ⟨n, hn⟩ : ∃ n, t.l.length = n := ⟨_, rfl⟩
  have HI : Hid (∀ W, Below w.heap.size w W → IsT W (nagg t.o (.slice a n cap)) t) := fun W hW => ⟨a, cap, by rw [hn], HA.out.below hW t⟩
  rw [hn]
  have HN := Lib.hid hn
  clear hn
  rw [nagg_eq]
  go_enter Tryz.func11, Tryz.ntmps11
  go_upto_region 1 with fail
  refine abs_world ?_
  intro W0 hW0
  have hB0 : Below w.heap.size w W0 := by rw [hW0]; (repeat (first | with_reducible exact Below.refl _ _ | with_reducible exact hBW | with_reducible refine Below.setCell ?_ ?_ _ | with_reducible refine Below.alloc ?_ ?_ _ | with_reducible refine belowN ?_ _ | with_reducible refine Below.drew ?_)); all_goals (first | omega | (dsimp only; omega) | ((repeat (first | with_reducible refine le_alloc ?_ | with_reducible refine le_setCell ?_ | with_reducible refine le_drew ?_ | with_reducible refine le_drewN ?_)); omega))
  have g0 : W0.heap[w.heap.size]? = some (.cells (ncells t.o (.slice a n cap)).toArray 42) := by rw [hW0]; exact heap_alloc_new w _
  have G0 := Lib.hid g0
  have HB0 := Lib.hid hB0
  clear hW0 g0 hB0
  go_wp2_with fail
  refine (rightN_any s hs _).mono ?_
  rintro e w1 ⟨rfl, hb1⟩
  have HB1 : Hid (Below w.heap.size w w1) := HB0.out.trans (hb1.mono HB0.out.size)
  have G1 : Hid (w1.heap[w.heap.size]? = some (.cells (ncells t.o (.slice a n cap)).toArray 42)) := (hb1.block _ (lt_of_heap G0.out)).trans G0.out
  clear hb1 G0 HB0
  cases hnm : nameP s with
  | false =>
    have Y : Hid (setE L s t = 9) := by unfold Hid setE; rw [hnm]; rfl
    go_wp2_with fail
    go_ret
    exact set_no HT.out Y.out (by decide) HB1.out
  | true =>
  have RB1 := Lib.hid (range_blk G1.out)
  go_wp2_with (refine wpList_load_g rfl 42 (.tmp 5) rfl w.heap.size 0 rfl _ _ RB1.out Tryz.underlying42 rfl info35 ?_)
  refine (checkT_any t hz HF.out _ w1 (HI.out w1 HB1.out)).mono ?_
  rintro e w2 ⟨rfl, hb2⟩
  have HB2 : Hid (Below w.heap.size w w2) := HB1.out.trans (hb2.mono HB1.out.size)
  have G2 : Hid (w2.heap[w.heap.size]? = some (.cells (ncells t.o (.slice a n cap)).toArray 42)) := (hb2.block _ (lt_of_heap G1.out)).trans G1.out
  clear hb2 G1 RB1
  by_cases hc : checkP t = 0
  case neg =>
    have e0 : (checkP t != 0) = true := by simp [hc]
    have HC := Lib.hid hc
    clear hc
    have Y : Hid (setE L s t = checkP t) := by unfold Hid setE; rw [hnm, if_neg (by simp), if_pos HC.out]
    go_wp2_with fail
    go_ret
    exact set_no HT.out Y.out (by exact HC.out) HB2.out
  have HC := Lib.hid hc
  rw [hc]
  clear hc
  have RB2 := Lib.hid (range_blk G2.out)
  go_wp2_with (refine wpList_load_g rfl 42 (.tmp 5) rfl w.heap.size 0 rfl _ _ RB2.out Tryz.underlying42 rfl info35 ?_)
  refine (hasFree_any t hz _ w2 (HI.out w2 HB2.out)).mono ?_
  rintro e w3 ⟨rfl, hb3⟩
  have HB3 : Hid (Below w.heap.size w w3) := HB2.out.trans (hb3.mono HB2.out.size)
  have G3 : Hid (w3.heap[w.heap.size]? = some (.cells (ncells t.o (.slice a n cap)).toArray 42)) := (hb3.block _ (lt_of_heap G2.out)).trans G2.out
  clear hb3 G2 RB2 HB2
  cases hcal : calT t [] false with
  | true =>
    have Y : Hid (setE L s t = 17) := by unfold Hid setE; rw [hnm, if_neg (by simp), if_neg (by rw [HC.out]; simp), hcal]; rfl
    go_wp2_with fail
    go_ret
    exact set_no HT.out Y.out (by decide) HB3.out
  | false =>
  have HE : Hid (setE L s t = if getL L s = none ∧ 100 ≤ L.length then 5 else 0) := by
    unfold Hid setE
    rw [hnm, if_neg (by simp), if_neg (by rw [HC.out]; simp), hcal, if_neg (by simp)]
  have z0 := lt_of_heap G3.out
  have hp : w3.heap[pt]? = some (.cells #[.map mo] 62) := (HB3.out.block _ (lt_of_heap HT.out.1)).trans HT.out.1
  have x0 := cell_of_heap hp 0
  have zp := lt_of_heap hp
  have HP := Lib.hid hp
  have HV3 := Lib.hid (HT.out.2.1.below HB3.out)
  clear hp
  rcases HV3.out.look s with ⟨hg, hlk⟩ | ⟨u, ua, uc, hg, hA, hlk⟩
  · have hlk0 := hlk w3 (Below.refl _ _)
    have HG := Lib.hid hg
    clear hlk hg
    go_upto_region 11 with (refine wpList_store_nd rfl (.tmp 8) (.tmp 29) rfl w3.heap.size 0 (ncells nd0 (.slice none 0 0)) 42 (heap_alloc_new w3 _) (Nat.le_refl _) nd0 (.slice none 0 0) rfl rfl rfl ?_; intro W4 p1 p2 p3)
    have heq := fun W => eql_mapnil mo W
    have HB34 : Hid (Below w3.heap.size w3 W4) := ((Below.refl _ w3).alloc (Nat.le_refl _) _).trans (p2.below (by simp) (fun k hk => by omega))
    have HWB : Hid (Below w.heap.size w W4) := HB3.out.trans (HB34.out.mono HB3.out.size)
    have HP4 : Hid (W4.heap[pt]? = some (.cells #[.map mo] 62)) := (HB34.out.block _ zp).trans HP.out
    have NB : Hid (W4.heap[w.heap.size]? = some (.cells (ncells t.o (.slice a n cap)).toArray 42)) := (HB34.out.block _ z0).trans G3.out
    have FW : Hid (Fr (fun k => K ≤ k ∧ (k = pt ∨ mo = some k)) w W4) := Fr.of_below HWB.out
    have x4 := cell_of_heap HP4.out 0
    have zp4 := lt_of_heap HP4.out
    have zb0 := lt_of_heap NB.out
    clear p1 p2 p3 x0
    clear hlk0
    rcases (HV3.out.below HB34.out).len with ⟨rfl, hL⟩ | ⟨mt, es, c, rfl, hm, hes⟩
    · have E0 : Hid (setE L s t = 0) := by unfold Hid; rw [HE.out, hL, if_neg (by simp)]
      have HL := Lib.hid hL
      have y4 := frozen_of_heap HP4.out
      clear hL
      rw [Option.isNone_none] at heq
      go_upto_region 15 with fail
      obtain ⟨W6, hW6⟩ : ∃ W6, W6 = (W4.setCell ⟨pt, 0, none⟩ (.map (some W4.heap.size))).alloc (.map #[] 0) := ⟨_, rfl⟩
      rw [← hW6]
      have hsc := World.size_setCell W4 ⟨pt, 0, none⟩ (.map (some W4.heap.size))
      have PW : Hid (W6.heap[pt]? = some (.cells #[.map (some W4.heap.size)] 62)) := by rw [hW6]; exact heap_alloc_old (heap_setCell_at HP4.out 0 _) _
      obtain ⟨mt, hmt⟩ : ∃ mt, mt = W4.heap.size := ⟨_, rfl⟩
      have HM6 : Hid (MapS W6 mt Value.string (id : Value → Value) []) := by
        have h := MapS.new (κ := ByteArray) (W4.setCell ⟨pt, 0, none⟩ (.map (some W4.heap.size))) Value.string (id : Value → Value)
        rw [hsc] at h
        rw [hW6, hmt]
        exact h
      have hlt : w.heap.size ≤ mt := by rw [hmt]; exact HWB.out.size
      have hK : K ≤ w.heap.size := Nat.le_trans HT.out.2.2.1 (Nat.le_of_lt (lt_of_heap HT.out.1))
      have FW6 : Hid (Fr (fun k => K ≤ k ∧ (k = pt ∨ (none : Option Nat) = some k)) w W6) := by
        rw [hW6]
        exact (FW.out.trans ((Fr.setCell W4 ⟨pt, 0, none⟩ _).mono (fun k _ h => ⟨h ▸ HT.out.2.2.1, .inl h⟩)) (fun _ _ h => h)).trans (fr_alloc _ _) (fun _ _ h => h)
      have HW6 : Hid (∀ k, k < W4.heap.size → k ≠ pt → W6.heap[k]? = W4.heap[k]?) := fun k hk hne => by
        rw [hW6]
        exact (Below.heap_alloc _ _ _ (by rw [hsc]; exact hk)).trans (Below.heap_setCell _ _ _ _ hne)
      have NB6 : Hid (W6.heap[w.heap.size]? = some (.cells (ncells t.o (.slice a n cap)).toArray 42)) := (HW6.out _ zb0 (by have := lt_of_heap HT.out.1; omega)).trans NB.out
      have HI6 : Hid (IsT W6.drew (nagg t.o (.slice a n cap)) t) := ⟨a, cap, by rw [HN.out], by
        have h1 : t.At W6 a := T.At.but HP4.out (by rw [hW6, World.size_alloc, hsc]; omega) HW6.out t (HA.out.below HWB.out t)
        exact h1.below (Below.refl _ W6).drew t⟩
      have HTL6 : Hid (TabL W6 [] L) := ⟨by rw [HL.out]; rfl, fun i s t hi => by rw [HL.out] at hi; simp at hi⟩
      have zb6 := lt_of_heap NB6.out
      have zp6 := lt_of_heap PW.out
      have x6 := cell_of_heap PW.out 0
      rw [← hmt] at PW x6
      have hom : (none : Option Nat) = some mt ∨ w.heap.size ≤ mt := .inr hlt
      have hKm : K ≤ mt := Nat.le_trans hK hlt
      have HOM := Lib.hid (And.intro hKm hlt)
      have HMP := HM6
      have HTL := HTL6
      clear FW NB zb0 zp4 x4 hW6 hmt hsc HW6 hlt hK hom hKm y4 HWB
      have FW := FW6
      have NB := NB6
      have zb0 := zb6
      clear FW6 NB6 HM6 HTL6 zb6
      have LDN := load_nd (o := t.o) (s := .slice a n cap) (b := w.heap.size) (off := 0) (w := W6) zb0 (nd_blk NB.out)
      try go_wp2_with fail
      refine wp_region_multiR [([5, 0, 4, 1, 2, 3], [6, 7], [7])] (by kernel_rfl) (by kernel_rfl) ?_
      refine multi_phase (Below W6.heap.size W6) (Below.refl _ _).drew ?_
      apply first_load; (rw [List.getElem?_toArray]; (repeat rw [List.getElem?_cons_succ]); rw [List.getElem?_cons_zero]); rfl; rfl; rfl; exact LDN; go_frame
      iterate 5 (first | (apply first_step; (rw [List.getElem?_toArray]; (repeat rw [List.getElem?_cons_succ]); rw [List.getElem?_cons_zero]); rfl; (intro W hB; have hc := bcellB hB; go_simp; (first | done | rfl)); go_frame) | (apply first_skip; (rw [List.getElem?_toArray]; (repeat rw [List.getElem?_cons_succ]); rw [List.getElem?_cons_zero]); rfl; go_frame))
      refine first_done ?_
      apply forced_step; (rw [List.getElem?_toArray]; (repeat rw [List.getElem?_cons_succ]); rw [List.getElem?_cons_zero]); rfl; intro K hK; go_simp
      refine (copied_any t hz _ W6.drew HI6.out).mono ?_
      rintro e w5 ⟨a5, S5, rfl, hO5, hS5, hb5⟩
      have hb5' : Below W6.heap.size W6 w5 := (Below.refl _ W6).drew.trans hb5
      obtain ⟨w6, hup, hm6, hf6, hz6⟩ := (HMP.out.of_block (hb5'.block mt HMP.out.lt')).upd (string_fits Tryz.underlying9) Tryz.underlying60 s (nagg t.o (.slice a5 t.l.length t.l.length))
      have FIN := Lib.hid (set_fin HT.out E0.out FW.out PW.out HMP.out HTL.out HOM.out.1 (.inr HOM.out.2) hb5' hO5 hm6 hf6)
      refine hK _ _ (fun _ => hb5') ?_
      clear hK K hm6 hf6 hz6 hO5 hS5 hb5 LDN
      unfold id at hup
      apply forced_step; (rw [List.getElem?_toArray]; (repeat rw [List.getElem?_cons_succ]); rw [List.getElem?_cons_zero]); rfl; intro K hK; go_simp
      refine hK _ _ (fun h => absurd (by decide) h) ?_
      clear hK K hup
      refine forced_done ?_
      refine multi_done ?_
      go_wp2_with fail
      go_ret
      exact FIN.out
    · obtain ⟨vs, hmap, htl⟩ := HV3.out.below HB34.out
      have HMP := Lib.hid hmap
      have HTL := Lib.hid htl
      clear hmap htl
      rw [Option.isNone_some] at heq
      have hln := len_map hm
      rw [hes] at hln
      clear hes hm
      by_cases h100 : 100 ≤ L.length
      · have e100 : decide ((100 : Int) ≤ (L.length : Int)) = true := by simp; omega
        have Y : Hid (setE L s t = 5) := by unfold Hid; rw [HE.out, if_pos ⟨HG.out, h100⟩]
        clear h100
        go_wp2_with fail
        go_ret
        exact set_no HT.out Y.out (by decide) HWB.out
      · have e100 : decide ((100 : Int) ≤ (L.length : Int)) = false := by simp; omega
        have E0 : Hid (setE L s t = 0) := by unfold Hid; rw [HE.out, if_neg (fun h => h100 h.2)]
        have PW := HP4
        clear h100
        have LDN := load_nd (o := t.o) (s := .slice a n cap) (b := w.heap.size) (off := 0) (w := W4) zb0 (nd_blk NB.out)
        try go_wp2_with fail
        refine wp_region_multiR [([5, 0, 4, 1, 2, 3], [6, 7], [7])] (by kernel_rfl) (by kernel_rfl) ?_
        refine multi_phase (Below W4.heap.size W4) (Below.refl _ _).drew ?_
        apply first_load; (rw [List.getElem?_toArray]; (repeat rw [List.getElem?_cons_succ]); rw [List.getElem?_cons_zero]); rfl; rfl; rfl; exact LDN; go_frame
        iterate 5 (first | (apply first_step; (rw [List.getElem?_toArray]; (repeat rw [List.getElem?_cons_succ]); rw [List.getElem?_cons_zero]); rfl; (intro W hB; have hc := bcellB hB; go_simp; (first | done | rfl)); go_frame) | (apply first_skip; (rw [List.getElem?_toArray]; (repeat rw [List.getElem?_cons_succ]); rw [List.getElem?_cons_zero]); rfl; go_frame))
        refine first_done ?_
        apply forced_step; (rw [List.getElem?_toArray]; (repeat rw [List.getElem?_cons_succ]); rw [List.getElem?_cons_zero]); rfl; intro K hK; go_simp
        refine (copied_any t hz _ W4.drew (HI.out _ HWB.out.drew)).mono ?_
        rintro e w5 ⟨a5, S5, rfl, hO5, hS5, hb5⟩
        have hb5' : Below W4.heap.size W4 w5 := (Below.refl _ W4).drew.trans hb5
        obtain ⟨w6, hup, hm6, hf6, hz6⟩ := (HMP.out.of_block (hb5'.block mt HMP.out.lt')).upd (string_fits Tryz.underlying9) Tryz.underlying60 s (nagg t.o (.slice a5 t.l.length t.l.length))
        have FIN := Lib.hid (set_fin HT.out E0.out FW.out PW.out HMP.out HTL.out (HT.out.2.2.2 mt rfl) (.inl rfl) hb5' hO5 hm6 hf6)
        refine hK _ _ (fun _ => hb5') ?_
        clear hK K hm6 hf6 hz6 hO5 hS5 hb5 LDN
        unfold id at hup
        apply forced_step; (rw [List.getElem?_toArray]; (repeat rw [List.getElem?_cons_succ]); rw [List.getElem?_cons_zero]); rfl; intro K hK; go_simp
        refine hK _ _ (fun h => absurd (by decide) h) ?_
        clear hK K hup
        refine forced_done ?_
        refine multi_done ?_
        go_wp2_with fail
        go_ret
        exact FIN.out
  · have hlk0 := hlk w3 (Below.refl _ _)
    have E0 : Hid (setE L s t = 0) := by unfold Hid; rw [HE.out, if_neg (fun h => by rw [hg] at h; cases h.1)]
    have HG := Lib.hid hg
    clear hlk hg hA
    go_upto_region 11 with (refine wpList_store_nd rfl (.tmp 8) (.tmp 29) rfl w3.heap.size 0 (ncells nd0 (.slice none 0 0)) 42 (heap_alloc_new w3 _) (Nat.le_refl _) u.o (.slice ua u.l.length uc) rfl rfl rfl ?_; intro W4 p1 p2 p3)
    have heq := fun W => eql_mapnil mo W
    have HB34 : Hid (Below w3.heap.size w3 W4) := ((Below.refl _ w3).alloc (Nat.le_refl _) _).trans (p2.below (by simp) (fun k hk => by omega))
    have HWB : Hid (Below w.heap.size w W4) := HB3.out.trans (HB34.out.mono HB3.out.size)
    have HP4 : Hid (W4.heap[pt]? = some (.cells #[.map mo] 62)) := (HB34.out.block _ zp).trans HP.out
    have NB : Hid (W4.heap[w.heap.size]? = some (.cells (ncells t.o (.slice a n cap)).toArray 42)) := (HB34.out.block _ z0).trans G3.out
    have FW : Hid (Fr (fun k => K ≤ k ∧ (k = pt ∨ mo = some k)) w W4) := Fr.of_below HWB.out
    have x4 := cell_of_heap HP4.out 0
    have zp4 := lt_of_heap HP4.out
    have zb0 := lt_of_heap NB.out
    clear p1 p2 p3 x0
    clear hlk0
    cases mo with
    | none =>
      have hL : L = [] := HT.out.2.1
      have := HG.out
      rw [hL] at this
      cases this
    | some mt =>
      obtain ⟨vs, hmap, htl⟩ := HV3.out.below HB34.out
      have HMP := Lib.hid hmap
      have HTL := Lib.hid htl
      clear hmap htl
      rw [Option.isNone_some] at heq
      have PW := HP4
      have LDN := load_nd (o := t.o) (s := .slice a n cap) (b := w.heap.size) (off := 0) (w := W4) zb0 (nd_blk NB.out)
      try go_wp2_with fail
      refine wp_region_multiR [([5, 0, 4, 1, 2, 3], [6, 7], [7])] (by kernel_rfl) (by kernel_rfl) ?_
      refine multi_phase (Below W4.heap.size W4) (Below.refl _ _).drew ?_
      apply first_load; (rw [List.getElem?_toArray]; (repeat rw [List.getElem?_cons_succ]); rw [List.getElem?_cons_zero]); rfl; rfl; rfl; exact LDN; go_frame
      iterate 5 (first | (apply first_step; (rw [List.getElem?_toArray]; (repeat rw [List.getElem?_cons_succ]); rw [List.getElem?_cons_zero]); rfl; (intro W hB; have hc := bcellB hB; go_simp; (first | done | rfl)); go_frame) | (apply first_skip; (rw [List.getElem?_toArray]; (repeat rw [List.getElem?_cons_succ]); rw [List.getElem?_cons_zero]); rfl; go_frame))
      refine first_done ?_
      apply forced_step; (rw [List.getElem?_toArray]; (repeat rw [List.getElem?_cons_succ]); rw [List.getElem?_cons_zero]); rfl; intro K hK; go_simp
      refine (copied_any t hz _ W4.drew (HI.out _ HWB.out.drew)).mono ?_
      rintro e w5 ⟨a5, S5, rfl, hO5, hS5, hb5⟩
      have hb5' : Below W4.heap.size W4 w5 := (Below.refl _ W4).drew.trans hb5
      obtain ⟨w6, hup, hm6, hf6, hz6⟩ := (HMP.out.of_block (hb5'.block mt HMP.out.lt')).upd (string_fits Tryz.underlying9) Tryz.underlying60 s (nagg t.o (.slice a5 t.l.length t.l.length))
      have FIN := Lib.hid (set_fin HT.out E0.out FW.out PW.out HMP.out HTL.out (HT.out.2.2.2 mt rfl) (.inl rfl) hb5' hO5 hm6 hf6)
      refine hK _ _ (fun _ => hb5') ?_
      clear hK K hm6 hf6 hz6 hO5 hS5 hb5 LDN
      unfold id at hup
      apply forced_step; (rw [List.getElem?_toArray]; (repeat rw [List.getElem?_cons_succ]); rw [List.getElem?_cons_zero]); rfl; intro K hK; go_simp
      refine hK _ _ (fun h => absurd (by decide) h) ?_
      clear hK K hup
      refine forced_done ?_
      refine multi_done ?_
      go_wp2_with fail
      go_ret
      exact FIN.out
end Go.Proofs.YtlcglkanlhmmdaaGreat
