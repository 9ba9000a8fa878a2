/- The law's same: has a table what the document's has? -/
import Derived.Test.YtlcglkanlhmmdaaGreatQKZ
import Derived.Test.YtlcglkanlhmmdaaGreatQN17Find
import Derived.Test.YtlcglkanlhmmdaaGreatQZ17Drop
import Derived.Test.YtlcglkanlhmmdaaGreatQN17Iter
namespace Go.Proofs.YtlcglkanlhmmdaaGreat
open Go.RowKit Go.Shelf Go.Maps
attribute [local go_sem] Oper.semAt_some
theorem Fr.low {S : Nat → Prop} {A W W' : World} (h : Fr S A W) (hb : Below A.heap.size W W') : Fr S A W' :=
  ⟨hb.os.trans h.os, hb.tape.trans h.tape, hb.output.trans h.output, Nat.le_trans h.size hb.size, fun k hk hn => (hb.block k hk).trans (h.block k hk hn)⟩
set_option maxHeartbeats 4000000 in
set_option maxRecDepth 100000 in
theorem same17_any (K pt : Nat) (mo : Option Nat) (L R : List (ByteArray × T)) (hA : Agree L R) (hr : Rise R) (hl : L.length ≤ 1000) (hz : ∀ p ∈ L, p.2.size ≤ 2097152 ∧ p.1.size ≤ 1048576) (ra : Option Addr) (rc : Nat) (w : World) (hT : TabK K w pt mo L) (hRA : RowsAt w ra R) :
    Calls Tryz.prog 17 #[.pointer (some ⟨pt, 0, none⟩), .agg #[.slice ra R.length rc]] w fun e w' => e = .returned (.bool true) ∧ Below w.heap.size w w' := by
  have HSR : Hid (sortP L = R) := hA.sort hr
  have HLN : Hid (R.length = L.length) := hA.len
  obtain ⟨n, hn⟩ : ∃ n, R.length = n := ⟨_, rfl⟩
  rw [hn]
  have HN := Lib.hid hn
  have HT := Lib.hid hT
  have HRA := Lib.hid hRA
  have HZ := Lib.hid hz
  have hn1 : n ≤ 1000 := by rw [← hn, HLN.out]; exact hl
  clear hA hr hz hT hRA hn
  refine (callsIn_wide (n := 8)).1 ?_
  refine callsIn_of_wp_marks Tryz.func17 rfl trivial ?_ rfl
  simp only [Tryz.ntmps17, List.size_toArray, List.length_cons, List.length_nil, Nat.reduceAdd, Nat.reduceSub, Array.replicate_succ, Array.replicate_zero, List.push_toArray, List.append_toArray, List.nil_append, List.cons_append]
  refine wpIn_wide.2 ?_
  go_upto_region 2 with fail
  refine abs_world ?_
  intro W0 hW0
  have g3 : W0.heap[w.heap.size]? = some (.cells #[.slice ra n rc] 29) := by rw [hW0]; exact heap_alloc_old (heap_alloc_old (heap_alloc_new w _) _) _
  have g4 : W0.heap[w.heap.size + 1]? = some (.cells #[.bool false] 4) := by rw [hW0]; exact heap_alloc_old (heap_alloc_at (by simp) _) _
  have g5 : W0.heap[w.heap.size + 1 + 1]? = some (.cells #[.int .i64 0] 3) := by rw [hW0]; exact heap_alloc_at (by simp) _
  have hb0 : Below w.heap.size w W0 := by rw [hW0]; (repeat (first | with_reducible exact Below.refl _ _ | with_reducible exact hBW | with_reducible refine Below.setCell ?_ ?_ _ | with_reducible refine Below.alloc ?_ ?_ _ | with_reducible refine belowN ?_ _ | with_reducible refine Below.drew ?_)); all_goals (first | omega | (dsimp only; omega) | ((repeat (first | with_reducible refine le_alloc ?_ | with_reducible refine le_setCell ?_ | with_reducible refine le_drew ?_ | with_reducible refine le_drewN ?_)); omega))
  have hs0 : Hid (W0.heap.size = w.heap.size + 3) := by rw [hW0]; unfold Hid; simp
  have HT0 := Lib.hid (HT.out.below hb0)
  have HR0 := Lib.hid (HRA.out.below hb0)
  have HB0 := Lib.hid hb0
  have G3 := Lib.hid g3
  have G4 := Lib.hid g4
  have G5 := Lib.hid g5
  have hpt : Hid (pt < w.heap.size) := lt_of_heap HT.out.1
  clear hW0 g3 g4 g5 hb0 HT HRA
  go_wp2_with fail
  refine (all20_any pt W0).mono ?_
  rintro e w3 ⟨rfl, hw3⟩
  have hb3 : Below W0.heap.size W0 w3 := by rw [hw3]; exact below_alloc _ _ _ (Nat.le_refl _)
  have GB : Hid (w3.heap[W0.heap.size]? = some (.cells #[.pointer (some ⟨pt, 0, none⟩)] 25)) := by rw [hw3]; exact heap_alloc_new W0 _
  have H3 : Hid (w3.heap[w.heap.size]? = some (.cells #[.slice ra n rc] 29)) := (hb3.block _ (lt_of_heap G3.out)).trans G3.out
  have H4 : Hid (w3.heap[w.heap.size + 1]? = some (.cells #[.bool false] 4)) := (hb3.block _ (lt_of_heap G4.out)).trans G4.out
  have H5 : Hid (w3.heap[w.heap.size + 1 + 1]? = some (.cells #[.int .i64 0] 3)) := (hb3.block _ (lt_of_heap G5.out)).trans G5.out
  have HT3 := Lib.hid (HT0.out.below hb3)
  have HR3 := Lib.hid (HR0.out.below hb3)
  have HB3 : Hid (Below w.heap.size w w3) := HB0.out.trans (hb3.mono HB0.out.size)
  obtain ⟨c5, hc5⟩ : ∃ c5, c5 = w.heap.size + 1 + 1 := ⟨_, rfl⟩
  rw [← hc5] at H5 ⊢
  have HC5 := Lib.hid hc5
  have hB3' : Hid (W0.heap.size < w3.heap.size) := lt_of_heap GB.out
  clear hw3 hb3 HT0 HR0 HB0 G3 G4 G5 hc5
  have KEEP : Hid (∀ W, Fr (fun k => k = c5) w3 W → W.heap[w.heap.size]? = some (.cells #[.slice ra n rc] 29) ∧ W.heap[w.heap.size + 1]? = some (.cells #[.bool false] 4) ∧ RowsAt W ra R ∧ Below w.heap.size w W) := fun W hf => by
    have h := HC5.out
    have hth : ∀ k, k = c5 → Thin w3 k := fun k hk => by rw [hk]; exact thin_cells H5.out
    exact ⟨(hf.block _ (lt_of_heap H3.out) (by omega)).trans H3.out, (hf.block _ (lt_of_heap H4.out) (by omega)).trans H4.out, HR3.out.thin hf hth, HB3.out.trans (hf.below HB3.out.size (fun k hk => by omega))⟩
  go_wp2_with fail
  refine (wpIn_wide (n := 8)).1 ?_
  refine range_gb (Z := fun k => k = c5) (A := ?A) rfl (by omega) (gf := 46) (lb := #[.pointer (some ⟨W0.heap.size, 0, none⟩)]) rfl trivial (enters_of Tryz.func46 (by kernel_rfl) rfl)
    (iter_stops W0.heap.size pt L _ w3 (fun k hk => by subst hk; exact ⟨⟨_, _, _, H5.out⟩, by have := hpt.out; have := HC5.out; omega, by have := hs0.out; have := HC5.out; omega⟩) GB.out HT3.out.tab hl HZ.out) (fun _ => rfl) (fun pre x W W' h hk => h.kz pre x W W' hk)
    (fun pre W => Fr (fun k => k = c5) w3 W ∧ W.heap[c5]? = some (Obj.cells #[.int .i64 (pre.length : Int)] 3)) (fun _ _ _ => False) ?lowI ?lowX ⟨Fr.refl _ _, H5.out⟩
    (fun x b W => W.heap[b]? = some (Obj.cells (ncells x.t.o (.slice x.a x.t.l.length x.c)).toArray 42)) ?hP ?assign ?body ?done ?stop
  case lowI => exact fun pre A B h hb => ⟨h.1.low hb, (hb.block _ (lt_of_heap H5.out)).trans h.2⟩
  case lowX => exact fun c pre A B h hb => h.elim
  case hP => exact fun x b W W' h hk => hk.same b _ (fun h => h) h (.inl rfl)
  case assign =>
    intro l pre x W K hG hK
    obtain ⟨bx, hbx⟩ : ∃ bx, bx = W.heap.size := ⟨_, rfl⟩
    unfold encI
    gi_wp2_with (refine wpListIn_store_nd rfl (.tmp 7) (.tmp 11) rfl W.heap.size 0 (ncells nd0 (.slice none 0 0)) 42 (heap_alloc_new W _) (Nat.le_refl _) x.t.o (.slice x.a x.t.l.length x.c) rfl rfl rfl ?_; intro W4 p1 p2 p3)
    have hb4 : Below W.heap.size W W4 := ((Below.refl _ W).alloc (Nat.le_refl _) _).trans (p2.below (by simp) (fun k hk => by omega))
    go_frame
    rw [← hbx] at p1 ⊢
    exact hK bx W4 hbx hb4 p1
  case body =>
    rintro l pre x bx W hl2 ⟨r, hr⟩ ⟨hF, hc⟩ hlt hG hbx
    have hpl : pre.length < n := by rw [← HN.out, HLN.out]; exact hlt
    have hRx : R[pre.length]? = some (x.s, x.t) := by rw [← HSR.out]; exact hG.1
    obtain ⟨k3, k4, kR, kB⟩ := KEEP.out W hF
    obtain ⟨q, qo, rfl, hq, hall⟩ := kR (by have := HN.out; omega)
    obtain ⟨hc0, ua, uc, hnd, hat⟩ := hall pre.length x.s x.t hRx
    have x3 := cell_of_heap k3 0
    have z3 := lt_of_heap k3
    have x5 := cell_of_heap hc 0
    have z5 := lt_of_heap hc
    have LDR := load_nd (o := x.t.o) (s := .slice ua x.t.l.length uc) (b := q) (off := qo + pre.length * 23 + 1) (w := W) hq hnd
    have LDX := load_nd (o := x.t.o) (s := .slice x.a x.t.l.length x.c) (b := bx) (off := 0) (w := W) (lt_of_heap hbx) (nd_blk hbx)
    have hmem : x.key ∈ L := (sortP_perm L).mem_iff.1 (List.mem_of_getElem? hG.1)
    have HXZ : Hid (x.t.size ≤ 2097152) := (HZ.out x.key hmem).1
    have j0 : decide ((pre.length : Int) ≥ (n : Int)) = false := by simp; omega
    have j1 : (0 : Int) ≤ (pre.length : Int) := by omega
    have j2 : (pre.length : Int) < (n : Int) := by omega
    have HAT := Lib.hid hat
    have HXA := Lib.hid hG.2.1.at
    have HF := Lib.hid hF
    have HC := Lib.hid hc
    clear hall hRx hG hmem hbx kR kB k3 k4 hr hlt hF hc hnd hat
    gi_wp2_with fail
    refine wpIn_region_multiR [([0, 1, 2, 3, 4, 5, 6, 7, 8, 9, 10, 11, 12, 13, 14, 15, 16, 17, 18, 19, 20, 21, 22], [23], [23, 24, 25]), ([24, 25], [], [])] (by kernel_rfl) (by kernel_rfl) (by kernel_rfl) (by rintro ⟨a, w, h⟩; exact h) ?_
    refine multi_phase (Below W.heap.size W) (Below.refl _ _).drew ?_
    iterate 5 (first | (apply first_step; (rw [List.getElem?_toArray]; (repeat rw [List.getElem?_cons_succ]); rw [List.getElem?_cons_zero]); rfl; (intro W hB; have hc := bcellB hB; go_simp; (first | done | rfl)); go_frame) | (apply first_skip; (rw [List.getElem?_toArray]; (repeat rw [List.getElem?_cons_succ]); rw [List.getElem?_cons_zero]); rfl; go_frame))
    rw [show decide (n ≤ pre.length) = false from by simp; omega]
    iterate 16 (first | (apply first_step; (rw [List.getElem?_toArray]; (repeat rw [List.getElem?_cons_succ]); rw [List.getElem?_cons_zero]); rfl; (intro W hB; have hc := bcellB hB; go_simp; (first | done | rfl)); go_frame) | (apply first_skip; (rw [List.getElem?_toArray]; (repeat rw [List.getElem?_cons_succ]); rw [List.getElem?_cons_zero]); rfl; go_frame))
    apply first_load; (rw [List.getElem?_toArray]; (repeat rw [List.getElem?_cons_succ]); rw [List.getElem?_cons_zero]); rfl; rfl; rfl; exact LDR; go_frame
    apply first_load; (rw [List.getElem?_toArray]; (repeat rw [List.getElem?_cons_succ]); rw [List.getElem?_cons_zero]); rfl; rfl; rfl; exact LDX; go_frame
    refine first_done ?_
    clear LDR LDX hc0 x3 z3 x5 z5 hq
    apply forced_step; (rw [List.getElem?_toArray]; (repeat rw [List.getElem?_cons_succ]); rw [List.getElem?_cons_zero]); rfl; intro K hK; go_simp
    have SM := same_any x.t (by have := HXZ.out; omega) x.t (nagg x.t.o (.slice ua x.t.l.length uc)) (nagg x.t.o (.slice x.a x.t.l.length x.c)) W.drew ⟨ua, uc, rfl, HAT.out.below (Below.refl _ W).drew x.t⟩ ⟨x.a, x.c, rfl, HXA.out.below (Below.refl _ W).drew x.t⟩
    rw [(T.same_iff _ _).2 rfl] at SM
    refine SM.mono ?_
    rintro e w6 ⟨rfl, hb6⟩
    have HB6 : Hid (Below W.heap.size W w6) := (Below.refl _ W).drew.trans hb6
    refine hK _ _ (fun h => absurd (by decide) h) ?_
    clear hK K SM hb6
    refine forced_done ?_
    refine multi_phase (fun _ => True) trivial ?_
    iterate 2 (first | (apply first_step; (rw [List.getElem?_toArray]; (repeat rw [List.getElem?_cons_succ]); rw [List.getElem?_cons_zero]); rfl; (intro W hB; go_simp; (first | done | rfl)); go_frame) | (apply first_skip; (rw [List.getElem?_toArray]; (repeat rw [List.getElem?_cons_succ]); rw [List.getElem?_cons_zero]); rfl; go_frame))
    refine first_done ?_
    refine forced_done ?_
    refine multi_done ?_
    have C6 : Hid (w6.heap[c5]? = some (.cells #[.int .i64 (pre.length : Int)] 3)) := (HB6.out.block _ (lt_of_heap HC.out)).trans HC.out
    have x8 := cell_of_heap C6.out 0
    have y8 := frozen_of_heap C6.out
    have z8 := lt_of_heap C6.out
    have i1 : IntKind.i64.wrap ((pre.length : Int) + 1) = (pre.length : Int) + 1 := IntWalk.i64_in _ (by omega)
    gi_wp2
    refine ⟨(keeps_of_fr (S := fun _ => False) (Fr.of_below HB6.out) (fun _ h => h.elim)).trans ((KeepsOthers.setCell _ _ _).from _), (KZ.of_below HB6.out).trans (KZ.of_fr ((Fr.setCell w6 ⟨c5, 0, none⟩ _).mono (fun k _ h => .inl h))), (HF.out.trans (Fr.of_below HB6.out) (fun _ _ h => h)).trans (Fr.setCell w6 ⟨c5, 0, none⟩ _) (fun _ _ h => h), ?_⟩
    rw [List.length_append, List.length_singleton, Int.natCast_add]
    exact heap_setCell_at C6.out 0 _
  case stop => exact fun D c pre W _ _ h => h.elim
  case done =>
    rintro D xs W hD hS ⟨hF, hc⟩ hDD
    have hxl : xs.length = n := by have := congrArg List.length hS; rw [List.length_map, HSR.out, HN.out] at this; exact this
    rw [hxl] at hc
    obtain ⟨k3, k4, _, kB⟩ := KEEP.out W hF
    have x3 := cell_of_heap k3 0
    have z3 := lt_of_heap k3
    have x4 := cell_of_heap k4 0
    have y4 := frozen_of_heap k4
    have z4 := lt_of_heap k4
    have x5 := cell_of_heap hc 0
    have z5 := lt_of_heap hc
    have HD := Lib.hid hDD
    have K4 := Lib.hid k4
    have KB := Lib.hid kB
    have HDl : Hid (w.heap.size + 2 ≤ D) := by have := hB3'.out; have := hs0.out; show _ ≤ _; omega
    clear hxl hS hF hc hDD hD k3 k4 kB
    go_wp2_with fail
    have gy := heap_setCell_at K4.out 0 (.bool true)
    have dE := (KeepsOthers.setCell W ⟨w.heap.size + 1, 0, none⟩ (.bool true)).same D _ HD.out rfl
    have q1 := (keep_put (D := D) (o' := .deferred none) dE (lt_of_heap gy) (by have := HDl.out; omega)).trans gy
    have h3 := cell_of_heap q1
    refine end_ret dE (.bool true) ?_ ⟨rfl, below_put (KB.out.setCell (p := ⟨w.heap.size + 1, 0, none⟩) (Nat.le_succ _) _) (Nat.le_refl _) _ (by have := HDl.out; omega)⟩
    simp [results, Tryz.results17, go_sem, h3]
end Go.Proofs.YtlcglkanlhmmdaaGreat
