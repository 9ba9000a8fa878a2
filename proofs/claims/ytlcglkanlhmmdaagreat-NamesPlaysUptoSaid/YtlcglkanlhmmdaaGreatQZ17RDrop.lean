/- ref17: Drop, Get. -/
import Derived.Test.YtlcglkanlhmmdaaGreatQN17RSet
import Derived.Test.YtlcglkanlhmmdaaGreatQZ17P
namespace Go.Proofs.YtlcglkanlhmmdaaGreat
open Go.RowKit
/-- The cells of rows in memory, as a list. -/
theorem RowsAt.src {w : World} {a : Option Addr} {R : List (ByteArray × T)} (h : RowsAt w a R) (h0 : 0 < R.length) : ∃ (b off : Nat) (es : List (ByteArray × Nd × Value)), a = some ⟨b, off, none⟩ ∧ b < w.heap.size ∧ es.length = R.length ∧ (∀ j v, (rowN es)[j]? = some v → w.cell? ⟨b, off + j, none⟩ = some v) ∧
    ∀ (i : Nat) (s : ByteArray) (t : T), R[i]? = some (s, t) → ∃ a' c', es[i]? = some (s, t.o, .slice a' t.l.length c') ∧ t.At w a' := by
  obtain ⟨b, off, h1, h2, h3⟩ := h h0
  have hch : ∀ i : Fin R.length, ∃ p : Option Addr × Nat, w.cell? ⟨b, off + i.1 * 23, none⟩ = some (.string R[i].1) ∧ NdAt w b (off + i.1 * 23 + 1) R[i].2.o (.slice p.1 R[i].2.l.length p.2) ∧ R[i].2.At w p.1 := fun i => by
    obtain ⟨c0, a', c', p1, p2⟩ := h3 i.1 R[i].1 R[i].2 (List.getElem?_eq_getElem i.2)
    exact ⟨(a', c'), c0, p1, p2⟩
  have hch2 : ∃ f : Fin R.length → Option Addr × Nat, ∀ i, w.cell? ⟨b, off + i.1 * 23, none⟩ = some (.string R[i].1) ∧ NdAt w b (off + i.1 * 23 + 1) R[i].2.o (.slice (f i).1 R[i].2.l.length (f i).2) ∧ R[i].2.At w (f i).1 := ⟨fun i => Classical.choose (hch i), fun i => Classical.choose_spec (hch i)⟩
  obtain ⟨f, hf⟩ := hch2
  refine ⟨b, off, List.ofFn fun i : Fin R.length => (R[i].1, R[i].2.o, .slice (f i).1 R[i].2.l.length (f i).2), h1, h2, by simp, ?_, ?_⟩
  · intro j v hv
    have hj := (List.getElem?_eq_some_iff.1 hv).1
    rw [rowN_length, List.length_ofFn] at hj
    have hq : j / 23 < R.length := by omega
    have e : j = j / 23 * 23 + j % 23 := by omega
    have hm : j % 23 < 23 := Nat.mod_lt _ (by omega)
    rw [e, rowN_at (s := R[j / 23].1) (o := R[j / 23].2.o) (v := .slice (f ⟨j / 23, hq⟩).1 R[j / 23].2.l.length (f ⟨j / 23, hq⟩).2) (by simp [hq]) hm] at hv
    have hfi := hf ⟨j / 23, hq⟩
    rw [e]
    by_cases h00 : j % 23 = 0
    · rw [h00] at hv ⊢
      rw [← hv]
      exact hfi.1
    · have h22 : j % 23 - 1 < 22 := by omega
      have hv2 : (ncells R[j / 23].2.o (.slice (f ⟨j / 23, hq⟩).1 R[j / 23].2.l.length (f ⟨j / 23, hq⟩).2))[j % 23 - 1]? = some v := by
        rw [← hv]
        conv => rhs; rw [show j % 23 = (j % 23 - 1) + 1 from by omega]
        rfl
      have := hfi.2.1 (j % 23 - 1) h22
      rw [show off + (j / 23 * 23 + j % 23) = off + j / 23 * 23 + 1 + (j % 23 - 1) from by omega]
      exact this.trans hv2
  · intro i s t ht
    obtain ⟨hi, he⟩ := List.getElem?_eq_some_iff.1 ht
    have e1 : R[i].1 = s := congrArg Prod.fst he
    have e2 : R[i].2 = t := congrArg Prod.snd he
    refine ⟨(f ⟨i, hi⟩).1, (f ⟨i, hi⟩).2, ?_, ?_⟩
    · simp [hi, he]
    · rw [← e2]
      exact (hf ⟨i, hi⟩).2.2
theorem NamO.pushes {w W5 : World} {base : Nat} {v5 : Value} {A B : List (ByteArray × T)} {es fs : List (ByteArray × Nd × Value)} (h2 : es.length = A.length) (h3 : ∀ (i : Nat) (s : ByteArray) (t : T), A[i]? = some (s, t) → ∃ a c, es[i]? = some (s, t.o, .slice a t.l.length c) ∧ t.At w a)
    (hl : fs.length = B.length) (hB : ∀ (i : Nat) (s : ByteArray) (t : T), B[i]? = some (s, t) → ∃ a c, fs[i]? = some (s, t.o, .slice a t.l.length c) ∧ t.At w a) (ho : W5.ownsRow base 70 23 v5 (A.length + B.length) (rowN es ++ rowN fs)) : NamO w W5 base v5 (A ++ B) := by
  refine ⟨es ++ fs, ?_, by simp [h2, hl], fun i s t hi => ?_⟩
  · have e1 : rowN (es ++ fs) = rowN es ++ rowN fs := by unfold rowN; simp
    rw [e1, List.length_append]
    exact ho
  · by_cases hlt : i < A.length
    · rw [List.getElem?_append_left hlt] at hi
      obtain ⟨a', c', p1, p2⟩ := h3 i s t hi
      exact ⟨a', c', by rw [List.getElem?_append_left (by rw [h2]; exact hlt)]; exact p1, p2⟩
    · rw [List.getElem?_append_right (by omega)] at hi
      obtain ⟨a', c', p1, p2⟩ := hB _ s t hi
      exact ⟨a', c', by rw [List.getElem?_append_right (by rw [h2]; omega), h2]; exact p1, p2⟩
theorem rowN_take (es : List (ByteArray × Nd × Value)) (k j : Nat) (v : Value) (h : (rowN (es.take k))[j]? = some v) : (rowN es)[j]? = some v := by
  have e : rowN es = rowN (es.take k) ++ rowN (es.drop k) := by unfold rowN; rw [← List.flatMap_append, List.take_append_drop]
  rw [e, List.getElem?_append_left (List.getElem?_eq_some_iff.1 h).1]
  exact h
theorem rowN_drop (es : List (ByteArray × Nd × Value)) {k : Nat} (hk : k ≤ es.length) (j : Nat) (v : Value) (h : (rowN (es.drop k))[j]? = some v) : (rowN es)[k * 23 + j]? = some v := by
  have e : rowN es = rowN (es.take k) ++ rowN (es.drop k) := by unfold rowN; rw [← List.flatMap_append, List.take_append_drop]
  have hl : (rowN (es.take k)).length = k * 23 := by rw [rowN_length, List.length_take, Nat.min_eq_left hk]
  rw [e, List.getElem?_append_right (by rw [hl]; omega), hl, Nat.add_sub_cancel_left]
  exact h
theorem rowN_one {es : List (ByteArray × Nd × Value)} (h : ∀ p ∈ es, p.2.2.oneCell' = true) : ∀ u ∈ rowN es, u.oneCell' = true := by
  intro u hu
  obtain ⟨p, hp, hu⟩ := List.mem_flatMap.1 hu
  exact one_nm p.1 p.2.1 (h p hp) u hu
theorem NamO.capZ {w wr : World} {base n c : Nat} {a : Option Addr} {A : List (ByteArray × T)} (h : NamO w wr base (.slice a n c) A) : A.length ≤ c := by
  obtain ⟨es, h1, _⟩ := h
  rcases h1.2 with ⟨_, h2⟩ | ⟨g, cap, cur, h2, _, _, h3, _⟩
  · omega
  · cases h2
    exact h3
def dropE (R : List (ByteArray × T)) (s : ByteArray) : Int := if getL R s = none then 3 else 0
def RDropR (w : World) (R : List (ByteArray × T)) (s : ByteArray) : Ending → World → Prop := fun e w' => (∃ a' c', e = .returned (.tuple #[.agg #[.slice a' (delL R s).length c'], .int .i64 (dropE R s)]) ∧ RowsAt w' a' (delL R s) ∧ (delL R s).length ≤ c') ∧ Below w.heap.size w w'
set_option maxHeartbeats 4000000 in
set_option maxRecDepth 100000 in
theorem rdrop_any (R : List (ByteArray × T)) (hR : R.length ≤ 2097152) (hn : (R.map Prod.fst).Nodup) (ra : Option Addr) (rc : Nat) (hrc : R.length ≤ rc) (s : ByteArray) (w : World) (hRA : RowsAt w ra R) :
    Calls Tryz.prog 12 #[.agg #[.slice ra R.length rc], .string s] w (RDropR w R s) := by
  have HRA := Lib.hid hRA
  have HND := Lib.hid hn
  have FND := fun W h => find_any R hR ra rc s W h
  obtain ⟨r, hr⟩ : ∃ r, R.length = r := ⟨_, rfl⟩
  rw [hr] at hR hrc FND ⊢
  have HR := Lib.hid hr
  have FN := Lib.hid FND
  obtain ⟨i0, hii, hi0, hi1, hi2⟩ := info_parts info81w
  have HI := Lib.hid (And.intro hii (And.intro hi0 (And.intro hi1 hi2)))
  clear hRA hr hn FND hii hi0 hi1 hi2
  go_enter Tryz.func12, Tryz.ntmps12
  go_upto_region 1 with fail
  refine abs_world ?_
  intro W0 hW0
  have g0 : W0.heap[w.heap.size]? = some (.cells #[.slice ra r rc] 29) := by rw [hW0]; exact heap_alloc_old (heap_alloc_new w _) _
  have g1 : W0.heap[w.heap.size + 1]? = some (.cells #[.slice none 0 0] 29) := by rw [hW0]; exact heap_alloc_at (by simp) _
  have hB0 : Hid (Below w.heap.size w W0) := by rw [hW0]; unfold Hid; (repeat (first | with_reducible exact Below.refl _ _ | with_reducible exact hBW | with_reducible refine Below.setCell ?_ ?_ _ | with_reducible refine Below.alloc ?_ ?_ _ | with_reducible refine belowN ?_ _ | with_reducible refine Below.drew ?_)); all_goals (first | omega | (dsimp only; omega) | ((repeat (first | with_reducible refine le_alloc ?_ | with_reducible refine le_setCell ?_ | with_reducible refine le_drew ?_ | with_reducible refine le_drewN ?_)); omega))
  have hs0 : Hid (W0.heap.size = w.heap.size + 2) := by rw [hW0]; unfold Hid; simp
  have x0 : W0.cell? ⟨w.heap.size, 0, none⟩ = some (.slice ra r rc) := cell_of_heap g0 0
  have z0 := lt_of_heap g0
  have G0 := Lib.hid g0
  have G1 := Lib.hid g1
  clear hW0 g0 g1
  go_wp2_with fail
  refine (FN.out W0 (HRA.out.below hB0.out)).mono ?_
  rintro e w1 ⟨⟨z, rfl, hF⟩, hb1⟩
  have HB1 : Hid (Below w.heap.size w w1) := hB0.out.trans (hb1.mono hB0.out.size)
  have H0 : Hid (w1.heap[w.heap.size]? = some (.cells #[.slice ra r rc] 29)) := (hb1.block _ (lt_of_heap G0.out)).trans G0.out
  have H1 : Hid (w1.heap[w.heap.size + 1]? = some (.cells #[.slice none 0 0] 29)) := (hb1.block _ (lt_of_heap G1.out)).trans G1.out
  have hsz : Hid (w.heap.size + 2 ≤ w1.heap.size) := by have := hs0.out; have := hb1.size; show _ ≤ _; omega
  have y0 : w1.cell? ⟨w.heap.size, 0, none⟩ = some (.slice ra r rc) := cell_of_heap H0.out 0
  have y1 := cell_of_heap H1.out 0
  have f1 := frozen_of_heap H1.out
  have z1 := lt_of_heap H0.out
  have z2 := lt_of_heap H1.out
  clear hb1 x0 z0 G0 G1 hB0 hs0 FN
  rcases hF with ⟨hg, rfl⟩ | ⟨i, t, hi, hg, rfl⟩
  · have hE : Hid (dropE R s = 3) := by unfold Hid dropE; rw [if_pos hg]
    have hL : Hid (delL R s = R) := del_none hg
    clear hg
    go_wp2_with fail
    have hh : (w1.setCell ⟨w.heap.size + 1, 0, none⟩ (.slice ra r rc)).heap[w.heap.size + 1]? = some (.cells #[.slice ra r rc] 29) := heap_setCell_at H1.out 0 _
    have hb : Below w.heap.size w (w1.setCell ⟨w.heap.size + 1, 0, none⟩ (.slice ra r rc)) := HB1.out.setCell (p := ⟨w.heap.size + 1, 0, none⟩) (Nat.le_succ _) _
    refine bodyPost_ret (v := .tuple #[.agg #[.slice ra r rc], .int .i64 3]) (results_43 rfl rfl rfl hh) rfl ?_
    unfold RDropR
    rw [hE.out, hL.out]
    exact ⟨⟨ra, rc, by rw [HR.out], HRA.out.below hb, by rw [HR.out]; exact hrc⟩, hb⟩
  · have hir : i < r := by have := (List.getElem?_eq_some_iff.1 hi).1; have := HR.out; omega
    have hE : Hid (dropE R s = 0) := by unfold Hid dropE; rw [if_neg (by rw [hg]; simp)]
    have hL : Hid (delL R s = R.take i ++ R.drop (i + 1)) := del_at HND.out hi
    obtain ⟨b, off, es, rfl, hb, hel, hcell, hall⟩ := HRA.out.src (by have := HR.out; omega)
    have HEL : Hid (es.length = r) := hel.trans HR.out
    have HCE := Lib.hid hcell
    have HAL := Lib.hid hall
    have HBL := Lib.hid hb
    have ONE : Hid (∀ p ∈ es, p.2.2.oneCell' = true) := fun p hp => by
      obtain ⟨j, hj⟩ := List.mem_iff_getElem?.1 hp
      have hjl := (List.getElem?_eq_some_iff.1 hj).1
      obtain ⟨⟨x, u⟩, hxu⟩ : ∃ q, R[j]? = some q := ⟨_, List.getElem?_eq_getElem (by rw [← hel]; exact hjl)⟩
      obtain ⟨a', c', h1, _⟩ := hall j x u hxu
      rw [hj] at h1
      cases h1
      rfl
    have n1 : decide ((i : Int) < 0) = false := by simp
    have j1 : (0 : Int) ≤ (i : Int) := by omega
    have j2 : (i : Int) ≤ (rc : Int) := by omega
    clear hg hi hel hcell hall hb
    go_upto_region 6 with (refine wpList_append_src rfl (.tmp 14) (.tmp 18) 27 rfl (w.heap.size + 2) 70 i0 _ 23 208 Tryz.underlying27 HI.out.1 HI.out.2.1 HI.out.2.2.1 HI.out.2.2.2 rfl (by decide) (.slice none 0 0) 0 [] rfl ⟨rfl, .inl ⟨rfl, rfl⟩⟩ (some ⟨b, off, none⟩) i rc (rowN (es.take i)) rfl (by rw [rowN_length, List.length_take, HEL.out]; omega) (fun _ => ⟨_, rfl, fun j u hu => by rw [Addr.add_mid]; exact (HB1.out.cell (p := ⟨b, _, none⟩) HBL.out).trans (HCE.out j u (rowN_take es i j u hu))⟩) (rowN_one (fun p hp => ONE.out p (List.mem_of_mem_take hp))) (by unfold maxLen; omega) (by omega) hsz.out ?_; intro v5 W5 ho5 hg5)
    have hO0 : w1.ownsRow (w.heap.size + 2) 70 23 (.slice none 0 0) 0 [] := ⟨rfl, .inl ⟨rfl, rfl⟩⟩
    have hb5 : Below (w.heap.size + 2) w1 W5 := (Below.refl _ w1).grown hg5 hsz.out (own_base hO0)
    have HB5 : Hid (Below w.heap.size w W5) := HB1.out.trans (hb5.mono (by omega))
    have K0 : Hid (W5.heap[w.heap.size]? = some (.cells #[.slice (some ⟨b, off, none⟩) r rc] 29)) := (hb5.block _ (by omega)).trans H0.out
    have K1 : Hid (W5.heap[w.heap.size + 1]? = some (.cells #[.slice none 0 0] 29)) := (hb5.block _ (by omega)).trans H1.out
    have HS5 : Hid (w.heap.size + 2 ≤ W5.heap.size) := Nat.le_trans hsz.out hb5.size
    have x5 : W5.cell? ⟨w.heap.size, 0, none⟩ = some (.slice (some ⟨b, off, none⟩) r rc) := cell_of_heap K0.out 0
    have z5 := lt_of_heap K0.out
    have HO5 := Lib.hid ho5
    have i1 : IntKind.i64.wrap ((i : Int) + 1) = (i : Int) + 1 := IntWalk.i64_in _ (by omega)
    have j3 : (0 : Int) ≤ (i : Int) + 1 := by omega
    have j4 : (i : Int) + 1 ≤ (r : Int) := by omega
    have j5 : (r : Int) ≤ (rc : Int) := by omega
    clear hO0 hb5 ho5 hg5 y0 y1 f1 z1 z2 H0 H1 hsz
    have hln : (rowN (es.drop (i + 1))).length = (r - (i + 1)) * 23 := by rw [rowN_length, List.length_drop, HEL.out]
    have hcl : ∀ j u, (rowN (es.drop (i + 1)))[j]? = some u → W5.cell? (Addr.add ⟨b, off + (i + 1) * 23, none⟩ j) = some u := fun j u hu => by
      have h := rowN_drop es (by rw [HEL.out]; omega) j u hu
      have h2 := (HB5.out.cell (p := ⟨b, off + ((i + 1) * 23 + j), none⟩) HBL.out).trans (HCE.out _ u h)
      rw [Addr.add_mid, show off + (i + 1) * 23 + j = off + ((i + 1) * 23 + j) from by omega]
      exact h2
    have hon : ∀ u ∈ rowN (es.drop (i + 1)), u.oneCell' = true := rowN_one (fun p hp => ONE.out p (List.mem_of_mem_drop hp))
    have hend : ∀ (tm : Array Value) (W6 : World) (a6 : Option Addr) (c6 n : Nat), n = 0 + i + (r - (i + 1)) → W6.ownsRow (w.heap.size + 2) 70 23 (.slice a6 (0 + i + (r - (i + 1))) c6) (0 + i + (r - (i + 1))) (([] ++ rowN (es.take i)) ++ rowN (es.drop (i + 1))) → Below w.heap.size w W6 → W6.heap[w.heap.size + 1]? = some (.cells #[.slice none 0 0] 29) →
        tm.getD 4 undef = .pointer (some ⟨w.heap.size + 1, 0, none⟩) → tm.getD 5 undef = .int .i64 0 →
        bodyPost Tryz.prog Tryz.f12 (RDropR w R s) Exit.ret { tmps := tm, defers := [] } (W6.setCell ⟨w.heap.size + 1, 0, none⟩ (.slice a6 n c6)) := by
      intro tm W6 a6 c6 n hn ho6 hb6 hG h4 h5
      subst hn
      have hh : (W6.setCell ⟨w.heap.size + 1, 0, none⟩ (.slice a6 (0 + i + (r - (i + 1))) c6)).heap[w.heap.size + 1]? = some (.cells #[.slice a6 (0 + i + (r - (i + 1))) c6] 29) := heap_setCell_at hG 0 _
      have hb : Below w.heap.size w (W6.setCell ⟨w.heap.size + 1, 0, none⟩ (.slice a6 (0 + i + (r - (i + 1))) c6)) := hb6.setCell (p := ⟨w.heap.size + 1, 0, none⟩) (Nat.le_succ _) _
      refine bodyPost_ret (v := .tuple #[.agg #[.slice a6 (0 + i + (r - (i + 1))) c6], .int .i64 0]) (results_43 rfl h4 h5 hh) rfl ?_
      unfold RDropR
      rw [hE.out, hL.out]
      have hlA : (R.take i).length = i := by rw [List.length_take, HR.out]; omega
      have hlB : (R.drop (i + 1)).length = r - (i + 1) := by rw [List.length_drop, HR.out]
      have hlT : (R.take i ++ R.drop (i + 1)).length = 0 + i + (r - (i + 1)) := by rw [List.length_append, hlA, hlB]; omega
      have hN : NamO w W6 (w.heap.size + 2) (.slice a6 (0 + i + (r - (i + 1))) c6) (R.take i ++ R.drop (i + 1)) := by
        refine NamO.pushes (es := es.take i) (fs := es.drop (i + 1)) ?_ ?_ ?_ ?_ ?_
        · rw [List.length_take, hlA, HEL.out]; omega
        · intro k s' t' hk
          have hki : k < i := by have := (List.getElem?_eq_some_iff.1 hk).1; omega
          rw [List.getElem?_take_of_lt hki] at hk ⊢
          exact HAL.out k s' t' hk
        · rw [List.length_drop, hlB, HEL.out]
        · intro k s' t' hk
          rw [List.getElem?_drop] at hk ⊢
          exact HAL.out _ s' t' hk
        · rw [hlA, hlB]
          have := ho6
          rw [List.nil_append, Nat.zero_add] at this
          rw [Nat.zero_add]
          exact this
      refine ⟨⟨a6, c6, by rw [hlT], NamO.rows (NamO.keepB hN fun k hk _ => ?_) hb, NamO.capZ hN⟩, hb⟩
      exact Below.heap_setCell _ _ _ _ (by show k ≠ w.heap.size + 1; omega)
    have HEND := Lib.hid hend
    clear hend
    by_cases hrc1 : rc = i + 1
    · have hr1 : r - (i + 1) = 0 := by omega
      go_wp2_with (refine wpList_append_src rfl (.tmp 20) (.tmp 25) 27 rfl (w.heap.size + 2) 70 i0 _ 23 208 Tryz.underlying27 HI.out.1 HI.out.2.1 HI.out.2.2.1 HI.out.2.2.2 rfl (by decide) v5 (0 + i) ([] ++ rowN (es.take i)) rfl HO5.out _ 0 0 (rowN (es.drop (i + 1))) rfl (by rw [hln, hr1]) (fun h => absurd h (by omega)) hon (by unfold maxLen; omega) (by omega) HS5.out ?_; intro v6 W6 ho6 hg6; obtain ⟨a6, c6, hv6⟩ := own_slice ho6; subst hv6; have hb6 := (Below.refl (w.heap.size + 2) W5).grown hg6 HS5.out (own_base HO5.out); have K6 := (hb6.block _ (by omega)).trans K1.out; have y6 := cell_of_heap K6 0; have f6 := frozen_of_heap K6; have z6 := lt_of_heap K6)
      refine HEND.out _ _ _ _ _ (by omega) (by rw [hr1]; exact ho6) (HB5.out.trans (hb6.mono (by omega))) K6 ?_ ?_ <;> rfl
    · go_wp2_with (refine wpList_append_src rfl (.tmp 20) (.tmp 25) 27 rfl (w.heap.size + 2) 70 i0 _ 23 208 Tryz.underlying27 HI.out.1 HI.out.2.1 HI.out.2.2.1 HI.out.2.2.2 rfl (by decide) v5 (0 + i) ([] ++ rowN (es.take i)) rfl HO5.out (some ⟨b, off + (i + 1) * 23, none⟩) (r - (i + 1)) (rc - (i + 1)) (rowN (es.drop (i + 1))) rfl hln (fun _ => ⟨_, rfl, hcl⟩) hon (by unfold maxLen; omega) (by omega) HS5.out ?_; intro v6 W6 ho6 hg6; obtain ⟨a6, c6, hv6⟩ := own_slice ho6; subst hv6; have hb6 := (Below.refl (w.heap.size + 2) W5).grown hg6 HS5.out (own_base HO5.out); have K6 := (hb6.block _ (by omega)).trans K1.out; have y6 := cell_of_heap K6 0; have f6 := frozen_of_heap K6; have z6 := lt_of_heap K6)
      refine HEND.out _ _ _ _ _ (by omega) ho6 (HB5.out.trans (hb6.mono (by omega))) K6 ?_ ?_ <;> rfl
/-- Get. -/
def RGetR (w : World) (R : List (ByteArray × T)) (s : ByteArray) : Ending → World → Prop := fun e w' =>
  ((getL R s = none ∧ e = .returned (.tuple #[nagg nd0 (.slice none 0 0), .bool false])) ∨ ∃ u a c, getL R s = some u ∧ e = .returned (.tuple #[nagg u.o (.slice a u.l.length c), .bool true]) ∧ u.At w' a) ∧ Below w.heap.size w w'
theorem build_00 (w : World) : (Instr.build 42 #[]).run Tryz.prog w = .ok (nagg nd0 (.slice none 0 0)) w := run_build w 42 _ _ (by kernel_rfl)
set_option maxHeartbeats 4000000 in
set_option maxRecDepth 100000 in
theorem rget_any (R : List (ByteArray × T)) (hR : R.length ≤ 2097152) (ra : Option Addr) (rc : Nat) (s : ByteArray) (w : World) (hRA : RowsAt w ra R) :
    Calls Tryz.prog 15 #[.agg #[.slice ra R.length rc], .string s] w (RGetR w R s) := by
  have HRA := Lib.hid hRA
  have FND := fun W h => find_any R hR ra rc s W h
  obtain ⟨r, hr⟩ : ∃ r, R.length = r := ⟨_, rfl⟩
  rw [hr] at hR FND ⊢
  have HR := Lib.hid hr
  have FN := Lib.hid FND
  clear hRA hr FND
  go_enter Tryz.func15, Tryz.ntmps15
  go_upto_region 1 with fail
  refine abs_world ?_
  intro W0 hW0
  have g0 : W0.heap[w.heap.size]? = some (.cells #[.slice ra r rc] 29) := by rw [hW0]; exact heap_alloc_old (heap_alloc_new w _) _
  have g1 : W0.heap[w.heap.size + 1]? = some (.cells (ncells nd0 (.slice none 0 0)).toArray 42) := by rw [hW0]; exact heap_alloc_at (by simp) _
  have hB0 : Hid (Below w.heap.size w W0) := by rw [hW0]; unfold Hid; (repeat (first | with_reducible exact Below.refl _ _ | with_reducible exact hBW | with_reducible refine Below.setCell ?_ ?_ _ | with_reducible refine Below.alloc ?_ ?_ _ | with_reducible refine belowN ?_ _ | with_reducible refine Below.drew ?_)); all_goals (first | omega | (dsimp only; omega) | ((repeat (first | with_reducible refine le_alloc ?_ | with_reducible refine le_setCell ?_ | with_reducible refine le_drew ?_ | with_reducible refine le_drewN ?_)); omega))
  have x0 : W0.cell? ⟨w.heap.size, 0, none⟩ = some (.slice ra r rc) := cell_of_heap g0 0
  have z0 := lt_of_heap g0
  have G0 := Lib.hid g0
  have G1 := Lib.hid g1
  clear hW0 g0 g1
  go_wp2_with fail
  refine (FN.out W0 (HRA.out.below hB0.out)).mono ?_
  rintro e w1 ⟨⟨z, rfl, hF⟩, hb1⟩
  have HB1 : Hid (Below w.heap.size w w1) := hB0.out.trans (hb1.mono hB0.out.size)
  have H0 : Hid (w1.heap[w.heap.size]? = some (.cells #[.slice ra r rc] 29)) := (hb1.block _ (lt_of_heap G0.out)).trans G0.out
  have H1 : Hid (w1.heap[w.heap.size + 1]? = some (.cells (ncells nd0 (.slice none 0 0)).toArray 42)) := (hb1.block _ (lt_of_heap G1.out)).trans G1.out
  have y0 : w1.cell? ⟨w.heap.size, 0, none⟩ = some (.slice ra r rc) := cell_of_heap H0.out 0
  have z1 := lt_of_heap H0.out
  clear hb1 x0 z0 G0 G1 hB0 FN
  rcases hF with ⟨hg, rfl⟩ | ⟨i, t, hi, hg, rfl⟩
  · have HG := Lib.hid hg
    clear hg
    go_wp2_with (first | refine wpList_build0 rfl 42 rfl _ build_00 ?_ | (refine wpList_store_nd rfl (.tmp 4) (.tmp 18) rfl (w.heap.size + 1) 0 (ncells nd0 (.slice none 0 0)) 42 H1.out (Nat.le_refl _) nd0 (.slice none 0 0) rfl rfl rfl ?_; intro W2 p1 p2 p3))
    have p1' : W2.heap[w.heap.size + 1]? = some (.cells (ncells nd0 (.slice none 0 0)).toArray 42) := p1
    refine bodyPost_ret (v := .tuple #[nagg nd0 (.slice none 0 0), .bool false]) (results_nd2 rfl rfl rfl (range_blk p1')) rfl ?_
    exact ⟨.inl ⟨HG.out, rfl⟩, HB1.out.trans (p2.below HB1.out.size (fun k hk => by omega))⟩
  · have hir : i < r := by have := (List.getElem?_eq_some_iff.1 hi).1; have := HR.out; omega
    obtain ⟨q, qo, rfl, hqw, hall⟩ := HRA.out (by have := HR.out; omega)
    obtain ⟨_, ua, uc, hnd, hat⟩ := hall i s t hi
    have hq : q < w1.heap.size := Nat.lt_of_lt_of_le hqw HB1.out.size
    have RNG := Lib.hid (range_nd (NdAt.below hnd HB1.out hqw))
    have HAT := Lib.hid hat
    have HG := Lib.hid hg
    have n1 : decide ((i : Int) ≥ 0) = true := by simp
    have j1 : (0 : Int) ≤ (i : Int) := by omega
    have j2 : (i : Int) < (r : Int) := by omega
    clear hall hnd hat hg hi hqw
    go_wp2_with (first | refine wpList_load_g rfl 42 (.tmp 16) rfl q (qo + i * 23 + 1) rfl _ _ RNG.out Tryz.underlying42 rfl info35 ?_ | (refine wpList_store_nd rfl (.tmp 4) (.tmp 17) rfl (w.heap.size + 1) 0 (ncells nd0 (.slice none 0 0)) 42 H1.out (Nat.le_refl _) t.o (.slice ua t.l.length uc) rfl rfl rfl ?_; intro W2 p1 p2 p3))
    have p1' : W2.heap[w.heap.size + 1]? = some (.cells (ncells t.o (.slice ua t.l.length uc)).toArray 42) := p1
    refine bodyPost_ret (v := .tuple #[nagg t.o (.slice ua t.l.length uc), .bool true]) (results_nd2 rfl rfl rfl (range_blk p1')) rfl ?_
    have hbf : Below w.heap.size w W2 := HB1.out.trans (p2.below HB1.out.size (fun k hk => by omega))
    exact ⟨.inr ⟨t, ua, uc, HG.out, rfl, HAT.out.below hbf t⟩, hbf⟩
end Go.Proofs.YtlcglkanlhmmdaaGreat
