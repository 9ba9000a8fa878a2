/- (*names.Table).Drop. -/
import Derived.Test.YtlcglkanlhmmdaaGreatQN17Agree
import Derived.Test.YtlcglkanlhmmdaaGreatQRangeG
import Derived.Test.YtlcglkanlhmmdaaGreatQZ17P
import Derived.Test.YtlcglkanlhmmdaaGreatQMapRange
import Derived.Test.YtlcglkanlhmmdaaGreatQN17Get
namespace Go.Proofs.YtlcglkanlhmmdaaGreat
open Go.RowKit
def dropT (L : List (ByteArray × T)) (s : ByteArray) : Int := if getL L s = none then 3 else 0
def DropR (K : Nat) (w : World) (pt : Nat) (mo : Option Nat) (L : List (ByteArray × T)) (s : ByteArray) : Ending → World → Prop := fun e w' =>
  e = .returned (.int .i64 (dropT L s)) ∧ TabK K w' pt mo (delL L s) ∧ Fr (fun k => K ≤ k ∧ (k = pt ∨ mo = some k)) w w'
theorem TabL.del {w : World} : ∀ {vs : List (ByteArray × Value)} {L : List (ByteArray × T)}, TabL w vs L → ∀ (s : ByteArray), TabL w (vs.filter fun p => decide (p.1 ≠ s)) (delL L s)
  | [], [], h, s => h
  | [], (_ :: _), h, _ => by have := h.1; simp at this
  | (_ :: _), [], h, _ => by have := h.1; simp at this
  | ((x, u) :: vs), ((y, t0) :: L), h, s => by
    have h1 := h.1
    simp only [List.map_cons, List.cons.injEq] at h1
    obtain ⟨rfl, h2⟩ := h1
    have htl : TabL w vs L := ⟨h2, fun i s' t' hi => by
      obtain ⟨v2, p1, p2⟩ := h.2 (i + 1) s' t' (by simpa using hi)
      exact ⟨v2, by simpa using p1, p2⟩⟩
    have ih := htl.del s
    unfold delL at ih ⊢
    rw [List.filter_cons, List.filter_cons]
    by_cases hs : x = s
    · rw [if_neg (by simp [hs]), if_neg (by simp [hs])]
      exact ih
    · rw [if_pos (by simp [hs]), if_pos (by simp [hs])]
      refine ⟨by simp only [List.map_cons, ih.1], fun i s' t' hi => ?_⟩
      cases i with
      | zero =>
        obtain ⟨v2, p1, p2⟩ := h.2 0 s' t' (by simpa using hi)
        exact ⟨v2, by simpa using p1, p2⟩
      | succ i =>
        obtain ⟨v2, p1, p2⟩ := ih.2 i s' t' (by simpa using hi)
        exact ⟨v2, by simpa using p1, p2⟩
set_option maxHeartbeats 4000000 in
set_option maxRecDepth 100000 in
theorem drop_any (K pt : Nat) (mo : Option Nat) (L : List (ByteArray × T)) (s : ByteArray) (w : World) (hT : TabK K w pt mo L) : Calls Tryz.prog 13 #[.pointer (some ⟨pt, 0, none⟩), .string s] w (DropR K w pt mo L s) := by
  have HT := Lib.hid hT
  clear hT
  rcases HT.out.2.1.look s with ⟨hg, hlk⟩ | ⟨u, ua, uc, hg, hA, hlk⟩
  · have HL : Hid (delL L s = L) := del_none hg
    have HE : Hid (dropT L s = 3) := by unfold Hid dropT; rw [if_pos hg]
    clear hg
    go_enter Tryz.func13, Tryz.ntmps13
    have hlk0 := hlk w (Below.refl _ _)
    have x0 := cell_of_heap HT.out.1 0
    have zp := lt_of_heap HT.out.1
    clear hlk
    go_upto_region 4 with (refine wpList_store_nd rfl (.tmp 5) (.tmp 16) rfl w.heap.size 0 (ncells nd0 (.slice none 0 0)) 42 (heap_alloc_new w _) (Nat.le_refl _) nd0 (.slice none 0 0) rfl rfl rfl ?_; intro W1 p1 p2 p3)
    have HB1 : Hid (Below w.heap.size w W1) := ((Below.refl _ w).alloc (Nat.le_refl _) _).trans (p2.below (by simp) (fun k hk => by omega))
    clear p1 p2 p3 hlk0 x0 zp
    go_wp2_with fail
    go_ret
    unfold DropR
    rw [HL.out, HE.out]
    exact ⟨rfl, HT.out.below HB1.out, Fr.of_below HB1.out⟩
  · have HE : Hid (dropT L s = 0) := by unfold Hid dropT; rw [if_neg (by rw [hg]; simp)]
    cases mo with
    | none =>
      have hL : L = [] := HT.out.2.1
      rw [hL] at hg
      cases hg
    | some mt =>
      clear hg hA
      go_enter Tryz.func13, Tryz.ntmps13
      have hlk0 := hlk w (Below.refl _ _)
      have x0 := cell_of_heap HT.out.1 0
      have zp := lt_of_heap HT.out.1
      clear hlk
      go_upto_region 4 with (refine wpList_store_nd rfl (.tmp 5) (.tmp 16) rfl w.heap.size 0 (ncells nd0 (.slice none 0 0)) 42 (heap_alloc_new w _) (Nat.le_refl _) u.o (.slice ua u.l.length uc) rfl rfl rfl ?_; intro W1 p1 p2 p3)
      have HB1 : Hid (Below w.heap.size w W1) := ((Below.refl _ w).alloc (Nat.le_refl _) _).trans (p2.below (by simp) (fun k hk => by omega))
      clear p1 p2 p3 hlk0 x0 zp
      have HT1 := Lib.hid (HT.out.below HB1.out)
      obtain ⟨vs, hm, hv⟩ := HT1.out.2.1
      have x1 := cell_of_heap HT1.out.1 0
      have z1 := lt_of_heap HT1.out.1
      have HM := Lib.hid hm
      have HV := Lib.hid hv
      clear hm hv
      go_wp2_with (refine wpList_delete_s rfl (string_fits Tryz.underlying9) HM.out Tryz.underlying60 (.tmp 23) (.tmp 24) rfl s rfl rfl ?_; intro W2 h2 hf2 hz2)
      go_ret
      unfold DropR
      rw [HE.out]
      have hth : ∀ k, k = mt → Thin W1 k := fun k hk => by
        obtain ⟨es, c, hmm, _⟩ := HM.out
        rw [hk]
        exact thin_map hmm
      have hne : pt ≠ mt := HT1.out.map_ne HT1.out.1 mt rfl |> Ne.symm
      have hKm := HT.out.2.2.2 mt rfl
      exact ⟨rfl, ⟨(hf2.block pt z1 hne).trans HT1.out.1, ⟨_, h2, (HV.out.del s).thin hf2 hth⟩, HT.out.2.2⟩, (Fr.of_below HB1.out).trans hf2 (fun k _ hk => by subst hk; exact ⟨hKm, .inr rfl⟩)⟩
end Go.Proofs.YtlcglkanlhmmdaaGreat
/- (*names.Table).Clone. -/
namespace Go.Proofs.YtlcglkanlhmmdaaGreat
open Go.RowKit Go.ChangeMaps
theorem agree_of {L R : List (ByteArray × T)} (hg : ∀ s, getL R s = getL L s) (hR : (R.map Prod.fst).Nodup) (hL : (L.map Prod.fst).Nodup) : Agree L R := by
  have hp : R.Perm L := (List.perm_ext_iff_of_nodup (nodup_of_fst hR) (nodup_of_fst hL)).2 fun p => by rw [mem_getL hR, mem_getL hL, hg]
  exact ⟨hg, hp.length_eq, hR, hL⟩
theorem Agree.refl {L : List (ByteArray × T)} (h : (L.map Prod.fst).Nodup) : Agree L L := ⟨fun _ => rfl, rfl, h, h⟩
theorem TabK.nodup {K pt : Nat} {w : World} {mo : Option Nat} {L : List (ByteArray × T)} (h : TabK K w pt mo L) : (L.map Prod.fst).Nodup := by
  have hV := h.2.1
  cases mo with
  | none =>
    have hL : L = [] := hV
    rw [hL]
    simp
  | some mt =>
    obtain ⟨vs, ⟨es, c, _, _, h3, _⟩, h4, _⟩ := hV
    rw [← h4]
    exact h3
theorem TabK.put {K w pt mt} {L : List (ByteArray × T)} (hT : TabK K w pt (some mt) L) (s : ByteArray) (t : T) (v : Value) (hI : IsT w v t) :
    ∃ w', (Instr.mapUpdate 60 (.map (some mt)) (.string s) v).run Tryz.prog w = .ok () w' ∧ TabK K w' pt (some mt) (putL L s t) ∧ Fr (fun k => k = mt) w w' ∧ w'.heap.size = w.heap.size := by
  obtain ⟨vs, h1, h2⟩ := hT.2.1
  obtain ⟨w6, hup, hm6, hf6, hz6⟩ := h1.upd (string_fits Tryz.underlying9) Tryz.underlying60 s v
  unfold id at hup
  have hth : ∀ k, k = mt → Thin w k := fun k hk => by
    obtain ⟨es, c, hmm, _⟩ := h1
    rw [hk]
    exact thin_map hmm
  have hne : pt ≠ mt := (hT.map_ne hT.1 mt rfl).symm
  exact ⟨w6, hup, ⟨(hf6.block pt (lt_of_heap hT.1) hne).trans hT.1, ⟨_, hm6, (h2.put hI).thin hf6 hth⟩, hT.2.2⟩, hf6, hz6⟩
theorem TabK.map_lt2 {K pt m : Nat} {w : World} {L : List (ByteArray × T)} (h : TabK K w pt (some m) L) : m < w.heap.size := by
  obtain ⟨vs, h1, _⟩ := h.2.1
  exact h1.lt'
/-- What Clone's loop keeps. -/
structure ClI (w : World) (pc mc mt r : Nat) (L : List (ByteArray × T)) (es : Array MapEntry) (clock : Nat) (seen : Array Nat) (Lc : List (ByteArray × T)) (wr : World) : Prop where
  rng : RangeS wr mt r es clock seen
  tab : TabK w.heap.size wr pc (some mc) Lc
  cov : ∀ (j : Nat) (e : MapEntry) (s : ByteArray) (t : T), es.toList[j]? = some e → L[j]? = some (s, t) → getL Lc s = if seen.contains e.born then some t else none
  non : ∀ s, getL L s = none → getL Lc s = none
  bel : Below w.heap.size w wr
theorem ClI.step {w : World} {pc mc mt r : Nat} {L : List (ByteArray × T)} {es : Array MapEntry} {clock : Nat} {seen : Array Nat} {Lc : List (ByteArray × T)} {wr w' : World} (h : ClI w pc mc mt r L es clock seen Lc wr) (hbo : BornOk es clock) (hn : (L.map Prod.fst).Nodup) {j : Nat} {e : MapEntry} {s : ByteArray} {t : T} (he : es.toList[j]? = some e) (hL : L[j]? = some (s, t))
    (hr : RangeS w' mt r es clock (seen.push e.born)) (hT : TabK w.heap.size w' pc (some mc) (putL Lc s t)) (hb : Below w.heap.size w w') : ClI w pc mc mt r L es clock (seen.push e.born) (putL Lc s t) w' := by
  refine ⟨hr, hT, fun j' e' s' t' he' hL' => ?_, fun s' hs' => ?_, hb⟩
  · rw [getL_putL, contains_push]
    by_cases hj : j' = j
    · subst hj
      rw [he] at he'
      rw [hL] at hL'
      cases he'
      cases hL'
      simp
    · have h1 : s ≠ s' := fun e0 => hj (by
        have h2 : (L.map Prod.fst)[j']? = (L.map Prod.fst)[j]? := by rw [List.getElem?_map, List.getElem?_map, hL, hL', e0]; rfl
        exact (List.getElem?_inj (by have := (List.getElem?_eq_some_iff.1 hL').1; simpa using this) hn).1 h2)
      have h2 : e'.born ≠ e.born := fun e0 => hj (by
        have h3 : (es.toList.map (·.born))[j']? = (es.toList.map (·.born))[j]? := by rw [List.getElem?_map, List.getElem?_map, he, he']; simp [e0]
        exact (List.getElem?_inj (by have := (List.getElem?_eq_some_iff.1 he').1; simpa using this) hbo.2).1 h3)
      rw [if_neg h1, h.cov j' e' s' t' he' hL']
      have : (e'.born == e.born) = false := by simp [h2]
      rw [this, Bool.or_false]
  · rw [getL_putL, if_neg (fun e0 => ?_), h.non s' hs']
    subst e0
    rw [(mem_getL hn).1 (List.mem_of_getElem? hL)] at hs'
    cases hs'
theorem ClI.done {w : World} {pc mc mt r : Nat} {L : List (ByteArray × T)} {es : Array MapEntry} {clock : Nat} {seen : Array Nat} {Lc : List (ByteArray × T)} {wr : World} (h : ClI w pc mc mt r L es clock seen Lc wr) (hn : (L.map Prod.fst).Nodup) (hlen : es.toList.length = L.length) (hall : ∀ e ∈ es.toList, seen.contains e.born = true) : Agree L Lc := by
  refine agree_of (fun s => ?_) h.tab.nodup hn
  cases hg : getL L s with
  | none => exact h.non s hg
  | some t =>
    obtain ⟨j, hj⟩ := List.mem_iff_getElem?.1 (mem_of_getL hg)
    have hjl := (List.getElem?_eq_some_iff.1 hj).1
    obtain ⟨e, he⟩ : ∃ e, es.toList[j]? = some e := ⟨_, List.getElem?_eq_getElem (by omega)⟩
    rw [h.cov j e s t he hj, hall e (List.mem_of_getElem? he)]
    rfl
def CloneR (w : World) (L : List (ByteArray × T)) : Ending → World → Prop := fun e w' => ∃ pc mc Lc, e = .returned (.pointer (some ⟨pc, 0, none⟩)) ∧ TabK w.heap.size w' pc mc Lc ∧ Agree L Lc ∧ Below w.heap.size w w'
set_option maxHeartbeats 4000000 in
set_option maxRecDepth 100000 in
theorem clone_any (K pt : Nat) (mo : Option Nat) (L : List (ByteArray × T)) (hz : ∀ p ∈ L, p.2.size ≤ 2097152) (w : World) (hT : TabK K w pt mo L) : Calls Tryz.prog 9 #[.pointer (some ⟨pt, 0, none⟩)] w (CloneR w L) := by
  have HT := Lib.hid hT
  have HZ := Lib.hid hz
  have hmm := @run_makeMap Tryz.prog
  clear hT hz
  go_enter Tryz.func9, Tryz.ntmps9
  go_wp2_with fail
  refine (new_any w).mono ?_
  rintro e w1 ⟨rfl, hw1⟩
  have g1 : w1.heap[w.heap.size]? = some (.cells #[.map none] 62) := by rw [hw1]; exact heap_alloc_new w _
  have hb1 : Below w.heap.size w w1 := by rw [hw1]; exact below_alloc _ _ _ (Nat.le_refl _)
  have hs1 : Hid (w1.heap.size = w.heap.size + 1) := by rw [hw1]; unfold Hid; simp
  have HT1 := Lib.hid (HT.out.below hb1)
  have x0 := cell_of_heap HT1.out.1 0
  have z0 := lt_of_heap HT1.out.1
  have heq := fun W => eql_mapnil mo W
  have HB1 := Lib.hid hb1
  have G1 := Lib.hid g1
  clear hw1 hb1
  cases mo with
  | none =>
    have hL : L = [] := HT.out.2.1
    have TC : Hid (TabK w.heap.size w1 w.heap.size none []) := ⟨g1, rfl, Nat.le_refl _, fun _ h => by cases h⟩
    clear g1
    rw [Option.isNone_none] at heq
    go_wp2_with fail
    go_ret
    exact ⟨w.heap.size, none, [], rfl, TC.out, by rw [hL]; exact Agree.nil, HB1.out⟩
  | some mt =>
    rw [Option.isNone_some] at heq
    have y1 := frozen_of_heap g1
    have x1 := cell_of_heap g1 0
    have z1 := lt_of_heap g1
    clear g1
    go_upto_region 5 with fail
    refine abs_world ?_
    intro W2 hW2
    obtain ⟨mc, hmc⟩ : ∃ mc, mc = w1.heap.size := ⟨_, rfl⟩
    have hsc := World.size_setCell w1 ⟨w.heap.size, 0, none⟩ (.map (some w1.heap.size))
    have g2 : W2.heap[w.heap.size]? = some (.cells #[.map (some mc)] 62) := by rw [hW2, hmc]; exact heap_alloc_old (heap_setCell_at G1.out 0 _) _
    have m2 : W2.heap[mc]? = some (.map #[] 0) := by rw [hW2, hmc]; exact heap_alloc_at hsc.symm _
    have hb2 : Below w.heap.size w1 W2 := by rw [hW2]; exact ((Below.refl _ w1).setCell (p := ⟨w.heap.size, 0, none⟩) (Nat.le_refl _) _).alloc (by show w.heap.size ≤ _; rw [hsc]; have := hs1.out; omega) _
    have HB2 : Hid (Below w.heap.size w W2) := HB1.out.trans hb2
    have TC : Hid (TabK w.heap.size W2 w.heap.size (some mc) []) := ⟨g2, ⟨[], ⟨#[], 0, m2, by simp, by simp, by simp [BornOk]⟩, rfl, fun i s t hi => by simp at hi⟩, Nat.le_refl _, fun m h => by cases h; have := hs1.out; omega⟩
    clear hW2 hsc g2 m2 hb2 x0 z0 x1 y1 z1 hmm
    have HT2 := Lib.hid (HT.out.below HB2.out)
    obtain ⟨vs, hm, hv⟩ := HT.out.2.1
    obtain ⟨es, clock, hesw, hel, hnd, hbo⟩ := hm
    have hes := (HB2.out.block mt (lt_of_heap hesw)).trans hesw
    have HMT : Hid (mt < w.heap.size) := lt_of_heap hesw
    have HMC : Hid (w.heap.size < mc) := by rw [hmc]; have := hs1.out; show _ < _; omega
    have HV0 : Hid (TabL w vs L) := hv
    have HEL := Lib.hid hel
    have HBO := Lib.hid hbo
    have hlen : Hid (es.toList.length = L.length) := by
      have h1 := congrArg List.length hel
      have h2 := congrArg List.length hv.1
      rw [List.length_map, List.length_map] at h1 h2
      exact h1.trans h2
    have HN : Hid ((L.map Prod.fst).Nodup) := HT.out.nodup
    have x0 := cell_of_heap HT2.out.1 0
    have z0 := lt_of_heap HT2.out.1
    have HES := Lib.hid hes
    clear hv hel hbo hnd hes hesw hmc
    go_wp2_with (refine wpList_range_s rfl (.tmp 24) 60 9 42 rfl Tryz.underlying60 mt es clock rfl HES.out ?_; intro hrg)
    go_frame
    obtain ⟨r, hr⟩ : ∃ r, r = W2.heap.size := ⟨_, rfl⟩
    have hrm : Hid (mt < r ∧ mc < r ∧ w.heap.size < r ∧ w.heap.size ≤ r) := by
      have h1 := lt_of_heap HES.out
      have h2 := TC.out.map_lt2
      have h3 := lt_of_heap TC.out.1
      rw [hr]
      exact ⟨h1, h2, h3, by omega⟩
    have I0 : Hid (ClI w w.heap.size mc mt r L es clock #[] [] (W2.alloc (.mapIter (some mt) clock #[] clock))) := by
      have hba := below_alloc W2 (.mapIter (some mt) clock #[] clock) _ (Nat.le_refl _)
      refine ⟨by rw [hr]; exact hrg, TC.out.below hba, fun j e s t _ _ => by simp [getL], fun s _ => rfl, HB2.out.trans (hba.mono HB2.out.size)⟩
    rw [← hr]
    clear hrg hr x0 z0 TC HT2 HB1 HT1 G1
    generalize W2.alloc (.mapIter (some mt) clock #[] clock) = W3 at I0 ⊢
    go_loopg [4] (leftOf es #[]).size (fun gh s4 wr => ∃ (seen : Array Nat) (Lc : List (ByteArray × T)), gh = (leftOf es seen).size ∧ Hid (ClI w w.heap.size mc mt r L es clock seen Lc wr))
    case atStart => exact ⟨#[], [], rfl, I0⟩
    clear I0
    case round =>
      obtain ⟨seen, Lc, rfl, hI⟩ := hrel
      go_wp2_with (refine wpList_next_s rfl (.tmp 25) rfl mt r clock es seen rfl hI.out.rng HBO.out (by have := hrm.out; omega) ?_ ?_)
      · intro hall
        have AG := Lib.hid (hI.out.done HN.out hlen.out (fun e he => by have := hall e (by simpa using he); simpa using this))
        clear hall
        go_wp2_with fail
        go_ret
        exact ⟨w.heap.size, some mc, Lc, rfl, hI.out.tab, AG.out, hI.out.bel⟩
      · intro e w3 hem hes3 hrg3 hf3 hlt3 hen
        obtain ⟨j, hj⟩ := List.mem_iff_getElem?.1 (show e ∈ es.toList by simpa using hem)
        obtain ⟨⟨s, t⟩, hL⟩ : ∃ p, L[j]? = some p := ⟨_, List.getElem?_eq_getElem (by rw [← hlen.out]; exact (List.getElem?_eq_some_iff.1 hj).1)⟩
        obtain ⟨v, hvj, a', cap', hv, hA⟩ := HV0.out.2 j s t hL
        have hkv : (es.toList.map fun e => (e.key, e.val))[j]? = (vs.map fun p => (Value.string p.1, (id : Value → Value) p.2))[j]? := by rw [HEL.out]
        rw [List.getElem?_map, List.getElem?_map, hj, hvj] at hkv
        obtain ⟨key, val, born⟩ := e
        simp only [Option.map_some, Option.some.injEq, Prod.mk.injEq, id] at hkv
        obtain ⟨rfl, rfl⟩ := hkv
        subst hv
        have hthr : ∀ k, k = r → Thin wr k := fun k hk => by
          obtain ⟨c0, hit, _⟩ := hI.out.rng.it
          rw [hk]
          exact fun j _ => by simp [World.cell?, hit]
        have hR := hrm.out
        have T3 : Hid (TabK w.heap.size w3 w.heap.size (some mc) Lc) := hI.out.tab.thin hf3 hthr (by omega) (fun m hm => by cases hm; omega)
        have B3 : Hid (Below w.heap.size w w3) := hI.out.bel.trans (hf3.below hI.out.bel.size (fun k hk => by omega))
        have HJ := Lib.hid hj
        have HL := Lib.hid hL
        have HA := Lib.hid hA
        have HRG := Lib.hid hrg3
        have HZT : Hid (t.size ≤ 2097152) := HZ.out (s, t) (List.mem_of_getElem? hL)
        have HLT := Lib.hid hlt3
        clear hj hL hvj hA hem hes3 hrg3 hf3 hlt3 hthr hR
        go_wp2_with (refine wpList_store_nd rfl (.tmp 5) (.tmp 30) rfl w3.heap.size 0 (ncells nd0 (.slice none 0 0)) 42 (heap_alloc_new w3 _) (Nat.le_refl _) t.o (.slice a' t.l.length cap') rfl rfl rfl ?_; intro W4 p1 p2 p3)
        have N4 : W4.heap[w3.heap.size]? = some (.cells (ncells t.o (.slice a' t.l.length cap')).toArray 42) := p1
        have hb34 : Below w3.heap.size w3 W4 := ((Below.refl _ w3).alloc (Nat.le_refl _) _).trans (p2.below (by simp) (fun k hk => by omega))
        have T4 := Lib.hid (T3.out.below hb34)
        have HB34 := Lib.hid hb34
        have B4 : Hid (Below w.heap.size w W4) := B3.out.trans (hb34.mono B3.out.size)
        have x0 := cell_of_heap T4.out.1 0
        have z0 := lt_of_heap T4.out.1
        have LDN := load_nd (o := t.o) (s := .slice a' t.l.length cap') (b := w3.heap.size) (off := 0) (w := W4) (lt_of_heap N4) (nd_blk N4)
        clear p1 p2 p3 hb34 hen N4
        try go_wp2_with fail
        refine wp_region_multiR [([5, 0, 4, 1, 2, 3], [6, 7], [7])] (by kernel_rfl) (by kernel_rfl) ?_
        refine multi_phase (Below W4.heap.size W4) (Below.refl _ _).drew ?_
        apply first_load; (rw [List.getElem?_toArray]; (repeat rw [List.getElem?_cons_succ]); rw [List.getElem?_cons_zero]); rfl; rfl; rfl; exact LDN; go_frame
        iterate 5 (first | (apply first_step; (rw [List.getElem?_toArray]; (repeat rw [List.getElem?_cons_succ]); rw [List.getElem?_cons_zero]); rfl; (intro W hB; have hc := bcellB hB; go_simp; (first | done | rfl)); go_frame) | (apply first_skip; (rw [List.getElem?_toArray]; (repeat rw [List.getElem?_cons_succ]); rw [List.getElem?_cons_zero]); rfl; go_frame))
        refine first_done ?_
        clear LDN x0 z0
        apply forced_step; (rw [List.getElem?_toArray]; (repeat rw [List.getElem?_cons_succ]); rw [List.getElem?_cons_zero]); rfl; intro K hK; go_simp
        refine (copied_any t HZT.out _ W4.drew ⟨a', cap', rfl, HA.out.below (B4.out.trans ((Below.refl _ W4).drew.mono B4.out.size)) t⟩).mono ?_
        rintro e w5 ⟨a5, S5, rfl, hO5, hS5, hb5⟩
        have hb5' : Below W4.heap.size W4 w5 := (Below.refl _ W4).drew.trans hb5
        obtain ⟨w6, hup, hT6, hf6, hz6⟩ := (T4.out.below hb5').put s t (nagg t.o (.slice a5 t.l.length t.l.length)) ⟨a5, _, rfl, hO5.at⟩
        have hb6 : Below w.heap.size w w6 := (B4.out.trans (hb5'.mono B4.out.size)).trans (hf6.below (Nat.le_trans B4.out.size hb5'.size) (fun k hk => by have := HMC.out; omega))
        have hk6 : ∀ k, k < w3.heap.size → k ≠ mc → w6.heap[k]? = w3.heap[k]? := fun k hk hne =>
          (hf6.block k (Nat.lt_of_lt_of_le hk (Nat.le_trans HB34.out.size hb5'.size)) hne).trans ((hb5'.block k (Nat.lt_of_lt_of_le hk HB34.out.size)).trans (HB34.out.block k hk))
        have rg6 : RangeS w6 mt r es clock (seen.push born) := by
          obtain ⟨c0, hit, _⟩ := HRG.out.it
          exact HRG.out.keep (hk6 mt (lt_of_heap HRG.out.map) (by have := HMT.out; have := HMC.out; omega)) (hk6 r (lt_of_heap hit) (by have := hrm.out; omega))
        have I6 : Hid (ClI w w.heap.size mc mt r L es clock (seen.push born) (putL Lc s t) w6) := hI.out.step HBO.out HN.out HJ.out HL.out rg6 hT6 hb6
        refine hK _ _ (fun _ => hb5') ?_
        clear hK K hT6 hf6 hz6 hO5 hS5 hb5 hb5' hb6 hk6 rg6
        apply forced_step; (rw [List.getElem?_toArray]; (repeat rw [List.getElem?_cons_succ]); rw [List.getElem?_cons_zero]); rfl; intro K hK; go_simp
        refine hK _ _ (fun h => absurd (by decide) h) ?_
        clear hK K hup
        refine forced_done ?_
        refine multi_done ?_
        go_wp2_with fail
        go_roundg (leftOf es (seen.push born)).size
        case measure => exact HLT.out
        case rel => exact ⟨seen.push born, putL Lc s t, rfl, I6⟩
end Go.Proofs.YtlcglkanlhmmdaaGreat
