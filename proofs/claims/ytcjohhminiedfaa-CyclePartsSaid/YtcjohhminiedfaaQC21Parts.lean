/- Cycle: slices.Sort of a part; slices.SortFunc of the parts; Parts. -/
import Derived.Sort.OwnSortedInts
import Derived.Shelf.SlSortCmp.NoneTotal
import Derived.Test.YtcjohhminiedfaaQC21W4
import Derived.Test.YtcjohhminiedfaaQC21ShelfP
namespace Go.Proofs.Ytcjohhminiedfaa
open Go.RowKit Go.Shelf Go.Sort
/-- A part, rising. -/
def sortN (l : List Nat) : List Nat := l.mergeSort fun a b => decide (a ≤ b)
theorem sortN_int (l : List Nat) : (l.map fun x : Nat => (x : Int)).mergeSort (fun x y => decide (x ≤ y)) = (sortN l).map fun x : Nat => (x : Int) := by
  unfold sortN
  rw [List.map_mergeSort]
  intro a _ b _
  simp
theorem sortN_length (l : List Nat) : (sortN l).length = l.length := List.length_mergeSort l
theorem iv_int (l : List Nat) : l.map iv = (l.map fun x : Nat => (x : Int)).map (Value.int .i64) := by
  rw [List.map_map]
  rfl
theorem sort_any {B : Nat} {v : Value} {l : List Nat} {w : World} (h : IR B w v l) (h0 : 0 < l.length) (hl : l.length ≤ 1000000) : Calls Try.prog 30 #[v] w fun e w' => e = .returned (.tuple #[]) ∧ IR B w' v (sortN l) ∧ w.grownBy w' v.ownBlock := by
  rcases h.2 with ⟨_, e⟩ | ⟨g, cap, cur, rfl, hg, hh, hn, hc, hsz, ht⟩
  · omega
  · rw [Nat.mul_one, iv_int] at ht
    have hH : Holds (Value.int .i64) w g 0 (l.map fun x : Nat => (x : Int)).toArray := holds_of_blockI hh (by simpa using ht)
    have c := AnyM.slices_Sort_int Try.sortA g 0 cap (l.map fun x : Nat => (x : Int)) w hH (lt_of_heap hh) (by simp; omega)
    rw [List.length_map] at c
    change Calls Try.prog 30 _ w _ at c
    refine c.mono ?_
    rintro e w' ⟨rfl, n, os, rfl⟩
    rw [sortN_int]
    refine ⟨rfl, ?_, grownBy_sortedI _⟩
    have r := ownsRow_sortedI (w := w) (base := B) (n := n) (os := os) (ss := l.map fun x : Nat => (x : Int)) (ts := (sortN l).map fun x : Nat => (x : Int)) (by simp [sortN_length]) hg hh (by simpa using hn) hc (by simpa using hsz)
    unfold IR
    rw [sortN_length, iv_int]
    rw [List.length_map] at r
    exact r
set_option maxHeartbeats 1000000 in
set_option maxRecDepth 100000 in
theorem cmp_any {ga gb la lb ca cb x y : Nat} {W : World} (hla : 0 < la) (hlb : 0 < lb) (hx : x ≤ 1000000) (hy : y ≤ 1000000) (zx : ga < W.heap.size) (zy : gb < W.heap.size) (cx : W.cell? ⟨ga, 0, none⟩ = some (.int .i64 (x : Int))) (cy : W.cell? ⟨gb, 0, none⟩ = some (.int .i64 (y : Int))) :
    Calls Try.prog 32 #[.slice (some ⟨ga, 0, none⟩) la ca, .slice (some ⟨gb, 0, none⟩) lb cb] W fun e w' => e = .returned (.int .i64 ((x : Int) - (y : Int))) ∧ ∃ q, w' = W.drewN q := by
  have j1 : (0 : Int) < (la : Int) := by omega
  have j2 : (0 : Int) < (lb : Int) := by omega
  have wr : IntKind.i64.wrap ((x : Int) - (y : Int)) = (x : Int) - (y : Int) := by rw [IntKind.wrap_i64]; omega
  go_enter Try.func32, Try.ntmps32
  go_wp2_with fail
  refine wp_region_mix [0, 1, 2, 3, 4, 5, 6, 7] [] [] (Below W.heap.size W) (by kernel_rfl) (by kernel_rfl) (Below.refl _ _).drew ?_
  iterate 8 (first | (apply first_step; (rw [List.getElem?_toArray]; (repeat rw [List.getElem?_cons_succ]); rw [List.getElem?_cons_zero]); rfl; (intro W hB; have hc := bcellB hB; go_simp; (first | done | rfl)); go_frame) | (apply first_skip; (rw [List.getElem?_toArray]; (repeat rw [List.getElem?_cons_succ]); rw [List.getElem?_cons_zero]); rfl; go_frame))
  refine first_done ?_
  refine tail_done ?_
  go_wp2_with fail
  go_ret
  exact ⟨rfl, 1, rfl⟩
/-- The least (that is, once it is sorted, the first) of a part. -/
def hd (l : List Nat) : Nat := l.headD 0
theorem extract_full {α : Type} (d : Array α) {n : Nat} (hn : d.size = n) : d.extract 0 n = d := by
  subst hn
  simp
section
variable {α : Type} [Inhabited α] {enc : α → Value}
theorem heap_sortW {w : World} {g n : Nat} {os : Array Obj} {cur : Array Value} {e : TypeId} {fr : Nat × Nat} (d : Array α) (hb : w.heap[g]? = some (.cells cur e fr)) :
    (sortWorld enc w g 0 n d os).heap[g]? = some (.cells (putCells enc 0 d cur) e fr) := by
  have hg : g < w.heap.size := (Array.getElem?_eq_some_iff.1 hb).1
  unfold sortWorld
  rw [heap_grow_old _ _ (by simpa using hg)]
  simp [putRow, mapBlock, Sort.ahead, Array.getElem?_modify, hb, onCells]
theorem grownBy_sortW {w : World} {g n : Nat} {os : Array Obj} (d : Array α) : w.grownBy (sortWorld enc w g 0 n d os) (some g) := by
  refine ⟨rfl, rfl, rfl, by simp [sortWorld], fun k hk hne => ?_⟩
  unfold sortWorld
  rw [heap_grow_old _ _ (by simpa using hk)]
  have : g ≠ k := fun e => hne (by rw [e])
  simp [putRow, mapBlock, Sort.ahead, Array.getElem?_modify, this]
theorem take_putW (cur : Array Value) (d : Array α) (h : d.size ≤ cur.size) : (putCells enc 0 d cur).toList.take d.size = d.toList.map enc := by
  apply List.ext_getElem?
  intro j
  by_cases hj : j < d.size
  · rw [List.getElem?_take_of_lt hj, Array.getElem?_toList]
    simp [putCells, hj, show j < cur.size by omega]
  · rw [List.getElem?_take_eq_none (by omega), List.getElem?_eq_none (by simp; omega)]
theorem take_putN (cur : Array Value) (d : Array α) {n : Nat} (hn : d.size = n) (h : d.size ≤ cur.size) : (putCells enc 0 d cur).toList.take n = d.toList.map enc := by
  subst hn
  exact take_putW cur d h
end
theorem swo_hd {m : Nat} (f : Fin m → Nat) : SWO (ltOf fun x y : Fin m => (f x : Int) - (f y : Int)) := by
  refine ⟨fun x => ?_, fun x y z h1 h2 => ?_, fun x y z h1 h2 => ?_⟩
  · simp [ltOf]
  · simp only [ltOf, decide_eq_true_eq] at *
    omega
  · simp only [ltOf, decide_eq_false_iff_not] at *
    omega
set_option maxHeartbeats 1000000 in
theorem sortF_any {B : Nat} {v : Value} {vs : List Value} {L : List (List Nat)} {w : World} (h : RR B w v vs L) (h0 : 0 < L.length) (hl : L.length ≤ 1000000) (hne : ∀ l ∈ L, l ≠ [] ∧ ∀ x ∈ l, x ≤ 1000000) :
    Calls Try.prog 31 #[v, .func (.func 32) #[] #[]] w fun e w' => e = .returned (.tuple #[]) ∧ ∃ vs' L', RR B w' v vs' L' ∧ L'.Perm L ∧ L'.Pairwise (fun a b => hd a ≤ hd b) ∧ w.grownBy w' v.ownBlock := by
  have hlen := h.len
  obtain ⟨hr, heach⟩ := h
  rcases hr.2 with ⟨_, e⟩ | ⟨g, cap, cur, rfl, hg, hh, hn, hc, hsz, ht⟩
  · omega
  · let _ : Inhabited (Fin L.length) := ⟨⟨0, h0⟩⟩
    have hvs : ∀ i : Fin L.length, i.1 < vs.length := fun i => by rw [hlen]; exact i.2
    let enc : Fin L.length → Value := fun i => vs[i.1]'(hvs i)
    have hat : ∀ i : Fin L.length, IR B w (enc i) L[i.1] := fun i => by
      obtain ⟨u, h1, h2⟩ := heach i.1 _ (List.getElem?_eq_getElem i.2)
      rw [List.getElem?_eq_getElem (hvs i)] at h1
      cases h1
      exact h2
    have hen : ∀ i : Fin L.length, vs[i.1]? = some (enc i) := fun i => List.getElem?_eq_getElem (hvs i)
    let d : Array (Fin L.length) := Array.ofFn fun i => i
    have hds : d.size = L.length := by simp [d]
    have hdj : ∀ (j : Nat) (hj : j < L.length), d[j]! = ⟨j, hj⟩ := fun j hj => by simp [d, hj]
    have hH : Holds enc w g 0 d := fun j hj => by
      rw [hds] at hj
      refine ⟨?_, frozen_of_heap hh _⟩
      rw [hdj j hj, Nat.zero_add, hr.cellAt j (by omega)]
      exact hen ⟨j, hj⟩
    have hO : OneCell enc := fun i => by
      obtain ⟨a, c, e, _⟩ := (hat i).slice
      rw [e]
      rfl
    have hcmp : CmpLays1 Try.prog 32 #[] enc (fun x y => (hd L[x.1] : Int) - (hd L[y.1] : Int)) g 0 d.size w := by
      refine CmpReads.lays fun m os dk _ x y => ?_
      have key : ∀ z : Fin L.length, ∃ (gz cz : Nat), enc z = .slice (some ⟨gz, 0, none⟩) L[z.1].length cz ∧ 0 < L[z.1].length ∧ hd L[z.1] ≤ 1000000 ∧ gz < (sortWorld enc w g 0 m dk os).heap.size ∧ (sortWorld enc w g 0 m dk os).cell? ⟨gz, 0, none⟩ = some (.int .i64 (hd L[z.1] : Int)) := by
        intro z
        obtain ⟨a, c, e, _, h1⟩ := (hat z).slice
        obtain ⟨n1, n2⟩ := hne L[z.1] (List.getElem_mem _)
        have hpos := List.length_pos_iff.2 n1
        obtain ⟨gz, rfl, _, hlt, _, hc⟩ := h1 hpos
        have h00 : L[z.1][0]? = some (hd L[z.1]) := by
          unfold hd
          cases hz : L[z.1] with
          | nil => exact absurd hz n1
          | cons a r => rfl
        refine ⟨gz, c, e, hpos, n2 _ (List.mem_of_getElem? h00), Nat.lt_of_lt_of_le hlt (grownBy_sortW dk).size, ?_⟩
        have hgz : gz ≠ g := fun e2 => by
          have h3 := (hat z).2
          rcases h3 with ⟨e3, _⟩ | ⟨g', cap', cur', e3, _, hh', _⟩
          · rw [e] at e3; cases e3
          · rw [e] at e3
            cases e3
            rw [e2, hh] at hh'
            cases hh'
        rw [World.cell?_of_block (a := ⟨gz, 0, none⟩) ((grownBy_sortW dk).block gz hlt (by simpa using hgz))]
        exact hc 0 _ h00
      obtain ⟨gx, cx, ex, lx, bx, zx, wx⟩ := key x
      obtain ⟨gy, cy, ey, ly, by', zy, wy⟩ := key y
      show Calls Try.prog 32 #[enc x, enc y] _ _
      rw [ex, ey]
      exact cmp_any lx ly bx by' zx zy wx wy
    have c := Any.slices_SortFunc Try.sortF enc hO (fun x y => (hd L[x.1] : Int) - (hd L[y.1] : Int)) (swo_hd fun i => hd L[i.1]) 32 #[] g 0 cap d w (enters_of Try.func32 (by kernel_rfl) rfl) hcmp hH (lt_of_heap hh) (by omega)
    rw [hds] at c
    change Calls Try.prog 31 _ w _ at c
    refine c.mono ?_
    rintro e w' ⟨rfl, d', n, os, hp, hs, rfl⟩
    obtain ⟨hps, _, hpp⟩ := hp
    rw [hds] at hps
    have e1 : d'.extract 0 L.length = d' := extract_full d' hps
    have e2 : d.extract 0 L.length = d := extract_full d hds
    rw [e1, e2] at hpp
    have hmap : d.toList.map (fun i => L[i.1]) = L := by
      apply List.ext_getElem (by simp [hds])
      intro i h1 h2
      simp [d]
    have hll : (d'.toList.map fun i => L[i.1]).length = L.length := by simp [hps]
    refine ⟨rfl, d'.toList.map enc, d'.toList.map (fun i => L[i.1]), ⟨?_, ?_⟩, ?_, ?_, grownBy_sortW d'⟩
    · rw [hll]
      refine ⟨by simp [hps], .inr ⟨g, cap, _, rfl, hg, heap_sortW d' hh, hn, hc, by simp [putCells]; simpa using hsz, ?_⟩⟩
      rw [Nat.mul_one]
      exact take_putN cur d' hps (by omega)
    · intro i l hil
      rw [List.getElem?_map] at hil
      cases hz : d'.toList[i]? with
      | none => rw [hz] at hil; cases hil
      | some z =>
        rw [hz] at hil
        cases hil
        refine ⟨enc z, by rw [List.getElem?_map, hz]; rfl, (hat z).block fun k hk hlt => (grownBy_sortW d').block k hlt fun e3 => ?_⟩
        cases e3
        have h3 := (hat z).2
        rcases h3 with ⟨e4, _⟩ | ⟨g', cap', cur', e4, _, hh', _⟩
        · rw [e4] at hk; cases hk
        · rw [e4] at hk
          cases hk
          rw [hh] at hh'
          cases hh'
    · refine (hpp.map _).trans ?_
      rw [hmap]
    · rw [List.pairwise_map, List.pairwise_iff_getElem]
      intro i j hi hj hij
      have hi' : i < d'.size := by simpa using hi
      have hj' : j < d'.size := by simpa using hj
      have h3 := hs i j (Nat.zero_le _) hij (by omega)
      rw [getElem!_pos d' i hi', getElem!_pos d' j hj'] at h3
      simp only [ltOf, decide_eq_false_iff_not] at h3
      simp only [Array.getElem_toList]
      omega
/-- What Parts tells: all parts of found, each rising, in the order of their least nodes. -/
def PartsR (n : Nat) (T L : List (List Nat)) : Prop := L.Perm ((foundF n T).map sortN) ∧ L.Pairwise (fun a b => hd a ≤ hd b)
theorem sortF_all {B : Nat} {v : Value} {vs : List Value} {L : List (List Nat)} {w : World} (h : RR B w v vs L) (hl : L.length ≤ 1000000) (hne : ∀ l ∈ L, l ≠ [] ∧ ∀ x ∈ l, x ≤ 1000000) :
    Calls Try.prog 31 #[v, .func (.func 32) #[] #[]] w fun e w' => e = .returned (.tuple #[]) ∧ ∃ vs' L', RR B w' v vs' L' ∧ L'.Perm L ∧ L'.Pairwise (fun a b => hd a ≤ hd b) ∧ w.grownBy w' v.ownBlock := by
  by_cases h0 : 0 < L.length
  · exact sortF_any h h0 hl hne
  · have hL : L = [] := List.length_eq_zero_iff.1 (by omega)
    subst hL
    obtain ⟨a, cap, rfl, _⟩ := own_slice h.row
    have c := AnyF.slices_SortFunc_none (P := Try.prog) (ρ := Try.sortF_ren) { Try.sortF with } a cap (.func (.func 32) #[] #[]) w
    change Calls Try.prog 31 _ w _ at c
    refine c.mono ?_
    rintro e w' ⟨rfl, rfl⟩
    exact ⟨rfl, vs, [], h, List.Perm.refl _, List.Pairwise.nil, ⟨rfl, rfl, rfl, Nat.le_refl _, fun _ _ _ => rfl⟩⟩
/-- The first k are sorted. -/
def mixL (L : List (List Nat)) (k : Nat) : List (List Nat) := (L.take k).map sortN ++ L.drop k
theorem mixL_len (L : List (List Nat)) (k : Nat) : (mixL L k).length = L.length := by
  unfold mixL
  rw [List.length_append, List.length_map, ← List.length_append, List.take_append_drop]
theorem mixL_at {L : List (List Nat)} {k i : Nat} : (mixL L k)[i]? = if i < k then (L[i]?).map sortN else L[i]? := by
  unfold mixL
  by_cases hk : k ≤ L.length
  · have hl : ((L.take k).map sortN).length = k := by simp; omega
    by_cases hi : i < k
    · rw [if_pos hi, List.getElem?_append_left (by omega), List.getElem?_map, List.getElem?_take_of_lt hi]
    · rw [if_neg hi, List.getElem?_append_right (by omega), hl, List.getElem?_drop]
      congr 1
      omega
  · rw [List.take_of_length_le (by omega), List.drop_of_length_le (by omega), List.append_nil, List.getElem?_map]
    by_cases hi : i < k
    · rw [if_pos hi]
    · rw [if_neg hi, List.getElem?_eq_none (by omega)]
      rfl
theorem RR.sorted {B : Nat} {w w' : World} {v : Value} {vs : List Value} {L : List (List Nat)} {k : Nat} {l : List Nat} {u : Value} (h : RR B w v vs (mixL L k)) (hl : L[k]? = some l) (hu : vs[k]? = some u) (hg : w.grownBy w' u.ownBlock) (hs : IR B w' u (sortN l))
    (hd : ∀ (i j : Nat) (u x : Value) (k : Nat), vs[i]? = some u → vs[j]? = some x → u.ownBlock = some k → x.ownBlock = some k → i = j) : RR B w' v vs (mixL L (k + 1)) := by
  have hw : IR B w u l := by
    obtain ⟨u', h1, h2⟩ := h.each k l (by rw [mixL_at, if_neg (Nat.lt_irrefl _)]; exact hl)
    rw [hu] at h1
    cases h1
    exact h2
  refine ⟨?_, fun i l' hl' => ?_⟩
  · have := h.row
    rw [mixL_len] at this ⊢
    exact own_block this fun q e hlt => hg.block q hlt fun e2 => rr_ne h hw e2.symm e
  · by_cases hik : i = k
    · subst hik
      rw [mixL_at, if_pos (Nat.lt_succ_self _), hl] at hl'
      cases hl'
      exact ⟨u, hu, hs⟩
    · have e : (mixL L k)[i]? = some l' := by
        rw [mixL_at] at hl' ⊢
        by_cases hlt : i < k
        · rw [if_pos hlt]
          rw [if_pos (by omega)] at hl'
          exact hl'
        · rw [if_neg hlt]
          rw [if_neg (by omega)] at hl'
          exact hl'
      obtain ⟨u', h1, h2⟩ := h.each i l' e
      exact ⟨u', h1, h2.block fun q e1 hlt => hg.block q hlt fun e2 => hik (hd i k u' u q h1 hu e1 e2.symm)⟩
theorem mixL_all (L : List (List Nat)) : mixL L L.length = L.map sortN := by
  unfold mixL
  rw [List.take_of_length_le (Nat.le_refl _), List.drop_of_length_le (Nat.le_refl _), List.append_nil]
theorem mixL_zero (L : List (List Nat)) : mixL L 0 = L := by simp [mixL]
theorem mem_sum_le {L : List (List Nat)} : ∀ l ∈ L, l.length ≤ (L.map List.length).sum := by
  induction L with
  | nil => intro l h; cases h
  | cons a r ih =>
    intro l h
    simp only [List.map_cons, List.sum_cons]
    rcases List.mem_cons.1 h with rfl | h
    · omega
    · have := ih l h
      omega
theorem found_facts {n : Nat} {T : List (List Nat)} (hT : TOk n T) : (foundF n T).length ≤ n ∧ ∀ l ∈ foundF n T, l ≠ [] ∧ l.length ≤ n ∧ ∀ y ∈ l, y < n := by
  have h := foundS_ok hT n (Nat.le_refl _)
  have h1 := h.all
  have h2 := h.num
  have h3 := parts_le h.pne
  refine ⟨by unfold foundF; omega, fun l hl => ⟨h.pne l hl, ?_, h.plt l hl⟩⟩
  have : l.length ≤ ((foundS n T n).parts.map List.length).sum := mem_sum_le l hl
  omega
set_option maxHeartbeats 4000000 in
set_option maxRecDepth 100000 in
theorem parts_any {w : World} {G : Gb} {n : Nat} {T F : List (List Nat)} (hT : TOk n T) (hn : n ≤ 100000) (h : GrN w G n T F) (hG : 0 < n → ∀ k, G.has k → k < w.heap.size) :
    Calls Try.prog 16 #[G.pv] w fun e w' => ∃ v vs L, e = .returned v ∧ RR w.heap.size w' v vs L ∧ PartsR n T L ∧ Below w.heap.size w w' := by
  have HF := Lib.hid (found_any hT hn h hG)
  obtain ⟨hf1, hf2⟩ := found_facts hT
  have HF2 := Lib.hid hf2
  have HT := Lib.hid hT
  clear hf2 hT hG h
  generalize G.pv = gv at *
  go_enter Try.func16, Try.ntmps16
  go_wp2_with fail
  refine HF.out.mono ?_
  rintro e w1 ⟨v, vs, rfl, hR, hd', hB⟩
  obtain ⟨L, hL⟩ : ∃ L, foundF n T = L := ⟨_, rfl⟩
  have PR : Hid (∀ L', L'.Perm (L.map sortN) → L'.Pairwise (fun a b => hd a ≤ hd b) → PartsR n T L') := fun L' h1 h2 => ⟨by rw [hL]; exact h1, h2⟩
  rw [hL] at hR hf1 HF2
  obtain ⟨a, cap, rfl, _⟩ := own_slice hR.row
  obtain ⟨m, hm⟩ : ∃ m, L.length = m := ⟨_, rfl⟩
  have HMN := Lib.hid hm
  have HD := Lib.hid hd'
  have HR : Hid (RR w.heap.size w1 (.slice a m cap) vs (mixL L 0)) := by rw [mixL_zero, ← hm]; exact hR
  have HB := Lib.hid hB
  rw [hm] at hf1 ⊢
  clear HF hL hR hd' hB hm
  go_wp2_with fail
  go_loopg [10] m (fun g i wr => ∃ (k : Nat), i = .int .i64 k ∧ g = m - k ∧ k ≤ m ∧ Hid (RR w.heap.size wr (.slice a m cap) vs (mixL L k)) ∧ Hid (Below w.heap.size w wr))
  case atStart => exact ⟨0, rfl, rfl, Nat.zero_le _, HR, HB⟩
  case round =>
    obtain ⟨k, rfl, rfl, hk, hR, hB⟩ := hrel
    by_cases hlt : k < m
    · obtain ⟨l, hl⟩ : ∃ l, L[k]? = some l := ⟨_, List.getElem?_eq_getElem (by rw [HMN.out]; exact hlt)⟩
      obtain ⟨_, _, e, _, hrow⟩ := hR.out.slice
      obtain ⟨g, e2, zg, ra, rc, hvs, hcell, hir⟩ := hrow k l (by rw [mixL_at, if_neg (Nat.lt_irrefl _)]; exact hl)
      injection e with e3 e4 e5
      rw [e2] at e3
      subst e3
      clear e2 e4 e5
      obtain ⟨n1, n2, n3⟩ := HF2.out l (List.mem_of_getElem? hl)
      have j1 : (0 : Int) ≤ (k : Int) := by omega
      have j2 : (k : Int) < (m : Int) := by omega
      have CS := Lib.hid (sort_any hir (List.length_pos_iff.2 n1) (by omega))
      have NX : Hid (∀ w', IR w.heap.size w' (.slice ra l.length rc) (sortN l) → wr.grownBy w' (Value.slice ra l.length rc).ownBlock → RR w.heap.size w' (.slice (some ⟨g, 0, none⟩) m cap) vs (mixL L (k + 1)) ∧ Below w.heap.size w w') := fun w' h1 h2 => by
        refine ⟨RR.sorted hR.out hl hvs h2 h1 HD.out, hB.out.grown h2 hB.out.size fun q e => ?_⟩
        exact (hir.lt q e).1
      clear hl hrow hvs hir n1 n2 n3 hR hB
      go_wp2_with fail
      refine CS.out.mono ?_
      rintro e w2 ⟨rfl, h1, h2⟩
      obtain ⟨h3, h4⟩ := NX.out w2 h1 h2
      have H3 := Lib.hid h3
      have H4 := Lib.hid h4
      clear h1 h2 h3 h4 CS NX hcell
      go_wp2_with fail
      go_roundg (m - (k + 1))
      case measure => omega
      case rel => exact ⟨k + 1, by go_num, rfl, by omega, H3, H4⟩
    · have hkm : k = m := by omega
      subst hkm
      have hR' : RR w.heap.size wr (.slice a k cap) vs (L.map sortN) := by rw [← mixL_all, HMN.out]; exact hR.out
      have CF := Lib.hid (sortF_all hR' (by rw [List.length_map, HMN.out]; omega) (fun l hl => by
        obtain ⟨l', h1, rfl⟩ := List.mem_map.1 hl
        obtain ⟨n1, n2, n3⟩ := HF2.out l' h1
        refine ⟨fun e => n1 (List.length_eq_zero_iff.1 (by rw [← sortN_length l', e]; rfl)), fun x hx => ?_⟩
        have := n3 x ((List.mergeSort_perm l' _).mem_iff.1 hx)
        omega))
      have HR' := Lib.hid hR'
      clear hR hR'
      go_wp2_with fail
      refine CF.out.mono ?_
      rintro e w2 ⟨rfl, vs', L', h1, h2, h3, h4⟩
      have F1 := Lib.hid h1
      have F2 := Lib.hid (PR.out L' h2 h3)
      have F3 : Hid (Below w.heap.size w w2) := hB.out.grown h4 hB.out.size fun q e => (HR'.out.row.lt q e).1
      clear h1 h2 h3 h4 CF HR' hB
      go_wp2_with fail
      refine bodyPost_ret (v := .slice a k cap) (by simp [results, Try.results16, go_sem]) rfl ⟨_, vs', L', rfl, F1.out, F2.out, F3.out⟩
end Go.Proofs.Ytcjohhminiedfaa
