/- flogic.Names: the ten names, rising; the document's Names; Texts. -/
import Derived.Test.YtgbedjeiihigaaaF13TabS
import Derived.Test.YtgbedjeiihigaaaF13ShelfP
import Derived.Test.YtgbedjeiihigaaaF13Build
import Derived.Test.YtgbedjeiihigaaaMultiR
import Derived.StringKeys
import Derived.Shelf.Abstract
import Derived.Shelf.RegionOpen
import Derived.OwnWalkIn
import Derived.TacticsInMore
import Derived.LoopNIn
import Derived.LoopIn
namespace Go.Proofs.Ytgbedjeiihigaaa
open Go.RowKit Go.Shelf Go.Maps Go.WideMaps
def anyR : Value → Option (DataW Unit × List MemPlace) := fun _ => some (.nil, [])
theorem MapS.ownsStr {w : World} {b : Nat} {l : List (ByteArray × Value)} (h : MapS w b Value.string (id : Value → Value) l) (hr : ∀ p ∈ l, p.1.size ≤ maxLen) (hsz : l.length ≤ 1000) :
    ∃ D : DataW Unit, w.ownsMap Try.prog 9 anyR b l.length D ∧ Maps.size D = l.length ∧ (strKeys D).Perm (l.map fun p => p.1.data.toList) := by
  obtain ⟨es, clock, h1, h2, h3, h4⟩ := h
  have hlen : es.size = l.length := by
    have := congrArg List.length h2
    simpa using this
  have hent : ∀ x ∈ es.toList, ∃ p ∈ l, x.key = Value.string p.1 := fun x hx => by
    have : (x.key, x.val) ∈ l.map (fun p => (Value.string p.1, (id : Value → Value) p.2)) := by rw [← h2]; exact List.mem_map.2 ⟨x, hx, rfl⟩
    obtain ⟨p, hp, e⟩ := List.mem_map.1 this
    exact ⟨p, hp, (congrArg Prod.fst e).symm⟩
  have hrd : ∀ x ∈ es.toList, ∀ p ∈ l, x.key = Value.string p.1 → WideElems.rd Try.prog 9 anyR x = some (.string p.1.data.toList, .nil) := fun x _ p hp e => by
    unfold WideElems.rd
    rw [e, keyOf_string_mk Try.underlying9 (hr p hp)]
    rfl
  have hkeys : es.toList.map (·.key) = l.map (fun p => Value.string p.1) := by
    have := congrArg (List.map Prod.fst) h2
    rw [List.map_map, List.map_map] at this
    exact this
  have hrg : es.toList.map (WideElems.rg Try.prog 9 anyR) = l.map (fun p => ((Lit.string p.1.data.toList, .nil) : Lit × DataW Unit)) := by
    have e1 : es.toList.map (WideElems.rg Try.prog 9 anyR) = (es.toList.map (·.key)).map (fun v => ((keyOf Try.prog 9 v).map (fun k => (k, DataW.nil))).getD (.bool false, .nil)) := by
      rw [List.map_map]
      refine List.map_congr_left fun x hx => ?_
      obtain ⟨p, hp, e⟩ := hent x hx
      unfold WideElems.rg
      rw [hrd x hx p hp e, Function.comp_apply, e, keyOf_string_mk Try.underlying9 (hr p hp)]
      rfl
    rw [e1, hkeys, List.map_map]
    refine List.map_congr_left fun p hp => ?_
    rw [Function.comp_apply, keyOf_string_mk Try.underlying9 (hr p hp)]
    rfl
  refine ⟨.map ((es.toList.map (WideElems.rg Try.prog 9 anyR)).foldr DataW.insert []), ⟨es, clock, h1, ⟨?_, ?_, ?_⟩, by omega, rfl⟩, ?_, ?_⟩
  · have : (1000 : Nat) ≤ maxLen := by decide
    omega
  · refine ⟨h4.1, h4.2, ?_⟩
    rw [hkeys]
    refine List.pairwise_map.2 ((List.pairwise_map.1 h3).imp fun {a b} hne e => hne ?_)
    simpa using e
  · intro x hx
    obtain ⟨p, hp, e⟩ := hent x hx
    exact ⟨_, hrd x hx p hp e⟩
  · rw [size_eq, length_sorted]
    simp [hlen]
  · show ((_ : List (Lit × DataW Unit)).map fun p => Go.strOf p.1).Perm _
    refine ((WideShapes.sorted_perm _).map _).trans ?_
    rw [hrg, List.map_map]
    refine List.Perm.of_eq (List.map_congr_left fun p _ => ?_)
    rfl
theorem sortsA (m : Nat) : AnyZ.SortsIn Try.prog Try.sortedA_ren Fence.wide m :=
  ⟨fun blk off cap ss W hH hblk hsz => callsIn_wide.2 (AnyM.slices_Sort_string Try.sortA blk off cap ss W hH hblk hsz),
   fun p cap W => callsIn_wide.2 (AnyM.slices_Sort_string_none Try.sortA p cap W)⟩
theorem keys_of (mb : Option Nat) (W : World) : Calls Try.prog 30 #[.map mb] W fun e w' => e = .returned (.func (.func 50) #[] #[.pointer (some ⟨W.heap.size, 0, none⟩)]) ∧ w' = W.alloc (.cells #[.map mb] 50) :=
  (callsIn_wide (n := 6)).1 (AnyZ.keys_in Try.keysA Fence.wide 6 trivial rfl mb W)
def nameL : List (List UInt8) := [[65, 78, 68], [73, 83, 66, 76, 65, 78, 75], [73, 83, 69, 82, 82, 79, 82], [73, 83, 76, 79, 71, 73, 67, 65, 76], [73, 83, 78, 85, 77, 66, 69, 82], [73, 83, 84, 69, 88, 84], [78, 65], [78, 79, 84], [79, 82], [88, 79, 82]]
theorem tbl_keys (b1 b2 b3 b4 b5 b6 b7 b8 b9 : Nat) : (tbl b1 b2 b3 b4 b5 b6 b7 b8 b9).map (fun p => p.1.data.toList) = [[65, 78, 68], [79, 82], [88, 79, 82], [78, 79, 84], [73, 83, 66, 76, 65, 78, 75], [73, 83, 78, 85, 77, 66, 69, 82], [73, 83, 84, 69, 88, 84], [73, 83, 76, 79, 71, 73, 67, 65, 76], [73, 83, 69, 82, 82, 79, 82], [78, 65]] := rfl
theorem tbl_perm (b1 b2 b3 b4 b5 b6 b7 b8 b9 : Nat) : ((tbl b1 b2 b3 b4 b5 b6 b7 b8 b9).map (fun p => p.1.data.toList)).Perm nameL := by
  rw [tbl_keys]
  exact List.isPerm_iff.1 (by decide)
theorem sorted_names {ss : List (List UInt8)} (h : ss.Perm nameL) : ss.mergeSort (fun x y => decide (x ≤ y)) = nameL := by
  rw [mergeSort_of_perm h]
  exact List.mergeSort_of_pairwise (by unfold nameL; decide)
set_option maxHeartbeats 1000000 in
theorem sorted_of (W : World) (c b1 b2 b3 b4 b5 b6 b7 b8 b9 : Nat) (hm : MapS W c Value.string (id : Value → Value) (tbl b1 b2 b3 b4 b5 b6 b7 b8 b9)) :
    Calls Try.prog 29 #[.func (.func 50) #[] #[.pointer (some ⟨W.heap.size, 0, none⟩)]] (W.alloc (.cells #[.map (some c)] 50)) fun e w' => ∃ v : Value, e = .returned v ∧ w'.ownsRow W.heap.size 9 1 v 10 (nameL.map encStr) ∧ Below W.heap.size W w' := by
  refine (callsIn_wide (n := 6)).1 ?_
  have hlen : (tbl b1 b2 b3 b4 b5 b6 b7 b8 b9).length = 10 := rfl
  obtain ⟨D, hown, hs, hk⟩ := (hm.alloc (.cells #[.map (some c)] 50)).ownsStr (fun p hp => by
    have : p.1.data.toList ∈ (tbl b1 b2 b3 b4 b5 b6 b7 b8 b9).map (fun p => p.1.data.toList) := List.mem_map.2 ⟨p, hp, rfl⟩
    rw [tbl_keys] at this
    have h2 : p.1.data.toList.length ≤ 9 := by
      simp only [List.mem_cons, List.not_mem_nil, or_false] at this
      rcases this with h | h | h | h | h | h | h | h | h | h <;> rw [h] <;> decide
    rw [Array.length_toList] at h2
    have : (9 : Nat) ≤ maxLen := by decide
    exact Nat.le_trans h2 this) (by omega)
  have hbox : (W.alloc (.cells #[.map (some c)] 50)).heap[W.heap.size]? = some (.cells #[.map (some c)] 50) := heap_alloc_new _ _
  rw [hlen] at hs hown
  have hmx : (10 : Nat) ≤ maxLen := by decide
  have hseq : SeqGives Fence.wide 3 Try.prog 50 #[.pointer (some ⟨W.heap.size, 0, none⟩)] encStr (fun ss => ss.Perm (strKeys D)) (Maps.size D) (W.alloc (.cells #[.map (some c)] 50)) :=
    AnyZ.keys_gives (ρ := Try.keysA_ren) { Try.keysA with } Fence.wide _ trivial rfl (by omega) W.heap.size c 10 D _ (lt_of_heap hbox) (cell_of_heap hbox 0) hown
  have cS := AnyZ.sorted_in Try.sortedA Fence.wide 6 trivial trivial trivial trivial rfl (by omega) (sortsA _) (enters_of Try.func49 (by kernel_rfl) rfl) 50 #[.pointer (some ⟨W.heap.size, 0, none⟩)] trivial (enters_of Try.func50 (by kernel_rfl) rfl) _ _ (by omega) (by omega) _ hseq
  change CallsIn _ _ Try.prog 29 _ _ _ at cS
  refine cS.mono ?_
  rintro e w' ⟨v, ss, rfl, hS, hrow, _, hb⟩
  have hp : ss.Perm nameL := (hS.trans hk).trans (tbl_perm _ _ _ _ _ _ _ _ _)
  have hss : ss.length = 10 := hp.length_eq
  rw [sorted_names hp, hss] at hrow
  exact ⟨v, rfl, ownsRow_base_a hrow (by simp), ((Below.refl _ W).alloc (Nat.le_refl _) _).trans (hb.mono (by simp))⟩
set_option maxHeartbeats 1000000 in
theorem names_any (w : World) : Calls Try.prog 18 #[] w fun e w' => ∃ v : Value, e = .returned v ∧ w'.ownsRow w.heap.size 9 1 v 10 (nameL.map encStr) ∧ Below w.heap.size w w' := by
  go_enter Try.func18, Try.ntmps18
  go_wp2_with fail
  refine (tableS_any _).mono ?_
  rintro e w1 ⟨B, b1, b2, b3, b4, b5, b6, b7, b8, b9, rfl, hT, hb⟩
  have HS := Lib.hid (sorted_of w1 B b1 b2 b3 b4 b5 b6 b7 b8 b9 hT)
  have HB := Lib.hid hb
  clear hT hb
  go_wp2_with fail
  refine (keys_of (some B) w1).mono ?_
  rintro e w2 ⟨rfl, rfl⟩
  go_wp2_with fail
  refine HS.out.mono ?_
  rintro e w3 ⟨v, rfl, hr, hb⟩
  have HR := Lib.hid (ownsRow_base_a hr HB.out.size)
  have HB3 := Lib.hid (HB.out.trans (hb.mono HB.out.size))
  clear hr hb
  go_wp2_with fail
  go_ret
  exact ⟨v, rfl, HR.out, HB3.out⟩
def StrsAt (w : World) (v : Value) (l : List (List UInt8)) : Prop := ∃ b off cap, v = .slice (some ⟨b, off, none⟩) l.length cap ∧ b < w.heap.size ∧ ∀ i x, l[i]? = some x → w.cell? ⟨b, off + i, none⟩ = some (.string ⟨x.toArray⟩)
theorem StrsAt.below {w w' : World} {v : Value} {l : List (List UInt8)} (h : StrsAt w v l) (hb : Below w.heap.size w w') : StrsAt w' v l := by
  obtain ⟨b, off, cap, e, h1, h2⟩ := h
  exact ⟨b, off, cap, e, Nat.lt_of_lt_of_le h1 hb.size, fun i x hx => (hb.cell (p := ⟨b, off + i, none⟩) h1).trans (h2 i x hx)⟩
theorem strs_own {w : World} {B : Nat} {v : Value} (h : w.ownsRow B 9 1 v 10 (nameL.map encStr)) : StrsAt w v nameL := by
  obtain ⟨_, h2⟩ := h
  rcases h2 with ⟨_, h3⟩ | ⟨g, c, cur, rfl, hg, hh, hle, _, _, hc⟩
  · cases h3
  · refine ⟨g, 0, c, rfl, lt_of_heap hh, fun i x hx => ?_⟩
    have hlt : i < 10 := (List.getElem?_eq_some_iff.1 hx).1
    have e : (cur.toList.take (10 * 1))[i]? = some (encStr x) := by rw [hc, List.getElem?_map, hx]; rfl
    rw [List.getElem?_take_of_lt (by omega), Array.getElem?_toList] at e
    rw [cell_of_heap hh, Nat.zero_add, e]
set_option maxHeartbeats 1000000 in
set_option maxRecDepth 100000 in
theorem rnames_any (w : World) : Calls Try.prog 19 #[] w fun e w' => ∃ v : Value, e = .returned v ∧ StrsAt w' v nameL ∧ Below w.heap.size w w' := by
  go_enter Try.func19, Try.ntmps19
  go_wp2
  go_ret
  refine ⟨_, rfl, ⟨w.heap.size, 0, 10, rfl, ?_, fun i x hx => ?_⟩, ?_⟩
  · simp
  · rw [cell_of_heap (heap_alloc_new w _), Nat.zero_add]
    have hlt : i < 10 := (List.getElem?_eq_some_iff.1 hx).1
    unfold nameL at hx
    match i, hlt with
    | 0, _ => simp at hx; subst hx; rfl
    | 1, _ => simp at hx; subst hx; rfl
    | 2, _ => simp at hx; subst hx; rfl
    | 3, _ => simp at hx; subst hx; rfl
    | 4, _ => simp at hx; subst hx; rfl
    | 5, _ => simp at hx; subst hx; rfl
    | 6, _ => simp at hx; subst hx; rfl
    | 7, _ => simp at hx; subst hx; rfl
    | 8, _ => simp at hx; subst hx; rfl
    | 9, _ => simp at hx; subst hx; rfl
  · (repeat (first | with_reducible exact Below.refl _ _ | with_reducible exact hBW | with_reducible refine Below.setCell ?_ ?_ _ | with_reducible refine Below.alloc ?_ ?_ _ | with_reducible refine belowN ?_ _ | with_reducible refine Below.drew ?_)); all_goals (first | omega | (dsimp only; omega) | ((repeat (first | with_reducible refine le_alloc ?_ | with_reducible refine le_setCell ?_ | with_reducible refine le_drew ?_ | with_reducible refine le_drewN ?_)); omega))
set_option maxHeartbeats 1000000 in
set_option maxRecDepth 100000 in
theorem texts_yes (l : List (List UInt8)) (hl : l.length ≤ 1000) (x y : Value) (w : World) (hx : StrsAt w x l) (hy : StrsAt w y l) : Calls Try.prog 17 #[x, y] w fun e w' => e = .returned (.bool true) ∧ Below w.heap.size w w' := by
  obtain ⟨b, off, cap, rfl, h1, h2⟩ := hx
  obtain ⟨c, off', cap', rfl, h3, h4⟩ := hy
  have H2 := Lib.hid h2
  have H4 := Lib.hid h4
  have nn : ((l.length : Int) != (l.length : Int)) = false := by simp
  clear h2 h4
  go_enter Try.func17, Try.ntmps17
  go_wp2_with fail
  go_loopw [5] (fun i wr => ∃ k : Nat, i = .int .i64 k ∧ k ≤ l.length ∧ Hid (Below w.heap.size w wr)) (fun i _ => l.length - (intOf i).toNat)
  case atStart => exact ⟨0, rfl, Nat.zero_le _, Below.refl _ _⟩
  case round =>
    obtain ⟨k, rfl, hk, hB⟩ := hrel
    by_cases hlt : k < l.length
    · obtain ⟨s, hs⟩ : ∃ s, l[k]? = some s := ⟨_, List.getElem?_eq_getElem hlt⟩
      have d1 := (hB.out.cell (p := ⟨b, off + k, none⟩) h1).trans (H2.out k s hs)
      have d2 := (hB.out.cell (p := ⟨c, off' + k, none⟩) h3).trans (H4.out k s hs)
      have z1 : b < wr.heap.size := Nat.lt_of_lt_of_le h1 hB.out.size
      have z2 : c < wr.heap.size := Nat.lt_of_lt_of_le h3 hB.out.size
      have j1 : (0 : Int) ≤ (k : Int) := by omega
      have j2 : (k : Int) < (l.length : Int) := by omega
      clear hs
      obtain ⟨t, ht⟩ : ∃ t : ByteArray, t = ⟨s.toArray⟩ := ⟨_, rfl⟩
      rw [← ht] at d1 d2
      clear ht
      go_wp2_with fail
      refine wp_region_multiR [([0, 1, 2, 3, 4, 5, 6, 7, 8], [], [])] (by kernel_rfl) (by kernel_rfl) ?_
      refine multi_phase (Below wr.heap.size wr) (Below.refl _ _).drew ?_
      iterate 9 (first | (apply first_step; (rw [List.getElem?_toArray]; (repeat rw [List.getElem?_cons_succ]); rw [List.getElem?_cons_zero]); rfl; (intro W hB; have hc := bcellB hB; go_simp; (first | done | rfl)); go_frame) | (apply first_skip; (rw [List.getElem?_toArray]; (repeat rw [List.getElem?_cons_succ]); rw [List.getElem?_cons_zero]); rfl; go_frame))
      refine first_done ?_
      refine forced_done ?_
      refine multi_done ?_
      clear d1 d2
      go_wp2_with fail
      go_roundw
      case rel => exact ⟨k + 1, by go_num, by omega, hB.out.drew⟩
      case measure => simp [intOf]; omega
    · go_wp2_with fail
      go_ret
      exact ⟨rfl, hB.out⟩
end Go.Proofs.Ytgbedjeiihigaaa
