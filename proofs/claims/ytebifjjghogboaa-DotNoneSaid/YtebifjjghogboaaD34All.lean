/- All: the iterator over what a Seen holds, by authors rising. -/
import Derived.Test.YtebifjjghogboaaD34Sn
import Derived.Test.YtebifjjghogboaaD34ShelfP
import Derived.RangeFuncNested
import Derived.RangeFuncBound
import Derived.RangeFuncCalls
import Derived.RangeFuncLeaves
import Derived.Shelf.Abstract
import Derived.Shelf.RegionOpen
import Derived.OwnWalkIn
import Derived.TacticsInMore
import Derived.LoopNIn
import Derived.LoopIn
namespace Go.Proofs.Ytebifjjghogboaa
open Go.RowKit Go.Shelf Go.Maps
attribute [local go_sem] Oper.semAt_some
theorem all_any (v : Value) (w : World) (hv : v = .pointer none ∨ ∃ p, v = .pointer (some p)) :
    Calls Try.prog 29 #[v] w fun e w' => e = .returned (.func (.func 31) #[] #[.pointer (some ⟨w.heap.size, 0, none⟩)]) ∧ w' = w.alloc (.cells #[v] 26) := by
  rcases hv with rfl | ⟨p, rfl⟩
  · go_enter Try.func29, Try.ntmps29
    go_wp2
    go_ret
    exact ⟨rfl, rfl⟩
  · go_enter Try.func29, Try.ntmps29
    go_wp2
    go_ret
    exact ⟨rfl, rfl⟩
/-- All blocks of cells, and all maps, but those in Z are kept. -/
structure KZ (Z : Nat → Prop) (W W' : World) : Prop where
  size : W.heap.size ≤ W'.heap.size
  same : ∀ (k : Nat) (o : Obj), ¬ Z k → W.heap[k]? = some o → (o.isCells = true ∨ o.isWalk = true) → W'.heap[k]? = some o
theorem KZ.refl (Z : Nat → Prop) (W : World) : KZ Z W W := ⟨Nat.le_refl _, fun _ _ _ h _ => h⟩
theorem KZ.trans {Z : Nat → Prop} {A B C : World} (h : KZ Z A B) (k : KZ Z B C) : KZ Z A C :=
  ⟨Nat.le_trans h.size k.size, fun i o hz hi ho => k.same i o hz (h.same i o hz hi ho) ho⟩
theorem KZ.of_fr {Z : Nat → Prop} {A B : World} (h : Fr Z A B) : KZ Z A B := ⟨h.size, fun i _ hz hi _ => (h.block i (lt_of_heap hi) hz).trans hi⟩
theorem kz_b {Z : Nat → Prop} {w : World} (W : World) (l : Nat) (o o' : Obj) (_ : w.heap.size ≤ l) (h : W.heap[l]? = some o) (h1 : o.isCells = false) (h2 : o.isWalk = false) : KZ Z W (W.putObj l o') := by
  refine ⟨(grownBy_putObj' W l o').size, fun k q _ hk hq => ((grownBy_putObj' W l o').block k (lt_of_heap hk) (fun e => ?_)).trans hk⟩
  cases e
  rw [h] at hk
  cases hk
  rw [h1, h2] at hq
  rcases hq with h | h <;> cases h
abbrev SIn (L : List Id2) := { x : Id2 // x ∈ L }
def encS {L : List Id2} (x : SIn L) : Array Value := #[.int .i64 x.1.1, .int .i64 x.1.2]
theorem sortsA (m : Nat) : AnyZI.SortsIn Try.prog Try.sortedA_ren Fence.wide m :=
  ⟨fun blk off cap ss W hH hblk hsz => callsIn_wide.2 (AnyM.slices_Sort_int Try.sortA blk off cap ss W hH hblk hsz),
   fun p cap W => callsIn_wide.2 (AnyM.slices_Sort_int_none Try.sortA p cap W)⟩
theorem sort_keys {l L : List Id2} {ss : List Int} (h : l.Perm L) (hL : Good L) (hs : ss.Perm (l.map Prod.fst)) : ss.mergeSort (fun x y => decide (x ≤ y)) = L.map Prod.fst := by
  have h1 : ss.Perm (L.map Prod.fst) := hs.trans (h.map _)
  have h2 : (L.map Prod.fst).Pairwise (fun a b => leI a b = true) := by
    refine List.pairwise_map.2 (hL.1.imp fun {a b} hab => ?_)
    simp only [leI, decide_eq_true_eq]
    omega
  refine List.Perm.eq_of_pairwise (le := fun a b => leI a b = true) (fun a b _ _ h1 h2 => ?_) (List.pairwise_mergeSort ?_ ?_ ss) h2 ((List.mergeSort_perm ss _).trans h1)
  · simp only [leI, decide_eq_true_eq] at h1 h2
    exact Int.le_antisymm h1 h2
  · intro a b c h1 h2
    simp only [decide_eq_true_eq] at *
    exact Int.le_trans h1 h2
  · intro a b
    simp only [Bool.or_eq_true, decide_eq_true_eq]
    exact Int.le_total a b
set_option maxHeartbeats 1000000 in
/-- slices.Sorted(maps.Keys(m)) in All's body. -/
theorem sorted_of (w : World) (c : Nat) (L : List Id2) (hm : MapL w c L) (hbox : w.heap[w.heap.size - 1]? = some (.cells #[.map (some c)] 47)) :
    CallsIn Fence.wide 6 Try.prog 33 #[.func (.func 38) #[] #[.pointer (some ⟨w.heap.size - 1, 0, none⟩)]] w fun e w' => ∃ v : Value, e = .returned v ∧
      w'.ownsRow w.heap.size 3 1 v L.length (L.map fun p => encZ p.1) ∧ Below w.heap.size w w' := by
  obtain ⟨l, h1, h2, h3⟩ := hm
  have hlen : l.length = L.length := h2.length_eq
  have hl1 := h3.length
  obtain ⟨D, hD, hs, hk⟩ := h1.owns (fun p hp => wf_of (by have := h3.2 p (h2.subset hp); omega) (by have := h3.2 p (h2.subset hp); omega)) (by omega)
  have hmx : (1000 : Nat) ≤ maxLen := by decide
  have hseq : SeqGives Fence.wide 3 Try.prog 38 #[.pointer (some ⟨w.heap.size - 1, 0, none⟩)] encZ (fun ss => ss.Perm (intKeys D)) (Maps.size D) w :=
    AnyZI.keys_gives (ρ := Try.keysA_ren) { Try.keysA with } Fence.wide _ trivial rfl (by omega) (w.heap.size - 1) c l.length D w (lt_of_heap hbox) (cell_of_heap hbox 0) hD
  have cS := AnyZI.sorted_in Try.sortedA Fence.wide 6 trivial trivial trivial trivial rfl (by omega) (sortsA _) (enters_of Try.func37 (by kernel_rfl) rfl) 38 #[.pointer (some ⟨w.heap.size - 1, 0, none⟩)] trivial (enters_of Try.func38 (by kernel_rfl) rfl) _ _ (by omega) (by omega) _ hseq
  change CallsIn _ _ Try.prog 33 _ _ _ at cS
  refine cS.mono ?_
  rintro e w' ⟨v, ss, rfl, hS, hrow, _, hb⟩
  refine ⟨v, rfl, ?_, hb⟩
  have hss : ss.length = L.length := by rw [(hS.trans hk).length_eq, List.length_map, hlen]
  have e : (ss.mergeSort (fun x y => decide (x ≤ y))).map encZ = L.map (fun p => encZ p.1) := by
    rw [sort_keys h2 h3 (hS.trans hk), List.map_map]
    rfl
  rw [e, hss] at hrow
  exact hrow
theorem keys_of (mb : Option Nat) (W : World) : CallsIn Fence.wide 6 Try.prog 34 #[.map mb] W fun e w' => e = .returned (.func (.func 38) #[] #[.pointer (some ⟨W.heap.size, 0, none⟩)]) ∧ w' = W.alloc (.cells #[.map mb] 47) :=
  AnyZI.keys_in Try.keysA Fence.wide 6 trivial rfl mb W
theorem clone_of (b : Nat) (es : Array MapEntry) (clock : Nat) (w : World) (hb : w.heap[b]? = some (.map es clock)) :
    CallsIn Fence.wide 6 Try.prog 32 #[.map (some b)] w fun e w' => e = .returned (.map (some w.heap.size)) ∧ w' = w.alloc (.map es clock) := callsIn_wide.2 (AnyW.maps_Clone Try.cloneA b es clock w hb)
theorem clone_nil (w : World) : CallsIn Fence.wide 6 Try.prog 32 #[.map none] w fun e w' => e = .returned (.map none) ∧ w' = w := callsIn_wide.2 (AnyW.maps_Clone_nil Try.cloneA w)
theorem sorted_nil (w : World) (hbox : w.heap[w.heap.size - 1]? = some (.cells #[.map none] 47)) :
    CallsIn Fence.wide 6 Try.prog 33 #[.func (.func 38) #[] #[.pointer (some ⟨w.heap.size - 1, 0, none⟩)]] w fun e w' => e = .returned (.slice none 0 0) ∧ Below w.heap.size w w' := by
  have hseq : SeqGives Fence.wide 3 Try.prog 38 #[.pointer (some ⟨w.heap.size - 1, 0, none⟩)] encZ (fun ss : List Int => ss = []) 0 w :=
    AnyZI.keys_gives_nil (ρ := Try.keysA_ren) { Try.keysA with } Fence.wide _ trivial rfl (w.heap.size - 1) w (lt_of_heap hbox) (cell_of_heap hbox 0)
  have cS := AnyZI.sorted_in Try.sortedA Fence.wide 6 trivial trivial trivial trivial rfl (by omega) (sortsA _) (enters_of Try.func37 (by kernel_rfl) rfl) 38 #[.pointer (some ⟨w.heap.size - 1, 0, none⟩)] trivial (enters_of Try.func38 (by kernel_rfl) rfl) _ 0 (Nat.zero_le _) (by omega) _ hseq
  change CallsIn _ _ Try.prog 33 _ _ _ at cS
  refine cS.mono ?_
  rintro e w' ⟨v, ss, rfl, rfl, _, hnil, hb⟩
  exact ⟨by rw [hnil.2 rfl], hb⟩
theorem sorted_nil' (W : World) : CallsIn Fence.wide 6 Try.prog 33 #[.func (.func 38) #[] #[.pointer (some ⟨W.heap.size, 0, none⟩)]] (W.alloc (.cells #[.map none] 47)) fun e w' => e = .returned (.slice none 0 0) ∧ Below W.heap.size W w' := by
  have h := sorted_nil (W.alloc (.cells #[.map none] 47)) (by rw [World.size_alloc, Nat.add_sub_cancel]; exact heap_alloc_new _ _)
  simp only [World.size_alloc, Nat.add_sub_cancel] at h
  refine h.mono ?_
  rintro e w' ⟨rfl, hb⟩
  exact ⟨rfl, ((Below.refl _ W).alloc (Nat.le_refl _) _).trans (hb.mono (by omega))⟩
theorem sorted_of' (W : World) (c : Nat) (L : List Id2) (hm : MapL W c L) : CallsIn Fence.wide 6 Try.prog 33 #[.func (.func 38) #[] #[.pointer (some ⟨W.heap.size, 0, none⟩)]] (W.alloc (.cells #[.map (some c)] 47)) fun e w' => ∃ v : Value, e = .returned v ∧
      w'.ownsRow W.heap.size 3 1 v L.length (L.map fun p => encZ p.1) ∧ Below W.heap.size W w' := by
  have h := sorted_of (W.alloc (.cells #[.map (some c)] 47)) c L (hm.of_block (Below.heap_alloc _ _ _ hm.lt)) (by rw [World.size_alloc, Nat.add_sub_cancel]; exact heap_alloc_new _ _)
  simp only [World.size_alloc, Nat.add_sub_cancel] at h
  refine h.mono ?_
  rintro e w' ⟨v, rfl, ho, hb⟩
  exact ⟨v, rfl, ownsRow_base_a ho (by omega), ((Below.refl _ W).alloc (Nat.le_refl _) _).trans (hb.mono (by omega))⟩
end Go.Proofs.Ytebifjjghogboaa
