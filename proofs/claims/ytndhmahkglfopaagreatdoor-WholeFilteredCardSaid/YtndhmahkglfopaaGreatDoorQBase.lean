/- Plain tools over whatever program: which blocks a call may change (Fr), maps as lists of pairs (MapIs), and what a lookup and a store in such a map do. -/
import Derived.WalkKit
import Derived.Carry
import Derived.Deep.QuietTactic
import Derived.BigQuiet
import Derived.Outline
import Derived.WideKeyRuns
import Derived.MapKept
import Derived.Lib.Hide
import Derived.Deep.Light
import Derived.Handy
import Derived.Maps.RangeWalk
import Derived.OrdersHeld
import Derived.Deep.RegionHeld3
import Derived.Test.YtndhmahkglfopaaGreatDoorProg
import Derived.Maps.AppendAt
import Derived.RangeFuncBox
import Derived.Laws.AppendOwnNone
namespace Go.Proofs.YtndhmahkglfopaaGreatDoor
open Go.RowKit

/-! ### what may have changed -/
/-- Of the blocks that were there only those in S may have changed. -/
structure Fr (S : Nat → Prop) (w w' : World) : Prop where
  os : w'.os = w.os
  tape : w'.tape = w.tape
  output : w'.output = w.output
  size : w.heap.size ≤ w'.heap.size
  block : ∀ k, k < w.heap.size → ¬ S k → w'.heap[k]? = w.heap[k]?

theorem Fr.refl (S : Nat → Prop) (w : World) : Fr S w w := ⟨rfl, rfl, rfl, Nat.le_refl _, fun _ _ _ => rfl⟩
theorem Fr.trans {S S' : Nat → Prop} {a b c : World} (h : Fr S a b) (k : Fr S' b c) (hs : ∀ i, i < a.heap.size → S' i → S i) : Fr S a c :=
  ⟨k.os.trans h.os, k.tape.trans h.tape, k.output.trans h.output, Nat.le_trans h.size k.size, fun i hi hn => (k.block i (Nat.lt_of_lt_of_le hi h.size) (fun h' => hn (hs i hi h'))).trans (h.block i hi hn)⟩
theorem Fr.of_below {S : Nat → Prop} {w w' : World} (h : Below w.heap.size w w') : Fr S w w' := ⟨h.os, h.tape, h.output, h.size, fun k hk _ => h.block k hk⟩
theorem Fr.below {S : Nat → Prop} {B : Nat} {w w' : World} (h : Fr S w w') (hB : B ≤ w.heap.size) (hS : ∀ k, S k → B ≤ k) : Below B w w' :=
  ⟨h.os, h.tape, h.output, h.size, fun k hk => h.block k (Nat.lt_of_lt_of_le hk hB) (fun h' => by have := hS k h'; omega)⟩
theorem below_drewN (w : World) (n : Nat) (B : Nat) : Below B w (w.drewN n) := ⟨rfl, rfl, rfl, Nat.le_refl _, fun _ _ => rfl⟩
theorem le_alloc {B : Nat} {w : World} {o : Obj} (h : B ≤ w.heap.size) : B ≤ (w.alloc o).heap.size := by rw [World.size_alloc]; omega
theorem le_setCell {B : Nat} {w : World} {a : Addr} {v : Value} (h : B ≤ w.heap.size) : B ≤ (w.setCell a v).heap.size := by rw [World.size_setCell]; exact h
theorem le_drew {B : Nat} {w : World} (h : B ≤ w.heap.size) : B ≤ w.drew.heap.size := h
theorem le_drewN {B : Nat} {w : World} {n : Nat} (h : B ≤ w.heap.size) : B ≤ (w.drewN n).heap.size := h
theorem heap_drew_old {w : World} {b : Nat} {x : Option Obj} (h : w.heap[b]? = x) : w.drew.heap[b]? = x := h
theorem heap_drewN_old {w : World} {b n : Nat} {x : Option Obj} (h : w.heap[b]? = x) : (w.drewN n).heap[b]? = x := h
theorem heap_alloc_at {w : World} {b : Nat} (hb : b = w.heap.size) (o : Obj) : (w.alloc o).heap[b]? = some o := by
  subst hb
  show (w.heap.push o)[w.heap.size]? = _
  simp
theorem belowN {B : Nat} {a w : World} (h : Below B a w) (n : Nat) : Below B a (w.drewN n) := h.trans (below_drewN w n B)
theorem below_alloc (w : World) (o : Obj) (B : Nat) (hB : B ≤ w.heap.size) : Below B w (w.alloc o) := (Below.refl B w).alloc hB o
theorem Fr.setCell (w : World) (p : Addr) (v : Value) : Fr (fun b => b = p.block) w (w.setCell p v) :=
  ⟨rfl, rfl, rfl, by simp [World.setCell], fun k _ hn => Below.heap_setCell _ _ _ _ hn⟩
theorem Fr.grown {w w' : World} {row : Option Nat} (hg : w.grownBy w' row) : Fr (fun b => some b = row) w w' :=
  ⟨hg.os, hg.tape, hg.output, hg.size, fun k hk hn => hg.block k hk hn⟩

theorem lt_of_heap {w : World} {b : Nat} {o : Obj} (h : w.heap[b]? = some o) : b < w.heap.size := (Array.getElem?_eq_some_iff.1 h).1
theorem cell_of_heap {w : World} {b : Nat} {cs : Array Value} {t : TypeId} {fz : Nat × Nat} (h : w.heap[b]? = some (.cells cs t fz)) (o : Nat) : w.cell? ⟨b, o, none⟩ = cs[o]? := by
  simp [World.cell?, h]
theorem frozen_of_heap {w : World} {b : Nat} {cs : Array Value} {t : TypeId} (h : w.heap[b]? = some (.cells cs t (0, 0))) (o : Nat) : w.frozen? ⟨b, o, none⟩ = false := by
  simp [World.frozen?, h]
theorem heap_alloc_new (w : World) (o : Obj) : (w.alloc o).heap[w.heap.size]? = some o := by
  show (w.heap.push o)[w.heap.size]? = _
  simp
theorem heap_alloc_old {w : World} {b : Nat} {x : Obj} (h : w.heap[b]? = some x) (o : Obj) : (w.alloc o).heap[b]? = some x := by
  rw [Below.heap_alloc _ _ _ (lt_of_heap h)]; exact h
theorem heap_setCell_at {w : World} {b : Nat} {cs : Array Value} {t : TypeId} {fz : Nat × Nat} (h : w.heap[b]? = some (.cells cs t fz)) (o : Nat) (v : Value) :
    (w.setCell ⟨b, o, none⟩ v).heap[b]? = some (.cells (cs.setIfInBounds o v) t fz) := by
  simp [World.setCell, Array.getElem?_modify, h]

theorem bcellB {W w1 : World} {B : Nat} (hb : Below B W w1) : ∀ b o, b < B → w1.cell? ⟨b, o, none⟩ = W.cell? ⟨b, o, none⟩ :=
  fun b o h => hb.cell (p := ⟨b, o, none⟩) h
theorem abs_world {P : Program} {c : Code} {Q : Exit → Act → World → Prop} {a : Act} {w : World} (h : ∀ W, W = w → Code.wp P c Q a W) : Code.wp P c Q a w := h w rfl

/-! ### lists of pairs -/
section
variable {κ ν : Type} [DecidableEq κ]
def getL : List (κ × ν) → κ → Option ν
  | [], _ => none
  | (k', v) :: r, k => if k' = k then some v else getL r k
def putL : List (κ × ν) → κ → ν → List (κ × ν)
  | [], k, v => [(k, v)]
  | (k', v') :: r, k, v => if k' = k then (k, v) :: r else (k', v') :: putL r k v
theorem getL_putL (l : List (κ × ν)) (k k' : κ) (v : ν) : getL (putL l k v) k' = if k = k' then some v else getL l k' := by
  induction l with
  | nil => simp [putL, getL]
  | cons a r ih =>
    obtain ⟨x, y⟩ := a
    unfold putL
    by_cases h : x = k
    · subst h
      by_cases h2 : x = k'
      · simp [getL, h2]
      · simp [getL, h2]
    · rw [if_neg h]
      simp only [getL, ih]
      by_cases h2 : x = k'
      · subst h2
        rw [if_pos rfl, if_neg (fun e => h e.symm), if_pos rfl]
      · rw [if_neg h2, if_neg h2]
theorem getL_none {l : List (κ × ν)} {k : κ} : getL l k = none ↔ ∀ p ∈ l, p.1 ≠ k := by
  induction l with
  | nil => simp [getL]
  | cons a r ih =>
    obtain ⟨x, y⟩ := a
    by_cases h : x = k
    · simp [getL, h]
    · simp [getL, h, ih]
theorem getL_of_at {l : List (κ × ν)} {k : κ} {v : ν} {j : Nat} (hn : (l.map Prod.fst).Nodup) (h : l[j]? = some (k, v)) : getL l k = some v := by
  induction l generalizing j with
  | nil => simp at h
  | cons a r ih =>
    obtain ⟨x, y⟩ := a
    simp only [List.map_cons, List.nodup_cons] at hn
    cases j with
    | zero => simp at h; simp [getL, h]
    | succ j =>
      simp only [List.getElem?_cons_succ] at h
      have hx : x ≠ k := fun e => hn.1 (by subst e; exact List.mem_map.2 ⟨(x, v), List.mem_of_getElem? h, rfl⟩)
      simp [getL, hx, ih hn.2 h]
theorem putL_new {l : List (κ × ν)} {k : κ} {v : ν} (h : ∀ p ∈ l, p.1 ≠ k) : putL l k v = l ++ [(k, v)] := by
  induction l with
  | nil => rfl
  | cons a r ih =>
    obtain ⟨x, y⟩ := a
    unfold putL
    rw [if_neg (h (x, y) (by simp)), ih (fun p hp => h p (List.mem_cons_of_mem _ hp))]
    rfl
theorem putL_old {l : List (κ × ν)} {k : κ} {v v' : ν} {j : Nat} (hn : (l.map Prod.fst).Nodup) (h : l[j]? = some (k, v')) : putL l k v = l.set j (k, v) := by
  induction l generalizing j with
  | nil => simp at h
  | cons a r ih =>
    obtain ⟨x, y⟩ := a
    simp only [List.map_cons, List.nodup_cons] at hn
    cases j with
    | zero =>
      simp at h
      simp [putL, h]
    | succ j =>
      simp only [List.getElem?_cons_succ] at h
      have hx : x ≠ k := fun e => hn.1 (by subst e; exact List.mem_map.2 ⟨(x, v'), List.mem_of_getElem? h, rfl⟩)
      unfold putL
      rw [if_neg hx, ih hn.2 h]
      rfl
theorem keys_putL (l : List (κ × ν)) (k : κ) (v : ν) : (putL l k v).map Prod.fst = if k ∈ l.map Prod.fst then l.map Prod.fst else l.map Prod.fst ++ [k] := by
  induction l with
  | nil => simp [putL]
  | cons a r ih =>
    obtain ⟨x, y⟩ := a
    unfold putL
    by_cases h : x = k
    · simp [h]
    · rw [if_neg h]
      simp only [List.map_cons, ih, List.mem_cons]
      by_cases h2 : k ∈ r.map Prod.fst
      · rw [if_pos h2, if_pos (.inr h2)]
      · rw [if_neg h2, if_neg (fun e => e.elim (fun e => h e.symm) h2)]; rfl
theorem nodup_putL {l : List (κ × ν)} {k : κ} {v : ν} (hn : (l.map Prod.fst).Nodup) : ((putL l k v).map Prod.fst).Nodup := by
  rw [keys_putL]
  split
  · exact hn
  · rename_i h
    exact List.nodup_append.2 ⟨hn, by simp, by simp; intro a b hab e; subst e; exact h (List.mem_map.2 ⟨_, hab, rfl⟩)⟩
end

/-! ### maps -/
/-- Keys of type kt, encoded by enc. -/
structure KeyFits {κ : Type} (P : Program) (kt : TypeId) (enc : κ → Value) : Prop where
  inj : ∀ {a b : κ}, enc a = enc b → a = b
  check : ∀ (w : World) (em : Bool) (k : κ), (Instr.checkKey em 10000 kt (enc k)).run P w = .ok () w
  find : ∀ (w : World) (k : κ) (es : List MapEntry), (∀ e ∈ es, ∃ k', e.key = enc k') →
    ((Instr.findKey kt (enc k) es).run P w = .ok none w ∧ ∀ e ∈ es, e.key ≠ enc k) ∨ ∃ j e, (Instr.findKey kt (enc k) es).run P w = .ok (some (j, e.val)) w ∧ es[j]? = some e ∧ e.key = enc k
  stays : ∀ (w : World) (k : κ), (Instr.keyThatStays (enc k) (enc k)).run P w = .ok (enc k) w

def MapIs {κ ν : Type} (w : World) (b : Nat) (enc : κ → Value) (ve : ν → Value) (l : List (κ × ν)) : Prop :=
  ∃ es clock, w.heap[b]? = some (.map es clock) ∧ es.toList.map (fun e => (e.key, e.val)) = l.map (fun p => (enc p.1, ve p.2)) ∧ (l.map Prod.fst).Nodup

section
variable {κ ν : Type} {P : Program} {kt : TypeId} {enc : κ → Value} {ve : ν → Value} {w : World} {b : Nat} {l : List (κ × ν)}

theorem MapIs.lt (h : MapIs w b enc ve l) : b < w.heap.size := by obtain ⟨_, _, h, _⟩ := h; exact lt_of_heap h
theorem MapIs.of_block {w' : World} (h : MapIs w b enc ve l) (hb : w'.heap[b]? = w.heap[b]?) : MapIs w' b enc ve l := by
  obtain ⟨es, c, h1, h2⟩ := h
  exact ⟨es, c, hb.trans h1, h2⟩
theorem MapIs.new (w : World) (enc : κ → Value) (ve : ν → Value) : MapIs (w.alloc (.map #[] 0)) w.heap.size enc ve [] :=
  ⟨#[], 0, heap_alloc_new w _, by simp, by simp⟩

theorem at_of_map {es : List MapEntry} (h : es.map (fun e => (e.key, e.val)) = l.map (fun p => (enc p.1, ve p.2))) {j : Nat} {e : MapEntry} (hj : es[j]? = some e) :
    ∃ p, l[j]? = some p ∧ e.key = enc p.1 ∧ e.val = ve p.2 := by
  have h1 : (es.map (fun e => (e.key, e.val)))[j]? = some (e.key, e.val) := by simp [hj]
  rw [h, List.getElem?_map] at h1
  cases hl : l[j]? with
  | none => simp [hl] at h1
  | some p => simp [hl] at h1; exact ⟨p, rfl, h1.1.symm, h1.2.symm⟩
theorem mem_key_of_map {es : List MapEntry} (h : es.map (fun e => (e.key, e.val)) = l.map (fun p => (enc p.1, ve p.2))) {p : κ × ν} (hp : p ∈ l) : ∃ e ∈ es, e.key = enc p.1 := by
  have h1 : (enc p.1, ve p.2) ∈ es.map (fun e => (e.key, e.val)) := by rw [h]; exact List.mem_map.2 ⟨p, hp, rfl⟩
  obtain ⟨e, he, h2⟩ := List.mem_map.1 h1
  exact ⟨e, he, congrArg Prod.fst h2⟩

theorem MapIs.finds [DecidableEq κ] (K : KeyFits P kt enc) {es : List MapEntry} (h : es.map (fun e => (e.key, e.val)) = l.map (fun p => (enc p.1, ve p.2))) (hn : (l.map Prod.fst).Nodup) (k : κ) (w : World) :
    ((Instr.findKey kt (enc k) es).run P w = .ok none w ∧ getL l k = none) ∨
    ∃ j e v, (Instr.findKey kt (enc k) es).run P w = .ok (some (j, ve v)) w ∧ es[j]? = some e ∧ e.key = enc k ∧ l[j]? = some (k, v) ∧ getL l k = some v := by
  have hkeys : ∀ e ∈ es, ∃ k', e.key = enc k' := fun e he => by
    obtain ⟨j, hj⟩ := List.mem_iff_getElem?.1 he
    obtain ⟨p, _, h1, _⟩ := at_of_map h hj
    exact ⟨p.1, h1⟩
  rcases K.find w k es hkeys with ⟨h1, h2⟩ | ⟨j, e, h1, h2, h3⟩
  · refine .inl ⟨h1, getL_none.2 fun p hp e => ?_⟩
    obtain ⟨x, hx, h4⟩ := mem_key_of_map h hp
    exact h2 x hx (by rw [h4, e])
  · obtain ⟨p, hp, h4, h5⟩ := at_of_map h h2
    obtain ⟨pk, pv⟩ := p
    have : pk = k := K.inj (h4.symm.trans h3)
    subst this
    exact .inr ⟨j, e, pv, by rw [h1, h5], h2, h3, hp, getL_of_at hn hp⟩

/-- 'v, ok := m[k]'. -/
theorem MapIs.look2 [DecidableEq κ] (K : KeyFits P kt enc) (h : MapIs w b enc ve l) {t et : TypeId} (ht : P.underlying t = some (.map kt et)) {z : Value} (hz : (zeroValue et).run P w = .ok z w) (k : κ) :
    (Instr.lookup t (.map (some b)) (enc k) true).run P w = .ok (.tuple #[((getL l k).map ve).getD z, .bool (getL l k).isSome]) w := by
  obtain ⟨es, c, hb, he, hn⟩ := h
  unfold Instr.lookup
  rcases MapIs.finds K he hn k w with ⟨h1, h2⟩ | ⟨j, e, v, h1, _, _, _, h2⟩
  · simp [run_underlying ht, getObj, Sem.run, hb, K.check, h1, hz, h2, Result.andThen]
  · simp [run_underlying ht, getObj, Sem.run, hb, K.check, h1, h2, Result.andThen]
/-- 'm[k] = v'. -/
theorem MapIs.upd [DecidableEq κ] (K : KeyFits P kt enc) (h : MapIs w b enc ve l) {t et : TypeId} (ht : P.underlying t = some (.map kt et)) (k : κ) (v : ν) :
    ∃ w', (Instr.mapUpdate t (.map (some b)) (enc k) (ve v)).run P w = .ok () w' ∧ MapIs w' b enc ve (putL l k v) ∧ Fr (fun x => x = b) w w' ∧ w'.heap.size = w.heap.size := by
  obtain ⟨es, c, hb, he, hn⟩ := h
  have hlt := lt_of_heap hb
  rcases MapIs.finds K he hn k w with ⟨h1, h2⟩ | ⟨j, e, v', h1, hj, hk, hl, h2⟩
  · refine ⟨{ w with heap := w.heap.setIfInBounds b (.map (es.push { key := enc k, val := ve v, born := c }) (c + 1)) }, ?_, ⟨es.push { key := enc k, val := ve v, born := c }, c + 1, ?_, ?_, nodup_putL hn⟩, ⟨rfl, rfl, rfl, by simp, fun j hj hne => ?_⟩, by simp⟩
    · unfold Instr.mapUpdate
      simp [run_underlying ht, getObj, setObj, Sem.run, hb, K.check, h1, Result.andThen]
    · simp [hlt]
    · rw [putL_new (getL_none.1 h2)]
      simp [he]
    · simp [Array.getElem?_setIfInBounds_ne (Ne.symm hne)]
  · have hj' : es[j]? = some e := by simpa using hj
    refine ⟨{ w with heap := w.heap.setIfInBounds b (.map (es.modify j fun e => { e with key := enc k, val := ve v }) c) }, ?_, ⟨es.modify j fun e => { e with key := enc k, val := ve v }, c, ?_, ?_, nodup_putL hn⟩, ⟨rfl, rfl, rfl, by simp, fun j hj hne => ?_⟩, by simp⟩
    · unfold Instr.mapUpdate
      simp [run_underlying ht, getObj, setObj, Sem.run, hb, K.check, h1, Result.andThen, hj', hk, K.stays]
    · simp [hlt]
    · rw [putL_old hn hl]
      apply List.ext_getElem?
      intro i
      have hi : (es.toList.map (fun e => (e.key, e.val)))[i]? = (l.map (fun p => (enc p.1, ve p.2)))[i]? := by rw [he]
      simp only [List.getElem?_map, Array.getElem?_toList] at hi
      simp only [List.getElem?_map, Array.getElem?_toList, Array.getElem?_modify, List.getElem?_set]
      by_cases hij : j = i
      · subst hij
        have hl2 : j < l.length := (List.getElem?_eq_some_iff.1 hl).1
        simp [hj', hl2]
      · simp [hij, hi]
    · simp [Array.getElem?_setIfInBounds_ne (Ne.symm hne)]
end

/-! ### kinds of keys -/
/-! ### short names -/
theorem bw0 (B : Nat) (w : World) : Below B w w := Below.refl B w
theorem bw1 {B : Nat} {a w : World} (h : Below B a w) {p : Addr} (hp : B ≤ p.block) (u : Value) : Below B a (w.setCell p u) := h.setCell hp u
theorem bw2 {B : Nat} {a w : World} (h : Below B a w) (hB : B ≤ w.heap.size) (o : Obj) : Below B a (w.alloc o) := h.alloc hB o
theorem bw3 {B : Nat} {a w : World} (h : Below B a w) (n : Nat) : Below B a (w.drewN n) := belowN h n
theorem bw4 {B : Nat} {a w : World} (h : Below B a w) : Below B a w.drew := h.drew
theorem bw5 {w : World} {b : Nat} (hb : b = w.heap.size) (o : Obj) : (w.alloc o).heap[b]? = some o := heap_alloc_at hb o
theorem bw6 {w : World} {b : Nat} {x : Obj} (h : w.heap[b]? = some x) (o : Obj) : (w.alloc o).heap[b]? = some x := heap_alloc_old h o
theorem bw7 {w : World} {b : Nat} {x : Option Obj} (h : w.heap[b]? = x) : w.drew.heap[b]? = x := heap_drew_old h
theorem bw8 {w : World} {b n : Nat} {x : Option Obj} (h : w.heap[b]? = x) : (w.drewN n).heap[b]? = x := heap_drewN_old h
theorem lz1 {B : Nat} {w : World} {o : Obj} (h : B ≤ w.heap.size) : B ≤ (w.alloc o).heap.size := le_alloc h
theorem lz2 {B : Nat} {w : World} {a : Addr} {v : Value} (h : B ≤ w.heap.size) : B ≤ (w.setCell a v).heap.size := le_setCell h
theorem lz3 {B : Nat} {w : World} (h : B ≤ w.heap.size) : B ≤ w.drew.heap.size := le_drew h
theorem lz4 {B : Nat} {w : World} {n : Nat} (h : B ≤ w.heap.size) : B ≤ (w.drewN n).heap.size := le_drewN h
end Go.Proofs.YtndhmahkglfopaaGreatDoor
/- A region that draws its order, where some operations yield one value in every world of a class and the others come in one order: walked once. -/
namespace Go.Proofs.YtndhmahkglfopaaGreatDoor
open Go.RowKit
section
variable {P : Program} {ops : Array Oper} {Q : Exit → Act → World → Prop} {S : World → Prop} {ls : List Nat}

/-- Whatever order is picked from here on; S holds behind every operation that is not one of ls. -/
def wpAnyG (P : Program) (ops : Array Oper) (Q : Exit → Act → World → Prop) (S : World → Prop) (ls : List Nat) : Nat → Array Bool → Act → World → Prop
  | 0, listed, a, w => Region.ready .any ops listed = [] ∧ Q .normal a w
  | fuel + 1, listed, a, w =>
    (Region.ready .any ops listed = [] → Q .normal a w) ∧
    ∀ i ∈ Region.ready .any ops listed, wpOp P ops Q i (fun a' w' => (i ∉ ls → S w') ∧ wpAnyG P ops Q S ls fuel (listed.setIfInBounds i true) a' w') a w

theorem wpAny_of_G : ∀ (fuel : Nat) (listed : Array Bool) (a : Act) (w : World), wpAnyG P ops Q S ls fuel listed a w → wpAny P .any ops Q fuel listed a w
  | 0, _, _, _, h => h
  | fuel + 1, _, _, _, h => ⟨h.1, fun i hi => wpOp_mono (fun a' w' h' => wpAny_of_G fuel _ a' w' h'.2) (h.2 i hi)⟩

/-- Number i comes ahead of number j, by edges that always bind. -/
def predB (ops : Array Oper) (i : Nat) : Nat → Nat → Bool
  | 0, _ => false
  | n + 1, j => match ops[j]? with
    | some o => o.after.any fun e => Region.binds .any e && (e.on == i || predB ops i n e.on)
    | none => false
def Closed (ops : Array Oper) (listed : Array Bool) : Prop :=
  ∀ (j : Nat) (oj : Oper), ops[j]? = some oj → listed.getD j false = true → ∀ e ∈ oj.after, Region.binds .any e = true → listed.getD e.on false = true
theorem pred_listed {listed : Array Bool} (hc : Closed ops listed) {i : Nat} : ∀ (n j : Nat) (oj : Oper), ops[j]? = some oj → (∀ e ∈ oj.after, Region.binds .any e = true → listed.getD e.on false = true) → predB ops i n j = true → listed.getD i false = true
  | 0, _, _, _, _, h => by cases h
  | n + 1, j, oj, hj, hall, h => by
    unfold predB at h
    rw [hj] at h
    obtain ⟨e, he, hb⟩ := Array.any_eq_true'.1 h
    simp only [Bool.and_eq_true, Bool.or_eq_true, beq_iff_eq] at hb
    have hl := hall e he hb.1
    rcases hb.2 with h1 | h1
    · rw [← h1]; exact hl
    · cases ho : ops[e.on]? with
      | none =>
        cases n with
        | zero => cases h1
        | succ n => unfold predB at h1; rw [ho] at h1; cases h1
      | some oe => exact pred_listed hc n e.on oe ho (hc e.on oe ho hl) h1
theorem Closed.set {listed : Array Bool} (hc : Closed ops listed) {i : Nat} (hi : i ∈ Region.ready .any ops listed) : Closed ops (listed.setIfInBounds i true) := by
  obtain ⟨_, oi, hoi, hall⟩ := mem_ready.1 hi
  intro j oj hj hl e he hb
  by_cases hij : i = j
  · subst hij
    have : oj = oi := Option.some.inj (hj.symm.trans hoi)
    subst this
    exact getD_set_true (hall e he hb)
  · rw [getD_set_ne false hij] at hl
    exact getD_set_true (hc j oj hj hl e he hb)

theorem wpAnyG_first {i : Nat} {oi : Oper} {v : Value} (hi : ops[i]? = some oi) (hsel : ∀ (j : Nat) (o : Oper) cs b, ops[j]? = some o → o.op ≠ .select cs b)
    (hQ : ∀ c a w, Q (.panic c) (a.put oi.dst v) w → Q (.panic c) a w) (hil : i ∉ ls) (hneed : ∀ j ∈ ls, predB ops i ops.size j = true) :
    ∀ (fuel : Nat) (listed : Array Bool) (a : Act) (w : World), Closed ops listed →
      (∀ j oj, ops[j]? = some oj → j ≠ i → listed.getD j true = false → (∀ e ∈ oj.after, Region.binds .any e = true → e.on ≠ i) → oi.apart ops oj = true) →
      i ∈ Region.ready .any ops listed → YieldsIf P ops S oi v a → S w →
      wpAnyG P ops Q S ls fuel (listed.setIfInBounds i true) (a.put oi.dst v) w → wpAnyG P ops Q S ls (fuel + 1) listed a w := by
  intro fuel
  induction fuel with
  | zero =>
    intro listed a w _ _ hr hy hS H
    refine ⟨fun h => (by rw [h] at hr; cases hr), fun j hj => ?_⟩
    by_cases hji : j = i
    · subst hji; exact hy.wpOp hi hS ⟨fun _ => hS, H⟩
    · have := ready_mono hj hji
      rw [H.1] at this
      cases this
  | succ fuel ih =>
    intro listed a w hcl hfree hr hy hS H
    refine ⟨fun h => (by rw [h] at hr; cases hr), fun j hj => ?_⟩
    by_cases hji : j = i
    · subst hji; exact hy.wpOp hi hS ⟨fun _ => hS, H⟩
    · have h1 := H.2 j (ready_mono hj hji)
      obtain ⟨hjun, oj, hoj, hall⟩ := mem_ready.1 hj
      have hiun : listed.getD i false = false := by
        have h0 := (mem_ready.1 hr).1
        rcases Nat.lt_or_ge i listed.size with h' | h'
        · simp [h'] at h0 ⊢; exact h0
        · simp [Array.getElem?_eq_none h'] at h0
      have hjl : j ∉ ls := fun hm => by
        have := pred_listed hcl _ j oj hoj hall (hneed j hm)
        rw [hiun] at this
        cases this
      have hnot : ∀ e ∈ oj.after, Region.binds .any e = true → e.on ≠ i := fun e he hb heq => by
        have h1 := hall e he hb
        rw [heq, hiun] at h1
        cases h1
      have h2 := wpOp_putIf hoj (hfree j oj hoj hji hjun hnot) (fun cs b => hsel i oi cs b hi) (fun cs b => hsel j oj cs b hoj) hQ hy h1
      have hfree' : ∀ k ok, ops[k]? = some ok → k ≠ i → (listed.setIfInBounds j true).getD k true = false →
          (∀ e ∈ ok.after, Region.binds .any e = true → e.on ≠ i) → oi.apart ops ok = true := fun k ok hk hki hun hno => by
        refine hfree k ok hk hki ?_ hno
        by_cases hjk : j = k
        · subst hjk; exact hjun
        · rw [getD_set_ne true hjk] at hun; exact hun
      refine wpOp_mono (fun a' w' h3 => ?_) h2
      obtain ⟨hy3, hS3, H3⟩ := h3
      refine ⟨hS3, ih (listed.setIfInBounds j true) a' w' (hcl.set hj) hfree' (ready_mono hr (Ne.symm hji)) hy3 (hS3 hjl) ?_⟩
      rw [Array.setIfInBounds_comm _ _ hji]
      exact H3

theorem wpAnyG_pure {i : Nat} {oi : Oper} {v : Value} (hi : ops[i]? = some oi) (hsel : ∀ (j : Nat) (o : Oper) cs b, ops[j]? = some o → o.op ≠ .select cs b)
    (hQ : ∀ c a w, Q (.panic c) (a.put oi.dst v) w → Q (.panic c) a w) (hil : i ∈ ls) :
    ∀ (fuel : Nat) (listed : Array Bool) (a : Act) (w : World),
      (∀ j oj, ops[j]? = some oj → j ≠ i → listed.getD j true = false → (∀ e ∈ oj.after, Region.binds .any e = true → e.on ≠ i) → oi.apart ops oj = true) →
      i ∈ Region.ready .any ops listed → YieldsIf P ops (fun _ => True) oi v a →
      wpAnyG P ops Q S ls fuel (listed.setIfInBounds i true) (a.put oi.dst v) w → wpAnyG P ops Q S ls (fuel + 1) listed a w := by
  intro fuel
  induction fuel with
  | zero =>
    intro listed a w _ hr hy H
    refine ⟨fun h => (by rw [h] at hr; cases hr), fun j hj => ?_⟩
    by_cases hji : j = i
    · subst hji; exact hy.wpOp hi trivial ⟨fun h => absurd hil h, H⟩
    · have := ready_mono hj hji
      rw [H.1] at this
      cases this
  | succ fuel ih =>
    intro listed a w hfree hr hy H
    refine ⟨fun h => (by rw [h] at hr; cases hr), fun j hj => ?_⟩
    by_cases hji : j = i
    · subst hji; exact hy.wpOp hi trivial ⟨fun h => absurd hil h, H⟩
    · have h1 := H.2 j (ready_mono hj hji)
      obtain ⟨hjun, oj, hoj, hall⟩ := mem_ready.1 hj
      have hiun : listed.getD i false = false := by
        have h0 := (mem_ready.1 hr).1
        rcases Nat.lt_or_ge i listed.size with h' | h'
        · simp [h'] at h0 ⊢; exact h0
        · simp [Array.getElem?_eq_none h'] at h0
      have hnot : ∀ e ∈ oj.after, Region.binds .any e = true → e.on ≠ i := fun e he hb heq => by
        have h1 := hall e he hb
        rw [heq, hiun] at h1
        cases h1
      have h2 := wpOp_putIf hoj (hfree j oj hoj hji hjun hnot) (fun cs b => hsel i oi cs b hi) (fun cs b => hsel j oj cs b hoj) hQ hy h1
      have hfree' : ∀ k ok, ops[k]? = some ok → k ≠ i → (listed.setIfInBounds j true).getD k true = false →
          (∀ e ∈ ok.after, Region.binds .any e = true → e.on ≠ i) → oi.apart ops ok = true := fun k ok hk hki hun hno => by
        refine hfree k ok hk hki ?_ hno
        by_cases hjk : j = k
        · subst hjk; exact hjun
        · rw [getD_set_ne true hjk] at hun; exact hun
      refine wpOp_mono (fun a' w' h3 => ?_) h2
      obtain ⟨hy3, hS3, H3⟩ := h3
      refine ⟨hS3, ih (listed.setIfInBounds j true) a' w' hfree' (ready_mono hr (Ne.symm hji)) hy3 ?_⟩
      rw [Array.setIfInBounds_comm _ _ hji]
      exact H3

/-- The first ones, each with one value in every world of the class. -/
def wpFirst (P : Program) (ops : Array Oper) (S : World → Prop) (K : Act → Prop) : List Nat → Act → Prop
  | [], a => K a
  | i :: rest, a => ∃ o v, ops[i]? = some o ∧ YieldsIf P ops S o v a ∧ wpFirst P ops S K rest (a.put o.dst v)
/-- The others, in their order; those of ps are pure and may stand beside others. -/
def wpTail (P : Program) (ops : Array Oper) (Q : Exit → Act → World → Prop) (S : World → Prop) (ls ps : List Nat) : List Nat → Act → World → Prop
  | [], a, w => Q .normal a w
  | i :: rest, a, w => if ps.contains i then ∃ o v, ops[i]? = some o ∧ YieldsIf P ops (fun _ => True) o v a ∧ wpTail P ops Q S ls ps rest (a.put o.dst v) w
    else wpOp P ops Q i (fun a' w' => (i ∉ ls → S w') ∧ wpTail P ops Q S ls ps rest a' w') a w

def mixT (ops : Array Oper) (ls ps : List Nat) : List Nat → Array Bool → Bool
  | t :: ts, listed => (if ps.contains t then Region.free .any ops listed t && (Region.ready .any ops listed).contains t && ls.contains t else Region.ready .any ops listed == [t]) && mixT ops ls ps ts (listed.setIfInBounds t true)
  | [], listed => (Region.ready .any ops listed).isEmpty
def mixB (ops : Array Oper) (ls ps : List Nat) (ts : List Nat) : List Nat → Array Bool → Bool
  | i :: fs, listed => Region.free .any ops listed i && (Region.ready .any ops listed).contains i && !ls.contains i && ls.all (predB ops i ops.size) && mixB ops ls ps ts fs (listed.setIfInBounds i true)
  | [], listed => mixT ops ls ps ts listed

theorem wpAnyG_tail {ps : List Nat} (hsel : ∀ (j : Nat) (o : Oper) cs b, ops[j]? = some o → o.op ≠ .select cs b) (hQ : ∀ c a w d v, Q (.panic c) (a.put d v) w → Q (.panic c) a w) :
    ∀ (ts : List Nat) (fuel : Nat) (listed : Array Bool) (a : Act) (w : World), ts.length ≤ fuel → mixT ops ls ps ts listed = true → wpTail P ops Q S ls ps ts a w → wpAnyG P ops Q S ls fuel listed a w
  | [], 0, listed, a, w, _, hB, h => ⟨by simpa [mixT] using hB, h⟩
  | [], fuel + 1, listed, a, w, _, hB, h => ⟨fun _ => h, fun i hi => by
      have : Region.ready .any ops listed = [] := by simpa [mixT] using hB
      rw [this] at hi; cases hi⟩
  | t :: ts, 0, listed, a, w, hf, hB, h => by simp at hf
  | t :: ts, fuel + 1, listed, a, w, hf, hB, h => by
    simp only [mixT, Bool.and_eq_true] at hB
    unfold wpTail at h
    cases hp : ps.contains t with
    | true =>
      rw [hp] at hB h
      simp only [if_true, Bool.and_eq_true] at hB h
      obtain ⟨o, v, ho, hy, hn⟩ := h
      obtain ⟨⟨⟨h1, h2⟩, h3⟩, h4⟩ := hB
      exact wpAnyG_pure ho hsel (fun c a w => hQ c a w _ _) (by simpa using h3) fuel listed a w (Region.free_spec ho h1) (by simpa using h2) hy
        (wpAnyG_tail hsel hQ ts fuel _ _ w (by simp at hf; omega) h4 hn)
    | false =>
      rw [hp] at hB h
      simp only [Bool.false_eq_true, if_false, beq_iff_eq] at hB h
      refine ⟨fun h0 => (by rw [hB.1] at h0; cases h0), fun i hi => ?_⟩
      rw [hB.1] at hi
      obtain rfl : i = t := by simpa using hi
      exact wpOp_mono (fun a' w' h' => ⟨h'.1, wpAnyG_tail hsel hQ ts fuel _ a' w' (by simp at hf; omega) hB.2 h'.2⟩) h

theorem wpAnyG_mix {ps : List Nat} (hsel : ∀ (j : Nat) (o : Oper) cs b, ops[j]? = some o → o.op ≠ .select cs b) (hQ : ∀ c a w d v, Q (.panic c) (a.put d v) w → Q (.panic c) a w) :
    ∀ (fs ts : List Nat) (fuel : Nat) (listed : Array Bool) (a : Act) (w : World), Closed ops listed → fs.length + ts.length ≤ fuel → mixB ops ls ps ts fs listed = true → S w →
      wpFirst P ops S (fun a' => wpTail P ops Q S ls ps ts a' w) fs a → wpAnyG P ops Q S ls fuel listed a w
  | [], ts, fuel, listed, a, w, _, hf, hB, _, h => wpAnyG_tail hsel hQ ts fuel listed a w (by simpa using hf) hB h
  | i :: fs, ts, 0, listed, a, w, _, hf, hB, _, h => by simp at hf
  | i :: fs, ts, fuel + 1, listed, a, w, hcl, hf, hB, hS, h => by
    obtain ⟨o, v, ho, hy, hn⟩ := h
    simp only [mixB, Bool.and_eq_true] at hB
    obtain ⟨⟨⟨⟨h1, h2⟩, h3⟩, h4⟩, h5⟩ := hB
    have hr : i ∈ Region.ready .any ops listed := by simpa using h2
    exact wpAnyG_first ho hsel (fun c a w => hQ c a w _ _) (by simpa using h3) (fun j hj => List.all_eq_true.1 h4 j hj) fuel listed a w hcl (Region.free_spec ho h1) hr hy hS
      (wpAnyG_mix hsel hQ fs ts fuel _ _ w (hcl.set hr) (by simp at hf; omega) h5 hS hn)

theorem closed_none (n : Nat) : Closed ops (Array.replicate n false) := fun j oj _ hl => by
  rcases Nat.lt_or_ge j n with h | h
  · simp [h] at hl
  · simp [h] at hl

theorem wp_region_mix3 {id : Nat} {a : Act} {w : World} (fs ts ls ps : List Nat) (S : World → Prop) (hm : P.follows .mixedOrders = true)
    (hB : (Region.noSelect ops && decide (fs.length + ts.length ≤ ops.size) && mixB ops ls ps ts fs (Array.replicate ops.size false)) = true)
    (hS : S w.drew) (h : wpFirst P ops S (fun a' => wpTail P ops (NoPanic Q) S ls ps ts a' w.drew) fs a) : (Code.region id ops true).wp P Q a w := by
  simp only [Bool.and_eq_true, decide_eq_true_eq] at hB
  exact wp_region_noPanic (wp_region_any hm (wpAny_of_G _ _ _ _ (wpAnyG_mix (Region.noSelect_spec hB.1.1) (fun _ _ _ _ _ h => h) fs ts ops.size _ a _ (closed_none _) hB.1.2 hB.2 hS h)))
theorem wp_region_mix {id : Nat} {a : Act} {w : World} (fs ts ls : List Nat) (S : World → Prop) (hm : P.follows .mixedOrders = true)
    (hB : (Region.noSelect ops && decide (fs.length + ts.length ≤ ops.size) && mixB ops ls [] ts fs (Array.replicate ops.size false)) = true)
    (hS : S w.drew) (h : wpFirst P ops S (fun a' => wpTail P ops (NoPanic Q) S ls [] ts a' w.drew) fs a) : (Code.region id ops true).wp P Q a w :=
  wp_region_mix3 fs ts ls [] S hm hB hS h

theorem first_step {K : Act → Prop} {i : Nat} {rest : List Nat} {a : Act} {o : Oper} {v : Value} (ho : ops[i]? = some o) (hw : Region.wanted o (yielded ops a.tmps) = true)
    (hv : ∀ W, S W → (execOp a.eval o).run P W = .ok (.value v) W) (h : wpFirst P ops S K rest (a.put o.dst v)) : wpFirst P ops S K (i :: rest) a :=
  ⟨o, v, ho, .inl ⟨hw, hv⟩, h⟩
theorem first_skip {K : Act → Prop} {i : Nat} {rest : List Nat} {a : Act} {o : Oper} (ho : ops[i]? = some o) (hw : Region.wanted o (yielded ops a.tmps) = false)
    (h : wpFirst P ops S K rest (a.put o.dst undef)) : wpFirst P ops S K (i :: rest) a :=
  ⟨o, undef, ho, .inr ⟨hw, rfl⟩, h⟩
theorem first_done {K : Act → Prop} {a : Act} (h : K a) : wpFirst P ops S K [] a := h
theorem tail_step {ps : List Nat} {i : Nat} {rest : List Nat} {a : Act} {w : World} {o : Oper} (ho : ops[i]? = some o) (hp : ps.contains i = false) (hw : Region.wanted o (yielded ops a.tmps) = true)
    (h : ∀ K : Act → World → Prop, (∀ a w, (i ∉ ls → S w) → wpTail P ops Q S ls ps rest a w → K a w) → o.wp P a w K Q) : wpTail P ops Q S ls ps (i :: rest) a w := by
  unfold wpTail
  rw [hp]
  simp only [Bool.false_eq_true, if_false]
  unfold wpOp
  rw [ho]
  simp only [hw, if_true]
  exact .inl (h _ fun a w h1 h2 => ⟨h1, h2⟩)
theorem tail_done {ps : List Nat} {a : Act} {w : World} (h : Q .normal a w) : wpTail P ops (NoPanic Q) S ls ps [] a w := h
end
end Go.Proofs.YtndhmahkglfopaaGreatDoor
/- A region that draws its order, walked in phases: in each phase some operations yield one value in every world of a class, then others come in one order. -/
namespace Go.Proofs.YtndhmahkglfopaaGreatDoor
open Go.RowKit
section
variable {P : Program} {ops : Array Oper} {Q : Exit → Act → World → Prop}
def wpForced (P : Program) (ops : Array Oper) (Q : Exit → Act → World → Prop) (S : World → Prop) (ls : List Nat) (K : Act → World → Prop) : List Nat → Act → World → Prop
  | [], a, w => K a w
  | i :: rest, a, w => wpOp P ops Q i (fun a' w' => (i ∉ ls → S w') ∧ wpForced P ops Q S ls K rest a' w') a w
def wpMulti (P : Program) (ops : Array Oper) (Q : Exit → Act → World → Prop) : List (List Nat × List Nat × List Nat) → Act → World → Prop
  | [], a, w => Q .normal a w
  | ph :: rest, a, w => ∃ S : World → Prop, S w ∧ wpFirst P ops S (fun a' => wpForced P ops Q S ph.2.2 (wpMulti P ops Q rest) ph.2.1 a' w) ph.1 a
def listAll : List Nat → Array Bool → Array Bool
  | [], l => l
  | i :: is, l => listAll is (l.setIfInBounds i true)
def forcedB (ops : Array Oper) : List Nat → Array Bool → Bool
  | t :: ts, listed => (Region.ready .any ops listed == [t]) && forcedB ops ts (listed.setIfInBounds t true)
  | [], _ => true
def firstB (ops : Array Oper) (ls : List Nat) : List Nat → Array Bool → Bool
  | i :: fs, listed => Region.free .any ops listed i && (Region.ready .any ops listed).contains i && !ls.contains i && ls.all (predB ops i ops.size) && firstB ops ls fs (listed.setIfInBounds i true)
  | [], _ => true
/-- All that is left is in ls. -/
def leftB (ops : Array Oper) (ls : List Nat) (listed : Array Bool) : Bool := (List.range ops.size).all fun j => listed.getD j false || ls.contains j
def multiB (ops : Array Oper) : List (List Nat × List Nat × List Nat) → Array Bool → Bool
  | ph :: rest, listed => firstB ops ph.2.2 ph.1 listed && forcedB ops ph.2.1 (listAll ph.1 listed) && leftB ops ph.2.2 (listAll ph.2.1 (listAll ph.1 listed)) && multiB ops rest (listAll ph.2.1 (listAll ph.1 listed))
  | [], listed => (Region.ready .any ops listed).isEmpty

theorem wpAnyG_of_any {S : World → Prop} {ls : List Nat} : ∀ (fuel : Nat) (listed : Array Bool) (a : Act) (w : World), (∀ j, j < ops.size → listed.getD j false = true ∨ j ∈ ls) → wpAny P .any ops Q fuel listed a w → wpAnyG P ops Q S ls fuel listed a w
  | 0, _, _, _, _, h => h
  | fuel + 1, listed, a, w, hl, h => ⟨h.1, fun i hi => wpOp_mono (fun a' w' h' => ⟨fun hn => by
      exfalso
      obtain ⟨h0, o, ho, _⟩ := mem_ready.1 hi
      have hlt : i < ops.size := (Array.getElem?_eq_some_iff.1 ho).1
      rcases hl i hlt with h1 | h1
      · rcases Nat.lt_or_ge i listed.size with h' | h'
        · simp [h'] at h0 h1; rw [h0] at h1; cases h1
        · simp [Array.getElem?_eq_none h'] at h1
      · exact hn h1, wpAnyG_of_any fuel _ a' w' (fun j hj => (hl j hj).imp (fun h => getD_set_true h) id) h'⟩) (h.2 i hi)⟩

theorem wpAnyG_forced {S : World → Prop} {ls : List Nat} {K : Act → World → Prop} : ∀ (ts : List Nat) (fuel : Nat) (listed : Array Bool) (a : Act) (w : World), ts.length ≤ fuel → Closed ops listed → forcedB ops ts listed = true →
    (∀ fuel' a' w', fuel' + ts.length = fuel → Closed ops (listAll ts listed) → K a' w' → wpAnyG P ops Q S ls fuel' (listAll ts listed) a' w') → wpForced P ops Q S ls K ts a w → wpAnyG P ops Q S ls fuel listed a w
  | [], fuel, listed, a, w, _, hc, _, hK, h => hK fuel a w (by simp) hc h
  | t :: ts, 0, listed, a, w, hf, _, _, _, _ => by simp at hf
  | t :: ts, fuel + 1, listed, a, w, hf, hc, hB, hK, h => by
    simp only [forcedB, Bool.and_eq_true, beq_iff_eq] at hB
    have hr : t ∈ Region.ready .any ops listed := by rw [hB.1]; simp
    refine ⟨fun h0 => (by rw [hB.1] at h0; cases h0), fun i hi => ?_⟩
    rw [hB.1] at hi
    obtain rfl : i = t := by simpa using hi
    exact wpOp_mono (fun a' w' h' => ⟨h'.1, wpAnyG_forced ts fuel _ a' w' (by simp at hf; omega) (hc.set hr) hB.2 (fun f' a'' w'' he hc' hk => hK f' a'' w'' (by simp; omega) hc' hk) h'.2⟩) h

theorem wpAnyG_firsts {S : World → Prop} {ls : List Nat} {K : Act → Prop} (hsel : ∀ (j : Nat) (o : Oper) cs b, ops[j]? = some o → o.op ≠ .select cs b) (hQ : ∀ c a w d v, Q (.panic c) (a.put d v) w → Q (.panic c) a w) :
    ∀ (fs : List Nat) (fuel : Nat) (listed : Array Bool) (a : Act) (w : World), fs.length ≤ fuel → Closed ops listed → firstB ops ls fs listed = true → S w →
      (∀ fuel' a', fuel' + fs.length = fuel → Closed ops (listAll fs listed) → K a' → wpAnyG P ops Q S ls fuel' (listAll fs listed) a' w) → wpFirst P ops S K fs a → wpAnyG P ops Q S ls fuel listed a w
  | [], fuel, listed, a, w, _, hc, _, _, hK, h => hK fuel a (by simp) hc h
  | i :: fs, 0, listed, a, w, hf, _, _, _, _, _ => by simp at hf
  | i :: fs, fuel + 1, listed, a, w, hf, hcl, hB, hS, hK, h => by
    obtain ⟨o, v, ho, hy, hn⟩ := h
    simp only [firstB, Bool.and_eq_true] at hB
    obtain ⟨⟨⟨⟨h1, h2⟩, h3⟩, h4⟩, h5⟩ := hB
    have hr : i ∈ Region.ready .any ops listed := by simpa using h2
    exact wpAnyG_first ho hsel (fun c a w => hQ c a w _ _) (by simpa using h3) (fun j hj => List.all_eq_true.1 h4 j hj) fuel listed a w hcl (Region.free_spec ho h1) hr hy hS
      (wpAnyG_firsts hsel hQ fs fuel _ _ w (by simp at hf; omega) (hcl.set hr) h5 hS (fun f' a' he hc' hk => hK f' a' (by simp; omega) hc' hk) hn)

def phLen : List (List Nat × List Nat × List Nat) → Nat
  | [] => 0
  | ph :: rest => ph.1.length + ph.2.1.length + phLen rest

theorem wpAny_multi (hsel : ∀ (j : Nat) (o : Oper) cs b, ops[j]? = some o → o.op ≠ .select cs b) (hQ : ∀ c a w d v, Q (.panic c) (a.put d v) w → Q (.panic c) a w) :
    ∀ (phs : List (List Nat × List Nat × List Nat)) (fuel : Nat) (listed : Array Bool) (a : Act) (w : World), phLen phs ≤ fuel → Closed ops listed → multiB ops phs listed = true → wpMulti P ops Q phs a w → wpAny P .any ops Q fuel listed a w
  | [], 0, listed, a, w, _, _, hB, h => ⟨by simpa [multiB] using hB, h⟩
  | [], fuel + 1, listed, a, w, _, _, hB, h => ⟨fun _ => h, fun i hi => by
      have : Region.ready .any ops listed = [] := by simpa [multiB] using hB
      rw [this] at hi; cases hi⟩
  | ph :: rest, fuel, listed, a, w, hf, hcl, hB, h => by
    obtain ⟨S, hS, h⟩ := h
    simp only [multiB, Bool.and_eq_true] at hB
    obtain ⟨⟨⟨h1, h2⟩, h3⟩, h4⟩ := hB
    simp only [phLen] at hf
    refine wpAny_of_G (S := S) (ls := ph.2.2) _ _ _ _ (wpAnyG_firsts hsel hQ ph.1 fuel listed a w (by omega) hcl h1 hS ?_ h)
    intro f1 a1 he1 hc1 hk1
    refine wpAnyG_forced ph.2.1 f1 _ a1 w (by omega) hc1 h2 ?_ hk1
    intro f2 a2 w2 he2 hc2 hk2
    refine wpAnyG_of_any f2 _ a2 w2 (fun j hj => ?_) (wpAny_multi hsel hQ rest f2 _ a2 w2 (by omega) hc2 h4 hk2)
    have := List.all_eq_true.1 h3 j (List.mem_range.2 hj)
    simpa using this

theorem wp_region_multi {id : Nat} {a : Act} {w : World} (phs : List (List Nat × List Nat × List Nat)) (hm : P.follows .mixedOrders = true)
    (hB : (Region.noSelect ops && decide (phLen phs ≤ ops.size) && multiB ops phs (Array.replicate ops.size false)) = true)
    (h : wpMulti P ops (NoPanic Q) phs a w.drew) : (Code.region id ops true).wp P Q a w := by
  simp only [Bool.and_eq_true, decide_eq_true_eq] at hB
  exact wp_region_noPanic (wp_region_any hm (wpAny_multi (Region.noSelect_spec hB.1.1) (fun _ _ _ _ _ h => h) phs ops.size _ a _ hB.1.2 (closed_none _) hB.2 h))

theorem multi_phase {fs ts ls : List Nat} {rest : List (List Nat × List Nat × List Nat)} {a : Act} {w : World} (S : World → Prop) (hS : S w)
    (h : wpFirst P ops S (fun a' => wpForced P ops Q S ls (wpMulti P ops Q rest) ts a' w) fs a) : wpMulti P ops Q ((fs, ts, ls) :: rest) a w := ⟨S, hS, h⟩
theorem multi_done {a : Act} {w : World} (h : Q .normal a w) : wpMulti P ops (NoPanic Q) [] a w := h
theorem forced_done {S : World → Prop} {ls : List Nat} {K : Act → World → Prop} {a : Act} {w : World} (h : K a w) : wpForced P ops Q S ls K [] a w := h
theorem forced_step {S : World → Prop} {ls : List Nat} {K : Act → World → Prop} {i : Nat} {rest : List Nat} {a : Act} {w : World} {o : Oper} (ho : ops[i]? = some o) (hw : Region.wanted o (yielded ops a.tmps) = true)
    (h : ∀ K' : Act → World → Prop, (∀ a w, (i ∉ ls → S w) → wpForced P ops Q S ls K rest a w → K' a w) → o.wp P a w K' Q) : wpForced P ops Q S ls K (i :: rest) a w := by
  unfold wpForced wpOp
  rw [ho]
  simp only [hw, if_true]
  exact .inl (h _ fun a w h1 h2 => ⟨h1, h2⟩)
theorem forced_skip {S : World → Prop} {ls : List Nat} {K : Act → World → Prop} {i : Nat} {rest : List Nat} {a : Act} {w : World} {o : Oper} (ho : ops[i]? = some o) (hw : Region.wanted o (yielded ops a.tmps) = false)
    (hS : i ∉ ls → S w) (h : wpForced P ops Q S ls K rest (a.put o.dst undef) w) : wpForced P ops Q S ls K (i :: rest) a w := by
  unfold wpForced wpOp
  rw [ho]
  simp only [hw, Bool.false_eq_true, if_false]
  exact ⟨hS, h⟩
end
end Go.Proofs.YtndhmahkglfopaaGreatDoor
/- Values: Truth, Bad, ToTruth, Right. -/
namespace Go.Proofs.YtndhmahkglfopaaGreatDoor
open Go.RowKit
/-- A value, as the program keeps it. -/
structure V where
  k : Int
  m : Int
  e : Int
  t : ByteArray
  b : Bool
  f : Int
def vagg (v : V) : Value := .agg #[.int .i64 v.k, .int .i64 v.m, .int .i64 v.e, .string v.t, .bool v.b, .int .i64 v.f]
def vTruth (b : Bool) : V := ⟨3, 0, 0, ⟨#[]⟩, b, 0⟩
def vBad (f : Int) : V := ⟨4, 0, 0, ⟨#[]⟩, false, if f < 1 ∨ 9 < f then 9 else f⟩
def vBlank : V := ⟨0, 0, 0, ⟨#[]⟩, false, 0⟩
set_option maxHeartbeats 400000 in
theorem truth_any (b : Bool) (w : World) : Calls Tryz.prog 73 #[.bool b] w fun e w' => e = .returned (vagg (vTruth b)) ∧ Below w.heap.size w w' := by
  go_enter Tryz.func73, Tryz.ntmps73
  go_wp2
  refine bodyPost_ret (v := vagg (vTruth b)) (by simp [results, Tryz.results73, go_sem, vagg, vTruth]) rfl ⟨rfl, ?_⟩
  (repeat with_reducible (first | exact bw0 _ _ | exact hBW | refine bw1 ?_ ?_ _ | refine bw2 ?_ ?_ _ | refine bw3 ?_ _ | refine bw4 ?_)); all_goals (first | omega | (dsimp only; omega) | ((repeat with_reducible (first | refine lz1 ?_ | refine lz2 ?_ | refine lz3 ?_ | refine lz4 ?_)); omega))
set_option maxHeartbeats 400000 in
theorem bad_any (f : Int) (w : World) : Calls Tryz.prog 46 #[.int .i64 f] w fun e w' => e = .returned (vagg (vBad f)) ∧ Below w.heap.size w w' := by
  by_cases h1 : f < 1
  · have e : vBad f = ⟨4, 0, 0, ⟨#[]⟩, false, 9⟩ := by unfold vBad; rw [if_pos (.inl h1)]
    rw [e]
    clear e
    go_enter Tryz.func46, Tryz.ntmps46
    go_wp2
    refine bodyPost_ret (v := vagg ⟨4, 0, 0, ⟨#[]⟩, false, 9⟩) (by simp [results, Tryz.results46, go_sem, vagg]) rfl ⟨rfl, ?_⟩
    (repeat with_reducible (first | exact bw0 _ _ | exact hBW | refine bw1 ?_ ?_ _ | refine bw2 ?_ ?_ _ | refine bw3 ?_ _ | refine bw4 ?_)); all_goals (first | omega | (dsimp only; omega) | ((repeat with_reducible (first | refine lz1 ?_ | refine lz2 ?_ | refine lz3 ?_ | refine lz4 ?_)); omega))
  · by_cases h2 : 9 < f
    · have e : vBad f = ⟨4, 0, 0, ⟨#[]⟩, false, 9⟩ := by unfold vBad; rw [if_pos (.inr h2)]
      rw [e]
      clear e
      go_enter Tryz.func46, Tryz.ntmps46
      go_wp2
      refine bodyPost_ret (v := vagg ⟨4, 0, 0, ⟨#[]⟩, false, 9⟩) (by simp [results, Tryz.results46, go_sem, vagg]) rfl ⟨rfl, ?_⟩
      (repeat with_reducible (first | exact bw0 _ _ | exact hBW | refine bw1 ?_ ?_ _ | refine bw2 ?_ ?_ _ | refine bw3 ?_ _ | refine bw4 ?_)); all_goals (first | omega | (dsimp only; omega) | ((repeat with_reducible (first | refine lz1 ?_ | refine lz2 ?_ | refine lz3 ?_ | refine lz4 ?_)); omega))
    · have e : vBad f = ⟨4, 0, 0, ⟨#[]⟩, false, f⟩ := by unfold vBad; rw [if_neg (by omega)]
      rw [e]
      clear e
      go_enter Tryz.func46, Tryz.ntmps46
      go_wp2
      refine bodyPost_ret (v := vagg ⟨4, 0, 0, ⟨#[]⟩, false, f⟩) (by simp [results, Tryz.results46, go_sem, vagg]) rfl ⟨rfl, ?_⟩
      (repeat with_reducible (first | exact bw0 _ _ | exact hBW | refine bw1 ?_ ?_ _ | refine bw2 ?_ ?_ _ | refine bw3 ?_ _ | refine bw4 ?_)); all_goals (first | omega | (dsimp only; omega) | ((repeat with_reducible (first | refine lz1 ?_ | refine lz2 ?_ | refine lz3 ?_ | refine lz4 ?_)); omega))
theorem ret_two {a b : Bool} {x y : Int} (h : a = b) (h' : x = y) : Ending.returned (.tuple #[.bool a, .int .i64 x]) = .returned (.tuple #[.bool b, .int .i64 y]) := by rw [h, h']
def toT (v : V) : Bool × Int := if v.k = 1 then (decide (v.m ≠ 0), 0) else if v.k = 3 then (v.b, 0) else if v.k = 4 then (false, v.f) else (false, 0)
set_option maxHeartbeats 400000 in
theorem totruth_plain (v : V) (hk2 : v.k ≠ 2) (w : World) : Calls Tryz.prog 272 #[vagg v] w fun e w' => e = .returned (.tuple #[.bool (toT v).1, .int .i64 (toT v).2]) ∧ Below w.heap.size w w' := by
  obtain ⟨k, m, e, t, b, f⟩ := v
  simp only at hk2
  unfold vagg toT
  simp only
  have n2 : (k == 2) = false := by simp [hk2]
  by_cases h1 : k = 1
  · subst h1
    go_enter Tryz.func272, Tryz.ntmps272
    go_wp2
    go_ret2
    refine ⟨ret_two (by by_cases h : m = 0 <;> simp [h]) rfl, ?_⟩
    (repeat with_reducible (first | exact bw0 _ _ | exact hBW | refine bw1 ?_ ?_ _ | refine bw2 ?_ ?_ _ | refine bw3 ?_ _ | refine bw4 ?_)); all_goals (first | omega | (dsimp only; omega) | ((repeat with_reducible (first | refine lz1 ?_ | refine lz2 ?_ | refine lz3 ?_ | refine lz4 ?_)); omega))
  · have n1 : (k == 1) = false := by simp [h1]
    by_cases h3 : k = 3
    · subst h3
      go_enter Tryz.func272, Tryz.ntmps272
      go_wp2
      go_ret2
      refine ⟨by simp, ?_⟩
      (repeat with_reducible (first | exact bw0 _ _ | exact hBW | refine bw1 ?_ ?_ _ | refine bw2 ?_ ?_ _ | refine bw3 ?_ _ | refine bw4 ?_)); all_goals (first | omega | (dsimp only; omega) | ((repeat with_reducible (first | refine lz1 ?_ | refine lz2 ?_ | refine lz3 ?_ | refine lz4 ?_)); omega))
    · have n3 : (k == 3) = false := by simp [h3]
      by_cases h4 : k = 4
      · subst h4
        go_enter Tryz.func272, Tryz.ntmps272
        go_wp2
        refine abs_world ?_
        intro W1 hW1
        have hB1 : Below w.heap.size w W1 := by rw [hW1]; (repeat with_reducible (first | exact bw0 _ _ | exact hBW | refine bw1 ?_ ?_ _ | refine bw2 ?_ ?_ _ | refine bw3 ?_ _ | refine bw4 ?_)); all_goals (first | omega | (dsimp only; omega) | ((repeat with_reducible (first | refine lz1 ?_ | refine lz2 ?_ | refine lz3 ?_ | refine lz4 ?_)); omega))
        have ev : W1.heap[w.heap.size]? = some (.cells #[.int .i64 4, .int .i64 m, .int .i64 e, .string t, .bool b, .int .i64 f] 34) := by rw [hW1]; (repeat (first | (with_reducible refine bw5 ?_ _; (first | rfl | (simp; done) | omega | (simp; omega)); done) | with_reducible refine bw6 ?_ _ | with_reducible refine bw7 ?_ | with_reducible refine bw8 ?_))
        have hv1 : w.heap.size < W1.heap.size := lt_of_heap ev
        have k5 := cell_of_heap ev 5
        clear hW1 ev
        refine wp_region_multi [([0, 1, 2, 3], [], [])] (by kernel_rfl) (by kernel_rfl) ?_
        refine multi_phase (Below W1.heap.size W1) (Below.refl _ _).drew ?_
        iterate 4 (first | (apply first_step; (rw [List.getElem?_toArray]; (repeat rw [List.getElem?_cons_succ]); rw [List.getElem?_cons_zero]); rfl; (intro W hB; have hc := bcellB hB; go_simp; (first | done | rfl)); go_frame) | (apply first_skip; (rw [List.getElem?_toArray]; (repeat rw [List.getElem?_cons_succ]); rw [List.getElem?_cons_zero]); rfl; go_frame))
        refine first_done ?_
        refine forced_done ?_
        refine multi_done ?_
        go_wp2
        go_ret2
        exact ⟨by simp, hB1.drew⟩
      · have n4 : (k == 4) = false := by simp [h4]
        simp only [h1, h3, h4, if_false]
        go_enter Tryz.func272, Tryz.ntmps272
        go_wp2
        go_ret2
        refine ⟨rfl, ?_⟩
        (repeat with_reducible (first | exact bw0 _ _ | exact hBW | refine bw1 ?_ ?_ _ | refine bw2 ?_ ?_ _ | refine bw3 ?_ _ | refine bw4 ?_)); all_goals (first | omega | (dsimp only; omega) | ((repeat with_reducible (first | refine lz1 ?_ | refine lz2 ?_ | refine lz3 ?_ | refine lz4 ?_)); omega))
theorem eq_v (w : World) (a b : V) : (binOp .eql 34 (vagg a) (vagg b)).run Tryz.prog w = .ok (.bool (decide (a.k = b.k ∧ a.m = b.m ∧ a.e = b.e ∧ a.t = b.t ∧ a.b = b.b ∧ a.f = b.f))) w := by
  obtain ⟨a1, a2, a3, a4, a5, a6⟩ := a
  obtain ⟨b1, b2, b3, b4, b5, b6⟩ := b
  unfold vagg
  have h4' : a4.toList = b4.toList ↔ a4 = b4 := by
    constructor
    · intro h
      rw [ByteArray.toList_eq, ByteArray.toList_eq] at h
      obtain ⟨⟨x⟩⟩ := a4
      obtain ⟨⟨y⟩⟩ := b4
      simp at h
      rw [h]
    · intro h; rw [h]
  simp [go_sem, h4']
  by_cases h1 : a1 = b1 <;> by_cases h2 : a2 = b2 <;> by_cases h3 : a3 = b3 <;> by_cases h4 : a4 = b4 <;> by_cases h5 : a5 = b5 <;> by_cases h6 : a6 = b6 <;> simp [h1, h2, h3, h4, h5, h6]
/-- May a value be that is no number and no text? -/
def rightP (v : V) : Bool := decide (v.m = 0 ∧ v.e = 0 ∧ v.t = ⟨#[]⟩) && ((decide (v.k = 0) && decide (v.b = false ∧ v.f = 0)) || (decide (v.k = 3) && decide (v.f = 0)) || (decide (v.k = 4) && decide (v.b = false ∧ 1 ≤ v.f ∧ v.f ≤ 9)))
set_option maxHeartbeats 1000000 in
theorem right_plain (v : V) (h1 : v.k ≠ 1) (h2 : v.k ≠ 2) (w : World) : Calls Tryz.prog 76 #[vagg v] w fun e w' => e = .returned (.bool (rightP v)) ∧ Below w.heap.size w w' := by
  have EQ := eq_v
  obtain ⟨k, m, e, t, b, f⟩ := v
  simp only at h1 h2
  have n1 : (k == 1) = false := by simp [h1]
  have n2 : (k == 2) = false := by simp [h2]
  by_cases h0 : k = 0
  · subst h0
    have hr : rightP ⟨0, m, e, t, b, f⟩ = decide ((0 : Int) = 0 ∧ m = 0 ∧ e = 0 ∧ t = ⟨#[]⟩ ∧ b = false ∧ f = 0) := by
      unfold rightP
      simp [Bool.and_assoc]
    have eq0 : ∀ W, (binOp .eql 34 (.agg #[.int .i64 0, .int .i64 m, .int .i64 e, .string t, .bool b, .int .i64 f]) (.agg #[.int .i64 0, .int .i64 0, .int .i64 0, .string ⟨#[]⟩, .bool false, .int .i64 0])).run Tryz.prog W = .ok (.bool (rightP ⟨0, m, e, t, b, f⟩)) W := fun W => by
      rw [hr]
      exact EQ W ⟨0, m, e, t, b, f⟩ vBlank
    clear EQ hr
    generalize rightP ⟨0, m, e, t, b, f⟩ = R at eq0 ⊢
    unfold vagg
    go_enter Tryz.func76, Tryz.ntmps76
    go_wp2
    go_ret
    refine ⟨rfl, ?_⟩
    (repeat with_reducible (first | exact bw0 _ _ | exact hBW | refine bw1 ?_ ?_ _ | refine bw2 ?_ ?_ _ | refine bw3 ?_ _ | refine bw4 ?_)); all_goals (first | omega | (dsimp only; omega) | ((repeat with_reducible (first | refine lz1 ?_ | refine lz2 ?_ | refine lz3 ?_ | refine lz4 ?_)); omega))
  · have n0 : (k == 0) = false := by simp [h0]
    by_cases h3 : k = 3
    · subst h3
      have hr : rightP ⟨3, m, e, t, b, f⟩ = decide ((3 : Int) = 3 ∧ m = 0 ∧ e = 0 ∧ t = ⟨#[]⟩ ∧ b = b ∧ f = 0) := by
        unfold rightP
        simp [Bool.and_assoc]
      have eq0 : ∀ W, (binOp .eql 34 (.agg #[.int .i64 3, .int .i64 m, .int .i64 e, .string t, .bool b, .int .i64 f]) (vagg (vTruth b))).run Tryz.prog W = .ok (.bool (rightP ⟨3, m, e, t, b, f⟩)) W := fun W => by
        rw [hr]
        exact EQ W ⟨3, m, e, t, b, f⟩ (vTruth b)
      clear EQ hr
      generalize rightP ⟨3, m, e, t, b, f⟩ = R at eq0 ⊢
      have hvt : vagg (vTruth b) = .agg #[.int .i64 3, .int .i64 0, .int .i64 0, .string ⟨#[]⟩, .bool b, .int .i64 0] := rfl
      rw [hvt] at eq0
      rw [show vagg ⟨3, m, e, t, b, f⟩ = .agg #[.int .i64 3, .int .i64 m, .int .i64 e, .string t, .bool b, .int .i64 f] from rfl]
      have HVT := Lib.hid hvt
      clear hvt
      go_enter Tryz.func76, Tryz.ntmps76
      go_wp2
      refine abs_world ?_
      intro W1 hW1
      have hB1 : Hid (Below w.heap.size w W1) := by rw [hW1]; unfold Hid; (repeat with_reducible (first | exact bw0 _ _ | exact hBW | refine bw1 ?_ ?_ _ | refine bw2 ?_ ?_ _ | refine bw3 ?_ _ | refine bw4 ?_)); all_goals (first | omega | (dsimp only; omega) | ((repeat with_reducible (first | refine lz1 ?_ | refine lz2 ?_ | refine lz3 ?_ | refine lz4 ?_)); omega))
      have hv1 : w.heap.size < W1.heap.size := lt_of_heap (b := w.heap.size) (o := .cells #[.int .i64 3, .int .i64 m, .int .i64 e, .string t, .bool b, .int .i64 f] 34) (by rw [hW1]; (repeat (first | (with_reducible refine bw5 ?_ _; (first | rfl | (simp; done) | omega | (simp; omega)); done) | with_reducible refine bw6 ?_ _ | with_reducible refine bw7 ?_ | with_reducible refine bw8 ?_)))
      have ev : W1.heap[w.heap.size]? = some (.cells #[.int .i64 3, .int .i64 m, .int .i64 e, .string t, .bool b, .int .i64 f] 34) := by rw [hW1]; (repeat (first | (with_reducible refine bw5 ?_ _; (first | rfl | (simp; done) | omega | (simp; omega)); done) | with_reducible refine bw6 ?_ _ | with_reducible refine bw7 ?_ | with_reducible refine bw8 ?_))
      have k0 := cell_of_heap ev 0
      have k1 := cell_of_heap ev 1
      have k2 := cell_of_heap ev 2
      have k3 := cell_of_heap ev 3
      have k4 := cell_of_heap ev 4
      have k5 := cell_of_heap ev 5
      clear hW1 ev
      refine wp_region_multi [([1, 2, 0], [3], [4, 5]), ([4, 5], [], [])] (by kernel_rfl) (by kernel_rfl) ?_
      refine multi_phase (Below W1.heap.size W1) (Below.refl _ _).drew ?_
      iterate 3 (first | (apply first_step; (rw [List.getElem?_toArray]; (repeat rw [List.getElem?_cons_succ]); rw [List.getElem?_cons_zero]); rfl; (intro W hB; have hc := bcellB hB; go_simp; (first | done | rfl)); go_frame) | (apply first_skip; (rw [List.getElem?_toArray]; (repeat rw [List.getElem?_cons_succ]); rw [List.getElem?_cons_zero]); rfl; go_frame))
      refine first_done ?_
      apply forced_step; (rw [List.getElem?_toArray]; (repeat rw [List.getElem?_cons_succ]); rw [List.getElem?_cons_zero]); rfl; intro K hK; go_simp
      refine (truth_any b _).mono ?_
      rintro e' W2 ⟨rfl, hb2⟩
      rw [HVT.out]
      refine hK _ _ (fun _ => (Below.refl _ W1).drew.trans hb2) ?_
      clear hK K
      refine forced_done ?_
      have hB2 : Hid (Below w.heap.size w W2) := hB1.out.trans ((hb2 : Below W1.heap.size W1.drew W2).mono (Nat.le_of_lt hv1) |> fun h => (Below.refl _ W1).drew.trans h)
      clear hb2 k0 k1 k2 k3 k4 k5
      refine multi_phase (fun _ => True) trivial ?_
      iterate 2 (apply first_step; (rw [List.getElem?_toArray]; (repeat rw [List.getElem?_cons_succ]); rw [List.getElem?_cons_zero]); rfl; (intro W hB; go_simp; (first | done | rfl)); go_frame)
      refine first_done ?_
      refine forced_done ?_
      refine multi_done ?_
      go_wp2
      go_ret
      exact ⟨rfl, hB2.out⟩
    · have n3 : (k == 3) = false := by simp [h3]
      by_cases h4 : k = 4
      · subst h4
        have hr : rightP ⟨4, m, e, t, b, f⟩ = decide ((4 : Int) = 4 ∧ m = 0 ∧ e = 0 ∧ t = ⟨#[]⟩ ∧ b = false ∧ f = (if f < 1 ∨ 9 < f then 9 else f)) := by
          have hf : (f = (if f < 1 ∨ 9 < f then 9 else f)) ↔ (1 ≤ f ∧ f ≤ 9) := by
            by_cases h : f < 1 ∨ 9 < f
            · rw [if_pos h]; omega
            · rw [if_neg h]; omega
          have hd : decide ((4 : Int) = 4 ∧ m = 0 ∧ e = 0 ∧ t = ⟨#[]⟩ ∧ b = false ∧ f = (if f < 1 ∨ 9 < f then 9 else f)) = decide ((4 : Int) = 4 ∧ m = 0 ∧ e = 0 ∧ t = ⟨#[]⟩ ∧ b = false ∧ (1 ≤ f ∧ f ≤ 9)) := by
            apply decide_eq_decide.2
            rw [hf]
          rw [hd]
          unfold rightP
          simp [Bool.and_assoc]
        have eq0 : ∀ W, (binOp .eql 34 (.agg #[.int .i64 4, .int .i64 m, .int .i64 e, .string t, .bool b, .int .i64 f]) (vagg (vBad f))).run Tryz.prog W = .ok (.bool (rightP ⟨4, m, e, t, b, f⟩)) W := fun W => by
          rw [hr]
          exact EQ W ⟨4, m, e, t, b, f⟩ (vBad f)
        clear EQ hr
        generalize rightP ⟨4, m, e, t, b, f⟩ = R at eq0 ⊢
        obtain ⟨f9, hvt⟩ : ∃ f9 : Int, vagg (vBad f) = .agg #[.int .i64 4, .int .i64 0, .int .i64 0, .string ⟨#[]⟩, .bool false, .int .i64 f9] := ⟨_, rfl⟩
        rw [hvt] at eq0
        rw [show vagg ⟨4, m, e, t, b, f⟩ = .agg #[.int .i64 4, .int .i64 m, .int .i64 e, .string t, .bool b, .int .i64 f] from rfl]
        have HVT := Lib.hid hvt
        clear hvt
        go_enter Tryz.func76, Tryz.ntmps76
        go_wp2
        refine abs_world ?_
        intro W1 hW1
        have hB1 : Hid (Below w.heap.size w W1) := by rw [hW1]; unfold Hid; (repeat with_reducible (first | exact bw0 _ _ | exact hBW | refine bw1 ?_ ?_ _ | refine bw2 ?_ ?_ _ | refine bw3 ?_ _ | refine bw4 ?_)); all_goals (first | omega | (dsimp only; omega) | ((repeat with_reducible (first | refine lz1 ?_ | refine lz2 ?_ | refine lz3 ?_ | refine lz4 ?_)); omega))
        have hv1 : w.heap.size < W1.heap.size := lt_of_heap (b := w.heap.size) (o := .cells #[.int .i64 4, .int .i64 m, .int .i64 e, .string t, .bool b, .int .i64 f] 34) (by rw [hW1]; (repeat (first | (with_reducible refine bw5 ?_ _; (first | rfl | (simp; done) | omega | (simp; omega)); done) | with_reducible refine bw6 ?_ _ | with_reducible refine bw7 ?_ | with_reducible refine bw8 ?_)))
        have ev : W1.heap[w.heap.size]? = some (.cells #[.int .i64 4, .int .i64 m, .int .i64 e, .string t, .bool b, .int .i64 f] 34) := by rw [hW1]; (repeat (first | (with_reducible refine bw5 ?_ _; (first | rfl | (simp; done) | omega | (simp; omega)); done) | with_reducible refine bw6 ?_ _ | with_reducible refine bw7 ?_ | with_reducible refine bw8 ?_))
        have k0 := cell_of_heap ev 0
        have k1 := cell_of_heap ev 1
        have k2 := cell_of_heap ev 2
        have k3 := cell_of_heap ev 3
        have k4 := cell_of_heap ev 4
        have k5 := cell_of_heap ev 5
        clear hW1 ev
        refine wp_region_multi [([1, 2, 0], [3], [4, 5]), ([4, 5], [], [])] (by kernel_rfl) (by kernel_rfl) ?_
        refine multi_phase (Below W1.heap.size W1) (Below.refl _ _).drew ?_
        iterate 3 (first | (apply first_step; (rw [List.getElem?_toArray]; (repeat rw [List.getElem?_cons_succ]); rw [List.getElem?_cons_zero]); rfl; (intro W hB; have hc := bcellB hB; go_simp; (first | done | rfl)); go_frame) | (apply first_skip; (rw [List.getElem?_toArray]; (repeat rw [List.getElem?_cons_succ]); rw [List.getElem?_cons_zero]); rfl; go_frame))
        refine first_done ?_
        apply forced_step; (rw [List.getElem?_toArray]; (repeat rw [List.getElem?_cons_succ]); rw [List.getElem?_cons_zero]); rfl; intro K hK; go_simp
        refine (bad_any f _).mono ?_
        rintro e' W2 ⟨rfl, hb2⟩
        rw [HVT.out]
        refine hK _ _ (fun _ => (Below.refl _ W1).drew.trans hb2) ?_
        clear hK K
        refine forced_done ?_
        have hB2 : Hid (Below w.heap.size w W2) := hB1.out.trans ((hb2 : Below W1.heap.size W1.drew W2).mono (Nat.le_of_lt hv1) |> fun h => (Below.refl _ W1).drew.trans h)
        clear hb2 k0 k1 k2 k3 k4 k5
        refine multi_phase (fun _ => True) trivial ?_
        iterate 2 (apply first_step; (rw [List.getElem?_toArray]; (repeat rw [List.getElem?_cons_succ]); rw [List.getElem?_cons_zero]); rfl; (intro W hB; go_simp; (first | done | rfl)); go_frame)
        refine first_done ?_
        refine forced_done ?_
        refine multi_done ?_
        go_wp2
        go_ret
        exact ⟨rfl, hB2.out⟩
      · have n4 : (k == 4) = false := by simp [h4]
        have hr : rightP ⟨k, m, e, t, b, f⟩ = false := by unfold rightP; simp [h0, h3, h4]
        rw [hr]
        clear hr EQ
        unfold vagg
        go_enter Tryz.func76, Tryz.ntmps76
        go_wp2
        go_ret
        refine ⟨rfl, ?_⟩
        (repeat with_reducible (first | exact bw0 _ _ | exact hBW | refine bw1 ?_ ?_ _ | refine bw2 ?_ ?_ _ | refine bw3 ?_ _ | refine bw4 ?_)); all_goals (first | omega | (dsimp only; omega) | ((repeat with_reducible (first | refine lz1 ?_ | refine lz2 ?_ | refine lz3 ?_ | refine lz4 ?_)); omega))
end Go.Proofs.YtndhmahkglfopaaGreatDoor
/- Slices that the call has made: append, told with where the new slice lies. -/
namespace Go.Proofs.YtndhmahkglfopaaGreatDoor
open Go.RowKit
theorem wp_append_at {P : Program} {w : World} {o : Oper} {a : Act} {K : Act → World → Prop} {Q : Exit → Act → World → Prop} (s x : Operand) (t : TypeId)
    (ho : o.op = .call { callee := .builtin .append, args := #[s, x], argTypes := #[t, t] })
    (base : Nat) (e : TypeId) (i : TypeInfo) (z : Value) (size bytes : Nat) (ht : P.underlying t = some (.slice e)) (hi : P.info? e = some i) (hz : i.zero = some z)
    (hsize : i.size = size) (hby : i.bytes = bytes) (hzs : z.cells.size = size) (hsz : 0 < size)
    (v : Value) (n : Nat) (xs : List Value) (hs : a.eval s = v) (hown : w.ownsRow base e size v n xs)
    (ad : Addr) (m c : Nat) (news : List Value) (hx : a.eval x = .slice (some ad) m c) (hl : news.length = m * size) (hnews : ∀ j u, news[j]? = some u → w.cell? (ad.add j) = some u) (h1 : ∀ u ∈ news, u.oneCell' = true)
    (h63 : n + m ≤ maxLen) (hbytes : (n + m) * bytes ≤ 140737488355328) (hbase : base ≤ w.heap.size)
    (h : ∀ v' w', w'.ownsRow base e size v' (n + m) (xs ++ news) → w.grownBy w' v.ownBlock → (v'.ownBlock = v.ownBlock ∨ v'.ownBlock = some w.heap.size) → K (a.put o.dst v') w') : o.wp P a w K Q := by
  obtain ⟨v', w', hr, h2, h3, h4, h5⟩ := run_append_own_at (P := P) w base t o.type e i z size bytes ht hi hz hsize hby hzs hsz v n xs hown ad m c news hl hnews h1 h63 hbytes hbase
  unfold Oper.wp execOp
  simp only [ho, resolve, invoke, builtin, Sem.run_bind, Sem.run_pure, Result.andThen_ok, List.map_toArray, List.map_cons, List.map_nil, hs, hx, hr]
  exact h v' w' h2 h3 h5
theorem cells_new (w : World) (arr : Array Value) (t : TypeId) (j : Nat) (u : Value) (h : arr.toList[j]? = some u) : (w.alloc (.cells arr t)).cell? ((⟨w.heap.size, 0, none⟩ : Addr).add j) = some u := by
  have h' : arr[j]? = some u := by simpa using h
  have e : (⟨w.heap.size, 0, none⟩ : Addr).add j = ⟨w.heap.size, j, none⟩ := by
    by_cases hj : j = 0
    · subst hj; simp [Addr.add]
    · simp [Addr.add, hj]
  rw [e, cell_of_heap (heap_alloc_new w _)]
  exact h'
end Go.Proofs.YtndhmahkglfopaaGreatDoor
/- Arrays of values in memory; one, truth, One, alone. -/
namespace Go.Proofs.YtndhmahkglfopaaGreatDoor
open Go.RowKit
structure Arr where
  r : Int
  c : Int
  l : List V
def vcells (v : V) : List Value := [.int .i64 v.k, .int .i64 v.m, .int .i64 v.e, .string v.t, .bool v.b, .int .i64 v.f]
/-- A slice of values in memory, from block B on. -/
def SlB (B : Nat) (w : World) (a : Option Addr) (l : List V) : Prop :=
  0 < l.length → ∃ b off, a = some ⟨b, off, none⟩ ∧ B ≤ b ∧ b < w.heap.size ∧ ∀ i v, l[i]? = some v → ∀ j, j < 6 → w.cell? ⟨b, off + i * 6 + j, none⟩ = (vcells v)[j]?
def IsArr (B : Nat) (w : World) (x : Value) (A : Arr) : Prop := ∃ a cap, x = .agg #[.int .i64 A.r, .int .i64 A.c, .slice a A.l.length cap] ∧ SlB B w a A.l
theorem SlB.mono {B B' : Nat} {w : World} {a : Option Addr} {l : List V} (h : SlB B w a l) (hB : B' ≤ B) : SlB B' w a l := fun h0 => by
  obtain ⟨b, off, e, h1, h2, h3⟩ := h h0
  exact ⟨b, off, e, Nat.le_trans hB h1, h2, h3⟩
/-- It stays while only blocks in S change, none of which is at or beyond B. -/
theorem SlB.frame {B : Nat} {w w' : World} {a : Option Addr} {l : List V} {S : Nat → Prop} (h : SlB B w a l) (hf : Fr S w w') (hS : ∀ k, S k → k < B) : SlB B w' a l := fun h0 => by
  obtain ⟨b, off, e, h1, h2, h3⟩ := h h0
  have hb : w'.heap[b]? = w.heap[b]? := hf.block b h2 (fun hs => by have := hS b hs; omega)
  exact ⟨b, off, e, h1, Nat.lt_of_lt_of_le h2 hf.size, fun i v hv j hj => (World.cell?_of_block (w := w) (a := ⟨b, off + i * 6 + j, none⟩) hb).trans (h3 i v hv j hj)⟩
theorem SlB.below {B : Nat} {w w' : World} {a : Option Addr} {l : List V} (h : SlB B w a l) (hb : Below w.heap.size w w') : SlB B w' a l :=
  h.frame (S := fun _ => False) (.of_below hb) (fun _ h => h.elim)
/-- What a call hands back: an array in new memory. -/
def ArrPost (w : World) (A : Arr) (e : Ending) (w' : World) : Prop := ∃ x, e = .returned x ∧ IsArr w.heap.size w' x A ∧ Below w.heap.size w w'
/-- A new block of one value is a slice of it. -/
theorem slv_one {B : Nat} {w : World} {b : Nat} {v : V} (hB : B ≤ b) (h : w.heap[b]? = some (.cells #[.int .i64 v.k, .int .i64 v.m, .int .i64 v.e, .string v.t, .bool v.b, .int .i64 v.f] 34)) : SlB B w (some ⟨b, 0, none⟩) [v] := fun _ => by
  refine ⟨b, 0, rfl, hB, lt_of_heap h, fun i u hu j hj => ?_⟩
  cases i with
  | zero =>
    simp at hu
    subst hu
    rw [cell_of_heap h]
    simp [vcells]
  | succ i => simp at hu
/-- The value is told to be right. -/
def RightOk (v : V) : Prop := ∀ W : World, Calls Tryz.prog 76 #[vagg v] W fun e w' => e = .returned (.bool true) ∧ Below W.heap.size W w'
theorem rightOk_plain {v : V} (h1 : v.k ≠ 1) (h2 : v.k ≠ 2) (h : rightP v = true) : RightOk v := fun W => by
  have := right_plain v h1 h2 W
  rwa [h] at this
theorem rightOk_truth (b : Bool) : RightOk (vTruth b) := rightOk_plain (by simp [vTruth]) (by simp [vTruth]) (by simp [rightP, vTruth])
theorem rightOk_blank : RightOk vBlank := rightOk_plain (by simp [vBlank]) (by simp [vBlank]) (by simp [rightP, vBlank])
set_option maxHeartbeats 400000 in
theorem One_any (v : V) (hR : RightOk v) (w : World) : Calls Tryz.prog 77 #[vagg v] w (ArrPost w ⟨1, 1, [v]⟩) := by
  have HR := Lib.hid (hR ((w.alloc (.cells #[.int .i64 v.k, .int .i64 v.m, .int .i64 v.e, .string v.t, .bool v.b, .int .i64 v.f] 34)).alloc (.cells #[.int .i64 0, .int .i64 0, .slice none 0 0] 28)))
  clear hR
  obtain ⟨k, m, e, t, b, f⟩ := v
  unfold vagg at HR ⊢
  simp only at HR ⊢
  go_enter Tryz.func77, Tryz.ntmps77
  go_wp2_with fail
  refine HR.out.mono ?_
  rintro e' w1 ⟨rfl, hb⟩
  have hs1 : w.heap.size + 2 ≤ w1.heap.size := by have := hb.size; simpa using this
  have g0 : w1.heap[w.heap.size]? = some (.cells #[.int .i64 k, .int .i64 m, .int .i64 e, .string t, .bool b, .int .i64 f] 34) := (hb.block _ (by simp; omega)).trans (by (repeat (first | (with_reducible refine bw5 ?_ _; (first | rfl | (simp; done) | omega | (simp; omega)); done) | with_reducible refine bw6 ?_ _ | with_reducible refine bw7 ?_ | with_reducible refine bw8 ?_)))
  have g1 : w1.heap[w.heap.size + 1]? = some (.cells #[.int .i64 0, .int .i64 0, .slice none 0 0] 28) := (hb.block _ (by simp)).trans (by (repeat (first | (with_reducible refine bw5 ?_ _; (first | rfl | (simp; done) | omega | (simp; omega)); done) | with_reducible refine bw6 ?_ _ | with_reducible refine bw7 ?_ | with_reducible refine bw8 ?_)))
  have FB : Hid (Below w.heap.size w w1) := by
    refine Below.trans ?_ (hb.mono (by simp; omega))
    (repeat with_reducible (first | exact bw0 _ _ | exact hBW | refine bw1 ?_ ?_ _ | refine bw2 ?_ ?_ _ | refine bw3 ?_ _ | refine bw4 ?_)); all_goals (first | omega | (dsimp only; omega) | ((repeat with_reducible (first | refine lz1 ?_ | refine lz2 ?_ | refine lz3 ?_ | refine lz4 ?_)); omega))
  have c0 := cell_of_heap g0
  have c1 := cell_of_heap g1
  have y1 := frozen_of_heap g1
  have hn1 : w.heap.size < w1.heap.size := by omega
  have hn2 : w.heap.size + 1 < w1.heap.size := by omega
  clear hb g0 g1 HR
  go_wp2_with fail
  have hBW := FB.out
  refine bodyPost_ret (v := .agg #[.int .i64 1, .int .i64 1, .slice (some ⟨w1.heap.size, 0, none⟩) 1 1]) (by simp [results, Tryz.results77, go_sem, c1, hn2]) rfl ⟨_, rfl, ⟨_, 1, rfl, slv_one (by omega) (by (repeat (first | (with_reducible refine bw5 ?_ _; (first | rfl | (simp; done) | omega | (simp; omega)); done) | with_reducible refine bw6 ?_ _ | with_reducible refine bw7 ?_ | with_reducible refine bw8 ?_)))⟩, ?_⟩
  (repeat with_reducible (first | exact bw0 _ _ | exact hBW | refine bw1 ?_ ?_ _ | refine bw2 ?_ ?_ _ | refine bw3 ?_ _ | refine bw4 ?_)); all_goals (first | omega | (dsimp only; omega) | ((repeat with_reducible (first | refine lz1 ?_ | refine lz2 ?_ | refine lz3 ?_ | refine lz4 ?_)); omega))
/-- The end of a function that hands on an array of a callee's, through its own result's block b. -/
theorem arr_hand {w w1 : World} {b : Nat} {A : Arr} {a : Option Addr} {cap n : Nat} (hb : w.heap.size ≤ b) (hsl : SlB (b + 1) w1 a A.l) (hB : Below w.heap.size w w1) (x y z : Value) :
    ArrPost w A (.returned (.agg #[.int .i64 A.r, .int .i64 A.c, .slice a A.l.length cap])) ((((w1.setCell ⟨b, 0, none⟩ x).setCell ⟨b, 1, none⟩ y).setCell ⟨b, 2, none⟩ z).drewN n) := by
  have hf : Fr (fun k => k = b) w1 ((((w1.setCell ⟨b, 0, none⟩ x).setCell ⟨b, 1, none⟩ y).setCell ⟨b, 2, none⟩ z).drewN n) :=
    (((Fr.setCell w1 ⟨b, 0, none⟩ x).trans (Fr.setCell _ ⟨b, 1, none⟩ y) (fun _ _ h => h)).trans (Fr.setCell _ ⟨b, 2, none⟩ z) (fun _ _ h => h)).trans (S' := fun _ => False) (.of_below (below_drewN _ _ _)) (fun _ _ h => h.elim)
  exact ⟨_, rfl, ⟨a, cap, rfl, (hsl.frame hf (fun k hk => by omega)).mono (by omega)⟩, hB.trans (hf.below hB.size (fun k hk => by omega))⟩
end Go.Proofs.YtndhmahkglfopaaGreatDoor
/- Numbers: how many digits; when a number may be. -/
namespace Go.Proofs.YtndhmahkglfopaaGreatDoor
open Go.RowKit
/-- How many digits, of 0 none. -/
def nd (n : Nat) : Nat := if h : n = 0 then 0 else nd (n / 10) + 1
theorem nd_zero : nd 0 = 0 := by unfold nd; simp
theorem nd_pos {n : Nat} (h : n ≠ 0) : nd n = nd (n / 10) + 1 := by
  rw [nd]
  simp [h]
theorem nd_small {n : Nat} (h : n ≠ 0) (h2 : n < 10) : nd n = 1 := by
  rw [nd_pos h, show n / 10 = 0 by omega, nd_zero]
theorem nd_le : ∀ (k n : Nat), n < 10 ^ k → nd n ≤ k
  | 0, n, h => by
    have : n = 0 := by simp at h; exact h
    rw [this, nd_zero]
    exact Nat.le_refl _
  | k + 1, n, h => by
    by_cases h0 : n = 0
    · rw [h0, nd_zero]; omega
    · rw [nd_pos h0]
      have := nd_le k (n / 10) (by rw [Nat.pow_succ] at h; omega)
      omega
def numR (m e : Int) : Bool := if m = 0 then decide (e = 0) else decide (m.natAbs < 1000000000000000 ∧ m.natAbs % 10 ≠ 0 ∧ -40 ≤ e ∧ e ≤ 40 ∧ (nd m.natAbs : Int) + e ≤ 40)
theorem ret_int {k : IntKind} {a b : Int} (h : a = b) : Ending.returned (.int k a) = .returned (.int k b) := by rw [h]
set_option maxHeartbeats 400000 in
theorem count_any (n : Nat) (h1 : 1 ≤ n) (h2 : n < 1000000000000000) (w : World) : Calls Tryz.prog 97 #[.int .u64 n] w fun e w' => e = .returned (.int .i64 (nd n)) ∧ w = w' := by
  have hN := nd_le 15 n (by omega)
  go_enter Tryz.func97, Tryz.ntmps97
  go_wp2_with fail
  go_loop [0, 3] (fun x d => ∃ m j : Nat, x = .int .u64 m ∧ d = .int .i64 j ∧ 1 ≤ m ∧ m ≤ n ∧ 1 ≤ j ∧ Hid (nd m + j = nd n + 1)) (fun x _ => (intOf x).toNat)
  case atStart => exact ⟨n, 1, rfl, rfl, h1, Nat.le_refl _, Nat.le_refl _, rfl⟩
  case round =>
    obtain ⟨m, j, rfl, rfl, hm, hmn, hj, hS⟩ := hrel
    have hjb : j ≤ 16 := by have := hS.out; omega
    by_cases hlt : m < 10
    · have HJ : Hid (j = nd n) := by have := hS.out; rw [nd_small (by omega) hlt] at this; unfold Hid; omega
      go_wp2_with fail
      go_ret
      exact ⟨ret_int (by rw [HJ.out]), rfl⟩
    · have HS : Hid (nd (m / 10) + (j + 1) = nd n + 1) := by have := hS.out; rw [nd_pos (by omega)] at this; unfold Hid; omega
      clear hS
      go_wp2_with fail
      go_round
      case rel => exact ⟨m / 10, j + 1, by go_num, by go_num, by omega, by omega, by omega, HS⟩
      case measure => simp [intOf]; omega
set_option maxHeartbeats 400000 in
theorem size_any (m : Int) (h : m.natAbs < 1000000000000000) (w : World) : Calls Tryz.prog 61 #[.int .i64 m] w fun e w' => e = .returned (.int .u64 (m.natAbs : Nat)) ∧ w = w' := by
  by_cases h0 : m < 0
  · go_enter Tryz.func61, Tryz.ntmps61
    go_wp2_with fail
    go_ret
    refine ⟨ret_int ?_, rfl⟩
    simp only [IntKind.wrap, IntKind.signed, IntKind.bits]
    simp
    omega
  · go_enter Tryz.func61, Tryz.ntmps61
    go_wp2_with fail
    go_ret
    exact ⟨ret_int (by omega), rfl⟩
set_option maxHeartbeats 1000000 in
set_option maxRecDepth 100000 in
theorem numRight_yes (m e : Int) (h : numR m e = true) (w : World) : Calls Tryz.prog 54 #[.agg #[.int .i64 m, .int .i64 e]] w fun r w' => r = .returned (.bool true) ∧ Below w.heap.size w w' := by
  unfold numR at h
  by_cases h0 : m = 0
  · rw [if_pos h0] at h
    have he : e = 0 := by simpa using h
    subst h0
    subst he
    clear h
    go_enter Tryz.func54, Tryz.ntmps54
    go_wp2_with fail
    go_ret
    refine ⟨rfl, ?_⟩
    (repeat with_reducible (first | exact bw0 _ _ | exact hBW | refine bw1 ?_ ?_ _ | refine bw2 ?_ ?_ _ | refine bw3 ?_ _ | refine bw4 ?_)); all_goals (first | omega | (dsimp only; omega) | ((repeat with_reducible (first | refine lz1 ?_ | refine lz2 ?_ | refine lz3 ?_ | refine lz4 ?_)); omega))
  · rw [if_neg h0] at h
    obtain ⟨h1, h2, h3, h4, h5⟩ : m.natAbs < 1000000000000000 ∧ m.natAbs % 10 ≠ 0 ∧ -40 ≤ e ∧ e ≤ 40 ∧ (nd m.natAbs : Int) + e ≤ 40 := by simpa using h
    have hn1 : 1 ≤ m.natAbs := by omega
    have hd := nd_pos (n := m.natAbs) (by omega)
    have hd15 := nd_le 15 m.natAbs (by omega)
    have n0 : (m == 0) = false := by simpa using h0
    have he : e < 40 := by omega
    have HC := Lib.hid (count_any m.natAbs hn1 h1)
    have HS := Lib.hid (size_any m h1)
    generalize nd m.natAbs = D at HC h5 hd15
    generalize m.natAbs = M at HC HS h1 h2 hn1
    have n1 : ((M : Int) % 10 == 0) = false := by simp; omega
    have hbig : decide ((1000000000000000 : Int) ≤ (M : Int)) = false := by simp; omega
    have H1 := Lib.hid h1
    clear h hd h0 h1
    go_enter Tryz.func54, Tryz.ntmps54
    go_wp2_with fail
    refine (HS.out _).mono ?_
    rintro r w1 ⟨rfl, rfl⟩
    go_wp2_with fail
    refine abs_world ?_
    intro W1 hW1
    have hB1 : Hid (Below w.heap.size w W1) := by rw [hW1]; unfold Hid; (repeat with_reducible (first | exact bw0 _ _ | exact hBW | refine bw1 ?_ ?_ _ | refine bw2 ?_ ?_ _ | refine bw3 ?_ _ | refine bw4 ?_)); all_goals (first | omega | (dsimp only; omega) | ((repeat with_reducible (first | refine lz1 ?_ | refine lz2 ?_ | refine lz3 ?_ | refine lz4 ?_)); omega))
    have ev : W1.heap[w.heap.size]? = some (.cells #[.int .i64 m, .int .i64 e] 32) := by rw [hW1]; (repeat (first | (with_reducible refine bw5 ?_ _; (first | rfl | (simp; done) | omega | (simp; omega)); done) | with_reducible refine bw6 ?_ _ | with_reducible refine bw7 ?_ | with_reducible refine bw8 ?_))
    have k1 := cell_of_heap ev 1
    have z1 := lt_of_heap ev
    have wd : IntKind.i64.wrap ((D : Int) + e) = (D : Int) + e := IntWalk.i64_in _ (by omega)
    have wl : decide ((D : Int) + e ≤ 40) = true := by simpa using h5
    clear hW1 ev n0 n1 hbig
    refine wp_region_mix [0, 2, 3] [1, 4, 5, 6] [4, 5, 6] (Below W1.heap.size W1) (by kernel_rfl) (by kernel_rfl) (Below.refl _ _).drew ?_
    iterate 3 (first | (apply first_step; (rw [List.getElem?_toArray]; (repeat rw [List.getElem?_cons_succ]); rw [List.getElem?_cons_zero]); rfl; (intro W hB; have hc := bcellB hB; go_simp; (first | done | rfl)); go_frame) | (apply first_skip; (rw [List.getElem?_toArray]; (repeat rw [List.getElem?_cons_succ]); rw [List.getElem?_cons_zero]); rfl; go_frame))
    refine first_done ?_
    apply tail_step; (rw [List.getElem?_toArray]; (repeat rw [List.getElem?_cons_succ]); rw [List.getElem?_cons_zero]); rfl; rfl; intro K hK; go_simp
    refine (HC.out _).mono ?_
    rintro r w2 ⟨rfl, rfl⟩
    refine hK _ _ (fun _ => (Below.refl _ W1).drew) ?_
    clear hK K
    (apply tail_step; (rw [List.getElem?_toArray]; (repeat rw [List.getElem?_cons_succ]); rw [List.getElem?_cons_zero]); rfl; rfl; intro K hK; go_simp; refine hK _ _ (fun h => absurd (by decide) h) ?_; clear hK K)
    (apply tail_step; (rw [List.getElem?_toArray]; (repeat rw [List.getElem?_cons_succ]); rw [List.getElem?_cons_zero]); rfl; rfl; intro K hK; go_simp; refine hK _ _ (fun h => absurd (by decide) h) ?_; clear hK K)
    (apply tail_step; (rw [List.getElem?_toArray]; (repeat rw [List.getElem?_cons_succ]); rw [List.getElem?_cons_zero]); rfl; rfl; intro K hK; go_simp; refine hK _ _ (fun h => absurd (by decide) h) ?_; clear hK K)
    refine tail_done ?_
    go_wp2_with fail
    go_ret
    exact ⟨rfl, hB1.out.drew⟩
theorem cell_new_old {W : World} {a : Addr} {v : Value} (o : Obj) (h : W.cell? a = some v) : (W.alloc o).cell? a = some v :=
  ((below_alloc W o _ (Nat.le_refl _)).cell (World.block_lt_of_cell? W _ h)).trans h
theorem own_new1 (W : World) (B : Nat) (x : Value) (hB : B ≤ W.heap.size) : (W.alloc (.cells #[x] 3)).ownsRow B 3 1 (.slice (some ⟨W.heap.size, 0, none⟩) 1 1) 1 [x] :=
  ⟨rfl, .inr ⟨W.heap.size, 1, #[x], rfl, hB, heap_alloc_new W _, Nat.le_refl _, by unfold maxLen; omega, rfl, rfl⟩⟩
def Small (k : Int) : Prop := k.natAbs < 1000000000000000
theorem info3 : (Tryz.prog.info? 3).map (fun i => (i.zero, i.size, i.bytes)) = some (some (.int .i64 0), 1, 8) := by kernel_rfl
set_option maxHeartbeats 1000000 in
set_option maxRecDepth 100000 in
theorem digits_any (m : Int) (h : Small m) (w : World) : Calls Tryz.prog 49 #[.int .i64 m] w fun r w' => (∃ a cap, r = .returned (.slice a (nd m.natAbs) cap)) ∧ Below w.heap.size w w' := by
  have hN := nd_le 15 m.natAbs (by unfold Small at h; omega)
  obtain ⟨i0, hi, hz0, hz1, hz2⟩ := info_parts info3
  have HI := Lib.hid hi
  have HZ0 := Lib.hid hz0
  have HZ1 := Lib.hid hz1
  have HZ2 := Lib.hid hz2
  clear hi hz0 hz1 hz2
  go_enter Tryz.func49, Tryz.ntmps49
  go_wp2_with fail
  go_loopw [0, 3] (fun x v wr => ∃ (k : Int) (n : Nat) (xs : List Value), x = .int .i64 k ∧ Small k ∧ Hid (nd k.natAbs + n = nd m.natAbs) ∧ Hid (wr.ownsRow w.heap.size 3 1 v n xs ∧ ∀ u ∈ xs, u.oneCell' = true) ∧ Hid (Below w.heap.size w wr)) (fun x _ _ => (intOf x).natAbs)
  case atStart => exact ⟨m, 0, [], rfl, h, rfl, ⟨World.ownsRow_nil _ _ _ _, fun u hu => by cases hu⟩, Below.refl _ _⟩
  case round =>
    obtain ⟨k, n, xs, rfl, hk, hS, hO, hB⟩ := hrel
    have hn15 : n ≤ 15 := by have := hS.out; omega
    by_cases h0 : k = 0
    · subst h0
      have e : n = nd m.natAbs := by have := hS.out; rw [show (0 : Int).natAbs = 0 from rfl, nd_zero] at this; omega
      have EN : Hid (n = nd m.natAbs) := e
      have SV : Hid (∃ a cap, u3 = .slice a n cap) := by
        obtain ⟨_, h2⟩ := hO.out.1
        rcases h2 with ⟨h2, h3⟩ | ⟨g, c, cur, h2, _⟩
        · exact ⟨none, 0, by rw [h2, h3]⟩
        · exact ⟨_, _, h2⟩
      clear e hS
      go_wp2_with fail
      go_ret
      refine ⟨?_, hB.out⟩
      obtain ⟨a, cap, e⟩ := SV.out
      exact ⟨a, cap, by rw [← EN.out, ← e]; rfl⟩
    · have n0 : (k != 0) = true := by simpa using h0
      have hkz : k.natAbs ≠ 0 := by omega
      have HS : Hid (nd (k.natAbs / 10) + (n + 1) = nd m.natAbs) := by have := hS.out; rw [nd_pos hkz] at this; unfold Hid; omega
      obtain ⟨hrow, hone⟩ := hO.out
      have HONE := Lib.hid hone
      have hbs := hB.out.size
      have qd : (k.tdiv 10).natAbs = k.natAbs / 10 := by rw [Int.natAbs_tdiv]; rfl
      have QS : Hid (Small (k.tdiv 10)) := by unfold Small Hid at *; omega
      have WT : Hid (wrap64 (k.tdiv 10) = k.tdiv 10) := IntWalk.wrap64_in _ (by unfold Small at hk; omega)
      have QN : Hid (nd (k.tdiv 10).natAbs + (n + 1) = nd m.natAbs) := by unfold Hid; rw [qd]; exact HS.out
      have QM : Hid ((k.tdiv 10).natAbs < k.natAbs) := by unfold Hid; omega
      rcases hrow.2 with ⟨hv, hn0⟩ | ⟨g, cap, cur, hv, hg, hh, hnc, hcm, hsz, ht⟩
      · subst hv
        subst hn0
        clear hS hO hrow hone h hkz h0 qd HS
        go_wp2_with fail
        all_goals
          refine ⟨⟨k.tdiv 10, 1, _, by rw [WT.out], QS.out, QN.out, ⟨own_new1 wr _ _ hbs, by simp [Value.oneCell']⟩, hB.out.alloc hbs _⟩, ?_⟩
          rw [WT.out]
          exact QM.out
      · have hcell : ∀ (j : Nat) (u : Value), xs[j]? = some u → wr.cell? ((⟨g, 0, none⟩ : Addr).add j) = some u := fun j u hu => by
          have hj : j < xs.length := (List.getElem?_eq_some_iff.1 hu).1
          have e : (⟨g, 0, none⟩ : Addr).add j = ⟨g, j, none⟩ := by
            by_cases hj0 : j = 0
            · subst hj0; simp [Addr.add]
            · simp [Addr.add, hj0]
          rw [e, cell_of_heap hh, ← hu, ← ht, List.getElem?_take_of_lt (by have := hrow.1; omega)]
          simp
        have HCE := Lib.hid hcell
        have hxl : xs.length = n := by have := hrow.1; omega
        have HXL := Lib.hid hxl
        have hgl := lt_of_heap hh
        subst hv
        clear hS hO hrow hone h hkz h0 qd HS hcell hh hsz ht hxl
        go_wp2_with (at_builtin; refine wpList_append_own_at _ rfl _ _ 75 rfl w.heap.size 3 i0 (.int .i64 0) 1 8 Tryz.underlying75 HI.out HZ0.out HZ1.out HZ2.out rfl (by decide) _ _ _ rfl (own_new1 wr w.heap.size _ hbs) ⟨g, 0, none⟩ n cap xs rfl (by rw [HXL.out]; omega) (fun j u hu => (cell_new_old _ (HCE.out j u hu))) HONE.out (by unfold maxLen; omega) (by omega) (by simp; omega) ?_; intro v' wN hown hgrow _ _)
        all_goals
          refine ⟨⟨k.tdiv 10, n + 1, _, by rw [WT.out], QS.out, QN.out, ⟨by rw [Nat.add_comm]; exact hown, ?_⟩, ?_⟩, ?_⟩
          · intro u hu
            rcases List.mem_append.1 hu with hu | hu
            · rw [List.mem_singleton.1 hu]; rfl
            · exact HONE.out u hu
          · exact (hB.out.alloc hbs _).grown hgrow (by simp; omega) (fun j e => by cases e; exact hbs)
          · rw [WT.out]
            exact QM.out
end Go.Proofs.YtndhmahkglfopaaGreatDoor
