/- Plain tools over whatever program: which blocks a call may change (Fr), maps as lists of pairs (MapIs), and what a lookup and a store in such a map do. -/
import Derived.WalkKit
import Derived.Carry
import Derived.Deep.QuietTactic
import Derived.BigQuiet
import Derived.Outline
import Derived.WideKeyRuns
import Derived.MapKept
import Derived.Lib.Hide
import Derived.Deep.Light
import Derived.Handy
import Derived.Maps.RangeWalk
import Derived.OrdersHeld
import Derived.Deep.RegionHeld3
import Derived.Maps.AppendAt
import Derived.RangeFuncBox
namespace Go.Proofs.Ytcjohhminiedfaa
open Go.RowKit

/-! ### what may have changed -/
/-- Of the blocks that were there only those in S may have changed. -/
structure Fr (S : Nat → Prop) (w w' : World) : Prop where
  os : w'.os = w.os
  tape : w'.tape = w.tape
  output : w'.output = w.output
  size : w.heap.size ≤ w'.heap.size
  block : ∀ k, k < w.heap.size → ¬ S k → w'.heap[k]? = w.heap[k]?

theorem Fr.refl (S : Nat → Prop) (w : World) : Fr S w w := ⟨rfl, rfl, rfl, Nat.le_refl _, fun _ _ _ => rfl⟩
theorem Fr.mono {S S' : Nat → Prop} {w w' : World} (h : Fr S w w') (hs : ∀ k, k < w.heap.size → S k → S' k) : Fr S' w w' :=
  ⟨h.os, h.tape, h.output, h.size, fun k hk hn => h.block k hk (fun hS => hn (hs k hk hS))⟩
theorem Fr.trans {S S' : Nat → Prop} {a b c : World} (h : Fr S a b) (k : Fr S' b c) (hs : ∀ i, i < a.heap.size → S' i → S i) : Fr S a c :=
  ⟨k.os.trans h.os, k.tape.trans h.tape, k.output.trans h.output, Nat.le_trans h.size k.size, fun i hi hn => (k.block i (Nat.lt_of_lt_of_le hi h.size) (fun h' => hn (hs i hi h'))).trans (h.block i hi hn)⟩
theorem Fr.of_below {S : Nat → Prop} {w w' : World} (h : Below w.heap.size w w') : Fr S w w' := ⟨h.os, h.tape, h.output, h.size, fun k hk _ => h.block k hk⟩
theorem Fr.below {S : Nat → Prop} {B : Nat} {w w' : World} (h : Fr S w w') (hB : B ≤ w.heap.size) (hS : ∀ k, S k → B ≤ k) : Below B w w' :=
  ⟨h.os, h.tape, h.output, h.size, fun k hk => h.block k (Nat.lt_of_lt_of_le hk hB) (fun h' => by have := hS k h'; omega)⟩
theorem Fr.none {w w' : World} (h : Fr (fun _ => False) w w') : Below w.heap.size w w' := h.below (Nat.le_refl _) (fun _ h => h.elim)
theorem below_drewN (w : World) (n : Nat) (B : Nat) : Below B w (w.drewN n) := ⟨rfl, rfl, rfl, Nat.le_refl _, fun _ _ => rfl⟩
theorem heap_drewN (w : World) (n : Nat) : (w.drewN n).heap = w.heap := rfl
theorem heap_drew (w : World) : w.drew.heap = w.heap := rfl
theorem heap_alloc (w : World) (o : Obj) : (w.alloc o).heap = w.heap.push o := rfl
theorem le_alloc {B : Nat} {w : World} {o : Obj} (h : B ≤ w.heap.size) : B ≤ (w.alloc o).heap.size := by rw [World.size_alloc]; omega
theorem le_setCell {B : Nat} {w : World} {a : Addr} {v : Value} (h : B ≤ w.heap.size) : B ≤ (w.setCell a v).heap.size := by rw [World.size_setCell]; exact h
theorem le_drew {B : Nat} {w : World} (h : B ≤ w.heap.size) : B ≤ w.drew.heap.size := h
theorem le_drewN {B : Nat} {w : World} {n : Nat} (h : B ≤ w.heap.size) : B ≤ (w.drewN n).heap.size := h
theorem heap_drew_old {w : World} {b : Nat} {x : Option Obj} (h : w.heap[b]? = x) : w.drew.heap[b]? = x := h
theorem heap_drewN_old {w : World} {b n : Nat} {x : Option Obj} (h : w.heap[b]? = x) : (w.drewN n).heap[b]? = x := h
theorem heap_alloc_at {w : World} {b : Nat} (hb : b = w.heap.size) (o : Obj) : (w.alloc o).heap[b]? = some o := by
  subst hb
  show (w.heap.push o)[w.heap.size]? = _
  simp
theorem belowN {B : Nat} {a w : World} (h : Below B a w) (n : Nat) : Below B a (w.drewN n) := h.trans (below_drewN w n B)
theorem below_alloc (w : World) (o : Obj) (B : Nat) (hB : B ≤ w.heap.size) : Below B w (w.alloc o) := (Below.refl B w).alloc hB o
theorem Fr.setCell (w : World) (p : Addr) (v : Value) : Fr (fun b => b = p.block) w (w.setCell p v) :=
  ⟨rfl, rfl, rfl, by simp [World.setCell], fun k _ hn => Below.heap_setCell _ _ _ _ hn⟩
theorem Fr.grown {w w' : World} {row : Option Nat} (hg : w.grownBy w' row) : Fr (fun b => some b = row) w w' :=
  ⟨hg.os, hg.tape, hg.output, hg.size, fun k hk hn => hg.block k hk hn⟩

theorem lt_of_heap {w : World} {b : Nat} {o : Obj} (h : w.heap[b]? = some o) : b < w.heap.size := (Array.getElem?_eq_some_iff.1 h).1
theorem cell_of_heap {w : World} {b : Nat} {cs : Array Value} {t : TypeId} {fz : Nat × Nat} (h : w.heap[b]? = some (.cells cs t fz)) (o : Nat) : w.cell? ⟨b, o, none⟩ = cs[o]? := by
  simp [World.cell?, h]
theorem frozen_of_heap {w : World} {b : Nat} {cs : Array Value} {t : TypeId} (h : w.heap[b]? = some (.cells cs t (0, 0))) (o : Nat) : w.frozen? ⟨b, o, none⟩ = false := by
  simp [World.frozen?, h]
theorem heap_alloc_new (w : World) (o : Obj) : (w.alloc o).heap[w.heap.size]? = some o := by
  show (w.heap.push o)[w.heap.size]? = _
  simp
theorem heap_alloc_old {w : World} {b : Nat} {x : Obj} (h : w.heap[b]? = some x) (o : Obj) : (w.alloc o).heap[b]? = some x := by
  rw [Below.heap_alloc _ _ _ (lt_of_heap h)]; exact h
theorem heap_setCell_at {w : World} {b : Nat} {cs : Array Value} {t : TypeId} {fz : Nat × Nat} (h : w.heap[b]? = some (.cells cs t fz)) (o : Nat) (v : Value) :
    (w.setCell ⟨b, o, none⟩ v).heap[b]? = some (.cells (cs.setIfInBounds o v) t fz) := by
  simp [World.setCell, Array.getElem?_modify, h]

theorem bcellB {W w1 : World} {B : Nat} (hb : Below B W w1) : ∀ b o, b < B → w1.cell? ⟨b, o, none⟩ = W.cell? ⟨b, o, none⟩ :=
  fun b o h => hb.cell (p := ⟨b, o, none⟩) h
theorem abs_world {P : Program} {c : Code} {Q : Exit → Act → World → Prop} {a : Act} {w : World} (h : ∀ W, W = w → Code.wp P c Q a W) : Code.wp P c Q a w := h w rfl

/-! ### lists of pairs -/
section
variable {κ ν : Type} [DecidableEq κ]
def getL : List (κ × ν) → κ → Option ν
  | [], _ => none
  | (k', v) :: r, k => if k' = k then some v else getL r k
def putL : List (κ × ν) → κ → ν → List (κ × ν)
  | [], k, v => [(k, v)]
  | (k', v') :: r, k, v => if k' = k then (k, v) :: r else (k', v') :: putL r k v
theorem getL_putL (l : List (κ × ν)) (k k' : κ) (v : ν) : getL (putL l k v) k' = if k = k' then some v else getL l k' := by
  induction l with
  | nil => simp [putL, getL]
  | cons a r ih =>
    obtain ⟨x, y⟩ := a
    unfold putL
    by_cases h : x = k
    · subst h
      by_cases h2 : x = k'
      · simp [getL, h2]
      · simp [getL, h2]
    · rw [if_neg h]
      simp only [getL, ih]
      by_cases h2 : x = k'
      · subst h2
        rw [if_pos rfl, if_neg (fun e => h e.symm), if_pos rfl]
      · rw [if_neg h2, if_neg h2]
theorem getL_none {l : List (κ × ν)} {k : κ} : getL l k = none ↔ ∀ p ∈ l, p.1 ≠ k := by
  induction l with
  | nil => simp [getL]
  | cons a r ih =>
    obtain ⟨x, y⟩ := a
    by_cases h : x = k
    · simp [getL, h]
    · simp [getL, h, ih]
theorem getL_of_at {l : List (κ × ν)} {k : κ} {v : ν} {j : Nat} (hn : (l.map Prod.fst).Nodup) (h : l[j]? = some (k, v)) : getL l k = some v := by
  induction l generalizing j with
  | nil => simp at h
  | cons a r ih =>
    obtain ⟨x, y⟩ := a
    simp only [List.map_cons, List.nodup_cons] at hn
    cases j with
    | zero => simp at h; simp [getL, h]
    | succ j =>
      simp only [List.getElem?_cons_succ] at h
      have hx : x ≠ k := fun e => hn.1 (by subst e; exact List.mem_map.2 ⟨(x, v), List.mem_of_getElem? h, rfl⟩)
      simp [getL, hx, ih hn.2 h]
theorem mem_of_getL {l : List (κ × ν)} {k : κ} {v : ν} (h : getL l k = some v) : (k, v) ∈ l := by
  induction l with
  | nil => simp [getL] at h
  | cons a r ih =>
    obtain ⟨x, y⟩ := a
    by_cases hx : x = k
    · simp [getL, hx] at h; simp [hx, h]
    · simp [getL, hx] at h; exact List.mem_cons_of_mem _ (ih h)
theorem putL_new {l : List (κ × ν)} {k : κ} {v : ν} (h : ∀ p ∈ l, p.1 ≠ k) : putL l k v = l ++ [(k, v)] := by
  induction l with
  | nil => rfl
  | cons a r ih =>
    obtain ⟨x, y⟩ := a
    unfold putL
    rw [if_neg (h (x, y) (by simp)), ih (fun p hp => h p (List.mem_cons_of_mem _ hp))]
    rfl
theorem putL_old {l : List (κ × ν)} {k : κ} {v v' : ν} {j : Nat} (hn : (l.map Prod.fst).Nodup) (h : l[j]? = some (k, v')) : putL l k v = l.set j (k, v) := by
  induction l generalizing j with
  | nil => simp at h
  | cons a r ih =>
    obtain ⟨x, y⟩ := a
    simp only [List.map_cons, List.nodup_cons] at hn
    cases j with
    | zero =>
      simp at h
      simp [putL, h]
    | succ j =>
      simp only [List.getElem?_cons_succ] at h
      have hx : x ≠ k := fun e => hn.1 (by subst e; exact List.mem_map.2 ⟨(x, v'), List.mem_of_getElem? h, rfl⟩)
      unfold putL
      rw [if_neg hx, ih hn.2 h]
      rfl
theorem keys_putL (l : List (κ × ν)) (k : κ) (v : ν) : (putL l k v).map Prod.fst = if k ∈ l.map Prod.fst then l.map Prod.fst else l.map Prod.fst ++ [k] := by
  induction l with
  | nil => simp [putL]
  | cons a r ih =>
    obtain ⟨x, y⟩ := a
    unfold putL
    by_cases h : x = k
    · simp [h]
    · rw [if_neg h]
      simp only [List.map_cons, ih, List.mem_cons]
      by_cases h2 : k ∈ r.map Prod.fst
      · rw [if_pos h2, if_pos (.inr h2)]
      · rw [if_neg h2, if_neg (fun e => e.elim (fun e => h e.symm) h2)]; rfl
theorem nodup_putL {l : List (κ × ν)} {k : κ} {v : ν} (hn : (l.map Prod.fst).Nodup) : ((putL l k v).map Prod.fst).Nodup := by
  rw [keys_putL]
  split
  · exact hn
  · rename_i h
    exact List.nodup_append.2 ⟨hn, by simp, by simp; intro a b hab e; subst e; exact h (List.mem_map.2 ⟨_, hab, rfl⟩)⟩
end

/-! ### maps -/
/-- Keys of type kt, encoded by enc. -/
structure KeyFits {κ : Type} (P : Program) (kt : TypeId) (enc : κ → Value) : Prop where
  inj : ∀ {a b : κ}, enc a = enc b → a = b
  check : ∀ (w : World) (em : Bool) (k : κ), (Instr.checkKey em 10000 kt (enc k)).run P w = .ok () w
  find : ∀ (w : World) (k : κ) (es : List MapEntry), (∀ e ∈ es, ∃ k', e.key = enc k') →
    ((Instr.findKey kt (enc k) es).run P w = .ok none w ∧ ∀ e ∈ es, e.key ≠ enc k) ∨ ∃ j e, (Instr.findKey kt (enc k) es).run P w = .ok (some (j, e.val)) w ∧ es[j]? = some e ∧ e.key = enc k
  stays : ∀ (w : World) (k : κ), (Instr.keyThatStays (enc k) (enc k)).run P w = .ok (enc k) w

def MapIs {κ ν : Type} (w : World) (b : Nat) (enc : κ → Value) (ve : ν → Value) (l : List (κ × ν)) : Prop :=
  ∃ es clock, w.heap[b]? = some (.map es clock) ∧ es.toList.map (fun e => (e.key, e.val)) = l.map (fun p => (enc p.1, ve p.2)) ∧ (l.map Prod.fst).Nodup

section
variable {κ ν : Type} {P : Program} {kt : TypeId} {enc : κ → Value} {ve : ν → Value} {w : World} {b : Nat} {l : List (κ × ν)}

theorem MapIs.lt (h : MapIs w b enc ve l) : b < w.heap.size := by obtain ⟨_, _, h, _⟩ := h; exact lt_of_heap h
theorem MapIs.of_block {w' : World} (h : MapIs w b enc ve l) (hb : w'.heap[b]? = w.heap[b]?) : MapIs w' b enc ve l := by
  obtain ⟨es, c, h1, h2⟩ := h
  exact ⟨es, c, hb.trans h1, h2⟩
theorem MapIs.nodup (h : MapIs w b enc ve l) : (l.map Prod.fst).Nodup := by obtain ⟨_, _, _, _, h⟩ := h; exact h
theorem MapIs.new (w : World) (enc : κ → Value) (ve : ν → Value) : MapIs (w.alloc (.map #[] 0)) w.heap.size enc ve [] :=
  ⟨#[], 0, heap_alloc_new w _, by simp, by simp⟩

theorem at_of_map {es : List MapEntry} (h : es.map (fun e => (e.key, e.val)) = l.map (fun p => (enc p.1, ve p.2))) {j : Nat} {e : MapEntry} (hj : es[j]? = some e) :
    ∃ p, l[j]? = some p ∧ e.key = enc p.1 ∧ e.val = ve p.2 := by
  have h1 : (es.map (fun e => (e.key, e.val)))[j]? = some (e.key, e.val) := by simp [hj]
  rw [h, List.getElem?_map] at h1
  cases hl : l[j]? with
  | none => simp [hl] at h1
  | some p => simp [hl] at h1; exact ⟨p, rfl, h1.1.symm, h1.2.symm⟩
theorem mem_key_of_map {es : List MapEntry} (h : es.map (fun e => (e.key, e.val)) = l.map (fun p => (enc p.1, ve p.2))) {p : κ × ν} (hp : p ∈ l) : ∃ e ∈ es, e.key = enc p.1 := by
  have h1 : (enc p.1, ve p.2) ∈ es.map (fun e => (e.key, e.val)) := by rw [h]; exact List.mem_map.2 ⟨p, hp, rfl⟩
  obtain ⟨e, he, h2⟩ := List.mem_map.1 h1
  exact ⟨e, he, congrArg Prod.fst h2⟩

theorem MapIs.finds [DecidableEq κ] (K : KeyFits P kt enc) {es : List MapEntry} (h : es.map (fun e => (e.key, e.val)) = l.map (fun p => (enc p.1, ve p.2))) (hn : (l.map Prod.fst).Nodup) (k : κ) (w : World) :
    ((Instr.findKey kt (enc k) es).run P w = .ok none w ∧ getL l k = none) ∨
    ∃ j e v, (Instr.findKey kt (enc k) es).run P w = .ok (some (j, ve v)) w ∧ es[j]? = some e ∧ e.key = enc k ∧ l[j]? = some (k, v) ∧ getL l k = some v := by
  have hkeys : ∀ e ∈ es, ∃ k', e.key = enc k' := fun e he => by
    obtain ⟨j, hj⟩ := List.mem_iff_getElem?.1 he
    obtain ⟨p, _, h1, _⟩ := at_of_map h hj
    exact ⟨p.1, h1⟩
  rcases K.find w k es hkeys with ⟨h1, h2⟩ | ⟨j, e, h1, h2, h3⟩
  · refine .inl ⟨h1, getL_none.2 fun p hp e => ?_⟩
    obtain ⟨x, hx, h4⟩ := mem_key_of_map h hp
    exact h2 x hx (by rw [h4, e])
  · obtain ⟨p, hp, h4, h5⟩ := at_of_map h h2
    obtain ⟨pk, pv⟩ := p
    have : pk = k := K.inj (h4.symm.trans h3)
    subst this
    exact .inr ⟨j, e, pv, by rw [h1, h5], h2, h3, hp, getL_of_at hn hp⟩

/-- 'v, ok := m[k]'. -/
theorem MapIs.look2 [DecidableEq κ] (K : KeyFits P kt enc) (h : MapIs w b enc ve l) {t et : TypeId} (ht : P.underlying t = some (.map kt et)) {z : Value} (hz : (zeroValue et).run P w = .ok z w) (k : κ) :
    (Instr.lookup t (.map (some b)) (enc k) true).run P w = .ok (.tuple #[((getL l k).map ve).getD z, .bool (getL l k).isSome]) w := by
  obtain ⟨es, c, hb, he, hn⟩ := h
  unfold Instr.lookup
  rcases MapIs.finds K he hn k w with ⟨h1, h2⟩ | ⟨j, e, v, h1, _, _, _, h2⟩
  · simp [run_underlying ht, getObj, Sem.run, hb, K.check, h1, hz, h2, Result.andThen]
  · simp [run_underlying ht, getObj, Sem.run, hb, K.check, h1, h2, Result.andThen]
/-- 'm[k]'. -/
theorem MapIs.look1 [DecidableEq κ] (K : KeyFits P kt enc) (h : MapIs w b enc ve l) {t et : TypeId} (ht : P.underlying t = some (.map kt et)) {z : Value} (hz : (zeroValue et).run P w = .ok z w) (k : κ) :
    (Instr.lookup t (.map (some b)) (enc k) false).run P w = .ok (((getL l k).map ve).getD z) w := by
  obtain ⟨es, c, hb, he, hn⟩ := h
  unfold Instr.lookup
  rcases MapIs.finds K he hn k w with ⟨h1, h2⟩ | ⟨j, e, v, h1, _, _, _, h2⟩
  · simp [run_underlying ht, getObj, Sem.run, hb, K.check, h1, hz, h2, Result.andThen]
  · simp [run_underlying ht, getObj, Sem.run, hb, K.check, h1, h2, Result.andThen]
/-- 'm[k] = v'. -/
theorem MapIs.upd [DecidableEq κ] (K : KeyFits P kt enc) (h : MapIs w b enc ve l) {t et : TypeId} (ht : P.underlying t = some (.map kt et)) (k : κ) (v : ν) :
    ∃ w', (Instr.mapUpdate t (.map (some b)) (enc k) (ve v)).run P w = .ok () w' ∧ MapIs w' b enc ve (putL l k v) ∧ Fr (fun x => x = b) w w' ∧ w'.heap.size = w.heap.size := by
  obtain ⟨es, c, hb, he, hn⟩ := h
  have hlt := lt_of_heap hb
  rcases MapIs.finds K he hn k w with ⟨h1, h2⟩ | ⟨j, e, v', h1, hj, hk, hl, h2⟩
  · refine ⟨{ w with heap := w.heap.setIfInBounds b (.map (es.push { key := enc k, val := ve v, born := c }) (c + 1)) }, ?_, ⟨es.push { key := enc k, val := ve v, born := c }, c + 1, ?_, ?_, nodup_putL hn⟩, ⟨rfl, rfl, rfl, by simp, fun j hj hne => ?_⟩, by simp⟩
    · unfold Instr.mapUpdate
      simp [run_underlying ht, getObj, setObj, Sem.run, hb, K.check, h1, Result.andThen]
    · simp [hlt]
    · rw [putL_new (getL_none.1 h2)]
      simp [he]
    · simp [Array.getElem?_setIfInBounds_ne (Ne.symm hne)]
  · have hj' : es[j]? = some e := by simpa using hj
    refine ⟨{ w with heap := w.heap.setIfInBounds b (.map (es.modify j fun e => { e with key := enc k, val := ve v }) c) }, ?_, ⟨es.modify j fun e => { e with key := enc k, val := ve v }, c, ?_, ?_, nodup_putL hn⟩, ⟨rfl, rfl, rfl, by simp, fun j hj hne => ?_⟩, by simp⟩
    · unfold Instr.mapUpdate
      simp [run_underlying ht, getObj, setObj, Sem.run, hb, K.check, h1, Result.andThen, hj', hk, K.stays]
    · simp [hlt]
    · rw [putL_old hn hl]
      apply List.ext_getElem?
      intro i
      have hi : (es.toList.map (fun e => (e.key, e.val)))[i]? = (l.map (fun p => (enc p.1, ve p.2)))[i]? := by rw [he]
      simp only [List.getElem?_map, Array.getElem?_toList] at hi
      simp only [List.getElem?_map, Array.getElem?_toList, Array.getElem?_modify, List.getElem?_set]
      by_cases hij : j = i
      · subst hij
        have hl2 : j < l.length := (List.getElem?_eq_some_iff.1 hl).1
        simp [hj', hl2]
      · simp [hij, hi]
    · simp [Array.getElem?_setIfInBounds_ne (Ne.symm hne)]
end

/-! ### kinds of keys -/
theorem int_fits {P : Program} {kt : TypeId} (hk : P.underlying kt = some (.int .i64)) : KeyFits P kt (fun n : Int => Value.int .i64 n) where
  inj h := by injection h
  check w em k := MapKept.run_checkKey (k := Value.int .i64 k) hk rfl em 9999
  find w k es hes := by
    have hks : ∀ y ∈ es, MapKept.IsKey (.int .i64) y.key := fun y hy => by obtain ⟨k', h⟩ := hes y hy; rw [h]; rfl
    rcases MapKept.findNow_spec (d := .int .i64) (k := Value.int .i64 k) rfl es 0 hks with ⟨h1, h2⟩ | ⟨j, e0, h1, h2, h3⟩
    · exact Or.inl ⟨MapKept.run_findKey hk h1, h2⟩
    · exact Or.inr ⟨j, e0, by simpa using MapKept.run_findKey hk h1, h2, h3⟩
  stays w k := MapKept.run_keyThatStays (d := .int .i64) rfl

end Go.Proofs.Ytcjohhminiedfaa
/- A region that draws its order, where some operations yield one value in every world of a class and the others come in one order: walked once. -/
namespace Go.Proofs.Ytcjohhminiedfaa
open Go.RowKit
section
variable {P : Program} {ops : Array Oper} {Q : Exit → Act → World → Prop} {S : World → Prop} {ls : List Nat}

/-- Whatever order is picked from here on; S holds behind every operation that is not one of ls. -/
def wpAnyG (P : Program) (ops : Array Oper) (Q : Exit → Act → World → Prop) (S : World → Prop) (ls : List Nat) : Nat → Array Bool → Act → World → Prop
  | 0, listed, a, w => Region.ready .any ops listed = [] ∧ Q .normal a w
  | fuel + 1, listed, a, w =>
    (Region.ready .any ops listed = [] → Q .normal a w) ∧
    ∀ i ∈ Region.ready .any ops listed, wpOp P ops Q i (fun a' w' => (i ∉ ls → S w') ∧ wpAnyG P ops Q S ls fuel (listed.setIfInBounds i true) a' w') a w

theorem wpAny_of_G : ∀ (fuel : Nat) (listed : Array Bool) (a : Act) (w : World), wpAnyG P ops Q S ls fuel listed a w → wpAny P .any ops Q fuel listed a w
  | 0, _, _, _, h => h
  | fuel + 1, _, _, _, h => ⟨h.1, fun i hi => wpOp_mono (fun a' w' h' => wpAny_of_G fuel _ a' w' h'.2) (h.2 i hi)⟩

/-- Number i comes ahead of number j, by edges that always bind. -/
def predB (ops : Array Oper) (i : Nat) : Nat → Nat → Bool
  | 0, _ => false
  | n + 1, j => match ops[j]? with
    | some o => o.after.any fun e => Region.binds .any e && (e.on == i || predB ops i n e.on)
    | none => false
def Closed (ops : Array Oper) (listed : Array Bool) : Prop :=
  ∀ (j : Nat) (oj : Oper), ops[j]? = some oj → listed.getD j false = true → ∀ e ∈ oj.after, Region.binds .any e = true → listed.getD e.on false = true
theorem pred_listed {listed : Array Bool} (hc : Closed ops listed) {i : Nat} : ∀ (n j : Nat) (oj : Oper), ops[j]? = some oj → (∀ e ∈ oj.after, Region.binds .any e = true → listed.getD e.on false = true) → predB ops i n j = true → listed.getD i false = true
  | 0, _, _, _, _, h => by cases h
  | n + 1, j, oj, hj, hall, h => by
    unfold predB at h
    rw [hj] at h
    obtain ⟨e, he, hb⟩ := Array.any_eq_true'.1 h
    simp only [Bool.and_eq_true, Bool.or_eq_true, beq_iff_eq] at hb
    have hl := hall e he hb.1
    rcases hb.2 with h1 | h1
    · rw [← h1]; exact hl
    · cases ho : ops[e.on]? with
      | none =>
        cases n with
        | zero => cases h1
        | succ n => unfold predB at h1; rw [ho] at h1; cases h1
      | some oe => exact pred_listed hc n e.on oe ho (hc e.on oe ho hl) h1
theorem Closed.set {listed : Array Bool} (hc : Closed ops listed) {i : Nat} (hi : i ∈ Region.ready .any ops listed) : Closed ops (listed.setIfInBounds i true) := by
  obtain ⟨_, oi, hoi, hall⟩ := mem_ready.1 hi
  intro j oj hj hl e he hb
  by_cases hij : i = j
  · subst hij
    have : oj = oi := Option.some.inj (hj.symm.trans hoi)
    subst this
    exact getD_set_true (hall e he hb)
  · rw [getD_set_ne false hij] at hl
    exact getD_set_true (hc j oj hj hl e he hb)

theorem wpAnyG_first {i : Nat} {oi : Oper} {v : Value} (hi : ops[i]? = some oi) (hsel : ∀ (j : Nat) (o : Oper) cs b, ops[j]? = some o → o.op ≠ .select cs b)
    (hQ : ∀ c a w, Q (.panic c) (a.put oi.dst v) w → Q (.panic c) a w) (hil : i ∉ ls) (hneed : ∀ j ∈ ls, predB ops i ops.size j = true) :
    ∀ (fuel : Nat) (listed : Array Bool) (a : Act) (w : World), Closed ops listed →
      (∀ j oj, ops[j]? = some oj → j ≠ i → listed.getD j true = false → (∀ e ∈ oj.after, Region.binds .any e = true → e.on ≠ i) → oi.apart ops oj = true) →
      i ∈ Region.ready .any ops listed → YieldsIf P ops S oi v a → S w →
      wpAnyG P ops Q S ls fuel (listed.setIfInBounds i true) (a.put oi.dst v) w → wpAnyG P ops Q S ls (fuel + 1) listed a w := by
  intro fuel
  induction fuel with
  | zero =>
    intro listed a w _ _ hr hy hS H
    refine ⟨fun h => (by rw [h] at hr; cases hr), fun j hj => ?_⟩
    by_cases hji : j = i
    · subst hji; exact hy.wpOp hi hS ⟨fun _ => hS, H⟩
    · have := ready_mono hj hji
      rw [H.1] at this
      cases this
  | succ fuel ih =>
    intro listed a w hcl hfree hr hy hS H
    refine ⟨fun h => (by rw [h] at hr; cases hr), fun j hj => ?_⟩
    by_cases hji : j = i
    · subst hji; exact hy.wpOp hi hS ⟨fun _ => hS, H⟩
    · have h1 := H.2 j (ready_mono hj hji)
      obtain ⟨hjun, oj, hoj, hall⟩ := mem_ready.1 hj
      have hiun : listed.getD i false = false := by
        have h0 := (mem_ready.1 hr).1
        rcases Nat.lt_or_ge i listed.size with h' | h'
        · simp [h'] at h0 ⊢; exact h0
        · simp [Array.getElem?_eq_none h'] at h0
      have hjl : j ∉ ls := fun hm => by
        have := pred_listed hcl _ j oj hoj hall (hneed j hm)
        rw [hiun] at this
        cases this
      have hnot : ∀ e ∈ oj.after, Region.binds .any e = true → e.on ≠ i := fun e he hb heq => by
        have h1 := hall e he hb
        rw [heq, hiun] at h1
        cases h1
      have h2 := wpOp_putIf hoj (hfree j oj hoj hji hjun hnot) (fun cs b => hsel i oi cs b hi) (fun cs b => hsel j oj cs b hoj) hQ hy h1
      have hfree' : ∀ k ok, ops[k]? = some ok → k ≠ i → (listed.setIfInBounds j true).getD k true = false →
          (∀ e ∈ ok.after, Region.binds .any e = true → e.on ≠ i) → oi.apart ops ok = true := fun k ok hk hki hun hno => by
        refine hfree k ok hk hki ?_ hno
        by_cases hjk : j = k
        · subst hjk; exact hjun
        · rw [getD_set_ne true hjk] at hun; exact hun
      refine wpOp_mono (fun a' w' h3 => ?_) h2
      obtain ⟨hy3, hS3, H3⟩ := h3
      refine ⟨hS3, ih (listed.setIfInBounds j true) a' w' (hcl.set hj) hfree' (ready_mono hr (Ne.symm hji)) hy3 (hS3 hjl) ?_⟩
      rw [Array.setIfInBounds_comm _ _ hji]
      exact H3

theorem wpAnyG_pure {i : Nat} {oi : Oper} {v : Value} (hi : ops[i]? = some oi) (hsel : ∀ (j : Nat) (o : Oper) cs b, ops[j]? = some o → o.op ≠ .select cs b)
    (hQ : ∀ c a w, Q (.panic c) (a.put oi.dst v) w → Q (.panic c) a w) (hil : i ∈ ls) :
    ∀ (fuel : Nat) (listed : Array Bool) (a : Act) (w : World),
      (∀ j oj, ops[j]? = some oj → j ≠ i → listed.getD j true = false → (∀ e ∈ oj.after, Region.binds .any e = true → e.on ≠ i) → oi.apart ops oj = true) →
      i ∈ Region.ready .any ops listed → YieldsIf P ops (fun _ => True) oi v a →
      wpAnyG P ops Q S ls fuel (listed.setIfInBounds i true) (a.put oi.dst v) w → wpAnyG P ops Q S ls (fuel + 1) listed a w := by
  intro fuel
  induction fuel with
  | zero =>
    intro listed a w _ hr hy H
    refine ⟨fun h => (by rw [h] at hr; cases hr), fun j hj => ?_⟩
    by_cases hji : j = i
    · subst hji; exact hy.wpOp hi trivial ⟨fun h => absurd hil h, H⟩
    · have := ready_mono hj hji
      rw [H.1] at this
      cases this
  | succ fuel ih =>
    intro listed a w hfree hr hy H
    refine ⟨fun h => (by rw [h] at hr; cases hr), fun j hj => ?_⟩
    by_cases hji : j = i
    · subst hji; exact hy.wpOp hi trivial ⟨fun h => absurd hil h, H⟩
    · have h1 := H.2 j (ready_mono hj hji)
      obtain ⟨hjun, oj, hoj, hall⟩ := mem_ready.1 hj
      have hiun : listed.getD i false = false := by
        have h0 := (mem_ready.1 hr).1
        rcases Nat.lt_or_ge i listed.size with h' | h'
        · simp [h'] at h0 ⊢; exact h0
        · simp [Array.getElem?_eq_none h'] at h0
      have hnot : ∀ e ∈ oj.after, Region.binds .any e = true → e.on ≠ i := fun e he hb heq => by
        have h1 := hall e he hb
        rw [heq, hiun] at h1
        cases h1
      have h2 := wpOp_putIf hoj (hfree j oj hoj hji hjun hnot) (fun cs b => hsel i oi cs b hi) (fun cs b => hsel j oj cs b hoj) hQ hy h1
      have hfree' : ∀ k ok, ops[k]? = some ok → k ≠ i → (listed.setIfInBounds j true).getD k true = false →
          (∀ e ∈ ok.after, Region.binds .any e = true → e.on ≠ i) → oi.apart ops ok = true := fun k ok hk hki hun hno => by
        refine hfree k ok hk hki ?_ hno
        by_cases hjk : j = k
        · subst hjk; exact hjun
        · rw [getD_set_ne true hjk] at hun; exact hun
      refine wpOp_mono (fun a' w' h3 => ?_) h2
      obtain ⟨hy3, hS3, H3⟩ := h3
      refine ⟨hS3, ih (listed.setIfInBounds j true) a' w' hfree' (ready_mono hr (Ne.symm hji)) hy3 ?_⟩
      rw [Array.setIfInBounds_comm _ _ hji]
      exact H3

/-- The first ones, each with one value in every world of the class. -/
def wpFirst (P : Program) (ops : Array Oper) (S : World → Prop) (K : Act → Prop) : List Nat → Act → Prop
  | [], a => K a
  | i :: rest, a => ∃ o v, ops[i]? = some o ∧ YieldsIf P ops S o v a ∧ wpFirst P ops S K rest (a.put o.dst v)
/-- The others, in their order; those of ps are pure and may stand beside others. -/
def wpTail (P : Program) (ops : Array Oper) (Q : Exit → Act → World → Prop) (S : World → Prop) (ls ps : List Nat) : List Nat → Act → World → Prop
  | [], a, w => Q .normal a w
  | i :: rest, a, w => if ps.contains i then ∃ o v, ops[i]? = some o ∧ YieldsIf P ops (fun _ => True) o v a ∧ wpTail P ops Q S ls ps rest (a.put o.dst v) w
    else wpOp P ops Q i (fun a' w' => (i ∉ ls → S w') ∧ wpTail P ops Q S ls ps rest a' w') a w

def mixT (ops : Array Oper) (ls ps : List Nat) : List Nat → Array Bool → Bool
  | t :: ts, listed => (if ps.contains t then Region.free .any ops listed t && (Region.ready .any ops listed).contains t && ls.contains t else Region.ready .any ops listed == [t]) && mixT ops ls ps ts (listed.setIfInBounds t true)
  | [], listed => (Region.ready .any ops listed).isEmpty
def mixB (ops : Array Oper) (ls ps : List Nat) (ts : List Nat) : List Nat → Array Bool → Bool
  | i :: fs, listed => Region.free .any ops listed i && (Region.ready .any ops listed).contains i && !ls.contains i && ls.all (predB ops i ops.size) && mixB ops ls ps ts fs (listed.setIfInBounds i true)
  | [], listed => mixT ops ls ps ts listed

theorem wpAnyG_tail {ps : List Nat} (hsel : ∀ (j : Nat) (o : Oper) cs b, ops[j]? = some o → o.op ≠ .select cs b) (hQ : ∀ c a w d v, Q (.panic c) (a.put d v) w → Q (.panic c) a w) :
    ∀ (ts : List Nat) (fuel : Nat) (listed : Array Bool) (a : Act) (w : World), ts.length ≤ fuel → mixT ops ls ps ts listed = true → wpTail P ops Q S ls ps ts a w → wpAnyG P ops Q S ls fuel listed a w
  | [], 0, listed, a, w, _, hB, h => ⟨by simpa [mixT] using hB, h⟩
  | [], fuel + 1, listed, a, w, _, hB, h => ⟨fun _ => h, fun i hi => by
      have : Region.ready .any ops listed = [] := by simpa [mixT] using hB
      rw [this] at hi; cases hi⟩
  | t :: ts, 0, listed, a, w, hf, hB, h => by simp at hf
  | t :: ts, fuel + 1, listed, a, w, hf, hB, h => by
    simp only [mixT, Bool.and_eq_true] at hB
    unfold wpTail at h
    cases hp : ps.contains t with
    | true =>
      rw [hp] at hB h
      simp only [if_true, Bool.and_eq_true] at hB h
      obtain ⟨o, v, ho, hy, hn⟩ := h
      obtain ⟨⟨⟨h1, h2⟩, h3⟩, h4⟩ := hB
      exact wpAnyG_pure ho hsel (fun c a w => hQ c a w _ _) (by simpa using h3) fuel listed a w (Region.free_spec ho h1) (by simpa using h2) hy
        (wpAnyG_tail hsel hQ ts fuel _ _ w (by simp at hf; omega) h4 hn)
    | false =>
      rw [hp] at hB h
      simp only [Bool.false_eq_true, if_false, beq_iff_eq] at hB h
      refine ⟨fun h0 => (by rw [hB.1] at h0; cases h0), fun i hi => ?_⟩
      rw [hB.1] at hi
      obtain rfl : i = t := by simpa using hi
      exact wpOp_mono (fun a' w' h' => ⟨h'.1, wpAnyG_tail hsel hQ ts fuel _ a' w' (by simp at hf; omega) hB.2 h'.2⟩) h

theorem wpAnyG_mix {ps : List Nat} (hsel : ∀ (j : Nat) (o : Oper) cs b, ops[j]? = some o → o.op ≠ .select cs b) (hQ : ∀ c a w d v, Q (.panic c) (a.put d v) w → Q (.panic c) a w) :
    ∀ (fs ts : List Nat) (fuel : Nat) (listed : Array Bool) (a : Act) (w : World), Closed ops listed → fs.length + ts.length ≤ fuel → mixB ops ls ps ts fs listed = true → S w →
      wpFirst P ops S (fun a' => wpTail P ops Q S ls ps ts a' w) fs a → wpAnyG P ops Q S ls fuel listed a w
  | [], ts, fuel, listed, a, w, _, hf, hB, _, h => wpAnyG_tail hsel hQ ts fuel listed a w (by simpa using hf) hB h
  | i :: fs, ts, 0, listed, a, w, _, hf, hB, _, h => by simp at hf
  | i :: fs, ts, fuel + 1, listed, a, w, hcl, hf, hB, hS, h => by
    obtain ⟨o, v, ho, hy, hn⟩ := h
    simp only [mixB, Bool.and_eq_true] at hB
    obtain ⟨⟨⟨⟨h1, h2⟩, h3⟩, h4⟩, h5⟩ := hB
    have hr : i ∈ Region.ready .any ops listed := by simpa using h2
    exact wpAnyG_first ho hsel (fun c a w => hQ c a w _ _) (by simpa using h3) (fun j hj => List.all_eq_true.1 h4 j hj) fuel listed a w hcl (Region.free_spec ho h1) hr hy hS
      (wpAnyG_mix hsel hQ fs ts fuel _ _ w (hcl.set hr) (by simp at hf; omega) h5 hS hn)

theorem closed_none (n : Nat) : Closed ops (Array.replicate n false) := fun j oj _ hl => by
  rcases Nat.lt_or_ge j n with h | h
  · simp [h] at hl
  · simp [h] at hl

theorem wp_region_mix3 {id : Nat} {a : Act} {w : World} (fs ts ls ps : List Nat) (S : World → Prop) (hm : P.follows .mixedOrders = true)
    (hB : (Region.noSelect ops && decide (fs.length + ts.length ≤ ops.size) && mixB ops ls ps ts fs (Array.replicate ops.size false)) = true)
    (hS : S w.drew) (h : wpFirst P ops S (fun a' => wpTail P ops (NoPanic Q) S ls ps ts a' w.drew) fs a) : (Code.region id ops true).wp P Q a w := by
  simp only [Bool.and_eq_true, decide_eq_true_eq] at hB
  exact wp_region_noPanic (wp_region_any hm (wpAny_of_G _ _ _ _ (wpAnyG_mix (Region.noSelect_spec hB.1.1) (fun _ _ _ _ _ h => h) fs ts ops.size _ a _ (closed_none _) hB.1.2 hB.2 hS h)))
theorem wp_region_mix {id : Nat} {a : Act} {w : World} (fs ts ls : List Nat) (S : World → Prop) (hm : P.follows .mixedOrders = true)
    (hB : (Region.noSelect ops && decide (fs.length + ts.length ≤ ops.size) && mixB ops ls [] ts fs (Array.replicate ops.size false)) = true)
    (hS : S w.drew) (h : wpFirst P ops S (fun a' => wpTail P ops (NoPanic Q) S ls [] ts a' w.drew) fs a) : (Code.region id ops true).wp P Q a w :=
  wp_region_mix3 fs ts ls [] S hm hB hS h

theorem ho_zero {o : Oper} {l : List Oper} : (o :: l).toArray[0]? = some o := by simp
theorem ho_succ {x o : Oper} {l : List Oper} {i : Nat} (h : l.toArray[i]? = some o) : (x :: l).toArray[i + 1]? = some o := by simpa using h
theorem first_step {K : Act → Prop} {i : Nat} {rest : List Nat} {a : Act} {o : Oper} {v : Value} (ho : ops[i]? = some o) (hw : Region.wanted o (yielded ops a.tmps) = true)
    (hv : ∀ W, S W → (execOp a.eval o).run P W = .ok (.value v) W) (h : wpFirst P ops S K rest (a.put o.dst v)) : wpFirst P ops S K (i :: rest) a :=
  ⟨o, v, ho, .inl ⟨hw, hv⟩, h⟩
theorem first_skip {K : Act → Prop} {i : Nat} {rest : List Nat} {a : Act} {o : Oper} (ho : ops[i]? = some o) (hw : Region.wanted o (yielded ops a.tmps) = false)
    (h : wpFirst P ops S K rest (a.put o.dst undef)) : wpFirst P ops S K (i :: rest) a :=
  ⟨o, undef, ho, .inr ⟨hw, rfl⟩, h⟩
theorem first_done {K : Act → Prop} {a : Act} (h : K a) : wpFirst P ops S K [] a := h
theorem tail_step {ps : List Nat} {i : Nat} {rest : List Nat} {a : Act} {w : World} {o : Oper} (ho : ops[i]? = some o) (hp : ps.contains i = false) (hw : Region.wanted o (yielded ops a.tmps) = true)
    (h : ∀ K : Act → World → Prop, (∀ a w, (i ∉ ls → S w) → wpTail P ops Q S ls ps rest a w → K a w) → o.wp P a w K Q) : wpTail P ops Q S ls ps (i :: rest) a w := by
  unfold wpTail
  rw [hp]
  simp only [Bool.false_eq_true, if_false]
  unfold wpOp
  rw [ho]
  simp only [hw, if_true]
  exact .inl (h _ fun a w h1 h2 => ⟨h1, h2⟩)
theorem tail_skip {ps : List Nat} {i : Nat} {rest : List Nat} {a : Act} {w : World} {o : Oper} (ho : ops[i]? = some o) (hp : ps.contains i = false) (hw : Region.wanted o (yielded ops a.tmps) = false)
    (hS : i ∉ ls → S w) (h : wpTail P ops Q S ls ps rest (a.put o.dst undef) w) : wpTail P ops Q S ls ps (i :: rest) a w := by
  unfold wpTail
  rw [hp]
  simp only [Bool.false_eq_true, if_false]
  unfold wpOp
  rw [ho]
  simp only [hw, Bool.false_eq_true, if_false]
  exact ⟨hS, h⟩
theorem tail_pure {ps : List Nat} {i : Nat} {rest : List Nat} {a : Act} {w : World} {o : Oper} {v : Value} (ho : ops[i]? = some o) (hp : ps.contains i = true) (hw : Region.wanted o (yielded ops a.tmps) = true)
    (hv : ∀ W, (execOp a.eval o).run P W = .ok (.value v) W) (h : wpTail P ops Q S ls ps rest (a.put o.dst v) w) : wpTail P ops Q S ls ps (i :: rest) a w := by
  unfold wpTail
  rw [hp]
  simp only [if_true]
  exact ⟨o, v, ho, .inl ⟨hw, fun W _ => hv W⟩, h⟩
theorem tail_done {ps : List Nat} {a : Act} {w : World} (h : Q .normal a w) : wpTail P ops (NoPanic Q) S ls ps [] a w := h
end
end Go.Proofs.Ytcjohhminiedfaa
/- Slices that the call has made: append, told with where the new slice lies. -/
namespace Go.Proofs.Ytcjohhminiedfaa
open Go.RowKit
theorem wp_append_at {P : Program} {w : World} {o : Oper} {a : Act} {K : Act → World → Prop} {Q : Exit → Act → World → Prop} (s x : Operand) (t : TypeId)
    (ho : o.op = .call { callee := .builtin .append, args := #[s, x], argTypes := #[t, t] })
    (base : Nat) (e : TypeId) (i : TypeInfo) (z : Value) (size bytes : Nat) (ht : P.underlying t = some (.slice e)) (hi : P.info? e = some i) (hz : i.zero = some z)
    (hsize : i.size = size) (hby : i.bytes = bytes) (hzs : z.cells.size = size) (hsz : 0 < size)
    (v : Value) (n : Nat) (xs : List Value) (hs : a.eval s = v) (hown : w.ownsRow base e size v n xs)
    (ad : Addr) (m c : Nat) (news : List Value) (hx : a.eval x = .slice (some ad) m c) (hl : news.length = m * size) (hnews : ∀ j u, news[j]? = some u → w.cell? (ad.add j) = some u) (h1 : ∀ u ∈ news, u.oneCell' = true)
    (h63 : n + m ≤ maxLen) (hbytes : (n + m) * bytes ≤ 140737488355328) (hbase : base ≤ w.heap.size)
    (h : ∀ v' w', w'.ownsRow base e size v' (n + m) (xs ++ news) → w.grownBy w' v.ownBlock → (v'.ownBlock = v.ownBlock ∨ v'.ownBlock = some w.heap.size) → K (a.put o.dst v') w') : o.wp P a w K Q := by
  obtain ⟨v', w', hr, h2, h3, h4, h5⟩ := run_append_own_at (P := P) w base t o.type e i z size bytes ht hi hz hsize hby hzs hsz v n xs hown ad m c news hl hnews h1 h63 hbytes hbase
  unfold Oper.wp execOp
  simp only [ho, resolve, invoke, builtin, Sem.run_bind, Sem.run_pure, Result.andThen_ok, List.map_toArray, List.map_cons, List.map_nil, hs, hx, hr]
  exact h v' w' h2 h3 h5
theorem cells_new (w : World) (arr : Array Value) (t : TypeId) (j : Nat) (u : Value) (h : arr.toList[j]? = some u) : (w.alloc (.cells arr t)).cell? ((⟨w.heap.size, 0, none⟩ : Addr).add j) = some u := by
  have h' : arr[j]? = some u := by simpa using h
  have e : (⟨w.heap.size, 0, none⟩ : Addr).add j = ⟨w.heap.size, j, none⟩ := by
    by_cases hj : j = 0
    · subst hj; simp [Addr.add]
    · simp [Addr.add, hj]
  rw [e, cell_of_heap (heap_alloc_new w _)]
  exact h'
end Go.Proofs.Ytcjohhminiedfaa
/- A region that draws its order, walked in phases: in each phase some operations yield one value in every world of a class, then others come in one order. -/
namespace Go.Proofs.Ytcjohhminiedfaa
open Go.RowKit
section
variable {P : Program} {ops : Array Oper} {Q : Exit → Act → World → Prop}
def wpForced (P : Program) (ops : Array Oper) (Q : Exit → Act → World → Prop) (S : World → Prop) (ls : List Nat) (K : Act → World → Prop) : List Nat → Act → World → Prop
  | [], a, w => K a w
  | i :: rest, a, w => wpOp P ops Q i (fun a' w' => (i ∉ ls → S w') ∧ wpForced P ops Q S ls K rest a' w') a w
def wpMulti (P : Program) (ops : Array Oper) (Q : Exit → Act → World → Prop) : List (List Nat × List Nat × List Nat) → Act → World → Prop
  | [], a, w => Q .normal a w
  | ph :: rest, a, w => ∃ S : World → Prop, S w ∧ wpFirst P ops S (fun a' => wpForced P ops Q S ph.2.2 (wpMulti P ops Q rest) ph.2.1 a' w) ph.1 a
def listAll : List Nat → Array Bool → Array Bool
  | [], l => l
  | i :: is, l => listAll is (l.setIfInBounds i true)
def forcedB (ops : Array Oper) : List Nat → Array Bool → Bool
  | t :: ts, listed => (Region.ready .any ops listed == [t]) && forcedB ops ts (listed.setIfInBounds t true)
  | [], _ => true
def firstB (ops : Array Oper) (ls : List Nat) : List Nat → Array Bool → Bool
  | i :: fs, listed => Region.free .any ops listed i && (Region.ready .any ops listed).contains i && !ls.contains i && ls.all (predB ops i ops.size) && firstB ops ls fs (listed.setIfInBounds i true)
  | [], _ => true
/-- All that is left is in ls. -/
def leftB (ops : Array Oper) (ls : List Nat) (listed : Array Bool) : Bool := (List.range ops.size).all fun j => listed.getD j false || ls.contains j
def multiB (ops : Array Oper) : List (List Nat × List Nat × List Nat) → Array Bool → Bool
  | ph :: rest, listed => firstB ops ph.2.2 ph.1 listed && forcedB ops ph.2.1 (listAll ph.1 listed) && leftB ops ph.2.2 (listAll ph.2.1 (listAll ph.1 listed)) && multiB ops rest (listAll ph.2.1 (listAll ph.1 listed))
  | [], listed => (Region.ready .any ops listed).isEmpty

theorem wpAnyG_of_any {S : World → Prop} {ls : List Nat} : ∀ (fuel : Nat) (listed : Array Bool) (a : Act) (w : World), (∀ j, j < ops.size → listed.getD j false = true ∨ j ∈ ls) → wpAny P .any ops Q fuel listed a w → wpAnyG P ops Q S ls fuel listed a w
  | 0, _, _, _, _, h => h
  | fuel + 1, listed, a, w, hl, h => ⟨h.1, fun i hi => wpOp_mono (fun a' w' h' => ⟨fun hn => by
      exfalso
      obtain ⟨h0, o, ho, _⟩ := mem_ready.1 hi
      have hlt : i < ops.size := (Array.getElem?_eq_some_iff.1 ho).1
      rcases hl i hlt with h1 | h1
      · rcases Nat.lt_or_ge i listed.size with h' | h'
        · simp [h'] at h0 h1; rw [h0] at h1; cases h1
        · simp [Array.getElem?_eq_none h'] at h1
      · exact hn h1, wpAnyG_of_any fuel _ a' w' (fun j hj => (hl j hj).imp (fun h => getD_set_true h) id) h'⟩) (h.2 i hi)⟩

theorem wpAnyG_forced {S : World → Prop} {ls : List Nat} {K : Act → World → Prop} : ∀ (ts : List Nat) (fuel : Nat) (listed : Array Bool) (a : Act) (w : World), ts.length ≤ fuel → Closed ops listed → forcedB ops ts listed = true →
    (∀ fuel' a' w', fuel' + ts.length = fuel → Closed ops (listAll ts listed) → K a' w' → wpAnyG P ops Q S ls fuel' (listAll ts listed) a' w') → wpForced P ops Q S ls K ts a w → wpAnyG P ops Q S ls fuel listed a w
  | [], fuel, listed, a, w, _, hc, _, hK, h => hK fuel a w (by simp) hc h
  | t :: ts, 0, listed, a, w, hf, _, _, _, _ => by simp at hf
  | t :: ts, fuel + 1, listed, a, w, hf, hc, hB, hK, h => by
    simp only [forcedB, Bool.and_eq_true, beq_iff_eq] at hB
    have hr : t ∈ Region.ready .any ops listed := by rw [hB.1]; simp
    refine ⟨fun h0 => (by rw [hB.1] at h0; cases h0), fun i hi => ?_⟩
    rw [hB.1] at hi
    obtain rfl : i = t := by simpa using hi
    exact wpOp_mono (fun a' w' h' => ⟨h'.1, wpAnyG_forced ts fuel _ a' w' (by simp at hf; omega) (hc.set hr) hB.2 (fun f' a'' w'' he hc' hk => hK f' a'' w'' (by simp; omega) hc' hk) h'.2⟩) h

theorem wpAnyG_firsts {S : World → Prop} {ls : List Nat} {K : Act → Prop} (hsel : ∀ (j : Nat) (o : Oper) cs b, ops[j]? = some o → o.op ≠ .select cs b) (hQ : ∀ c a w d v, Q (.panic c) (a.put d v) w → Q (.panic c) a w) :
    ∀ (fs : List Nat) (fuel : Nat) (listed : Array Bool) (a : Act) (w : World), fs.length ≤ fuel → Closed ops listed → firstB ops ls fs listed = true → S w →
      (∀ fuel' a', fuel' + fs.length = fuel → Closed ops (listAll fs listed) → K a' → wpAnyG P ops Q S ls fuel' (listAll fs listed) a' w) → wpFirst P ops S K fs a → wpAnyG P ops Q S ls fuel listed a w
  | [], fuel, listed, a, w, _, hc, _, _, hK, h => hK fuel a (by simp) hc h
  | i :: fs, 0, listed, a, w, hf, _, _, _, _, _ => by simp at hf
  | i :: fs, fuel + 1, listed, a, w, hf, hcl, hB, hS, hK, h => by
    obtain ⟨o, v, ho, hy, hn⟩ := h
    simp only [firstB, Bool.and_eq_true] at hB
    obtain ⟨⟨⟨⟨h1, h2⟩, h3⟩, h4⟩, h5⟩ := hB
    have hr : i ∈ Region.ready .any ops listed := by simpa using h2
    exact wpAnyG_first ho hsel (fun c a w => hQ c a w _ _) (by simpa using h3) (fun j hj => List.all_eq_true.1 h4 j hj) fuel listed a w hcl (Region.free_spec ho h1) hr hy hS
      (wpAnyG_firsts hsel hQ fs fuel _ _ w (by simp at hf; omega) (hcl.set hr) h5 hS (fun f' a' he hc' hk => hK f' a' (by simp; omega) hc' hk) hn)

def phLen : List (List Nat × List Nat × List Nat) → Nat
  | [] => 0
  | ph :: rest => ph.1.length + ph.2.1.length + phLen rest

theorem wpAny_multi (hsel : ∀ (j : Nat) (o : Oper) cs b, ops[j]? = some o → o.op ≠ .select cs b) (hQ : ∀ c a w d v, Q (.panic c) (a.put d v) w → Q (.panic c) a w) :
    ∀ (phs : List (List Nat × List Nat × List Nat)) (fuel : Nat) (listed : Array Bool) (a : Act) (w : World), phLen phs ≤ fuel → Closed ops listed → multiB ops phs listed = true → wpMulti P ops Q phs a w → wpAny P .any ops Q fuel listed a w
  | [], 0, listed, a, w, _, _, hB, h => ⟨by simpa [multiB] using hB, h⟩
  | [], fuel + 1, listed, a, w, _, _, hB, h => ⟨fun _ => h, fun i hi => by
      have : Region.ready .any ops listed = [] := by simpa [multiB] using hB
      rw [this] at hi; cases hi⟩
  | ph :: rest, fuel, listed, a, w, hf, hcl, hB, h => by
    obtain ⟨S, hS, h⟩ := h
    simp only [multiB, Bool.and_eq_true] at hB
    obtain ⟨⟨⟨h1, h2⟩, h3⟩, h4⟩ := hB
    simp only [phLen] at hf
    refine wpAny_of_G (S := S) (ls := ph.2.2) _ _ _ _ (wpAnyG_firsts hsel hQ ph.1 fuel listed a w (by omega) hcl h1 hS ?_ h)
    intro f1 a1 he1 hc1 hk1
    refine wpAnyG_forced ph.2.1 f1 _ a1 w (by omega) hc1 h2 ?_ hk1
    intro f2 a2 w2 he2 hc2 hk2
    refine wpAnyG_of_any f2 _ a2 w2 (fun j hj => ?_) (wpAny_multi hsel hQ rest f2 _ a2 w2 (by omega) hc2 h4 hk2)
    have := List.all_eq_true.1 h3 j (List.mem_range.2 hj)
    simpa using this

theorem wp_region_multi {id : Nat} {a : Act} {w : World} (phs : List (List Nat × List Nat × List Nat)) (hm : P.follows .mixedOrders = true)
    (hB : (Region.noSelect ops && decide (phLen phs ≤ ops.size) && multiB ops phs (Array.replicate ops.size false)) = true)
    (h : wpMulti P ops (NoPanic Q) phs a w.drew) : (Code.region id ops true).wp P Q a w := by
  simp only [Bool.and_eq_true, decide_eq_true_eq] at hB
  exact wp_region_noPanic (wp_region_any hm (wpAny_multi (Region.noSelect_spec hB.1.1) (fun _ _ _ _ _ h => h) phs ops.size _ a _ hB.1.2 (closed_none _) hB.2 h))

theorem multi_phase {fs ts ls : List Nat} {rest : List (List Nat × List Nat × List Nat)} {a : Act} {w : World} (S : World → Prop) (hS : S w)
    (h : wpFirst P ops S (fun a' => wpForced P ops Q S ls (wpMulti P ops Q rest) ts a' w) fs a) : wpMulti P ops Q ((fs, ts, ls) :: rest) a w := ⟨S, hS, h⟩
theorem multi_done {a : Act} {w : World} (h : Q .normal a w) : wpMulti P ops (NoPanic Q) [] a w := h
theorem forced_done {S : World → Prop} {ls : List Nat} {K : Act → World → Prop} {a : Act} {w : World} (h : K a w) : wpForced P ops Q S ls K [] a w := h
theorem forced_step {S : World → Prop} {ls : List Nat} {K : Act → World → Prop} {i : Nat} {rest : List Nat} {a : Act} {w : World} {o : Oper} (ho : ops[i]? = some o) (hw : Region.wanted o (yielded ops a.tmps) = true)
    (h : ∀ K' : Act → World → Prop, (∀ a w, (i ∉ ls → S w) → wpForced P ops Q S ls K rest a w → K' a w) → o.wp P a w K' Q) : wpForced P ops Q S ls K (i :: rest) a w := by
  unfold wpForced wpOp
  rw [ho]
  simp only [hw, if_true]
  exact .inl (h _ fun a w h1 h2 => ⟨h1, h2⟩)
theorem forced_skip {S : World → Prop} {ls : List Nat} {K : Act → World → Prop} {i : Nat} {rest : List Nat} {a : Act} {w : World} {o : Oper} (ho : ops[i]? = some o) (hw : Region.wanted o (yielded ops a.tmps) = false)
    (hS : i ∉ ls → S w) (h : wpForced P ops Q S ls K rest (a.put o.dst undef) w) : wpForced P ops Q S ls K (i :: rest) a w := by
  unfold wpForced wpOp
  rw [ho]
  simp only [hw, Bool.false_eq_true, if_false]
  exact ⟨hS, h⟩
end
end Go.Proofs.Ytcjohhminiedfaa
/- Regions in phases, as in Multi, with a check that is quick for long regions: who comes ahead of whom is reckoned once, in masks. -/
namespace Go.Proofs.Ytcjohhminiedfaa
open Go.RowKit
section
variable {P : Program} {ops : Array Oper} {Q : Exit → Act → World → Prop} {S : World → Prop} {ls : List Nat}
/-- Number i comes ahead of number j. -/
inductive PredR (ops : Array Oper) (i : Nat) : Nat → Prop
  | direct {j : Nat} {oj : Oper} {e : Edge} (hj : ops[j]? = some oj) (he : e ∈ oj.after) (hb : Region.binds .any e = true) (h : e.on = i) : PredR ops i j
  | through {j : Nat} {oj : Oper} {e : Edge} (hj : ops[j]? = some oj) (he : e ∈ oj.after) (hb : Region.binds .any e = true) (h : PredR ops i e.on) : PredR ops i j
theorem predR_listed {listed : Array Bool} (hc : Closed ops listed) {i j : Nat} (h : PredR ops i j) : ∀ oj, ops[j]? = some oj → (∀ e ∈ oj.after, Region.binds .any e = true → listed.getD e.on false = true) → listed.getD i false = true := by
  induction h with
  | direct hj he hb h =>
    intro o ho hall
    rw [hj] at ho
    cases ho
    rw [← h]
    exact hall _ he hb
  | @through j oj e hj he hb h ih =>
    intro o ho hall
    rw [hj] at ho
    cases ho
    have hl := hall _ he hb
    cases ho : ops[e.on]? with
    | none =>
      exfalso
      cases h with
      | direct hj' => rw [ho] at hj'; cases hj'
      | through hj' => rw [ho] at hj'; cases hj'
    | some oe => exact ih oe ho (hc e.on oe ho hl)
def maskOf (o : Oper) (acc : List Nat) : Nat := o.after.toList.foldl (fun m e => if Region.binds .any e then m ||| (1 <<< e.on) ||| acc.getD e.on 0 else m) 0
def masksGo : List Oper → List Nat → List Nat
  | [], acc => acc
  | o :: os, acc => masksGo os (acc ++ [maskOf o acc])
def masks (ops : Array Oper) : List Nat := masksGo ops.toList []
theorem maskOf_bit {o : Oper} {acc : List Nat} {i : Nat} (h : (maskOf o acc).testBit i = true) : ∃ e ∈ o.after, Region.binds .any e = true ∧ (e.on = i ∨ (acc.getD e.on 0).testBit i = true) := by
  have key : ∀ (l : List Edge) (m : Nat), (l.foldl (fun m e => if Region.binds .any e then m ||| (1 <<< e.on) ||| acc.getD e.on 0 else m) m).testBit i = true → m.testBit i = true ∨ ∃ e ∈ l, Region.binds .any e = true ∧ (e.on = i ∨ (acc.getD e.on 0).testBit i = true) := by
    intro l
    induction l with
    | nil => intro m h; exact .inl h
    | cons e r ih =>
      intro m h
      rw [List.foldl_cons] at h
      rcases ih _ h with h1 | ⟨e', he', h1⟩
      · split at h1
        · rename_i hb
          simp only [Nat.testBit_or, Bool.or_eq_true] at h1
          rcases h1 with (h1 | h1) | h1
          · exact .inl h1
          · refine .inr ⟨e, by simp, hb, .inl ?_⟩
            rw [Nat.one_shiftLeft, Nat.testBit_two_pow] at h1
            simpa using h1
          · exact .inr ⟨e, by simp, hb, .inr h1⟩
        · exact .inl h1
      · exact .inr ⟨e', List.mem_cons_of_mem _ he', h1⟩
  rcases key _ 0 h with h1 | ⟨e, he, h1⟩
  · simp at h1
  · exact ⟨e, by simpa using he, h1⟩
theorem masksGo_pred : ∀ (os : List Oper) (acc : List Nat), (∀ k o, os[k]? = some o → ops[acc.length + k]? = some o) → (∀ j i, (acc.getD j 0).testBit i = true → PredR ops i j) → ∀ j i, ((masksGo os acc).getD j 0).testBit i = true → PredR ops i j
  | [], acc, _, ha, j, i, h => ha j i h
  | o :: os, acc, ho, ha, j, i, h => by
    refine masksGo_pred os (acc ++ [maskOf o acc]) (fun k o' hk => ?_) (fun j' i' h' => ?_) j i h
    · have := ho (k + 1) o' (by simpa using hk)
      rw [List.length_append, List.length_singleton]
      rwa [Nat.add_assoc, Nat.add_comm 1 k]
    · by_cases hj : j' < acc.length
      · refine ha j' i' ?_
        rw [List.getD_eq_getElem?_getD, List.getElem?_append_left hj, ← List.getD_eq_getElem?_getD] at h'
        exact h'
      · by_cases hj2 : j' = acc.length
        · subst hj2
          rw [List.getD_eq_getElem?_getD, List.getElem?_append_right (Nat.le_refl _)] at h'
          simp at h'
          obtain ⟨e, he, hb, h1⟩ := maskOf_bit h'
          have hoj := ho 0 o (by simp)
          rw [Nat.add_zero] at hoj
          rcases h1 with h1 | h1
          · exact .direct hoj he hb h1
          · exact .through hoj he hb (ha _ _ h1)
        · rw [List.getD_eq_getElem?_getD, List.getElem?_eq_none (by simp; omega)] at h'
          simp at h'
theorem masks_pred {i j : Nat} (h : ((masks ops).getD j 0).testBit i = true) : PredR ops i j :=
  masksGo_pred ops.toList [] (fun k o hk => by simpa using hk) (fun j i h => by simp at h) j i h
def firstR (ops : Array Oper) (ms : List Nat) (ls : List Nat) : List Nat → Array Bool → Bool
  | i :: fs, listed => Region.free .any ops listed i && (Region.ready .any ops listed).contains i && !ls.contains i && ls.all (fun j => (ms.getD j 0).testBit i) && firstR ops ms ls fs (listed.setIfInBounds i true)
  | [], _ => true
def multiR (ops : Array Oper) (ms : List Nat) : List (List Nat × List Nat × List Nat) → Array Bool → Bool
  | ph :: rest, listed => firstR ops ms ph.2.2 ph.1 listed && forcedB ops ph.2.1 (listAll ph.1 listed) && leftB ops ph.2.2 (listAll ph.2.1 (listAll ph.1 listed)) && multiR ops ms rest (listAll ph.2.1 (listAll ph.1 listed))
  | [], listed => (Region.ready .any ops listed).isEmpty
theorem wpAnyG_firstR {i : Nat} {oi : Oper} {v : Value} (hi : ops[i]? = some oi) (hsel : ∀ (j : Nat) (o : Oper) cs b, ops[j]? = some o → o.op ≠ .select cs b)
    (hQ : ∀ c a w, Q (.panic c) (a.put oi.dst v) w → Q (.panic c) a w) (hil : i ∉ ls) (hneed : ∀ j ∈ ls, PredR ops i j) :
    ∀ (fuel : Nat) (listed : Array Bool) (a : Act) (w : World), Closed ops listed →
      (∀ j oj, ops[j]? = some oj → j ≠ i → listed.getD j true = false → (∀ e ∈ oj.after, Region.binds .any e = true → e.on ≠ i) → oi.apart ops oj = true) →
      i ∈ Region.ready .any ops listed → YieldsIf P ops S oi v a → S w →
      wpAnyG P ops Q S ls fuel (listed.setIfInBounds i true) (a.put oi.dst v) w → wpAnyG P ops Q S ls (fuel + 1) listed a w := by
  intro fuel
  induction fuel with
  | zero =>
    intro listed a w _ _ hr hy hS H
    refine ⟨fun h => (by rw [h] at hr; cases hr), fun j hj => ?_⟩
    by_cases hji : j = i
    · subst hji; exact hy.wpOp hi hS ⟨fun _ => hS, H⟩
    · have := ready_mono hj hji
      rw [H.1] at this
      cases this
  | succ fuel ih =>
    intro listed a w hcl hfree hr hy hS H
    refine ⟨fun h => (by rw [h] at hr; cases hr), fun j hj => ?_⟩
    by_cases hji : j = i
    · subst hji; exact hy.wpOp hi hS ⟨fun _ => hS, H⟩
    · have h1 := H.2 j (ready_mono hj hji)
      obtain ⟨hjun, oj, hoj, hall⟩ := mem_ready.1 hj
      have hiun : listed.getD i false = false := by
        have h0 := (mem_ready.1 hr).1
        rcases Nat.lt_or_ge i listed.size with h' | h'
        · simp [h'] at h0 ⊢; exact h0
        · simp [Array.getElem?_eq_none h'] at h0
      have hjl : j ∉ ls := fun hm => by
        have := predR_listed hcl (hneed j hm) oj hoj hall
        rw [hiun] at this
        cases this
      have hnot : ∀ e ∈ oj.after, Region.binds .any e = true → e.on ≠ i := fun e he hb heq => by
        have h1 := hall e he hb
        rw [heq, hiun] at h1
        cases h1
      have h2 := wpOp_putIf hoj (hfree j oj hoj hji hjun hnot) (fun cs b => hsel i oi cs b hi) (fun cs b => hsel j oj cs b hoj) hQ hy h1
      have hfree' : ∀ k ok, ops[k]? = some ok → k ≠ i → (listed.setIfInBounds j true).getD k true = false →
          (∀ e ∈ ok.after, Region.binds .any e = true → e.on ≠ i) → oi.apart ops ok = true := fun k ok hk hki hun hno => by
        refine hfree k ok hk hki ?_ hno
        by_cases hjk : j = k
        · subst hjk; exact hjun
        · rw [getD_set_ne true hjk] at hun; exact hun
      refine wpOp_mono (fun a' w' h3 => ?_) h2
      obtain ⟨hy3, hS3, H3⟩ := h3
      refine ⟨hS3, ih (listed.setIfInBounds j true) a' w' (hcl.set hj) hfree' (ready_mono hr (Ne.symm hji)) hy3 (hS3 hjl) ?_⟩
      rw [Array.setIfInBounds_comm _ _ hji]
      exact H3

theorem wpAnyG_firstsR {S : World → Prop} {ls : List Nat} {K : Act → Prop} (hsel : ∀ (j : Nat) (o : Oper) cs b, ops[j]? = some o → o.op ≠ .select cs b) (hQ : ∀ c a w d v, Q (.panic c) (a.put d v) w → Q (.panic c) a w) :
    ∀ (fs : List Nat) (fuel : Nat) (listed : Array Bool) (a : Act) (w : World), fs.length ≤ fuel → Closed ops listed → firstR ops (masks ops) ls fs listed = true → S w →
      (∀ fuel' a', fuel' + fs.length = fuel → Closed ops (listAll fs listed) → K a' → wpAnyG P ops Q S ls fuel' (listAll fs listed) a' w) → wpFirst P ops S K fs a → wpAnyG P ops Q S ls fuel listed a w
  | [], fuel, listed, a, w, _, hc, _, _, hK, h => hK fuel a (by simp) hc h
  | i :: fs, 0, listed, a, w, hf, _, _, _, _, _ => by simp at hf
  | i :: fs, fuel + 1, listed, a, w, hf, hcl, hB, hS, hK, h => by
    obtain ⟨o, v, ho, hy, hn⟩ := h
    simp only [firstR, Bool.and_eq_true] at hB
    obtain ⟨⟨⟨⟨h1, h2⟩, h3⟩, h4⟩, h5⟩ := hB
    have hr : i ∈ Region.ready .any ops listed := by simpa using h2
    exact wpAnyG_firstR ho hsel (fun c a w => hQ c a w _ _) (by simpa using h3) (fun j hj => masks_pred (List.all_eq_true.1 h4 j hj)) fuel listed a w hcl (Region.free_spec ho h1) hr hy hS
      (wpAnyG_firstsR hsel hQ fs fuel _ _ w (by simp at hf; omega) (hcl.set hr) h5 hS (fun f' a' he hc' hk => hK f' a' (by simp; omega) hc' hk) hn)

theorem wpAny_multiR (hsel : ∀ (j : Nat) (o : Oper) cs b, ops[j]? = some o → o.op ≠ .select cs b) (hQ : ∀ c a w d v, Q (.panic c) (a.put d v) w → Q (.panic c) a w) :
    ∀ (phs : List (List Nat × List Nat × List Nat)) (fuel : Nat) (listed : Array Bool) (a : Act) (w : World), phLen phs ≤ fuel → Closed ops listed → multiR ops (masks ops) phs listed = true → wpMulti P ops Q phs a w → wpAny P .any ops Q fuel listed a w
  | [], 0, listed, a, w, _, _, hB, h => ⟨by simpa [multiR] using hB, h⟩
  | [], fuel + 1, listed, a, w, _, _, hB, h => ⟨fun _ => h, fun i hi => by
      have : Region.ready .any ops listed = [] := by simpa [multiR] using hB
      rw [this] at hi; cases hi⟩
  | ph :: rest, fuel, listed, a, w, hf, hcl, hB, h => by
    obtain ⟨S, hS, h⟩ := h
    simp only [multiR, Bool.and_eq_true] at hB
    obtain ⟨⟨⟨h1, h2⟩, h3⟩, h4⟩ := hB
    simp only [phLen] at hf
    refine wpAny_of_G (S := S) (ls := ph.2.2) _ _ _ _ (wpAnyG_firstsR hsel hQ ph.1 fuel listed a w (by omega) hcl h1 hS ?_ h)
    intro f1 a1 he1 hc1 hk1
    refine wpAnyG_forced ph.2.1 f1 _ a1 w (by omega) hc1 h2 ?_ hk1
    intro f2 a2 w2 he2 hc2 hk2
    refine wpAnyG_of_any f2 _ a2 w2 (fun j hj => ?_) (wpAny_multiR hsel hQ rest f2 _ a2 w2 (by omega) hc2 h4 hk2)
    have := List.all_eq_true.1 h3 j (List.mem_range.2 hj)
    simpa using this

theorem wp_region_multiR {id : Nat} {a : Act} {w : World} (phs : List (List Nat × List Nat × List Nat)) (hm : P.follows .mixedOrders = true)
    (hB : (Region.noSelect ops && decide (phLen phs ≤ ops.size) && multiR ops (masks ops) phs (Array.replicate ops.size false)) = true)
    (h : wpMulti P ops (NoPanic Q) phs a w.drew) : (Code.region id ops true).wp P Q a w := by
  simp only [Bool.and_eq_true, decide_eq_true_eq] at hB
  exact wp_region_noPanic (wp_region_any hm (wpAny_multiR (Region.noSelect_spec hB.1.1) (fun _ _ _ _ _ h => h) phs ops.size _ a _ hB.1.2 (closed_none _) hB.2 h))

end
end Go.Proofs.Ytcjohhminiedfaa
/- A region that draws its order, walked by what holds between its operations; blocks that are laid in whatever order. -/
namespace Go.Proofs.Ytcjohhminiedfaa
open Go.RowKit
section
variable {P : Program} {ops : Array Oper} {Q : Exit → Act → World → Prop}
theorem count_done {l : List Bool} {i : Nat} (h : l[i]? = some false) : (l.set i true).count false + 1 = l.count false := by
  induction l generalizing i with
  | nil => simp at h
  | cons a r ih =>
    cases i with
    | zero =>
      simp at h
      subst h
      simp
    | succ i =>
      simp only [List.getElem?_cons_succ] at h
      have := ih h
      simp only [List.set_cons_succ, List.count_cons]
      omega
theorem ready_false {listed : Array Bool} {i : Nat} (h : i ∈ Region.ready .any ops listed) : listed.toList[i]? = some false := by
  have h0 := (mem_ready.1 h).1
  rcases Nat.lt_or_ge i listed.size with h' | h'
  · simp [h'] at h0 ⊢; exact h0
  · simp [Array.getElem?_eq_none h'] at h0
theorem wpAnyG_inv {S : World → Prop} {ls : List Nat} (hS : ∀ W, S W) (I : Array Bool → Act → World → Prop)
    (hstep : ∀ listed a w i, I listed a w → i ∈ Region.ready .any ops listed → wpOp P ops Q i (fun a' w' => I (listed.setIfInBounds i true) a' w') a w)
    (hend : ∀ listed a w, I listed a w → Region.ready .any ops listed = [] → Q .normal a w) : ∀ (fuel : Nat) (listed : Array Bool) (a : Act) (w : World), listed.toList.count false ≤ fuel → I listed a w → wpAnyG P ops Q S ls fuel listed a w := by
  intro fuel
  induction fuel with
  | zero =>
    intro listed a w hc hI
    have hr : Region.ready .any ops listed = [] := by
      cases hr : Region.ready .any ops listed with
      | nil => rfl
      | cons i r =>
        have h1 := ready_false (ops := ops) (listed := listed) (i := i) (by rw [hr]; simp)
        have := count_done h1
        omega
    exact ⟨hr, hend _ _ _ hI hr⟩
  | succ fuel ih =>
    intro listed a w hc hI
    refine ⟨fun hr => hend _ _ _ hI hr, fun i hi => ?_⟩
    have h1 := count_done (ready_false hi)
    refine wpOp_mono (fun a' w' h' => ⟨fun _ => hS _, ih _ a' w' ?_ h'⟩) (hstep listed a w i hI hi)
    simp only [Array.toList_setIfInBounds]
    omega
def invB (ops : Array Oper) (fs : List Nat) : Bool :=
  Region.noSelect ops && decide (fs.length ≤ ops.size) && firstR ops (masks ops) [] fs (Array.replicate ops.size false) && decide ((listAll fs (Array.replicate ops.size false)).toList.count false + fs.length ≤ ops.size)
theorem wp_region_inv {id : Nat} {a : Act} {w : World} (fs : List Nat) (I : Array Bool → Act → World → Prop) (hm : P.follows .mixedOrders = true) (hB : invB ops fs = true)
    (h0 : wpFirst P ops (fun _ => True) (fun a' => I (listAll fs (Array.replicate ops.size false)) a' w.drew) fs a)
    (hstep : ∀ listed a w i, I listed a w → i ∈ Region.ready .any ops listed → wpOp P ops (NoPanic Q) i (fun a' w' => I (listed.setIfInBounds i true) a' w') a w)
    (hend : ∀ listed a w, I listed a w → Region.ready .any ops listed = [] → Q .normal a w) : (Code.region id ops true).wp P Q a w := by
  simp only [invB, Bool.and_eq_true, decide_eq_true_eq] at hB
  obtain ⟨⟨⟨b1, b2⟩, b3⟩, b4⟩ := hB
  refine wp_region_noPanic (wp_region_any hm (wpAny_of_G (S := fun _ => True) (ls := []) _ _ _ _ (wpAnyG_firstsR (Region.noSelect_spec b1) (fun _ _ _ _ _ h => h) fs ops.size _ a _ (by omega) (closed_none _) b3 trivial ?_ h0)))
  intro f1 a1 he1 hc1 hk1
  exact wpAnyG_inv (fun _ => trivial) I hstep (fun l a w h1 h2 => hend l a w h1 h2) f1 _ a1 _ (by omega) hk1
theorem inv_step {i : Nat} {a : Act} {w : World} {o : Oper} {K0 : Act → World → Prop} (ho : ops[i]? = some o) (hw : Region.wanted o (yielded ops a.tmps) = true)
    (h : ∀ K : Act → World → Prop, (∀ a w, K0 a w → K a w) → o.wp P a w K Q) : wpOp P ops Q i K0 a w := by
  unfold wpOp
  rw [ho]
  simp only [hw, if_true]
  exact .inl (h _ fun a w h1 => h1)
/-- Where nothing is ready all is listed. -/
theorem all_listed (hf : (List.range ops.size).all (fun j => match ops[j]? with | some o => o.after.all (fun e => decide (e.on < j)) | none => true) = true) {listed : Array Bool} (hs : listed.size = ops.size) (hr : Region.ready .any ops listed = []) : ∀ j, j < ops.size → listed.getD j false = true := by
  intro j
  induction j using Nat.strongRecOn with
  | ind j ih =>
    intro hj
    have hjl : j < listed.size := by omega
    cases hb : listed[j] with
    | true => simp [hjl, hb]
    | false =>
      exfalso
      have ho : ops[j]? = some ops[j] := Array.getElem?_eq_getElem hj
      have h1 := List.all_eq_true.1 hf j (by simp; exact hj)
      rw [ho] at h1
      have hm : j ∈ Region.ready .any ops listed := mem_ready.2 ⟨by simp [hjl, hb], ops[j], ho, fun e he _ => by
        have := Array.all_eq_true'.1 h1 e he
        simp only [decide_eq_true_eq] at this
        exact ih e.on this (by omega)⟩
      rw [hr] at hm
      cases hm
def depB (ops : Array Oper) (i j : Nat) : Bool := match ops[i]? with | some o => o.after.any (fun e => e.on == j && Region.binds .any e) | none => false
theorem dep_listed {listed : Array Bool} {i j : Nat} (hB : depB ops i j = true) (h : i ∈ Region.ready .any ops listed) : listed.getD j false = true := by
  obtain ⟨_, o, ho, hall⟩ := mem_ready.1 h
  unfold depB at hB
  rw [ho] at hB
  obtain ⟨e, he, h1⟩ := Array.any_eq_true'.1 hB
  simp only [Bool.and_eq_true, beq_iff_eq] at h1
  rw [← h1.1]
  exact hall e he h1.2
theorem ready_not {listed : Array Bool} {i : Nat} (h : i ∈ Region.ready .any ops listed) (hl : listed.getD i false = true) : False := by
  have h1 := ready_false h
  simp at h1
  simp [h1] at hl
theorem ready_lt {listed : Array Bool} {i : Nat} (h : i ∈ Region.ready .any ops listed) : i < ops.size := by
  obtain ⟨_, o, ho, _⟩ := mem_ready.1 h
  exact (Array.getElem?_eq_some_iff.1 ho).1
end
/-! ### blocks laid in whatever order -/
/-- Of the tags T those that are listed have their block b, their value v, and the block holds what obj says. -/
structure Slots (T : Nat → Prop) (val : Nat → Nat → Value) (obj : Array Bool → (Nat → Value) → Nat → Obj) (w0 : World) (listed : Array Bool) (b : Nat → Nat) (v : Nat → Value) (w : World) : Prop where
  bel : Below w0.heap.size w0 w
  inj : ∀ i j, T i → T j → listed.getD i false = true → listed.getD j false = true → b i = b j → i = j
  at' : ∀ i, T i → listed.getD i false = true → w0.heap.size ≤ b i ∧ v i = val i (b i) ∧ w.heap[b i]? = some (obj listed v i)
section
variable {T : Nat → Prop} {val : Nat → Nat → Value} {obj : Array Bool → (Nat → Value) → Nat → Obj} {w0 w : World} {listed : Array Bool} {b : Nat → Nat} {v : Nat → Value}
theorem getD_set_of {t i : Nat} (h : (listed.setIfInBounds t true).getD i false = true) : i = t ∨ listed.getD i false = true := by
  by_cases hit : t = i
  · exact .inl hit.symm
  · rw [getD_set_ne false hit] at h
    exact .inr h
theorem Slots.alloc (h : Slots T val obj w0 listed b v w) {t : Nat} (hn : listed.toList[t]? = some false) {o : Obj} (ho : obj (listed.setIfInBounds t true) (fun i => if i = t then val t w.heap.size else v i) t = o)
    (hob : ∀ i, i ≠ t → T i → listed.getD i false = true → obj (listed.setIfInBounds t true) (fun i => if i = t then val t w.heap.size else v i) i = obj listed v i) :
    Slots T val obj w0 (listed.setIfInBounds t true) (fun i => if i = t then w.heap.size else b i) (fun i => if i = t then val t w.heap.size else v i) (w.alloc o) := by
  have hno : listed.getD t false = false := by simp at hn; simp [hn]
  have lt : ∀ i, T i → listed.getD i false = true → b i < w.heap.size := fun i h1 h2 => lt_of_heap (h.at' i h1 h2).2.2
  refine ⟨h.bel.alloc h.bel.size _, fun i j hi hj li lj e => ?_, fun i hi li => ?_⟩
  · rcases getD_set_of li with rfl | li'
    · rcases getD_set_of lj with rfl | lj'
      · rfl
      · by_cases hji : j = i
        · exact hji.symm
        · simp only [if_true, if_neg hji] at e
          have := lt j hj lj'
          omega
    · by_cases hit : i = t
      · subst hit
        rw [hno] at li'
        cases li'
      · simp only [if_neg hit] at e
        rcases getD_set_of lj with rfl | lj'
        · simp only [if_true] at e
          have := lt i hi li'
          omega
        · by_cases hjt : j = t
          · subst hjt
            rw [hno] at lj'
            cases lj'
          · simp only [if_neg hjt] at e
            exact h.inj i j hi hj li' lj' e
  · by_cases hit : i = t
    · subst hit
      simp only [if_true]
      exact ⟨h.bel.size, trivial, by rw [ho]; exact heap_alloc_new _ _⟩
    · rcases getD_set_of li with rfl | li'
      · exact absurd rfl hit
      · obtain ⟨h1, h2, h3⟩ := h.at' i hi li'
        simp only [if_neg hit]
        exact ⟨h1, h2, by rw [hob i hit hi li']; exact heap_alloc_old h3 _⟩
/-- A store into the block of t, by operation q, which lays nothing. -/
theorem Slots.store (h : Slots T val obj w0 listed b v w) {t q : Nat} (ht : T t) (hq : ¬ T q) (hl : listed.getD t false = true) {p : Addr} (hp : p.block = b t) {u : Value} (ho : (w.setCell p u).heap[b t]? = some (obj (listed.setIfInBounds q true) v t))
    (hob : ∀ i, i ≠ t → T i → listed.getD i false = true → obj (listed.setIfInBounds q true) v i = obj listed v i) :
    Slots T val obj w0 (listed.setIfInBounds q true) b v (w.setCell p u) := by
  have hK : w0.heap.size ≤ p.block := by rw [hp]; exact (h.at' t ht hl).1
  have on : ∀ i, T i → (listed.setIfInBounds q true).getD i false = true → listed.getD i false = true := fun i hi li => by
    rcases getD_set_of li with rfl | li'
    · exact absurd hi hq
    · exact li'
  refine ⟨h.bel.setCell hK _, fun i j hi hj li lj e => h.inj i j hi hj (on i hi li) (on j hj lj) e, fun i hi li => ?_⟩
  obtain ⟨h1, h2, h3⟩ := h.at' i hi (on i hi li)
  refine ⟨h1, h2, ?_⟩
  by_cases hit : i = t
  · subst hit
    exact ho
  · rw [hob i hit hi (on i hi li), Below.heap_setCell _ _ _ _ (fun e => hit (h.inj i t hi ht (on i hi li) hl (e.trans hp)))]
    exact h3
end
end Go.Proofs.Ytcjohhminiedfaa
/- A region that draws its order, where behind the quiet operations two may come first. -/
namespace Go.Proofs.Ytcjohhminiedfaa
open Go.RowKit
section
variable {P : Program} {ops : Array Oper} {Q : Exit → Act → World → Prop}
theorem wpAnyG_two {S : World → Prop} {ls : List Nat} {K : Act → World → Prop} (t u : Nat) (ts us : List Nat) (fuel : Nat) (listed : Array Bool) (a : Act) (w : World) (hf : ts.length + 1 ≤ fuel) (hf' : us.length + 1 ≤ fuel)
    (hc : Closed ops listed) (hr : Region.ready .any ops listed = [t, u]) (hT : forcedB ops ts (listed.setIfInBounds t true) = true) (hU : forcedB ops us (listed.setIfInBounds u true) = true)
    (hKT : ∀ fuel' a' w', K a' w' → wpAnyG P ops Q S ls fuel' (listAll ts (listed.setIfInBounds t true)) a' w')
    (hKU : ∀ fuel' a' w', K a' w' → wpAnyG P ops Q S ls fuel' (listAll us (listed.setIfInBounds u true)) a' w')
    (h1 : wpForced P ops Q S ls K (t :: ts) a w) (h2 : wpForced P ops Q S ls K (u :: us) a w) : wpAnyG P ops Q S ls fuel listed a w := by
  cases fuel with
  | zero => omega
  | succ fuel =>
    have ht : t ∈ Region.ready .any ops listed := by rw [hr]; simp
    have hu : u ∈ Region.ready .any ops listed := by rw [hr]; simp
    refine ⟨fun h0 => (by rw [hr] at h0; cases h0), fun i hi => ?_⟩
    rw [hr] at hi
    rcases (by simpa using hi : i = t ∨ i = u) with rfl | rfl
    · exact wpOp_mono (fun a' w' h' => ⟨h'.1, wpAnyG_forced ts fuel _ a' w' (by omega) (hc.set ht) hT (fun f' a'' w'' _ _ hk => hKT f' a'' w'' hk) h'.2⟩) h1
    · exact wpOp_mono (fun a' w' h' => ⟨h'.1, wpAnyG_forced us fuel _ a' w' (by omega) (hc.set hu) hU (fun f' a'' w'' _ _ hk => hKU f' a'' w'' hk) h'.2⟩) h2
theorem wpAnyG_end {S : World → Prop} {ls : List Nat} (fuel : Nat) (listed : Array Bool) (a : Act) (w : World) (hr : (Region.ready .any ops listed).isEmpty = true) (h : Q .normal a w) : wpAnyG P ops Q S ls fuel listed a w := by
  have hr' : Region.ready .any ops listed = [] := by simpa using hr
  cases fuel with
  | zero => exact ⟨hr', h⟩
  | succ fuel => exact ⟨fun _ => h, fun i hi => by rw [hr'] at hi; cases hi⟩
def twoB (ops : Array Oper) (fs ls : List Nat) (t u : Nat) (ts us : List Nat) : Bool :=
  Region.noSelect ops && decide (fs.length + ts.length + 1 ≤ ops.size) && decide (fs.length + us.length + 1 ≤ ops.size) && firstR ops (masks ops) ls fs (Array.replicate ops.size false) &&
  (Region.ready .any ops (listAll fs (Array.replicate ops.size false)) == [t, u]) && forcedB ops ts ((listAll fs (Array.replicate ops.size false)).setIfInBounds t true) && forcedB ops us ((listAll fs (Array.replicate ops.size false)).setIfInBounds u true) &&
  (Region.ready .any ops (listAll ts ((listAll fs (Array.replicate ops.size false)).setIfInBounds t true))).isEmpty && (Region.ready .any ops (listAll us ((listAll fs (Array.replicate ops.size false)).setIfInBounds u true))).isEmpty
/-- First all of fs, which are quiet under S; then t and ts, or u and us. -/
theorem wp_region_two {id : Nat} {a : Act} {w : World} (fs ls : List Nat) (t u : Nat) (ts us : List Nat) (S : World → Prop) (hm : P.follows .mixedOrders = true) (hB : twoB ops fs ls t u ts us = true) (hS : S w.drew)
    (h : wpFirst P ops S (fun a' => wpForced P ops (NoPanic Q) S ls (fun a w => NoPanic Q .normal a w) (t :: ts) a' w.drew ∧ wpForced P ops (NoPanic Q) S ls (fun a w => NoPanic Q .normal a w) (u :: us) a' w.drew) fs a) : (Code.region id ops true).wp P Q a w := by
  simp only [twoB, Bool.and_eq_true, decide_eq_true_eq, beq_iff_eq] at hB
  obtain ⟨⟨⟨⟨⟨⟨⟨⟨b1, b2⟩, b3⟩, b4⟩, b5⟩, b6⟩, b7⟩, b8⟩, b9⟩ := hB
  refine wp_region_noPanic (wp_region_any hm (wpAny_of_G (S := S) (ls := ls) _ _ _ _ (wpAnyG_firstsR (Region.noSelect_spec b1) (fun _ _ _ _ _ h => h) fs ops.size _ a _ (by omega) (closed_none _) b4 hS ?_ h)))
  intro f1 a1 he1 hc1 hk1
  exact wpAnyG_two t u ts us f1 _ a1 _ (by omega) (by omega) hc1 b5 b6 b7 (fun f' a' w' hk => wpAnyG_end f' _ a' w' b8 hk) (fun f' a' w' hk => wpAnyG_end f' _ a' w' b9 hk) hk1.1 hk1.2
theorem two_done {a : Act} {w : World} (h : Q .normal a w) : NoPanic Q .normal a w := h
end
end Go.Proofs.Ytcjohhminiedfaa
