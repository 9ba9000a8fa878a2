/- Plain tools over whatever program: which blocks a call may change (Fr), maps as lists of pairs (MapIs), and what a lookup and a store in such a map do. -/
import Derived.WalkKit
import Derived.Carry
import Derived.Deep.QuietTactic
import Derived.BigQuiet
import Derived.Outline
import Derived.WideKeyRuns
import Derived.MapKept
import Derived.Lib.Hide
import Derived.Deep.Light
import Derived.Handy
import Derived.Maps.RangeWalk
namespace Go.Proofs.Ytcjohhminiedfaa
open Go.RowKit

/-! ### what may have changed -/
/-- Of the blocks that were there only those in S may have changed. -/
structure Fr (S : Nat → Prop) (w w' : World) : Prop where
  os : w'.os = w.os
  tape : w'.tape = w.tape
  output : w'.output = w.output
  size : w.heap.size ≤ w'.heap.size
  block : ∀ k, k < w.heap.size → ¬ S k → w'.heap[k]? = w.heap[k]?

theorem Fr.refl (S : Nat → Prop) (w : World) : Fr S w w := ⟨rfl, rfl, rfl, Nat.le_refl _, fun _ _ _ => rfl⟩
theorem Fr.mono {S S' : Nat → Prop} {w w' : World} (h : Fr S w w') (hs : ∀ k, k < w.heap.size → S k → S' k) : Fr S' w w' :=
  ⟨h.os, h.tape, h.output, h.size, fun k hk hn => h.block k hk (fun hS => hn (hs k hk hS))⟩
theorem Fr.trans {S S' : Nat → Prop} {a b c : World} (h : Fr S a b) (k : Fr S' b c) (hs : ∀ i, i < a.heap.size → S' i → S i) : Fr S a c :=
  ⟨k.os.trans h.os, k.tape.trans h.tape, k.output.trans h.output, Nat.le_trans h.size k.size, fun i hi hn => (k.block i (Nat.lt_of_lt_of_le hi h.size) (fun h' => hn (hs i hi h'))).trans (h.block i hi hn)⟩
theorem Fr.of_below {S : Nat → Prop} {w w' : World} (h : Below w.heap.size w w') : Fr S w w' := ⟨h.os, h.tape, h.output, h.size, fun k hk _ => h.block k hk⟩
theorem Fr.below {S : Nat → Prop} {B : Nat} {w w' : World} (h : Fr S w w') (hB : B ≤ w.heap.size) (hS : ∀ k, S k → B ≤ k) : Below B w w' :=
  ⟨h.os, h.tape, h.output, h.size, fun k hk => h.block k (Nat.lt_of_lt_of_le hk hB) (fun h' => by have := hS k h'; omega)⟩
theorem Fr.none {w w' : World} (h : Fr (fun _ => False) w w') : Below w.heap.size w w' := h.below (Nat.le_refl _) (fun _ h => h.elim)
theorem below_drewN (w : World) (n : Nat) (B : Nat) : Below B w (w.drewN n) := ⟨rfl, rfl, rfl, Nat.le_refl _, fun _ _ => rfl⟩
theorem heap_drewN (w : World) (n : Nat) : (w.drewN n).heap = w.heap := rfl
theorem heap_drew (w : World) : w.drew.heap = w.heap := rfl
theorem heap_alloc (w : World) (o : Obj) : (w.alloc o).heap = w.heap.push o := rfl
theorem le_alloc {B : Nat} {w : World} {o : Obj} (h : B ≤ w.heap.size) : B ≤ (w.alloc o).heap.size := by rw [World.size_alloc]; omega
theorem le_setCell {B : Nat} {w : World} {a : Addr} {v : Value} (h : B ≤ w.heap.size) : B ≤ (w.setCell a v).heap.size := by rw [World.size_setCell]; exact h
theorem le_drew {B : Nat} {w : World} (h : B ≤ w.heap.size) : B ≤ w.drew.heap.size := h
theorem le_drewN {B : Nat} {w : World} {n : Nat} (h : B ≤ w.heap.size) : B ≤ (w.drewN n).heap.size := h
theorem heap_drew_old {w : World} {b : Nat} {x : Option Obj} (h : w.heap[b]? = x) : w.drew.heap[b]? = x := h
theorem heap_drewN_old {w : World} {b n : Nat} {x : Option Obj} (h : w.heap[b]? = x) : (w.drewN n).heap[b]? = x := h
theorem heap_alloc_at {w : World} {b : Nat} (hb : b = w.heap.size) (o : Obj) : (w.alloc o).heap[b]? = some o := by
  subst hb
  show (w.heap.push o)[w.heap.size]? = _
  simp
theorem belowN {B : Nat} {a w : World} (h : Below B a w) (n : Nat) : Below B a (w.drewN n) := h.trans (below_drewN w n B)
theorem below_alloc (w : World) (o : Obj) (B : Nat) (hB : B ≤ w.heap.size) : Below B w (w.alloc o) := (Below.refl B w).alloc hB o
theorem Fr.setCell (w : World) (p : Addr) (v : Value) : Fr (fun b => b = p.block) w (w.setCell p v) :=
  ⟨rfl, rfl, rfl, by simp [World.setCell], fun k _ hn => Below.heap_setCell _ _ _ _ hn⟩
theorem Fr.grown {w w' : World} {row : Option Nat} (hg : w.grownBy w' row) : Fr (fun b => some b = row) w w' :=
  ⟨hg.os, hg.tape, hg.output, hg.size, fun k hk hn => hg.block k hk hn⟩

theorem lt_of_heap {w : World} {b : Nat} {o : Obj} (h : w.heap[b]? = some o) : b < w.heap.size := (Array.getElem?_eq_some_iff.1 h).1
theorem cell_of_heap {w : World} {b : Nat} {cs : Array Value} {t : TypeId} {fz : Nat × Nat} (h : w.heap[b]? = some (.cells cs t fz)) (o : Nat) : w.cell? ⟨b, o, none⟩ = cs[o]? := by
  simp [World.cell?, h]
theorem frozen_of_heap {w : World} {b : Nat} {cs : Array Value} {t : TypeId} (h : w.heap[b]? = some (.cells cs t (0, 0))) (o : Nat) : w.frozen? ⟨b, o, none⟩ = false := by
  simp [World.frozen?, h]
theorem heap_alloc_new (w : World) (o : Obj) : (w.alloc o).heap[w.heap.size]? = some o := by
  show (w.heap.push o)[w.heap.size]? = _
  simp
theorem heap_alloc_old {w : World} {b : Nat} {x : Obj} (h : w.heap[b]? = some x) (o : Obj) : (w.alloc o).heap[b]? = some x := by
  rw [Below.heap_alloc _ _ _ (lt_of_heap h)]; exact h
theorem heap_setCell_at {w : World} {b : Nat} {cs : Array Value} {t : TypeId} {fz : Nat × Nat} (h : w.heap[b]? = some (.cells cs t fz)) (o : Nat) (v : Value) :
    (w.setCell ⟨b, o, none⟩ v).heap[b]? = some (.cells (cs.setIfInBounds o v) t fz) := by
  simp [World.setCell, Array.getElem?_modify, h]

theorem bcellB {W w1 : World} {B : Nat} (hb : Below B W w1) : ∀ b o, b < B → w1.cell? ⟨b, o, none⟩ = W.cell? ⟨b, o, none⟩ :=
  fun b o h => hb.cell (p := ⟨b, o, none⟩) h
theorem abs_world {P : Program} {c : Code} {Q : Exit → Act → World → Prop} {a : Act} {w : World} (h : ∀ W, W = w → Code.wp P c Q a W) : Code.wp P c Q a w := h w rfl

/-! ### lists of pairs -/
section
variable {κ ν : Type} [DecidableEq κ]
def getL : List (κ × ν) → κ → Option ν
  | [], _ => none
  | (k', v) :: r, k => if k' = k then some v else getL r k
def putL : List (κ × ν) → κ → ν → List (κ × ν)
  | [], k, v => [(k, v)]
  | (k', v') :: r, k, v => if k' = k then (k, v) :: r else (k', v') :: putL r k v
theorem getL_putL (l : List (κ × ν)) (k k' : κ) (v : ν) : getL (putL l k v) k' = if k = k' then some v else getL l k' := by
  induction l with
  | nil => simp [putL, getL]
  | cons a r ih =>
    obtain ⟨x, y⟩ := a
    unfold putL
    by_cases h : x = k
    · subst h
      by_cases h2 : x = k'
      · simp [getL, h2]
      · simp [getL, h2]
    · rw [if_neg h]
      simp only [getL, ih]
      by_cases h2 : x = k'
      · subst h2
        rw [if_pos rfl, if_neg (fun e => h e.symm), if_pos rfl]
      · rw [if_neg h2, if_neg h2]
theorem getL_none {l : List (κ × ν)} {k : κ} : getL l k = none ↔ ∀ p ∈ l, p.1 ≠ k := by
  induction l with
  | nil => simp [getL]
  | cons a r ih =>
    obtain ⟨x, y⟩ := a
    by_cases h : x = k
    · simp [getL, h]
    · simp [getL, h, ih]
theorem getL_of_at {l : List (κ × ν)} {k : κ} {v : ν} {j : Nat} (hn : (l.map Prod.fst).Nodup) (h : l[j]? = some (k, v)) : getL l k = some v := by
  induction l generalizing j with
  | nil => simp at h
  | cons a r ih =>
    obtain ⟨x, y⟩ := a
    simp only [List.map_cons, List.nodup_cons] at hn
    cases j with
    | zero => simp at h; simp [getL, h]
    | succ j =>
      simp only [List.getElem?_cons_succ] at h
      have hx : x ≠ k := fun e => hn.1 (by subst e; exact List.mem_map.2 ⟨(x, v), List.mem_of_getElem? h, rfl⟩)
      simp [getL, hx, ih hn.2 h]
theorem mem_of_getL {l : List (κ × ν)} {k : κ} {v : ν} (h : getL l k = some v) : (k, v) ∈ l := by
  induction l with
  | nil => simp [getL] at h
  | cons a r ih =>
    obtain ⟨x, y⟩ := a
    by_cases hx : x = k
    · simp [getL, hx] at h; simp [hx, h]
    · simp [getL, hx] at h; exact List.mem_cons_of_mem _ (ih h)
theorem putL_new {l : List (κ × ν)} {k : κ} {v : ν} (h : ∀ p ∈ l, p.1 ≠ k) : putL l k v = l ++ [(k, v)] := by
  induction l with
  | nil => rfl
  | cons a r ih =>
    obtain ⟨x, y⟩ := a
    unfold putL
    rw [if_neg (h (x, y) (by simp)), ih (fun p hp => h p (List.mem_cons_of_mem _ hp))]
    rfl
theorem putL_old {l : List (κ × ν)} {k : κ} {v v' : ν} {j : Nat} (hn : (l.map Prod.fst).Nodup) (h : l[j]? = some (k, v')) : putL l k v = l.set j (k, v) := by
  induction l generalizing j with
  | nil => simp at h
  | cons a r ih =>
    obtain ⟨x, y⟩ := a
    simp only [List.map_cons, List.nodup_cons] at hn
    cases j with
    | zero =>
      simp at h
      simp [putL, h]
    | succ j =>
      simp only [List.getElem?_cons_succ] at h
      have hx : x ≠ k := fun e => hn.1 (by subst e; exact List.mem_map.2 ⟨(x, v'), List.mem_of_getElem? h, rfl⟩)
      unfold putL
      rw [if_neg hx, ih hn.2 h]
      rfl
theorem keys_putL (l : List (κ × ν)) (k : κ) (v : ν) : (putL l k v).map Prod.fst = if k ∈ l.map Prod.fst then l.map Prod.fst else l.map Prod.fst ++ [k] := by
  induction l with
  | nil => simp [putL]
  | cons a r ih =>
    obtain ⟨x, y⟩ := a
    unfold putL
    by_cases h : x = k
    · simp [h]
    · rw [if_neg h]
      simp only [List.map_cons, ih, List.mem_cons]
      by_cases h2 : k ∈ r.map Prod.fst
      · rw [if_pos h2, if_pos (.inr h2)]
      · rw [if_neg h2, if_neg (fun e => e.elim (fun e => h e.symm) h2)]; rfl
theorem nodup_putL {l : List (κ × ν)} {k : κ} {v : ν} (hn : (l.map Prod.fst).Nodup) : ((putL l k v).map Prod.fst).Nodup := by
  rw [keys_putL]
  split
  · exact hn
  · rename_i h
    exact List.nodup_append.2 ⟨hn, by simp, by simp; intro a b hab e; subst e; exact h (List.mem_map.2 ⟨_, hab, rfl⟩)⟩
end

/-! ### maps -/
/-- Keys of type kt, encoded by enc. -/
structure KeyFits {κ : Type} (P : Program) (kt : TypeId) (enc : κ → Value) : Prop where
  inj : ∀ {a b : κ}, enc a = enc b → a = b
  check : ∀ (w : World) (em : Bool) (k : κ), (Instr.checkKey em 10000 kt (enc k)).run P w = .ok () w
  find : ∀ (w : World) (k : κ) (es : List MapEntry), (∀ e ∈ es, ∃ k', e.key = enc k') →
    ((Instr.findKey kt (enc k) es).run P w = .ok none w ∧ ∀ e ∈ es, e.key ≠ enc k) ∨ ∃ j e, (Instr.findKey kt (enc k) es).run P w = .ok (some (j, e.val)) w ∧ es[j]? = some e ∧ e.key = enc k
  stays : ∀ (w : World) (k : κ), (Instr.keyThatStays (enc k) (enc k)).run P w = .ok (enc k) w

def MapIs {κ ν : Type} (w : World) (b : Nat) (enc : κ → Value) (ve : ν → Value) (l : List (κ × ν)) : Prop :=
  ∃ es clock, w.heap[b]? = some (.map es clock) ∧ es.toList.map (fun e => (e.key, e.val)) = l.map (fun p => (enc p.1, ve p.2)) ∧ (l.map Prod.fst).Nodup

section
variable {κ ν : Type} {P : Program} {kt : TypeId} {enc : κ → Value} {ve : ν → Value} {w : World} {b : Nat} {l : List (κ × ν)}

theorem MapIs.lt (h : MapIs w b enc ve l) : b < w.heap.size := by obtain ⟨_, _, h, _⟩ := h; exact lt_of_heap h
theorem MapIs.of_block {w' : World} (h : MapIs w b enc ve l) (hb : w'.heap[b]? = w.heap[b]?) : MapIs w' b enc ve l := by
  obtain ⟨es, c, h1, h2⟩ := h
  exact ⟨es, c, hb.trans h1, h2⟩
theorem MapIs.nodup (h : MapIs w b enc ve l) : (l.map Prod.fst).Nodup := by obtain ⟨_, _, _, _, h⟩ := h; exact h
theorem MapIs.new (w : World) (enc : κ → Value) (ve : ν → Value) : MapIs (w.alloc (.map #[] 0)) w.heap.size enc ve [] :=
  ⟨#[], 0, heap_alloc_new w _, by simp, by simp⟩

theorem at_of_map {es : List MapEntry} (h : es.map (fun e => (e.key, e.val)) = l.map (fun p => (enc p.1, ve p.2))) {j : Nat} {e : MapEntry} (hj : es[j]? = some e) :
    ∃ p, l[j]? = some p ∧ e.key = enc p.1 ∧ e.val = ve p.2 := by
  have h1 : (es.map (fun e => (e.key, e.val)))[j]? = some (e.key, e.val) := by simp [hj]
  rw [h, List.getElem?_map] at h1
  cases hl : l[j]? with
  | none => simp [hl] at h1
  | some p => simp [hl] at h1; exact ⟨p, rfl, h1.1.symm, h1.2.symm⟩
theorem mem_key_of_map {es : List MapEntry} (h : es.map (fun e => (e.key, e.val)) = l.map (fun p => (enc p.1, ve p.2))) {p : κ × ν} (hp : p ∈ l) : ∃ e ∈ es, e.key = enc p.1 := by
  have h1 : (enc p.1, ve p.2) ∈ es.map (fun e => (e.key, e.val)) := by rw [h]; exact List.mem_map.2 ⟨p, hp, rfl⟩
  obtain ⟨e, he, h2⟩ := List.mem_map.1 h1
  exact ⟨e, he, congrArg Prod.fst h2⟩

theorem MapIs.finds [DecidableEq κ] (K : KeyFits P kt enc) {es : List MapEntry} (h : es.map (fun e => (e.key, e.val)) = l.map (fun p => (enc p.1, ve p.2))) (hn : (l.map Prod.fst).Nodup) (k : κ) (w : World) :
    ((Instr.findKey kt (enc k) es).run P w = .ok none w ∧ getL l k = none) ∨
    ∃ j e v, (Instr.findKey kt (enc k) es).run P w = .ok (some (j, ve v)) w ∧ es[j]? = some e ∧ e.key = enc k ∧ l[j]? = some (k, v) ∧ getL l k = some v := by
  have hkeys : ∀ e ∈ es, ∃ k', e.key = enc k' := fun e he => by
    obtain ⟨j, hj⟩ := List.mem_iff_getElem?.1 he
    obtain ⟨p, _, h1, _⟩ := at_of_map h hj
    exact ⟨p.1, h1⟩
  rcases K.find w k es hkeys with ⟨h1, h2⟩ | ⟨j, e, h1, h2, h3⟩
  · refine .inl ⟨h1, getL_none.2 fun p hp e => ?_⟩
    obtain ⟨x, hx, h4⟩ := mem_key_of_map h hp
    exact h2 x hx (by rw [h4, e])
  · obtain ⟨p, hp, h4, h5⟩ := at_of_map h h2
    obtain ⟨pk, pv⟩ := p
    have : pk = k := K.inj (h4.symm.trans h3)
    subst this
    exact .inr ⟨j, e, pv, by rw [h1, h5], h2, h3, hp, getL_of_at hn hp⟩

/-- 'v, ok := m[k]'. -/
theorem MapIs.look2 [DecidableEq κ] (K : KeyFits P kt enc) (h : MapIs w b enc ve l) {t et : TypeId} (ht : P.underlying t = some (.map kt et)) {z : Value} (hz : (zeroValue et).run P w = .ok z w) (k : κ) :
    (Instr.lookup t (.map (some b)) (enc k) true).run P w = .ok (.tuple #[((getL l k).map ve).getD z, .bool (getL l k).isSome]) w := by
  obtain ⟨es, c, hb, he, hn⟩ := h
  unfold Instr.lookup
  rcases MapIs.finds K he hn k w with ⟨h1, h2⟩ | ⟨j, e, v, h1, _, _, _, h2⟩
  · simp [run_underlying ht, getObj, Sem.run, hb, K.check, h1, hz, h2, Result.andThen]
  · simp [run_underlying ht, getObj, Sem.run, hb, K.check, h1, h2, Result.andThen]
/-- 'm[k]'. -/
theorem MapIs.look1 [DecidableEq κ] (K : KeyFits P kt enc) (h : MapIs w b enc ve l) {t et : TypeId} (ht : P.underlying t = some (.map kt et)) {z : Value} (hz : (zeroValue et).run P w = .ok z w) (k : κ) :
    (Instr.lookup t (.map (some b)) (enc k) false).run P w = .ok (((getL l k).map ve).getD z) w := by
  obtain ⟨es, c, hb, he, hn⟩ := h
  unfold Instr.lookup
  rcases MapIs.finds K he hn k w with ⟨h1, h2⟩ | ⟨j, e, v, h1, _, _, _, h2⟩
  · simp [run_underlying ht, getObj, Sem.run, hb, K.check, h1, hz, h2, Result.andThen]
  · simp [run_underlying ht, getObj, Sem.run, hb, K.check, h1, h2, Result.andThen]
/-- 'm[k] = v'. -/
theorem MapIs.upd [DecidableEq κ] (K : KeyFits P kt enc) (h : MapIs w b enc ve l) {t et : TypeId} (ht : P.underlying t = some (.map kt et)) (k : κ) (v : ν) :
    ∃ w', (Instr.mapUpdate t (.map (some b)) (enc k) (ve v)).run P w = .ok () w' ∧ MapIs w' b enc ve (putL l k v) ∧ Fr (fun x => x = b) w w' ∧ w'.heap.size = w.heap.size := by
  obtain ⟨es, c, hb, he, hn⟩ := h
  have hlt := lt_of_heap hb
  rcases MapIs.finds K he hn k w with ⟨h1, h2⟩ | ⟨j, e, v', h1, hj, hk, hl, h2⟩
  · refine ⟨{ w with heap := w.heap.setIfInBounds b (.map (es.push { key := enc k, val := ve v, born := c }) (c + 1)) }, ?_, ⟨es.push { key := enc k, val := ve v, born := c }, c + 1, ?_, ?_, nodup_putL hn⟩, ⟨rfl, rfl, rfl, by simp, fun j hj hne => ?_⟩, by simp⟩
    · unfold Instr.mapUpdate
      simp [run_underlying ht, getObj, setObj, Sem.run, hb, K.check, h1, Result.andThen]
    · simp [hlt]
    · rw [putL_new (getL_none.1 h2)]
      simp [he]
    · simp [Array.getElem?_setIfInBounds_ne (Ne.symm hne)]
  · have hj' : es[j]? = some e := by simpa using hj
    refine ⟨{ w with heap := w.heap.setIfInBounds b (.map (es.modify j fun e => { e with key := enc k, val := ve v }) c) }, ?_, ⟨es.modify j fun e => { e with key := enc k, val := ve v }, c, ?_, ?_, nodup_putL hn⟩, ⟨rfl, rfl, rfl, by simp, fun j hj hne => ?_⟩, by simp⟩
    · unfold Instr.mapUpdate
      simp [run_underlying ht, getObj, setObj, Sem.run, hb, K.check, h1, Result.andThen, hj', hk, K.stays]
    · simp [hlt]
    · rw [putL_old hn hl]
      apply List.ext_getElem?
      intro i
      have hi : (es.toList.map (fun e => (e.key, e.val)))[i]? = (l.map (fun p => (enc p.1, ve p.2)))[i]? := by rw [he]
      simp only [List.getElem?_map, Array.getElem?_toList] at hi
      simp only [List.getElem?_map, Array.getElem?_toList, Array.getElem?_modify, List.getElem?_set]
      by_cases hij : j = i
      · subst hij
        have hl2 : j < l.length := (List.getElem?_eq_some_iff.1 hl).1
        simp [hj', hl2]
      · simp [hij, hi]
    · simp [Array.getElem?_setIfInBounds_ne (Ne.symm hne)]
end

/-! ### kinds of keys -/
theorem int_fits {P : Program} {kt : TypeId} (hk : P.underlying kt = some (.int .i64)) : KeyFits P kt (fun n : Int => Value.int .i64 n) where
  inj h := by injection h
  check w em k := MapKept.run_checkKey (k := Value.int .i64 k) hk rfl em 9999
  find w k es hes := by
    have hks : ∀ y ∈ es, MapKept.IsKey (.int .i64) y.key := fun y hy => by obtain ⟨k', h⟩ := hes y hy; rw [h]; rfl
    rcases MapKept.findNow_spec (d := .int .i64) (k := Value.int .i64 k) rfl es 0 hks with ⟨h1, h2⟩ | ⟨j, e0, h1, h2, h3⟩
    · exact Or.inl ⟨MapKept.run_findKey hk h1, h2⟩
    · exact Or.inr ⟨j, e0, by simpa using MapKept.run_findKey hk h1, h2, h3⟩
  stays w k := MapKept.run_keyThatStays (d := .int .i64) rfl

end Go.Proofs.Ytcjohhminiedfaa
