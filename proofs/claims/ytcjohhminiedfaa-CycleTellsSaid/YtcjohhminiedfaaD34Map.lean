/- Maps as lists of pairs, with the stamps that the kit's laws on maps ask for. -/
import Derived.Test.YtcjohhminiedfaaBase
namespace Go.Proofs.Ytcjohhminiedfaa
open Go.RowKit
def BornOk (es : Array MapEntry) (clock : Nat) : Prop := (∀ x ∈ es.toList, x.born < clock) ∧ (es.toList.map (·.born)).Nodup
def MapS {κ ν : Type} (w : World) (b : Nat) (enc : κ → Value) (ve : ν → Value) (l : List (κ × ν)) : Prop :=
  ∃ es clock, w.heap[b]? = some (.map es clock) ∧ es.toList.map (fun e => (e.key, e.val)) = l.map (fun p => (enc p.1, ve p.2)) ∧ (l.map Prod.fst).Nodup ∧ BornOk es clock
section
variable {κ ν : Type} {P : Program} {kt : TypeId} {enc : κ → Value} {ve : ν → Value} {w : World} {b : Nat} {l : List (κ × ν)}
theorem MapS.is (h : MapS w b enc ve l) : MapIs w b enc ve l := by
  obtain ⟨es, c, h1, h2, h3, _⟩ := h
  exact ⟨es, c, h1, h2, h3⟩
theorem MapS.of_block {w' : World} (h : MapS w b enc ve l) (hb : w'.heap[b]? = w.heap[b]?) : MapS w' b enc ve l := by
  obtain ⟨es, c, h1, h2⟩ := h
  exact ⟨es, c, hb.trans h1, h2⟩
theorem MapS.new (w : World) (enc : κ → Value) (ve : ν → Value) : MapS (w.alloc (.map #[] 0)) w.heap.size enc ve [] :=
  ⟨#[], 0, heap_alloc_new w _, by simp, by simp, by simp [BornOk]⟩
theorem MapS.upd [DecidableEq κ] (K : KeyFits P kt enc) (h : MapS w b enc ve l) {t et : TypeId} (ht : P.underlying t = some (.map kt et)) (k : κ) (v : ν) :
    ∃ w', (Instr.mapUpdate t (.map (some b)) (enc k) (ve v)).run P w = .ok () w' ∧ MapS w' b enc ve (putL l k v) ∧ Fr (fun x => x = b) w w' ∧ w'.heap.size = w.heap.size := by
  obtain ⟨es, c, hb, he, hn, hbo1, hbo2⟩ := h
  have hlt := lt_of_heap hb
  rcases MapIs.finds K he hn k w with ⟨h1, h2⟩ | ⟨j, e, v', h1, hj, hk, hl, h2⟩
  · refine ⟨{ w with heap := w.heap.setIfInBounds b (.map (es.push { key := enc k, val := ve v, born := c }) (c + 1)) }, ?_, ⟨es.push { key := enc k, val := ve v, born := c }, c + 1, ?_, ?_, nodup_putL hn, ?_⟩, ⟨rfl, rfl, rfl, by simp, fun j hj hne => ?_⟩, by simp⟩
    · unfold Instr.mapUpdate
      simp [run_underlying ht, getObj, setObj, Sem.run, hb, K.check, h1, Result.andThen]
    · simp [hlt]
    · rw [putL_new (getL_none.1 h2)]
      simp [he]
    · refine ⟨fun x hx => ?_, ?_⟩
      · rw [Array.toList_push] at hx
        rcases List.mem_append.1 hx with hx | hx
        · have := hbo1 x hx; omega
        · rw [List.mem_singleton.1 hx]; exact Nat.lt_succ_self c
      · rw [Array.toList_push, List.map_append]
        refine List.nodup_append.2 ⟨hbo2, by simp, ?_⟩
        intro x hx y hy e
        simp at hy
        obtain ⟨z, hz, hzx⟩ := List.mem_map.1 hx
        have := hbo1 z hz
        omega
    · simp [Array.getElem?_setIfInBounds_ne (Ne.symm hne)]
  · have hj' : es[j]? = some e := by simpa using hj
    refine ⟨{ w with heap := w.heap.setIfInBounds b (.map (es.modify j fun e => { e with key := enc k, val := ve v }) c) }, ?_, ⟨es.modify j fun e => { e with key := enc k, val := ve v }, c, ?_, ?_, nodup_putL hn, ?_⟩, ⟨rfl, rfl, rfl, by simp, fun j hj hne => ?_⟩, by simp⟩
    · unfold Instr.mapUpdate
      simp [run_underlying ht, getObj, setObj, Sem.run, hb, K.check, h1, Result.andThen, hj', hk, K.stays]
    · simp [hlt]
    · rw [putL_old hn hl]
      apply List.ext_getElem?
      intro i
      have hi : (es.toList.map (fun e => (e.key, e.val)))[i]? = (l.map (fun p => (enc p.1, ve p.2)))[i]? := by rw [he]
      simp only [List.getElem?_map, Array.getElem?_toList] at hi
      simp only [List.getElem?_map, Array.getElem?_toList, Array.getElem?_modify, List.getElem?_set]
      by_cases hij : j = i
      · subst hij
        have hl2 : j < l.length := (List.getElem?_eq_some_iff.1 hl).1
        simp [hj', hl2]
      · simp [hij, hi]
    · have e : (es.modify j fun e => { e with key := enc k, val := ve v }).toList.map (·.born) = es.toList.map (·.born) := by
        apply List.ext_getElem?
        intro i
        simp only [List.getElem?_map, Array.getElem?_toList, Array.getElem?_modify]
        by_cases hij : j = i
        · subst hij
          simp [hj']
        · simp [hij]
      refine ⟨fun x hx => ?_, by rw [e]; exact hbo2⟩
      have hm : x.born ∈ (es.modify j fun e => { e with key := enc k, val := ve v }).toList.map (·.born) := List.mem_map.2 ⟨x, hx, rfl⟩
      rw [e] at hm
      obtain ⟨z, hz, hzx⟩ := List.mem_map.1 hm
      rw [← hzx]
      exact hbo1 z hz
    · simp [Array.getElem?_setIfInBounds_ne (Ne.symm hne)]
end
end Go.Proofs.Ytcjohhminiedfaa
