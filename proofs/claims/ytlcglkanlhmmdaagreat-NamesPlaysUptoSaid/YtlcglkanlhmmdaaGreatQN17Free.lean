/- names.hasFree. -/
import Derived.Test.YtlcglkanlhmmdaaGreatQBase
import Derived.Test.YtlcglkanlhmmdaaGreatQN17Sep
import Derived.Test.YtlcglkanlhmmdaaGreatQN17WalkT
namespace Go.Proofs.YtlcglkanlhmmdaaGreat
open Go.RowKit
theorem fr_alloc {S : Nat → Prop} (w : World) (o : Obj) : Fr S w (w.alloc o) := Fr.of_below (below_alloc w o _ (Nat.le_refl _))
set_option maxHeartbeats 400000 in
theorem setFree_any (b off fl : Nat) (c : Bool) (w : World) (hf : w.heap[fl]? = some (.cells #[.bool c] 4)) :
    Calls Tryz.prog 45 #[.pointer (some ⟨b, off, none⟩), .pointer (some ⟨fl, 0, none⟩)] w fun e w' => e = .returned (.bool false) ∧ Fr (fun k => k = fl) w w' ∧ w'.heap[fl]? = some (.cells #[.bool true] 4) := by
  have hc := cell_of_heap hf 0
  have hz := frozen_of_heap hf 0
  have hl := lt_of_heap hf
  have HF := Lib.hid hf
  clear hf
  go_enter Tryz.func45, Tryz.ntmps45
  go_wp2_with fail
  go_ret
  exact ⟨rfl, Fr.setCell w ⟨fl, 0, none⟩ _, heap_setCell_at HF.out 0 _⟩
theorem exp_none (t : T) : ∀ (ar : List ByteArray) (told : Bool), expT (fun _ => none) t ar told = t := by
  induction t using T.ind with
  | h o l ih =>
    intro ar told
    have hk : kidsE (fun _ => none) o l ar = l := by
      apply List.ext_getElem?
      intro i
      cases hl : l[i]? with
      | none => rw [List.getElem?_eq_none]; rw [kidsE_length]; exact List.getElem?_eq_none_iff.1 hl
      | some c => rw [kidsE_at hl]; exact congrArg some (ih c (List.mem_of_getElem? hl) _ _)
    rw [expT_mk, hk]
    split <;> rfl
theorem info76 : (Tryz.prog.info? 78).map (·.size) = some 2 := by kernel_rfl
set_option maxHeartbeats 4000000 in
set_option maxRecDepth 100000 in
theorem hasFree_any (t : T) (hz : t.size ≤ 2097152) (x : Value) (w : World) (hx : IsT w x t) : Calls Tryz.prog 29 #[x] w fun e w' => e = .returned (.bool (calT t [] false)) ∧ Below w.heap.size w w' := by
  obtain ⟨a, cap, rfl, hA⟩ := hx
  have HA := Lib.hid hA
  clear hA
  have hmm := @run_makeMap Tryz.prog
  rw [nagg_eq]
  go_enter Tryz.func29, Tryz.ntmps29
  go_wp2_with (refine wpList_store_new rfl 78 (.tmp 4) (.tmp 7) rfl (w.heap.size + 1 + 1 + 1) (by simp) _ [.map (some (w.heap.size + 1 + 1)), .func (.func 45) #[] #[.pointer (some ⟨w.heap.size + 1, 0, none⟩)]] 78 rfl rfl rfl info76 (by intro v hv; simp at hv; rcases hv with rfl | rfl <;> rfl) ?_)
  refine abs_calls ?_
  intro W1 hW1
  have hz1 : W1.heap.size = w.heap.size + 4 := by rw [hW1]; simp
  have hB1 : Below w.heap.size w W1 := by rw [hW1]; (repeat (first | with_reducible exact Below.refl _ _ | with_reducible exact hBW | with_reducible refine Below.setCell ?_ ?_ _ | with_reducible refine Below.alloc ?_ ?_ _ | with_reducible refine belowN ?_ _ | with_reducible refine Below.drew ?_)); all_goals (first | omega | (dsimp only; omega) | ((repeat (first | with_reducible refine le_alloc ?_ | with_reducible refine le_setCell ?_ | with_reducible refine le_drew ?_ | with_reducible refine le_drewN ?_)); omega))
  have g0 : W1.heap[w.heap.size]? = some (.cells (ncells t.o (.slice a t.l.length cap)).toArray 42) := by rw [hW1]; exact heap_alloc_old (heap_alloc_old (heap_alloc_old (heap_alloc_new w _) _) _) _
  have g1 : W1.heap[w.heap.size + 1]? = some (.cells #[.bool false] 4) := by rw [hW1]; exact heap_alloc_old (heap_alloc_old (heap_alloc_at (by simp) _) _) _
  have g2 : W1.heap[w.heap.size + 1 + 1]? = some (.map #[] 0) := by rw [hW1]; exact heap_alloc_old (heap_alloc_at (by simp) _) _
  have g3 : W1.heap[w.heap.size + 1 + 1 + 1]? = some (.cells #[.map (some (w.heap.size + 1 + 1)), .func (.func 45) #[] #[.pointer (some ⟨w.heap.size + 1, 0, none⟩)]] 78) := by rw [hW1]; exact heap_alloc_at (by simp) _
  have hK1 : Keep (w.alloc (.cells (ncells t.o (.slice a t.l.length cap)).toArray 42)) W1 := by
    rw [hW1]
    exact (((Keep.refl _).below (below_alloc _ _ _ (Nat.le_refl _))).below (below_alloc _ _ _ (Nat.le_refl _))).below (below_alloc _ _ _ (Nat.le_refl _))
  clear hW1 hmm
  have H : FreeOK false (w.alloc (.cells (ncells t.o (.slice a t.l.length cap)).toArray 42)) (w.heap.size + 1 + 1) (w.heap.size + 1 + 1 + 1) 45 #[.pointer (some ⟨w.heap.size + 1, 0, none⟩)] (fun _ => none)
      (fun c W => W.heap[w.heap.size + 1]? = some (.cells #[.bool c] 4) ∧ W.heap[w.heap.size + 1 + 1 + 1]? = some (.cells #[.map (some (w.heap.size + 1 + 1)), .func (.func 45) #[] #[.pointer (some ⟨w.heap.size + 1, 0, none⟩)]] 78)) (fun k => k = w.heap.size + 1 ∨ k = w.heap.size + 1 + 1 + 1) (fun k => k = w.heap.size + 1) := by
    refine ⟨enters_of Tryz.func45 (by kernel_rfl) rfl, fun c W h => h.2, fun c W W' h hf => ⟨(hf.block _ (lt_of_heap h.1) (fun hh => hh (.inl rfl))).trans h.1, (hf.block _ (lt_of_heap h.2) (fun hh => hh (.inr rfl))).trans h.2⟩, by omega, fun k h => .inl h, fun c W k h hk => ?_, fun _ => ⟨by simp, fun k hk => by simp; omega⟩, fun W b off t S c hN hJ _ => ?_⟩
    · rcases hk with rfl | rfl
      · exact lt_of_heap h.1
      · exact lt_of_heap h.2
    · refine (setFree_any b off (w.heap.size + 1) c W hJ.1).mono ?_
      rintro e w' ⟨rfl, hf, hh⟩
      refine ⟨rfl, PostW.of_fr hN hf (fun _ k hk => by simp; omega) (fun h => by cases h), hh, (hf.block _ (lt_of_heap hJ.2) (by omega)).trans hJ.2⟩
  have hs := walkF_any H t [] false false W1 w.heap.size 0 (fun _ => False) (by simp; omega) hz ⟨fun _ => ⟨hK1, a, cap, by simp, nd_blk (heap_alloc_new w _), HA.out.below (below_alloc w _ _ (Nat.le_refl _)) t⟩, (fun h => by cases h)⟩ ⟨g1, g3⟩ ⟨[], ⟨#[], 0, g2, by simp, by simp⟩, fun s => rfl⟩ (fun h => by cases h)
  refine hs.mono ?_
  rintro e w2 ⟨⟨v, rfl⟩, hp, hj, _⟩
  have c1 := cell_of_heap hj.1 0
  have z1 := lt_of_heap hj.1
  have HB : Hid (Below w.heap.size w w2) := hB1.trans (hp.fr.below (by omega) (fun k hk => by
    rcases hk with (h | h) | ⟨h, _⟩
    · omega
    · omega
    · cases h))
  clear hs H hp hj hK1 g0 g1 g2 g3 hB1 hz1
  go_wp2_with fail
  go_ret
  exact ⟨rfl, HB.out⟩
end Go.Proofs.YtlcglkanlhmmdaaGreat
/- Maps as lists of pairs, with the stamps that the kit's laws on maps ask for. -/
namespace Go.Proofs.YtlcglkanlhmmdaaGreat
open Go.RowKit
def BornOk (es : Array MapEntry) (clock : Nat) : Prop := (∀ x ∈ es.toList, x.born < clock) ∧ (es.toList.map (·.born)).Nodup
def MapS {κ ν : Type} (w : World) (b : Nat) (enc : κ → Value) (ve : ν → Value) (l : List (κ × ν)) : Prop :=
  ∃ es clock, w.heap[b]? = some (.map es clock) ∧ es.toList.map (fun e => (e.key, e.val)) = l.map (fun p => (enc p.1, ve p.2)) ∧ (l.map Prod.fst).Nodup ∧ BornOk es clock
section
variable {κ ν : Type} {P : Program} {kt : TypeId} {enc : κ → Value} {ve : ν → Value} {w : World} {b : Nat} {l : List (κ × ν)}
theorem MapS.is (h : MapS w b enc ve l) : MapIs w b enc ve l := by
  obtain ⟨es, c, h1, h2, h3, _⟩ := h
  exact ⟨es, c, h1, h2, h3⟩
theorem MapS.of_block {w' : World} (h : MapS w b enc ve l) (hb : w'.heap[b]? = w.heap[b]?) : MapS w' b enc ve l := by
  obtain ⟨es, c, h1, h2⟩ := h
  exact ⟨es, c, hb.trans h1, h2⟩
theorem MapS.new (w : World) (enc : κ → Value) (ve : ν → Value) : MapS (w.alloc (.map #[] 0)) w.heap.size enc ve [] :=
  ⟨#[], 0, heap_alloc_new w _, by simp, by simp, by simp [BornOk]⟩
theorem MapS.upd [DecidableEq κ] (K : KeyFits P kt enc) (h : MapS w b enc ve l) {t et : TypeId} (ht : P.underlying t = some (.map kt et)) (k : κ) (v : ν) :
    ∃ w', (Instr.mapUpdate t (.map (some b)) (enc k) (ve v)).run P w = .ok () w' ∧ MapS w' b enc ve (putL l k v) ∧ Fr (fun x => x = b) w w' ∧ w'.heap.size = w.heap.size := by
  obtain ⟨es, c, hb, he, hn, hbo1, hbo2⟩ := h
  have hlt := lt_of_heap hb
  rcases MapIs.finds K he hn k w with ⟨h1, h2⟩ | ⟨j, e, v', h1, hj, hk, hl, h2⟩
  · refine ⟨{ w with heap := w.heap.setIfInBounds b (.map (es.push { key := enc k, val := ve v, born := c }) (c + 1)) }, ?_, ⟨es.push { key := enc k, val := ve v, born := c }, c + 1, ?_, ?_, nodup_putL hn, ?_⟩, ⟨rfl, rfl, rfl, by simp, fun j hj hne => ?_⟩, by simp⟩
    · unfold Instr.mapUpdate
      simp [run_underlying ht, getObj, setObj, Sem.run, hb, K.check, h1, Result.andThen]
    · simp [hlt]
    · rw [putL_new (getL_none.1 h2)]
      simp [he]
    · refine ⟨fun x hx => ?_, ?_⟩
      · rw [Array.toList_push] at hx
        rcases List.mem_append.1 hx with hx | hx
        · have := hbo1 x hx; omega
        · rw [List.mem_singleton.1 hx]; exact Nat.lt_succ_self c
      · rw [Array.toList_push, List.map_append]
        refine List.nodup_append.2 ⟨hbo2, by simp, ?_⟩
        intro x hx y hy e
        simp at hy
        obtain ⟨z, hz, hzx⟩ := List.mem_map.1 hx
        have := hbo1 z hz
        omega
    · simp [Array.getElem?_setIfInBounds_ne (Ne.symm hne)]
  · have hj' : es[j]? = some e := by simpa using hj
    refine ⟨{ w with heap := w.heap.setIfInBounds b (.map (es.modify j fun e => { e with key := enc k, val := ve v }) c) }, ?_, ⟨es.modify j fun e => { e with key := enc k, val := ve v }, c, ?_, ?_, nodup_putL hn, ?_⟩, ⟨rfl, rfl, rfl, by simp, fun j hj hne => ?_⟩, by simp⟩
    · unfold Instr.mapUpdate
      simp [run_underlying ht, getObj, setObj, Sem.run, hb, K.check, h1, Result.andThen, hj', hk, K.stays]
    · simp [hlt]
    · rw [putL_old hn hl]
      apply List.ext_getElem?
      intro i
      have hi : (es.toList.map (fun e => (e.key, e.val)))[i]? = (l.map (fun p => (enc p.1, ve p.2)))[i]? := by rw [he]
      simp only [List.getElem?_map, Array.getElem?_toList] at hi
      simp only [List.getElem?_map, Array.getElem?_toList, Array.getElem?_modify, List.getElem?_set]
      by_cases hij : j = i
      · subst hij
        have hl2 : j < l.length := (List.getElem?_eq_some_iff.1 hl).1
        simp [hj', hl2]
      · simp [hij, hi]
    · have e : (es.modify j fun e => { e with key := enc k, val := ve v }).toList.map (·.born) = es.toList.map (·.born) := by
        apply List.ext_getElem?
        intro i
        simp only [List.getElem?_map, Array.getElem?_toList, Array.getElem?_modify]
        by_cases hij : j = i
        · subst hij
          simp [hj']
        · simp [hij]
      refine ⟨fun x hx => ?_, by rw [e]; exact hbo2⟩
      have hm : x.born ∈ (es.modify j fun e => { e with key := enc k, val := ve v }).toList.map (·.born) := List.mem_map.2 ⟨x, hx, rfl⟩
      rw [e] at hm
      obtain ⟨z, hz, hzx⟩ := List.mem_map.1 hm
      rw [← hzx]
      exact hbo1 z hz
    · simp [Array.getElem?_setIfInBounds_ne (Ne.symm hne)]
end
end Go.Proofs.YtlcglkanlhmmdaaGreat
/- Tables of names in memory; Expand's function for a free name. -/
namespace Go.Proofs.YtlcglkanlhmmdaaGreat
open Go.RowKit
/-- The values vs of a map are the trees of L. -/
def TabL (w : World) (vs : List (ByteArray × Value)) (L : List (ByteArray × T)) : Prop := vs.map Prod.fst = L.map Prod.fst ∧ ∀ (i : Nat) (s : ByteArray) (t : T), L[i]? = some (s, t) → ∃ v, vs[i]? = some (s, v) ∧ IsT w v t
def TabV (w : World) (mo : Option Nat) (L : List (ByteArray × T)) : Prop :=
  match mo with
  | none => L = []
  | some mt => ∃ vs : List (ByteArray × Value), MapS w mt Value.string (id : Value → Value) vs ∧ TabL w vs L
def Tab (w : World) (pt : Nat) (L : List (ByteArray × T)) : Prop := ∃ mo, w.heap[pt]? = some (.cells #[.map mo] 62) ∧ TabV w mo L
theorem MapS.lt' {w : World} {b : Nat} {vs : List (ByteArray × Value)} (h : MapS w b Value.string (id : Value → Value) vs) : b < w.heap.size := h.is.lt
theorem TabL.below {w w' : World} {vs : List (ByteArray × Value)} {L : List (ByteArray × T)} (h : TabL w vs L) (hb : Below w.heap.size w w') : TabL w' vs L := by
  refine ⟨h.1, fun i s t hi => ?_⟩
  obtain ⟨v, h1, h2⟩ := h.2 i s t hi
  exact ⟨v, h1, h2.below hb⟩
theorem TabV.below {w w' : World} {mo : Option Nat} {L : List (ByteArray × T)} (h : TabV w mo L) (hb : Below w.heap.size w w') : TabV w' mo L := by
  cases mo with
  | none => exact h
  | some mt =>
    obtain ⟨vs, h1, h2⟩ := h
    exact ⟨vs, h1.of_block (hb.block mt h1.lt'), h2.below hb⟩
theorem Tab.below {w w' : World} {pt : Nat} {L : List (ByteArray × T)} (h : Tab w pt L) (hb : Below w.heap.size w w') : Tab w' pt L := by
  obtain ⟨mo, h1, h2⟩ := h
  exact ⟨mo, (hb.block pt (lt_of_heap h1)).trans h1, h2.below hb⟩
theorem TabL.get : ∀ {vs : List (ByteArray × Value)} {L : List (ByteArray × T)} {w : World}, TabL w vs L → ∀ s, (getL L s = none ∧ getL vs s = none) ∨ ∃ t v, getL L s = some t ∧ getL vs s = some v ∧ IsT w v t
  | [], [], _, _, _ => .inl ⟨rfl, rfl⟩
  | [], (_ :: _), _, h, _ => by have := h.1; simp at this
  | (_ :: _), [], _, h, _ => by have := h.1; simp at this
  | ((x, v) :: vs), ((y, t) :: L), w, h, s => by
    have h1 := h.1
    simp only [List.map_cons, List.cons.injEq] at h1
    obtain ⟨rfl, h2⟩ := h1
    obtain ⟨v', hv, ht⟩ := h.2 0 x t rfl
    simp at hv
    subst hv
    by_cases hs : x = s
    · exact .inr ⟨t, v, by simp [getL, hs], by simp [getL, hs], ht⟩
    · have ih := TabL.get (w := w) (vs := vs) (L := L) ⟨h2, fun i s' t' hi => by
        obtain ⟨v2, p1, p2⟩ := h.2 (i + 1) s' t' (by simpa using hi)
        exact ⟨v2, by simpa using p1, p2⟩⟩ s
      simp only [getL, if_neg hs]
      exact ih
theorem zero35 (w : World) : (zeroValue 42).run Tryz.prog w = .ok (nagg nd0 (.slice none 0 0)) w := Tryz.zeroValue42 w
/-- 't.trees[name]', comma ok. -/
theorem TabV.look {w : World} {mo : Option Nat} {L : List (ByteArray × T)} (h : TabV w mo L) (s : ByteArray) :
    (getL L s = none ∧ ∀ W, Below w.heap.size w W → (Instr.lookup 60 (.map mo) (.string s) true).run Tryz.prog W = .ok (.tuple #[nagg nd0 (.slice none 0 0), .bool false]) W) ∨
    ∃ t a cap, getL L s = some t ∧ t.At w a ∧ ∀ W, Below w.heap.size w W → (Instr.lookup 60 (.map mo) (.string s) true).run Tryz.prog W = .ok (.tuple #[nagg t.o (.slice a t.l.length cap), .bool true]) W := by
  cases mo with
  | none =>
    left
    have hL : L = [] := h
    subst hL
    refine ⟨rfl, fun W _ => ?_⟩
    have K := string_fits (P := Tryz.prog) Tryz.underlying9
    unfold Instr.lookup
    have hch : (Instr.checkKey true 10000 9 (.string s)).run Tryz.prog W = .ok () W := K.check W true s
    have hfk : (Instr.findKey 9 (.string s) []).run Tryz.prog W = .ok none W := by
      rcases K.find W s [] (fun e he => by cases he) with ⟨h1, _⟩ | ⟨j, e, _, h2, _⟩
      · exact h1
      · simp at h2
    simp [run_underlying Tryz.underlying60, hch, hfk, Result.andThen]
    rfl
  | some mt =>
    obtain ⟨vs, h1, h2⟩ := h
    have hl := fun W (hW : Below w.heap.size w W) => (h1.of_block (hW.block mt h1.lt')).is.look2 (string_fits Tryz.underlying9) Tryz.underlying60 (zero35 W) s
    rcases h2.get s with ⟨p1, p2⟩ | ⟨t, v, p1, p2, a, cap, rfl, hA⟩
    · left
      rw [p2] at hl
      exact ⟨p1, hl⟩
    · right
      rw [p2] at hl
      exact ⟨t, a, cap, p1, hA, hl⟩
/-- What Expand's walk keeps. -/
def ExpJ (wE : World) (tb pw mb : Nat) (pt : Nat) (W : World) : Prop := Below wE.heap.size wE W ∧ W.heap[tb]? = some (.cells #[.pointer (some ⟨pt, 0, none⟩)] 25) ∧ W.heap[pw]? = some (.cells #[.map (some mb), .func (.func 31) #[] #[.pointer (some ⟨tb, 0, none⟩)]] 78)
def subL (L : List (ByteArray × T)) : ByteArray → Option T := fun s => getL L s
set_option maxHeartbeats 4000000 in
set_option maxRecDepth 100000 in
theorem repl_any (L : List (ByteArray × T)) (hz : ∀ p ∈ L, p.2.size ≤ 2097152) (wE w0 : World) (tb pw mb pt : Nat) (hT : Tab wE pt L) (w : World) (b off : Nat) (t : T) (S : Nat → Prop) (hN : Nod true w0 w b off t S) (hJ : ExpJ wE tb pw mb pt w)
    (hS : (∀ k, S k → ¬ (k < wE.heap.size ∨ k = tb ∨ k = pw)) ∧ ¬ (b < wE.heap.size ∨ b = tb ∨ b = pw)) :
    Calls Tryz.prog 31 #[.pointer (some ⟨b, off, none⟩), .pointer (some ⟨tb, 0, none⟩)] w fun e w' => e = .returned (.bool (subL L t.o.nm).isSome) ∧ PostW true w0 w w' b off ((subL L t.o.nm).getD t) S (fun _ => False) ∧ ExpJ wE tb pw mb pt w' := by
  obtain ⟨mo, hp, hV⟩ := hT
  obtain ⟨hB, htb, hpw⟩ := hJ
  obtain ⟨⟨C, a, cap, hb, hC, hO⟩, hout, hlt⟩ := hN.2 rfl
  have hp1 := (hB.block _ (lt_of_heap hp)).trans hp
  have x0 := cell_of_heap htb 0
  have x1 := cell_of_heap hp1 0
  have x7 : w.cell? ⟨b, off + 7, none⟩ = some (.string t.o.nm) := by rw [cell_of_heap hb, List.getElem?_toArray]; exact hC 7 (by omega)
  have zt := lt_of_heap htb
  have zp := lt_of_heap hp1
  have zb := lt_of_heap hb
  have hoff : off + 22 ≤ C.length := by
    have h21 := hC 21 (by omega)
    have : C[off + 21]? = some (.slice a t.l.length cap) := h21
    have := (List.getElem?_eq_some_iff.1 this).1
    omega
  have HOFF := Lib.hid hoff
  have HV := Lib.hid hV
  have HB := Lib.hid hB
  have HN := Lib.hid hN
  have HTB := Lib.hid htb
  have HPW := Lib.hid hpw
  have HBB := Lib.hid hb
  have HOUT := Lib.hid hout
  have HLT := Lib.hid hlt
  have HS := Lib.hid hS
  have HZ := Lib.hid hz
  clear hp hV hB hN htb hpw hb hC hO hp1 hout hlt hS hz
  rcases (HV.out.below HB.out).look t.o.nm with ⟨hg, hlk⟩ | ⟨u, ua, uc, hg, hA, hlk⟩
  · have HG : Hid (subL L t.o.nm = none) := hg
    clear hg
    rw [HG.out]
    go_enter Tryz.func31, Tryz.ntmps31
    go_wp2_with fail
    refine wp_region_multiR [([0, 4, 1, 5, 2, 6, 3, 7, 8, 9, 10, 11], [12, 13], [14]), ([14], [], [])] (by kernel_rfl) (by kernel_rfl) ?_
    refine multi_phase (Below w.heap.size w) (Below.refl _ _).drew ?_
    iterate 12 (first | (apply first_step; (rw [List.getElem?_toArray]; (repeat rw [List.getElem?_cons_succ]); rw [List.getElem?_cons_zero]); rfl; (intro W hB; have hc := bcellB hB; go_simp; (first | done | rfl)); go_frame) | (apply first_skip; (rw [List.getElem?_toArray]; (repeat rw [List.getElem?_cons_succ]); rw [List.getElem?_cons_zero]); rfl; go_frame))
    refine first_done ?_
    apply forced_step; (rw [List.getElem?_toArray]; (repeat rw [List.getElem?_cons_succ]); rw [List.getElem?_cons_zero]); rfl; intro K hK; go_simp
    refine hK _ _ (fun _ => ?_) ?_
    · (repeat (first | with_reducible exact Below.refl _ _ | with_reducible exact hBW | with_reducible refine Below.setCell ?_ ?_ _ | with_reducible refine Below.alloc ?_ ?_ _ | with_reducible refine belowN ?_ _ | with_reducible refine Below.drew ?_)); all_goals (first | omega | (dsimp only; omega) | ((repeat (first | with_reducible refine le_alloc ?_ | with_reducible refine le_setCell ?_ | with_reducible refine le_drew ?_ | with_reducible refine le_drewN ?_)); omega))
    clear hK K
    apply forced_step; (rw [List.getElem?_toArray]; (repeat rw [List.getElem?_cons_succ]); rw [List.getElem?_cons_zero]); rfl; intro K hK
    refine wp_store_nd (.tmp 4) (.tmp 16) rfl w.heap.size 0 (ncells nd0 (.slice none 0 0)) 42 (heap_drew_old (heap_alloc_new w _)) (Nat.le_refl _) nd0 (.slice none 0 0) rfl rfl rfl ?_
    intro W2 hb2 hf2 hz2
    have hB2 : Below w.heap.size w W2 := (((Below.refl _ w).alloc (Nat.le_refl _) _).drew).trans (hf2.below (by simp) (fun k hk => by omega))
    have N2 : W2.heap[w.heap.size]? = some (.cells (ncells nd0 (.slice none 0 0)).toArray 42) := hb2
    have RB := Lib.hid (range_blk N2)
    have B2 := Lib.hid hB2
    refine hK _ _ (fun _ => hB2) ?_
    clear hK K hb2 hf2 hz2 hB2 N2
    refine forced_done ?_
    refine multi_phase (fun _ => True) trivial ?_
    apply first_step; (rw [List.getElem?_toArray]; (repeat rw [List.getElem?_cons_succ]); rw [List.getElem?_cons_zero]); rfl; (intro W hB; go_simp; (first | done | rfl)); go_frame
    refine first_done ?_
    refine forced_done ?_
    refine multi_done ?_
    clear hlk x0 x1 x7
    go_wp2_with fail
    go_ret
    refine ⟨rfl, PostW.of_fr HN.out (Fr.of_below B2.out) (fun _ _ h => h.elim) (fun _ _ h => h.elim), HB.out.trans (B2.out.mono HB.out.size), (B2.out.block _ zt).trans HTB.out, (B2.out.block _ (lt_of_heap HPW.out)).trans HPW.out⟩
  · have HG : Hid (subL L t.o.nm = some u) := hg
    have HUZ : Hid (u.size ≤ 2097152) := by
      obtain ⟨i, hi⟩ := List.mem_iff_getElem?.1 (mem_of_getL hg)
      exact HZ.out (t.o.nm, u) (List.mem_of_getElem? hi)
    have HA := Lib.hid hA
    clear hg hA
    rw [HG.out]
    go_enter Tryz.func31, Tryz.ntmps31
    go_wp2_with fail
    refine wp_region_multiR [([0, 4, 1, 5, 2, 6, 3, 7, 8, 9, 10, 11], [12, 13], [14]), ([14], [], [])] (by kernel_rfl) (by kernel_rfl) ?_
    refine multi_phase (Below w.heap.size w) (Below.refl _ _).drew ?_
    iterate 12 (first | (apply first_step; (rw [List.getElem?_toArray]; (repeat rw [List.getElem?_cons_succ]); rw [List.getElem?_cons_zero]); rfl; (intro W hB; have hc := bcellB hB; go_simp; (first | done | rfl)); go_frame) | (apply first_skip; (rw [List.getElem?_toArray]; (repeat rw [List.getElem?_cons_succ]); rw [List.getElem?_cons_zero]); rfl; go_frame))
    refine first_done ?_
    apply forced_step; (rw [List.getElem?_toArray]; (repeat rw [List.getElem?_cons_succ]); rw [List.getElem?_cons_zero]); rfl; intro K hK; go_simp
    refine hK _ _ (fun _ => ?_) ?_
    · (repeat (first | with_reducible exact Below.refl _ _ | with_reducible exact hBW | with_reducible refine Below.setCell ?_ ?_ _ | with_reducible refine Below.alloc ?_ ?_ _ | with_reducible refine belowN ?_ _ | with_reducible refine Below.drew ?_)); all_goals (first | omega | (dsimp only; omega) | ((repeat (first | with_reducible refine le_alloc ?_ | with_reducible refine le_setCell ?_ | with_reducible refine le_drew ?_ | with_reducible refine le_drewN ?_)); omega))
    clear hK K
    apply forced_step; (rw [List.getElem?_toArray]; (repeat rw [List.getElem?_cons_succ]); rw [List.getElem?_cons_zero]); rfl; intro K hK
    refine wp_store_nd (.tmp 4) (.tmp 16) rfl w.heap.size 0 (ncells nd0 (.slice none 0 0)) 42 (heap_drew_old (heap_alloc_new w _)) (Nat.le_refl _) u.o (.slice ua u.l.length uc) rfl rfl rfl ?_
    intro W2 hb2 hf2 hz2
    have hB2 : Below w.heap.size w W2 := (((Below.refl _ w).alloc (Nat.le_refl _) _).drew).trans (hf2.below (by simp) (fun k hk => by omega))
    have N2 : W2.heap[w.heap.size]? = some (.cells (ncells u.o (.slice ua u.l.length uc)).toArray 42) := hb2
    have RB := Lib.hid (range_blk N2)
    have B2 := Lib.hid hB2
    refine hK _ _ (fun _ => hB2) ?_
    clear hK K hb2 hf2 hz2 hB2 N2
    refine forced_done ?_
    refine multi_phase (fun _ => True) trivial ?_
    apply first_step; (rw [List.getElem?_toArray]; (repeat rw [List.getElem?_cons_succ]); rw [List.getElem?_cons_zero]); rfl; (intro W hB; go_simp; (first | done | rfl)); go_frame
    refine first_done ?_
    refine forced_done ?_
    refine multi_done ?_
    clear hlk x0 x1 x7
    go_wp2_with (refine wpList_load_g rfl 42 (.tmp 4) rfl w.heap.size 0 rfl _ _ RB.out Tryz.underlying42 rfl info35 ?_)
    have hc := copied_any u HUZ.out (nagg u.o (.slice ua u.l.length uc)) W2 ⟨ua, uc, rfl, HA.out.below B2.out u⟩
    refine hc.mono ?_
    rintro e w3 ⟨a3, S3, rfl, hO3, hS3, hb3⟩
    have hb3' := B2.out.trans (hb3.mono B2.out.size)
    have hbw : w3.heap[b]? = some (.cells C.toArray 42) := (hb3'.block b zb).trans HBB.out
    have FIN : Hid (∀ W5, W5.heap[b]? = some (.cells (C.take off ++ ncells u.o (.slice a3 u.l.length u.l.length) ++ C.drop (off + 22)).toArray 42) → Fr (fun k => k = b) w3 W5 → W5.heap.size = w3.heap.size → PostW true w0 w W5 b off u S (fun _ => False) ∧ ExpJ wE tb pw mb pt W5) := by
      intro W5 p1 p2 p3
      have hfr : Fr (fun k => False ∨ (true = true ∧ (S k ∨ k = b))) w W5 := (Fr.of_below hb3').trans (p2.mono (fun k _ h => .inr ⟨rfl, .inr h⟩)) (fun _ _ h => h)
      have hS3' : ∀ k, S3 k → w.heap.size ≤ k := fun k hk => Nat.le_trans B2.out.size (hS3 k hk).1
      refine ⟨⟨hfr, ⟨S3, ⟨(fun h => by cases h), fun _ => ⟨⟨_, a3, u.l.length, p1, fun j hj => ?_, hO3.frame u (fun k hk _ => p2.block k (hS3 k hk).2 (fun e => by have := hS3' k hk; omega))⟩, fun h => by have := hS3' b h; omega, fun k hk => by rw [p3]; exact (hS3 k hk).2⟩⟩, fun k hk => .inr (hS3' k hk)⟩, fun _ D hD => ?_⟩, ?_, ?_, ?_⟩
      · rw [List.append_assoc, List.getElem?_append_right (by rw [List.length_take, Nat.min_eq_left (by omega)]; omega), List.length_take, Nat.min_eq_left (by omega), Nat.add_sub_cancel_left, List.getElem?_append_left (by show j < 22; exact hj)]
      · rw [HBB.out] at hD
        have hCD : C = D := by simpa using hD
        subst hCD
        refine ⟨_, p1, ?_, fun j hj => ?_⟩
        · rw [List.length_append, List.length_append, List.length_take, List.length_drop]
          show min off C.length + 22 + _ = _
          omega
        · rcases hj with hj | hj
          · rw [List.append_assoc, List.getElem?_append_left (by rw [List.length_take]; omega), List.getElem?_take, if_pos hj]
          · rw [List.getElem?_append_right (by rw [List.length_append, List.length_take]; show min off C.length + 22 ≤ j; omega), List.length_append, List.length_take, List.getElem?_drop]
            show C[off + 22 + (j - (min off C.length + 22))]? = _
            congr 1
            omega
      · exact HB.out.trans (((hb3'.mono HB.out.size).trans (p2.below (Nat.le_trans HB.out.size hb3'.size) (fun k hk => by have := HS.out.2; omega))))
      · exact (p2.block _ (lt_of_heap ((hb3'.block _ zt).trans HTB.out)) (fun e => HS.out.2 (.inr (.inl e.symm)))).trans ((hb3'.block _ zt).trans HTB.out)
      · exact (p2.block _ (lt_of_heap ((hb3'.block _ (lt_of_heap HPW.out)).trans HPW.out)) (fun e => HS.out.2 (.inr (.inr e.symm)))).trans ((hb3'.block _ (lt_of_heap HPW.out)).trans HPW.out)
    have HBW := Lib.hid hbw
    clear hO3 hS3 hb3 hb3' hbw hc
    go_wp2_with (refine wpList_store_nd rfl (.tmp 22) (.tmp 21) rfl b off C 42 HBW.out HOFF.out u.o (.slice a3 u.l.length u.l.length) rfl rfl rfl ?_; intro W5 p1 p2 p3)
    go_ret
    exact ⟨rfl, FIN.out W5 p1 p2 p3⟩
end Go.Proofs.YtlcglkanlhmmdaaGreat
