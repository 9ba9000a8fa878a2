/- The program's table and the document's, plain: what they have. -/
import Derived.Test.YtlcglkanlhmmdaaGreatQN17Nodes
import Derived.Test.YtlcglkanlhmmdaaGreatQN17Find
import Derived.Test.YtlcglkanlhmmdaaGreatQN17Set2
import Derived.Test.YtlcglkanlhmmdaaGreatQN17RSet
namespace Go.Proofs.YtlcglkanlhmmdaaGreat
open Go.RowKit
def tabF (l : List Deed) : List (ByteArray × T) := l.foldl (fun L x => setL L x.nm x.t) []
def refF (l : List Deed) : List (ByteArray × T) := l.foldl (fun R x => rsetL R x.nm x.t) []
theorem tabF_succ {l : List Deed} {k : Nat} {x : Deed} (h : l[k]? = some x) : tabF (l.take (k + 1)) = setL (tabF (l.take k)) x.nm x.t := by
  unfold tabF
  rw [List.take_add_one, h]
  simp
theorem refF_succ {l : List Deed} {k : Nat} {x : Deed} (h : l[k]? = some x) : refF (l.take (k + 1)) = rsetL (refF (l.take k)) x.nm x.t := by
  unfold refF
  rw [List.take_add_one, h]
  simp
/-- The same names, with the same trees. -/
structure Agree (L R : List (ByteArray × T)) : Prop where
  get : ∀ s, getL R s = getL L s
  len : R.length = L.length
  nodR : (R.map Prod.fst).Nodup
  nodL : (L.map Prod.fst).Nodup
theorem Agree.nil : Agree [] [] := ⟨fun _ => rfl, rfl, by simp, by simp⟩
theorem Agree.setE {L R : List (ByteArray × T)} (h : Agree L R) (s : ByteArray) (t : T) : setE R s t = setE L s t := by
  unfold Go.Proofs.YtlcglkanlhmmdaaGreat.setE
  rw [h.get, h.len]
theorem mem_get {L : List (ByteArray × T)} {s : ByteArray} : s ∈ L.map Prod.fst ↔ (getL L s).isSome = true := by
  constructor
  · intro h
    cases hg : getL L s with
    | some v => rfl
    | none =>
      obtain ⟨p, hp, e⟩ := List.mem_map.1 h
      exact absurd e (getL_none.1 hg p hp)
  · intro h
    cases hg : getL L s with
    | none => rw [hg] at h; cases h
    | some v => exact List.mem_map.2 ⟨_, mem_of_getL hg, rfl⟩
theorem putL_length (L : List (ByteArray × T)) (s : ByteArray) (t : T) : (putL L s t).length + (if (getL L s).isSome then 1 else 0) = L.length + 1 := by
  have h := congrArg List.length (keys_putL L s t)
  rw [List.length_map] at h
  by_cases hs : s ∈ L.map Prod.fst
  · rw [if_pos hs, List.length_map] at h
    rw [if_pos (mem_get.1 hs), h]
  · rw [if_neg hs, List.length_append, List.length_map] at h
    rw [if_neg (fun e => hs (mem_get.2 e)), h]
    rfl
theorem Agree.set {L R : List (ByteArray × T)} (h : Agree L R) (s : ByteArray) (t : T) : Agree (setL L s t) (rsetL R s t) := by
  unfold setL rsetL
  rw [h.setE]
  by_cases he : Go.Proofs.YtlcglkanlhmmdaaGreat.setE L s t = 0
  · rw [if_pos he, if_pos he]
    refine ⟨fun y => ?_, ?_, (insG_fst s t (gtS s) R false h.nodR).1, nodup_putL h.nodL⟩
    · rw [insG_get, getL_putL, h.get]
      by_cases hy : y = s
      · rw [if_pos hy, if_pos hy.symm]; rfl
      · rw [if_neg hy, if_neg (Ne.symm hy)]
    · have h1 := insG_length s t (gtS s) R false h.nodR
      have h2 := putL_length L s t
      rw [h.get s, h.len] at h1
      simp only [Bool.false_eq_true, if_false] at h1
      omega
  · rw [if_neg he, if_neg he]
    exact h
theorem agree_all : ∀ (l : List Deed), Agree (tabF l) (refF l) := by
  have key : ∀ (l : List Deed) (L R : List (ByteArray × T)), Agree L R → Agree (l.foldl (fun L x => setL L x.nm x.t) L) (l.foldl (fun R x => rsetL R x.nm x.t) R) := by
    intro l
    induction l with
    | nil => exact fun L R h => h
    | cons x l ih => exact fun L R h => ih _ _ (h.set x.nm x.t)
  exact fun l => key l [] [] Agree.nil
theorem setL_length (L : List (ByteArray × T)) (s : ByteArray) (t : T) : (setL L s t).length ≤ L.length + 1 := by
  unfold setL
  split
  · have := putL_length L s t
    omega
  · omega
theorem tabF_length (l : List Deed) : (tabF l).length ≤ l.length := by
  have key : ∀ (l : List Deed) (L : List (ByteArray × T)), (l.foldl (fun L x => setL L x.nm x.t) L).length ≤ L.length + l.length := by
    intro l
    induction l with
    | nil => exact fun L => Nat.le_refl _
    | cons x l ih =>
      intro L
      have h1 := ih (setL L x.nm x.t)
      have h2 := setL_length L x.nm x.t
      simp only [List.foldl_cons, List.length_cons]
      omega
  have h := key l []
  rw [List.length_nil, Nat.zero_add] at h
  exact h
theorem refF_length (l : List Deed) : (refF l).length ≤ l.length := by rw [(agree_all l).len]; exact tabF_length l
theorem setE_zero {L : List (ByteArray × T)} {s : ByteArray} {t : T} (h : setE L s t = 0) : nameP s = true ∧ checkP t = 0 ∧ calT t [] false = false := by
  unfold setE at h
  by_cases h1 : nameP s = false
  · rw [if_pos h1] at h; cases h
  · rw [if_neg h1] at h
    by_cases h2 : checkP t ≠ 0
    · rw [if_pos h2] at h; exact absurd h h2
    · rw [if_neg h2] at h
      by_cases h3 : calT t [] false = true
      · rw [if_pos h3] at h; cases h
      · exact ⟨by simpa using h1, by simpa using h2, by simpa using h3⟩
theorem mem_putL {L : List (ByteArray × T)} {s : ByteArray} {t : T} {p : ByteArray × T} (h : p ∈ putL L s t) : p = (s, t) ∨ p ∈ L := by
  induction L with
  | nil => simp [putL] at h; exact .inl h
  | cons a r ih =>
    obtain ⟨x, u⟩ := a
    unfold putL at h
    split at h
    · rcases List.mem_cons.1 h with h | h
      · exact .inl h
      · exact .inr (List.mem_cons_of_mem _ h)
    · rcases List.mem_cons.1 h with h | h
      · exact .inr (by rw [h]; simp)
      · rcases ih h with h | h
        · exact .inl h
        · exact .inr (List.mem_cons_of_mem _ h)
/-- All that a table has was given, and has no free name. -/
theorem tabF_mem {l : List Deed} {p : ByteArray × T} (h : p ∈ tabF l) : ∃ x ∈ l, p = (x.nm, x.t) ∧ calT x.t [] false = false := by
  have key : ∀ (l : List Deed) (L : List (ByteArray × T)), p ∈ l.foldl (fun L x => setL L x.nm x.t) L → p ∈ L ∨ ∃ x ∈ l, p = (x.nm, x.t) ∧ calT x.t [] false = false := by
    intro l
    induction l with
    | nil => exact fun L h => .inl h
    | cons x l ih =>
      intro L h
      rcases ih _ h with h | ⟨y, hy, h⟩
      · have h : p ∈ setL L x.nm x.t := h
        unfold setL at h
        split at h
        · rename_i he
          rcases mem_putL h with h | h
          · exact .inr ⟨x, by simp, h, (setE_zero he).2.2⟩
          · exact .inl h
        · exact .inl h
      · exact .inr ⟨y, List.mem_cons_of_mem _ hy, h⟩
  rcases key l [] h with h | h
  · cases h
  · exact h
theorem subL_agree (l : List Deed) : subL (refF l) = subL (tabF l) := funext fun s => (agree_all l).get s
end Go.Proofs.YtlcglkanlhmmdaaGreat
/- What lies beside blocks that change: trees, rows and tables do not lie in blocks of one cell, nor in maps. -/
namespace Go.Proofs.YtlcglkanlhmmdaaGreat
open Go.RowKit
/-- A block that has no cell, but perhaps a first one. -/
def Thin (w : World) (k : Nat) : Prop := ∀ j, 1 ≤ j → w.cell? ⟨k, j, none⟩ = none
theorem thin_cells {w : World} {k : Nat} {x : Value} {ty : TypeId} {fz : Nat × Nat} (h : w.heap[k]? = some (.cells #[x] ty fz)) : Thin w k := fun j hj => by
  rw [cell_of_heap h]
  simp
  omega
theorem thin_map {w : World} {k c : Nat} {es : Array MapEntry} (h : w.heap[k]? = some (.map es c)) : Thin w k := fun j _ => by simp [World.cell?, h]
theorem cell_fr {S : Nat → Prop} {w w' : World} (hf : Fr S w w') {b o : Nat} (hb : b < w.heap.size) (hS : ¬ S b) : w'.cell? ⟨b, o, none⟩ = w.cell? ⟨b, o, none⟩ := by
  unfold World.cell?
  rw [hf.block b hb hS]
theorem T.At.thin {S : Nat → Prop} {w w' : World} (hf : Fr S w w') (hS : ∀ k, S k → Thin w k) (t : T) : ∀ {a : Option Addr}, t.At w a → t.At w' a := by
  induction t using T.ind with
  | h o l ih =>
    intro a h
    rw [T.at_mk] at h ⊢
    intro h0
    obtain ⟨b, off, e, h1, h2⟩ := h h0
    have hb : ¬ S b := fun hb => by
      obtain ⟨a', c', h3, _⟩ := h2 0 l[0] (List.getElem?_eq_getElem h0)
      have h4 := h3 1 (by omega)
      rw [hS b hb _ (by omega)] at h4
      have h5 : (ncells l[0].o (.slice a' l[0].l.length c'))[1]? = some (.int .i64 l[0].o.v.k) := rfl
      rw [h5] at h4
      cases h4
    refine ⟨b, off, e, Nat.lt_of_lt_of_le h1 hf.size, fun i t ht => ?_⟩
    obtain ⟨a', c', h3, h4⟩ := h2 i t ht
    exact ⟨a', c', fun j hj => (cell_fr hf h1 hb).trans (h3 j hj), ih t (List.mem_of_getElem? ht) h4⟩
theorem IsT.thin {S : Nat → Prop} {w w' : World} (hf : Fr S w w') (hS : ∀ k, S k → Thin w k) {v : Value} {t : T} (h : IsT w v t) : IsT w' v t := by
  obtain ⟨a, cap, e, h⟩ := h
  exact ⟨a, cap, e, h.thin hf hS t⟩
theorem RowsAt.thin {S : Nat → Prop} {w w' : World} (hf : Fr S w w') (hS : ∀ k, S k → Thin w k) {a : Option Addr} {R : List (ByteArray × T)} (h : RowsAt w a R) : RowsAt w' a R := fun h0 => by
  obtain ⟨b, off, e, h1, h2⟩ := h h0
  have hb : ¬ S b := fun hb => by
    obtain ⟨_, a', c', h3, _⟩ := h2 0 R[0].1 R[0].2 (List.getElem?_eq_getElem h0)
    have h4 := h3 1 (by omega)
    rw [hS b hb _ (by omega)] at h4
    have h5 : (ncells R[0].2.o (.slice a' R[0].2.l.length c'))[1]? = some (.int .i64 R[0].2.o.v.k) := rfl
    rw [h5] at h4
    cases h4
  refine ⟨b, off, e, Nat.lt_of_lt_of_le h1 hf.size, fun i s t hi => ?_⟩
  obtain ⟨h3, a', cap', h4, h5⟩ := h2 i s t hi
  exact ⟨(cell_fr hf h1 hb).trans h3, a', cap', fun j hj => (cell_fr hf h1 hb).trans (h4 j hj), h5.thin hf hS t⟩
theorem TabL.thin {S : Nat → Prop} {w w' : World} (hf : Fr S w w') (hS : ∀ k, S k → Thin w k) {vs : List (ByteArray × Value)} {L : List (ByteArray × T)} (h : TabL w vs L) : TabL w' vs L := by
  refine ⟨h.1, fun i s t hi => ?_⟩
  obtain ⟨v, h1, h2⟩ := h.2 i s t hi
  exact ⟨v, h1, h2.thin hf hS⟩
theorem TabK.thin {S : Nat → Prop} {K pt : Nat} {w w' : World} (hf : Fr S w w') (hS : ∀ k, S k → Thin w k) {mo : Option Nat} {L : List (ByteArray × T)} (h : TabK K w pt mo L) (hp : ¬ S pt) (hm : ∀ mt, mo = some mt → ¬ S mt) : TabK K w' pt mo L := by
  refine ⟨(hf.block pt (lt_of_heap h.1) hp).trans h.1, ?_, h.2.2⟩
  have hV := h.2.1
  cases mo with
  | none => exact hV
  | some mt =>
    obtain ⟨vs, h1, h2⟩ := hV
    exact ⟨vs, h1.of_block (hf.block mt h1.lt' (hm mt rfl)), h2.thin hf hS⟩
/-- What Set changes is thin. -/
theorem TabK.thins {K pt : Nat} {w : World} {mo : Option Nat} {L : List (ByteArray × T)} (h : TabK K w pt mo L) : ∀ k, (K ≤ k ∧ (k = pt ∨ mo = some k)) → Thin w k := by
  rintro k ⟨_, rfl | rfl⟩
  · exact thin_cells h.1
  · obtain ⟨vs, h1, _⟩ := h.2.1
    obtain ⟨es, c, hm, _⟩ := h1
    exact thin_map hm
theorem TabK.map_ne {K pt : Nat} {w : World} {mo : Option Nat} {L : List (ByteArray × T)} (h : TabK K w pt mo L) {b : Nat} {cs : Array Value} {ty : TypeId} {fz : Nat × Nat} (hb : w.heap[b]? = some (.cells cs ty fz)) : ∀ mt, mo = some mt → mt ≠ b := by
  rintro mt rfl e
  obtain ⟨vs, h1, _⟩ := h.2.1
  obtain ⟨es, c, hm, _⟩ := h1
  rw [e, hb] at hm
  cases hm
end Go.Proofs.YtlcglkanlhmmdaaGreat
