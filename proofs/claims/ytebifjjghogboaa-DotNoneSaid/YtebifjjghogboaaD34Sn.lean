/- What a Seen holds in memory; its map in the kit's words. -/
import Derived.Test.YtebifjjghogboaaD34Map
import Derived.Test.YtebifjjghogboaaD34P
import Derived.Lib.SlKeysI
namespace Go.Proofs.Ytebifjjghogboaa
open Go.RowKit Go.Maps
def anyR : Value → Option (DataW Unit × List MemPlace) := fun _ => some (.nil, [])
abbrev vI : Int → Value := Value.int .i64
theorem MapS.owns {w : World} {b : Nat} {l : List Id2} (h : MapS w b vI vI l) (hr : ∀ p ∈ l, (Lit.int .i64 p.1).wf = true) (hsz : l.length ≤ 1000) :
    ∃ D : DataW Unit, w.ownsMap Try.prog 3 anyR b l.length D ∧ Maps.size D = l.length ∧ (intKeys D).Perm (l.map Prod.fst) := by
  obtain ⟨es, clock, h1, h2, h3, h4⟩ := h
  have hlen : es.size = l.length := by
    have := congrArg List.length h2
    simpa using this
  have hent : ∀ x ∈ es.toList, ∃ p ∈ l, x.key = vI p.1 := fun x hx => by
    have : (x.key, x.val) ∈ l.map (fun p => (vI p.1, vI p.2)) := by rw [← h2]; exact List.mem_map.2 ⟨x, hx, rfl⟩
    obtain ⟨p, hp, e⟩ := List.mem_map.1 this
    exact ⟨p, hp, (congrArg Prod.fst e).symm⟩
  have hrd : ∀ x ∈ es.toList, ∀ p ∈ l, x.key = vI p.1 → WideElems.rd Try.prog 3 anyR x = some (.int .i64 p.1, .nil) := fun x _ p hp e => by
    unfold WideElems.rd
    rw [e, keyOf_int_mk Try.underlying3 (hr p hp)]
    rfl
  have hkeys : es.toList.map (·.key) = l.map (fun p => vI p.1) := by
    have := congrArg (List.map Prod.fst) h2
    rw [List.map_map, List.map_map] at this
    exact this
  have hrg : es.toList.map (WideElems.rg Try.prog 3 anyR) = l.map (fun p => ((Lit.int .i64 p.1, .nil) : Lit × DataW Unit)) := by
    have e1 : es.toList.map (WideElems.rg Try.prog 3 anyR) = (es.toList.map (·.key)).map (fun v => ((keyOf Try.prog 3 v).map (fun k => (k, DataW.nil))).getD (.bool false, .nil)) := by
      rw [List.map_map]
      refine List.map_congr_left fun x hx => ?_
      obtain ⟨p, hp, e⟩ := hent x hx
      unfold WideElems.rg
      rw [hrd x hx p hp e, Function.comp_apply, e, keyOf_int_mk Try.underlying3 (hr p hp)]
      rfl
    rw [e1, hkeys, List.map_map]
    refine List.map_congr_left fun p hp => ?_
    rw [Function.comp_apply, keyOf_int_mk Try.underlying3 (hr p hp)]
    rfl
  refine ⟨.map ((es.toList.map (WideElems.rg Try.prog 3 anyR)).foldr DataW.insert []), ⟨es, clock, h1, ⟨?_, ?_, ?_⟩, by omega, rfl⟩, ?_, ?_⟩
  · have : (1000 : Nat) ≤ maxLen := by decide
    omega
  · refine ⟨h4.1, h4.2, ?_⟩
    rw [hkeys]
    refine List.pairwise_map.2 ((List.pairwise_map.1 h3).imp fun {a b} hne e => hne ?_)
    simpa using e
  · intro x hx
    obtain ⟨p, hp, e⟩ := hent x hx
    exact ⟨_, hrd x hx p hp e⟩
  · rw [size_eq, length_sorted]
    simp [hlen]
  · show ((_ : List (Lit × DataW Unit)).map fun p => Go.intOf p.1).Perm _
    refine ((WideShapes.sorted_perm _).map _).trans ?_
    rw [hrg, List.map_map]
    refine List.Perm.of_eq (List.map_congr_left fun p _ => ?_)
    rfl
def MapL (w : World) (b : Nat) (L : List Id2) : Prop := ∃ l, MapS w b vI vI l ∧ l.Perm L ∧ Good L
def Sn (w : World) (p b : Nat) (L : List Id2) : Prop := w.heap[p]? = some (.cells #[.map (some b)] 49) ∧ MapL w b L
def SnV (w : World) (v : Value) (L : List Id2) : Prop :=
  (v = .pointer none ∧ L = []) ∨ (∃ p, v = .pointer (some ⟨p, 0, none⟩) ∧ w.heap[p]? = some (.cells #[.map none] 49) ∧ L = []) ∨ ∃ p b, v = .pointer (some ⟨p, 0, none⟩) ∧ Sn w p b L
theorem MapL.good {w : World} {b : Nat} {L : List Id2} (h : MapL w b L) : Good L := by obtain ⟨_, _, _, h⟩ := h; exact h
theorem MapL.of_block {w w' : World} {b : Nat} {L : List Id2} (h : MapL w b L) (hb : w'.heap[b]? = w.heap[b]?) : MapL w' b L := by
  obtain ⟨l, h1, h2⟩ := h
  exact ⟨l, h1.of_block hb, h2⟩
theorem MapL.lt {w : World} {b : Nat} {L : List Id2} (h : MapL w b L) : b < w.heap.size := by
  obtain ⟨l, ⟨_, _, h1, _⟩, _⟩ := h
  exact lt_of_heap h1
theorem Sn.ne {w : World} {p b : Nat} {L : List Id2} (h : Sn w p b L) : p ≠ b := fun e => by
  obtain ⟨h1, l, ⟨_, _, h2, _⟩, _⟩ := h
  subst e
  rw [h1] at h2
  cases h2
theorem Sn.frame {w w' : World} {S : Nat → Prop} {p b : Nat} {L : List Id2} (h : Sn w p b L) (hf : Fr S w w') (h1 : ¬ S p) (h2 : ¬ S b) : Sn w' p b L :=
  ⟨(hf.block p (lt_of_heap h.1) h1).trans h.1, h.2.of_block (hf.block b h.2.lt h2)⟩
theorem Sn.below {w w' : World} {p b : Nat} {L : List Id2} (h : Sn w p b L) (hb : Below w.heap.size w w') : Sn w' p b L :=
  h.frame (S := fun _ => False) (Fr.of_below hb) id id
theorem Sn.v {w : World} {p b : Nat} {L : List Id2} (h : Sn w p b L) : SnV w (.pointer (some ⟨p, 0, none⟩)) L := .inr (.inr ⟨p, b, rfl, h⟩)
theorem SnV.good {w : World} {v : Value} {L : List Id2} (h : SnV w v L) : Good L := by
  rcases h with ⟨_, rfl⟩ | ⟨p, _, _, rfl⟩ | ⟨p, b, _, h⟩
  · exact good_nil
  · exact good_nil
  · exact h.2.good
theorem SnV.below {w w' : World} {v : Value} {L : List Id2} (h : SnV w v L) (hb : Below w.heap.size w w') : SnV w' v L := by
  rcases h with ⟨h1, h2⟩ | ⟨p, h1, h2, h3⟩ | ⟨p, b, h1, h⟩
  · exact .inl ⟨h1, h2⟩
  · exact .inr (.inl ⟨p, h1, (hb.block p (lt_of_heap h2)).trans h2, h3⟩)
  · exact .inr (.inr ⟨p, b, h1, h.below hb⟩)
theorem wf_of {a : Int} (h1 : -9223372036854775808 ≤ a) (h2 : a ≤ 9223372036854775807) : (Lit.int .i64 a).wf = true := by
  have e1 : IntKind.i64.min = -9223372036854775808 := by decide
  have e2 : IntKind.i64.max = 9223372036854775807 := by decide
  simp [Lit.wf, e1, e2, h1, h2]
theorem Good.length {L : List Id2} (h : Good L) : L.length ≤ 1000 := by
  have key : ∀ (n : Nat) (M : List Id2), M.Pairwise (fun p q => p.1 < q.1) → (∀ p ∈ M, (n : Int) < p.1 ∧ p.1 ≤ 1000) → n ≤ 1000 → M.length + n ≤ 1000 := by
    intro n M
    induction M generalizing n with
    | nil => intro _ _ h; simpa using h
    | cons x r ih =>
      intro hp hr _
      have hx := hr x (by simp)
      have hc := List.pairwise_cons.1 hp
      have := ih x.1.toNat hc.2 (fun p hp' => ⟨by have := hc.1 p hp'; omega, (hr p (List.mem_cons_of_mem _ hp')).2⟩) (by omega)
      simp only [List.length_cons]
      omega
  have := key 0 L h.1 (fun p hp => ⟨by have := h.2 p hp; omega, (h.2 p hp).2.1⟩) (by omega)
  omega
end Go.Proofs.Ytebifjjghogboaa
