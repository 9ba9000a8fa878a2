/- Trees in memory of their own: each row a block, no two rows one. -/
import Derived.Laws.CopyRow
import Derived.Test.YtlcglkanlhmmdaaGreatQBase
import Derived.Test.YtlcglkanlhmmdaaGreatQN17Nodes
import Derived.Test.YtlcglkanlhmmdaaGreatQN17Alike
import Derived.Test.YtlcglkanlhmmdaaGreatQN17Walk
namespace Go.Proofs.YtlcglkanlhmmdaaGreat
open Go.RowKit
/-- The cells of a row of nodes. -/
def rowC (es : List (Nd × Value)) : List Value := es.flatMap fun p => ncells p.1 p.2
theorem rowC_length (es : List (Nd × Value)) : (rowC es).length = es.length * 22 := by
  induction es with
  | nil => rfl
  | cons x r ih => unfold rowC at ih ⊢; rw [List.flatMap_cons, List.length_append, ih]; show 22 + _ = (r.length + 1) * 22; omega
theorem rowC_at {es : List (Nd × Value)} {i j : Nat} {o : Nd} {s : Value} (h : es[i]? = some (o, s)) (hj : j < 22) : (rowC es)[i * 22 + j]? = (ncells o s)[j]? := by
  induction es generalizing i with
  | nil => simp at h
  | cons x r ih =>
    have e : rowC (x :: r) = ncells x.1 x.2 ++ rowC r := rfl
    have hl : (ncells x.1 x.2).length = 22 := rfl
    cases i with
    | zero =>
      simp at h
      subst h
      rw [e, Nat.zero_mul, Nat.zero_add, List.getElem?_append_left (by rw [hl]; exact hj)]
    | succ i =>
      rw [e, List.getElem?_append_right (by rw [hl]; omega), hl]
      rw [show (i + 1) * 22 + j - 22 = i * 22 + j by omega]
      exact ih (by simpa using h)
theorem rowC_set {es : List (Nd × Value)} {i : Nat} {o : Nd} {s : Value} (h : es[i]? = some (o, s)) (v : Value) : (rowC es).set (i * 22 + 21) v = rowC (es.set i (o, v)) := by
  induction es generalizing i with
  | nil => simp at h
  | cons x r ih =>
    have e : rowC (x :: r) = ncells x.1 x.2 ++ rowC r := rfl
    have hl : (ncells x.1 x.2).length = 22 := rfl
    cases i with
    | zero =>
      simp at h
      subst h
      rw [e, List.set_append_left _ _ (by rw [hl]; omega)]
      rfl
    | succ i =>
      rw [e, List.set_append_right _ _ (by rw [hl]; omega), hl, show (i + 1) * 22 + 21 - 22 = i * 22 + 21 by omega, ih (by simpa using h)]
      rfl
theorem rowC_put {es : List (Nd × Value)} {i : Nat} {C : List Value} {o : Nd} {v : Value} (hi : i < es.length) (hl : C.length = es.length * 22) (hin : ∀ j, j < 22 → C[i * 22 + j]? = (ncells o v)[j]?)
    (hout : ∀ j, j < i * 22 ∨ i * 22 + 22 ≤ j → C[j]? = (rowC es)[j]?) : C = rowC (es.set i (o, v)) := by
  apply List.ext_getElem?
  intro j
  by_cases hj : j < es.length * 22
  · have e : j = (j / 22) * 22 + j % 22 := by omega
    have hm : j % 22 < 22 := Nat.mod_lt _ (by omega)
    have hq : j / 22 < es.length := by omega
    by_cases hqi : j / 22 = i
    · rw [e, hqi, hin _ hm, rowC_at (o := o) (s := v) (by rw [List.getElem?_set_self hi]) hm]
    · rw [hout j (by omega)]
      obtain ⟨⟨o', s'⟩, hx⟩ : ∃ x, es[j / 22]? = some x := ⟨_, List.getElem?_eq_getElem hq⟩
      rw [e, rowC_at hx hm, rowC_at (o := o') (s := s') (by rw [List.getElem?_set_ne (Ne.symm hqi)]; exact hx) hm]
  · rw [List.getElem?_eq_none (by omega), List.getElem?_eq_none (by rw [rowC_length, List.length_set]; omega)]
theorem nd_row {w : World} {b i : Nat} {es : List (Nd × Value)} {o : Nd} {s : Value} {ty : TypeId} (hb : w.heap[b]? = some (.cells (rowC es).toArray ty)) (h : es[i]? = some (o, s)) : NdAt w b (i * 22) o s := fun j hj => by
  rw [cell_of_heap hb, List.getElem?_toArray]
  exact rowC_at h hj
/-- A tree in memory of its own: S tells which blocks. -/
def T.Own (w : World) : T → Option Addr → (Nat → Prop) → Prop
  | .mk _ l, a, S => 0 < l.length → ∃ (b : Nat) (es : List (Nd × Value)) (Si : Nat → Nat → Prop), a = some ⟨b, 0, none⟩ ∧ S b ∧ w.heap[b]? = some (.cells (rowC es).toArray 42) ∧ es.length = l.length ∧
      ∀ (i : Nat) (hi : i < l.length), (∃ a' c', es[i]? = some (l[i].o, .slice a' l[i].l.length c') ∧ T.Own w l[i] a' (Si i)) ∧ (∀ k, Si i k → S k ∧ k ≠ b ∧ ∀ j, j < i → ¬ Si j k)
termination_by t => SizeOf.sizeOf t
decreasing_by exact T.lt (List.getElem_mem _)
theorem T.own_mk {w : World} {o : Nd} {l : List T} {a : Option Addr} {S : Nat → Prop} : (T.mk o l).Own w a S ↔ (0 < l.length → ∃ (b : Nat) (es : List (Nd × Value)) (Si : Nat → Nat → Prop), a = some ⟨b, 0, none⟩ ∧ S b ∧ w.heap[b]? = some (.cells (rowC es).toArray 42) ∧ es.length = l.length ∧
    ∀ (i : Nat) (t : T), l[i]? = some t → (∃ a' c', es[i]? = some (t.o, .slice a' t.l.length c') ∧ t.Own w a' (Si i)) ∧ (∀ k, Si i k → S k ∧ k ≠ b ∧ ∀ j, j < i → ¬ Si j k)) := by
  rw [T.Own]
  constructor
  · intro h h0
    obtain ⟨b, es, Si, h1, h2, h3, h4, h5⟩ := h h0
    refine ⟨b, es, Si, h1, h2, h3, h4, fun i t ht => ?_⟩
    obtain ⟨hi, rfl⟩ := List.getElem?_eq_some_iff.1 ht
    exact h5 i hi
  · intro h h0
    obtain ⟨b, es, Si, h1, h2, h3, h4, h5⟩ := h h0
    exact ⟨b, es, Si, h1, h2, h3, h4, fun i hi => h5 i l[i] (List.getElem?_eq_getElem hi)⟩
theorem T.Own.frame {w w' : World} (t : T) : ∀ {a : Option Addr} {S : Nat → Prop}, t.Own w a S → (∀ k, S k → k < w.heap.size → w'.heap[k]? = w.heap[k]?) → t.Own w' a S := by
  induction t using T.ind with
  | h o l ih =>
    intro a S h hf
    rw [T.own_mk] at h ⊢
    intro h0
    obtain ⟨b, es, Si, h1, h2, h3, h4, h5⟩ := h h0
    refine ⟨b, es, Si, h1, h2, (hf b h2 (lt_of_heap h3)).trans h3, h4, fun i t ht => ?_⟩
    obtain ⟨⟨a', c', p1, p2⟩, p3⟩ := h5 i t ht
    exact ⟨⟨a', c', p1, ih t (List.mem_of_getElem? ht) p2 (fun k hk hlt => hf k (p3 k hk).1 hlt)⟩, p3⟩
theorem T.Own.mono {w : World} (t : T) {a : Option Addr} {S S' : Nat → Prop} (h : t.Own w a S) (hs : ∀ k, S k → S' k) : t.Own w a S' := by
  obtain ⟨o, l⟩ := t
  rw [T.own_mk] at h ⊢
  intro h0
  obtain ⟨b, es, Si, h1, h2, h3, h4, h5⟩ := h h0
  exact ⟨b, es, Si, h1, hs b h2, h3, h4, fun i t ht => ⟨(h5 i t ht).1, fun k hk => ⟨hs k ((h5 i t ht).2 k hk).1, ((h5 i t ht).2 k hk).2⟩⟩⟩
theorem T.Own.at {w : World} (t : T) : ∀ {a : Option Addr} {S : Nat → Prop}, t.Own w a S → t.At w a := by
  induction t using T.ind with
  | h o l ih =>
    intro a S h
    rw [T.own_mk] at h
    rw [T.at_mk]
    intro h0
    obtain ⟨b, es, Si, h1, h2, h3, h4, h5⟩ := h h0
    refine ⟨b, 0, h1, lt_of_heap h3, fun i t ht => ?_⟩
    obtain ⟨⟨a', c', p1, p2⟩, p3⟩ := h5 i t ht
    refine ⟨a', c', fun j hj => ?_, ih t (List.mem_of_getElem? ht) p2⟩
    rw [Nat.zero_add]
    exact nd_row h3 p1 j hj
theorem T.Own.nil {w : World} {o : Nd} (S : Nat → Prop) (a : Option Addr) : (T.mk o []).Own w a S := by
  rw [T.own_mk]
  intro h
  cases h
end Go.Proofs.YtlcglkanlhmmdaaGreat
/- Trees in which free names are replaced: plain. -/
namespace Go.Proofs.YtlcglkanlhmmdaaGreat
open Go.RowKit
def letP (o : Nd) (l : List T) : Bool := decide (o.k = 4) && (o.nm.toList == [76, 69, 84]) && decide (3 ≤ l.length) && decide (l.length % 2 = 1)
/-- May the i-th below only tell a name? -/
def tlP (o : Nd) (l : List T) (i : Nat) : Bool := letP o l && decide (i % 2 = 0) && decide (i + 1 < l.length)
/-- The names that are bound ahead of the i-th, in a LET. -/
def bnL (l : List T) : Nat → List ByteArray
  | 0 => []
  | i + 1 => bnL l i ++ (if i % 2 = 1 ∧ (l[i - 1]?.map fun c => c.o.k) = some 7 then [((l[i - 1]?.map fun c => c.o.nm).getD ⟨#[]⟩)] else [])
def bnP (o : Nd) (l : List T) (i : Nat) : List ByteArray := if letP o l then bnL l i else []
def inL (s : ByteArray) (l : List ByteArray) : Bool := l.any fun x => x.toList == s.toList
def cntL (s : ByteArray) (l : List ByteArray) : Nat := l.countP fun x => decide (x = s)
theorem cnt_append (s : ByteArray) (l r : List ByteArray) : cntL s (l ++ r) = cntL s l + cntL s r := List.countP_append
theorem cntL_le (s : ByteArray) (l : List ByteArray) : cntL s l ≤ l.length := List.countP_le_length
theorem cnt_one (s t : ByteArray) : cntL s [t] = if t = s then 1 else 0 := by
  unfold cntL
  by_cases h : t = s <;> simp [h]
theorem cnt_zero (s : ByteArray) (l : List ByteArray) : decide (cntL s l = 0) = !inL s l := by
  rw [Bool.eq_iff_iff]
  unfold cntL inL
  simp only [decide_eq_true_eq, List.countP_eq_zero, Bool.not_eq_true', List.any_eq_false, beq_iff_eq, str_eq]
def hereP (o : Nd) (ar : List ByteArray) (told : Bool) : Bool := decide (o.k = 7) && !told && !inL o.nm ar
def expT (sub : ByteArray → Option T) : T → List ByteArray → Bool → T
  | .mk o l, ar, told =>
    let kids := l.zipIdx.attach.map fun p => expT sub p.1.1 (ar ++ bnP o l p.1.2) (tlP o l p.1.2)
    if hereP o ar told then (sub o.nm).getD (.mk o kids) else .mk o kids
termination_by t => SizeOf.sizeOf t
decreasing_by exact T.lt (List.fst_mem_of_mem_zipIdx p.2)
def kidE (sub : ByteArray → Option T) (o : Nd) (l : List T) (ar : List ByteArray) (i : Nat) (c : T) : T := expT sub c (ar ++ bnP o l i) (tlP o l i)
def kidsE (sub : ByteArray → Option T) (o : Nd) (l : List T) (ar : List ByteArray) : List T := l.zipIdx.map fun p => kidE sub o l ar p.2 p.1
theorem map_sub {α β : Type} {q : α → Prop} (f : α → β) (l : List { x : α // q x }) : l.map (fun p => f p.1) = (l.map Subtype.val).map f := by rw [List.map_map]; rfl
theorem expT_mk (sub : ByteArray → Option T) (o : Nd) (l : List T) (ar : List ByteArray) (told : Bool) : expT sub (.mk o l) ar told = if hereP o ar told then (sub o.nm).getD (.mk o (kidsE sub o l ar)) else .mk o (kidsE sub o l ar) := by
  rw [expT]
  have : (l.zipIdx.attach.map fun p => expT sub p.1.1 (ar ++ bnP o l p.1.2) (tlP o l p.1.2)) = kidsE sub o l ar := by
    unfold kidsE
    have h := map_sub (fun p : T × Nat => kidE sub o l ar p.2 p.1) l.zipIdx.attach
    rw [List.attach_map_subtype_val] at h
    exact h
  rw [this]
theorem kidsE_length (sub : ByteArray → Option T) (o : Nd) (l : List T) (ar : List ByteArray) : (kidsE sub o l ar).length = l.length := by simp [kidsE]
theorem kidsE_at {sub : ByteArray → Option T} {o : Nd} {l : List T} {ar : List ByteArray} {i : Nat} {c : T} (h : l[i]? = some c) : (kidsE sub o l ar)[i]? = some (kidE sub o l ar i c) := by
  unfold kidsE
  rw [List.getElem?_map, List.getElem?_zipIdx, h]
  simp
theorem exp_told_o (sub : ByteArray → Option T) (c : T) (ar : List ByteArray) : (expT sub c ar true).o = c.o := by
  obtain ⟨o, l⟩ := c
  rw [expT_mk, show hereP o ar true = false by simp [hereP]]
  rfl
theorem exp_nok {sub : ByteArray → Option T} {c : T} (ar : List ByteArray) (h : c.o.k ≠ 7) (b b' : Bool) : expT sub c ar b = expT sub c ar b' := by
  obtain ⟨o, l⟩ := c
  have h' : ∀ b, hereP o ar b = false := fun b => by
    have : decide (o.k = 7) = false := decide_eq_false h
    simp [hereP, this]
  rw [expT_mk, expT_mk, h', h']
/-- Is any name free? -/
def calT : T → List ByteArray → Bool → Bool
  | .mk o l, ar, told => hereP o ar told || (l.zipIdx.attach.any fun p => calT p.1.1 (ar ++ bnP o l p.1.2) (tlP o l p.1.2))
termination_by t => SizeOf.sizeOf t
decreasing_by exact T.lt (List.fst_mem_of_mem_zipIdx p.2)
def kidC (o : Nd) (l : List T) (ar : List ByteArray) (i : Nat) (c : T) : Bool := calT c (ar ++ bnP o l i) (tlP o l i)
theorem calT_mk (o : Nd) (l : List T) (ar : List ByteArray) (told : Bool) : calT (.mk o l) ar told = (hereP o ar told || l.zipIdx.any fun p => kidC o l ar p.2 p.1) := by
  rw [calT]
  congr 1
  rw [Bool.eq_iff_iff, List.any_eq_true, List.any_eq_true]
  constructor
  · rintro ⟨p, _, h⟩
    exact ⟨p.1, p.2, h⟩
  · rintro ⟨p, hp, h⟩
    exact ⟨⟨p, hp⟩, List.mem_attach _ _, h⟩
/-- The first i kids are expanded. -/
def mid (sub : ByteArray → Option T) (o : Nd) (l : List T) (ar : List ByteArray) (i : Nat) : List T := (kidsE sub o l ar).take i ++ l.drop i
theorem mid_zero (sub : ByteArray → Option T) (o : Nd) (l : List T) (ar : List ByteArray) : mid sub o l ar 0 = l := by simp [mid]
theorem mid_all {sub : ByteArray → Option T} {o : Nd} {l : List T} {ar : List ByteArray} {i : Nat} (h : l.length ≤ i) : mid sub o l ar i = kidsE sub o l ar := by
  unfold mid
  rw [List.take_of_length_le (by rw [kidsE_length]; exact h), List.drop_of_length_le h, List.append_nil]
theorem mid_length (sub : ByteArray → Option T) (o : Nd) (l : List T) (ar : List ByteArray) (i : Nat) : (mid sub o l ar i).length = l.length := by
  unfold mid
  rw [List.length_append, List.length_take, List.length_drop, kidsE_length]
  omega
theorem mid_at {sub : ByteArray → Option T} {o : Nd} {l : List T} {ar : List ByteArray} {i : Nat} (hi : i < l.length) : (mid sub o l ar i)[i]? = l[i]? := by
  unfold mid
  rw [List.getElem?_append_right (by rw [List.length_take, kidsE_length]; omega), List.length_take, kidsE_length, Nat.min_eq_left (by omega), Nat.sub_self, List.getElem?_drop, Nat.add_zero]
theorem mid_set {sub : ByteArray → Option T} {o : Nd} {l : List T} {ar : List ByteArray} {i : Nat} {c : T} (h : l[i]? = some c) : (mid sub o l ar i).set i (kidE sub o l ar i c) = mid sub o l ar (i + 1) := by
  obtain ⟨hi, rfl⟩ := List.getElem?_eq_some_iff.1 h
  unfold mid
  have hk := kidsE_at (sub := sub) (o := o) (ar := ar) h
  rw [List.set_append_right _ _ (by rw [List.length_take, kidsE_length]; omega), List.length_take, kidsE_length, Nat.min_eq_left (by omega), Nat.sub_self, List.drop_eq_getElem_cons hi, List.set_cons_zero, List.take_add_one, hk]
  simp
theorem mid_done {sub : ByteArray → Option T} {o : Nd} {l : List T} {ar : List ByteArray} {i j : Nat} {c : T} (h : l[j]? = some c) (hj : j < i) : (mid sub o l ar i)[j]? = some (kidE sub o l ar j c) := by
  have hjl := (List.getElem?_eq_some_iff.1 h).1
  unfold mid
  rw [List.getElem?_append_left (by rw [List.length_take, kidsE_length]; omega), List.getElem?_take, if_pos hj]
  exact kidsE_at h
def anyC (o : Nd) (l : List T) (ar : List ByteArray) (i : Nat) : Bool := (l.zipIdx.take i).any fun p => kidC o l ar p.2 p.1
theorem anyC_zero (o : Nd) (l : List T) (ar : List ByteArray) : anyC o l ar 0 = false := by simp [anyC]
theorem anyC_succ {o : Nd} {l : List T} {ar : List ByteArray} {i : Nat} {c : T} (h : l[i]? = some c) : anyC o l ar (i + 1) = (anyC o l ar i || kidC o l ar i c) := by
  unfold anyC
  have : l.zipIdx[i]? = some (c, i) := by rw [List.getElem?_zipIdx, h]; simp
  rw [List.take_add_one, this, List.any_append]
  simp
theorem anyC_all {o : Nd} {l : List T} {ar : List ByteArray} {i : Nat} (h : l.length ≤ i) (told : Bool) : calT (.mk o l) ar told = (hereP o ar told || anyC o l ar i) := by
  rw [calT_mk]
  unfold anyC
  rw [List.take_of_length_le (by simpa using h)]
theorem bnL_length (l : List T) : ∀ i, (bnL l i).length ≤ i
  | 0 => Nat.le_refl _
  | i + 1 => by
    have := bnL_length l i
    rw [bnL, List.length_append]
    split
    · simp; omega
    · simp; omega
theorem bnP_length (o : Nd) (l : List T) (i : Nat) : (bnP o l i).length ≤ i := by
  unfold bnP
  split
  · exact bnL_length l i
  · exact Nat.zero_le _
end Go.Proofs.YtlcglkanlhmmdaaGreat
/- A node that a walk goes through: read alone, or in memory of its own. -/
namespace Go.Proofs.YtlcglkanlhmmdaaGreat
open Go.RowKit
theorem T.At.keep {w W : World} (hk : Keep w W) (t : T) : ∀ {a : Option Addr}, t.At w a → t.At W a := by
  induction t using T.ind with
  | h o l ih =>
    intro a h
    rw [T.at_mk] at h ⊢
    intro h0
    obtain ⟨b, off, e, h1, h2⟩ := h h0
    refine ⟨b, off, e, Nat.lt_of_lt_of_le h1 hk.size, fun i t ht => ?_⟩
    obtain ⟨a', cap', h3, h4⟩ := h2 i t ht
    exact ⟨a', cap', hk.nd h3, ih t (List.mem_of_getElem? ht) h4⟩
structure NodO (w : World) (b off : Nat) (t : T) (S : Nat → Prop) : Prop where
  row : ∃ (C : List Value) (a : Option Addr) (cap : Nat), w.heap[b]? = some (.cells C.toArray 42) ∧ (∀ j, j < 22 → C[off + j]? = (ncells t.o (.slice a t.l.length cap))[j]?) ∧ t.Own w a S
  out : ¬ S b
  lt : ∀ k, S k → k < w.heap.size
/-- At b, off: a node, and its tree; m: may it be changed? -/
def Nod (m : Bool) (w0 w : World) (b off : Nat) (t : T) (S : Nat → Prop) : Prop :=
  (m = false → Keep w0 w ∧ (⟨b, off, t, 0⟩ : Item).ok w0) ∧ (m = true → NodO w b off t S)
theorem Nod.nd {m : Bool} {w0 w : World} {b off : Nat} {t : T} {S : Nat → Prop} (h : Nod m w0 w b off t S) : ∃ a cap, NdAt w b off t.o (.slice a t.l.length cap) ∧ b < w.heap.size ∧ t.At w a := by
  cases m with
  | false =>
    obtain ⟨hk, a, cap, h1, h2, h3⟩ := h.1 rfl
    exact ⟨a, cap, hk.nd h2, Nat.lt_of_lt_of_le h1 hk.size, h3.keep hk⟩
  | true =>
    obtain ⟨⟨C, a, cap, h1, h2, h3⟩, _, _⟩ := h.2 rfl
    exact ⟨a, cap, fun j hj => by rw [cell_of_heap h1, List.getElem?_toArray]; exact h2 j hj, lt_of_heap h1, h3.at⟩
structure PostW (m : Bool) (w0 w w' : World) (b off : Nat) (t' : T) (S M : Nat → Prop) : Prop where
  fr : Fr (fun k => M k ∨ (m = true ∧ (S k ∨ k = b))) w w'
  nod : ∃ S', Nod m w0 w' b off t' S' ∧ ∀ k, S' k → S k ∨ w.heap.size ≤ k
  row : m = true → ∀ C : List Value, w.heap[b]? = some (.cells C.toArray 42) → ∃ C' : List Value, w'.heap[b]? = some (.cells C'.toArray 42) ∧ C'.length = C.length ∧ ∀ j, j < off ∨ off + 22 ≤ j → C'[j]? = C[j]?
theorem PostW.refl {m : Bool} {w0 w : World} {b off : Nat} {t : T} {S : Nat → Prop} (h : Nod m w0 w b off t S) (M : Nat → Prop) : PostW m w0 w w b off t S M :=
  ⟨Fr.refl _ _, ⟨S, h, fun _ h => .inl h⟩, fun _ C hC => ⟨C, hC, rfl, fun _ _ => rfl⟩⟩
theorem PostW.comp {m : Bool} {w0 w w1 w2 : World} {b off : Nat} {t1 t2 : T} {S S' M : Nat → Prop} (h : PostW m w0 w w1 b off t1 S M) (hs : ∀ k, S' k → S k ∨ w.heap.size ≤ k) (k : PostW m w0 w1 w2 b off t2 S' M) : PostW m w0 w w2 b off t2 S M := by
  refine ⟨h.fr.trans k.fr (fun i hi hc => ?_), ?_, fun hm C hC => ?_⟩
  · rcases hc with hc | ⟨hm, hc | hc⟩
    · exact .inl hc
    · rcases hs i hc with h1 | h1
      · exact .inr ⟨hm, .inl h1⟩
      · omega
    · exact .inr ⟨hm, .inr hc⟩
  · obtain ⟨S2, h1, h2⟩ := k.nod
    refine ⟨S2, h1, fun i hi => ?_⟩
    rcases h2 i hi with h3 | h3
    · exact hs i h3
    · exact .inr (Nat.le_trans h.fr.size h3)
  · obtain ⟨C1, p1, p2, p3⟩ := h.row hm C hC
    obtain ⟨C2, q1, q2, q3⟩ := k.row hm C1 p1
    exact ⟨C2, q1, q2.trans p2, fun j hj => (q3 j hj).trans (p3 j hj)⟩
/-- Blocks of M alone have changed. -/
theorem Nod.fr {m : Bool} {w0 w w' : World} {b off : Nat} {t : T} {S M : Nat → Prop} (h : Nod m w0 w b off t S) (hf : Fr M w w') (h0 : m = false → ∀ k, M k → w0.heap.size ≤ k) (h1 : m = true → ∀ k, M k → ¬ S k ∧ k ≠ b) : Nod m w0 w' b off t S := by
  refine ⟨fun hm => ?_, fun hm => ?_⟩
  · obtain ⟨p1, p2⟩ := h.1 hm
    exact ⟨⟨Nat.le_trans p1.size hf.size, fun k o hk ho => (hf.block k (lt_of_heap (p1.same k o hk ho)) (fun hM => by have := h0 hm k hM; have := lt_of_heap hk; omega)).trans (p1.same k o hk ho)⟩, p2⟩
  · obtain ⟨⟨C, a, cap, p1, p2, p3⟩, q1, q2⟩ := h.2 hm
    exact ⟨⟨C, a, cap, (hf.block b (lt_of_heap p1) (fun hM => (h1 hm b hM).2 rfl)).trans p1, p2, p3.frame t (fun k hk hl => hf.block k hl (fun hM => (h1 hm k hM).1 hk))⟩, q1, fun k hk => Nat.lt_of_lt_of_le (q2 k hk) hf.size⟩
theorem PostW.of_fr {m : Bool} {w0 w w' : World} {b off : Nat} {t : T} {S M : Nat → Prop} (h : Nod m w0 w b off t S) (hf : Fr M w w') (h0 : m = false → ∀ k, M k → w0.heap.size ≤ k) (h1 : m = true → ∀ k, M k → ¬ S k ∧ k ≠ b) : PostW m w0 w w' b off t S M :=
  ⟨hf.mono (fun _ _ h => .inl h), ⟨S, h.fr hf h0 h1, fun _ h => .inl h⟩, fun hm C hC => ⟨C, (hf.block b (lt_of_heap hC) (fun hM => (h1 hm b hM).2 rfl)).trans hC, rfl, fun _ _ => rfl⟩⟩
theorem kid_open {m : Bool} {w0 w : World} {b off i : Nat} {o : Nd} {l : List T} {t : T} {S M : Nat → Prop} (h : Nod m w0 w b off (.mk o l) S) (ht : l[i]? = some t) (hM : m = true → ∀ k, M k → ¬ S k ∧ k ≠ b) :
    ∃ (g go cap : Nat) (Si : Nat → Prop), NdAt w b off o (.slice (some ⟨g, go, none⟩) l.length cap) ∧ g < w.heap.size ∧ Nod m w0 w g (go + i * 22) t Si ∧ (m = true → (∀ k, Si k → S k) ∧ S g) ∧
      (∀ (j : Nat) (u : T), l[j]? = some u → ∃ s, NdAt w g (go + j * 22) u.o s) ∧
      ∀ w' t', PostW m w0 w w' g (go + i * 22) t' Si M → PostW m w0 w w' b off (.mk o (l.set i t')) S M := by
  have hil : i < l.length := (List.getElem?_eq_some_iff.1 ht).1
  cases m with
  | false =>
    obtain ⟨hk, a, cap, h1, h2, h3⟩ := h.1 rfl
    obtain ⟨g, go, e, h4, h5⟩ := T.at_mk.1 h3 (by omega)
    obtain ⟨a', cap', h6, h7⟩ := h5 i t ht
    change NdAt w0 b off o (.slice a l.length cap) at h2
    rw [e] at h2
    refine ⟨g, go, cap, fun _ => False, hk.nd h2, Nat.lt_of_lt_of_le h4 hk.size, ⟨fun _ => ⟨hk, a', cap', h4, h6, h7⟩, (fun h => by cases h)⟩, (fun h => by cases h), fun j u hu => ?_, fun w' t' hp => ?_⟩
    · obtain ⟨a2, c2, p1, _⟩ := h5 j u hu
      exact ⟨_, hk.nd p1⟩
    · obtain ⟨S', hn, _⟩ := hp.nod
      obtain ⟨hk', a2, c2, p1, p2, p3⟩ := hn.1 rfl
      refine ⟨hp.fr.mono (fun k _ hc => ?_), ⟨S, ⟨fun _ => ⟨hk', a, cap, h1, ?_, ?_⟩, (fun h => by cases h)⟩, fun _ h => .inl h⟩, (fun h => by cases h)⟩
      · rcases hc with hc | ⟨hc, _⟩
        · exact .inl hc
        · cases hc
      · show NdAt w0 b off o (.slice a (l.set i t').length cap)
        rw [List.length_set, e]
        exact h2
      · rw [T.at_mk]
        intro _
        refine ⟨g, go, e, h4, fun j u hu => ?_⟩
        by_cases hji : i = j
        · subst hji
          rw [List.getElem?_set_self hil] at hu
          cases hu
          exact ⟨a2, c2, p2, p3⟩
        · rw [List.getElem?_set_ne hji] at hu
          exact h5 j u hu
  | true =>
    obtain ⟨⟨C, a, cap, h1, h2, h3⟩, hout, hlt⟩ := h.2 rfl
    obtain ⟨g, es, Sf, e, hg, h4, h5, h6⟩ := T.own_mk.1 h3 (by omega)
    change ∀ j, j < 22 → C[off + j]? = (ncells o (.slice a l.length cap))[j]? at h2
    rw [e] at h2
    obtain ⟨⟨a', c', p1, p2⟩, p3⟩ := h6 i t ht
    have hgb : g ≠ b := fun hh => hout (hh ▸ hg)
    have hlS : ∀ k, S k → k < w.heap.size := hlt
    refine ⟨g, 0, cap, Sf i, fun j hj => by rw [cell_of_heap h1, List.getElem?_toArray]; exact h2 j hj, lt_of_heap h4, ⟨(fun h => by cases h), fun _ => ⟨⟨rowC es, a', c', h4, fun j hj => by rw [Nat.zero_add]; exact rowC_at p1 hj, p2⟩, fun hh => (p3 g hh).2.1 rfl, fun k hk => hlS k (p3 k hk).1⟩⟩, fun _ => ⟨fun k hk => (p3 k hk).1, hg⟩, fun j u hu => ?_, fun w' t' hp => ?_⟩
    · obtain ⟨⟨a2, c2, q1, _⟩, _⟩ := h6 j u hu
      exact ⟨_, by rw [Nat.zero_add]; exact nd_row h4 q1⟩
    · obtain ⟨S1, hn, hS1⟩ := hp.nod
      obtain ⟨⟨C2, a2, c2, r1, r2, r3⟩, hout2, hlt2⟩ := hn.2 rfl
      obtain ⟨C3, s1, s2, s3⟩ := hp.row rfl (rowC es) h4
      rw [r1] at s1
      have hC : C2 = C3 := by simpa using s1
      subst hC
      rw [Nat.zero_add] at r2 s3
      have hrow := rowC_put (es := es) (i := i) (by rw [h5]; exact hil) (by rw [s2, rowC_length]) r2 (fun j hj => s3 j hj)
      have hbS : ∀ k, k < w.heap.size → ¬ M k → ¬ Sf i k → k ≠ g → w'.heap[k]? = w.heap[k]? := fun k hk n1 n2 n3 => hp.fr.block k hk (fun hc => hc.elim n1 (fun h => h.2.elim n2 n3))
      have hb' : w'.heap[b]? = some (.cells C.toArray 42) := (hbS b (lt_of_heap h1) (fun hh => (hM rfl b hh).2 rfl) (fun hh => hout (p3 b hh).1) (Ne.symm hgb)).trans h1
      refine ⟨hp.fr.mono (fun k _ hc => ?_), ⟨fun k => S k ∨ (w.heap.size ≤ k ∧ k < w'.heap.size), ⟨(fun h => by cases h), fun _ => ⟨⟨C, some ⟨g, 0, none⟩, cap, hb', ?_, ?_⟩, ?_, ?_⟩⟩, fun k hk => hk.elim .inl (fun h => .inr h.1)⟩, fun _ D hD => ⟨D, ?_, rfl, fun _ _ => rfl⟩⟩
      · rcases hc with hc | ⟨_, hc | hc⟩
        · exact .inl hc
        · exact .inr ⟨rfl, .inl (p3 k hc).1⟩
        · exact .inr ⟨rfl, .inl (hc ▸ hg)⟩
      · show ∀ j, j < 22 → C[off + j]? = (ncells o (.slice (some ⟨g, 0, none⟩) (l.set i t').length cap))[j]?
        rw [List.length_set]
        exact h2
      · rw [T.own_mk]
        intro _
        refine ⟨g, es.set i (t'.o, .slice a2 t'.l.length c2), fun j k => if j = i then S1 k else Sf j k, rfl, .inl hg, by rw [← hrow]; exact r1, by rw [List.length_set, List.length_set, h5], fun j u hu => ?_⟩
        by_cases hji : j = i
        · subst hji
          rw [List.getElem?_set_self hil] at hu
          cases hu
          refine ⟨⟨a2, c2, by rw [List.getElem?_set_self (by rw [h5]; exact hil)], by simpa using r3⟩, fun k hk => ?_⟩
          dsimp only at hk
          rw [if_pos rfl] at hk
          refine ⟨(hS1 k hk).elim (fun h => .inl (p3 k h).1) (fun h => .inr ⟨h, hlt2 k hk⟩), fun hh => hout2 (hh ▸ hk), fun j' hj' hs => ?_⟩
          dsimp only at hs
          rw [if_neg (by omega)] at hs
          rcases hS1 k hk with h | h
          · exact (p3 k h).2.2 j' hj' hs
          · obtain ⟨u', hu'⟩ : ∃ u', l[j']? = some u' := ⟨_, List.getElem?_eq_getElem (by omega)⟩
            have := hlS k ((h6 j' u' hu').2 k hs).1
            omega
        · rw [List.getElem?_set_ne (Ne.symm hji)] at hu
          obtain ⟨⟨a3, c3, q1, q2⟩, q3⟩ := h6 j u hu
          have hdis : ∀ k, Sf j k → ¬ Sf i k := fun k hj hi => by
            rcases Nat.lt_or_gt_of_ne hji with hlt' | hgt'
            · exact (p3 k hi).2.2 j hlt' hj
            · exact (q3 k hj).2.2 i hgt' hi
          refine ⟨⟨a3, c3, by rw [List.getElem?_set_ne (Ne.symm hji)]; exact q1, ?_⟩, fun k hk => ?_⟩
          · have e2 : (fun k => if j = i then S1 k else Sf j k) = Sf j := by funext k; rw [if_neg hji]
            show u.Own w' a3 (fun k => if j = i then S1 k else Sf j k)
            rw [e2]
            exact q2.frame u (fun k hk hl => hbS k hl (fun hh => (hM rfl k hh).1 (q3 k hk).1) (hdis k hk) (q3 k hk).2.1)
          · dsimp only at hk
            rw [if_neg hji] at hk
            refine ⟨.inl (q3 k hk).1, (q3 k hk).2.1, fun j' hj' hs => ?_⟩
            dsimp only at hs
            by_cases hj2 : j' = i
            · rw [if_pos hj2] at hs
              rcases hS1 k hs with h | h
              · exact hdis k hk h
              · have := hlS k (q3 k hk).1
                omega
            · rw [if_neg hj2] at hs
              exact (q3 k hk).2.2 j' hj' hs
      · rintro (h | h)
        · exact hout h
        · have := lt_of_heap h1
          omega
      · rintro k (h | h)
        · exact Nat.lt_of_lt_of_le (hlS k h) hp.fr.size
        · exact h.2
      · rw [h1] at hD
        have hCD : C = D := by simpa using hD
        rw [← hCD]
        exact hb'
end Go.Proofs.YtlcglkanlhmmdaaGreat
/- names.isLet. -/
namespace Go.Proofs.YtlcglkanlhmmdaaGreat
open Go.RowKit
set_option maxHeartbeats 2000000 in
set_option maxRecDepth 100000 in
theorem isLet_any (o : Nd) (a : Option Addr) (n cap b off : Nat) (w : World) (hn : n ≤ 2097152) (hp : NdAt w b off o (.slice a n cap)) :
    Calls Tryz.prog 49 #[.pointer (some ⟨b, off, none⟩)] w fun e w' => e = .returned (.bool (decide (o.k = 4) && (o.nm.toList == [76, 69, 84]) && decide (3 ≤ n) && decide (n % 2 = 1))) ∧ w = w' := by
  have r0 : w.cell? ⟨b, off, none⟩ = some (.int .i64 o.k) := hp 0 (by omega)
  have r7 : w.cell? ⟨b, off + 7, none⟩ = some (.string o.nm) := hp 7 (by omega)
  have r21 : w.cell? ⟨b, off + 21, none⟩ = some (.slice a n cap) := hp 21 (by omega)
  clear hp
  go_enter Tryz.func49, Tryz.ntmps49
  by_cases h4 : o.k = 4
  case neg =>
    have e4 : (o.k == 4) = false := by simp [h4]
    have H4 : Hid (decide (o.k = 4) = false) := decide_eq_false h4
    clear h4
    go_wp2_with fail
    go_ret
    exact ⟨by simp only [H4.out, Bool.false_and]; all_goals rfl, rfl⟩
  have e4 : (o.k == 4) = true := by simp [h4]
  have H4 : Hid (decide (o.k = 4) = true) := decide_eq_true h4
  clear h4
  cases hL : (o.nm.toList == [76, 69, 84]) with
  | false =>
    go_wp2_with fail
    go_ret
    exact ⟨by simp only [Bool.false_and, Bool.and_false]; all_goals rfl, rfl⟩
  | true =>
    by_cases h3 : 3 ≤ n
    case neg =>
      have e3 : decide ((3 : Int) ≤ (n : Int)) = false := by simp; omega
      have H3 : Hid (decide (3 ≤ n) = false) := decide_eq_false h3
      clear h3
      go_wp2_with fail
      go_ret
      exact ⟨by simp only [H3.out, Bool.false_and, Bool.and_false]; all_goals rfl, rfl⟩
    have e3 : decide ((3 : Int) ≤ (n : Int)) = true := by simp; omega
    have H3 : Hid (decide (3 ≤ n) = true) := decide_eq_true h3
    clear h3
    by_cases h1 : n % 2 = 1
    case neg =>
      have e1 : ((n : Int) % 2 == 1) = false := by simp; omega
      have e1' : ((n : Int).tmod 2 == 1) = false := by rw [Int.tmod_eq_emod_of_nonneg (Int.natCast_nonneg n)]; exact e1
      have H1 : Hid (decide (n % 2 = 1) = false) := decide_eq_false h1
      clear h1
      go_wp2_with fail
      go_ret
      exact ⟨by simp only [H1.out, Bool.and_false]; all_goals rfl, rfl⟩
    have e1 : ((n : Int) % 2 == 1) = true := by simp; omega
    have e1' : ((n : Int).tmod 2 == 1) = true := by rw [Int.tmod_eq_emod_of_nonneg (Int.natCast_nonneg n)]; exact e1
    have H1 : Hid (decide (n % 2 = 1) = true) := decide_eq_true h1
    clear h1
    go_wp2_with fail
    go_ret
    exact ⟨by simp only [H4.out, H3.out, H1.out, Bool.and_true]; all_goals rfl, rfl⟩
end Go.Proofs.YtlcglkanlhmmdaaGreat
/- Keys that are strings. -/
namespace Go.Proofs.YtlcglkanlhmmdaaGreat
open Go.RowKit
theorem string_fits {P : Program} {kt : TypeId} (hk : P.underlying kt = some .string) : KeyFits P kt Value.string where
  inj h := by injection h
  check w em k := MapKept.run_checkKey (k := Value.string k) hk trivial em 9999
  find w k es hes := by
    have hks : ∀ y ∈ es, MapKept.IsKey .string y.key := fun y hy => by obtain ⟨k', h⟩ := hes y hy; rw [h]; trivial
    rcases MapKept.findNow_spec (d := .string) (k := Value.string k) trivial es 0 hks with ⟨h1, h2⟩ | ⟨j, e0, h1, h2, h3⟩
    · exact Or.inl ⟨MapKept.run_findKey hk h1, h2⟩
    · exact Or.inr ⟨j, e0, by simpa using MapKept.run_findKey hk h1, h2, h3⟩
  stays w k := MapKept.run_keyThatStays (d := .string) trivial
end Go.Proofs.YtlcglkanlhmmdaaGreat
