/- ref17: rows of names; find. -/
import Derived.Test.YtlcglkanlhmmdaaGreatQN17FreeP
namespace Go.Proofs.YtlcglkanlhmmdaaGreat
open Go.RowKit
/-- Rows of names and trees, in memory. -/
def RowsAt (w : World) (a : Option Addr) (R : List (ByteArray × T)) : Prop := 0 < R.length → ∃ b off, a = some ⟨b, off, none⟩ ∧ b < w.heap.size ∧ ∀ (i : Nat) (s : ByteArray) (t : T), R[i]? = some (s, t) →
  w.cell? ⟨b, off + i * 23, none⟩ = some (.string s) ∧ ∃ a' cap', NdAt w b (off + i * 23 + 1) t.o (.slice a' t.l.length cap') ∧ t.At w a'
theorem RowsAt.below {w w' : World} {a : Option Addr} {R : List (ByteArray × T)} (h : RowsAt w a R) (hb : Below w.heap.size w w') : RowsAt w' a R := fun h0 => by
  obtain ⟨b, off, e, h1, h2⟩ := h h0
  refine ⟨b, off, e, Nat.lt_of_lt_of_le h1 hb.size, fun i s t hi => ?_⟩
  obtain ⟨h3, a', cap', h4, h5⟩ := h2 i s t hi
  exact ⟨(hb.cell (p := ⟨b, _, none⟩) h1).trans h3, a', cap', NdAt.below h4 hb h1, h5.below hb t⟩
theorem getL_drop {R : List (ByteArray × T)} {k : Nat} {x : ByteArray} {t : T} (h : R[k]? = some (x, t)) (s : ByteArray) : getL (R.drop k) s = if x = s then some t else getL (R.drop (k + 1)) s := by
  obtain ⟨hk, he⟩ := List.getElem?_eq_some_iff.1 h
  rw [List.drop_eq_getElem_cons hk, he, getL]
def FindR (R : List (ByteArray × T)) (s : ByteArray) (z : Int) : Prop := (getL R s = none ∧ z = -1) ∨ ∃ (i : Nat) (t : T), R[i]? = some (s, t) ∧ getL R s = some t ∧ z = (i : Int)
set_option maxHeartbeats 2000000 in
set_option maxRecDepth 100000 in
theorem find_any (R : List (ByteArray × T)) (hlen : R.length ≤ 2097152) (a : Option Addr) (cap : Nat) (s : ByteArray) (w : World) (hA : RowsAt w a R) :
    Calls Tryz.prog 28 #[.agg #[.slice a R.length cap], .string s] w fun e w' => (∃ z, e = .returned (.int .i64 z) ∧ FindR R s z) ∧ Below w.heap.size w w' := by
  have HA := Lib.hid hA
  obtain ⟨n, hn⟩ : ∃ n, R.length = n := ⟨_, rfl⟩
  rw [hn] at hlen ⊢
  have HN := Lib.hid hn
  clear hA hn
  go_enter Tryz.func28, Tryz.ntmps28
  go_wp2_with fail
  refine abs_world ?_
  intro W0 hW0
  have hB0 : Hid (Below w.heap.size w W0) := by rw [hW0]; unfold Hid; (repeat (first | with_reducible exact Below.refl _ _ | with_reducible exact hBW | with_reducible refine Below.setCell ?_ ?_ _ | with_reducible refine Below.alloc ?_ ?_ _ | with_reducible refine belowN ?_ _ | with_reducible refine Below.drew ?_)); all_goals (first | omega | (dsimp only; omega) | ((repeat (first | with_reducible refine le_alloc ?_ | with_reducible refine le_setCell ?_ | with_reducible refine le_drew ?_ | with_reducible refine le_drewN ?_)); omega))
  have x0 : W0.cell? ⟨w.heap.size, 0, none⟩ = some (.slice a n cap) := by rw [hW0]; exact cell_of_heap (heap_alloc_new w _) 0
  have z0 : w.heap.size < W0.heap.size := by rw [hW0]; simp
  have HA0 := Lib.hid (HA.out.below hB0.out)
  clear hW0 HA
  go_loopg [5] n (fun gh i wr => W0 = wr ∧ ∃ k : Nat, i = .int .i64 (k : Int) ∧ gh = n - k ∧ k ≤ n ∧ Hid (getL R s = getL (R.drop k) s))
  case atStart => exact ⟨rfl, 0, rfl, rfl, Nat.zero_le _, rfl⟩
  case round =>
    obtain ⟨rfl, k, rfl, rfl, hk, hE⟩ := hrel
    by_cases hlt : k < n
    · obtain ⟨⟨x, t⟩, ht⟩ : ∃ t, R[k]? = some t := ⟨_, List.getElem?_eq_getElem (by rw [HN.out]; exact hlt)⟩
      obtain ⟨b, off, rfl, hb, hall⟩ := HA0.out (by rw [HN.out]; omega)
      have c0 := (hall k x t ht).1
      have HT := Lib.hid ht
      have GD := Lib.hid (getL_drop ht s)
      have j1 : (0 : Int) ≤ (k : Int) := by omega
      have j2 : (k : Int) < (n : Int) := by omega
      clear hall ht
      cases hx : (x.toList == s.toList) with
      | true =>
        have hxs : x = s := str_eq.1 (by simpa using hx)
        have Y : Hid (FindR R s (k : Int)) := .inr ⟨k, t, by rw [← hxs]; exact HT.out, by rw [hE.out, GD.out, if_pos hxs], rfl⟩
        clear hxs hE GD HT
        go_wp2_with fail
        go_ret
        exact ⟨⟨_, rfl, Y.out⟩, hB0.out⟩
      | false =>
        have hxs : x ≠ s := fun e => by rw [e] at hx; simp at hx
        have Y : Hid (getL R s = getL (R.drop (k + 1)) s) := by unfold Hid; rw [hE.out, GD.out, if_neg hxs]
        clear hxs hE GD HT
        go_wp2_with fail
        go_roundg (n - (k + 1))
        case measure => omega
        case rel => exact ⟨rfl, k + 1, by go_num, rfl, by omega, Y⟩
    · have Y : Hid (FindR R s (-1)) := by
        refine .inl ⟨?_, rfl⟩
        rw [hE.out, List.drop_of_length_le (by rw [HN.out]; omega)]
        rfl
      clear hE
      go_wp2_with fail
      go_ret
      exact ⟨⟨_, rfl, Y.out⟩, hB0.out⟩
end Go.Proofs.YtlcglkanlhmmdaaGreat
/- Rows of names and trees of the call's own. -/
namespace Go.Proofs.YtlcglkanlhmmdaaGreat
open Go.RowKit
def nmcells (s : ByteArray) (o : Nd) (v : Value) : List Value := .string s :: ncells o v
def rowN (es : List (ByteArray × Nd × Value)) : List Value := es.flatMap fun p => nmcells p.1 p.2.1 p.2.2
theorem rowN_length (es : List (ByteArray × Nd × Value)) : (rowN es).length = es.length * 23 := by
  induction es with
  | nil => rfl
  | cons x r ih => unfold rowN at ih ⊢; rw [List.flatMap_cons, List.length_append, ih]; show 23 + _ = (r.length + 1) * 23; omega
theorem rowN_at {es : List (ByteArray × Nd × Value)} {i j : Nat} {s : ByteArray} {o : Nd} {v : Value} (h : es[i]? = some (s, o, v)) (hj : j < 23) : (rowN es)[i * 23 + j]? = (nmcells s o v)[j]? := by
  induction es generalizing i with
  | nil => simp at h
  | cons x r ih =>
    have e : rowN (x :: r) = nmcells x.1 x.2.1 x.2.2 ++ rowN r := rfl
    have hl : (nmcells x.1 x.2.1 x.2.2).length = 23 := rfl
    rw [e]
    cases i with
    | zero =>
      simp at h
      subst h
      rw [Nat.zero_mul, Nat.zero_add, List.getElem?_append_left (by rw [hl]; exact hj)]
    | succ i =>
      rw [List.getElem?_append_right (by rw [hl]; omega), hl, ← ih (i := i) (by simpa using h)]
      congr 1
      omega
/-- A row of names and trees of the call's own; the trees lie in the world w. -/
def NamO (w wr : World) (base : Nat) (v : Value) (A : List (ByteArray × T)) : Prop := ∃ es : List (ByteArray × Nd × Value), wr.ownsRow base 70 23 v A.length (rowN es) ∧ es.length = A.length ∧ ∀ (i : Nat) (s : ByteArray) (t : T), A[i]? = some (s, t) → ∃ a c, es[i]? = some (s, t.o, .slice a t.l.length c) ∧ t.At w a
theorem NamO.nil (w wr : World) (base : Nat) : NamO w wr base (.slice none 0 0) [] := ⟨[], ⟨rfl, .inl ⟨rfl, rfl⟩⟩, rfl, fun i s t h => by simp at h⟩
theorem NamO.below {w wr wr' : World} {base : Nat} {v : Value} {A : List (ByteArray × T)} (h : NamO w wr base v A) (hb : Below wr.heap.size wr wr') : NamO w wr' base v A := by
  obtain ⟨es, h1, h2, h3⟩ := h
  exact ⟨es, own_below h1 hb (Nat.le_refl _), h2, h3⟩
theorem NamO.push {w W5 : World} {base : Nat} {v5 : Value} {A : List (ByteArray × T)} {es : List (ByteArray × Nd × Value)} (h2 : es.length = A.length) (h3 : ∀ (i : Nat) (s : ByteArray) (t : T), A[i]? = some (s, t) → ∃ a c, es[i]? = some (s, t.o, .slice a t.l.length c) ∧ t.At w a)
    {s : ByteArray} {t : T} {a : Option Addr} {c : Nat} (ht : t.At w a) (ho : W5.ownsRow base 70 23 v5 (A.length + 1) (rowN es ++ nmcells s t.o (.slice a t.l.length c))) : NamO w W5 base v5 (A ++ [(s, t)]) := by
  refine ⟨es ++ [(s, t.o, .slice a t.l.length c)], ?_, by simp [h2], fun i s' t' hi => ?_⟩
  · have e1 : rowN (es ++ [(s, t.o, .slice a t.l.length c)]) = rowN es ++ nmcells s t.o (.slice a t.l.length c) := by unfold rowN; simp
    rw [e1, List.length_append]
    exact ho
  · by_cases hlt : i < A.length
    · rw [List.getElem?_append_left hlt] at hi
      obtain ⟨a', c', p1, p2⟩ := h3 i s' t' hi
      exact ⟨a', c', by rw [List.getElem?_append_left (by rw [h2]; exact hlt)]; exact p1, p2⟩
    · have hi2 : i = A.length := by
        have := (List.getElem?_eq_some_iff.1 hi).1
        simp at this
        omega
      subst hi2
      rw [List.getElem?_append_right (Nat.le_refl _), Nat.sub_self] at hi
      simp at hi
      obtain ⟨rfl, rfl⟩ := hi
      exact ⟨a, c, by rw [List.getElem?_append_right (by rw [h2]; omega), h2, Nat.sub_self]; rfl, ht⟩
theorem NamO.rows {w wr : World} {base n cap : Nat} {a : Option Addr} {A : List (ByteArray × T)} (h : NamO w wr base (.slice a n cap) A) (hb : Below w.heap.size w wr) : RowsAt wr a A := by
  obtain ⟨es, h1, h2, h3⟩ := h
  intro h0
  rcases h1.2 with ⟨_, h4⟩ | ⟨g, cap', cur, e, h5, h6, _, _, h7, h8⟩
  · omega
  · cases e
    have cell : ∀ j u, (rowN es)[j]? = some u → wr.cell? ⟨g, 0 + j, none⟩ = some u := fun j u hu => by
      have hj : j < A.length * 23 := by have := (List.getElem?_eq_some_iff.1 hu).1; rw [rowN_length, h2] at this; exact this
      rw [cell_of_heap h6, Nat.zero_add, ← hu, ← h8, List.getElem?_take_of_lt hj]
      simp
    refine ⟨g, 0, rfl, lt_of_heap h6, fun i s t hi => ?_⟩
    obtain ⟨a', c', p1, p2⟩ := h3 i s t hi
    refine ⟨cell _ _ (by have := rowN_at p1 (j := 0) (by omega); exact this), a', c', fun j hj => ?_, p2.below hb t⟩
    have h9 := rowN_at p1 (j := j + 1) (by omega)
    have h10 : (nmcells s t.o (.slice a' t.l.length c'))[j + 1]? = (ncells t.o (.slice a' t.l.length c'))[j]? := rfl
    obtain ⟨u, hu⟩ : ∃ u, (ncells t.o (.slice a' t.l.length c'))[j]? = some u := ⟨_, List.getElem?_eq_getElem (by show j < 22; exact hj)⟩
    rw [hu] at h10 ⊢
    rw [h10] at h9
    have := cell _ _ h9
    rw [show 0 + i * 23 + 1 + j = 0 + (i * 23 + (j + 1)) from by omega]
    exact this
/-- The rows with a name set. -/
def insG (s : ByteArray) (t : T) (gt : ByteArray → Bool) : List (ByteArray × T) → Bool → List (ByteArray × T)
  | [], b => if b then [] else [(s, t)]
  | (x, u) :: r, b => if x = s then insG s t gt r b else if !b && gt x then (s, t) :: (x, u) :: insG s t gt r true else (x, u) :: insG s t gt r b
theorem insG_get (s : ByteArray) (t : T) (gt : ByteArray → Bool) : ∀ (l : List (ByteArray × T)) (b : Bool) (y : ByteArray), getL (insG s t gt l b) y = if y = s then (if b then none else some t) else getL l y
  | [], b, y => by
    have e : (s = y) ↔ (y = s) := eq_comm
    cases b <;> by_cases h : y = s <;> simp [insG, getL, h, e]
  | (x, u) :: r, b, y => by
    rw [insG]
    by_cases hx : x = s
    · rw [if_pos hx, insG_get s t gt r b y]
      by_cases hy : y = s
      · rw [if_pos hy, if_pos hy]
      · rw [if_neg hy, if_neg hy, getL, if_neg (fun e => hy (by rw [← e, hx]))]
    · rw [if_neg hx]
      cases hb : (!b && gt x) with
      | true =>
        rw [if_pos rfl, getL]
        have hb2 : b = false := by cases b <;> simp at hb ⊢
        by_cases hy : y = s
        · rw [if_pos hy.symm, if_pos hy, hb2]; rfl
        · rw [if_neg (Ne.symm hy), if_neg hy, getL, getL]
          by_cases hxy : x = y
          · rw [if_pos hxy, if_pos hxy]
          · rw [if_neg hxy, if_neg hxy, insG_get s t gt r true y, if_neg hy]
      | false =>
        rw [if_neg (by simp), getL, getL]
        by_cases hxy : x = y
        · rw [if_pos hxy, if_pos hxy, if_neg (fun e => hx (by rw [hxy, e]))]
        · rw [if_neg hxy, if_neg hxy, insG_get s t gt r b y]
theorem insG_length (s : ByteArray) (t : T) (gt : ByteArray → Bool) : ∀ (l : List (ByteArray × T)) (b : Bool), (l.map Prod.fst).Nodup → (insG s t gt l b).length + (if b then 1 else 0) + (if (getL l s).isSome then 1 else 0) = l.length + 1
  | [], b, _ => by cases b <;> simp [insG, getL]
  | (x, u) :: r, b, h => by
    simp only [List.map_cons, List.nodup_cons] at h
    have ih := fun b => insG_length s t gt r b h.2
    rw [insG, getL]
    by_cases hx : x = s
    · rw [if_pos hx, if_pos hx]
      have hn : getL r s = none := by
        rw [← hx]
        cases hg : getL r x with
        | none => rfl
        | some v =>
          obtain ⟨i, hi⟩ := List.mem_iff_getElem?.1 (mem_of_getL hg)
          exact absurd (List.mem_map.2 ⟨(x, v), List.mem_of_getElem? hi, rfl⟩) h.1
      have := ih b
      rw [hn] at this
      simp at this ⊢
      omega
    · rw [if_neg hx, if_neg hx]
      cases hb : (!b && gt x) with
      | true =>
        have hb2 : b = false := by cases b <;> simp at hb ⊢
        have := ih true
        rw [if_pos rfl, hb2]
        simp at this ⊢
        omega
      | false =>
        have := ih b
        rw [if_neg (by simp)]
        simp at this ⊢
        omega
theorem insG_fst (s : ByteArray) (t : T) (gt : ByteArray → Bool) : ∀ (l : List (ByteArray × T)) (b : Bool), (l.map Prod.fst).Nodup → ((insG s t gt l b).map Prod.fst).Nodup ∧ (∀ x, x ∈ (insG s t gt l b).map Prod.fst → x = s ∧ b = false ∨ x ≠ s ∧ x ∈ l.map Prod.fst)
  | [], b, _ => by cases b <;> simp [insG]
  | (x, u) :: r, b, h => by
    simp only [List.map_cons, List.nodup_cons] at h
    have ih := fun b => insG_fst s t gt r b h.2
    rw [insG]
    by_cases hx : x = s
    · rw [if_pos hx]
      refine ⟨(ih b).1, fun y hy => ?_⟩
      rcases (ih b).2 y hy with h1 | ⟨h1, h2⟩
      · exact .inl h1
      · exact .inr ⟨h1, List.mem_cons_of_mem _ h2⟩
    · rw [if_neg hx]
      cases hb : (!b && gt x) with
      | true =>
        have hb2 : b = false := by cases b <;> simp at hb ⊢
        rw [if_pos rfl]
        simp only [List.map_cons, List.nodup_cons, List.mem_cons]
        refine ⟨⟨?_, ?_, (ih true).1⟩, fun y hy => ?_⟩
        · rintro (h1 | h1)
          · exact hx h1.symm
          · rcases (ih true).2 s h1 with ⟨_, h2⟩ | ⟨h2, _⟩
            · cases h2
            · exact h2 rfl
        · intro h1
          rcases (ih true).2 x h1 with ⟨_, h2⟩ | ⟨_, h2⟩
          · cases h2
          · exact h.1 h2
        · rcases hy with hy | hy | hy
          · exact .inl ⟨hy, hb2⟩
          · exact .inr ⟨by rw [hy]; exact hx, .inl hy⟩
          · rcases (ih true).2 y hy with ⟨_, h2⟩ | ⟨h2, h4⟩
            · cases h2
            · exact .inr ⟨h2, .inr h4⟩
      | false =>
        rw [if_neg (by simp)]
        simp only [List.map_cons, List.nodup_cons, List.mem_cons]
        refine ⟨⟨fun h1 => ?_, (ih b).1⟩, fun y hy => ?_⟩
        · rcases (ih b).2 x h1 with ⟨h2, _⟩ | ⟨_, h2⟩
          · exact hx h2
          · exact h.1 h2
        · rcases hy with hy | hy
          · exact .inr ⟨by rw [hy]; exact hx, .inl hy⟩
          · rcases (ih b).2 y hy with h1 | ⟨h1, h2⟩
            · exact .inl h1
            · exact .inr ⟨h1, .inr h2⟩
end Go.Proofs.YtlcglkanlhmmdaaGreat
