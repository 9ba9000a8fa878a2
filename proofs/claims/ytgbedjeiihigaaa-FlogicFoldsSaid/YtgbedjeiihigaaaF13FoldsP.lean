/- FlogicFolds: plain; the two slices under way. -/
import Derived.Test.YtgbedjeiihigaaaF13RowsA
import Derived.Test.YtgbedjeiihigaaaF13R09
import Derived.Test.YtgbedjeiihigaaaF13TurnP
namespace Go.Proofs.Ytgbedjeiihigaaa
open Go.RowKit
def moreL (l : List V) (k : Nat) : Nat → List V
  | 0 => []
  | i + 1 => moreL l k i ++ (if i = k then [vBlank] else []) ++ [l.getD i vBlank]
theorem moreL_len (l : List V) (k i : Nat) : (moreL l k i).length = i + if k < i then 1 else 0 := by
  induction i with
  | zero => rfl
  | succ i ih =>
    simp only [moreL, List.length_append, ih, List.length_singleton]
    by_cases h1 : i = k
    · subst h1
      simp
    · by_cases h2 : k < i
      · rw [if_neg h1, if_pos h2, if_pos (by omega)]; simp
      · rw [if_neg h1, if_neg h2, if_neg (by omega)]; simp
theorem moreL_mem {l : List V} {k i : Nat} (hi : i ≤ l.length) {v : V} (h : v ∈ moreL l k i) : v = vBlank ∨ v ∈ l := by
  induction i with
  | zero => simp [moreL] at h
  | succ i ih =>
    simp only [moreL, List.mem_append] at h
    rcases h with (h | h) | h
    · exact ih (by omega) h
    · split at h
      · left; simpa using h
      · simp at h
    · right
      rw [List.mem_singleton.1 h]
      have : i < l.length := by omega
      simp [this]
theorem scan_more (l : List V) (k i : Nat) (hi : i ≤ l.length) (y a : Int) : scan (moreL l k i) y a = scan (l.take i) y a := by
  induction i with
  | zero => rfl
  | succ i ih =>
    have hlt : i < l.length := by omega
    have e : l.take (i + 1) = l.take i ++ [l.getD i vBlank] := by rw [List.take_add_one]; simp [hlt]
    rw [e, scan_append (l.take i)]
    simp only [moreL]
    rw [List.append_assoc, scan_append (moreL l k i), ih (by omega)]
    cases scan (l.take i) y a with
    | error f => rfl
    | ok p =>
      simp only
      by_cases h : i = k
      · rw [if_pos h, List.singleton_append]
        show (if (TT vBlank).2 ≠ 0 then _ else if vBlank.k = 0 then _ else _) = _
        rw [if_neg (by simp [TT, toT, vBlank]), if_pos (show vBlank.k = 0 from rfl)]
      · rw [if_neg h, List.nil_append]
theorem folds_same (fn : Int → Int → Bool) (l : List V) (k : Nat) (r c r' c' : Int) : truthsV fn (arrs l) = truthsV fn [⟨r, c, l⟩] ∧ truthsV fn (arrs l) = truthsV fn [⟨r', c', moreL l k l.length⟩] := by
  have e1 : allV [⟨r, c, l⟩] = l := by simp [allV]
  have e2 : allV [⟨r', c', moreL l k l.length⟩] = moreL l k l.length := by simp [allV]
  unfold truthsV
  rw [allV_arrs, e1, e2, scan_more l k l.length (Nat.le_refl _), List.take_of_length_le (Nat.le_refl _)]
  exact ⟨rfl, rfl⟩
/-- args (v1: of L) and more (v2: of M). -/
def FoldR (B : Nat) (W : World) (v1 v2 : Value) (L M : List V) : Prop :=
  W.ownsRow B 36 6 v2 M.length (M.flatMap vcells) ∧ ∃ bs : List Nat, bs.length = L.length ∧ W.ownsRow B 27 3 v1 L.length (bs.flatMap cell3) ∧ ∀ (i b : Nat) (x : V), bs[i]? = some b → L[i]? = some x → W.heap[b]? = some (.cells (vcells x).toArray 36) ∧ v2.ownBlock ≠ some b
theorem FoldR.nil (B : Nat) (W : World) : FoldR B W (.slice none 0 0) (.slice none 0 0) [] [] := ⟨World.ownsRow_nil W B 36 6, [], rfl, World.ownsRow_nil W B 27 3, fun i b x h => by simp at h⟩
theorem FoldR.arow {B : Nat} {W : World} {v1 v2 : Value} {L M : List V} (h : FoldR B W v1 v2 L M) : Arow B W v1 L := by
  obtain ⟨_, bs, h1, h2, h3⟩ := h
  exact ⟨bs, h1, h2, fun i b x hb hx => (h3 i b x hb hx).1⟩
theorem row36 {B : Nat} {W : World} {v : Value} {n : Nat} {xs : List Value} (h : W.ownsRow B 36 6 v n xs) {k : Nat} (hk : v.ownBlock = some k) : k < W.heap.size ∧ B ≤ k ∧ ∃ c, W.heap[k]? = some (.cells c 36) := by
  rcases h.2 with ⟨e, _⟩ | ⟨g, cap, cur, hv, hg, hh, _⟩
  · rw [e] at hk; cases hk
  · rw [hv] at hk; simp [Value.ownBlock] at hk; subst hk; exact ⟨lt_of_heap hh, hg, _, hh⟩
theorem FoldR.below {B : Nat} {W W' : World} {v1 v2 : Value} {L M : List V} (h : FoldR B W v1 v2 L M) (hb : Below W.heap.size W W') : FoldR B W' v1 v2 L M := by
  obtain ⟨h0, bs, h1, h2, h3⟩ := h
  exact ⟨own_of_block h0 (fun k _ hk => hb.block k hk), bs, h1, own_of_block h2 (fun k _ hk => hb.block k hk), fun i b x hb' hx => ⟨(hb.block b (lt_of_heap (h3 i b x hb' hx).1)).trans (h3 i b x hb' hx).1, (h3 i b x hb' hx).2⟩⟩
/-- args = append(args, one(x)). -/
theorem FoldR.appA {B : Nat} {W W0 W' : World} {v1 v2 v' : Value} {L M : List V} {b : Nat} {x : V} {bs : List Nat} (h : W.ownsRow B 36 6 v2 M.length (M.flatMap vcells)) (he : bs.length = L.length) (hr : W.ownsRow B 27 3 v1 L.length (bs.flatMap cell3))
    (hc : ∀ (i b : Nat) (x : V), bs[i]? = some b → L[i]? = some x → W.heap[b]? = some (.cells (vcells x).toArray 36) ∧ v2.ownBlock ≠ some b) (hb : Below W.heap.size W W0) (hx : W0.heap[b]? = some (.cells (vcells x).toArray 36)) (hx2 : v2.ownBlock ≠ some b)
    (hown : W'.ownsRow B 27 3 v' (L.length + 1) (bs.flatMap cell3 ++ cell3 b)) (hg : W0.grownBy W' v1.ownBlock) : FoldR B W' v' v2 (L ++ [x]) M := by
  have hA : Arow B W v1 L := ⟨bs, he, hr, fun i b x hb hx => (hc i b x hb hx).1⟩
  have hk : ∀ (k : Nat) (c : Array Value), W0.heap[k]? = some (.cells c 36) → W'.heap[k]? = W0.heap[k]? := fun k c hk => hg.block k (lt_of_heap hk) (fun e => by
    obtain ⟨_, _, c', hc'⟩ := (hA.below hb).lt e.symm
    rw [hk] at hc'
    simp at hc')
  refine ⟨own_of_block (own_of_block h (fun k _ hk => hb.block k hk)) (fun k hk' _ => ?_), bs ++ [b], by simp [he], by rw [List.length_append, List.flatMap_append]; simpa using hown, fun i q y hq hy => ?_⟩
  · obtain ⟨_, _, c, hc'⟩ := row36 (own_of_block (w' := W0) h (fun k _ hk => hb.block k hk)) hk'
    exact hk k c hc'
  · by_cases hi : i < L.length
    · rw [List.getElem?_append_left (by omega)] at hq
      rw [List.getElem?_append_left hi] at hy
      obtain ⟨h1, h2⟩ := hc i q y hq hy
      have h3 := (hb.block q (lt_of_heap h1)).trans h1
      exact ⟨(hk q _ h3).trans h3, h2⟩
    · have h1 := (List.getElem?_eq_some_iff.1 hy).1
      have hi' : i = L.length := by simp at h1; omega
      subst hi'
      rw [← he] at hq
      simp at hq hy
      subst hq
      subst hy
      exact ⟨(hk b _ hx).trans hx, hx2⟩
/-- more = append(more, x). -/
theorem FoldR.appM {B : Nat} {W W0 W' : World} {v1 v2 v' : Value} {L M : List V} {x : V} (h : FoldR B W v1 v2 L M) (hb : Below W.heap.size W W0)
    (hown : W'.ownsRow B 36 6 v' (M.length + 1) (M.flatMap vcells ++ vcells x)) (hg : W0.grownBy W' v2.ownBlock) (hl : v'.ownBlock = v2.ownBlock ∨ v'.ownBlock = some W0.heap.size) : FoldR B W' v1 v' L (M ++ [x]) := by
  obtain ⟨h0, bs, h1, h2, h3⟩ := h.below hb
  refine ⟨by rw [List.length_append, List.flatMap_append]; simpa using hown, bs, h1, own_of_block h2 (fun k hk hlt => hg.block k hlt (fun e => ?_)), fun i b y hb' hy => ?_⟩
  · obtain ⟨_, _, c, hc⟩ := row36 h0 e.symm
    have hA : Arow B W0 v1 L := ⟨bs, h1, h2, fun i b x hb hx => (h3 i b x hb hx).1⟩
    obtain ⟨_, _, c', hc'⟩ := hA.lt hk
    rw [hc] at hc'
    simp at hc'
  · obtain ⟨e1, e2⟩ := h3 i b y hb' hy
    refine ⟨(hg.block b (lt_of_heap e1) (fun e => e2 e.symm)).trans e1, ?_⟩
    rcases hl with e | e
    · rw [e]; exact e2
    · rw [e]
      intro e'
      have := lt_of_heap e1
      simp at e'
      omega
theorem FoldR.belowA {B : Nat} {W W0 W' : World} {v1 v2 : Value} {L M : List V} (h : FoldR B W v1 v2 L M) (hb : Below W.heap.size W W0) (hB : B ≤ W.heap.size) (hg : W0.grownBy W' v1.ownBlock) : Below B W W' :=
  (hb.mono hB).grown hg (Nat.le_trans hB hb.size) (fun _ e => ((h.arow.below hb).lt e).2.1)
theorem FoldR.belowM {B : Nat} {W W0 W' : World} {v1 v2 : Value} {L M : List V} (h : FoldR B W v1 v2 L M) (hb : Below W.heap.size W W0) (hB : B ≤ W.heap.size) (hg : W0.grownBy W' v2.ownBlock) : Below B W W' :=
  (hb.mono hB).grown hg (Nat.le_trans hB hb.size) (fun _ e => (row36 (h.below hb).1 e).2.1)
end Go.Proofs.Ytgbedjeiihigaaa
