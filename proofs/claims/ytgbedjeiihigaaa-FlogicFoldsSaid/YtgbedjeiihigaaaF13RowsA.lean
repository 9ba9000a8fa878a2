/- Slices of arrays of one value, appended to by the call. -/
import Derived.Test.YtgbedjeiihigaaaF13Awake
namespace Go.Proofs.Ytgbedjeiihigaaa
open Go.RowKit
/-- What one, truth hand back: an array of 1 whose value lies in a new block. -/
def OnePost (w : World) (v : V) (e : Ending) (w' : World) : Prop :=
  ∃ b, e = .returned (.agg #[.int .i64 1, .int .i64 1, .slice (some ⟨b, 0, none⟩) 1 1]) ∧ w.heap.size ≤ b ∧ w'.heap[b]? = some (.cells (vcells v).toArray 36) ∧ Below w.heap.size w w'
set_option maxHeartbeats 400000 in
theorem one_b (v : V) (w : World) : Calls Try.prog 13 #[vagg v] w (OnePost w v) := by
  obtain ⟨k, m, e, t, b, f⟩ := v
  unfold vagg
  simp only
  go_enter Try.func13, Try.ntmps13
  go_wp2
  refine bodyPost_ret (v := .agg #[.int .i64 1, .int .i64 1, .slice (some ⟨w.heap.size + 1 + 1, 0, none⟩) 1 1]) (by simp [results, Try.results13, go_sem]) rfl ⟨w.heap.size + 1 + 1, rfl, by omega, ?_, ?_⟩
  · unfold vcells
    (repeat (first | (with_reducible refine heap_alloc_at ?_ _; (first | rfl | (simp; done) | omega | (simp; omega)); done) | with_reducible refine heap_alloc_old ?_ _ | with_reducible refine heap_drew_old ?_ | with_reducible refine heap_drewN_old ?_))
  · (repeat (first | with_reducible exact Below.refl _ _ | with_reducible exact hBW | with_reducible refine Below.setCell ?_ ?_ _ | with_reducible refine Below.alloc ?_ ?_ _ | with_reducible refine belowN ?_ _ | with_reducible refine Below.drew ?_)); all_goals (first | omega | (dsimp only; omega) | ((repeat (first | with_reducible refine le_alloc ?_ | with_reducible refine le_setCell ?_ | with_reducible refine le_drew ?_ | with_reducible refine le_drewN ?_)); omega))
set_option maxHeartbeats 400000 in
theorem truth_b (x : Bool) (w : World) : Calls Try.prog 9 #[.bool x] w (OnePost w (vTruth x)) := by
  have HR := Lib.hid (one_b (vTruth x) (w.alloc (.cells #[.int .i64 0, .int .i64 0, .slice none 0 0] 27)))
  unfold vagg vTruth at HR
  simp only at HR
  go_enter Try.func9, Try.ntmps9
  go_wp2_with fail
  refine HR.out.mono ?_
  rintro e' w1 ⟨b, rfl, hle, hb, hf⟩
  have hs1 : w.heap.size + 1 ≤ w1.heap.size := by have := hf.size; simpa using this
  have g1 : w1.heap[w.heap.size]? = some (.cells #[.int .i64 0, .int .i64 0, .slice none 0 0] 27) := (hf.block _ (by simp)).trans (by (repeat (first | (with_reducible refine heap_alloc_at ?_ _; (first | rfl | (simp; done) | omega | (simp; omega)); done) | with_reducible refine heap_alloc_old ?_ _ | with_reducible refine heap_drew_old ?_ | with_reducible refine heap_drewN_old ?_)))
  have FB : Hid (Below w.heap.size w w1) := by
    refine Below.trans ?_ (hf.mono (by simp))
    (repeat (first | with_reducible exact Below.refl _ _ | with_reducible exact hBW | with_reducible refine Below.setCell ?_ ?_ _ | with_reducible refine Below.alloc ?_ ?_ _ | with_reducible refine belowN ?_ _ | with_reducible refine Below.drew ?_)); all_goals (first | omega | (dsimp only; omega) | ((repeat (first | with_reducible refine le_alloc ?_ | with_reducible refine le_setCell ?_ | with_reducible refine le_drew ?_ | with_reducible refine le_drewN ?_)); omega))
  have c1 := cell_of_heap g1
  have y1 := frozen_of_heap g1
  have hn1 : w.heap.size < w1.heap.size := by omega
  rw [World.size_alloc] at hle
  have HBb := Lib.hid hb
  clear hf g1 hb HR
  go_wp2_with fail
  refine bodyPost_ret (v := .agg #[.int .i64 1, .int .i64 1, .slice (some ⟨b, 0, none⟩) 1 1]) (by simp [results, Try.results9, go_sem, c1]) rfl ⟨b, rfl, by omega, ?_, ?_⟩
  · refine ((Below.heap_setCell _ _ _ _ ?_).trans ((Below.heap_setCell _ _ _ _ ?_).trans (Below.heap_setCell _ _ _ _ ?_))).trans HBb.out
    all_goals (simp only; omega)
  · have hBW := FB.out
    (repeat (first | with_reducible exact Below.refl _ _ | with_reducible exact hBW | with_reducible refine Below.setCell ?_ ?_ _ | with_reducible refine Below.alloc ?_ ?_ _ | with_reducible refine belowN ?_ _ | with_reducible refine Below.drew ?_)); all_goals (first | omega | (dsimp only; omega) | ((repeat (first | with_reducible refine le_alloc ?_ | with_reducible refine le_setCell ?_ | with_reducible refine le_drew ?_ | with_reducible refine le_drewN ?_)); omega))
theorem info27 : (Try.prog.info? 27).map (fun i => (i.zero, i.size, i.bytes)) = some (some (.agg #[.int .i64 0, .int .i64 0, .slice none 0 0]), 3, 40) := by kernel_rfl
def cell3 (b : Nat) : List Value := [.int .i64 1, .int .i64 1, .slice (some ⟨b, 0, none⟩) 1 1]
theorem cell3_get (l : List Nat) (n i : Nat) (v : Nat) (h : l[n]? = some v) (hi : i < 3) : (l.flatMap cell3)[n * 3 + i]? = (cell3 v)[i]? := by
  induction l generalizing n with
  | nil => simp at h
  | cons a r ih =>
    rw [List.flatMap_cons]
    have ha : (cell3 a).length = 3 := rfl
    cases n with
    | zero =>
      simp at h
      subst h
      rw [List.getElem?_append_left (by omega)]
      simp
    | succ m =>
      simp only [List.getElem?_cons_succ] at h
      rw [List.getElem?_append_right (by omega), ← ih m h, ha]
      congr 1
      omega
/-- v: a slice, made by the call (from block B on), of arrays of 1, with the values l. -/
def Arow (B : Nat) (W : World) (v : Value) (l : List V) : Prop :=
  ∃ bs : List Nat, bs.length = l.length ∧ W.ownsRow B 27 3 v l.length (bs.flatMap cell3) ∧ ∀ (i b : Nat) (x : V), bs[i]? = some b → l[i]? = some x → W.heap[b]? = some (.cells (vcells x).toArray 36)
def arrs (l : List V) : List Arr := l.map fun v => ⟨1, 1, [v]⟩
theorem Arow.nil (B : Nat) (W : World) : Arow B W (.slice none 0 0) [] := ⟨[], rfl, World.ownsRow_nil W B 27 3, fun i b x h => by simp at h⟩
/-- A change that keeps the row's block and all blocks of values. -/
theorem Arow.kept {B : Nat} {W W' : World} {v : Value} {l : List V} (h : Arow B W v l) (h1 : ∀ k, v.ownBlock = some k → k < W.heap.size → W'.heap[k]? = W.heap[k]?) (h2 : ∀ (k : Nat) (c : Array Value), W.heap[k]? = some (.cells c 36) → W'.heap[k]? = W.heap[k]?) : Arow B W' v l := by
  obtain ⟨bs, e, hr, hc⟩ := h
  exact ⟨bs, e, own_of_block hr h1, fun i b x hb hx => (h2 b _ (hc i b x hb hx)).trans (hc i b x hb hx)⟩
theorem Arow.below {B : Nat} {W W' : World} {v : Value} {l : List V} (h : Arow B W v l) (hb : Below W.heap.size W W') : Arow B W' v l :=
  h.kept (fun k _ hk => hb.block k hk) (fun k _ hk => hb.block k (lt_of_heap hk))
theorem Arow.lt {B : Nat} {W : World} {v : Value} {l : List V} (h : Arow B W v l) {k : Nat} (hk : v.ownBlock = some k) : k < W.heap.size ∧ B ≤ k ∧ ∃ c, W.heap[k]? = some (.cells c 27) := by
  obtain ⟨bs, _, hr, _⟩ := h
  rcases hr.2 with ⟨e, _⟩ | ⟨g, cap, cur, hv, hg, hh, _⟩
  · rw [e] at hk; cases hk
  · rw [hv] at hk; simp [Value.ownBlock] at hk; subst hk; exact ⟨lt_of_heap hh, hg, _, hh⟩
/-- An append to one row keeps another row, and whatever holds values. -/
theorem Arow.other {B : Nat} {W W' : World} {v u : Value} {l m : List V} (h : Arow B W v l) (hu : Arow B W u m) (hg : W.grownBy W' u.ownBlock) (hne : ∀ k, v.ownBlock = some k → u.ownBlock ≠ some k) : Arow B W' v l :=
  h.kept (fun k hk hlt => hg.block k hlt (fun e => hne k hk e.symm)) (fun k c hk => hg.block k (lt_of_heap hk) (fun e => by
    obtain ⟨_, _, c', hc'⟩ := hu.lt e.symm
    rw [hk] at hc'
    simp at hc'))
theorem Arow.slice {B : Nat} {W : World} {v : Value} {l : List V} (h : Arow B W v l) : ∃ a cap, v = .slice a l.length cap := by
  obtain ⟨bs, _, hr, _⟩ := h
  rcases hr.2 with ⟨e, h0⟩ | ⟨g, cap, cur, hv, _⟩
  · exact ⟨none, 0, by rw [e, h0]⟩
  · exact ⟨_, _, hv⟩
theorem Arow.args {B : Nat} {W : World} {a : Option Addr} {cap : Nat} {l : List V} (h : Arow B W (.slice a l.length cap) l) : ArgsAt 0 W a (arrs l) := fun h0 => by
  obtain ⟨bs, e, hr, hc⟩ := h
  have hl : 0 < l.length := by simpa [arrs] using h0
  rcases hr.2 with ⟨_, h0⟩ | ⟨g, cap', cur, hv, hg, hh, hn, _, hsz, ht⟩
  · omega
  · simp at hv
    obtain ⟨rfl, rfl⟩ := hv
    refine ⟨g, 0, rfl, Nat.zero_le _, lt_of_heap hh, fun i A hA => ?_⟩
    unfold arrs at hA
    rw [List.getElem?_map] at hA
    cases hx : l[i]? with
    | none => rw [hx] at hA; cases hA
    | some x =>
      rw [hx] at hA
      cases hA
      have hil : i < l.length := (List.getElem?_eq_some_iff.1 hx).1
      obtain ⟨b, hb⟩ : ∃ b, bs[i]? = some b := ⟨_, List.getElem?_eq_getElem (by omega)⟩
      have hcell : ∀ j, j < 3 → W.cell? ⟨g, 0 + i * 3 + j, none⟩ = (cell3 b)[j]? := fun j hj => by
        rw [cell_of_heap hh, ← cell3_get bs i j b hb hj, ← ht, List.getElem?_take_of_lt (by omega)]
        simp
      exact ⟨some ⟨b, 0, none⟩, 1, hcell 0 (by omega), hcell 1 (by omega), hcell 2 (by omega), slv_one (Nat.zero_le _) (hc i b x hb hx)⟩
/-- append(v, one(x)). -/
theorem Arow.appended {B : Nat} {W W0 W' : World} {v v' : Value} {l : List V} {b : Nat} {x : V} {bs : List Nat} (hb : Below W.heap.size W W0) (he : bs.length = l.length) (hr : W.ownsRow B 27 3 v l.length (bs.flatMap cell3)) (hc : ∀ (i b : Nat) (x : V), bs[i]? = some b → l[i]? = some x → W.heap[b]? = some (.cells (vcells x).toArray 36))
    (hx : W0.heap[b]? = some (.cells (vcells x).toArray 36)) (hown : W'.ownsRow B 27 3 v' (l.length + 1) (bs.flatMap cell3 ++ cell3 b)) (hg : W0.grownBy W' v.ownBlock) : Arow B W' v' (l ++ [x]) := by
  have h : Arow B W v l := ⟨bs, he, hr, hc⟩
  have hv : ∀ (k : Nat) (c : Array Value), W0.heap[k]? = some (.cells c 36) → W'.heap[k]? = W0.heap[k]? := fun k c hk => hg.block k (lt_of_heap hk) (fun e => by
    obtain ⟨_, _, c', hc'⟩ := (h.below hb).lt e.symm
    rw [hk] at hc'
    simp at hc')
  refine ⟨bs ++ [b], by simp [he], by rw [List.length_append, List.flatMap_append]; simpa using hown, fun i q y hq hy => ?_⟩
  by_cases hi : i < l.length
  · rw [List.getElem?_append_left (by omega)] at hq
    rw [List.getElem?_append_left hi] at hy
    have h1 := hc i q y hq hy
    have h2 := (hb.block q (lt_of_heap h1)).trans h1
    exact (hv q _ h2).trans h2
  · have h1 := (List.getElem?_eq_some_iff.1 hy).1
    have hi' : i = l.length := by simp at h1; omega
    subst hi'
    rw [← he] at hq
    simp at hq hy
    subst hq
    subst hy
    exact (hv b _ hx).trans hx
end Go.Proofs.Ytgbedjeiihigaaa
