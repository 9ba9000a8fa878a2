/- A board beside a slice that the call has made; acts in memory. -/
import Derived.Test.YtihfmcadcojjnaaS23ContP
import Derived.Test.YtihfmcadcojjnaaOwn
import Derived.Test.YtihfmcadcojjnaaS23Turn1
namespace Go.Proofs.Ytihfmcadcojjnaa
open Go.RowKit
def c2 (p : P2) : List Value := [.int .i64 p.1, .int .i64 p.2]
theorem c2_len (l : List P2) : (l.flatMap c2).length = l.length * 2 := by
  induction l with
  | nil => rfl
  | cons a r ih => simp [List.flatMap_cons, ih, c2]; omega
theorem c2_get (l : List P2) (n i : Nat) (v : P2) (h : l[n]? = some v) (hi : i < 2) : (l.flatMap c2)[n * 2 + i]? = (c2 v)[i]? := by
  induction l generalizing n with
  | nil => simp at h
  | cons a r ih =>
    rw [List.flatMap_cons]
    have ha : (c2 a).length = 2 := rfl
    cases n with
    | zero =>
      simp at h
      subst h
      rw [List.getElem?_append_left (by omega)]
      simp
    | succ m =>
      simp only [List.getElem?_cons_succ] at h
      rw [List.getElem?_append_right (by omega), ← ih m h, ha]
      congr 1
      omega
/-- A board above B, and beside it a slice v of pairs K. -/
def KB (w : World) (p B : Nat) (g : G) (v : Value) (K : List P2) : Prop :=
  B ≤ w.heap.size ∧ ∃ S, IsBd w p S g ∧ (∀ k, S k → B ≤ k) ∧ w.ownsRow B 36 2 v K.length (K.flatMap c2) ∧ ∀ k, v.ownBlock = some k → ¬ S k ∧ k < w.heap.size
theorem KB.below {w w' : World} {p B : Nat} {g : G} {v : Value} {K : List P2} (h : KB w p B g v K) (hb : Below w.heap.size w w') : KB w' p B g v K := by
  obtain ⟨h1, S, h2, h3, h4, h5⟩ := h
  exact ⟨Nat.le_trans h1 hb.size, S, h2.below hb, h3, ownsRow_of_block h4 (fun k hk => hb.block k (h5 k hk).2), fun k hk => ⟨(h5 k hk).1, Nat.lt_of_lt_of_le (h5 k hk).2 hb.size⟩⟩
theorem fill_kb {w : World} {p B : Nat} {g : G} {v : Value} {K : List P2} (h : KB w p B g v K) (r c : Int) :
    Calls Try.prog 11 #[.pointer (some ⟨p, 0, none⟩), .int .i64 r, .int .i64 c] w fun e w' => e = .returned (.bool (okFill g r c)) ∧ KB w' p B (gFill g r c) v K ∧ Below B w w' := by
  obtain ⟨h1, S, h2, h3, h4, h5⟩ := h
  exact (fill_any h2 r c).mono fun _ _ ⟨e1, e2, e3⟩ => ⟨e1, ⟨Nat.le_trans h1 e3.size, S, e2, h3, ownsRow_of_block h4 (fun k hk => e3.block k (h5 k hk).2 (h5 k hk).1), fun k hk => ⟨(h5 k hk).1, Nat.lt_of_lt_of_le (h5 k hk).2 e3.size⟩⟩, e3.below h1 h3⟩
theorem dec_kb {w : World} {p B : Nat} {g : G} {v : Value} {K : List P2} (h : KB w p B g v K) (hL : g.L.length ≤ 1000000) (r c rs cs : Int) :
    Calls Try.prog 12 #[.pointer (some ⟨p, 0, none⟩), .int .i64 r, .int .i64 c, .int .i64 rs, .int .i64 cs] w fun e w' => e = .returned (.tuple #[.bool (gStands g r c rs cs), .int .i64 (gErr g r c rs cs)]) ∧ KB w' p B (gDecide g r c rs cs) v K ∧ Below B w w' := by
  obtain ⟨h1, S, h2, h3, h4, h5⟩ := h
  exact (decide_any h2 hL r c rs cs).mono fun _ _ ⟨e1, e2, e3⟩ => ⟨e1, ⟨Nat.le_trans h1 e3.size, _, e2, fun k hk => hk.elim (h3 k) (fun h => Nat.le_trans h1 h.1), ownsRow_of_block h4 (fun k hk => e3.block k (h5 k hk).2 (h5 k hk).1), fun k hk => ⟨fun hs => hs.elim (h5 k hk).1 (fun h => by have := (h5 k hk).2; omega), Nat.lt_of_lt_of_le (h5 k hk).2 e3.size⟩⟩, e3.below h1 h3⟩
theorem owner_kb {w : World} {p B : Nat} {g : G} {v : Value} {K : List P2} (h : KB w p B g v K) (r c : Int) :
    Calls Try.prog 13 #[.pointer (some ⟨p, 0, none⟩), .int .i64 r, .int .i64 c] w fun e w' => e = .returned (.tuple #[encR (ownerR g r c), .bool (getL g.O (r, c)).isSome]) ∧ KB w' p B g v K ∧ Below w.heap.size w w' := by
  obtain ⟨h1, S, h2, h3, h4, h5⟩ := h
  exact (owner_any h2 r c).mono fun _ _ ⟨e1, e2⟩ => ⟨e1, KB.below ⟨h1, S, h2, h3, h4, h5⟩ e2, e2⟩
theorem KB.appended {w w0 w' : World} {p B : Nat} {g : G} {v v' : Value} {K : List P2} {x : P2} (h : KB w p B g v K) (hb : Below w.heap.size w w0)
    (hown : w'.ownsRow B 36 2 v' (K.length + 1) (K.flatMap c2 ++ c2 x)) (hg : w0.grownBy w' v.ownBlock) (hl : v'.ownBlock = v.ownBlock ∨ v'.ownBlock = some w0.heap.size) :
    KB w' p B g v' (K ++ [x]) ∧ Below B w w' := by
  obtain ⟨h1, S, h2, h3, h4, h5⟩ := h.below hb
  have hf := Fr.grown hg
  have hS : ∀ k, S k → k < w0.heap.size := by obtain ⟨_, _, _, _, H⟩ := h2; exact H.lt
  have hvB : ∀ k, v.ownBlock = some k → B ≤ k := fun k hk => by
    rcases h4.2 with ⟨e, _⟩ | ⟨g0, cap0, cur, e, hB, _⟩
    · rw [e] at hk; cases hk
    · rw [e] at hk; simp [Value.ownBlock] at hk; rw [← hk]; exact hB
  refine ⟨⟨Nat.le_trans h1 hf.size, S, h2.frame hf (fun k hk e => (h5 k e.symm).1 hk), h3, by simpa using hown, fun k hk => ?_⟩, ?_⟩
  · have hk' : k < w'.heap.size := by
      rcases hown.2 with ⟨e, _⟩ | ⟨g0, cap0, cur, e, _, hh, _⟩
      · rw [e] at hk; cases hk
      · rw [e] at hk; simp [Value.ownBlock] at hk; rw [← hk]; exact lt_of_heap hh
    rcases hl with e | e
    · exact ⟨(h5 k (e ▸ hk)).1, hk'⟩
    · rw [e] at hk
      cases hk
      exact ⟨fun hs => absurd (hS _ hs) (Nat.lt_irrefl _), hk'⟩
  · exact (hb.mono h.1).trans (hf.below h1 (fun k hk => hvB k hk.symm))
theorem KB.at {w : World} {p B : Nat} {g : G} {v : Value} {K : List P2} (h : KB w p B g v K) {n : Nat} {x : P2} (hx : K[n]? = some x) :
    ∃ gb cap, v = .slice (some ⟨gb, 0, none⟩) K.length cap ∧ gb < w.heap.size ∧ ∀ i, i < 2 → w.cell? ⟨gb, n * 2 + i, none⟩ = (c2 x)[i]? := by
  have hlt : n < K.length := (List.getElem?_eq_some_iff.1 hx).1
  obtain ⟨_, S, _, _, h4, _⟩ := h
  rcases h4.2 with ⟨_, h0⟩ | ⟨gb, cap, cur, hs, _, hh, hn, _, hsz, ht⟩
  · omega
  · refine ⟨gb, cap, hs, lt_of_heap hh, fun i hi => ?_⟩
    rw [cell_of_heap hh, ← c2_get K n i x hx hi, ← ht, List.getElem?_take_of_lt (by omega)]
    simp
theorem KB.slice {w : World} {p B : Nat} {g : G} {v : Value} {K : List P2} (h : KB w p B g v K) : ∃ a cap, v = .slice a K.length cap := by
  obtain ⟨_, S, _, _, h4, _⟩ := h
  exact ownsRow_slice h4
theorem OBd.kb {w : World} {p B : Nat} {g : G} (h : OBd w p B g) : KB w p B g (.slice none 0 0) [] := by
  obtain ⟨h1, _, S, h3, h4⟩ := h
  exact ⟨h1, S, h3, h4, World.ownsRow_nil w B 36 2, fun k hk => by cases hk⟩
theorem info36 : (Try.prog.info? 36).map (fun i => (i.zero, i.size, i.bytes)) = some (some (.agg #[.int .i64 0, .int .i64 0]), 2, 16) := by kernel_rfl
/-- A slice of acts. -/
def ActsAt (w : World) (a : Option Addr) (l : List Ac) : Prop :=
  0 < l.length → ∃ b off, a = some ⟨b, off, none⟩ ∧ b < w.heap.size ∧ ∀ k x, l[k]? = some x → w.cell? ⟨b, off + k * 5, none⟩ = some (.bool x.f) ∧ w.cell? ⟨b, off + k * 5 + 1, none⟩ = some (.int .i64 x.r) ∧ w.cell? ⟨b, off + k * 5 + 2, none⟩ = some (.int .i64 x.c) ∧ w.cell? ⟨b, off + k * 5 + 3, none⟩ = some (.int .i64 x.rs) ∧ w.cell? ⟨b, off + k * 5 + 4, none⟩ = some (.int .i64 x.cs)
end Go.Proofs.Ytihfmcadcojjnaa
