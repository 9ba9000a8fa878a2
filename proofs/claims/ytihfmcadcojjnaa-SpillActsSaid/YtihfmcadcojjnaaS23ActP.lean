/- What is under way in SpillActs: a board, and the document's board beside it. -/
import Derived.Test.YtihfmcadcojjnaaS23R7
import Derived.Test.YtihfmcadcojjnaaS23Kept
namespace Go.Proofs.Ytihfmcadcojjnaa
open Go.RowKit
def Nin (a : Option Addr) (S : Nat → Prop) : Prop := ∀ ad, a = some ad → ¬ S ad.block
structure Ev (w wr : World) (p q : Nat) (g : G) (fa : Option Addr) (fc : Nat) (F : List P2) (la : Option Addr) (lc : Nat) (L : List Ver) : Prop where
  b : Below w.heap.size w wr
  t : wr.heap[w.heap.size]? = some (.cells #[.bool false] 4)
  rel : Rel g F L
  bd : ∃ S, IsBd wr p S g ∧ (∀ k, S k → w.heap.size < k ∧ k ≠ q) ∧ Nin fa S ∧ Nin la S
  x : wr.heap[q]? = some (.cells #[.int .i64 g.rows, .int .i64 g.cols, .slice fa F.length fc, .slice la L.length lc] 53)
  f : PrsAt wr fa F
  l : RctAt wr la L
  f0 : F = [] → fa = none ∧ fc = 0
  l0 : L = [] → la = none ∧ lc = 0
  q0 : w.heap.size < q
  fq : Nin fa (fun k => k = q)
  lq : Nin la (fun k => k = q)
section
variable {w wr w' : World} {p q : Nat} {g : G} {fa : Option Addr} {fc : Nat} {F : List P2} {la : Option Addr} {lc : Nat} {L : List Ver}
theorem Ev.below (h : Ev w wr p q g fa fc F la lc L) (hb : Below wr.heap.size wr w') : Ev w w' p q g fa fc F la lc L := by
  obtain ⟨S, h1, h2⟩ := h.bd
  exact ⟨h.b.trans (hb.mono h.b.size), (hb.block _ (lt_of_heap h.t)).trans h.t, h.rel, ⟨S, h1.below hb, h2⟩, (hb.block _ (lt_of_heap h.x)).trans h.x, h.f.below hb, h.l.below hb, h.f0, h.l0, h.q0, h.fq, h.lq⟩
theorem IsBd.lt' {S : Nat → Prop} (h : IsBd w p S g) : ∀ k, S k → k < w.heap.size := by obtain ⟨_, _, _, _, H⟩ := h; exact H.lt
theorem Ev.fl (h : Ev w wr p q g fa fc F la lc L) : ∀ ad, fa = some ad → ad.block < wr.heap.size := fun ad e => by
  by_cases h0 : F = []
  · rw [(h.f0 h0).1] at e; cases e
  · obtain ⟨b, off, h1, h2, _⟩ := h.f (List.length_pos_iff.2 h0)
    rw [h1] at e; cases e; exact h2
theorem Ev.ll (h : Ev w wr p q g fa fc F la lc L) : ∀ ad, la = some ad → ad.block < wr.heap.size := fun ad e => by
  by_cases h0 : L = []
  · rw [(h.l0 h0).1] at e; cases e
  · obtain ⟨b, off, h1, h2, _⟩ := h.l (List.length_pos_iff.2 h0)
    rw [h1] at e; cases e; exact h2
theorem nin_new {a : Option Addr} {S : Nat → Prop} {B : Nat} (h : ∀ ad, a = some ad → B ≤ ad.block) (hS : ∀ k, S k → k < B) : Nin a S := fun ad e hs => by
  have := h ad e
  have := hS _ hs
  omega
theorem fHas_snoc (F : List P2) (r c x y : Int) : fHas (F ++ [(r, c)]) x y = (fHas F x y || (decide (r = x) && decide (c = y))) := by
  unfold fHas
  rw [List.any_append]
  simp
theorem Rel.fill (h : Rel g F L) (r c : Int) (ho : okFill g r c = true) : Rel (gFill g r c) (F ++ [(r, c)]) L := by
  have hg : gFill g r c = { g with F := putL g.F (r, c) true } := by unfold gFill; rw [if_pos ho]
  refine ⟨bInv_fill h.inv r c, by rw [hg]; exact h.l, fun x y => ?_, by rw [hg]; exact h.r0, by rw [hg]; exact h.r1, by rw [hg]; exact h.c0, by rw [hg]; exact h.c1⟩
  rw [hg, fHas_snoc]
  show _ = (getL (putL g.F (r, c) true) (x, y)).getD false
  rw [getL_putL, h.f]
  by_cases e : (r, c) = (x, y)
  · rw [if_pos e]
    simp only [Prod.mk.injEq] at e
    simp [e.1, e.2]
  · rw [if_neg e]
    simp only [Prod.mk.injEq, not_and] at e
    by_cases h1 : r = x
    · simp [h1, e h1]
    · simp [h1]
theorem fill_no {r c : Int} (ho : okFill g r c = false) : gFill g r c = g := by unfold gFill; rw [ho]; rfl
theorem dec_size (r c rs cs : Int) : (gDecide g r c rs cs).rows = g.rows ∧ (gDecide g r c rs cs).cols = g.cols := by
  unfold gDecide
  split <;> exact ⟨rfl, rfl⟩
theorem Rel.dec (h : Rel g F L) (r c rs cs : Int) : Rel (gDecide g r c rs cs) F (gDecide g r c rs cs).L := by
  obtain ⟨e1, e2⟩ := dec_size (g := g) r c rs cs
  exact ⟨bInv_decide h.inv r c rs cs, rfl, fun x y => by rw [decide_F]; exact h.f x y, by rw [e1]; exact h.r0, by rw [e1]; exact h.r1, by rw [e2]; exact h.c0, by rw [e2]; exact h.c1⟩
theorem Rel.new (rows cols : Int) : Rel (gNew rows cols) [] [] := by
  have h1 := clamp_bd rows
  have h2 := clamp_bd cols
  exact ⟨bInv_new _ _, rfl, fun r c => rfl, h1.1, h1.2, h2.1, h2.2⟩
/-- A store into the document's board's box. -/
theorem Ev.store {W : World} {g' : G} {fa' : Option Addr} {fc' : Nat} {F' : List P2} {la' : Option Addr} {lc' : Nat} {L' : List Ver} {c0 c1 c2 c3 : Value} (hb : Below w.heap.size w W) (ht : W.heap[w.heap.size]? = some (.cells #[.bool false] 4)) (hx : W.heap[q]? = some (.cells #[c0, c1, c2, c3] 53))
    (hbd : ∃ S, IsBd W p S g' ∧ (∀ k, S k → w.heap.size < k ∧ k ≠ q) ∧ Nin fa' S ∧ Nin la' S) (hrel : Rel g' F' L') (hf : PrsAt W fa' F') (hl : RctAt W la' L') (hf0 : F' = [] → fa' = none ∧ fc' = 0) (hl0 : L' = [] → la' = none ∧ lc' = 0)
    (hq : w.heap.size < q) (hfq : Nin fa' (fun k => k = q)) (hlq : Nin la' (fun k => k = q)) :
    Ev w ((((W.setCell ⟨q, 0, none⟩ (.int .i64 g'.rows)).setCell ⟨q, 1, none⟩ (.int .i64 g'.cols)).setCell ⟨q, 2, none⟩ (.slice fa' F'.length fc')).setCell ⟨q, 3, none⟩ (.slice la' L'.length lc')) p q g' fa' fc' F' la' lc' L' := by
  have hfr : Fr (fun k => k = q) W ((((W.setCell ⟨q, 0, none⟩ (.int .i64 g'.rows)).setCell ⟨q, 1, none⟩ (.int .i64 g'.cols)).setCell ⟨q, 2, none⟩ (.slice fa' F'.length fc')).setCell ⟨q, 3, none⟩ (.slice la' L'.length lc')) :=
    fr_set (S := fun k => k = q) (fr_set (S := fun k => k = q) (fr_set (S := fun k => k = q) (fr_set (S := fun k => k = q) (Fr.refl _ _) ⟨q, 0, none⟩ _ rfl) ⟨q, 1, none⟩ _ rfl) ⟨q, 2, none⟩ _ rfl) ⟨q, 3, none⟩ _ rfl
  obtain ⟨S, h1, h2, h3, h4⟩ := hbd
  refine ⟨hb.trans (hfr.below hb.size (fun k e => by omega)), (hfr.block _ (lt_of_heap ht) (by omega)).trans ht, hrel, ⟨S, h1.frame hfr (fun k hk e => (h2 k hk).2 e), h2, h3, h4⟩, ?_, hf.fr hfr hfq, hl.fr hfr hlq, hf0, hl0, hq, hfq, hlq⟩
  exact (heap_setCell_at (heap_setCell_at (heap_setCell_at (heap_setCell_at hx 0 _) 1 _) 2 _) 3 _).trans rfl
/-- Behind a call that changes the board. -/
theorem Ev.after {W3 w4 : World} {S : Nat → Prop} (h : Ev w wr p q g fa fc F la lc L) (hb : Below wr.heap.size wr W3) (hS : ∀ k, S k → (w.heap.size < k ∧ k ≠ q) ∧ k < wr.heap.size) (hf : Fr S W3 w4) :
    Below w.heap.size w w4 ∧ w4.heap[w.heap.size]? = some (.cells #[.bool false] 4) ∧ w4.heap[q]? = some (.cells #[.int .i64 g.rows, .int .i64 g.cols, .slice fa F.length fc, .slice la L.length lc] 53) ∧ ∀ k o, wr.heap.size ≤ k → W3.heap[k]? = some o → w4.heap[k]? = some o := by
  have h3 := h.below hb
  refine ⟨h3.b.trans (hf.below h3.b.size (fun k hk => by have := (hS k hk).1.1; omega)), (hf.block _ (lt_of_heap h3.t) (fun hk => by have := (hS _ hk).1.1; omega)).trans h3.t, (hf.block _ (lt_of_heap h3.x) (fun hk => (hS _ hk).1.2 rfl)).trans h3.x, fun k o hk ho => (hf.block _ (lt_of_heap ho) (fun hs => by have := (hS _ hs).2; omega)).trans ho⟩
theorem Ev.bd' (h : Ev w wr p q g fa fc F la lc L) : ∃ S, IsBd wr p S g ∧ (∀ k, S k → (w.heap.size < k ∧ k ≠ q) ∧ k < wr.heap.size) ∧ Nin fa S ∧ Nin la S := by
  obtain ⟨S, h1, h2, h3, h4⟩ := h.bd
  exact ⟨S, h1, fun k hk => ⟨h2 k hk, h1.lt' k hk⟩, h3, h4⟩
end
/-- The same board, by acts. -/
def gAct' (g : G) (a : Ac) : G := if a.f then gFill g a.r a.c else gDecide g a.r a.c a.rs a.cs
end Go.Proofs.Ytihfmcadcojjnaa
