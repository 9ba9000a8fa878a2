/- Plain: two rects without a cell in common may be decided in either order. -/
import Derived.Test.YtihfmcadcojjnaaS23FreeP
namespace Go.Proofs.Ytihfmcadcojjnaa
open Go.RowKit
theorem apart_cells {r c rs cs r' c' rs' cs' : Int} (h1 : 1 ≤ rs) (h2 : 1 ≤ cs) (h1' : 1 ≤ rs') (h2' : 1 ≤ cs')
    (hd : ¬ (r < r' + rs' ∧ r' < r + rs ∧ c < c' + cs' ∧ c' < c + cs)) {x : P2} (hx : x ∈ cellsOf r c rs.toNat cs.toNat) : x ∉ cellsOf r' c' rs'.toNat cs'.toNat := by
  obtain ⟨a, b⟩ := x
  intro hy
  have e1 := mem_cellsOf.1 hx
  have e2 := mem_cellsOf.1 hy
  omega
theorem anchor_mem {r c rs cs : Int} (h1 : 1 ≤ rs) (h2 : 1 ≤ cs) : (r, c) ∈ cellsOf r c rs.toNat cs.toNat := mem_cellsOf.2 (by omega)
theorem find_congr' {l : List P2} {f g : P2 → Bool} (h : ∀ x ∈ l, f x = g x) : l.find? f = l.find? g := by
  induction l with
  | nil => rfl
  | cons a r ih =>
    simp only [List.find?_cons, h a (by simp)]
    rw [ih (fun x hx => h x (List.mem_cons_of_mem _ hx))]
theorem turn_same (g : G) {r c rs cs r' c' rs' cs' : Int} (h1 : 1 ≤ rs) (h2 : 1 ≤ cs) (h1' : 1 ≤ rs') (h2' : 1 ≤ cs')
    (hd : ¬ (r < r' + rs' ∧ r' < r + rs ∧ c < c' + cs' ∧ c' < c + cs)) :
    gErr (gDecide g r' c' rs' cs') r c rs cs = gErr g r c rs cs ∧ gStands (gDecide g r' c' rs' cs') r c rs cs = gStands g r c rs cs := by
  have hrows : (gDecide g r' c' rs' cs').rows = g.rows := by unfold gDecide; split <;> rfl
  have hcols : (gDecide g r' c' rs' cs').cols = g.cols := by unfold gDecide; split <;> rfl
  have hF : (gDecide g r' c' rs' cs').F = g.F := by unfold gDecide; split <;> rfl
  have hA : getL (gDecide g r' c' rs' cs').A (r, c) = getL g.A (r, c) := by
    unfold gDecide
    split
    · simp only [getL_putL]
      rw [if_neg]
      intro e
      have := apart_cells h1 h2 h1' h2' hd (anchor_mem h1 h2)
      rw [← e] at this
      exact this (anchor_mem h1' h2')
    · rfl
  have hO : ∀ x ∈ cellsOf r c rs.toNat cs.toNat, getL (gDecide g r' c' rs' cs').O x = getL g.O x := by
    intro x hx
    unfold gDecide
    split
    · simp only
      split
      · rw [getL_own, if_neg (apart_cells h1 h2 h1' h2' hd hx)]
      · rfl
    · rfl
  have he : gErr (gDecide g r' c' rs' cs') r c rs cs = gErr g r c rs cs := by
    unfold gErr G.has
    rw [hrows, hcols, hF, hA]
  have hj : gJudge (gDecide g r' c' rs' cs') r c rs cs = gJudge g r c rs cs := by
    unfold gJudge beyond
    rw [hrows, hcols]
    rw [find_congr' (g := blocked g (r, c, rs, cs))]
    intro x hx
    unfold blocked
    rw [hO x hx, hF]
  exact ⟨he, by unfold gStands; rw [he, hj]⟩
def fillAll (g : G) (l : List P2) : G := l.foldl (fun g p => gFill g p.1 p.2) g
theorem fillAll_snoc (g : G) (l : List P2) (p : P2) : fillAll g (l ++ [p]) = gFill (fillAll g l) p.1 p.2 := by simp [fillAll]
theorem fillAll_L (g : G) (l : List P2) : (fillAll g l).L.length = g.L.length := by
  induction l generalizing g with
  | nil => rfl
  | cons a r ih =>
    show (fillAll (gFill g a.1 a.2) r).L.length = _
    rw [ih, len_fill]
end Go.Proofs.Ytihfmcadcojjnaa
