/- The document's Fill and Decide, beside a board. -/
import Derived.Test.YtihfmcadcojjnaaS23R6
import Derived.Test.YtihfmcadcojjnaaS23ActP
namespace Go.Proofs.Ytihfmcadcojjnaa
open Go.RowKit
theorem refFill_no {g : G} {F : List P2} {L : List Ver} (h : Rel g F L) (fa : Option Addr) (fc : Nat) (la : Option Addr) (lc : Nat) (r c : Int) (w : World) (hl : L.length ≤ 100) (ho : okFill g r c = false) :
    Calls Try.prog 18 #[xv g.rows g.cols fa F.length fc la L.length lc, .int .i64 r, .int .i64 c] w fun e w' => e = .returned (.tuple #[xv g.rows g.cols fa F.length fc la L.length lc, .bool false]) ∧ Below w.heap.size w w' := by
  cases hh : g.has r c with
  | false => exact rfill_off _ _ _ _ _ _ _ _ _ _ _ hh
  | true =>
    refine rfill_late _ _ _ _ _ _ _ _ _ _ _ hh ?_ hl
    unfold okFill at ho
    rw [hh, Bool.true_and] at ho
    rw [← h.l]
    cases e : g.L with
    | nil => rw [e] at ho; cases ho
    | cons a b => simp
theorem refFill_yes {g : G} {F : List P2} (fa : Option Addr) (fc : Nat) (r c : Int) (w : World) (hF : PrsAt w fa F) (hl : F.length ≤ 100) (h0 : F = [] → fa = none ∧ fc = 0) (ho : okFill g r c = true) :
    Calls Try.prog 18 #[xv g.rows g.cols fa F.length fc none 0 0, .int .i64 r, .int .i64 c] w fun e w' => ∃ fa' fc', e = .returned (.tuple #[xv g.rows g.cols fa' (F.length + 1) fc' none 0 0, .bool true]) ∧ PrsAt w' fa' (F ++ [(r, c)]) ∧ (∀ ad, fa' = some ad → w.heap.size ≤ ad.block) ∧ Below w.heap.size w w' := by
  have hh : g.has r c = true := by
    unfold okFill at ho
    simp only [Bool.and_eq_true] at ho
    exact ho.1
  exact rfill_ok g.rows g.cols fa fc F r c w hF hl h0 hh
theorem okFill_L {g : G} {F : List P2} {L : List Ver} (h : Rel g F L) {r c : Int} (ho : okFill g r c = true) : L = [] := by
  unfold okFill at ho
  simp only [Bool.and_eq_true] at ho
  rw [← h.l]
  exact List.isEmpty_iff.1 ho.2
theorem refDec_any {g : G} {F : List P2} {L : List Ver} (h : Rel g F L) (fa : Option Addr) (fc : Nat) (la : Option Addr) (lc : Nat) (r c rs cs : Int) (w : World) (hF : PrsAt w fa F) (hFl : F.length ≤ 100) (hL : RctAt w la L) (hL0 : L = [] → la = none ∧ lc = 0) (hLl : L.length ≤ 100) :
    Calls Try.prog 19 #[xv g.rows g.cols fa F.length fc la L.length lc, .int .i64 r, .int .i64 c, .int .i64 rs, .int .i64 cs] w fun e w' => RDecPost w g g.rows g.cols fa F.length fc la L.length lc r c rs cs e w' := by
  have same : ∀ (n : Int) (e : Ending) (w' : World), gErr g r c rs cs = n → n ≠ 0 → (e = .returned (.tuple #[xv g.rows g.cols fa F.length fc la L.length lc, .int .i64 n]) ∧ Below w.heap.size w w') → RDecPost w g g.rows g.cols fa F.length fc la L.length lc r c rs cs e w' := by
    rintro n e w' he hn ⟨rfl, hb⟩
    have hd : gDecide g r c rs cs = g := dec_same (by rw [he]; exact hn)
    refine ⟨la, lc, by rw [hd, he, h.l], ?_, .inl rfl, fun _ => ⟨rfl, rfl⟩, hb⟩
    rw [hd, h.l]
    exact hL.below hb
  cases hh : g.has r c with
  | false => exact (rdec_off _ _ _ _ _ _ _ _ _ _ _ _ _ hh).mono fun e w' he => same 2 e w' (err_two (.inl hh)) (by decide) he
  | true =>
    by_cases hs : rs < 1 ∨ cs < 1 ∨ 4096 < rs ∨ 4096 < cs ∨ 4096 < rs * cs
    · exact (rdec_size _ _ _ _ _ _ _ _ _ _ _ _ _ hh hs).mono fun e w' he => same 2 e w' (err_two (.inr hs)) (by decide) he
    · have h0 : ¬ rs < 1 := fun x => hs (.inl x)
      have h1 : ¬ cs < 1 := fun x => hs (.inr (.inl x))
      have h2 : ¬ 4096 < rs := fun x => hs (.inr (.inr (.inl x)))
      have h3 : ¬ 4096 < cs := fun x => hs (.inr (.inr (.inr (.inl x))))
      have h4 : ¬ 4096 < rs * cs := fun x => hs (.inr (.inr (.inr (.inr x))))
      have he := err_not_two hh h0 h1 h4
      cases hf : fHas F r c with
      | false =>
        refine (rdec_empty _ _ _ _ _ _ _ _ _ _ _ _ _ hh h0 h1 h2 h3 h4 hF hFl hf).mono fun e w' hx => same 3 e w' ?_ (by decide) hx
        rw [he, if_pos (by rw [← h.f]; exact hf)]
      | true =>
        rw [if_neg (by rw [← h.f, hf]; decide)] at he
        cases hA : getL g.A (r, c) with
        | some n =>
          refine (rdec_twice _ _ _ _ _ _ _ _ _ _ _ _ _ hh h0 h1 h2 h3 h4 hF hFl hf hL hLl ?_).mono fun e w' hx => same 4 e w' ?_ (by decide) hx
          · intro m hm
            rcases of_some h hm with ⟨h0, _⟩ | ⟨_, hn⟩
            · exact h0
            · rw [hA] at hn; cases hn
          · rw [he, hA]; rfl
        | none =>
          obtain ⟨p1, p2, p3, p4⟩ := G.has_iff.1 hh
          have b1 := h.r0
          have b2 := h.r1
          have b3 := h.c0
          have b4 := h.c1
          refine rdec_ok g g.rows g.cols fa fc F la lc L r c rs cs w ⟨rfl, rfl⟩ hh h0 h1 h2 h3 h4 hF hFl hf hL hL0 hLl ?_ h ?_ hA (by omega) (by omega) (by omega) (by omega) b1 b2 b3 b4
          · intro m hm
            rcases of_some h hm with ⟨_, k, v, _, _, _, _, hn⟩ | ⟨hm, _⟩
            · rw [hA] at hn; cases hn
            · exact hm
          · rw [he, hA]; rfl
end Go.Proofs.Ytihfmcadcojjnaa
