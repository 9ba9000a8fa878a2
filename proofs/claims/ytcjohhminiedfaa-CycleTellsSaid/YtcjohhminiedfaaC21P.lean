/- Cycle: distances, plain. -/
import Derived.Test.YtcjohhminiedfaaChecked
namespace Go.Proofs.Ytcjohhminiedfaa
/-- f tells of each node how many edges it is away from x, going to x; -1: it doesn't reach it. -/
structure Dist (n : Nat) (adj : Nat → Nat → Bool) (x : Nat) (f : Nat → Int) : Prop where
  zero : f x = 0
  low : ∀ y, y < n → -1 ≤ f y
  pos : ∀ y, y < n → y ≠ x → f y = -1 ∨ ∃ k, k < n ∧ adj y k = true ∧ 0 ≤ f k ∧ f y = f k + 1
  edge : ∀ y k, y < n → k < n → adj y k = true → 0 ≤ f k → 0 ≤ f y ∧ f y ≤ f k + 1
theorem Dist.le {n : Nat} {adj : Nat → Nat → Bool} {x : Nat} {f g : Nat → Int} (hf : Dist n adj x f) (hg : Dist n adj x g) : ∀ (d : Nat) (y : Nat), y < n → f y = (d : Int) → 0 ≤ g y ∧ g y ≤ (d : Int) := by
  intro d
  induction d with
  | zero =>
    intro y hy h
    by_cases hx : y = x
    · subst hx
      rw [hg.zero]
      omega
    · rcases hf.pos y hy hx with e | ⟨k, _, _, h0, e⟩ <;> omega
  | succ d ih =>
    intro y hy h
    by_cases hx : y = x
    · subst hx
      rw [hf.zero] at h
      omega
    · rcases hf.pos y hy hx with e | ⟨k, hk, ha, h0, e⟩
      · omega
      · obtain ⟨h1, h2⟩ := ih k hk (by omega)
        obtain ⟨h3, h4⟩ := hg.edge y k hy hk ha h1
        omega
theorem Dist.uniq {n : Nat} {adj : Nat → Nat → Bool} {x : Nat} {f g : Nat → Int} (hf : Dist n adj x f) (hg : Dist n adj x g) (y : Nat) (hy : y < n) : f y = g y := by
  have h1 := hf.low y hy
  have h2 := hg.low y hy
  by_cases h3 : 0 ≤ f y
  · obtain ⟨h4, h5⟩ := hf.le hg (f y).toNat y hy (by omega)
    obtain ⟨h6, h7⟩ := hg.le hf (g y).toNat y hy (by omega)
    omega
  · by_cases h4 : 0 ≤ g y
    · obtain ⟨h6, h7⟩ := hg.le hf (g y).toNat y hy (by omega)
      omega
    · omega
end Go.Proofs.Ytcjohhminiedfaa
