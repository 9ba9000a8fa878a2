/- The laws on names, plain: how great what they make can be. -/
import Derived.Test.YtlcglkanlhmmdaaGreatQN17Agree
namespace Go.Proofs.YtlcglkanlhmmdaaGreat
open Go.RowKit
theorem sum_map_le {α : Type} (f g : α → Nat) : ∀ (l : List α), (∀ x ∈ l, f x ≤ g x) → (l.map f).sum ≤ (l.map g).sum
  | [], _ => Nat.le_refl _
  | x :: l, h => by
    have h1 := h x (by simp)
    have h2 := sum_map_le f g l (fun y hy => h y (List.mem_cons_of_mem _ hy))
    simp only [List.map_cons, List.sum_cons]
    omega
theorem sum_map_mul {α : Type} (f : α → Nat) (M : Nat) : ∀ (l : List α), (l.map fun x => f x * M).sum = (l.map f).sum * M
  | [] => by simp
  | x :: l => by
    simp only [List.map_cons, List.sum_cons]
    rw [sum_map_mul f M l, Nat.add_mul]
theorem T.size_pos (t : T) : 1 ≤ t.size := by
  cases t
  rw [T.size_mk]
  omega
theorem exp_size {sub : ByteArray → Option T} {M : Nat} (hM : 1 ≤ M) (hs : ∀ s t, sub s = some t → t.size ≤ M) (t : T) : ∀ (ar : List ByteArray) (told : Bool), (expT sub t ar told).size ≤ t.size * M := by
  induction t using T.ind with
  | h o l ih =>
    intro ar told
    have hk : (T.mk o (kidsE sub o l ar)).size ≤ (T.mk o l).size * M := by
      rw [T.size_mk, T.size_mk]
      have h1 : ((kidsE sub o l ar).map T.size).sum ≤ (l.zipIdx.map fun p => p.1.size * M).sum := by
        unfold kidsE
        rw [List.map_map]
        refine sum_map_le _ _ _ fun p hp => ?_
        exact ih p.1 (List.fst_mem_of_mem_zipIdx hp) _ _
      have h2 : (l.zipIdx.map fun p => p.1.size * M).sum = (l.map T.size).sum * M := by
        rw [← sum_map_mul T.size M l]
        conv => rhs; rw [← List.zipIdx_map_fst 0 l]
        rw [List.map_map]
        rfl
      rw [Nat.add_mul]
      omega
    rw [expT_mk]
    split
    · cases hg : sub o.nm with
      | none => exact hk
      | some u =>
        have h1 := hs _ _ hg
        have h2 := T.size_pos (T.mk o l)
        have h3 : M ≤ (T.mk o l).size * M := by
          calc M = 1 * M := (Nat.one_mul M).symm
            _ ≤ _ := Nat.mul_le_mul_right M h2
        simp only [Option.getD_some]
        omega
    · exact hk
theorem greatP_no {l : List Deed} (h : greatP l = false) : l.length ≤ 30 ∧ ∀ x ∈ l, x.t.size ≤ 400 ∧ x.nm.size ≤ 100 ∧ x.t.great = false := by
  unfold greatP at h
  rw [Bool.or_eq_false_iff] at h
  obtain ⟨h1, h2⟩ := h
  have hl : l.length ≤ 30 := by simpa using h2
  refine ⟨hl, fun x hx => ?_⟩
  rw [List.take_of_length_le (by omega)] at h1
  have h3 := List.any_eq_false.1 h1 x hx
  unfold Deed.great at h3
  simp only [Bool.or_eq_true, decide_eq_true_eq, not_or] at h3
  have h4 : x.t.great = false := by simpa using h3.1
  refine ⟨?_, by omega, h4⟩
  unfold T.great at h4
  rw [Bool.or_eq_false_iff] at h4
  simpa using h4.2
/-- Is what came in more than the laws look at? -/
def bigP (l : List Deed) (t : T) : Bool := greatP l || decide (6 < l.length) || t.great || decide (60 < t.size)
theorem bigP_no {l : List Deed} {t : T} (h : bigP l t = false) : greatP l = false ∧ l.length ≤ 6 ∧ t.great = false ∧ t.size ≤ 60 := by
  unfold bigP at h
  simp only [Bool.or_eq_false_iff, decide_eq_false_iff_not] at h
  exact ⟨h.1.1.1, by omega, h.1.2, by omega⟩
theorem tab_sizes {l : List Deed} (h : ∀ x ∈ l, x.t.size ≤ 400) : ∀ p ∈ tabF l, p.2.size ≤ 400 := fun p hp => by
  obtain ⟨x, hx, rfl, _⟩ := tabF_mem hp
  exact h x hx
theorem subL_size {L : List (ByteArray × T)} {M : Nat} (h : ∀ p ∈ L, p.2.size ≤ M) : ∀ s t, subL L s = some t → t.size ≤ M := fun s t hs => h (s, t) (mem_of_getL hs)
end Go.Proofs.YtlcglkanlhmmdaaGreat
