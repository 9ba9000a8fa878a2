/- Cycle: the document's example, plain. -/
import Derived.Test.YtcjohhminiedfaaC21Same
namespace Go.Proofs.Ytcjohhminiedfaa
def E3 : List (Nat × Nat) := [(0, 1), (1, 0), (1, 2)]
theorem E3_ok : EOk 3 E3 := by
  refine ⟨by decide, fun e he => ?_⟩
  simp only [E3, List.mem_cons, List.not_mem_nil, or_false] at he
  rcases he with rfl | rfl | rfl <;> decide
theorem found3 : foundF 3 (tos 3 E3) = [[2], [0, 1]] := by decide
theorem sort_of {l m : List Nat} (hp : l.Perm m) (hm : m.Pairwise (· < ·)) : sortN l = m := by
  refine ((sortN_perm l).trans hp).eq_of_pairwise (le := (· ≤ ·)) (fun a b _ _ h1 h2 => by omega) (sortN_sorted l) (hm.imp Nat.le_of_lt)
theorem parts3 {L : List (List Nat)} (h : PartsR 3 (tos 3 E3) L) : L = [[0, 1], [2]] := by
  obtain ⟨h1, h2⟩ := h
  rw [found3] at h1
  have e : [[2], [0, 1]].map sortN = [[2], [0, 1]] := by
    simp only [List.map_cons, List.map_nil]
    rw [sort_of (List.Perm.refl [2]) (by decide), sort_of (List.Perm.refl [0, 1]) (by decide)]
  rw [e] at h1
  have h3 : L.Perm [[0, 1], [2]] := h1.trans (List.Perm.swap _ _ _)
  refine h3.eq_of_pairwise (le := fun a b => hd a ≤ hd b) (fun a b ha hb k1 k2 => ?_) h2 (by decide)
  have ha' := h3.mem_iff.1 ha
  simp only [List.mem_cons, List.not_mem_nil, or_false] at ha' hb
  rcases ha' with rfl | rfl <;> rcases hb with rfl | rfl <;> first | rfl | (exact absurd k1 (by decide)) | exact absurd k2 (by decide)
theorem order3 {O : List Nat} (h : IsOrd (tos 3 E3) [[0, 1], [2]] O) : O = [1, 0] := by
  refine h.uniq ⟨by decide, fun i => ?_, fun A i B e => ?_⟩
  · simp
    omega
  · cases A with
    | nil =>
      cases e
      exact ⟨by decide, fun j hj _ => by
        have : j = 0 := by omega
        subst this
        decide⟩
    | cons a A =>
      cases A with
      | nil =>
        cases e
        exact ⟨by decide, fun j hj => by omega⟩
      | cons b A => simp at e
theorem round3 {f : Nat → Int} {r : List Nat} (hf : Dist 3 (adjE E3) 0 f) (h : RoundR 3 (adjE E3) f 0 r) : r = [0, 1] := by
  have e0 := hf.zero
  have e1 := hf.edge 1 0 (by decide) (by decide) (by decide) (by omega)
  have e2 : f 1 = 1 := by
    rcases hf.pos 1 (by decide) (by decide) with h1 | ⟨k, _, _, _, h1⟩ <;> omega
  have e3 : f 2 = -1 := by
    rcases hf.pos 2 (by decide) (by decide) with h1 | ⟨k, k1, k2, _, _⟩
    · exact h1
    · exfalso
      have : k = 0 ∨ k = 1 ∨ k = 2 := by omega
      rcases this with rfl | rfl | rfl <;> exact absurd k2 (by decide)
  have cs : ∀ y, y < 3 → y = 0 ∨ y = 1 ∨ y = 2 := fun y hy => by omega
  refine h.uniq (.inl ⟨[1], rfl, .go ⟨by decide, by decide, by omega, fun h => by omega, fun y hy ha h0 _ => ?_⟩ (by decide) (.stop ⟨by decide, by decide, by omega, fun h => by omega, fun y hy ha h0 _ => ?_⟩)⟩)
  · rcases cs y hy with rfl | rfl | rfl
    · exact absurd ha (by decide)
    · omega
    · exact absurd ha (by decide)
  · rcases cs y hy with rfl | rfl | rfl
    · omega
    · exact absurd ha (by decide)
    · omega
end Go.Proofs.Ytcjohhminiedfaa
