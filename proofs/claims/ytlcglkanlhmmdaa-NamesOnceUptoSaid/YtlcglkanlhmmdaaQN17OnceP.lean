/- What is expanded once is expanded: plain. -/
import Derived.Test.YtlcglkanlhmmdaaQN17LawP
namespace Go.Proofs.Ytlcglkanlhmmdaa
open Go.RowKit
theorem mem_flatten_map {α β : Type} {f : α → List β} {l : List α} {s : β} : s ∈ (l.map f).flatten ↔ ∃ x ∈ l, s ∈ f x := by
  simp only [List.mem_flatten, List.mem_map]
  constructor
  · rintro ⟨_, ⟨x, hx, rfl⟩, h⟩
    exact ⟨x, hx, h⟩
  · rintro ⟨x, hx, h⟩
    exact ⟨_, ⟨x, hx, rfl⟩, h⟩
theorem fr_mem {o : Nd} {l : List T} {ar : List ByteArray} {told : Bool} {s : ByteArray} : s ∈ frT (.mk o l) ar told ↔ s ∈ frH o ar told ∨ ∃ (i : Nat) (c : T), l[i]? = some c ∧ s ∈ frK o l ar i c := by
  rw [frT_mk, List.mem_append, mem_flatten_map]
  constructor
  · rintro (h | ⟨p, hp, h⟩)
    · exact .inl h
    · refine .inr ⟨p.2, p.1, ?_, h⟩
      have := List.mem_zipIdx_iff_getElem?.1 hp
      exact this
  · rintro (h | ⟨i, c, hi, h⟩)
    · exact .inl h
    · exact .inr ⟨(c, i), List.mem_zipIdx_iff_getElem?.2 hi, h⟩
theorem frH_mem {o : Nd} {ar : List ByteArray} {told : Bool} {s : ByteArray} : s ∈ frH o ar told ↔ hereP o ar told = true ∧ s = o.nm := by
  unfold frH
  cases hereP o ar told <;> simp
theorem inL_mem {s : ByteArray} {l : List ByteArray} : inL s l = true ↔ s ∈ l := by
  unfold inL
  simp only [List.any_eq_true, beq_iff_eq, str_eq]
  constructor
  · rintro ⟨x, hx, rfl⟩; exact hx
  · intro h; exact ⟨s, h, rfl⟩
/-- The more is bound around, the less is free. -/
theorem fr_mono (t : T) : ∀ (ar ar' : List ByteArray) (told : Bool) (s : ByteArray), (∀ x ∈ ar, x ∈ ar') → s ∈ frT t ar' told → s ∈ frT t ar told := by
  induction t using T.ind with
  | h o l ih =>
    intro ar ar' told s hs h
    rcases fr_mem.1 h with h | ⟨i, c, hi, h⟩
    · refine fr_mem.2 (.inl ?_)
      obtain ⟨h1, h2⟩ := frH_mem.1 h
      refine frH_mem.2 ⟨?_, h2⟩
      unfold hereP at h1 ⊢
      cases hn : inL o.nm ar with
      | false => revert h1; cases inL o.nm ar' <;> simp
      | true =>
        have : inL o.nm ar' = true := inL_mem.2 (hs _ (inL_mem.1 hn))
        rw [this] at h1
        simp at h1
    · refine fr_mem.2 (.inr ⟨i, c, hi, ?_⟩)
      exact ih c (List.mem_of_getElem? hi) _ _ _ s (fun x hx => by
        rcases List.mem_append.1 hx with hx | hx
        · exact List.mem_append_left _ (hs x hx)
        · exact List.mem_append_right _ hx) h
theorem tlP_kids (sub : ByteArray → Option T) (o : Nd) (l : List T) (ar : List ByteArray) (i : Nat) : tlP o (kidsE sub o l ar) i = tlP o l i := by
  unfold tlP letP
  rw [kidsE_length]
theorem bnL_kids (sub : ByteArray → Option T) (o : Nd) (l : List T) (ar : List ByteArray) (hlet : letP o l = true) : ∀ (i : Nat), i ≤ l.length → bnL (kidsE sub o l ar) i = bnL l i
  | 0, _ => rfl
  | i + 1, h => by
    rw [bnL, bnL, bnL_kids sub o l ar hlet i (by omega)]
    congr 1
    by_cases hi : i % 2 = 1
    · obtain ⟨c, hc⟩ : ∃ c, l[i - 1]? = some c := ⟨_, List.getElem?_eq_getElem (by omega)⟩
      have ht : tlP o l (i - 1) = true := by
        unfold tlP
        rw [hlet, decide_eq_true (by omega : (i - 1) % 2 = 0), decide_eq_true (by omega : i - 1 + 1 < l.length)]
        rfl
      have ho : (kidE sub o l ar (i - 1) c).o = c.o := by
        unfold kidE
        rw [ht]
        exact exp_told_o _ _ _
      rw [kidsE_at hc, hc]
      simp only [Option.map_some, ho]
    · have n1 : ¬ (i % 2 = 1 ∧ ((kidsE sub o l ar)[i - 1]?.map fun c => c.o.k) = some 7) := fun h => hi h.1
      have n2 : ¬ (i % 2 = 1 ∧ (l[i - 1]?.map fun c => c.o.k) = some 7) := fun h => hi h.1
      rw [if_neg n1, if_neg n2]
theorem bnP_kids (sub : ByteArray → Option T) (o : Nd) (l : List T) (ar : List ByteArray) (i : Nat) (h : i ≤ l.length) : bnP o (kidsE sub o l ar) i = bnP o l i := by
  have e : letP o (kidsE sub o l ar) = letP o l := by unfold letP; rw [kidsE_length]
  unfold bnP
  rw [e]
  cases hl : letP o l with
  | false => rfl
  | true => exact bnL_kids sub o l ar hl i h
/-- Where nothing that is free has a tree, all stays. -/
theorem exp_id {sub : ByteArray → Option T} (t : T) : ∀ (ar : List ByteArray) (told : Bool), (∀ s ∈ frT t ar told, sub s = none) → expT sub t ar told = t := by
  induction t using T.ind with
  | h o l ih =>
    intro ar told hs
    have hk : kidsE sub o l ar = l := by
      refine List.ext_getElem? fun i => ?_
      cases hi : l[i]? with
      | none => rw [List.getElem?_eq_none (by rw [kidsE_length]; exact List.getElem?_eq_none_iff.1 hi)]
      | some c =>
        rw [kidsE_at hi]
        unfold kidE
        rw [ih c (List.mem_of_getElem? hi) _ _ (fun s h => hs s (fr_mem.2 (.inr ⟨i, c, hi, h⟩)))]
    rw [expT_mk, hk]
    split
    · rename_i hh
      rw [hs o.nm (fr_mem.2 (.inl (frH_mem.2 ⟨hh, rfl⟩)))]
      rfl
    · rfl
/-- Of what is expanded by trees without free names nothing that is free has a tree. -/
theorem exp_fr {sub : ByteArray → Option T} (hc : ∀ s u, sub s = some u → frT u [] false = []) (t : T) : ∀ (ar : List ByteArray) (told : Bool), ∀ s ∈ frT (expT sub t ar told) ar told, sub s = none := by
  induction t using T.ind with
  | h o l ih =>
    intro ar told s hs
    have hkids : s ∈ frT (.mk o (kidsE sub o l ar)) ar told → (hereP o ar told = true → sub o.nm = none) → sub s = none := by
      intro h hn
      rcases fr_mem.1 h with h | ⟨i, c, hi, h⟩
      · obtain ⟨h1, rfl⟩ := frH_mem.1 h
        exact hn h1
      · have hil : i < l.length := by have := (List.getElem?_eq_some_iff.1 hi).1; rwa [kidsE_length] at this
        obtain ⟨c0, hc0⟩ : ∃ c0, l[i]? = some c0 := ⟨_, List.getElem?_eq_getElem hil⟩
        rw [kidsE_at hc0] at hi
        cases hi
        unfold frK at h
        rw [tlP_kids, bnP_kids _ _ _ _ _ (by omega)] at h
        exact ih c0 (List.mem_of_getElem? hc0) _ _ s h
    rw [expT_mk] at hs
    split at hs
    · rename_i hh
      cases hg : sub o.nm with
      | none =>
        rw [hg] at hs
        exact hkids hs (fun _ => hg)
      | some u =>
        rw [hg] at hs
        have ht : told = false := by
          unfold hereP at hh
          cases told with
          | false => rfl
          | true => simp at hh
        subst ht
        have := fr_mono u [] ar false s (fun x hx => by cases hx) hs
        rw [hc _ _ hg] at this
        cases this
    · rename_i hh
      exact hkids hs (fun h => absurd h hh)
theorem fr_closed {t : T} (h : calT t [] false = false) : frT t [] false = [] := by
  rw [calT_fr] at h
  simpa using h
/-- A table's trees have no free names. -/
theorem tab_closed (l : List Deed) : ∀ s u, subL (tabF l) s = some u → frT u [] false = [] := fun s u h => by
  obtain ⟨x, _, e, hc⟩ := tabF_mem (p := (s, u)) (mem_of_getL h)
  cases e
  exact fr_closed hc
theorem once_fr (l : List Deed) (t : T) : ∀ s ∈ frT (expT (subL (tabF l)) t [] false) [] false, getL (tabF l) s = none := exp_fr (tab_closed l) t [] false
theorem once_exp (l : List Deed) (t : T) : expT (subL (tabF l)) (expT (subL (tabF l)) t [] false) [] false = expT (subL (tabF l)) t [] false := exp_id _ _ _ (exp_fr (tab_closed l) t [] false)
theorem none_exp (t : T) : expT (subL []) t [] false = t := exp_id _ _ _ (fun _ _ => rfl)
end Go.Proofs.Ytlcglkanlhmmdaa
