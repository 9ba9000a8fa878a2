/- Tables with names rising, and names taken away: plain. -/
import Derived.Sort.Walk0
import Derived.Test.YtlcglkanlhmmdaaGreatQN17Agree
import Derived.Test.YtlcglkanlhmmdaaGreatQRangeG
namespace Go.Proofs.YtlcglkanlhmmdaaGreat
open Go.RowKit
theorem lt_tri {a b : List UInt8} (h1 : ¬ a < b) (h2 : a ≠ b) : b < a := by
  by_cases h : b < a
  · exact h
  · exact absurd (List.le_antisymm h h1) h2
theorem name_ne {s x : ByteArray} (h : s ≠ x) : s.data.toList ≠ x.data.toList := fun e => h (by
  obtain ⟨a⟩ := s
  obtain ⟨b⟩ := x
  congr 1
  exact Array.toList_inj.1 e)
theorem gtS_iff (s x : ByteArray) : gtS s x = true ↔ s.data.toList < x.data.toList := by
  unfold gtS
  rw [Go.Proofs.bytesLess_eq, Lib.toList_data, Lib.toList_data]
  by_cases h : x.data.toList < s.data.toList
  · simp only [h, decide_true, Bool.true_or, Bool.not_true, Bool.false_eq_true, false_iff]
    exact fun h2 => absurd (List.lt_trans h h2) (List.lt_irrefl _)
  · by_cases h2 : x.data.toList = s.data.toList
    · rw [h2]
      simp
    · simp only [h, decide_false, Bool.false_or, Bool.not_eq_true', beq_eq_false_iff_ne]
      exact ⟨fun _ => lt_tri h h2, fun _ => h2⟩
/-- Names rising. -/
def Rise (R : List (ByteArray × T)) : Prop := R.Pairwise fun p q => p.1.data.toList < q.1.data.toList
theorem Rise.nodup {R : List (ByteArray × T)} (h : Rise R) : (R.map Prod.fst).Nodup := by
  unfold List.Nodup
  rw [List.pairwise_map]
  refine List.Pairwise.imp (fun {a b} hab e => ?_) h
  rw [e] at hab
  exact List.lt_irrefl _ hab
theorem insG_rise (s : ByteArray) (t : T) : ∀ (R : List (ByteArray × T)) (b : Bool), Rise R → Rise (insG s t (gtS s) R b)
  | [], b, _ => by cases b <;> simp [insG, Rise]
  | (x, u) :: r, b, h => by
    have h' : (∀ p ∈ r, x.data.toList < p.1.data.toList) ∧ Rise r := List.pairwise_cons.1 h
    have hn := Rise.nodup h'.2
    have key : ∀ b p, p ∈ insG s t (gtS s) r b → p.1 = s ∧ b = false ∨ p.1 ≠ s ∧ p.1 ∈ r.map Prod.fst := fun b p hp => (insG_fst s t (gtS s) r b hn).2 p.1 (List.mem_map.2 ⟨p, hp, rfl⟩)
    have hr : ∀ y, y ∈ r.map Prod.fst → x.data.toList < y.data.toList := fun y hy => by
      obtain ⟨p, hp, rfl⟩ := List.mem_map.1 hy
      exact h'.1 p hp
    rw [insG]
    by_cases hx : x = s
    · rw [if_pos hx]
      exact insG_rise s t r b h'.2
    · rw [if_neg hx]
      cases hb : (!b && gtS s x) with
      | true =>
        rw [if_pos rfl]
        have hg : s.data.toList < x.data.toList := (gtS_iff s x).1 (by cases b <;> simp at hb; exact hb)
        have ht : ∀ p ∈ insG s t (gtS s) r true, x.data.toList < p.1.data.toList := fun p hp => by
          rcases key true p hp with ⟨_, h2⟩ | ⟨_, h2⟩
          · cases h2
          · exact hr _ h2
        refine List.pairwise_cons.2 ⟨fun p hp => ?_, List.pairwise_cons.2 ⟨ht, insG_rise s t r true h'.2⟩⟩
        rcases List.mem_cons.1 hp with rfl | hp
        · exact hg
        · exact List.lt_trans hg (ht p hp)
      | false =>
        rw [if_neg (by simp)]
        refine List.pairwise_cons.2 ⟨fun p hp => ?_, insG_rise s t r b h'.2⟩
        rcases key b p hp with ⟨h1, h2⟩ | ⟨_, h2⟩
        · rw [h1]
          have hg : ¬ s.data.toList < x.data.toList := fun hh => by
            rw [h2, (gtS_iff s x).2 hh] at hb
            cases hb
          exact lt_tri hg (name_ne (Ne.symm hx))
        · exact hr _ h2
theorem rset_rise {R : List (ByteArray × T)} (h : Rise R) (s : ByteArray) (t : T) : Rise (rsetL R s t) := by
  unfold rsetL
  split
  · exact insG_rise s t R false h
  · exact h
/-- A name taken away. -/
def delL (L : List (ByteArray × T)) (s : ByteArray) : List (ByteArray × T) := L.filter fun p => decide (p.1 ≠ s)
theorem del_get (L : List (ByteArray × T)) (s y : ByteArray) : getL (delL L s) y = if y = s then none else getL L y := by
  induction L with
  | nil => simp [delL, getL]
  | cons a r ih =>
    obtain ⟨x, u⟩ := a
    unfold delL at ih ⊢
    rw [List.filter_cons]
    by_cases hx : x = s
    · rw [if_neg (by simp [hx]), ih, getL]
      by_cases hy : y = s
      · rw [if_pos hy, if_pos hy]
      · rw [if_neg hy, if_neg hy, if_neg (fun e => hy (by rw [← e, hx]))]
    · rw [if_pos (by simp [hx]), getL, getL, ih]
      by_cases hxy : x = y
      · rw [if_pos hxy, if_pos hxy, if_neg (fun e => hx (by rw [hxy, e]))]
      · rw [if_neg hxy, if_neg hxy]
theorem del_none {L : List (ByteArray × T)} {s : ByteArray} (h : getL L s = none) : delL L s = L := by
  unfold delL
  rw [List.filter_eq_self]
  intro p hp
  simpa using getL_none.1 h p hp
theorem del_length {L : List (ByteArray × T)} (hn : (L.map Prod.fst).Nodup) (s : ByteArray) : (delL L s).length + (if (getL L s).isSome then 1 else 0) = L.length := by
  induction L with
  | nil => simp [delL, getL]
  | cons a r ih =>
    obtain ⟨x, u⟩ := a
    simp only [List.map_cons, List.nodup_cons] at hn
    have ih := ih hn.2
    unfold delL at ih ⊢
    rw [List.filter_cons, getL]
    by_cases hx : x = s
    · have hr : getL r s = none := by
        rw [← hx]
        cases hg : getL r x with
        | none => rfl
        | some v => exact absurd (List.mem_map.2 ⟨_, mem_of_getL hg, rfl⟩) hn.1
      rw [hr] at ih
      rw [if_neg (by simp [hx]), if_pos hx]
      simp at ih ⊢
      omega
    · rw [if_pos (by simp [hx]), if_neg hx]
      simp only [List.length_cons] at ih ⊢
      omega
theorem del_sub (L : List (ByteArray × T)) (s : ByteArray) : (delL L s).Sublist L := List.filter_sublist
theorem Agree.del {L R : List (ByteArray × T)} (h : Agree L R) (s : ByteArray) : Agree (delL L s) (delL R s) := by
  refine ⟨fun y => by rw [del_get, del_get, h.get], ?_, h.nodR.sublist ((del_sub R s).map _), h.nodL.sublist ((del_sub L s).map _)⟩
  have h1 := del_length h.nodR s
  have h2 := del_length h.nodL s
  rw [h.get s] at h1
  have := h.len
  omega
theorem Rise.del {R : List (ByteArray × T)} (h : Rise R) (s : ByteArray) : Rise (delL R s) := h.sublist (del_sub R s)
/-- The k-th row left out. -/
theorem del_at {R : List (ByteArray × T)} (hn : (R.map Prod.fst).Nodup) {k : Nat} {s : ByteArray} {t : T} (h : R[k]? = some (s, t)) : delL R s = R.take k ++ R.drop (k + 1) := by
  induction R generalizing k with
  | nil => simp at h
  | cons a r ih =>
    obtain ⟨x, u⟩ := a
    simp only [List.map_cons, List.nodup_cons] at hn
    unfold delL at ih ⊢
    rw [List.filter_cons]
    cases k with
    | zero =>
      simp at h
      rw [if_neg (by simp [h.1])]
      have hr : getL r s = none := by
        rw [← h.1]
        cases hg : getL r x with
        | none => rfl
        | some v => exact absurd (List.mem_map.2 ⟨_, mem_of_getL hg, rfl⟩) hn.1
      have := del_none hr
      unfold delL at this
      rw [this]
      rfl
    | succ k =>
      simp only [List.getElem?_cons_succ] at h
      have hx : x ≠ s := fun e => hn.1 (by rw [e]; exact List.mem_map.2 ⟨_, List.mem_of_getElem? h, rfl⟩)
      rw [if_pos (by simp [hx]), ih hn.2 h]
      rfl
theorem mem_getL {L : List (ByteArray × T)} (hn : (L.map Prod.fst).Nodup) {p : ByteArray × T} : p ∈ L ↔ getL L p.1 = some p.2 := by
  constructor
  · intro h
    obtain ⟨j, hj⟩ := List.mem_iff_getElem?.1 h
    exact getL_of_at hn hj
  · exact fun h => mem_of_getL h
theorem nodup_of_fst {L : List (ByteArray × T)} (h : (L.map Prod.fst).Nodup) : L.Nodup := by
  unfold List.Nodup at h ⊢
  rw [List.pairwise_map] at h
  exact h.imp fun {a b} hab e => hab (by rw [e])
theorem Agree.perm {L R : List (ByteArray × T)} (h : Agree L R) : R.Perm L := by
  refine (List.perm_ext_iff_of_nodup (nodup_of_fst h.nodR) (nodup_of_fst h.nodL)).2 fun p => ?_
  rw [mem_getL h.nodR, mem_getL h.nodL, h.get]
theorem rise_sort {L R : List (ByteArray × T)} (hp : R.Perm L) (hr : Rise R) : sortP L = R := by
  have hn := hr.nodup
  have h2 : R.Pairwise (fun a b => leN a b = true) := by
    refine List.Pairwise.imp (fun {a b} hab => ?_) hr
    unfold leN
    exact decide_eq_true (List.le_of_lt hab)
  refine List.Perm.eq_of_pairwise (le := fun a b => leN a b = true) (fun a b ha hb h1 h3 => ?_) (List.pairwise_mergeSort (fun a b c h1 h3 => ?_) (fun a b => ?_) L) h2 ((sortP_perm L).trans hp.symm)
  · unfold leN at h1 h3
    have e := List.le_antisymm (of_decide_eq_true h1) (of_decide_eq_true h3)
    have ha' : a ∈ R := hp.mem_iff.2 ((sortP_perm L).mem_iff.1 ha)
    have e1 : a.1 = b.1 := by
      by_cases he : a.1 = b.1
      · exact he
      · exact absurd e (name_ne he)
    have g1 := (mem_getL hn).1 ha'
    have g2 := (mem_getL hn).1 hb
    rw [e1, g2] at g1
    cases a
    cases b
    simp at e1 g1
    rw [e1, g1]
  · unfold leN at h1 h3 ⊢
    exact decide_eq_true (List.le_trans (of_decide_eq_true h1) (of_decide_eq_true h3))
  · unfold leN
    simp only [Bool.or_eq_true, decide_eq_true_eq]
    exact List.le_total _ _
theorem Agree.sort {L R : List (ByteArray × T)} (h : Agree L R) (hr : Rise R) : sortP L = R := rise_sort h.perm hr
end Go.Proofs.YtlcglkanlhmmdaaGreat
