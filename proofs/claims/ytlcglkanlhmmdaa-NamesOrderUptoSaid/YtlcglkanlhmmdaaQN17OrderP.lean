/- Unlike names make the same table in either order: plain. -/
import Derived.Test.YtlcglkanlhmmdaaQN17LawP
namespace Go.Proofs.Ytlcglkanlhmmdaa
open Go.RowKit
def okD (x : Deed) : Bool := nameP x.nm && decide (checkP x.t = 0) && !calT x.t [] false
def keyD (x : Deed) : ByteArray × T := (x.nm, x.t)
theorem setE_ok {L : List (ByteArray × T)} {x : Deed} (h : L.length < 100) : setE L x.nm x.t = 0 ↔ okD x = true := by
  constructor
  · intro he
    obtain ⟨h1, h2, h3⟩ := setE_zero he
    unfold okD
    rw [h1, h3, decide_eq_true h2]
    rfl
  · intro he
    unfold okD at he
    simp only [Bool.and_eq_true, decide_eq_true_eq, Bool.not_eq_true'] at he
    obtain ⟨⟨h1, h2⟩, h3⟩ := he
    unfold setE
    rw [if_neg (by rw [h1]; simp), if_neg (by simp [h2]), if_neg (by rw [h3]; simp), if_neg (by intro hh; omega)]
theorem tab_from : ∀ (l : List Deed) (L : List (ByteArray × T)), L.length + l.length ≤ 100 → (l.map Deed.nm).Nodup → (∀ x ∈ l, ∀ p ∈ L, p.1 ≠ x.nm) → l.foldl (fun L x => setL L x.nm x.t) L = L ++ (l.filter okD).map keyD
  | [], L, _, _, _ => by simp
  | x :: l, L, hl, hn, hd => by
    simp only [List.map_cons, List.nodup_cons, List.length_cons] at hn hl
    rw [List.foldl_cons]
    by_cases ho : okD x = true
    · have e : setL L x.nm x.t = L ++ [keyD x] := by
        unfold setL
        rw [if_pos ((setE_ok (by omega)).2 ho), putL_new (hd x (by simp))]
        rfl
      rw [e, tab_from l (L ++ [keyD x]) (by rw [List.length_append, List.length_singleton]; omega) hn.2 (fun y hy p hp => by
        rcases List.mem_append.1 hp with hp | hp
        · exact hd y (List.mem_cons_of_mem _ hy) p hp
        · rw [List.mem_singleton.1 hp]
          intro e
          exact hn.1 (List.mem_map.2 ⟨y, hy, e.symm⟩)), List.filter_cons, if_pos ho, List.map_cons, List.append_assoc, List.singleton_append]
    · have e : setL L x.nm x.t = L := by
        unfold setL
        rw [if_neg (fun he => ho ((setE_ok (by omega)).1 he))]
      rw [e, tab_from l L (by omega) hn.2 (fun y hy p hp => hd y (List.mem_cons_of_mem _ hy) p hp), List.filter_cons, if_neg ho]
theorem tabF_distinct {l : List Deed} (hl : l.length ≤ 100) (hn : (l.map Deed.nm).Nodup) : tabF l = (l.filter okD).map keyD := by
  have h := tab_from l [] (by simpa using hl) hn (fun x _ p hp => by cases hp)
  rw [List.nil_append] at h
  exact h
theorem tabF_reverse {l : List Deed} (hl : l.length ≤ 100) (hn : (l.map Deed.nm).Nodup) : tabF l.reverse = (tabF l).reverse := by
  have hr : (l.reverse.map Deed.nm).Nodup := by rw [List.map_reverse]; exact (List.reverse_perm _).nodup_iff.2 hn
  rw [tabF_distinct (by rw [List.length_reverse]; exact hl) hr, tabF_distinct hl hn, List.filter_reverse, List.map_reverse]
theorem getL_rev {L : List (ByteArray × T)} (hn : (L.map Prod.fst).Nodup) {s : ByteArray} {t : T} (h : (s, t) ∈ L) : getL L.reverse s = some t := by
  have hr : (L.reverse.map Prod.fst).Nodup := by rw [List.map_reverse]; exact (List.reverse_perm _).nodup_iff.2 hn
  obtain ⟨j, hj⟩ := List.mem_iff_getElem?.1 (List.mem_reverse.2 h)
  exact getL_of_at hr hj
/-- No name comes twice. -/
theorem names_nodup {l : List Deed} (h : ∀ (i k : Nat) (x y : Deed), k < i → l[i]? = some x → l[k]? = some y → x.nm ≠ y.nm) : (l.map Deed.nm).Nodup := by
  unfold List.Nodup
  rw [List.pairwise_iff_getElem]
  intro k i hk hi hlt e
  simp only [List.length_map] at hk hi
  simp only [List.getElem_map] at e
  exact h i k _ _ hlt (List.getElem?_eq_getElem hi) (List.getElem?_eq_getElem hk) e.symm
end Go.Proofs.Ytlcglkanlhmmdaa
