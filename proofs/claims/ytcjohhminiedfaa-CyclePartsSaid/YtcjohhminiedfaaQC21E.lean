/- Cycle: a graph told by its edges. -/
import Derived.Test.YtcjohhminiedfaaQC21Order
import Derived.Test.YtcjohhminiedfaaQC21K
namespace Go.Proofs.Ytcjohhminiedfaa
open Go.RowKit
def tos (n : Nat) (E : List (Nat × Nat)) : List (List Nat) := (List.range n).map fun i => (E.filter fun e => e.1 == i).map Prod.snd
def frs (n : Nat) (E : List (Nat × Nat)) : List (List Nat) := (List.range n).map fun i => (E.filter fun e => e.2 == i).map Prod.fst
structure EOk (n : Nat) (E : List (Nat × Nat)) : Prop where
  nod : E.Nodup
  lt : ∀ e ∈ E, e.1 < n ∧ e.2 < n
theorem EOk.nil (n : Nat) : EOk n [] := ⟨List.nodup_nil, fun e he => by cases he⟩
theorem EOk.push {n : Nat} {E : List (Nat × Nat)} (h : EOk n E) {a b : Nat} (ha : a < n) (hb : b < n) (hn : (a, b) ∉ E) : EOk n (E ++ [(a, b)]) := by
  refine ⟨List.nodup_append.2 ⟨h.nod, by simp, fun x hx y hy e => hn ?_⟩, fun e he => ?_⟩
  · rw [List.mem_singleton.1 hy] at e
    rw [← e]
    exact hx
  · rcases List.mem_append.1 he with he | he
    · exact h.lt e he
    · rw [List.mem_singleton.1 he]
      exact ⟨ha, hb⟩
theorem tos_len (n : Nat) (E : List (Nat × Nat)) : (tos n E).length = n := by simp [tos]
theorem frs_len (n : Nat) (E : List (Nat × Nat)) : (frs n E).length = n := by simp [frs]
theorem tos_at {n i : Nat} (E : List (Nat × Nat)) (hi : i < n) : (tos n E)[i]? = some ((E.filter fun e => e.1 == i).map Prod.snd) := by
  unfold tos
  rw [List.getElem?_map, List.getElem?_range hi]
  rfl
theorem frs_at {n i : Nat} (E : List (Nat × Nat)) (hi : i < n) : (frs n E)[i]? = some ((E.filter fun e => e.2 == i).map Prod.fst) := by
  unfold frs
  rw [List.getElem?_map, List.getElem?_range hi]
  rfl
theorem mem_tos {n x y : Nat} {E : List (Nat × Nat)} (h : EOk n E) : y ∈ (tos n E).getD x [] ↔ (x, y) ∈ E := by
  rw [List.getD_eq_getElem?_getD]
  by_cases hx : x < n
  · rw [tos_at E hx]
    show y ∈ (E.filter _).map _ ↔ _
    rw [List.mem_map]
    constructor
    · rintro ⟨e, he, rfl⟩
      obtain ⟨h1, h2⟩ := List.mem_filter.1 he
      rw [← beq_iff_eq.1 h2]
      exact h1
    · exact fun he => ⟨(x, y), List.mem_filter.2 ⟨he, by simp⟩, rfl⟩
  · rw [List.getElem?_eq_none (by rw [tos_len]; omega)]
    constructor
    · intro h
      simp at h
    · exact fun he => absurd (h.lt _ he).1 hx
theorem mem_frs {n x y : Nat} {E : List (Nat × Nat)} (h : EOk n E) : x ∈ (frs n E).getD y [] ↔ (x, y) ∈ E := by
  rw [List.getD_eq_getElem?_getD]
  by_cases hy : y < n
  · rw [frs_at E hy]
    show x ∈ (E.filter _).map _ ↔ _
    rw [List.mem_map]
    constructor
    · rintro ⟨e, he, rfl⟩
      obtain ⟨h1, h2⟩ := List.mem_filter.1 he
      rw [← beq_iff_eq.1 h2]
      exact h1
    · exact fun he => ⟨(x, y), List.mem_filter.2 ⟨he, by simp⟩, rfl⟩
  · rw [List.getElem?_eq_none (by rw [frs_len]; omega)]
    constructor
    · intro h
      simp at h
    · exact fun he => absurd (h.lt _ he).2 hy
theorem tos_ok {n : Nat} {E : List (Nat × Nat)} (h : EOk n E) : TOk n (tos n E) := by
  refine ⟨tos_len n E, fun l hl y hy => ?_⟩
  obtain ⟨i, _, rfl⟩ := List.mem_map.1 hl
  obtain ⟨e, he, rfl⟩ := List.mem_map.1 hy
  exact (h.lt e (List.mem_filter.1 he).1).2
theorem frs_ok {n : Nat} {E : List (Nat × Nat)} (h : EOk n E) : TOk n (frs n E) := by
  refine ⟨frs_len n E, fun l hl y hy => ?_⟩
  obtain ⟨i, _, rfl⟩ := List.mem_map.1 hl
  obtain ⟨e, he, rfl⟩ := List.mem_map.1 hy
  exact (h.lt e (List.mem_filter.1 he).1).1
theorem nodup_row {E : List (Nat × Nat)} (h : E.Nodup) (x : Nat) : ((E.filter fun e => e.1 == x).map Prod.snd).Nodup := by
  unfold List.Nodup
  rw [List.pairwise_map]
  refine (h.sublist List.filter_sublist).imp_of_mem fun {a b} ha hb hab e => hab ?_
  have h1 := beq_iff_eq.1 (List.mem_filter.1 ha).2
  have h2 := beq_iff_eq.1 (List.mem_filter.1 hb).2
  exact Prod.ext (h1.trans h2.symm) e
theorem nodup_row2 {E : List (Nat × Nat)} (h : E.Nodup) (x : Nat) : ((E.filter fun e => e.2 == x).map Prod.fst).Nodup := by
  unfold List.Nodup
  rw [List.pairwise_map]
  refine (h.sublist List.filter_sublist).imp_of_mem fun {a b} ha hb hab e => hab ?_
  have h1 := beq_iff_eq.1 (List.mem_filter.1 ha).2
  have h2 := beq_iff_eq.1 (List.mem_filter.1 hb).2
  exact Prod.ext e (h1.trans h2.symm)
theorem tos_nodup {n : Nat} {E : List (Nat × Nat)} (h : EOk n E) (x : Nat) : ((tos n E).getD x []).Nodup := by
  rw [List.getD_eq_getElem?_getD]
  by_cases hx : x < n
  · rw [tos_at E hx]
    exact nodup_row h.nod x
  · rw [List.getElem?_eq_none (by rw [tos_len]; omega)]
    exact List.nodup_nil
theorem frs_nodup {n : Nat} {E : List (Nat × Nat)} (h : EOk n E) (x : Nat) : ((frs n E).getD x []).Nodup := by
  rw [List.getD_eq_getElem?_getD]
  by_cases hx : x < n
  · rw [frs_at E hx]
    exact nodup_row2 h.nod x
  · rw [List.getElem?_eq_none (by rw [frs_len]; omega)]
    exact List.nodup_nil
theorem flip_E {n : Nat} {E : List (Nat × Nat)} (h : EOk n E) (x y : Nat) : ((frs n E).getD x []).count y = ((tos n E).getD y []).count x := by
  rw [(frs_nodup h x).count, (tos_nodup h y).count]
  simp only [mem_tos h, mem_frs h]
theorem sum_one {l : List Nat} (h : l.Nodup) (z : Nat) : (l.map fun i => if z = i then 1 else 0).sum ≤ 1 := by
  rw [sum_ind]
  exact List.nodup_iff_count.1 h z
theorem tos_sum (n : Nat) (E : List (Nat × Nat)) : ((tos n E).map List.length).sum ≤ E.length := by
  have e : (tos n E).map List.length = (List.range n).map fun i => (E.map fun e => if e.1 = i then 1 else 0).sum := by
    unfold tos
    rw [List.map_map]
    refine List.map_congr_left fun i _ => ?_
    show ((E.filter _).map _).length = _
    rw [List.length_map]
    induction E with
    | nil => rfl
    | cons a r ih =>
      rw [List.filter_cons, List.map_cons, List.sum_cons, ← ih]
      by_cases h : a.1 = i
      · simp [h]
        omega
      · have : (a.1 == i) = false := by simpa using h
        simp [h, this]
  rw [e, sum_swap]
  induction E with
  | nil => simp
  | cons a r ih =>
    rw [List.map_cons, List.sum_cons, List.length_cons]
    have h1 := sum_one (List.nodup_range (n := n)) a.1
    have h2 : (r.map fun e => ((List.range n).map fun i => if e.1 = i then 1 else 0).sum).sum ≤ r.length := by
      clear ih e
      induction r with
      | nil => simp
      | cons b s ih =>
        rw [List.map_cons, List.sum_cons, List.length_cons]
        have h3 := sum_one (List.nodup_range (n := n)) b.1
        omega
    omega
theorem tos_push {n a b : Nat} {E : List (Nat × Nat)} : tos n (E ++ [(a, b)]) = (tos n E).set a ((tos n E).getD a [] ++ [b]) := by
  apply List.ext_getElem?
  intro i
  rw [List.getElem?_set]
  by_cases hi : i < n
  · rw [tos_at _ hi, tos_at _ hi]
    by_cases e : a = i
    · subst e
      rw [if_pos rfl, if_pos (by rw [tos_len]; exact hi), List.getD_eq_getElem?_getD, tos_at _ hi]
      simp
    · rw [if_neg e]
      simp [e]
  · rw [List.getElem?_eq_none (by rw [tos_len]; omega), List.getElem?_eq_none (by rw [tos_len]; omega)]
    by_cases e : a = i
    · subst e
      rw [if_pos rfl, if_neg (by rw [tos_len]; exact hi)]
    · rw [if_neg e]
theorem frs_push {n a b : Nat} {E : List (Nat × Nat)} : frs n (E ++ [(a, b)]) = (frs n E).set b ((frs n E).getD b [] ++ [a]) := by
  apply List.ext_getElem?
  intro i
  rw [List.getElem?_set]
  by_cases hi : i < n
  · rw [frs_at _ hi, frs_at _ hi]
    by_cases e : b = i
    · subst e
      rw [if_pos rfl, if_pos (by rw [frs_len]; exact hi), List.getD_eq_getElem?_getD, frs_at _ hi]
      simp
    · rw [if_neg e]
      simp [e]
  · rw [List.getElem?_eq_none (by rw [frs_len]; omega), List.getElem?_eq_none (by rw [frs_len]; omega)]
    by_cases e : b = i
    · subst e
      rw [if_pos rfl, if_neg (by rw [frs_len]; exact hi)]
    · rw [if_neg e]
/-! in memory -/
structure GrD (K : Nat) (w : World) (G : Gb) (T F : List (List Nat)) (M : List ((Int × Int) × Bool)) : Prop where
  gr : GrR w G T F
  mp : ∃ mb, G.m = some mb ∧ MapIs w mb encP Value.bool M
  lo : ∀ k, G.has k → K ≤ k
  tt : ∀ (i j : Nat) (u v : Value) (k : Nat), G.ts[i]? = some u → G.ts[j]? = some v → u.ownBlock = some k → v.ownBlock = some k → i = j
  ff : ∀ (i j : Nat) (u v : Value) (k : Nat), G.fs[i]? = some u → G.fs[j]? = some v → u.ownBlock = some k → v.ownBlock = some k → i = j
  tf : ∀ (i j : Nat) (u v : Value) (k : Nat), G.ts[i]? = some u → G.fs[j]? = some v → u.ownBlock = some k → v.ownBlock ≠ some k
  tabs : ∀ k, G.tv.ownBlock = some k → G.fv.ownBlock ≠ some k
theorem own_cells {w : World} {base : Nat} {e : TypeId} {size : Nat} {v : Value} {n : Nat} {xs : List Value} {k : Nat} (h : w.ownsRow base e size v n xs) (hk : v.ownBlock = some k) : ∃ cs, w.heap[k]? = some (.cells cs e) := by
  rcases h.2 with ⟨e1, _⟩ | ⟨g, cap, cur, e1, _, hh, _⟩
  · rw [e1] at hk; cases hk
  · rw [e1] at hk
    cases hk
    exact ⟨_, hh⟩
section
variable {K : Nat} {w w' : World} {G : Gb} {T F : List (List Nat)} {M : List ((Int × Int) × Bool)}
theorem GrR.has_lt (h : GrR w G T F) (hm : ∀ mb, G.m = some mb → mb < w.heap.size) {k : Nat} (hk : G.has k) : k < w.heap.size := by
  rcases hk with rfl | e | e | e | ⟨i, u, e1, e2⟩ | ⟨i, u, e1, e2⟩
  · exact lt_of_heap h.blk
  · exact (h.to.row.lt k e).2
  · exact (h.fr.row.lt k e).2
  · exact hm k e
  · exact (h.to.lt' e1 k e2).2
  · exact (h.fr.lt' e1 k e2).2
theorem GrD.has_lt (h : GrD K w G T F M) {k : Nat} (hk : G.has k) : k < w.heap.size := h.gr.has_lt (fun mb e => by
  obtain ⟨m, e1, e2⟩ := h.mp
  rw [e1] at e
  cases e
  exact e2.lt) hk
theorem GrD.keep (h : GrD K w G T F M) (hk : ∀ k, G.has k → k < w.heap.size → w'.heap[k]? = w.heap[k]?) : GrD K w' G T F M := by
  refine ⟨h.gr.keep hk, ?_, h.lo, h.tt, h.ff, h.tf, h.tabs⟩
  obtain ⟨mb, e1, e2⟩ := h.mp
  exact ⟨mb, e1, e2.of_block (hk mb (.inr (.inr (.inr (.inl e1)))) e2.lt)⟩
theorem GrD.below (h : GrD K w G T F M) (hb : Below w.heap.size w w') : GrD K w' G T F M := h.keep fun k _ hk => hb.block k hk
theorem GrD.belowK (h : GrD K w G T F M) {H : Nat} (hb : Below H w w') (hH : ∀ k, G.has k → k < H) : GrD K w' G T F M := h.keep fun k hk _ => hb.block k (hH k hk)
/-- The map's block is none of the others. -/
theorem GrD.map_ne (h : GrD K w G T F M) {mb : Nat} (hm : G.m = some mb) : mb ≠ G.p ∧ G.tv.ownBlock ≠ some mb ∧ G.fv.ownBlock ≠ some mb ∧ (∀ (i : Nat) (u : Value), G.ts[i]? = some u → u.ownBlock ≠ some mb) ∧ ∀ (i : Nat) (u : Value), G.fs[i]? = some u → u.ownBlock ≠ some mb := by
  obtain ⟨m, e1, es, c, e2, _⟩ := h.mp
  rw [hm] at e1
  cases e1
  have key : ∀ {base : Nat} {e : TypeId} {size : Nat} {v : Value} {n : Nat} {xs : List Value}, w.ownsRow base e size v n xs → v.ownBlock ≠ some mb := fun hr e => by
    obtain ⟨cs, h1⟩ := own_cells hr e
    rw [e2] at h1
    cases h1
  have ke : ∀ {v : Value} {vs : List Value} {L : List (List Nat)}, RR 0 w v vs L → ∀ (i : Nat) (u : Value), vs[i]? = some u → u.ownBlock ≠ some mb := fun hR i u hu => by
    have hi := (List.getElem?_eq_some_iff.1 hu).1
    rw [hR.len] at hi
    obtain ⟨u', h1, h2⟩ := hR.each i _ (List.getElem?_eq_getElem hi)
    rw [hu] at h1
    cases h1
    exact key h2
  refine ⟨fun e => ?_, key h.gr.to.row, key h.gr.fr.row, ke h.gr.to, ke h.gr.fr⟩
  have := h.gr.blk
  rw [← e, e2] at this
  cases this
theorem GrD.upd (h : GrD K w G T F M) {mb : Nat} (hm : G.m = some mb) {M' : List ((Int × Int) × Bool)} (h1 : MapIs w' mb encP Value.bool M') (h2 : Fr (fun k => k = mb) w w') : GrD K w' G T F M' := by
  obtain ⟨n1, n2, n3, n4, n5⟩ := h.map_ne hm
  refine ⟨⟨h.gr.ptr, (h2.block _ (lt_of_heap h.gr.blk) (fun e => n1 e.symm)).trans h.gr.blk, h.gr.to.block (fun k e hlt => h2.block k hlt fun e2 => n2 (by rw [← e2]; exact e)) fun i u k e1 e2 hlt => h2.block k hlt fun e3 => n4 i u e1 (by rw [← e3]; exact e2), h.gr.fr.block (fun k e hlt => h2.block k hlt fun e2 => n3 (by rw [← e2]; exact e)) fun i u k e1 e2 hlt => h2.block k hlt fun e3 => n5 i u e1 (by rw [← e3]; exact e2)⟩, ⟨mb, hm, h1⟩, h.lo, h.tt, h.ff, h.tf, h.tabs⟩
theorem RR.ne_row {B : Nat} {v : Value} {vs : List Value} {L : List (List Nat)} (h : RR B w v vs L) {i : Nat} {u : Value} (hu : vs[i]? = some u) {r : Nat} {t : TypeId} {cs : Array Value} (hb : w.heap[r]? = some (.cells cs t)) (ht : t ≠ 3) : u.ownBlock ≠ some r := by
  have hi := (List.getElem?_eq_some_iff.1 hu).1
  rw [h.len] at hi
  obtain ⟨u', h1, h2⟩ := h.each i _ (List.getElem?_eq_getElem hi)
  rw [hu] at h1
  cases h1
  exact h2.ne' hb ht
theorem RR.ne_tab {B : Nat} {v : Value} {vs : List Value} {L : List (List Nat)} (h : RR B w v vs L) {r : Nat} {t : TypeId} {cs : Array Value} (hb : w.heap[r]? = some (.cells cs t)) (ht : t ≠ 31) : v.ownBlock ≠ some r := fun e => by
  obtain ⟨cs', h1⟩ := own_cells h.row e
  rw [hb] at h1
  cases h1
  exact ht rfl
/-- A row of a table has grown (in w1), and is put into the table. -/
theorem RR.grow {B : Nat} {g n c a : Nat} {w1 : World} {vs : List Value} {L : List (List Nat)} {u v' : Value} {l' : List Nat} (h : RR B w (.slice (some ⟨g, 0, none⟩) n c) vs L) (hu : vs[a]? = some u)
    (hk : ∀ k, k < w.heap.size → u.ownBlock ≠ some k → w1.heap[k]? = w.heap[k]?) (hdis : ∀ (i : Nat) (x : Value) (k : Nat), vs[i]? = some x → x.ownBlock = some k → u.ownBlock = some k → i = a) (hn : IR B w1 v' l') :
    RR B (w1.setCell ⟨g, a, none⟩ v') (.slice (some ⟨g, 0, none⟩) n c) (vs.set a v') (L.set a l') := by
  have hgB := h.row.lt g rfl
  obtain ⟨cs, hg⟩ := own_cells h.row rfl
  have hug := h.ne_row hu hg (by decide)
  have hrow1 : w1.ownsRow B 31 1 (.slice (some ⟨g, 0, none⟩) n c) L.length vs := own_block h.row fun k e hlt => hk k hlt fun e2 => by
    cases e
    exact hug e2
  have hg1 : w1.heap[g]? = some (.cells cs 31) := (hk g (lt_of_heap hg) hug).trans hg
  have hen : n = L.length := by
    obtain ⟨_, _, e, _⟩ := own_slice hrow1
    injection e
  rw [hen] at hrow1 ⊢
  have hset := (World.ownsRow.stored hrow1 a v').1
  refine ⟨by rw [List.length_set]; exact hset, fun i l hl => ?_⟩
  by_cases e : a = i
  · subst e
    have ha := (List.getElem?_eq_some_iff.1 hu).1
    rw [List.getElem?_set_self (by rw [← h.len]; exact ha)] at hl
    cases hl
    refine ⟨v', List.getElem?_set_self ha, hn.block fun k e _ => set_other k fun e2 => ?_⟩
    subst e2
    exact hn.ne' hg1 (by decide) e
  · rw [List.getElem?_set_ne e] at hl
    obtain ⟨x, h1, h2⟩ := h.each i l hl
    refine ⟨x, by rw [List.getElem?_set_ne e]; exact h1, h2.block fun k e1 hlt => (set_other k fun e2 => ?_).trans (hk k hlt fun e2 => e (hdis i x k h1 e1 e2).symm)⟩
    subst e2
    exact h2.ne' hg (by decide) e1
theorem set_at {vs : List Value} {a i : Nat} {v' u : Value} (h : (vs.set a v')[i]? = some u) : (i = a ∧ u = v') ∨ (i ≠ a ∧ vs[i]? = some u) := by
  by_cases e : a = i
  · subst e
    have ha : a < vs.length := by have := (List.getElem?_eq_some_iff.1 h).1; simpa using this
    rw [List.getElem?_set_self ha] at h
    cases h
    exact .inl ⟨rfl, rfl⟩
  · rw [List.getElem?_set_ne e] at h
    exact .inr ⟨fun e2 => e e2.symm, h⟩
-- pushes
theorem GrD.pushT (h : GrD K w G T F M) {a b g n c : Nat} {w1 : World} {o : Obj} {u v' : Value} (htv : G.tv = .slice (some ⟨g, 0, none⟩) n c) (hu : G.ts[a]? = some u) (hown : w1.ownsRow 0 3 1 v' ((T.getD a []).length + 1) ((T.getD a []).map iv ++ [iv b])) (hg : (w.alloc o).grownBy w1 u.ownBlock) (hloc : v'.ownBlock = u.ownBlock ∨ v'.ownBlock = some (w.alloc o).heap.size) :
    GrD K (w1.setCell ⟨g, a, none⟩ v') { G with ts := G.ts.set a v' } (T.set a (T.getD a [] ++ [b])) F M ∧ Fr (fun k => G.has k) w (w1.setCell ⟨g, a, none⟩ v') ∧ ∀ k, ({ G with ts := G.ts.set a v' } : Gb).has k → G.has k ∨ w.heap.size ≤ k := by
  have hz : w.heap.size ≤ w1.heap.size := Nat.le_trans (by simp) hg.size
  have hk : ∀ k, k < w.heap.size → u.ownBlock ≠ some k → w1.heap[k]? = w.heap[k]? := fun k hk hn => (hg.block k (by simp; omega) (fun e => hn e.symm)).trans (Below.heap_alloc _ _ _ hk)
  have hhu : ∀ k, u.ownBlock = some k → G.has k := fun k e => .inr (.inr (.inr (.inr (.inl ⟨a, u, hu, e⟩))))
  have hgG : G.has g := .inr (.inl (by rw [htv]; rfl))
  have hgt := h.gr.to
  have hgo := h.gr.fr
  rw [htv] at hgt
  obtain ⟨cs, hgc⟩ := own_cells hgt.row rfl
  have hnew : ∀ k, v'.ownBlock = some k → u.ownBlock = some k ∨ w.heap.size < k := fun k e3 => by
    rcases hloc with h1 | h1
    · exact .inl (h1 ▸ e3)
    · rw [h1] at e3
      cases e3
      exact .inr (by simp)
  have hhas : ∀ k, ({ G with ts := G.ts.set a v' } : Gb).has k → G.has k ∨ w.heap.size ≤ k := fun k e => by
    have hn2 : v'.ownBlock = some k → G.has k ∨ w.heap.size ≤ k := fun e3 => (hnew k e3).imp (hhu k) Nat.le_of_lt
    rcases e with e | e | e | e | ⟨i, x, e1, e2⟩ | ⟨i, x, e1, e2⟩
    · exact .inl (.inl e)
    · exact .inl (.inr (.inl e))
    · exact .inl (.inr (.inr (.inl e)))
    · exact .inl (.inr (.inr (.inr (.inl e))))
    · rcases set_at e1 with ⟨_, rfl⟩ | ⟨_, e3⟩
      · exact hn2 e2
      · exact .inl (.inr (.inr (.inr (.inr (.inl ⟨i, x, e3, e2⟩)))))
    · exact .inl (.inr (.inr (.inr (.inr (.inr ⟨i, x, e1, e2⟩)))))
  have hup : u.ownBlock ≠ some G.p := hgt.ne_row hu h.gr.blk (by decide)
  have hgp : g ≠ G.p := fun e => by
    rw [e, h.gr.blk] at hgc
    cases hgc
  have hug : u.ownBlock ≠ some g := hgt.ne_row hu hgc (by decide)
  have hKw : K ≤ w.heap.size := Nat.le_trans (h.lo _ (.inl rfl)) (Nat.le_of_lt (lt_of_heap h.gr.blk))
  have hnr : IR 0 w1 v' (T.getD a [] ++ [b]) := by
    unfold IR
    rw [List.length_append, List.map_append]
    exact hown
  have hT := hgt.grow hu hk (fun i x k e1 e2 e3 => h.tt i a x u k e1 hu e2 e3) hnr
  rw [← htv] at hT
  have hother : ∀ k, k < w.heap.size → u.ownBlock ≠ some k → k ≠ g → (w1.setCell ⟨g, a, none⟩ v').heap[k]? = w.heap[k]? := fun k h1 h2 h3 => (set_other k h3).trans (hk k h1 h2)
  have hF : RR 0 (w1.setCell ⟨g, a, none⟩ v') G.fv G.fs F := hgo.block (fun k e hlt => hother k hlt (fun e2 => by
      obtain ⟨cs2, hc2⟩ := own_cells hgo.row e
      exact hgt.ne_row hu hc2 (by decide) e2) fun e2 => by
      subst e2
      exact h.tabs _ (by rw [htv]; rfl) e) fun i x k e1 e2 hlt => hother k hlt (fun e3 => h.tf a i u x k hu e1 e3 e2) fun e3 => by
      subst e3
      exact hgo.ne_row e1 hgc (by decide) e2
  have dd : ∀ (i j : Nat) (x y : Value) (k : Nat), (G.ts.set a v')[i]? = some x → (G.ts.set a v')[j]? = some y → x.ownBlock = some k → y.ownBlock = some k → i = j := fun i j x y k e1 e2 e3 e4 => by
    rcases set_at e1 with ⟨r1, r2⟩ | ⟨r1, r2⟩
    · rcases set_at e2 with ⟨q1, q2⟩ | ⟨q1, q2⟩
      · omega
      · subst r2
        rcases hnew k e3 with hx | hx
        · exact r1.trans (h.tt j a y u k q2 hu e4 hx).symm
        · have := (hgt.lt' q2 k e4).2
          omega
    · rcases set_at e2 with ⟨q1, q2⟩ | ⟨q1, q2⟩
      · subst q2
        rcases hnew k e4 with hx | hx
        · exact (h.tt i a x u k r2 hu e3 hx).trans q1.symm
        · have := (hgt.lt' r2 k e3).2
          omega
      · exact h.tt i j x y k r2 q2 e3 e4
  have df : ∀ (i j : Nat) (x y : Value) (k : Nat), (G.ts.set a v')[i]? = some x → G.fs[j]? = some y → x.ownBlock = some k → y.ownBlock ≠ some k := fun i j x y k e1 e2 e3 e4 => by
    rcases set_at e1 with ⟨r1, r2⟩ | ⟨r1, r2⟩
    · subst r2
      rcases hnew k e3 with hx | hx
      · exact h.tf a j u y k hu e2 hx e4
      · have := (hgo.lt' e2 k e4).2
        omega
    · exact h.tf i j x y k r2 e2 e3 e4
  refine ⟨⟨⟨h.gr.ptr, (hother _ (lt_of_heap h.gr.blk) hup (fun e => hgp e.symm)).trans h.gr.blk, hT, hF⟩, ?_, fun k e => ?_, dd, h.ff, df, h.tabs⟩, ⟨hg.os, hg.tape, hg.output, by simpa using hz, fun k h1 h2 => hother k h1 (fun e => h2 (hhu k e)) fun e => h2 (by rw [e]; exact hgG)⟩, hhas⟩
  · obtain ⟨mb, m1, m2⟩ := h.mp
    obtain ⟨n1, n2, n3, n4, n5⟩ := h.map_ne m1
    exact ⟨mb, m1, m2.of_block (hother mb m2.lt (n4 a u hu) fun e => by rw [e] at n2; exact n2 (by rw [htv]; rfl))⟩
  · rcases hhas k e with h1 | h1
    · exact h.lo k h1
    · exact Nat.le_trans hKw h1
theorem GrD.pushF (h : GrD K w G T F M) {a b g n c : Nat} {w1 : World} {o : Obj} {u v' : Value} (htv : G.fv = .slice (some ⟨g, 0, none⟩) n c) (hu : G.fs[a]? = some u) (hown : w1.ownsRow 0 3 1 v' ((F.getD a []).length + 1) ((F.getD a []).map iv ++ [iv b])) (hg : (w.alloc o).grownBy w1 u.ownBlock) (hloc : v'.ownBlock = u.ownBlock ∨ v'.ownBlock = some (w.alloc o).heap.size) :
    GrD K (w1.setCell ⟨g, a, none⟩ v') { G with fs := G.fs.set a v' } T (F.set a (F.getD a [] ++ [b])) M ∧ Fr (fun k => G.has k) w (w1.setCell ⟨g, a, none⟩ v') ∧ ∀ k, ({ G with fs := G.fs.set a v' } : Gb).has k → G.has k ∨ w.heap.size ≤ k := by
  have hz : w.heap.size ≤ w1.heap.size := Nat.le_trans (by simp) hg.size
  have hk : ∀ k, k < w.heap.size → u.ownBlock ≠ some k → w1.heap[k]? = w.heap[k]? := fun k hk hn => (hg.block k (by simp; omega) (fun e => hn e.symm)).trans (Below.heap_alloc _ _ _ hk)
  have hhu : ∀ k, u.ownBlock = some k → G.has k := fun k e => .inr (.inr (.inr (.inr (.inr ⟨a, u, hu, e⟩))))
  have hgG : G.has g := .inr (.inr (.inl (by rw [htv]; rfl)))
  have hgt := h.gr.fr
  have hgo := h.gr.to
  rw [htv] at hgt
  obtain ⟨cs, hgc⟩ := own_cells hgt.row rfl
  have hnew : ∀ k, v'.ownBlock = some k → u.ownBlock = some k ∨ w.heap.size < k := fun k e3 => by
    rcases hloc with h1 | h1
    · exact .inl (h1 ▸ e3)
    · rw [h1] at e3
      cases e3
      exact .inr (by simp)
  have hhas : ∀ k, ({ G with fs := G.fs.set a v' } : Gb).has k → G.has k ∨ w.heap.size ≤ k := fun k e => by
    have hn2 : v'.ownBlock = some k → G.has k ∨ w.heap.size ≤ k := fun e3 => (hnew k e3).imp (hhu k) Nat.le_of_lt
    rcases e with e | e | e | e | ⟨i, x, e1, e2⟩ | ⟨i, x, e1, e2⟩
    · exact .inl (.inl e)
    · exact .inl (.inr (.inl e))
    · exact .inl (.inr (.inr (.inl e)))
    · exact .inl (.inr (.inr (.inr (.inl e))))
    · exact .inl (.inr (.inr (.inr (.inr (.inl ⟨i, x, e1, e2⟩)))))
    · rcases set_at e1 with ⟨_, rfl⟩ | ⟨_, e3⟩
      · exact hn2 e2
      · exact .inl (.inr (.inr (.inr (.inr (.inr ⟨i, x, e3, e2⟩)))))
  have hup : u.ownBlock ≠ some G.p := hgt.ne_row hu h.gr.blk (by decide)
  have hgp : g ≠ G.p := fun e => by
    rw [e, h.gr.blk] at hgc
    cases hgc
  have hug : u.ownBlock ≠ some g := hgt.ne_row hu hgc (by decide)
  have hKw : K ≤ w.heap.size := Nat.le_trans (h.lo _ (.inl rfl)) (Nat.le_of_lt (lt_of_heap h.gr.blk))
  have hnr : IR 0 w1 v' (F.getD a [] ++ [b]) := by
    unfold IR
    rw [List.length_append, List.map_append]
    exact hown
  have hT := hgt.grow hu hk (fun i x k e1 e2 e3 => h.ff i a x u k e1 hu e2 e3) hnr
  rw [← htv] at hT
  have hother : ∀ k, k < w.heap.size → u.ownBlock ≠ some k → k ≠ g → (w1.setCell ⟨g, a, none⟩ v').heap[k]? = w.heap[k]? := fun k h1 h2 h3 => (set_other k h3).trans (hk k h1 h2)
  have hF : RR 0 (w1.setCell ⟨g, a, none⟩ v') G.tv G.ts T := hgo.block (fun k e hlt => hother k hlt (fun e2 => by
      obtain ⟨cs2, hc2⟩ := own_cells hgo.row e
      exact hgt.ne_row hu hc2 (by decide) e2) fun e2 => by
      subst e2
      exact h.tabs _ e (by rw [htv]; rfl)) fun i x k e1 e2 hlt => hother k hlt (fun e3 => h.tf i a x u k e1 hu e2 e3) fun e3 => by
      subst e3
      exact hgo.ne_row e1 hgc (by decide) e2
  have dd : ∀ (i j : Nat) (x y : Value) (k : Nat), (G.fs.set a v')[i]? = some x → (G.fs.set a v')[j]? = some y → x.ownBlock = some k → y.ownBlock = some k → i = j := fun i j x y k e1 e2 e3 e4 => by
    rcases set_at e1 with ⟨r1, r2⟩ | ⟨r1, r2⟩
    · rcases set_at e2 with ⟨q1, q2⟩ | ⟨q1, q2⟩
      · omega
      · subst r2
        rcases hnew k e3 with hx | hx
        · exact r1.trans (h.ff j a y u k q2 hu e4 hx).symm
        · have := (hgt.lt' q2 k e4).2
          omega
    · rcases set_at e2 with ⟨q1, q2⟩ | ⟨q1, q2⟩
      · subst q2
        rcases hnew k e4 with hx | hx
        · exact (h.ff i a x u k r2 hu e3 hx).trans q1.symm
        · have := (hgt.lt' r2 k e3).2
          omega
      · exact h.ff i j x y k r2 q2 e3 e4
  have df : ∀ (i j : Nat) (x y : Value) (k : Nat), (G.fs.set a v')[i]? = some x → G.ts[j]? = some y → x.ownBlock = some k → y.ownBlock ≠ some k := fun i j x y k e1 e2 e3 e4 => by
    rcases set_at e1 with ⟨r1, r2⟩ | ⟨r1, r2⟩
    · subst r2
      rcases hnew k e3 with hx | hx
      · exact h.tf j a y u k e2 hu e4 hx
      · have := (hgo.lt' e2 k e4).2
        omega
    · exact h.tf j i y x k e2 r2 e4 e3
  refine ⟨⟨⟨h.gr.ptr, (hother _ (lt_of_heap h.gr.blk) hup (fun e => hgp e.symm)).trans h.gr.blk, hF, hT⟩, ?_, fun k e => ?_, h.tt, dd, fun i j x y k e1 e2 e3 e4 => df j i y x k e2 e1 e4 e3, h.tabs⟩, ⟨hg.os, hg.tape, hg.output, by simpa using hz, fun k h1 h2 => hother k h1 (fun e => h2 (hhu k e)) fun e => h2 (by rw [e]; exact hgG)⟩, hhas⟩
  · obtain ⟨mb, m1, m2⟩ := h.mp
    obtain ⟨n1, n2, n3, n4, n5⟩ := h.map_ne m1
    exact ⟨mb, m1, m2.of_block (hother mb m2.lt (n5 a u hu) fun e => by rw [e] at n3; exact n3 (by rw [htv]; rfl))⟩
  · rcases hhas k e with h1 | h1
    · exact h.lo k h1
    · exact Nat.le_trans hKw h1
end
end Go.Proofs.Ytcjohhminiedfaa
