/- Cycle: the parts that found tells are the strongly connected ones, plain. -/
import Derived.Test.YtcjohhminiedfaaQC21V
namespace Go.Proofs.Ytcjohhminiedfaa
/-- x reaches z. -/
inductive Rch (T : List (List Nat)) : Nat → Nat → Prop
  | refl (x : Nat) : Rch T x x
  | step {x y z : Nat} : y ∈ T.getD x [] → Rch T y z → Rch T x z
theorem Rch.trans {T : List (List Nat)} {x y z : Nat} (h : Rch T x y) (k : Rch T y z) : Rch T x z := by
  induction h with
  | refl => exact k
  | step e _ ih => exact .step e (ih k)
theorem Rch.one {T : List (List Nat)} {x y : Nat} (h : y ∈ T.getD x []) : Rch T x y := .step h (.refl _)
/-- Who leaves P leaves it by an edge. -/
theorem Rch.exit {T : List (List Nat)} {P : Nat → Prop} {x z : Nat} (h : Rch T x z) (hx : P x) (hz : ¬ P z) : ∃ u v, P u ∧ v ∈ T.getD u [] ∧ ¬ P v ∧ Rch T v z := by
  induction h with
  | refl => exact absurd hx hz
  | @step x y z e k ih =>
    by_cases hy : P y
    · exact ih hy hz
    · exact ⟨x, y, hx, e, hy, k⟩
theorem Rch.stay {T : List (List Nat)} {P : Nat → Prop} {x z : Nat} (h : Rch T x z) (hx : P x) (hP : ∀ u, P u → ∀ v ∈ T.getD u [], P v) : P z := by
  refine Classical.byContradiction fun hz => ?_
  obtain ⟨u, v, h1, h2, h3, _⟩ := h.exit hx hz
  exact h3 (hP u h1 v h2)
theorem getD_set_self {l : List Nat} {x v : Nat} (h : x < l.length) : (l.set x v).getD x 0 = v := by
  rw [List.getD_eq_getElem?_getD, List.getElem?_set_self h]
  rfl
theorem getD_set_other {l : List Nat} {x y v : Nat} (h : x ≠ y) : (l.set x v).getD y 0 = l.getD y 0 := by
  rw [List.getD_eq_getElem?_getD, List.getElem?_set_ne h, List.getD_eq_getElem?_getD]
theorem getDb_set {l : List Bool} {x y : Nat} {v : Bool} (h : x < l.length) : (l.set x v).getD y false = if x = y then v else l.getD y false := by
  by_cases e : x = y
  · subst e
    rw [if_pos rfl, List.getD_eq_getElem?_getD, List.getElem?_set_self h]
    rfl
  · rw [if_neg e, List.getD_eq_getElem?_getD, List.getElem?_set_ne e, List.getD_eq_getElem?_getD]
theorem getDb_setF {l : List Bool} {x y : Nat} : (l.set x false).getD y false = if x = y then false else l.getD y false := by
  by_cases h : x < l.length
  · exact getDb_set h
  · rw [List.set_eq_of_length_le (by omega)]
    split
    · rename_i e
      subst e
      rw [List.getD_eq_getElem?_getD, List.getElem?_eq_none (by omega)]
      rfl
    · rfl
theorem foldl_off {l : List Nat} {z : Nat} : ∀ (o : List Bool), (l.foldl (fun o y => o.set y false) o).getD z false = true ↔ o.getD z false = true ∧ z ∉ l := by
  induction l with
  | nil => intro o; simp
  | cons a r ih =>
    intro o
    rw [List.foldl_cons, ih, getDb_setF, List.mem_cons, not_or]
    by_cases e : a = z
    · subst e
      simp
    · rw [if_neg e]
      constructor
      · rintro ⟨h1, h2⟩
        exact ⟨h1, fun h => e h.symm, h2⟩
      · rintro ⟨h1, _, h2⟩
        exact ⟨h1, h2⟩
def VS.num (s : VS) (y : Nat) : Nat := s.met.getD y 0
def VS.lw (s : VS) (y : Nat) : Nat := s.low.getD y 0
def VS.closed (s : VS) (y : Nat) : Prop := ∃ p ∈ s.parts, y ∈ p
/-- Edges lead from a part to itself, or to parts that stand ahead of it. -/
def PO (T L : List (List Nat)) : Prop := ∀ A p B, L = A ++ p :: B → ∀ y ∈ p, ∀ z ∈ T.getD y [], z ∈ p ∨ ∃ q ∈ A, z ∈ q
theorem PO.push {T L : List (List Nat)} {q : List Nat} (h : PO T L) (hq : ∀ y ∈ q, ∀ z ∈ T.getD y [], z ∈ q ∨ ∃ p ∈ L, z ∈ p) : PO T (L ++ [q]) := by
  intro A p B e y hy z hz
  rcases List.eq_nil_or_concat B with rfl | ⟨B', b, rfl⟩
  · obtain ⟨rfl, e2⟩ := List.append_inj' e rfl
    cases e2
    exact hq y hy z hz
  · have e' : L ++ [q] = (A ++ p :: B') ++ [b] := by rw [e]; simp
    obtain ⟨rfl, _⟩ := List.append_inj' e' rfl
    exact h A p B' rfl y hy z hz
theorem PO.closed {T L : List (List Nat)} (h : PO T L) {y z : Nat} (hy : ∃ p ∈ L, y ∈ p) (hz : z ∈ T.getD y []) : ∃ p ∈ L, z ∈ p := by
  obtain ⟨p, hp, hyp⟩ := hy
  obtain ⟨A, B, rfl⟩ := List.append_of_mem hp
  rcases h A p B rfl y hyp z hz with h1 | ⟨q, h1, h2⟩
  · exact ⟨p, by simp, h1⟩
  · exact ⟨q, by simp [h1], h2⟩
/-- What holds while gs are being visited. -/
structure TInv (T : List (List Nat)) (gs : List Nat) (s : VS) : Prop where
  pos : ∀ y ∈ s.stack, s.num y ≠ 0
  opn : ∀ y, s.opn.getD y false = true ↔ y ∈ s.stack
  srt : s.stack.Pairwise fun a b => s.num a < s.num b
  cnt : ∀ y, s.num y ≤ s.count
  nw : ∀ y, s.num y ≠ 0 → y ∈ s.stack ∨ s.closed y
  cl : ∀ y, s.closed y → s.num y ≠ 0 ∧ y ∉ s.stack
  gst : ∀ g ∈ gs, g ∈ s.stack
  blk : ∀ y, s.num y ≠ 0 → y ∉ gs → ∀ z ∈ T.getD y [], s.num z ≠ 0
  up : ∀ g ∈ gs, ∀ y ∈ s.stack, s.num g ≤ s.num y → Rch T g y
  dn : ∀ y ∈ s.stack, ∃ g ∈ gs, s.num g ≤ s.num y ∧ Rch T y g
  dis : s.parts.Pairwise fun p q => ∀ y ∈ p, y ∉ q
  nod : ∀ p ∈ s.parts, p.Nodup
  both : ∀ p ∈ s.parts, ∀ y ∈ p, ∀ z ∈ p, Rch T y z
  po : PO T s.parts
theorem TInv.lowTo {T : List (List Nat)} {gs : List Nat} {s : VS} (h : TInv T gs s) (x v : Nat) : TInv T gs (s.lowTo x v) :=
  ⟨h.pos, h.opn, h.srt, h.cnt, h.nw, h.cl, h.gst, h.blk, h.up, h.dn, h.dis, h.nod, h.both, h.po⟩
/-- What a visit to x leaves. -/
structure TPost (T : List (List Nat)) (gs : List Nat) (x : Nat) (s s' : VS) : Prop where
  inv : TInv T gs s'
  keep : ∀ y, s.num y ≠ 0 → s'.num y = s.num y
  lowk : ∀ y, s.num y ≠ 0 → s'.lw y = s.lw y
  stk : ∃ l, s'.stack = s.stack ++ l
  here : s'.num x ≠ 0
  b : (∃ y ∈ s'.stack, s'.num y = s'.lw x ∧ Rch T x y) ∨ s.count < s'.lw x
  c : ∀ u ∈ s'.stack, u ∉ s.stack → ∀ v ∈ T.getD u [], v ∈ s.stack → s'.lw x ≤ s.num v
/-- What holds while x's edges are looked at, D of them done. -/
structure TMid (T : List (List Nat)) (gs : List Nat) (x : Nat) (s : VS) (D : List Nat) (t : VS) : Prop where
  inv : TInv T (x :: gs) t
  keep : ∀ y, s.num y ≠ 0 → t.num y = s.num y
  lowk : ∀ y, s.num y ≠ 0 → t.lw y = s.lw y
  stk : ∃ l, t.stack = s.stack ++ x :: l
  here : t.num x = s.count + 1
  a : t.lw x ≤ s.count + 1
  b : ∃ y ∈ t.stack, t.num y = t.lw x ∧ Rch T x y
  c : ∀ u ∈ t.stack, u ∉ s.stack → u ≠ x → ∀ v ∈ T.getD u [], v ∈ s.stack → t.lw x ≤ s.num v
  d : ∀ v ∈ D, t.num v ≠ 0 ∧ (v ∈ s.stack → t.lw x ≤ s.num v)
theorem TMid.enter {n : Nat} {T : List (List Nat)} {gs : List Nat} {x : Nat} {s : VS} (hok : VOk n s) (h : TInv T gs s) (hx : s.met[x]? = some 0) (hg : ∀ g ∈ gs, Rch T g x) : TMid T gs x s [] (s.enter x) := by
  have hxn : x < s.met.length := (List.getElem?_eq_some_iff.1 hx).1
  have hx0 : s.num x = 0 := by unfold VS.num; rw [List.getD_eq_getElem?_getD, hx]; rfl
  have hnx : (s.enter x).num x = s.count + 1 := getD_set_self hxn
  have hne : ∀ y, x ≠ y → (s.enter x).num y = s.num y := fun y hy => getD_set_other hy
  have hlx : (s.enter x).lw x = s.count + 1 := getD_set_self (by rw [hok.low, ← hok.met]; exact hxn)
  have hkeep : ∀ y, s.num y ≠ 0 → (s.enter x).num y = s.num y := fun y hy => hne y fun e => by subst e; exact hy hx0
  have hxs : x ∉ s.stack := fun e => h.pos x e hx0
  have hmono : ∀ y, s.num y ≠ 0 → (s.enter x).num y ≠ 0 := fun y hy => by rw [hkeep y hy]; exact hy
  have hst : (s.enter x).stack = s.stack ++ [x] := rfl
  refine ⟨⟨?_, ?_, ?_, ?_, ?_, ?_, ?_, ?_, ?_, ?_, h.dis, h.nod, h.both, h.po⟩, hkeep, fun y hy => getD_set_other fun e => by subst e; exact hy hx0, ⟨[], rfl⟩, hnx, by rw [hlx]; exact Nat.le_refl _, ⟨x, by rw [hst]; simp, by rw [hnx, hlx], .refl _⟩, ?_, fun v hv => by cases hv⟩
  · intro y hy
    rw [hst] at hy
    rcases List.mem_append.1 hy with hy | hy
    · exact hmono y (h.pos y hy)
    · rw [List.mem_singleton.1 hy, hnx]
      omega
  · intro y
    show (s.opn.set x true).getD y false = true ↔ _
    rw [getDb_set (by rw [hok.opn, ← hok.met]; exact hxn), hst, List.mem_append, List.mem_singleton]
    by_cases e : x = y
    · simp [e]
    · rw [if_neg e, h.opn y]
      constructor
      · exact fun h => .inl h
      · rintro (h | h)
        · exact h
        · exact absurd h.symm e
  · rw [hst, List.pairwise_append]
    refine ⟨?_, List.pairwise_singleton _ _, fun a ha b hb => ?_⟩
    · refine h.srt.imp_of_mem fun ha hb hab => ?_
      rw [hkeep _ (h.pos _ ha), hkeep _ (h.pos _ hb)]
      exact hab
    · rw [List.mem_singleton.1 hb, hnx, hkeep _ (h.pos _ ha)]
      have := h.cnt a
      omega
  · intro y
    show _ ≤ s.count + 1
    by_cases e : x = y
    · subst e
      omega
    · rw [hne y e]
      have := h.cnt y
      omega
  · intro y hy
    rw [hst, List.mem_append, List.mem_singleton]
    by_cases e : x = y
    · exact .inl (.inr e.symm)
    · rw [hne y e] at hy
      rcases h.nw y hy with h1 | h1
      · exact .inl (.inl h1)
      · exact .inr h1
  · intro y hy
    obtain ⟨h1, h2⟩ := h.cl y hy
    refine ⟨hmono y h1, ?_⟩
    rw [hst, List.mem_append, List.mem_singleton, not_or]
    exact ⟨h2, fun e => by subst e; exact h1 hx0⟩
  · intro g hg'
    rw [hst, List.mem_append, List.mem_singleton]
    rcases List.mem_cons.1 hg' with e | e
    · exact .inr e
    · exact .inl (h.gst g e)
  · intro y hy hyg z hz
    rw [List.mem_cons, not_or] at hyg
    rw [hne y fun e => hyg.1 e.symm] at hy
    exact hmono z (h.blk y hy hyg.2 z hz)
  · intro g hg' y hy hle
    rw [hst] at hy
    rcases List.mem_append.1 hy with hy | hy
    · rcases List.mem_cons.1 hg' with e | e
      · rw [e, hnx, hkeep y (h.pos y hy)] at hle
        have := h.cnt y
        omega
      · rw [hkeep y (h.pos y hy), hkeep g (h.pos g (h.gst g e))] at hle
        exact h.up g e y hy hle
    · rw [List.mem_singleton.1 hy]
      rcases List.mem_cons.1 hg' with e | e
      · rw [e]
        exact .refl _
      · exact hg g e
  · intro y hy
    rw [hst] at hy
    rcases List.mem_append.1 hy with hy | hy
    · obtain ⟨g, h1, h2, h3⟩ := h.dn y hy
      exact ⟨g, List.mem_cons_of_mem _ h1, by rw [hkeep y (h.pos y hy), hkeep g (h.pos g (h.gst g h1))]; exact h2, h3⟩
    · rw [List.mem_singleton.1 hy]
      exact ⟨x, List.mem_cons_self, Nat.le_refl _, .refl _⟩
  · intro u hu h1 h2
    rw [hst] at hu
    rcases List.mem_append.1 hu with hu | hu
    · exact absurd hu h1
    · exact absurd (List.mem_singleton.1 hu) h2
theorem lowTo_self {x v : Nat} {s : VS} (h : x < s.low.length) : (s.lowTo x v).lw x = min (s.lw x) v := getD_set_self h
theorem lowTo_other {x y v : Nat} {s : VS} (h : x ≠ y) : (s.lowTo x v).lw y = s.lw y := getD_set_other h
theorem TMid.white {n : Nat} {T : List (List Nat)} {gs : List Nat} {x y : Nat} {s t t' : VS} {D : List Nat} (hs : ∀ v ∈ s.stack, s.num v ≠ 0) (hx0 : s.num x = 0) (hok : VOk n t') (hxn : x < n) (h : TMid T gs x s D t) (hy0 : t.num y = 0) (hxy : y ∈ T.getD x []) (hp : TPost T (x :: gs) y t t') :
    TMid T gs x s (D ++ [y]) (t'.lowTo x (t'.lw y)) := by
  have hln : x < t'.low.length := by rw [hok.low]; exact hxn
  have htx : t.num x ≠ 0 := by rw [h.here]; omega
  have hlx : (t'.lowTo x (t'.lw y)).lw x = min (t.lw x) (t'.lw y) := by rw [lowTo_self hln, hp.lowk x htx]
  have hnum : ∀ z, (t'.lowTo x (t'.lw y)).num z = t'.num z := fun _ => rfl
  have hstk : (t'.lowTo x (t'.lw y)).stack = t'.stack := rfl
  obtain ⟨l, hl⟩ := h.stk
  obtain ⟨l', hl'⟩ := hp.stk
  have hsub : ∀ z, z ∈ t.stack → z ∈ t'.stack := fun z hz => by rw [hl']; exact List.mem_append_left _ hz
  have hsub0 : ∀ z, z ∈ s.stack → z ∈ t.stack := fun z hz => by rw [hl]; exact List.mem_append_left _ hz
  have hkp : ∀ z, s.num z ≠ 0 → t'.num z = s.num z := fun z hz => by rw [hp.keep z (by rw [h.keep z hz]; exact hz), h.keep z hz]
  have hcnt : s.count + 1 ≤ t.count := by have := h.inv.cnt x; rw [h.here] at this; exact this
  have hst0 : ∀ v, v ∈ s.stack → t.num v = s.num v := fun v hv => h.keep v (hs v hv)
  refine ⟨hp.inv.lowTo _ _, hkp, fun z hz => ?_, ⟨l ++ l', by rw [hstk, hl', hl]; simp⟩, ?_, ?_, ?_, ?_, ?_⟩
  · rw [lowTo_other fun e => by subst e; exact hz hx0, hp.lowk z (by rw [h.keep z hz]; exact hz), h.lowk z hz]
  · rw [hnum, hp.keep x htx, h.here]
  · rw [hlx]
    exact Nat.le_trans (Nat.min_le_left _ _) h.a
  · rw [hlx]
    by_cases hle : t.lw x ≤ t'.lw y
    · rw [Nat.min_eq_left hle]
      obtain ⟨z, h1, h2, h3⟩ := h.b
      exact ⟨z, hsub z h1, by rw [hnum, hp.keep z (h.inv.pos z h1)]; exact h2, h3⟩
    · rw [Nat.min_eq_right (by omega)]
      rcases hp.b with ⟨z, h1, h2, h3⟩ | h1
      · exact ⟨z, h1, h2, .step hxy h3⟩
      · have := h.a
        omega
  · intro u hu h1 h2 v hv hvs
    rw [hlx]
    by_cases hut : u ∈ t.stack
    · exact Nat.le_trans (Nat.min_le_left _ _) (h.c u hut h1 h2 v hv hvs)
    · have := hp.c u hu hut v hv (hsub0 v hvs)
      rw [hst0 v hvs] at this
      exact Nat.le_trans (Nat.min_le_right _ _) this
  · intro v hv
    rcases List.mem_append.1 hv with hv | hv
    · obtain ⟨h1, h2⟩ := h.d v hv
      refine ⟨by rw [hnum, hp.keep v h1]; exact h1, fun h3 => ?_⟩
      rw [hlx]
      exact Nat.le_trans (Nat.min_le_left _ _) (h2 h3)
    · rw [List.mem_singleton.1 hv]
      refine ⟨hp.here, fun h3 => ?_⟩
      exact absurd hy0 (by rw [hst0 y h3]; exact hs y h3)
theorem TMid.open' {n : Nat} {T : List (List Nat)} {gs : List Nat} {x y : Nat} {s t : VS} {D : List Nat} (hs : ∀ v ∈ s.stack, s.num v ≠ 0) (hx0 : s.num x = 0) (hok : VOk n t) (hxn : x < n) (h : TMid T gs x s D t) (hy0 : t.num y ≠ 0) (hy : y ∈ t.stack) (hxy : y ∈ T.getD x []) :
    TMid T gs x s (D ++ [y]) (t.lowTo x (t.num y)) := by
  have hln : x < t.low.length := by rw [hok.low]; exact hxn
  have hlx : (t.lowTo x (t.num y)).lw x = min (t.lw x) (t.num y) := lowTo_self hln
  refine ⟨h.inv.lowTo _ _, h.keep, fun z hz => ?_, h.stk, h.here, ?_, ?_, ?_, ?_⟩
  · rw [lowTo_other fun e => by subst e; exact hz hx0, h.lowk z hz]
  · rw [hlx]
    exact Nat.le_trans (Nat.min_le_left _ _) h.a
  · rw [hlx]
    by_cases hle : t.lw x ≤ t.num y
    · rw [Nat.min_eq_left hle]
      exact h.b
    · rw [Nat.min_eq_right (by omega)]
      exact ⟨y, hy, rfl, .one hxy⟩
  · intro u hu h1 h2 v hv hvs
    rw [hlx]
    exact Nat.le_trans (Nat.min_le_left _ _) (h.c u hu h1 h2 v hv hvs)
  · intro v hv
    rw [hlx]
    rcases List.mem_append.1 hv with hv | hv
    · obtain ⟨h1, h2⟩ := h.d v hv
      exact ⟨h1, fun h3 => Nat.le_trans (Nat.min_le_left _ _) (h2 h3)⟩
    · rw [List.mem_singleton.1 hv]
      refine ⟨hy0, fun h3 => ?_⟩
      rw [h.keep y (hs y h3)]
      exact Nat.min_le_right _ _
theorem TMid.shut {T : List (List Nat)} {gs : List Nat} {x y : Nat} {s t : VS} {D : List Nat} (h : TMid T gs x s D t) (hy0 : t.num y ≠ 0) (hy : y ∉ t.stack) : TMid T gs x s (D ++ [y]) t := by
  refine ⟨h.inv, h.keep, h.lowk, h.stk, h.here, h.a, h.b, h.c, fun v hv => ?_⟩
  rcases List.mem_append.1 hv with hv | hv
  · exact h.d v hv
  · rw [List.mem_singleton.1 hv]
    obtain ⟨l, hl⟩ := h.stk
    exact ⟨hy0, fun h3 => absurd (by rw [hl]; exact List.mem_append_left _ h3) hy⟩
/-- All edges are done: x's part is left, or x waits. -/
theorem TMid.close {T : List (List Nat)} {gs : List Nat} {x : Nat} {s t : VS} (hs : ∀ v ∈ s.stack, s.num v ≠ 0) (hc : ∀ y, s.num y ≤ s.count) (hgs : ∀ g ∈ gs, g ∈ s.stack) (h : TMid T gs x s (T.getD x []) t) : TPost T gs x s (t.close x) := by
  obtain ⟨l, hl⟩ := h.stk
  have hsrt := h.inv.srt
  rw [hl, List.pairwise_append] at hsrt
  have hold : ∀ v, v ∈ s.stack → t.num v = s.num v := fun v hv => h.keep v (hs v hv)
  have hxx : t.num x ≠ 0 := by rw [h.here]; omega
  have hlt : ∀ v, v ∈ s.stack → t.num v < t.num x := fun v hv => hsrt.2.2 v hv x (by simp)
  have hge : ∀ y, y ∈ x :: l → t.num x ≤ t.num y := fun y hy => by
    rcases List.mem_cons.1 hy with rfl | hy
    · exact Nat.le_refl _
    · exact Nat.le_of_lt ((List.pairwise_cons.1 hsrt.2.1).1 y hy)
  have hnot : ∀ y, y ∈ x :: l → y ∉ s.stack := fun y hy h2 => by have h3 := hge y hy; have h4 := hlt y h2; omega
  have hin : ∀ y, y ∈ x :: l → y ∈ t.stack := fun y hy => by rw [hl]; exact List.mem_append_right _ hy
  have hins : ∀ y, y ∈ s.stack → y ∈ t.stack := fun y hy => by rw [hl]; exact List.mem_append_left _ hy
  have hsplit : ∀ y, y ∈ t.stack → y ∈ s.stack ∨ y ∈ x :: l := fun y hy => by rw [hl] at hy; exact List.mem_append.1 hy
  have hblk : ∀ y, t.num y ≠ 0 → y ∉ gs → ∀ z ∈ T.getD y [], t.num z ≠ 0 := fun y hy hyg z hz => by
    by_cases e : y = x
    · subst e
      exact (h.d z hz).1
    · exact h.inv.blk y hy (by simp [e, hyg]) z hz
  have hcx : ∀ u, u ∈ x :: l → ∀ v ∈ T.getD u [], v ∈ s.stack → t.lw x ≤ s.num v := fun u hu v hv hvs => by
    by_cases e : u = x
    · subst e
      exact (h.d v hv).2 hvs
    · exact h.c u (hin u hu) (hnot u hu) e v hv hvs
  by_cases hlow : t.low.getD x 0 = t.met.getD x 0
  · -- x's part
    have hlw : t.lw x = s.count + 1 := by rw [← h.here]; exact hlow
    have hcut : t.stack.take (t.cut x) = s.stack ∧ t.stack.drop (t.cut x) = x :: l := by
      have hk : t.stack[s.stack.length]? = some x := by rw [hl]; simp
      have hlt' := (List.getElem?_eq_some_iff.1 hk).1
      obtain ⟨h1, h2⟩ := idxF_at hk (t.stack.length - 1) (by omega)
      have hnd : t.cut x = s.stack.length := by
        refine Nat.le_antisymm (Nat.not_lt.1 fun h3 => ?_) h1
        have h4 := h.inv.srt
        rw [List.pairwise_iff_getElem] at h4
        have h5 : t.stack[t.cut x]? = some x := h2
        obtain ⟨h6, h7⟩ := List.getElem?_eq_some_iff.1 h5
        obtain ⟨h8, h9⟩ := List.getElem?_eq_some_iff.1 hk
        have := h4 _ _ h8 h6 h3
        rw [h7, h9] at this
        omega
      rw [hnd, hl]
      simp
    have hcl : t.close x = { t with stack := s.stack, opn := (x :: l).foldl (fun o y => o.set y false) t.opn, parts := t.parts ++ [x :: l] } := by
      unfold VS.close
      rw [if_pos hlow, hcut.1, hcut.2]
    have hedge : ∀ u, u ∈ x :: l → ∀ v ∈ T.getD u [], v ∈ x :: l ∨ t.closed v := fun u hu v hv => by
      have hu0 : t.num u ≠ 0 := h.inv.pos u (hin u hu)
      have hug : u ∉ gs := fun e => hnot u hu (hgs u e)
      rcases h.inv.nw v (hblk u hu0 hug v hv) with h1 | h1
      · rcases hsplit v h1 with h2 | h2
        · have h3 := hcx u hu v hv h2
          have h4 := hc v
          omega
        · exact .inl h2
      · exact .inr h1
    have hback : ∀ y, y ∈ x :: l → Rch T y x := fun y hy => by
      obtain ⟨g, h1, h2, h3⟩ := h.inv.dn y (hin y hy)
      rcases List.mem_cons.1 h1 with e | e
      · rw [← e]
        exact h3
      · have hgo := hgs g e
        have := h3.stay (P := fun v => v ∈ x :: l ∨ t.closed v) (.inl hy) fun u hu v hv => by
          rcases hu with hu | hu
          · exact hedge u hu v hv
          · exact .inr (h.inv.po.closed hu hv)
        rcases this with h5 | h5
        · exact absurd hgo (hnot g h5)
        · exact absurd (hins g hgo) (h.inv.cl g h5).2
    have hforth : ∀ y, y ∈ x :: l → Rch T x y := fun y hy => h.inv.up x List.mem_cons_self y (hin y hy) (hge y hy)
    rw [hcl]
    refine ⟨⟨fun y hy => h.inv.pos y (hins y hy), ?_, ?_, h.inv.cnt, ?_, ?_, hgs, hblk, ?_, ?_, ?_, ?_, ?_, ?_⟩, h.keep, h.lowk, ⟨[], by simp⟩, hxx, .inr ?_, fun u hu h1 => absurd hu h1⟩
    · intro y
      show ((x :: l).foldl (fun o y => o.set y false) t.opn).getD y false = true ↔ y ∈ s.stack
      rw [foldl_off, h.inv.opn]
      constructor
      · rintro ⟨h1, h2⟩
        exact (hsplit y h1).resolve_right h2
      · exact fun h1 => ⟨hins y h1, fun h2 => hnot y h2 h1⟩
    · exact hsrt.1
    · intro y hy
      rcases h.inv.nw y hy with h1 | ⟨p, h1, h2⟩
      · rcases hsplit y h1 with h2 | h2
        · exact .inl h2
        · exact .inr ⟨x :: l, by simp, h2⟩
      · exact .inr ⟨p, by simp [h1], h2⟩
    · rintro y ⟨p, h1, h2⟩
      rcases List.mem_append.1 h1 with h1 | h1
      · obtain ⟨h3, h4⟩ := h.inv.cl y ⟨p, h1, h2⟩
        exact ⟨h3, fun h5 => h4 (hins y h5)⟩
      · rw [List.mem_singleton.1 h1] at h2
        exact ⟨h.inv.pos y (hin y h2), hnot y h2⟩
    · exact fun g hg y hy hle => h.inv.up g (List.mem_cons_of_mem _ hg) y (hins y hy) hle
    · intro y hy
      obtain ⟨g, h1, h2, h3⟩ := h.inv.dn y (hins y hy)
      rcases List.mem_cons.1 h1 with e | e
      · have h4 := hlt y hy
        rw [e] at h2
        omega
      · exact ⟨g, e, h2, h3⟩
    · show (t.parts ++ [x :: l]).Pairwise _
      rw [List.pairwise_append]
      refine ⟨h.inv.dis, List.pairwise_singleton _ _, fun p hp q hq y hy hy2 => ?_⟩
      rw [List.mem_singleton.1 hq] at hy2
      exact (h.inv.cl y ⟨p, hp, hy⟩).2 (hin y hy2)
    · intro p hp
      rcases List.mem_append.1 hp with hp | hp
      · exact h.inv.nod p hp
      · rw [List.mem_singleton.1 hp]
        exact hsrt.2.1.imp fun hab e => by rw [e] at hab; omega
    · intro p hp y hy z hz
      rcases List.mem_append.1 hp with hp | hp
      · exact h.inv.both p hp y hy z hz
      · rw [List.mem_singleton.1 hp] at hy hz
        exact (hback y hy).trans (hforth z hz)
    · exact h.inv.po.push fun y hy z hz => hedge y hy z hz
    · show s.count < t.lw x
      omega
  · have hcl : t.close x = t := by
      unfold VS.close
      rw [if_neg hlow]
    have hlw : t.lw x < t.num x := by
      have h1 := h.a
      have h2 : t.lw x ≠ t.num x := hlow
      rw [h.here] at h2 ⊢
      omega
    obtain ⟨y0, hy0, hy1, hy2⟩ := h.b
    rw [hcl]
    refine ⟨⟨h.inv.pos, h.inv.opn, h.inv.srt, h.inv.cnt, h.inv.nw, h.inv.cl, fun g hg => hins g (hgs g hg), hblk, fun g hg => h.inv.up g (List.mem_cons_of_mem _ hg), ?_, h.inv.dis, h.inv.nod, h.inv.both, h.inv.po⟩, h.keep, h.lowk, ⟨x :: l, hl⟩, hxx, .inl h.b, ?_⟩
    · intro y hy
      obtain ⟨g, h1, h2, h3⟩ := h.inv.dn y hy
      rcases List.mem_cons.1 h1 with e | e
      · subst e
        obtain ⟨g', k1, k2, k3⟩ := h.inv.dn y0 hy0
        rcases List.mem_cons.1 k1 with e | e
        · rw [e] at k2
          omega
        · exact ⟨g', e, by omega, h3.trans (hy2.trans k3)⟩
      · exact ⟨g, e, h2, h3⟩
    · intro u hu h1 v hv hvs
      exact hcx u ((hsplit u hu).resolve_left h1) v hv hvs
theorem visit_scc {n : Nat} {T : List (List Nat)} (hT : TOk n T) : ∀ (f x : Nat) (s : VS) (gs : List Nat), VOk n s → TInv T gs s → s.met[x]? = some 0 → s.met.count 0 ≤ f → (∀ g ∈ gs, Rch T g x) → TPost T gs x s (visitF T f x s) := by
  intro f
  induction f with
  | zero =>
    intro x s _ _ _ hx hf
    have := count_set (v := 1) hx (by omega)
    omega
  | succ f ih =>
    intro x s gs hok hI hx hf hg
    have hxn : x < n := by rw [← hok.met]; exact (List.getElem?_eq_some_iff.1 hx).1
    have hx0 : s.num x = 0 := by unfold VS.num; rw [List.getD_eq_getElem?_getD, hx]; rfl
    have hs : ∀ v ∈ s.stack, s.num v ≠ 0 := hI.pos
    have key : ∀ k, k ≤ (T.getD x []).length → TMid T gs x s ((T.getD x []).take k) (midF T f x s k) := by
      intro k
      induction k with
      | zero => intro _; exact TMid.enter hok hI hx hg
      | succ k ihk =>
        intro hk
        have hm := ihk (by omega)
        obtain ⟨y, hy⟩ : ∃ y, (T.getD x [])[k]? = some y := ⟨_, List.getElem?_eq_getElem (by omega)⟩
        have hxy : y ∈ T.getD x [] := List.mem_of_getElem? hy
        have hyn := hT.at hxy
        obtain ⟨ok1, ok2, ok3⟩ := mid_ok hT hok hx hf k
        rw [mid_succ hy, List.take_add_one, hy]
        show TMid T gs x s (_ ++ [y]) _
        unfold VS.step
        by_cases hz : (midF T f x s k).met.getD y 0 = 0
        · rw [if_pos hz]
          have hyz := met_zero ok1 hyn hz
          have hp := ih y _ (x :: gs) ok1 hm.inv hyz ok3 fun g hgm => by
            rcases List.mem_cons.1 hgm with e | e
            · rw [e]
              exact .one hxy
            · exact (hg g e).trans (.one hxy)
          exact hm.white hs hx0 (visit_ok hT f y _ ok1 hyz ok3).1 hxn hz hxy hp
        · rw [if_neg hz]
          by_cases ho : (midF T f x s k).opn.getD y false = true
          · rw [if_pos ho]
            exact hm.open' hs hx0 ok1 hxn hz ((hm.inv.opn y).1 ho) hxy
          · rw [if_neg ho]
            exact hm.shut hz fun e => ho ((hm.inv.opn y).2 e)
    have h1 := key _ (Nat.le_refl _)
    rw [List.take_of_length_le (Nat.le_refl _)] at h1
    rw [visitF_succ]
    exact h1.close hs hI.cnt hI.gst
/-- What the parts are. -/
structure SCC (n : Nat) (T P : List (List Nat)) : Prop where
  cover : ∀ y, y < n → ∃ p ∈ P, y ∈ p
  lt : ∀ p ∈ P, ∀ y ∈ p, y < n
  ne : ∀ p ∈ P, p ≠ []
  dis : P.Pairwise fun p q => ∀ y ∈ p, y ∉ q
  nod : ∀ p ∈ P, p.Nodup
  both : ∀ p ∈ P, ∀ y ∈ p, ∀ z ∈ p, Rch T y z
  max : ∀ p ∈ P, ∀ y ∈ p, ∀ z, Rch T y z → Rch T z y → z ∈ p
theorem PO.reach {T L : List (List Nat)} (h : PO T L) {A B : List (List Nat)} {p : List Nat} {x y : Nat} (e : L = A ++ p :: B) (hx : x ∈ p) (hr : Rch T x y) : y ∈ p ∨ ∃ q ∈ A, y ∈ q :=
  hr.stay (P := fun v => v ∈ p ∨ ∃ q ∈ A, v ∈ q) (.inl hx) fun u hu v hv => by
    rcases hu with hu | ⟨q, hq, hu⟩
    · exact h A p B e u hu v hv
    · obtain ⟨A1, A2, rfl⟩ := List.append_of_mem hq
      rcases h A1 q (A2 ++ p :: B) (by rw [e]; simp) u hu v hv with h1 | ⟨q', h1, h2⟩
      · exact .inr ⟨q, hq, h1⟩
      · exact .inr ⟨q', List.mem_append_left _ h1, h2⟩
theorem PO.max {T L : List (List Nat)} (h : PO T L) (hd : L.Pairwise fun p q => ∀ y ∈ p, y ∉ q) {p : List Nat} (hp : p ∈ L) {x y : Nat} (hx : x ∈ p) (h1 : Rch T x y) (h2 : Rch T y x) : y ∈ p := by
  obtain ⟨A, B, rfl⟩ := List.append_of_mem hp
  rcases h.reach rfl hx h1 with h3 | ⟨q, hq, h3⟩
  · exact h3
  · obtain ⟨A1, A2, rfl⟩ := List.append_of_mem hq
    have h4 := h.reach (A := A1) (p := q) (B := A2 ++ p :: B) (by simp) h3 h2
    have h5 := (List.pairwise_append.1 hd).2.2
    rcases h4 with h4 | ⟨q', h6, h4⟩
    · exact absurd hx (h5 q hq p (by simp) x h4)
    · exact absurd hx (h5 q' (List.mem_append_left _ h6) p (by simp) x h4)
theorem num_start (n y : Nat) : (VS.start n).num y = 0 := by
  show (List.replicate n 0).getD y 0 = 0
  rw [List.getD_eq_getElem?_getD, List.getElem?_replicate]
  split <;> rfl
theorem found_inv {n : Nat} {T : List (List Nat)} (hT : TOk n T) : ∀ k, k ≤ n → TInv T [] (foundS n T k) ∧ ∀ y, y < k → (foundS n T k).num y ≠ 0 := by
  intro k
  induction k with
  | zero =>
    intro _
    refine ⟨⟨fun y hy => (by cases hy), fun y => ?_, List.Pairwise.nil, fun y => ?_, fun y hy => absurd (num_start n y) hy, ?_, fun g hg => (by cases hg), fun y hy => absurd (num_start n y) hy, fun g hg => (by cases hg), fun y hy => (by cases hy), List.Pairwise.nil, fun p hp => (by cases hp), fun p hp => (by cases hp), fun A p B e => ?_⟩, fun y hy => by omega⟩
    · show (List.replicate n false).getD y false = true ↔ y ∈ []
      rw [List.getD_eq_getElem?_getD, List.getElem?_replicate]
      split <;> simp
    · exact Nat.le_of_eq (num_start n y)
    · rintro y ⟨p, hp, _⟩
      cases hp
    · have e' : [] = A ++ p :: B := e
      simp at e'
  | succ k ih =>
    intro hk
    obtain ⟨h1, h2⟩ := ih (by omega)
    have hok := foundS_ok hT k (by omega)
    rw [foundS_succ]
    unfold foundStep
    by_cases h0 : (foundS n T k).met.getD k 0 = 0
    · rw [if_pos h0]
      have hz := met_zero hok (by omega) h0
      have hp := visit_scc hT n k _ [] hok h1 hz (by have := hok.num; omega) fun g hg => by cases hg
      refine ⟨hp.inv, fun y hy => ?_⟩
      by_cases e : y = k
      · rw [e]
        exact hp.here
      · have := h2 y (by omega)
        rw [hp.keep y this]
        exact this
    · rw [if_neg h0]
      refine ⟨h1, fun y hy => ?_⟩
      by_cases e : y = k
      · rw [e]
        exact h0
      · exact h2 y (by omega)
theorem found_scc {n : Nat} {T : List (List Nat)} (hT : TOk n T) : SCC n T (foundF n T) ∧ PO T (foundF n T) := by
  obtain ⟨h1, h2⟩ := found_inv hT n (Nat.le_refl _)
  have hok := foundS_ok hT n (Nat.le_refl _)
  refine ⟨⟨fun y hy => ?_, hok.plt, hok.pne, h1.dis, h1.nod, h1.both, fun p hp y hy z => h1.po.max h1.dis hp hy⟩, h1.po⟩
  rcases h1.nw y (h2 y hy) with h3 | h3
  · obtain ⟨g, h4, _⟩ := h1.dn y h3
    cases h4
  · exact h3
end Go.Proofs.Ytcjohhminiedfaa
