/- From a contract of a law's function to the law's row: whatever the arguments read as, the call returns true and changes nothing that was there. -/
import Derived.ProofKit
import Derived.SizedLaws
import Derived.Test.YtndhmahkglfopaaGreatDoorQBase
namespace Go.Proofs.YtndhmahkglfopaaGreatDoor
open Go.ChangeShapes Go.WideShapes Go.ChangeAt Go.RowKit
theorem trodAll_below {H : Type} {enc : TypeId × Value → H} {P : Program} (hl : laidOutB P = true) {W W' : World} (hb : Below W.heap.size W W') :
    ∀ (ts : List TypeId) (vs : List Value) (ds : List (DataW H)) (p : List MemPlace), (ts.all fun t => P.readableRec t && decide (t < P.types.size)) = true →
      DataW.TrodAll enc P W 0 (fun _ => true) true ts vs ds p → (∀ x ∈ p, x.block < W.heap.size) → DataW.TrodAll enc P W' 0 (fun b => decide (b < W.heap.size)) true ts vs ds p
  | [], [], [], _, _, h, _ => h
  | t :: ts, v :: vs, d :: ds, _, hr, ⟨p, q, h1, h2, e⟩, hlt => by
    subst e
    simp only [List.all_cons, Bool.and_eq_true, decide_eq_true_eq] at hr
    exact ⟨p, q, Below.trod hl hr.1.1 hr.1.2 h1 hb (fun x hx => hlt x (List.mem_append_left _ hx)), trodAll_below hl hb ts vs ds q (by simpa using hr.2) h2 (fun x hx => hlt x (List.mem_append_right _ hx)), rfl⟩
theorem trodAll_length {H : Type} {enc : TypeId × Value → H} {P : Program} {W : World} {base : Nat} {sp : Nat → Bool} {held : Bool} :
    ∀ (ts : List TypeId) (vs : List Value) (ds : List (DataW H)) (p : List MemPlace), DataW.TrodAll enc P W base sp held ts vs ds p → ds.length = ts.length
  | [], [], [], _, _ => rfl
  | _ :: ts, _ :: vs, _ :: ds, _, ⟨_, q, _, h2, _⟩ => by simp [trodAll_length ts vs ds q h2]

end Go.Proofs.YtndhmahkglfopaaGreatDoor
/- Arguments, opened: what a reading says of the value and of memory. -/
namespace Go.Proofs.YtndhmahkglfopaaGreatDoor
open Go.ChangeShapes Go.WideShapes Go.ChangeAt Go.RowKit
theorem mapM_some {α β : Type} {f : α → Option β} : ∀ {l : List α} {ys : List β}, l.mapM f = some ys → ∀ x ∈ l, ∃ y ∈ ys, f x = some y
  | [], _, _, x, hx => by cases hx
  | a :: l, ys, h, x, hx => by
    rw [List.mapM_cons] at h
    cases ha : f a with
    | none => simp [ha] at h
    | some b =>
      cases hl : l.mapM f with
      | none => simp [ha, hl] at h
      | some bs =>
        simp [ha, hl] at h
        subst h
        rcases List.mem_cons.1 hx with rfl | hx
        · exact ⟨b, by simp, ha⟩
        · obtain ⟨y, hy, h⟩ := mapM_some hl x hx
          exact ⟨y, List.mem_cons_of_mem _ hy, h⟩
section
variable {H : Type} {enc : TypeId × Value → H} {P : Program} {W : World} {base : Nat} {sp : Nat → Bool} {held : Bool}
theorem trod_int_c {q : IntKind} {t : TypeId} {fuel : Nat} {cs : List Value} {x : DataW H × List MemPlace} (ht : P.underlying t = some (.int q)) (h : DataW.trod enc P W base sp held fuel t cs = some x) : ∃ n, cs = [.int q n] ∧ (Lit.int q n).wf = true := by
  cases fuel with
  | zero => simp [DataW.trod] at h
  | succ fuel =>
    unfold DataW.trod at h
    rw [ht] at h
    match cs, h with
    | [.int k' n], h =>
      simp only at h
      split at h
      · rename_i hc; exact ⟨n, by rw [hc.1], hc.2⟩
      · cases h
theorem trod_bool_c {t : TypeId} {fuel : Nat} {cs : List Value} {x : DataW H × List MemPlace} (ht : P.underlying t = some .bool) (h : DataW.trod enc P W base sp held fuel t cs = some x) : ∃ b, cs = [.bool b] := by
  cases fuel with
  | zero => simp [DataW.trod] at h
  | succ fuel =>
    unfold DataW.trod at h
    rw [ht] at h
    match cs, h with
    | [.bool b], _ => exact ⟨b, rfl⟩
theorem trod_string_c {t : TypeId} {fuel : Nat} {cs : List Value} {x : DataW H × List MemPlace} (ht : P.underlying t = some .string) (h : DataW.trod enc P W base sp held fuel t cs = some x) : ∃ s, cs = [.string s] ∧ s.size ≤ maxLen := by
  cases fuel with
  | zero => simp [DataW.trod] at h
  | succ fuel =>
    unfold DataW.trod at h
    rw [ht] at h
    match cs, h with
    | [.string s], h =>
      simp only at h
      split at h
      · rename_i hc; exact ⟨s, rfl, hc⟩
      · cases h
/-- A struct, field by field. -/
theorem trod_struct_c {t : TypeId} {fs : Array Field} {fuel : Nat} {cs : List Value} {x : DataW H × List MemPlace} (ht : P.underlying t = some (.struct fs)) (h : DataW.trod enc P W base sp held fuel t cs = some x) :
    cs.length = P.cellsOf t ∧ ∀ f ∈ fs.toList, ∃ fuel' y, DataW.trod enc P W base sp held fuel' f.type ((cs.drop f.offset).take (P.cellsOf f.type)) = some y := by
  cases fuel with
  | zero => simp [DataW.trod] at h
  | succ fuel =>
    unfold DataW.trod at h
    rw [ht] at h
    have h' : (if cs.length = P.cellsOf t then (fs.toList.mapM fun f => DataW.trod enc P W base sp held fuel f.type ((cs.drop f.offset).take (P.cellsOf f.type))).map fun xs => ((.agg (xs.map (·.1)), xs.flatMap (·.2)) : DataW H × List MemPlace) else none) = some x := by
      match cs, h with
      | [], h => exact h
      | [_], h => exact h
      | _ :: _ :: _, h => exact h
    split at h'
    · rename_i hc
      refine ⟨hc, fun f hf => ?_⟩
      cases hm : (fs.toList.mapM fun f => DataW.trod enc P W base sp held fuel f.type ((cs.drop f.offset).take (P.cellsOf f.type))) with
      | none => rw [hm] at h'; cases h'
      | some ys =>
        obtain ⟨y, _, hy⟩ := mapM_some hm f hf
        exact ⟨fuel, y, hy⟩
    · cases h'
/-- A slice: its elements' cells. -/
theorem trod_slice_c {t e : TypeId} {fuel : Nat} {cs : List Value} {x : DataW H × List MemPlace} (ht : P.underlying t = some (.slice e)) (h : DataW.trod enc P W base sp held fuel t cs = some x) :
    ∃ a len cap, cs = [.slice a len cap] ∧ len ≤ cap ∧ cap ≤ maxLen ∧ (0 < len → ∃ ad, a = some ad ∧ ∀ i, i < len → ∃ es fuel' y, W.cells? base (ad.add (i * P.cellsOf e)) (P.cellsOf e) = some es ∧ DataW.trod enc P W base sp held fuel' e es = some y) := by
  cases fuel with
  | zero => simp [DataW.trod] at h
  | succ fuel =>
    unfold DataW.trod at h
    rw [ht] at h
    match cs, h with
    | [.slice none 0 0], _ => exact ⟨none, 0, 0, rfl, Nat.le_refl _, Nat.zero_le _, fun h => by omega⟩
    | [.slice (some ad) len cap], h =>
      simp only at h
      split at h
      · rename_i hc
        refine ⟨some ad, len, cap, rfl, hc.2.1, hc.2.2, fun _ => ⟨ad, rfl, fun i hi => ?_⟩⟩
        cases hm : ((List.range len).mapM fun i => (W.cells? base (ad.add (i * P.cellsOf e)) (P.cellsOf e)).bind (DataW.trod enc P W base sp held fuel e)) with
        | none => rw [hm] at h; cases h
        | some ys =>
          obtain ⟨y, _, hy⟩ := mapM_some hm i (List.mem_range.2 hi)
          cases hcs : W.cells? base (ad.add (i * P.cellsOf e)) (P.cellsOf e) with
          | none => rw [hcs] at hy; cases hy
          | some es => rw [hcs] at hy; exact ⟨es, fuel, y, rfl, hy⟩
      · cases h
theorem cells_at {ad : Addr} {n : Nat} {es : List Value} (hn : 0 < n) (h : W.cells? base ad n = some es) : ad.spot = none ∧ ad.block < W.heap.size ∧ es.length = n ∧ ∀ j, j < n → W.cell? ⟨ad.block, ad.off + j, none⟩ = es[j]? := by
  unfold World.cells? at h
  split at h
  · have h0 : ∃ v, W.cell? ad = some v := by
      obtain ⟨y, _, hy⟩ := mapM_some h 0 (List.mem_range.2 hn)
      exact ⟨y, by simpa [Addr.add] using hy⟩
    obtain ⟨v0, hv0⟩ := h0
    have hsp := World.cell?_spot hv0
    obtain ⟨b, off, spot⟩ := ad
    simp only at hsp
    subst hsp
    have key : ∀ (l : List Nat) (es : List Value), l.mapM (fun i => W.cell? ((⟨b, off, none⟩ : Addr).add i)) = some es → es.length = l.length ∧ ∀ j (hj : j < l.length), W.cell? ⟨b, off + l[j], none⟩ = es[j]? := by
      intro l
      induction l with
      | nil => intro es h; simp at h; subst h; exact ⟨rfl, fun j hj => by simp at hj⟩
      | cons a l ih =>
        intro es h
        rw [List.mapM_cons] at h
        cases ha : W.cell? ((⟨b, off, none⟩ : Addr).add a) with
        | none => simp [ha] at h
        | some x =>
          cases hl : l.mapM (fun i => W.cell? ((⟨b, off, none⟩ : Addr).add i)) with
          | none => simp [ha, hl] at h
          | some xs =>
            simp [ha, hl] at h
            subst h
            obtain ⟨h1, h2⟩ := ih xs hl
            refine ⟨by simp [h1], fun j hj => ?_⟩
            cases j with
            | zero => rw [add_plain] at ha; simpa using ha
            | succ j => simpa using h2 j (by simpa using hj)
    obtain ⟨k1, k2⟩ := key _ _ h
    refine ⟨rfl, World.block_lt_of_cell? W _ hv0, by simpa using k1, fun j hj => ?_⟩
    have h5 := k2 j (by simpa using hj)
    rw [List.getElem_range] at h5
    exact h5
  · cases h
theorem slice_at {t e : TypeId} {fuel n : Nat} {cs : List Value} {x : DataW H × List MemPlace} (ht : P.underlying t = some (.slice e)) (hc : P.cellsOf e = n) (hn : 0 < n) (h : DataW.trod enc P W base sp held fuel t cs = some x) :
    ∃ a len cap, cs = [.slice a len cap] ∧ len ≤ cap ∧ cap ≤ maxLen ∧ (0 < len → ∃ b off, a = some ⟨b, off, none⟩ ∧ b < W.heap.size ∧ ∀ i, i < len → ∃ es fuel' y, es.length = n ∧ (∀ j, j < n → W.cell? ⟨b, off + i * n + j, none⟩ = es[j]?) ∧ DataW.trod enc P W base sp held fuel' e es = some y) := by
  obtain ⟨a, len, cap, h1, h2, h3, h4⟩ := trod_slice_c ht h
  refine ⟨a, len, cap, h1, h2, h3, fun hlen => ?_⟩
  obtain ⟨ad, rfl, h5⟩ := h4 hlen
  rw [hc] at h5
  obtain ⟨es0, _, _, hes0, _⟩ := h5 0 hlen
  have h00 : ad.add (0 * n) = ad := by simp [Addr.add]
  rw [h00] at hes0
  obtain ⟨k1, k2, _, _⟩ := cells_at hn hes0
  obtain ⟨b, off, spot⟩ := ad
  simp only at k1 k2
  subst k1
  refine ⟨b, off, rfl, k2, fun i hi => ?_⟩
  obtain ⟨es, f', y, hes, hy⟩ := h5 i hi
  rw [add_plain] at hes
  obtain ⟨_, _, k3, k4⟩ := cells_at hn hes
  exact ⟨es, f', y, k3, k4, hy⟩
theorem list_of_forall {α : Type} {Q : Nat → α → Prop} : ∀ (n : Nat), (∀ i, i < n → ∃ x, Q i x) → ∃ l : List α, l.length = n ∧ ∀ i x, l[i]? = some x → Q i x
  | 0, _ => ⟨[], rfl, fun i x h => by simp at h⟩
  | n + 1, h => by
    obtain ⟨l, h1, h2⟩ := list_of_forall n (fun i hi => h i (by omega))
    obtain ⟨x, hx⟩ := h n (by omega)
    refine ⟨l ++ [x], by simp [h1], fun i y hy => ?_⟩
    by_cases hi : i < n
    · rw [List.getElem?_append_left (by omega)] at hy
      exact h2 i y hy
    · rw [List.getElem?_append_right (by omega)] at hy
      have : i - l.length = 0 := by
        by_cases h0 : i - l.length = 0
        · exact h0
        · rw [List.getElem?_eq_none (by simp; omega)] at hy; cases hy
      rw [this] at hy
      simp at hy
      subst hy
      have : i = n := by omega
      subst this
      exact hx
theorem wf_u8 {n : Int} (h : (Lit.int .u8 n).wf = true) : 0 ≤ n ∧ n ≤ 255 := by
  have h1 : IntKind.u8.min = 0 := rfl
  have h2 : IntKind.u8.max = 255 := rfl
  simp only [Lit.wf, Bool.and_eq_true, decide_eq_true_eq] at h
  omega
end
end Go.Proofs.YtndhmahkglfopaaGreatDoor
