/- From a contract of a law's function to the law's row: whatever the arguments read as, the call returns true and changes nothing that was there. -/
import Derived.ProofKit
import Derived.SizedLaws
import Derived.Test.YtlcglkanlhmmdaaGreatRows
import Derived.JoinedCond
import Derived.Test.YtlcglkanlhmmdaaGreatQBase
import Derived.Test.YtlcglkanlhmmdaaGreatQN17Nodes
import Derived.Test.YtlcglkanlhmmdaaGreatQN17Own
namespace Go.Proofs.YtlcglkanlhmmdaaGreat
open Go.ChangeShapes Go.WideShapes Go.ChangeAt Go.RowKit
theorem trodAll_below {H : Type} {enc : TypeId × Value → H} {P : Program} (hl : laidOutB P = true) {W W' : World} (hb : Below W.heap.size W W') :
    ∀ (ts : List TypeId) (vs : List Value) (ds : List (DataW H)) (p : List MemPlace), (ts.all fun t => P.readableRec t && decide (t < P.types.size)) = true →
      DataW.TrodAll enc P W 0 (fun _ => true) true ts vs ds p → (∀ x ∈ p, x.block < W.heap.size) → DataW.TrodAll enc P W' 0 (fun b => decide (b < W.heap.size)) true ts vs ds p
  | [], [], [], _, _, h, _ => h
  | t :: ts, v :: vs, d :: ds, _, hr, ⟨p, q, h1, h2, e⟩, hlt => by
    subst e
    simp only [List.all_cons, Bool.and_eq_true, decide_eq_true_eq] at hr
    exact ⟨p, q, Below.trod hl hr.1.1 hr.1.2 h1 hb (fun x hx => hlt x (List.mem_append_left _ hx)), trodAll_below hl hb ts vs ds q (by simpa using hr.2) h2 (fun x hx => hlt x (List.mem_append_right _ hx)), rfl⟩
theorem trodAll_length {H : Type} {enc : TypeId × Value → H} {P : Program} {W : World} {base : Nat} {sp : Nat → Bool} {held : Bool} :
    ∀ (ts : List TypeId) (vs : List Value) (ds : List (DataW H)) (p : List MemPlace), DataW.TrodAll enc P W base sp held ts vs ds p → ds.length = ts.length
  | [], [], [], _, _ => rfl
  | _ :: ts, _ :: vs, _ :: ds, _, ⟨_, q, _, h2, _⟩ => by simp [trodAll_length ts vs ds q h2]

theorem law_lift {H : Type} {enc : TypeId × Value → H} {C : Checked} {os : Os} {f : FuncId} {fn : Func} {s : ChangeSpec} {fresh handsOn : Bool} {tb : TypeId}
    (own : ownKnob C.prog.godebug = none) (started : os.Started) (noInit : C.prog.inits.idxOf? f = none) (hfn : C.prog.funcs[f]? = some fn)
    (witness : ∃ (w : World) (tape : Tape) (i : Input), w.os = os ∧ (w.forCall tape i).Shaped C.prog ∧ i.vars = [] ∧ Input.okWide C.prog (w.forCall tape i) .any w.heap.size f i ∧
      s.pre6 enc C.prog fn [] false (w.forCall tape i).memory i.args ∧ ({} : Assume).holds C.prog (lone (Frame.enter C.prog f i.args .normal) [] (w.forCall tape i)))
    (hl : laidOutB C.prog = true) (hr : (fn.params.toList.all fun t => C.prog.readableRec t && decide (t < C.prog.types.size)) = true)
    (hres : fn.resultTypes = #[tb]) (htb : C.prog.underlying tb = some .bool) (hv : s.vars = [])
    (hs : ∀ (ds : List (DataW H)), ds.length = fn.params.toList.length → (s.fn H (ds ++ [])).results = [.lit (.bool true)] ∧ (s.fn H (ds ++ [])).args = ds ∧ (s.fn H (ds ++ [])).vars = [])
    (law : ∀ (W : World) (base : Nat) (args : Array Value) (ds : List (DataW H)) (p : List MemPlace),
      (∀ (j : Nat) t v, fn.params[j]? = some t → args[j]? = some v → Value.okWide C.prog W .any base t v) →
      DataW.TrodAll enc C.prog W 0 (fun _ => true) true fn.params.toList args.toList ds p → (∀ x ∈ p, x.block < W.heap.size) →
      (DataW.weightsEach C.prog (fn.params.toList ++ []) (ds ++ [])).all (· ≤ reachBytes) = true →
      Calls C.prog f args W fun e W' => e = .returned (.bool true) ∧ Below W.heap.size W W') :
    ReturnsInHanded {} C os f .any (s.pre6 enc C.prog fn [] false) (s.post enc C.prog fn false fresh handsOn false) := by
  refine returnsInHanded_of_change_sized (C := C) own started noInit hfn witness ?_
  intro W base args ds gs before hval hW _ hsz _
  have hW' := hW
  obtain ⟨p, q, hA, hV, rfl, _, _⟩ := hW
  rw [hv] at hV
  obtain ⟨rfl, rfl⟩ := trodVars_none hV
  simp only [List.append_nil] at hW'
  have hlt : ∀ x ∈ p, x.block < W.heap.size := fun x hx => hW'.lt x hx
  have hvt : s.plain.varTypes C.prog = [] := by simp [ChangeSpec.plain, DataSpec.varTypes, hv]
  rw [hvt] at hsz
  refine (law W base args ds p hval hA hlt hsz).mono fun e W' ⟨he, hb⟩ => ?_
  subst he
  obtain ⟨e1, e2, e3⟩ := hs ds (trodAll_length _ _ _ _ hA)
  refine ⟨_, rfl, ds, [], p, [], p, [], hW', ?_, ?_, ?_, hb.frame _, fun h => by cases h⟩
  · rw [e1, hres]
    exact ⟨[], [], ⟨1, by simp [DataW.trod, htb, Value.cells]⟩, rfl, rfl⟩
  · rw [e2]
    exact trodAll_below hl hb _ _ _ _ hr hA hlt
  · rw [hv, e3]; rfl
end Go.Proofs.YtlcglkanlhmmdaaGreat
/- Arguments, opened: what a reading says of the value and of memory. -/
namespace Go.Proofs.YtlcglkanlhmmdaaGreat
open Go.ChangeShapes Go.WideShapes Go.ChangeAt Go.RowKit
theorem mapM_some {α β : Type} {f : α → Option β} : ∀ {l : List α} {ys : List β}, l.mapM f = some ys → ∀ x ∈ l, ∃ y ∈ ys, f x = some y
  | [], _, _, x, hx => by cases hx
  | a :: l, ys, h, x, hx => by
    rw [List.mapM_cons] at h
    cases ha : f a with
    | none => simp [ha] at h
    | some b =>
      cases hl : l.mapM f with
      | none => simp [ha, hl] at h
      | some bs =>
        simp [ha, hl] at h
        subst h
        rcases List.mem_cons.1 hx with rfl | hx
        · exact ⟨b, by simp, ha⟩
        · obtain ⟨y, hy, h⟩ := mapM_some hl x hx
          exact ⟨y, List.mem_cons_of_mem _ hy, h⟩
section
variable {H : Type} {enc : TypeId × Value → H} {P : Program} {W : World} {base : Nat} {sp : Nat → Bool} {held : Bool}
theorem trod_int_c {q : IntKind} {t : TypeId} {fuel : Nat} {cs : List Value} {x : DataW H × List MemPlace} (ht : P.underlying t = some (.int q)) (h : DataW.trod enc P W base sp held fuel t cs = some x) : ∃ n, cs = [.int q n] ∧ (Lit.int q n).wf = true := by
  cases fuel with
  | zero => simp [DataW.trod] at h
  | succ fuel =>
    unfold DataW.trod at h
    rw [ht] at h
    match cs, h with
    | [.int k' n], h =>
      simp only at h
      split at h
      · rename_i hc; exact ⟨n, by rw [hc.1], hc.2⟩
      · cases h
theorem trod_bool_c {t : TypeId} {fuel : Nat} {cs : List Value} {x : DataW H × List MemPlace} (ht : P.underlying t = some .bool) (h : DataW.trod enc P W base sp held fuel t cs = some x) : ∃ b, cs = [.bool b] := by
  cases fuel with
  | zero => simp [DataW.trod] at h
  | succ fuel =>
    unfold DataW.trod at h
    rw [ht] at h
    match cs, h with
    | [.bool b], _ => exact ⟨b, rfl⟩
theorem trod_string_c {t : TypeId} {fuel : Nat} {cs : List Value} {x : DataW H × List MemPlace} (ht : P.underlying t = some .string) (h : DataW.trod enc P W base sp held fuel t cs = some x) : ∃ s, cs = [.string s] ∧ s.size ≤ maxLen := by
  cases fuel with
  | zero => simp [DataW.trod] at h
  | succ fuel =>
    unfold DataW.trod at h
    rw [ht] at h
    match cs, h with
    | [.string s], h =>
      simp only at h
      split at h
      · rename_i hc; exact ⟨s, rfl, hc⟩
      · cases h
/-- A struct, field by field. -/
theorem trod_struct_c {t : TypeId} {fs : Array Field} {fuel : Nat} {cs : List Value} {x : DataW H × List MemPlace} (ht : P.underlying t = some (.struct fs)) (h : DataW.trod enc P W base sp held fuel t cs = some x) :
    cs.length = P.cellsOf t ∧ ∀ f ∈ fs.toList, ∃ fuel' y, DataW.trod enc P W base sp held fuel' f.type ((cs.drop f.offset).take (P.cellsOf f.type)) = some y := by
  cases fuel with
  | zero => simp [DataW.trod] at h
  | succ fuel =>
    unfold DataW.trod at h
    rw [ht] at h
    have h' : (if cs.length = P.cellsOf t then (fs.toList.mapM fun f => DataW.trod enc P W base sp held fuel f.type ((cs.drop f.offset).take (P.cellsOf f.type))).map fun xs => ((.agg (xs.map (·.1)), xs.flatMap (·.2)) : DataW H × List MemPlace) else none) = some x := by
      match cs, h with
      | [], h => exact h
      | [_], h => exact h
      | _ :: _ :: _, h => exact h
    split at h'
    · rename_i hc
      refine ⟨hc, fun f hf => ?_⟩
      cases hm : (fs.toList.mapM fun f => DataW.trod enc P W base sp held fuel f.type ((cs.drop f.offset).take (P.cellsOf f.type))) with
      | none => rw [hm] at h'; cases h'
      | some ys =>
        obtain ⟨y, _, hy⟩ := mapM_some hm f hf
        exact ⟨fuel, y, hy⟩
    · cases h'
/-- An array, element by element. -/
theorem trod_array_c {t e : TypeId} {n : Nat} {fuel : Nat} {cs : List Value} {x : DataW H × List MemPlace} (ht : P.underlying t = some (.array n e)) (h : DataW.trod enc P W base sp held fuel t cs = some x) :
    cs.length = P.cellsOf t ∧ ∀ i, i < n → ∃ fuel' y, DataW.trod enc P W base sp held fuel' e ((cs.drop (i * P.cellsOf e)).take (P.cellsOf e)) = some y := by
  cases fuel with
  | zero => simp [DataW.trod] at h
  | succ fuel =>
    unfold DataW.trod at h
    rw [ht] at h
    have h' : (if cs.length = P.cellsOf t then ((List.range n).mapM fun i => DataW.trod enc P W base sp held fuel e ((cs.drop (i * P.cellsOf e)).take (P.cellsOf e))).map fun xs => ((.agg (xs.map (·.1)), xs.flatMap (·.2)) : DataW H × List MemPlace) else none) = some x := by
      match cs, h with
      | [], h => exact h
      | [_], h => exact h
      | _ :: _ :: _, h => exact h
    split at h'
    · rename_i hc
      refine ⟨hc, fun i hi => ?_⟩
      cases hm : ((List.range n).mapM fun i => DataW.trod enc P W base sp held fuel e ((cs.drop (i * P.cellsOf e)).take (P.cellsOf e))) with
      | none => rw [hm] at h'; cases h'
      | some ys =>
        obtain ⟨y, _, hy⟩ := mapM_some hm i (List.mem_range.2 hi)
        exact ⟨fuel, y, hy⟩
    · cases h'
/-- A slice: its elements' cells. -/
theorem trod_slice_c {t e : TypeId} {fuel : Nat} {cs : List Value} {x : DataW H × List MemPlace} (ht : P.underlying t = some (.slice e)) (h : DataW.trod enc P W base sp held fuel t cs = some x) :
    ∃ a len cap, cs = [.slice a len cap] ∧ len ≤ cap ∧ cap ≤ maxLen ∧ (0 < len → ∃ ad, a = some ad ∧ ∀ i, i < len → ∃ es fuel' y, W.cells? base (ad.add (i * P.cellsOf e)) (P.cellsOf e) = some es ∧ DataW.trod enc P W base sp held fuel' e es = some y) := by
  cases fuel with
  | zero => simp [DataW.trod] at h
  | succ fuel =>
    unfold DataW.trod at h
    rw [ht] at h
    match cs, h with
    | [.slice none 0 0], _ => exact ⟨none, 0, 0, rfl, Nat.le_refl _, Nat.zero_le _, fun h => by omega⟩
    | [.slice (some ad) len cap], h =>
      simp only at h
      split at h
      · rename_i hc
        refine ⟨some ad, len, cap, rfl, hc.2.1, hc.2.2, fun _ => ⟨ad, rfl, fun i hi => ?_⟩⟩
        cases hm : ((List.range len).mapM fun i => (W.cells? base (ad.add (i * P.cellsOf e)) (P.cellsOf e)).bind (DataW.trod enc P W base sp held fuel e)) with
        | none => rw [hm] at h; cases h
        | some ys =>
          obtain ⟨y, _, hy⟩ := mapM_some hm i (List.mem_range.2 hi)
          cases hcs : W.cells? base (ad.add (i * P.cellsOf e)) (P.cellsOf e) with
          | none => rw [hcs] at hy; cases hy
          | some es => rw [hcs] at hy; exact ⟨es, fuel, y, rfl, hy⟩
      · cases h
theorem cells_at {ad : Addr} {n : Nat} {es : List Value} (hn : 0 < n) (h : W.cells? base ad n = some es) : ad.spot = none ∧ ad.block < W.heap.size ∧ es.length = n ∧ ∀ j, j < n → W.cell? ⟨ad.block, ad.off + j, none⟩ = es[j]? := by
  unfold World.cells? at h
  split at h
  · have h0 : ∃ v, W.cell? ad = some v := by
      obtain ⟨y, _, hy⟩ := mapM_some h 0 (List.mem_range.2 hn)
      exact ⟨y, by simpa [Addr.add] using hy⟩
    obtain ⟨v0, hv0⟩ := h0
    have hsp := World.cell?_spot hv0
    obtain ⟨b, off, spot⟩ := ad
    simp only at hsp
    subst hsp
    have key : ∀ (l : List Nat) (es : List Value), l.mapM (fun i => W.cell? ((⟨b, off, none⟩ : Addr).add i)) = some es → es.length = l.length ∧ ∀ j (hj : j < l.length), W.cell? ⟨b, off + l[j], none⟩ = es[j]? := by
      intro l
      induction l with
      | nil => intro es h; simp at h; subst h; exact ⟨rfl, fun j hj => by simp at hj⟩
      | cons a l ih =>
        intro es h
        rw [List.mapM_cons] at h
        cases ha : W.cell? ((⟨b, off, none⟩ : Addr).add a) with
        | none => simp [ha] at h
        | some x =>
          cases hl : l.mapM (fun i => W.cell? ((⟨b, off, none⟩ : Addr).add i)) with
          | none => simp [ha, hl] at h
          | some xs =>
            simp [ha, hl] at h
            subst h
            obtain ⟨h1, h2⟩ := ih xs hl
            refine ⟨by simp [h1], fun j hj => ?_⟩
            cases j with
            | zero => rw [add_plain] at ha; simpa using ha
            | succ j => simpa using h2 j (by simpa using hj)
    obtain ⟨k1, k2⟩ := key _ _ h
    refine ⟨rfl, World.block_lt_of_cell? W _ hv0, by simpa using k1, fun j hj => ?_⟩
    have h5 := k2 j (by simpa using hj)
    rw [List.getElem_range] at h5
    exact h5
  · cases h
theorem slice_at {t e : TypeId} {fuel n : Nat} {cs : List Value} {x : DataW H × List MemPlace} (ht : P.underlying t = some (.slice e)) (hc : P.cellsOf e = n) (hn : 0 < n) (h : DataW.trod enc P W base sp held fuel t cs = some x) :
    ∃ a len cap, cs = [.slice a len cap] ∧ len ≤ cap ∧ cap ≤ maxLen ∧ (0 < len → ∃ b off, a = some ⟨b, off, none⟩ ∧ b < W.heap.size ∧ ∀ i, i < len → ∃ es fuel' y, es.length = n ∧ (∀ j, j < n → W.cell? ⟨b, off + i * n + j, none⟩ = es[j]?) ∧ DataW.trod enc P W base sp held fuel' e es = some y) := by
  obtain ⟨a, len, cap, h1, h2, h3, h4⟩ := trod_slice_c ht h
  refine ⟨a, len, cap, h1, h2, h3, fun hlen => ?_⟩
  obtain ⟨ad, rfl, h5⟩ := h4 hlen
  rw [hc] at h5
  obtain ⟨es0, _, _, hes0, _⟩ := h5 0 hlen
  have h00 : ad.add (0 * n) = ad := by simp [Addr.add]
  rw [h00] at hes0
  obtain ⟨k1, k2, _, _⟩ := cells_at hn hes0
  obtain ⟨b, off, spot⟩ := ad
  simp only at k1 k2
  subst k1
  refine ⟨b, off, rfl, k2, fun i hi => ?_⟩
  obtain ⟨es, f', y, hes, hy⟩ := h5 i hi
  rw [add_plain] at hes
  obtain ⟨_, _, k3, k4⟩ := cells_at hn hes
  exact ⟨es, f', y, k3, k4, hy⟩
theorem list_of_forall {α : Type} {Q : Nat → α → Prop} : ∀ (n : Nat), (∀ i, i < n → ∃ x, Q i x) → ∃ l : List α, l.length = n ∧ ∀ i x, l[i]? = some x → Q i x
  | 0, _ => ⟨[], rfl, fun i x h => by simp at h⟩
  | n + 1, h => by
    obtain ⟨l, h1, h2⟩ := list_of_forall n (fun i hi => h i (by omega))
    obtain ⟨x, hx⟩ := h n (by omega)
    refine ⟨l ++ [x], by simp [h1], fun i y hy => ?_⟩
    by_cases hi : i < n
    · rw [List.getElem?_append_left (by omega)] at hy
      exact h2 i y hy
    · rw [List.getElem?_append_right (by omega)] at hy
      have : i - l.length = 0 := by
        by_cases h0 : i - l.length = 0
        · exact h0
        · rw [List.getElem?_eq_none (by simp; omega)] at hy; cases hy
      rw [this] at hy
      simp at hy
      subst hy
      have : i = n := by omega
      subst this
      exact hx
theorem wf_u8 {n : Int} (h : (Lit.int .u8 n).wf = true) : 0 ≤ n ∧ n ≤ 255 := by
  have h1 : IntKind.u8.min = 0 := rfl
  have h2 : IntKind.u8.max = 255 := rfl
  simp only [Lit.wf, Bool.and_eq_true, decide_eq_true_eq] at h
  omega
theorem wf_i64 {n : Int} (h : (Lit.int .i64 n).wf = true) : -9223372036854775808 ≤ n ∧ n ≤ 9223372036854775807 := by
  have h1 : IntKind.i64.min = -9223372036854775808 := rfl
  have h2 : IntKind.i64.max = 9223372036854775807 := rfl
  simp only [Lit.wf, Bool.and_eq_true, decide_eq_true_eq] at h
  omega
end
end Go.Proofs.YtlcglkanlhmmdaaGreat
/- Arguments, opened, with the data that they read as: how much they hold. -/
namespace Go.Proofs.YtlcglkanlhmmdaaGreat
open Go.ChangeShapes Go.WideShapes Go.ChangeAt Go.RowKit
theorem one_bulk {H : Type} (d : DataW H) : 1 ≤ Rows.uptoBulk d := by
  cases d with
  | lit l => cases l <;> simp [Rows.uptoBulk]
  | _ => simp [Rows.uptoBulk]
theorem bulk_part {H : Type} {d : DataW H} {l : List (DataW H)} (h : d ∈ l) : Rows.uptoBulk d ≤ Rows.uptoBulkAll l := by
  induction l with
  | nil => cases h
  | cons x r ih =>
    simp only [Rows.uptoBulkAll]
    rcases List.mem_cons.1 h with rfl | e
    · omega
    · have := ih e; omega
theorem mapM_at {α β : Type} {f : α → Option β} : ∀ {l : List α} {ys : List β}, l.mapM f = some ys → ys.length = l.length ∧ ∀ (i : Nat) (x : α), l[i]? = some x → ∃ y, ys[i]? = some y ∧ f x = some y
  | [], ys, h => by
    simp at h
    subst h
    exact ⟨rfl, fun i x hx => by simp at hx⟩
  | a :: l, ys, h => by
    rw [List.mapM_cons] at h
    cases ha : f a with
    | none => simp [ha] at h
    | some b =>
      cases hl : l.mapM f with
      | none => simp [ha, hl] at h
      | some bs =>
        simp [ha, hl] at h
        subst h
        obtain ⟨h1, h2⟩ := mapM_at hl
        refine ⟨by simp [h1], fun i x hx => ?_⟩
        cases i with
        | zero =>
          simp at hx
          subst hx
          exact ⟨b, rfl, ha⟩
        | succ i => simpa using h2 i x (by simpa using hx)
section
variable {H : Type} {enc : TypeId × Value → H} {P : Program} {W : World} {base : Nat} {sp : Nat → Bool} {held : Bool}
theorem trod_string_d {t : TypeId} {fuel : Nat} {cs : List Value} {x : DataW H × List MemPlace} (ht : P.underlying t = some .string) (h : DataW.trod enc P W base sp held fuel t cs = some x) : ∃ s, cs = [.string s] ∧ Rows.uptoBulk x.1 = s.size + 1 := by
  cases fuel with
  | zero => simp [DataW.trod] at h
  | succ fuel =>
    unfold DataW.trod at h
    rw [ht] at h
    match cs, h with
    | [.string s], h =>
      simp only at h
      split at h
      · cases h
        refine ⟨s, rfl, ?_⟩
        simp only [Rows.uptoBulk]
        rw [Array.length_toList]
        rfl
      · cases h
/-- A struct, field by field. -/
theorem trod_struct_d {t : TypeId} {fs : Array Field} {fuel : Nat} {cs : List Value} {x : DataW H × List MemPlace} (ht : P.underlying t = some (.struct fs)) (h : DataW.trod enc P W base sp held fuel t cs = some x) :
    ∃ g, fuel = g + 1 ∧ cs.length = P.cellsOf t ∧ ∃ ys : List (DataW H × List MemPlace), x.1 = .agg (ys.map (·.1)) ∧
      ∀ (i : Nat) (f : Field), fs.toList[i]? = some f → ∃ y, ys[i]? = some y ∧ DataW.trod enc P W base sp held g f.type ((cs.drop f.offset).take (P.cellsOf f.type)) = some y := by
  cases fuel with
  | zero => simp [DataW.trod] at h
  | succ fuel =>
    unfold DataW.trod at h
    rw [ht] at h
    have h' : (if cs.length = P.cellsOf t then (fs.toList.mapM fun f => DataW.trod enc P W base sp held fuel f.type ((cs.drop f.offset).take (P.cellsOf f.type))).map fun xs => ((.agg (xs.map (·.1)), xs.flatMap (·.2)) : DataW H × List MemPlace) else none) = some x := by
      match cs, h with
      | [], h => exact h
      | [_], h => exact h
      | _ :: _ :: _, h => exact h
    split at h'
    · rename_i hc
      refine ⟨fuel, rfl, hc, ?_⟩
      cases hm : (fs.toList.mapM fun f => DataW.trod enc P W base sp held fuel f.type ((cs.drop f.offset).take (P.cellsOf f.type))) with
      | none => rw [hm] at h'; cases h'
      | some ys =>
        rw [hm] at h'
        cases h'
        exact ⟨ys, rfl, (mapM_at hm).2⟩
    · cases h'
theorem agg_part {x y : DataW H × List MemPlace} {ys : List (DataW H × List MemPlace)} {i : Nat} (hx : x.1 = .agg (ys.map (·.1))) (hy : ys[i]? = some y) : Rows.uptoBulk y.1 < Rows.uptoBulk x.1 := by
  rw [hx]
  simp only [Rows.uptoBulk]
  have := bulk_part (List.mem_map.2 ⟨y, List.mem_of_getElem? hy, rfl⟩ : y.1 ∈ ys.map (·.1))
  omega
/-- A slice, element by element. -/
theorem trod_slice_d {t e : TypeId} {n fuel : Nat} {cs : List Value} {x : DataW H × List MemPlace} (ht : P.underlying t = some (.slice e)) (hc : P.cellsOf e = n) (hn : 0 < n) (h : DataW.trod enc P W base sp held fuel t cs = some x) :
    ∃ g, fuel = g + 1 ∧ ∃ (a : Option Addr) (len cap : Nat), cs = [.slice a len cap] ∧ (len = 0 ∨ ∃ (b off : Nat) (ys : List (DataW H × List MemPlace)) (rest : List (DataW H)), a = some ⟨b, off, none⟩ ∧ b < W.heap.size ∧ x.1 = .slice (ys.map (·.1)) rest ∧ ys.length = len ∧
      ∀ i, i < len → ∃ es y, es.length = n ∧ (∀ j, j < n → W.cell? ⟨b, off + i * n + j, none⟩ = es[j]?) ∧ ys[i]? = some y ∧ DataW.trod enc P W base sp held g e es = some y) := by
  cases fuel with
  | zero => simp [DataW.trod] at h
  | succ fuel =>
    refine ⟨fuel, rfl, ?_⟩
    unfold DataW.trod at h
    rw [ht] at h
    match cs, h with
    | [.slice none 0 0], _ => exact ⟨none, 0, 0, rfl, .inl rfl⟩
    | [.slice (some ad) len cap], h =>
      refine ⟨some ad, len, cap, rfl, ?_⟩
      by_cases h0 : len = 0
      · exact .inl h0
      right
      simp only at h
      split at h
      · cases hm : ((List.range len).mapM fun i => (W.cells? base (ad.add (i * P.cellsOf e)) (P.cellsOf e)).bind (DataW.trod enc P W base sp held fuel e)) with
        | none => rw [hm] at h; cases h
        | some ys =>
          rw [hm] at h
          obtain ⟨m1, m2⟩ := mapM_at hm
          have hget : ∀ i, i < len → ∃ es y, W.cells? base (ad.add (i * n)) n = some es ∧ ys[i]? = some y ∧ DataW.trod enc P W base sp held fuel e es = some y := fun i hi => by
            obtain ⟨y, p1, p2⟩ := m2 i i (List.getElem?_range hi)
            rw [hc] at p2
            cases hcs : W.cells? base (ad.add (i * n)) n with
            | none => rw [hcs] at p2; cases p2
            | some es => rw [hcs] at p2; exact ⟨es, y, rfl, p1, p2⟩
          obtain ⟨es0, _, hes0, _⟩ := hget 0 (by omega)
          have h00 : ad.add (0 * n) = ad := by simp [Addr.add]
          rw [h00] at hes0
          obtain ⟨k1, k2, _, _⟩ := cells_at hn hes0
          obtain ⟨b, off, spot⟩ := ad
          simp only at k1 k2
          subst k1
          obtain ⟨rest, hrest⟩ : ∃ rest, x.1 = .slice (ys.map (·.1)) rest := by
            simp only [Option.bind_some, Option.map_eq_some_iff] at h
            obtain ⟨r, _, rfl⟩ := h
            exact ⟨_, rfl⟩
          refine ⟨b, off, ys, rest, rfl, k2, hrest, by rw [m1, List.length_range], fun i hi => ?_⟩
          obtain ⟨es, y, q1, q2, q3⟩ := hget i hi
          rw [add_plain] at q1
          obtain ⟨_, _, k3, k4⟩ := cells_at hn q1
          exact ⟨es, y, k3, k4, q2, q3⟩
      · cases h
end
end Go.Proofs.YtlcglkanlhmmdaaGreat
/- Arguments of the laws on names, opened: trees, deeds. -/
namespace Go.Proofs.YtlcglkanlhmmdaaGreat
open Go.ChangeShapes Go.WideShapes Go.ChangeAt Go.RowKit
theorem own_try : ownKnob Tryz.prog.godebug = none := by kernel_rfl
theorem laid_try : laidOutB Tryz.prog = true := by kernel_rfl
theorem cells35 : Tryz.prog.cellsOf 42 = 22 := by kernel_rfl
theorem cells63 : Tryz.prog.cellsOf 44 = 24 := by kernel_rfl
theorem cells33 : Tryz.prog.cellsOf 40 = 1 := by kernel_rfl
theorem cells26 : Tryz.prog.cellsOf 33 = 6 := by kernel_rfl
theorem cells24 : Tryz.prog.cellsOf 31 = 2 := by kernel_rfl
theorem cells32 : Tryz.prog.cellsOf 39 = 12 := by kernel_rfl
theorem cells30 : Tryz.prog.cellsOf 37 = 6 := by kernel_rfl
theorem cells28 : Tryz.prog.cellsOf 35 = 2 := by kernel_rfl
theorem cells3 : Tryz.prog.cellsOf 3 = 1 := by kernel_rfl
theorem cells4 : Tryz.prog.cellsOf 4 = 1 := by kernel_rfl
theorem cells5 : Tryz.prog.cellsOf 5 = 1 := by kernel_rfl
theorem cells9 : Tryz.prog.cellsOf 9 = 1 := by kernel_rfl
section
variable {H : Type} {enc : TypeId × Value → H} {W : World} {base : Nat} {sp : Nat → Bool} {held : Bool}
set_option maxRecDepth 100000 in
theorem value_cells {fuel : Nat} {cs : List Value} {x : DataW H × List MemPlace} (h : DataW.trod enc Tryz.prog W base sp held fuel 33 cs = some x) :
    ∃ v : V, cs = [.int .i64 v.k, .int .i64 v.m, .int .i64 v.e, .string v.t, .bool v.b, .int .i64 v.f] ∧ v.t.size ≤ Rows.uptoBulk x.1 ∧ I64 v.m := by
  obtain ⟨g, rfl, h1, ys, hx, hf⟩ := trod_struct_d Tryz.underlying33 h
  rw [cells26] at h1
  obtain ⟨y0, e0, t0⟩ := hf 0 _ rfl
  obtain ⟨y1, e1, t1⟩ := hf 1 _ rfl
  obtain ⟨y2, e2, t2⟩ := hf 2 _ rfl
  obtain ⟨y3, e3, t3⟩ := hf 3 _ rfl
  obtain ⟨y4, e4, t4⟩ := hf 4 _ rfl
  simp only [cells3, cells24, cells9, cells4] at t0 t1 t2 t3 t4
  obtain ⟨k, hk, _⟩ := trod_int_c Tryz.underlying3 t0
  obtain ⟨_, h3⟩ := trod_struct_c Tryz.underlying31 t1
  simp only [List.mem_cons, List.not_mem_nil, or_false, forall_eq_or_imp, forall_eq, cells3] at h3
  obtain ⟨⟨g0, z0, s0⟩, ⟨g1, z1, s1⟩⟩ := h3
  obtain ⟨m, hm, hmw⟩ := trod_int_c Tryz.underlying3 s0
  obtain ⟨e, he, _⟩ := trod_int_c Tryz.underlying3 s1
  obtain ⟨t, ht, wt⟩ := trod_string_d Tryz.underlying9 t2
  obtain ⟨b, hb⟩ := trod_bool_c Tryz.underlying4 t3
  obtain ⟨f, hf, _⟩ := trod_int_c Tryz.underlying3 t4
  have hlt := agg_part hx e2
  match cs, h1, hk, hm, he, ht, hb, hf with
  | [x0, x1, x2, x3, x4, x5], _, hk, hm, he, ht, hb, hf =>
    simp at hk hm he ht hb hf
    exact ⟨⟨k, m, e, t, b, f⟩, by rw [hk, hm, he, ht, hb, hf], by show t.size ≤ _; omega, wf_i64 hmw⟩
theorem coord_cells {fuel : Nat} {cs : List Value} {x : DataW H × List MemPlace} (h : DataW.trod enc Tryz.prog W base sp held fuel 35 cs = some x) : ∃ a n, cs = [.int .i64 a, .int .i64 n] := by
  obtain ⟨h1, h2⟩ := trod_struct_c Tryz.underlying35 h
  rw [cells28] at h1
  simp only [List.mem_cons, List.not_mem_nil, or_false, forall_eq_or_imp, forall_eq, cells3] at h2
  obtain ⟨⟨f0, y0, t0⟩, ⟨f1, y1, t1⟩⟩ := h2
  obtain ⟨a, ha, _⟩ := trod_int_c Tryz.underlying3 t0
  obtain ⟨n, hn, _⟩ := trod_int_c Tryz.underlying3 t1
  match cs, h1, ha, hn with
  | [x0, x1], _, ha, hn =>
    simp at ha hn
    exact ⟨a, n, by rw [ha, hn]⟩
theorem corner_cells {fuel : Nat} {cs : List Value} {x : DataW H × List MemPlace} (h : DataW.trod enc Tryz.prog W base sp held fuel 37 cs = some x) : ∃ c : Cn, cs = [.int .i64 c.ra, .int .i64 c.rn, .int .i64 c.ca, .int .i64 c.cn, .bool c.fr, .bool c.fc] := by
  obtain ⟨h1, h2⟩ := trod_struct_c Tryz.underlying37 h
  rw [cells30] at h1
  simp only [List.mem_cons, List.not_mem_nil, or_false, forall_eq_or_imp, forall_eq, cells28, cells4] at h2
  obtain ⟨⟨f0, y0, t0⟩, ⟨f1, y1, t1⟩, ⟨f2, y2, t2⟩, ⟨f3, y3, t3⟩⟩ := h2
  obtain ⟨ra, rn, ha⟩ := coord_cells t0
  obtain ⟨ca, cn, hc⟩ := coord_cells t1
  obtain ⟨fr, hr⟩ := trod_bool_c Tryz.underlying4 t2
  obtain ⟨fc, hfc⟩ := trod_bool_c Tryz.underlying4 t3
  match cs, h1, ha, hc, hr, hfc with
  | [x0, x1, x2, x3, x4, x5], _, ha, hc, hr, hfc =>
    simp at ha hc hr hfc
    exact ⟨⟨ra, rn, ca, cn, fr, fc⟩, by rw [ha.1, ha.2, hc.1, hc.2, hr, hfc]⟩
theorem area_cells {fuel : Nat} {cs : List Value} {x : DataW H × List MemPlace} (h : DataW.trod enc Tryz.prog W base sp held fuel 39 cs = some x) :
    ∃ a b : Cn, cs = [.int .i64 a.ra, .int .i64 a.rn, .int .i64 a.ca, .int .i64 a.cn, .bool a.fr, .bool a.fc, .int .i64 b.ra, .int .i64 b.rn, .int .i64 b.ca, .int .i64 b.cn, .bool b.fr, .bool b.fc] := by
  obtain ⟨h1, h2⟩ := trod_struct_c Tryz.underlying39 h
  rw [cells32] at h1
  simp only [List.mem_cons, List.not_mem_nil, or_false, forall_eq_or_imp, forall_eq, cells30] at h2
  obtain ⟨⟨f0, y0, t0⟩, ⟨f1, y1, t1⟩⟩ := h2
  obtain ⟨a, ha⟩ := corner_cells t0
  obtain ⟨b, hb⟩ := corner_cells t1
  refine ⟨a, b, ?_⟩
  have e : cs = (cs.drop 0).take 6 ++ (cs.drop 6).take 6 := by
    rw [List.drop_zero, List.take_of_length_le (l := cs.drop 6) (by rw [List.length_drop]; omega), List.take_append_drop]
  rw [e, ha, hb]
  rfl
theorem sum_bulk : ∀ {l : List T} {ys : List (DataW H × List MemPlace)}, l.length = ys.length → (∀ (i : Nat) (t : T), l[i]? = some t → ∃ y, ys[i]? = some y ∧ t.size ≤ Rows.uptoBulk y.1) → (l.map T.size).sum ≤ Rows.uptoBulkAll (ys.map (·.1))
  | [], [], _, _ => by simp [Rows.uptoBulkAll]
  | [], _ :: _, h, _ => by simp at h
  | _ :: _, [], h, _ => by simp at h
  | t :: l, y :: ys, h, hall => by
    obtain ⟨y0, e0, h0⟩ := hall 0 t rfl
    simp at e0
    subst e0
    have ih := sum_bulk (l := l) (ys := ys) (by simpa using h) (fun i t hi => by simpa using hall (i + 1) t (by simpa using hi))
    simp only [List.map_cons, List.sum_cons, Rows.uptoBulkAll]
    omega
set_option maxRecDepth 100000 in
theorem tree_cells (fuel : Nat) : ∀ (cs : List Value) (x : DataW H × List MemPlace), DataW.trod enc Tryz.prog W base sp held fuel 42 cs = some x →
    ∃ (t : T) (a : Option Addr) (cap : Nat), cs = ncells t.o (.slice a t.l.length cap) ∧ t.At W a ∧ t.size ≤ Rows.uptoBulk x.1 ∧ (Rows.uptoBulk x.1 ≤ 1048576 → t.fit) := by
  induction fuel using Nat.strongRecOn with
  | ind fuel ih =>
    intro cs x h
    obtain ⟨g, rfl, h1, ys, hx, hf⟩ := trod_struct_d Tryz.underlying42 h
    rw [cells35] at h1
    obtain ⟨y0, e0, t0⟩ := hf 0 _ rfl
    obtain ⟨y1, e1, t1⟩ := hf 1 _ rfl
    obtain ⟨y2, e2, t2⟩ := hf 2 _ rfl
    obtain ⟨y3, e3, t3⟩ := hf 3 _ rfl
    obtain ⟨y4, e4, t4⟩ := hf 4 _ rfl
    obtain ⟨y5, e5, t5⟩ := hf 5 _ rfl
    simp only [cells3, cells26, cells9, cells32, cells33] at t0 t1 t2 t3 t4 t5
    obtain ⟨k, hk, _⟩ := trod_int_c Tryz.underlying3 t0
    obtain ⟨v, hv, hvt, hvm⟩ := value_cells t1
    obtain ⟨s, hs, hsb⟩ := trod_string_d Tryz.underlying9 t2
    obtain ⟨a, b, hab⟩ := area_cells t3
    obtain ⟨r, hr, _⟩ := trod_int_c Tryz.underlying3 t4
    have b1 := agg_part hx e1
    have b2 := agg_part hx e2
    have b5 := agg_part hx e5
    have hL : ∃ (sa : Option Addr) (cap : Nat) (l : List T), (cs.drop 21).take 1 = [.slice sa l.length cap] ∧ (∀ o : Nd, (T.mk o l).At W sa) ∧ (l.map T.size).sum + 1 ≤ Rows.uptoBulk y5.1 ∧ (Rows.uptoBulk x.1 ≤ 1048576 → ∀ t ∈ l, t.fit) := by
      obtain ⟨g', rfl, sa, len, cap, hcs, hat⟩ := trod_slice_d Tryz.underlying40 cells35 (by omega) t5
      rcases hat with rfl | ⟨bb, off, zs, rest, rfl, hb, hz, hzl, hall⟩
      · exact ⟨sa, cap, [], hcs, (fun o => by rw [T.at_mk]; intro h0; cases h0), by simpa using one_bulk y5.1, fun _ t ht => by cases ht⟩
      · obtain ⟨l, hl, hP⟩ := list_of_forall (Q := fun i (t : T) => (∃ a' cap', (∀ j, j < 22 → W.cell? ⟨bb, off + i * 22 + j, none⟩ = (ncells t.o (.slice a' t.l.length cap'))[j]?) ∧ t.At W a') ∧ ∃ y, zs[i]? = some y ∧ t.size ≤ Rows.uptoBulk y.1 ∧ (Rows.uptoBulk y.1 ≤ 1048576 → t.fit)) len (fun i hi => by
          obtain ⟨es, y, _, hc, hy, ht⟩ := hall i hi
          obtain ⟨t, a', cap', rfl, hA, hz1, hf1⟩ := ih g' (by omega) es y ht
          exact ⟨t, ⟨a', cap', hc, hA⟩, y, hy, hz1, hf1⟩)
        have hbz : Rows.uptoBulkAll (zs.map (·.1)) + 1 ≤ Rows.uptoBulk y5.1 := by rw [hz]; simp only [Rows.uptoBulk]; omega
        refine ⟨_, cap, l, by rw [hl]; exact hcs, fun o => ?_, ?_, fun hb0 t ht => ?_⟩
        · rw [T.at_mk]
          exact fun _ => ⟨bb, off, rfl, hb, fun i t hi => (hP i t hi).1⟩
        · have := sum_bulk (l := l) (ys := zs) (by rw [hl, hzl]) (fun i t hi => by obtain ⟨y, p1, p2, _⟩ := (hP i t hi).2; exact ⟨y, p1, p2⟩)
          omega
        · obtain ⟨i, hi⟩ := List.mem_iff_getElem?.1 ht
          obtain ⟨y, p1, _, p3⟩ := (hP i t hi).2
          have := bulk_part (List.mem_map.2 ⟨y, List.mem_of_getElem? p1, rfl⟩ : y.1 ∈ zs.map (·.1))
          exact p3 (by omega)
    obtain ⟨sa, cap, l, hl, hA, hsz, hfit⟩ := hL
    refine ⟨.mk ⟨k, v, s, a, b, r⟩ l, sa, cap, ?_, hA _, ?_, fun hb0 => ?_⟩
    · have e : cs = (cs.drop 0).take 1 ++ ((cs.drop 1).take 6 ++ ((cs.drop 7).take 1 ++ ((cs.drop 8).take 12 ++ ((cs.drop 20).take 1 ++ (cs.drop 21).take 1)))) := by
        have c5 : (cs.drop 21).take 1 = cs.drop 21 := List.take_of_length_le (by rw [List.length_drop]; omega)
        have s0 : ∀ (p n : Nat), cs.drop p = (cs.drop p).take n ++ cs.drop (p + n) := fun p n => by rw [← List.drop_drop, List.take_append_drop]
        rw [c5, ← s0 20 1, ← s0 8 12, ← s0 7 1, ← s0 1 6, ← s0 0 1, List.drop_zero]
      rw [e, hk, hv, hs, hab, hr, hl]
      rfl
    · rw [T.size_mk]
      omega
    · rw [T.fit_mk]
      exact ⟨⟨by show s.size ≤ _; omega, by show v.t.size ≤ _; omega, hvm⟩, hfit hb0⟩
set_option maxRecDepth 100000 in
/-- A tree that came in. -/
theorem open_tree {r : Reach} {base' : Nat} {v : Value} {d : DataW H} {ps : List MemPlace} (hv : Value.okWide Tryz.prog W r base' 42 v) (h : DataW.Trod enc Tryz.prog W base sp held 42 v d ps) :
    ∃ t, IsT W v t ∧ t.size ≤ Rows.uptoBulk d ∧ (Rows.uptoBulk d ≤ 1048576 → t.fit) := by
  obtain ⟨cs, rfl, _⟩ : ∃ cs, v = .agg cs ∧ _ := by
    unfold Value.okWide at hv
    rw [Tryz.underlying42] at hv
    exact hv
  obtain ⟨fuel, hf⟩ := h
  obtain ⟨t, a, cap, e, hA, h1, h2⟩ := tree_cells fuel _ _ hf
  refine ⟨t, ⟨a, cap, ?_, hA⟩, h1, h2⟩
  obtain ⟨l⟩ := cs
  simp only [Value.cells] at e
  unfold nagg
  rw [e]
set_option maxRecDepth 100000 in
theorem deed_cells {fuel : Nat} {cs : List Value} {x : DataW H × List MemPlace} (h : DataW.trod enc Tryz.prog W base sp held fuel 44 cs = some x) :
    ∃ (y : Deed) (a : Option Addr) (cap : Nat), cs = .int .u8 y.d :: .string y.nm :: ncells y.t.o (.slice a y.t.l.length cap) ∧ y.t.At W a ∧ y.nm.size ≤ Rows.uptoBulk x.1 ∧ y.t.size ≤ Rows.uptoBulk x.1 ∧ (Rows.uptoBulk x.1 ≤ 1048576 → y.t.fit) ∧ 0 ≤ y.d ∧ y.d ≤ 255 := by
  obtain ⟨g, rfl, h1, ys, hx, hf⟩ := trod_struct_d Tryz.underlying44 h
  rw [cells63] at h1
  obtain ⟨y0, e0, t0⟩ := hf 0 _ rfl
  obtain ⟨y1, e1, t1⟩ := hf 1 _ rfl
  obtain ⟨y2, e2, t2⟩ := hf 2 _ rfl
  simp only [cells5, cells9, cells35] at t0 t1 t2
  obtain ⟨k, hk, hkw⟩ := trod_int_c Tryz.underlying5 t0
  obtain ⟨s, hs, hsb⟩ := trod_string_d Tryz.underlying9 t1
  obtain ⟨t, a, cap, ht, hA, hz, hfit⟩ := tree_cells g _ _ t2
  have b1 := agg_part hx e1
  have b2 := agg_part hx e2
  refine ⟨⟨k, s, t⟩, a, cap, ?_, hA, by show s.size ≤ _; omega, by show t.size ≤ _; omega, fun hb => hfit (by omega), (wf_u8 hkw).1, (wf_u8 hkw).2⟩
  have e : cs = (cs.drop 0).take 1 ++ ((cs.drop 1).take 1 ++ (cs.drop 2).take 22) := by
    have c5 : (cs.drop 2).take 22 = cs.drop 2 := List.take_of_length_le (by rw [List.length_drop]; omega)
    have s0 : ∀ (p n : Nat), cs.drop p = (cs.drop p).take n ++ cs.drop (p + n) := fun p n => by rw [← List.drop_drop, List.take_append_drop]
    rw [c5, ← s0 1 1, ← s0 0 1, List.drop_zero]
  rw [e, hk, hs, ht]
  rfl
set_option maxRecDepth 100000 in
/-- Deeds that came in. -/
theorem open_deeds {r : Reach} {base' : Nat} {v : Value} {d : DataW H} {ps : List MemPlace} (hv : Value.okWide Tryz.prog W r base' 22 v) (h : DataW.Trod enc Tryz.prog W base sp held 22 v d ps) :
    ∃ (a : Option Addr) (cap : Nat) (l : List Deed), v = .slice a l.length cap ∧ ActsAt W a l ∧ l.length ≤ Rows.uptoBulk d ∧ ∀ x ∈ l, x.nm.size ≤ Rows.uptoBulk d ∧ x.t.size ≤ Rows.uptoBulk d ∧ (Rows.uptoBulk d ≤ 1048576 → x.t.fit) ∧ 0 ≤ x.d ∧ x.d ≤ 255 := by
  obtain ⟨a0, len0, cap0, rfl⟩ := okWide_slice Tryz.underlying22 hv
  obtain ⟨fuel, hf⟩ := h
  obtain ⟨g, rfl, a, len, cap, hcs, hat⟩ := trod_slice_d Tryz.underlying22 cells63 (by omega) hf
  simp only [Value.cells, List.cons.injEq, Value.slice.injEq, and_true] at hcs
  obtain ⟨rfl, rfl, rfl⟩ := hcs
  rcases hat with rfl | ⟨b, off, ys, rest, rfl, hb, hz, hzl, hall⟩
  · exact ⟨_, _, [], rfl, fun h => by simp at h, Nat.zero_le _, fun x hx => by cases hx⟩
  · obtain ⟨l, hl, hP⟩ := list_of_forall (Q := fun i (x : Deed) => (W.cell? ⟨b, off + i * 24, none⟩ = some (.int .u8 x.d) ∧ W.cell? ⟨b, off + i * 24 + 1, none⟩ = some (.string x.nm) ∧ ∃ a' cap', (∀ j, j < 22 → W.cell? ⟨b, off + i * 24 + 2 + j, none⟩ = (ncells x.t.o (.slice a' x.t.l.length cap'))[j]?) ∧ x.t.At W a') ∧
        ∃ y, ys[i]? = some y ∧ x.nm.size ≤ Rows.uptoBulk y.1 ∧ x.t.size ≤ Rows.uptoBulk y.1 ∧ (Rows.uptoBulk y.1 ≤ 1048576 → x.t.fit) ∧ 0 ≤ x.d ∧ x.d ≤ 255) len0 (fun i hi => by
      obtain ⟨es, y, _, hc, hy, ht⟩ := hall i hi
      obtain ⟨x, a', cap', rfl, hA, h1⟩ := deed_cells ht
      refine ⟨x, ⟨hc 0 (by omega), hc 1 (by omega), a', cap', fun j hj => ?_, hA⟩, y, hy, h1⟩
      rw [show off + i * 24 + 2 + j = off + i * 24 + (j + 2) from by omega]
      exact hc (j + 2) (by omega))
    have hbz : ∀ y ∈ ys, Rows.uptoBulk y.1 ≤ Rows.uptoBulk d := fun y hy => by
      have e : d = .slice (ys.map (·.1)) rest := hz
      have := bulk_part (List.mem_map.2 ⟨y, hy, rfl⟩ : y.1 ∈ ys.map (·.1))
      rw [e]
      simp only [Rows.uptoBulk]
      omega
    have hln : ∀ l : List (DataW H), l.length ≤ Rows.uptoBulkAll l := fun l => by
      induction l with
      | nil => simp
      | cons x r ih => have := one_bulk x; simp only [Rows.uptoBulkAll, List.length_cons]; omega
    refine ⟨_, _, l, by rw [hl], fun _ => ⟨b, off, rfl, hb, fun i x hx => (hP i x hx).1⟩, ?_, fun x hx => ?_⟩
    · have e : d = .slice (ys.map (·.1)) rest := hz
      have := hln (ys.map (·.1))
      rw [List.length_map] at this
      rw [e]
      simp only [Rows.uptoBulk]
      omega
    · obtain ⟨i, hi⟩ := List.mem_iff_getElem?.1 hx
      obtain ⟨y, p1, p2, p3, p4, p5⟩ := (hP i x hi).2
      have := hbz y (List.mem_of_getElem? p1)
      exact ⟨by omega, by omega, fun hb0 => p4 (by omega), p5⟩
end
end Go.Proofs.YtlcglkanlhmmdaaGreat
/- From a contract of a law's function to the row of the law's second form: where what the arguments read as is of small bulk, the call returns true and changes nothing that was there. -/
namespace Go.Proofs.YtlcglkanlhmmdaaGreat
open Go.ChangeShapes Go.WideShapes Go.ChangeAt Go.RowKit
theorem law_lift_upto {H : Type} {enc : TypeId × Value → H} {C : Checked} {os : Os} {f : FuncId} {fn : Func} {s : ChangeSpec} {F : Stop.Interp} {fresh handsOn : Bool} {tb : TypeId}
    (own : ownKnob C.prog.godebug = none) (started : os.Started) (noInit : C.prog.inits.idxOf? f = none) (hfn : C.prog.funcs[f]? = some fn)
    (witness : ∃ (w : World) (tape : Tape) (i : Input), w.os = os ∧ (w.forCall tape i).Shaped C.prog ∧ i.vars = [] ∧ Input.okWide C.prog (w.forCall tape i) .any w.heap.size f i ∧
      (Rows.OpenSpec.upto s).pre6 enc C.prog fn [] false (w.forCall tape i).memory i.args ∧ ({} : Assume).holds C.prog (lone (Frame.enter C.prog f i.args .normal) [] (w.forCall tape i)))
    (hl : laidOutB C.prog = true) (hr : (fn.params.toList.all fun t => C.prog.readableRec t && decide (t < C.prog.types.size)) = true)
    (hres : fn.resultTypes = #[tb]) (htb : C.prog.underlying tb = some .bool) (hv : s.vars = [])
    (hs : ∀ (ds : List (DataW H)), ds.length = fn.params.toList.length → (s.fn H (ds ++ [])).results = [.lit (.bool true)] ∧ (s.fn H (ds ++ [])).args = ds ∧ (s.fn H (ds ++ [])).vars = [])
    (law : ∀ (W : World) (base : Nat) (args : Array Value) (ds : List (DataW H)) (p : List MemPlace),
      (∀ (j : Nat) t v, fn.params[j]? = some t → args[j]? = some v → Value.okWide C.prog W .any base t v) →
      DataW.TrodAll enc C.prog W 0 (fun _ => true) true fn.params.toList args.toList ds p → Rows.uptoSmall H ds = true →
      Calls C.prog f args W fun e W' => e = .returned (.bool true) ∧ Below W.heap.size W W') :
    ReturnsInHanded {} C os f .any ((Rows.OpenSpec.upto s).pre6 enc C.prog fn [] false) (((Rows.OpenSpec.upto s).at F).post enc C.prog fn false fresh handsOn false) := by
  refine returnsInHanded_of_cond (C := C) (s := Rows.OpenSpec.upto s) (k := Rows.uptoSmall) rfl own started noInit hfn witness ?_
  intro W base args ds gs before hval hW _ hk _
  show Calls _ _ _ _ fun e W' => ∃ v, e = .returned v ∧ s.post enc C.prog fn false fresh handsOn false W args v W'
  change DataW.Whole enc C.prog fn.params.toList s.vars false W args.toList ds gs before at hW
  have hW' := hW
  obtain ⟨p, q, hA, hV, rfl, _, _⟩ := hW
  rw [hv] at hV
  obtain ⟨rfl, rfl⟩ := trodVars_none hV
  simp only [List.append_nil] at hW' hk
  have hlt : ∀ x ∈ p, x.block < W.heap.size := fun x hx => hW'.lt x hx
  refine (law W base args ds p hval hA hk).mono fun e W' ⟨he, hb⟩ => ?_
  subst he
  obtain ⟨e1, e2, e3⟩ := hs ds (trodAll_length _ _ _ _ hA)
  refine ⟨_, rfl, ds, [], p, [], p, [], hW', ?_, ?_, ?_, hb.frame _, fun h => by cases h⟩
  · rw [e1, hres]
    exact ⟨[], [], ⟨1, by simp [DataW.trod, htb, Value.cells]⟩, rfl, rfl⟩
  · rw [e2]
    exact trodAll_below hl hb _ _ _ _ hr hA hlt
  · rw [hv, e3]; rfl
end Go.Proofs.YtlcglkanlhmmdaaGreat
