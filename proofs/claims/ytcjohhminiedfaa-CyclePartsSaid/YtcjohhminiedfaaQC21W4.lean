/- Cycle: size, has; found. -/
import Derived.Laws.EntriesVeiled
import Derived.Test.YtcjohhminiedfaaQBase
import Derived.Test.YtcjohhminiedfaaQC21W3
namespace Go.Proofs.Ytcjohhminiedfaa
open Go.RowKit
/-- A graph that may be nil, or zero: n nodes. -/
def GrN (w : World) (G : Gb) (n : Nat) (T F : List (List Nat)) : Prop := (n = 0 ∧ G.pv = .pointer none ∧ T = [] ∧ F = []) ∨ (GrR w G T F ∧ T.length = n ∧ F.length = n)
theorem GrN.below {w w' : World} {G : Gb} {n : Nat} {T F : List (List Nat)} (h : GrN w G n T F) (hb : Below w.heap.size w w') : GrN w' G n T F := by
  rcases h with h | ⟨h1, h2, h3⟩
  · exact .inl h
  · exact .inr ⟨h1.below hb, h2, h3⟩
set_option maxHeartbeats 1000000 in
set_option maxRecDepth 100000 in
theorem size_any {w : World} {G : Gb} {n : Nat} {T F : List (List Nat)} (h : GrN w G n T F) : Calls Try.prog 33 #[G.pv] w fun e w' => e = .returned (.int .i64 (n : Int)) ∧ Below w.heap.size w w' := by
  rcases h with ⟨rfl, h, _⟩ | ⟨h, hT, _⟩
  · rw [h]
    go_enter Try.func33, Try.ntmps33
    go_wp2_with fail
    go_ret
    exact ⟨rfl, Below.refl _ _⟩
  · obtain ⟨a, cap, e1, _⟩ := h.to.slice
    have g1 : w.cell? ⟨G.p, 0, none⟩ = some (.slice a n cap) := by rw [← hT, ← e1]; exact cell_of_heap h.blk 0
    rw [h.ptr]
    clear e1 hT h
    go_enter Try.func33, Try.ntmps33
    go_wp2_with fail
    go_ret
    exact ⟨rfl, Below.refl _ _⟩
theorem made_one (z : Value) (n : Nat) : madeCells #[z] (n * 1) = (List.replicate n z).toArray := by
  rw [Nat.mul_one, ← toList_madeCells_one]
theorem info4 : (Try.prog.info? 4).map (fun i => (i.zero, i.size, i.bytes)) = some (some (.bool false), 1, 1) := by kernel_rfl
theorem mk3 (n : Nat) (hn : n ≤ 1000000) (W : World) : (Instr.makeSlice 31 (.int .i64 (n : Int)) (.int .i64 (n : Int))).run Try.prog W = .ok (.slice (some ⟨W.heap.size, 0, none⟩) n n) (W.alloc (.cells (List.replicate n (.int .i64 0)).toArray 3)) := by
  obtain ⟨i0, hi, hz0, hz1, hz2⟩ := info_parts info3
  have h := run_make (P := Try.prog) W 31 3 i0 _ Try.underlying31 hi hz0 .i64 .i64 n n (by omega) (by omega) (by rw [hz2]; omega) (by omega)
  rw [h, hz1, ← made_one]
  rfl
theorem mk4 (n : Nat) (hn : n ≤ 1000000) (W : World) : (Instr.makeSlice 42 (.int .i64 (n : Int)) (.int .i64 (n : Int))).run Try.prog W = .ok (.slice (some ⟨W.heap.size, 0, none⟩) n n) (W.alloc (.cells (List.replicate n (.bool false)).toArray 4)) := by
  obtain ⟨i0, hi, hz0, hz1, hz2⟩ := info_parts info4
  have h := run_make (P := Try.prog) W 42 4 i0 _ Try.underlying42 hi hz0 .i64 .i64 n n (by omega) (by omega) (by rw [hz2]; omega) (by omega)
  rw [h, hz1, ← made_one]
  rfl
theorem mk39 (n : Nat) (hn : n ≤ 1000000) (W : World) : (Instr.makeSlice 39 (.int .i64 (n : Int)) (.int .i64 (n : Int))).run Try.prog W = .ok (.slice (some ⟨W.heap.size, 0, none⟩) n n) (W.alloc (.cells (List.replicate n (.slice none 0 0)).toArray 31)) := by
  obtain ⟨i0, hi, hz0, hz1, hz2⟩ := info_parts info31
  have h := run_make (P := Try.prog) W 39 31 i0 _ Try.underlying39 hi hz0 .i64 .i64 n n (by omega) (by omega) (by rw [hz2]; omega) (by omega)
  rw [h, hz1, ← made_one]
  rfl
/-! found's boxes are laid in whatever order -/
def T29 (i : Nat) : Prop := i = 1 ∨ i = 3 ∨ i = 5 ∨ i = 6 ∨ i = 7 ∨ i = 8
def val29 (n i b : Nat) : Value := if i ≤ 5 then .slice (some ⟨b, 0, none⟩) n n else .pointer (some ⟨b, 0, none⟩)
def obj29 (n : Nat) (l : Array Bool) (v : Nat → Value) (i : Nat) : Obj :=
  if i = 1 then .cells (List.replicate n (.int .i64 0)).toArray 3
  else if i = 3 then .cells (List.replicate n (.int .i64 0)).toArray 3
  else if i = 5 then .cells (List.replicate n (.bool false)).toArray 4
  else if i = 6 then .cells #[if l.getD 9 false then v 1 else .slice none 0 0] 31
  else if i = 7 then .cells #[if l.getD 10 false then v 3 else .slice none 0 0] 31
  else .cells #[if l.getD 11 false then v 5 else .slice none 0 0] 42
def D29 (l : Array Bool) : Prop := (l.getD 9 false = true → l.getD 1 false = true ∧ l.getD 6 false = true) ∧ (l.getD 10 false = true → l.getD 3 false = true ∧ l.getD 7 false = true) ∧ (l.getD 11 false = true → l.getD 5 false = true ∧ l.getD 8 false = true)
theorem D29.set {l : Array Bool} (h : D29 l) {t : Nat} (ht : T29 t) : D29 (l.setIfInBounds t true) := by
  have e : ∀ i, t ≠ i → (l.setIfInBounds t true).getD i false = l.getD i false := fun i hi => getD_set_ne false hi
  have m : ∀ i, l.getD i false = true → (l.setIfInBounds t true).getD i false = true := fun i hi => getD_set_true hi
  unfold T29 at ht
  refine ⟨fun h1 => ?_, fun h1 => ?_, fun h1 => ?_⟩
  · rw [e 9 (by omega)] at h1
    exact ⟨m _ (h.1 h1).1, m _ (h.1 h1).2⟩
  · rw [e 10 (by omega)] at h1
    exact ⟨m _ (h.2.1 h1).1, m _ (h.2.1 h1).2⟩
  · rw [e 11 (by omega)] at h1
    exact ⟨m _ (h.2.2 h1).1, m _ (h.2.2 h1).2⟩
theorem obj29_alloc {n : Nat} {l : Array Bool} {v : Nat → Value} (h : D29 l) {t : Nat} (ht : T29 t) (hn : l.toList[t]? = some false) (x : Value) : ∀ i, i ≠ t → T29 i → l.getD i false = true → obj29 n (l.setIfInBounds t true) (fun i => if i = t then x else v i) i = obj29 n l v i := by
  have hno : l.getD t false = false := by simp at hn; simp [hn]
  have e : ∀ i, t ≠ i → (l.setIfInBounds t true).getD i false = l.getD i false := fun i hi => getD_set_ne false hi
  have key : ∀ (q s : Nat), t ≠ q → (l.getD q false = true → l.getD s false = true) → ∀ z : Value, (if (l.setIfInBounds t true).getD q false = true then (if s = t then x else v s) else z) = if l.getD q false = true then v s else z := by
    intro q s h1 h2 z
    rw [e q h1]
    by_cases hq : l.getD q false = true
    · rw [if_pos hq, if_pos hq, if_neg (fun e2 => by subst e2; rw [h2 hq] at hno; cases hno)]
    · rw [if_neg hq, if_neg hq]
  have ht' := ht
  unfold T29 at ht'
  intro i _ _ _
  unfold obj29
  simp only [key 9 1 (by omega) (fun h1 => (h.1 h1).1), key 10 3 (by omega) (fun h1 => (h.2.1 h1).1), key 11 5 (by omega) (fun h1 => (h.2.2 h1).1)]
/-- A graph's row of numbers, as its cells. -/
theorem iv_rep (n : Nat) : (List.replicate n (Value.int .i64 0)).toArray = ((List.replicate n 0).map iv).toArray := by
  rw [List.map_replicate]
  rfl
theorem T29_ne {i : Nat} (ht : T29 i) (hi : i ≠ 8) : i = 1 ∨ i = 3 ∨ i = 5 ∨ i = 6 ∨ i = 7 := by
  unfold T29 at ht
  omega
theorem last29 {i : Nat} (ht : T29 i) (hi : i ≠ 8) (a b c d e x y : Obj) : (if i = 1 then a else if i = 3 then b else if i = 5 then c else if i = 6 then d else if i = 7 then e else x) = (if i = 1 then a else if i = 3 then b else if i = 5 then c else if i = 6 then d else if i = 7 then e else y) := by
  rcases T29_ne ht hi with rfl | rfl | rfl | rfl | rfl <;> rfl
theorem st29_9 {n : Nat} {w0 w : World} {l : Array Bool} {b : Nat → Nat} {v : Nat → Value} (hz : l.size = 12) (hd : D29 l) (l1 : l.getD 1 false = true) (l2 : l.getD 6 false = true) (hS : Slots T29 (val29 n) (obj29 n) w0 l b v w) :
    D29 (l.setIfInBounds 9 true) ∧ Slots T29 (val29 n) (obj29 n) w0 (l.setIfInBounds 9 true) b v (w.setCell ⟨b 6, 0, none⟩ (v 1)) := by
  have e : ∀ i, 9 ≠ i → (l.setIfInBounds 9 true).getD i false = l.getD i false := fun i hi => getD_set_ne false hi
  have m : ∀ i, l.getD i false = true → (l.setIfInBounds 9 true).getD i false = true := fun i hi => getD_set_true hi
  have own : (l.setIfInBounds 9 true).getD 9 false = true := by
    have : 9 < l.size := by omega
    simp [this]
  refine ⟨⟨fun h1 => ?_, fun h1 => ?_, fun h1 => ?_⟩, hS.store (t := 6) (q := 9) (by unfold T29; omega) (by unfold T29; omega) l2 rfl ?_ fun i hi ht _ => ?_⟩
  · first | exact ⟨m _ l1, m _ l2⟩ | (rw [e 9 (by omega)] at h1; exact ⟨m _ (hd.1 h1).1, m _ (hd.1 h1).2⟩)
  · first | exact ⟨m _ l1, m _ l2⟩ | (rw [e 10 (by omega)] at h1; exact ⟨m _ (hd.2.1 h1).1, m _ (hd.2.1 h1).2⟩)
  · first | exact ⟨m _ l1, m _ l2⟩ | (rw [e 11 (by omega)] at h1; exact ⟨m _ (hd.2.2 h1).1, m _ (hd.2.2 h1).2⟩)
  · rw [heap_setCell_at (hS.at' 6 (by unfold T29; omega) l2).2.2]
    show some (Obj.cells _ _) = some (obj29 n (l.setIfInBounds 9 true) v 6)
    simp [obj29, own]
  · unfold obj29
    have _ := ht; rw [e 10 (by omega), e 11 (by omega)]; simp only [hi, if_false]
theorem st29_10 {n : Nat} {w0 w : World} {l : Array Bool} {b : Nat → Nat} {v : Nat → Value} (hz : l.size = 12) (hd : D29 l) (l1 : l.getD 3 false = true) (l2 : l.getD 7 false = true) (hS : Slots T29 (val29 n) (obj29 n) w0 l b v w) :
    D29 (l.setIfInBounds 10 true) ∧ Slots T29 (val29 n) (obj29 n) w0 (l.setIfInBounds 10 true) b v (w.setCell ⟨b 7, 0, none⟩ (v 3)) := by
  have e : ∀ i, 10 ≠ i → (l.setIfInBounds 10 true).getD i false = l.getD i false := fun i hi => getD_set_ne false hi
  have m : ∀ i, l.getD i false = true → (l.setIfInBounds 10 true).getD i false = true := fun i hi => getD_set_true hi
  have own : (l.setIfInBounds 10 true).getD 10 false = true := by
    have : 10 < l.size := by omega
    simp [this]
  refine ⟨⟨fun h1 => ?_, fun h1 => ?_, fun h1 => ?_⟩, hS.store (t := 7) (q := 10) (by unfold T29; omega) (by unfold T29; omega) l2 rfl ?_ fun i hi ht _ => ?_⟩
  · first | exact ⟨m _ l1, m _ l2⟩ | (rw [e 9 (by omega)] at h1; exact ⟨m _ (hd.1 h1).1, m _ (hd.1 h1).2⟩)
  · first | exact ⟨m _ l1, m _ l2⟩ | (rw [e 10 (by omega)] at h1; exact ⟨m _ (hd.2.1 h1).1, m _ (hd.2.1 h1).2⟩)
  · first | exact ⟨m _ l1, m _ l2⟩ | (rw [e 11 (by omega)] at h1; exact ⟨m _ (hd.2.2 h1).1, m _ (hd.2.2 h1).2⟩)
  · rw [heap_setCell_at (hS.at' 7 (by unfold T29; omega) l2).2.2]
    show some (Obj.cells _ _) = some (obj29 n (l.setIfInBounds 10 true) v 7)
    simp [obj29, own]
  · unfold obj29
    have _ := ht; rw [e 9 (by omega), e 11 (by omega)]; simp only [hi, if_false]
theorem st29_11 {n : Nat} {w0 w : World} {l : Array Bool} {b : Nat → Nat} {v : Nat → Value} (hz : l.size = 12) (hd : D29 l) (l1 : l.getD 5 false = true) (l2 : l.getD 8 false = true) (hS : Slots T29 (val29 n) (obj29 n) w0 l b v w) :
    D29 (l.setIfInBounds 11 true) ∧ Slots T29 (val29 n) (obj29 n) w0 (l.setIfInBounds 11 true) b v (w.setCell ⟨b 8, 0, none⟩ (v 5)) := by
  have e : ∀ i, 11 ≠ i → (l.setIfInBounds 11 true).getD i false = l.getD i false := fun i hi => getD_set_ne false hi
  have m : ∀ i, l.getD i false = true → (l.setIfInBounds 11 true).getD i false = true := fun i hi => getD_set_true hi
  have own : (l.setIfInBounds 11 true).getD 11 false = true := by
    have : 11 < l.size := by omega
    simp [this]
  refine ⟨⟨fun h1 => ?_, fun h1 => ?_, fun h1 => ?_⟩, hS.store (t := 8) (q := 11) (by unfold T29; omega) (by unfold T29; omega) l2 rfl ?_ fun i hi ht _ => ?_⟩
  · first | exact ⟨m _ l1, m _ l2⟩ | (rw [e 9 (by omega)] at h1; exact ⟨m _ (hd.1 h1).1, m _ (hd.1 h1).2⟩)
  · first | exact ⟨m _ l1, m _ l2⟩ | (rw [e 10 (by omega)] at h1; exact ⟨m _ (hd.2.1 h1).1, m _ (hd.2.1 h1).2⟩)
  · first | exact ⟨m _ l1, m _ l2⟩ | (rw [e 11 (by omega)] at h1; exact ⟨m _ (hd.2.2 h1).1, m _ (hd.2.2 h1).2⟩)
  · rw [heap_setCell_at (hS.at' 8 (by unfold T29; omega) l2).2.2]
    show some (Obj.cells _ _) = some (obj29 n (l.setIfInBounds 11 true) v 8)
    simp [obj29, own]
  · unfold obj29
    rw [e 9 (by omega), e 10 (by omega)]; exact last29 ht hi _ _ _ _ _ _ _
theorem un29 {l : Array Bool} {q t : Nat} (h : l.getD q false = true → l.getD t false = true) (hqt : t ≠ q) (hl : l.toList[t]? = some false) : (l.setIfInBounds t true).getD q false = false := by
  have hno : l.getD t false = false := by simp at hl; simp [hl]
  rw [getD_set_ne false hqt]
  cases hq : l.getD q false with
  | false => rfl
  | true => rw [h hq] at hno; cases hno
def b29 (K b6 b7 b8 b1 b3 b5 s : Nat) : Vb := ⟨K, K + 1, b6, b7, b8, b1, b3, b5, s, s + 1, s + 1 + 1⟩
theorem b29_nod {K b6 b7 b8 b1 b3 b5 s z : Nat} (hK : K + 2 ≤ z) (h : [b6, b7, b8, b1, b3, b5].Nodup) (hb : ∀ x ∈ [b6, b7, b8, b1, b3, b5], z ≤ x ∧ x < s) : (b29 K b6 b7 b8 b1 b3 b5 s).l.Nodup := by
  show ([K, K + 1] ++ ([b6, b7, b8, b1, b3, b5] ++ [s, s + 1, s + 1 + 1])).Nodup
  refine List.nodup_append.2 ⟨by simp, List.nodup_append.2 ⟨h, by simp <;> omega, ?_⟩, ?_⟩
  · intro a ha c hc
    have := hb a ha
    simp only [List.mem_cons, List.not_mem_nil, or_false] at hc
    omega
  · intro a ha c hc
    simp only [List.mem_cons, List.not_mem_nil, or_false] at ha
    rcases List.mem_append.1 hc with hc | hc
    · have := hb c hc
      omega
    · have := hb b6 (by simp)
      simp only [List.mem_cons, List.not_mem_nil, or_false] at hc
      omega
theorem VM.begin {w1 wr W : World} {G : Gb} {n K z b6 b7 b8 b1 b3 b5 : Nat} {T F : List (List Nat)} (hK : K + 2 ≤ z) (hG : 0 < n → GrR w1 G T F ∧ ∀ k, G.has k → k < K) (h1 : K = w1.heap.size) (hb : Below w1.heap.size w1 wr)
    (hn : [b6, b7, b8, b1, b3, b5].Nodup) (hz : ∀ x ∈ [b6, b7, b8, b1, b3, b5], z ≤ x ∧ x < wr.heap.size)
    (q1 : wr.heap[K]? = some (.cells #[G.pv] 24)) (q2 : wr.heap[K + 1]? = some (.cells #[.slice none 0 0] 39))
    (m6 : wr.heap[b6]? = some (.cells #[.slice (some ⟨b1, 0, none⟩) n n] 31)) (m7 : wr.heap[b7]? = some (.cells #[.slice (some ⟨b3, 0, none⟩) n n] 31)) (m8 : wr.heap[b8]? = some (.cells #[.slice (some ⟨b5, 0, none⟩) n n] 42))
    (m1 : wr.heap[b1]? = some (.cells (List.replicate n (.int .i64 0)).toArray 3)) (m3 : wr.heap[b3]? = some (.cells (List.replicate n (.int .i64 0)).toArray 3)) (m5 : wr.heap[b5]? = some (.cells (List.replicate n (.bool false)).toArray 4))
    (hW : W = ((wr.alloc (.cells #[.slice none 0 0] 31)).alloc (.cells #[.int .i64 0] 3)).alloc (.cells #[fv40 (b29 K b6 b7 b8 b1 b3 b5 wr.heap.size)] 70)) :
    VM K (wr.heap.size + 3) n (b29 K b6 b7 b8 b1 b3 b5 wr.heap.size) G T F W (VS.start n) (.slice none 0 0) (.slice none 0 0) [] := by
  have old : ∀ {k : Nat} {o : Obj}, wr.heap[k]? = some o → W.heap[k]? = some o := fun {k o} h => by
    rw [hW]
    exact heap_alloc_old (heap_alloc_old (heap_alloc_old h _) _) _
  have hzK := lt_of_heap q2
  have all : ∀ x ∈ (b29 K b6 b7 b8 b1 b3 b5 wr.heap.size).l, K ≤ x ∧ x < wr.heap.size + 3 := fun x hx => by
    change x ∈ [K, K + 1] ++ ([b6, b7, b8, b1, b3, b5] ++ [wr.heap.size, wr.heap.size + 1, wr.heap.size + 1 + 1]) at hx
    rcases List.mem_append.1 hx with h | h
    · simp only [List.mem_cons, List.not_mem_nil, or_false] at h
      omega
    · rcases List.mem_append.1 h with h | h
      · have := hz x h
        omega
      · simp only [List.mem_cons, List.not_mem_nil, or_false] at h
        omega
  have hsz : W.heap.size = wr.heap.size + 3 := by rw [hW]; simp
  have hBW : Below w1.heap.size w1 W := by
    rw [hW]
    exact ((hb.alloc hb.size _).alloc (by simp; have := hb.size; omega) _).alloc (by simp; have := hb.size; omega) _
  refine ⟨b29_nod hK hn hz, fun x hx => (all x hx).1, fun x hx => (all x hx).2, by omega, fun h0 => (hG h0).1.below hBW, fun h0 => (hG h0).2, old q1, ?_, old m6, old m7, old m8, ?_, ?_, ?_, ?_, ?_, old q2, IR.nil _ _, ⟨World.ownsRow_nil _ _ _ _, fun i l h => by simp [VS.start] at h⟩, fun i u k h => by simp at h, fun i j u v k h => by simp at h⟩
  · rw [hW]
    exact heap_alloc_old (heap_alloc_at (by simp [b29]) _) _
  · refine (old m1).trans ?_
    simp [VS.start, iv]
  · refine (old m3).trans ?_
    simp [VS.start, iv]
  · refine (old m5).trans ?_
    simp [VS.start]
  · rw [hW]
    exact heap_alloc_old (heap_alloc_old (heap_alloc_new _ _) _) _
  · rw [hW]
    exact heap_alloc_at (by simp [b29]) _
set_option maxHeartbeats 4000000 in
set_option maxRecDepth 100000 in
theorem found_any {w : World} {G : Gb} {n : Nat} {T F : List (List Nat)} (hT : TOk n T) (hn : n ≤ 100000) (h : GrN w G n T F) (hG : 0 < n → ∀ k, G.has k → k < w.heap.size) :
    Calls Try.prog 29 #[G.pv] w fun e w' => ∃ v vs, e = .returned v ∧ RR w.heap.size w' v vs (foundF n T) ∧ (∀ (i j : Nat) (u x : Value) (k : Nat), vs[i]? = some u → vs[j]? = some x → u.ownBlock = some k → x.ownBlock = some k → i = j) ∧ Below w.heap.size w w' := by
  have HT := Lib.hid hT
  have HG := Lib.hid hG
  have HGR := Lib.hid h
  clear hT hG h
  obtain ⟨gv, hgv⟩ : ∃ gv, G.pv = gv := ⟨_, rfl⟩
  rw [hgv]
  have hgp : ∃ a, gv = .pointer a := by
    rcases HGR.out with ⟨_, h, _⟩ | ⟨h, _⟩
    · exact ⟨_, hgv ▸ h⟩
    · exact ⟨_, hgv ▸ h.ptr⟩
  have HGV := Lib.hid hgv
  obtain ⟨ga, rfl⟩ := hgp
  clear hgv
  go_enter Try.func29, Try.ntmps29
  go_wp2_with fail
  have hsz := size_any (HGR.out.below (w' := (w.alloc (.cells #[.pointer ga] 24)).alloc (.cells #[.slice none 0 0] 39)) (by (repeat (first | with_reducible exact Below.refl _ _ | with_reducible exact hBW | with_reducible refine Below.setCell ?_ ?_ _ | with_reducible refine Below.alloc ?_ ?_ _ | with_reducible refine belowN ?_ _ | with_reducible refine Below.drew ?_)); all_goals (first | omega | (dsimp only; omega) | ((repeat (first | with_reducible refine le_alloc ?_ | with_reducible refine le_setCell ?_ | with_reducible refine le_drew ?_ | with_reducible refine le_drewN ?_)); omega))))
  rw [HGV.out] at hsz
  refine hsz.mono ?_
  clear hsz
  rintro e w1 ⟨rfl, hb1⟩
  have hB1 : Hid (Below w.heap.size w w1) := Below.trans (by (repeat (first | with_reducible exact Below.refl _ _ | with_reducible exact hBW | with_reducible refine Below.setCell ?_ ?_ _ | with_reducible refine Below.alloc ?_ ?_ _ | with_reducible refine belowN ?_ _ | with_reducible refine Below.drew ?_)); all_goals (first | omega | (dsimp only; omega) | ((repeat (first | with_reducible refine le_alloc ?_ | with_reducible refine le_setCell ?_ | with_reducible refine le_drew ?_ | with_reducible refine le_drewN ?_)); omega))) (hb1.mono (by simp <;> omega))
  have q1 : Hid (w1.heap[w.heap.size]? = some (.cells #[.pointer ga] 24)) := (hb1.block _ (by simp <;> omega)).trans (by (repeat (first | (with_reducible refine heap_alloc_at ?_ _; (first | rfl | (simp; done) | omega | (simp; omega)); done) | with_reducible refine heap_alloc_old ?_ _ | with_reducible refine heap_drew_old ?_ | with_reducible refine heap_drewN_old ?_)))
  have q2 : Hid (w1.heap[w.heap.size + 1]? = some (.cells #[.slice none 0 0] 39)) := (hb1.block _ (by simp <;> omega)).trans (by (repeat (first | (with_reducible refine heap_alloc_at ?_ _; (first | rfl | (simp; done) | omega | (simp; omega)); done) | with_reducible refine heap_alloc_old ?_ _ | with_reducible refine heap_drew_old ?_ | with_reducible refine heap_drewN_old ?_)))
  clear hb1
  go_wp2_with fail
  have MK3 := mk3 n (by omega)
  have MK4 := mk4 n (by omega)
  refine wp_region_inv [0, 2, 4] (fun listed a wr => listed.size = 12 ∧ (listed.getD 0 false = true ∧ listed.getD 2 false = true ∧ listed.getD 4 false = true) ∧ D29 listed ∧ ∃ (b : Nat → Nat) (v : Nat → Value), Slots T29 (val29 n) (obj29 n) w1 listed b v wr ∧
    a = { tmps := #[.pointer ga, .pointer (some ⟨w.heap.size, 0, none⟩), .slice none 0 0, .pointer (some ⟨w.heap.size + 1, 0, none⟩), .int .i64 (n : Int), v 6, v 7, v 8, undef, undef, undef, undef, .pointer ga, .int .i64 (n : Int), .int .i64 (n : Int), v 1, .int .i64 (n : Int), v 3, .int .i64 (n : Int), v 5, undef, undef, undef, undef, undef, undef, undef, undef, undef, undef, undef, undef, undef, undef, undef], defers := [] }) (by kernel_rfl) (by kernel_rfl) ?_ ?_ ?_
  · iterate 3 (apply first_step; (rw [List.getElem?_toArray]; (repeat rw [List.getElem?_cons_succ]); rw [List.getElem?_cons_zero]); rfl; (intro W _; go_simp; (first | done | rfl)); go_frame)
    refine first_done ?_
    refine ⟨by kernel_rfl, ⟨by kernel_rfl, by kernel_rfl, by kernel_rfl⟩, ⟨by decide, by decide, by decide⟩, fun _ => 0, fun _ => undef, ⟨(Below.refl _ _).drew, fun i _ hi _ h1 _ _ => ?_, fun i hi h1 => ?_⟩, rfl⟩
    · unfold T29 at hi
      rcases hi with rfl | rfl | rfl | rfl | rfl | rfl <;> exact absurd h1 (by decide)
    · unfold T29 at hi
      rcases hi with rfl | rfl | rfl | rfl | rfl | rfl <;> exact absurd h1 (by decide)
  · rintro listed a wr i ⟨hz, hf, hd, b, v, hS, rfl⟩ hi
    have hlt : i < 12 := ready_lt hi
    rcases (by omega : i = 0 ∨ i = 1 ∨ i = 2 ∨ i = 3 ∨ i = 4 ∨ i = 5 ∨ i = 6 ∨ i = 7 ∨ i = 8 ∨ i = 9 ∨ i = 10 ∨ i = 11) with rfl | rfl | rfl | rfl | rfl | rfl | rfl | rfl | rfl | rfl | rfl | rfl
    · exact (ready_not hi hf.1).elim
    · refine inv_step (by (rw [List.getElem?_toArray]; (repeat rw [List.getElem?_cons_succ]); rw [List.getElem?_cons_zero])) rfl fun K hK => ?_
      have hl : listed.toList[1]? = some false := ready_false hi
      go_simp
      exact hK _ _ ⟨by simp [hz], ⟨getD_set_true hf.1, getD_set_true hf.2.1, getD_set_true hf.2.2⟩, hd.set (t := 1) (by unfold T29; omega), _, _, hS.alloc (t := 1) hl (rfl) (obj29_alloc hd (by unfold T29; omega) hl _), rfl⟩
    · exact (ready_not hi hf.2.1).elim
    · refine inv_step (by (rw [List.getElem?_toArray]; (repeat rw [List.getElem?_cons_succ]); rw [List.getElem?_cons_zero])) rfl fun K hK => ?_
      have hl : listed.toList[3]? = some false := ready_false hi
      go_simp
      exact hK _ _ ⟨by simp [hz], ⟨getD_set_true hf.1, getD_set_true hf.2.1, getD_set_true hf.2.2⟩, hd.set (t := 3) (by unfold T29; omega), _, _, hS.alloc (t := 3) hl (rfl) (obj29_alloc hd (by unfold T29; omega) hl _), rfl⟩
    · exact (ready_not hi hf.2.2).elim
    · refine inv_step (by (rw [List.getElem?_toArray]; (repeat rw [List.getElem?_cons_succ]); rw [List.getElem?_cons_zero])) rfl fun K hK => ?_
      have hl : listed.toList[5]? = some false := ready_false hi
      go_simp
      exact hK _ _ ⟨by simp [hz], ⟨getD_set_true hf.1, getD_set_true hf.2.1, getD_set_true hf.2.2⟩, hd.set (t := 5) (by unfold T29; omega), _, _, hS.alloc (t := 5) hl (rfl) (obj29_alloc hd (by unfold T29; omega) hl _), rfl⟩
    · refine inv_step (by (rw [List.getElem?_toArray]; (repeat rw [List.getElem?_cons_succ]); rw [List.getElem?_cons_zero])) rfl fun K hK => ?_
      have hl : listed.toList[6]? = some false := ready_false hi
      go_simp
      exact hK _ _ ⟨by simp [hz], ⟨getD_set_true hf.1, getD_set_true hf.2.1, getD_set_true hf.2.2⟩, hd.set (t := 6) (by unfold T29; omega), _, _, hS.alloc (t := 6) hl (by simp [obj29, un29 (fun h => (hd.1 h).2) (by decide) hl]) (obj29_alloc hd (by unfold T29; omega) hl _), rfl⟩
    · refine inv_step (by (rw [List.getElem?_toArray]; (repeat rw [List.getElem?_cons_succ]); rw [List.getElem?_cons_zero])) rfl fun K hK => ?_
      have hl : listed.toList[7]? = some false := ready_false hi
      go_simp
      exact hK _ _ ⟨by simp [hz], ⟨getD_set_true hf.1, getD_set_true hf.2.1, getD_set_true hf.2.2⟩, hd.set (t := 7) (by unfold T29; omega), _, _, hS.alloc (t := 7) hl (by simp [obj29, un29 (fun h => (hd.2.1 h).2) (by decide) hl]) (obj29_alloc hd (by unfold T29; omega) hl _), rfl⟩
    · refine inv_step (by (rw [List.getElem?_toArray]; (repeat rw [List.getElem?_cons_succ]); rw [List.getElem?_cons_zero])) rfl fun K hK => ?_
      have hl : listed.toList[8]? = some false := ready_false hi
      go_simp
      exact hK _ _ ⟨by simp [hz], ⟨getD_set_true hf.1, getD_set_true hf.2.1, getD_set_true hf.2.2⟩, hd.set (t := 8) (by unfold T29; omega), _, _, hS.alloc (t := 8) hl (by simp [obj29, un29 (fun h => (hd.2.2 h).2) (by decide) hl]) (obj29_alloc hd (by unfold T29; omega) hl _), rfl⟩
    · have l1 : listed.getD 1 false = true := dep_listed (by kernel_rfl) hi
      have l2 : listed.getD 6 false = true := dep_listed (by kernel_rfl) hi
      obtain ⟨a1, a2, a3⟩ := hS.at' 6 (by unfold T29; omega) l2
      obtain ⟨c1, c2, c3⟩ := hS.at' 1 (by unfold T29; omega) l1
      have a2' : v 6 = .pointer (some ⟨b 6, 0, none⟩) := a2
      have c2' : v 1 = .slice (some ⟨b 1, 0, none⟩) n n := c2
      have N := Lib.hid (st29_9 hz hd l1 l2 hS)
      have e1 := cell_of_heap a3 0
      have e2 := frozen_of_heap a3 0
      have z1 := lt_of_heap a3
      rw [c2'] at N
      rw [a2', c2']
      refine inv_step (by (rw [List.getElem?_toArray]; (repeat rw [List.getElem?_cons_succ]); rw [List.getElem?_cons_zero])) rfl fun K hK => ?_
      clear a1 a2 a3 c1 c2 c3
      go_simp
      refine hK _ _ ⟨by simp [hz], ⟨getD_set_true hf.1, getD_set_true hf.2.1, getD_set_true hf.2.2⟩, N.out.1, b, v, N.out.2, by rw [a2', c2']⟩
    · have l1 : listed.getD 3 false = true := dep_listed (by kernel_rfl) hi
      have l2 : listed.getD 7 false = true := dep_listed (by kernel_rfl) hi
      obtain ⟨a1, a2, a3⟩ := hS.at' 7 (by unfold T29; omega) l2
      obtain ⟨c1, c2, c3⟩ := hS.at' 3 (by unfold T29; omega) l1
      have a2' : v 7 = .pointer (some ⟨b 7, 0, none⟩) := a2
      have c2' : v 3 = .slice (some ⟨b 3, 0, none⟩) n n := c2
      have N := Lib.hid (st29_10 hz hd l1 l2 hS)
      have e1 := cell_of_heap a3 0
      have e2 := frozen_of_heap a3 0
      have z1 := lt_of_heap a3
      rw [c2'] at N
      rw [a2', c2']
      refine inv_step (by (rw [List.getElem?_toArray]; (repeat rw [List.getElem?_cons_succ]); rw [List.getElem?_cons_zero])) rfl fun K hK => ?_
      clear a1 a2 a3 c1 c2 c3
      go_simp
      refine hK _ _ ⟨by simp [hz], ⟨getD_set_true hf.1, getD_set_true hf.2.1, getD_set_true hf.2.2⟩, N.out.1, b, v, N.out.2, by rw [a2', c2']⟩
    · have l1 : listed.getD 5 false = true := dep_listed (by kernel_rfl) hi
      have l2 : listed.getD 8 false = true := dep_listed (by kernel_rfl) hi
      obtain ⟨a1, a2, a3⟩ := hS.at' 8 (by unfold T29; omega) l2
      obtain ⟨c1, c2, c3⟩ := hS.at' 5 (by unfold T29; omega) l1
      have a2' : v 8 = .pointer (some ⟨b 8, 0, none⟩) := a2
      have c2' : v 5 = .slice (some ⟨b 5, 0, none⟩) n n := c2
      have N := Lib.hid (st29_11 hz hd l1 l2 hS)
      have e1 := cell_of_heap a3 0
      have e2 := frozen_of_heap a3 0
      have z1 := lt_of_heap a3
      rw [c2'] at N
      rw [a2', c2']
      refine inv_step (by (rw [List.getElem?_toArray]; (repeat rw [List.getElem?_cons_succ]); rw [List.getElem?_cons_zero])) rfl fun K hK => ?_
      clear a1 a2 a3 c1 c2 c3
      go_simp
      refine hK _ _ ⟨by simp [hz], ⟨getD_set_true hf.1, getD_set_true hf.2.1, getD_set_true hf.2.2⟩, N.out.1, b, v, N.out.2, by rw [a2', c2']⟩
  · rintro listed a wr ⟨hz, hf, hd, b, v, hS, rfl⟩ hr
    have hall := all_listed (by kernel_rfl) hz hr
    have h9 : listed.getD 9 false = true := hall 9 (by decide)
    have h10 : listed.getD 10 false = true := hall 10 (by decide)
    have h11 : listed.getD 11 false = true := hall 11 (by decide)
    obtain ⟨p1, v1, m1⟩ := hS.at' 1 (by unfold T29; omega) (hall 1 (by decide))
    obtain ⟨p3, v3, m3⟩ := hS.at' 3 (by unfold T29; omega) (hall 3 (by decide))
    obtain ⟨p5, v5, m5⟩ := hS.at' 5 (by unfold T29; omega) (hall 5 (by decide))
    obtain ⟨p6, v6, m6⟩ := hS.at' 6 (by unfold T29; omega) (hall 6 (by decide))
    obtain ⟨p7, v7, m7⟩ := hS.at' 7 (by unfold T29; omega) (hall 7 (by decide))
    obtain ⟨p8, v8, m8⟩ := hS.at' 8 (by unfold T29; omega) (hall 8 (by decide))
    have ne : ∀ i j, T29 i → T29 j → i ≠ j → b i ≠ b j := fun i j hi hj hij e => hij (hS.inj i j hi hj (hall i (by unfold T29 at hi; show i < 12; omega)) (hall j (by unfold T29 at hj; show j < 12; omega)) e)
    have hB2 : Hid (Below w.heap.size w wr) := hB1.out.trans (hS.bel.mono hB1.out.size)
    have q1' : Hid (wr.heap[w.heap.size]? = some (.cells #[.pointer ga] 24)) := (hS.bel.block _ (lt_of_heap q1.out)).trans q1.out
    have q2' : Hid (wr.heap[w.heap.size + 1]? = some (.cells #[.slice none 0 0] 39)) := (hS.bel.block _ (lt_of_heap q2.out)).trans q2.out
    have hw1 : w.heap.size + 2 ≤ w1.heap.size := by have := lt_of_heap q2.out; omega
    simp only [val29, obj29, h9, h10, h11, if_true, Nat.reduceLeDiff, Nat.reduceEqDiff, if_false] at v1 v3 v5 v6 v7 v8 m1 m3 m5 m6 m7 m8
    rw [v1] at m6
    rw [v3] at m7
    rw [v5] at m8
    rw [v1, v3, v5, v6, v7, v8]
    have nn : Hid ([b 6, b 7, b 8, b 1, b 3, b 5].Nodup) := by
      refine List.nodup_cons.2 ⟨?_, List.nodup_cons.2 ⟨?_, List.nodup_cons.2 ⟨?_, List.nodup_cons.2 ⟨?_, List.nodup_cons.2 ⟨?_, List.nodup_cons.2 ⟨?_, List.nodup_nil⟩⟩⟩⟩⟩⟩ <;> simp only [List.mem_cons, List.not_mem_nil, or_false, not_or, not_false_eq_true]
      · exact ⟨ne 6 7 (by unfold T29; omega) (by unfold T29; omega) (by decide), ne 6 8 (by unfold T29; omega) (by unfold T29; omega) (by decide), ne 6 1 (by unfold T29; omega) (by unfold T29; omega) (by decide), ne 6 3 (by unfold T29; omega) (by unfold T29; omega) (by decide), ne 6 5 (by unfold T29; omega) (by unfold T29; omega) (by decide)⟩
      · exact ⟨ne 7 8 (by unfold T29; omega) (by unfold T29; omega) (by decide), ne 7 1 (by unfold T29; omega) (by unfold T29; omega) (by decide), ne 7 3 (by unfold T29; omega) (by unfold T29; omega) (by decide), ne 7 5 (by unfold T29; omega) (by unfold T29; omega) (by decide)⟩
      · exact ⟨ne 8 1 (by unfold T29; omega) (by unfold T29; omega) (by decide), ne 8 3 (by unfold T29; omega) (by unfold T29; omega) (by decide), ne 8 5 (by unfold T29; omega) (by unfold T29; omega) (by decide)⟩
      · exact ⟨ne 1 3 (by unfold T29; omega) (by unfold T29; omega) (by decide), ne 1 5 (by unfold T29; omega) (by unfold T29; omega) (by decide)⟩
      · exact ne 3 5 (by unfold T29; omega) (by unfold T29; omega) (by decide)
    generalize b 1 = b1 at *
    generalize b 3 = b3 at *
    generalize b 5 = b5 at *
    generalize b 6 = b6 at *
    generalize b 7 = b7 at *
    generalize b 8 = b8 at *
    have M1 := Lib.hid m1
    have M3 := Lib.hid m3
    have M5 := Lib.hid m5
    have M6 := Lib.hid m6
    have M7 := Lib.hid m7
    have M8 := Lib.hid m8
    clear hz hf hd hS hr hall h9 h10 h11 v1 v3 v5 v6 v7 v8 m1 m3 m5 m6 m7 m8 ne MK3 MK4 q1 q2 hB1 listed v
    go_wp2_with fail
    refine abs_world ?_
    intro W4 hW4
    have hz : ∀ x ∈ [b6, b7, b8, b1, b3, b5], w1.heap.size ≤ x ∧ x < wr.heap.size := fun x hx => by
      simp only [List.mem_cons, List.not_mem_nil, or_false] at hx
      rcases hx with rfl | rfl | rfl | rfl | rfl | rfl
      · exact ⟨p6, lt_of_heap M6.out⟩
      · exact ⟨p7, lt_of_heap M7.out⟩
      · exact ⟨p8, lt_of_heap M8.out⟩
      · exact ⟨p1, lt_of_heap M1.out⟩
      · exact ⟨p3, lt_of_heap M3.out⟩
      · exact ⟨p5, lt_of_heap M5.out⟩
    have hG0 : 0 < n → GrR w G T F ∧ ∀ k, G.has k → k < w.heap.size := fun h0 => by
      rcases HGR.out with ⟨h, _⟩ | ⟨h, _⟩
      · omega
      · exact ⟨h, HG.out h0⟩
    have hM4 := VM.begin (W := W4) hw1 hG0 rfl hB2.out nn.out hz (by rw [HGV.out]; exact q1'.out) q2'.out M6.out M7.out M8.out M1.out M3.out M5.out hW4
    have hB4 : Below w.heap.size w W4 := by
      rw [hW4]
      exact ((hB2.out.alloc hB2.out.size _).alloc (by simp; have := hB2.out.size; omega) _).alloc (by simp; have := hB2.out.size; omega) _
    have HM4 := Lib.hid hM4
    have HB4 := Lib.hid hB4
    clear hM4 hB4 hz hG0 hW4 M1 M3 M5 M6 M7 M8 q1' q2' nn hB2 p1 p3 p5 p6 p7 p8
    obtain ⟨s, hs⟩ : ∃ s, wr.heap.size = s := ⟨_, rfl⟩
    rw [hs] at HM4 ⊢
    clear hs
    obtain ⟨K, hK⟩ : ∃ K, w.heap.size = K := ⟨_, rfl⟩
    rw [hK] at HM4 HB4 hw1 ⊢
    have HKW := Lib.hid hK
    clear hK hw1
    go_loopg [22] n (fun g i wr => ∃ (k : Nat) (sv pv : Value) (pvs : List Value), i = .int .i64 k ∧ g = n - k ∧ k ≤ n ∧ Hid (VM K (s + 3) n (b29 K b6 b7 b8 b1 b3 b5 s) G T F wr (foundS n T k) sv pv pvs) ∧ Hid (Below K w wr))
    case atStart => exact ⟨0, _, _, _, rfl, rfl, Nat.zero_le _, HM4, HB4⟩
    case round =>
      obtain ⟨k, sv, pv, pvs, rfl, rfl, hk, hM, hB⟩ := hrel
      by_cases hlt : k < n
      · have hko := foundS_ok HT.out k hk
        obtain ⟨v, hv⟩ : ∃ v, (foundS n T k).met[k]? = some v := ⟨_, List.getElem?_eq_getElem (by rw [hko.met]; exact hlt)⟩
        have g1 : wr.cell? ⟨b6, 0, none⟩ = _ := cell_of_heap hM.out.cm 0
        have g2 : wr.cell? ⟨b1, k, none⟩ = _ := hM.out.met_at hv
        have z1 : b6 < wr.heap.size := lt_of_heap hM.out.cm
        have z2 : b1 < wr.heap.size := lt_of_heap hM.out.bm
        have j1 : (0 : Int) ≤ (k : Int) := by omega
        have j2 : (k : Int) < (n : Int) := by omega
        by_cases hv0 : v = 0
        · subst hv0
          have NX : Hid (foundS n T (k + 1) = visitF T n k (foundS n T k)) := by
            unfold Hid
            rw [foundS_succ]
            unfold foundStep
            rw [if_pos (by rw [List.getD_eq_getElem?_getD, hv]; rfl)]
          have HV := Lib.hid hv
          have g4 : wr.cell? ⟨s + 1 + 1, 0, none⟩ = _ := cell_of_heap hM.out.cme 0
          have z4 : s + 1 + 1 < wr.heap.size := lt_of_heap hM.out.cme
          unfold fv40 pb b29 at g4
          simp only [b29] at g1
          clear hv
          go_wp2_with fail
          refine (visit_any HT.out hn n k (foundS n T k) wr sv pv pvs hko HV.out (by have := hko.num; omega) hM.out).mono ?_
          rintro e w5 ⟨rfl, sv5, pv5, pvs5, hM5, hB5⟩
          rw [← NX.out] at hM5
          have HM5 := Lib.hid hM5
          have HB5 := Lib.hid (hB.out.trans hB5)
          clear hM5 hB5 hM hB g1 g2 g4 z1 z2 z4 NX HV hko
          go_wp2_with fail
          go_roundg (n - (k + 1))
          case measure => omega
          case rel => exact ⟨k + 1, sv5, pv5, pvs5, by go_num, rfl, by omega, HM5, HB5⟩
        · have hvb : ((v : Int) == 0) = false := by simp; omega
          have hM5 : VM K (s + 3) n (b29 K b6 b7 b8 b1 b3 b5 s) G T F wr (foundS n T (k + 1)) sv pv pvs := by
            rw [foundS_succ]
            unfold foundStep
            rw [if_neg (by rw [List.getD_eq_getElem?_getD, hv]; exact hv0)]
            exact hM.out
          have HM5 := Lib.hid hM5
          simp only [b29] at g1
          clear hM5 hM hv hv0
          go_wp2_with fail
          go_roundg (n - (k + 1))
          case measure => omega
          case rel => exact ⟨k + 1, sv, pv, pvs, by go_num, rfl, by omega, HM5, hB⟩
      · have hkn : k = n := by omega
        subst hkn
        obtain ⟨pa, pac, rfl, _⟩ := own_slice hM.out.pa.row
        have g1 : wr.cell? ⟨K + 1, 0, none⟩ = _ := cell_of_heap hM.out.cpa 0
        have z1 : K + 1 < wr.heap.size := lt_of_heap hM.out.cpa
        go_wp2_with fail
        have hKH : w.heap.size ≤ s + 3 := by
          rw [HKW.out]
          have h1 := hM.out.lo' _ (hM.out.in_l (i := 0) (by decide))
          have h2 := hM.out.hi _ (hM.out.in_l (i := 0) (by decide))
          omega
        refine bodyPost_ret (v := .slice pa (foundS k T k).parts.length pac) (by simp [results, Try.results29, go_sem]) rfl ⟨_, pvs, rfl, ⟨own_base hM.out.pa.row hKH, fun i l hl => ?_⟩, hM.out.pdis, by rw [HKW.out]; exact hB.out⟩
        obtain ⟨u, h1, h2⟩ := hM.out.pa.each i l hl
        exact ⟨u, h1, h2.base hKH⟩
end Go.Proofs.Ytcjohhminiedfaa
