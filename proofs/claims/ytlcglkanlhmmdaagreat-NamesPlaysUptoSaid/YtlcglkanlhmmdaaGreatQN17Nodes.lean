/- ref06.Nodes: so many nodes. -/
import Derived.Laws.AppendOwnNone
import Derived.Lib.SmallJoins
import Derived.Deep.DeepCutAuto
import Derived.Deep.CutBlock
import Derived.Test.YtlcglkanlhmmdaaGreatQN17Tree
namespace Go.Proofs.YtlcglkanlhmmdaaGreat
open Go.RowKit
theorem range_nd {w : World} {b off : Nat} {o : Nd} {s : Value} (h : ∀ j, j < 22 → w.cell? ⟨b, off + j, none⟩ = (ncells o s)[j]?) : w.rangeAt b off (ncells o s) := fun j v hv => by
  have hj : j < 22 := (List.getElem?_eq_some_iff.1 hv).1
  exact (h j hj).trans hv
theorem range_blk {w : World} {b : Nat} {o : Nd} {s : Value} (h : w.heap[b]? = some (.cells (ncells o s).toArray 42)) : w.rangeAt b 0 (ncells o s) := fun j v hv => by
  rw [cell_of_heap h, Nat.zero_add]
  simpa using hv
theorem bs_nd (o : Nd) (s : Value) (w : World) : (Instr.buildSlice 40 1 #[(0, .agg (ncells o s).toArray)]).run Tryz.prog w = .ok (.slice (some ⟨w.heap.size, 0, none⟩) 1 1) (w.alloc (.cells (ncells o s).toArray 42)) := by
  have : Value.agg (ncells o s).toArray = nagg o s := rfl
  rw [this, nagg_eq]
  go_simp
  rfl
theorem info35w : (Tryz.prog.info? 42).map (fun i => (i.size, i.bytes)) = some (22, 192) := by kernel_rfl
/-- The zero node. -/
def nd0 : Nd := ⟨0, ⟨0, 0, 0, ⟨#[]⟩, false, 0⟩, ⟨#[]⟩, ⟨0, 0, 0, 0, false, false⟩, ⟨0, 0, 0, 0, false, false⟩, 0⟩
theorem info35z : (Tryz.prog.info? 42).map (fun i => (i.zero, i.size, i.bytes)) = some (some (nagg nd0 (.slice none 0 0)), 22, 192) := by kernel_rfl
theorem one_nd (o : Nd) {s : Value} (hs : s.oneCell' = true) : ∀ u ∈ ncells o s, u.oneCell' = true := by
  intro u hu
  unfold ncells ocells at hu
  simp only [List.cons_append, List.nil_append, List.mem_cons, List.not_mem_nil, or_false] at hu
  rcases hu with rfl | rfl | rfl | rfl | rfl | rfl | rfl | rfl | rfl | rfl | rfl | rfl | rfl | rfl | rfl | rfl | rfl | rfl | rfl | rfl | rfl | rfl <;> first | rfl | exact hs
theorem own_row1 (W : World) (B : Nat) (o : Nd) (s : Value) (hB : B ≤ W.heap.size) : (W.alloc (.cells (ncells o s).toArray 42)).ownsRow B 42 22 (.slice (some ⟨W.heap.size, 0, none⟩) 1 1) 1 (ncells o s) :=
  ⟨rfl, .inr ⟨W.heap.size, 1, (ncells o s).toArray, rfl, hB, heap_alloc_new W _, Nat.le_refl _, by unfold maxLen; omega, rfl, rfl⟩⟩
theorem own_cells {w : World} {B n g cap : Nat} {xs : List Value} {e : TypeId} {size : Nat} (h : w.ownsRow B e size (.slice (some ⟨g, 0, none⟩) n cap) n xs) : ∀ (j : Nat) (u : Value), xs[j]? = some u → w.cell? ((⟨g, 0, none⟩ : Addr).add j) = some u := fun j u hu => by
  obtain ⟨h1, h2⟩ := h
  rcases h2 with ⟨h2, _⟩ | ⟨g', cap', cur, h2, _, hh, _, _, _, ht⟩
  · cases h2
  · cases h2
    have hj : j < xs.length := (List.getElem?_eq_some_iff.1 hu).1
    have e : (⟨g, 0, none⟩ : Addr).add j = ⟨g, j, none⟩ := by
      by_cases hj0 : j = 0
      · subst hj0; simp [Addr.add]
      · simp [Addr.add, hj0]
    rw [e, cell_of_heap hh, ← hu, ← ht, List.getElem?_take_of_lt (by omega)]
    simp
theorem own_lt {w : World} {B n g cap : Nat} {xs : List Value} {e : TypeId} {size : Nat} (h : w.ownsRow B e size (.slice (some ⟨g, 0, none⟩) n cap) n xs) : B ≤ g ∧ g < w.heap.size := by
  rcases h.2 with ⟨h2, _⟩ | ⟨g', cap', cur, h2, hb, hh, _⟩
  · cases h2
  · cases h2
    exact ⟨hb, lt_of_heap hh⟩
theorem own_below {w w' : World} {B K n : Nat} {v : Value} {xs : List Value} {e : TypeId} {size : Nat} (h : w.ownsRow B e size v n xs) (hb : Below K w w') (hK : w.heap.size ≤ K) : w'.ownsRow B e size v n xs := by
  refine ⟨h.1, ?_⟩
  rcases h.2 with h2 | ⟨g, cap, cur, h2, h3, hh, h4⟩
  · exact .inl h2
  · exact .inr ⟨g, cap, cur, h2, h3, (hb.block g (Nat.lt_of_lt_of_le (lt_of_heap hh) hK)).trans hh, h4⟩
theorem sum_take {l : List T} {k : Nat} {t : T} (h : l[k]? = some t) : ((l.take (k + 1)).map T.size).sum = ((l.take k).map T.size).sum + t.size := by
  rw [List.take_add_one, h]
  simp
theorem sum_le {l : List T} (k : Nat) : ((l.take k).map T.size).sum ≤ (l.map T.size).sum := by
  conv => rhs; rw [← List.take_append_drop k l, List.map_append, List.sum_append]
  omega
def NodesR (w : World) (n : Nat) (e : Ending) (w' : World) : Prop := (∃ v xs, e = .returned v ∧ w'.ownsRow w.heap.size 42 22 v n xs ∧ ∀ u ∈ xs, u.oneCell' = true) ∧ Below w.heap.size w w'
set_option maxHeartbeats 4000000 in
set_option maxRecDepth 100000 in
theorem nodes_any (t : T) : ∀ (_ : t.size ≤ 2097152) (x : Value) (w : World), IsT w x t → Calls Tryz.prog 34 #[x] w (NodesR w t.size) := by
  induction t using T.ind with
  | h o l ih =>
    rintro hz x w ⟨a, cap, rfl, hA⟩
    change Calls Tryz.prog 34 #[nagg o (.slice a l.length cap)] w _
    rw [T.size_mk] at hz ⊢
    have hlen : l.length ≤ 2097152 := by have := T.len_le o l; rw [T.size_mk] at this; omega
    obtain ⟨i0, hi, hz0, hz1, hz2⟩ := info_parts info35z
    have HI := Lib.hid hi
    have HZ0 := Lib.hid hz0
    have HZ1 := Lib.hid hz1
    have HZ2 := Lib.hid hz2
    have IH := Lib.hid ih
    have HA := Lib.hid hA
    have HZ := Lib.hid hz
    have HL : Hid (l.length = l.length) := rfl
    obtain ⟨n, hn⟩ : ∃ n, l.length = n := ⟨_, rfl⟩
    rw [hn] at hlen HL ⊢
    have HN := Lib.hid hn
    clear hi hz0 hz1 hz2 ih hA hn hz HL
    rw [nagg_eq]
    go_enter Tryz.func34, Tryz.ntmps34
    go_upto_region 1 with fail
    have hbs := bs_nd o (.slice a n cap)
    go_wp2_with (refine wpList_load_mid rfl 42 (.tmp 1) rfl w.heap.size 0 rfl [.int .i64 o.k, .int .i64 o.v.k, .int .i64 o.v.m, .int .i64 o.v.e, .string o.v.t, .bool o.v.b, .int .i64 o.v.f, .string o.nm, .int .i64 o.a.ra, .int .i64 o.a.rn, .int .i64 o.a.ca, .int .i64 o.a.cn, .bool o.a.fr, .bool o.a.fc, .int .i64 o.b.ra, .int .i64 o.b.rn, .int .i64 o.b.ca, .int .i64 o.b.cn, .bool o.b.fr, .bool o.b.fc, .int .i64 o.rows, .slice a n cap] _ (range_blk (o := o) (s := .slice a n cap) (heap_alloc_new w _)) Tryz.underlying42 rfl info35 ?_)
    refine abs_world ?_
    intro W0 hW0
    have hB0 : Hid (Below w.heap.size w W0) := by rw [hW0]; unfold Hid; (repeat (first | with_reducible exact Below.refl _ _ | with_reducible exact hBW | with_reducible refine Below.setCell ?_ ?_ _ | with_reducible refine Below.alloc ?_ ?_ _ | with_reducible refine belowN ?_ _ | with_reducible refine Below.drew ?_)); all_goals (first | omega | (dsimp only; omega) | ((repeat (first | with_reducible refine le_alloc ?_ | with_reducible refine le_setCell ?_ | with_reducible refine le_drew ?_ | with_reducible refine le_drewN ?_)); omega))
    have g0 : W0.heap[w.heap.size]? = some (.cells (ncells o (.slice a n cap)).toArray 42) := by rw [hW0]; exact heap_alloc_old (heap_alloc_new w _) _
    have O0 : Hid (W0.ownsRow w.heap.size 42 22 (.slice (some ⟨w.heap.size + 1, 0, none⟩) 1 1) 1 (ncells o (.slice a n cap))) := by
      rw [hW0]
      have := own_row1 (w.alloc (.cells (ncells o (.slice a n cap)).toArray 42)) w.heap.size o (.slice a n cap) (by simp)
      rw [World.size_alloc] at this
      exact this
    have G0 := Lib.hid g0
    clear hW0 g0 hbs
    go_loopg [3, 4] n (fun g v i wr => ∃ (k : Nat) (xs : List Value), i = .int .i64 k ∧ g = n - k ∧ k ≤ n ∧ Hid (wr.ownsRow w.heap.size 42 22 v (1 + ((l.take k).map T.size).sum) xs ∧ (∀ u ∈ xs, u.oneCell' = true) ∧ v.ownBlock ≠ some w.heap.size) ∧ Hid (Below (w.heap.size + 1) W0 wr))
    case atStart => exact ⟨0, _, rfl, rfl, Nat.zero_le _, ⟨O0.out, one_nd o rfl, by simp [Value.ownBlock]⟩, Below.refl _ _⟩
    case round =>
      obtain ⟨k, xs, rfl, rfl, hk, hO, hB⟩ := hrel
      have e0 := (hB.out.block w.heap.size (by omega)).trans G0.out
      have x0 : wr.cell? ⟨w.heap.size, 21, none⟩ = some (.slice a n cap) := cell_of_heap e0 21
      have HBw : Hid (Below w.heap.size w wr) := hB0.out.trans (hB.out.mono (by omega))
      have hwr : w.heap.size < wr.heap.size := lt_of_heap e0
      clear e0
      by_cases hlt : k < n
      · obtain ⟨t, ht⟩ : ∃ t, l[k]? = some t := ⟨_, List.getElem?_eq_getElem (by rw [HN.out]; exact hlt)⟩
        obtain ⟨b, off, rfl, hb, hall⟩ := T.at_mk.1 (HA.out.below HBw.out) (by rw [HN.out]; omega)
        obtain ⟨ta, tc, hc, hat⟩ := hall k t ht
        have RG := Lib.hid (range_nd hc)
        have HAT := Lib.hid hat
        have hts : t.size ≤ 2097152 := by have := HZ.out; have h2 := T.size_le (o := o) (List.mem_of_getElem? ht); rw [T.size_mk] at h2; omega
        have IHt := Lib.hid (IH.out t (List.mem_of_getElem? ht) hts _ wr ⟨ta, tc, rfl, hat⟩)
        have SUM := Lib.hid (sum_take ht)
        have SLE := Lib.hid (sum_le (l := l) (k + 1))
        have h1s : 1 ≤ t.size := by cases t; rw [T.size_mk]; omega
        have j1 : (0 : Int) ≤ (k : Int) := by omega
        have j2 : (k : Int) < (n : Int) := by omega
        clear hall hc hat ht hts
        go_wp2_with (refine wpList_load_mid rfl 42 (.tmp 18) rfl b (off + k * 22) rfl _ _ RG.out Tryz.underlying42 rfl info35 ?_)
        refine IHt.out.mono ?_
        rintro e w2 ⟨⟨v2, ys, rfl, hown2, hone2⟩, hb2⟩
        obtain ⟨g, cap2, rfl⟩ := Joins.ownsRow_form hown2 h1s
        have HOWN := Lib.hid (own_below hO.out.1 hb2 (Nat.le_refl _))
        have HONE := Lib.hid hO.out.2.1
        have HNB := Lib.hid hO.out.2.2
        have HONE2 := Lib.hid hone2
        have HXL := Lib.hid hown2.1
        have HCE := Lib.hid (own_cells hown2)
        have HB2 : Hid (Below (w.heap.size + 1) W0 w2) := hB.out.trans (hb2.mono (by omega))
        have hs2 : wr.heap.size ≤ w2.heap.size := hb2.size
        have hsum := SUM.out
        have hsle := SLE.out
        have hzz := HZ.out
        generalize ((l.take k).map T.size).sum = S at HOWN hsum hzz
        have hb1 : 1 + S + t.size ≤ 2097152 := by omega
        have HSS := Lib.hid hsum
        have HGE : Hid (∀ j, u3.ownBlock = some j → w.heap.size + 1 ≤ j) := fun j hj => by
          have h1 : w.heap.size ≤ j := by
            rcases HOWN.out.2 with ⟨h2, _⟩ | ⟨g, c, cur, h2, h3, _⟩
            · rw [h2] at hj; cases hj
            · rw [h2] at hj; cases hj; exact h3
          have h2 : j ≠ w.heap.size := fun e => HNB.out (by rw [hj, e])
          omega
        clear hO hB hown2 hone2 hb2 IHt RG HAT SUM SLE hsum hsle hzz x0
        go_wp2_with (at_builtin; refine wpList_append_own_at _ rfl _ _ 40 rfl w.heap.size 42 i0 _ 22 192 Tryz.underlying40 HI.out HZ0.out HZ1.out HZ2.out rfl (by decide) _ _ _ rfl HOWN.out ⟨g, 0, none⟩ t.size cap2 ys rfl HXL.out HCE.out HONE2.out (by unfold maxLen; omega) (by omega) (by omega) ?_; intro v' wN hown hgrow _ hloc)
        go_roundg (n - (k + 1))
        case measure => omega
        case rel =>
          refine ⟨k + 1, xs ++ ys, by go_num, rfl, by omega, ⟨?_, ?_, ?_⟩, ?_⟩
          · rw [HSS.out, ← Nat.add_assoc]
            exact hown
          · intro u hu
            rcases List.mem_append.1 hu with hu | hu
            · exact HONE.out u hu
            · exact HONE2.out u hu
          · rcases hloc with h | h
            · rw [h]; exact HNB.out
            · rw [h]
              intro e
              have := Option.some.inj e
              omega
          · exact HB2.out.grown hgrow (by omega) HGE.out
      · have hkn : k = n := by omega
        have HR : Hid (wr.ownsRow w.heap.size 42 22 u3 (1 + (l.map T.size).sum) xs ∧ (∀ u ∈ xs, u.oneCell' = true)) := by
          have h1 := hO.out.1
          rw [List.take_of_length_le (by rw [HN.out]; omega)] at h1
          exact ⟨h1, hO.out.2.1⟩
        clear hO
        go_wp2_with fail
        go_ret
        exact ⟨⟨_, _, rfl, HR.out.1, HR.out.2⟩, HBw.out⟩
end Go.Proofs.YtlcglkanlhmmdaaGreat
/- ref06.over, Depth, Great. -/
namespace Go.Proofs.YtlcglkanlhmmdaaGreat
open Go.RowKit
/-- How deep. -/
def T.depth : T → Nat
  | .mk _ l => 1 + (l.attach.map fun t => T.depth t.1).foldl max 0
termination_by t => SizeOf.sizeOf t
decreasing_by exact T.lt t.2
theorem T.depth_mk (o : Nd) (l : List T) : (T.mk o l).depth = 1 + (l.map T.depth).foldl max 0 := by
  rw [T.depth]
  congr 2
  rw [List.attach_map_val (f := T.depth)]
theorem ret_int' {k : IntKind} {a b : Int} (h : a = b) : Ending.returned (.int k a) = .returned (.int k b) := by rw [h]
theorem T.depth_le (t : T) : t.depth ≤ t.size := by
  induction t using T.ind with
  | h o l ih =>
    rw [T.depth_mk, T.size_mk]
    have key : ∀ (l : List T) (a b : Nat), (∀ t ∈ l, t.depth ≤ t.size) → a ≤ b → (l.map T.depth).foldl max a ≤ b + (l.map T.size).sum := by
      intro l
      induction l with
      | nil => intro a b _ h; simpa using h
      | cons x r ihr =>
        intro a b hh h
        have h1 := hh x (by simp)
        have := ihr (max a x.depth) (b + x.size) (fun t ht => hh t (by simp [ht])) (by omega)
        simp only [List.map_cons, List.foldl_cons, List.sum_cons]
        omega
    have := key l 0 0 ih (Nat.le_refl _)
    omega
/-- Deeper, or wider, than is looked at, or longer texts? -/
def T.over : T → Nat → Bool
  | .mk _ _, 0 => true
  | .mk o l, d + 1 => decide (400 < l.length ∨ 300 < o.nm.size ∨ 300 < o.v.t.size) || l.attach.any (fun t => T.over t.1 d)
termination_by t => SizeOf.sizeOf t
decreasing_by exact T.lt t.2
theorem T.over_zero (t : T) : t.over 0 = true := by cases t; rw [T.over]
theorem T.over_succ (o : Nd) (l : List T) (d : Nat) : (T.mk o l).over (d + 1) = (decide (400 < l.length ∨ 300 < o.nm.size ∨ 300 < o.v.t.size) || l.any (fun t => T.over t d)) := by
  rw [T.over]
  congr 1
  rw [Bool.eq_iff_iff]
  simp
set_option maxHeartbeats 4000000 in
set_option maxRecDepth 100000 in
theorem depth_any (t : T) : ∀ (_ : t.size ≤ 2097152) (x : Value) (w : World), IsT w x t → Calls Tryz.prog 39 #[x] w fun e w' => e = .returned (.int .i64 (t.depth : Nat)) ∧ Below w.heap.size w w' := by
  induction t using T.ind with
  | h o l ih =>
    rintro hz x w ⟨a, cap, rfl, hA⟩
    change Calls Tryz.prog 39 #[nagg o (.slice a l.length cap)] w _
    have hlen : l.length ≤ 2097152 := by have := T.len_le o l; omega
    have hdep : (T.mk o l).depth ≤ 2097152 := Nat.le_trans (T.depth_le _) hz
    rw [T.depth_mk] at hdep ⊢
    have IH := Lib.hid ih
    have HZ := Lib.hid hz
    have HDEP := Lib.hid hdep
    clear ih hz hdep
    have HA := Lib.hid hA
    obtain ⟨n, hn⟩ : ∃ n, l.length = n := ⟨_, rfl⟩
    rw [hn] at hlen ⊢
    have HN := Lib.hid hn
    clear hA hn
    rw [nagg_eq]
    go_enter Tryz.func39, Tryz.ntmps39
    go_wp2_with fail
    refine abs_world ?_
    intro W0 hW0
    have hB0 : Hid (Below w.heap.size w W0) := by rw [hW0]; unfold Hid; (repeat (first | with_reducible exact Below.refl _ _ | with_reducible exact hBW | with_reducible refine Below.setCell ?_ ?_ _ | with_reducible refine Below.alloc ?_ ?_ _ | with_reducible refine belowN ?_ _ | with_reducible refine Below.drew ?_)); all_goals (first | omega | (dsimp only; omega) | ((repeat (first | with_reducible refine le_alloc ?_ | with_reducible refine le_setCell ?_ | with_reducible refine le_drew ?_ | with_reducible refine le_drewN ?_)); omega))
    have g0 : W0.heap[w.heap.size]? = some (.cells (ncells o (.slice a n cap)).toArray 42) := by rw [hW0]; exact heap_alloc_new w _
    have G0 := Lib.hid g0
    have z0 : w.heap.size < W0.heap.size := lt_of_heap g0
    clear hW0 g0
    go_loopg [3, 4] n (fun g d i wr => ∃ (k e : Nat), i = .int .i64 k ∧ d = .int .i64 e ∧ g = n - k ∧ k ≤ n ∧ e ≤ 2097152 ∧ Hid (e = ((l.take k).map T.depth).foldl max 0) ∧ Hid (Below W0.heap.size W0 wr))
    case atStart => exact ⟨0, 0, rfl, rfl, rfl, Nat.zero_le _, Nat.zero_le _, rfl, Below.refl _ _⟩
    case round =>
      obtain ⟨k, e, rfl, rfl, rfl, hk, he, hE, hB⟩ := hrel
      have e0 := (hB.out.block w.heap.size z0).trans G0.out
      have x0 : wr.cell? ⟨w.heap.size, 21, none⟩ = some (.slice a n cap) := cell_of_heap e0 21
      have HBw : Hid (Below w.heap.size w wr) := hB0.out.trans (hB.out.mono hB0.out.size)
      have hwr : w.heap.size < wr.heap.size := lt_of_heap e0
      clear e0
      by_cases hlt : k < n
      · obtain ⟨t, ht⟩ : ∃ t, l[k]? = some t := ⟨_, List.getElem?_eq_getElem (by rw [HN.out]; exact hlt)⟩
        obtain ⟨b, off, rfl, hb, hall⟩ := T.at_mk.1 (HA.out.below HBw.out) (by rw [HN.out]; omega)
        obtain ⟨ta, tc, hc, hat⟩ := hall k t ht
        have RG := Lib.hid (range_nd hc)
        have HAT := Lib.hid hat
        have HT := Lib.hid ht
        have j1 : (0 : Int) ≤ (k : Int) := by omega
        have j2 : (k : Int) < (n : Int) := by omega
        clear hall hc hat ht
        have hts : t.size ≤ 2097152 := by have := HZ.out; have h2 := T.size_le (o := o) (List.mem_of_getElem? HT.out); omega
        have IHt := Lib.hid (IH.out t (List.mem_of_getElem? HT.out) hts _ wr ⟨ta, tc, rfl, HAT.out⟩)
        have hdt : t.depth ≤ 2097152 := Nat.le_trans (T.depth_le _) hts
        have NX : Hid (max e t.depth = ((l.take (k + 1)).map T.depth).foldl max 0) := by
          unfold Hid
          rw [List.take_add_one, HT.out, hE.out]
          simp
        clear hE hts
        go_wp2_with (refine wpList_load_mid rfl 42 (.tmp 16) rfl b (off + k * 22) rfl _ _ RG.out Tryz.underlying42 rfl info35 ?_)
        refine IHt.out.mono ?_
        rintro e2 w2 ⟨rfl, hb2⟩
        have HB2 : Hid (Below W0.heap.size W0 w2) := hB.out.trans (hb2.mono hB.out.size)
        clear IHt RG HAT HT x0 hB hb2
        obtain ⟨D, hD⟩ : ∃ D, t.depth = D := ⟨_, rfl⟩
        rw [hD] at hdt NX ⊢
        clear hD
        rcases Nat.lt_or_ge e D with hed | hed
        · have NX : Hid (D = ((l.take (k + 1)).map T.depth).foldl max 0) := by unfold Hid; rw [← NX.out]; omega
          go_wp2_with fail
          all_goals
            go_roundg (n - (k + 1))
            case measure => omega
            case rel => exact ⟨k + 1, D, by go_num, by first | rfl | (congr 1; omega), rfl, by omega, hdt, NX, HB2⟩
        · have NX : Hid (e = ((l.take (k + 1)).map T.depth).foldl max 0) := by unfold Hid; rw [← NX.out]; omega
          go_wp2_with fail
          all_goals
            go_roundg (n - (k + 1))
            case measure => omega
            case rel => exact ⟨k + 1, e, by go_num, by first | rfl | (congr 1; omega), rfl, by omega, he, NX, HB2⟩
      · have NX : Hid (1 + (l.map T.depth).foldl max 0 = 1 + e) := by
          unfold Hid
          rw [hE.out, List.take_of_length_le (by rw [HN.out]; omega)]
        have hdb := HDEP.out
        rw [NX.out] at hdb
        clear hE HDEP
        go_wp2_with fail
        go_ret
        exact ⟨by rw [NX.out]; exact ret_int' (by omega), HBw.out⟩
set_option maxHeartbeats 4000000 in
set_option maxRecDepth 100000 in
theorem over_any (t : T) : ∀ (_ : t.size ≤ 2097152) (d : Nat) (_ : d ≤ 40) (x : Value) (w : World), IsT w x t → Calls Tryz.prog 33 #[x, .int .i64 d] w fun e w' => e = .returned (.bool (t.over d)) ∧ Below w.heap.size w w' := by
  induction t using T.ind with
  | h o l ih =>
    rintro hz d hd x w ⟨a, cap, rfl, hA⟩
    change Calls Tryz.prog 33 #[nagg o (.slice a l.length cap), .int .i64 d] w _
    have hlen : l.length ≤ 2097152 := by have := T.len_le o l; omega
    have IH := Lib.hid ih
    have HZ := Lib.hid hz
    clear ih hz
    cases d with
    | zero =>
      rw [T.over_zero]
      have HA := Lib.hid hA
      obtain ⟨n, hn⟩ : ∃ n, l.length = n := ⟨_, rfl⟩
      rw [hn] at hlen ⊢
      have HN := Lib.hid hn
      clear hA hn
      rw [nagg_eq]
      go_enter Tryz.func33, Tryz.ntmps33
      go_wp2_with fail
      go_ret
      refine ⟨rfl, ?_⟩
      (repeat (first | with_reducible exact Below.refl _ _ | with_reducible exact hBW | with_reducible refine Below.setCell ?_ ?_ _ | with_reducible refine Below.alloc ?_ ?_ _ | with_reducible refine belowN ?_ _ | with_reducible refine Below.drew ?_)); all_goals (first | omega | (dsimp only; omega) | ((repeat (first | with_reducible refine le_alloc ?_ | with_reducible refine le_setCell ?_ | with_reducible refine le_drew ?_ | with_reducible refine le_drewN ?_)); omega))
    | succ d =>
      rw [T.over_succ]
      have dn : (((d + 1 : Nat) : Int) == 0) = false := by simp; omega
      have dp : ((d + 1 : Nat) : Int) = (d : Int) + 1 := by omega
      rw [dp] at dn ⊢
      by_cases c1 : 400 < l.length
      · rw [decide_eq_true (.inl c1), Bool.true_or]
        have hc1 : 400 < l.length := c1
        clear c1
        have HA := Lib.hid hA
        clear hA
        generalize l.length = n at hc1 hlen ⊢
        rw [nagg_eq]
        go_enter Tryz.func33, Tryz.ntmps33
        go_wp2_with fail
        go_ret
        refine ⟨rfl, ?_⟩
        (repeat (first | with_reducible exact Below.refl _ _ | with_reducible exact hBW | with_reducible refine Below.setCell ?_ ?_ _ | with_reducible refine Below.alloc ?_ ?_ _ | with_reducible refine belowN ?_ _ | with_reducible refine Below.drew ?_)); all_goals (first | omega | (dsimp only; omega) | ((repeat (first | with_reducible refine le_alloc ?_ | with_reducible refine le_setCell ?_ | with_reducible refine le_drew ?_ | with_reducible refine le_drewN ?_)); omega))
      by_cases c2 : 300 < o.nm.size
      · rw [decide_eq_true (.inr (.inl c2)), Bool.true_or]
        have HA := Lib.hid hA
        clear hA
        generalize l.length = n at c1 hlen ⊢
        rw [nagg_eq]
        go_enter Tryz.func33, Tryz.ntmps33
        go_wp2_with fail
        go_ret
        refine ⟨rfl, ?_⟩
        (repeat (first | with_reducible exact Below.refl _ _ | with_reducible exact hBW | with_reducible refine Below.setCell ?_ ?_ _ | with_reducible refine Below.alloc ?_ ?_ _ | with_reducible refine belowN ?_ _ | with_reducible refine Below.drew ?_)); all_goals (first | omega | (dsimp only; omega) | ((repeat (first | with_reducible refine le_alloc ?_ | with_reducible refine le_setCell ?_ | with_reducible refine le_drew ?_ | with_reducible refine le_drewN ?_)); omega))
      by_cases c3 : 300 < o.v.t.size
      · rw [decide_eq_true (.inr (.inr c3)), Bool.true_or]
        have HA := Lib.hid hA
        clear hA
        generalize l.length = n at c1 hlen ⊢
        rw [nagg_eq]
        go_enter Tryz.func33, Tryz.ntmps33
        go_wp2_with fail
        go_ret
        refine ⟨rfl, ?_⟩
        (repeat (first | with_reducible exact Below.refl _ _ | with_reducible exact hBW | with_reducible refine Below.setCell ?_ ?_ _ | with_reducible refine Below.alloc ?_ ?_ _ | with_reducible refine belowN ?_ _ | with_reducible refine Below.drew ?_)); all_goals (first | omega | (dsimp only; omega) | ((repeat (first | with_reducible refine le_alloc ?_ | with_reducible refine le_setCell ?_ | with_reducible refine le_drew ?_ | with_reducible refine le_drewN ?_)); omega))
      rw [decide_eq_false (by omega), Bool.false_or]
      have c1' : l.length ≤ 400 := by omega
      clear c1
      have HA := Lib.hid hA
      obtain ⟨n, hn⟩ : ∃ n, l.length = n := ⟨_, rfl⟩
      rw [hn] at hlen c1' ⊢
      have HN := Lib.hid hn
      clear hA hn
      rw [nagg_eq]
      go_enter Tryz.func33, Tryz.ntmps33
      go_wp2_with fail
      clear dn c2 c3
      refine abs_world ?_
      intro W0 hW0
      have hB0 : Hid (Below w.heap.size w W0) := by rw [hW0]; unfold Hid; (repeat (first | with_reducible exact Below.refl _ _ | with_reducible exact hBW | with_reducible refine Below.setCell ?_ ?_ _ | with_reducible refine Below.alloc ?_ ?_ _ | with_reducible refine belowN ?_ _ | with_reducible refine Below.drew ?_)); all_goals (first | omega | (dsimp only; omega) | ((repeat (first | with_reducible refine le_alloc ?_ | with_reducible refine le_setCell ?_ | with_reducible refine le_drew ?_ | with_reducible refine le_drewN ?_)); omega))
      have g0 : W0.heap[w.heap.size]? = some (.cells (ncells o (.slice a n cap)).toArray 42) := by rw [hW0]; exact heap_alloc_new w _
      have G0 := Lib.hid g0
      have z0 : w.heap.size < W0.heap.size := lt_of_heap g0
      clear hW0 g0
      go_loopg [5] n (fun g i wr => ∃ (k : Nat), i = .int .i64 k ∧ g = n - k ∧ k ≤ n ∧ Hid ((l.take k).any (fun t => T.over t d) = false) ∧ Hid (Below W0.heap.size W0 wr))
      case atStart => exact ⟨0, rfl, rfl, Nat.zero_le _, rfl, Below.refl _ _⟩
      case round =>
        obtain ⟨k, rfl, rfl, hk, hE, hB⟩ := hrel
        have e0 := (hB.out.block w.heap.size z0).trans G0.out
        have x0 : wr.cell? ⟨w.heap.size, 21, none⟩ = some (.slice a n cap) := cell_of_heap e0 21
        have HBw : Hid (Below w.heap.size w wr) := hB0.out.trans (hB.out.mono hB0.out.size)
        have hwr : w.heap.size < wr.heap.size := lt_of_heap e0
        clear e0
        by_cases hlt : k < n
        · obtain ⟨t, ht⟩ : ∃ t, l[k]? = some t := ⟨_, List.getElem?_eq_getElem (by rw [HN.out]; exact hlt)⟩
          obtain ⟨b, off, rfl, hb, hall⟩ := T.at_mk.1 (HA.out.below HBw.out) (by rw [HN.out]; omega)
          obtain ⟨ta, tc, hc, hat⟩ := hall k t ht
          have RG := Lib.hid (range_nd hc)
          have HAT := Lib.hid hat
          have HT := Lib.hid ht
          have j1 : (0 : Int) ≤ (k : Int) := by omega
          have j2 : (k : Int) < (n : Int) := by omega
          clear hall hc hat ht
          have hts : t.size ≤ 2097152 := by have := HZ.out; have h2 := T.size_le (o := o) (List.mem_of_getElem? HT.out); omega
          have IHt := Lib.hid (IH.out t (List.mem_of_getElem? HT.out) hts d (by omega) _ wr ⟨ta, tc, rfl, HAT.out⟩)
          have YES : Hid (t.over d = true → l.any (fun t => T.over t d) = true) := fun h => List.any_eq_true.2 ⟨t, List.mem_of_getElem? HT.out, h⟩
          have NX : Hid (t.over d = false → (l.take (k + 1)).any (fun t => T.over t d) = false) := fun h => by
            rw [List.take_add_one, HT.out, List.any_append, hE.out]
            simp [h]
          have w1 : (d : Int) + 1 - 1 = (d : Int) := by omega
          clear hE hts
          go_wp2_with (refine wpList_load_mid rfl 42 (.tmp 37) rfl b (off + k * 22) rfl _ _ RG.out Tryz.underlying42 rfl info35 ?_)
          refine IHt.out.mono ?_
          rintro e2 w2 ⟨rfl, hb2⟩
          have HB2 : Hid (Below W0.heap.size W0 w2) := hB.out.trans (hb2.mono hB.out.size)
          clear IHt RG HAT HT x0 hB hb2
          cases hO : t.over d with
          | true =>
            have Y := Lib.hid (YES.out hO)
            clear YES NX
            go_wp2_with fail
            go_ret
            exact ⟨by rw [Y.out]; rfl, hB0.out.trans (HB2.out.mono hB0.out.size)⟩
          | false =>
            have Y := Lib.hid (NX.out hO)
            clear YES NX
            go_wp2_with fail
            go_roundg (n - (k + 1))
            case measure => omega
            case rel => exact ⟨k + 1, by go_num, rfl, by omega, Y, HB2⟩
        · have NX : Hid (l.any (fun t => T.over t d) = false) := by
            have := hE.out
            rwa [List.take_of_length_le (by rw [HN.out]; omega)] at this
          clear hE
          go_wp2_with fail
          go_ret
          exact ⟨by rw [NX.out]; rfl, HBw.out⟩
end Go.Proofs.YtlcglkanlhmmdaaGreat
/- ref06.Great; the law's great. -/
namespace Go.Proofs.YtlcglkanlhmmdaaGreat
open Go.RowKit
theorem ret_bool' {a b : Bool} (h : a = b) : Ending.returned (.bool a) = .returned (.bool b) := by rw [h]
def T.great (t : T) : Bool := t.over 40 || decide (400 < t.size)
set_option maxHeartbeats 4000000 in
set_option maxRecDepth 100000 in
theorem great_any (t : T) (hz : t.size ≤ 2097152) (x : Value) (w : World) (hx : IsT w x t) : Calls Tryz.prog 20 #[x] w fun e w' => e = .returned (.bool t.great) ∧ Below w.heap.size w w' := by
  obtain ⟨a, cap, rfl, hA⟩ := hx
  unfold T.great
  have HA := Lib.hid hA
  have HZ := Lib.hid hz
  have hz' : (t.size : Int) ≤ 2097152 := by omega
  clear hA hz
  generalize hl : t.l.length = n
  have HL := Lib.hid hl
  clear hl
  rw [nagg_eq]
  go_enter Tryz.func20, Tryz.ntmps20
  go_upto_region 1 with fail
  go_wp2_with (refine wpList_load_mid rfl 42 (.tmp 1) rfl w.heap.size 0 rfl [.int .i64 t.o.k, .int .i64 t.o.v.k, .int .i64 t.o.v.m, .int .i64 t.o.v.e, .string t.o.v.t, .bool t.o.v.b, .int .i64 t.o.v.f, .string t.o.nm, .int .i64 t.o.a.ra, .int .i64 t.o.a.rn, .int .i64 t.o.a.ca, .int .i64 t.o.a.cn, .bool t.o.a.fr, .bool t.o.a.fc, .int .i64 t.o.b.ra, .int .i64 t.o.b.rn, .int .i64 t.o.b.ca, .int .i64 t.o.b.cn, .bool t.o.b.fr, .bool t.o.b.fc, .int .i64 t.o.rows, .slice a n cap] _ (range_blk (o := t.o) (s := .slice a n cap) (heap_alloc_new w _)) Tryz.underlying42 rfl info35 ?_)
  refine (over_any t HZ.out 40 (by omega) _ _ ⟨a, cap, by rw [HL.out]; rfl, HA.out.below (below_alloc w _ _ (Nat.le_refl _)) t⟩).mono ?_
  rintro e w1 ⟨rfl, hb1⟩
  have hb1' : Below (w.heap.size + 1) (w.alloc (.cells (ncells t.o (.slice a n cap)).toArray 42)) w1 := by rw [World.size_alloc] at hb1; exact hb1
  have g1 : w1.heap[w.heap.size]? = some (.cells (ncells t.o (.slice a n cap)).toArray 42) := (hb1'.block _ (by omega)).trans (heap_alloc_new w _)
  have HB1 : Hid (Below w.heap.size w w1) := (below_alloc w _ _ (Nat.le_refl _)).trans (hb1'.mono (by omega))
  have G1 := Lib.hid (range_blk g1)
  clear hb1 hb1' g1
  cases ho : t.over 40 with
  | true =>
    go_wp2_with fail
    go_ret
    exact ⟨by rw [ho]; rfl, HB1.out⟩
  | false =>
    go_wp2_with (refine wpList_load_g rfl 42 (.tmp 1) rfl w.heap.size 0 rfl [.int .i64 t.o.k, .int .i64 t.o.v.k, .int .i64 t.o.v.m, .int .i64 t.o.v.e, .string t.o.v.t, .bool t.o.v.b, .int .i64 t.o.v.f, .string t.o.nm, .int .i64 t.o.a.ra, .int .i64 t.o.a.rn, .int .i64 t.o.a.ca, .int .i64 t.o.a.cn, .bool t.o.a.fr, .bool t.o.a.fc, .int .i64 t.o.b.ra, .int .i64 t.o.b.rn, .int .i64 t.o.b.ca, .int .i64 t.o.b.cn, .bool t.o.b.fr, .bool t.o.b.fc, .int .i64 t.o.rows, .slice a n cap] _ G1.out Tryz.underlying42 rfl info35 ?_)
    refine (nodes_any t HZ.out _ _ ⟨a, cap, by rw [HL.out]; rfl, HA.out.below HB1.out t⟩).mono ?_
    rintro e w2 ⟨⟨v, xs, rfl, hown, _⟩, hb2⟩
    have HB2 : Hid (Below w.heap.size w w2) := HB1.out.trans (hb2.mono HB1.out.size)
    obtain ⟨g, cap2, rfl⟩ := Joins.ownsRow_form hown (by cases t; rw [T.size_mk]; omega)
    clear hown hb2 G1
    go_wp2_with fail
    go_ret
    refine ⟨?_, HB2.out⟩
    rw [ho, Bool.false_or]
    refine ret_bool' ?_
    rw [Bool.eq_iff_iff]
    simp only [decide_eq_true_eq]
    omega
end Go.Proofs.YtlcglkanlhmmdaaGreat
/- Deeds; the law's great. -/
namespace Go.Proofs.YtlcglkanlhmmdaaGreat
open Go.RowKit
structure Deed where
  d : Int
  nm : ByteArray
  t : T
/-- Deeds, in memory. -/
def ActsAt (w : World) (a : Option Addr) (l : List Deed) : Prop := 0 < l.length → ∃ b off, a = some ⟨b, off, none⟩ ∧ b < w.heap.size ∧ ∀ (i : Nat) (x : Deed), l[i]? = some x →
  w.cell? ⟨b, off + i * 24, none⟩ = some (.int .u8 x.d) ∧ w.cell? ⟨b, off + i * 24 + 1, none⟩ = some (.string x.nm) ∧
  ∃ a' cap', (∀ j, j < 22 → w.cell? ⟨b, off + i * 24 + 2 + j, none⟩ = (ncells x.t.o (.slice a' x.t.l.length cap'))[j]?) ∧ x.t.At w a'
theorem ActsAt.below {w w' : World} {a : Option Addr} {l : List Deed} (h : ActsAt w a l) (hb : Below w.heap.size w w') : ActsAt w' a l := fun h0 => by
  obtain ⟨b, off, e, h1, h2⟩ := h h0
  refine ⟨b, off, e, Nat.lt_of_lt_of_le h1 hb.size, fun i x hx => ?_⟩
  obtain ⟨c0, c1, a', cap', h3, h4⟩ := h2 i x hx
  exact ⟨(hb.cell (p := ⟨b, _, none⟩) h1).trans c0, (hb.cell (p := ⟨b, _, none⟩) h1).trans c1, a', cap', fun j hj => (hb.cell (p := ⟨b, _, none⟩) h1).trans (h3 j hj), h4.below hb x.t⟩
def Deed.great (x : Deed) : Bool := x.t.great || decide (100 < x.nm.size)
def greatP (l : List Deed) : Bool := (l.take 31).any Deed.great || decide (30 < l.length)
theorem greatP_yes {l : List Deed} {k : Nat} {x : Deed} (h : l[k]? = some x) (hk : k ≤ 30) (hx : x.great = true) : greatP l = true := by
  unfold greatP
  have : (l.take 31).any Deed.great = true := List.any_eq_true.2 ⟨x, List.mem_of_getElem? (i := k) (by rw [List.getElem?_take_of_lt (by omega)]; exact h), hx⟩
  rw [this, Bool.true_or]
set_option maxHeartbeats 4000000 in
set_option maxRecDepth 100000 in
theorem greats_any (l : List Deed) (hz : ∀ x ∈ l, x.t.size ≤ 2097152 ∧ x.nm.size ≤ 2097152) (hlen : l.length ≤ 2097152) (a : Option Addr) (cap : Nat) (w : World) (hA : ActsAt w a l) :
    Calls Tryz.prog 5 #[.slice a l.length cap] w fun e w' => e = .returned (.bool (greatP l)) ∧ Below w.heap.size w w' := by
  have HZ := Lib.hid hz
  have HA := Lib.hid hA
  obtain ⟨n, hn⟩ : ∃ n, l.length = n := ⟨_, rfl⟩
  rw [hn] at hlen ⊢
  have HN := Lib.hid hn
  clear hz hA hn
  go_enter Tryz.func5, Tryz.ntmps5
  go_wp2_with fail
  go_loopg [3] n (fun g i wr => ∃ (k : Nat), i = .int .i64 k ∧ g = n - k ∧ k ≤ n ∧ k ≤ 31 ∧ Hid ((l.take k).any Deed.great = false) ∧ Hid (Below w.heap.size w wr))
  case atStart => exact ⟨0, rfl, rfl, Nat.zero_le _, Nat.zero_le _, rfl, Below.refl _ _⟩
  case round =>
    obtain ⟨k, rfl, rfl, hk, hk3, hE, hB⟩ := hrel
    by_cases hlt : k < n
    · by_cases h30 : k ≤ 30
      · obtain ⟨x, ht⟩ : ∃ t, l[k]? = some t := ⟨_, List.getElem?_eq_getElem (by rw [HN.out]; exact hlt)⟩
        obtain ⟨b, off, rfl, hb, hall⟩ := HA.out.below hB.out (by rw [HN.out]; omega)
        obtain ⟨c0, c1, ta, tc, hc, hat⟩ := hall k x ht
        have RG := Lib.hid (range_nd hc)
        have HAT := Lib.hid hat
        have HT := Lib.hid ht
        have hzx := HZ.out x (List.mem_of_getElem? ht)
        have hnm := hzx.2
        have GT := Lib.hid (great_any x.t hzx.1 _ wr ⟨ta, tc, rfl, hat⟩)
        have j1 : (0 : Int) ≤ (k : Int) := by omega
        have j2 : (k : Int) < (n : Int) := by omega
        have NX : Hid (x.great = false → (l.take (k + 1)).any Deed.great = false) := fun h => by
          rw [List.take_add_one, HT.out, List.any_append, hE.out]
          simp [h]
        clear hall hc hat ht hzx hE c0
        go_wp2_with (refine wpList_load_g rfl 42 (.tmp 17) rfl b (off + k * 24 + 2) rfl _ _ RG.out Tryz.underlying42 rfl info35 ?_)
        refine GT.out.mono ?_
        rintro e2 w2 ⟨rfl, hb2⟩
        have HB2 : Hid (Below w.heap.size w w2) := hB.out.trans (hb2.mono hB.out.size)
        have c1' := (hb2.cell (p := ⟨b, _, none⟩) hb).trans c1
        clear RG HAT GT hb2 c1 hB
        cases hg : x.t.great with
        | true =>
          have Y := Lib.hid (greatP_yes HT.out (by omega) (by unfold Deed.great; simp [hg]))
          go_wp2_with fail
          go_ret
          exact ⟨by rw [Y.out]; rfl, HB2.out⟩
        | false =>
          by_cases h100 : 100 < x.nm.size
          · have Y := Lib.hid (greatP_yes HT.out (by omega) (by unfold Deed.great; simp [h100]))
            go_wp2_with fail
            go_ret
            exact ⟨by rw [Y.out]; rfl, HB2.out⟩
          · have Y := Lib.hid (NX.out (by unfold Deed.great; rw [hg]; simp; omega))
            go_wp2_with fail
            go_roundg (n - (k + 1))
            case measure => omega
            case rel => exact ⟨k + 1, by go_num, rfl, by omega, by omega, Y, HB2⟩
      · have Y : Hid (greatP l = true) := by unfold Hid greatP; rw [decide_eq_true (by rw [HN.out]; omega), Bool.or_true]
        go_wp2_with fail
        go_ret
        refine ⟨by rw [Y.out]; refine ret_bool' ?_; simp; omega, hB.out⟩
    · by_cases h30 : 30 < n
      · have Y : Hid (greatP l = true) := by unfold Hid greatP; rw [decide_eq_true (by rw [HN.out]; omega), Bool.or_true]
        go_wp2_with fail
        go_ret
        refine ⟨by rw [Y.out]; refine ret_bool' ?_; simp; omega, hB.out⟩
      · have Y : Hid (greatP l = false) := by
          unfold Hid greatP
          rw [decide_eq_false (by rw [HN.out]; omega), Bool.or_false, List.take_of_length_le (by rw [HN.out]; omega)]
          have := hE.out
          rwa [List.take_of_length_le (by rw [HN.out]; omega)] at this
        clear hE
        go_wp2_with fail
        go_ret
        refine ⟨by rw [Y.out]; refine ret_bool' ?_; simp; omega, hB.out⟩
end Go.Proofs.YtlcglkanlhmmdaaGreat
