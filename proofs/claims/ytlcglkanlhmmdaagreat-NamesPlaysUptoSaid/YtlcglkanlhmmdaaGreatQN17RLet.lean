/- ref17: let, told. -/
import Derived.Deep.Upon
import Derived.Test.YtlcglkanlhmmdaaGreatQN17Tree
import Derived.Test.YtlcglkanlhmmdaaGreatQN17Awake
namespace Go.Proofs.YtlcglkanlhmmdaaGreat
open Go.RowKit
set_option maxHeartbeats 4000000 in
set_option maxRecDepth 100000 in
theorem let41_any (o : Nd) (a : Option Addr) (n cap : Nat) (w : World) (hn : n ≤ 2097152) :
    Calls Tryz.prog 59 #[nagg o (.slice a n cap)] w fun e w' => e = .returned (.bool (decide (o.k = 4) && (o.nm.toList == [76, 69, 84]) && decide (3 ≤ n) && decide (n % 2 = 1))) ∧ Below w.heap.size w w' := by
  rw [nagg_eq]
  go_enter Tryz.func59, Tryz.ntmps59
  by_cases h4 : o.k = 4
  case neg =>
    have e4 : (o.k == 4) = false := by simp [h4]
    have H4 : Hid (decide (o.k = 4) = false) := decide_eq_false h4
    clear h4
    go_wp2_with fail
    go_ret
    refine ⟨by simp only [H4.out, Bool.false_and]; all_goals rfl, ?_⟩
    (repeat (first | with_reducible exact Below.refl _ _ | with_reducible exact hBW | with_reducible refine Below.setCell ?_ ?_ _ | with_reducible refine Below.alloc ?_ ?_ _ | with_reducible refine belowN ?_ _ | with_reducible refine Below.drew ?_)); all_goals (first | omega | (dsimp only; omega) | ((repeat (first | with_reducible refine le_alloc ?_ | with_reducible refine le_setCell ?_ | with_reducible refine le_drew ?_ | with_reducible refine le_drewN ?_)); omega))
  have e4 : (o.k == 4) = true := by simp [h4]
  have H4 : Hid (decide (o.k = 4) = true) := decide_eq_true h4
  clear h4
  cases hL : (o.nm.toList == [76, 69, 84]) with
  | false =>
    go_wp2_with fail
    go_ret
    refine ⟨by simp only [Bool.false_and, Bool.and_false]; all_goals rfl, ?_⟩
    (repeat (first | with_reducible exact Below.refl _ _ | with_reducible exact hBW | with_reducible refine Below.setCell ?_ ?_ _ | with_reducible refine Below.alloc ?_ ?_ _ | with_reducible refine belowN ?_ _ | with_reducible refine Below.drew ?_)); all_goals (first | omega | (dsimp only; omega) | ((repeat (first | with_reducible refine le_alloc ?_ | with_reducible refine le_setCell ?_ | with_reducible refine le_drew ?_ | with_reducible refine le_drewN ?_)); omega))
  | true =>
    by_cases h3 : 3 ≤ n
    case neg =>
      have e3 : decide ((3 : Int) ≤ (n : Int)) = false := by simp; omega
      have H3 : Hid (decide (3 ≤ n) = false) := decide_eq_false h3
      clear h3
      go_wp2_with fail
      go_ret
      refine ⟨by simp only [H3.out, Bool.false_and, Bool.and_false]; all_goals rfl, ?_⟩
      (repeat (first | with_reducible exact Below.refl _ _ | with_reducible exact hBW | with_reducible refine Below.setCell ?_ ?_ _ | with_reducible refine Below.alloc ?_ ?_ _ | with_reducible refine belowN ?_ _ | with_reducible refine Below.drew ?_)); all_goals (first | omega | (dsimp only; omega) | ((repeat (first | with_reducible refine le_alloc ?_ | with_reducible refine le_setCell ?_ | with_reducible refine le_drew ?_ | with_reducible refine le_drewN ?_)); omega))
    have e3 : decide ((3 : Int) ≤ (n : Int)) = true := by simp; omega
    have H3 : Hid (decide (3 ≤ n) = true) := decide_eq_true h3
    clear h3
    by_cases h1 : n % 2 = 1
    case neg =>
      have e1 : ((n : Int) % 2 == 1) = false := by simp; omega
      have e1' : ((n : Int).tmod 2 == 1) = false := by rw [Int.tmod_eq_emod_of_nonneg (Int.natCast_nonneg n)]; exact e1
      have H1 : Hid (decide (n % 2 = 1) = false) := decide_eq_false h1
      clear h1
      go_wp2_with fail
      go_ret
      refine ⟨by simp only [H1.out, Bool.and_false]; all_goals rfl, ?_⟩
      (repeat (first | with_reducible exact Below.refl _ _ | with_reducible exact hBW | with_reducible refine Below.setCell ?_ ?_ _ | with_reducible refine Below.alloc ?_ ?_ _ | with_reducible refine belowN ?_ _ | with_reducible refine Below.drew ?_)); all_goals (first | omega | (dsimp only; omega) | ((repeat (first | with_reducible refine le_alloc ?_ | with_reducible refine le_setCell ?_ | with_reducible refine le_drew ?_ | with_reducible refine le_drewN ?_)); omega))
    have e1 : ((n : Int) % 2 == 1) = true := by simp; omega
    have e1' : ((n : Int).tmod 2 == 1) = true := by rw [Int.tmod_eq_emod_of_nonneg (Int.natCast_nonneg n)]; exact e1
    have H1 : Hid (decide (n % 2 = 1) = true) := decide_eq_true h1
    clear h1
    go_wp2_with fail
    go_ret
    refine ⟨by simp only [H4.out, H3.out, H1.out, Bool.and_true]; all_goals rfl, ?_⟩
    (repeat (first | with_reducible exact Below.refl _ _ | with_reducible exact hBW | with_reducible refine Below.setCell ?_ ?_ _ | with_reducible refine Below.alloc ?_ ?_ _ | with_reducible refine belowN ?_ _ | with_reducible refine Below.drew ?_)); all_goals (first | omega | (dsimp only; omega) | ((repeat (first | with_reducible refine le_alloc ?_ | with_reducible refine le_setCell ?_ | with_reducible refine le_drew ?_ | with_reducible refine le_drewN ?_)); omega))
/-- Does the i-th below only tell a name? -/
def toldP (o : Nd) (l : List T) (i : Nat) : Bool := tlP o l i && decide ((l[i]?.map fun c => c.o.k) = some 7)
set_option maxHeartbeats 4000000 in
set_option maxRecDepth 100000 in
theorem told_any (o : Nd) (l : List T) (a : Option Addr) (cap i : Nat) (hl : l.length ≤ 2097152) (hi : i < l.length) (w : World) (hA : (T.mk o l).At w a) :
    Calls Tryz.prog 43 #[nagg o (.slice a l.length cap), .int .i64 (i : Int)] w fun e w' => e = .returned (.bool (toldP o l i)) ∧ Below w.heap.size w w' := by
  have HA := Lib.hid hA
  obtain ⟨n, hn⟩ : ∃ n, l.length = n := ⟨_, rfl⟩
  rw [hn] at hl hi ⊢
  have HN := Lib.hid hn
  clear hA hn
  rw [nagg_eq]
  go_enter Tryz.func43, Tryz.ntmps43
  go_upto_region 1 with fail
  refine abs_world ?_
  intro W0 hW0
  have hB0 : Hid (Below w.heap.size w W0) := by rw [hW0]; unfold Hid; (repeat (first | with_reducible exact Below.refl _ _ | with_reducible exact hBW | with_reducible refine Below.setCell ?_ ?_ _ | with_reducible refine Below.alloc ?_ ?_ _ | with_reducible refine belowN ?_ _ | with_reducible refine Below.drew ?_)); all_goals (first | omega | (dsimp only; omega) | ((repeat (first | with_reducible refine le_alloc ?_ | with_reducible refine le_setCell ?_ | with_reducible refine le_drew ?_ | with_reducible refine le_drewN ?_)); omega))
  have g0 : W0.heap[w.heap.size]? = some (.cells (ncells o (.slice a n cap)).toArray 42) := by rw [hW0]; exact heap_alloc_new w _
  have G0 := Lib.hid g0
  have R0 := Lib.hid (range_blk g0)
  clear hW0 g0
  go_wp2_with (refine wpList_load_g rfl 42 (.tmp 2) rfl w.heap.size 0 rfl _ _ R0.out Tryz.underlying42 rfl info35 ?_)
  refine (let41_any o a n cap W0 hl).mono ?_
  rintro e w1 ⟨rfl, hb1⟩
  have HB1 : Hid (Below w.heap.size w w1) := hB0.out.trans (hb1.mono hB0.out.size)
  have g1 := (hb1.block _ (lt_of_heap G0.out)).trans G0.out
  have x21 : w1.cell? ⟨w.heap.size, 21, none⟩ = some (.slice a n cap) := cell_of_heap g1 21
  have z1 := lt_of_heap g1
  have HL : Hid (letP o l = (decide (o.k = 4) && (o.nm.toList == [76, 69, 84]) && decide (3 ≤ n) && decide (n % 2 = 1))) := by unfold Hid letP; rw [HN.out]
  rw [← HL.out]
  clear hb1 g1 HL R0 G0
  cases hlet : letP o l with
  | false =>
    have HL := Lib.hid hlet
    have Y : Hid (toldP o l i = false) := by unfold Hid toldP tlP; rw [HL.out]; rfl
    go_wp2_with fail
    go_ret
    exact ⟨by rw [Y.out]; exact rfl, HB1.out⟩
  | true =>
    have HL := Lib.hid hlet
    have j1 : (0 : Int) ≤ (i : Int) := by omega
    by_cases h2 : i % 2 = 0
    case neg =>
      have e2 : ((i : Int) % 2 == 0) = false := by simp; omega
      have e2' : ¬ (i : Int) % 2 = 0 := by omega
      have H2 : Hid (decide (i % 2 = 0) = false) := decide_eq_false h2
      clear h2
      have Y : Hid (toldP o l i = false) := by unfold Hid toldP tlP; rw [HL.out]; rw [H2.out]; rfl
      go_wp2_with fail
      go_ret
      exact ⟨by rw [Y.out]; exact rfl, HB1.out⟩
    have e2 : ((i : Int) % 2 == 0) = true := by simp; omega
    have e2' : (i : Int) % 2 = 0 := by omega
    have H2 : Hid (decide (i % 2 = 0) = true) := decide_eq_true h2
    clear h2
    by_cases h3 : i + 1 < n
    case neg =>
      have e3 : decide ((i : Int) < (n : Int) - 1) = false := by simp; omega
      have e3' : ¬ (i : Int) < (n : Int) - 1 := by omega
      have H3 : Hid (decide (i + 1 < l.length) = false) := decide_eq_false (by rw [HN.out]; exact h3)
      clear h3
      have Y : Hid (toldP o l i = false) := by unfold Hid toldP tlP; rw [HL.out]; rw [H2.out, H3.out]; rfl
      go_wp2_with fail
      go_ret
      exact ⟨by rw [Y.out]; exact rfl, HB1.out⟩
    have e3 : decide ((i : Int) < (n : Int) - 1) = true := by simp; omega
    have e3' : (i : Int) < (n : Int) - 1 := by omega
    have H3 : Hid (decide (i + 1 < l.length) = true) := decide_eq_true (by rw [HN.out]; exact h3)
    clear h3
    obtain ⟨g, go, rfl, hg, hall⟩ := T.at_mk.1 (HA.out.below HB1.out) (by rw [HN.out]; omega)
    obtain ⟨t, ht⟩ : ∃ t, l[i]? = some t := ⟨_, List.getElem?_eq_getElem (by rw [HN.out]; exact hi)⟩
    obtain ⟨ta, tc, hc, _⟩ := hall i t ht
    have c0 : w1.cell? ⟨g, go + i * 22, none⟩ = some (.int .i64 t.o.k) := hc 0 (by omega)
    have HTL := Lib.hid ht
    have j2 : (i : Int) < (n : Int) := by omega
    clear hall hc ht
    by_cases h7 : t.o.k = 7
    · have e7 : (t.o.k == 7) = true := by simp [h7]
      have H7 : Hid (decide ((l[i]?.map fun c => c.o.k) = some 7) = true) := by unfold Hid; rw [HTL.out]; simp [h7]
      clear h7
      have Y : Hid (toldP o l i = true) := by unfold Hid toldP tlP; rw [HL.out]; rw [H2.out, H3.out, H7.out]; rfl
      go_wp2_with fail
      go_ret
      exact ⟨by rw [Y.out]; exact rfl, HB1.out⟩
    · have e7 : (t.o.k == 7) = false := by simp [h7]
      have H7 : Hid (decide ((l[i]?.map fun c => c.o.k) = some 7) = false) := by unfold Hid; rw [HTL.out]; simp [h7]
      clear h7
      have Y : Hid (toldP o l i = false) := by unfold Hid toldP tlP; rw [HL.out]; rw [H2.out, H3.out, H7.out]; rfl
      go_wp2_with fail
      go_ret
      exact ⟨by rw [Y.out]; exact rfl, HB1.out⟩
end Go.Proofs.YtlcglkanlhmmdaaGreat
/- append of a slice, of no element too, to a row of the call's own. -/
namespace Go.Proofs.YtlcglkanlhmmdaaGreat
open Go.RowKit
section
variable {P : Program} {w : World} {o : Oper} {a : Act} {Q : Exit → Act → World → Prop}
theorem wp_append_src {K : Act → World → Prop} (s x : Operand) (t : TypeId)
    (ho : o.op = .call { callee := .builtin .append, args := #[s, x], argTypes := #[t, t] })
    (base : Nat) (e : TypeId) (i : TypeInfo) (z : Value) (size bytes : Nat) (ht : P.underlying t = some (.slice e)) (hi : P.info? e = some i) (hz : i.zero = some z)
    (hsize : i.size = size) (hby : i.bytes = bytes) (hzs : z.cells.size = size) (hsz : 0 < size)
    (v : Value) (n : Nat) (xs : List Value) (hs : a.eval s = v) (hown : w.ownsRow base e size v n xs)
    (sx : Option Addr) (m c : Nat) (news : List Value) (hx : a.eval x = .slice sx m c) (hl : news.length = m * size) (hsrc : 0 < m → ∃ ad, sx = some ad ∧ ∀ j u, news[j]? = some u → w.cell? (ad.add j) = some u) (h1 : ∀ u ∈ news, u.oneCell' = true)
    (h63 : n + m ≤ maxLen) (hbytes : (n + m) * bytes ≤ 140737488355328) (hbase : base ≤ w.heap.size)
    (h : ∀ v' w', w'.ownsRow base e size v' (n + m) (xs ++ news) → w.grownBy w' v.ownBlock → K (a.put o.dst v') w') : o.wp P a w K Q := by
  by_cases hm : 0 < m
  · obtain ⟨ad, rfl, hn⟩ := hsrc hm
    exact wp_append_at s x t ho base e i z size bytes ht hi hz hsize hby hzs hsz v n xs hs hown ad m c news hx hl hn h1 h63 hbytes hbase fun v' w' p1 p2 _ => h v' w' p1 p2
  · have hm0 : m = 0 := by omega
    subst hm0
    have hnil : news = [] := List.length_eq_zero_iff.1 (by rw [hl]; exact Nat.zero_mul _)
    subst hnil
    have hS : Src P i.size t (.slice sx 0 c) 0 [] w := by
      cases sx with
      | none => exact Src.ofNil w ht c
      | some ad => exact Src.ofSlice w ht ad 0 c [] (by simp) (by simp) (by simp)
    have hform : ∃ b cap, v = .slice b n cap ∧ n ≤ cap := by
      rcases hown.2 with ⟨h2, h3⟩ | ⟨g, cap, cur, h2, _, _, h3, _⟩
      · exact ⟨none, 0, by rw [h2, h3], by omega⟩
      · exact ⟨_, _, h2, h3⟩
    obtain ⟨b, cap, rfl, hle⟩ := hform
    have hr := run_append_nothing w t t o.type e i ht hi b n cap hle (.slice sx 0 c) hS
    unfold Oper.wp execOp
    simp only [ho, resolve, invoke, builtin, Sem.run_bind, Sem.run_pure, Result.andThen_ok, List.map_toArray, List.map_cons, List.map_nil, hs, hx, hr]
    exact h _ w (by simpa using hown) ⟨rfl, rfl, rfl, Nat.le_refl _, fun _ _ _ => rfl⟩
theorem wpList_append_src {ops : Array Oper} {rest : List Oper} (hw : Region.wanted o (yielded ops a.tmps) = true) (s x : Operand) (t : TypeId)
    (ho : o.op = .call { callee := .builtin .append, args := #[s, x], argTypes := #[t, t] })
    (base : Nat) (e : TypeId) (i : TypeInfo) (z : Value) (size bytes : Nat) (ht : P.underlying t = some (.slice e)) (hi : P.info? e = some i) (hz : i.zero = some z)
    (hsize : i.size = size) (hby : i.bytes = bytes) (hzs : z.cells.size = size) (hsz : 0 < size)
    (v : Value) (n : Nat) (xs : List Value) (hs : a.eval s = v) (hown : w.ownsRow base e size v n xs)
    (sx : Option Addr) (m c : Nat) (news : List Value) (hx : a.eval x = .slice sx m c) (hl : news.length = m * size) (hsrc : 0 < m → ∃ ad, sx = some ad ∧ ∀ j u, news[j]? = some u → w.cell? (ad.add j) = some u) (h1 : ∀ u ∈ news, u.oneCell' = true)
    (h63 : n + m ≤ maxLen) (hbytes : (n + m) * bytes ≤ 140737488355328) (hbase : base ≤ w.heap.size)
    (h : ∀ v' w', w'.ownsRow base e size v' (n + m) (xs ++ news) → w.grownBy w' v.ownBlock → wpList P ops Q rest (a.put o.dst v') w') : wpList P ops Q (o :: rest) a w :=
  wpList_step fun K hK => by
    rw [if_pos hw]
    exact wp_append_src s x t ho base e i z size bytes ht hi hz hsize hby hzs hsz v n xs hs hown sx m c news hx hl hsrc h1 h63 hbytes hbase fun v' w' p1 p2 => hK _ _ (h v' w' p1 p2)
end
end Go.Proofs.YtlcglkanlhmmdaaGreat
/- ref17: bound. -/
namespace Go.Proofs.YtlcglkanlhmmdaaGreat
open Go.RowKit
theorem info9z : (Tryz.prog.info? 9).map (fun i => (i.zero, i.size, i.bytes)) = some (some (.string ⟨#[]⟩), 1, 16) := by kernel_rfl
/-- A row of texts of the call's own. -/
def StrO (B : Nat) (w : World) (v : Value) (l : List ByteArray) : Prop := w.ownsRow B 9 1 v l.length (l.map Value.string)
theorem StrO.strs {B : Nat} {w : World} {v : Value} {l : List ByteArray} (h : StrO B w v l) : ∃ a cap, v = .slice a l.length cap ∧ StrsAt w a l := by
  obtain ⟨a, cap, rfl⟩ := own_slice h
  refine ⟨a, cap, rfl, fun h0 => ?_⟩
  obtain ⟨g, cap', hv⟩ : ∃ g cap', Value.slice a l.length cap = .slice (some ⟨g, 0, none⟩) l.length cap' := by
    rcases h.2 with ⟨_, h1⟩ | ⟨g, cap', cur, h1, _⟩
    · omega
    · exact ⟨g, cap', h1⟩
  cases hv
  refine ⟨g, 0, rfl, (own_lt h).2, fun i x hx => ?_⟩
  have := own_cells h i (.string x) (by rw [List.getElem?_map, hx]; rfl)
  rw [Addr.add_mid] at this
  exact this
theorem StrO.below {B : Nat} {w w' : World} {v : Value} {l : List ByteArray} (h : StrO B w v l) (hb : Below w.heap.size w w') : StrO B w' v l := own_below h hb (Nat.le_refl _)
theorem StrO.nil (B : Nat) (w : World) : StrO B w (.slice none 0 0) [] := ⟨rfl, .inl ⟨rfl, rfl⟩⟩
theorem own_base_le {w : World} {B B' n : Nat} {v : Value} {xs : List Value} {e : TypeId} {size : Nat} (h : w.ownsRow B e size v n xs) (hB : B' ≤ B) : w.ownsRow B' e size v n xs := by
  refine ⟨h.1, ?_⟩
  rcases h.2 with h2 | ⟨g, cap, cur, h2, h3, h4⟩
  · exact .inl h2
  · exact .inr ⟨g, cap, cur, h2, Nat.le_trans hB h3, h4⟩
theorem str_one (l : List ByteArray) : ∀ u ∈ l.map Value.string, u.oneCell' = true := fun u hu => by
  obtain ⟨s, _, rfl⟩ := List.mem_map.1 hu
  rfl
theorem grown_below {B : Nat} {w w' : World} {v : Value} {n : Nat} {xs : List Value} {e : TypeId} {size : Nat} (hg : w.grownBy w' v.ownBlock) (ho : w.ownsRow B e size v n xs) (hB : B ≤ w.heap.size) : Below B w w' := (Below.refl B w).grown hg hB (own_base ho)
theorem bnL_two {l : List T} {k : Nat} (h : k % 2 = 0) : bnL l (k + 2) = bnL l k ++ (if decide ((l[k]?.map fun c => c.o.k) = some 7) = true then [((l[k]?.map fun c => c.o.nm).getD ⟨#[]⟩)] else []) := by
  rw [bnL, bnL, if_neg (by omega : ¬ (k % 2 = 1 ∧ _)), List.append_nil, Nat.add_sub_cancel]
  have : (k + 1) % 2 = 1 := by omega
  simp only [this, true_and, decide_eq_true_eq]
set_option maxHeartbeats 4000000 in
set_option maxRecDepth 100000 in
theorem bound_any (o : Nd) (l : List T) (a : Option Addr) (cap i : Nat) (hl : l.length ≤ 2097152) (hi : i < l.length) (ar : List ByteArray) (har : ar.length ≤ 4194304) (aa : Option Addr) (ac : Nat) (w : World) (hA : (T.mk o l).At w a) (hS : StrsAt w aa ar) :
    Calls Tryz.prog 44 #[nagg o (.slice a l.length cap), .int .i64 (i : Int), .slice aa ar.length ac] w fun e w' => ∃ v, e = .returned v ∧ StrO w.heap.size w' v (ar ++ bnP o l i) ∧ Below w.heap.size w w' := by
  have HA := Lib.hid hA
  have HS := Lib.hid hS
  obtain ⟨n, hn⟩ : ∃ n, l.length = n := ⟨_, rfl⟩
  rw [hn] at hl hi ⊢
  have HN := Lib.hid hn
  obtain ⟨i0, hii, hz0, hz1, hz2⟩ := info_parts info9z
  have HI := Lib.hid (And.intro hii (And.intro hz0 (And.intro hz1 hz2)))
  clear hA hS hn hii hz0 hz1 hz2
  rw [nagg_eq]
  go_enter Tryz.func44, Tryz.ntmps44
  go_upto_region 1 with fail
  refine abs_world ?_
  intro W0 hW0
  have hB0 : Hid (Below w.heap.size w W0) := by rw [hW0]; unfold Hid; (repeat (first | with_reducible exact Below.refl _ _ | with_reducible exact hBW | with_reducible refine Below.setCell ?_ ?_ _ | with_reducible refine Below.alloc ?_ ?_ _ | with_reducible refine belowN ?_ _ | with_reducible refine Below.drew ?_)); all_goals (first | omega | (dsimp only; omega) | ((repeat (first | with_reducible refine le_alloc ?_ | with_reducible refine le_setCell ?_ | with_reducible refine le_drew ?_ | with_reducible refine le_drewN ?_)); omega))
  have g0 : W0.heap[w.heap.size]? = some (.cells (ncells o (.slice a n cap)).toArray 42) := by rw [hW0]; exact heap_alloc_new w _
  have G0 := Lib.hid g0
  have hz0 : Hid (w.heap.size < W0.heap.size) := lt_of_heap g0
  clear hW0 g0
  have h0 : StrO (w.heap.size + 1) W0 (.slice none 0 0) [] := StrO.nil _ _
  have hsrc : Hid (0 < ar.length → ∃ ad, aa = some ad ∧ ∀ j u, (ar.map Value.string)[j]? = some u → W0.cell? (ad.add j) = some u) := fun hp => by
    obtain ⟨b, off, e, hb, h2⟩ := HS.out hp
    refine ⟨_, e, fun j u hu => ?_⟩
    rw [List.getElem?_map] at hu
    cases hx : ar[j]? with
    | none => rw [hx] at hu; cases hu
    | some x =>
      rw [hx] at hu
      cases hu
      rw [Addr.add_mid]
      exact (hB0.out.cell (p := ⟨b, _, none⟩) hb).trans (h2 j x hx)
  go_upto_region 3 with (refine wpList_append_src rfl (.tmp 9) (.tmp 10) 66 rfl (w.heap.size + 1) 9 i0 _ 1 16 Tryz.underlying66 HI.out.1 HI.out.2.1 HI.out.2.2.1 HI.out.2.2.2 rfl (by decide) (.slice none 0 0) 0 [] rfl h0 aa ar.length ac (ar.map Value.string) rfl (by simp) hsrc.out (str_one ar) (by unfold maxLen; omega) (by omega) (by have := hz0.out; omega) ?_; intro v1 W1 ho1 hg1)
  have hO1 : Hid (StrO (w.heap.size + 1) W1 v1 ar) := by
    have : W1.ownsRow (w.heap.size + 1) 9 1 v1 (0 + ar.length) ([] ++ ar.map Value.string) := ho1
    rw [Nat.zero_add, List.nil_append] at this
    exact this
  have hb1 : Hid (Below (w.heap.size + 1) W0 W1) := (Below.refl _ W0).grown hg1 (by have := hz0.out; omega) (fun r h => by cases h)
  have hB1 : Hid (Below w.heap.size w W1) := hB0.out.trans (hb1.out.mono (Nat.le_succ _))
  have G1 : Hid (W1.heap[w.heap.size]? = some (.cells (ncells o (.slice a n cap)).toArray 42)) := (hb1.out.block _ (Nat.lt_succ_self _)).trans G0.out
  have R1 := Lib.hid (range_blk G1.out)
  clear ho1 hg1 h0 hsrc hb1 hB0 G0 hz0
  go_wp2_with (refine wpList_load_g rfl 42 (.tmp 3) rfl w.heap.size 0 rfl _ _ R1.out Tryz.underlying42 rfl info35 ?_)
  refine (let41_any o a n cap W1 hl).mono ?_
  rintro e w2 ⟨rfl, hb2⟩
  have HB2 : Hid (Below w.heap.size w w2) := hB1.out.trans (hb2.mono hB1.out.size)
  have O2 : Hid (StrO (w.heap.size + 1) w2 v1 ar) := hO1.out.below hb2
  have G2 : Hid (w2.heap[w.heap.size]? = some (.cells (ncells o (.slice a n cap)).toArray 42)) := (hb2.block _ (lt_of_heap G1.out)).trans G1.out
  have HL : Hid (letP o l = (decide (o.k = 4) && (o.nm.toList == [76, 69, 84]) && decide (3 ≤ n) && decide (n % 2 = 1))) := by unfold Hid letP; rw [HN.out]
  rw [← HL.out]
  clear hb2 HL hO1 hB1 G1 R1
  cases hlet : letP o l with
  | false =>
    have BN : Hid (bnP o l i = []) := by unfold Hid bnP; rw [hlet]; rfl
    clear hlet
    go_wp2_with fail
    go_ret
    exact ⟨_, rfl, by rw [BN.out, List.append_nil]; exact own_base_le O2.out (Nat.le_succ _), HB2.out⟩
  | true =>
    have BN : Hid (∀ i, bnP o l i = bnL l i) := fun i => by unfold bnP; rw [hlet]; rfl
    have HLT := Lib.hid hlet
    clear hlet
    obtain ⟨a1, c1, rfl⟩ := own_slice O2.out
    go_wp2_with fail
    go_loopg [7, 8] n (fun gh s7 s8 wr => ∃ k : Nat, s8 = .int .i64 (k : Int) ∧ gh = n - k ∧ k % 2 = 0 ∧ k ≤ i ∧ Hid (Below w.heap.size w wr ∧ wr.heap[w.heap.size]? = some (.cells (ncells o (.slice a n cap)).toArray 42) ∧ StrO (w.heap.size + 1) wr s7 (ar ++ bnL l k)))
    case atStart => exact ⟨0, rfl, rfl, rfl, Nat.zero_le _, HB2.out, G2.out, by show StrO _ _ _ (ar ++ []); rw [List.append_nil]; exact O2.out⟩
    case round =>
      obtain ⟨k, rfl, rfl, hk2, hki, hI⟩ := hrel
      obtain ⟨a2, c2, rfl⟩ := own_slice hI.out.2.2
      have hlen : (ar ++ bnL l k).length ≤ ar.length + k := by rw [List.length_append]; have := bnL_length l k; omega
      by_cases hlt : k + 1 < i
      · have RR := Lib.hid (range_blk hI.out.2.1)
        have e1 : decide ((k : Int) + 1 < (i : Int)) = true := by simp; omega
        have TLD := Lib.hid (told_any o l a cap k (by rw [HN.out]; exact hl) (by rw [HN.out]; omega) wr (HA.out.below hI.out.1))
        rw [HN.out] at TLD
        go_wp2_with (refine wpList_load_g rfl 42 (.tmp 3) rfl w.heap.size 0 rfl _ _ RR.out Tryz.underlying42 rfl info35 ?_)
        refine TLD.out.mono ?_
        rintro e w3 ⟨rfl, hb3⟩
        have hsz : w.heap.size < wr.heap.size := lt_of_heap hI.out.2.1
        have HB3 : Hid (Below w.heap.size w w3) := hI.out.1.trans (hb3.mono hI.out.1.size)
        have O3 : Hid (StrO (w.heap.size + 1) w3 (.slice a2 (ar ++ bnL l k).length c2) (ar ++ bnL l k)) := hI.out.2.2.below hb3
        have G3 : Hid (w3.heap[w.heap.size]? = some (.cells (ncells o (.slice a n cap)).toArray 42)) := (hb3.block _ hsz).trans hI.out.2.1
        have TP : Hid (toldP o l k = decide ((l[k]?.map fun c => c.o.k) = some 7)) := by
          unfold Hid toldP tlP
          rw [HLT.out]
          have h1 : decide (k % 2 = 0) = true := by simp [hk2]
          have h2 : decide (k + 1 < l.length) = true := by rw [HN.out]; simp; omega
          rw [h1, h2]
          rfl
        clear hb3 RR TLD
        cases htp : toldP o l k with
        | false =>
          have HT := Lib.hid htp
          clear htp
          have BE : Hid (bnL l (k + 2) = bnL l k) := by
            rw [TP.out] at HT
            unfold Hid
            rw [bnL_two hk2, HT.out]
            exact List.append_nil _
          go_wp2_with fail
          go_roundg (n - (k + 2))
          case measure => omega
          case rel => exact ⟨k + 2, by go_num, rfl, by omega, by omega, HB3.out, G3.out, by rw [BE.out, ← List.length_append]; exact O3.out⟩
        | true =>
          have HT := Lib.hid htp
          clear htp
          obtain ⟨ck, hck⟩ : ∃ c, l[k]? = some c := ⟨_, List.getElem?_eq_getElem (by rw [HN.out]; omega)⟩
          have BE : Hid (bnL l (k + 2) = bnL l k ++ [ck.o.nm]) := by
            rw [TP.out] at HT
            unfold Hid
            rw [bnL_two hk2, HT.out, hck]
            rfl
          obtain ⟨g, go, rfl, hg, hall⟩ := T.at_mk.1 (HA.out.below HB3.out) (by rw [HN.out]; omega)
          obtain ⟨ta, tc, hc, _⟩ := hall k ck hck
          have c0 : w3.cell? ⟨g, go + k * 22 + 7, none⟩ = some (.string ck.o.nm) := hc 7 (by omega)
          have x21 : w3.cell? ⟨w.heap.size, 21, none⟩ = some (.slice (some ⟨g, go, none⟩) n cap) := cell_of_heap G3.out 21
          have j1 : (0 : Int) ≤ (k : Int) := by omega
          have j2 : (k : Int) < (n : Int) := by omega
          have hl3 : (ar ++ bnL l k).length = ar.length + (bnL l k).length := List.length_append
          have O3' : w3.ownsRow (w.heap.size + 1) 9 1 (.slice a2 (ar.length + (bnL l k).length) c2) (ar.length + (bnL l k).length) ((ar ++ bnL l k).map Value.string) := hl3 ▸ O3.out
          have O3A := Lib.hid (O3'.alloc (.cells #[.string ck.o.nm] 9))
          clear O3'
          have hz3 : Hid (w.heap.size < w3.heap.size) := lt_of_heap G3.out
          clear hall hc hg
          go_wp2_with (refine wpList_append_src rfl (.tmp 25) (.tmp 32) 66 rfl (w.heap.size + 1) 9 i0 _ 1 16 Tryz.underlying66 HI.out.1 HI.out.2.1 HI.out.2.2.1 HI.out.2.2.2 rfl (by decide) (.slice a2 (ar.length + (bnL l k).length) c2) (ar.length + (bnL l k).length) ((ar ++ bnL l k).map Value.string) rfl O3A.out (some ⟨w3.heap.size, 0, none⟩) 1 1 [.string ck.o.nm] rfl rfl (fun _ => ⟨_, rfl, fun j u hu => cells_new w3 #[.string ck.o.nm] 9 j u hu⟩) (by simp [Value.oneCell']) (by unfold maxLen; omega) (by omega) (by have := hz3.out; simp; omega) ?_; intro v4 W4 ho4 hg4)
          have hb4 : Below (w.heap.size + 1) w3 W4 := ((Below.refl _ w3).alloc (by have := hz3.out; omega) _).grown hg4 (by have := hz3.out; simp; omega) (own_base O3A.out)
          have HB4 : Hid (Below w.heap.size w W4) := HB3.out.trans (hb4.mono (Nat.le_succ _))
          have G4 : Hid (W4.heap[w.heap.size]? = some (.cells (ncells o (.slice (some ⟨g, go, none⟩) n cap)).toArray 42)) := (hb4.block _ (Nat.lt_succ_self _)).trans G3.out
          have O4 : Hid (StrO (w.heap.size + 1) W4 v4 (ar ++ bnL l (k + 2))) := by
            rw [BE.out, ← List.append_assoc]
            have : W4.ownsRow (w.heap.size + 1) 9 1 v4 (ar.length + (bnL l k).length + 1) ((ar ++ bnL l k).map Value.string ++ [.string ck.o.nm]) := ho4
            unfold Hid StrO
            rw [List.length_append, hl3, List.map_append]
            exact this
          clear hb4 ho4 hg4
          go_roundg (n - (k + 2))
          case measure => omega
          case rel => exact ⟨k + 2, by go_num, rfl, by omega, by omega, HB4.out, G4.out, O4.out⟩
      · have e1 : decide ((k : Int) + 1 < (i : Int)) = false := by simp; omega
        have BE : Hid (bnL l k = bnP o l i) := by
          unfold Hid
          rw [BN.out]
          by_cases he : k = i
          · rw [he]
          · have : i = k + 1 := by omega
            rw [this, bnL, if_neg (by omega), List.append_nil]
        go_wp2_with fail
        go_ret
        exact ⟨_, rfl, by rw [← BE.out]; exact own_base_le hI.out.2.2 (Nat.le_succ _), hI.out.1⟩
end Go.Proofs.YtlcglkanlhmmdaaGreat
