/- Same, of a Seen and the row that it holds; Of; awake. -/
import Derived.Test.YtebifjjghogboaaD34Ref
namespace Go.Proofs.Ytebifjjghogboaa
open Go.RowKit Go.Shelf Go.Maps
attribute [local go_sem] Oper.semAt_some
theorem prefix_snoc {α : Type} {P L : List α} {x : α} (h : P <+: L) (hx : L[P.length]? = some x) : P ++ [x] <+: L := by
  obtain ⟨t, rfl⟩ := h
  rw [List.getElem?_append_right (by omega)] at hx
  simp only [Nat.sub_self] at hx
  cases t with
  | nil => simp at hx
  | cons y r =>
    simp at hx
    subst hx
    exact ⟨r, by simp⟩
theorem prefix_at {α : Type} {P L : List α} {x : α} (h : P ++ [x] <+: L) : L[P.length]? = some x := by
  obtain ⟨t, rfl⟩ := h
  simp
theorem eq_fn (w : World) (cs : Array Value) : (binOp .eql 52 (.func (.func 31) #[] cs) Value.nilFunc).run Try.prog w = .ok (.bool false) w := by
  kernel_rfl
theorem IdsAt.sn {w w' : World} {aa : Option Addr} {M L : List Id2} {p b : Nat} (h : IdsAt w aa M) (hs : Sn w p b L) (hf : Fr (fun x => x = b) w w') : IdsAt w' aa M := fun h0 => by
  obtain ⟨b', off, h1, h2, h3⟩ := h h0
  have hne : b' ≠ b := fun e => by
    obtain ⟨x, hx⟩ : ∃ x, M[0]? = some x := ⟨_, List.getElem?_eq_getElem h0⟩
    have := (h3 0 x hx).1
    obtain ⟨_, l, ⟨es, c, hm, _⟩, _⟩ := hs
    subst e
    simp [World.cell?, hm] at this
  have key : ∀ o, w'.cell? ⟨b', o, none⟩ = w.cell? ⟨b', o, none⟩ := fun o => World.cell?_of_block (hf.block b' h2 hne)
  exact ⟨b', off, h1, Nat.lt_of_lt_of_le h2 hf.size, fun k x hx => ⟨(key _).trans (h3 k x hx).1, (key _).trans (h3 k x hx).2⟩⟩
set_option maxHeartbeats 2000000 in
set_option maxRecDepth 100000 in
theorem same_any {v : Value} {L : List Id2} (aa : Option Addr) (cap : Nat) {w : World} (hs : SnV w v L) (hI : IdsAt w aa L) : Calls Try.prog 14 #[v, .slice aa L.length cap] w fun e w' => e = .returned (.int .i64 1) ∧ Below w.heap.size w w' := by
  have hv := hs.ptr
  have hlen := hs.good.length
  have HS := Lib.hid hs
  have HV := Lib.hid hv
  have HI := Lib.hid hI
  clear hs hv hI
  refine (callsIn_wide (n := 8)).1 ?_
  refine callsIn_of_wp_marks Try.func14 rfl trivial ?_ rfl
  simp only [Try.ntmps14, List.size_toArray, List.length_cons, List.length_nil, Nat.reduceAdd, Nat.reduceSub, Array.replicate_succ, Array.replicate_zero, List.push_toArray, List.append_toArray, List.nil_append, List.cons_append]
  refine wpIn_wide.2 ?_
  go_wp2_with fail
  refine (all_any v _ HV.out).mono ?_
  rintro e w1 ⟨rfl, rfl⟩
  have eqf := eq_fn
  go_wp2_with fail
  refine (wpIn_wide (n := 8)).1 ?_
  refine abs_worldIn ?_
  intro W0 hW0
  have hz0 : W0.heap.size = w.heap.size + 4 := by rw [hW0]; simp
  have B0 : Hid (Below w.heap.size w W0) := by rw [hW0]; unfold Hid; (repeat (first | with_reducible exact Below.refl _ _ | with_reducible exact hBW | with_reducible refine Below.setCell ?_ ?_ _ | with_reducible refine Below.alloc ?_ ?_ _ | with_reducible refine belowN ?_ _ | with_reducible refine Below.drew ?_)); all_goals (first | omega | (dsimp only; omega) | ((repeat (first | with_reducible refine le_alloc ?_ | with_reducible refine le_setCell ?_ | with_reducible refine le_drew ?_ | with_reducible refine le_drewN ?_)); omega))
  have e0 : W0.heap[w.heap.size]? = some (.cells #[.slice aa L.length cap] 22) := by rw [hW0]; (repeat (first | (with_reducible refine heap_alloc_at ?_ _; (first | rfl | (simp; done) | omega | (simp; omega)); done) | with_reducible refine heap_alloc_old ?_ _ | with_reducible refine heap_drew_old ?_ | with_reducible refine heap_drewN_old ?_))
  have e1 : W0.heap[w.heap.size + 1]? = some (.cells #[.int .i64 0] 3) := by rw [hW0]; (repeat (first | (with_reducible refine heap_alloc_at ?_ _; (first | rfl | (simp; done) | omega | (simp; omega)); done) | with_reducible refine heap_alloc_old ?_ _ | with_reducible refine heap_drew_old ?_ | with_reducible refine heap_drewN_old ?_))
  have e2 : W0.heap[w.heap.size + 1 + 1]? = some (.cells #[.int .i64 0] 3) := by rw [hW0]; (repeat (first | (with_reducible refine heap_alloc_at ?_ _; (first | rfl | (simp; done) | omega | (simp; omega)); done) | with_reducible refine heap_alloc_old ?_ _ | with_reducible refine heap_drew_old ?_ | with_reducible refine heap_drewN_old ?_))
  have e3 : W0.heap[w.heap.size + 1 + 1 + 1]? = some (.cells #[v] 26) := by rw [hW0]; (repeat (first | (with_reducible refine heap_alloc_at ?_ _; (first | rfl | (simp; done) | omega | (simp; omega)); done) | with_reducible refine heap_alloc_old ?_ _ | with_reducible refine heap_drew_old ?_ | with_reducible refine heap_drewN_old ?_))
  have hS0 := HS.out.below B0.out
  clear hW0
  refine range_plain (A := ?A) (Z := fun k => k = w.heap.size + 1 + 1) rfl (by omega) (gf := 31) (lb := #[.pointer (some ⟨w.heap.size + 1 + 1 + 1, 0, none⟩)]) rfl trivial (enters_of Try.func31 (by kernel_rfl) rfl)
    (iter_stops (w.heap.size + 1 + 1 + 1) v L _ W0 (fun k h => by omega) e3 hS0) (fun _ => rfl)
    (fun pre W => (((Below w.heap.size w W ∧ W.heap[w.heap.size]? = some (.cells #[.slice aa L.length cap] 22)) ∧ W.heap[w.heap.size + 1]? = some (.cells #[.int .i64 0] 3)) ∧ W.heap[w.heap.size + 1 + 1]? = some (.cells #[.int .i64 (pre.length : Nat)] 3)) ∧ vals pre <+: L)
    (fun _ pre _ => ¬ vals pre <+: L)
    (((((ownFrom_below (by omega) B0.out.size).and (own_heap _ _ (fun _ => .cells #[.slice aa L.length cap] 22) (fun _ => rfl))).and (own_heap _ _ (fun _ => .cells #[.int .i64 0] 3) (fun _ => rfl))).and (own_heap _ _ (fun pre : List (SIn L) => .cells #[.int .i64 (pre.length : Nat)] 3) (fun _ => rfl))).and (own_pure _ _))
    (fun c => own_pure _ _) ⟨⟨⟨⟨B0.out, e0⟩, e1⟩, e2⟩, List.nil_prefix⟩ ?assign ?body ?done ?stop
  case assign =>
    intro l x W K hK
    unfold encS
    gi_wp2
    exact hK
  case stop =>
    rintro D c pre W hD hp h hK
    exact (h (vals_prefix hp)).elim
  case body =>
    rintro l pre ⟨⟨xa, xn⟩, hx⟩ W hl ⟨r, hr⟩ ⟨⟨⟨⟨hB1, f0⟩, f1⟩, f2⟩, hpre⟩ hlt
    obtain ⟨⟨y1, y2⟩, hy⟩ : ∃ y, L[pre.length]? = some y := ⟨_, List.getElem?_eq_getElem hlt⟩
    obtain ⟨b, off, rfl, hb, d1, d2⟩ := (HI.out.below hB1).at hy
    simp only at d1 d2
    have hvl : (vals pre).length = pre.length := by simp [vals]
    have nq := fun W => neq_id W (y1, y2) (xa, xn)
    unfold encI at nq
    simp only at nq
    have HPA : Hid (vals (pre ++ [⟨(xa, xn), hx⟩]) <+: L ↔ (y1, y2) = (xa, xn)) := by
      unfold Hid
      rw [vals_append]
      constructor
      · intro h
        have := prefix_at h
        rw [hvl, hy] at this
        exact Option.some.inj this
      · intro h
        refine prefix_snoc hpre ?_
        rw [hvl, hy, h]
    have c0 := cell_of_heap f0 0
    have c1 := frozen_of_heap f1
    have c2 := cell_of_heap f2 0
    have c3 := frozen_of_heap f2
    have c4 := cell_of_heap f1 0
    have z0 := lt_of_heap f0
    have z1 := lt_of_heap f1
    have z2 := lt_of_heap f2
    have j1 : (0 : Int) ≤ (pre.length : Int) := by omega
    have j2 : (pre.length : Int) < (L.length : Int) := by omega
    clear hpre hy hvl
    by_cases he : (y1, y2) = (xa, xn)
    · have t : decide ((y1, y2) = (xa, xn)) = true := by simp only [he, decide_true]
      rw [t] at nq
      have HPP := Lib.hid (HPA.out.2 he)
      have F0 := Lib.hid f0
      have F1 := Lib.hid f1
      have F2 := Lib.hid f2
      have HB1 := Lib.hid hB1
      clear t he HPA f0 f1 f2 hB1
      gi_wp2
      refine ⟨(KeepsOthers.setCell _ _ _).from _, KZ.of_fr (Fr.setCell W ⟨w.heap.size + 1 + 1, 0, none⟩ _), ⟨⟨⟨?_, ?_⟩, ?_⟩, ?_⟩, HPP.out⟩
      · exact HB1.out.setCell (p := ⟨w.heap.size + 1 + 1, 0, none⟩) (by show w.heap.size ≤ w.heap.size + 1 + 1; omega) _
      · exact (Below.heap_setCell _ _ _ _ (by show w.heap.size ≠ w.heap.size + 1 + 1; omega)).trans F0.out
      · exact (Below.heap_setCell _ _ _ _ (by show w.heap.size + 1 ≠ w.heap.size + 1 + 1; omega)).trans F1.out
      · refine (heap_setCell_at F2.out 0 _).trans ?_
        simp
    · have t : decide ((y1, y2) = (xa, xn)) = false := by simpa using he
      rw [t] at nq
      have HPP := Lib.hid (fun h => he (HPA.out.1 h))
      clear t he HPA f0 f1 f2
      gi_wp2
      exact ⟨(KeepsOthers.setCell _ _ _).from _, HPP.out⟩
  case done =>
    rintro D zs W hD rfl ⟨⟨⟨⟨hB1, f0⟩, f1⟩, f2⟩, _⟩ hK
    rw [List.length_attach] at f2
    have c0 := cell_of_heap f0 0
    have c1 := frozen_of_heap f1
    have c2 := cell_of_heap f2 0
    have c4 := cell_of_heap f1 0
    have z0 := lt_of_heap f0
    have z1 := lt_of_heap f1
    have z2 := lt_of_heap f2
    have F1 := Lib.hid f1
    have HB1 := Lib.hid hB1
    clear f0 f1 f2 hB1
    go_wp2
    refine end_ret ((KeepsOthers.setCell _ _ _).same D _ hK rfl) (.int .i64 1) ?_ ⟨rfl, below_put ?_ (Nat.le_refl _) _ (by omega)⟩
    · have hh := heap_setCell_at F1.out 0 (.int .i64 1)
      have h2 := (keep_put (D := D) (o' := .deferred none) ((KeepsOthers.setCell _ _ _).same D _ hK rfl) (lt_of_heap hh) (by omega)).trans hh
      have h3 := cell_of_heap h2
      simp [results, Try.results14, go_sem, h3]
    · exact HB1.out.setCell (p := ⟨w.heap.size + 1, 0, none⟩) (by show w.heap.size ≤ w.heap.size + 1; omega) _
def ofL (M : List Id2) : List Id2 := M.foldl addL []
theorem ofL_take {M : List Id2} {k : Nat} {x : Id2} (h : M[k]? = some x) : ofL (M.take (k + 1)) = addL (ofL (M.take k)) x := by
  rw [List.take_add_one, h]
  simp [ofL]
theorem ofL_good {M : List Id2} (h : ∀ p ∈ M, InI p) : Good (ofL M) := good_foldl good_nil h
set_option maxHeartbeats 2000000 in
set_option maxRecDepth 100000 in
theorem of_any (aa : Option Addr) (cap : Nat) (M : List Id2) (w : World) (hM : IdsAt w aa M) (hIn : ∀ p ∈ M, InI p) (hlen : M.length ≤ 100) :
    Calls Try.prog 19 #[.slice aa M.length cap] w fun e w' => ∃ aa' cap', e = .returned (.tuple #[.pointer (some ⟨w.heap.size + 1, 0, none⟩), .slice aa' (ofL M).length cap']) ∧ Sn w' (w.heap.size + 1) w.heap.size (ofL M) ∧ IdsAt w' aa' (ofL M) ∧ Below w.heap.size w w' := by
  have HM := Lib.hid hM
  have HIn := Lib.hid hIn
  clear hM hIn
  go_enter Try.func19, Try.ntmps19
  go_wp2_with fail
  refine (new_any _).mono ?_
  rintro e w1 ⟨rfl, s1, b1, z1⟩
  have S1 := Lib.hid s1
  have B1 := Lib.hid b1
  clear s1 b1 z1
  go_wp2_with fail
  have I0 : Hid (IdsAt w1 none []) := fun h => by simp at h
  go_loopw [5, 11] (fun s i wr => ∃ (k : Nat) (a' : Option Addr) (c' : Nat), i = .int .i64 k ∧ k ≤ M.length ∧ s = .slice a' (ofL (M.take k)).length c' ∧ Hid (IdsAt wr a' (ofL (M.take k))) ∧ Hid (Sn wr (w.heap.size + 1) w.heap.size (ofL (M.take k))) ∧ Hid (Below w.heap.size w wr)) (fun _ i _ => M.length - (intOf i).toNat)
  case atStart => exact ⟨0, none, 0, rfl, Nat.zero_le _, rfl, I0, S1, B1⟩
  case round =>
    obtain ⟨k, a', c', rfl, hk, rfl, hI, hS, hB⟩ := hrel
    by_cases hlt : k < M.length
    · obtain ⟨⟨x1, x2⟩, hx⟩ : ∃ x, M[k]? = some x := ⟨_, List.getElem?_eq_getElem hlt⟩
      obtain ⟨b, off, rfl, hb, d1, d2⟩ := (HM.out.below hB.out).at hx
      simp only at d1 d2
      have TK := Lib.hid (ofL_take hx)
      have XI := Lib.hid (HIn.out _ (List.mem_of_getElem? hx))
      have j1 : (0 : Int) ≤ (k : Int) := by omega
      have j2 : (k : Int) < (M.length : Int) := by omega
      clear hx
      generalize ofL (M.take k) = J at TK hI hS ⊢
      go_wp2_with fail
      have hba := below_alloc wr (.cells #[.int .i64 x1, .int .i64 x2] 24) _ (Nat.le_refl _)
      refine (add_sn (hS.out.below hba) (x1, x2) XI.out).mono ?_
      rintro e w2 ⟨rfl, s2, f2⟩
      have I2 := Lib.hid ((hI.out.below hba).sn (hS.out.below hba) f2)
      have S2 := Lib.hid s2
      have B2 : Hid (Below w.heap.size w w2) := (hB.out.trans (hba.mono hB.out.size)).trans (f2.below (Nat.le_trans hB.out.size hba.size) (fun k h => by omega))
      have e2 : w2.heap[wr.heap.size]? = some (.cells #[.int .i64 x1, .int .i64 x2] 24) := (f2.block _ (by simp) (by have := hS.out.2.lt; omega)).trans (heap_alloc_new _ _)
      have k0 := cell_of_heap e2 0
      have k1 := cell_of_heap e2 1
      have z2 := lt_of_heap e2
      clear s2 f2 hba d1 d2 e2
      go_wp2_with fail
      refine (refAdd_any a' c' J (x1, x2) w2 I2.out hS.out.2.good).mono ?_
      rintro e w3 ⟨a3, c3, rfl, hI3, hb3⟩
      have S3 := Lib.hid (S2.out.below hb3)
      rw [← TK.out] at hI3 S3 ⊢
      have HI3 := Lib.hid hI3
      have HB3 : Hid (Below w.heap.size w w3) := B2.out.trans (hb3.mono B2.out.size)
      clear hb3 hI3 k0 k1 z2
      go_wp2
      go_roundw
      case rel => exact ⟨k + 1, a3, c3, by go_num, by omega, rfl, HI3, S3, HB3⟩
      case measure => simp [intOf]; omega
    · rw [List.take_of_length_le (by omega)] at hI hS ⊢
      go_wp2_with fail
      refine bodyPost_ret (v := .tuple #[.pointer (some ⟨w.heap.size + 1, 0, none⟩), .slice a' (ofL M).length c']) (by simp [results, Try.results19, go_sem]) rfl ⟨a', c', rfl, hS.out, hI.out, hB.out⟩
end Go.Proofs.Ytebifjjghogboaa
