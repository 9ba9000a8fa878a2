/- The document's Fill. -/
import Derived.Test.YtihfmcadcojjnaaS23R2
import Derived.Laws.AppendOwnNone
namespace Go.Proofs.Ytihfmcadcojjnaa
open Go.RowKit
theorem info36r : (Try.prog.info? 36).map (fun i => (i.zero, i.size, i.bytes)) = some (some (.agg #[.int .i64 0, .int .i64 0]), 2, 16) := by kernel_rfl
def c2r (p : P2) : List Value := [.int .i64 p.1, .int .i64 p.2]
theorem c2r_get (l : List P2) (n i : Nat) (v : P2) (h : l[n]? = some v) (hi : i < 2) : (l.flatMap c2r)[n * 2 + i]? = (c2r v)[i]? := by
  induction l generalizing n with
  | nil => simp at h
  | cons a r ih =>
    rw [List.flatMap_cons]
    have ha : (c2r a).length = 2 := rfl
    cases n with
    | zero =>
      simp at h
      subst h
      rw [List.getElem?_append_left (by omega)]
      simp
    | succ m =>
      simp only [List.getElem?_cons_succ] at h
      rw [List.getElem?_append_right (by omega), ← ih m h, ha]
      congr 1
      omega
theorem c2r_len (l : List P2) : (l.flatMap c2r).length = l.length * 2 := by
  induction l with
  | nil => rfl
  | cons a r ih => simp [List.flatMap_cons, ih, c2r]; omega
theorem own_prs {w : World} {B : Nat} {v : Value} {l : List P2} (h : w.ownsRow B 36 2 v l.length (l.flatMap c2r)) : ∃ a cap, v = .slice a l.length cap ∧ PrsAt w a l ∧ ∀ ad, a = some ad → B ≤ ad.block := by
  rcases h.2 with ⟨e, h0⟩ | ⟨gb, cap, cur, hs, hB, hh, hn, _, hsz, ht⟩
  · exact ⟨none, 0, by rw [e, h0], fun h => by omega, fun ad h => by cases h⟩
  · refine ⟨_, cap, hs, fun _ => ⟨gb, 0, rfl, lt_of_heap hh, fun i u hu => ?_⟩, fun ad h => by cases h; exact hB⟩
    have hlt : i < l.length := (List.getElem?_eq_some_iff.1 hu).1
    have key : ∀ j, j < 2 → w.cell? ⟨gb, 0 + i * 2 + j, none⟩ = (c2r u)[j]? := fun j hj => by
      rw [cell_of_heap hh, ← c2r_get l i j u hu hj, ← ht, List.getElem?_take_of_lt (by omega)]
      simp
    exact ⟨key 0 (by omega), key 1 (by omega)⟩
theorem prs_news {w : World} {b off : Nat} {l : List P2} (h : ∀ k x, l[k]? = some x → w.cell? ⟨b, off + k * 2, none⟩ = some (.int .i64 x.1) ∧ w.cell? ⟨b, off + k * 2 + 1, none⟩ = some (.int .i64 x.2)) :
    ∀ j u, (l.flatMap c2r)[j]? = some u → w.cell? ((⟨b, off, none⟩ : Addr).add j) = some u := fun j u hu => by
  have hj : j < l.length * 2 := by
    have := (List.getElem?_eq_some_iff.1 hu).1
    rwa [c2r_len] at this
  have e : (⟨b, off, none⟩ : Addr).add j = ⟨b, off + j, none⟩ := by
    by_cases hj : j = 0
    · subst hj; simp [Addr.add]
    · simp [Addr.add, hj]
  rw [e]
  obtain ⟨x, hx⟩ : ∃ x, l[j / 2]? = some x := ⟨_, List.getElem?_eq_getElem (by omega)⟩
  obtain ⟨h1, h2⟩ := h _ x hx
  have hc := c2r_get l (j / 2) (j % 2) x hx (by omega)
  rw [show j / 2 * 2 + j % 2 = j by omega, hu] at hc
  by_cases hm : j % 2 = 0
  · rw [hm] at hc
    simp [c2r] at hc
    rw [hc, ← h1, show off + j / 2 * 2 = off + j by omega]
  · rw [show j % 2 = 1 by omega] at hc
    simp [c2r] at hc
    rw [hc, ← h2, show off + j / 2 * 2 + 1 = off + j by omega]
theorem one_c2r (l : List P2) : ∀ u ∈ l.flatMap c2r, u.oneCell' = true := fun u hu => by
  obtain ⟨x, _, hx⟩ := List.mem_flatMap.1 hu
  simp [c2r] at hx
  rcases hx with rfl | rfl <;> rfl
theorem fr_set {S : Nat → Prop} {w W : World} (h : Fr S w W) (p : Addr) (v : Value) (hp : S p.block) : Fr S w (W.setCell p v) :=
  h.trans (Fr.setCell W p v) (fun i _ e => by rw [e]; exact hp)
theorem PrsAt.fr {S : Nat → Prop} {w w' : World} {a : Option Addr} {l : List P2} (h : PrsAt w a l) (hf : Fr S w w') (hS : ∀ ad, a = some ad → ¬ S ad.block) : PrsAt w' a l := fun h0 => by
  obtain ⟨b, off, h1, h2, h3⟩ := h h0
  have key : ∀ o, w'.cell? ⟨b, o, none⟩ = w.cell? ⟨b, o, none⟩ := fun o => World.cell?_of_block (hf.block b h2 (hS _ h1))
  exact ⟨b, off, h1, Nat.lt_of_lt_of_le h2 hf.size, fun k x hx => ⟨(key _).trans (h3 k x hx).1, (key _).trans (h3 k x hx).2⟩⟩
theorem RctAt.fr {S : Nat → Prop} {w w' : World} {a : Option Addr} {l : List Ver} (h : RctAt w a l) (hf : Fr S w w') (hS : ∀ ad, a = some ad → ¬ S ad.block) : RctAt w' a l := fun h0 => by
  obtain ⟨b, off, h1, h2, h3⟩ := h h0
  have key : ∀ o, w'.cell? ⟨b, o, none⟩ = w.cell? ⟨b, o, none⟩ := fun o => World.cell?_of_block (hf.block b h2 (hS _ h1))
  exact ⟨b, off, h1, Nat.lt_of_lt_of_le h2 hf.size, fun k x hx j hj => (key _).trans (h3 k x hx j hj)⟩
/-- Two boxes. -/
def Tw (B : Nat) : Nat → Prop := fun k => k = B ∨ k = B + 1
theorem fr_tw5 (W : World) (B : Nat) (o1 o2 o3 o4 o5 : Nat) (v1 v2 v3 v4 v5 : Value) :
    Fr (Tw B) W (((((W.setCell ⟨B, o1, none⟩ v1).setCell ⟨B + 1, o2, none⟩ v2).setCell ⟨B + 1, o3, none⟩ v3).setCell ⟨B + 1, o4, none⟩ v4).setCell ⟨B + 1, o5, none⟩ v5) :=
  fr_set (fr_set (fr_set (fr_set (fr_set (Fr.refl _ _) _ _ (.inl rfl)) _ _ (.inr rfl)) _ _ (.inr rfl)) _ _ (.inr rfl)) _ _ (.inr rfl)
set_option maxHeartbeats 2000000 in
theorem rfill_off (rows cols : Int) (fa : Option Addr) (fn fc : Nat) (la : Option Addr) (ln lc : Nat) (r c : Int) (w : World) (ho : Hid (onB rows cols r c = false)) :
    Calls Try.prog 18 #[xv rows cols fa fn fc la ln lc, .int .i64 r, .int .i64 c] w fun e w' => e = .returned (.tuple #[xv rows cols fa fn fc la ln lc, .bool false]) ∧ Below w.heap.size w w' := by
  unfold xv
  go_enter Try.func18, Try.ntmps18
  go_wp2_with fail
  refine (refOn_any rows cols fa fn fc la ln lc r c _).mono ?_
  rw [ho.out]
  rintro e w1 ⟨rfl, hb⟩
  have g0 : w1.heap[w.heap.size]? = some (.cells #[.int .i64 rows, .int .i64 cols, .slice fa fn fc, .slice la ln lc] 53) := (hb.block _ (by simp; omega)).trans (by (repeat (first | (with_reducible refine heap_alloc_at ?_ _; (first | rfl | (simp; done) | omega | (simp; omega)); done) | with_reducible refine heap_alloc_old ?_ _ | with_reducible refine heap_drew_old ?_ | with_reducible refine heap_drewN_old ?_)))
  have g1 : w1.heap[w.heap.size + 1]? = some (.cells #[.int .i64 0, .int .i64 0, .slice none 0 0, .slice none 0 0] 53) := (hb.block _ (by simp)).trans (by (repeat (first | (with_reducible refine heap_alloc_at ?_ _; (first | rfl | (simp; done) | omega | (simp; omega)); done) | with_reducible refine heap_alloc_old ?_ _ | with_reducible refine heap_drew_old ?_ | with_reducible refine heap_drewN_old ?_)))
  have FB : Hid (Below w.heap.size w w1) := by
    refine Below.trans ?_ (hb.mono (by simp; omega))
    (repeat (first | with_reducible exact Below.refl _ _ | with_reducible exact hBW | with_reducible refine Below.setCell ?_ ?_ _ | with_reducible refine Below.alloc ?_ ?_ _ | with_reducible refine belowN ?_ _ | with_reducible refine Below.drew ?_)); all_goals (first | omega | (dsimp only; omega) | ((repeat (first | with_reducible refine le_alloc ?_ | with_reducible refine le_setCell ?_ | with_reducible refine le_drew ?_ | with_reducible refine le_drewN ?_)); omega))
  have k0 := cell_of_heap g0
  have k1 := cell_of_heap g1
  have f1 := frozen_of_heap g1
  have z0 := lt_of_heap g0
  have z1 := lt_of_heap g1
  clear hb g0 g1
  go_wp2
  refine bodyPost_ret (v := .tuple #[.agg #[.int .i64 rows, .int .i64 cols, .slice fa fn fc, .slice la ln lc], .bool false]) (by simp [results, Try.results18, go_sem, k1]) rfl ⟨rfl, ?_⟩
  have hBW := FB.out
  (repeat (first | with_reducible exact Below.refl _ _ | with_reducible exact hBW | with_reducible refine Below.setCell ?_ ?_ _ | with_reducible refine Below.alloc ?_ ?_ _ | with_reducible refine belowN ?_ _ | with_reducible refine Below.drew ?_)); all_goals (first | omega | (dsimp only; omega) | ((repeat (first | with_reducible refine le_alloc ?_ | with_reducible refine le_setCell ?_ | with_reducible refine le_drew ?_ | with_reducible refine le_drewN ?_)); omega))
set_option maxHeartbeats 2000000 in
theorem rfill_late (rows cols : Int) (fa : Option Addr) (fn fc : Nat) (la : Option Addr) (ln lc : Nat) (r c : Int) (w : World) (ho : Hid (onB rows cols r c = true)) (hn : 0 < ln) (_hn2 : ln ≤ 100) :
    Calls Try.prog 18 #[xv rows cols fa fn fc la ln lc, .int .i64 r, .int .i64 c] w fun e w' => e = .returned (.tuple #[xv rows cols fa fn fc la ln lc, .bool false]) ∧ Below w.heap.size w w' := by
  unfold xv
  go_enter Try.func18, Try.ntmps18
  go_wp2_with fail
  refine (refOn_any rows cols fa fn fc la ln lc r c _).mono ?_
  rw [ho.out]
  rintro e w1 ⟨rfl, hb⟩
  have g0 : w1.heap[w.heap.size]? = some (.cells #[.int .i64 rows, .int .i64 cols, .slice fa fn fc, .slice la ln lc] 53) := (hb.block _ (by simp; omega)).trans (by (repeat (first | (with_reducible refine heap_alloc_at ?_ _; (first | rfl | (simp; done) | omega | (simp; omega)); done) | with_reducible refine heap_alloc_old ?_ _ | with_reducible refine heap_drew_old ?_ | with_reducible refine heap_drewN_old ?_)))
  have g1 : w1.heap[w.heap.size + 1]? = some (.cells #[.int .i64 0, .int .i64 0, .slice none 0 0, .slice none 0 0] 53) := (hb.block _ (by simp)).trans (by (repeat (first | (with_reducible refine heap_alloc_at ?_ _; (first | rfl | (simp; done) | omega | (simp; omega)); done) | with_reducible refine heap_alloc_old ?_ _ | with_reducible refine heap_drew_old ?_ | with_reducible refine heap_drewN_old ?_)))
  have FB : Hid (Below w.heap.size w w1) := by
    refine Below.trans ?_ (hb.mono (by simp; omega))
    (repeat (first | with_reducible exact Below.refl _ _ | with_reducible exact hBW | with_reducible refine Below.setCell ?_ ?_ _ | with_reducible refine Below.alloc ?_ ?_ _ | with_reducible refine belowN ?_ _ | with_reducible refine Below.drew ?_)); all_goals (first | omega | (dsimp only; omega) | ((repeat (first | with_reducible refine le_alloc ?_ | with_reducible refine le_setCell ?_ | with_reducible refine le_drew ?_ | with_reducible refine le_drewN ?_)); omega))
  have k0 := cell_of_heap g0
  have k1 := cell_of_heap g1
  have f1 := frozen_of_heap g1
  have z0 := lt_of_heap g0
  have z1 := lt_of_heap g1
  clear hb g0 g1
  go_wp2
  refine bodyPost_ret (v := .tuple #[.agg #[.int .i64 rows, .int .i64 cols, .slice fa fn fc, .slice la ln lc], .bool false]) (by simp [results, Try.results18, go_sem, k1]) rfl ⟨rfl, ?_⟩
  have hBW := FB.out
  (repeat (first | with_reducible exact Below.refl _ _ | with_reducible exact hBW | with_reducible refine Below.setCell ?_ ?_ _ | with_reducible refine Below.alloc ?_ ?_ _ | with_reducible refine belowN ?_ _ | with_reducible refine Below.drew ?_)); all_goals (first | omega | (dsimp only; omega) | ((repeat (first | with_reducible refine le_alloc ?_ | with_reducible refine le_setCell ?_ | with_reducible refine le_drew ?_ | with_reducible refine le_drewN ?_)); omega))
set_option maxHeartbeats 4000000 in
set_option maxRecDepth 100000 in
theorem rfill_ok (rows cols : Int) (fa : Option Addr) (fc : Nat) (F : List P2) (r c : Int) (w : World) (hF : Hid (PrsAt w fa F)) (hl : F.length ≤ 100) (h0 : Hid (F = [] → fa = none ∧ fc = 0)) (ho : Hid (onB rows cols r c = true)) :
    Calls Try.prog 18 #[xv rows cols fa F.length fc none 0 0, .int .i64 r, .int .i64 c] w fun e w' => ∃ fa' fc', e = .returned (.tuple #[xv rows cols fa' (F.length + 1) fc' none 0 0, .bool true]) ∧ PrsAt w' fa' (F ++ [(r, c)]) ∧ (∀ ad, fa' = some ad → w.heap.size ≤ ad.block) ∧ Below w.heap.size w w' := by
  obtain ⟨i0, hi, hz0, hz1, hz2⟩ := info_parts info36r
  have HI := Lib.hid hi
  have HZ0 := Lib.hid hz0
  have HZ1 := Lib.hid hz1
  have HZ2 := Lib.hid hz2
  clear hi hz0 hz1 hz2
  unfold xv
  go_enter Try.func18, Try.ntmps18
  go_wp2_with fail
  refine (refOn_any rows cols fa F.length fc none 0 0 r c _).mono ?_
  rw [ho.out]
  rintro e w1 ⟨rfl, hb⟩
  have g0 : w1.heap[w.heap.size]? = some (.cells #[.int .i64 rows, .int .i64 cols, .slice fa F.length fc, .slice none 0 0] 53) := (hb.block _ (by simp; omega)).trans (by (repeat (first | (with_reducible refine heap_alloc_at ?_ _; (first | rfl | (simp; done) | omega | (simp; omega)); done) | with_reducible refine heap_alloc_old ?_ _ | with_reducible refine heap_drew_old ?_ | with_reducible refine heap_drewN_old ?_)))
  have g1 : w1.heap[w.heap.size + 1]? = some (.cells #[.int .i64 0, .int .i64 0, .slice none 0 0, .slice none 0 0] 53) := (hb.block _ (by simp)).trans (by (repeat (first | (with_reducible refine heap_alloc_at ?_ _; (first | rfl | (simp; done) | omega | (simp; omega)); done) | with_reducible refine heap_alloc_old ?_ _ | with_reducible refine heap_drew_old ?_ | with_reducible refine heap_drewN_old ?_)))
  have FB : Hid (Below w.heap.size w w1) := by
    refine Below.trans ?_ (hb.mono (by simp; omega))
    (repeat (first | with_reducible exact Below.refl _ _ | with_reducible exact hBW | with_reducible refine Below.setCell ?_ ?_ _ | with_reducible refine Below.alloc ?_ ?_ _ | with_reducible refine belowN ?_ _ | with_reducible refine Below.drew ?_)); all_goals (first | omega | (dsimp only; omega) | ((repeat (first | with_reducible refine le_alloc ?_ | with_reducible refine le_setCell ?_ | with_reducible refine le_drew ?_ | with_reducible refine le_drewN ?_)); omega))
  have k0 := cell_of_heap g0
  have z0 := lt_of_heap g0
  have G0 := Lib.hid g0
  have G1 := Lib.hid g1
  have hsz : w.heap.size + 2 ≤ w1.heap.size := by have := lt_of_heap g1; omega
  clear hb g0 g1
  have fin : Hid (∀ (y : World) (v : Value) (y2 : World), y.ownsRow (w.heap.size + 2) 36 2 v F.length (F.flatMap c2r) → Below (w.heap.size + 2) w1 y →
      ∀ v' : Value, y2.ownsRow (w.heap.size + 2) 36 2 v' (F.length + 1) (F.flatMap c2r ++ c2r (r, c)) → (y.alloc (.cells #[.int .i64 r, .int .i64 c] 36)).grownBy y2 v.ownBlock →
      ∃ fa' fc', v' = .slice fa' (F.length + 1) fc' ∧ Below w.heap.size w y2 ∧ y2.heap[w.heap.size]? = some (.cells #[.int .i64 rows, .int .i64 cols, .slice fa F.length fc, .slice none 0 0] 53) ∧ y2.heap[w.heap.size + 1]? = some (.cells #[.int .i64 0, .int .i64 0, .slice none 0 0, .slice none 0 0] 53) ∧ PrsAt y2 fa' (F ++ [(r, c)]) ∧ ∀ ad, fa' = some ad → w.heap.size + 2 ≤ ad.block) := by
    intro y v y2 hy hby v' hown hgrow
    have hown' : y2.ownsRow (w.heap.size + 2) 36 2 v' (F ++ [(r, c)]).length ((F ++ [(r, c)]).flatMap c2r) := by simpa using hown
    obtain ⟨fa', fc', e, hP, hB⟩ := own_prs hown'
    have hlt := hy.lt
    have hby2 : Below (w.heap.size + 2) w1 y2 := (hby.alloc (Nat.le_trans hsz hby.size) _).grown hgrow (by have := hby.size; simp; omega) (fun k hk => (hlt k hk).1)
    refine ⟨fa', fc', by simpa using e, FB.out.trans (hby2.mono (by omega)), (hby2.block _ (by omega)).trans G0.out, (hby2.block _ (by omega)).trans G1.out, hP, hB⟩
  by_cases hF0 : F = []
  · subst hF0
    obtain ⟨rfl, rfl⟩ := h0.out rfl
    go_wp2_with (first | (at_builtin; refine wpList_append_own_none rfl _ _ 35 rfl (w.heap.size + 2) 36 i0 2 Try.underlying35 HI.out _ _ _ rfl (World.ownsRow_nil w1 (w.heap.size + 2) 36 2) rfl ?_) | (at_builtin; refine wpList_append_own_at _ rfl _ _ 35 rfl (w.heap.size + 2) 36 i0 (.agg #[.int .i64 0, .int .i64 0]) 2 16 Try.underlying35 HI.out HZ0.out HZ1.out HZ2.out rfl (by decide) _ _ _ rfl ((World.ownsRow_nil w1 (w.heap.size + 2) 36 2).alloc _) ⟨w1.heap.size, 0, none⟩ 1 1 (c2r (r, c)) rfl rfl (cells_new _ #[.int .i64 r, .int .i64 c] 36) (by simp [c2r, Value.oneCell']) (by unfold maxLen; omega) (by omega) (by simp; omega) ?_; intro v2 y2 hown2 hgrow2 _ _; obtain ⟨fa', fc', rfl, bb, e0, e1, hP, hB⟩ := fin.out w1 _ y2 (World.ownsRow_nil w1 (w.heap.size + 2) 36 2) (Below.refl _ _) v2 hown2 hgrow2; clear hown2 hgrow2; have E0 := Lib.hid e0; have E1 := Lib.hid e1; have BB := Lib.hid bb; have HP := Lib.hid hP; have HBB := Lib.hid hB; clear k0 z0 bb hP hB; have k0 := cell_of_heap e0; have f0 := frozen_of_heap e0; have f1 := frozen_of_heap e1; have k1 := cell_of_heap e1; have z0 := lt_of_heap e0; have z1 := lt_of_heap e1; clear e0 e1))
    refine bodyPost_ret (v := .tuple #[.agg #[.int .i64 rows, .int .i64 cols, .slice fa' 1 fc', .slice none 0 0], .bool true]) (by simp [results, Try.results18, go_sem, k1]) rfl ?_
    have hfr := fr_tw5 y2 w.heap.size 2 0 1 2 3 (.slice fa' 1 fc') (.int .i64 rows) (.int .i64 cols) (.slice fa' 1 fc') (.slice none 0 0)
    refine ⟨fa', fc', rfl, HP.out.fr hfr (fun ad h e => ?_), fun ad h => by have := HBB.out ad h; omega, BB.out.trans (hfr.below BB.out.size (fun k hk => ?_))⟩
    · have := HBB.out ad h
      rcases e with e | e <;> omega
    · rcases hk with rfl | rfl <;> omega
  · obtain ⟨b, off, rfl, hb, hc⟩ := (hF.out.below FB.out) (List.length_pos_iff.2 hF0)
    have HC := Lib.hid hc
    clear hc hF0 h0
    go_wp2_with (first | (at_builtin; refine wpList_append_own_at _ rfl _ _ 35 rfl (w.heap.size + 2) 36 i0 (.agg #[.int .i64 0, .int .i64 0]) 2 16 Try.underlying35 HI.out HZ0.out HZ1.out HZ2.out rfl (by decide) _ _ _ rfl (HO1.out.alloc _) ⟨y1.heap.size, 0, none⟩ 1 1 (c2r (r, c)) rfl rfl (cells_new _ #[.int .i64 r, .int .i64 c] 36) (by simp [c2r, Value.oneCell']) (by unfold maxLen; omega) (by omega) (by simp; omega) ?_; intro v2 y2 hown2 hgrow2 _ _; obtain ⟨fa', fc', rfl, bb, e0, e1, hP, hB⟩ := fin.out y1 _ y2 HO1.out HY1.out v2 hown2 hgrow2; clear hown2 hgrow2; have E0 := Lib.hid e0; have E1 := Lib.hid e1; have BB := Lib.hid bb; have HP := Lib.hid hP; have HBB := Lib.hid hB; clear k0 z0 bb hP hB; have k0 := cell_of_heap e0; have f0 := frozen_of_heap e0; have f1 := frozen_of_heap e1; have k1 := cell_of_heap e1; have z0 := lt_of_heap e0; have z1 := lt_of_heap e1; clear e0 e1) | (at_builtin; refine wpList_append_own_at _ rfl _ _ 35 rfl (w.heap.size + 2) 36 i0 (.agg #[.int .i64 0, .int .i64 0]) 2 16 Try.underlying35 HI.out HZ0.out HZ1.out HZ2.out rfl (by decide) _ _ _ rfl (World.ownsRow_nil w1 (w.heap.size + 2) 36 2) ⟨b, off, none⟩ F.length fc (F.flatMap c2r) rfl (c2r_len F) (prs_news HC.out) (one_c2r F) (by unfold maxLen; omega) (by omega) (by omega) ?_; intro v1 y1 hown1 hgrow1 _ _; rw [Nat.zero_add, List.nil_append] at hown1; have HY1 : Hid (Below (w.heap.size + 2) w1 y1) := (Below.refl _ w1).grown hgrow1 hsz (fun k hk => nomatch (show (none : Option Nat) = some k from hk)); have HO1 := Lib.hid hown1; clear hown1 hgrow1 k0 z0; have k0 := cell_of_heap ((HY1.out.block _ (by omega)).trans G0.out); have z0 := lt_of_heap ((HY1.out.block _ (by omega)).trans G0.out); have hz1 : w.heap.size + 2 ≤ y1.heap.size := Nat.le_trans hsz HY1.out.size))
    refine bodyPost_ret (v := .tuple #[.agg #[.int .i64 rows, .int .i64 cols, .slice fa' (F.length + 1) fc', .slice none 0 0], .bool true]) (by simp [results, Try.results18, go_sem, k1]) rfl ?_
    have hfr := fr_tw5 y2 w.heap.size 2 0 1 2 3 (.slice fa' (F.length + 1) fc') (.int .i64 rows) (.int .i64 cols) (.slice fa' (F.length + 1) fc') (.slice none 0 0)
    refine ⟨fa', fc', rfl, HP.out.fr hfr (fun ad h e => ?_), fun ad h => by have := HBB.out ad h; omega, BB.out.trans (hfr.below BB.out.size (fun k hk => ?_))⟩
    · have := HBB.out ad h
      rcases e with e | e <;> omega
    · rcases hk with rfl | rfl <;> omega
end Go.Proofs.Ytihfmcadcojjnaa
