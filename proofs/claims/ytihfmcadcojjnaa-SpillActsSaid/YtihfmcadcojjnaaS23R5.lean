/- The document's Decide: the walk. (Printed by tools/gen23.py.) -/
import Derived.Test.YtihfmcadcojjnaaS23R4
namespace Go.Proofs.Ytihfmcadcojjnaa
open Go.RowKit
theorem info60 : (Try.prog.info? 60).map (fun i => (i.zero, i.size, i.bytes)) = some (some (.agg #[.int .i64 0, .int .i64 0, .int .i64 0, .int .i64 0, .bool false, .int .i64 0, .int .i64 0, .bool false]), 8, 64) := by kernel_rfl
theorem rcl_get (l : List Ver) (n i : Nat) (v : Ver) (h : l[n]? = some v) (hi : i < 8) : (l.flatMap rcl)[n * 8 + i]? = (rcl v)[i]? := by
  induction l generalizing n with
  | nil => simp at h
  | cons a r ih =>
    rw [List.flatMap_cons]
    have ha : (rcl a).length = 8 := rfl
    cases n with
    | zero =>
      simp at h
      subst h
      rw [List.getElem?_append_left (by omega)]
      simp
    | succ m =>
      simp only [List.getElem?_cons_succ] at h
      rw [List.getElem?_append_right (by omega), ← ih m h, ha]
      congr 1
      omega
theorem rcl_len (l : List Ver) : (l.flatMap rcl).length = l.length * 8 := by
  induction l with
  | nil => rfl
  | cons a r ih => simp [List.flatMap_cons, ih, rcl]; omega
theorem own_rct {w : World} {B : Nat} {v : Value} {l : List Ver} (h : w.ownsRow B 60 8 v l.length (l.flatMap rcl)) : ∃ a cap, v = .slice a l.length cap ∧ RctAt w a l ∧ ∀ ad, a = some ad → B ≤ ad.block := by
  rcases h.2 with ⟨e, h0⟩ | ⟨gb, cap, cur, hs, hB, hh, hn, _, hsz, ht⟩
  · exact ⟨none, 0, by rw [e, h0], fun h => by omega, fun ad h => by cases h⟩
  · refine ⟨_, cap, hs, fun _ => ⟨gb, 0, rfl, lt_of_heap hh, fun i u hu j hj => ?_⟩, fun ad h => by cases h; exact hB⟩
    have hlt : i < l.length := (List.getElem?_eq_some_iff.1 hu).1
    rw [cell_of_heap hh, ← rcl_get l i j u hu hj, ← ht, List.getElem?_take_of_lt (by omega)]
    simp
theorem rct_news {w : World} {b off : Nat} {l : List Ver} (h : ∀ k v, l[k]? = some v → ∀ j, j < 8 → w.cell? ⟨b, off + k * 8 + j, none⟩ = (rcl v)[j]?) :
    ∀ j u, (l.flatMap rcl)[j]? = some u → w.cell? ((⟨b, off, none⟩ : Addr).add j) = some u := fun j u hu => by
  have hj : j < l.length * 8 := by
    have := (List.getElem?_eq_some_iff.1 hu).1
    rwa [rcl_len] at this
  have e : (⟨b, off, none⟩ : Addr).add j = ⟨b, off + j, none⟩ := by
    by_cases hj : j = 0
    · subst hj; simp [Addr.add]
    · simp [Addr.add, hj]
  rw [e]
  obtain ⟨x, hx⟩ : ∃ x, l[j / 8]? = some x := ⟨_, List.getElem?_eq_getElem (by omega)⟩
  have h1 := h _ x hx (j % 8) (by omega)
  have hc := rcl_get l (j / 8) (j % 8) x hx (by omega)
  rw [show j / 8 * 8 + j % 8 = j by omega, hu] at hc
  rw [hc, ← h1, show off + j / 8 * 8 + j % 8 = off + j by omega]
theorem one_rcl (l : List Ver) : ∀ u ∈ l.flatMap rcl, u.oneCell' = true := fun u hu => by
  obtain ⟨x, _, hx⟩ := List.mem_flatMap.1 hu
  simp [rcl] at hx
  rcases hx with rfl | rfl | rfl | rfl | rfl | rfl | rfl | rfl <;> rfl
/-- What is under way in Decide: the boxes of the board, of the answer, of the rect. -/
structure DecSt (w wr : World) (q : Nat) (rows cols : Int) (fa : Option Addr) (fn fc : Nat) (la : Option Addr) (ln lc : Nat) (v : Ver) : Prop where
  b : Below w.heap.size w wr
  x : wr.heap[w.heap.size]? = some (.cells #[.int .i64 rows, .int .i64 cols, .slice fa fn fc, .slice la ln lc] 53)
  a : wr.heap[w.heap.size + 1]? = some (.cells #[.int .i64 0, .int .i64 0, .slice none 0 0, .slice none 0 0] 53)
  r : wr.heap[q]? = some (.cells #[.int .i64 v.r, .int .i64 v.c, .int .i64 v.rs, .int .i64 v.cs, .bool v.st, .int .i64 v.br, .int .i64 v.bc, .bool v.kn] 60)
  q2 : w.heap.size + 2 ≤ q
theorem DecSt.below {w wr w' : World} {q : Nat} {rows cols : Int} {fa : Option Addr} {fn fc : Nat} {la : Option Addr} {ln lc : Nat} {v : Ver} (h : DecSt w wr q rows cols fa fn fc la ln lc v) (hb : Below wr.heap.size wr w') : DecSt w w' q rows cols fa fn fc la ln lc v :=
  ⟨h.b.trans (hb.mono h.b.size), (hb.block _ (lt_of_heap h.x)).trans h.x, (hb.block _ (lt_of_heap h.a)).trans h.a, (hb.block _ (lt_of_heap h.r)).trans h.r, h.q2⟩
theorem DecSt.bar {w wr : World} {q : Nat} {rows cols : Int} {fa : Option Addr} {fn fc : Nat} {la : Option Addr} {ln lc : Nat} {r c rs cs : Int} (h : DecSt w wr q rows cols fa fn fc la ln lc ⟨r, c, rs, cs, false, false, 0, 0⟩) (x y : Int) :
    DecSt w (((wr.setCell ⟨q, 5, none⟩ (.int .i64 x)).setCell ⟨q, 6, none⟩ (.int .i64 y)).setCell ⟨q, 7, none⟩ (.bool true)) q rows cols fa fn fc la ln lc ⟨r, c, rs, cs, false, true, x, y⟩ := by
  have hq := h.q2
  refine ⟨?_, ?_, ?_, ?_, h.q2⟩
  · refine Below.setCell (Below.setCell (Below.setCell h.b ?_ _) ?_ _) ?_ _ <;> (show w.heap.size ≤ q; omega)
  · rw [Below.heap_setCell _ _ _ _ (by show w.heap.size ≠ q; omega), Below.heap_setCell _ _ _ _ (by show w.heap.size ≠ q; omega), Below.heap_setCell _ _ _ _ (by show w.heap.size ≠ q; omega)]
    exact h.x
  · rw [Below.heap_setCell _ _ _ _ (by show w.heap.size + 1 ≠ q; omega), Below.heap_setCell _ _ _ _ (by show w.heap.size + 1 ≠ q; omega), Below.heap_setCell _ _ _ _ (by show w.heap.size + 1 ≠ q; omega)]
    exact h.a
  · exact (heap_setCell_at (heap_setCell_at (heap_setCell_at h.r 5 _) 6 _) 7 _).trans rfl
def RDecPost (w : World) (g : G) (rows cols : Int) (fa : Option Addr) (fn fc : Nat) (la : Option Addr) (_ln lc : Nat) (r c rs cs : Int) (e : Ending) (w' : World) : Prop :=
  ∃ la' lc', e = .returned (.tuple #[xv rows cols fa fn fc la' (gDecide g r c rs cs).L.length lc', .int .i64 (gErr g r c rs cs)]) ∧ RctAt w' la' (gDecide g r c rs cs).L ∧ (la' = la ∨ ∀ ad, la' = some ad → w.heap.size ≤ ad.block) ∧ (gErr g r c rs cs ≠ 0 → la' = la ∧ lc' = lc) ∧ Below w.heap.size w w'
set_option maxHeartbeats 4000000 in
set_option maxRecDepth 100000 in
theorem rdec_off (rows cols : Int) (fa : Option Addr) (fc : Nat) (F : List P2) (la : Option Addr) (lc : Nat) (L : List Ver) (r c rs cs : Int) (w : World) (ho : Hid (onB rows cols r c = false)) : Calls Try.prog 19 #[xv rows cols fa F.length fc la L.length lc, .int .i64 r, .int .i64 c, .int .i64 rs, .int .i64 cs] w fun e w' => e = .returned (.tuple #[xv rows cols fa F.length fc la L.length lc, .int .i64 2]) ∧ Below w.heap.size w w' := by
  unfold xv
  go_enter Try.func19, Try.ntmps19
  go_wp2_with fail
  refine (refOn_any rows cols fa F.length fc la L.length lc r c _).mono ?_
  rw [ho.out]
  rintro e w1 ⟨rfl, hb⟩
  have g0 : w1.heap[w.heap.size]? = some (.cells #[.int .i64 rows, .int .i64 cols, .slice fa F.length fc, .slice la L.length lc] 53) := (hb.block _ (by simp; omega)).trans (by (repeat (first | (with_reducible refine heap_alloc_at ?_ _; (first | rfl | (simp; done) | omega | (simp; omega)); done) | with_reducible refine heap_alloc_old ?_ _ | with_reducible refine heap_drew_old ?_ | with_reducible refine heap_drewN_old ?_)))
  have g1 : w1.heap[w.heap.size + 1]? = some (.cells #[.int .i64 0, .int .i64 0, .slice none 0 0, .slice none 0 0] 53) := (hb.block _ (by simp)).trans (by (repeat (first | (with_reducible refine heap_alloc_at ?_ _; (first | rfl | (simp; done) | omega | (simp; omega)); done) | with_reducible refine heap_alloc_old ?_ _ | with_reducible refine heap_drew_old ?_ | with_reducible refine heap_drewN_old ?_)))
  have FB : Hid (Below w.heap.size w w1) := by
    refine Below.trans ?_ (hb.mono (by simp; omega))
    (repeat (first | with_reducible exact Below.refl _ _ | with_reducible exact hBW | with_reducible refine Below.setCell ?_ ?_ _ | with_reducible refine Below.alloc ?_ ?_ _ | with_reducible refine belowN ?_ _ | with_reducible refine Below.drew ?_)); all_goals (first | omega | (dsimp only; omega) | ((repeat (first | with_reducible refine le_alloc ?_ | with_reducible refine le_setCell ?_ | with_reducible refine le_drew ?_ | with_reducible refine le_drewN ?_)); omega))
  have k0 := cell_of_heap g0
  have k1 := cell_of_heap g1
  have f1 := frozen_of_heap g1
  have z0 := lt_of_heap g0
  have z1 := lt_of_heap g1
  have G0 := Lib.hid g0
  have G1 := Lib.hid g1
  clear hb g0 g1
  go_wp2
  refine bodyPost_ret (v := .tuple #[.agg #[.int .i64 rows, .int .i64 cols, .slice fa F.length fc, .slice la L.length lc], .int .i64 2]) (by simp [results, Try.results19, go_sem, k1]) rfl ⟨rfl, ?_⟩
  have hBW := FB.out
  have hsz := hBW.size
  (repeat (first | with_reducible exact Below.refl _ _ | with_reducible exact hBW | with_reducible refine Below.setCell ?_ ?_ _ | with_reducible refine Below.alloc ?_ ?_ _ | with_reducible refine belowN ?_ _ | with_reducible refine Below.drew ?_)); all_goals (first | omega | (dsimp only; omega) | ((repeat (first | with_reducible refine le_alloc ?_ | with_reducible refine le_setCell ?_ | with_reducible refine le_drew ?_ | with_reducible refine le_drewN ?_)); omega))
set_option maxHeartbeats 4000000 in
set_option maxRecDepth 100000 in
theorem rdec_size (rows cols : Int) (fa : Option Addr) (fc : Nat) (F : List P2) (la : Option Addr) (lc : Nat) (L : List Ver) (r c rs cs : Int) (w : World) (ho : Hid (onB rows cols r c = true)) (hs : rs < 1 ∨ cs < 1 ∨ 4096 < rs ∨ 4096 < cs ∨ 4096 < rs * cs) : Calls Try.prog 19 #[xv rows cols fa F.length fc la L.length lc, .int .i64 r, .int .i64 c, .int .i64 rs, .int .i64 cs] w fun e w' => e = .returned (.tuple #[xv rows cols fa F.length fc la L.length lc, .int .i64 2]) ∧ Below w.heap.size w w' := by
  unfold xv
  go_enter Try.func19, Try.ntmps19
  go_wp2_with fail
  refine (refOn_any rows cols fa F.length fc la L.length lc r c _).mono ?_
  rw [ho.out]
  rintro e w1 ⟨rfl, hb⟩
  have g0 : w1.heap[w.heap.size]? = some (.cells #[.int .i64 rows, .int .i64 cols, .slice fa F.length fc, .slice la L.length lc] 53) := (hb.block _ (by simp; omega)).trans (by (repeat (first | (with_reducible refine heap_alloc_at ?_ _; (first | rfl | (simp; done) | omega | (simp; omega)); done) | with_reducible refine heap_alloc_old ?_ _ | with_reducible refine heap_drew_old ?_ | with_reducible refine heap_drewN_old ?_)))
  have g1 : w1.heap[w.heap.size + 1]? = some (.cells #[.int .i64 0, .int .i64 0, .slice none 0 0, .slice none 0 0] 53) := (hb.block _ (by simp)).trans (by (repeat (first | (with_reducible refine heap_alloc_at ?_ _; (first | rfl | (simp; done) | omega | (simp; omega)); done) | with_reducible refine heap_alloc_old ?_ _ | with_reducible refine heap_drew_old ?_ | with_reducible refine heap_drewN_old ?_)))
  have FB : Hid (Below w.heap.size w w1) := by
    refine Below.trans ?_ (hb.mono (by simp; omega))
    (repeat (first | with_reducible exact Below.refl _ _ | with_reducible exact hBW | with_reducible refine Below.setCell ?_ ?_ _ | with_reducible refine Below.alloc ?_ ?_ _ | with_reducible refine belowN ?_ _ | with_reducible refine Below.drew ?_)); all_goals (first | omega | (dsimp only; omega) | ((repeat (first | with_reducible refine le_alloc ?_ | with_reducible refine le_setCell ?_ | with_reducible refine le_drew ?_ | with_reducible refine le_drewN ?_)); omega))
  have k0 := cell_of_heap g0
  have k1 := cell_of_heap g1
  have f1 := frozen_of_heap g1
  have z0 := lt_of_heap g0
  have z1 := lt_of_heap g1
  have G0 := Lib.hid g0
  have G1 := Lib.hid g1
  clear hb g0 g1
  by_cases h0 : rs < 1
  · clear hs
    go_wp2
    refine bodyPost_ret (v := .tuple #[.agg #[.int .i64 rows, .int .i64 cols, .slice fa F.length fc, .slice la L.length lc], .int .i64 2]) (by simp [results, Try.results19, go_sem, k1]) rfl ⟨rfl, ?_⟩
    have hBW := FB.out
    have hsz := hBW.size
    (repeat (first | with_reducible exact Below.refl _ _ | with_reducible exact hBW | with_reducible refine Below.setCell ?_ ?_ _ | with_reducible refine Below.alloc ?_ ?_ _ | with_reducible refine belowN ?_ _ | with_reducible refine Below.drew ?_)); all_goals (first | omega | (dsimp only; omega) | ((repeat (first | with_reducible refine le_alloc ?_ | with_reducible refine le_setCell ?_ | with_reducible refine le_drew ?_ | with_reducible refine le_drewN ?_)); omega))
  · skip
    by_cases h1 : cs < 1
    · clear hs
      go_wp2
      refine bodyPost_ret (v := .tuple #[.agg #[.int .i64 rows, .int .i64 cols, .slice fa F.length fc, .slice la L.length lc], .int .i64 2]) (by simp [results, Try.results19, go_sem, k1]) rfl ⟨rfl, ?_⟩
      have hBW := FB.out
      have hsz := hBW.size
      (repeat (first | with_reducible exact Below.refl _ _ | with_reducible exact hBW | with_reducible refine Below.setCell ?_ ?_ _ | with_reducible refine Below.alloc ?_ ?_ _ | with_reducible refine belowN ?_ _ | with_reducible refine Below.drew ?_)); all_goals (first | omega | (dsimp only; omega) | ((repeat (first | with_reducible refine le_alloc ?_ | with_reducible refine le_setCell ?_ | with_reducible refine le_drew ?_ | with_reducible refine le_drewN ?_)); omega))
    · skip
      by_cases h2 : 4096 < rs
      · clear hs
        go_wp2
        refine bodyPost_ret (v := .tuple #[.agg #[.int .i64 rows, .int .i64 cols, .slice fa F.length fc, .slice la L.length lc], .int .i64 2]) (by simp [results, Try.results19, go_sem, k1]) rfl ⟨rfl, ?_⟩
        have hBW := FB.out
        have hsz := hBW.size
        (repeat (first | with_reducible exact Below.refl _ _ | with_reducible exact hBW | with_reducible refine Below.setCell ?_ ?_ _ | with_reducible refine Below.alloc ?_ ?_ _ | with_reducible refine belowN ?_ _ | with_reducible refine Below.drew ?_)); all_goals (first | omega | (dsimp only; omega) | ((repeat (first | with_reducible refine le_alloc ?_ | with_reducible refine le_setCell ?_ | with_reducible refine le_drew ?_ | with_reducible refine le_drewN ?_)); omega))
      · skip
        by_cases h3 : 4096 < cs
        · clear hs
          go_wp2
          refine bodyPost_ret (v := .tuple #[.agg #[.int .i64 rows, .int .i64 cols, .slice fa F.length fc, .slice la L.length lc], .int .i64 2]) (by simp [results, Try.results19, go_sem, k1]) rfl ⟨rfl, ?_⟩
          have hBW := FB.out
          have hsz := hBW.size
          (repeat (first | with_reducible exact Below.refl _ _ | with_reducible exact hBW | with_reducible refine Below.setCell ?_ ?_ _ | with_reducible refine Below.alloc ?_ ?_ _ | with_reducible refine belowN ?_ _ | with_reducible refine Below.drew ?_)); all_goals (first | omega | (dsimp only; omega) | ((repeat (first | with_reducible refine le_alloc ?_ | with_reducible refine le_setCell ?_ | with_reducible refine le_drew ?_ | with_reducible refine le_drewN ?_)); omega))
        · have h4 : 4096 < rs * cs := by omega
          clear hs
          have hp : rs * cs ≤ 4096 * 4096 := Int.mul_le_mul (by omega) (by omega) (by omega) (by omega)
          have hw : IntKind.i64.wrap (rs * cs) = rs * cs := IntWalk.i64_in _ (by omega)
          generalize hmm : rs * cs = m at h4 hw hp
          go_wp2
          refine bodyPost_ret (v := .tuple #[.agg #[.int .i64 rows, .int .i64 cols, .slice fa F.length fc, .slice la L.length lc], .int .i64 2]) (by simp [results, Try.results19, go_sem, k1]) rfl ⟨rfl, ?_⟩
          have hBW := FB.out
          have hsz := hBW.size
          (repeat (first | with_reducible exact Below.refl _ _ | with_reducible exact hBW | with_reducible refine Below.setCell ?_ ?_ _ | with_reducible refine Below.alloc ?_ ?_ _ | with_reducible refine belowN ?_ _ | with_reducible refine Below.drew ?_)); all_goals (first | omega | (dsimp only; omega) | ((repeat (first | with_reducible refine le_alloc ?_ | with_reducible refine le_setCell ?_ | with_reducible refine le_drew ?_ | with_reducible refine le_drewN ?_)); omega))
set_option maxHeartbeats 4000000 in
set_option maxRecDepth 100000 in
theorem rdec_empty (rows cols : Int) (fa : Option Addr) (fc : Nat) (F : List P2) (la : Option Addr) (lc : Nat) (L : List Ver) (r c rs cs : Int) (w : World) (ho : Hid (onB rows cols r c = true)) (h0 : ¬ rs < 1) (h1 : ¬ cs < 1) (h2 : ¬ 4096 < rs) (h3 : ¬ 4096 < cs) (h4 : ¬ 4096 < rs * cs) (HF : Hid (PrsAt w fa F)) (hFl : F.length ≤ 100) (HH : Hid (fHas F r c = false)) : Calls Try.prog 19 #[xv rows cols fa F.length fc la L.length lc, .int .i64 r, .int .i64 c, .int .i64 rs, .int .i64 cs] w fun e w' => e = .returned (.tuple #[xv rows cols fa F.length fc la L.length lc, .int .i64 3]) ∧ Below w.heap.size w w' := by
  unfold xv
  go_enter Try.func19, Try.ntmps19
  go_wp2_with fail
  refine (refOn_any rows cols fa F.length fc la L.length lc r c _).mono ?_
  rw [ho.out]
  rintro e w1 ⟨rfl, hb⟩
  have g0 : w1.heap[w.heap.size]? = some (.cells #[.int .i64 rows, .int .i64 cols, .slice fa F.length fc, .slice la L.length lc] 53) := (hb.block _ (by simp; omega)).trans (by (repeat (first | (with_reducible refine heap_alloc_at ?_ _; (first | rfl | (simp; done) | omega | (simp; omega)); done) | with_reducible refine heap_alloc_old ?_ _ | with_reducible refine heap_drew_old ?_ | with_reducible refine heap_drewN_old ?_)))
  have g1 : w1.heap[w.heap.size + 1]? = some (.cells #[.int .i64 0, .int .i64 0, .slice none 0 0, .slice none 0 0] 53) := (hb.block _ (by simp)).trans (by (repeat (first | (with_reducible refine heap_alloc_at ?_ _; (first | rfl | (simp; done) | omega | (simp; omega)); done) | with_reducible refine heap_alloc_old ?_ _ | with_reducible refine heap_drew_old ?_ | with_reducible refine heap_drewN_old ?_)))
  have FB : Hid (Below w.heap.size w w1) := by
    refine Below.trans ?_ (hb.mono (by simp; omega))
    (repeat (first | with_reducible exact Below.refl _ _ | with_reducible exact hBW | with_reducible refine Below.setCell ?_ ?_ _ | with_reducible refine Below.alloc ?_ ?_ _ | with_reducible refine belowN ?_ _ | with_reducible refine Below.drew ?_)); all_goals (first | omega | (dsimp only; omega) | ((repeat (first | with_reducible refine le_alloc ?_ | with_reducible refine le_setCell ?_ | with_reducible refine le_drew ?_ | with_reducible refine le_drewN ?_)); omega))
  have k0 := cell_of_heap g0
  have k1 := cell_of_heap g1
  have f1 := frozen_of_heap g1
  have z0 := lt_of_heap g0
  have z1 := lt_of_heap g1
  have G0 := Lib.hid g0
  have G1 := Lib.hid g1
  clear hb g0 g1
  have hp : rs * cs ≤ 4096 * 4096 := Int.mul_le_mul (by omega) (by omega) (by omega) (by omega)
  have hp2 : 1 * 1 ≤ rs * cs := Int.mul_le_mul (by omega) (by omega) (by omega) (by omega)
  have hw : IntKind.i64.wrap (rs * cs) = rs * cs := IntWalk.i64_in _ (by omega)
  have HW := Lib.hid hw
  generalize hmm : rs * cs = m at h4 hw hp hp2
  clear HW
  have t0 : decide (rs < 1) = false := by simpa using h0
  have t1 : decide (cs < 1) = false := by simpa using h1
  have t2 : decide (4096 < rs) = false := by simpa using h2
  have t3 : decide (4096 < cs) = false := by simpa using h3
  have t4 : decide (4096 < m) = false := by simpa using h4
  go_wp2_with fail
  refine (refHas_any rows cols fa fc F la L.length lc r c w1 (HF.out.below FB.out) hFl).mono ?_
  rw [HH.out]
  rintro e w2 ⟨rfl, hb⟩
  have FB2 : Hid (Below w.heap.size w w2) := FB.out.trans (hb.mono FB.out.size)
  have g0 := (hb.block _ z0).trans G0.out
  have g1 := (hb.block _ z1).trans G1.out
  clear hb k0 k1 f1 z0 z1 G0 G1 hw hmm hp hp2 h4 t0 t1 t2 t3 t4
  have k0 := cell_of_heap g0
  have k1 := cell_of_heap g1
  have f1 := frozen_of_heap g1
  have z0 := lt_of_heap g0
  have z1 := lt_of_heap g1
  have G0 := Lib.hid g0
  have G1 := Lib.hid g1
  clear g0 g1
  go_wp2
  refine bodyPost_ret (v := .tuple #[.agg #[.int .i64 rows, .int .i64 cols, .slice fa F.length fc, .slice la L.length lc], .int .i64 3]) (by simp [results, Try.results19, go_sem, k1]) rfl ⟨rfl, ?_⟩
  have hBW := FB2.out
  have hsz := hBW.size
  (repeat (first | with_reducible exact Below.refl _ _ | with_reducible exact hBW | with_reducible refine Below.setCell ?_ ?_ _ | with_reducible refine Below.alloc ?_ ?_ _ | with_reducible refine belowN ?_ _ | with_reducible refine Below.drew ?_)); all_goals (first | omega | (dsimp only; omega) | ((repeat (first | with_reducible refine le_alloc ?_ | with_reducible refine le_setCell ?_ | with_reducible refine le_drew ?_ | with_reducible refine le_drewN ?_)); omega))
set_option maxHeartbeats 4000000 in
set_option maxRecDepth 100000 in
theorem rdec_twice (rows cols : Int) (fa : Option Addr) (fc : Nat) (F : List P2) (la : Option Addr) (lc : Nat) (L : List Ver) (r c rs cs : Int) (w : World) (ho : Hid (onB rows cols r c = true)) (h0 : ¬ rs < 1) (h1 : ¬ cs < 1) (h2 : ¬ 4096 < rs) (h3 : ¬ 4096 < cs) (h4 : ¬ 4096 < rs * cs) (HF : Hid (PrsAt w fa F)) (hFl : F.length ≤ 100) (HH : Hid (fHas F r c = true)) (HL : Hid (RctAt w la L)) (hLl : L.length ≤ 100) (HO : Hid (∀ m, IdxOf (ofB r c) L m → 0 ≤ m)) : Calls Try.prog 19 #[xv rows cols fa F.length fc la L.length lc, .int .i64 r, .int .i64 c, .int .i64 rs, .int .i64 cs] w fun e w' => e = .returned (.tuple #[xv rows cols fa F.length fc la L.length lc, .int .i64 4]) ∧ Below w.heap.size w w' := by
  unfold xv
  go_enter Try.func19, Try.ntmps19
  go_wp2_with fail
  refine (refOn_any rows cols fa F.length fc la L.length lc r c _).mono ?_
  rw [ho.out]
  rintro e w1 ⟨rfl, hb⟩
  have g0 : w1.heap[w.heap.size]? = some (.cells #[.int .i64 rows, .int .i64 cols, .slice fa F.length fc, .slice la L.length lc] 53) := (hb.block _ (by simp; omega)).trans (by (repeat (first | (with_reducible refine heap_alloc_at ?_ _; (first | rfl | (simp; done) | omega | (simp; omega)); done) | with_reducible refine heap_alloc_old ?_ _ | with_reducible refine heap_drew_old ?_ | with_reducible refine heap_drewN_old ?_)))
  have g1 : w1.heap[w.heap.size + 1]? = some (.cells #[.int .i64 0, .int .i64 0, .slice none 0 0, .slice none 0 0] 53) := (hb.block _ (by simp)).trans (by (repeat (first | (with_reducible refine heap_alloc_at ?_ _; (first | rfl | (simp; done) | omega | (simp; omega)); done) | with_reducible refine heap_alloc_old ?_ _ | with_reducible refine heap_drew_old ?_ | with_reducible refine heap_drewN_old ?_)))
  have FB : Hid (Below w.heap.size w w1) := by
    refine Below.trans ?_ (hb.mono (by simp; omega))
    (repeat (first | with_reducible exact Below.refl _ _ | with_reducible exact hBW | with_reducible refine Below.setCell ?_ ?_ _ | with_reducible refine Below.alloc ?_ ?_ _ | with_reducible refine belowN ?_ _ | with_reducible refine Below.drew ?_)); all_goals (first | omega | (dsimp only; omega) | ((repeat (first | with_reducible refine le_alloc ?_ | with_reducible refine le_setCell ?_ | with_reducible refine le_drew ?_ | with_reducible refine le_drewN ?_)); omega))
  have k0 := cell_of_heap g0
  have k1 := cell_of_heap g1
  have f1 := frozen_of_heap g1
  have z0 := lt_of_heap g0
  have z1 := lt_of_heap g1
  have G0 := Lib.hid g0
  have G1 := Lib.hid g1
  clear hb g0 g1
  have hp : rs * cs ≤ 4096 * 4096 := Int.mul_le_mul (by omega) (by omega) (by omega) (by omega)
  have hp2 : 1 * 1 ≤ rs * cs := Int.mul_le_mul (by omega) (by omega) (by omega) (by omega)
  have hw : IntKind.i64.wrap (rs * cs) = rs * cs := IntWalk.i64_in _ (by omega)
  have HW := Lib.hid hw
  generalize hmm : rs * cs = m at h4 hw hp hp2
  clear HW
  have t0 : decide (rs < 1) = false := by simpa using h0
  have t1 : decide (cs < 1) = false := by simpa using h1
  have t2 : decide (4096 < rs) = false := by simpa using h2
  have t3 : decide (4096 < cs) = false := by simpa using h3
  have t4 : decide (4096 < m) = false := by simpa using h4
  go_wp2_with fail
  refine (refHas_any rows cols fa fc F la L.length lc r c w1 (HF.out.below FB.out) hFl).mono ?_
  rw [HH.out]
  rintro e w2 ⟨rfl, hb⟩
  have FB2 : Hid (Below w.heap.size w w2) := FB.out.trans (hb.mono FB.out.size)
  have g0 := (hb.block _ z0).trans G0.out
  have g1 := (hb.block _ z1).trans G1.out
  clear hb k0 k1 f1 z0 z1 G0 G1 hw hmm hp hp2 h4 t0 t1 t2 t3 t4
  have k0 := cell_of_heap g0
  have k1 := cell_of_heap g1
  have f1 := frozen_of_heap g1
  have z0 := lt_of_heap g0
  have z1 := lt_of_heap g1
  have G0 := Lib.hid g0
  have G1 := Lib.hid g1
  clear g0 g1
  go_wp2_with fail
  refine (refOf_any rows cols fa F.length fc la lc L r c w2 (HL.out.below FB2.out) hLl).mono ?_
  rintro e w3 ⟨m, rfl, hm, hb⟩
  have FB3 : Hid (Below w.heap.size w w3) := FB2.out.trans (hb.mono FB2.out.size)
  have g0 := (hb.block _ z0).trans G0.out
  have g1 := (hb.block _ z1).trans G1.out
  clear hb k0 k1 f1 z0 z1 G0 G1
  have k0 := cell_of_heap g0
  have k1 := cell_of_heap g1
  have f1 := frozen_of_heap g1
  have z0 := lt_of_heap g0
  have z1 := lt_of_heap g1
  have G0 := Lib.hid g0
  have G1 := Lib.hid g1
  clear g0 g1
  have hm0 : 0 ≤ m := HO.out m hm
  clear hm
  go_wp2
  refine bodyPost_ret (v := .tuple #[.agg #[.int .i64 rows, .int .i64 cols, .slice fa F.length fc, .slice la L.length lc], .int .i64 4]) (by simp [results, Try.results19, go_sem, k1]) rfl ⟨rfl, ?_⟩
  have hBW := FB3.out
  have hsz := hBW.size
  (repeat (first | with_reducible exact Below.refl _ _ | with_reducible exact hBW | with_reducible refine Below.setCell ?_ ?_ _ | with_reducible refine Below.alloc ?_ ?_ _ | with_reducible refine belowN ?_ _ | with_reducible refine Below.drew ?_)); all_goals (first | omega | (dsimp only; omega) | ((repeat (first | with_reducible refine le_alloc ?_ | with_reducible refine le_setCell ?_ | with_reducible refine le_drew ?_ | with_reducible refine le_drewN ?_)); omega))
end Go.Proofs.Ytihfmcadcojjnaa
