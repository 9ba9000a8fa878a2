/- The document's board in memory; held, New, On, Has, Of, In, Owner. -/
import Derived.Test.YtihfmcadcojjnaaProg
import Derived.Test.YtihfmcadcojjnaaS23Types
import Derived.Test.YtihfmcadcojjnaaS23Plain
import Derived.Test.YtihfmcadcojjnaaOwn
import Derived.Test.YtihfmcadcojjnaaMultiR
namespace Go.Proofs.Ytihfmcadcojjnaa
open Go.RowKit
/-- Rows of pairs, and of the document's rects, in memory. -/
def PrsAt (w : World) (a : Option Addr) (l : List P2) : Prop :=
  0 < l.length → ∃ b off, a = some ⟨b, off, none⟩ ∧ b < w.heap.size ∧ ∀ k x, l[k]? = some x → w.cell? ⟨b, off + k * 2, none⟩ = some (.int .i64 x.1) ∧ w.cell? ⟨b, off + k * 2 + 1, none⟩ = some (.int .i64 x.2)
def rcl (v : Ver) : List Value := [.int .i64 v.r, .int .i64 v.c, .int .i64 v.rs, .int .i64 v.cs, .bool v.st, .int .i64 v.br, .int .i64 v.bc, .bool v.kn]
def RctAt (w : World) (a : Option Addr) (l : List Ver) : Prop :=
  0 < l.length → ∃ b off, a = some ⟨b, off, none⟩ ∧ b < w.heap.size ∧ ∀ k v, l[k]? = some v → ∀ j, j < 8 → w.cell? ⟨b, off + k * 8 + j, none⟩ = (rcl v)[j]?
theorem PrsAt.below {w w' : World} {a : Option Addr} {l : List P2} (h : PrsAt w a l) (hb : Below w.heap.size w w') : PrsAt w' a l := fun h0 => by
  obtain ⟨b, off, h1, h2, h3⟩ := h h0
  exact ⟨b, off, h1, Nat.lt_of_lt_of_le h2 hb.size, fun k x hx => ⟨(hb.cell (p := ⟨b, off + k * 2, none⟩) h2).trans (h3 k x hx).1, (hb.cell (p := ⟨b, off + k * 2 + 1, none⟩) h2).trans (h3 k x hx).2⟩⟩
theorem RctAt.below {w w' : World} {a : Option Addr} {l : List Ver} (h : RctAt w a l) (hb : Below w.heap.size w w') : RctAt w' a l := fun h0 => by
  obtain ⟨b, off, h1, h2, h3⟩ := h h0
  exact ⟨b, off, h1, Nat.lt_of_lt_of_le h2 hb.size, fun k x hx j hj => (hb.cell (p := ⟨b, off + k * 8 + j, none⟩) h2).trans (h3 k x hx j hj)⟩
theorem PrsAt.at {w : World} {a : Option Addr} {l : List P2} (h : PrsAt w a l) {k : Nat} {x : P2} (hx : l[k]? = some x) :
    ∃ b off, a = some ⟨b, off, none⟩ ∧ b < w.heap.size ∧ w.cell? ⟨b, off + k * 2, none⟩ = some (.int .i64 x.1) ∧ w.cell? ⟨b, off + k * 2 + 1, none⟩ = some (.int .i64 x.2) := by
  have hk : k < l.length := (List.getElem?_eq_some_iff.1 hx).1
  obtain ⟨b, off, h1, h2, h3⟩ := h (by omega)
  exact ⟨b, off, h1, h2, h3 k x hx⟩
theorem RctAt.at {w : World} {a : Option Addr} {l : List Ver} (h : RctAt w a l) {k : Nat} {v : Ver} (hx : l[k]? = some v) :
    ∃ b off, a = some ⟨b, off, none⟩ ∧ b < w.heap.size ∧ w.cell? ⟨b, off + k * 8, none⟩ = some (.int .i64 v.r) ∧ w.cell? ⟨b, off + k * 8 + 1, none⟩ = some (.int .i64 v.c) ∧ w.cell? ⟨b, off + k * 8 + 2, none⟩ = some (.int .i64 v.rs) ∧
      w.cell? ⟨b, off + k * 8 + 3, none⟩ = some (.int .i64 v.cs) ∧ w.cell? ⟨b, off + k * 8 + 4, none⟩ = some (.bool v.st) ∧ w.cell? ⟨b, off + k * 8 + 5, none⟩ = some (.int .i64 v.br) ∧ w.cell? ⟨b, off + k * 8 + 6, none⟩ = some (.int .i64 v.bc) ∧ w.cell? ⟨b, off + k * 8 + 7, none⟩ = some (.bool v.kn) := by
  have hk : k < l.length := (List.getElem?_eq_some_iff.1 hx).1
  obtain ⟨b, off, h1, h2, h3⟩ := h (by omega)
  have h4 := h3 k v hx
  exact ⟨b, off, h1, h2, h4 0 (by omega), h4 1 (by omega), h4 2 (by omega), h4 3 (by omega), h4 4 (by omega), h4 5 (by omega), h4 6 (by omega), h4 7 (by omega)⟩
/-- The document's board, as a value. -/
def xv (rows cols : Int) (fa : Option Addr) (fn fc : Nat) (la : Option Addr) (ln lc : Nat) : Value := .agg #[.int .i64 rows, .int .i64 cols, .slice fa fn fc, .slice la ln lc]
def xc (rows cols : Int) (fa : Option Addr) (fn fc : Nat) (la : Option Addr) (ln lc : Nat) : Obj := .cells #[.int .i64 rows, .int .i64 cols, .slice fa fn fc, .slice la ln lc] 53
def rv (v : Ver) : Value := .agg #[.int .i64 v.r, .int .i64 v.c, .int .i64 v.rs, .int .i64 v.cs, .bool v.st, .int .i64 v.br, .int .i64 v.bc, .bool v.kn]
set_option maxHeartbeats 1000000 in
theorem held_any (n : Int) (w : World) : Calls Try.prog 26 #[.int .i64 n] w fun e w' => e = .returned (.int .i64 (clamp n)) ∧ w' = w := by
  unfold clamp
  by_cases h1 : n < 0
  · rw [if_pos h1]
    go_enter Try.func26, Try.ntmps26
    go_wp2
    refine bodyPost_ret (v := .int .i64 0) (by simp [results, Try.results26, go_sem]) rfl ⟨rfl, rfl⟩
  · rw [if_neg h1]
    by_cases h2 : 1000 < n
    · rw [if_pos h2]
      go_enter Try.func26, Try.ntmps26
      go_wp2
      refine bodyPost_ret (v := .int .i64 1000) (by simp [results, Try.results26, go_sem]) rfl ⟨rfl, rfl⟩
    · rw [if_neg h2]
      go_enter Try.func26, Try.ntmps26
      go_wp2
      go_ret
      exact ⟨rfl, rfl⟩
set_option maxHeartbeats 1000000 in
theorem refNew_any (rows cols : Int) (w : World) : Calls Try.prog 17 #[.int .i64 rows, .int .i64 cols] w fun e w' => e = .returned (xv (clamp rows) (clamp cols) none 0 0 none 0 0) ∧ Below w.heap.size w w' := by
  go_enter Try.func17, Try.ntmps17
  go_wp2_with fail
  refine (held_any _ _).mono ?_
  rintro e w1 ⟨rfl, rfl⟩
  go_wp2_with fail
  refine (held_any _ _).mono ?_
  rintro e w1 ⟨rfl, rfl⟩
  go_wp2_with fail
  refine bodyPost_ret (v := xv (clamp rows) (clamp cols) none 0 0 none 0 0) (by simp [results, Try.results17, go_sem, xv]) rfl ⟨rfl, ?_⟩
  (repeat (first | with_reducible exact Below.refl _ _ | with_reducible exact hBW | with_reducible refine Below.setCell ?_ ?_ _ | with_reducible refine Below.alloc ?_ ?_ _ | with_reducible refine belowN ?_ _ | with_reducible refine Below.drew ?_)); all_goals (first | omega | (dsimp only; omega) | ((repeat (first | with_reducible refine le_alloc ?_ | with_reducible refine le_setCell ?_ | with_reducible refine le_drew ?_ | with_reducible refine le_drewN ?_)); omega))
def onB (rows cols r c : Int) : Bool := decide (0 ≤ r) && decide (r < rows) && decide (0 ≤ c) && decide (c < cols)
set_option maxHeartbeats 1000000 in
theorem refOn_any (rows cols : Int) (fa : Option Addr) (fn fc : Nat) (la : Option Addr) (ln lc : Nat) (r c : Int) (w : World) :
    Calls Try.prog 27 #[xv rows cols fa fn fc la ln lc, .int .i64 r, .int .i64 c] w fun e w' => e = .returned (.bool (onB rows cols r c)) ∧ Below w.heap.size w w' := by
  unfold xv onB
  by_cases h1 : 0 ≤ r
  · by_cases h2 : r < rows
    · by_cases h3 : 0 ≤ c
      · have e : (decide (0 ≤ r) && decide (r < rows) && decide (0 ≤ c) && decide (c < cols)) = decide (c < cols) := by simp [h1, h2, h3]
        rw [e]
        clear e
        go_enter Try.func27, Try.ntmps27
        go_wp2
        go_ret
        refine ⟨rfl, ?_⟩
        (repeat (first | with_reducible exact Below.refl _ _ | with_reducible exact hBW | with_reducible refine Below.setCell ?_ ?_ _ | with_reducible refine Below.alloc ?_ ?_ _ | with_reducible refine belowN ?_ _ | with_reducible refine Below.drew ?_)); all_goals (first | omega | (dsimp only; omega) | ((repeat (first | with_reducible refine le_alloc ?_ | with_reducible refine le_setCell ?_ | with_reducible refine le_drew ?_ | with_reducible refine le_drewN ?_)); omega))
      · have e : (decide (0 ≤ r) && decide (r < rows) && decide (0 ≤ c) && decide (c < cols)) = false := by simp [h3]
        have t3 : decide (0 ≤ c) = false := by simpa using h3
        rw [e]
        clear e h3
        go_enter Try.func27, Try.ntmps27
        go_wp2
        go_ret
        refine ⟨rfl, ?_⟩
        (repeat (first | with_reducible exact Below.refl _ _ | with_reducible exact hBW | with_reducible refine Below.setCell ?_ ?_ _ | with_reducible refine Below.alloc ?_ ?_ _ | with_reducible refine belowN ?_ _ | with_reducible refine Below.drew ?_)); all_goals (first | omega | (dsimp only; omega) | ((repeat (first | with_reducible refine le_alloc ?_ | with_reducible refine le_setCell ?_ | with_reducible refine le_drew ?_ | with_reducible refine le_drewN ?_)); omega))
    · have e : (decide (0 ≤ r) && decide (r < rows) && decide (0 ≤ c) && decide (c < cols)) = false := by simp [h2]
      have t2 : decide (r < rows) = false := by simpa using h2
      rw [e]
      clear e h2
      go_enter Try.func27, Try.ntmps27
      go_wp2
      go_ret
      refine ⟨rfl, ?_⟩
      (repeat (first | with_reducible exact Below.refl _ _ | with_reducible exact hBW | with_reducible refine Below.setCell ?_ ?_ _ | with_reducible refine Below.alloc ?_ ?_ _ | with_reducible refine belowN ?_ _ | with_reducible refine Below.drew ?_)); all_goals (first | omega | (dsimp only; omega) | ((repeat (first | with_reducible refine le_alloc ?_ | with_reducible refine le_setCell ?_ | with_reducible refine le_drew ?_ | with_reducible refine le_drewN ?_)); omega))
  · have e : (decide (0 ≤ r) && decide (r < rows) && decide (0 ≤ c) && decide (c < cols)) = false := by simp [h1]
    have t1 : decide (0 ≤ r) = false := by simpa using h1
    rw [e]
    clear e h1
    go_enter Try.func27, Try.ntmps27
    go_wp2
    go_ret
    refine ⟨rfl, ?_⟩
    (repeat (first | with_reducible exact Below.refl _ _ | with_reducible exact hBW | with_reducible refine Below.setCell ?_ ?_ _ | with_reducible refine Below.alloc ?_ ?_ _ | with_reducible refine belowN ?_ _ | with_reducible refine Below.drew ?_)); all_goals (first | omega | (dsimp only; omega) | ((repeat (first | with_reducible refine le_alloc ?_ | with_reducible refine le_setCell ?_ | with_reducible refine le_drew ?_ | with_reducible refine le_drewN ?_)); omega))
def fHas (F : List P2) (r c : Int) : Bool := F.any fun x => decide (x.1 = r) && decide (x.2 = c)
theorem any_take {α : Type} {p : α → Bool} {M : List α} {k : Nat} {x : α} (h : (M.take k).any p = false) (hx : M[k]? = some x) (hp : p x = false) : (M.take (k + 1)).any p = false := by
  rw [List.take_add_one, hx, List.any_append, h]
  simp [hp]
set_option maxHeartbeats 2000000 in
set_option maxRecDepth 100000 in
theorem refHas_any (rows cols : Int) (fa : Option Addr) (fc : Nat) (F : List P2) (la : Option Addr) (ln lc : Nat) (r c : Int) (w : World) (hF : PrsAt w fa F) (hl : F.length ≤ 100) :
    Calls Try.prog 28 #[xv rows cols fa F.length fc la ln lc, .int .i64 r, .int .i64 c] w fun e w' => e = .returned (.bool (fHas F r c)) ∧ Below w.heap.size w w' := by
  have HF := Lib.hid hF
  have HR : Hid (fHas F r c = F.any fun x => decide (x.1 = r) && decide (x.2 = c)) := rfl
  generalize fHas F r c = R at HR ⊢
  unfold xv
  clear hF
  go_enter Try.func28, Try.ntmps28
  go_wp2_with fail
  have HB0 : Hid (Below w.heap.size w (w.alloc (xc rows cols fa F.length fc la ln lc)) ∧ (w.alloc (xc rows cols fa F.length fc la ln lc)).heap[w.heap.size]? = some (xc rows cols fa F.length fc la ln lc)) := ⟨by (repeat (first | with_reducible exact Below.refl _ _ | with_reducible exact hBW | with_reducible refine Below.setCell ?_ ?_ _ | with_reducible refine Below.alloc ?_ ?_ _ | with_reducible refine belowN ?_ _ | with_reducible refine Below.drew ?_)); all_goals (first | omega | (dsimp only; omega) | ((repeat (first | with_reducible refine le_alloc ?_ | with_reducible refine le_setCell ?_ | with_reducible refine le_drew ?_ | with_reducible refine le_drewN ?_)); omega)), by (repeat (first | (with_reducible refine heap_alloc_at ?_ _; (first | rfl | (simp; done) | omega | (simp; omega)); done) | with_reducible refine heap_alloc_old ?_ _ | with_reducible refine heap_drew_old ?_ | with_reducible refine heap_drewN_old ?_))⟩
  unfold xc at HB0
  go_loopw [7] (fun x wr => ∃ k : Nat, x = .int .i64 k ∧ k ≤ F.length ∧ Hid ((F.take k).any (fun x => decide (x.1 = r) && decide (x.2 = c)) = false) ∧ Hid (Below w.heap.size w wr ∧ wr.heap[w.heap.size]? = some (.cells #[.int .i64 rows, .int .i64 cols, .slice fa F.length fc, .slice la ln lc] 53))) (fun x _ => F.length - (intOf x).toNat)
  case atStart => exact ⟨0, rfl, Nat.zero_le _, rfl, HB0⟩
  case round =>
    obtain ⟨k, rfl, hk, hA, hS⟩ := hrel
    have k2 := cell_of_heap hS.out.2 2
    have z1 := lt_of_heap hS.out.2
    by_cases hlt : k < F.length
    · obtain ⟨⟨x1, x2⟩, hx⟩ : ∃ x, F[k]? = some x := ⟨_, List.getElem?_eq_getElem hlt⟩
      obtain ⟨b, off, rfl, hb, d1, d2⟩ := (HF.out.below hS.out.1).at hx
      simp only at d1 d2
      have HX := Lib.hid hx
      have j1 : (0 : Int) ≤ (k : Int) := by omega
      have j2 : (k : Int) < (F.length : Int) := by omega
      clear hx
      by_cases h1 : x1 = r
      · subst h1
        by_cases h2 : x2 = c
        · subst h2
          have HN : Hid (R = true) := by
            unfold Hid
            rw [HR.out, List.any_eq_true]
            exact ⟨_, List.mem_of_getElem? HX.out, by simp⟩
          go_wp2
          refine bodyPost_ret (v := .bool true) (by simp [results, Try.results28, go_sem]) rfl ⟨by rw [HN.out], hS.out.1⟩
        · have t2 : (x2 == c) = false := by simpa using h2
          have HN : Hid ((F.take (k + 1)).any (fun x => decide (x.1 = x1) && decide (x.2 = c)) = false) := any_take hA.out HX.out (by simp [h2])
          go_wp2
          go_roundw
          case rel => exact ⟨k + 1, by go_num, by omega, HN, hS⟩
          case measure => simp [intOf]; omega
      · have t1 : (x1 == r) = false := by simpa using h1
        have HN : Hid ((F.take (k + 1)).any (fun x => decide (x.1 = r) && decide (x.2 = c)) = false) := any_take hA.out HX.out (by simp [h1])
        go_wp2
        go_roundw
        case rel => exact ⟨k + 1, by go_num, by omega, HN, hS⟩
        case measure => simp [intOf]; omega
    · have HN : Hid (R = false) := by
        unfold Hid
        rw [HR.out, ← hA.out, List.take_of_length_le (by omega)]
      go_wp2
      go_ret
      exact ⟨by rw [HN.out]; rfl, hS.out.1⟩
/-- A place in a list where p holds; -1: it holds nowhere. -/
def IdxOf (p : Ver → Bool) (L : List Ver) (m : Int) : Prop := (∃ (k : Nat) (v : Ver), m = (k : Int) ∧ L[k]? = some v ∧ p v = true) ∨ (m = -1 ∧ ∀ v ∈ L, p v = false)
theorem none_take {p : Ver → Bool} {L : List Ver} {k : Nat} {x : Ver} (h : ∀ v ∈ L.take k, p v = false) (hx : L[k]? = some x) (hp : p x = false) : ∀ v ∈ L.take (k + 1), p v = false := by
  rw [List.take_add_one, hx]
  intro v hv
  rcases List.mem_append.1 hv with hv | hv
  · exact h v hv
  · simp at hv; rw [hv]; exact hp
def ofB (r c : Int) (v : Ver) : Bool := decide (v.r = r) && decide (v.c = c)
set_option maxHeartbeats 2000000 in
set_option maxRecDepth 100000 in
theorem refOf_any (rows cols : Int) (fa : Option Addr) (fn fc : Nat) (la : Option Addr) (lc : Nat) (L : List Ver) (r c : Int) (w : World) (hL : RctAt w la L) (hl : L.length ≤ 100) :
    Calls Try.prog 29 #[xv rows cols fa fn fc la L.length lc, .int .i64 r, .int .i64 c] w fun e w' => ∃ m, e = .returned (.int .i64 m) ∧ IdxOf (ofB r c) L m ∧ Below w.heap.size w w' := by
  have HF := Lib.hid hL
  unfold xv
  clear hL
  go_enter Try.func29, Try.ntmps29
  go_wp2_with fail
  have HB0 : Hid (Below w.heap.size w (w.alloc (xc rows cols fa fn fc la L.length lc)) ∧ (w.alloc (xc rows cols fa fn fc la L.length lc)).heap[w.heap.size]? = some (xc rows cols fa fn fc la L.length lc)) := ⟨by (repeat (first | with_reducible exact Below.refl _ _ | with_reducible exact hBW | with_reducible refine Below.setCell ?_ ?_ _ | with_reducible refine Below.alloc ?_ ?_ _ | with_reducible refine belowN ?_ _ | with_reducible refine Below.drew ?_)); all_goals (first | omega | (dsimp only; omega) | ((repeat (first | with_reducible refine le_alloc ?_ | with_reducible refine le_setCell ?_ | with_reducible refine le_drew ?_ | with_reducible refine le_drewN ?_)); omega)), by (repeat (first | (with_reducible refine heap_alloc_at ?_ _; (first | rfl | (simp; done) | omega | (simp; omega)); done) | with_reducible refine heap_alloc_old ?_ _ | with_reducible refine heap_drew_old ?_ | with_reducible refine heap_drewN_old ?_))⟩
  unfold xc at HB0
  go_loopw [7] (fun x wr => ∃ k : Nat, x = .int .i64 k ∧ k ≤ L.length ∧ Hid (∀ v ∈ L.take k, ofB r c v = false) ∧ Hid (Below w.heap.size w wr ∧ wr.heap[w.heap.size]? = some (.cells #[.int .i64 rows, .int .i64 cols, .slice fa fn fc, .slice la L.length lc] 53))) (fun x _ => L.length - (intOf x).toNat)
  case atStart => exact ⟨0, rfl, Nat.zero_le _, fun v hv => (by simp at hv), HB0⟩
  case round =>
    obtain ⟨k, rfl, hk, hA, hS⟩ := hrel
    have k2 := cell_of_heap hS.out.2 3
    have z1 := lt_of_heap hS.out.2
    by_cases hlt : k < L.length
    · obtain ⟨v, hx⟩ : ∃ x, L[k]? = some x := ⟨_, List.getElem?_eq_getElem hlt⟩
      obtain ⟨b, off, rfl, hb, d0, d1, _⟩ := (HF.out.below hS.out.1).at hx
      have HX := Lib.hid hx
      have j1 : (0 : Int) ≤ (k : Int) := by omega
      have j2 : (k : Int) < (L.length : Int) := by omega
      clear hx
      by_cases h1 : v.r = r
      · by_cases h2 : v.c = c
        · have HN : Hid (IdxOf (ofB r c) L (k : Int)) := .inl ⟨k, v, rfl, HX.out, by simp [ofB, h1, h2]⟩
          rw [h1] at d0
          rw [h2] at d1
          clear h1 h2
          go_wp2
          refine bodyPost_ret (v := .int .i64 k) (by simp [results, Try.results29, go_sem]) rfl ⟨_, rfl, HN.out, hS.out.1⟩
        · have t2 : (v.c == c) = false := by simpa using h2
          have HN : Hid (∀ u ∈ L.take (k + 1), ofB r c u = false) := none_take hA.out HX.out (by simp [ofB, h2])
          rw [h1] at d0
          clear h1
          go_wp2
          go_roundw
          case rel => exact ⟨k + 1, by go_num, by omega, HN, hS⟩
          case measure => simp [intOf]; omega
      · have t1 : (v.r == r) = false := by simpa using h1
        have HN : Hid (∀ u ∈ L.take (k + 1), ofB r c u = false) := none_take hA.out HX.out (by simp [ofB, h1])
        go_wp2
        go_roundw
        case rel => exact ⟨k + 1, by go_num, by omega, HN, hS⟩
        case measure => simp [intOf]; omega
    · have HN : Hid (IdxOf (ofB r c) L (-1)) := by
        refine .inr ⟨rfl, ?_⟩
        have := hA.out
        rwa [List.take_of_length_le (by omega)] at this
      go_wp2
      refine bodyPost_ret (v := .int .i64 (-1)) (by simp [results, Try.results29, go_sem]) rfl ⟨_, rfl, HN.out, hS.out.1⟩
end Go.Proofs.Ytihfmcadcojjnaa
