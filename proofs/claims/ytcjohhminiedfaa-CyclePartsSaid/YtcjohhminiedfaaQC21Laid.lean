/- Cycle: laid. -/
import Derived.Test.YtcjohhminiedfaaQC21SizesP
namespace Go.Proofs.Ytcjohhminiedfaa
open Go.RowKit
/-- A row of pairs that is read. -/
def EdAt (w : World) (a : Option Addr) (l : List (Int × Int)) : Prop := ∀ (i : Nat) (p : Int × Int), l[i]? = some p → ∃ b off, a = some ⟨b, off, none⟩ ∧ b < w.heap.size ∧ w.cell? ⟨b, off + i * 2, none⟩ = some (.int .i64 p.1) ∧ w.cell? ⟨b, off + i * 2 + 1, none⟩ = some (.int .i64 p.2)
theorem EdAt.below {w w' : World} {a : Option Addr} {l : List (Int × Int)} (h : EdAt w a l) (hb : Below w.heap.size w w') : EdAt w' a l := fun i p hp => by
  obtain ⟨b, off, e, z, c1, c2⟩ := h i p hp
  exact ⟨b, off, e, Nat.lt_of_lt_of_le z hb.size, (hb.cell (p := ⟨b, off + i * 2, none⟩) z).trans c1, (hb.cell (p := ⟨b, off + i * 2 + 1, none⟩) z).trans c2⟩
/-- The edges that are put in. -/
def stepE (n : Nat) (t : Bool) (E : List (Nat × Nat)) (p : Int × Int) : List (Nat × Nat) := if t then addE n E p.2 p.1 else addE n E p.1 p.2
def laidE (n : Nat) (t : Bool) (l : List (Int × Int)) : List (Nat × Nat) := l.foldl (stepE n t) []
theorem stepE_ok {n : Nat} {t : Bool} {E : List (Nat × Nat)} (h : EOk n E) (p : Int × Int) : EOk n (stepE n t E p) := by
  unfold stepE
  split
  · exact h.add _ _
  · exact h.add _ _
theorem laidE_push (n : Nat) (t : Bool) (l : List (Int × Int)) (p : Int × Int) : laidE n t (l ++ [p]) = stepE n t (laidE n t l) p := by
  unfold laidE
  rw [List.foldl_append]
  rfl
theorem laidE_ok (n : Nat) (t : Bool) (l : List (Int × Int)) : EOk n (laidE n t l) := by
  have key : ∀ (l : List (Int × Int)) (E : List (Nat × Nat)), EOk n E → EOk n (l.foldl (stepE n t) E) := by
    intro l
    induction l with
    | nil => intro E h; exact h
    | cons p r ih => intro E h; exact ih _ (stepE_ok h p)
  exact key l [] (EOk.nil n)
theorem laidE_len (n : Nat) (t : Bool) (l : List (Int × Int)) : (laidE n t l).length ≤ l.length := by
  have key : ∀ (l : List (Int × Int)) (E : List (Nat × Nat)), (l.foldl (stepE n t) E).length ≤ E.length + l.length := by
    intro l
    induction l with
    | nil => intro E; exact Nat.le_refl _
    | cons p r ih =>
      intro E
      have h1 := ih (stepE n t E p)
      have h2 : (stepE n t E p).length ≤ E.length + 1 := by
        unfold stepE
        split <;> exact addE_len _ _ _ _
      rw [List.foldl_cons, List.length_cons]
      omega
  have h := key l []
  rw [List.length_nil, Nat.zero_add] at h
  exact h
theorem take_snoc {α : Type} {l : List α} {k : Nat} {p : α} (h : l[k]? = some p) : l.take (k + 1) = l.take k ++ [p] := by
  rw [List.take_add_one, h]
  rfl
set_option maxHeartbeats 2000000 in
set_option maxRecDepth 100000 in
theorem laid_any {w : World} {n : Nat} {a : Option Addr} {cap : Nat} {l : List (Int × Int)} {t : Bool} (hn : n ≤ 10000) (hl : l.length ≤ 100000) (hE : EdAt w a l) :
    Calls Try.prog 22 #[.int .i64 (n : Int), .slice a l.length cap, .bool t] w fun e w' => ∃ G, e = .returned G.pv ∧ GrE w.heap.size w' G n (laidE n t l) ∧ Below w.heap.size w w' := by
  have HE := Lib.hid hE
  obtain ⟨m, hm⟩ : ∃ m, l.length = m := ⟨_, rfl⟩
  have HM := Lib.hid hm
  rw [hm] at hl ⊢
  clear hm hE
  cases t with
  | true =>
    have C1 := Lib.hid (new_E (w := w) (n : Int) n (by omega))
    go_enter Try.func22, Try.ntmps22
    go_wp2_with fail
    refine C1.out.mono ?_
    rintro e w2 ⟨G, rfl, hG2, hb2⟩
    obtain ⟨p, hp⟩ : ∃ p, G.pv = .pointer (some p) := ⟨_, hG2.gr.ptr⟩
    have HP2 := Lib.hid hp
    have HG2 := Lib.hid hG2
    have HB2 := Lib.hid hb2
    rw [hp]
    clear hp hG2 hb2 C1
    go_wp2_with fail
    go_loopg [14] m (fun g i wr => ∃ (k : Nat) (G : Gb), i = .int .i64 (k : Int) ∧ g = m - k ∧ k ≤ m ∧ Hid (G.pv = .pointer (some p)) ∧ Hid (GrE w.heap.size wr G n (laidE n true (l.take k))) ∧ Hid (Below w.heap.size w wr))
    case atStart => exact ⟨0, G, rfl, rfl, Nat.zero_le _, HP2, HG2, HB2⟩
    case round =>
      obtain ⟨k, G, rfl, rfl, hk, hP, hG, hB⟩ := hrel
      by_cases hlt : k < m
      · obtain ⟨⟨x, y⟩, hx⟩ : ∃ x, l[k]? = some x := ⟨_, List.getElem?_eq_getElem (by rw [HM.out]; exact hlt)⟩
        obtain ⟨b, off, rfl, zb, c1, c2⟩ := HE.out k _ hx
        have zb' := Nat.lt_of_lt_of_le zb hB.out.size
        have c1' := (hB.out.cell (p := ⟨b, off + k * 2, none⟩) zb).trans c1
        have c2' := (hB.out.cell (p := ⟨b, off + k * 2 + 1, none⟩) zb).trans c2
        have TK := Lib.hid (take_snoc hx)
        have hlen : (laidE n true (l.take k)).length ≤ 1000000 := by
          have h1 := laidE_len n true (l.take k)
          rw [List.length_take] at h1
          omega
        have j1 : (0 : Int) ≤ (k : Int) := by omega
        have j2 : (k : Int) < (m : Int) := by omega
        clear c1 c2 zb hx
        go_wp2_with fail
        have C := edge_E hlen (hG.out.below (below_alloc wr (.cells #[.int .i64 x, .int .i64 y] 37) _ (Nat.le_refl _))) y x
        rw [hP.out] at C
        have C := Lib.hid C
        have hB4 : Below w.heap.size w (wr.alloc (.cells #[.int .i64 x, .int .i64 y] 37)) := hB.out.alloc hB.out.size _
        clear hG hB hlen c1' c2' zb' hP
        refine C.out.mono ?_
        rintro e w5 ⟨rfl, ⟨G5, hp5, hG5, _⟩, _, hB5⟩
        have HP5 := Lib.hid hp5
        have HB5 := Lib.hid (hB4.trans hB5)
        have HG5 : Hid (GrE w.heap.size w5 G5 n (laidE n true (l.take (k + 1)))) := by
          rw [TK.out, laidE_push]
          exact hG5
        clear hp5 hG5 hB4 hB5 C
        go_wp2_with fail
        go_roundg (m - (k + 1))
        case measure => omega
        case rel => exact ⟨k + 1, G5, by go_num, rfl, by omega, HP5, HG5, HB5⟩
      · have hT : l.take k = l := List.take_of_length_le (by rw [HM.out]; omega)
        rw [hT] at hG
        clear hT
        go_wp2_with fail
        refine bodyPost_ret (v := .pointer (some p)) (by simp [results, Try.results22, go_sem]) rfl ⟨G, by rw [hP.out], hG.out, hB.out⟩
  | false =>
    have C1 := Lib.hid (new_E (w := w) (n : Int) n (by omega))
    go_enter Try.func22, Try.ntmps22
    go_wp2_with fail
    refine C1.out.mono ?_
    rintro e w2 ⟨G, rfl, hG2, hb2⟩
    obtain ⟨p, hp⟩ : ∃ p, G.pv = .pointer (some p) := ⟨_, hG2.gr.ptr⟩
    have HP2 := Lib.hid hp
    have HG2 := Lib.hid hG2
    have HB2 := Lib.hid hb2
    rw [hp]
    clear hp hG2 hb2 C1
    go_wp2_with fail
    go_loopg [14] m (fun g i wr => ∃ (k : Nat) (G : Gb), i = .int .i64 (k : Int) ∧ g = m - k ∧ k ≤ m ∧ Hid (G.pv = .pointer (some p)) ∧ Hid (GrE w.heap.size wr G n (laidE n false (l.take k))) ∧ Hid (Below w.heap.size w wr))
    case atStart => exact ⟨0, G, rfl, rfl, Nat.zero_le _, HP2, HG2, HB2⟩
    case round =>
      obtain ⟨k, G, rfl, rfl, hk, hP, hG, hB⟩ := hrel
      by_cases hlt : k < m
      · obtain ⟨⟨x, y⟩, hx⟩ : ∃ x, l[k]? = some x := ⟨_, List.getElem?_eq_getElem (by rw [HM.out]; exact hlt)⟩
        obtain ⟨b, off, rfl, zb, c1, c2⟩ := HE.out k _ hx
        have zb' := Nat.lt_of_lt_of_le zb hB.out.size
        have c1' := (hB.out.cell (p := ⟨b, off + k * 2, none⟩) zb).trans c1
        have c2' := (hB.out.cell (p := ⟨b, off + k * 2 + 1, none⟩) zb).trans c2
        have TK := Lib.hid (take_snoc hx)
        have hlen : (laidE n false (l.take k)).length ≤ 1000000 := by
          have h1 := laidE_len n false (l.take k)
          rw [List.length_take] at h1
          omega
        have j1 : (0 : Int) ≤ (k : Int) := by omega
        have j2 : (k : Int) < (m : Int) := by omega
        clear c1 c2 zb hx
        go_wp2_with fail
        have C := edge_E hlen (hG.out.below (below_alloc wr (.cells #[.int .i64 x, .int .i64 y] 37) _ (Nat.le_refl _))) x y
        rw [hP.out] at C
        have C := Lib.hid C
        have hB4 : Below w.heap.size w (wr.alloc (.cells #[.int .i64 x, .int .i64 y] 37)) := hB.out.alloc hB.out.size _
        clear hG hB hlen c1' c2' zb' hP
        refine C.out.mono ?_
        rintro e w5 ⟨rfl, ⟨G5, hp5, hG5, _⟩, _, hB5⟩
        have HP5 := Lib.hid hp5
        have HB5 := Lib.hid (hB4.trans hB5)
        have HG5 : Hid (GrE w.heap.size w5 G5 n (laidE n false (l.take (k + 1)))) := by
          rw [TK.out, laidE_push]
          exact hG5
        clear hp5 hG5 hB4 hB5 C
        go_wp2_with fail
        go_roundg (m - (k + 1))
        case measure => omega
        case rel => exact ⟨k + 1, G5, by go_num, rfl, by omega, HP5, HG5, HB5⟩
      · have hT : l.take k = l := List.take_of_length_le (by rw [HM.out]; omega)
        rw [hT] at hG
        clear hT
        go_wp2_with fail
        refine bodyPost_ret (v := .pointer (some p)) (by simp [results, Try.results22, go_sem]) rfl ⟨G, by rw [hP.out], hG.out, hB.out⟩
end Go.Proofs.Ytcjohhminiedfaa
