/- Fill, by its walk. -/
import Derived.Test.YtihfmcadcojjnaaS23Board
namespace Go.Proofs.Ytihfmcadcojjnaa
open Go.RowKit
theorem bcell {W w1 : World} (hb : Below W.heap.size W w1) : (∀ b o, b < W.heap.size → w1.cell? ⟨b, o, none⟩ = W.cell? ⟨b, o, none⟩) ∧ (∀ b o, b < W.heap.size → w1.frozen? ⟨b, o, none⟩ = W.frozen? ⟨b, o, none⟩) :=
  ⟨fun b o h => hb.cell (p := ⟨b, o, none⟩) h, fun b o h => hb.frozen (p := ⟨b, o, none⟩) h⟩

set_option maxHeartbeats 400000 in
theorem has_any (p : Nat) (rows cols r c : Int) (w : World)
   (hr : w.cell? ⟨p, 0, none⟩ = some (.int .i64 rows)) (hc : w.cell? ⟨p, 1, none⟩ = some (.int .i64 cols)) :
    Calls Try.prog 22 #[.pointer (some ⟨p, 0, none⟩), .agg #[.int .i64 r, .int .i64 c]] w fun e w' => e = .returned (.bool (decide (0 ≤ r) && decide (r < rows) && decide (0 ≤ c) && decide (c < cols))) ∧ Below w.heap.size w w' := by
  have hp : p < w.heap.size := World.block_lt_of_cell? w _ hr
  have fin : ∀ (b : Bool) (n : Nat), b = (decide (0 ≤ r) && decide (r < rows) && decide (0 ≤ c) && decide (c < cols)) → Ending.returned (.bool b) = Ending.returned (.bool (decide (0 ≤ r) && decide (r < rows) && decide (0 ≤ c) && decide (c < cols))) ∧ Below w.heap.size w ((w.alloc (Obj.cells #[Value.int IntKind.i64 r, Value.int IntKind.i64 c] 72)).drewN n) := by
    intro b n hb
    exact ⟨by rw [hb], (below_alloc w _ _ (Nat.le_refl _)).trans (below_drewN _ _ _)⟩
  have FIN := Lib.hid fin
  clear fin
  by_cases h1 : 0 ≤ r
  · by_cases h2 : r < rows
    · by_cases h3 : 0 ≤ c
      · by_cases h4 : c < cols
        · go_enter Try.func22, Try.ntmps22
          go_wp2
          go_quiet (fail)
          go_wp2
          go_ret
          exact FIN.out _ _ (by simp [h1, h2, h3, h4])
        · have h4' : decide (c < cols) = false := by simpa using h4
          go_enter Try.func22, Try.ntmps22
          go_wp2
          go_quiet (fail)
          go_wp2
          go_ret
          exact FIN.out _ _ (by simp; omega)
      · have h3' : decide (0 ≤ c) = false := by simpa using h3
        go_enter Try.func22, Try.ntmps22
        go_wp2
        go_quiet (fail)
        go_wp2
        go_ret
        exact FIN.out _ _ (by simp; omega)
    · have h2' : decide (r < rows) = false := by simpa using h2
      go_enter Try.func22, Try.ntmps22
      go_wp2
      go_quiet (fail)
      go_wp2
      go_ret
      exact FIN.out _ _ (by simp; omega)
  · have h1' : decide (0 ≤ r) = false := by simpa using h1
    go_enter Try.func22, Try.ntmps22
    go_wp2
    go_quiet (fail)
    go_wp2
    go_ret
    exact FIN.out _ _ (by simp; omega)
theorem has_bd {w : World} {p : Nat} {S : Nat → Prop} {g : G} {bf ba bo : Nat} {sv : Value} (h : BdX w p S g bf ba bo sv) (r c : Int) :
    Calls Try.prog 22 #[.pointer (some ⟨p, 0, none⟩), .agg #[.int .i64 r, .int .i64 c]] w fun e w' => e = .returned (.bool (g.has r c)) ∧ Below w.heap.size w w' :=
  has_any p g.rows g.cols r c w (by rw [cell_of_heap h.head]; rfl) (by rw [cell_of_heap h.head]; rfl)
theorem has_bd_yes {w : World} {p : Nat} {S : Nat → Prop} {g : G} {bf ba bo : Nat} {sv : Value} (h : BdX w p S g bf ba bo sv) (r c : Int) (hy : g.has r c = true) :
    Calls Try.prog 22 #[.pointer (some ⟨p, 0, none⟩), .agg #[.int .i64 r, .int .i64 c]] w fun e w' => e = .returned (.bool true) ∧ Below w.heap.size w w' := by
  have := has_bd h r c
  rwa [hy] at this
theorem has_bd_no {w : World} {p : Nat} {S : Nat → Prop} {g : G} {bf ba bo : Nat} {sv : Value} (h : BdX w p S g bf ba bo sv) (r c : Int) (hy : g.has r c = false) :
    Calls Try.prog 22 #[.pointer (some ⟨p, 0, none⟩), .agg #[.int .i64 r, .int .i64 c]] w fun e w' => e = .returned (.bool false) ∧ Below w.heap.size w w' := by
  have := has_bd h r c
  rwa [hy] at this

theorem ownsRow_slice {w : World} {base : Nat} {e : TypeId} {size : Nat} {v : Value} {n : Nat} {xs : List Value} (h : w.ownsRow base e size v n xs) : ∃ a cap, v = .slice a n cap := by
  obtain ⟨_, h⟩ := h
  rcases h with ⟨h, h0⟩ | ⟨g, cap, cur, h, _⟩
  · exact ⟨none, 0, by rw [h, h0]⟩
  · exact ⟨_, _, h⟩

set_option maxHeartbeats 400000 in
theorem fill_any {w : World} {p : Nat} {S : Nat → Prop} {g : G} (h : IsBd w p S g) (r c : Int) :
    Calls Try.prog 11 #[.pointer (some ⟨p, 0, none⟩), .int .i64 r, .int .i64 c] w fun e w' => e = .returned (.bool (okFill g r c)) ∧ IsBd w' p S (gFill g r c) ∧ Fr S w w' := by
  obtain ⟨bf, ba, bo, sv, H⟩ := h
  have no : okFill g r c = false → ∀ w1 : World, Below w.heap.size w w1 → Ending.returned (.bool false) = .returned (.bool (okFill g r c)) ∧ IsBd w1 p S (gFill g r c) ∧ Fr S w w1 := by
    intro hok w1 hb
    refine ⟨by rw [hok], ?_, .of_below hb⟩
    unfold gFill
    rw [hok]
    exact ⟨bf, ba, bo, sv, H.below hb⟩
  have NO := Lib.hid no
  clear no
  by_cases hh : g.has r c = true
  · obtain ⟨a, cap, hsv⟩ := ownsRow_slice H.row
    by_cases hl : g.L = []
    · have yes : ∀ w1 w2 : World, Below w.heap.size w w1 → MapIs w2 bf encP Value.bool (putL g.F (r, c) true) → Fr (fun x => x = bf) w1 w2 → Ending.returned (.bool true) = .returned (.bool (okFill g r c)) ∧ IsBd w2 p S (gFill g r c) ∧ Fr S w w2 := by
        intro w1 w2 hb hm hf
        have hok : okFill g r c = true := by simp [okFill, hh, hl]
        refine ⟨by rw [hok], ⟨bf, ba, bo, sv, ?_⟩, (Fr.of_below hb).trans hf (fun i _ hi => by rw [hi]; exact H.sf)⟩
        unfold gFill
        rw [hok]
        exact (H.below hb).setF hm hf
      have YES := Lib.hid yes
      clear yes
      have hn : g.L.length = 0 := by simp [hl]
      rw [hn] at hsv
      have HH := Lib.hid hh
      have HL := Lib.hid hl
      clear hh hl hn NO
      go_enter Try.func11, Try.ntmps11
      go_wp2_with fail
      refine (has_bd_yes H r c HH.out).mono ?_
      rintro e w1 ⟨rfl, hb⟩
      have H1 := H.below hb
      rw [hsv] at H1
      obtain ⟨c0, c1, c2, c3, c4, c5⟩ := H1.cell
      obtain ⟨w2, hup, hm, hf, hsz⟩ := H1.mf.upd place_fits Try.underlying64 (r, c) true
      unfold encP at hup
      clear H1 hsz c4 c5
      go_wp2_with fail
      go_ret
      exact YES.out w1 w2 hb hm hf
    · have hpos : 0 < g.L.length := List.length_pos_iff.2 hl
      have hok : okFill g r c = false := by simp [okFill, hl]
      have N1 := Lib.hid (NO.out hok)
      have HH := Lib.hid hh
      clear hh hl hok NO
      go_enter Try.func11, Try.ntmps11
      go_wp2_with fail
      refine (has_bd_yes H r c HH.out).mono ?_
      rintro e w1 ⟨rfl, hb⟩
      have H1 := H.below hb
      rw [hsv] at H1
      obtain ⟨c0, c1, c2, c3, c4, c5⟩ := H1.cell
      clear H1 c4 c5
      go_wp2_with fail
      go_ret
      exact N1.out w1 hb
  · have hno : g.has r c = false := by simpa using hh
    have hok : okFill g r c = false := by simp [okFill, hno]
    have N1 := Lib.hid (NO.out hok)
    have HH := Lib.hid hno
    clear hh hno hok NO
    go_enter Try.func11, Try.ntmps11
    go_wp2_with fail
    refine (has_bd_no H r c HH.out).mono ?_
    rintro e w1 ⟨rfl, hb⟩
    go_wp2_with fail
    go_ret
    exact N1.out w1 hb
end Go.Proofs.Ytihfmcadcojjnaa
