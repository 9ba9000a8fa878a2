/- Decide whole; Owner, verdict, Blocker. -/
import Derived.Test.YtihfmcadcojjnaaS23Dec4
namespace Go.Proofs.Ytihfmcadcojjnaa
open Go.RowKit
theorem decide_any {w : World} {p : Nat} {S : Nat → Prop} {g : G} (h : IsBd w p S g) (hLn : g.L.length ≤ 1000000) (r c rs cs : Int) :
    Calls Try.prog 12 #[.pointer (some ⟨p, 0, none⟩), .int .i64 r, .int .i64 c, .int .i64 rs, .int .i64 cs] w (DecPost w p S g r c rs cs) := by
  obtain ⟨bf, ba, bo, sv, H⟩ := h
  have hcase : gErr g r c rs cs = 2 ∨ gErr g r c rs cs = 3 ∨ gErr g r c rs cs = 4 ∨ gErr g r c rs cs = 0 := by
    unfold gErr
    split
    · exact .inl rfl
    · split
      · exact .inr (.inl rfl)
      · split
        · exact .inr (.inr (.inl rfl))
        · exact .inr (.inr (.inr rfl))
  rcases hcase with he | he | he | he
  · exact dec_range H r c rs cs he
  · exact dec_none H r c rs cs he
  · exact dec_twice H r c rs cs he
  · obtain ⟨st, kn, br, bc, hj⟩ := judge_form g r c rs cs
    cases st with
    | true => exact dec_stands H hLn r c rs cs kn br bc he hj
    | false => exact dec_barred H hLn r c rs cs kn br bc he hj

def ownerR (g : G) (r c : Int) : R4 := (getL g.O (r, c)).getD (0, 0, 0, 0)
set_option maxHeartbeats 1000000 in
theorem owner_any {w : World} {p : Nat} {S : Nat → Prop} {g : G} (h : IsBd w p S g) (r c : Int) :
    Calls Try.prog 13 #[.pointer (some ⟨p, 0, none⟩), .int .i64 r, .int .i64 c] w fun e w' => e = .returned (.tuple #[encR (ownerR g r c), .bool (getL g.O (r, c)).isSome]) ∧ Below w.heap.size w w' := by
  obtain ⟨bf, ba, bo, sv, H⟩ := h
  have H0 := H.below (below_alloc w (.cells #[.int .i64 0, .int .i64 0, .int .i64 0, .int .i64 0] 38) _ (Nat.le_refl _))
  have hl := H0.mo.look2 place_fits Try.underlying66 (zero38 _) (r, c)
  have hv : ((getL g.O (r, c)).map encR).getD (encR (0, 0, 0, 0)) = encR (ownerR g r c) := by
    unfold ownerR
    cases getL g.O (r, c) <;> rfl
  rw [hv] at hl
  generalize (getL g.O (r, c)).isSome = ob at hl ⊢
  obtain ⟨⟨o1, o2, o3, o4⟩, ho⟩ : ∃ o, ownerR g r c = o := ⟨_, rfl⟩
  rw [ho] at hl ⊢
  unfold encR at hl ⊢
  unfold encP at hl
  simp only at hl ⊢
  obtain ⟨_, _, _, _, _, c5⟩ := H.cell
  have hp : p < w.heap.size := H.lt p H.sp
  clear hv ho H H0
  go_enter Try.func13, Try.ntmps13
  go_wp2
  refine bodyPost_ret (v := .tuple #[.agg #[.int .i64 o1, .int .i64 o2, .int .i64 o3, .int .i64 o4], .bool ob]) (by simp [results, Try.results13, go_sem]) rfl ⟨rfl, ?_⟩
  (repeat (first | with_reducible exact Below.refl _ _ | with_reducible exact hBW | with_reducible refine Below.setCell ?_ ?_ _ | with_reducible refine Below.alloc ?_ ?_ _ | with_reducible refine belowN ?_ _ | with_reducible refine Below.drew ?_)); all_goals (first | omega | (dsimp only; omega) | ((repeat (first | with_reducible refine le_alloc ?_ | with_reducible refine le_setCell ?_ | with_reducible refine le_drew ?_ | with_reducible refine le_drewN ?_)); omega))

/-- The map of anchors leads into the list. -/
def WfA (g : G) : Prop := ∀ k n, getL g.A k = some n → ∃ m : Nat, n = (m : Int) ∧ ∃ v, g.L[m]? = some v ∧ (v.r, v.c) = k
def verdictOf (g : G) (r c : Int) : Ver := match getL g.A (r, c) with | some n => (g.L[n.toNat]?).getD ⟨0, 0, 0, 0, false, false, 0, 0⟩ | none => ⟨0, 0, 0, 0, false, false, 0, 0⟩

set_option maxHeartbeats 1000000 in
theorem verdict_none {w : World} {p : Nat} {S : Nat → Prop} {g : G} {bf ba bo : Nat} {sv : Value} (H : BdX w p S g bf ba bo sv) (r c : Int) (hn : getL g.A (r, c) = none) :
    Calls Try.prog 24 #[.pointer (some ⟨p, 0, none⟩), .int .i64 r, .int .i64 c] w fun e w' => e = .returned (.tuple #[verV ⟨0, 0, 0, 0, false, false, 0, 0⟩, .bool false]) ∧ Below w.heap.size w w' := by
  have H0 := H.below (below_alloc w (.cells #[.int .i64 0, .int .i64 0, .int .i64 0, .int .i64 0, .bool false, .bool false, .int .i64 0, .int .i64 0] 75) _ (Nat.le_refl _))
  have hl := H0.ma.look2 place_fits Try.underlying65 (zero3 _) (r, c)
  rw [hn] at hl
  unfold encP at hl
  simp only [Option.map_none, Option.getD_none, Option.isSome_none] at hl
  obtain ⟨_, _, _, _, c4, _⟩ := H.cell
  have hp : p < w.heap.size := H.lt p H.sp
  clear H H0 hn
  go_enter Try.func24, Try.ntmps24
  go_wp2
  refine bodyPost_ret (v := .tuple #[verV ⟨0, 0, 0, 0, false, false, 0, 0⟩, .bool false]) (by simp [results, Try.results24, go_sem, verV]) rfl ⟨rfl, ?_⟩
  (repeat (first | with_reducible exact Below.refl _ _ | with_reducible exact hBW | with_reducible refine Below.setCell ?_ ?_ _ | with_reducible refine Below.alloc ?_ ?_ _ | with_reducible refine belowN ?_ _ | with_reducible refine Below.drew ?_)); all_goals (first | omega | (dsimp only; omega) | ((repeat (first | with_reducible refine le_alloc ?_ | with_reducible refine le_setCell ?_ | with_reducible refine le_drew ?_ | with_reducible refine le_drewN ?_)); omega))
theorem BdX.ver {w : World} {p : Nat} {S : Nat → Prop} {g : G} {bf ba bo : Nat} {sv : Value} (H : BdX w p S g bf ba bo sv) {n : Nat} {v : Ver} (hv : g.L[n]? = some v) :
    ∃ gb cap, sv = .slice (some ⟨gb, 0, none⟩) g.L.length cap ∧ gb < w.heap.size ∧ ∀ i, i < 8 → w.cell? ⟨gb, n * 8 + i, none⟩ = (cellsV v)[i]? := by
  have hlt : n < g.L.length := (List.getElem?_eq_some_iff.1 hv).1
  obtain ⟨h1, h2⟩ := H.row
  rcases h2 with ⟨_, h0⟩ | ⟨gb, cap, cur, hs, _, hh, hn, _, hsz, ht⟩
  · omega
  · refine ⟨gb, cap, hs, lt_of_heap hh, fun i hi => ?_⟩
    rw [cell_of_heap hh, ← flat_get g.L n i v hv hi, ← ht, List.getElem?_take_of_lt (by omega)]
    simp
set_option maxHeartbeats 1000000 in
theorem verdict_some {w : World} {p : Nat} {S : Nat → Prop} {g : G} {bf ba bo : Nat} {sv : Value} (H : BdX w p S g bf ba bo sv) (r c : Int) (n : Nat) (v : Ver) (hn : getL g.A (r, c) = some (n : Int)) (hv : g.L[n]? = some v) (_hLn : g.L.length ≤ 1000000) :
    Calls Try.prog 24 #[.pointer (some ⟨p, 0, none⟩), .int .i64 r, .int .i64 c] w fun e w' => e = .returned (.tuple #[verV v, .bool true]) ∧ Below w.heap.size w w' := by
  have H0 := H.below (below_alloc w (.cells #[.int .i64 0, .int .i64 0, .int .i64 0, .int .i64 0, .bool false, .bool false, .int .i64 0, .int .i64 0] 75) _ (Nat.le_refl _))
  have hl := H0.ma.look2 place_fits Try.underlying65 (zero3 _) (r, c)
  rw [hn] at hl
  unfold encP at hl
  simp only [Option.map_some, Option.getD_some, Option.isSome_some] at hl
  obtain ⟨_, _, _, c3, c4, _⟩ := H.cell
  have hp : p < w.heap.size := H.lt p H.sp
  have hlt : n < g.L.length := (List.getElem?_eq_some_iff.1 hv).1
  obtain ⟨gb, cap, rfl, hgb, hcell⟩ := H.ver hv
  have e0 := hcell 0 (by omega)
  rw [Nat.add_zero] at e0
  have e1 := hcell 1 (by omega)
  have e2 := hcell 2 (by omega)
  have e3 := hcell 3 (by omega)
  have e4 := hcell 4 (by omega)
  have e5 := hcell 5 (by omega)
  have e6 := hcell 6 (by omega)
  have e7 := hcell 7 (by omega)
  unfold cellsV at e0 e1 e2 e3 e4 e5 e6 e7
  clear H H0 hn hcell hv
  go_enter Try.func24, Try.ntmps24
  go_wp2
  refine bodyPost_ret (v := .tuple #[verV v, .bool true]) (by simp [results, Try.results24, go_sem, verV]) rfl ⟨rfl, ?_⟩
  (repeat (first | with_reducible exact Below.refl _ _ | with_reducible exact hBW | with_reducible refine Below.setCell ?_ ?_ _ | with_reducible refine Below.alloc ?_ ?_ _ | with_reducible refine belowN ?_ _ | with_reducible refine Below.drew ?_)); all_goals (first | omega | (dsimp only; omega) | ((repeat (first | with_reducible refine le_alloc ?_ | with_reducible refine le_setCell ?_ | with_reducible refine le_drew ?_ | with_reducible refine le_drewN ?_)); omega))

theorem verdict_any {w : World} {p : Nat} {S : Nat → Prop} {g : G} {bf ba bo : Nat} {sv : Value} (H : BdX w p S g bf ba bo sv) (hA : WfA g) (hLn : g.L.length ≤ 1000000) (r c : Int) :
    Calls Try.prog 24 #[.pointer (some ⟨p, 0, none⟩), .int .i64 r, .int .i64 c] w fun e w' => e = .returned (.tuple #[verV (verdictOf g r c), .bool (getL g.A (r, c)).isSome]) ∧ Below w.heap.size w w' := by
  unfold verdictOf
  cases hn : getL g.A (r, c) with
  | none => exact verdict_none H r c hn
  | some n =>
    obtain ⟨m, rfl, v, hv, _⟩ := hA _ _ hn
    simp only [Int.toNat_natCast, hv, Option.getD_some, Option.isSome_some]
    exact verdict_some H r c m v hn hv hLn
set_option maxHeartbeats 1000000 in
theorem blocker_any {w : World} {p : Nat} {S : Nat → Prop} {g : G} (h : IsBd w p S g) (hA : WfA g) (hLn : g.L.length ≤ 1000000) (r c : Int) :
    Calls Try.prog 14 #[.pointer (some ⟨p, 0, none⟩), .int .i64 r, .int .i64 c] w fun e w' => e = .returned (.tuple #[.int .i64 (verdictOf g r c).br, .int .i64 (verdictOf g r c).bc, .bool (verdictOf g r c).kn]) ∧ Below w.heap.size w w' := by
  obtain ⟨bf, ba, bo, sv, H⟩ := h
  have hc := verdict_any H hA hLn r c
  generalize (getL g.A (r, c)).isSome = ob at hc
  generalize verdictOf g r c = v at hc ⊢
  have HC := Lib.hid hc
  clear hc H hA
  go_enter Try.func14, Try.ntmps14
  go_wp2_with fail
  refine HC.out.mono ?_
  rintro e w1 ⟨rfl, hb⟩
  unfold verV
  have FB := Lib.hid hb
  clear hb HC
  go_wp2_with fail
  refine abs_world ?_
  intro W1 hW1
  have hB1 : Below w1.heap.size w1 W1 := by rw [hW1]; (repeat (first | with_reducible exact Below.refl _ _ | with_reducible exact hBW | with_reducible refine Below.setCell ?_ ?_ _ | with_reducible refine Below.alloc ?_ ?_ _ | with_reducible refine belowN ?_ _ | with_reducible refine Below.drew ?_)); all_goals (first | omega | (dsimp only; omega) | ((repeat (first | with_reducible refine le_alloc ?_ | with_reducible refine le_setCell ?_ | with_reducible refine le_drew ?_ | with_reducible refine le_drewN ?_)); omega))
  have ev : W1.heap[w1.heap.size]? = some (.cells #[.int .i64 v.r, .int .i64 v.c, .int .i64 v.rs, .int .i64 v.cs, .bool v.st, .bool v.kn, .int .i64 v.br, .int .i64 v.bc] 75) := by rw [hW1]; (repeat (first | (with_reducible refine heap_alloc_at ?_ _; (first | rfl | (simp; done) | omega | (simp; omega)); done) | with_reducible refine heap_alloc_old ?_ _ | with_reducible refine heap_drew_old ?_ | with_reducible refine heap_drewN_old ?_))
  have hv1 : w1.heap.size < W1.heap.size := lt_of_heap ev
  have k5 := cell_of_heap ev 5
  have k6 := cell_of_heap ev 6
  have k7 := cell_of_heap ev 7
  have FB2 := Lib.hid (FB.out.trans (hB1.mono FB.out.size))
  clear hW1 hB1 FB ev
  refine wp_region_mix [0, 1, 2, 3, 4, 5, 6, 7, 8, 9, 10] [] [] (Below W1.heap.size W1) (by kernel_rfl) (by kernel_rfl) (Below.refl _ _).drew ?_
  iterate 11 (first | (apply first_step; (rw [List.getElem?_toArray]; (repeat rw [List.getElem?_cons_succ]); rw [List.getElem?_cons_zero]); rfl; (intro W hB; have hc := bcellB hB; go_simp; (first | done | rfl)); go_frame) | (apply first_skip; (rw [List.getElem?_toArray]; (repeat rw [List.getElem?_cons_succ]); rw [List.getElem?_cons_zero]); rfl; go_frame))
  refine first_done ?_
  refine tail_done ?_
  go_wp2_with fail
  go_ret3
  exact ⟨rfl, FB2.out.drew⟩
end Go.Proofs.Ytihfmcadcojjnaa
