/- judge whole; Decide where it tells an error. -/
import Derived.Test.YtihfmcadcojjnaaS23JudgeM
namespace Go.Proofs.Ytihfmcadcojjnaa
open Go.RowKit
theorem judge_any {w : World} {p : Nat} {S : Nat → Prop} {g : G} {bf ba bo : Nat} {sv : Value} (H : BdX w p S g bf ba bo sv) (r c rs cs : Int)
    (h1 : 0 ≤ r) (h2 : r < g.rows) (h3 : 0 ≤ c) (h4 : c < g.cols) (h5 : 1 ≤ rs) (h6 : rs ≤ 4096) (h7 : 1 ≤ cs) (h8 : cs ≤ 4096) :
    Calls Try.prog 23 #[.pointer (some ⟨p, 0, none⟩), .agg #[.int .i64 r, .int .i64 c, .int .i64 rs, .int .i64 cs]] w fun e w' => e = .returned (verV (gJudge g r c rs cs)) ∧ Below w.heap.size w w' := by
  cases hb : beyond g r c rs cs with
  | true => exact judge_beyond H r c rs cs h1 h2 h3 h4 hb
  | false => exact judge_main H r c rs cs h1 h2 h3 h4 h5 h6 h7 h8 hb
theorem judge_form (g : G) (r c rs cs : Int) : ∃ st kn br bc, gJudge g r c rs cs = ⟨r, c, rs, cs, st, kn, br, bc⟩ := by
  unfold gJudge
  split
  · exact ⟨_, _, _, _, rfl⟩
  · split
    · exact ⟨_, _, _, _, rfl⟩
    · exact ⟨_, _, _, _, rfl⟩
theorem BdX.mono {w : World} {p : Nat} {S S' : Nat → Prop} {g : G} {bf ba bo : Nat} {sv : Value} (H : BdX w p S g bf ba bo sv) (hs : ∀ k, S k → S' k) (hl : ∀ k, S' k → k < w.heap.size) : BdX w p S' g bf ba bo sv :=
  { H with
    sp := hs _ H.sp
    sf := hs _ H.sf
    sa := hs _ H.sa
    so := hs _ H.so
    sr := fun k hk => hs _ (H.sr k hk)
    lt := hl }
/-- What the blocks of a board may be behind a call. -/
abbrev Grow (S : Nat → Prop) (w w' : World) (b : Nat) : Prop := S b ∨ (w.heap.size ≤ b ∧ b < w'.heap.size)
def DecPost (w : World) (p : Nat) (S : Nat → Prop) (g : G) (r c rs cs : Int) (e : Ending) (w' : World) : Prop :=
  e = .returned (.tuple #[.bool (gStands g r c rs cs), .int .i64 (gErr g r c rs cs)]) ∧ IsBd w' p (Grow S w w') (gDecide g r c rs cs) ∧ Fr S w w'
theorem dec_no {w w' : World} {p : Nat} {S : Nat → Prop} {g : G} {bf ba bo : Nat} {sv : Value} (H : BdX w p S g bf ba bo sv) {r c rs cs : Int} {x : Int} (hx : gErr g r c rs cs = x) (h0 : x ≠ 0) (hb : Below w.heap.size w w') :
    DecPost w p S g r c rs cs (.returned (.tuple #[.bool false, .int .i64 x])) w' := by
  refine ⟨?_, ⟨bf, ba, bo, sv, ?_⟩, .of_below hb⟩
  · have : gStands g r c rs cs = false := by unfold gStands; rw [hx, decide_eq_false h0]; rfl
    rw [this, hx]
  · have : gDecide g r c rs cs = g := by unfold gDecide; rw [hx, if_neg h0]
    rw [this]
    refine (H.below hb).mono (fun k hk => .inl hk) (fun k hk => ?_)
    rcases hk with hk | hk
    · exact Nat.lt_of_lt_of_le (H.lt k hk) hb.size
    · exact hk.2
theorem below_two {w w1 w' : World} {o : Obj} (h1 : Below (w.alloc o).heap.size (w.alloc o) w1) (h2 : Below w1.heap.size w1 w') : Below w.heap.size w w' :=
  (below_alloc w o _ (Nat.le_refl _)).trans ((h1.mono (by simp)).trans (h2.mono (by have := h1.size; simp at this; omega)))
theorem heap_two {w w1 : World} {o : Obj} (h1 : Below (w.alloc o).heap.size (w.alloc o) w1) : w1.heap[w.heap.size]? = some o :=
  (h1.block _ (by simp)).trans (heap_alloc_new w o)

set_option maxHeartbeats 1000000 in
set_option maxRecDepth 100000 in
theorem dec_range {w : World} {p : Nat} {S : Nat → Prop} {g : G} {bf ba bo : Nat} {sv : Value} (H : BdX w p S g bf ba bo sv) (r c rs cs : Int) (he : gErr g r c rs cs = 2) :
    Calls Try.prog 12 #[.pointer (some ⟨p, 0, none⟩), .int .i64 r, .int .i64 c, .int .i64 rs, .int .i64 cs] w (DecPost w p S g r c rs cs) := by
  have NO : Hid (∀ w', Below w.heap.size w w' → DecPost w p S g r c rs cs (.returned (.tuple #[.bool false, .int .i64 2])) w') := fun w' hb => dec_no H he (by decide) hb
  by_cases hh : g.has r c = true
  · by_cases h1 : rs < 1
    · clear he
      go_enter Try.func12, Try.ntmps12
      go_wp2_with fail
      refine (has_bd_yes (H.below (below_alloc w _ _ (Nat.le_refl _))) r c hh).mono ?_
      rintro e w1 ⟨rfl, hb⟩
      have FB := Lib.hid (below_two hb (Below.refl _ _))
      clear hb
      go_wp2_with fail
      go_ret2
      exact NO.out _ FB.out
    · by_cases h2 : cs < 1
      · clear he
        go_enter Try.func12, Try.ntmps12
        go_wp2_with fail
        refine (has_bd_yes (H.below (below_alloc w _ _ (Nat.le_refl _))) r c hh).mono ?_
        rintro e w1 ⟨rfl, hb⟩
        have FB := Lib.hid (below_two hb (Below.refl _ _))
        clear hb
        go_wp2_with fail
        go_ret2
        exact NO.out _ FB.out
      · have h3 : 4096 / cs < rs := by
          unfold gErr at he
          rw [hh] at he
          simp only [Bool.true_eq_false, false_or] at he
          by_cases h3 : 4096 / cs < rs
          · exact h3
          · rw [if_neg (by omega)] at he
            split at he
            · cases he
            · split at he <;> cases he
        clear he
        go_enter Try.func12, Try.ntmps12
        go_wp2_with fail
        refine (has_bd_yes (H.below (below_alloc w _ _ (Nat.le_refl _))) r c hh).mono ?_
        rintro e w1 ⟨rfl, hb⟩
        have FB := Lib.hid (below_two hb (Below.refl _ _))
        clear hb
        go_wp2_with fail
        go_ret2
        exact NO.out _ FB.out
  · have hno : g.has r c = false := by simpa using hh
    clear he hh
    go_enter Try.func12, Try.ntmps12
    go_wp2_with fail
    refine (has_bd_no (H.below (below_alloc w _ _ (Nat.le_refl _))) r c hno).mono ?_
    rintro e w1 ⟨rfl, hb⟩
    have FB := Lib.hid (below_two hb (Below.refl _ _))
    clear hb
    go_wp2_with fail
    go_ret2
    exact NO.out _ FB.out
theorem err_ok {g : G} {r c rs cs : Int} (he : gErr g r c rs cs ≠ 2) : g.has r c = true ∧ 1 ≤ rs ∧ 1 ≤ cs ∧ rs ≤ 4096 / cs := by
  unfold gErr at he
  by_cases h : g.has r c = false ∨ rs < 1 ∨ cs < 1 ∨ 4096 / cs < rs
  · rw [if_pos h] at he; exact absurd rfl he
  · cases hh : g.has r c with
    | false => exact absurd (.inl hh) h
    | true => exact ⟨rfl, by omega, by omega, by omega⟩
theorem cs_le {rs cs : Int} (h1 : 1 ≤ rs) (h2 : 1 ≤ cs) (h3 : rs ≤ 4096 / cs) : rs ≤ 4096 ∧ cs ≤ 4096 := by
  have e : cs * (4096 / cs) ≤ 4096 := Int.mul_ediv_self_le (by omega)
  have a : cs * 1 ≤ cs * (4096 / cs) := Int.mul_le_mul_of_nonneg_left (by omega) (by omega)
  have b : 1 * (4096 / cs) ≤ cs * (4096 / cs) := Int.mul_le_mul_of_nonneg_right h2 (by omega)
  omega
end Go.Proofs.Ytihfmcadcojjnaa
