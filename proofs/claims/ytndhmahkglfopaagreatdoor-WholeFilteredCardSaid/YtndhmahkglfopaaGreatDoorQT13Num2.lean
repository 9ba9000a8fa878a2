/- When a number may be: the document's answer; a value's answer. -/
import Derived.Test.YtndhmahkglfopaaGreatDoorQBase
namespace Go.Proofs.YtndhmahkglfopaaGreatDoor
open Go.RowKit
set_option maxHeartbeats 1000000 in
set_option maxRecDepth 100000 in
theorem of_any (m e : Int) (h : Small m) (w : World) : Calls Tryz.prog 96 #[.agg #[.int .i64 m, .int .i64 e]] w fun r w' => (∃ b a cap, r = .returned (.agg #[.bool b, .slice a (nd m.natAbs) cap, .int .i64 e])) ∧ Below w.heap.size w w' := by
  have HD := Lib.hid (digits_any m h)
  clear h
  generalize nd m.natAbs = N at HD ⊢
  go_enter Tryz.func96, Tryz.ntmps96
  go_wp2_with fail
  refine abs_world ?_
  intro W1 hW1
  have hB1 : Hid (Below w.heap.size w W1) := by rw [hW1]; unfold Hid; (repeat with_reducible (first | exact bw0 _ _ | exact hBW | refine bw1 ?_ ?_ _ | refine bw2 ?_ ?_ _ | refine bw3 ?_ _ | refine bw4 ?_)); all_goals (first | omega | (dsimp only; omega) | ((repeat with_reducible (first | refine lz1 ?_ | refine lz2 ?_ | refine lz3 ?_ | refine lz4 ?_)); omega))
  have ev : W1.heap[w.heap.size]? = some (.cells #[.int .i64 m, .int .i64 e] 32) := by rw [hW1]; (repeat (first | (with_reducible refine bw5 ?_ _; (first | rfl | (simp; done) | omega | (simp; omega)); done) | with_reducible refine bw6 ?_ _ | with_reducible refine bw7 ?_ | with_reducible refine bw8 ?_))
  have er : W1.heap[w.heap.size + 1]? = some (.cells #[.bool false, .slice none 0 0, .int .i64 0] 78) := by rw [hW1]; (repeat (first | (with_reducible refine bw5 ?_ _; (first | rfl | (simp; done) | omega | (simp; omega)); done) | with_reducible refine bw6 ?_ _ | with_reducible refine bw7 ?_ | with_reducible refine bw8 ?_))
  have k0 := cell_of_heap ev 0
  have k1 := cell_of_heap ev 1
  have z1 := lt_of_heap ev
  have ER := Lib.hid er
  clear hW1 ev er
  refine wp_region_mix [0, 1, 2, 3, 4, 6, 7] [5, 8, 9] [8, 9] (Below W1.heap.size W1) (by kernel_rfl) (by kernel_rfl) (Below.refl _ _).drew ?_
  iterate 7 (first | (apply first_step; (rw [List.getElem?_toArray]; (repeat rw [List.getElem?_cons_succ]); rw [List.getElem?_cons_zero]); rfl; (intro W hB; have hc := bcellB hB; go_simp; (first | done | rfl)); go_frame) | (apply first_skip; (rw [List.getElem?_toArray]; (repeat rw [List.getElem?_cons_succ]); rw [List.getElem?_cons_zero]); rfl; go_frame))
  refine first_done ?_
  apply tail_step; (rw [List.getElem?_toArray]; (repeat rw [List.getElem?_cons_succ]); rw [List.getElem?_cons_zero]); rfl; rfl; intro K hK; go_simp
  refine (HD.out _).mono ?_
  rintro r w2 ⟨⟨a, cap, rfl⟩, hb2⟩
  have hb2' : Below W1.heap.size W1 w2 := (Below.refl _ W1).drew.trans hb2
  refine hK _ _ (fun _ => hb2') ?_
  clear hK K
  have er2 := (hb2'.block _ (lt_of_heap ER.out)).trans ER.out
  have x2 := cell_of_heap er2
  have y2 := frozen_of_heap er2
  have z2 := lt_of_heap er2
  have HB2 := Lib.hid (hB1.out.trans (hb2'.mono hB1.out.size))
  clear hb2 hb2' er2 k0 k1
  (apply tail_step; (rw [List.getElem?_toArray]; (repeat rw [List.getElem?_cons_succ]); rw [List.getElem?_cons_zero]); rfl; rfl; intro K hK; go_simp; refine hK _ _ (fun h => absurd (by decide) h) ?_; clear hK K)
  (apply tail_step; (rw [List.getElem?_toArray]; (repeat rw [List.getElem?_cons_succ]); rw [List.getElem?_cons_zero]); rfl; rfl; intro K hK; go_simp; refine hK _ _ (fun h => absurd (by decide) h) ?_; clear hK K)
  refine tail_done ?_
  go_wp2_with fail
  have hBW := HB2.out
  refine bodyPost_ret (v := .agg #[.bool (decide (m < 0)), .slice a N cap, .int .i64 e]) (by simp [results, Tryz.results96, go_sem, x2]) rfl ⟨⟨_, _, _, rfl⟩, ?_⟩
  (repeat with_reducible (first | exact bw0 _ _ | exact hBW | refine bw1 ?_ ?_ _ | refine bw2 ?_ ?_ _ | refine bw3 ?_ _ | refine bw4 ?_)); all_goals (first | omega | (dsimp only; omega) | ((repeat with_reducible (first | refine lz1 ?_ | refine lz2 ?_ | refine lz3 ?_ | refine lz4 ?_)); omega))
theorem numR_no {m e : Int} (h0 : m ≠ 0) (h : ¬ (m.natAbs < 1000000000000000 ∧ m.natAbs % 10 ≠ 0 ∧ -40 ≤ e ∧ e ≤ 40 ∧ (nd m.natAbs : Int) + e ≤ 40)) : numR m e = false := by
  unfold numR
  rw [if_neg h0]
  exact decide_eq_false h
theorem numR_at {m e : Int} (h0 : m ≠ 0) (h1 : m.natAbs < 1000000000000000) (h2 : m.natAbs % 10 ≠ 0) (h3 : -40 ≤ e) (h4 : e ≤ 40) : numR m e = decide ((nd m.natAbs : Int) + e ≤ 40) := by
  unfold numR
  rw [if_neg h0]
  apply decide_eq_decide.2
  exact ⟨fun h => h.2.2.2.2, fun h => ⟨h1, h2, h3, h4, h⟩⟩
theorem tmod10 (m : Int) : m.tmod 10 = 0 ↔ m.natAbs % 10 = 0 := by
  rw [← Int.natAbs_eq_zero, Int.natAbs_tmod]
  rfl
set_option maxHeartbeats 1000000 in
set_option maxRecDepth 100000 in
theorem refNum_any (m e : Int) (w : World) : Calls Tryz.prog 51 #[.agg #[.int .i64 m, .int .i64 e]] w fun r w' => r = .returned (.bool (numR m e)) ∧ Below w.heap.size w w' := by
  by_cases h0 : m = 0
  · subst h0
    have hr : numR 0 e = (e == 0) := by unfold numR; rw [if_pos rfl]; by_cases h : e = 0 <;> simp [h]
    rw [hr]
    clear hr
    go_enter Tryz.func51, Tryz.ntmps51
    go_wp2_with fail
    go_ret
    refine ⟨rfl, ?_⟩
    (repeat with_reducible (first | exact bw0 _ _ | exact hBW | refine bw1 ?_ ?_ _ | refine bw2 ?_ ?_ _ | refine bw3 ?_ _ | refine bw4 ?_)); all_goals (first | omega | (dsimp only; omega) | ((repeat with_reducible (first | refine lz1 ?_ | refine lz2 ?_ | refine lz3 ?_ | refine lz4 ?_)); omega))
  · have n0 : (m == 0) = false := by simpa using h0
    by_cases h1 : 1000000000000000 ≤ m
    · rw [numR_no h0 (by omega)]
      have t1 : decide (1000000000000000 ≤ m) = true := by simpa using h1
      clear h1
      go_enter Tryz.func51, Tryz.ntmps51
      go_wp2_with fail
      go_ret
      refine ⟨rfl, ?_⟩
      (repeat with_reducible (first | exact bw0 _ _ | exact hBW | refine bw1 ?_ ?_ _ | refine bw2 ?_ ?_ _ | refine bw3 ?_ _ | refine bw4 ?_)); all_goals (first | omega | (dsimp only; omega) | ((repeat with_reducible (first | refine lz1 ?_ | refine lz2 ?_ | refine lz3 ?_ | refine lz4 ?_)); omega))
    · have t1 : decide (1000000000000000 ≤ m) = false := by simpa using h1
      by_cases h2 : m ≤ -1000000000000000
      · rw [numR_no h0 (by omega)]
        have t2 : decide (m ≤ -1000000000000000) = true := by simpa using h2
        clear h1 h2
        go_enter Tryz.func51, Tryz.ntmps51
        go_wp2_with fail
        go_ret
        refine ⟨rfl, ?_⟩
        (repeat with_reducible (first | exact bw0 _ _ | exact hBW | refine bw1 ?_ ?_ _ | refine bw2 ?_ ?_ _ | refine bw3 ?_ _ | refine bw4 ?_)); all_goals (first | omega | (dsimp only; omega) | ((repeat with_reducible (first | refine lz1 ?_ | refine lz2 ?_ | refine lz3 ?_ | refine lz4 ?_)); omega))
      · have t2 : decide (m ≤ -1000000000000000) = false := by simpa using h2
        have hs : Small m := by unfold Small; omega
        by_cases h3 : m.tmod 10 = 0
        · rw [numR_no h0 (fun h => h.2.1 ((tmod10 m).1 h3))]
          clear h1 h2
          go_enter Tryz.func51, Tryz.ntmps51
          go_wp2_with fail
          go_ret
          refine ⟨rfl, ?_⟩
          (repeat with_reducible (first | exact bw0 _ _ | exact hBW | refine bw1 ?_ ?_ _ | refine bw2 ?_ ?_ _ | refine bw3 ?_ _ | refine bw4 ?_)); all_goals (first | omega | (dsimp only; omega) | ((repeat with_reducible (first | refine lz1 ?_ | refine lz2 ?_ | refine lz3 ?_ | refine lz4 ?_)); omega))
        · have h3' : m.natAbs % 10 ≠ 0 := fun h => h3 ((tmod10 m).2 h)
          have t3 : (m.tmod 10 == 0) = false := by simpa using h3
          by_cases h4 : e < -40
          · rw [numR_no h0 (by omega)]
            clear h1 h2 h3
            go_enter Tryz.func51, Tryz.ntmps51
            go_wp2_with fail
            go_ret
            refine ⟨rfl, ?_⟩
            (repeat with_reducible (first | exact bw0 _ _ | exact hBW | refine bw1 ?_ ?_ _ | refine bw2 ?_ ?_ _ | refine bw3 ?_ _ | refine bw4 ?_)); all_goals (first | omega | (dsimp only; omega) | ((repeat with_reducible (first | refine lz1 ?_ | refine lz2 ?_ | refine lz3 ?_ | refine lz4 ?_)); omega))
          · by_cases h5 : 40 < e
            · rw [numR_no h0 (by omega)]
              clear h1 h2 h3
              go_enter Tryz.func51, Tryz.ntmps51
              go_wp2_with fail
              go_ret
              refine ⟨rfl, ?_⟩
              (repeat with_reducible (first | exact bw0 _ _ | exact hBW | refine bw1 ?_ ?_ _ | refine bw2 ?_ ?_ _ | refine bw3 ?_ _ | refine bw4 ?_)); all_goals (first | omega | (dsimp only; omega) | ((repeat with_reducible (first | refine lz1 ?_ | refine lz2 ?_ | refine lz3 ?_ | refine lz4 ?_)); omega))
            · rw [numR_at h0 (by omega) h3' (by omega) (by omega)]
              have HO := Lib.hid (of_any m e hs)
              have hd15 := nd_le 15 m.natAbs (by unfold Small at hs; omega)
              generalize nd m.natAbs = D at HO hd15 ⊢
              clear h1 h2 h3 h3' hs
              go_enter Tryz.func51, Tryz.ntmps51
              go_wp2_with fail
              refine abs_world ?_
              intro W1 hW1
              have hB1 : Hid (Below w.heap.size w W1) := by rw [hW1]; unfold Hid; (repeat with_reducible (first | exact bw0 _ _ | exact hBW | refine bw1 ?_ ?_ _ | refine bw2 ?_ ?_ _ | refine bw3 ?_ _ | refine bw4 ?_)); all_goals (first | omega | (dsimp only; omega) | ((repeat with_reducible (first | refine lz1 ?_ | refine lz2 ?_ | refine lz3 ?_ | refine lz4 ?_)); omega))
              have ev : W1.heap[w.heap.size]? = some (.cells #[.int .i64 m, .int .i64 e] 32) := by rw [hW1]; (repeat (first | (with_reducible refine bw5 ?_ _; (first | rfl | (simp; done) | omega | (simp; omega)); done) | with_reducible refine bw6 ?_ _ | with_reducible refine bw7 ?_ | with_reducible refine bw8 ?_))
              have k0 := cell_of_heap ev 0
              have k1 := cell_of_heap ev 1
              have z1 := lt_of_heap ev
              have wd : IntKind.i64.wrap ((D : Int) + e) = (D : Int) + e := IntWalk.i64_in _ (by omega)
              clear hW1 ev n0 t1 t2 t3
              refine wp_region_mix [0, 4, 5] [1, 2, 3, 6, 7, 8] [6, 7, 8] (Below W1.heap.size W1) (by kernel_rfl) (by kernel_rfl) (Below.refl _ _).drew ?_
              iterate 3 (first | (apply first_step; (rw [List.getElem?_toArray]; (repeat rw [List.getElem?_cons_succ]); rw [List.getElem?_cons_zero]); rfl; (intro W hB; have hc := bcellB hB; go_simp; (first | done | rfl)); go_frame) | (apply first_skip; (rw [List.getElem?_toArray]; (repeat rw [List.getElem?_cons_succ]); rw [List.getElem?_cons_zero]); rfl; go_frame))
              refine first_done ?_
              apply tail_step; (rw [List.getElem?_toArray]; (repeat rw [List.getElem?_cons_succ]); rw [List.getElem?_cons_zero]); rfl; rfl; intro K hK; go_simp
              refine (HO.out _).mono ?_
              rintro r w2 ⟨⟨b, a, cap, rfl⟩, hb2⟩
              have hb2' : Below W1.heap.size W1 w2 := (Below.refl _ W1).drew.trans hb2
              refine hK _ _ (fun _ => hb2') ?_
              clear hK K
              have HB2 := Lib.hid hb2'
              clear hb2 hb2' k0 k1
              apply tail_step; (rw [List.getElem?_toArray]; (repeat rw [List.getElem?_cons_succ]); rw [List.getElem?_cons_zero]); rfl; rfl; intro K hK; go_simp; refine hK _ _ (fun _ => HB2.out) ?_; clear hK K
              apply tail_step; (rw [List.getElem?_toArray]; (repeat rw [List.getElem?_cons_succ]); rw [List.getElem?_cons_zero]); rfl; rfl; intro K hK; go_simp; refine hK _ _ (fun _ => HB2.out) ?_; clear hK K
              (apply tail_step; (rw [List.getElem?_toArray]; (repeat rw [List.getElem?_cons_succ]); rw [List.getElem?_cons_zero]); rfl; rfl; intro K hK; go_simp; refine hK _ _ (fun h => absurd (by decide) h) ?_; clear hK K)
              (apply tail_step; (rw [List.getElem?_toArray]; (repeat rw [List.getElem?_cons_succ]); rw [List.getElem?_cons_zero]); rfl; rfl; intro K hK; go_simp; refine hK _ _ (fun h => absurd (by decide) h) ?_; clear hK K)
              (apply tail_step; (rw [List.getElem?_toArray]; (repeat rw [List.getElem?_cons_succ]); rw [List.getElem?_cons_zero]); rfl; rfl; intro K hK; go_simp; refine hK _ _ (fun h => absurd (by decide) h) ?_; clear hK K)
              refine tail_done ?_
              go_wp2_with fail
              go_ret
              exact ⟨rfl, hB1.out.trans (HB2.out.mono hB1.out.size)⟩
end Go.Proofs.YtndhmahkglfopaaGreatDoor
/- Regions in phases, as in Multi, with a check that is quick for long regions: who comes ahead of whom is reckoned once, in masks. -/
namespace Go.Proofs.YtndhmahkglfopaaGreatDoor
open Go.RowKit
section
variable {P : Program} {ops : Array Oper} {Q : Exit → Act → World → Prop} {S : World → Prop} {ls : List Nat}
/-- Number i comes ahead of number j. -/
inductive PredR (ops : Array Oper) (i : Nat) : Nat → Prop
  | direct {j : Nat} {oj : Oper} {e : Edge} (hj : ops[j]? = some oj) (he : e ∈ oj.after) (hb : Region.binds .any e = true) (h : e.on = i) : PredR ops i j
  | through {j : Nat} {oj : Oper} {e : Edge} (hj : ops[j]? = some oj) (he : e ∈ oj.after) (hb : Region.binds .any e = true) (h : PredR ops i e.on) : PredR ops i j
theorem predR_listed {listed : Array Bool} (hc : Closed ops listed) {i j : Nat} (h : PredR ops i j) : ∀ oj, ops[j]? = some oj → (∀ e ∈ oj.after, Region.binds .any e = true → listed.getD e.on false = true) → listed.getD i false = true := by
  induction h with
  | direct hj he hb h =>
    intro o ho hall
    rw [hj] at ho
    cases ho
    rw [← h]
    exact hall _ he hb
  | @through j oj e hj he hb h ih =>
    intro o ho hall
    rw [hj] at ho
    cases ho
    have hl := hall _ he hb
    cases ho : ops[e.on]? with
    | none =>
      exfalso
      cases h with
      | direct hj' => rw [ho] at hj'; cases hj'
      | through hj' => rw [ho] at hj'; cases hj'
    | some oe => exact ih oe ho (hc e.on oe ho hl)
def maskOf (o : Oper) (acc : List Nat) : Nat := o.after.toList.foldl (fun m e => if Region.binds .any e then m ||| (1 <<< e.on) ||| acc.getD e.on 0 else m) 0
def masksGo : List Oper → List Nat → List Nat
  | [], acc => acc
  | o :: os, acc => masksGo os (acc ++ [maskOf o acc])
def masks (ops : Array Oper) : List Nat := masksGo ops.toList []
theorem maskOf_bit {o : Oper} {acc : List Nat} {i : Nat} (h : (maskOf o acc).testBit i = true) : ∃ e ∈ o.after, Region.binds .any e = true ∧ (e.on = i ∨ (acc.getD e.on 0).testBit i = true) := by
  have key : ∀ (l : List Edge) (m : Nat), (l.foldl (fun m e => if Region.binds .any e then m ||| (1 <<< e.on) ||| acc.getD e.on 0 else m) m).testBit i = true → m.testBit i = true ∨ ∃ e ∈ l, Region.binds .any e = true ∧ (e.on = i ∨ (acc.getD e.on 0).testBit i = true) := by
    intro l
    induction l with
    | nil => intro m h; exact .inl h
    | cons e r ih =>
      intro m h
      rw [List.foldl_cons] at h
      rcases ih _ h with h1 | ⟨e', he', h1⟩
      · split at h1
        · rename_i hb
          simp only [Nat.testBit_or, Bool.or_eq_true] at h1
          rcases h1 with (h1 | h1) | h1
          · exact .inl h1
          · refine .inr ⟨e, by simp, hb, .inl ?_⟩
            rw [Nat.one_shiftLeft, Nat.testBit_two_pow] at h1
            simpa using h1
          · exact .inr ⟨e, by simp, hb, .inr h1⟩
        · exact .inl h1
      · exact .inr ⟨e', List.mem_cons_of_mem _ he', h1⟩
  rcases key _ 0 h with h1 | ⟨e, he, h1⟩
  · simp at h1
  · exact ⟨e, by simpa using he, h1⟩
theorem masksGo_pred : ∀ (os : List Oper) (acc : List Nat), (∀ k o, os[k]? = some o → ops[acc.length + k]? = some o) → (∀ j i, (acc.getD j 0).testBit i = true → PredR ops i j) → ∀ j i, ((masksGo os acc).getD j 0).testBit i = true → PredR ops i j
  | [], acc, _, ha, j, i, h => ha j i h
  | o :: os, acc, ho, ha, j, i, h => by
    refine masksGo_pred os (acc ++ [maskOf o acc]) (fun k o' hk => ?_) (fun j' i' h' => ?_) j i h
    · have := ho (k + 1) o' (by simpa using hk)
      rw [List.length_append, List.length_singleton]
      rwa [Nat.add_assoc, Nat.add_comm 1 k]
    · by_cases hj : j' < acc.length
      · refine ha j' i' ?_
        rw [List.getD_eq_getElem?_getD, List.getElem?_append_left hj, ← List.getD_eq_getElem?_getD] at h'
        exact h'
      · by_cases hj2 : j' = acc.length
        · subst hj2
          rw [List.getD_eq_getElem?_getD, List.getElem?_append_right (Nat.le_refl _)] at h'
          simp at h'
          obtain ⟨e, he, hb, h1⟩ := maskOf_bit h'
          have hoj := ho 0 o (by simp)
          rw [Nat.add_zero] at hoj
          rcases h1 with h1 | h1
          · exact .direct hoj he hb h1
          · exact .through hoj he hb (ha _ _ h1)
        · rw [List.getD_eq_getElem?_getD, List.getElem?_eq_none (by simp; omega)] at h'
          simp at h'
theorem masks_pred {i j : Nat} (h : ((masks ops).getD j 0).testBit i = true) : PredR ops i j :=
  masksGo_pred ops.toList [] (fun k o hk => by simpa using hk) (fun j i h => by simp at h) j i h
def firstR (ops : Array Oper) (ms : List Nat) (ls : List Nat) : List Nat → Array Bool → Bool
  | i :: fs, listed => Region.free .any ops listed i && (Region.ready .any ops listed).contains i && !ls.contains i && ls.all (fun j => (ms.getD j 0).testBit i) && firstR ops ms ls fs (listed.setIfInBounds i true)
  | [], _ => true
def multiR (ops : Array Oper) (ms : List Nat) : List (List Nat × List Nat × List Nat) → Array Bool → Bool
  | ph :: rest, listed => firstR ops ms ph.2.2 ph.1 listed && forcedB ops ph.2.1 (listAll ph.1 listed) && leftB ops ph.2.2 (listAll ph.2.1 (listAll ph.1 listed)) && multiR ops ms rest (listAll ph.2.1 (listAll ph.1 listed))
  | [], listed => (Region.ready .any ops listed).isEmpty
theorem wpAnyG_firstR {i : Nat} {oi : Oper} {v : Value} (hi : ops[i]? = some oi) (hsel : ∀ (j : Nat) (o : Oper) cs b, ops[j]? = some o → o.op ≠ .select cs b)
    (hQ : ∀ c a w, Q (.panic c) (a.put oi.dst v) w → Q (.panic c) a w) (hil : i ∉ ls) (hneed : ∀ j ∈ ls, PredR ops i j) :
    ∀ (fuel : Nat) (listed : Array Bool) (a : Act) (w : World), Closed ops listed →
      (∀ j oj, ops[j]? = some oj → j ≠ i → listed.getD j true = false → (∀ e ∈ oj.after, Region.binds .any e = true → e.on ≠ i) → oi.apart ops oj = true) →
      i ∈ Region.ready .any ops listed → YieldsIf P ops S oi v a → S w →
      wpAnyG P ops Q S ls fuel (listed.setIfInBounds i true) (a.put oi.dst v) w → wpAnyG P ops Q S ls (fuel + 1) listed a w := by
  intro fuel
  induction fuel with
  | zero =>
    intro listed a w _ _ hr hy hS H
    refine ⟨fun h => (by rw [h] at hr; cases hr), fun j hj => ?_⟩
    by_cases hji : j = i
    · subst hji; exact hy.wpOp hi hS ⟨fun _ => hS, H⟩
    · have := ready_mono hj hji
      rw [H.1] at this
      cases this
  | succ fuel ih =>
    intro listed a w hcl hfree hr hy hS H
    refine ⟨fun h => (by rw [h] at hr; cases hr), fun j hj => ?_⟩
    by_cases hji : j = i
    · subst hji; exact hy.wpOp hi hS ⟨fun _ => hS, H⟩
    · have h1 := H.2 j (ready_mono hj hji)
      obtain ⟨hjun, oj, hoj, hall⟩ := mem_ready.1 hj
      have hiun : listed.getD i false = false := by
        have h0 := (mem_ready.1 hr).1
        rcases Nat.lt_or_ge i listed.size with h' | h'
        · simp [h'] at h0 ⊢; exact h0
        · simp [Array.getElem?_eq_none h'] at h0
      have hjl : j ∉ ls := fun hm => by
        have := predR_listed hcl (hneed j hm) oj hoj hall
        rw [hiun] at this
        cases this
      have hnot : ∀ e ∈ oj.after, Region.binds .any e = true → e.on ≠ i := fun e he hb heq => by
        have h1 := hall e he hb
        rw [heq, hiun] at h1
        cases h1
      have h2 := wpOp_putIf hoj (hfree j oj hoj hji hjun hnot) (fun cs b => hsel i oi cs b hi) (fun cs b => hsel j oj cs b hoj) hQ hy h1
      have hfree' : ∀ k ok, ops[k]? = some ok → k ≠ i → (listed.setIfInBounds j true).getD k true = false →
          (∀ e ∈ ok.after, Region.binds .any e = true → e.on ≠ i) → oi.apart ops ok = true := fun k ok hk hki hun hno => by
        refine hfree k ok hk hki ?_ hno
        by_cases hjk : j = k
        · subst hjk; exact hjun
        · rw [getD_set_ne true hjk] at hun; exact hun
      refine wpOp_mono (fun a' w' h3 => ?_) h2
      obtain ⟨hy3, hS3, H3⟩ := h3
      refine ⟨hS3, ih (listed.setIfInBounds j true) a' w' (hcl.set hj) hfree' (ready_mono hr (Ne.symm hji)) hy3 (hS3 hjl) ?_⟩
      rw [Array.setIfInBounds_comm _ _ hji]
      exact H3

theorem wpAnyG_firstsR {S : World → Prop} {ls : List Nat} {K : Act → Prop} (hsel : ∀ (j : Nat) (o : Oper) cs b, ops[j]? = some o → o.op ≠ .select cs b) (hQ : ∀ c a w d v, Q (.panic c) (a.put d v) w → Q (.panic c) a w) :
    ∀ (fs : List Nat) (fuel : Nat) (listed : Array Bool) (a : Act) (w : World), fs.length ≤ fuel → Closed ops listed → firstR ops (masks ops) ls fs listed = true → S w →
      (∀ fuel' a', fuel' + fs.length = fuel → Closed ops (listAll fs listed) → K a' → wpAnyG P ops Q S ls fuel' (listAll fs listed) a' w) → wpFirst P ops S K fs a → wpAnyG P ops Q S ls fuel listed a w
  | [], fuel, listed, a, w, _, hc, _, _, hK, h => hK fuel a (by simp) hc h
  | i :: fs, 0, listed, a, w, hf, _, _, _, _, _ => by simp at hf
  | i :: fs, fuel + 1, listed, a, w, hf, hcl, hB, hS, hK, h => by
    obtain ⟨o, v, ho, hy, hn⟩ := h
    simp only [firstR, Bool.and_eq_true] at hB
    obtain ⟨⟨⟨⟨h1, h2⟩, h3⟩, h4⟩, h5⟩ := hB
    have hr : i ∈ Region.ready .any ops listed := by simpa using h2
    exact wpAnyG_firstR ho hsel (fun c a w => hQ c a w _ _) (by simpa using h3) (fun j hj => masks_pred (List.all_eq_true.1 h4 j hj)) fuel listed a w hcl (Region.free_spec ho h1) hr hy hS
      (wpAnyG_firstsR hsel hQ fs fuel _ _ w (by simp at hf; omega) (hcl.set hr) h5 hS (fun f' a' he hc' hk => hK f' a' (by simp; omega) hc' hk) hn)

theorem wpAny_multiR (hsel : ∀ (j : Nat) (o : Oper) cs b, ops[j]? = some o → o.op ≠ .select cs b) (hQ : ∀ c a w d v, Q (.panic c) (a.put d v) w → Q (.panic c) a w) :
    ∀ (phs : List (List Nat × List Nat × List Nat)) (fuel : Nat) (listed : Array Bool) (a : Act) (w : World), phLen phs ≤ fuel → Closed ops listed → multiR ops (masks ops) phs listed = true → wpMulti P ops Q phs a w → wpAny P .any ops Q fuel listed a w
  | [], 0, listed, a, w, _, _, hB, h => ⟨by simpa [multiR] using hB, h⟩
  | [], fuel + 1, listed, a, w, _, _, hB, h => ⟨fun _ => h, fun i hi => by
      have : Region.ready .any ops listed = [] := by simpa [multiR] using hB
      rw [this] at hi; cases hi⟩
  | ph :: rest, fuel, listed, a, w, hf, hcl, hB, h => by
    obtain ⟨S, hS, h⟩ := h
    simp only [multiR, Bool.and_eq_true] at hB
    obtain ⟨⟨⟨h1, h2⟩, h3⟩, h4⟩ := hB
    simp only [phLen] at hf
    refine wpAny_of_G (S := S) (ls := ph.2.2) _ _ _ _ (wpAnyG_firstsR hsel hQ ph.1 fuel listed a w (by omega) hcl h1 hS ?_ h)
    intro f1 a1 he1 hc1 hk1
    refine wpAnyG_forced ph.2.1 f1 _ a1 w (by omega) hc1 h2 ?_ hk1
    intro f2 a2 w2 he2 hc2 hk2
    refine wpAnyG_of_any f2 _ a2 w2 (fun j hj => ?_) (wpAny_multiR hsel hQ rest f2 _ a2 w2 (by omega) hc2 h4 hk2)
    have := List.all_eq_true.1 h3 j (List.mem_range.2 hj)
    simpa using this

theorem wp_region_multiR {id : Nat} {a : Act} {w : World} (phs : List (List Nat × List Nat × List Nat)) (hm : P.follows .mixedOrders = true)
    (hB : (Region.noSelect ops && decide (phLen phs ≤ ops.size) && multiR ops (masks ops) phs (Array.replicate ops.size false)) = true)
    (h : wpMulti P ops (NoPanic Q) phs a w.drew) : (Code.region id ops true).wp P Q a w := by
  simp only [Bool.and_eq_true, decide_eq_true_eq] at hB
  exact wp_region_noPanic (wp_region_any hm (wpAny_multiR (Region.noSelect_spec hB.1.1) (fun _ _ _ _ _ h => h) phs ops.size _ a _ hB.1.2 (closed_none _) hB.2 h))

end
end Go.Proofs.YtndhmahkglfopaaGreatDoor
/- value.Right of numbers and of texts. -/
namespace Go.Proofs.YtndhmahkglfopaaGreatDoor
open Go.RowKit
set_option maxHeartbeats 400000 in
theorem Of_any (m e : Int) (w : World) : Calls Tryz.prog 104 #[.agg #[.int .i64 m, .int .i64 e]] w fun r w' => r = .returned (.agg #[.int .i64 1, .int .i64 m, .int .i64 e, .string ⟨#[]⟩, .bool false, .int .i64 0]) ∧ Below w.heap.size w w' := by
  go_enter Tryz.func104, Tryz.ntmps104
  go_wp2
  refine bodyPost_ret (v := .agg #[.int .i64 1, .int .i64 m, .int .i64 e, .string ⟨#[]⟩, .bool false, .int .i64 0]) (by simp [results, Tryz.results104, go_sem]) rfl ⟨rfl, ?_⟩
  (repeat with_reducible (first | exact bw0 _ _ | exact hBW | refine bw1 ?_ ?_ _ | refine bw2 ?_ ?_ _ | refine bw3 ?_ _ | refine bw4 ?_)); all_goals (first | omega | (dsimp only; omega) | ((repeat with_reducible (first | refine lz1 ?_ | refine lz2 ?_ | refine lz3 ?_ | refine lz4 ?_)); omega))
set_option maxHeartbeats 400000 in
theorem Text_any (t : ByteArray) (h : t.size ≤ 255) (w : World) : Calls Tryz.prog 71 #[.string t] w fun r w' => r = .returned (.agg #[.int .i64 2, .int .i64 0, .int .i64 0, .string t, .bool false, .int .i64 0]) ∧ Below w.heap.size w w' := by
  go_enter Tryz.func71, Tryz.ntmps71
  go_wp2
  refine bodyPost_ret (v := .agg #[.int .i64 2, .int .i64 0, .int .i64 0, .string t, .bool false, .int .i64 0]) (by simp [results, Tryz.results71, go_sem]) rfl ⟨rfl, ?_⟩
  (repeat with_reducible (first | exact bw0 _ _ | exact hBW | refine bw1 ?_ ?_ _ | refine bw2 ?_ ?_ _ | refine bw3 ?_ _ | refine bw4 ?_)); all_goals (first | omega | (dsimp only; omega) | ((repeat with_reducible (first | refine lz1 ?_ | refine lz2 ?_ | refine lz3 ?_ | refine lz4 ?_)); omega))
theorem eq_same (v : V) (W : World) : (binOp .eql 34 (vagg v) (vagg v)).run Tryz.prog W = .ok (.bool true) W := by
  rw [eq_v]
  simp
set_option maxHeartbeats 1000000 in
set_option maxRecDepth 100000 in
theorem right_num (m e : Int) (h : numR m e = true) : RightOk ⟨1, m, e, ⟨#[]⟩, false, 0⟩ := fun w => by
  have EQ := eq_same ⟨1, m, e, ⟨#[]⟩, false, 0⟩
  unfold vagg at EQ ⊢
  simp only at EQ ⊢
  have HN := Lib.hid (numRight_yes m e h)
  have HEQ := Lib.hid EQ
  clear EQ h
  go_enter Tryz.func76, Tryz.ntmps76
  go_wp2_with fail
  refine abs_world ?_
  intro W1 hW1
  have hB1 : Hid (Below w.heap.size w W1) := by rw [hW1]; unfold Hid; (repeat with_reducible (first | exact bw0 _ _ | exact hBW | refine bw1 ?_ ?_ _ | refine bw2 ?_ ?_ _ | refine bw3 ?_ _ | refine bw4 ?_)); all_goals (first | omega | (dsimp only; omega) | ((repeat with_reducible (first | refine lz1 ?_ | refine lz2 ?_ | refine lz3 ?_ | refine lz4 ?_)); omega))
  have ev : W1.heap[w.heap.size]? = some (.cells #[.int .i64 1, .int .i64 m, .int .i64 e, .string ⟨#[]⟩, .bool false, .int .i64 0] 34) := by rw [hW1]; (repeat (first | (with_reducible refine bw5 ?_ _; (first | rfl | (simp; done) | omega | (simp; omega)); done) | with_reducible refine bw6 ?_ _ | with_reducible refine bw7 ?_ | with_reducible refine bw8 ?_))
  have k0 := cell_of_heap ev 0
  have k1 := cell_of_heap ev 1
  have k2 := cell_of_heap ev 2
  have k3 := cell_of_heap ev 3
  have k4 := cell_of_heap ev 4
  have k5 := cell_of_heap ev 5
  have z1 := lt_of_heap ev
  clear hW1 ev
  refine wp_region_multiR [([0, 1], [2], [2, 3, 4, 5, 6, 7, 8, 9, 10]), ([3, 5, 6, 4], [7], [8, 9, 10]), ([8, 9, 10], [], [])] (by kernel_rfl) (by kernel_rfl) ?_
  refine multi_phase (Below W1.heap.size W1) (Below.refl _ _).drew ?_
  iterate 2 (first | (apply first_step; (rw [List.getElem?_toArray]; (repeat rw [List.getElem?_cons_succ]); rw [List.getElem?_cons_zero]); rfl; (intro W hB; have hc := bcellB hB; go_simp; (first | done | rfl)); go_frame) | (apply first_skip; (rw [List.getElem?_toArray]; (repeat rw [List.getElem?_cons_succ]); rw [List.getElem?_cons_zero]); rfl; go_frame))
  refine first_done ?_
  apply forced_step; (rw [List.getElem?_toArray]; (repeat rw [List.getElem?_cons_succ]); rw [List.getElem?_cons_zero]); rfl; intro K hK; go_simp
  refine (HN.out _).mono ?_
  rintro r w2 ⟨rfl, hb2⟩
  have HB2 : Hid (Below W1.heap.size W1 w2) := (Below.refl _ W1).drew.trans hb2
  refine hK _ _ (fun h => absurd (by decide) h) ?_
  clear hK K hb2
  refine forced_done ?_
  refine multi_phase (Below W1.heap.size W1) HB2.out ?_
  iterate 4 (first | (apply first_step; (rw [List.getElem?_toArray]; (repeat rw [List.getElem?_cons_succ]); rw [List.getElem?_cons_zero]); rfl; (intro W hB; have hc := bcellB hB; go_simp; (first | done | rfl)); go_frame) | (apply first_skip; (rw [List.getElem?_toArray]; (repeat rw [List.getElem?_cons_succ]); rw [List.getElem?_cons_zero]); rfl; go_frame))
  refine first_done ?_
  apply forced_step; (rw [List.getElem?_toArray]; (repeat rw [List.getElem?_cons_succ]); rw [List.getElem?_cons_zero]); rfl; intro K hK; go_simp
  refine (Of_any m e _).mono ?_
  rintro r w3 ⟨rfl, hb3⟩
  have HB3 : Hid (Below W1.heap.size W1 w3) := HB2.out.trans (hb3.mono HB2.out.size)
  refine hK _ _ (fun _ => HB3.out) ?_
  clear hK K hb3
  refine forced_done ?_
  have EQ := HEQ.out
  refine multi_phase (Below W1.heap.size W1) HB3.out ?_
  iterate 3 (first | (apply first_step; (rw [List.getElem?_toArray]; (repeat rw [List.getElem?_cons_succ]); rw [List.getElem?_cons_zero]); rfl; (intro W hB; have hc := bcellB hB; go_simp; (first | done | rfl)); go_frame) | (apply first_skip; (rw [List.getElem?_toArray]; (repeat rw [List.getElem?_cons_succ]); rw [List.getElem?_cons_zero]); rfl; go_frame))
  refine first_done ?_
  refine forced_done ?_
  refine multi_done ?_
  clear EQ k0 k1 k2 k3 k4 k5
  go_wp2_with fail
  go_ret
  exact ⟨rfl, hB1.out.trans (HB3.out.mono hB1.out.size)⟩
set_option maxHeartbeats 1000000 in
set_option maxRecDepth 100000 in
theorem right_text (t : ByteArray) (h : t.size ≤ 255) : RightOk ⟨2, 0, 0, t, false, 0⟩ := fun w => by
  have EQ := eq_same ⟨2, 0, 0, t, false, 0⟩
  unfold vagg at EQ ⊢
  simp only at EQ ⊢
  have HN := Lib.hid (Text_any t h)
  have HEQ := Lib.hid EQ
  clear EQ h
  go_enter Tryz.func76, Tryz.ntmps76
  go_wp2_with fail
  refine abs_world ?_
  intro W1 hW1
  have hB1 : Hid (Below w.heap.size w W1) := by rw [hW1]; unfold Hid; (repeat with_reducible (first | exact bw0 _ _ | exact hBW | refine bw1 ?_ ?_ _ | refine bw2 ?_ ?_ _ | refine bw3 ?_ _ | refine bw4 ?_)); all_goals (first | omega | (dsimp only; omega) | ((repeat with_reducible (first | refine lz1 ?_ | refine lz2 ?_ | refine lz3 ?_ | refine lz4 ?_)); omega))
  have ev : W1.heap[w.heap.size]? = some (.cells #[.int .i64 2, .int .i64 0, .int .i64 0, .string t, .bool false, .int .i64 0] 34) := by rw [hW1]; (repeat (first | (with_reducible refine bw5 ?_ _; (first | rfl | (simp; done) | omega | (simp; omega)); done) | with_reducible refine bw6 ?_ _ | with_reducible refine bw7 ?_ | with_reducible refine bw8 ?_))
  have k0 := cell_of_heap ev 0
  have k1 := cell_of_heap ev 1
  have k2 := cell_of_heap ev 2
  have k3 := cell_of_heap ev 3
  have k4 := cell_of_heap ev 4
  have k5 := cell_of_heap ev 5
  have z1 := lt_of_heap ev
  clear hW1 ev
  refine wp_region_multiR [([1, 2, 0], [3], [4, 5]), ([4, 5], [], [])] (by kernel_rfl) (by kernel_rfl) ?_
  refine multi_phase (Below W1.heap.size W1) (Below.refl _ _).drew ?_
  iterate 3 (first | (apply first_step; (rw [List.getElem?_toArray]; (repeat rw [List.getElem?_cons_succ]); rw [List.getElem?_cons_zero]); rfl; (intro W hB; have hc := bcellB hB; go_simp; (first | done | rfl)); go_frame) | (apply first_skip; (rw [List.getElem?_toArray]; (repeat rw [List.getElem?_cons_succ]); rw [List.getElem?_cons_zero]); rfl; go_frame))
  refine first_done ?_
  apply forced_step; (rw [List.getElem?_toArray]; (repeat rw [List.getElem?_cons_succ]); rw [List.getElem?_cons_zero]); rfl; intro K hK; go_simp
  refine (HN.out _).mono ?_
  rintro r w2 ⟨rfl, hb2⟩
  have HB2 : Hid (Below W1.heap.size W1 w2) := (Below.refl _ W1).drew.trans hb2
  refine hK _ _ (fun _ => HB2.out) ?_
  clear hK K hb2
  refine forced_done ?_
  have EQ := HEQ.out
  refine multi_phase (Below W1.heap.size W1) HB2.out ?_
  iterate 2 (first | (apply first_step; (rw [List.getElem?_toArray]; (repeat rw [List.getElem?_cons_succ]); rw [List.getElem?_cons_zero]); rfl; (intro W hB; have hc := bcellB hB; go_simp; (first | done | rfl)); go_frame) | (apply first_skip; (rw [List.getElem?_toArray]; (repeat rw [List.getElem?_cons_succ]); rw [List.getElem?_cons_zero]); rfl; go_frame))
  refine first_done ?_
  refine forced_done ?_
  refine multi_done ?_
  clear EQ k0 k1 k2 k3 k4 k5
  go_wp2_with fail
  go_ret
  exact ⟨rfl, hB1.out.trans (HB2.out.mono hB1.out.size)⟩
end Go.Proofs.YtndhmahkglfopaaGreatDoor
