/- WholeTurned: the law's walk. -/
import Derived.Test.YtndhmahkglfopaaGreatDoorQT16DS
namespace Go.Proofs.YtndhmahkglfopaaGreatDoor
open Go.RowKit
def signsA : Array Value := #[.string ⟨#[43]⟩, .string ⟨#[45]⟩, .string ⟨#[42]⟩, .string ⟨#[47]⟩, .string ⟨#[94]⟩, .string ⟨#[38]⟩, .string ⟨#[61]⟩, .string ⟨#[60]⟩]
theorem sign_at (t : Int) : ∃ (k : Nat) (s : ByteArray) (F : V → V → V), t % 8 = (k : Int) ∧ k < 8 ∧ signsA[k]? = some (.string s) ∧ SignOk s F := by
  have h0 : 0 ≤ t % 8 := Int.emod_nonneg _ (by omega)
  have h1 : t % 8 < 8 := Int.emod_lt_of_pos _ (by omega)
  obtain ⟨k, hk⟩ : ∃ k : Nat, t % 8 = (k : Int) := ⟨(t % 8).toNat, (Int.toNat_of_nonneg h0).symm⟩
  have hk8 : k < 8 := by omega
  refine ⟨k, ?_⟩
  have h8 : k = 0 ∨ k = 1 ∨ k = 2 ∨ k = 3 ∨ k = 4 ∨ k = 5 ∨ k = 6 ∨ k = 7 := by omega
  rcases h8 with rfl | rfl | rfl | rfl | rfl | rfl | rfl | rfl
  · exact ⟨_, _, hk, hk8, rfl, sign_plus⟩
  · exact ⟨_, _, hk, hk8, rfl, sign_minus⟩
  · exact ⟨_, _, hk, hk8, rfl, sign_times⟩
  · exact ⟨_, _, hk, hk8, rfl, sign_div⟩
  · exact ⟨_, _, hk, hk8, rfl, sign_pow⟩
  · exact ⟨_, _, hk, hk8, rfl, sign_join⟩
  · exact ⟨_, _, hk, hk8, rfl, sign_eq⟩
  · exact ⟨_, _, hk, hk8, rfl, sign_lt⟩
section
/- a load of the box in tmp $1, block $2, whose cells are fact $3 -/
/- a slice of one array, out of op $1's tmp $2: array $3, slice $4 cap $5, its SlB $6 -/
/- TRANSPOSE of op $1's tmp $2: array $3, its ArrR $4 -/
/- ROUND of op $1's tmp $2: arrays $3 $4, their ArrR $5 $6, lengths $7 $8; the answer's name $9 -/
/- the same array twice; $1: array, $2: its SlB left at u1, $3 right; the new world's Below $4 out of $5 -/
/- out by way of awake16; $1: the world before, $2: its Below, $3: its Tab -/
variable (w : World)
set_option maxHeartbeats 8000000
set_option maxRecDepth 100000
theorem turned_any (A B : Arr) (a b : Option Addr) (capA capB : Nat) (t : Int) (ht0 : 0 ≤ t) (ht1 : t ≤ 255) (hsa : SlB 0 w a A.l) (hsb : SlB 0 w b B.l) (htab : Tab w) : Calls Tryz.prog 4 #[arrA A a capA, arrA B b capB, .int .u8 t] w fun e w' => e = .returned (.bool true) ∧ Below w.heap.size w w' := by
  have HSA := Lib.hid hsa
  have HSB := Lib.hid hsb
  have HT := Lib.hid htab
  unfold arrA
  clear hsa hsb htab
  go_enter Tryz.func4, Tryz.ntmps4
  go_wp2_with fail
  refine (awake_any _ (HT.out.below (by (repeat with_reducible (first | exact bw0 _ _ | exact hBW | refine bw1 ?_ ?_ _ | refine bw2 ?_ ?_ _ | refine bw3 ?_ _ | refine bw4 ?_)); all_goals (first | omega | (dsimp only; omega) | ((repeat with_reducible (first | refine lz1 ?_ | refine lz2 ?_ | refine lz3 ?_ | refine lz4 ?_)); omega))))).mono ?_
  rintro e w1 ⟨rfl, hb1⟩
  have hba : Below w.heap.size w ((w.alloc (.cells #[.int .i64 A.r, .int .i64 A.c, .slice a A.l.length capA] 28)).alloc (.cells #[.int .i64 B.r, .int .i64 B.c, .slice b B.l.length capB] 28)) := by (repeat with_reducible (first | exact bw0 _ _ | exact hBW | refine bw1 ?_ ?_ _ | refine bw2 ?_ ?_ _ | refine bw3 ?_ _ | refine bw4 ?_)); all_goals (first | omega | (dsimp only; omega) | ((repeat with_reducible (first | refine lz1 ?_ | refine lz2 ?_ | refine lz3 ?_ | refine lz4 ?_)); omega))
  have g0 : w1.heap[w.heap.size]? = some (.cells #[.int .i64 A.r, .int .i64 A.c, .slice a A.l.length capA] 28) := (hb1.block _ (by simp; omega)).trans (by (repeat (first | (with_reducible refine bw5 ?_ _; (first | rfl | (simp; done) | omega | (simp; omega)); done) | with_reducible refine bw6 ?_ _ | with_reducible refine bw7 ?_ | with_reducible refine bw8 ?_)))
  have g1 : w1.heap[w.heap.size + 1]? = some (.cells #[.int .i64 B.r, .int .i64 B.c, .slice b B.l.length capB] 28) := (hb1.block _ (by simp)).trans (by (repeat (first | (with_reducible refine bw5 ?_ _; (first | rfl | (simp; done) | omega | (simp; omega)); done) | with_reducible refine bw6 ?_ _ | with_reducible refine bw7 ?_ | with_reducible refine bw8 ?_)))
  have HB1 : Hid (Below w.heap.size w w1) := hba.trans (hb1.mono (by simp; omega))
  have G0 := Lib.hid g0
  have G1 := Lib.hid g1
  have HT1 := Lib.hid (HT.out.below HB1.out)
  have x0 := cell_of_heap g0
  have x1 := cell_of_heap g1
  have z0 := lt_of_heap g0
  have z1 := lt_of_heap g1
  clear hb1 hba g0 g1
  by_cases hl : 30 < A.l.length
  · have i1 : (30 : Int) < (A.l.length : Int) := by omega
    go_wp2_with fail
    refine (awake_any _ HT1.out).mono ?_
    rintro e wz ⟨rfl, hbz⟩
    have HBZ := Lib.hid (Hid.out (HB1) |>.trans (hbz.mono (Hid.out (HB1)).size))
    clear hbz
    go_wp2_with fail
    go_ret
    exact ⟨rfl, HBZ.out⟩
  · have i1 : ¬ (30 : Int) < (A.l.length : Int) := by omega
    by_cases hl' : 30 < B.l.length
    · have i2 : (30 : Int) < (B.l.length : Int) := by omega
      go_wp2_with fail
      refine (awake_any _ HT1.out).mono ?_
      rintro e wz ⟨rfl, hbz⟩
      have HBZ := Lib.hid (Hid.out (HB1) |>.trans (hbz.mono (Hid.out (HB1)).size))
      clear hbz
      go_wp2_with fail
      go_ret
      exact ⟨rfl, HBZ.out⟩
    · have i2 : ¬ (30 : Int) < (B.l.length : Int) := by omega
      go_wp2_with fail
      refine (r09_any A a capA w1 (HSA.out.below HB1.out)).mono ?_
      rintro e w2 ⟨R, rfl, hR, hb2⟩
      have HB2 := Lib.hid (HB1.out.trans (hb2.mono HB1.out.size))
      have g0 := (hb2.block _ (lt_of_heap G0.out)).trans G0.out
      have g1 := (hb2.block _ (lt_of_heap G1.out)).trans G1.out
      have HT2 := Lib.hid (HT.out.below HB2.out)
      have H0 := Lib.hid g0
      have H1 := Lib.hid g1
      have HR := Lib.hid hR
      clear x0 x1 z0 z1 G0 G1 hb2 hR
      have x0 := cell_of_heap g0
      have x1 := cell_of_heap g1
      have z0 := lt_of_heap g0
      have z1 := lt_of_heap g1
      clear g0 g1
      cases R with
      | false =>
        go_wp2_with fail
        refine (awake_any _ HT2.out).mono ?_
        rintro e wz ⟨rfl, hbz⟩
        have HBZ := Lib.hid (Hid.out (HB2) |>.trans (hbz.mono (Hid.out (HB2)).size))
        clear hbz
        go_wp2_with fail
        go_ret
        exact ⟨rfl, HBZ.out⟩
      | true =>
        go_wp2_with fail
        refine (r09_any B b capB w2 (HSB.out.below HB2.out)).mono ?_
        rintro e w3 ⟨R, rfl, hR, hb3⟩
        have HB3 := Lib.hid (HB2.out.trans (hb3.mono HB2.out.size))
        have g0 := (hb3.block _ (lt_of_heap H0.out)).trans H0.out
        have g1 := (hb3.block _ (lt_of_heap H1.out)).trans H1.out
        have HT3 := Lib.hid (HT.out.below HB3.out)
        have G0 := Lib.hid g0
        have G1 := Lib.hid g1
        have HR' := Lib.hid hR
        clear x0 x1 z0 z1 H0 H1 hb3 hR
        have x0 := cell_of_heap g0
        have x1 := cell_of_heap g1
        have z0 := lt_of_heap g0
        have z1 := lt_of_heap g1
        clear g0 g1
        cases R with
        | false =>
          go_wp2_with fail
          refine (awake_any _ HT3.out).mono ?_
          rintro e wz ⟨rfl, hbz⟩
          have HBZ := Lib.hid (Hid.out (HB3) |>.trans (hbz.mono (Hid.out (HB3)).size))
          clear hbz
          go_wp2_with fail
          go_ret
          exact ⟨rfl, HBZ.out⟩
        | true =>
          have hAR := HR.out trivial
          have hBR := HR'.out rfl
          have HAR := Lib.hid hAR
          have HBR := Lib.hid hBR
          have HLA : Hid (A.l.length ≤ 40) := by unfold Hid; omega
          have HLB : Hid (B.l.length ≤ 40) := by unfold Hid; omega
          have d1 : decide ((30 : Int) < (A.l.length : Int)) = false := decide_eq_false (by omega)
          have d2 : decide ((30 : Int) < (B.l.length : Int)) = false := decide_eq_false (by omega)
          clear hAR hBR HR HR' hl hl' i1 i2
          obtain ⟨k, s, F, htk, hk8, hsg, hso⟩ := sign_at t
          have HSO := Lib.hid hso
          have hcell : (w3.alloc (.cells signsA 9)).cell? ⟨w3.heap.size, k, none⟩ = some (.string s) := by rw [cell_of_heap (heap_alloc_new w3 _) k]; exact hsg
          have j1 : (0 : Int) ≤ (k : Int) := by omega
          have j2 : (k : Int) < 8 := by omega
          unfold signsA at hsg hcell
          have wt : wrap64 t = t := IntWalk.wrap64_in _ (by omega)
          have mt : t.tmod 8 = (k : Int) := by rw [← htk]; exact Int.tmod_eq_emod_of_nonneg ht0
          clear hso
          go_upto_region 4 with fail
          refine abs_world ?_
          intro W4 hW4
          have b4 : Below w3.heap.size w3 W4 := by rw [hW4]; exact below_alloc w3 _ _ (Nat.le_refl _)
          have g0 := (b4.block _ (lt_of_heap G0.out)).trans G0.out
          have g1 := (b4.block _ (lt_of_heap G1.out)).trans G1.out
          have HB4 := Lib.hid (HB3.out.trans (b4.mono HB3.out.size))
          clear hW4 b4 x0 x1 z0 z1 G0 G1 HB3 HT3 hsg hcell htk hk8 j1 j2 wt mt ht0 ht1 HB1 HB2 HT1 HT2
          have H0 := Lib.hid g0
          have H1 := Lib.hid g1
          have x0 := cell_of_heap g0
          have x1 := cell_of_heap g1
          have z0 := lt_of_heap g0
          have z1 := lt_of_heap g1
          clear g0 g1
          go_wp2_with fail
          refine (Binary_any s A B a b capA capB W4 HSO.out HAR.out HBR.out (both_bd HAR.out HBR.out HLA.out HLB.out).1 (both_bd HAR.out HBR.out HLA.out HLB.out).2 (HSA.out.below HB4.out) (HSB.out.below HB4.out) (HT.out.below HB4.out)).mono ?_
          rintro e w5 ⟨x, rfl, ⟨ax, cx, rfl, hsx⟩, hb5⟩
          have HXR := Lib.hid (both_right HSO.out.right HAR.out HBR.out HLA.out HLB.out)
          have TB := Lib.hid (turn_both F HAR.out.h1 HAR.out.h2 HAR.out.h6 HBR.out.h1 HBR.out.h2 HBR.out.h6)
          generalize bothV F A B = X at hsx HXR TB ⊢
          have g0 := (hb5.block _ (lt_of_heap H0.out)).trans H0.out
          have g1 := (hb5.block _ (lt_of_heap H1.out)).trans H1.out
          have HB5 := Lib.hid (HB4.out.trans (hb5.mono HB4.out.size))
          have SX5 := Lib.hid (hsx.mono (Nat.zero_le _))
          clear x0 x1 z0 z1 H0 H1 hb5 hsx HB4
          have H0 := Lib.hid g0
          have H1 := Lib.hid g1
          clear g0 g1
          go_upto_region 5 with fail
          refine abs_world ?_
          intro W6 hW6
          have b6 : Below w5.heap.size w5 W6 := by rw [hW6]; exact below_alloc w5 _ _ (Nat.le_refl _)
          have HX6 : Hid (W6.heap[w5.heap.size]? = some (.cells #[.int .i64 X.r, .int .i64 X.c, .slice ax X.l.length cx] 28)) := by unfold Hid; rw [hW6]; exact heap_alloc_new w5 _
          have SX6 := Lib.hid (SX5.out.below b6)
          have G0 := Lib.hid ((b6.block _ (lt_of_heap H0.out)).trans H0.out)
          have G1 := Lib.hid ((b6.block _ (lt_of_heap H1.out)).trans H1.out)
          have HB6 := Lib.hid (HB5.out.trans (b6.mono HB5.out.size))
          have ZX := Lib.hid b6.size
          have HT6 := Lib.hid (HT.out.below HB6.out)
          have SA6 := Lib.hid (HSA.out.below HB6.out)
          have SB6 := Lib.hid (HSB.out.below HB6.out)
          have HTA := Lib.hid (turn_right HAR.out)
          have HTB := Lib.hid (turn_right HBR.out)
          have HLTA : Hid ((turnV A).l.length ≤ 40) := by unfold Hid; rw [turn_len HAR.out]; exact HLA.out
          have HLTB : Hid ((turnV B).l.length ≤ 40) := by unfold Hid; rw [turn_len HBR.out]; exact HLB.out
          clear hW6 b6 H0 H1 SX5 HB5
          obtain ⟨Y, hY⟩ : ∃ Y, Y = bothV F (turnV A) (turnV B) := ⟨_, rfl⟩
          have HY := Lib.hid hY
          clear hY d1 d2
          refine wp_region_par [] [0, 1, 2, 3, 4, 5, 6, 7, 8, 9, 11] [10] [12, 13] (OpW [isV (.string s), isV (arrA A a capA), isArg [A], isA (turnV A), isV (arrA B b capB), isArg [B], isA (turnV B), isP Y, isP Y, isA Y, isV (.bool true), isBox W6.heap.size]) (by kernel_rfl) (by kernel_rfl) (OpW.stab ?_) rfl ?_ ?_ ?_
          · intro p hp
            simp only [List.mem_cons, List.mem_nil_iff, or_false] at hp
            rcases hp with rfl | rfl | rfl | rfl | rfl | rfl | rfl | rfl | rfl | rfl | rfl | rfl <;> first | exact isV.stab _ | exact isArg.stab _ | exact isA.stab _ | exact isP.stab _ | exact isBox.stab _
          · refine ⟨?_, ?_, ?_, ?_, ?_, ?_, ?_, ?_, ?_, ?_, ?_, trivial⟩
            · refine ⟨_, by (rw [List.getElem?_toArray]; (repeat rw [List.getElem?_cons_succ]); rw [List.getElem?_cons_zero]), rfl, fun q u hb hold hd K hK0 => ?_⟩
              have hK := fun v w' h1 h2 => hK0 v w' h1 h2 (fun h => absurd h (by simp))
              clear hK0
              have e := (hold 7 (old_of (by kernel_rfl))).trans rfl
              clear hold hd
              go_simp
              exact hK _ _ (Below.refl _ _) rfl
            · refine ⟨_, by (rw [List.getElem?_toArray]; (repeat rw [List.getElem?_cons_succ]); rw [List.getElem?_cons_zero]), rfl, fun q u hb hold hd K hK0 => ?_⟩
              have hK := fun v w' h1 h2 => hK0 v w' h1 h2 (fun h => absurd h (by simp))
              clear hK0
              have e := (hold 3 (old_of (by kernel_rfl))).trans rfl
              have g := (hb.block _ (lt_of_heap (Hid.out G0))).trans (Hid.out G0)
              have c0 := cell_of_heap g 0
              have c1 := cell_of_heap g 1
              have c2 := cell_of_heap g 2
              clear g hold hd
              go_simp
              exact hK _ _ (Below.refl _ _) rfl
            · refine ⟨_, by (rw [List.getElem?_toArray]; (repeat rw [List.getElem?_cons_succ]); rw [List.getElem?_cons_zero]), rfl, fun q u hb hold hd K hK0 => ?_⟩
              have hK := fun v w' h1 h2 => hK0 v w' h1 h2 (fun h => absurd h (by simp))
              clear hK0
              obtain ⟨v, e, tv⟩ := dep_val hd 1 54 rfl (by kernel_rfl) (by kernel_rfl)
              have tv : v = arrA A a capA := tv
              subst tv
              clear hold hd
              unfold arrA at e
              go_simp
              exact hK _ _ (below_alloc u _ _ (Nat.le_refl _)) ⟨u.heap.size, rfl, args_one ((Hid.out SA6).below ((Below.refl _ W6).drew.trans hb))⟩
            · refine ⟨_, by (rw [List.getElem?_toArray]; (repeat rw [List.getElem?_cons_succ]); rw [List.getElem?_cons_zero]), rfl, fun q u hb hold hd K hK0 => ?_⟩
              have hK := fun v w' h1 h2 => hK0 v w' h1 h2 (fun h => absurd h (by simp))
              clear hK0
              obtain ⟨v, e, b2, rfl, hargs⟩ := dep_val hd 2 55 rfl (by kernel_rfl) (by kernel_rfl)
              simp only [List.length_cons, List.length_nil, Nat.zero_add] at e
              clear hold hd
              go_simp
              refine (call_turn A (Hid.out HAR) _ 1 u hargs (HT6.out.below ((Below.refl _ W6).drew.trans hb))).mono ?_
              rintro e2 u2 ⟨x, rfl, ⟨a2, c2, rfl, hs2⟩, hb2⟩
              exact hK _ _ hb2 ⟨a2, c2, rfl, hs2.mono (Nat.zero_le _)⟩
            · refine ⟨_, by (rw [List.getElem?_toArray]; (repeat rw [List.getElem?_cons_succ]); rw [List.getElem?_cons_zero]), rfl, fun q u hb hold hd K hK0 => ?_⟩
              have hK := fun v w' h1 h2 => hK0 v w' h1 h2 (fun h => absurd h (by simp))
              clear hK0
              have e := (hold 4 (old_of (by kernel_rfl))).trans rfl
              have g := (hb.block _ (lt_of_heap (Hid.out G1))).trans (Hid.out G1)
              have c0 := cell_of_heap g 0
              have c1 := cell_of_heap g 1
              have c2 := cell_of_heap g 2
              clear g hold hd
              go_simp
              exact hK _ _ (Below.refl _ _) rfl
            · refine ⟨_, by (rw [List.getElem?_toArray]; (repeat rw [List.getElem?_cons_succ]); rw [List.getElem?_cons_zero]), rfl, fun q u hb hold hd K hK0 => ?_⟩
              have hK := fun v w' h1 h2 => hK0 v w' h1 h2 (fun h => absurd h (by simp))
              clear hK0
              obtain ⟨v, e, tv⟩ := dep_val hd 4 57 rfl (by kernel_rfl) (by kernel_rfl)
              have tv : v = arrA B b capB := tv
              subst tv
              clear hold hd
              unfold arrA at e
              go_simp
              exact hK _ _ (below_alloc u _ _ (Nat.le_refl _)) ⟨u.heap.size, rfl, args_one ((Hid.out SB6).below ((Below.refl _ W6).drew.trans hb))⟩
            · refine ⟨_, by (rw [List.getElem?_toArray]; (repeat rw [List.getElem?_cons_succ]); rw [List.getElem?_cons_zero]), rfl, fun q u hb hold hd K hK0 => ?_⟩
              have hK := fun v w' h1 h2 => hK0 v w' h1 h2 (fun h => absurd h (by simp))
              clear hK0
              obtain ⟨v, e, b2, rfl, hargs⟩ := dep_val hd 5 58 rfl (by kernel_rfl) (by kernel_rfl)
              simp only [List.length_cons, List.length_nil, Nat.zero_add] at e
              clear hold hd
              go_simp
              refine (call_turn B (Hid.out HBR) _ 1 u hargs (HT6.out.below ((Below.refl _ W6).drew.trans hb))).mono ?_
              rintro e2 u2 ⟨x, rfl, ⟨a2, c2, rfl, hs2⟩, hb2⟩
              exact hK _ _ hb2 ⟨a2, c2, rfl, hs2.mono (Nat.zero_le _)⟩
            · refine ⟨_, by (rw [List.getElem?_toArray]; (repeat rw [List.getElem?_cons_succ]); rw [List.getElem?_cons_zero]), rfl, fun q u hb hold hd K hK0 => ?_⟩
              have hK := fun v w' h1 h2 => hK0 v w' h1 h2 (fun h => absurd h (by simp))
              clear hK0
              obtain ⟨v0, e0, tv⟩ := dep_val hd 0 53 rfl (by kernel_rfl) (by kernel_rfl)
              have tv : v0 = .string s := tv
              subst tv
              obtain ⟨v3, e3, a3, c3, rfl, hs3⟩ := dep_val hd 3 56 rfl (by kernel_rfl) (by kernel_rfl)
              obtain ⟨v6, e6, a6, c6, rfl, hs6⟩ := dep_val hd 6 59 rfl (by kernel_rfl) (by kernel_rfl)
              clear hold hd
              unfold arrA at e3 e6
              go_simp
              refine (Binary_any s (turnV A) (turnV B) a3 a6 c3 c6 u HSO.out HTA.out HTB.out (both_bd HTA.out HTB.out HLTA.out HLTB.out).1 (both_bd HTA.out HTB.out HLTA.out HLTB.out).2 hs3 hs6 (HT6.out.below ((Below.refl _ W6).drew.trans hb))).mono ?_
              rw [← HY.out]
              rintro e2 u2 ⟨x, rfl, ⟨a2, c2, rfl, hs2⟩, hb2⟩
              exact hK _ _ hb2 ⟨a2, c2, rfl, hs2.mono (Nat.zero_le _)⟩
            · refine ⟨_, by (rw [List.getElem?_toArray]; (repeat rw [List.getElem?_cons_succ]); rw [List.getElem?_cons_zero]), rfl, fun q u hb hold hd K hK0 => ?_⟩
              have hK := fun v w' h1 h2 => hK0 v w' h1 h2 (fun h => absurd h (by simp))
              clear hK0
              obtain ⟨v, e, a3, c3, rfl, hs3⟩ := dep_val hd 7 60 rfl (by kernel_rfl) (by kernel_rfl)
              clear hold hd
              go_simp
              exact hK _ _ (Below.refl _ _) ⟨a3, c3, rfl, hs3⟩
            · refine ⟨_, by (rw [List.getElem?_toArray]; (repeat rw [List.getElem?_cons_succ]); rw [List.getElem?_cons_zero]), rfl, fun q u hb hold hd K hK0 => ?_⟩
              have hK := fun v w' h1 h2 => hK0 v w' h1 h2 (fun h => absurd h (by simp))
              clear hK0
              obtain ⟨v, e, a3, c3, rfl, hs3⟩ := dep_val hd 8 52 rfl (by kernel_rfl) (by kernel_rfl)
              clear hold hd
              go_simp
              exact hK _ _ (Below.refl _ _) ⟨a3, c3, rfl, hs3⟩
            · refine ⟨_, by (rw [List.getElem?_toArray]; (repeat rw [List.getElem?_cons_succ]); rw [List.getElem?_cons_zero]), rfl, fun q u hb hold hd K hK0 => ?_⟩
              have hK := fun v w' h1 h2 => hK0 v w' h1 h2 (fun h => absurd h (by simp))
              clear hK0
              clear hold hd
              go_simp
              exact hK _ _ (below_alloc u _ _ (Nat.le_refl _)) ⟨u.heap.size, rfl, hb.size, heap_alloc_new u _⟩
          · refine ⟨⟨_, by (rw [List.getElem?_toArray]; (repeat rw [List.getElem?_cons_succ]); rw [List.getElem?_cons_zero]), rfl, fun q u hd => ?_⟩, trivial⟩
            obtain ⟨v, e, a3, c3, rfl, hs3⟩ := dep_val hd 8 52 rfl (by kernel_rfl) (by kernel_rfl)
            refine ⟨.bool true, rfl, fun W => ?_⟩
            clear hd
            go_simp
          · intro vals u hb hall _
            have hb' : Below W6.heap.size W6 u := (Below.refl _ W6).drew.trans hb
            obtain ⟨ay, cy, h9, sy⟩ : isA Y (vals 9) u := hall 9 (by simp)
            have h10 : vals 10 = .bool true := hall 10 (by simp)
            obtain ⟨bb, h11, hbb, hbc⟩ : isBox W6.heap.size (vals 11) u := hall 11 (by simp)
            unfold arrA at h9
            have HY6 := Lib.hid sy
            have HBB := Lib.hid hbb
            have HBC := Lib.hid hbc
            have HB7 := Lib.hid hb'
            clear hall hb hb' sy hbb
            simp only [putAll, dstOf, List.cons_append, List.nil_append, List.getElem?_toArray, List.getElem?_cons_zero, List.getElem?_cons_succ, Option.bind_some, Act.put, h9, h10, h11]
            generalize vals 0 = v0
            generalize vals 1 = v1
            generalize vals 2 = v2
            generalize vals 3 = v3
            generalize vals 4 = v4
            generalize vals 5 = v5
            generalize vals 6 = v6
            generalize vals 7 = v7
            generalize vals 8 = v8
            clear h9 h10 h11
            have x0 := cell_of_heap hbc
            have y0 := frozen_of_heap hbc
            have z0 := lt_of_heap hbc
            clear hbc
            go_frame
            apply tail_step; (rw [List.getElem?_toArray]; (repeat rw [List.getElem?_cons_succ]); rw [List.getElem?_cons_zero]); rfl; rfl; intro K hK; go_simp; refine hK _ _ (fun _ => trivial) ?_; clear hK K
            apply tail_step; (rw [List.getElem?_toArray]; (repeat rw [List.getElem?_cons_succ]); rw [List.getElem?_cons_zero]); rfl; rfl; intro K hK; go_simp; refine hK _ _ (fun _ => trivial) ?_; clear hK K
            refine tail_done ?_
            clear x0 y0 z0
            go_upto_region 6 with fail
            refine abs_world ?_
            intro W7 hW7
            replace hW7 : W7 = boxed u bb Y.r Y.c (.slice ay Y.l.length cy) := hW7
            have hb6 := HBB.out
            have n0 : w.heap.size ≠ bb := by have := lt_of_heap G0.out; omega
            have n1 : w.heap.size + 1 ≠ bb := by have := lt_of_heap G1.out; omega
            have n2 : w5.heap.size ≠ bb := by have := lt_of_heap HX6.out; omega
            have HB8 : Hid (Below w.heap.size w W7) := by
              unfold Hid
              rw [hW7]
              exact boxed_below (HB6.out.trans (HB7.out.mono HB6.out.size)) (by have := lt_of_heap G0.out; omega) _ _ _
            have H0 : Hid (W7.heap[w.heap.size]? = some (.cells #[.int .i64 A.r, .int .i64 A.c, .slice a A.l.length capA] 28)) := by
              unfold Hid
              rw [hW7, boxed_ne n0]
              exact (HB7.out.block _ (lt_of_heap G0.out)).trans G0.out
            have H1 : Hid (W7.heap[w.heap.size + 1]? = some (.cells #[.int .i64 B.r, .int .i64 B.c, .slice b B.l.length capB] 28)) := by
              unfold Hid
              rw [hW7, boxed_ne n1]
              exact (HB7.out.block _ (lt_of_heap G1.out)).trans G1.out
            have HX7 : Hid (W7.heap[w5.heap.size]? = some (.cells #[.int .i64 X.r, .int .i64 X.c, .slice ax X.l.length cx] 28)) := by
              unfold Hid
              rw [hW7, boxed_ne n2]
              exact (HB7.out.block _ (lt_of_heap HX6.out)).trans HX6.out
            have HY7 : Hid (W7.heap[bb]? = some (.cells #[.int .i64 Y.r, .int .i64 Y.c, .slice ay Y.l.length cy] 28)) := by
              unfold Hid
              rw [hW7]
              exact boxed_at HBC.out _ _ _
            have SX7 : Hid (SlB 0 W7 ax X.l) := by
              unfold Hid
              rw [hW7]
              exact slb_boxed (SX6.out.below HB7.out) HBC.out _ _ _
            have SY7 : Hid (SlB 0 W7 ay Y.l) := by
              unfold Hid
              rw [hW7]
              exact slb_boxed HY6.out HBC.out _ _ _
            have HT7 := Lib.hid (HT.out.below HB8.out)
            have SA7 := Lib.hid (HSA.out.below HB8.out)
            have SB7 := Lib.hid (HSB.out.below HB8.out)
            clear hW7 hb6 n0 n1 n2 G0 G1 HX6 HBC HBB SX6 HY6 HB6 HB7 HT6 SA6 SB6 ZX
            obtain ⟨R, hR⟩ : ∃ R, R = bothV roundedV A B := ⟨_, rfl⟩
            obtain ⟨S, hS⟩ : ∃ S, S = bothV roundedV (turnV A) (turnV B) := ⟨_, rfl⟩
            have HR := Lib.hid hR
            have HS := Lib.hid hS
            have HRR : Hid (ArrR R) := by
              unfold Hid
              rw [hR]
              exact both_right (fun x y hx _ => rounded_right hx y) HAR.out HBR.out HLA.out HLB.out
            have TR : Hid (turnV R = S) := by
              unfold Hid
              rw [hR, hS]
              exact turn_both roundedV HAR.out.h1 HAR.out.h2 HAR.out.h6 HBR.out.h1 HBR.out.h2 HBR.out.h6
            have TX : Hid (turnV X = Y) := by
              unfold Hid
              rw [HY.out]
              exact TB.out
            clear hR hS TB HY
            refine wp_region_par [12, 13] [0, 1, 2, 3, 4, 5, 6, 7, 8, 9, 10, 11, 12, 13] [] [14, 15] (OpW [isV (arrA A a capA), isV (arrA B b capB), isArg [A, B], isA R, isV (arrA A a capA), isArg [A], isA (turnV A), isV (arrA B b capB), isArg [B], isA (turnV B), isArg [turnV A, turnV B], isA S, isBox W7.heap.size, isBox W7.heap.size]) (by kernel_rfl) (by kernel_rfl) (OpW.stab ?_) rfl ?_ trivial ?_
            · intro p hp
              simp only [List.mem_cons, List.mem_nil_iff, or_false] at hp
              rcases hp with rfl | rfl | rfl | rfl | rfl | rfl | rfl | rfl | rfl | rfl | rfl | rfl | rfl | rfl <;> first | exact isV.stab _ | exact isArg.stab _ | exact isA.stab _ | exact isP.stab _ | exact isBox.stab _
            · refine ⟨?_, ?_, ?_, ?_, ?_, ?_, ?_, ?_, ?_, ?_, ?_, ?_, ?_, ?_, trivial⟩
              · refine ⟨_, by (rw [List.getElem?_toArray]; (repeat rw [List.getElem?_cons_succ]); rw [List.getElem?_cons_zero]), rfl, fun q u hb hold hd K hK0 => ?_⟩
                have hK := fun v w' h1 h2 => hK0 v w' h1 h2 (fun h => absurd h (by simp))
                clear hK0
                have e := (hold 3 (old_of (by kernel_rfl))).trans rfl
                have g := (hb.block _ (lt_of_heap (Hid.out H0))).trans (Hid.out H0)
                have c0 := cell_of_heap g 0
                have c1 := cell_of_heap g 1
                have c2 := cell_of_heap g 2
                clear g hold hd
                go_simp
                exact hK _ _ (Below.refl _ _) rfl
              · refine ⟨_, by (rw [List.getElem?_toArray]; (repeat rw [List.getElem?_cons_succ]); rw [List.getElem?_cons_zero]), rfl, fun q u hb hold hd K hK0 => ?_⟩
                have hK := fun v w' h1 h2 => hK0 v w' h1 h2 (fun h => absurd h (by simp))
                clear hK0
                have e := (hold 4 (old_of (by kernel_rfl))).trans rfl
                have g := (hb.block _ (lt_of_heap (Hid.out H1))).trans (Hid.out H1)
                have c0 := cell_of_heap g 0
                have c1 := cell_of_heap g 1
                have c2 := cell_of_heap g 2
                clear g hold hd
                go_simp
                exact hK _ _ (Below.refl _ _) rfl
              · refine ⟨_, by (rw [List.getElem?_toArray]; (repeat rw [List.getElem?_cons_succ]); rw [List.getElem?_cons_zero]), rfl, fun q u hb hold hd K hK0 => ?_⟩
                have hK := fun v w' h1 h2 => hK0 v w' h1 h2 (fun h => absurd h (by simp))
                clear hK0
                obtain ⟨v0, e0, tv⟩ := dep_val hd 0 63 rfl (by kernel_rfl) (by kernel_rfl)
                have tv : v0 = arrA A a capA := tv
                subst tv
                obtain ⟨v1, e1, tv⟩ := dep_val hd 1 64 rfl (by kernel_rfl) (by kernel_rfl)
                have tv : v1 = arrA B b capB := tv
                subst tv
                clear hold hd
                unfold arrA at e0 e1
                go_simp
                exact hK _ _ (below_alloc u _ _ (Nat.le_refl _)) ⟨u.heap.size, rfl, args_two (SA7.out.below ((Below.refl _ W7).drew.trans hb)) (SB7.out.below ((Below.refl _ W7).drew.trans hb))⟩
              · refine ⟨_, by (rw [List.getElem?_toArray]; (repeat rw [List.getElem?_cons_succ]); rw [List.getElem?_cons_zero]), rfl, fun q u hb hold hd K hK0 => ?_⟩
                have hK := fun v w' h1 h2 => hK0 v w' h1 h2 (fun h => absurd h (by simp))
                clear hK0
                obtain ⟨v, e, b2, rfl, hargs⟩ := dep_val hd 2 65 rfl (by kernel_rfl) (by kernel_rfl)
                simp only [List.length_cons, List.length_nil, Nat.zero_add] at e
                clear hold hd
                go_simp
                refine (call_round (A) (B) (Hid.out HAR) (Hid.out HBR) (both_bd (Hid.out HAR) (Hid.out HBR) (Hid.out HLA) (Hid.out HLB)).1 (both_bd (Hid.out HAR) (Hid.out HBR) (Hid.out HLA) (Hid.out HLB)).2 _ _ u hargs (HT7.out.below ((Below.refl _ W7).drew.trans hb))).mono ?_
                rw [← HR.out]
                rintro e2 u2 ⟨x, rfl, ⟨a2, c2, rfl, hs2⟩, hb2⟩
                exact hK _ _ hb2 ⟨a2, c2, rfl, hs2.mono (Nat.zero_le _)⟩
              · refine ⟨_, by (rw [List.getElem?_toArray]; (repeat rw [List.getElem?_cons_succ]); rw [List.getElem?_cons_zero]), rfl, fun q u hb hold hd K hK0 => ?_⟩
                have hK := fun v w' h1 h2 => hK0 v w' h1 h2 (fun h => absurd h (by simp))
                clear hK0
                have e := (hold 3 (old_of (by kernel_rfl))).trans rfl
                have g := (hb.block _ (lt_of_heap (Hid.out H0))).trans (Hid.out H0)
                have c0 := cell_of_heap g 0
                have c1 := cell_of_heap g 1
                have c2 := cell_of_heap g 2
                clear g hold hd
                go_simp
                exact hK _ _ (Below.refl _ _) rfl
              · refine ⟨_, by (rw [List.getElem?_toArray]; (repeat rw [List.getElem?_cons_succ]); rw [List.getElem?_cons_zero]), rfl, fun q u hb hold hd K hK0 => ?_⟩
                have hK := fun v w' h1 h2 => hK0 v w' h1 h2 (fun h => absurd h (by simp))
                clear hK0
                obtain ⟨v, e, tv⟩ := dep_val hd 4 67 rfl (by kernel_rfl) (by kernel_rfl)
                have tv : v = arrA A a capA := tv
                subst tv
                clear hold hd
                unfold arrA at e
                go_simp
                exact hK _ _ (below_alloc u _ _ (Nat.le_refl _)) ⟨u.heap.size, rfl, args_one ((Hid.out SA7).below ((Below.refl _ W7).drew.trans hb))⟩
              · refine ⟨_, by (rw [List.getElem?_toArray]; (repeat rw [List.getElem?_cons_succ]); rw [List.getElem?_cons_zero]), rfl, fun q u hb hold hd K hK0 => ?_⟩
                have hK := fun v w' h1 h2 => hK0 v w' h1 h2 (fun h => absurd h (by simp))
                clear hK0
                obtain ⟨v, e, b2, rfl, hargs⟩ := dep_val hd 5 68 rfl (by kernel_rfl) (by kernel_rfl)
                simp only [List.length_cons, List.length_nil, Nat.zero_add] at e
                clear hold hd
                go_simp
                refine (call_turn A (Hid.out HAR) _ 1 u hargs (HT7.out.below ((Below.refl _ W7).drew.trans hb))).mono ?_
                rintro e2 u2 ⟨x, rfl, ⟨a2, c2, rfl, hs2⟩, hb2⟩
                exact hK _ _ hb2 ⟨a2, c2, rfl, hs2.mono (Nat.zero_le _)⟩
              · refine ⟨_, by (rw [List.getElem?_toArray]; (repeat rw [List.getElem?_cons_succ]); rw [List.getElem?_cons_zero]), rfl, fun q u hb hold hd K hK0 => ?_⟩
                have hK := fun v w' h1 h2 => hK0 v w' h1 h2 (fun h => absurd h (by simp))
                clear hK0
                have e := (hold 4 (old_of (by kernel_rfl))).trans rfl
                have g := (hb.block _ (lt_of_heap (Hid.out H1))).trans (Hid.out H1)
                have c0 := cell_of_heap g 0
                have c1 := cell_of_heap g 1
                have c2 := cell_of_heap g 2
                clear g hold hd
                go_simp
                exact hK _ _ (Below.refl _ _) rfl
              · refine ⟨_, by (rw [List.getElem?_toArray]; (repeat rw [List.getElem?_cons_succ]); rw [List.getElem?_cons_zero]), rfl, fun q u hb hold hd K hK0 => ?_⟩
                have hK := fun v w' h1 h2 => hK0 v w' h1 h2 (fun h => absurd h (by simp))
                clear hK0
                obtain ⟨v, e, tv⟩ := dep_val hd 7 70 rfl (by kernel_rfl) (by kernel_rfl)
                have tv : v = arrA B b capB := tv
                subst tv
                clear hold hd
                unfold arrA at e
                go_simp
                exact hK _ _ (below_alloc u _ _ (Nat.le_refl _)) ⟨u.heap.size, rfl, args_one ((Hid.out SB7).below ((Below.refl _ W7).drew.trans hb))⟩
              · refine ⟨_, by (rw [List.getElem?_toArray]; (repeat rw [List.getElem?_cons_succ]); rw [List.getElem?_cons_zero]), rfl, fun q u hb hold hd K hK0 => ?_⟩
                have hK := fun v w' h1 h2 => hK0 v w' h1 h2 (fun h => absurd h (by simp))
                clear hK0
                obtain ⟨v, e, b2, rfl, hargs⟩ := dep_val hd 8 71 rfl (by kernel_rfl) (by kernel_rfl)
                simp only [List.length_cons, List.length_nil, Nat.zero_add] at e
                clear hold hd
                go_simp
                refine (call_turn B (Hid.out HBR) _ 1 u hargs (HT7.out.below ((Below.refl _ W7).drew.trans hb))).mono ?_
                rintro e2 u2 ⟨x, rfl, ⟨a2, c2, rfl, hs2⟩, hb2⟩
                exact hK _ _ hb2 ⟨a2, c2, rfl, hs2.mono (Nat.zero_le _)⟩
              · refine ⟨_, by (rw [List.getElem?_toArray]; (repeat rw [List.getElem?_cons_succ]); rw [List.getElem?_cons_zero]), rfl, fun q u hb hold hd K hK0 => ?_⟩
                have hK := fun v w' h1 h2 => hK0 v w' h1 h2 (fun h => absurd h (by simp))
                clear hK0
                obtain ⟨v0, e0, a3, c3, rfl, hs3⟩ := dep_val hd 6 69 rfl (by kernel_rfl) (by kernel_rfl)
                obtain ⟨v1, e1, a6, c6, rfl, hs6⟩ := dep_val hd 9 72 rfl (by kernel_rfl) (by kernel_rfl)
                clear hold hd
                unfold arrA at e0 e1
                go_simp
                exact hK _ _ (below_alloc u _ _ (Nat.le_refl _)) ⟨u.heap.size, rfl, args_two hs3 hs6⟩
              · refine ⟨_, by (rw [List.getElem?_toArray]; (repeat rw [List.getElem?_cons_succ]); rw [List.getElem?_cons_zero]), rfl, fun q u hb hold hd K hK0 => ?_⟩
                have hK := fun v w' h1 h2 => hK0 v w' h1 h2 (fun h => absurd h (by simp))
                clear hK0
                obtain ⟨v, e, b2, rfl, hargs⟩ := dep_val hd 10 73 rfl (by kernel_rfl) (by kernel_rfl)
                simp only [List.length_cons, List.length_nil, Nat.zero_add] at e
                clear hold hd
                go_simp
                refine (call_round (turnV A) (turnV B) (Hid.out HTA) (Hid.out HTB) (both_bd (Hid.out HTA) (Hid.out HTB) (Hid.out HLTA) (Hid.out HLTB)).1 (both_bd (Hid.out HTA) (Hid.out HTB) (Hid.out HLTA) (Hid.out HLTB)).2 _ _ u hargs (HT7.out.below ((Below.refl _ W7).drew.trans hb))).mono ?_
                rw [← HS.out]
                rintro e2 u2 ⟨x, rfl, ⟨a2, c2, rfl, hs2⟩, hb2⟩
                exact hK _ _ hb2 ⟨a2, c2, rfl, hs2.mono (Nat.zero_le _)⟩
              · refine ⟨_, by (rw [List.getElem?_toArray]; (repeat rw [List.getElem?_cons_succ]); rw [List.getElem?_cons_zero]), rfl, fun q u hb hold hd K hK => ?_⟩
                clear hold hd
                go_simp
                exact hK _ _ (below_alloc u _ _ (Nat.le_refl _)) ⟨u.heap.size, rfl, hb.size, heap_alloc_new u _⟩ (fun _ j hj x hx => by
                  simp only [List.mem_cons, List.mem_nil_iff, or_false] at hj
                  rcases hj with rfl | rfl <;> exact isBox.ne (B := W7.heap.size) hx)
              · refine ⟨_, by (rw [List.getElem?_toArray]; (repeat rw [List.getElem?_cons_succ]); rw [List.getElem?_cons_zero]), rfl, fun q u hb hold hd K hK => ?_⟩
                clear hold hd
                go_simp
                exact hK _ _ (below_alloc u _ _ (Nat.le_refl _)) ⟨u.heap.size, rfl, hb.size, heap_alloc_new u _⟩ (fun _ j hj x hx => by
                  simp only [List.mem_cons, List.mem_nil_iff, or_false] at hj
                  rcases hj with rfl | rfl <;> exact isBox.ne (B := W7.heap.size) hx)
            · intro vals u hb hall hdis
              have hb' : Below W7.heap.size W7 u := (Below.refl _ W7).drew.trans hb
              obtain ⟨ar, cr, h3, sr⟩ : isA R (vals 3) u := hall 3 (by simp)
              obtain ⟨asx, cs, h11, ss⟩ : isA S (vals 11) u := hall 11 (by simp)
              obtain ⟨p, h12, hpb, hpc⟩ : isBox W7.heap.size (vals 12) u := hall 12 (by simp)
              obtain ⟨r, h13, hrb, hrc⟩ : isBox W7.heap.size (vals 13) u := hall 13 (by simp)
              have hpr : p ≠ r := fun e => hdis 12 (by simp) 13 (by simp) (by decide) (by rw [h12, h13, e])
              have hrp : r ≠ p := fun e => hpr e.symm
              unfold arrA at h3 h11
              have SR := Lib.hid sr
              have SS := Lib.hid ss
              have HPB := Lib.hid hpb
              have HRB := Lib.hid hrb
              have HPC := Lib.hid hpc
              have HRC := Lib.hid hrc
              have HB7 := Lib.hid hb'
              clear hall hdis hb hb' sr ss hpb hrb
              simp only [putAll, dstOf, List.append_nil, List.getElem?_toArray, List.getElem?_cons_zero, List.getElem?_cons_succ, Option.bind_some, Act.put, h3, h11, h12, h13]
              generalize vals 0 = u0
              generalize vals 1 = u1
              generalize vals 2 = u2
              generalize vals 4 = u4
              generalize vals 5 = u5
              generalize vals 6 = u6
              generalize vals 7 = u7
              generalize vals 8 = u8
              generalize vals 9 = u9
              generalize vals 10 = u10
              clear h3 h11 h12 h13
              have x0 := cell_of_heap hpc
              have y0 := frozen_of_heap hpc
              have z0 := lt_of_heap hpc
              have x1 := cell_of_heap hrc
              have y1 := frozen_of_heap hrc
              have z1 := lt_of_heap hrc
              clear hpc hrc
              go_frame
              apply tail_step; (rw [List.getElem?_toArray]; (repeat rw [List.getElem?_cons_succ]); rw [List.getElem?_cons_zero]); rfl; rfl; intro K hK; go_simp; refine hK _ _ (fun _ => trivial) ?_; clear hK K
              apply tail_step; (rw [List.getElem?_toArray]; (repeat rw [List.getElem?_cons_succ]); rw [List.getElem?_cons_zero]); rfl; rfl; intro K hK; go_simp; refine hK _ _ (fun _ => trivial) ?_; clear hK K
              refine tail_done ?_
              clear x0 y0 z0 x1 y1 z1
              go_upto_region 7 with fail
              refine abs_world ?_
              intro W8 hW8
              replace hW8 : W8 = boxed (boxed u p R.r R.c (.slice ar R.l.length cr)) r S.r S.c (.slice asx S.l.length cs) := hW8
              have hp6 := HPB.out
              have hr6 := HRB.out
              have m2 : w5.heap.size ≠ p := by have := lt_of_heap HX7.out; omega
              have m2' : w5.heap.size ≠ r := by have := lt_of_heap HX7.out; omega
              have m3 : bb ≠ p := by have := lt_of_heap HY7.out; omega
              have m3' : bb ≠ r := by have := lt_of_heap HY7.out; omega
              have hB78 : Below W7.heap.size W7 W8 := by
                rw [hW8]
                exact boxed_below (boxed_below HB7.out hp6 _ _ _) hr6 _ _ _
              have hrc2 : (boxed u p R.r R.c (.slice ar R.l.length cr)).heap[r]? = some (.cells #[.int .i64 0, .int .i64 0, .slice none 0 0] 28) := (boxed_ne hrp _ _ _).trans HRC.out
              have gR : W8.heap[p]? = some (.cells #[.int .i64 R.r, .int .i64 R.c, .slice ar R.l.length cr] 28) := by
                rw [hW8, boxed_ne hpr]
                exact boxed_at HPC.out _ _ _
              have gS : W8.heap[r]? = some (.cells #[.int .i64 S.r, .int .i64 S.c, .slice asx S.l.length cs] 28) := by
                rw [hW8]
                exact boxed_at hrc2 _ _ _
              have gX := (hB78.block _ (lt_of_heap HX7.out)).trans HX7.out
              have gY := (hB78.block _ (lt_of_heap HY7.out)).trans HY7.out
              have SR8 : Hid (SlB 0 W8 ar R.l) := by
                unfold Hid
                rw [hW8]
                exact slb_boxed (slb_boxed SR.out HPC.out _ _ _) hrc2 _ _ _
              have SS8 : Hid (SlB 0 W8 asx S.l) := by
                unfold Hid
                rw [hW8]
                exact slb_boxed (slb_boxed SS.out HPC.out _ _ _) hrc2 _ _ _
              have SX8 := Lib.hid (SX7.out.below hB78)
              have SY8 := Lib.hid (SY7.out.below hB78)
              have HB9 := Lib.hid (HB8.out.trans (hB78.mono HB8.out.size))
              have HT8 := Lib.hid (HT.out.below HB9.out)
              have LX : Hid ((turnV X).l.length ≤ 4096) := (turn_right HXR.out).len
              have LR : Hid ((turnV R).l.length ≤ 4096) := (turn_right HRR.out).len
              have x0 := cell_of_heap gX
              have x1 := cell_of_heap gY
              have x2 := cell_of_heap gR
              have x3 := cell_of_heap gS
              have z0 := lt_of_heap gX
              have z1 := lt_of_heap gY
              have z2 := lt_of_heap gR
              have z3 := lt_of_heap gS
              clear hW8 hp6 hr6 m2 m2' m3 m3' hB78 hrc2 gR gS gX gY hpr hrp HPC HRC HPB HRB SR SS HB7 HX7 HY7 H0 H1 SX7 SY7 HT7 SA7 SB7 HB8 HTA HTB HLTA HLTB HR HS
              refine wp_region_multiR [([0, 1, 2, 3, 4, 5, 8], [6, 7, 9], [9, 10, 11, 12, 13, 14, 15, 16, 17, 18]), ([10, 11, 12, 15], [13, 14, 16], [16, 17, 18]), ([17, 18], [], [])] (by kernel_rfl) (by kernel_rfl) ?_
              refine multi_phase (Below W8.heap.size W8) (Below.refl _ _).drew ?_
              iterate 7 (first | (apply first_step; (rw [List.getElem?_toArray]; (repeat rw [List.getElem?_cons_succ]); rw [List.getElem?_cons_zero]); rfl; (intro W hB; have hc := bcellB hB; go_simp; (first | done | rfl)); go_frame) | (apply first_skip; (rw [List.getElem?_toArray]; (repeat rw [List.getElem?_cons_succ]); rw [List.getElem?_cons_zero]); rfl; go_frame))
              refine first_done ?_
              clear x0 x1 z0 z1
              apply forced_step; (rw [List.getElem?_toArray]; (repeat rw [List.getElem?_cons_succ]); rw [List.getElem?_cons_zero]); rfl; intro K hK; go_simp
              refine hK _ _ (fun _ => ?_) ?_
              focus (clear hK; (repeat with_reducible (first | exact bw0 _ _ | exact hBW | refine bw1 ?_ ?_ _ | refine bw2 ?_ ?_ _ | refine bw3 ?_ _ | refine bw4 ?_)); all_goals (first | omega | (dsimp only; omega) | ((repeat with_reducible (first | refine lz1 ?_ | refine lz2 ?_ | refine lz3 ?_ | refine lz4 ?_)); omega)))
              clear hK K
              have bq : Below W8.heap.size W8 (W8.drew.alloc (.cells #[.int .i64 X.r, .int .i64 X.c, .slice ax X.l.length cx] 28)) := (Below.refl _ W8).drew.trans (below_alloc W8.drew _ _ (Nat.le_refl _))
              have hargs := args_one (A := X) (a := ax) (ca := cx) (SX8.out.below (Below.refl _ W8).drew)
              have HQ := Lib.hid (call_turn X HXR.out _ 1 _ hargs (HT8.out.below bq))
              have BQ := Lib.hid bq
              clear bq hargs
              apply forced_step; (rw [List.getElem?_toArray]; (repeat rw [List.getElem?_cons_succ]); rw [List.getElem?_cons_zero]); rfl; intro K hK; go_simp
              refine HQ.out.mono ?_
              rw [TX.out]
              rintro e y1 ⟨x, rfl, ⟨a5, c5, rfl, hs5⟩, hy1⟩
              have hz1 : Below W8.heap.size W8 y1 := BQ.out.trans (hy1.mono BQ.out.size)
              refine hK _ _ (fun _ => hz1) ?_
              clear hK K HQ BQ
              have HZ1 := Lib.hid hz1
              have S5 := Lib.hid (hs5.mono (Nat.zero_le _))
              clear hz1 hs5 hy1
              apply forced_step; (rw [List.getElem?_toArray]; (repeat rw [List.getElem?_cons_succ]); rw [List.getElem?_cons_zero]); rfl; intro K hK; go_simp
              refine (same_yes Y _ _ _ ⟨a5, c5, rfl, S5.out⟩ ⟨ay, cy, rfl, SY8.out.below HZ1.out⟩ (by have := LX.out; rw [TX.out] at this; omega)).mono ?_
              rintro e y2 ⟨rfl, hy2⟩
              refine hK _ _ (fun h => absurd (by decide) h) ?_
              clear hK K
              refine forced_done ?_
              have hz2 := HZ1.out.trans (hy2.mono HZ1.out.size)
              have HZ2 := Lib.hid hz2
              have SR9 := Lib.hid (SR8.out.below hz2)
              have SS9 := Lib.hid (SS8.out.below hz2)
              have HT9 := Lib.hid (HT8.out.below hz2)
              have w0 := (hz2.cell (p := ⟨p, 0, none⟩) z2).trans (x2 0)
              have w1' := (hz2.cell (p := ⟨p, 1, none⟩) z2).trans (x2 1)
              have w2' := (hz2.cell (p := ⟨p, 2, none⟩) z2).trans (x2 2)
              have t0 := (hz2.cell (p := ⟨r, 0, none⟩) z3).trans (x3 0)
              have t1 := (hz2.cell (p := ⟨r, 1, none⟩) z3).trans (x3 1)
              have t2 := (hz2.cell (p := ⟨r, 2, none⟩) z3).trans (x3 2)
              have zp := Nat.lt_of_lt_of_le z2 hz2.size
              have zr := Nat.lt_of_lt_of_le z3 hz2.size
              clear x2 x3 z2 z3 hz2 hy2 HZ1 S5 SX8 SY8 SR8 SS8 HT8 LX TX
              refine multi_phase (Below y2.heap.size y2) (Below.refl _ _) ?_
              iterate 4 (first | (apply first_step; (rw [List.getElem?_toArray]; (repeat rw [List.getElem?_cons_succ]); rw [List.getElem?_cons_zero]); rfl; (intro W hB; have hc := bcellB hB; go_simp; (first | done | rfl)); go_frame) | (apply first_skip; (rw [List.getElem?_toArray]; (repeat rw [List.getElem?_cons_succ]); rw [List.getElem?_cons_zero]); rfl; go_frame))
              refine first_done ?_
              clear w0 w1' w2' t0 t1 t2
              apply forced_step; (rw [List.getElem?_toArray]; (repeat rw [List.getElem?_cons_succ]); rw [List.getElem?_cons_zero]); rfl; intro K hK; go_simp
              refine hK _ _ (fun _ => ?_) ?_
              focus (clear hK; (repeat with_reducible (first | exact bw0 _ _ | exact hBW | refine bw1 ?_ ?_ _ | refine bw2 ?_ ?_ _ | refine bw3 ?_ _ | refine bw4 ?_)); all_goals (first | omega | (dsimp only; omega) | ((repeat with_reducible (first | refine lz1 ?_ | refine lz2 ?_ | refine lz3 ?_ | refine lz4 ?_)); omega)))
              clear hK K
              have bq := below_alloc y2 (.cells #[.int .i64 R.r, .int .i64 R.c, .slice ar R.l.length cr] 28) _ (Nat.le_refl _)
              have hargs := args_one (A := R) (a := ar) (ca := cr) SR9.out
              have HQ := Lib.hid (call_turn R HRR.out _ 1 _ hargs (HT9.out.below bq))
              have BQ := Lib.hid bq
              clear bq hargs
              apply forced_step; (rw [List.getElem?_toArray]; (repeat rw [List.getElem?_cons_succ]); rw [List.getElem?_cons_zero]); rfl; intro K hK; go_simp
              refine HQ.out.mono ?_
              rw [TR.out]
              rintro e y3 ⟨x, rfl, ⟨a6, c6, rfl, hs6⟩, hy3⟩
              have hz3 : Below y2.heap.size y2 y3 := BQ.out.trans (hy3.mono BQ.out.size)
              refine hK _ _ (fun _ => hz3) ?_
              clear hK K HQ BQ
              have HZ3 := Lib.hid hz3
              have S6 := Lib.hid (hs6.mono (Nat.zero_le _))
              clear hz3 hs6 hy3
              apply forced_step; (rw [List.getElem?_toArray]; (repeat rw [List.getElem?_cons_succ]); rw [List.getElem?_cons_zero]); rfl; intro K hK; go_simp
              refine (same_yes S _ _ _ ⟨a6, c6, rfl, S6.out⟩ ⟨asx, cs, rfl, SS9.out.below HZ3.out⟩ (by have := LR.out; rw [TR.out] at this; omega)).mono ?_
              rintro e y4 ⟨rfl, hy4⟩
              refine hK _ _ (fun h => absurd (by decide) h) ?_
              clear hK K
              refine forced_done ?_
              have HZ4 := Lib.hid (HZ3.out.trans (hy4.mono HZ3.out.size))
              clear hy4
              refine multi_phase (Below y4.heap.size y4) (Below.refl _ _) ?_
              iterate 2 (first | (apply first_step; (rw [List.getElem?_toArray]; (repeat rw [List.getElem?_cons_succ]); rw [List.getElem?_cons_zero]); rfl; (intro W hB; have hc := bcellB hB; go_simp; (first | done | rfl)); go_frame) | (apply first_skip; (rw [List.getElem?_toArray]; (repeat rw [List.getElem?_cons_succ]); rw [List.getElem?_cons_zero]); rfl; go_frame))
              refine first_done ?_
              refine forced_done ?_
              refine multi_done ?_
              go_wp2_with fail
              go_ret
              exact ⟨rfl, HB9.out.trans ((HZ2.out.trans (HZ4.out.mono HZ2.out.size)).mono HB9.out.size)⟩
end
end Go.Proofs.YtndhmahkglfopaaGreatDoor
