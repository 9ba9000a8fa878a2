/- FlogicEach: for every array and every two bytes. -/
import Derived.Test.YtgbedjeiihigaaaF13R09
import Derived.Test.YtgbedjeiihigaaaF13Kind
import Derived.Test.YtgbedjeiihigaaaF13Awake
namespace Go.Proofs.Ytgbedjeiihigaaa
open Go.RowKit
def eName : Nat → ByteArray
  | 0 => sNOT
  | i + 1 => kName i
def eF : Nat → V → V
  | 0 => notV
  | i + 1 => kindV i
theorem call_e (j : Nat) (hj : j < 6) (A : Arr) (hT : ∀ v ∈ A.l, TOk v) (hO : ArrOk A) (a : Option Addr) (cap : Nat) (w : World) (hA : ArgsAt 0 w a [A]) :
    Calls Try.prog 10 #[.string (eName j), .slice a 1 cap] w (CallPost w ⟨A.r, A.c, A.l.map (eF j)⟩) := by
  match j, hj with
  | 0, _ => exact call_not A hT hO a cap w hA
  | i + 1, hj => exact call_kind i (by omega) A hO a cap w hA
set_option maxHeartbeats 1000000 in
set_option maxRecDepth 100000 in
theorem each_long (A : Arr) (a : Option Addr) (cap : Nat) (p q : Int) (w : World) (h : 60 < A.l.length) : Calls Try.prog 6 #[.agg #[.int .i64 A.r, .int .i64 A.c, .slice a A.l.length cap], .int .u8 p, .int .u8 q] w fun e w' => e = .returned (.bool true) ∧ Below w.heap.size w w' := by
  go_enter Try.func6, Try.ntmps6
  go_wp2_with fail
  refine (awake_any _).mono ?_
  rintro e w1 ⟨rfl, f1⟩
  have g0 : w1.heap[w.heap.size]? = some (.cells #[.int .i64 A.r, .int .i64 A.c, .slice a A.l.length cap] 27) := (f1.block _ (by simp)).trans (by (repeat (first | (with_reducible refine heap_alloc_at ?_ _; (first | rfl | (simp; done) | omega | (simp; omega)); done) | with_reducible refine heap_alloc_old ?_ _ | with_reducible refine heap_drew_old ?_ | with_reducible refine heap_drewN_old ?_)))
  have F1 : Hid (Below w.heap.size w w1) := by
    refine Below.trans ?_ (f1.mono (by simp))
    (repeat (first | with_reducible exact Below.refl _ _ | with_reducible exact hBW | with_reducible refine Below.setCell ?_ ?_ _ | with_reducible refine Below.alloc ?_ ?_ _ | with_reducible refine belowN ?_ _ | with_reducible refine Below.drew ?_)); all_goals (first | omega | (dsimp only; omega) | ((repeat (first | with_reducible refine le_alloc ?_ | with_reducible refine le_setCell ?_ | with_reducible refine le_drew ?_ | with_reducible refine le_drewN ?_)); omega))
  have x2 := cell_of_heap g0 2
  have z0 := lt_of_heap g0
  clear f1 g0
  go_wp2_with fail
  go_ret
  exact ⟨rfl, F1.out⟩
set_option maxHeartbeats 4000000 in
set_option maxRecDepth 100000 in
theorem each_main (A : Arr) (a : Option Addr) (cap : Nat) (p q : Int) (w : World) (hl : A.l.length ≤ 60) (p1 : 0 ≤ p) (p2 : p ≤ 255) (q1 : 0 ≤ q) (q2 : q ≤ 255) (hs : SlB 0 w a A.l) : Calls Try.prog 6 #[.agg #[.int .i64 A.r, .int .i64 A.c, .slice a A.l.length cap], .int .u8 p, .int .u8 q] w fun e w' => e = .returned (.bool true) ∧ Below w.heap.size w w' := by
  have HS := Lib.hid hs
  clear hs
  go_enter Try.func6, Try.ntmps6
  go_wp2_with fail
  refine (awake_any _).mono ?_
  rintro e w1 ⟨rfl, f1⟩
  have g0 : w1.heap[w.heap.size]? = some (.cells #[.int .i64 A.r, .int .i64 A.c, .slice a A.l.length cap] 27) := (f1.block _ (by simp)).trans (by (repeat (first | (with_reducible refine heap_alloc_at ?_ _; (first | rfl | (simp; done) | omega | (simp; omega)); done) | with_reducible refine heap_alloc_old ?_ _ | with_reducible refine heap_drew_old ?_ | with_reducible refine heap_drewN_old ?_)))
  have F1 : Hid (Below w.heap.size w w1) := by
    refine Below.trans ?_ (f1.mono (by simp))
    (repeat (first | with_reducible exact Below.refl _ _ | with_reducible exact hBW | with_reducible refine Below.setCell ?_ ?_ _ | with_reducible refine Below.alloc ?_ ?_ _ | with_reducible refine belowN ?_ _ | with_reducible refine Below.drew ?_)); all_goals (first | omega | (dsimp only; omega) | ((repeat (first | with_reducible refine le_alloc ?_ | with_reducible refine le_setCell ?_ | with_reducible refine le_drew ?_ | with_reducible refine le_drewN ?_)); omega))
  have G0 := Lib.hid g0
  have x0 := cell_of_heap g0
  have z0 := lt_of_heap g0
  clear f1 g0
  go_wp2_with fail
  refine (r09_any A a cap _ (HS.out.below F1.out)).mono ?_
  rintro e w2 ⟨R, rfl, hR, f2⟩
  have F2 := Lib.hid (F1.out.trans (f2.mono F1.out.size))
  have G2 : Hid (w2.heap[w.heap.size]? = _) := (f2.block _ z0).trans G0.out
  clear f2 x0 z0 F1 G0
  cases R with
  | false =>
    clear hR
    go_wp2_with fail
    go_ret
    exact ⟨rfl, F2.out⟩
  | true =>
    have HR := Lib.hid (hR rfl)
    clear hR
    have hne : 1 ≤ A.l.length := by have h6 := HR.out.h6; have := (mul_bd A HR.out.h1 HR.out.h2 HR.out.h3 HR.out.h4).1; omega
    obtain ⟨k, hk⟩ : ∃ k : Nat, q % (A.l.length : Int) = (k : Int) := ⟨(q % (A.l.length : Int)).toNat, by have := Int.emod_nonneg q (b := (A.l.length : Int)) (by omega); omega⟩
    have hkl : k < A.l.length := by have := Int.emod_lt_of_pos q (b := (A.l.length : Int)) (by omega); omega
    obtain ⟨j, hj⟩ : ∃ j : Nat, p % 6 = (j : Int) := ⟨(p % 6).toNat, by omega⟩
    have hj6 : j < 6 := by omega
    obtain ⟨v, hv⟩ : ∃ v, A.l[k]? = some v := ⟨_, List.getElem?_eq_getElem hkl⟩
    have HV := Lib.hid hv
    have HQ := Lib.hid hk
    have HJ := Lib.hid hj
    have KC := Lib.hid (call_e j hj6)
    have x0 := cell_of_heap G2.out
    have z0 := lt_of_heap G2.out
    have r1 : (A.r != A.r) = false := by simp
    have r2 : (A.c != A.c) = false := by simp
    have n0 : ((A.l.length : Int) == 0) = false := beq_eq_false_iff_ne.2 (by omega)
    clear hv hk hj
    match j, hj6 with
    | 0, _ =>
      have hj : p % 6 = 0 := HJ.out
      go_wp2_with fail
      clear hj
      have hb2 := (below_alloc w2 (.cells #[.string ⟨#[78, 79, 84]⟩, .string ⟨#[73, 83, 66, 76, 65, 78, 75]⟩, .string ⟨#[73, 83, 78, 85, 77, 66, 69, 82]⟩, .string ⟨#[73, 83, 84, 69, 88, 84]⟩, .string ⟨#[73, 83, 76, 79, 71, 73, 67, 65, 76]⟩, .string ⟨#[73, 83, 69, 82, 82, 79, 82]⟩] 9) _ (Nat.le_refl _)).trans ((below_alloc (w2.alloc (.cells #[.string ⟨#[78, 79, 84]⟩, .string ⟨#[73, 83, 66, 76, 65, 78, 75]⟩, .string ⟨#[73, 83, 78, 85, 77, 66, 69, 82]⟩, .string ⟨#[73, 83, 84, 69, 88, 84]⟩, .string ⟨#[73, 83, 76, 79, 71, 73, 67, 65, 76]⟩, .string ⟨#[73, 83, 69, 82, 82, 79, 82]⟩] 9)) (.cells #[.int .i64 A.r, .int .i64 A.c, .slice a A.l.length cap] 27) _ (Nat.le_refl _)).mono (by simp))
      have key := KC.out A (fun u hu => refR_tok (HR.out.h7 u hu)) HR.out.ok _ 1 _ (args_one (A1 := A) (heap_alloc_new (w2.alloc (.cells #[.string ⟨#[78, 79, 84]⟩, .string ⟨#[73, 83, 66, 76, 65, 78, 75]⟩, .string ⟨#[73, 83, 78, 85, 77, 66, 69, 82]⟩, .string ⟨#[73, 83, 84, 69, 88, 84]⟩, .string ⟨#[73, 83, 76, 79, 71, 73, 67, 65, 76]⟩, .string ⟨#[73, 83, 69, 82, 82, 79, 82]⟩] 9)) _) ((HS.out.below F2.out).below hb2))
      rw [World.size_alloc] at key
      refine key.mono ?_
      clear key
      rintro e u2 ⟨y2, rfl, ⟨a2, c2, rfl, s2⟩, f2⟩
      have hb3 := hb2.trans (f2.mono hb2.size)
      have F3 : Hid (Below w.heap.size w u2) := F2.out.trans (hb3.mono F2.out.size)
      have G3 : Hid (u2.heap[w.heap.size]? = _) := (hb3.block _ z0).trans G2.out
      simp only [List.length_map] at s2 ⊢
      have S2 := Lib.hid (s2.mono (Nat.zero_le _))
      have x3 := cell_of_heap G3.out
      have z3 := lt_of_heap G3.out
      have hq := HQ.out
      obtain ⟨b, off, hbo, hb, c0, c1, c2', c3, c4, c5⟩ := (HS.out.below F3.out).cells HV.out
      subst hbo
      have j1 : (0 : Int) ≤ (k : Int) := by omega
      have j2 : (k : Int) < (A.l.length : Int) := by omega
      clear s2 f2 hb2 hb3 x0 z0
      go_wp2_with fail
      clear hq
      refine (one_any v _).mono ?_
      rintro e u3 ⟨y3, rfl, ⟨a3, c3', rfl, s3⟩, f3⟩
      obtain ⟨o8, ho8⟩ : ∃ o8 : Obj, o8 = .cells #[.int .i64 A.r, .int .i64 A.c, .slice a2 A.l.length c2] 27 := ⟨_, rfl⟩
      have hb4 := (below_alloc u2 o8 _ (Nat.le_refl _))
      rw [ho8] at hb4
      have hb5 := hb4.trans (f3.mono hb4.size)
      have e8 : Hid (u3.heap[u2.heap.size]? = some (.cells #[.int .i64 A.r, .int .i64 A.c, .slice a2 A.l.length c2] 27)) := (f3.block _ (by simp)).trans (heap_alloc_new u2 _)
      have F5 : Hid (Below w.heap.size w u3) := F3.out.trans (hb5.mono F3.out.size)
      have S5 := Lib.hid (S2.out.below hb5)
      have S3 := Lib.hid (s3.mono (Nat.zero_le _))
      clear ho8 hb4 hb5 s3 f3 c0 c1 c2' c3 c4 c5 x3 z3 S2
      go_wp2_with fail
      have hb6 := below_alloc u3 (.cells #[.int .i64 1, .int .i64 1, .slice a3 1 c3'] 27) _ (Nat.le_refl _)
      have key := KC.out ⟨1, 1, [v]⟩ (fun u hu => by rw [List.mem_singleton.1 hu]; exact refR_tok (HR.out.h7 v (List.mem_of_getElem? HV.out))) (ok_one (refR_right (HR.out.h7 v (List.mem_of_getElem? HV.out)))) _ 1 _ (args_one (A1 := ⟨1, 1, [v]⟩) (heap_alloc_new u3 _) (S3.out.below hb6))
      refine key.mono ?_
      clear key
      rintro e u4 ⟨y4, rfl, ⟨a4, c4', rfl, s4⟩, f4⟩
      simp only [List.length_cons, List.length_nil, List.map_cons, List.map_nil] at s4 ⊢
      have hb7 := hb6.trans (f4.mono hb6.size)
      have E8 : Hid (u4.heap[u2.heap.size]? = _) := (hb7.block _ (lt_of_heap e8.out)).trans e8.out
      have F7 : Hid (Below w.heap.size w u4) := F5.out.trans (hb7.mono F5.out.size)
      have S7 := Lib.hid (S5.out.below hb7)
      have S4 := Lib.hid (s4.mono (Nat.zero_le _))
      clear hb6 hb7 s4 f4 S5 S3 e8
      go_wp2_with fail
      refine abs_world ?_
      intro W8 hW8
      have hB8 : Below u4.heap.size u4 W8 := by rw [hW8]; (repeat (first | with_reducible exact Below.refl _ _ | with_reducible exact hBW | with_reducible refine Below.setCell ?_ ?_ _ | with_reducible refine Below.alloc ?_ ?_ _ | with_reducible refine belowN ?_ _ | with_reducible refine Below.drew ?_)); all_goals (first | omega | (dsimp only; omega) | ((repeat (first | with_reducible refine le_alloc ?_ | with_reducible refine le_setCell ?_ | with_reducible refine le_drew ?_ | with_reducible refine le_drewN ?_)); omega))
      have e11 : W8.heap[u4.heap.size]? = some (.cells #[.int .i64 1, .int .i64 1, .slice a4 1 c4'] 27) := by rw [hW8]; (repeat (first | (with_reducible refine heap_alloc_at ?_ _; (first | rfl | (simp; done) | omega | (simp; omega)); done) | with_reducible refine heap_alloc_old ?_ _ | with_reducible refine heap_drew_old ?_ | with_reducible refine heap_drewN_old ?_))
      have e8 := (hB8.block _ (lt_of_heap E8.out)).trans E8.out
      have F8 := Lib.hid (F7.out.trans (hB8.mono F7.out.size))
      have S8 := Lib.hid (S7.out.below hB8)
      have S48 := Lib.hid (S4.out.below hB8)
      have hFv : (A.l.map (eF 0))[k]? = some (eF 0 v) := by rw [List.getElem?_map, HV.out]; rfl
      obtain ⟨b8, off8, rfl, hb8, d0, d1, d2, d3, d4, d5⟩ := S8.out.cells hFv
      have xx := cell_of_heap e11
      have yy := cell_of_heap e8
      have zx := lt_of_heap e11
      have zy := lt_of_heap e8
      clear hW8 hB8 e11 e8 E8 S7 S4 F7 hFv
      rw [HQ.out]
      refine wp_region_mix [0, 1, 2, 3, 4, 5, 6, 7] [8, 9, 10, 11] [9, 10, 11] (Below W8.heap.size W8) (by kernel_rfl) (by kernel_rfl) (Below.refl _ _).drew ?_
      iterate 8 (first | (apply first_step; (rw [List.getElem?_toArray]; (repeat rw [List.getElem?_cons_succ]); rw [List.getElem?_cons_zero]); rfl; (intro W hB; have hc := bcellB hB; go_simp; (first | done | rfl)); go_frame) | (apply first_skip; (rw [List.getElem?_toArray]; (repeat rw [List.getElem?_cons_succ]); rw [List.getElem?_cons_zero]); rfl; go_frame))
      refine first_done ?_
      apply tail_step; (rw [List.getElem?_toArray]; (repeat rw [List.getElem?_cons_succ]); rw [List.getElem?_cons_zero]); rfl; rfl; intro K hK; go_simp
      refine (one_any (eF 0 v) _).mono ?_
      rintro e u9 ⟨y9, rfl, ⟨a9, c9, rfl, s9⟩, f9⟩
      have f9' : Below W8.heap.size W8 u9 := (Below.refl _ W8).drew.trans f9
      refine hK _ _ (fun _ => f9') ?_
      clear hK K
      have S9 := Lib.hid (s9.mono (Nat.zero_le _))
      have F9 := Lib.hid (F8.out.trans (f9'.mono F8.out.size))
      have S49 := Lib.hid (S48.out.below f9')
      clear s9 f9 f9' d0 d1 d2 d3 d4 d5 xx yy
      apply tail_step; (rw [List.getElem?_toArray]; (repeat rw [List.getElem?_cons_succ]); rw [List.getElem?_cons_zero]); rfl; rfl; intro K hK; go_simp
      refine (same_yes ⟨1, 1, [eF 0 v]⟩ _ _ u9 ⟨a4, c4', rfl, S49.out⟩ ⟨a9, c9, rfl, S9.out⟩ (by simp)).mono ?_
      rintro e u10 ⟨rfl, f10⟩
      refine hK _ _ (fun h => absurd (by decide) h) ?_
      clear hK K
      have F10 := Lib.hid (F9.out.trans (f10.mono F9.out.size))
      clear f10
      (apply tail_step; (rw [List.getElem?_toArray]; (repeat rw [List.getElem?_cons_succ]); rw [List.getElem?_cons_zero]); rfl; rfl; intro K hK; go_simp; refine hK _ _ (fun h => absurd (by decide) h) ?_; clear hK K)
      (apply tail_step; (rw [List.getElem?_toArray]; (repeat rw [List.getElem?_cons_succ]); rw [List.getElem?_cons_zero]); rfl; rfl; intro K hK; go_simp; refine hK _ _ (fun h => absurd (by decide) h) ?_; clear hK K)
      refine tail_done ?_
      go_wp2_with fail
      go_ret
      exact ⟨rfl, F10.out⟩
    | 1, _ =>
      have hj : p % 6 = 1 := HJ.out
      go_wp2_with fail
      clear hj
      have hb2 := (below_alloc w2 (.cells #[.string ⟨#[78, 79, 84]⟩, .string ⟨#[73, 83, 66, 76, 65, 78, 75]⟩, .string ⟨#[73, 83, 78, 85, 77, 66, 69, 82]⟩, .string ⟨#[73, 83, 84, 69, 88, 84]⟩, .string ⟨#[73, 83, 76, 79, 71, 73, 67, 65, 76]⟩, .string ⟨#[73, 83, 69, 82, 82, 79, 82]⟩] 9) _ (Nat.le_refl _)).trans ((below_alloc (w2.alloc (.cells #[.string ⟨#[78, 79, 84]⟩, .string ⟨#[73, 83, 66, 76, 65, 78, 75]⟩, .string ⟨#[73, 83, 78, 85, 77, 66, 69, 82]⟩, .string ⟨#[73, 83, 84, 69, 88, 84]⟩, .string ⟨#[73, 83, 76, 79, 71, 73, 67, 65, 76]⟩, .string ⟨#[73, 83, 69, 82, 82, 79, 82]⟩] 9)) (.cells #[.int .i64 A.r, .int .i64 A.c, .slice a A.l.length cap] 27) _ (Nat.le_refl _)).mono (by simp))
      have key := KC.out A (fun u hu => refR_tok (HR.out.h7 u hu)) HR.out.ok _ 1 _ (args_one (A1 := A) (heap_alloc_new (w2.alloc (.cells #[.string ⟨#[78, 79, 84]⟩, .string ⟨#[73, 83, 66, 76, 65, 78, 75]⟩, .string ⟨#[73, 83, 78, 85, 77, 66, 69, 82]⟩, .string ⟨#[73, 83, 84, 69, 88, 84]⟩, .string ⟨#[73, 83, 76, 79, 71, 73, 67, 65, 76]⟩, .string ⟨#[73, 83, 69, 82, 82, 79, 82]⟩] 9)) _) ((HS.out.below F2.out).below hb2))
      rw [World.size_alloc] at key
      refine key.mono ?_
      clear key
      rintro e u2 ⟨y2, rfl, ⟨a2, c2, rfl, s2⟩, f2⟩
      have hb3 := hb2.trans (f2.mono hb2.size)
      have F3 : Hid (Below w.heap.size w u2) := F2.out.trans (hb3.mono F2.out.size)
      have G3 : Hid (u2.heap[w.heap.size]? = _) := (hb3.block _ z0).trans G2.out
      simp only [List.length_map] at s2 ⊢
      have S2 := Lib.hid (s2.mono (Nat.zero_le _))
      have x3 := cell_of_heap G3.out
      have z3 := lt_of_heap G3.out
      have hq := HQ.out
      obtain ⟨b, off, hbo, hb, c0, c1, c2', c3, c4, c5⟩ := (HS.out.below F3.out).cells HV.out
      subst hbo
      have j1 : (0 : Int) ≤ (k : Int) := by omega
      have j2 : (k : Int) < (A.l.length : Int) := by omega
      clear s2 f2 hb2 hb3 x0 z0
      go_wp2_with fail
      clear hq
      refine (one_any v _).mono ?_
      rintro e u3 ⟨y3, rfl, ⟨a3, c3', rfl, s3⟩, f3⟩
      obtain ⟨o8, ho8⟩ : ∃ o8 : Obj, o8 = .cells #[.int .i64 A.r, .int .i64 A.c, .slice a2 A.l.length c2] 27 := ⟨_, rfl⟩
      have hb4 := (below_alloc u2 o8 _ (Nat.le_refl _))
      rw [ho8] at hb4
      have hb5 := hb4.trans (f3.mono hb4.size)
      have e8 : Hid (u3.heap[u2.heap.size]? = some (.cells #[.int .i64 A.r, .int .i64 A.c, .slice a2 A.l.length c2] 27)) := (f3.block _ (by simp)).trans (heap_alloc_new u2 _)
      have F5 : Hid (Below w.heap.size w u3) := F3.out.trans (hb5.mono F3.out.size)
      have S5 := Lib.hid (S2.out.below hb5)
      have S3 := Lib.hid (s3.mono (Nat.zero_le _))
      clear ho8 hb4 hb5 s3 f3 c0 c1 c2' c3 c4 c5 x3 z3 S2
      go_wp2_with fail
      have hb6 := below_alloc u3 (.cells #[.int .i64 1, .int .i64 1, .slice a3 1 c3'] 27) _ (Nat.le_refl _)
      have key := KC.out ⟨1, 1, [v]⟩ (fun u hu => by rw [List.mem_singleton.1 hu]; exact refR_tok (HR.out.h7 v (List.mem_of_getElem? HV.out))) (ok_one (refR_right (HR.out.h7 v (List.mem_of_getElem? HV.out)))) _ 1 _ (args_one (A1 := ⟨1, 1, [v]⟩) (heap_alloc_new u3 _) (S3.out.below hb6))
      refine key.mono ?_
      clear key
      rintro e u4 ⟨y4, rfl, ⟨a4, c4', rfl, s4⟩, f4⟩
      simp only [List.length_cons, List.length_nil, List.map_cons, List.map_nil] at s4 ⊢
      have hb7 := hb6.trans (f4.mono hb6.size)
      have E8 : Hid (u4.heap[u2.heap.size]? = _) := (hb7.block _ (lt_of_heap e8.out)).trans e8.out
      have F7 : Hid (Below w.heap.size w u4) := F5.out.trans (hb7.mono F5.out.size)
      have S7 := Lib.hid (S5.out.below hb7)
      have S4 := Lib.hid (s4.mono (Nat.zero_le _))
      clear hb6 hb7 s4 f4 S5 S3 e8
      go_wp2_with fail
      refine abs_world ?_
      intro W8 hW8
      have hB8 : Below u4.heap.size u4 W8 := by rw [hW8]; (repeat (first | with_reducible exact Below.refl _ _ | with_reducible exact hBW | with_reducible refine Below.setCell ?_ ?_ _ | with_reducible refine Below.alloc ?_ ?_ _ | with_reducible refine belowN ?_ _ | with_reducible refine Below.drew ?_)); all_goals (first | omega | (dsimp only; omega) | ((repeat (first | with_reducible refine le_alloc ?_ | with_reducible refine le_setCell ?_ | with_reducible refine le_drew ?_ | with_reducible refine le_drewN ?_)); omega))
      have e11 : W8.heap[u4.heap.size]? = some (.cells #[.int .i64 1, .int .i64 1, .slice a4 1 c4'] 27) := by rw [hW8]; (repeat (first | (with_reducible refine heap_alloc_at ?_ _; (first | rfl | (simp; done) | omega | (simp; omega)); done) | with_reducible refine heap_alloc_old ?_ _ | with_reducible refine heap_drew_old ?_ | with_reducible refine heap_drewN_old ?_))
      have e8 := (hB8.block _ (lt_of_heap E8.out)).trans E8.out
      have F8 := Lib.hid (F7.out.trans (hB8.mono F7.out.size))
      have S8 := Lib.hid (S7.out.below hB8)
      have S48 := Lib.hid (S4.out.below hB8)
      have hFv : (A.l.map (eF 1))[k]? = some (eF 1 v) := by rw [List.getElem?_map, HV.out]; rfl
      obtain ⟨b8, off8, rfl, hb8, d0, d1, d2, d3, d4, d5⟩ := S8.out.cells hFv
      have xx := cell_of_heap e11
      have yy := cell_of_heap e8
      have zx := lt_of_heap e11
      have zy := lt_of_heap e8
      clear hW8 hB8 e11 e8 E8 S7 S4 F7 hFv
      rw [HQ.out]
      refine wp_region_mix [0, 1, 2, 3, 4, 5, 6, 7] [8, 9, 10, 11] [9, 10, 11] (Below W8.heap.size W8) (by kernel_rfl) (by kernel_rfl) (Below.refl _ _).drew ?_
      iterate 8 (first | (apply first_step; (rw [List.getElem?_toArray]; (repeat rw [List.getElem?_cons_succ]); rw [List.getElem?_cons_zero]); rfl; (intro W hB; have hc := bcellB hB; go_simp; (first | done | rfl)); go_frame) | (apply first_skip; (rw [List.getElem?_toArray]; (repeat rw [List.getElem?_cons_succ]); rw [List.getElem?_cons_zero]); rfl; go_frame))
      refine first_done ?_
      apply tail_step; (rw [List.getElem?_toArray]; (repeat rw [List.getElem?_cons_succ]); rw [List.getElem?_cons_zero]); rfl; rfl; intro K hK; go_simp
      refine (one_any (eF 1 v) _).mono ?_
      rintro e u9 ⟨y9, rfl, ⟨a9, c9, rfl, s9⟩, f9⟩
      have f9' : Below W8.heap.size W8 u9 := (Below.refl _ W8).drew.trans f9
      refine hK _ _ (fun _ => f9') ?_
      clear hK K
      have S9 := Lib.hid (s9.mono (Nat.zero_le _))
      have F9 := Lib.hid (F8.out.trans (f9'.mono F8.out.size))
      have S49 := Lib.hid (S48.out.below f9')
      clear s9 f9 f9' d0 d1 d2 d3 d4 d5 xx yy
      apply tail_step; (rw [List.getElem?_toArray]; (repeat rw [List.getElem?_cons_succ]); rw [List.getElem?_cons_zero]); rfl; rfl; intro K hK; go_simp
      refine (same_yes ⟨1, 1, [eF 1 v]⟩ _ _ u9 ⟨a4, c4', rfl, S49.out⟩ ⟨a9, c9, rfl, S9.out⟩ (by simp)).mono ?_
      rintro e u10 ⟨rfl, f10⟩
      refine hK _ _ (fun h => absurd (by decide) h) ?_
      clear hK K
      have F10 := Lib.hid (F9.out.trans (f10.mono F9.out.size))
      clear f10
      (apply tail_step; (rw [List.getElem?_toArray]; (repeat rw [List.getElem?_cons_succ]); rw [List.getElem?_cons_zero]); rfl; rfl; intro K hK; go_simp; refine hK _ _ (fun h => absurd (by decide) h) ?_; clear hK K)
      (apply tail_step; (rw [List.getElem?_toArray]; (repeat rw [List.getElem?_cons_succ]); rw [List.getElem?_cons_zero]); rfl; rfl; intro K hK; go_simp; refine hK _ _ (fun h => absurd (by decide) h) ?_; clear hK K)
      refine tail_done ?_
      go_wp2_with fail
      go_ret
      exact ⟨rfl, F10.out⟩
    | 2, _ =>
      have hj : p % 6 = 2 := HJ.out
      go_wp2_with fail
      clear hj
      have hb2 := (below_alloc w2 (.cells #[.string ⟨#[78, 79, 84]⟩, .string ⟨#[73, 83, 66, 76, 65, 78, 75]⟩, .string ⟨#[73, 83, 78, 85, 77, 66, 69, 82]⟩, .string ⟨#[73, 83, 84, 69, 88, 84]⟩, .string ⟨#[73, 83, 76, 79, 71, 73, 67, 65, 76]⟩, .string ⟨#[73, 83, 69, 82, 82, 79, 82]⟩] 9) _ (Nat.le_refl _)).trans ((below_alloc (w2.alloc (.cells #[.string ⟨#[78, 79, 84]⟩, .string ⟨#[73, 83, 66, 76, 65, 78, 75]⟩, .string ⟨#[73, 83, 78, 85, 77, 66, 69, 82]⟩, .string ⟨#[73, 83, 84, 69, 88, 84]⟩, .string ⟨#[73, 83, 76, 79, 71, 73, 67, 65, 76]⟩, .string ⟨#[73, 83, 69, 82, 82, 79, 82]⟩] 9)) (.cells #[.int .i64 A.r, .int .i64 A.c, .slice a A.l.length cap] 27) _ (Nat.le_refl _)).mono (by simp))
      have key := KC.out A (fun u hu => refR_tok (HR.out.h7 u hu)) HR.out.ok _ 1 _ (args_one (A1 := A) (heap_alloc_new (w2.alloc (.cells #[.string ⟨#[78, 79, 84]⟩, .string ⟨#[73, 83, 66, 76, 65, 78, 75]⟩, .string ⟨#[73, 83, 78, 85, 77, 66, 69, 82]⟩, .string ⟨#[73, 83, 84, 69, 88, 84]⟩, .string ⟨#[73, 83, 76, 79, 71, 73, 67, 65, 76]⟩, .string ⟨#[73, 83, 69, 82, 82, 79, 82]⟩] 9)) _) ((HS.out.below F2.out).below hb2))
      rw [World.size_alloc] at key
      refine key.mono ?_
      clear key
      rintro e u2 ⟨y2, rfl, ⟨a2, c2, rfl, s2⟩, f2⟩
      have hb3 := hb2.trans (f2.mono hb2.size)
      have F3 : Hid (Below w.heap.size w u2) := F2.out.trans (hb3.mono F2.out.size)
      have G3 : Hid (u2.heap[w.heap.size]? = _) := (hb3.block _ z0).trans G2.out
      simp only [List.length_map] at s2 ⊢
      have S2 := Lib.hid (s2.mono (Nat.zero_le _))
      have x3 := cell_of_heap G3.out
      have z3 := lt_of_heap G3.out
      have hq := HQ.out
      obtain ⟨b, off, hbo, hb, c0, c1, c2', c3, c4, c5⟩ := (HS.out.below F3.out).cells HV.out
      subst hbo
      have j1 : (0 : Int) ≤ (k : Int) := by omega
      have j2 : (k : Int) < (A.l.length : Int) := by omega
      clear s2 f2 hb2 hb3 x0 z0
      go_wp2_with fail
      clear hq
      refine (one_any v _).mono ?_
      rintro e u3 ⟨y3, rfl, ⟨a3, c3', rfl, s3⟩, f3⟩
      obtain ⟨o8, ho8⟩ : ∃ o8 : Obj, o8 = .cells #[.int .i64 A.r, .int .i64 A.c, .slice a2 A.l.length c2] 27 := ⟨_, rfl⟩
      have hb4 := (below_alloc u2 o8 _ (Nat.le_refl _))
      rw [ho8] at hb4
      have hb5 := hb4.trans (f3.mono hb4.size)
      have e8 : Hid (u3.heap[u2.heap.size]? = some (.cells #[.int .i64 A.r, .int .i64 A.c, .slice a2 A.l.length c2] 27)) := (f3.block _ (by simp)).trans (heap_alloc_new u2 _)
      have F5 : Hid (Below w.heap.size w u3) := F3.out.trans (hb5.mono F3.out.size)
      have S5 := Lib.hid (S2.out.below hb5)
      have S3 := Lib.hid (s3.mono (Nat.zero_le _))
      clear ho8 hb4 hb5 s3 f3 c0 c1 c2' c3 c4 c5 x3 z3 S2
      go_wp2_with fail
      have hb6 := below_alloc u3 (.cells #[.int .i64 1, .int .i64 1, .slice a3 1 c3'] 27) _ (Nat.le_refl _)
      have key := KC.out ⟨1, 1, [v]⟩ (fun u hu => by rw [List.mem_singleton.1 hu]; exact refR_tok (HR.out.h7 v (List.mem_of_getElem? HV.out))) (ok_one (refR_right (HR.out.h7 v (List.mem_of_getElem? HV.out)))) _ 1 _ (args_one (A1 := ⟨1, 1, [v]⟩) (heap_alloc_new u3 _) (S3.out.below hb6))
      refine key.mono ?_
      clear key
      rintro e u4 ⟨y4, rfl, ⟨a4, c4', rfl, s4⟩, f4⟩
      simp only [List.length_cons, List.length_nil, List.map_cons, List.map_nil] at s4 ⊢
      have hb7 := hb6.trans (f4.mono hb6.size)
      have E8 : Hid (u4.heap[u2.heap.size]? = _) := (hb7.block _ (lt_of_heap e8.out)).trans e8.out
      have F7 : Hid (Below w.heap.size w u4) := F5.out.trans (hb7.mono F5.out.size)
      have S7 := Lib.hid (S5.out.below hb7)
      have S4 := Lib.hid (s4.mono (Nat.zero_le _))
      clear hb6 hb7 s4 f4 S5 S3 e8
      go_wp2_with fail
      refine abs_world ?_
      intro W8 hW8
      have hB8 : Below u4.heap.size u4 W8 := by rw [hW8]; (repeat (first | with_reducible exact Below.refl _ _ | with_reducible exact hBW | with_reducible refine Below.setCell ?_ ?_ _ | with_reducible refine Below.alloc ?_ ?_ _ | with_reducible refine belowN ?_ _ | with_reducible refine Below.drew ?_)); all_goals (first | omega | (dsimp only; omega) | ((repeat (first | with_reducible refine le_alloc ?_ | with_reducible refine le_setCell ?_ | with_reducible refine le_drew ?_ | with_reducible refine le_drewN ?_)); omega))
      have e11 : W8.heap[u4.heap.size]? = some (.cells #[.int .i64 1, .int .i64 1, .slice a4 1 c4'] 27) := by rw [hW8]; (repeat (first | (with_reducible refine heap_alloc_at ?_ _; (first | rfl | (simp; done) | omega | (simp; omega)); done) | with_reducible refine heap_alloc_old ?_ _ | with_reducible refine heap_drew_old ?_ | with_reducible refine heap_drewN_old ?_))
      have e8 := (hB8.block _ (lt_of_heap E8.out)).trans E8.out
      have F8 := Lib.hid (F7.out.trans (hB8.mono F7.out.size))
      have S8 := Lib.hid (S7.out.below hB8)
      have S48 := Lib.hid (S4.out.below hB8)
      have hFv : (A.l.map (eF 2))[k]? = some (eF 2 v) := by rw [List.getElem?_map, HV.out]; rfl
      obtain ⟨b8, off8, rfl, hb8, d0, d1, d2, d3, d4, d5⟩ := S8.out.cells hFv
      have xx := cell_of_heap e11
      have yy := cell_of_heap e8
      have zx := lt_of_heap e11
      have zy := lt_of_heap e8
      clear hW8 hB8 e11 e8 E8 S7 S4 F7 hFv
      rw [HQ.out]
      refine wp_region_mix [0, 1, 2, 3, 4, 5, 6, 7] [8, 9, 10, 11] [9, 10, 11] (Below W8.heap.size W8) (by kernel_rfl) (by kernel_rfl) (Below.refl _ _).drew ?_
      iterate 8 (first | (apply first_step; (rw [List.getElem?_toArray]; (repeat rw [List.getElem?_cons_succ]); rw [List.getElem?_cons_zero]); rfl; (intro W hB; have hc := bcellB hB; go_simp; (first | done | rfl)); go_frame) | (apply first_skip; (rw [List.getElem?_toArray]; (repeat rw [List.getElem?_cons_succ]); rw [List.getElem?_cons_zero]); rfl; go_frame))
      refine first_done ?_
      apply tail_step; (rw [List.getElem?_toArray]; (repeat rw [List.getElem?_cons_succ]); rw [List.getElem?_cons_zero]); rfl; rfl; intro K hK; go_simp
      refine (one_any (eF 2 v) _).mono ?_
      rintro e u9 ⟨y9, rfl, ⟨a9, c9, rfl, s9⟩, f9⟩
      have f9' : Below W8.heap.size W8 u9 := (Below.refl _ W8).drew.trans f9
      refine hK _ _ (fun _ => f9') ?_
      clear hK K
      have S9 := Lib.hid (s9.mono (Nat.zero_le _))
      have F9 := Lib.hid (F8.out.trans (f9'.mono F8.out.size))
      have S49 := Lib.hid (S48.out.below f9')
      clear s9 f9 f9' d0 d1 d2 d3 d4 d5 xx yy
      apply tail_step; (rw [List.getElem?_toArray]; (repeat rw [List.getElem?_cons_succ]); rw [List.getElem?_cons_zero]); rfl; rfl; intro K hK; go_simp
      refine (same_yes ⟨1, 1, [eF 2 v]⟩ _ _ u9 ⟨a4, c4', rfl, S49.out⟩ ⟨a9, c9, rfl, S9.out⟩ (by simp)).mono ?_
      rintro e u10 ⟨rfl, f10⟩
      refine hK _ _ (fun h => absurd (by decide) h) ?_
      clear hK K
      have F10 := Lib.hid (F9.out.trans (f10.mono F9.out.size))
      clear f10
      (apply tail_step; (rw [List.getElem?_toArray]; (repeat rw [List.getElem?_cons_succ]); rw [List.getElem?_cons_zero]); rfl; rfl; intro K hK; go_simp; refine hK _ _ (fun h => absurd (by decide) h) ?_; clear hK K)
      (apply tail_step; (rw [List.getElem?_toArray]; (repeat rw [List.getElem?_cons_succ]); rw [List.getElem?_cons_zero]); rfl; rfl; intro K hK; go_simp; refine hK _ _ (fun h => absurd (by decide) h) ?_; clear hK K)
      refine tail_done ?_
      go_wp2_with fail
      go_ret
      exact ⟨rfl, F10.out⟩
    | 3, _ =>
      have hj : p % 6 = 3 := HJ.out
      go_wp2_with fail
      clear hj
      have hb2 := (below_alloc w2 (.cells #[.string ⟨#[78, 79, 84]⟩, .string ⟨#[73, 83, 66, 76, 65, 78, 75]⟩, .string ⟨#[73, 83, 78, 85, 77, 66, 69, 82]⟩, .string ⟨#[73, 83, 84, 69, 88, 84]⟩, .string ⟨#[73, 83, 76, 79, 71, 73, 67, 65, 76]⟩, .string ⟨#[73, 83, 69, 82, 82, 79, 82]⟩] 9) _ (Nat.le_refl _)).trans ((below_alloc (w2.alloc (.cells #[.string ⟨#[78, 79, 84]⟩, .string ⟨#[73, 83, 66, 76, 65, 78, 75]⟩, .string ⟨#[73, 83, 78, 85, 77, 66, 69, 82]⟩, .string ⟨#[73, 83, 84, 69, 88, 84]⟩, .string ⟨#[73, 83, 76, 79, 71, 73, 67, 65, 76]⟩, .string ⟨#[73, 83, 69, 82, 82, 79, 82]⟩] 9)) (.cells #[.int .i64 A.r, .int .i64 A.c, .slice a A.l.length cap] 27) _ (Nat.le_refl _)).mono (by simp))
      have key := KC.out A (fun u hu => refR_tok (HR.out.h7 u hu)) HR.out.ok _ 1 _ (args_one (A1 := A) (heap_alloc_new (w2.alloc (.cells #[.string ⟨#[78, 79, 84]⟩, .string ⟨#[73, 83, 66, 76, 65, 78, 75]⟩, .string ⟨#[73, 83, 78, 85, 77, 66, 69, 82]⟩, .string ⟨#[73, 83, 84, 69, 88, 84]⟩, .string ⟨#[73, 83, 76, 79, 71, 73, 67, 65, 76]⟩, .string ⟨#[73, 83, 69, 82, 82, 79, 82]⟩] 9)) _) ((HS.out.below F2.out).below hb2))
      rw [World.size_alloc] at key
      refine key.mono ?_
      clear key
      rintro e u2 ⟨y2, rfl, ⟨a2, c2, rfl, s2⟩, f2⟩
      have hb3 := hb2.trans (f2.mono hb2.size)
      have F3 : Hid (Below w.heap.size w u2) := F2.out.trans (hb3.mono F2.out.size)
      have G3 : Hid (u2.heap[w.heap.size]? = _) := (hb3.block _ z0).trans G2.out
      simp only [List.length_map] at s2 ⊢
      have S2 := Lib.hid (s2.mono (Nat.zero_le _))
      have x3 := cell_of_heap G3.out
      have z3 := lt_of_heap G3.out
      have hq := HQ.out
      obtain ⟨b, off, hbo, hb, c0, c1, c2', c3, c4, c5⟩ := (HS.out.below F3.out).cells HV.out
      subst hbo
      have j1 : (0 : Int) ≤ (k : Int) := by omega
      have j2 : (k : Int) < (A.l.length : Int) := by omega
      clear s2 f2 hb2 hb3 x0 z0
      go_wp2_with fail
      clear hq
      refine (one_any v _).mono ?_
      rintro e u3 ⟨y3, rfl, ⟨a3, c3', rfl, s3⟩, f3⟩
      obtain ⟨o8, ho8⟩ : ∃ o8 : Obj, o8 = .cells #[.int .i64 A.r, .int .i64 A.c, .slice a2 A.l.length c2] 27 := ⟨_, rfl⟩
      have hb4 := (below_alloc u2 o8 _ (Nat.le_refl _))
      rw [ho8] at hb4
      have hb5 := hb4.trans (f3.mono hb4.size)
      have e8 : Hid (u3.heap[u2.heap.size]? = some (.cells #[.int .i64 A.r, .int .i64 A.c, .slice a2 A.l.length c2] 27)) := (f3.block _ (by simp)).trans (heap_alloc_new u2 _)
      have F5 : Hid (Below w.heap.size w u3) := F3.out.trans (hb5.mono F3.out.size)
      have S5 := Lib.hid (S2.out.below hb5)
      have S3 := Lib.hid (s3.mono (Nat.zero_le _))
      clear ho8 hb4 hb5 s3 f3 c0 c1 c2' c3 c4 c5 x3 z3 S2
      go_wp2_with fail
      have hb6 := below_alloc u3 (.cells #[.int .i64 1, .int .i64 1, .slice a3 1 c3'] 27) _ (Nat.le_refl _)
      have key := KC.out ⟨1, 1, [v]⟩ (fun u hu => by rw [List.mem_singleton.1 hu]; exact refR_tok (HR.out.h7 v (List.mem_of_getElem? HV.out))) (ok_one (refR_right (HR.out.h7 v (List.mem_of_getElem? HV.out)))) _ 1 _ (args_one (A1 := ⟨1, 1, [v]⟩) (heap_alloc_new u3 _) (S3.out.below hb6))
      refine key.mono ?_
      clear key
      rintro e u4 ⟨y4, rfl, ⟨a4, c4', rfl, s4⟩, f4⟩
      simp only [List.length_cons, List.length_nil, List.map_cons, List.map_nil] at s4 ⊢
      have hb7 := hb6.trans (f4.mono hb6.size)
      have E8 : Hid (u4.heap[u2.heap.size]? = _) := (hb7.block _ (lt_of_heap e8.out)).trans e8.out
      have F7 : Hid (Below w.heap.size w u4) := F5.out.trans (hb7.mono F5.out.size)
      have S7 := Lib.hid (S5.out.below hb7)
      have S4 := Lib.hid (s4.mono (Nat.zero_le _))
      clear hb6 hb7 s4 f4 S5 S3 e8
      go_wp2_with fail
      refine abs_world ?_
      intro W8 hW8
      have hB8 : Below u4.heap.size u4 W8 := by rw [hW8]; (repeat (first | with_reducible exact Below.refl _ _ | with_reducible exact hBW | with_reducible refine Below.setCell ?_ ?_ _ | with_reducible refine Below.alloc ?_ ?_ _ | with_reducible refine belowN ?_ _ | with_reducible refine Below.drew ?_)); all_goals (first | omega | (dsimp only; omega) | ((repeat (first | with_reducible refine le_alloc ?_ | with_reducible refine le_setCell ?_ | with_reducible refine le_drew ?_ | with_reducible refine le_drewN ?_)); omega))
      have e11 : W8.heap[u4.heap.size]? = some (.cells #[.int .i64 1, .int .i64 1, .slice a4 1 c4'] 27) := by rw [hW8]; (repeat (first | (with_reducible refine heap_alloc_at ?_ _; (first | rfl | (simp; done) | omega | (simp; omega)); done) | with_reducible refine heap_alloc_old ?_ _ | with_reducible refine heap_drew_old ?_ | with_reducible refine heap_drewN_old ?_))
      have e8 := (hB8.block _ (lt_of_heap E8.out)).trans E8.out
      have F8 := Lib.hid (F7.out.trans (hB8.mono F7.out.size))
      have S8 := Lib.hid (S7.out.below hB8)
      have S48 := Lib.hid (S4.out.below hB8)
      have hFv : (A.l.map (eF 3))[k]? = some (eF 3 v) := by rw [List.getElem?_map, HV.out]; rfl
      obtain ⟨b8, off8, rfl, hb8, d0, d1, d2, d3, d4, d5⟩ := S8.out.cells hFv
      have xx := cell_of_heap e11
      have yy := cell_of_heap e8
      have zx := lt_of_heap e11
      have zy := lt_of_heap e8
      clear hW8 hB8 e11 e8 E8 S7 S4 F7 hFv
      rw [HQ.out]
      refine wp_region_mix [0, 1, 2, 3, 4, 5, 6, 7] [8, 9, 10, 11] [9, 10, 11] (Below W8.heap.size W8) (by kernel_rfl) (by kernel_rfl) (Below.refl _ _).drew ?_
      iterate 8 (first | (apply first_step; (rw [List.getElem?_toArray]; (repeat rw [List.getElem?_cons_succ]); rw [List.getElem?_cons_zero]); rfl; (intro W hB; have hc := bcellB hB; go_simp; (first | done | rfl)); go_frame) | (apply first_skip; (rw [List.getElem?_toArray]; (repeat rw [List.getElem?_cons_succ]); rw [List.getElem?_cons_zero]); rfl; go_frame))
      refine first_done ?_
      apply tail_step; (rw [List.getElem?_toArray]; (repeat rw [List.getElem?_cons_succ]); rw [List.getElem?_cons_zero]); rfl; rfl; intro K hK; go_simp
      refine (one_any (eF 3 v) _).mono ?_
      rintro e u9 ⟨y9, rfl, ⟨a9, c9, rfl, s9⟩, f9⟩
      have f9' : Below W8.heap.size W8 u9 := (Below.refl _ W8).drew.trans f9
      refine hK _ _ (fun _ => f9') ?_
      clear hK K
      have S9 := Lib.hid (s9.mono (Nat.zero_le _))
      have F9 := Lib.hid (F8.out.trans (f9'.mono F8.out.size))
      have S49 := Lib.hid (S48.out.below f9')
      clear s9 f9 f9' d0 d1 d2 d3 d4 d5 xx yy
      apply tail_step; (rw [List.getElem?_toArray]; (repeat rw [List.getElem?_cons_succ]); rw [List.getElem?_cons_zero]); rfl; rfl; intro K hK; go_simp
      refine (same_yes ⟨1, 1, [eF 3 v]⟩ _ _ u9 ⟨a4, c4', rfl, S49.out⟩ ⟨a9, c9, rfl, S9.out⟩ (by simp)).mono ?_
      rintro e u10 ⟨rfl, f10⟩
      refine hK _ _ (fun h => absurd (by decide) h) ?_
      clear hK K
      have F10 := Lib.hid (F9.out.trans (f10.mono F9.out.size))
      clear f10
      (apply tail_step; (rw [List.getElem?_toArray]; (repeat rw [List.getElem?_cons_succ]); rw [List.getElem?_cons_zero]); rfl; rfl; intro K hK; go_simp; refine hK _ _ (fun h => absurd (by decide) h) ?_; clear hK K)
      (apply tail_step; (rw [List.getElem?_toArray]; (repeat rw [List.getElem?_cons_succ]); rw [List.getElem?_cons_zero]); rfl; rfl; intro K hK; go_simp; refine hK _ _ (fun h => absurd (by decide) h) ?_; clear hK K)
      refine tail_done ?_
      go_wp2_with fail
      go_ret
      exact ⟨rfl, F10.out⟩
    | 4, _ =>
      have hj : p % 6 = 4 := HJ.out
      go_wp2_with fail
      clear hj
      have hb2 := (below_alloc w2 (.cells #[.string ⟨#[78, 79, 84]⟩, .string ⟨#[73, 83, 66, 76, 65, 78, 75]⟩, .string ⟨#[73, 83, 78, 85, 77, 66, 69, 82]⟩, .string ⟨#[73, 83, 84, 69, 88, 84]⟩, .string ⟨#[73, 83, 76, 79, 71, 73, 67, 65, 76]⟩, .string ⟨#[73, 83, 69, 82, 82, 79, 82]⟩] 9) _ (Nat.le_refl _)).trans ((below_alloc (w2.alloc (.cells #[.string ⟨#[78, 79, 84]⟩, .string ⟨#[73, 83, 66, 76, 65, 78, 75]⟩, .string ⟨#[73, 83, 78, 85, 77, 66, 69, 82]⟩, .string ⟨#[73, 83, 84, 69, 88, 84]⟩, .string ⟨#[73, 83, 76, 79, 71, 73, 67, 65, 76]⟩, .string ⟨#[73, 83, 69, 82, 82, 79, 82]⟩] 9)) (.cells #[.int .i64 A.r, .int .i64 A.c, .slice a A.l.length cap] 27) _ (Nat.le_refl _)).mono (by simp))
      have key := KC.out A (fun u hu => refR_tok (HR.out.h7 u hu)) HR.out.ok _ 1 _ (args_one (A1 := A) (heap_alloc_new (w2.alloc (.cells #[.string ⟨#[78, 79, 84]⟩, .string ⟨#[73, 83, 66, 76, 65, 78, 75]⟩, .string ⟨#[73, 83, 78, 85, 77, 66, 69, 82]⟩, .string ⟨#[73, 83, 84, 69, 88, 84]⟩, .string ⟨#[73, 83, 76, 79, 71, 73, 67, 65, 76]⟩, .string ⟨#[73, 83, 69, 82, 82, 79, 82]⟩] 9)) _) ((HS.out.below F2.out).below hb2))
      rw [World.size_alloc] at key
      refine key.mono ?_
      clear key
      rintro e u2 ⟨y2, rfl, ⟨a2, c2, rfl, s2⟩, f2⟩
      have hb3 := hb2.trans (f2.mono hb2.size)
      have F3 : Hid (Below w.heap.size w u2) := F2.out.trans (hb3.mono F2.out.size)
      have G3 : Hid (u2.heap[w.heap.size]? = _) := (hb3.block _ z0).trans G2.out
      simp only [List.length_map] at s2 ⊢
      have S2 := Lib.hid (s2.mono (Nat.zero_le _))
      have x3 := cell_of_heap G3.out
      have z3 := lt_of_heap G3.out
      have hq := HQ.out
      obtain ⟨b, off, hbo, hb, c0, c1, c2', c3, c4, c5⟩ := (HS.out.below F3.out).cells HV.out
      subst hbo
      have j1 : (0 : Int) ≤ (k : Int) := by omega
      have j2 : (k : Int) < (A.l.length : Int) := by omega
      clear s2 f2 hb2 hb3 x0 z0
      go_wp2_with fail
      clear hq
      refine (one_any v _).mono ?_
      rintro e u3 ⟨y3, rfl, ⟨a3, c3', rfl, s3⟩, f3⟩
      obtain ⟨o8, ho8⟩ : ∃ o8 : Obj, o8 = .cells #[.int .i64 A.r, .int .i64 A.c, .slice a2 A.l.length c2] 27 := ⟨_, rfl⟩
      have hb4 := (below_alloc u2 o8 _ (Nat.le_refl _))
      rw [ho8] at hb4
      have hb5 := hb4.trans (f3.mono hb4.size)
      have e8 : Hid (u3.heap[u2.heap.size]? = some (.cells #[.int .i64 A.r, .int .i64 A.c, .slice a2 A.l.length c2] 27)) := (f3.block _ (by simp)).trans (heap_alloc_new u2 _)
      have F5 : Hid (Below w.heap.size w u3) := F3.out.trans (hb5.mono F3.out.size)
      have S5 := Lib.hid (S2.out.below hb5)
      have S3 := Lib.hid (s3.mono (Nat.zero_le _))
      clear ho8 hb4 hb5 s3 f3 c0 c1 c2' c3 c4 c5 x3 z3 S2
      go_wp2_with fail
      have hb6 := below_alloc u3 (.cells #[.int .i64 1, .int .i64 1, .slice a3 1 c3'] 27) _ (Nat.le_refl _)
      have key := KC.out ⟨1, 1, [v]⟩ (fun u hu => by rw [List.mem_singleton.1 hu]; exact refR_tok (HR.out.h7 v (List.mem_of_getElem? HV.out))) (ok_one (refR_right (HR.out.h7 v (List.mem_of_getElem? HV.out)))) _ 1 _ (args_one (A1 := ⟨1, 1, [v]⟩) (heap_alloc_new u3 _) (S3.out.below hb6))
      refine key.mono ?_
      clear key
      rintro e u4 ⟨y4, rfl, ⟨a4, c4', rfl, s4⟩, f4⟩
      simp only [List.length_cons, List.length_nil, List.map_cons, List.map_nil] at s4 ⊢
      have hb7 := hb6.trans (f4.mono hb6.size)
      have E8 : Hid (u4.heap[u2.heap.size]? = _) := (hb7.block _ (lt_of_heap e8.out)).trans e8.out
      have F7 : Hid (Below w.heap.size w u4) := F5.out.trans (hb7.mono F5.out.size)
      have S7 := Lib.hid (S5.out.below hb7)
      have S4 := Lib.hid (s4.mono (Nat.zero_le _))
      clear hb6 hb7 s4 f4 S5 S3 e8
      go_wp2_with fail
      refine abs_world ?_
      intro W8 hW8
      have hB8 : Below u4.heap.size u4 W8 := by rw [hW8]; (repeat (first | with_reducible exact Below.refl _ _ | with_reducible exact hBW | with_reducible refine Below.setCell ?_ ?_ _ | with_reducible refine Below.alloc ?_ ?_ _ | with_reducible refine belowN ?_ _ | with_reducible refine Below.drew ?_)); all_goals (first | omega | (dsimp only; omega) | ((repeat (first | with_reducible refine le_alloc ?_ | with_reducible refine le_setCell ?_ | with_reducible refine le_drew ?_ | with_reducible refine le_drewN ?_)); omega))
      have e11 : W8.heap[u4.heap.size]? = some (.cells #[.int .i64 1, .int .i64 1, .slice a4 1 c4'] 27) := by rw [hW8]; (repeat (first | (with_reducible refine heap_alloc_at ?_ _; (first | rfl | (simp; done) | omega | (simp; omega)); done) | with_reducible refine heap_alloc_old ?_ _ | with_reducible refine heap_drew_old ?_ | with_reducible refine heap_drewN_old ?_))
      have e8 := (hB8.block _ (lt_of_heap E8.out)).trans E8.out
      have F8 := Lib.hid (F7.out.trans (hB8.mono F7.out.size))
      have S8 := Lib.hid (S7.out.below hB8)
      have S48 := Lib.hid (S4.out.below hB8)
      have hFv : (A.l.map (eF 4))[k]? = some (eF 4 v) := by rw [List.getElem?_map, HV.out]; rfl
      obtain ⟨b8, off8, rfl, hb8, d0, d1, d2, d3, d4, d5⟩ := S8.out.cells hFv
      have xx := cell_of_heap e11
      have yy := cell_of_heap e8
      have zx := lt_of_heap e11
      have zy := lt_of_heap e8
      clear hW8 hB8 e11 e8 E8 S7 S4 F7 hFv
      rw [HQ.out]
      refine wp_region_mix [0, 1, 2, 3, 4, 5, 6, 7] [8, 9, 10, 11] [9, 10, 11] (Below W8.heap.size W8) (by kernel_rfl) (by kernel_rfl) (Below.refl _ _).drew ?_
      iterate 8 (first | (apply first_step; (rw [List.getElem?_toArray]; (repeat rw [List.getElem?_cons_succ]); rw [List.getElem?_cons_zero]); rfl; (intro W hB; have hc := bcellB hB; go_simp; (first | done | rfl)); go_frame) | (apply first_skip; (rw [List.getElem?_toArray]; (repeat rw [List.getElem?_cons_succ]); rw [List.getElem?_cons_zero]); rfl; go_frame))
      refine first_done ?_
      apply tail_step; (rw [List.getElem?_toArray]; (repeat rw [List.getElem?_cons_succ]); rw [List.getElem?_cons_zero]); rfl; rfl; intro K hK; go_simp
      refine (one_any (eF 4 v) _).mono ?_
      rintro e u9 ⟨y9, rfl, ⟨a9, c9, rfl, s9⟩, f9⟩
      have f9' : Below W8.heap.size W8 u9 := (Below.refl _ W8).drew.trans f9
      refine hK _ _ (fun _ => f9') ?_
      clear hK K
      have S9 := Lib.hid (s9.mono (Nat.zero_le _))
      have F9 := Lib.hid (F8.out.trans (f9'.mono F8.out.size))
      have S49 := Lib.hid (S48.out.below f9')
      clear s9 f9 f9' d0 d1 d2 d3 d4 d5 xx yy
      apply tail_step; (rw [List.getElem?_toArray]; (repeat rw [List.getElem?_cons_succ]); rw [List.getElem?_cons_zero]); rfl; rfl; intro K hK; go_simp
      refine (same_yes ⟨1, 1, [eF 4 v]⟩ _ _ u9 ⟨a4, c4', rfl, S49.out⟩ ⟨a9, c9, rfl, S9.out⟩ (by simp)).mono ?_
      rintro e u10 ⟨rfl, f10⟩
      refine hK _ _ (fun h => absurd (by decide) h) ?_
      clear hK K
      have F10 := Lib.hid (F9.out.trans (f10.mono F9.out.size))
      clear f10
      (apply tail_step; (rw [List.getElem?_toArray]; (repeat rw [List.getElem?_cons_succ]); rw [List.getElem?_cons_zero]); rfl; rfl; intro K hK; go_simp; refine hK _ _ (fun h => absurd (by decide) h) ?_; clear hK K)
      (apply tail_step; (rw [List.getElem?_toArray]; (repeat rw [List.getElem?_cons_succ]); rw [List.getElem?_cons_zero]); rfl; rfl; intro K hK; go_simp; refine hK _ _ (fun h => absurd (by decide) h) ?_; clear hK K)
      refine tail_done ?_
      go_wp2_with fail
      go_ret
      exact ⟨rfl, F10.out⟩
    | 5, _ =>
      have hj : p % 6 = 5 := HJ.out
      go_wp2_with fail
      clear hj
      have hb2 := (below_alloc w2 (.cells #[.string ⟨#[78, 79, 84]⟩, .string ⟨#[73, 83, 66, 76, 65, 78, 75]⟩, .string ⟨#[73, 83, 78, 85, 77, 66, 69, 82]⟩, .string ⟨#[73, 83, 84, 69, 88, 84]⟩, .string ⟨#[73, 83, 76, 79, 71, 73, 67, 65, 76]⟩, .string ⟨#[73, 83, 69, 82, 82, 79, 82]⟩] 9) _ (Nat.le_refl _)).trans ((below_alloc (w2.alloc (.cells #[.string ⟨#[78, 79, 84]⟩, .string ⟨#[73, 83, 66, 76, 65, 78, 75]⟩, .string ⟨#[73, 83, 78, 85, 77, 66, 69, 82]⟩, .string ⟨#[73, 83, 84, 69, 88, 84]⟩, .string ⟨#[73, 83, 76, 79, 71, 73, 67, 65, 76]⟩, .string ⟨#[73, 83, 69, 82, 82, 79, 82]⟩] 9)) (.cells #[.int .i64 A.r, .int .i64 A.c, .slice a A.l.length cap] 27) _ (Nat.le_refl _)).mono (by simp))
      have key := KC.out A (fun u hu => refR_tok (HR.out.h7 u hu)) HR.out.ok _ 1 _ (args_one (A1 := A) (heap_alloc_new (w2.alloc (.cells #[.string ⟨#[78, 79, 84]⟩, .string ⟨#[73, 83, 66, 76, 65, 78, 75]⟩, .string ⟨#[73, 83, 78, 85, 77, 66, 69, 82]⟩, .string ⟨#[73, 83, 84, 69, 88, 84]⟩, .string ⟨#[73, 83, 76, 79, 71, 73, 67, 65, 76]⟩, .string ⟨#[73, 83, 69, 82, 82, 79, 82]⟩] 9)) _) ((HS.out.below F2.out).below hb2))
      rw [World.size_alloc] at key
      refine key.mono ?_
      clear key
      rintro e u2 ⟨y2, rfl, ⟨a2, c2, rfl, s2⟩, f2⟩
      have hb3 := hb2.trans (f2.mono hb2.size)
      have F3 : Hid (Below w.heap.size w u2) := F2.out.trans (hb3.mono F2.out.size)
      have G3 : Hid (u2.heap[w.heap.size]? = _) := (hb3.block _ z0).trans G2.out
      simp only [List.length_map] at s2 ⊢
      have S2 := Lib.hid (s2.mono (Nat.zero_le _))
      have x3 := cell_of_heap G3.out
      have z3 := lt_of_heap G3.out
      have hq := HQ.out
      obtain ⟨b, off, hbo, hb, c0, c1, c2', c3, c4, c5⟩ := (HS.out.below F3.out).cells HV.out
      subst hbo
      have j1 : (0 : Int) ≤ (k : Int) := by omega
      have j2 : (k : Int) < (A.l.length : Int) := by omega
      clear s2 f2 hb2 hb3 x0 z0
      go_wp2_with fail
      clear hq
      refine (one_any v _).mono ?_
      rintro e u3 ⟨y3, rfl, ⟨a3, c3', rfl, s3⟩, f3⟩
      obtain ⟨o8, ho8⟩ : ∃ o8 : Obj, o8 = .cells #[.int .i64 A.r, .int .i64 A.c, .slice a2 A.l.length c2] 27 := ⟨_, rfl⟩
      have hb4 := (below_alloc u2 o8 _ (Nat.le_refl _))
      rw [ho8] at hb4
      have hb5 := hb4.trans (f3.mono hb4.size)
      have e8 : Hid (u3.heap[u2.heap.size]? = some (.cells #[.int .i64 A.r, .int .i64 A.c, .slice a2 A.l.length c2] 27)) := (f3.block _ (by simp)).trans (heap_alloc_new u2 _)
      have F5 : Hid (Below w.heap.size w u3) := F3.out.trans (hb5.mono F3.out.size)
      have S5 := Lib.hid (S2.out.below hb5)
      have S3 := Lib.hid (s3.mono (Nat.zero_le _))
      clear ho8 hb4 hb5 s3 f3 c0 c1 c2' c3 c4 c5 x3 z3 S2
      go_wp2_with fail
      have hb6 := below_alloc u3 (.cells #[.int .i64 1, .int .i64 1, .slice a3 1 c3'] 27) _ (Nat.le_refl _)
      have key := KC.out ⟨1, 1, [v]⟩ (fun u hu => by rw [List.mem_singleton.1 hu]; exact refR_tok (HR.out.h7 v (List.mem_of_getElem? HV.out))) (ok_one (refR_right (HR.out.h7 v (List.mem_of_getElem? HV.out)))) _ 1 _ (args_one (A1 := ⟨1, 1, [v]⟩) (heap_alloc_new u3 _) (S3.out.below hb6))
      refine key.mono ?_
      clear key
      rintro e u4 ⟨y4, rfl, ⟨a4, c4', rfl, s4⟩, f4⟩
      simp only [List.length_cons, List.length_nil, List.map_cons, List.map_nil] at s4 ⊢
      have hb7 := hb6.trans (f4.mono hb6.size)
      have E8 : Hid (u4.heap[u2.heap.size]? = _) := (hb7.block _ (lt_of_heap e8.out)).trans e8.out
      have F7 : Hid (Below w.heap.size w u4) := F5.out.trans (hb7.mono F5.out.size)
      have S7 := Lib.hid (S5.out.below hb7)
      have S4 := Lib.hid (s4.mono (Nat.zero_le _))
      clear hb6 hb7 s4 f4 S5 S3 e8
      go_wp2_with fail
      refine abs_world ?_
      intro W8 hW8
      have hB8 : Below u4.heap.size u4 W8 := by rw [hW8]; (repeat (first | with_reducible exact Below.refl _ _ | with_reducible exact hBW | with_reducible refine Below.setCell ?_ ?_ _ | with_reducible refine Below.alloc ?_ ?_ _ | with_reducible refine belowN ?_ _ | with_reducible refine Below.drew ?_)); all_goals (first | omega | (dsimp only; omega) | ((repeat (first | with_reducible refine le_alloc ?_ | with_reducible refine le_setCell ?_ | with_reducible refine le_drew ?_ | with_reducible refine le_drewN ?_)); omega))
      have e11 : W8.heap[u4.heap.size]? = some (.cells #[.int .i64 1, .int .i64 1, .slice a4 1 c4'] 27) := by rw [hW8]; (repeat (first | (with_reducible refine heap_alloc_at ?_ _; (first | rfl | (simp; done) | omega | (simp; omega)); done) | with_reducible refine heap_alloc_old ?_ _ | with_reducible refine heap_drew_old ?_ | with_reducible refine heap_drewN_old ?_))
      have e8 := (hB8.block _ (lt_of_heap E8.out)).trans E8.out
      have F8 := Lib.hid (F7.out.trans (hB8.mono F7.out.size))
      have S8 := Lib.hid (S7.out.below hB8)
      have S48 := Lib.hid (S4.out.below hB8)
      have hFv : (A.l.map (eF 5))[k]? = some (eF 5 v) := by rw [List.getElem?_map, HV.out]; rfl
      obtain ⟨b8, off8, rfl, hb8, d0, d1, d2, d3, d4, d5⟩ := S8.out.cells hFv
      have xx := cell_of_heap e11
      have yy := cell_of_heap e8
      have zx := lt_of_heap e11
      have zy := lt_of_heap e8
      clear hW8 hB8 e11 e8 E8 S7 S4 F7 hFv
      rw [HQ.out]
      refine wp_region_mix [0, 1, 2, 3, 4, 5, 6, 7] [8, 9, 10, 11] [9, 10, 11] (Below W8.heap.size W8) (by kernel_rfl) (by kernel_rfl) (Below.refl _ _).drew ?_
      iterate 8 (first | (apply first_step; (rw [List.getElem?_toArray]; (repeat rw [List.getElem?_cons_succ]); rw [List.getElem?_cons_zero]); rfl; (intro W hB; have hc := bcellB hB; go_simp; (first | done | rfl)); go_frame) | (apply first_skip; (rw [List.getElem?_toArray]; (repeat rw [List.getElem?_cons_succ]); rw [List.getElem?_cons_zero]); rfl; go_frame))
      refine first_done ?_
      apply tail_step; (rw [List.getElem?_toArray]; (repeat rw [List.getElem?_cons_succ]); rw [List.getElem?_cons_zero]); rfl; rfl; intro K hK; go_simp
      refine (one_any (eF 5 v) _).mono ?_
      rintro e u9 ⟨y9, rfl, ⟨a9, c9, rfl, s9⟩, f9⟩
      have f9' : Below W8.heap.size W8 u9 := (Below.refl _ W8).drew.trans f9
      refine hK _ _ (fun _ => f9') ?_
      clear hK K
      have S9 := Lib.hid (s9.mono (Nat.zero_le _))
      have F9 := Lib.hid (F8.out.trans (f9'.mono F8.out.size))
      have S49 := Lib.hid (S48.out.below f9')
      clear s9 f9 f9' d0 d1 d2 d3 d4 d5 xx yy
      apply tail_step; (rw [List.getElem?_toArray]; (repeat rw [List.getElem?_cons_succ]); rw [List.getElem?_cons_zero]); rfl; rfl; intro K hK; go_simp
      refine (same_yes ⟨1, 1, [eF 5 v]⟩ _ _ u9 ⟨a4, c4', rfl, S49.out⟩ ⟨a9, c9, rfl, S9.out⟩ (by simp)).mono ?_
      rintro e u10 ⟨rfl, f10⟩
      refine hK _ _ (fun h => absurd (by decide) h) ?_
      clear hK K
      have F10 := Lib.hid (F9.out.trans (f10.mono F9.out.size))
      clear f10
      (apply tail_step; (rw [List.getElem?_toArray]; (repeat rw [List.getElem?_cons_succ]); rw [List.getElem?_cons_zero]); rfl; rfl; intro K hK; go_simp; refine hK _ _ (fun h => absurd (by decide) h) ?_; clear hK K)
      (apply tail_step; (rw [List.getElem?_toArray]; (repeat rw [List.getElem?_cons_succ]); rw [List.getElem?_cons_zero]); rfl; rfl; intro K hK; go_simp; refine hK _ _ (fun h => absurd (by decide) h) ?_; clear hK K)
      refine tail_done ?_
      go_wp2_with fail
      go_ret
      exact ⟨rfl, F10.out⟩
theorem each_law (A : Arr) (a : Option Addr) (cap : Nat) (p q : Int) (w : World) (p1 : 0 ≤ p) (p2 : p ≤ 255) (q1 : 0 ≤ q) (q2 : q ≤ 255) (hs : SlB 0 w a A.l) : Calls Try.prog 6 #[.agg #[.int .i64 A.r, .int .i64 A.c, .slice a A.l.length cap], .int .u8 p, .int .u8 q] w fun e w' => e = .returned (.bool true) ∧ Below w.heap.size w w' := by
  by_cases h : 60 < A.l.length
  · exact each_long A a cap p q w h
  · exact each_main A a cap p q w (by omega) p1 p2 q1 q2 hs
end Go.Proofs.Ytgbedjeiihigaaa
