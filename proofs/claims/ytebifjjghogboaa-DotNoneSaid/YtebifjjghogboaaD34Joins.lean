/- DotJoins: for every two slices of ids. (Printed by tools/gen34b.py.) -/
import Derived.Test.YtebifjjghogboaaD34Turned
namespace Go.Proofs.Ytebifjjghogboaa
open Go.RowKit Go.Shelf Go.Maps
/-- Two Seens, and the document's rows beside them. -/
structure Env (S T : List Id2) (ps bs pt bt : Nat) (a b : Option Addr) (wr : World) : Prop where
  s : Sn wr ps bs S
  t : Sn wr pt bt T
  l : IdsAt wr a S
  m : IdsAt wr b T
theorem Env.below {S T : List Id2} {ps bs pt bt : Nat} {a b : Option Addr} {wr w' : World} (h : Env S T ps bs pt bt a b wr) (hb : Below wr.heap.size wr w') : Env S T ps bs pt bt a b w' := ⟨h.s.below hb, h.t.below hb, h.l.below hb, h.m.below hb⟩
theorem Env.join {S T U : List Id2} {ps bs pt bt pu bu : Nat} {a b : Option Addr} {wr w' : World} (h : Env S T ps bs pt bt a b wr) (hu : Sn wr pu bu U) (hf : Fr (fun x => x = bu) wr w') (d1 : ps ≠ bu) (d2 : bs ≠ bu) (d3 : pt ≠ bu) (d4 : bt ≠ bu) : Env S T ps bs pt bt a b w' :=
  ⟨h.s.frame hf d1 d2, h.t.frame hf d3 d4, h.l.sn hu hf, h.m.sn hu hf⟩
set_option maxHeartbeats 4000000 in
set_option maxRecDepth 100000 in
theorem joins_main (aa bb : Option Addr) (ca cb : Nat) (A B : List Id2) (w : World) (hA : IdsAt w aa A) (hB : IdsAt w bb B) (iA : ∀ p ∈ A, InI p) (iB : ∀ p ∈ B, InI p) (lA : A.length ≤ 100) (lB : B.length ≤ 100) :
    Calls Try.prog 8 #[.slice aa A.length ca, .slice bb B.length cb] w fun e w' => e = .returned (.bool true) ∧ Below w.heap.size w w' := by
  have HA := Lib.hid hA
  have HB := Lib.hid hB
  have IA := Lib.hid iA
  have IB := Lib.hid iB
  clear hA hB iA iB
  go_enter Try.func8, Try.ntmps8
  go_wp2_with fail
  refine (awake_any _).mono ?_
  rintro e w1 ⟨rfl, hb⟩
  have F1 := Lib.hid hb
  clear hb
  go_wp2_with fail
  refine (of_any aa ca A w1 (HA.out.below F1.out) IA.out lA).mono ?_
  rintro e w2 ⟨a2, c2, rfl, s2, i2, b2⟩
  have F2 : Hid (Below w.heap.size w w2) := F1.out.trans (b2.mono F1.out.size)
  have SS := Lib.hid s2
  have SI := Lib.hid i2
  clear s2 b2 i2
  obtain ⟨bs, hbs⟩ : ∃ b, b = w1.heap.size := ⟨_, rfl⟩
  have D0 : Hid (w.heap.size ≤ bs) := by rw [hbs]; exact F1.out.size
  rw [← hbs] at SS ⊢
  clear hbs F1
  go_wp2_with fail
  refine (of_any bb cb B w2 (HB.out.below F2.out) IB.out lB).mono ?_
  rintro e w3 ⟨a3, c3, rfl, s3, i3, b3⟩
  have F3 : Hid (Below w.heap.size w w3) := F2.out.trans (b3.mono F2.out.size)
  have GS := Lib.hid (ofL_good IA.out)
  have GT := Lib.hid (ofL_good IB.out)
  obtain ⟨bt, hbt⟩ : ∃ b, b = w2.heap.size := ⟨_, rfl⟩
  have D1 : Hid (bs + 2 ≤ bt) := by rw [hbt]; have := lt_of_heap SS.out.1; unfold Hid; omega
  rw [← hbt] at s3 ⊢
  have E3 : Hid (Env (ofL A) (ofL B) (bs + 1) bs (bt + 1) bt a2 a3 w3) := ⟨SS.out.below b3, s3, SI.out.below b3, i3⟩
  clear s3 b3 i3 SS SI hbt F2
  generalize ofL A = S at E3 GS ⊢
  generalize ofL B = T at E3 GT ⊢
  have CR := Lib.hid (cov_refl GS.out)
  obtain ⟨q1, hq1⟩ : ∃ q, covL S T = q := ⟨_, rfl⟩
  obtain ⟨q2, hq2⟩ : ∃ q, covL T S = q := ⟨_, rfl⟩
  have Q1 := Lib.hid hq1
  have Q2 := Lib.hid hq2
  have nb1 := fun W => neq_bool W q1
  have nb2 := fun W => neq_bool W q2
  clear hq1 hq2
  have R20 : Hid (Below w3.heap.size w3 w3) := Below.refl _ _
  go_wp2_with fail
  refine (covers_any (E3.out.below R20.out).s.v (E3.out.below R20.out).t.v).mono ?_
  rw [Q1.out]
  rintro e u21 ⟨rfl, hb⟩
  have R21 : Hid (Below w3.heap.size w3 u21) := R20.out.trans (hb.mono R20.out.size)
  clear hb
  go_wp2_with fail
  refine (refCovers_any a2 a3 c2 c3 S T _ (E3.out.below R21.out).l GS.out (E3.out.below R21.out).m GT.out).mono ?_
  rw [Q1.out]
  rintro e u22 ⟨rfl, hb⟩
  have R22 : Hid (Below w3.heap.size w3 u22) := R21.out.trans (hb.mono R21.out.size)
  clear hb
  go_wp2_with fail
  refine (covers_any (E3.out.below R22.out).t.v (E3.out.below R22.out).s.v).mono ?_
  rw [Q2.out]
  rintro e u23 ⟨rfl, hb⟩
  have R23 : Hid (Below w3.heap.size w3 u23) := R22.out.trans (hb.mono R22.out.size)
  clear hb
  go_wp2_with fail
  refine (refCovers_any a3 a2 c3 c2 T S _ (E3.out.below R23.out).m GT.out (E3.out.below R23.out).l GS.out).mono ?_
  rw [Q2.out]
  rintro e u24 ⟨rfl, hb⟩
  have R24 : Hid (Below w3.heap.size w3 u24) := R23.out.trans (hb.mono R23.out.size)
  clear hb
  go_wp2_with fail
  refine (covers_any (E3.out.below R24.out).s.v (E3.out.below R24.out).s.v).mono ?_
  rw [CR.out]
  rintro e u25 ⟨rfl, hb⟩
  have R25 : Hid (Below w3.heap.size w3 u25) := R24.out.trans (hb.mono R24.out.size)
  clear hb
  clear nb1 nb2
  go_wp2_with fail
  refine (clone_any (E3.out.below R25.out).s.v).mono ?_
  rintro e w4 ⟨rfl, s4, b4⟩
  obtain ⟨bu, hbu⟩ : ∃ b, b = u25.heap.size := ⟨_, rfl⟩
  have D2 : Hid (bt + 2 ≤ bu) := by rw [hbu]; have := lt_of_heap (E3.out.below R25.out).t.1; unfold Hid; omega
  rw [← hbu] at s4 ⊢
  have R40 : Hid (Below w3.heap.size w3 w4) := R25.out.trans (b4.mono R25.out.size)
  have U4 := Lib.hid s4
  clear s4 b4 hbu
  go_wp2_with fail
  refine (clone_any (E3.out.below R40.out).t.v).mono ?_
  rintro e w5 ⟨rfl, s5, b5⟩
  obtain ⟨bv, hbv⟩ : ∃ b, b = w4.heap.size := ⟨_, rfl⟩
  have D3 : Hid (bu + 2 ≤ bv) := by rw [hbv]; have := lt_of_heap U4.out.1; unfold Hid; omega
  rw [← hbv] at s5 ⊢
  have R50 : Hid (Below w3.heap.size w3 w5) := R40.out.trans (b5.mono R40.out.size)
  have U5 := Lib.hid (U4.out.below b5)
  have V5 := Lib.hid s5
  clear s5 b5 hbv U4
  go_wp2_with fail
  refine (join_sn U5.out (E3.out.below R50.out).t.v).mono ?_
  rintro e w6 ⟨rfl, s6, f6⟩
  have E6 : Hid (Env S T (bs + 1) bs (bt + 1) bt a2 a3 w6) := (E3.out.below R50.out).join U5.out f6 (by have := D1.out; have := D2.out; omega) (by have := D1.out; have := D2.out; omega) (by have := D1.out; have := D2.out; omega) (by have := D1.out; have := D2.out; omega)
  have U6 := Lib.hid s6
  have V6 : Hid (Sn w6 (bv + 1) bv T) := V5.out.frame f6 (by have := D3.out; show ¬ _ = _; omega) (by have := D3.out; show ¬ _ = _; omega)
  have F6 : Hid (Below w.heap.size w w6) := fr_below (B := bu) (F3.out.trans (R50.out.mono F3.out.size)) f6 (Nat.le_refl _) (fun k h => Nat.le_of_eq h.symm) (by have := D0.out; have := D1.out; have := D2.out; omega)
  clear s6 f6 U5 V5 R20 R21 R22 R23 R24 R25 R40 R50 E3 F3
  go_wp2_with fail
  refine (join_sn V6.out E6.out.s.v).mono ?_
  rintro e w7 ⟨rfl, s7, f7⟩
  rw [joinL_comm GT.out GS.out] at s7
  have E7 : Hid (Env S T (bs + 1) bs (bt + 1) bt a2 a3 w7) := E6.out.join V6.out f7 (by have := D1.out; have := D2.out; have := D3.out; omega) (by have := D1.out; have := D2.out; have := D3.out; omega) (by have := D1.out; have := D2.out; have := D3.out; omega) (by have := D1.out; have := D2.out; have := D3.out; omega)
  have V7 := Lib.hid s7
  have U7 : Hid (Sn w7 (bu + 1) bu (joinL S T)) := U6.out.frame f7 (by have := D3.out; show ¬ _ = _; omega) (by have := D3.out; show ¬ _ = _; omega)
  have F7 : Hid (Below w.heap.size w w7) := fr_below (B := bv) F6.out f7 (Nat.le_refl _) (fun k h => Nat.le_of_eq h.symm) (by have := D0.out; have := D1.out; have := D2.out; have := D3.out; omega)
  clear s7 f7 U6 V6 F6 E6
  have CS := Lib.hid (cov_join_l GS.out GT.out)
  have CT := Lib.hid (cov_join_r GS.out GT.out)
  have CU := Lib.hid (cov_refl (good_joinL GS.out GT.out))
  have JC := Lib.hid (joinL_comm GT.out GS.out)
  go_wp2_with fail
  refine (refJoin_any a2 a3 c2 c3 S T _ E7.out.l GS.out E7.out.m GT.out).mono ?_
  rintro e w8 ⟨a8, c8, rfl, i8, b8⟩
  have R80 := Lib.hid b8
  have I8 := Lib.hid i8
  clear i8 b8
  go_wp2_with fail
  refine (same_any a8 c8 (U7.out.below R80.out).v I8.out).mono ?_
  rintro e w9 ⟨rfl, b9⟩
  have R90 : Hid (Below w7.heap.size w7 w9) := R80.out.trans (b9.mono R80.out.size)
  clear b9
  go_wp2_with fail
  refine (refJoin_any a3 a2 c3 c2 T S _ (E7.out.below R90.out).m GT.out (E7.out.below R90.out).l GS.out).mono ?_
  rw [JC.out]
  rintro e w10 ⟨a10, c10, rfl, i10, b10⟩
  have R100 : Hid (Below w7.heap.size w7 w10) := R90.out.trans (b10.mono R90.out.size)
  have I10 := Lib.hid i10
  clear i10 b10
  go_wp2_with fail
  refine (same_any a10 c10 (V7.out.below R100.out).v I10.out).mono ?_
  rintro e w11 ⟨rfl, b11⟩
  have R110 : Hid (Below w7.heap.size w7 w11) := R100.out.trans (b11.mono R100.out.size)
  clear b11
  go_wp2_with fail
  refine (same_any a2 c2 (E7.out.below R110.out).s.v (E7.out.below R110.out).l).mono ?_
  rintro e u121 ⟨rfl, hb⟩
  have R121 : Hid (Below w7.heap.size w7 u121) := R110.out.trans (hb.mono R110.out.size)
  clear hb
  go_wp2_with fail
  refine (same_any a3 c3 (E7.out.below R121.out).t.v (E7.out.below R121.out).m).mono ?_
  rintro e u122 ⟨rfl, hb⟩
  have R122 : Hid (Below w7.heap.size w7 u122) := R121.out.trans (hb.mono R121.out.size)
  clear hb
  go_wp2_with fail
  refine (covers_any (U7.out.below R122.out).v (E7.out.below R122.out).s.v).mono ?_
  rw [CS.out]
  rintro e u123 ⟨rfl, hb⟩
  have R123 : Hid (Below w7.heap.size w7 u123) := R122.out.trans (hb.mono R122.out.size)
  clear hb
  go_wp2_with fail
  refine (covers_any (U7.out.below R123.out).v (E7.out.below R123.out).t.v).mono ?_
  rw [CT.out]
  rintro e u124 ⟨rfl, hb⟩
  have R124 : Hid (Below w7.heap.size w7 u124) := R123.out.trans (hb.mono R123.out.size)
  clear hb
  go_wp2_with fail
  refine (covers_any (V7.out.below R124.out).v (U7.out.below R124.out).v).mono ?_
  rw [CU.out]
  rintro e u125 ⟨rfl, hb⟩
  have R125 : Hid (Below w7.heap.size w7 u125) := R124.out.trans (hb.mono R124.out.size)
  clear hb
  go_wp2_with fail
  refine (covers_any (U7.out.below R125.out).v (V7.out.below R125.out).v).mono ?_
  rw [CU.out]
  rintro e u126 ⟨rfl, hb⟩
  have R126 : Hid (Below w7.heap.size w7 u126) := R125.out.trans (hb.mono R125.out.size)
  clear hb
  go_wp2_with fail
  go_ret
  exact ⟨rfl, F7.out.trans (R126.out.mono F7.out.size)⟩
set_option maxHeartbeats 1000000 in
theorem joins_long1 (aa bb : Option Addr) (ca cb la lb : Nat) (w : World) (h2 : 100 < la) :
    Calls Try.prog 8 #[.slice aa la ca, .slice bb lb cb] w fun e w' => e = .returned (.bool true) ∧ Below w.heap.size w w' := by
  go_enter Try.func8, Try.ntmps8
  go_wp2_with fail
  refine (awake_any _).mono ?_
  rintro e w1 ⟨rfl, hb⟩
  have FB := Lib.hid hb
  clear hb
  go_wp2_with fail
  go_ret
  exact ⟨rfl, FB.out⟩
set_option maxHeartbeats 1000000 in
theorem joins_long2 (aa bb : Option Addr) (ca cb la lb : Nat) (w : World) (h1 : ¬ 100 < la) (h2 : 100 < lb) :
    Calls Try.prog 8 #[.slice aa la ca, .slice bb lb cb] w fun e w' => e = .returned (.bool true) ∧ Below w.heap.size w w' := by
  go_enter Try.func8, Try.ntmps8
  go_wp2_with fail
  refine (awake_any _).mono ?_
  rintro e w1 ⟨rfl, hb⟩
  have FB := Lib.hid hb
  clear hb
  go_wp2_with fail
  go_ret
  exact ⟨rfl, FB.out⟩
theorem joins_law (aa bb : Option Addr) (ca cb : Nat) (A B : List Id2) (w : World) (hA : IdsAt w aa A) (hB : IdsAt w bb B) (iA : ∀ p ∈ A, InI p) (iB : ∀ p ∈ B, InI p) :
    Calls Try.prog 8 #[.slice aa A.length ca, .slice bb B.length cb] w fun e w' => e = .returned (.bool true) ∧ Below w.heap.size w w' := by
  by_cases h1 : 100 < A.length
  · exact joins_long1 aa bb ca cb _ _ w h1
  · by_cases h2 : 100 < B.length
    · exact joins_long2 aa bb ca cb _ _ w h1 h2
    · exact joins_main aa bb ca cb A B w hA hB iA iB (by omega) (by omega)
end Go.Proofs.Ytebifjjghogboaa
