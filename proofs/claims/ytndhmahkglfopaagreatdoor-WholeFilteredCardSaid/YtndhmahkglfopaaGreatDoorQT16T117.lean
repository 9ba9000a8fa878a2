/- The table that function 117 makes. (Printed by tools/gen_tab.py.) -/
import Derived.Test.YtndhmahkglfopaaGreatDoorQT16TB
namespace Go.Proofs.YtndhmahkglfopaaGreatDoor
open Go.RowKit
def keys117 : List ByteArray := [⟨#[76, 69, 78]⟩, ⟨#[76, 69, 70, 84]⟩, ⟨#[82, 73, 71, 72, 84]⟩, ⟨#[77, 73, 68]⟩, ⟨#[85, 80, 80, 69, 82]⟩, ⟨#[76, 79, 87, 69, 82]⟩, ⟨#[84, 82, 73, 77]⟩, ⟨#[70, 73, 78, 68]⟩, ⟨#[83, 85, 66, 83, 84, 73, 84, 85, 84, 69]⟩, ⟨#[82, 69, 80, 84]⟩, ⟨#[69, 88, 65, 67, 84]⟩, ⟨#[86, 65, 76, 85, 69]⟩, ⟨#[67, 79, 78, 67, 65, 84]⟩, ⟨#[84, 69, 88, 84, 74, 79, 73, 78]⟩, ⟨#[84, 69, 88, 84, 83, 80, 76, 73, 84]⟩]
def Tab117 (w : World) (e : Ending) (w' : World) : Prop := ∃ (B : Nat) (l : List (ByteArray × Value)), e = .returned (.map (some B)) ∧ MapIs w' B Value.string (id : Value → Value) l ∧ l.map Prod.fst = keys117 ∧ Below w.heap.size w w'
set_option maxHeartbeats 8000000 in
set_option maxRecDepth 100000 in
theorem tab117_any (w : World) : Calls Tryz.prog 117 #[] w (Tab117 w) := by
  have hmm := @run_makeMap Tryz.prog
  go_enter Tryz.func117, Tryz.ntmps117
  have S0 : Hid (TabSt w w.heap.size (w.alloc (.map #[] 0)) [] []) := TabSt.new w
  go_wp2_with fail
  refine (mk164_any _ _ _ _ _ _).mono ?_
  rintro e x1 ⟨c1, rfl, hbb⟩
  have V1 := Lib.hid (S0.out.below (Below.trans (by (repeat with_reducible (first | exact bw0 _ _ | exact hBW | refine bw1 ?_ ?_ _ | refine bw2 ?_ ?_ _ | refine bw3 ?_ _ | refine bw4 ?_)); all_goals (first | omega | (dsimp only; omega) | ((repeat with_reducible (first | refine lz1 ?_ | refine lz2 ?_ | refine lz3 ?_ | refine lz4 ?_)); omega))) (hbb.mono (by simp))))
  clear hbb S0
  obtain ⟨l2, u2, hup2, hs, hf, hl, ho⟩ := V1.out.ins Tryz.underlying140 ⟨#[76, 69, 78]⟩ (.agg #[.int .i64 1, .int .i64 1, .func (.func 260) #[] c1]) (by kernel_rfl)
  have W2 := Lib.hid hs
  clear hs hf hl ho V1
  go_wp2_with fail
  clear hup2
  refine (mk164_any _ _ _ _ _ _).mono ?_
  rintro e x3 ⟨c3, rfl, hbb⟩
  have V3 := Lib.hid (W2.out.below (Below.trans (by (repeat with_reducible (first | exact bw0 _ _ | exact hBW | refine bw1 ?_ ?_ _ | refine bw2 ?_ ?_ _ | refine bw3 ?_ _ | refine bw4 ?_)); all_goals (first | omega | (dsimp only; omega) | ((repeat with_reducible (first | refine lz1 ?_ | refine lz2 ?_ | refine lz3 ?_ | refine lz4 ?_)); omega))) (hbb.mono (by simp))))
  clear hbb W2
  obtain ⟨l4, u4, hup4, hs, hf, hl, ho⟩ := V3.out.ins Tryz.underlying140 ⟨#[76, 69, 70, 84]⟩ (.agg #[.int .i64 1, .int .i64 2, .func (.func 260) #[] c3]) (by kernel_rfl)
  have W4 := Lib.hid hs
  clear hs hf hl ho V3
  go_wp2_with fail
  clear hup4
  refine (mk164_any _ _ _ _ _ _).mono ?_
  rintro e x5 ⟨c5, rfl, hbb⟩
  have V5 := Lib.hid (W4.out.below (Below.trans (by (repeat with_reducible (first | exact bw0 _ _ | exact hBW | refine bw1 ?_ ?_ _ | refine bw2 ?_ ?_ _ | refine bw3 ?_ _ | refine bw4 ?_)); all_goals (first | omega | (dsimp only; omega) | ((repeat with_reducible (first | refine lz1 ?_ | refine lz2 ?_ | refine lz3 ?_ | refine lz4 ?_)); omega))) (hbb.mono (by simp))))
  clear hbb W4
  obtain ⟨l6, u6, hup6, hs, hf, hl, ho⟩ := V5.out.ins Tryz.underlying140 ⟨#[82, 73, 71, 72, 84]⟩ (.agg #[.int .i64 1, .int .i64 2, .func (.func 260) #[] c5]) (by kernel_rfl)
  have W6 := Lib.hid hs
  clear hs hf hl ho V5
  go_wp2_with fail
  clear hup6
  refine (mk164_any _ _ _ _ _ _).mono ?_
  rintro e x7 ⟨c7, rfl, hbb⟩
  have V7 := Lib.hid (W6.out.below (Below.trans (by (repeat with_reducible (first | exact bw0 _ _ | exact hBW | refine bw1 ?_ ?_ _ | refine bw2 ?_ ?_ _ | refine bw3 ?_ _ | refine bw4 ?_)); all_goals (first | omega | (dsimp only; omega) | ((repeat with_reducible (first | refine lz1 ?_ | refine lz2 ?_ | refine lz3 ?_ | refine lz4 ?_)); omega))) (hbb.mono (by simp))))
  clear hbb W6
  obtain ⟨l8, u8, hup8, hs, hf, hl, ho⟩ := V7.out.ins Tryz.underlying140 ⟨#[77, 73, 68]⟩ (.agg #[.int .i64 3, .int .i64 3, .func (.func 260) #[] c7]) (by kernel_rfl)
  have W8 := Lib.hid hs
  clear hs hf hl ho V7
  go_wp2_with fail
  clear hup8
  refine (mk164_any _ _ _ _ _ _).mono ?_
  rintro e x9 ⟨c9, rfl, hbb⟩
  have V9 := Lib.hid (W8.out.below (Below.trans (by (repeat with_reducible (first | exact bw0 _ _ | exact hBW | refine bw1 ?_ ?_ _ | refine bw2 ?_ ?_ _ | refine bw3 ?_ _ | refine bw4 ?_)); all_goals (first | omega | (dsimp only; omega) | ((repeat with_reducible (first | refine lz1 ?_ | refine lz2 ?_ | refine lz3 ?_ | refine lz4 ?_)); omega))) (hbb.mono (by simp))))
  clear hbb W8
  obtain ⟨l10, u10, hup10, hs, hf, hl, ho⟩ := V9.out.ins Tryz.underlying140 ⟨#[85, 80, 80, 69, 82]⟩ (.agg #[.int .i64 1, .int .i64 1, .func (.func 260) #[] c9]) (by kernel_rfl)
  have W10 := Lib.hid hs
  clear hs hf hl ho V9
  go_wp2_with fail
  clear hup10
  refine (mk164_any _ _ _ _ _ _).mono ?_
  rintro e x11 ⟨c11, rfl, hbb⟩
  have V11 := Lib.hid (W10.out.below (Below.trans (by (repeat with_reducible (first | exact bw0 _ _ | exact hBW | refine bw1 ?_ ?_ _ | refine bw2 ?_ ?_ _ | refine bw3 ?_ _ | refine bw4 ?_)); all_goals (first | omega | (dsimp only; omega) | ((repeat with_reducible (first | refine lz1 ?_ | refine lz2 ?_ | refine lz3 ?_ | refine lz4 ?_)); omega))) (hbb.mono (by simp))))
  clear hbb W10
  obtain ⟨l12, u12, hup12, hs, hf, hl, ho⟩ := V11.out.ins Tryz.underlying140 ⟨#[76, 79, 87, 69, 82]⟩ (.agg #[.int .i64 1, .int .i64 1, .func (.func 260) #[] c11]) (by kernel_rfl)
  have W12 := Lib.hid hs
  clear hs hf hl ho V11
  go_wp2_with fail
  clear hup12
  refine (mk164_any _ _ _ _ _ _).mono ?_
  rintro e x13 ⟨c13, rfl, hbb⟩
  have V13 := Lib.hid (W12.out.below (Below.trans (by (repeat with_reducible (first | exact bw0 _ _ | exact hBW | refine bw1 ?_ ?_ _ | refine bw2 ?_ ?_ _ | refine bw3 ?_ _ | refine bw4 ?_)); all_goals (first | omega | (dsimp only; omega) | ((repeat with_reducible (first | refine lz1 ?_ | refine lz2 ?_ | refine lz3 ?_ | refine lz4 ?_)); omega))) (hbb.mono (by simp))))
  clear hbb W12
  obtain ⟨l14, u14, hup14, hs, hf, hl, ho⟩ := V13.out.ins Tryz.underlying140 ⟨#[84, 82, 73, 77]⟩ (.agg #[.int .i64 1, .int .i64 1, .func (.func 260) #[] c13]) (by kernel_rfl)
  have W14 := Lib.hid hs
  clear hs hf hl ho V13
  go_wp2_with fail
  clear hup14
  refine (mk164_any _ _ _ _ _ _).mono ?_
  rintro e x15 ⟨c15, rfl, hbb⟩
  have V15 := Lib.hid (W14.out.below (Below.trans (by (repeat with_reducible (first | exact bw0 _ _ | exact hBW | refine bw1 ?_ ?_ _ | refine bw2 ?_ ?_ _ | refine bw3 ?_ _ | refine bw4 ?_)); all_goals (first | omega | (dsimp only; omega) | ((repeat with_reducible (first | refine lz1 ?_ | refine lz2 ?_ | refine lz3 ?_ | refine lz4 ?_)); omega))) (hbb.mono (by simp))))
  clear hbb W14
  obtain ⟨l16, u16, hup16, hs, hf, hl, ho⟩ := V15.out.ins Tryz.underlying140 ⟨#[70, 73, 78, 68]⟩ (.agg #[.int .i64 2, .int .i64 3, .func (.func 260) #[] c15]) (by kernel_rfl)
  have W16 := Lib.hid hs
  clear hs hf hl ho V15
  go_wp2_with fail
  clear hup16
  refine (mk164_any _ _ _ _ _ _).mono ?_
  rintro e x17 ⟨c17, rfl, hbb⟩
  have V17 := Lib.hid (W16.out.below (Below.trans (by (repeat with_reducible (first | exact bw0 _ _ | exact hBW | refine bw1 ?_ ?_ _ | refine bw2 ?_ ?_ _ | refine bw3 ?_ _ | refine bw4 ?_)); all_goals (first | omega | (dsimp only; omega) | ((repeat with_reducible (first | refine lz1 ?_ | refine lz2 ?_ | refine lz3 ?_ | refine lz4 ?_)); omega))) (hbb.mono (by simp))))
  clear hbb W16
  obtain ⟨l18, u18, hup18, hs, hf, hl, ho⟩ := V17.out.ins Tryz.underlying140 ⟨#[83, 85, 66, 83, 84, 73, 84, 85, 84, 69]⟩ (.agg #[.int .i64 3, .int .i64 4, .func (.func 260) #[] c17]) (by kernel_rfl)
  have W18 := Lib.hid hs
  clear hs hf hl ho V17
  go_wp2_with fail
  clear hup18
  refine (mk164_any _ _ _ _ _ _).mono ?_
  rintro e x19 ⟨c19, rfl, hbb⟩
  have V19 := Lib.hid (W18.out.below (Below.trans (by (repeat with_reducible (first | exact bw0 _ _ | exact hBW | refine bw1 ?_ ?_ _ | refine bw2 ?_ ?_ _ | refine bw3 ?_ _ | refine bw4 ?_)); all_goals (first | omega | (dsimp only; omega) | ((repeat with_reducible (first | refine lz1 ?_ | refine lz2 ?_ | refine lz3 ?_ | refine lz4 ?_)); omega))) (hbb.mono (by simp))))
  clear hbb W18
  obtain ⟨l20, u20, hup20, hs, hf, hl, ho⟩ := V19.out.ins Tryz.underlying140 ⟨#[82, 69, 80, 84]⟩ (.agg #[.int .i64 2, .int .i64 2, .func (.func 260) #[] c19]) (by kernel_rfl)
  have W20 := Lib.hid hs
  clear hs hf hl ho V19
  go_wp2_with fail
  clear hup20
  refine (mk164_any _ _ _ _ _ _).mono ?_
  rintro e x21 ⟨c21, rfl, hbb⟩
  have V21 := Lib.hid (W20.out.below (Below.trans (by (repeat with_reducible (first | exact bw0 _ _ | exact hBW | refine bw1 ?_ ?_ _ | refine bw2 ?_ ?_ _ | refine bw3 ?_ _ | refine bw4 ?_)); all_goals (first | omega | (dsimp only; omega) | ((repeat with_reducible (first | refine lz1 ?_ | refine lz2 ?_ | refine lz3 ?_ | refine lz4 ?_)); omega))) (hbb.mono (by simp))))
  clear hbb W20
  obtain ⟨l22, u22, hup22, hs, hf, hl, ho⟩ := V21.out.ins Tryz.underlying140 ⟨#[69, 88, 65, 67, 84]⟩ (.agg #[.int .i64 2, .int .i64 2, .func (.func 260) #[] c21]) (by kernel_rfl)
  have W22 := Lib.hid hs
  clear hs hf hl ho V21
  go_wp2_with fail
  clear hup22
  refine (mk164_any _ _ _ _ _ _).mono ?_
  rintro e x23 ⟨c23, rfl, hbb⟩
  have V23 := Lib.hid (W22.out.below (Below.trans (by (repeat with_reducible (first | exact bw0 _ _ | exact hBW | refine bw1 ?_ ?_ _ | refine bw2 ?_ ?_ _ | refine bw3 ?_ _ | refine bw4 ?_)); all_goals (first | omega | (dsimp only; omega) | ((repeat with_reducible (first | refine lz1 ?_ | refine lz2 ?_ | refine lz3 ?_ | refine lz4 ?_)); omega))) (hbb.mono (by simp))))
  clear hbb W22
  obtain ⟨l24, u24, hup24, hs, hf, hl, ho⟩ := V23.out.ins Tryz.underlying140 ⟨#[86, 65, 76, 85, 69]⟩ (.agg #[.int .i64 1, .int .i64 1, .func (.func 260) #[] c23]) (by kernel_rfl)
  have W24 := Lib.hid hs
  clear hs hf hl ho V23
  obtain ⟨l25, u25, hup25, hs, hf, hl, ho⟩ := W24.out.ins Tryz.underlying140 ⟨#[67, 79, 78, 67, 65, 84]⟩ (.agg #[.int .i64 1, .int .i64 32, .func (.func 180) #[] #[]]) (by kernel_rfl)
  have W25 := Lib.hid hs
  clear hs hf hl ho W24
  obtain ⟨l26, u26, hup26, hs, hf, hl, ho⟩ := W25.out.ins Tryz.underlying140 ⟨#[84, 69, 88, 84, 74, 79, 73, 78]⟩ (.agg #[.int .i64 3, .int .i64 32, .func (.func 181) #[] #[]]) (by kernel_rfl)
  have W26 := Lib.hid hs
  clear hs hf hl ho W25
  obtain ⟨l27, u27, hup27, hs, hf, hl, ho⟩ := W26.out.ins Tryz.underlying140 ⟨#[84, 69, 88, 84, 83, 80, 76, 73, 84]⟩ (.agg #[.int .i64 2, .int .i64 2, .func (.func 182) #[] #[]]) (by kernel_rfl)
  have W27 := Lib.hid hs
  clear hs hf hl ho W26
  go_wp2_with fail
  clear hup24 hup25 hup26 hup27
  go_ret
  refine ⟨w.heap.size, l27, rfl, W27.out.m, W27.out.k, W27.out.f⟩
end Go.Proofs.YtndhmahkglfopaaGreatDoor
/- The table that function 120 makes. (Printed by tools/gen_tab.py.) -/
namespace Go.Proofs.YtndhmahkglfopaaGreatDoor
open Go.RowKit
def keys120 : List ByteArray := [⟨#[65, 78, 68]⟩, ⟨#[79, 82]⟩, ⟨#[88, 79, 82]⟩, ⟨#[78, 79, 84]⟩, ⟨#[73, 83, 66, 76, 65, 78, 75]⟩, ⟨#[73, 83, 78, 85, 77, 66, 69, 82]⟩, ⟨#[73, 83, 84, 69, 88, 84]⟩, ⟨#[73, 83, 76, 79, 71, 73, 67, 65, 76]⟩, ⟨#[73, 83, 69, 82, 82, 79, 82]⟩, ⟨#[78, 65]⟩]
def Tab120 (w : World) (e : Ending) (w' : World) : Prop := ∃ (B : Nat) (l : List (ByteArray × Value)), e = .returned (.map (some B)) ∧ MapIs w' B Value.string (id : Value → Value) l ∧ l.map Prod.fst = keys120 ∧ Below w.heap.size w w'
set_option maxHeartbeats 8000000 in
set_option maxRecDepth 100000 in
theorem tab120_any (w : World) : Calls Tryz.prog 120 #[] w (Tab120 w) := by
  have hmm := @run_makeMap Tryz.prog
  go_enter Tryz.func120, Tryz.ntmps120
  have S0 : Hid (TabSt w w.heap.size (w.alloc (.map #[] 0)) [] []) := TabSt.new w
  go_wp2_with fail
  refine (mk184_any (.func (.func 185) #[] #[]) ⟨_, _, rfl⟩ _).mono ?_
  rintro e x1 ⟨b1, rfl, hbx, hbl, hbb⟩
  have HX1 := Lib.hid hbx
  have V1 := Lib.hid (S0.out.below hbb)
  have NE1 : Hid (b1 ≠ w.heap.size) := S0.out.ne hbl
  clear hbx hbl hbb S0
  obtain ⟨l2, u2, hup2, hs, hf, hl, ho⟩ := V1.out.ins Tryz.underlying146 ⟨#[65, 78, 68]⟩ (.agg #[.int .i64 1, .int .i64 32, .func (.func 273) #[] #[.pointer (some ⟨b1, 0, none⟩)]]) (by kernel_rfl)
  have W2 := Lib.hid hs
  clear HX1
  clear NE1
  clear hs hf hl ho V1
  go_wp2_with fail
  clear hup2
  refine (mk184_any (.func (.func 186) #[] #[]) ⟨_, _, rfl⟩ _).mono ?_
  rintro e x3 ⟨b3, rfl, hbx, hbl, hbb⟩
  have HX3 := Lib.hid hbx
  have V3 := Lib.hid (W2.out.below hbb)
  have NE3 : Hid (b3 ≠ w.heap.size) := W2.out.ne hbl
  clear hbx hbl hbb W2
  obtain ⟨l4, u4, hup4, hs, hf, hl, ho⟩ := V3.out.ins Tryz.underlying146 ⟨#[79, 82]⟩ (.agg #[.int .i64 1, .int .i64 32, .func (.func 273) #[] #[.pointer (some ⟨b3, 0, none⟩)]]) (by kernel_rfl)
  have W4 := Lib.hid hs
  clear HX3
  clear NE3
  clear hs hf hl ho V3
  go_wp2_with fail
  clear hup4
  refine (mk184_any (.func (.func 187) #[] #[]) ⟨_, _, rfl⟩ _).mono ?_
  rintro e x5 ⟨b5, rfl, hbx, hbl, hbb⟩
  have HX5 := Lib.hid hbx
  have V5 := Lib.hid (W4.out.below hbb)
  have NE5 : Hid (b5 ≠ w.heap.size) := W4.out.ne hbl
  clear hbx hbl hbb W4
  obtain ⟨l6, u6, hup6, hs, hf, hl, ho⟩ := V5.out.ins Tryz.underlying146 ⟨#[88, 79, 82]⟩ (.agg #[.int .i64 1, .int .i64 32, .func (.func 273) #[] #[.pointer (some ⟨b5, 0, none⟩)]]) (by kernel_rfl)
  have W6 := Lib.hid hs
  clear HX5
  clear NE5
  clear hs hf hl ho V5
  go_wp2_with fail
  clear hup6
  refine (mk188_any (.func (.func 189) #[] #[]) ⟨_, _, rfl⟩ _).mono ?_
  rintro e x7 ⟨b7, rfl, hbx, hbl, hbb⟩
  have HX7 := Lib.hid hbx
  have V7 := Lib.hid (W6.out.below hbb)
  have NE7 : Hid (b7 ≠ w.heap.size) := W6.out.ne hbl
  clear hbx hbl hbb W6
  obtain ⟨l8, u8, hup8, hs, hf, hl, ho⟩ := V7.out.ins Tryz.underlying146 ⟨#[78, 79, 84]⟩ (.agg #[.int .i64 1, .int .i64 1, .func (.func 274) #[] #[.pointer (some ⟨b7, 0, none⟩)]]) (by kernel_rfl)
  have W8 := Lib.hid hs
  clear HX7
  clear NE7
  clear hs hf hl ho V7
  go_wp2_with fail
  clear hup8
  refine (mk190_any (.int .i64 0) ⟨_, rfl⟩ _).mono ?_
  rintro e x9 ⟨b9, rfl, hbx, hbl, hbb⟩
  have HX9 := Lib.hid hbx
  have V9 := Lib.hid (W8.out.below hbb)
  have NE9 : Hid (b9 ≠ w.heap.size) := W8.out.ne hbl
  clear hbx hbl hbb W8
  go_wp2_with fail
  refine (mk188_any (.func (.func 275) #[] #[.pointer (some ⟨b9, 0, none⟩)]) ⟨_, _, rfl⟩ _).mono ?_
  rintro e x10 ⟨b10, rfl, hbx, hbl, hbb⟩
  have HX10 := Lib.hid hbx
  have V10 := Lib.hid (V9.out.below hbb)
  have NE10 : Hid (b10 ≠ w.heap.size) := V9.out.ne hbl
  clear hbx hbl hbb V9
  obtain ⟨l11, u11, hup11, hs, hf, hl, ho⟩ := V10.out.ins Tryz.underlying146 ⟨#[73, 83, 66, 76, 65, 78, 75]⟩ (.agg #[.int .i64 1, .int .i64 1, .func (.func 274) #[] #[.pointer (some ⟨b10, 0, none⟩)]]) (by kernel_rfl)
  have W11 := Lib.hid hs
  clear HX10
  clear NE10
  clear hs hf hl ho V10
  go_wp2_with fail
  clear hup11
  refine (mk190_any (.int .i64 1) ⟨_, rfl⟩ _).mono ?_
  rintro e x12 ⟨b12, rfl, hbx, hbl, hbb⟩
  have HX12 := Lib.hid hbx
  have V12 := Lib.hid (W11.out.below hbb)
  have NE12 : Hid (b12 ≠ w.heap.size) := W11.out.ne hbl
  clear hbx hbl hbb W11
  go_wp2_with fail
  refine (mk188_any (.func (.func 275) #[] #[.pointer (some ⟨b12, 0, none⟩)]) ⟨_, _, rfl⟩ _).mono ?_
  rintro e x13 ⟨b13, rfl, hbx, hbl, hbb⟩
  have HX13 := Lib.hid hbx
  have V13 := Lib.hid (V12.out.below hbb)
  have NE13 : Hid (b13 ≠ w.heap.size) := V12.out.ne hbl
  clear hbx hbl hbb V12
  obtain ⟨l14, u14, hup14, hs, hf, hl, ho⟩ := V13.out.ins Tryz.underlying146 ⟨#[73, 83, 78, 85, 77, 66, 69, 82]⟩ (.agg #[.int .i64 1, .int .i64 1, .func (.func 274) #[] #[.pointer (some ⟨b13, 0, none⟩)]]) (by kernel_rfl)
  have W14 := Lib.hid hs
  clear HX13
  clear NE13
  clear hs hf hl ho V13
  go_wp2_with fail
  clear hup14
  refine (mk190_any (.int .i64 2) ⟨_, rfl⟩ _).mono ?_
  rintro e x15 ⟨b15, rfl, hbx, hbl, hbb⟩
  have HX15 := Lib.hid hbx
  have V15 := Lib.hid (W14.out.below hbb)
  have NE15 : Hid (b15 ≠ w.heap.size) := W14.out.ne hbl
  clear hbx hbl hbb W14
  go_wp2_with fail
  refine (mk188_any (.func (.func 275) #[] #[.pointer (some ⟨b15, 0, none⟩)]) ⟨_, _, rfl⟩ _).mono ?_
  rintro e x16 ⟨b16, rfl, hbx, hbl, hbb⟩
  have HX16 := Lib.hid hbx
  have V16 := Lib.hid (V15.out.below hbb)
  have NE16 : Hid (b16 ≠ w.heap.size) := V15.out.ne hbl
  clear hbx hbl hbb V15
  obtain ⟨l17, u17, hup17, hs, hf, hl, ho⟩ := V16.out.ins Tryz.underlying146 ⟨#[73, 83, 84, 69, 88, 84]⟩ (.agg #[.int .i64 1, .int .i64 1, .func (.func 274) #[] #[.pointer (some ⟨b16, 0, none⟩)]]) (by kernel_rfl)
  have W17 := Lib.hid hs
  clear HX16
  clear NE16
  clear hs hf hl ho V16
  go_wp2_with fail
  clear hup17
  refine (mk190_any (.int .i64 3) ⟨_, rfl⟩ _).mono ?_
  rintro e x18 ⟨b18, rfl, hbx, hbl, hbb⟩
  have HX18 := Lib.hid hbx
  have V18 := Lib.hid (W17.out.below hbb)
  have NE18 : Hid (b18 ≠ w.heap.size) := W17.out.ne hbl
  clear hbx hbl hbb W17
  go_wp2_with fail
  refine (mk188_any (.func (.func 275) #[] #[.pointer (some ⟨b18, 0, none⟩)]) ⟨_, _, rfl⟩ _).mono ?_
  rintro e x19 ⟨b19, rfl, hbx, hbl, hbb⟩
  have HX19 := Lib.hid hbx
  have V19 := Lib.hid (V18.out.below hbb)
  have NE19 : Hid (b19 ≠ w.heap.size) := V18.out.ne hbl
  clear hbx hbl hbb V18
  obtain ⟨l20, u20, hup20, hs, hf, hl, ho⟩ := V19.out.ins Tryz.underlying146 ⟨#[73, 83, 76, 79, 71, 73, 67, 65, 76]⟩ (.agg #[.int .i64 1, .int .i64 1, .func (.func 274) #[] #[.pointer (some ⟨b19, 0, none⟩)]]) (by kernel_rfl)
  have W20 := Lib.hid hs
  clear HX19
  clear NE19
  clear hs hf hl ho V19
  go_wp2_with fail
  clear hup20
  refine (mk190_any (.int .i64 4) ⟨_, rfl⟩ _).mono ?_
  rintro e x21 ⟨b21, rfl, hbx, hbl, hbb⟩
  have HX21 := Lib.hid hbx
  have V21 := Lib.hid (W20.out.below hbb)
  have NE21 : Hid (b21 ≠ w.heap.size) := W20.out.ne hbl
  clear hbx hbl hbb W20
  go_wp2_with fail
  refine (mk188_any (.func (.func 275) #[] #[.pointer (some ⟨b21, 0, none⟩)]) ⟨_, _, rfl⟩ _).mono ?_
  rintro e x22 ⟨b22, rfl, hbx, hbl, hbb⟩
  have HX22 := Lib.hid hbx
  have V22 := Lib.hid (V21.out.below hbb)
  have NE22 : Hid (b22 ≠ w.heap.size) := V21.out.ne hbl
  clear hbx hbl hbb V21
  obtain ⟨l23, u23, hup23, hs, hf, hl, ho⟩ := V22.out.ins Tryz.underlying146 ⟨#[73, 83, 69, 82, 82, 79, 82]⟩ (.agg #[.int .i64 1, .int .i64 1, .func (.func 274) #[] #[.pointer (some ⟨b22, 0, none⟩)]]) (by kernel_rfl)
  have W23 := Lib.hid hs
  clear HX22
  clear NE22
  clear hs hf hl ho V22
  obtain ⟨l24, u24, hup24, hs, hf, hl, ho⟩ := W23.out.ins Tryz.underlying146 ⟨#[78, 65]⟩ (.agg #[.int .i64 0, .int .i64 0, .func (.func 191) #[] #[]]) (by kernel_rfl)
  have W24 := Lib.hid hs
  clear hs hf hl ho W23
  go_wp2_with fail
  clear hup23 hup24
  go_ret
  refine ⟨w.heap.size, l24, rfl, W24.out.m, W24.out.k, W24.out.f⟩
end Go.Proofs.YtndhmahkglfopaaGreatDoor
/- The table that function 123 makes. (Printed by tools/gen_tab.py.) -/
namespace Go.Proofs.YtndhmahkglfopaaGreatDoor
open Go.RowKit
def keys123 : List ByteArray := [⟨#[73, 78, 68, 69, 88]⟩, ⟨#[77, 65, 84, 67, 72]⟩, ⟨#[88, 76, 79, 79, 75, 85, 80]⟩, ⟨#[86, 76, 79, 79, 75, 85, 80]⟩, ⟨#[72, 76, 79, 79, 75, 85, 80]⟩]
def Tab123 (w : World) (e : Ending) (w' : World) : Prop := ∃ (B : Nat) (l : List (ByteArray × Value)), e = .returned (.map (some B)) ∧ MapIs w' B Value.string (id : Value → Value) l ∧ l.map Prod.fst = keys123 ∧ Below w.heap.size w w'
set_option maxHeartbeats 8000000 in
set_option maxRecDepth 100000 in
theorem tab123_any (w : World) : Calls Tryz.prog 123 #[] w (Tab123 w) := by
  have hmm := @run_makeMap Tryz.prog
  go_enter Tryz.func123, Tryz.ntmps123
  have S0 : Hid (TabSt w w.heap.size (w.alloc (.map #[] 0)) [] []) := TabSt.new w
  obtain ⟨l1, u1, hup1, hs, hf, hl, ho⟩ := S0.out.ins Tryz.underlying152 ⟨#[73, 78, 68, 69, 88]⟩ (.agg #[.int .i64 2, .int .i64 3, .func (.func 193) #[] #[]]) (by kernel_rfl)
  have W1 := Lib.hid hs
  clear hs hf hl ho S0
  obtain ⟨l2, u2, hup2, hs, hf, hl, ho⟩ := W1.out.ins Tryz.underlying152 ⟨#[77, 65, 84, 67, 72]⟩ (.agg #[.int .i64 2, .int .i64 3, .func (.func 194) #[] #[]]) (by kernel_rfl)
  have W2 := Lib.hid hs
  clear hs hf hl ho W1
  obtain ⟨l3, u3, hup3, hs, hf, hl, ho⟩ := W2.out.ins Tryz.underlying152 ⟨#[88, 76, 79, 79, 75, 85, 80]⟩ (.agg #[.int .i64 3, .int .i64 5, .func (.func 195) #[] #[]]) (by kernel_rfl)
  have W3 := Lib.hid hs
  clear hs hf hl ho W2
  obtain ⟨l4, u4, hup4, hs, hf, hl, ho⟩ := W3.out.ins Tryz.underlying152 ⟨#[86, 76, 79, 79, 75, 85, 80]⟩ (.agg #[.int .i64 3, .int .i64 4, .func (.func 196) #[] #[]]) (by kernel_rfl)
  have W4 := Lib.hid hs
  clear hs hf hl ho W3
  obtain ⟨l5, u5, hup5, hs, hf, hl, ho⟩ := W4.out.ins Tryz.underlying152 ⟨#[72, 76, 79, 79, 75, 85, 80]⟩ (.agg #[.int .i64 3, .int .i64 4, .func (.func 197) #[] #[]]) (by kernel_rfl)
  have W5 := Lib.hid hs
  clear hs hf hl ho W4
  go_wp2_with fail
  clear hup1 hup2 hup3 hup4 hup5
  go_ret
  refine ⟨w.heap.size, l5, rfl, W5.out.m, W5.out.k, W5.out.f⟩
end Go.Proofs.YtndhmahkglfopaaGreatDoor
