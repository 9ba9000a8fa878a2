/- The table that function 112 makes. (Printed by tools/gen_tab.py.) -/
import Derived.Test.YtndhmahkglfopaaGreatDoorQT16TB
namespace Go.Proofs.YtndhmahkglfopaaGreatDoor
open Go.RowKit
def keys112 : List ByteArray := [⟨#[83, 85, 77]⟩, ⟨#[80, 82, 79, 68, 85, 67, 84]⟩, ⟨#[77, 73, 78]⟩, ⟨#[77, 65, 88]⟩, ⟨#[67, 79, 85, 78, 84]⟩, ⟨#[67, 79, 85, 78, 84, 65]⟩, ⟨#[65, 86, 69, 82, 65, 71, 69]⟩, ⟨#[77, 69, 68, 73, 65, 78]⟩, ⟨#[83, 85, 77, 80, 82, 79, 68, 85, 67, 84]⟩, ⟨#[76, 65, 82, 71, 69]⟩, ⟨#[83, 77, 65, 76, 76]⟩, ⟨#[67, 79, 85, 78, 84, 73, 70]⟩, ⟨#[83, 85, 77, 73, 70]⟩, ⟨#[65, 66, 83]⟩, ⟨#[83, 73, 71, 78]⟩, ⟨#[73, 78, 84]⟩, ⟨#[82, 79, 85, 78, 68]⟩, ⟨#[77, 79, 68]⟩, ⟨#[80, 79, 87, 69, 82]⟩]
def Tab112 (w : World) (e : Ending) (w' : World) : Prop := ∃ (B : Nat) (l : List (ByteArray × Value)), e = .returned (.map (some B)) ∧ MapIs w' B Value.string (id : Value → Value) l ∧ l.map Prod.fst = keys112 ∧ Below w.heap.size w w' ∧ (∃ b, getL l ⟨#[83, 85, 77]⟩ = some (.agg #[.int .i64 1, .int .i64 32, .func (.func 230) #[] #[.pointer (some ⟨b, 0, none⟩)]]) ∧ w'.heap[b]? = some (.cells #[.func (.func 137) #[] #[]] 167)) ∧ getL l ⟨#[67, 79, 85, 78, 84, 73, 70]⟩ = some (.agg #[.int .i64 2, .int .i64 2, .func (.func 151) #[] #[]]) ∧ getL l ⟨#[83, 85, 77, 73, 70]⟩ = some (.agg #[.int .i64 2, .int .i64 3, .func (.func 152) #[] #[]]) ∧ (∃ b, getL l ⟨#[82, 79, 85, 78, 68]⟩ = some (.agg #[.int .i64 2, .int .i64 2, .func (.func 247) #[] #[.pointer (some ⟨b, 0, none⟩)]]) ∧ w'.heap[b]? = some (.cells #[.func (.func 157) #[] #[]] 45))
set_option maxHeartbeats 8000000 in
set_option maxRecDepth 100000 in
theorem tab112_any (w : World) : Calls Tryz.prog 112 #[] w (Tab112 w) := by
  have hmm := @run_makeMap Tryz.prog
  go_enter Tryz.func112, Tryz.ntmps112
  have S0 : Hid (TabSt w w.heap.size (w.alloc (.map #[] 0)) [] []) := TabSt.new w
  go_wp2_with fail
  refine (mk136_any (.func (.func 137) #[] #[]) ⟨_, _, rfl⟩ _).mono ?_
  rintro e x1 ⟨b1, rfl, hbx, hbl, hbb⟩
  have HX1 := Lib.hid hbx
  have V1 := Lib.hid (S0.out.below hbb)
  have NE1 : Hid (b1 ≠ w.heap.size) := S0.out.ne hbl
  clear hbx hbl hbb S0
  obtain ⟨l2, u2, hup2, hs, hf, hl, ho⟩ := V1.out.ins Tryz.underlying129 ⟨#[83, 85, 77]⟩ (.agg #[.int .i64 1, .int .i64 32, .func (.func 230) #[] #[.pointer (some ⟨b1, 0, none⟩)]]) (by kernel_rfl)
  have W2 := Lib.hid hs
  have H0g := Lib.hid hl
  have H0b := Lib.hid ((hf.block _ (lt_of_heap HX1.out) NE1.out).trans HX1.out)
  have H0n := NE1
  clear HX1
  clear hs hf hl ho V1
  go_wp2_with fail
  clear hup2
  refine (mk136_any (.func (.func 138) #[] #[]) ⟨_, _, rfl⟩ _).mono ?_
  rintro e x3 ⟨b3, rfl, hbx, hbl, hbb⟩
  have HX3 := Lib.hid hbx
  have V3 := Lib.hid (W2.out.below hbb)
  have NE3 : Hid (b3 ≠ w.heap.size) := W2.out.ne hbl
  have H0x := Lib.hid ((hbb.block _ (lt_of_heap H0b.out)).trans H0b.out)
  clear H0b
  have H0b := H0x
  clear H0x
  clear hbx hbl hbb W2
  obtain ⟨l4, u4, hup4, hs, hf, hl, ho⟩ := V3.out.ins Tryz.underlying129 ⟨#[80, 82, 79, 68, 85, 67, 84]⟩ (.agg #[.int .i64 1, .int .i64 32, .func (.func 230) #[] #[.pointer (some ⟨b3, 0, none⟩)]]) (by kernel_rfl)
  have W4 := Lib.hid hs
  have H0y := Lib.hid ((ho ⟨#[83, 85, 77]⟩ (by decide)).trans H0g.out)
  clear H0g
  have H0g := H0y
  clear H0y
  have H0x := Lib.hid ((hf.block _ (lt_of_heap H0b.out) H0n.out).trans H0b.out)
  clear H0b
  have H0b := H0x
  clear H0x
  clear HX3
  clear NE3
  clear hs hf hl ho V3
  go_wp2_with fail
  clear hup4
  refine (mk136_any (.func (.func 139) #[] #[]) ⟨_, _, rfl⟩ _).mono ?_
  rintro e x5 ⟨b5, rfl, hbx, hbl, hbb⟩
  have HX5 := Lib.hid hbx
  have V5 := Lib.hid (W4.out.below hbb)
  have NE5 : Hid (b5 ≠ w.heap.size) := W4.out.ne hbl
  have H0x := Lib.hid ((hbb.block _ (lt_of_heap H0b.out)).trans H0b.out)
  clear H0b
  have H0b := H0x
  clear H0x
  clear hbx hbl hbb W4
  obtain ⟨l6, u6, hup6, hs, hf, hl, ho⟩ := V5.out.ins Tryz.underlying129 ⟨#[77, 73, 78]⟩ (.agg #[.int .i64 1, .int .i64 32, .func (.func 230) #[] #[.pointer (some ⟨b5, 0, none⟩)]]) (by kernel_rfl)
  have W6 := Lib.hid hs
  have H0y := Lib.hid ((ho ⟨#[83, 85, 77]⟩ (by decide)).trans H0g.out)
  clear H0g
  have H0g := H0y
  clear H0y
  have H0x := Lib.hid ((hf.block _ (lt_of_heap H0b.out) H0n.out).trans H0b.out)
  clear H0b
  have H0b := H0x
  clear H0x
  clear HX5
  clear NE5
  clear hs hf hl ho V5
  go_wp2_with fail
  clear hup6
  refine (mk136_any (.func (.func 141) #[] #[]) ⟨_, _, rfl⟩ _).mono ?_
  rintro e x7 ⟨b7, rfl, hbx, hbl, hbb⟩
  have HX7 := Lib.hid hbx
  have V7 := Lib.hid (W6.out.below hbb)
  have NE7 : Hid (b7 ≠ w.heap.size) := W6.out.ne hbl
  have H0x := Lib.hid ((hbb.block _ (lt_of_heap H0b.out)).trans H0b.out)
  clear H0b
  have H0b := H0x
  clear H0x
  clear hbx hbl hbb W6
  obtain ⟨l8, u8, hup8, hs, hf, hl, ho⟩ := V7.out.ins Tryz.underlying129 ⟨#[77, 65, 88]⟩ (.agg #[.int .i64 1, .int .i64 32, .func (.func 230) #[] #[.pointer (some ⟨b7, 0, none⟩)]]) (by kernel_rfl)
  have W8 := Lib.hid hs
  have H0y := Lib.hid ((ho ⟨#[83, 85, 77]⟩ (by decide)).trans H0g.out)
  clear H0g
  have H0g := H0y
  clear H0y
  have H0x := Lib.hid ((hf.block _ (lt_of_heap H0b.out) H0n.out).trans H0b.out)
  clear H0b
  have H0b := H0x
  clear H0x
  clear HX7
  clear NE7
  clear hs hf hl ho V7
  go_wp2_with fail
  clear hup8
  refine (mk142_any (.func (.func 143) #[] #[]) ⟨_, _, rfl⟩ _).mono ?_
  rintro e x9 ⟨b9, rfl, hbx, hbl, hbb⟩
  have HX9 := Lib.hid hbx
  have V9 := Lib.hid (W8.out.below hbb)
  have NE9 : Hid (b9 ≠ w.heap.size) := W8.out.ne hbl
  have H0x := Lib.hid ((hbb.block _ (lt_of_heap H0b.out)).trans H0b.out)
  clear H0b
  have H0b := H0x
  clear H0x
  clear hbx hbl hbb W8
  obtain ⟨l10, u10, hup10, hs, hf, hl, ho⟩ := V9.out.ins Tryz.underlying129 ⟨#[67, 79, 85, 78, 84]⟩ (.agg #[.int .i64 1, .int .i64 32, .func (.func 236) #[] #[.pointer (some ⟨b9, 0, none⟩)]]) (by kernel_rfl)
  have W10 := Lib.hid hs
  have H0y := Lib.hid ((ho ⟨#[83, 85, 77]⟩ (by decide)).trans H0g.out)
  clear H0g
  have H0g := H0y
  clear H0y
  have H0x := Lib.hid ((hf.block _ (lt_of_heap H0b.out) H0n.out).trans H0b.out)
  clear H0b
  have H0b := H0x
  clear H0x
  clear HX9
  clear NE9
  clear hs hf hl ho V9
  go_wp2_with fail
  clear hup10
  refine (mk142_any (.func (.func 144) #[] #[]) ⟨_, _, rfl⟩ _).mono ?_
  rintro e x11 ⟨b11, rfl, hbx, hbl, hbb⟩
  have HX11 := Lib.hid hbx
  have V11 := Lib.hid (W10.out.below hbb)
  have NE11 : Hid (b11 ≠ w.heap.size) := W10.out.ne hbl
  have H0x := Lib.hid ((hbb.block _ (lt_of_heap H0b.out)).trans H0b.out)
  clear H0b
  have H0b := H0x
  clear H0x
  clear hbx hbl hbb W10
  obtain ⟨l12, u12, hup12, hs, hf, hl, ho⟩ := V11.out.ins Tryz.underlying129 ⟨#[67, 79, 85, 78, 84, 65]⟩ (.agg #[.int .i64 1, .int .i64 32, .func (.func 236) #[] #[.pointer (some ⟨b11, 0, none⟩)]]) (by kernel_rfl)
  have W12 := Lib.hid hs
  have H0y := Lib.hid ((ho ⟨#[83, 85, 77]⟩ (by decide)).trans H0g.out)
  clear H0g
  have H0g := H0y
  clear H0y
  have H0x := Lib.hid ((hf.block _ (lt_of_heap H0b.out) H0n.out).trans H0b.out)
  clear H0b
  have H0b := H0x
  clear H0x
  clear HX11
  clear NE11
  clear hs hf hl ho V11
  go_wp2_with fail
  clear hup12
  refine (mk136_any (.func (.func 145) #[] #[]) ⟨_, _, rfl⟩ _).mono ?_
  rintro e x13 ⟨b13, rfl, hbx, hbl, hbb⟩
  have HX13 := Lib.hid hbx
  have V13 := Lib.hid (W12.out.below hbb)
  have NE13 : Hid (b13 ≠ w.heap.size) := W12.out.ne hbl
  have H0x := Lib.hid ((hbb.block _ (lt_of_heap H0b.out)).trans H0b.out)
  clear H0b
  have H0b := H0x
  clear H0x
  clear hbx hbl hbb W12
  obtain ⟨l14, u14, hup14, hs, hf, hl, ho⟩ := V13.out.ins Tryz.underlying129 ⟨#[65, 86, 69, 82, 65, 71, 69]⟩ (.agg #[.int .i64 1, .int .i64 32, .func (.func 230) #[] #[.pointer (some ⟨b13, 0, none⟩)]]) (by kernel_rfl)
  have W14 := Lib.hid hs
  have H0y := Lib.hid ((ho ⟨#[83, 85, 77]⟩ (by decide)).trans H0g.out)
  clear H0g
  have H0g := H0y
  clear H0y
  have H0x := Lib.hid ((hf.block _ (lt_of_heap H0b.out) H0n.out).trans H0b.out)
  clear H0b
  have H0b := H0x
  clear H0x
  clear HX13
  clear NE13
  clear hs hf hl ho V13
  go_wp2_with fail
  clear hup14
  refine (mk136_any (.func (.func 146) #[] #[]) ⟨_, _, rfl⟩ _).mono ?_
  rintro e x15 ⟨b15, rfl, hbx, hbl, hbb⟩
  have HX15 := Lib.hid hbx
  have V15 := Lib.hid (W14.out.below hbb)
  have NE15 : Hid (b15 ≠ w.heap.size) := W14.out.ne hbl
  have H0x := Lib.hid ((hbb.block _ (lt_of_heap H0b.out)).trans H0b.out)
  clear H0b
  have H0b := H0x
  clear H0x
  clear hbx hbl hbb W14
  obtain ⟨l16, u16, hup16, hs, hf, hl, ho⟩ := V15.out.ins Tryz.underlying129 ⟨#[77, 69, 68, 73, 65, 78]⟩ (.agg #[.int .i64 1, .int .i64 32, .func (.func 230) #[] #[.pointer (some ⟨b15, 0, none⟩)]]) (by kernel_rfl)
  have W16 := Lib.hid hs
  have H0y := Lib.hid ((ho ⟨#[83, 85, 77]⟩ (by decide)).trans H0g.out)
  clear H0g
  have H0g := H0y
  clear H0y
  have H0x := Lib.hid ((hf.block _ (lt_of_heap H0b.out) H0n.out).trans H0b.out)
  clear H0b
  have H0b := H0x
  clear H0x
  clear HX15
  clear NE15
  clear hs hf hl ho V15
  obtain ⟨l17, u17, hup17, hs, hf, hl, ho⟩ := W16.out.ins Tryz.underlying129 ⟨#[83, 85, 77, 80, 82, 79, 68, 85, 67, 84]⟩ (.agg #[.int .i64 1, .int .i64 32, .func (.func 147) #[] #[]]) (by kernel_rfl)
  have W17 := Lib.hid hs
  have H0y := Lib.hid ((ho ⟨#[83, 85, 77]⟩ (by decide)).trans H0g.out)
  clear H0g
  have H0g := H0y
  clear H0y
  have H0x := Lib.hid ((hf.block _ (lt_of_heap H0b.out) H0n.out).trans H0b.out)
  clear H0b
  have H0b := H0x
  clear H0x
  clear hs hf hl ho W16
  go_wp2_with fail
  clear hup16 hup17
  refine (mk148_any (.func (.func 149) #[] #[]) ⟨_, _, rfl⟩ _).mono ?_
  rintro e x18 ⟨b18, rfl, hbx, hbl, hbb⟩
  have HX18 := Lib.hid hbx
  have V18 := Lib.hid (W17.out.below hbb)
  have NE18 : Hid (b18 ≠ w.heap.size) := W17.out.ne hbl
  have H0x := Lib.hid ((hbb.block _ (lt_of_heap H0b.out)).trans H0b.out)
  clear H0b
  have H0b := H0x
  clear H0x
  clear hbx hbl hbb W17
  obtain ⟨l19, u19, hup19, hs, hf, hl, ho⟩ := V18.out.ins Tryz.underlying129 ⟨#[76, 65, 82, 71, 69]⟩ (.agg #[.int .i64 2, .int .i64 2, .func (.func 241) #[] #[.pointer (some ⟨b18, 0, none⟩)]]) (by kernel_rfl)
  have W19 := Lib.hid hs
  have H0y := Lib.hid ((ho ⟨#[83, 85, 77]⟩ (by decide)).trans H0g.out)
  clear H0g
  have H0g := H0y
  clear H0y
  have H0x := Lib.hid ((hf.block _ (lt_of_heap H0b.out) H0n.out).trans H0b.out)
  clear H0b
  have H0b := H0x
  clear H0x
  clear HX18
  clear NE18
  clear hs hf hl ho V18
  go_wp2_with fail
  clear hup19
  refine (mk148_any (.func (.func 150) #[] #[]) ⟨_, _, rfl⟩ _).mono ?_
  rintro e x20 ⟨b20, rfl, hbx, hbl, hbb⟩
  have HX20 := Lib.hid hbx
  have V20 := Lib.hid (W19.out.below hbb)
  have NE20 : Hid (b20 ≠ w.heap.size) := W19.out.ne hbl
  have H0x := Lib.hid ((hbb.block _ (lt_of_heap H0b.out)).trans H0b.out)
  clear H0b
  have H0b := H0x
  clear H0x
  clear hbx hbl hbb W19
  obtain ⟨l21, u21, hup21, hs, hf, hl, ho⟩ := V20.out.ins Tryz.underlying129 ⟨#[83, 77, 65, 76, 76]⟩ (.agg #[.int .i64 2, .int .i64 2, .func (.func 241) #[] #[.pointer (some ⟨b20, 0, none⟩)]]) (by kernel_rfl)
  have W21 := Lib.hid hs
  have H0y := Lib.hid ((ho ⟨#[83, 85, 77]⟩ (by decide)).trans H0g.out)
  clear H0g
  have H0g := H0y
  clear H0y
  have H0x := Lib.hid ((hf.block _ (lt_of_heap H0b.out) H0n.out).trans H0b.out)
  clear H0b
  have H0b := H0x
  clear H0x
  clear HX20
  clear NE20
  clear hs hf hl ho V20
  obtain ⟨l22, u22, hup22, hs, hf, hl, ho⟩ := W21.out.ins Tryz.underlying129 ⟨#[67, 79, 85, 78, 84, 73, 70]⟩ (.agg #[.int .i64 2, .int .i64 2, .func (.func 151) #[] #[]]) (by kernel_rfl)
  have W22 := Lib.hid hs
  have H0y := Lib.hid ((ho ⟨#[83, 85, 77]⟩ (by decide)).trans H0g.out)
  clear H0g
  have H0g := H0y
  clear H0y
  have H0x := Lib.hid ((hf.block _ (lt_of_heap H0b.out) H0n.out).trans H0b.out)
  clear H0b
  have H0b := H0x
  clear H0x
  have H1g := Lib.hid hl
  clear hs hf hl ho W21
  obtain ⟨l23, u23, hup23, hs, hf, hl, ho⟩ := W22.out.ins Tryz.underlying129 ⟨#[83, 85, 77, 73, 70]⟩ (.agg #[.int .i64 2, .int .i64 3, .func (.func 152) #[] #[]]) (by kernel_rfl)
  have W23 := Lib.hid hs
  have H0y := Lib.hid ((ho ⟨#[83, 85, 77]⟩ (by decide)).trans H0g.out)
  clear H0g
  have H0g := H0y
  clear H0y
  have H0x := Lib.hid ((hf.block _ (lt_of_heap H0b.out) H0n.out).trans H0b.out)
  clear H0b
  have H0b := H0x
  clear H0x
  have H1y := Lib.hid ((ho ⟨#[67, 79, 85, 78, 84, 73, 70]⟩ (by decide)).trans H1g.out)
  clear H1g
  have H1g := H1y
  clear H1y
  have H2g := Lib.hid hl
  clear hs hf hl ho W22
  go_wp2_with fail
  clear hup21 hup22 hup23
  refine (mk153_any (.func (.func 154) #[] #[]) ⟨_, _, rfl⟩ _).mono ?_
  rintro e x24 ⟨b24, rfl, hbx, hbl, hbb⟩
  have HX24 := Lib.hid hbx
  have V24 := Lib.hid (W23.out.below hbb)
  have NE24 : Hid (b24 ≠ w.heap.size) := W23.out.ne hbl
  have H0x := Lib.hid ((hbb.block _ (lt_of_heap H0b.out)).trans H0b.out)
  clear H0b
  have H0b := H0x
  clear H0x
  clear hbx hbl hbb W23
  obtain ⟨l25, u25, hup25, hs, hf, hl, ho⟩ := V24.out.ins Tryz.underlying129 ⟨#[65, 66, 83]⟩ (.agg #[.int .i64 1, .int .i64 1, .func (.func 244) #[] #[.pointer (some ⟨b24, 0, none⟩)]]) (by kernel_rfl)
  have W25 := Lib.hid hs
  have H0y := Lib.hid ((ho ⟨#[83, 85, 77]⟩ (by decide)).trans H0g.out)
  clear H0g
  have H0g := H0y
  clear H0y
  have H0x := Lib.hid ((hf.block _ (lt_of_heap H0b.out) H0n.out).trans H0b.out)
  clear H0b
  have H0b := H0x
  clear H0x
  have H1y := Lib.hid ((ho ⟨#[67, 79, 85, 78, 84, 73, 70]⟩ (by decide)).trans H1g.out)
  clear H1g
  have H1g := H1y
  clear H1y
  have H2y := Lib.hid ((ho ⟨#[83, 85, 77, 73, 70]⟩ (by decide)).trans H2g.out)
  clear H2g
  have H2g := H2y
  clear H2y
  clear HX24
  clear NE24
  clear hs hf hl ho V24
  go_wp2_with fail
  clear hup25
  refine (mk153_any (.func (.func 155) #[] #[]) ⟨_, _, rfl⟩ _).mono ?_
  rintro e x26 ⟨b26, rfl, hbx, hbl, hbb⟩
  have HX26 := Lib.hid hbx
  have V26 := Lib.hid (W25.out.below hbb)
  have NE26 : Hid (b26 ≠ w.heap.size) := W25.out.ne hbl
  have H0x := Lib.hid ((hbb.block _ (lt_of_heap H0b.out)).trans H0b.out)
  clear H0b
  have H0b := H0x
  clear H0x
  clear hbx hbl hbb W25
  obtain ⟨l27, u27, hup27, hs, hf, hl, ho⟩ := V26.out.ins Tryz.underlying129 ⟨#[83, 73, 71, 78]⟩ (.agg #[.int .i64 1, .int .i64 1, .func (.func 244) #[] #[.pointer (some ⟨b26, 0, none⟩)]]) (by kernel_rfl)
  have W27 := Lib.hid hs
  have H0y := Lib.hid ((ho ⟨#[83, 85, 77]⟩ (by decide)).trans H0g.out)
  clear H0g
  have H0g := H0y
  clear H0y
  have H0x := Lib.hid ((hf.block _ (lt_of_heap H0b.out) H0n.out).trans H0b.out)
  clear H0b
  have H0b := H0x
  clear H0x
  have H1y := Lib.hid ((ho ⟨#[67, 79, 85, 78, 84, 73, 70]⟩ (by decide)).trans H1g.out)
  clear H1g
  have H1g := H1y
  clear H1y
  have H2y := Lib.hid ((ho ⟨#[83, 85, 77, 73, 70]⟩ (by decide)).trans H2g.out)
  clear H2g
  have H2g := H2y
  clear H2y
  clear HX26
  clear NE26
  clear hs hf hl ho V26
  go_wp2_with fail
  clear hup27
  refine (mk153_any (.func (.func 67) #[] #[]) ⟨_, _, rfl⟩ _).mono ?_
  rintro e x28 ⟨b28, rfl, hbx, hbl, hbb⟩
  have HX28 := Lib.hid hbx
  have V28 := Lib.hid (W27.out.below hbb)
  have NE28 : Hid (b28 ≠ w.heap.size) := W27.out.ne hbl
  have H0x := Lib.hid ((hbb.block _ (lt_of_heap H0b.out)).trans H0b.out)
  clear H0b
  have H0b := H0x
  clear H0x
  clear hbx hbl hbb W27
  obtain ⟨l29, u29, hup29, hs, hf, hl, ho⟩ := V28.out.ins Tryz.underlying129 ⟨#[73, 78, 84]⟩ (.agg #[.int .i64 1, .int .i64 1, .func (.func 244) #[] #[.pointer (some ⟨b28, 0, none⟩)]]) (by kernel_rfl)
  have W29 := Lib.hid hs
  have H0y := Lib.hid ((ho ⟨#[83, 85, 77]⟩ (by decide)).trans H0g.out)
  clear H0g
  have H0g := H0y
  clear H0y
  have H0x := Lib.hid ((hf.block _ (lt_of_heap H0b.out) H0n.out).trans H0b.out)
  clear H0b
  have H0b := H0x
  clear H0x
  have H1y := Lib.hid ((ho ⟨#[67, 79, 85, 78, 84, 73, 70]⟩ (by decide)).trans H1g.out)
  clear H1g
  have H1g := H1y
  clear H1y
  have H2y := Lib.hid ((ho ⟨#[83, 85, 77, 73, 70]⟩ (by decide)).trans H2g.out)
  clear H2g
  have H2g := H2y
  clear H2y
  clear HX28
  clear NE28
  clear hs hf hl ho V28
  go_wp2_with fail
  clear hup29
  refine (mk156_any (.func (.func 157) #[] #[]) ⟨_, _, rfl⟩ _).mono ?_
  rintro e x30 ⟨b30, rfl, hbx, hbl, hbb⟩
  have HX30 := Lib.hid hbx
  have V30 := Lib.hid (W29.out.below hbb)
  have NE30 : Hid (b30 ≠ w.heap.size) := W29.out.ne hbl
  have H0x := Lib.hid ((hbb.block _ (lt_of_heap H0b.out)).trans H0b.out)
  clear H0b
  have H0b := H0x
  clear H0x
  clear hbx hbl hbb W29
  obtain ⟨l31, u31, hup31, hs, hf, hl, ho⟩ := V30.out.ins Tryz.underlying129 ⟨#[82, 79, 85, 78, 68]⟩ (.agg #[.int .i64 2, .int .i64 2, .func (.func 247) #[] #[.pointer (some ⟨b30, 0, none⟩)]]) (by kernel_rfl)
  have W31 := Lib.hid hs
  have H0y := Lib.hid ((ho ⟨#[83, 85, 77]⟩ (by decide)).trans H0g.out)
  clear H0g
  have H0g := H0y
  clear H0y
  have H0x := Lib.hid ((hf.block _ (lt_of_heap H0b.out) H0n.out).trans H0b.out)
  clear H0b
  have H0b := H0x
  clear H0x
  have H1y := Lib.hid ((ho ⟨#[67, 79, 85, 78, 84, 73, 70]⟩ (by decide)).trans H1g.out)
  clear H1g
  have H1g := H1y
  clear H1y
  have H2y := Lib.hid ((ho ⟨#[83, 85, 77, 73, 70]⟩ (by decide)).trans H2g.out)
  clear H2g
  have H2g := H2y
  clear H2y
  have H3g := Lib.hid hl
  have H3b := Lib.hid ((hf.block _ (lt_of_heap HX30.out) NE30.out).trans HX30.out)
  have H3n := NE30
  clear HX30
  clear hs hf hl ho V30
  go_wp2_with fail
  clear hup31
  refine (mk156_any (.func (.func 158) #[] #[]) ⟨_, _, rfl⟩ _).mono ?_
  rintro e x32 ⟨b32, rfl, hbx, hbl, hbb⟩
  have HX32 := Lib.hid hbx
  have V32 := Lib.hid (W31.out.below hbb)
  have NE32 : Hid (b32 ≠ w.heap.size) := W31.out.ne hbl
  have H0x := Lib.hid ((hbb.block _ (lt_of_heap H0b.out)).trans H0b.out)
  clear H0b
  have H0b := H0x
  clear H0x
  have H3x := Lib.hid ((hbb.block _ (lt_of_heap H3b.out)).trans H3b.out)
  clear H3b
  have H3b := H3x
  clear H3x
  clear hbx hbl hbb W31
  obtain ⟨l33, u33, hup33, hs, hf, hl, ho⟩ := V32.out.ins Tryz.underlying129 ⟨#[77, 79, 68]⟩ (.agg #[.int .i64 2, .int .i64 2, .func (.func 247) #[] #[.pointer (some ⟨b32, 0, none⟩)]]) (by kernel_rfl)
  have W33 := Lib.hid hs
  have H0y := Lib.hid ((ho ⟨#[83, 85, 77]⟩ (by decide)).trans H0g.out)
  clear H0g
  have H0g := H0y
  clear H0y
  have H0x := Lib.hid ((hf.block _ (lt_of_heap H0b.out) H0n.out).trans H0b.out)
  clear H0b
  have H0b := H0x
  clear H0x
  have H1y := Lib.hid ((ho ⟨#[67, 79, 85, 78, 84, 73, 70]⟩ (by decide)).trans H1g.out)
  clear H1g
  have H1g := H1y
  clear H1y
  have H2y := Lib.hid ((ho ⟨#[83, 85, 77, 73, 70]⟩ (by decide)).trans H2g.out)
  clear H2g
  have H2g := H2y
  clear H2y
  have H3y := Lib.hid ((ho ⟨#[82, 79, 85, 78, 68]⟩ (by decide)).trans H3g.out)
  clear H3g
  have H3g := H3y
  clear H3y
  have H3x := Lib.hid ((hf.block _ (lt_of_heap H3b.out) H3n.out).trans H3b.out)
  clear H3b
  have H3b := H3x
  clear H3x
  clear HX32
  clear NE32
  clear hs hf hl ho V32
  obtain ⟨l34, u34, hup34, hs, hf, hl, ho⟩ := W33.out.ins Tryz.underlying129 ⟨#[80, 79, 87, 69, 82]⟩ (.agg #[.int .i64 2, .int .i64 2, .func (.func 159) #[] #[]]) (by kernel_rfl)
  have W34 := Lib.hid hs
  have H0y := Lib.hid ((ho ⟨#[83, 85, 77]⟩ (by decide)).trans H0g.out)
  clear H0g
  have H0g := H0y
  clear H0y
  have H0x := Lib.hid ((hf.block _ (lt_of_heap H0b.out) H0n.out).trans H0b.out)
  clear H0b
  have H0b := H0x
  clear H0x
  have H1y := Lib.hid ((ho ⟨#[67, 79, 85, 78, 84, 73, 70]⟩ (by decide)).trans H1g.out)
  clear H1g
  have H1g := H1y
  clear H1y
  have H2y := Lib.hid ((ho ⟨#[83, 85, 77, 73, 70]⟩ (by decide)).trans H2g.out)
  clear H2g
  have H2g := H2y
  clear H2y
  have H3y := Lib.hid ((ho ⟨#[82, 79, 85, 78, 68]⟩ (by decide)).trans H3g.out)
  clear H3g
  have H3g := H3y
  clear H3y
  have H3x := Lib.hid ((hf.block _ (lt_of_heap H3b.out) H3n.out).trans H3b.out)
  clear H3b
  have H3b := H3x
  clear H3x
  clear hs hf hl ho W33
  go_wp2_with fail
  clear hup33 hup34
  go_ret
  refine ⟨w.heap.size, l34, rfl, W34.out.m, W34.out.k, W34.out.f, ⟨_, H0g.out, H0b.out⟩, H1g.out, H2g.out, ⟨_, H3g.out, H3b.out⟩⟩
end Go.Proofs.YtndhmahkglfopaaGreatDoor
/- The table that function 126 makes. (Printed by tools/gen_tab.py.) -/
namespace Go.Proofs.YtndhmahkglfopaaGreatDoor
open Go.RowKit
def keys126 : List ByteArray := [⟨#[67, 79, 76, 85, 77, 78, 83]⟩, ⟨#[68, 82, 79, 80]⟩, ⟨#[70, 73, 76, 84, 69, 82]⟩, ⟨#[72, 83, 84, 65, 67, 75]⟩, ⟨#[77, 77, 85, 76, 84]⟩, ⟨#[82, 79, 87, 83]⟩, ⟨#[83, 69, 81, 85, 69, 78, 67, 69]⟩, ⟨#[83, 79, 82, 84]⟩, ⟨#[84, 65, 75, 69]⟩, ⟨#[84, 79, 67, 79, 76]⟩, ⟨#[84, 79, 82, 79, 87]⟩, ⟨#[84, 82, 65, 78, 83, 80, 79, 83, 69]⟩, ⟨#[85, 78, 73, 81, 85, 69]⟩, ⟨#[86, 83, 84, 65, 67, 75]⟩]
def Tab126 (w : World) (e : Ending) (w' : World) : Prop := ∃ (B : Nat) (l : List (ByteArray × Value)), e = .returned (.map (some B)) ∧ MapIs w' B Value.string (id : Value → Value) l ∧ l.map Prod.fst = keys126 ∧ Below w.heap.size w w' ∧ getL l ⟨#[70, 73, 76, 84, 69, 82]⟩ = some (.agg #[.int .i64 2, .int .i64 3, .func (.func 202) #[] #[]]) ∧ getL l ⟨#[82, 79, 87, 83]⟩ = some (.agg #[.int .i64 1, .int .i64 1, .func (.func 206) #[] #[]]) ∧ getL l ⟨#[83, 79, 82, 84]⟩ = some (.agg #[.int .i64 1, .int .i64 3, .func (.func 208) #[] #[]]) ∧ getL l ⟨#[84, 82, 65, 78, 83, 80, 79, 83, 69]⟩ = some (.agg #[.int .i64 1, .int .i64 1, .func (.func 214) #[] #[]])
set_option maxHeartbeats 8000000 in
set_option maxRecDepth 100000 in
theorem tab126_any (w : World) : Calls Tryz.prog 126 #[] w (Tab126 w) := by
  have hmm := @run_makeMap Tryz.prog
  go_enter Tryz.func126, Tryz.ntmps126
  have S0 : Hid (TabSt w w.heap.size (w.alloc (.map #[] 0)) [] []) := TabSt.new w
  obtain ⟨l1, u1, hup1, hs, hf, hl, ho⟩ := S0.out.ins Tryz.underlying158 ⟨#[67, 79, 76, 85, 77, 78, 83]⟩ (.agg #[.int .i64 1, .int .i64 1, .func (.func 199) #[] #[]]) (by kernel_rfl)
  have W1 := Lib.hid hs
  clear hs hf hl ho S0
  obtain ⟨l2, u2, hup2, hs, hf, hl, ho⟩ := W1.out.ins Tryz.underlying158 ⟨#[68, 82, 79, 80]⟩ (.agg #[.int .i64 1, .int .i64 3, .func (.func 201) #[] #[]]) (by kernel_rfl)
  have W2 := Lib.hid hs
  clear hs hf hl ho W1
  obtain ⟨l3, u3, hup3, hs, hf, hl, ho⟩ := W2.out.ins Tryz.underlying158 ⟨#[70, 73, 76, 84, 69, 82]⟩ (.agg #[.int .i64 2, .int .i64 3, .func (.func 202) #[] #[]]) (by kernel_rfl)
  have W3 := Lib.hid hs
  have H0g := Lib.hid hl
  clear hs hf hl ho W2
  go_wp2_with fail
  clear hup1 hup2 hup3
  refine (mk203_any (.func (.func 204) #[] #[]) ⟨_, _, rfl⟩ _).mono ?_
  rintro e x4 ⟨b4, rfl, hbx, hbl, hbb⟩
  have HX4 := Lib.hid hbx
  have V4 := Lib.hid (W3.out.below hbb)
  have NE4 : Hid (b4 ≠ w.heap.size) := W3.out.ne hbl
  clear hbx hbl hbb W3
  obtain ⟨l5, u5, hup5, hs, hf, hl, ho⟩ := V4.out.ins Tryz.underlying158 ⟨#[72, 83, 84, 65, 67, 75]⟩ (.agg #[.int .i64 1, .int .i64 32, .func (.func 292) #[] #[.pointer (some ⟨b4, 0, none⟩)]]) (by kernel_rfl)
  have W5 := Lib.hid hs
  have H0y := Lib.hid ((ho ⟨#[70, 73, 76, 84, 69, 82]⟩ (by decide)).trans H0g.out)
  clear H0g
  have H0g := H0y
  clear H0y
  clear HX4
  clear NE4
  clear hs hf hl ho V4
  obtain ⟨l6, u6, hup6, hs, hf, hl, ho⟩ := W5.out.ins Tryz.underlying158 ⟨#[77, 77, 85, 76, 84]⟩ (.agg #[.int .i64 2, .int .i64 2, .func (.func 205) #[] #[]]) (by kernel_rfl)
  have W6 := Lib.hid hs
  have H0y := Lib.hid ((ho ⟨#[70, 73, 76, 84, 69, 82]⟩ (by decide)).trans H0g.out)
  clear H0g
  have H0g := H0y
  clear H0y
  clear hs hf hl ho W5
  obtain ⟨l7, u7, hup7, hs, hf, hl, ho⟩ := W6.out.ins Tryz.underlying158 ⟨#[82, 79, 87, 83]⟩ (.agg #[.int .i64 1, .int .i64 1, .func (.func 206) #[] #[]]) (by kernel_rfl)
  have W7 := Lib.hid hs
  have H0y := Lib.hid ((ho ⟨#[70, 73, 76, 84, 69, 82]⟩ (by decide)).trans H0g.out)
  clear H0g
  have H0g := H0y
  clear H0y
  have H1g := Lib.hid hl
  clear hs hf hl ho W6
  obtain ⟨l8, u8, hup8, hs, hf, hl, ho⟩ := W7.out.ins Tryz.underlying158 ⟨#[83, 69, 81, 85, 69, 78, 67, 69]⟩ (.agg #[.int .i64 1, .int .i64 4, .func (.func 207) #[] #[]]) (by kernel_rfl)
  have W8 := Lib.hid hs
  have H0y := Lib.hid ((ho ⟨#[70, 73, 76, 84, 69, 82]⟩ (by decide)).trans H0g.out)
  clear H0g
  have H0g := H0y
  clear H0y
  have H1y := Lib.hid ((ho ⟨#[82, 79, 87, 83]⟩ (by decide)).trans H1g.out)
  clear H1g
  have H1g := H1y
  clear H1y
  clear hs hf hl ho W7
  obtain ⟨l9, u9, hup9, hs, hf, hl, ho⟩ := W8.out.ins Tryz.underlying158 ⟨#[83, 79, 82, 84]⟩ (.agg #[.int .i64 1, .int .i64 3, .func (.func 208) #[] #[]]) (by kernel_rfl)
  have W9 := Lib.hid hs
  have H0y := Lib.hid ((ho ⟨#[70, 73, 76, 84, 69, 82]⟩ (by decide)).trans H0g.out)
  clear H0g
  have H0g := H0y
  clear H0y
  have H1y := Lib.hid ((ho ⟨#[82, 79, 87, 83]⟩ (by decide)).trans H1g.out)
  clear H1g
  have H1g := H1y
  clear H1y
  have H2g := Lib.hid hl
  clear hs hf hl ho W8
  obtain ⟨l10, u10, hup10, hs, hf, hl, ho⟩ := W9.out.ins Tryz.underlying158 ⟨#[84, 65, 75, 69]⟩ (.agg #[.int .i64 1, .int .i64 3, .func (.func 209) #[] #[]]) (by kernel_rfl)
  have W10 := Lib.hid hs
  have H0y := Lib.hid ((ho ⟨#[70, 73, 76, 84, 69, 82]⟩ (by decide)).trans H0g.out)
  clear H0g
  have H0g := H0y
  clear H0y
  have H1y := Lib.hid ((ho ⟨#[82, 79, 87, 83]⟩ (by decide)).trans H1g.out)
  clear H1g
  have H1g := H1y
  clear H1y
  have H2y := Lib.hid ((ho ⟨#[83, 79, 82, 84]⟩ (by decide)).trans H2g.out)
  clear H2g
  have H2g := H2y
  clear H2y
  clear hs hf hl ho W9
  obtain ⟨l11, u11, hup11, hs, hf, hl, ho⟩ := W10.out.ins Tryz.underlying158 ⟨#[84, 79, 67, 79, 76]⟩ (.agg #[.int .i64 1, .int .i64 1, .func (.func 210) #[] #[]]) (by kernel_rfl)
  have W11 := Lib.hid hs
  have H0y := Lib.hid ((ho ⟨#[70, 73, 76, 84, 69, 82]⟩ (by decide)).trans H0g.out)
  clear H0g
  have H0g := H0y
  clear H0y
  have H1y := Lib.hid ((ho ⟨#[82, 79, 87, 83]⟩ (by decide)).trans H1g.out)
  clear H1g
  have H1g := H1y
  clear H1y
  have H2y := Lib.hid ((ho ⟨#[83, 79, 82, 84]⟩ (by decide)).trans H2g.out)
  clear H2g
  have H2g := H2y
  clear H2y
  clear hs hf hl ho W10
  obtain ⟨l12, u12, hup12, hs, hf, hl, ho⟩ := W11.out.ins Tryz.underlying158 ⟨#[84, 79, 82, 79, 87]⟩ (.agg #[.int .i64 1, .int .i64 1, .func (.func 213) #[] #[]]) (by kernel_rfl)
  have W12 := Lib.hid hs
  have H0y := Lib.hid ((ho ⟨#[70, 73, 76, 84, 69, 82]⟩ (by decide)).trans H0g.out)
  clear H0g
  have H0g := H0y
  clear H0y
  have H1y := Lib.hid ((ho ⟨#[82, 79, 87, 83]⟩ (by decide)).trans H1g.out)
  clear H1g
  have H1g := H1y
  clear H1y
  have H2y := Lib.hid ((ho ⟨#[83, 79, 82, 84]⟩ (by decide)).trans H2g.out)
  clear H2g
  have H2g := H2y
  clear H2y
  clear hs hf hl ho W11
  obtain ⟨l13, u13, hup13, hs, hf, hl, ho⟩ := W12.out.ins Tryz.underlying158 ⟨#[84, 82, 65, 78, 83, 80, 79, 83, 69]⟩ (.agg #[.int .i64 1, .int .i64 1, .func (.func 214) #[] #[]]) (by kernel_rfl)
  have W13 := Lib.hid hs
  have H0y := Lib.hid ((ho ⟨#[70, 73, 76, 84, 69, 82]⟩ (by decide)).trans H0g.out)
  clear H0g
  have H0g := H0y
  clear H0y
  have H1y := Lib.hid ((ho ⟨#[82, 79, 87, 83]⟩ (by decide)).trans H1g.out)
  clear H1g
  have H1g := H1y
  clear H1y
  have H2y := Lib.hid ((ho ⟨#[83, 79, 82, 84]⟩ (by decide)).trans H2g.out)
  clear H2g
  have H2g := H2y
  clear H2y
  have H3g := Lib.hid hl
  clear hs hf hl ho W12
  obtain ⟨l14, u14, hup14, hs, hf, hl, ho⟩ := W13.out.ins Tryz.underlying158 ⟨#[85, 78, 73, 81, 85, 69]⟩ (.agg #[.int .i64 1, .int .i64 1, .func (.func 216) #[] #[]]) (by kernel_rfl)
  have W14 := Lib.hid hs
  have H0y := Lib.hid ((ho ⟨#[70, 73, 76, 84, 69, 82]⟩ (by decide)).trans H0g.out)
  clear H0g
  have H0g := H0y
  clear H0y
  have H1y := Lib.hid ((ho ⟨#[82, 79, 87, 83]⟩ (by decide)).trans H1g.out)
  clear H1g
  have H1g := H1y
  clear H1y
  have H2y := Lib.hid ((ho ⟨#[83, 79, 82, 84]⟩ (by decide)).trans H2g.out)
  clear H2g
  have H2g := H2y
  clear H2y
  have H3y := Lib.hid ((ho ⟨#[84, 82, 65, 78, 83, 80, 79, 83, 69]⟩ (by decide)).trans H3g.out)
  clear H3g
  have H3g := H3y
  clear H3y
  clear hs hf hl ho W13
  go_wp2_with fail
  clear hup5 hup6 hup7 hup8 hup9 hup10 hup11 hup12 hup13 hup14
  refine (mk203_any (.func (.func 217) #[] #[]) ⟨_, _, rfl⟩ _).mono ?_
  rintro e x15 ⟨b15, rfl, hbx, hbl, hbb⟩
  have HX15 := Lib.hid hbx
  have V15 := Lib.hid (W14.out.below hbb)
  have NE15 : Hid (b15 ≠ w.heap.size) := W14.out.ne hbl
  clear hbx hbl hbb W14
  obtain ⟨l16, u16, hup16, hs, hf, hl, ho⟩ := V15.out.ins Tryz.underlying158 ⟨#[86, 83, 84, 65, 67, 75]⟩ (.agg #[.int .i64 1, .int .i64 32, .func (.func 292) #[] #[.pointer (some ⟨b15, 0, none⟩)]]) (by kernel_rfl)
  have W16 := Lib.hid hs
  have H0y := Lib.hid ((ho ⟨#[70, 73, 76, 84, 69, 82]⟩ (by decide)).trans H0g.out)
  clear H0g
  have H0g := H0y
  clear H0y
  have H1y := Lib.hid ((ho ⟨#[82, 79, 87, 83]⟩ (by decide)).trans H1g.out)
  clear H1g
  have H1g := H1y
  clear H1y
  have H2y := Lib.hid ((ho ⟨#[83, 79, 82, 84]⟩ (by decide)).trans H2g.out)
  clear H2g
  have H2g := H2y
  clear H2y
  have H3y := Lib.hid ((ho ⟨#[84, 82, 65, 78, 83, 80, 79, 83, 69]⟩ (by decide)).trans H3g.out)
  clear H3g
  have H3g := H3y
  clear H3y
  clear HX15
  clear NE15
  clear hs hf hl ho V15
  go_wp2_with fail
  clear hup16
  go_ret
  refine ⟨w.heap.size, l16, rfl, W16.out.m, W16.out.k, W16.out.f, H0g.out, H1g.out, H2g.out, H3g.out⟩
end Go.Proofs.YtndhmahkglfopaaGreatDoor
