/- Tables of functions: what their making keeps; the makers of functions. -/
import Derived.Test.YtndhmahkglfopaaGreatDoorQBase
import Derived.Test.YtndhmahkglfopaaGreatDoorQT13Right
namespace Go.Proofs.YtndhmahkglfopaaGreatDoor
open Go.RowKit
structure TabSt (w : World) (B : Nat) (u : World) (l : List (ByteArray × Value)) (ks : List ByteArray) : Prop where
  m : MapIs u B Value.string (id : Value → Value) l
  k : l.map Prod.fst = ks
  f : Below w.heap.size w u
  b : B = w.heap.size
theorem TabSt.new (w : World) : TabSt w w.heap.size (w.alloc (.map #[] 0)) [] [] :=
  ⟨MapIs.new w _ _, rfl, below_alloc w _ _ (Nat.le_refl _), rfl⟩
theorem TabSt.below {w u u' : World} {B : Nat} {l : List (ByteArray × Value)} {ks : List ByteArray} (h : TabSt w B u l ks) (hb : Below u.heap.size u u') : TabSt w B u' l ks :=
  ⟨h.m.of_block (hb.block B h.m.lt), h.k, h.f.trans (hb.mono h.f.size), h.b⟩
theorem TabSt.ne {w u : World} {B b : Nat} {l : List (ByteArray × Value)} {ks : List ByteArray} (h : TabSt w B u l ks) (hb : u.heap.size ≤ b) : b ≠ B := by
  have := h.m.lt
  omega
def newKey (ks : List ByteArray) (key : ByteArray) : Bool := ks.all (fun k => !(k.data.toList == key.data.toList))
theorem newKey_not {ks : List ByteArray} {key : ByteArray} (h : newKey ks key = true) : key ∉ ks := fun hm => by
  have := List.all_eq_true.1 h key hm
  simp at this
theorem TabSt.ins {w u : World} {B : Nat} {l : List (ByteArray × Value)} {ks : List ByteArray} (h : TabSt w B u l ks) {t et : TypeId} (ht : Tryz.prog.underlying t = some (.map 9 et)) (key : ByteArray) (v : Value) (hk : newKey ks key = true) :
    ∃ l' u', (Instr.mapUpdate t (.map (some B)) (.string key) v).run Tryz.prog u = .ok () u' ∧ TabSt w B u' l' (ks ++ [key]) ∧ Fr (fun x => x = B) u u' ∧ getL l' key = some v ∧ ∀ k, k ≠ key → getL l' k = getL l k := by
  obtain ⟨u', hup, hm, hf, hz⟩ := h.m.upd (string_fits Tryz.underlying9) ht key v
  refine ⟨putL l key v, u', hup, ⟨hm, ?_, h.f.trans (hf.below h.f.size (fun k hk => by rw [hk, h.b]; exact Nat.le_refl _)), h.b⟩, hf, ?_, fun k hne => ?_⟩
  · rw [keys_putL, h.k, if_neg (newKey_not hk)]
  · rw [getL_putL, if_pos rfl]
  · rw [getL_putL, if_neg (fun e => hne e.symm)]
theorem TabSt.miss {l : List (ByteArray × Value)} {ks : List ByteArray} (hk : l.map Prod.fst = ks) {key : ByteArray} (h : newKey ks key = true) : getL l key = none :=
  getL_none.2 fun p hp e => newKey_not h (by rw [← hk, ← e]; exact List.mem_map_of_mem hp)
section
set_option maxHeartbeats 1000000
set_option maxRecDepth 100000
theorem mk25_any (x : Value) (hx : ∃ f c, x = .func f #[] c) (w : World) : Calls Tryz.prog 25 #[x] w fun e w' => ∃ b, e = .returned (.func (.func 52) #[] #[.pointer (some ⟨b, 0, none⟩)]) ∧ w'.heap[b]? = some (.cells #[x] 63) ∧ w.heap.size ≤ b ∧ Below w.heap.size w w' := by
  obtain ⟨f, c, rfl⟩ := hx
  go_enter Tryz.func25, Tryz.ntmps25
  go_wp2_with fail
  go_ret
  exact ⟨w.heap.size, rfl, heap_alloc_new w _, Nat.le_refl _, below_alloc w _ _ (Nat.le_refl _)⟩
theorem mk32_any (x : Value) (hx : ∃ f c, x = .func f #[] c) (w : World) : Calls Tryz.prog 32 #[x] w fun e w' => ∃ b, e = .returned (.func (.func 72) #[] #[.pointer (some ⟨b, 0, none⟩)]) ∧ w'.heap[b]? = some (.cells #[x] 65) ∧ w.heap.size ≤ b ∧ Below w.heap.size w w' := by
  obtain ⟨f, c, rfl⟩ := hx
  go_enter Tryz.func32, Tryz.ntmps32
  go_wp2_with fail
  go_ret
  exact ⟨w.heap.size, rfl, heap_alloc_new w _, Nat.le_refl _, below_alloc w _ _ (Nat.le_refl _)⟩
theorem mk136_any (x : Value) (hx : ∃ f c, x = .func f #[] c) (w : World) : Calls Tryz.prog 136 #[x] w fun e w' => ∃ b, e = .returned (.func (.func 230) #[] #[.pointer (some ⟨b, 0, none⟩)]) ∧ w'.heap[b]? = some (.cells #[x] 167) ∧ w.heap.size ≤ b ∧ Below w.heap.size w w' := by
  obtain ⟨f, c, rfl⟩ := hx
  go_enter Tryz.func136, Tryz.ntmps136
  go_wp2_with fail
  go_ret
  exact ⟨w.heap.size, rfl, heap_alloc_new w _, Nat.le_refl _, below_alloc w _ _ (Nat.le_refl _)⟩
theorem mk142_any (x : Value) (hx : ∃ f c, x = .func f #[] c) (w : World) : Calls Tryz.prog 142 #[x] w fun e w' => ∃ b, e = .returned (.func (.func 236) #[] #[.pointer (some ⟨b, 0, none⟩)]) ∧ w'.heap[b]? = some (.cells #[x] 60) ∧ w.heap.size ≤ b ∧ Below w.heap.size w w' := by
  obtain ⟨f, c, rfl⟩ := hx
  go_enter Tryz.func142, Tryz.ntmps142
  go_wp2_with fail
  go_ret
  exact ⟨w.heap.size, rfl, heap_alloc_new w _, Nat.le_refl _, below_alloc w _ _ (Nat.le_refl _)⟩
theorem mk148_any (x : Value) (hx : ∃ f c, x = .func f #[] c) (w : World) : Calls Tryz.prog 148 #[x] w fun e w' => ∃ b, e = .returned (.func (.func 241) #[] #[.pointer (some ⟨b, 0, none⟩)]) ∧ w'.heap[b]? = some (.cells #[x] 125) ∧ w.heap.size ≤ b ∧ Below w.heap.size w w' := by
  obtain ⟨f, c, rfl⟩ := hx
  go_enter Tryz.func148, Tryz.ntmps148
  go_wp2_with fail
  go_ret
  exact ⟨w.heap.size, rfl, heap_alloc_new w _, Nat.le_refl _, below_alloc w _ _ (Nat.le_refl _)⟩
theorem mk153_any (x : Value) (hx : ∃ f c, x = .func f #[] c) (w : World) : Calls Tryz.prog 153 #[x] w fun e w' => ∃ b, e = .returned (.func (.func 244) #[] #[.pointer (some ⟨b, 0, none⟩)]) ∧ w'.heap[b]? = some (.cells #[x] 93) ∧ w.heap.size ≤ b ∧ Below w.heap.size w w' := by
  obtain ⟨f, c, rfl⟩ := hx
  go_enter Tryz.func153, Tryz.ntmps153
  go_wp2_with fail
  go_ret
  exact ⟨w.heap.size, rfl, heap_alloc_new w _, Nat.le_refl _, below_alloc w _ _ (Nat.le_refl _)⟩
theorem mk156_any (x : Value) (hx : ∃ f c, x = .func f #[] c) (w : World) : Calls Tryz.prog 156 #[x] w fun e w' => ∃ b, e = .returned (.func (.func 247) #[] #[.pointer (some ⟨b, 0, none⟩)]) ∧ w'.heap[b]? = some (.cells #[x] 45) ∧ w.heap.size ≤ b ∧ Below w.heap.size w w' := by
  obtain ⟨f, c, rfl⟩ := hx
  go_enter Tryz.func156, Tryz.ntmps156
  go_wp2_with fail
  go_ret
  exact ⟨w.heap.size, rfl, heap_alloc_new w _, Nat.le_refl _, below_alloc w _ _ (Nat.le_refl _)⟩
theorem mk184_any (x : Value) (hx : ∃ f c, x = .func f #[] c) (w : World) : Calls Tryz.prog 184 #[x] w fun e w' => ∃ b, e = .returned (.func (.func 273) #[] #[.pointer (some ⟨b, 0, none⟩)]) ∧ w'.heap[b]? = some (.cells #[x] 110) ∧ w.heap.size ≤ b ∧ Below w.heap.size w w' := by
  obtain ⟨f, c, rfl⟩ := hx
  go_enter Tryz.func184, Tryz.ntmps184
  go_wp2_with fail
  go_ret
  exact ⟨w.heap.size, rfl, heap_alloc_new w _, Nat.le_refl _, below_alloc w _ _ (Nat.le_refl _)⟩
theorem mk188_any (x : Value) (hx : ∃ f c, x = .func f #[] c) (w : World) : Calls Tryz.prog 188 #[x] w fun e w' => ∃ b, e = .returned (.func (.func 274) #[] #[.pointer (some ⟨b, 0, none⟩)]) ∧ w'.heap[b]? = some (.cells #[x] 72) ∧ w.heap.size ≤ b ∧ Below w.heap.size w w' := by
  obtain ⟨f, c, rfl⟩ := hx
  go_enter Tryz.func188, Tryz.ntmps188
  go_wp2_with fail
  go_ret
  exact ⟨w.heap.size, rfl, heap_alloc_new w _, Nat.le_refl _, below_alloc w _ _ (Nat.le_refl _)⟩
theorem mk203_any (x : Value) (hx : ∃ f c, x = .func f #[] c) (w : World) : Calls Tryz.prog 203 #[x] w fun e w' => ∃ b, e = .returned (.func (.func 292) #[] #[.pointer (some ⟨b, 0, none⟩)]) ∧ w'.heap[b]? = some (.cells #[x] 184) ∧ w.heap.size ≤ b ∧ Below w.heap.size w w' := by
  obtain ⟨f, c, rfl⟩ := hx
  go_enter Tryz.func203, Tryz.ntmps203
  go_wp2_with fail
  go_ret
  exact ⟨w.heap.size, rfl, heap_alloc_new w _, Nat.le_refl _, below_alloc w _ _ (Nat.le_refl _)⟩
theorem mk190_any (x : Value) (hx : ∃ n, x = .int .i64 n) (w : World) : Calls Tryz.prog 190 #[x] w fun e w' => ∃ b, e = .returned (.func (.func 275) #[] #[.pointer (some ⟨b, 0, none⟩)]) ∧ w'.heap[b]? = some (.cells #[x] 3) ∧ w.heap.size ≤ b ∧ Below w.heap.size w w' := by
  obtain ⟨n, rfl⟩ := hx
  go_enter Tryz.func190, Tryz.ntmps190
  go_wp2_with fail
  go_ret
  exact ⟨w.heap.size, rfl, heap_alloc_new w _, Nat.le_refl _, below_alloc w _ _ (Nat.le_refl _)⟩
theorem mk164_any (f : Fn) (c : Array Value) (a : Option Addr) (n cap : Nat) (w : World) : Calls Tryz.prog 164 #[.func f #[] c, .slice a n cap] w fun e w' => ∃ c', e = .returned (.func (.func 260) #[] c') ∧ Below w.heap.size w w' := by
  go_enter Tryz.func164, Tryz.ntmps164
  go_wp2_with fail
  go_ret
  refine ⟨_, rfl, ?_⟩
  (repeat with_reducible (first | exact bw0 _ _ | exact hBW | refine bw1 ?_ ?_ _ | refine bw2 ?_ ?_ _ | refine bw3 ?_ _ | refine bw4 ?_)); all_goals (first | omega | (dsimp only; omega) | ((repeat with_reducible (first | refine lz1 ?_ | refine lz2 ?_ | refine lz3 ?_ | refine lz4 ?_)); omega))
end
end Go.Proofs.YtndhmahkglfopaaGreatDoor
/- The table that function 17 makes. (Printed by tools/gen_tab.py.) -/
namespace Go.Proofs.YtndhmahkglfopaaGreatDoor
open Go.RowKit
def keys17 : List ByteArray := [⟨#[43]⟩, ⟨#[45]⟩, ⟨#[42]⟩, ⟨#[47]⟩, ⟨#[94]⟩, ⟨#[38]⟩, ⟨#[61]⟩, ⟨#[60, 62]⟩, ⟨#[60]⟩, ⟨#[60, 61]⟩, ⟨#[62]⟩, ⟨#[62, 61]⟩]
def Tab17 (w : World) (e : Ending) (w' : World) : Prop := ∃ (B : Nat) (l : List (ByteArray × Value)), e = .returned (.map (some B)) ∧ MapIs w' B Value.string (id : Value → Value) l ∧ l.map Prod.fst = keys17 ∧ Below w.heap.size w w' ∧ (∃ b, getL l ⟨#[43]⟩ = some (.agg #[.func (.func 52) #[] #[.pointer (some ⟨b, 0, none⟩)]]) ∧ w'.heap[b]? = some (.cells #[.func (.func 26) #[] #[]] 63)) ∧ (∃ b, getL l ⟨#[45]⟩ = some (.agg #[.func (.func 52) #[] #[.pointer (some ⟨b, 0, none⟩)]]) ∧ w'.heap[b]? = some (.cells #[.func (.func 27) #[] #[]] 63)) ∧ (∃ b, getL l ⟨#[42]⟩ = some (.agg #[.func (.func 52) #[] #[.pointer (some ⟨b, 0, none⟩)]]) ∧ w'.heap[b]? = some (.cells #[.func (.func 28) #[] #[]] 63)) ∧ getL l ⟨#[47]⟩ = some (.agg #[.func (.func 29) #[] #[]]) ∧ getL l ⟨#[94]⟩ = some (.agg #[.func (.func 30) #[] #[]]) ∧ getL l ⟨#[38]⟩ = some (.agg #[.func (.func 31) #[] #[]]) ∧ (∃ b, getL l ⟨#[61]⟩ = some (.agg #[.func (.func 72) #[] #[.pointer (some ⟨b, 0, none⟩)]]) ∧ w'.heap[b]? = some (.cells #[.func (.func 33) #[] #[]] 65)) ∧ (∃ b, getL l ⟨#[60, 62]⟩ = some (.agg #[.func (.func 72) #[] #[.pointer (some ⟨b, 0, none⟩)]]) ∧ w'.heap[b]? = some (.cells #[.func (.func 34) #[] #[]] 65)) ∧ (∃ b, getL l ⟨#[60]⟩ = some (.agg #[.func (.func 72) #[] #[.pointer (some ⟨b, 0, none⟩)]]) ∧ w'.heap[b]? = some (.cells #[.func (.func 35) #[] #[]] 65)) ∧ (∃ b, getL l ⟨#[60, 61]⟩ = some (.agg #[.func (.func 72) #[] #[.pointer (some ⟨b, 0, none⟩)]]) ∧ w'.heap[b]? = some (.cells #[.func (.func 36) #[] #[]] 65)) ∧ (∃ b, getL l ⟨#[62]⟩ = some (.agg #[.func (.func 72) #[] #[.pointer (some ⟨b, 0, none⟩)]]) ∧ w'.heap[b]? = some (.cells #[.func (.func 37) #[] #[]] 65)) ∧ (∃ b, getL l ⟨#[62, 61]⟩ = some (.agg #[.func (.func 72) #[] #[.pointer (some ⟨b, 0, none⟩)]]) ∧ w'.heap[b]? = some (.cells #[.func (.func 38) #[] #[]] 65))
set_option maxHeartbeats 8000000 in
set_option maxRecDepth 100000 in
theorem tab17_any (w : World) : Calls Tryz.prog 17 #[] w (Tab17 w) := by
  have hmm := @run_makeMap Tryz.prog
  go_enter Tryz.func17, Tryz.ntmps17
  have S0 : Hid (TabSt w w.heap.size (w.alloc (.map #[] 0)) [] []) := TabSt.new w
  go_wp2_with fail
  refine (mk25_any (.func (.func 26) #[] #[]) ⟨_, _, rfl⟩ _).mono ?_
  rintro e x1 ⟨b1, rfl, hbx, hbl, hbb⟩
  have HX1 := Lib.hid hbx
  have V1 := Lib.hid (S0.out.below hbb)
  have NE1 : Hid (b1 ≠ w.heap.size) := S0.out.ne hbl
  clear hbx hbl hbb S0
  obtain ⟨l2, u2, hup2, hs, hf, hl, ho⟩ := V1.out.ins Tryz.underlying49 ⟨#[43]⟩ (.agg #[.func (.func 52) #[] #[.pointer (some ⟨b1, 0, none⟩)]]) (by kernel_rfl)
  have W2 := Lib.hid hs
  have H0g := Lib.hid hl
  have H0b := Lib.hid ((hf.block _ (lt_of_heap HX1.out) NE1.out).trans HX1.out)
  have H0n := NE1
  clear HX1
  clear hs hf hl ho V1
  go_wp2_with fail
  clear hup2
  refine (mk25_any (.func (.func 27) #[] #[]) ⟨_, _, rfl⟩ _).mono ?_
  rintro e x3 ⟨b3, rfl, hbx, hbl, hbb⟩
  have HX3 := Lib.hid hbx
  have V3 := Lib.hid (W2.out.below hbb)
  have NE3 : Hid (b3 ≠ w.heap.size) := W2.out.ne hbl
  have H0x := Lib.hid ((hbb.block _ (lt_of_heap H0b.out)).trans H0b.out)
  clear H0b
  have H0b := H0x
  clear H0x
  clear hbx hbl hbb W2
  obtain ⟨l4, u4, hup4, hs, hf, hl, ho⟩ := V3.out.ins Tryz.underlying49 ⟨#[45]⟩ (.agg #[.func (.func 52) #[] #[.pointer (some ⟨b3, 0, none⟩)]]) (by kernel_rfl)
  have W4 := Lib.hid hs
  have H0y := Lib.hid ((ho ⟨#[43]⟩ (by decide)).trans H0g.out)
  clear H0g
  have H0g := H0y
  clear H0y
  have H0x := Lib.hid ((hf.block _ (lt_of_heap H0b.out) H0n.out).trans H0b.out)
  clear H0b
  have H0b := H0x
  clear H0x
  have H1g := Lib.hid hl
  have H1b := Lib.hid ((hf.block _ (lt_of_heap HX3.out) NE3.out).trans HX3.out)
  have H1n := NE3
  clear HX3
  clear hs hf hl ho V3
  go_wp2_with fail
  clear hup4
  refine (mk25_any (.func (.func 28) #[] #[]) ⟨_, _, rfl⟩ _).mono ?_
  rintro e x5 ⟨b5, rfl, hbx, hbl, hbb⟩
  have HX5 := Lib.hid hbx
  have V5 := Lib.hid (W4.out.below hbb)
  have NE5 : Hid (b5 ≠ w.heap.size) := W4.out.ne hbl
  have H0x := Lib.hid ((hbb.block _ (lt_of_heap H0b.out)).trans H0b.out)
  clear H0b
  have H0b := H0x
  clear H0x
  have H1x := Lib.hid ((hbb.block _ (lt_of_heap H1b.out)).trans H1b.out)
  clear H1b
  have H1b := H1x
  clear H1x
  clear hbx hbl hbb W4
  obtain ⟨l6, u6, hup6, hs, hf, hl, ho⟩ := V5.out.ins Tryz.underlying49 ⟨#[42]⟩ (.agg #[.func (.func 52) #[] #[.pointer (some ⟨b5, 0, none⟩)]]) (by kernel_rfl)
  have W6 := Lib.hid hs
  have H0y := Lib.hid ((ho ⟨#[43]⟩ (by decide)).trans H0g.out)
  clear H0g
  have H0g := H0y
  clear H0y
  have H0x := Lib.hid ((hf.block _ (lt_of_heap H0b.out) H0n.out).trans H0b.out)
  clear H0b
  have H0b := H0x
  clear H0x
  have H1y := Lib.hid ((ho ⟨#[45]⟩ (by decide)).trans H1g.out)
  clear H1g
  have H1g := H1y
  clear H1y
  have H1x := Lib.hid ((hf.block _ (lt_of_heap H1b.out) H1n.out).trans H1b.out)
  clear H1b
  have H1b := H1x
  clear H1x
  have H2g := Lib.hid hl
  have H2b := Lib.hid ((hf.block _ (lt_of_heap HX5.out) NE5.out).trans HX5.out)
  have H2n := NE5
  clear HX5
  clear hs hf hl ho V5
  obtain ⟨l7, u7, hup7, hs, hf, hl, ho⟩ := W6.out.ins Tryz.underlying49 ⟨#[47]⟩ (.agg #[.func (.func 29) #[] #[]]) (by kernel_rfl)
  have W7 := Lib.hid hs
  have H0y := Lib.hid ((ho ⟨#[43]⟩ (by decide)).trans H0g.out)
  clear H0g
  have H0g := H0y
  clear H0y
  have H0x := Lib.hid ((hf.block _ (lt_of_heap H0b.out) H0n.out).trans H0b.out)
  clear H0b
  have H0b := H0x
  clear H0x
  have H1y := Lib.hid ((ho ⟨#[45]⟩ (by decide)).trans H1g.out)
  clear H1g
  have H1g := H1y
  clear H1y
  have H1x := Lib.hid ((hf.block _ (lt_of_heap H1b.out) H1n.out).trans H1b.out)
  clear H1b
  have H1b := H1x
  clear H1x
  have H2y := Lib.hid ((ho ⟨#[42]⟩ (by decide)).trans H2g.out)
  clear H2g
  have H2g := H2y
  clear H2y
  have H2x := Lib.hid ((hf.block _ (lt_of_heap H2b.out) H2n.out).trans H2b.out)
  clear H2b
  have H2b := H2x
  clear H2x
  have H3g := Lib.hid hl
  clear hs hf hl ho W6
  obtain ⟨l8, u8, hup8, hs, hf, hl, ho⟩ := W7.out.ins Tryz.underlying49 ⟨#[94]⟩ (.agg #[.func (.func 30) #[] #[]]) (by kernel_rfl)
  have W8 := Lib.hid hs
  have H0y := Lib.hid ((ho ⟨#[43]⟩ (by decide)).trans H0g.out)
  clear H0g
  have H0g := H0y
  clear H0y
  have H0x := Lib.hid ((hf.block _ (lt_of_heap H0b.out) H0n.out).trans H0b.out)
  clear H0b
  have H0b := H0x
  clear H0x
  have H1y := Lib.hid ((ho ⟨#[45]⟩ (by decide)).trans H1g.out)
  clear H1g
  have H1g := H1y
  clear H1y
  have H1x := Lib.hid ((hf.block _ (lt_of_heap H1b.out) H1n.out).trans H1b.out)
  clear H1b
  have H1b := H1x
  clear H1x
  have H2y := Lib.hid ((ho ⟨#[42]⟩ (by decide)).trans H2g.out)
  clear H2g
  have H2g := H2y
  clear H2y
  have H2x := Lib.hid ((hf.block _ (lt_of_heap H2b.out) H2n.out).trans H2b.out)
  clear H2b
  have H2b := H2x
  clear H2x
  have H3y := Lib.hid ((ho ⟨#[47]⟩ (by decide)).trans H3g.out)
  clear H3g
  have H3g := H3y
  clear H3y
  have H4g := Lib.hid hl
  clear hs hf hl ho W7
  obtain ⟨l9, u9, hup9, hs, hf, hl, ho⟩ := W8.out.ins Tryz.underlying49 ⟨#[38]⟩ (.agg #[.func (.func 31) #[] #[]]) (by kernel_rfl)
  have W9 := Lib.hid hs
  have H0y := Lib.hid ((ho ⟨#[43]⟩ (by decide)).trans H0g.out)
  clear H0g
  have H0g := H0y
  clear H0y
  have H0x := Lib.hid ((hf.block _ (lt_of_heap H0b.out) H0n.out).trans H0b.out)
  clear H0b
  have H0b := H0x
  clear H0x
  have H1y := Lib.hid ((ho ⟨#[45]⟩ (by decide)).trans H1g.out)
  clear H1g
  have H1g := H1y
  clear H1y
  have H1x := Lib.hid ((hf.block _ (lt_of_heap H1b.out) H1n.out).trans H1b.out)
  clear H1b
  have H1b := H1x
  clear H1x
  have H2y := Lib.hid ((ho ⟨#[42]⟩ (by decide)).trans H2g.out)
  clear H2g
  have H2g := H2y
  clear H2y
  have H2x := Lib.hid ((hf.block _ (lt_of_heap H2b.out) H2n.out).trans H2b.out)
  clear H2b
  have H2b := H2x
  clear H2x
  have H3y := Lib.hid ((ho ⟨#[47]⟩ (by decide)).trans H3g.out)
  clear H3g
  have H3g := H3y
  clear H3y
  have H4y := Lib.hid ((ho ⟨#[94]⟩ (by decide)).trans H4g.out)
  clear H4g
  have H4g := H4y
  clear H4y
  have H5g := Lib.hid hl
  clear hs hf hl ho W8
  go_wp2_with fail
  clear hup6 hup7 hup8 hup9
  refine (mk32_any (.func (.func 33) #[] #[]) ⟨_, _, rfl⟩ _).mono ?_
  rintro e x10 ⟨b10, rfl, hbx, hbl, hbb⟩
  have HX10 := Lib.hid hbx
  have V10 := Lib.hid (W9.out.below hbb)
  have NE10 : Hid (b10 ≠ w.heap.size) := W9.out.ne hbl
  have H0x := Lib.hid ((hbb.block _ (lt_of_heap H0b.out)).trans H0b.out)
  clear H0b
  have H0b := H0x
  clear H0x
  have H1x := Lib.hid ((hbb.block _ (lt_of_heap H1b.out)).trans H1b.out)
  clear H1b
  have H1b := H1x
  clear H1x
  have H2x := Lib.hid ((hbb.block _ (lt_of_heap H2b.out)).trans H2b.out)
  clear H2b
  have H2b := H2x
  clear H2x
  clear hbx hbl hbb W9
  obtain ⟨l11, u11, hup11, hs, hf, hl, ho⟩ := V10.out.ins Tryz.underlying49 ⟨#[61]⟩ (.agg #[.func (.func 72) #[] #[.pointer (some ⟨b10, 0, none⟩)]]) (by kernel_rfl)
  have W11 := Lib.hid hs
  have H0y := Lib.hid ((ho ⟨#[43]⟩ (by decide)).trans H0g.out)
  clear H0g
  have H0g := H0y
  clear H0y
  have H0x := Lib.hid ((hf.block _ (lt_of_heap H0b.out) H0n.out).trans H0b.out)
  clear H0b
  have H0b := H0x
  clear H0x
  have H1y := Lib.hid ((ho ⟨#[45]⟩ (by decide)).trans H1g.out)
  clear H1g
  have H1g := H1y
  clear H1y
  have H1x := Lib.hid ((hf.block _ (lt_of_heap H1b.out) H1n.out).trans H1b.out)
  clear H1b
  have H1b := H1x
  clear H1x
  have H2y := Lib.hid ((ho ⟨#[42]⟩ (by decide)).trans H2g.out)
  clear H2g
  have H2g := H2y
  clear H2y
  have H2x := Lib.hid ((hf.block _ (lt_of_heap H2b.out) H2n.out).trans H2b.out)
  clear H2b
  have H2b := H2x
  clear H2x
  have H3y := Lib.hid ((ho ⟨#[47]⟩ (by decide)).trans H3g.out)
  clear H3g
  have H3g := H3y
  clear H3y
  have H4y := Lib.hid ((ho ⟨#[94]⟩ (by decide)).trans H4g.out)
  clear H4g
  have H4g := H4y
  clear H4y
  have H5y := Lib.hid ((ho ⟨#[38]⟩ (by decide)).trans H5g.out)
  clear H5g
  have H5g := H5y
  clear H5y
  have H6g := Lib.hid hl
  have H6b := Lib.hid ((hf.block _ (lt_of_heap HX10.out) NE10.out).trans HX10.out)
  have H6n := NE10
  clear HX10
  clear hs hf hl ho V10
  go_wp2_with fail
  clear hup11
  refine (mk32_any (.func (.func 34) #[] #[]) ⟨_, _, rfl⟩ _).mono ?_
  rintro e x12 ⟨b12, rfl, hbx, hbl, hbb⟩
  have HX12 := Lib.hid hbx
  have V12 := Lib.hid (W11.out.below hbb)
  have NE12 : Hid (b12 ≠ w.heap.size) := W11.out.ne hbl
  have H0x := Lib.hid ((hbb.block _ (lt_of_heap H0b.out)).trans H0b.out)
  clear H0b
  have H0b := H0x
  clear H0x
  have H1x := Lib.hid ((hbb.block _ (lt_of_heap H1b.out)).trans H1b.out)
  clear H1b
  have H1b := H1x
  clear H1x
  have H2x := Lib.hid ((hbb.block _ (lt_of_heap H2b.out)).trans H2b.out)
  clear H2b
  have H2b := H2x
  clear H2x
  have H6x := Lib.hid ((hbb.block _ (lt_of_heap H6b.out)).trans H6b.out)
  clear H6b
  have H6b := H6x
  clear H6x
  clear hbx hbl hbb W11
  obtain ⟨l13, u13, hup13, hs, hf, hl, ho⟩ := V12.out.ins Tryz.underlying49 ⟨#[60, 62]⟩ (.agg #[.func (.func 72) #[] #[.pointer (some ⟨b12, 0, none⟩)]]) (by kernel_rfl)
  have W13 := Lib.hid hs
  have H0y := Lib.hid ((ho ⟨#[43]⟩ (by decide)).trans H0g.out)
  clear H0g
  have H0g := H0y
  clear H0y
  have H0x := Lib.hid ((hf.block _ (lt_of_heap H0b.out) H0n.out).trans H0b.out)
  clear H0b
  have H0b := H0x
  clear H0x
  have H1y := Lib.hid ((ho ⟨#[45]⟩ (by decide)).trans H1g.out)
  clear H1g
  have H1g := H1y
  clear H1y
  have H1x := Lib.hid ((hf.block _ (lt_of_heap H1b.out) H1n.out).trans H1b.out)
  clear H1b
  have H1b := H1x
  clear H1x
  have H2y := Lib.hid ((ho ⟨#[42]⟩ (by decide)).trans H2g.out)
  clear H2g
  have H2g := H2y
  clear H2y
  have H2x := Lib.hid ((hf.block _ (lt_of_heap H2b.out) H2n.out).trans H2b.out)
  clear H2b
  have H2b := H2x
  clear H2x
  have H3y := Lib.hid ((ho ⟨#[47]⟩ (by decide)).trans H3g.out)
  clear H3g
  have H3g := H3y
  clear H3y
  have H4y := Lib.hid ((ho ⟨#[94]⟩ (by decide)).trans H4g.out)
  clear H4g
  have H4g := H4y
  clear H4y
  have H5y := Lib.hid ((ho ⟨#[38]⟩ (by decide)).trans H5g.out)
  clear H5g
  have H5g := H5y
  clear H5y
  have H6y := Lib.hid ((ho ⟨#[61]⟩ (by decide)).trans H6g.out)
  clear H6g
  have H6g := H6y
  clear H6y
  have H6x := Lib.hid ((hf.block _ (lt_of_heap H6b.out) H6n.out).trans H6b.out)
  clear H6b
  have H6b := H6x
  clear H6x
  have H7g := Lib.hid hl
  have H7b := Lib.hid ((hf.block _ (lt_of_heap HX12.out) NE12.out).trans HX12.out)
  have H7n := NE12
  clear HX12
  clear hs hf hl ho V12
  go_wp2_with fail
  clear hup13
  refine (mk32_any (.func (.func 35) #[] #[]) ⟨_, _, rfl⟩ _).mono ?_
  rintro e x14 ⟨b14, rfl, hbx, hbl, hbb⟩
  have HX14 := Lib.hid hbx
  have V14 := Lib.hid (W13.out.below hbb)
  have NE14 : Hid (b14 ≠ w.heap.size) := W13.out.ne hbl
  have H0x := Lib.hid ((hbb.block _ (lt_of_heap H0b.out)).trans H0b.out)
  clear H0b
  have H0b := H0x
  clear H0x
  have H1x := Lib.hid ((hbb.block _ (lt_of_heap H1b.out)).trans H1b.out)
  clear H1b
  have H1b := H1x
  clear H1x
  have H2x := Lib.hid ((hbb.block _ (lt_of_heap H2b.out)).trans H2b.out)
  clear H2b
  have H2b := H2x
  clear H2x
  have H6x := Lib.hid ((hbb.block _ (lt_of_heap H6b.out)).trans H6b.out)
  clear H6b
  have H6b := H6x
  clear H6x
  have H7x := Lib.hid ((hbb.block _ (lt_of_heap H7b.out)).trans H7b.out)
  clear H7b
  have H7b := H7x
  clear H7x
  clear hbx hbl hbb W13
  obtain ⟨l15, u15, hup15, hs, hf, hl, ho⟩ := V14.out.ins Tryz.underlying49 ⟨#[60]⟩ (.agg #[.func (.func 72) #[] #[.pointer (some ⟨b14, 0, none⟩)]]) (by kernel_rfl)
  have W15 := Lib.hid hs
  have H0y := Lib.hid ((ho ⟨#[43]⟩ (by decide)).trans H0g.out)
  clear H0g
  have H0g := H0y
  clear H0y
  have H0x := Lib.hid ((hf.block _ (lt_of_heap H0b.out) H0n.out).trans H0b.out)
  clear H0b
  have H0b := H0x
  clear H0x
  have H1y := Lib.hid ((ho ⟨#[45]⟩ (by decide)).trans H1g.out)
  clear H1g
  have H1g := H1y
  clear H1y
  have H1x := Lib.hid ((hf.block _ (lt_of_heap H1b.out) H1n.out).trans H1b.out)
  clear H1b
  have H1b := H1x
  clear H1x
  have H2y := Lib.hid ((ho ⟨#[42]⟩ (by decide)).trans H2g.out)
  clear H2g
  have H2g := H2y
  clear H2y
  have H2x := Lib.hid ((hf.block _ (lt_of_heap H2b.out) H2n.out).trans H2b.out)
  clear H2b
  have H2b := H2x
  clear H2x
  have H3y := Lib.hid ((ho ⟨#[47]⟩ (by decide)).trans H3g.out)
  clear H3g
  have H3g := H3y
  clear H3y
  have H4y := Lib.hid ((ho ⟨#[94]⟩ (by decide)).trans H4g.out)
  clear H4g
  have H4g := H4y
  clear H4y
  have H5y := Lib.hid ((ho ⟨#[38]⟩ (by decide)).trans H5g.out)
  clear H5g
  have H5g := H5y
  clear H5y
  have H6y := Lib.hid ((ho ⟨#[61]⟩ (by decide)).trans H6g.out)
  clear H6g
  have H6g := H6y
  clear H6y
  have H6x := Lib.hid ((hf.block _ (lt_of_heap H6b.out) H6n.out).trans H6b.out)
  clear H6b
  have H6b := H6x
  clear H6x
  have H7y := Lib.hid ((ho ⟨#[60, 62]⟩ (by decide)).trans H7g.out)
  clear H7g
  have H7g := H7y
  clear H7y
  have H7x := Lib.hid ((hf.block _ (lt_of_heap H7b.out) H7n.out).trans H7b.out)
  clear H7b
  have H7b := H7x
  clear H7x
  have H8g := Lib.hid hl
  have H8b := Lib.hid ((hf.block _ (lt_of_heap HX14.out) NE14.out).trans HX14.out)
  have H8n := NE14
  clear HX14
  clear hs hf hl ho V14
  go_wp2_with fail
  clear hup15
  refine (mk32_any (.func (.func 36) #[] #[]) ⟨_, _, rfl⟩ _).mono ?_
  rintro e x16 ⟨b16, rfl, hbx, hbl, hbb⟩
  have HX16 := Lib.hid hbx
  have V16 := Lib.hid (W15.out.below hbb)
  have NE16 : Hid (b16 ≠ w.heap.size) := W15.out.ne hbl
  have H0x := Lib.hid ((hbb.block _ (lt_of_heap H0b.out)).trans H0b.out)
  clear H0b
  have H0b := H0x
  clear H0x
  have H1x := Lib.hid ((hbb.block _ (lt_of_heap H1b.out)).trans H1b.out)
  clear H1b
  have H1b := H1x
  clear H1x
  have H2x := Lib.hid ((hbb.block _ (lt_of_heap H2b.out)).trans H2b.out)
  clear H2b
  have H2b := H2x
  clear H2x
  have H6x := Lib.hid ((hbb.block _ (lt_of_heap H6b.out)).trans H6b.out)
  clear H6b
  have H6b := H6x
  clear H6x
  have H7x := Lib.hid ((hbb.block _ (lt_of_heap H7b.out)).trans H7b.out)
  clear H7b
  have H7b := H7x
  clear H7x
  have H8x := Lib.hid ((hbb.block _ (lt_of_heap H8b.out)).trans H8b.out)
  clear H8b
  have H8b := H8x
  clear H8x
  clear hbx hbl hbb W15
  obtain ⟨l17, u17, hup17, hs, hf, hl, ho⟩ := V16.out.ins Tryz.underlying49 ⟨#[60, 61]⟩ (.agg #[.func (.func 72) #[] #[.pointer (some ⟨b16, 0, none⟩)]]) (by kernel_rfl)
  have W17 := Lib.hid hs
  have H0y := Lib.hid ((ho ⟨#[43]⟩ (by decide)).trans H0g.out)
  clear H0g
  have H0g := H0y
  clear H0y
  have H0x := Lib.hid ((hf.block _ (lt_of_heap H0b.out) H0n.out).trans H0b.out)
  clear H0b
  have H0b := H0x
  clear H0x
  have H1y := Lib.hid ((ho ⟨#[45]⟩ (by decide)).trans H1g.out)
  clear H1g
  have H1g := H1y
  clear H1y
  have H1x := Lib.hid ((hf.block _ (lt_of_heap H1b.out) H1n.out).trans H1b.out)
  clear H1b
  have H1b := H1x
  clear H1x
  have H2y := Lib.hid ((ho ⟨#[42]⟩ (by decide)).trans H2g.out)
  clear H2g
  have H2g := H2y
  clear H2y
  have H2x := Lib.hid ((hf.block _ (lt_of_heap H2b.out) H2n.out).trans H2b.out)
  clear H2b
  have H2b := H2x
  clear H2x
  have H3y := Lib.hid ((ho ⟨#[47]⟩ (by decide)).trans H3g.out)
  clear H3g
  have H3g := H3y
  clear H3y
  have H4y := Lib.hid ((ho ⟨#[94]⟩ (by decide)).trans H4g.out)
  clear H4g
  have H4g := H4y
  clear H4y
  have H5y := Lib.hid ((ho ⟨#[38]⟩ (by decide)).trans H5g.out)
  clear H5g
  have H5g := H5y
  clear H5y
  have H6y := Lib.hid ((ho ⟨#[61]⟩ (by decide)).trans H6g.out)
  clear H6g
  have H6g := H6y
  clear H6y
  have H6x := Lib.hid ((hf.block _ (lt_of_heap H6b.out) H6n.out).trans H6b.out)
  clear H6b
  have H6b := H6x
  clear H6x
  have H7y := Lib.hid ((ho ⟨#[60, 62]⟩ (by decide)).trans H7g.out)
  clear H7g
  have H7g := H7y
  clear H7y
  have H7x := Lib.hid ((hf.block _ (lt_of_heap H7b.out) H7n.out).trans H7b.out)
  clear H7b
  have H7b := H7x
  clear H7x
  have H8y := Lib.hid ((ho ⟨#[60]⟩ (by decide)).trans H8g.out)
  clear H8g
  have H8g := H8y
  clear H8y
  have H8x := Lib.hid ((hf.block _ (lt_of_heap H8b.out) H8n.out).trans H8b.out)
  clear H8b
  have H8b := H8x
  clear H8x
  have H9g := Lib.hid hl
  have H9b := Lib.hid ((hf.block _ (lt_of_heap HX16.out) NE16.out).trans HX16.out)
  have H9n := NE16
  clear HX16
  clear hs hf hl ho V16
  go_wp2_with fail
  clear hup17
  refine (mk32_any (.func (.func 37) #[] #[]) ⟨_, _, rfl⟩ _).mono ?_
  rintro e x18 ⟨b18, rfl, hbx, hbl, hbb⟩
  have HX18 := Lib.hid hbx
  have V18 := Lib.hid (W17.out.below hbb)
  have NE18 : Hid (b18 ≠ w.heap.size) := W17.out.ne hbl
  have H0x := Lib.hid ((hbb.block _ (lt_of_heap H0b.out)).trans H0b.out)
  clear H0b
  have H0b := H0x
  clear H0x
  have H1x := Lib.hid ((hbb.block _ (lt_of_heap H1b.out)).trans H1b.out)
  clear H1b
  have H1b := H1x
  clear H1x
  have H2x := Lib.hid ((hbb.block _ (lt_of_heap H2b.out)).trans H2b.out)
  clear H2b
  have H2b := H2x
  clear H2x
  have H6x := Lib.hid ((hbb.block _ (lt_of_heap H6b.out)).trans H6b.out)
  clear H6b
  have H6b := H6x
  clear H6x
  have H7x := Lib.hid ((hbb.block _ (lt_of_heap H7b.out)).trans H7b.out)
  clear H7b
  have H7b := H7x
  clear H7x
  have H8x := Lib.hid ((hbb.block _ (lt_of_heap H8b.out)).trans H8b.out)
  clear H8b
  have H8b := H8x
  clear H8x
  have H9x := Lib.hid ((hbb.block _ (lt_of_heap H9b.out)).trans H9b.out)
  clear H9b
  have H9b := H9x
  clear H9x
  clear hbx hbl hbb W17
  obtain ⟨l19, u19, hup19, hs, hf, hl, ho⟩ := V18.out.ins Tryz.underlying49 ⟨#[62]⟩ (.agg #[.func (.func 72) #[] #[.pointer (some ⟨b18, 0, none⟩)]]) (by kernel_rfl)
  have W19 := Lib.hid hs
  have H0y := Lib.hid ((ho ⟨#[43]⟩ (by decide)).trans H0g.out)
  clear H0g
  have H0g := H0y
  clear H0y
  have H0x := Lib.hid ((hf.block _ (lt_of_heap H0b.out) H0n.out).trans H0b.out)
  clear H0b
  have H0b := H0x
  clear H0x
  have H1y := Lib.hid ((ho ⟨#[45]⟩ (by decide)).trans H1g.out)
  clear H1g
  have H1g := H1y
  clear H1y
  have H1x := Lib.hid ((hf.block _ (lt_of_heap H1b.out) H1n.out).trans H1b.out)
  clear H1b
  have H1b := H1x
  clear H1x
  have H2y := Lib.hid ((ho ⟨#[42]⟩ (by decide)).trans H2g.out)
  clear H2g
  have H2g := H2y
  clear H2y
  have H2x := Lib.hid ((hf.block _ (lt_of_heap H2b.out) H2n.out).trans H2b.out)
  clear H2b
  have H2b := H2x
  clear H2x
  have H3y := Lib.hid ((ho ⟨#[47]⟩ (by decide)).trans H3g.out)
  clear H3g
  have H3g := H3y
  clear H3y
  have H4y := Lib.hid ((ho ⟨#[94]⟩ (by decide)).trans H4g.out)
  clear H4g
  have H4g := H4y
  clear H4y
  have H5y := Lib.hid ((ho ⟨#[38]⟩ (by decide)).trans H5g.out)
  clear H5g
  have H5g := H5y
  clear H5y
  have H6y := Lib.hid ((ho ⟨#[61]⟩ (by decide)).trans H6g.out)
  clear H6g
  have H6g := H6y
  clear H6y
  have H6x := Lib.hid ((hf.block _ (lt_of_heap H6b.out) H6n.out).trans H6b.out)
  clear H6b
  have H6b := H6x
  clear H6x
  have H7y := Lib.hid ((ho ⟨#[60, 62]⟩ (by decide)).trans H7g.out)
  clear H7g
  have H7g := H7y
  clear H7y
  have H7x := Lib.hid ((hf.block _ (lt_of_heap H7b.out) H7n.out).trans H7b.out)
  clear H7b
  have H7b := H7x
  clear H7x
  have H8y := Lib.hid ((ho ⟨#[60]⟩ (by decide)).trans H8g.out)
  clear H8g
  have H8g := H8y
  clear H8y
  have H8x := Lib.hid ((hf.block _ (lt_of_heap H8b.out) H8n.out).trans H8b.out)
  clear H8b
  have H8b := H8x
  clear H8x
  have H9y := Lib.hid ((ho ⟨#[60, 61]⟩ (by decide)).trans H9g.out)
  clear H9g
  have H9g := H9y
  clear H9y
  have H9x := Lib.hid ((hf.block _ (lt_of_heap H9b.out) H9n.out).trans H9b.out)
  clear H9b
  have H9b := H9x
  clear H9x
  have H10g := Lib.hid hl
  have H10b := Lib.hid ((hf.block _ (lt_of_heap HX18.out) NE18.out).trans HX18.out)
  have H10n := NE18
  clear HX18
  clear hs hf hl ho V18
  go_wp2_with fail
  clear hup19
  refine (mk32_any (.func (.func 38) #[] #[]) ⟨_, _, rfl⟩ _).mono ?_
  rintro e x20 ⟨b20, rfl, hbx, hbl, hbb⟩
  have HX20 := Lib.hid hbx
  have V20 := Lib.hid (W19.out.below hbb)
  have NE20 : Hid (b20 ≠ w.heap.size) := W19.out.ne hbl
  have H0x := Lib.hid ((hbb.block _ (lt_of_heap H0b.out)).trans H0b.out)
  clear H0b
  have H0b := H0x
  clear H0x
  have H1x := Lib.hid ((hbb.block _ (lt_of_heap H1b.out)).trans H1b.out)
  clear H1b
  have H1b := H1x
  clear H1x
  have H2x := Lib.hid ((hbb.block _ (lt_of_heap H2b.out)).trans H2b.out)
  clear H2b
  have H2b := H2x
  clear H2x
  have H6x := Lib.hid ((hbb.block _ (lt_of_heap H6b.out)).trans H6b.out)
  clear H6b
  have H6b := H6x
  clear H6x
  have H7x := Lib.hid ((hbb.block _ (lt_of_heap H7b.out)).trans H7b.out)
  clear H7b
  have H7b := H7x
  clear H7x
  have H8x := Lib.hid ((hbb.block _ (lt_of_heap H8b.out)).trans H8b.out)
  clear H8b
  have H8b := H8x
  clear H8x
  have H9x := Lib.hid ((hbb.block _ (lt_of_heap H9b.out)).trans H9b.out)
  clear H9b
  have H9b := H9x
  clear H9x
  have H10x := Lib.hid ((hbb.block _ (lt_of_heap H10b.out)).trans H10b.out)
  clear H10b
  have H10b := H10x
  clear H10x
  clear hbx hbl hbb W19
  obtain ⟨l21, u21, hup21, hs, hf, hl, ho⟩ := V20.out.ins Tryz.underlying49 ⟨#[62, 61]⟩ (.agg #[.func (.func 72) #[] #[.pointer (some ⟨b20, 0, none⟩)]]) (by kernel_rfl)
  have W21 := Lib.hid hs
  have H0y := Lib.hid ((ho ⟨#[43]⟩ (by decide)).trans H0g.out)
  clear H0g
  have H0g := H0y
  clear H0y
  have H0x := Lib.hid ((hf.block _ (lt_of_heap H0b.out) H0n.out).trans H0b.out)
  clear H0b
  have H0b := H0x
  clear H0x
  have H1y := Lib.hid ((ho ⟨#[45]⟩ (by decide)).trans H1g.out)
  clear H1g
  have H1g := H1y
  clear H1y
  have H1x := Lib.hid ((hf.block _ (lt_of_heap H1b.out) H1n.out).trans H1b.out)
  clear H1b
  have H1b := H1x
  clear H1x
  have H2y := Lib.hid ((ho ⟨#[42]⟩ (by decide)).trans H2g.out)
  clear H2g
  have H2g := H2y
  clear H2y
  have H2x := Lib.hid ((hf.block _ (lt_of_heap H2b.out) H2n.out).trans H2b.out)
  clear H2b
  have H2b := H2x
  clear H2x
  have H3y := Lib.hid ((ho ⟨#[47]⟩ (by decide)).trans H3g.out)
  clear H3g
  have H3g := H3y
  clear H3y
  have H4y := Lib.hid ((ho ⟨#[94]⟩ (by decide)).trans H4g.out)
  clear H4g
  have H4g := H4y
  clear H4y
  have H5y := Lib.hid ((ho ⟨#[38]⟩ (by decide)).trans H5g.out)
  clear H5g
  have H5g := H5y
  clear H5y
  have H6y := Lib.hid ((ho ⟨#[61]⟩ (by decide)).trans H6g.out)
  clear H6g
  have H6g := H6y
  clear H6y
  have H6x := Lib.hid ((hf.block _ (lt_of_heap H6b.out) H6n.out).trans H6b.out)
  clear H6b
  have H6b := H6x
  clear H6x
  have H7y := Lib.hid ((ho ⟨#[60, 62]⟩ (by decide)).trans H7g.out)
  clear H7g
  have H7g := H7y
  clear H7y
  have H7x := Lib.hid ((hf.block _ (lt_of_heap H7b.out) H7n.out).trans H7b.out)
  clear H7b
  have H7b := H7x
  clear H7x
  have H8y := Lib.hid ((ho ⟨#[60]⟩ (by decide)).trans H8g.out)
  clear H8g
  have H8g := H8y
  clear H8y
  have H8x := Lib.hid ((hf.block _ (lt_of_heap H8b.out) H8n.out).trans H8b.out)
  clear H8b
  have H8b := H8x
  clear H8x
  have H9y := Lib.hid ((ho ⟨#[60, 61]⟩ (by decide)).trans H9g.out)
  clear H9g
  have H9g := H9y
  clear H9y
  have H9x := Lib.hid ((hf.block _ (lt_of_heap H9b.out) H9n.out).trans H9b.out)
  clear H9b
  have H9b := H9x
  clear H9x
  have H10y := Lib.hid ((ho ⟨#[62]⟩ (by decide)).trans H10g.out)
  clear H10g
  have H10g := H10y
  clear H10y
  have H10x := Lib.hid ((hf.block _ (lt_of_heap H10b.out) H10n.out).trans H10b.out)
  clear H10b
  have H10b := H10x
  clear H10x
  have H11g := Lib.hid hl
  have H11b := Lib.hid ((hf.block _ (lt_of_heap HX20.out) NE20.out).trans HX20.out)
  have H11n := NE20
  clear HX20
  clear hs hf hl ho V20
  go_wp2_with fail
  clear hup21
  go_ret
  refine ⟨w.heap.size, l21, rfl, W21.out.m, W21.out.k, W21.out.f, ⟨_, H0g.out, H0b.out⟩, ⟨_, H1g.out, H1b.out⟩, ⟨_, H2g.out, H2b.out⟩, H3g.out, H4g.out, H5g.out, ⟨_, H6g.out, H6b.out⟩, ⟨_, H7g.out, H7b.out⟩, ⟨_, H8g.out, H8b.out⟩, ⟨_, H9g.out, H9b.out⟩, ⟨_, H10g.out, H10b.out⟩, ⟨_, H11g.out, H11b.out⟩⟩
end Go.Proofs.YtndhmahkglfopaaGreatDoor
