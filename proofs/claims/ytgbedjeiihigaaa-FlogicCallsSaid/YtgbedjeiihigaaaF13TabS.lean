/- The table of the functions, with the stamps of its entries. (Printed out of F13Tab2 by tools/mktabs.py.) -/
import Derived.Test.YtgbedjeiihigaaaF13Tab2
import Derived.Test.YtgbedjeiihigaaaD34Map
namespace Go.Proofs.Ytgbedjeiihigaaa
open Go.RowKit
theorem MapS.lt {κ ν : Type} {w : World} {b : Nat} {enc : κ → Value} {ve : ν → Value} {l : List (κ × ν)} (h : MapS w b enc ve l) : b < w.heap.size := h.is.lt
theorem MapS.alloc {κ ν : Type} {w : World} {b : Nat} {enc : κ → Value} {ve : ν → Value} {l : List (κ × ν)} (h : MapS w b enc ve l) (o : Obj) : MapS (w.alloc o) b enc ve l := h.of_block (Below.heap_alloc w o b h.lt)
set_option maxHeartbeats 2000000 in
set_option maxRecDepth 100000 in
theorem tableS_any (w : World) : Calls Try.prog 20 #[] w fun e w' => ∃ B b1 b2 b3 b4 b5 b6 b7 b8 b9, e = .returned (.map (some B)) ∧ MapS w' B Value.string (id : Value → Value) (tbl b1 b2 b3 b4 b5 b6 b7 b8 b9) ∧ Below w.heap.size w w' := by
  have hmm := @run_makeMap Try.prog
  go_enter Try.func20, Try.ntmps20
  go_wp2_with fail
  obtain ⟨u0, hu0⟩ : ∃ u0, u0 = w.alloc (.map #[] 0) := ⟨_, rfl⟩
  obtain ⟨B, hB⟩ : ∃ B, B = w.heap.size := ⟨_, rfl⟩
  have M0 : Hid (MapS u0 B Value.string (id : Value → Value) []) := by rw [hu0, hB]; exact MapS.new w _ _
  have F0 : Hid (Below w.heap.size w u0) := by rw [hu0]; exact below_alloc w _ _ (Nat.le_refl _)
  have HBw := Lib.hid hB
  rw [← hu0, ← hB]
  clear hu0 hB hmm
  refine (truths_any 32 u0).mono ?_
  rintro e x ⟨rfl, rfl⟩
  obtain ⟨b0, hb0⟩ : ∃ b, b = u0.heap.size := ⟨_, rfl⟩
  obtain ⟨u1, hup, hm, hf, hz⟩ := (M0.out.alloc (.cells #[.func (.func 32) #[] #[]] 63)).upd (string_fits Try.underlying9) Try.underlying50 sAND (fnV 1 32 51 #[ptrV b0])
  have F1 : Hid (Below w.heap.size w u1) := (F0.out.alloc F0.out.size _).trans (hf.below (le_alloc F0.out.size) (fun k hk => by rw [hk, HBw.out]; exact Nat.le_refl _))
  have M1 : Hid (MapS u1 B Value.string (id : Value → Value) ([(sAND, fnV 1 32 51 #[ptrV b0])])) := hm
  unfold sAND fnV ptrV id at hup
  rw [← hb0]
  clear hm hf hz M0 F0 hb0
  go_wp2_with fail
  clear hup
  refine (truths_any 33 u1).mono ?_
  rintro e x ⟨rfl, rfl⟩
  obtain ⟨b1, hb1⟩ : ∃ b, b = u1.heap.size := ⟨_, rfl⟩
  obtain ⟨u2, hup, hm, hf, hz⟩ := (M1.out.alloc (.cells #[.func (.func 33) #[] #[]] 63)).upd (string_fits Try.underlying9) Try.underlying50 sOR (fnV 1 32 51 #[ptrV b1])
  have F2 : Hid (Below w.heap.size w u2) := (F1.out.alloc F1.out.size _).trans (hf.below (le_alloc F1.out.size) (fun k hk => by rw [hk, HBw.out]; exact Nat.le_refl _))
  have M2 : Hid (MapS u2 B Value.string (id : Value → Value) ([(sAND, fnV 1 32 51 #[ptrV b0]), (sOR, fnV 1 32 51 #[ptrV b1])])) := hm
  unfold sOR fnV ptrV id at hup
  rw [← hb1]
  clear hm hf hz M1 F1 hb1
  go_wp2_with fail
  clear hup
  refine (truths_any 34 u2).mono ?_
  rintro e x ⟨rfl, rfl⟩
  obtain ⟨b2, hb2⟩ : ∃ b, b = u2.heap.size := ⟨_, rfl⟩
  obtain ⟨u3, hup, hm, hf, hz⟩ := (M2.out.alloc (.cells #[.func (.func 34) #[] #[]] 63)).upd (string_fits Try.underlying9) Try.underlying50 sXOR (fnV 1 32 51 #[ptrV b2])
  have F3 : Hid (Below w.heap.size w u3) := (F2.out.alloc F2.out.size _).trans (hf.below (le_alloc F2.out.size) (fun k hk => by rw [hk, HBw.out]; exact Nat.le_refl _))
  have M3 : Hid (MapS u3 B Value.string (id : Value → Value) ([(sAND, fnV 1 32 51 #[ptrV b0]), (sOR, fnV 1 32 51 #[ptrV b1]), (sXOR, fnV 1 32 51 #[ptrV b2])])) := hm
  unfold sXOR fnV ptrV id at hup
  rw [← hb2]
  clear hm hf hz M2 F2 hb2
  go_wp2_with fail
  clear hup
  refine (each_any (.func 36) #[] u3).mono ?_
  rintro e x ⟨rfl, rfl⟩
  obtain ⟨b3, hb3⟩ : ∃ b, b = u3.heap.size := ⟨_, rfl⟩
  obtain ⟨u4, hup, hm, hf, hz⟩ := (M3.out.alloc (.cells #[.func (.func 36) #[] #[]] 65)).upd (string_fits Try.underlying9) Try.underlying50 sNOT (fnV 1 1 54 #[ptrV b3])
  have F4 : Hid (Below w.heap.size w u4) := (F3.out.alloc F3.out.size _).trans (hf.below (le_alloc F3.out.size) (fun k hk => by rw [hk, HBw.out]; exact Nat.le_refl _))
  have M4 : Hid (MapS u4 B Value.string (id : Value → Value) ([(sAND, fnV 1 32 51 #[ptrV b0]), (sOR, fnV 1 32 51 #[ptrV b1]), (sXOR, fnV 1 32 51 #[ptrV b2]), (sNOT, fnV 1 1 54 #[ptrV b3])])) := hm
  unfold sNOT fnV ptrV id at hup
  rw [← hb3]
  clear hm hf hz M3 F3 hb3
  go_wp2_with fail
  clear hup
  refine (kind_any 0 u4).mono ?_
  rintro e x ⟨rfl, rfl⟩
  go_wp2_with fail
  obtain ⟨v4, hv4⟩ : ∃ v, v = u4.alloc (.cells #[.int .i64 0] 3) := ⟨_, rfl⟩
  obtain ⟨q4, hq4⟩ : ∃ q, q = u4.heap.size := ⟨_, rfl⟩
  have MV4 : Hid (MapS v4 B Value.string (id : Value → Value) ([(sAND, fnV 1 32 51 #[ptrV b0]), (sOR, fnV 1 32 51 #[ptrV b1]), (sXOR, fnV 1 32 51 #[ptrV b2]), (sNOT, fnV 1 1 54 #[ptrV b3])])) := by rw [hv4]; exact M4.out.alloc _
  have FV4 : Hid (Below w.heap.size w v4) := by rw [hv4]; exact F4.out.alloc F4.out.size _
  rw [← hv4, ← hq4]
  clear hv4 hq4 M4 F4
  refine (each_any (.func 56) #[.pointer (some ⟨q4, 0, none⟩)] v4).mono ?_
  rintro e x ⟨rfl, rfl⟩
  obtain ⟨b4, hb4⟩ : ∃ b, b = v4.heap.size := ⟨_, rfl⟩
  obtain ⟨u5, hup, hm, hf, hz⟩ := (MV4.out.alloc (.cells #[.func (.func 56) #[] #[.pointer (some ⟨q4, 0, none⟩)]] 65)).upd (string_fits Try.underlying9) Try.underlying50 sBLANK (fnV 1 1 54 #[ptrV b4])
  have F5 : Hid (Below w.heap.size w u5) := (FV4.out.alloc FV4.out.size _).trans (hf.below (le_alloc FV4.out.size) (fun k hk => by rw [hk, HBw.out]; exact Nat.le_refl _))
  have M5 : Hid (MapS u5 B Value.string (id : Value → Value) ([(sAND, fnV 1 32 51 #[ptrV b0]), (sOR, fnV 1 32 51 #[ptrV b1]), (sXOR, fnV 1 32 51 #[ptrV b2]), (sNOT, fnV 1 1 54 #[ptrV b3]), (sBLANK, fnV 1 1 54 #[ptrV b4])])) := hm
  unfold sBLANK fnV ptrV id at hup
  rw [← hb4]
  clear hm hf hz MV4 FV4 hb4
  go_wp2_with fail
  clear hup
  refine (kind_any 1 u5).mono ?_
  rintro e x ⟨rfl, rfl⟩
  go_wp2_with fail
  obtain ⟨v5, hv5⟩ : ∃ v, v = u5.alloc (.cells #[.int .i64 1] 3) := ⟨_, rfl⟩
  obtain ⟨q5, hq5⟩ : ∃ q, q = u5.heap.size := ⟨_, rfl⟩
  have MV5 : Hid (MapS v5 B Value.string (id : Value → Value) ([(sAND, fnV 1 32 51 #[ptrV b0]), (sOR, fnV 1 32 51 #[ptrV b1]), (sXOR, fnV 1 32 51 #[ptrV b2]), (sNOT, fnV 1 1 54 #[ptrV b3]), (sBLANK, fnV 1 1 54 #[ptrV b4])])) := by rw [hv5]; exact M5.out.alloc _
  have FV5 : Hid (Below w.heap.size w v5) := by rw [hv5]; exact F5.out.alloc F5.out.size _
  rw [← hv5, ← hq5]
  clear hv5 hq5 M5 F5
  refine (each_any (.func 56) #[.pointer (some ⟨q5, 0, none⟩)] v5).mono ?_
  rintro e x ⟨rfl, rfl⟩
  obtain ⟨b5, hb5⟩ : ∃ b, b = v5.heap.size := ⟨_, rfl⟩
  obtain ⟨u6, hup, hm, hf, hz⟩ := (MV5.out.alloc (.cells #[.func (.func 56) #[] #[.pointer (some ⟨q5, 0, none⟩)]] 65)).upd (string_fits Try.underlying9) Try.underlying50 sNUMBER (fnV 1 1 54 #[ptrV b5])
  have F6 : Hid (Below w.heap.size w u6) := (FV5.out.alloc FV5.out.size _).trans (hf.below (le_alloc FV5.out.size) (fun k hk => by rw [hk, HBw.out]; exact Nat.le_refl _))
  have M6 : Hid (MapS u6 B Value.string (id : Value → Value) ([(sAND, fnV 1 32 51 #[ptrV b0]), (sOR, fnV 1 32 51 #[ptrV b1]), (sXOR, fnV 1 32 51 #[ptrV b2]), (sNOT, fnV 1 1 54 #[ptrV b3]), (sBLANK, fnV 1 1 54 #[ptrV b4]), (sNUMBER, fnV 1 1 54 #[ptrV b5])])) := hm
  unfold sNUMBER fnV ptrV id at hup
  rw [← hb5]
  clear hm hf hz MV5 FV5 hb5
  go_wp2_with fail
  clear hup
  refine (kind_any 2 u6).mono ?_
  rintro e x ⟨rfl, rfl⟩
  go_wp2_with fail
  obtain ⟨v6, hv6⟩ : ∃ v, v = u6.alloc (.cells #[.int .i64 2] 3) := ⟨_, rfl⟩
  obtain ⟨q6, hq6⟩ : ∃ q, q = u6.heap.size := ⟨_, rfl⟩
  have MV6 : Hid (MapS v6 B Value.string (id : Value → Value) ([(sAND, fnV 1 32 51 #[ptrV b0]), (sOR, fnV 1 32 51 #[ptrV b1]), (sXOR, fnV 1 32 51 #[ptrV b2]), (sNOT, fnV 1 1 54 #[ptrV b3]), (sBLANK, fnV 1 1 54 #[ptrV b4]), (sNUMBER, fnV 1 1 54 #[ptrV b5])])) := by rw [hv6]; exact M6.out.alloc _
  have FV6 : Hid (Below w.heap.size w v6) := by rw [hv6]; exact F6.out.alloc F6.out.size _
  rw [← hv6, ← hq6]
  clear hv6 hq6 M6 F6
  refine (each_any (.func 56) #[.pointer (some ⟨q6, 0, none⟩)] v6).mono ?_
  rintro e x ⟨rfl, rfl⟩
  obtain ⟨b6, hb6⟩ : ∃ b, b = v6.heap.size := ⟨_, rfl⟩
  obtain ⟨u7, hup, hm, hf, hz⟩ := (MV6.out.alloc (.cells #[.func (.func 56) #[] #[.pointer (some ⟨q6, 0, none⟩)]] 65)).upd (string_fits Try.underlying9) Try.underlying50 sTEXT (fnV 1 1 54 #[ptrV b6])
  have F7 : Hid (Below w.heap.size w u7) := (FV6.out.alloc FV6.out.size _).trans (hf.below (le_alloc FV6.out.size) (fun k hk => by rw [hk, HBw.out]; exact Nat.le_refl _))
  have M7 : Hid (MapS u7 B Value.string (id : Value → Value) ([(sAND, fnV 1 32 51 #[ptrV b0]), (sOR, fnV 1 32 51 #[ptrV b1]), (sXOR, fnV 1 32 51 #[ptrV b2]), (sNOT, fnV 1 1 54 #[ptrV b3]), (sBLANK, fnV 1 1 54 #[ptrV b4]), (sNUMBER, fnV 1 1 54 #[ptrV b5]), (sTEXT, fnV 1 1 54 #[ptrV b6])])) := hm
  unfold sTEXT fnV ptrV id at hup
  rw [← hb6]
  clear hm hf hz MV6 FV6 hb6
  go_wp2_with fail
  clear hup
  refine (kind_any 3 u7).mono ?_
  rintro e x ⟨rfl, rfl⟩
  go_wp2_with fail
  obtain ⟨v7, hv7⟩ : ∃ v, v = u7.alloc (.cells #[.int .i64 3] 3) := ⟨_, rfl⟩
  obtain ⟨q7, hq7⟩ : ∃ q, q = u7.heap.size := ⟨_, rfl⟩
  have MV7 : Hid (MapS v7 B Value.string (id : Value → Value) ([(sAND, fnV 1 32 51 #[ptrV b0]), (sOR, fnV 1 32 51 #[ptrV b1]), (sXOR, fnV 1 32 51 #[ptrV b2]), (sNOT, fnV 1 1 54 #[ptrV b3]), (sBLANK, fnV 1 1 54 #[ptrV b4]), (sNUMBER, fnV 1 1 54 #[ptrV b5]), (sTEXT, fnV 1 1 54 #[ptrV b6])])) := by rw [hv7]; exact M7.out.alloc _
  have FV7 : Hid (Below w.heap.size w v7) := by rw [hv7]; exact F7.out.alloc F7.out.size _
  rw [← hv7, ← hq7]
  clear hv7 hq7 M7 F7
  refine (each_any (.func 56) #[.pointer (some ⟨q7, 0, none⟩)] v7).mono ?_
  rintro e x ⟨rfl, rfl⟩
  obtain ⟨b7, hb7⟩ : ∃ b, b = v7.heap.size := ⟨_, rfl⟩
  obtain ⟨u8, hup, hm, hf, hz⟩ := (MV7.out.alloc (.cells #[.func (.func 56) #[] #[.pointer (some ⟨q7, 0, none⟩)]] 65)).upd (string_fits Try.underlying9) Try.underlying50 sLOGICAL (fnV 1 1 54 #[ptrV b7])
  have F8 : Hid (Below w.heap.size w u8) := (FV7.out.alloc FV7.out.size _).trans (hf.below (le_alloc FV7.out.size) (fun k hk => by rw [hk, HBw.out]; exact Nat.le_refl _))
  have M8 : Hid (MapS u8 B Value.string (id : Value → Value) ([(sAND, fnV 1 32 51 #[ptrV b0]), (sOR, fnV 1 32 51 #[ptrV b1]), (sXOR, fnV 1 32 51 #[ptrV b2]), (sNOT, fnV 1 1 54 #[ptrV b3]), (sBLANK, fnV 1 1 54 #[ptrV b4]), (sNUMBER, fnV 1 1 54 #[ptrV b5]), (sTEXT, fnV 1 1 54 #[ptrV b6]), (sLOGICAL, fnV 1 1 54 #[ptrV b7])])) := hm
  unfold sLOGICAL fnV ptrV id at hup
  rw [← hb7]
  clear hm hf hz MV7 FV7 hb7
  go_wp2_with fail
  clear hup
  refine (kind_any 4 u8).mono ?_
  rintro e x ⟨rfl, rfl⟩
  go_wp2_with fail
  obtain ⟨v8, hv8⟩ : ∃ v, v = u8.alloc (.cells #[.int .i64 4] 3) := ⟨_, rfl⟩
  obtain ⟨q8, hq8⟩ : ∃ q, q = u8.heap.size := ⟨_, rfl⟩
  have MV8 : Hid (MapS v8 B Value.string (id : Value → Value) ([(sAND, fnV 1 32 51 #[ptrV b0]), (sOR, fnV 1 32 51 #[ptrV b1]), (sXOR, fnV 1 32 51 #[ptrV b2]), (sNOT, fnV 1 1 54 #[ptrV b3]), (sBLANK, fnV 1 1 54 #[ptrV b4]), (sNUMBER, fnV 1 1 54 #[ptrV b5]), (sTEXT, fnV 1 1 54 #[ptrV b6]), (sLOGICAL, fnV 1 1 54 #[ptrV b7])])) := by rw [hv8]; exact M8.out.alloc _
  have FV8 : Hid (Below w.heap.size w v8) := by rw [hv8]; exact F8.out.alloc F8.out.size _
  rw [← hv8, ← hq8]
  clear hv8 hq8 M8 F8
  refine (each_any (.func 56) #[.pointer (some ⟨q8, 0, none⟩)] v8).mono ?_
  rintro e x ⟨rfl, rfl⟩
  obtain ⟨b8, hb8⟩ : ∃ b, b = v8.heap.size := ⟨_, rfl⟩
  obtain ⟨u9, hup, hm, hf, hz⟩ := (MV8.out.alloc (.cells #[.func (.func 56) #[] #[.pointer (some ⟨q8, 0, none⟩)]] 65)).upd (string_fits Try.underlying9) Try.underlying50 sERROR (fnV 1 1 54 #[ptrV b8])
  have F9 : Hid (Below w.heap.size w u9) := (FV8.out.alloc FV8.out.size _).trans (hf.below (le_alloc FV8.out.size) (fun k hk => by rw [hk, HBw.out]; exact Nat.le_refl _))
  have M9 : Hid (MapS u9 B Value.string (id : Value → Value) ([(sAND, fnV 1 32 51 #[ptrV b0]), (sOR, fnV 1 32 51 #[ptrV b1]), (sXOR, fnV 1 32 51 #[ptrV b2]), (sNOT, fnV 1 1 54 #[ptrV b3]), (sBLANK, fnV 1 1 54 #[ptrV b4]), (sNUMBER, fnV 1 1 54 #[ptrV b5]), (sTEXT, fnV 1 1 54 #[ptrV b6]), (sLOGICAL, fnV 1 1 54 #[ptrV b7]), (sERROR, fnV 1 1 54 #[ptrV b8])])) := hm
  unfold sERROR fnV ptrV id at hup
  rw [← hb8]
  clear hm hf hz MV8 FV8 hb8
  have hup8 := hup
  clear hup
  obtain ⟨u10, hup, hm, hf, hz⟩ := M9.out.upd (string_fits Try.underlying9) Try.underlying50 sNA (fnV 0 0 38 #[])
  have F10 : Hid (Below w.heap.size w u10) := F9.out.trans (hf.below F9.out.size (fun k hk => by rw [hk, HBw.out]; exact Nat.le_refl _))
  have M10 : Hid (MapS u10 B Value.string (id : Value → Value) ([(sAND, fnV 1 32 51 #[ptrV b0]), (sOR, fnV 1 32 51 #[ptrV b1]), (sXOR, fnV 1 32 51 #[ptrV b2]), (sNOT, fnV 1 1 54 #[ptrV b3]), (sBLANK, fnV 1 1 54 #[ptrV b4]), (sNUMBER, fnV 1 1 54 #[ptrV b5]), (sTEXT, fnV 1 1 54 #[ptrV b6]), (sLOGICAL, fnV 1 1 54 #[ptrV b7]), (sERROR, fnV 1 1 54 #[ptrV b8]), (sNA, fnV 0 0 38 #[])])) := hm
  unfold sNA fnV id at hup
  clear hm hf hz M9 F9
  go_wp2_with fail
  clear hup
  clear hup8
  go_ret
  exact ⟨B, b0, b1, b2, b3, b4, b5, b6, b7, b8, rfl, M10.out, F10.out⟩
end Go.Proofs.Ytgbedjeiihigaaa
