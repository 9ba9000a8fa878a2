/- The table, walked. -/
import Derived.Test.YtgbedjeiihigaaaF13Table
namespace Go.Proofs.Ytgbedjeiihigaaa
open Go.RowKit
def Boxes (B : Nat) (w : World) (l : List (Nat × Obj)) : Prop := ∀ p ∈ l, p.1 ≠ B ∧ w.heap[p.1]? = some p.2
theorem Boxes.add {B : Nat} {w : World} {l : List (Nat × Obj)} (h : Boxes B w l) (hB : B < w.heap.size) (o : Obj) : Boxes B (w.alloc o) (l ++ [(w.heap.size, o)]) := fun p hp => by
  rcases List.mem_append.1 hp with hp | hp
  · exact ⟨(h p hp).1, heap_alloc_old (h p hp).2 o⟩
  · rw [List.mem_singleton.1 hp]
    exact ⟨by simp only; omega, heap_alloc_new w o⟩
theorem Boxes.upd {B : Nat} {w w' : World} {l : List (Nat × Obj)} (h : Boxes B w l) (hf : Fr (fun x => x = B) w w') : Boxes B w' l := fun p hp => ⟨(h p hp).1, (hf.block p.1 (lt_of_heap (h p hp).2) (h p hp).1).trans (h p hp).2⟩
theorem MapIs.alloc {κ ν : Type} {w : World} {b : Nat} {enc : κ → Value} {ve : ν → Value} {l : List (κ × ν)} (h : MapIs w b enc ve l) (o : Obj) : MapIs (w.alloc o) b enc ve l := h.of_block (Below.heap_alloc w o b h.lt)
set_option maxHeartbeats 2000000 in
set_option maxRecDepth 100000 in
theorem table_any (w : World) : Calls Try.prog 20 #[] w (TablePost w) := by
  have hmm := @run_makeMap Try.prog
  go_enter Try.func20, Try.ntmps20
  go_wp2_with fail
  obtain ⟨u0, hu0⟩ : ∃ u0, u0 = w.alloc (.map #[] 0) := ⟨_, rfl⟩
  obtain ⟨B, hB⟩ : ∃ B, B = w.heap.size := ⟨_, rfl⟩
  have M0 : Hid (MapIs u0 B Value.string (id : Value → Value) []) := by rw [hu0, hB]; exact MapIs.new w _ _
  have X0 : Hid (Boxes B u0 []) := fun p hp => (by cases hp)
  have F0 : Hid (Below w.heap.size w u0) := by rw [hu0]; exact below_alloc w _ _ (Nat.le_refl _)
  have HBw := Lib.hid hB
  rw [← hu0, ← hB]
  clear hu0 hB hmm
  refine (truths_any 32 u0).mono ?_
  rintro e x ⟨rfl, rfl⟩
  obtain ⟨b0, hb0⟩ : ∃ b, b = u0.heap.size := ⟨_, rfl⟩
  obtain ⟨u1, hup, hm, hf, hz⟩ := (M0.out.alloc (.cells #[.func (.func 32) #[] #[]] 63)).upd (string_fits Try.underlying9) Try.underlying50 sAND (fnV 1 32 51 #[ptrV b0])
  have X1 : Hid (Boxes B u1 ([] ++ [(b0, .cells #[.func (.func 32) #[] #[]] 63)])) := by rw [hb0]; exact (X0.out.add M0.out.lt _).upd hf
  have F1 : Hid (Below w.heap.size w u1) := (F0.out.alloc F0.out.size _).trans (hf.below (le_alloc F0.out.size) (fun k hk => by rw [hk, HBw.out]; exact Nat.le_refl _))
  have M1 : Hid (MapIs u1 B Value.string (id : Value → Value) ([(sAND, fnV 1 32 51 #[ptrV b0])])) := hm
  unfold sAND fnV ptrV id at hup
  rw [← hb0]
  clear hm hf hz M0 X0 F0 hb0
  go_wp2_with fail
  clear hup
  refine (truths_any 33 u1).mono ?_
  rintro e x ⟨rfl, rfl⟩
  obtain ⟨b1, hb1⟩ : ∃ b, b = u1.heap.size := ⟨_, rfl⟩
  obtain ⟨u2, hup, hm, hf, hz⟩ := (M1.out.alloc (.cells #[.func (.func 33) #[] #[]] 63)).upd (string_fits Try.underlying9) Try.underlying50 sOR (fnV 1 32 51 #[ptrV b1])
  have X2 : Hid (Boxes B u2 ([(b0, .cells #[.func (.func 32) #[] #[]] 63)] ++ [(b1, .cells #[.func (.func 33) #[] #[]] 63)])) := by rw [hb1]; exact (X1.out.add M1.out.lt _).upd hf
  have F2 : Hid (Below w.heap.size w u2) := (F1.out.alloc F1.out.size _).trans (hf.below (le_alloc F1.out.size) (fun k hk => by rw [hk, HBw.out]; exact Nat.le_refl _))
  have M2 : Hid (MapIs u2 B Value.string (id : Value → Value) ([(sAND, fnV 1 32 51 #[ptrV b0]), (sOR, fnV 1 32 51 #[ptrV b1])])) := hm
  unfold sOR fnV ptrV id at hup
  rw [← hb1]
  clear hm hf hz M1 X1 F1 hb1
  go_wp2_with fail
  clear hup
  refine (truths_any 34 u2).mono ?_
  rintro e x ⟨rfl, rfl⟩
  obtain ⟨b2, hb2⟩ : ∃ b, b = u2.heap.size := ⟨_, rfl⟩
  obtain ⟨u3, hup, hm, hf, hz⟩ := (M2.out.alloc (.cells #[.func (.func 34) #[] #[]] 63)).upd (string_fits Try.underlying9) Try.underlying50 sXOR (fnV 1 32 51 #[ptrV b2])
  have X3 : Hid (Boxes B u3 ([(b0, .cells #[.func (.func 32) #[] #[]] 63), (b1, .cells #[.func (.func 33) #[] #[]] 63)] ++ [(b2, .cells #[.func (.func 34) #[] #[]] 63)])) := by rw [hb2]; exact (X2.out.add M2.out.lt _).upd hf
  have F3 : Hid (Below w.heap.size w u3) := (F2.out.alloc F2.out.size _).trans (hf.below (le_alloc F2.out.size) (fun k hk => by rw [hk, HBw.out]; exact Nat.le_refl _))
  have M3 : Hid (MapIs u3 B Value.string (id : Value → Value) ([(sAND, fnV 1 32 51 #[ptrV b0]), (sOR, fnV 1 32 51 #[ptrV b1]), (sXOR, fnV 1 32 51 #[ptrV b2])])) := hm
  unfold sXOR fnV ptrV id at hup
  rw [← hb2]
  clear hm hf hz M2 X2 F2 hb2
  go_wp2_with fail
  clear hup
  refine (each_any (.func 36) #[] u3).mono ?_
  rintro e x ⟨rfl, rfl⟩
  obtain ⟨b3, hb3⟩ : ∃ b, b = u3.heap.size := ⟨_, rfl⟩
  obtain ⟨u4, hup, hm, hf, hz⟩ := (M3.out.alloc (.cells #[.func (.func 36) #[] #[]] 65)).upd (string_fits Try.underlying9) Try.underlying50 sNOT (fnV 1 1 54 #[ptrV b3])
  have X4 : Hid (Boxes B u4 ([(b0, .cells #[.func (.func 32) #[] #[]] 63), (b1, .cells #[.func (.func 33) #[] #[]] 63), (b2, .cells #[.func (.func 34) #[] #[]] 63)] ++ [(b3, .cells #[.func (.func 36) #[] #[]] 65)])) := by rw [hb3]; exact (X3.out.add M3.out.lt _).upd hf
  have F4 : Hid (Below w.heap.size w u4) := (F3.out.alloc F3.out.size _).trans (hf.below (le_alloc F3.out.size) (fun k hk => by rw [hk, HBw.out]; exact Nat.le_refl _))
  have M4 : Hid (MapIs u4 B Value.string (id : Value → Value) ([(sAND, fnV 1 32 51 #[ptrV b0]), (sOR, fnV 1 32 51 #[ptrV b1]), (sXOR, fnV 1 32 51 #[ptrV b2]), (sNOT, fnV 1 1 54 #[ptrV b3])])) := hm
  unfold sNOT fnV ptrV id at hup
  rw [← hb3]
  clear hm hf hz M3 X3 F3 hb3
  go_wp2_with fail
  clear hup
  refine (kind_any 0 u4).mono ?_
  rintro e x ⟨rfl, rfl⟩
  go_wp2_with fail
  obtain ⟨v4, hv4⟩ : ∃ v, v = u4.alloc (.cells #[.int .i64 0] 3) := ⟨_, rfl⟩
  obtain ⟨q4, hq4⟩ : ∃ q, q = u4.heap.size := ⟨_, rfl⟩
  have MV4 : Hid (MapIs v4 B Value.string (id : Value → Value) ([(sAND, fnV 1 32 51 #[ptrV b0]), (sOR, fnV 1 32 51 #[ptrV b1]), (sXOR, fnV 1 32 51 #[ptrV b2]), (sNOT, fnV 1 1 54 #[ptrV b3])])) := by rw [hv4]; exact M4.out.alloc _
  have XV4 : Hid (Boxes B v4 ([(b0, .cells #[.func (.func 32) #[] #[]] 63), (b1, .cells #[.func (.func 33) #[] #[]] 63), (b2, .cells #[.func (.func 34) #[] #[]] 63), (b3, .cells #[.func (.func 36) #[] #[]] 65)] ++ [(q4, .cells #[.int .i64 0] 3)])) := by rw [hv4, hq4]; exact X4.out.add M4.out.lt _
  have FV4 : Hid (Below w.heap.size w v4) := by rw [hv4]; exact F4.out.alloc F4.out.size _
  rw [← hv4, ← hq4]
  clear hv4 hq4 M4 X4 F4
  refine (each_any (.func 56) #[.pointer (some ⟨q4, 0, none⟩)] v4).mono ?_
  rintro e x ⟨rfl, rfl⟩
  obtain ⟨b4, hb4⟩ : ∃ b, b = v4.heap.size := ⟨_, rfl⟩
  obtain ⟨u5, hup, hm, hf, hz⟩ := (MV4.out.alloc (.cells #[.func (.func 56) #[] #[.pointer (some ⟨q4, 0, none⟩)]] 65)).upd (string_fits Try.underlying9) Try.underlying50 sBLANK (fnV 1 1 54 #[ptrV b4])
  have X5 : Hid (Boxes B u5 ([(b0, .cells #[.func (.func 32) #[] #[]] 63), (b1, .cells #[.func (.func 33) #[] #[]] 63), (b2, .cells #[.func (.func 34) #[] #[]] 63), (b3, .cells #[.func (.func 36) #[] #[]] 65), (q4, .cells #[.int .i64 0] 3)] ++ [(b4, .cells #[.func (.func 56) #[] #[.pointer (some ⟨q4, 0, none⟩)]] 65)])) := by rw [hb4]; exact (XV4.out.add MV4.out.lt _).upd hf
  have F5 : Hid (Below w.heap.size w u5) := (FV4.out.alloc FV4.out.size _).trans (hf.below (le_alloc FV4.out.size) (fun k hk => by rw [hk, HBw.out]; exact Nat.le_refl _))
  have M5 : Hid (MapIs u5 B Value.string (id : Value → Value) ([(sAND, fnV 1 32 51 #[ptrV b0]), (sOR, fnV 1 32 51 #[ptrV b1]), (sXOR, fnV 1 32 51 #[ptrV b2]), (sNOT, fnV 1 1 54 #[ptrV b3]), (sBLANK, fnV 1 1 54 #[ptrV b4])])) := hm
  unfold sBLANK fnV ptrV id at hup
  rw [← hb4]
  clear hm hf hz MV4 XV4 FV4 hb4
  go_wp2_with fail
  clear hup
  refine (kind_any 1 u5).mono ?_
  rintro e x ⟨rfl, rfl⟩
  go_wp2_with fail
  obtain ⟨v5, hv5⟩ : ∃ v, v = u5.alloc (.cells #[.int .i64 1] 3) := ⟨_, rfl⟩
  obtain ⟨q5, hq5⟩ : ∃ q, q = u5.heap.size := ⟨_, rfl⟩
  have MV5 : Hid (MapIs v5 B Value.string (id : Value → Value) ([(sAND, fnV 1 32 51 #[ptrV b0]), (sOR, fnV 1 32 51 #[ptrV b1]), (sXOR, fnV 1 32 51 #[ptrV b2]), (sNOT, fnV 1 1 54 #[ptrV b3]), (sBLANK, fnV 1 1 54 #[ptrV b4])])) := by rw [hv5]; exact M5.out.alloc _
  have XV5 : Hid (Boxes B v5 ([(b0, .cells #[.func (.func 32) #[] #[]] 63), (b1, .cells #[.func (.func 33) #[] #[]] 63), (b2, .cells #[.func (.func 34) #[] #[]] 63), (b3, .cells #[.func (.func 36) #[] #[]] 65), (q4, .cells #[.int .i64 0] 3), (b4, .cells #[.func (.func 56) #[] #[.pointer (some ⟨q4, 0, none⟩)]] 65)] ++ [(q5, .cells #[.int .i64 1] 3)])) := by rw [hv5, hq5]; exact X5.out.add M5.out.lt _
  have FV5 : Hid (Below w.heap.size w v5) := by rw [hv5]; exact F5.out.alloc F5.out.size _
  rw [← hv5, ← hq5]
  clear hv5 hq5 M5 X5 F5
  refine (each_any (.func 56) #[.pointer (some ⟨q5, 0, none⟩)] v5).mono ?_
  rintro e x ⟨rfl, rfl⟩
  obtain ⟨b5, hb5⟩ : ∃ b, b = v5.heap.size := ⟨_, rfl⟩
  obtain ⟨u6, hup, hm, hf, hz⟩ := (MV5.out.alloc (.cells #[.func (.func 56) #[] #[.pointer (some ⟨q5, 0, none⟩)]] 65)).upd (string_fits Try.underlying9) Try.underlying50 sNUMBER (fnV 1 1 54 #[ptrV b5])
  have X6 : Hid (Boxes B u6 ([(b0, .cells #[.func (.func 32) #[] #[]] 63), (b1, .cells #[.func (.func 33) #[] #[]] 63), (b2, .cells #[.func (.func 34) #[] #[]] 63), (b3, .cells #[.func (.func 36) #[] #[]] 65), (q4, .cells #[.int .i64 0] 3), (b4, .cells #[.func (.func 56) #[] #[.pointer (some ⟨q4, 0, none⟩)]] 65), (q5, .cells #[.int .i64 1] 3)] ++ [(b5, .cells #[.func (.func 56) #[] #[.pointer (some ⟨q5, 0, none⟩)]] 65)])) := by rw [hb5]; exact (XV5.out.add MV5.out.lt _).upd hf
  have F6 : Hid (Below w.heap.size w u6) := (FV5.out.alloc FV5.out.size _).trans (hf.below (le_alloc FV5.out.size) (fun k hk => by rw [hk, HBw.out]; exact Nat.le_refl _))
  have M6 : Hid (MapIs u6 B Value.string (id : Value → Value) ([(sAND, fnV 1 32 51 #[ptrV b0]), (sOR, fnV 1 32 51 #[ptrV b1]), (sXOR, fnV 1 32 51 #[ptrV b2]), (sNOT, fnV 1 1 54 #[ptrV b3]), (sBLANK, fnV 1 1 54 #[ptrV b4]), (sNUMBER, fnV 1 1 54 #[ptrV b5])])) := hm
  unfold sNUMBER fnV ptrV id at hup
  rw [← hb5]
  clear hm hf hz MV5 XV5 FV5 hb5
  go_wp2_with fail
  clear hup
  refine (kind_any 2 u6).mono ?_
  rintro e x ⟨rfl, rfl⟩
  go_wp2_with fail
  obtain ⟨v6, hv6⟩ : ∃ v, v = u6.alloc (.cells #[.int .i64 2] 3) := ⟨_, rfl⟩
  obtain ⟨q6, hq6⟩ : ∃ q, q = u6.heap.size := ⟨_, rfl⟩
  have MV6 : Hid (MapIs v6 B Value.string (id : Value → Value) ([(sAND, fnV 1 32 51 #[ptrV b0]), (sOR, fnV 1 32 51 #[ptrV b1]), (sXOR, fnV 1 32 51 #[ptrV b2]), (sNOT, fnV 1 1 54 #[ptrV b3]), (sBLANK, fnV 1 1 54 #[ptrV b4]), (sNUMBER, fnV 1 1 54 #[ptrV b5])])) := by rw [hv6]; exact M6.out.alloc _
  have XV6 : Hid (Boxes B v6 ([(b0, .cells #[.func (.func 32) #[] #[]] 63), (b1, .cells #[.func (.func 33) #[] #[]] 63), (b2, .cells #[.func (.func 34) #[] #[]] 63), (b3, .cells #[.func (.func 36) #[] #[]] 65), (q4, .cells #[.int .i64 0] 3), (b4, .cells #[.func (.func 56) #[] #[.pointer (some ⟨q4, 0, none⟩)]] 65), (q5, .cells #[.int .i64 1] 3), (b5, .cells #[.func (.func 56) #[] #[.pointer (some ⟨q5, 0, none⟩)]] 65)] ++ [(q6, .cells #[.int .i64 2] 3)])) := by rw [hv6, hq6]; exact X6.out.add M6.out.lt _
  have FV6 : Hid (Below w.heap.size w v6) := by rw [hv6]; exact F6.out.alloc F6.out.size _
  rw [← hv6, ← hq6]
  clear hv6 hq6 M6 X6 F6
  refine (each_any (.func 56) #[.pointer (some ⟨q6, 0, none⟩)] v6).mono ?_
  rintro e x ⟨rfl, rfl⟩
  obtain ⟨b6, hb6⟩ : ∃ b, b = v6.heap.size := ⟨_, rfl⟩
  obtain ⟨u7, hup, hm, hf, hz⟩ := (MV6.out.alloc (.cells #[.func (.func 56) #[] #[.pointer (some ⟨q6, 0, none⟩)]] 65)).upd (string_fits Try.underlying9) Try.underlying50 sTEXT (fnV 1 1 54 #[ptrV b6])
  have X7 : Hid (Boxes B u7 ([(b0, .cells #[.func (.func 32) #[] #[]] 63), (b1, .cells #[.func (.func 33) #[] #[]] 63), (b2, .cells #[.func (.func 34) #[] #[]] 63), (b3, .cells #[.func (.func 36) #[] #[]] 65), (q4, .cells #[.int .i64 0] 3), (b4, .cells #[.func (.func 56) #[] #[.pointer (some ⟨q4, 0, none⟩)]] 65), (q5, .cells #[.int .i64 1] 3), (b5, .cells #[.func (.func 56) #[] #[.pointer (some ⟨q5, 0, none⟩)]] 65), (q6, .cells #[.int .i64 2] 3)] ++ [(b6, .cells #[.func (.func 56) #[] #[.pointer (some ⟨q6, 0, none⟩)]] 65)])) := by rw [hb6]; exact (XV6.out.add MV6.out.lt _).upd hf
  have F7 : Hid (Below w.heap.size w u7) := (FV6.out.alloc FV6.out.size _).trans (hf.below (le_alloc FV6.out.size) (fun k hk => by rw [hk, HBw.out]; exact Nat.le_refl _))
  have M7 : Hid (MapIs u7 B Value.string (id : Value → Value) ([(sAND, fnV 1 32 51 #[ptrV b0]), (sOR, fnV 1 32 51 #[ptrV b1]), (sXOR, fnV 1 32 51 #[ptrV b2]), (sNOT, fnV 1 1 54 #[ptrV b3]), (sBLANK, fnV 1 1 54 #[ptrV b4]), (sNUMBER, fnV 1 1 54 #[ptrV b5]), (sTEXT, fnV 1 1 54 #[ptrV b6])])) := hm
  unfold sTEXT fnV ptrV id at hup
  rw [← hb6]
  clear hm hf hz MV6 XV6 FV6 hb6
  go_wp2_with fail
  clear hup
  refine (kind_any 3 u7).mono ?_
  rintro e x ⟨rfl, rfl⟩
  go_wp2_with fail
  obtain ⟨v7, hv7⟩ : ∃ v, v = u7.alloc (.cells #[.int .i64 3] 3) := ⟨_, rfl⟩
  obtain ⟨q7, hq7⟩ : ∃ q, q = u7.heap.size := ⟨_, rfl⟩
  have MV7 : Hid (MapIs v7 B Value.string (id : Value → Value) ([(sAND, fnV 1 32 51 #[ptrV b0]), (sOR, fnV 1 32 51 #[ptrV b1]), (sXOR, fnV 1 32 51 #[ptrV b2]), (sNOT, fnV 1 1 54 #[ptrV b3]), (sBLANK, fnV 1 1 54 #[ptrV b4]), (sNUMBER, fnV 1 1 54 #[ptrV b5]), (sTEXT, fnV 1 1 54 #[ptrV b6])])) := by rw [hv7]; exact M7.out.alloc _
  have XV7 : Hid (Boxes B v7 ([(b0, .cells #[.func (.func 32) #[] #[]] 63), (b1, .cells #[.func (.func 33) #[] #[]] 63), (b2, .cells #[.func (.func 34) #[] #[]] 63), (b3, .cells #[.func (.func 36) #[] #[]] 65), (q4, .cells #[.int .i64 0] 3), (b4, .cells #[.func (.func 56) #[] #[.pointer (some ⟨q4, 0, none⟩)]] 65), (q5, .cells #[.int .i64 1] 3), (b5, .cells #[.func (.func 56) #[] #[.pointer (some ⟨q5, 0, none⟩)]] 65), (q6, .cells #[.int .i64 2] 3), (b6, .cells #[.func (.func 56) #[] #[.pointer (some ⟨q6, 0, none⟩)]] 65)] ++ [(q7, .cells #[.int .i64 3] 3)])) := by rw [hv7, hq7]; exact X7.out.add M7.out.lt _
  have FV7 : Hid (Below w.heap.size w v7) := by rw [hv7]; exact F7.out.alloc F7.out.size _
  rw [← hv7, ← hq7]
  clear hv7 hq7 M7 X7 F7
  refine (each_any (.func 56) #[.pointer (some ⟨q7, 0, none⟩)] v7).mono ?_
  rintro e x ⟨rfl, rfl⟩
  obtain ⟨b7, hb7⟩ : ∃ b, b = v7.heap.size := ⟨_, rfl⟩
  obtain ⟨u8, hup, hm, hf, hz⟩ := (MV7.out.alloc (.cells #[.func (.func 56) #[] #[.pointer (some ⟨q7, 0, none⟩)]] 65)).upd (string_fits Try.underlying9) Try.underlying50 sLOGICAL (fnV 1 1 54 #[ptrV b7])
  have X8 : Hid (Boxes B u8 ([(b0, .cells #[.func (.func 32) #[] #[]] 63), (b1, .cells #[.func (.func 33) #[] #[]] 63), (b2, .cells #[.func (.func 34) #[] #[]] 63), (b3, .cells #[.func (.func 36) #[] #[]] 65), (q4, .cells #[.int .i64 0] 3), (b4, .cells #[.func (.func 56) #[] #[.pointer (some ⟨q4, 0, none⟩)]] 65), (q5, .cells #[.int .i64 1] 3), (b5, .cells #[.func (.func 56) #[] #[.pointer (some ⟨q5, 0, none⟩)]] 65), (q6, .cells #[.int .i64 2] 3), (b6, .cells #[.func (.func 56) #[] #[.pointer (some ⟨q6, 0, none⟩)]] 65), (q7, .cells #[.int .i64 3] 3)] ++ [(b7, .cells #[.func (.func 56) #[] #[.pointer (some ⟨q7, 0, none⟩)]] 65)])) := by rw [hb7]; exact (XV7.out.add MV7.out.lt _).upd hf
  have F8 : Hid (Below w.heap.size w u8) := (FV7.out.alloc FV7.out.size _).trans (hf.below (le_alloc FV7.out.size) (fun k hk => by rw [hk, HBw.out]; exact Nat.le_refl _))
  have M8 : Hid (MapIs u8 B Value.string (id : Value → Value) ([(sAND, fnV 1 32 51 #[ptrV b0]), (sOR, fnV 1 32 51 #[ptrV b1]), (sXOR, fnV 1 32 51 #[ptrV b2]), (sNOT, fnV 1 1 54 #[ptrV b3]), (sBLANK, fnV 1 1 54 #[ptrV b4]), (sNUMBER, fnV 1 1 54 #[ptrV b5]), (sTEXT, fnV 1 1 54 #[ptrV b6]), (sLOGICAL, fnV 1 1 54 #[ptrV b7])])) := hm
  unfold sLOGICAL fnV ptrV id at hup
  rw [← hb7]
  clear hm hf hz MV7 XV7 FV7 hb7
  go_wp2_with fail
  clear hup
  refine (kind_any 4 u8).mono ?_
  rintro e x ⟨rfl, rfl⟩
  go_wp2_with fail
  obtain ⟨v8, hv8⟩ : ∃ v, v = u8.alloc (.cells #[.int .i64 4] 3) := ⟨_, rfl⟩
  obtain ⟨q8, hq8⟩ : ∃ q, q = u8.heap.size := ⟨_, rfl⟩
  have MV8 : Hid (MapIs v8 B Value.string (id : Value → Value) ([(sAND, fnV 1 32 51 #[ptrV b0]), (sOR, fnV 1 32 51 #[ptrV b1]), (sXOR, fnV 1 32 51 #[ptrV b2]), (sNOT, fnV 1 1 54 #[ptrV b3]), (sBLANK, fnV 1 1 54 #[ptrV b4]), (sNUMBER, fnV 1 1 54 #[ptrV b5]), (sTEXT, fnV 1 1 54 #[ptrV b6]), (sLOGICAL, fnV 1 1 54 #[ptrV b7])])) := by rw [hv8]; exact M8.out.alloc _
  have XV8 : Hid (Boxes B v8 ([(b0, .cells #[.func (.func 32) #[] #[]] 63), (b1, .cells #[.func (.func 33) #[] #[]] 63), (b2, .cells #[.func (.func 34) #[] #[]] 63), (b3, .cells #[.func (.func 36) #[] #[]] 65), (q4, .cells #[.int .i64 0] 3), (b4, .cells #[.func (.func 56) #[] #[.pointer (some ⟨q4, 0, none⟩)]] 65), (q5, .cells #[.int .i64 1] 3), (b5, .cells #[.func (.func 56) #[] #[.pointer (some ⟨q5, 0, none⟩)]] 65), (q6, .cells #[.int .i64 2] 3), (b6, .cells #[.func (.func 56) #[] #[.pointer (some ⟨q6, 0, none⟩)]] 65), (q7, .cells #[.int .i64 3] 3), (b7, .cells #[.func (.func 56) #[] #[.pointer (some ⟨q7, 0, none⟩)]] 65)] ++ [(q8, .cells #[.int .i64 4] 3)])) := by rw [hv8, hq8]; exact X8.out.add M8.out.lt _
  have FV8 : Hid (Below w.heap.size w v8) := by rw [hv8]; exact F8.out.alloc F8.out.size _
  rw [← hv8, ← hq8]
  clear hv8 hq8 M8 X8 F8
  refine (each_any (.func 56) #[.pointer (some ⟨q8, 0, none⟩)] v8).mono ?_
  rintro e x ⟨rfl, rfl⟩
  obtain ⟨b8, hb8⟩ : ∃ b, b = v8.heap.size := ⟨_, rfl⟩
  obtain ⟨u9, hup, hm, hf, hz⟩ := (MV8.out.alloc (.cells #[.func (.func 56) #[] #[.pointer (some ⟨q8, 0, none⟩)]] 65)).upd (string_fits Try.underlying9) Try.underlying50 sERROR (fnV 1 1 54 #[ptrV b8])
  have X9 : Hid (Boxes B u9 ([(b0, .cells #[.func (.func 32) #[] #[]] 63), (b1, .cells #[.func (.func 33) #[] #[]] 63), (b2, .cells #[.func (.func 34) #[] #[]] 63), (b3, .cells #[.func (.func 36) #[] #[]] 65), (q4, .cells #[.int .i64 0] 3), (b4, .cells #[.func (.func 56) #[] #[.pointer (some ⟨q4, 0, none⟩)]] 65), (q5, .cells #[.int .i64 1] 3), (b5, .cells #[.func (.func 56) #[] #[.pointer (some ⟨q5, 0, none⟩)]] 65), (q6, .cells #[.int .i64 2] 3), (b6, .cells #[.func (.func 56) #[] #[.pointer (some ⟨q6, 0, none⟩)]] 65), (q7, .cells #[.int .i64 3] 3), (b7, .cells #[.func (.func 56) #[] #[.pointer (some ⟨q7, 0, none⟩)]] 65), (q8, .cells #[.int .i64 4] 3)] ++ [(b8, .cells #[.func (.func 56) #[] #[.pointer (some ⟨q8, 0, none⟩)]] 65)])) := by rw [hb8]; exact (XV8.out.add MV8.out.lt _).upd hf
  have F9 : Hid (Below w.heap.size w u9) := (FV8.out.alloc FV8.out.size _).trans (hf.below (le_alloc FV8.out.size) (fun k hk => by rw [hk, HBw.out]; exact Nat.le_refl _))
  have M9 : Hid (MapIs u9 B Value.string (id : Value → Value) ([(sAND, fnV 1 32 51 #[ptrV b0]), (sOR, fnV 1 32 51 #[ptrV b1]), (sXOR, fnV 1 32 51 #[ptrV b2]), (sNOT, fnV 1 1 54 #[ptrV b3]), (sBLANK, fnV 1 1 54 #[ptrV b4]), (sNUMBER, fnV 1 1 54 #[ptrV b5]), (sTEXT, fnV 1 1 54 #[ptrV b6]), (sLOGICAL, fnV 1 1 54 #[ptrV b7]), (sERROR, fnV 1 1 54 #[ptrV b8])])) := hm
  unfold sERROR fnV ptrV id at hup
  rw [← hb8]
  clear hm hf hz MV8 XV8 FV8 hb8
  have hup8 := hup
  clear hup
  obtain ⟨u10, hup, hm, hf, hz⟩ := M9.out.upd (string_fits Try.underlying9) Try.underlying50 sNA (fnV 0 0 38 #[])
  have X10 : Hid (Boxes B u10 ([(b0, .cells #[.func (.func 32) #[] #[]] 63), (b1, .cells #[.func (.func 33) #[] #[]] 63), (b2, .cells #[.func (.func 34) #[] #[]] 63), (b3, .cells #[.func (.func 36) #[] #[]] 65), (q4, .cells #[.int .i64 0] 3), (b4, .cells #[.func (.func 56) #[] #[.pointer (some ⟨q4, 0, none⟩)]] 65), (q5, .cells #[.int .i64 1] 3), (b5, .cells #[.func (.func 56) #[] #[.pointer (some ⟨q5, 0, none⟩)]] 65), (q6, .cells #[.int .i64 2] 3), (b6, .cells #[.func (.func 56) #[] #[.pointer (some ⟨q6, 0, none⟩)]] 65), (q7, .cells #[.int .i64 3] 3), (b7, .cells #[.func (.func 56) #[] #[.pointer (some ⟨q7, 0, none⟩)]] 65), (q8, .cells #[.int .i64 4] 3), (b8, .cells #[.func (.func 56) #[] #[.pointer (some ⟨q8, 0, none⟩)]] 65)])) := X9.out.upd hf
  have F10 : Hid (Below w.heap.size w u10) := F9.out.trans (hf.below F9.out.size (fun k hk => by rw [hk, HBw.out]; exact Nat.le_refl _))
  have M10 : Hid (MapIs u10 B Value.string (id : Value → Value) ([(sAND, fnV 1 32 51 #[ptrV b0]), (sOR, fnV 1 32 51 #[ptrV b1]), (sXOR, fnV 1 32 51 #[ptrV b2]), (sNOT, fnV 1 1 54 #[ptrV b3]), (sBLANK, fnV 1 1 54 #[ptrV b4]), (sNUMBER, fnV 1 1 54 #[ptrV b5]), (sTEXT, fnV 1 1 54 #[ptrV b6]), (sLOGICAL, fnV 1 1 54 #[ptrV b7]), (sERROR, fnV 1 1 54 #[ptrV b8]), (sNA, fnV 0 0 38 #[])])) := hm
  unfold sNA fnV id at hup
  clear hm hf hz M9 X9 F9
  go_wp2_with fail
  clear hup
  clear hup8
  go_ret
  have x := X10.out
  refine ⟨B, b0, b1, b2, b3, b4, b5, b6, b7, b8, rfl, ?_, F10.out⟩
  exact { map := M10.out
          c1 := (x (b0, _) (by simp)).2
          c2 := (x (b1, _) (by simp)).2
          c3 := (x (b2, _) (by simp)).2
          c4 := (x (b3, _) (by simp)).2
          c5 := ⟨q4, (x (b4, _) (by simp [ptrV])).2, (x (q4, _) (by simp)).2⟩
          c6 := ⟨q5, (x (b5, _) (by simp [ptrV])).2, (x (q5, _) (by simp)).2⟩
          c7 := ⟨q6, (x (b6, _) (by simp [ptrV])).2, (x (q6, _) (by simp)).2⟩
          c8 := ⟨q7, (x (b7, _) (by simp [ptrV])).2, (x (q7, _) (by simp)).2⟩
          c9 := ⟨q8, (x (b8, _) (by simp [ptrV])).2, (x (q8, _) (by simp)).2⟩ }
end Go.Proofs.Ytgbedjeiihigaaa
