/- A family's Call: a name that it has. -/
import Derived.Test.YtndhmahkglfopaaGreatDoorQT16ZF
import Derived.Test.YtndhmahkglfopaaGreatDoorQT16T112
namespace Go.Proofs.YtndhmahkglfopaaGreatDoor
open Go.RowKit
/-- The table's entry at s makes R of the arguments. -/
def HitOk (C : World → Prop) (X : Nat → Prop) (TabP : World → Ending → World → Prop) (s : ByteArray) (least most : Nat) (As : List Arr) (a : Option Addr) (cap : Nat) (R : Arr) : Prop :=
  ∀ (w w' : World) (e : Ending), TabP w e w' → ArgsAt 0 w' a As → C w' → ∃ (B : Nat) (l : List (ByteArray × Value)) (g : Nat) (cp : Array Value), e = .returned (.map (some B)) ∧ MapIs w' B Value.string (id : Value → Value) l ∧ Below w.heap.size w w' ∧ (cp = #[] ∨ ∃ b, cp = #[.pointer (some ⟨b, 0, none⟩)]) ∧
    getL l s = some (.agg #[.int .i64 least, .int .i64 most, .func (.func g) #[] cp]) ∧ Ent g ∧ ∀ W, Below w'.heap.size w' W → Calls Tryz.prog g (#[.slice a As.length cap] ++ cp) W (ArrPostC X W R)
theorem zero134 (w : World) : (zeroValue 134).run Tryz.prog w = .ok (.agg #[.int .i64 0, .int .i64 0, .nilFunc]) w := by kernel_rfl
theorem zero160 (w : World) : (zeroValue 160).run Tryz.prog w = .ok (.agg #[.int .i64 0, .int .i64 0, .nilFunc]) w := by kernel_rfl
section
variable (s : ByteArray) (least most : Nat) (As : List Arr) (a : Option Addr) (cap : Nat) (R : Arr) (w : World)
set_option maxHeartbeats 4000000
set_option maxRecDepth 100000
/- $1: the function, $2: its table's contract, $3: the struct, $4: the map's type -/
theorem call82_hit {C : World → Prop} {X : Nat → Prop} (hstay : Stays C) (hS : HitOk C X Tab112 s least most As a cap R) (hO : ∀ A ∈ As, ArrOk A) (h1 : least ≤ As.length) (h2 : As.length ≤ most) (h3 : most ≤ 100) (hA : ArgsAt 0 w a As) (htab : C w) : Calls Tryz.prog 82 #[.string s, .slice a As.length cap] w (CallPostC X w R) := by
  have HS := Lib.hid hS
  have HO := Lib.hid hO
  have HA := Lib.hid hA
  have HT := Lib.hid htab
  have HSTAY := Lib.hid hstay
  have HTB := Lib.hid tab112_any
  have d1 : decide ((As.length : Int) < (least : Int)) = false := decide_eq_false (by omega)
  have d2 : decide ((most : Int) < (As.length : Int)) = false := decide_eq_false (by omega)
  have hle : As.length ≤ most := h2
  have hge : least ≤ As.length := h1
  have d3 : decide (As.length < least) = false := decide_eq_false (by omega)
  have d4 : decide (most < As.length) = false := decide_eq_false (by omega)
  have hmo : most ≤ 100 := h3
  clear hS hO hA htab hstay h1 h2 h3
  go_enter Tryz.func82, Tryz.ntmps82
  go_wp2_with fail
  refine (HTB.out _).mono ?_
  intro e w1 ht
  have hbw : Below w.heap.size w w1 := by
    obtain ⟨_, _, _, _, _, hb, _⟩ := ht
    refine Below.trans ?_ (hb.mono (by simp))
    (repeat with_reducible (first | exact bw0 _ _ | exact hBW | refine bw1 ?_ ?_ _ | refine bw2 ?_ ?_ _ | refine bw3 ?_ _ | refine bw4 ?_)); all_goals (first | omega | (dsimp only; omega) | ((repeat with_reducible (first | refine lz1 ?_ | refine lz2 ?_ | refine lz3 ?_ | refine lz4 ?_)); omega))
  obtain ⟨BB, l, g, cp, rfl, hm, hb, hcp, hget, hent, hfv⟩ := HS.out _ w1 e ht (HA.out.below hbw) (HSTAY.out _ _ HT.out hbw)
  have hl := hm.look2 (string_fits Tryz.underlying9) Tryz.underlying129 (zero134 w1) s
  rw [hget] at hl
  simp only [Option.map_some, Option.getD_some, Option.isSome_some, id] at hl
  have g0 : w1.heap[w.heap.size]? = some (.cells #[.int .i64 0, .int .i64 0, .slice none 0 0] 28) := (hb.block _ (by simp)).trans (by (repeat (first | (with_reducible refine bw5 ?_ _; (first | rfl | (simp; done) | omega | (simp; omega)); done) | with_reducible refine bw6 ?_ _ | with_reducible refine bw7 ?_ | with_reducible refine bw8 ?_)))
  have FB := Lib.hid hbw
  have G0 := Lib.hid g0
  have HENT := Lib.hid hent
  have HFV := Lib.hid hfv
  clear g0 hb hbw hget ht hent hfv hm HS
  rcases hcp with rfl | ⟨pb, rfl⟩
  · go_wp2_with fail
    clear hl
    refine abs_world ?_
    intro W2 hW2
    have hB2 : Below w1.heap.size w1 W2 := by rw [hW2]; (repeat with_reducible (first | exact bw0 _ _ | exact hBW | refine bw1 ?_ ?_ _ | refine bw2 ?_ ?_ _ | refine bw3 ?_ _ | refine bw4 ?_)); all_goals (first | omega | (dsimp only; omega) | ((repeat with_reducible (first | refine lz1 ?_ | refine lz2 ?_ | refine lz3 ?_ | refine lz4 ?_)); omega))
    have e6 : W2.heap[w1.heap.size]? = some (.cells #[.int .i64 least, .int .i64 most, .func (.func g) #[] (#[])] 134) := by rw [hW2]; (repeat (first | (with_reducible refine bw5 ?_ _; (first | rfl | (simp; done) | omega | (simp; omega)); done) | with_reducible refine bw6 ?_ _ | with_reducible refine bw7 ?_ | with_reducible refine bw8 ?_))
    have E6 := Lib.hid e6
    have HB2 := Lib.hid hB2
    clear hW2 hB2 e6
    go_loopw [34] (fun i wr => ∃ k : Nat, i = .int .i64 k ∧ k ≤ As.length ∧ Below W2.heap.size W2 wr) (fun i _ => As.length - (intOf i).toNat)
    case atStart => exact ⟨0, rfl, Nat.zero_le _, Below.refl _ _⟩
    case round =>
      obtain ⟨k, rfl, hk, hB⟩ := hrel
      have HB := Lib.hid hB
      have HBw : Hid (Below w.heap.size w wr) := FB.out.trans ((HB2.out.trans (hB.mono HB2.out.size)).mono FB.out.size)
      clear hB
      by_cases hlt : k < As.length
      · obtain ⟨A, hA⟩ : ∃ A, As[k]? = some A := ⟨_, List.getElem?_eq_getElem hlt⟩
        obtain ⟨b, off, rfl, _, hb, hall⟩ := (HA.out.below HBw.out) (by omega)
        obtain ⟨a', cap', c0, c1, c2, hsl⟩ := hall k A hA
        have HSL := Lib.hid hsl
        have HOA := Lib.hid (HO.out A (List.mem_of_getElem? hA))
        have j1 : (0 : Int) ≤ (k : Int) := by omega
        have j2 : (k : Int) < (As.length : Int) := by omega
        clear hall hsl hA
        go_wp2_with fail
        refine (shapeRight_yes A HOA.out _ _ ⟨a', cap', rfl, HSL.out.below (below_alloc wr _ _ (Nat.le_refl _))⟩).mono ?_
        rintro e' w3 ⟨rfl, hb3⟩
        have HB3 : Hid (Below W2.heap.size W2 w3) := HB.out.trans (((below_alloc wr _ _ (Nat.le_refl _)).trans (hb3.mono (by simp))).mono HB.out.size)
        clear hb3 c0 c1 c2
        go_wp2_with fail
        go_roundw
        case rel => exact ⟨k + 1, by go_num, by omega, HB3.out⟩
        case measure => simp [intOf]; omega
      · have e6 := (HB.out.block w1.heap.size (lt_of_heap E6.out)).trans E6.out
        have x2 := cell_of_heap e6 2
        have hn6 : w1.heap.size < wr.heap.size := lt_of_heap e6
        have ent := HENT.out
        unfold Ent at ent
        clear e6
        go_wp2_with fail
        clear ent
        refine (HFV.out _ (HB2.out.trans (HB.out.mono HB2.out.size))).mono ?_
        rintro e' w3 ⟨a3, cap3, rfl, hx3, hsl3, hb4⟩
        have HX3 := Lib.hid hx3
        clear hx3
        have hB3 : Below w1.heap.size w1 w3 := HB2.out.trans ((HB.out.trans (hb4.mono HB.out.size)).mono HB2.out.size)
        have e0 := (hB3.block w.heap.size (lt_of_heap G0.out)).trans G0.out
        have x0 := cell_of_heap e0
        have y0 := frozen_of_heap e0
        have hn0 : w.heap.size < w3.heap.size := lt_of_heap e0
        have HSL3 := Lib.hid (hsl3.mono (B' := w.heap.size + 1) (by have := HBw.out.size; have := lt_of_heap G0.out; have := FB.out.size; have := HB2.out.size; have := HB.out.size; omega))
        have HB3 := Lib.hid (FB.out.trans (hB3.mono FB.out.size))
        clear hsl3 hb4 hB3 e0 x2 hn6
        go_wp2_with fail
        refine bodyPost_ret (v := .tuple #[.agg #[.int .i64 R.r, .int .i64 R.c, .slice a3 R.l.length cap3], .bool true]) (by simp [results, Tryz.results82, go_sem, x0]) rfl ?_
        exact call_handC HX3.out (A := R) (n := 0) (Nat.le_refl _) HSL3.out HB3.out _ _ _
  · go_wp2_with fail
    clear hl
    refine abs_world ?_
    intro W2 hW2
    have hB2 : Below w1.heap.size w1 W2 := by rw [hW2]; (repeat with_reducible (first | exact bw0 _ _ | exact hBW | refine bw1 ?_ ?_ _ | refine bw2 ?_ ?_ _ | refine bw3 ?_ _ | refine bw4 ?_)); all_goals (first | omega | (dsimp only; omega) | ((repeat with_reducible (first | refine lz1 ?_ | refine lz2 ?_ | refine lz3 ?_ | refine lz4 ?_)); omega))
    have e6 : W2.heap[w1.heap.size]? = some (.cells #[.int .i64 least, .int .i64 most, .func (.func g) #[] (#[.pointer (some ⟨pb, 0, none⟩)])] 134) := by rw [hW2]; (repeat (first | (with_reducible refine bw5 ?_ _; (first | rfl | (simp; done) | omega | (simp; omega)); done) | with_reducible refine bw6 ?_ _ | with_reducible refine bw7 ?_ | with_reducible refine bw8 ?_))
    have E6 := Lib.hid e6
    have HB2 := Lib.hid hB2
    clear hW2 hB2 e6
    go_loopw [34] (fun i wr => ∃ k : Nat, i = .int .i64 k ∧ k ≤ As.length ∧ Below W2.heap.size W2 wr) (fun i _ => As.length - (intOf i).toNat)
    case atStart => exact ⟨0, rfl, Nat.zero_le _, Below.refl _ _⟩
    case round =>
      obtain ⟨k, rfl, hk, hB⟩ := hrel
      have HB := Lib.hid hB
      have HBw : Hid (Below w.heap.size w wr) := FB.out.trans ((HB2.out.trans (hB.mono HB2.out.size)).mono FB.out.size)
      clear hB
      by_cases hlt : k < As.length
      · obtain ⟨A, hA⟩ : ∃ A, As[k]? = some A := ⟨_, List.getElem?_eq_getElem hlt⟩
        obtain ⟨b, off, rfl, _, hb, hall⟩ := (HA.out.below HBw.out) (by omega)
        obtain ⟨a', cap', c0, c1, c2, hsl⟩ := hall k A hA
        have HSL := Lib.hid hsl
        have HOA := Lib.hid (HO.out A (List.mem_of_getElem? hA))
        have j1 : (0 : Int) ≤ (k : Int) := by omega
        have j2 : (k : Int) < (As.length : Int) := by omega
        clear hall hsl hA
        go_wp2_with fail
        refine (shapeRight_yes A HOA.out _ _ ⟨a', cap', rfl, HSL.out.below (below_alloc wr _ _ (Nat.le_refl _))⟩).mono ?_
        rintro e' w3 ⟨rfl, hb3⟩
        have HB3 : Hid (Below W2.heap.size W2 w3) := HB.out.trans (((below_alloc wr _ _ (Nat.le_refl _)).trans (hb3.mono (by simp))).mono HB.out.size)
        clear hb3 c0 c1 c2
        go_wp2_with fail
        go_roundw
        case rel => exact ⟨k + 1, by go_num, by omega, HB3.out⟩
        case measure => simp [intOf]; omega
      · have e6 := (HB.out.block w1.heap.size (lt_of_heap E6.out)).trans E6.out
        have x2 := cell_of_heap e6 2
        have hn6 : w1.heap.size < wr.heap.size := lt_of_heap e6
        have ent := HENT.out
        unfold Ent at ent
        clear e6
        go_wp2_with fail
        clear ent
        refine (HFV.out _ (HB2.out.trans (HB.out.mono HB2.out.size))).mono ?_
        rintro e' w3 ⟨a3, cap3, rfl, hx3, hsl3, hb4⟩
        have HX3 := Lib.hid hx3
        clear hx3
        have hB3 : Below w1.heap.size w1 w3 := HB2.out.trans ((HB.out.trans (hb4.mono HB.out.size)).mono HB2.out.size)
        have e0 := (hB3.block w.heap.size (lt_of_heap G0.out)).trans G0.out
        have x0 := cell_of_heap e0
        have y0 := frozen_of_heap e0
        have hn0 : w.heap.size < w3.heap.size := lt_of_heap e0
        have HSL3 := Lib.hid (hsl3.mono (B' := w.heap.size + 1) (by have := HBw.out.size; have := lt_of_heap G0.out; have := FB.out.size; have := HB2.out.size; have := HB.out.size; omega))
        have HB3 := Lib.hid (FB.out.trans (hB3.mono FB.out.size))
        clear hsl3 hb4 hB3 e0 x2 hn6
        go_wp2_with fail
        refine bodyPost_ret (v := .tuple #[.agg #[.int .i64 R.r, .int .i64 R.c, .slice a3 R.l.length cap3], .bool true]) (by simp [results, Tryz.results82, go_sem, x0]) rfl ?_
        exact call_handC HX3.out (A := R) (n := 0) (Nat.le_refl _) HSL3.out HB3.out _ _ _
theorem call94_hit {C : World → Prop} {X : Nat → Prop} (hstay : Stays C) (hS : HitOk C X Tab126 s least most As a cap R) (hO : ∀ A ∈ As, ArrOk A) (h1 : least ≤ As.length) (h2 : As.length ≤ most) (h3 : most ≤ 100) (hA : ArgsAt 0 w a As) (htab : C w) : Calls Tryz.prog 94 #[.string s, .slice a As.length cap] w (CallPostC X w R) := by
  have HS := Lib.hid hS
  have HO := Lib.hid hO
  have HA := Lib.hid hA
  have HT := Lib.hid htab
  have HSTAY := Lib.hid hstay
  have HTB := Lib.hid tab126_any
  have d1 : decide ((As.length : Int) < (least : Int)) = false := decide_eq_false (by omega)
  have d2 : decide ((most : Int) < (As.length : Int)) = false := decide_eq_false (by omega)
  have hle : As.length ≤ most := h2
  have hge : least ≤ As.length := h1
  have d3 : decide (As.length < least) = false := decide_eq_false (by omega)
  have d4 : decide (most < As.length) = false := decide_eq_false (by omega)
  have hmo : most ≤ 100 := h3
  clear hS hO hA htab hstay h1 h2 h3
  go_enter Tryz.func94, Tryz.ntmps94
  go_wp2_with fail
  refine (HTB.out _).mono ?_
  intro e w1 ht
  have hbw : Below w.heap.size w w1 := by
    obtain ⟨_, _, _, _, _, hb, _⟩ := ht
    refine Below.trans ?_ (hb.mono (by simp))
    (repeat with_reducible (first | exact bw0 _ _ | exact hBW | refine bw1 ?_ ?_ _ | refine bw2 ?_ ?_ _ | refine bw3 ?_ _ | refine bw4 ?_)); all_goals (first | omega | (dsimp only; omega) | ((repeat with_reducible (first | refine lz1 ?_ | refine lz2 ?_ | refine lz3 ?_ | refine lz4 ?_)); omega))
  obtain ⟨BB, l, g, cp, rfl, hm, hb, hcp, hget, hent, hfv⟩ := HS.out _ w1 e ht (HA.out.below hbw) (HSTAY.out _ _ HT.out hbw)
  have hl := hm.look2 (string_fits Tryz.underlying9) Tryz.underlying158 (zero160 w1) s
  rw [hget] at hl
  simp only [Option.map_some, Option.getD_some, Option.isSome_some, id] at hl
  have g0 : w1.heap[w.heap.size]? = some (.cells #[.int .i64 0, .int .i64 0, .slice none 0 0] 28) := (hb.block _ (by simp)).trans (by (repeat (first | (with_reducible refine bw5 ?_ _; (first | rfl | (simp; done) | omega | (simp; omega)); done) | with_reducible refine bw6 ?_ _ | with_reducible refine bw7 ?_ | with_reducible refine bw8 ?_)))
  have FB := Lib.hid hbw
  have G0 := Lib.hid g0
  have HENT := Lib.hid hent
  have HFV := Lib.hid hfv
  clear g0 hb hbw hget ht hent hfv hm HS
  rcases hcp with rfl | ⟨pb, rfl⟩
  · go_wp2_with fail
    clear hl
    refine abs_world ?_
    intro W2 hW2
    have hB2 : Below w1.heap.size w1 W2 := by rw [hW2]; (repeat with_reducible (first | exact bw0 _ _ | exact hBW | refine bw1 ?_ ?_ _ | refine bw2 ?_ ?_ _ | refine bw3 ?_ _ | refine bw4 ?_)); all_goals (first | omega | (dsimp only; omega) | ((repeat with_reducible (first | refine lz1 ?_ | refine lz2 ?_ | refine lz3 ?_ | refine lz4 ?_)); omega))
    have e6 : W2.heap[w1.heap.size]? = some (.cells #[.int .i64 least, .int .i64 most, .func (.func g) #[] (#[])] 160) := by rw [hW2]; (repeat (first | (with_reducible refine bw5 ?_ _; (first | rfl | (simp; done) | omega | (simp; omega)); done) | with_reducible refine bw6 ?_ _ | with_reducible refine bw7 ?_ | with_reducible refine bw8 ?_))
    have E6 := Lib.hid e6
    have HB2 := Lib.hid hB2
    clear hW2 hB2 e6
    go_loopw [34] (fun i wr => ∃ k : Nat, i = .int .i64 k ∧ k ≤ As.length ∧ Below W2.heap.size W2 wr) (fun i _ => As.length - (intOf i).toNat)
    case atStart => exact ⟨0, rfl, Nat.zero_le _, Below.refl _ _⟩
    case round =>
      obtain ⟨k, rfl, hk, hB⟩ := hrel
      have HB := Lib.hid hB
      have HBw : Hid (Below w.heap.size w wr) := FB.out.trans ((HB2.out.trans (hB.mono HB2.out.size)).mono FB.out.size)
      clear hB
      by_cases hlt : k < As.length
      · obtain ⟨A, hA⟩ : ∃ A, As[k]? = some A := ⟨_, List.getElem?_eq_getElem hlt⟩
        obtain ⟨b, off, rfl, _, hb, hall⟩ := (HA.out.below HBw.out) (by omega)
        obtain ⟨a', cap', c0, c1, c2, hsl⟩ := hall k A hA
        have HSL := Lib.hid hsl
        have HOA := Lib.hid (HO.out A (List.mem_of_getElem? hA))
        have j1 : (0 : Int) ≤ (k : Int) := by omega
        have j2 : (k : Int) < (As.length : Int) := by omega
        clear hall hsl hA
        go_wp2_with fail
        refine (shapeRight_yes A HOA.out _ _ ⟨a', cap', rfl, HSL.out.below (below_alloc wr _ _ (Nat.le_refl _))⟩).mono ?_
        rintro e' w3 ⟨rfl, hb3⟩
        have HB3 : Hid (Below W2.heap.size W2 w3) := HB.out.trans (((below_alloc wr _ _ (Nat.le_refl _)).trans (hb3.mono (by simp))).mono HB.out.size)
        clear hb3 c0 c1 c2
        go_wp2_with fail
        go_roundw
        case rel => exact ⟨k + 1, by go_num, by omega, HB3.out⟩
        case measure => simp [intOf]; omega
      · have e6 := (HB.out.block w1.heap.size (lt_of_heap E6.out)).trans E6.out
        have x2 := cell_of_heap e6 2
        have hn6 : w1.heap.size < wr.heap.size := lt_of_heap e6
        have ent := HENT.out
        unfold Ent at ent
        clear e6
        go_wp2_with fail
        clear ent
        refine (HFV.out _ (HB2.out.trans (HB.out.mono HB2.out.size))).mono ?_
        rintro e' w3 ⟨a3, cap3, rfl, hx3, hsl3, hb4⟩
        have HX3 := Lib.hid hx3
        clear hx3
        have hB3 : Below w1.heap.size w1 w3 := HB2.out.trans ((HB.out.trans (hb4.mono HB.out.size)).mono HB2.out.size)
        have e0 := (hB3.block w.heap.size (lt_of_heap G0.out)).trans G0.out
        have x0 := cell_of_heap e0
        have y0 := frozen_of_heap e0
        have hn0 : w.heap.size < w3.heap.size := lt_of_heap e0
        have HSL3 := Lib.hid (hsl3.mono (B' := w.heap.size + 1) (by have := HBw.out.size; have := lt_of_heap G0.out; have := FB.out.size; have := HB2.out.size; have := HB.out.size; omega))
        have HB3 := Lib.hid (FB.out.trans (hB3.mono FB.out.size))
        clear hsl3 hb4 hB3 e0 x2 hn6
        go_wp2_with fail
        refine bodyPost_ret (v := .tuple #[.agg #[.int .i64 R.r, .int .i64 R.c, .slice a3 R.l.length cap3], .bool true]) (by simp [results, Tryz.results94, go_sem, x0]) rfl ?_
        exact call_handC HX3.out (A := R) (n := 0) (Nat.le_refl _) HSL3.out HB3.out _ _ _
  · go_wp2_with fail
    clear hl
    refine abs_world ?_
    intro W2 hW2
    have hB2 : Below w1.heap.size w1 W2 := by rw [hW2]; (repeat with_reducible (first | exact bw0 _ _ | exact hBW | refine bw1 ?_ ?_ _ | refine bw2 ?_ ?_ _ | refine bw3 ?_ _ | refine bw4 ?_)); all_goals (first | omega | (dsimp only; omega) | ((repeat with_reducible (first | refine lz1 ?_ | refine lz2 ?_ | refine lz3 ?_ | refine lz4 ?_)); omega))
    have e6 : W2.heap[w1.heap.size]? = some (.cells #[.int .i64 least, .int .i64 most, .func (.func g) #[] (#[.pointer (some ⟨pb, 0, none⟩)])] 160) := by rw [hW2]; (repeat (first | (with_reducible refine bw5 ?_ _; (first | rfl | (simp; done) | omega | (simp; omega)); done) | with_reducible refine bw6 ?_ _ | with_reducible refine bw7 ?_ | with_reducible refine bw8 ?_))
    have E6 := Lib.hid e6
    have HB2 := Lib.hid hB2
    clear hW2 hB2 e6
    go_loopw [34] (fun i wr => ∃ k : Nat, i = .int .i64 k ∧ k ≤ As.length ∧ Below W2.heap.size W2 wr) (fun i _ => As.length - (intOf i).toNat)
    case atStart => exact ⟨0, rfl, Nat.zero_le _, Below.refl _ _⟩
    case round =>
      obtain ⟨k, rfl, hk, hB⟩ := hrel
      have HB := Lib.hid hB
      have HBw : Hid (Below w.heap.size w wr) := FB.out.trans ((HB2.out.trans (hB.mono HB2.out.size)).mono FB.out.size)
      clear hB
      by_cases hlt : k < As.length
      · obtain ⟨A, hA⟩ : ∃ A, As[k]? = some A := ⟨_, List.getElem?_eq_getElem hlt⟩
        obtain ⟨b, off, rfl, _, hb, hall⟩ := (HA.out.below HBw.out) (by omega)
        obtain ⟨a', cap', c0, c1, c2, hsl⟩ := hall k A hA
        have HSL := Lib.hid hsl
        have HOA := Lib.hid (HO.out A (List.mem_of_getElem? hA))
        have j1 : (0 : Int) ≤ (k : Int) := by omega
        have j2 : (k : Int) < (As.length : Int) := by omega
        clear hall hsl hA
        go_wp2_with fail
        refine (shapeRight_yes A HOA.out _ _ ⟨a', cap', rfl, HSL.out.below (below_alloc wr _ _ (Nat.le_refl _))⟩).mono ?_
        rintro e' w3 ⟨rfl, hb3⟩
        have HB3 : Hid (Below W2.heap.size W2 w3) := HB.out.trans (((below_alloc wr _ _ (Nat.le_refl _)).trans (hb3.mono (by simp))).mono HB.out.size)
        clear hb3 c0 c1 c2
        go_wp2_with fail
        go_roundw
        case rel => exact ⟨k + 1, by go_num, by omega, HB3.out⟩
        case measure => simp [intOf]; omega
      · have e6 := (HB.out.block w1.heap.size (lt_of_heap E6.out)).trans E6.out
        have x2 := cell_of_heap e6 2
        have hn6 : w1.heap.size < wr.heap.size := lt_of_heap e6
        have ent := HENT.out
        unfold Ent at ent
        clear e6
        go_wp2_with fail
        clear ent
        refine (HFV.out _ (HB2.out.trans (HB.out.mono HB2.out.size))).mono ?_
        rintro e' w3 ⟨a3, cap3, rfl, hx3, hsl3, hb4⟩
        have HX3 := Lib.hid hx3
        clear hx3
        have hB3 : Below w1.heap.size w1 w3 := HB2.out.trans ((HB.out.trans (hb4.mono HB.out.size)).mono HB2.out.size)
        have e0 := (hB3.block w.heap.size (lt_of_heap G0.out)).trans G0.out
        have x0 := cell_of_heap e0
        have y0 := frozen_of_heap e0
        have hn0 : w.heap.size < w3.heap.size := lt_of_heap e0
        have HSL3 := Lib.hid (hsl3.mono (B' := w.heap.size + 1) (by have := HBw.out.size; have := lt_of_heap G0.out; have := FB.out.size; have := HB2.out.size; have := HB.out.size; omega))
        have HB3 := Lib.hid (FB.out.trans (hB3.mono FB.out.size))
        clear hsl3 hb4 hB3 e0 x2 hn6
        go_wp2_with fail
        refine bodyPost_ret (v := .tuple #[.agg #[.int .i64 R.r, .int .i64 R.c, .slice a3 R.l.length cap3], .bool true]) (by simp [results, Tryz.results94, go_sem, x0]) rfl ?_
        exact call_handC HX3.out (A := R) (n := 0) (Nat.le_refl _) HSL3.out HB3.out _ _ _
end
end Go.Proofs.YtndhmahkglfopaaGreatDoor
