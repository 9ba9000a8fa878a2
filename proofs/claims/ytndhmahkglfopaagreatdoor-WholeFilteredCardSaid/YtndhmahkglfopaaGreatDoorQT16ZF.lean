/- oper.Binary. -/
import Derived.Deep.Upon
import Derived.Laws.EntriesVeiled
import Derived.Test.YtndhmahkglfopaaGreatDoorQBase
import Derived.Test.YtndhmahkglfopaaGreatDoorQT13NumA
import Derived.Test.YtndhmahkglfopaaGreatDoorQT13Right
import Derived.Test.YtndhmahkglfopaaGreatDoorQT13R09
import Derived.Test.YtndhmahkglfopaaGreatDoorQT16ZA
import Derived.Test.YtndhmahkglfopaaGreatDoorQT16YC
import Derived.Test.YtndhmahkglfopaaGreatDoorQT16S2
import Derived.Test.YtndhmahkglfopaaGreatDoorQT16TB
namespace Go.Proofs.YtndhmahkglfopaaGreatDoor
open Go.RowKit
/-- What a call hands back: an array in new memory, and that there is one. -/
def CallPost (w : World) (A : Arr) (e : Ending) (w' : World) : Prop := ∃ x, e = .returned (.tuple #[x, .bool true]) ∧ IsArr w.heap.size w' x A ∧ Below w.heap.size w w'
theorem call_hand {w w1 : World} {b : Nat} {A : Arr} {a : Option Addr} {cap n : Nat} (hb : w.heap.size ≤ b) (hsl : SlB (b + 1) w1 a A.l) (hB : Below w.heap.size w w1) (x y z : Value) :
    CallPost w A (.returned (.tuple #[.agg #[.int .i64 A.r, .int .i64 A.c, .slice a A.l.length cap], .bool true])) ((((w1.setCell ⟨b, 0, none⟩ x).setCell ⟨b, 1, none⟩ y).setCell ⟨b, 2, none⟩ z).drewN n) := by
  obtain ⟨v, e, h1, h2⟩ := arr_hand (cap := cap) (n := n) hb hsl hB x y z
  cases e
  exact ⟨_, rfl, h1, h2⟩
theorem zero47 (w : World) : (zeroValue 47).run Tryz.prog w = .ok (.agg #[.nilFunc]) w := by kernel_rfl
/-- The table's entry at s does F. -/
def SignAt (w : World) (l : List (ByteArray × Value)) (s : ByteArray) (F : V → V → V) : Prop := ∃ g cp, (cp = #[] ∨ ∃ b, cp = #[.pointer (some ⟨b, 0, none⟩)]) ∧ getL l s = some (.agg #[.func (.func g) #[] cp]) ∧ Ent g ∧ ∀ x y, refR x = true → refR y = true → F2Ok w g cp x y (F x y)
/-- A sign does F. -/
structure SignOk (s : ByteArray) (F : V → V → V) : Prop where
  at' : ∀ (w w' : World) (e : Ending), Tab17 w e w' → Tab w' → ∃ B l, e = .returned (.map (some B)) ∧ MapIs w' B Value.string (id : Value → Value) l ∧ Below w.heap.size w w' ∧ SignAt w' l s F
  right : ∀ x y, refR x = true → refR y = true → refR (F x y) = true
section
variable (s : ByteArray) (A B : Arr) (a b : Option Addr) (capA capB : Nat) (w : World)
set_option maxHeartbeats 2000000
set_option maxRecDepth 100000
theorem Binary_any {F : V → V → V} (hS : SignOk s F) (hA : ArrR A) (hB : ArrR B) (h1 : max A.r B.r ≤ 4096) (h2 : max A.c B.c ≤ 4096 / max A.r B.r) (hsa : SlB 0 w a A.l) (hsb : SlB 0 w b B.l) (htab : Tab w) : Calls Tryz.prog 9 #[.string s, arrA A a capA, arrA B b capB] w (CallPost w (bothV F A B)) := by
  have HS := Lib.hid hS
  have HA := Lib.hid hA
  have HB := Lib.hid hB
  have HSA := Lib.hid hsa
  have HSB := Lib.hid hsb
  have HT := Lib.hid htab
  have H1 := Lib.hid h1
  have H2 := Lib.hid h2
  have HTB := Lib.hid tab17_any
  unfold arrA
  clear hS hA hB h1 h2 hsa hsb htab
  go_enter Tryz.func9, Tryz.ntmps9
  go_wp2_with fail
  refine (HTB.out _).mono ?_
  intro e w1 ht
  have hbw : Below w.heap.size w w1 := by
    obtain ⟨_, _, _, _, _, hb, _⟩ := ht
    refine Below.trans ?_ (hb.mono (by simp <;> omega))
    (repeat with_reducible (first | exact bw0 _ _ | exact hBW | refine bw1 ?_ ?_ _ | refine bw2 ?_ ?_ _ | refine bw3 ?_ _ | refine bw4 ?_)); all_goals (first | omega | (dsimp only; omega) | ((repeat with_reducible (first | refine lz1 ?_ | refine lz2 ?_ | refine lz3 ?_ | refine lz4 ?_)); omega))
  obtain ⟨BB, l, rfl, hm, hb1, g, cp, hcp, hget, hent, hfv⟩ := HS.out.at' _ w1 e ht (HT.out.below hbw)
  have hl := hm.look2 (string_fits Tryz.underlying9) Tryz.underlying49 (zero47 w1) s
  rw [hget] at hl
  simp only [Option.map_some, Option.getD_some, Option.isSome_some, id] at hl
  have ea := Lib.hid ((hb1.block w.heap.size (by simp <;> omega)).trans (show _ = some (.cells #[.int .i64 A.r, .int .i64 A.c, .slice a A.l.length capA] 28 (0, 0)) by (repeat (first | (with_reducible refine bw5 ?_ _; (first | rfl | (simp; done) | omega | (simp; omega)); done) | with_reducible refine bw6 ?_ _ | with_reducible refine bw7 ?_ | with_reducible refine bw8 ?_))))
  have eb := Lib.hid ((hb1.block (w.heap.size + 1) (by simp <;> omega)).trans (show _ = some (.cells #[.int .i64 B.r, .int .i64 B.c, .slice b B.l.length capB] 28 (0, 0)) by (repeat (first | (with_reducible refine bw5 ?_ _; (first | rfl | (simp; done) | omega | (simp; omega)); done) | with_reducible refine bw6 ?_ _ | with_reducible refine bw7 ?_ | with_reducible refine bw8 ?_))))
  have e6 := Lib.hid ((hb1.block (w.heap.size + 1 + 1) (by simp)).trans (show _ = some (.cells #[.int .i64 0, .int .i64 0, .slice none 0 0] 28 (0, 0)) by (repeat (first | (with_reducible refine bw5 ?_ _; (first | rfl | (simp; done) | omega | (simp; omega)); done) | with_reducible refine bw6 ?_ _ | with_reducible refine bw7 ?_ | with_reducible refine bw8 ?_))))
  have HB1 := Lib.hid hbw
  have HFV := Lib.hid hfv
  have HENT := Lib.hid hent
  have k0 := cell_of_heap ea.out
  have j0 := cell_of_heap eb.out
  have z0 := lt_of_heap ea.out
  have z1 := lt_of_heap eb.out
  clear ht hbw hm hb1 hget hent hfv
  rcases hcp with rfl | ⟨pb, rfl⟩
  · go_wp2_with fail
    clear hl
    have hba : Below w1.heap.size w1 (w1.alloc (.cells #[.func (.func g) #[] (#[])] 47)) := by (repeat with_reducible (first | exact bw0 _ _ | exact hBW | refine bw1 ?_ ?_ _ | refine bw2 ?_ ?_ _ | refine bw3 ?_ _ | refine bw4 ?_)); all_goals (first | omega | (dsimp only; omega) | ((repeat with_reducible (first | refine lz1 ?_ | refine lz2 ?_ | refine lz3 ?_ | refine lz4 ?_)); omega))
    have HBA := Lib.hid (HB1.out.trans (hba.mono HB1.out.size))
    have hbk := hba.block
    have key := Both_any A B a b capA capB (w1.alloc (.cells #[.func (.func g) #[] (#[])] 47)) F HA.out HB.out H1.out H2.out (HSA.out.below HBA.out) (HSB.out.below HBA.out) (g := g) (cp := (#[])) HENT.out (fun x hx y hy => (HFV.out x y (HA.out.h7 x hx) (HB.out.h7 y hy)).below hba) (fun x hx y hy => refR_right (HS.out.right x y (HA.out.h7 x hx) (HB.out.h7 y hy)))
    unfold arrA at key
    refine key.mono ?_
    clear key
    rintro e w4 ⟨x, rfl, ⟨a4, cap4, rfl, hsl⟩, hb4⟩
    have e0 := (hb4.block _ (by rw [World.size_alloc]; have := lt_of_heap e6.out; omega)).trans ((hbk _ (lt_of_heap e6.out)).trans e6.out)
    have x0 := cell_of_heap e0
    have y0 := frozen_of_heap e0
    have z0' := lt_of_heap e0
    have HSL := Lib.hid (hsl.mono (B' := w.heap.size + 1 + 1 + 1) (by rw [World.size_alloc]; have := lt_of_heap e6.out; omega))
    have HBW := Lib.hid (HBA.out.trans (hb4.mono HBA.out.size))
    clear hsl hb4 e0 k0 j0 z0 z1 hba hbk
    generalize hbv : bothV F A B = G at HSL ⊢
    have HBV := Lib.hid hbv
    clear hbv
    go_wp2_with fail
    refine bodyPost_ret (v := .tuple #[.agg #[.int .i64 G.r, .int .i64 G.c, .slice a4 G.l.length cap4], .bool true]) (by simp [results, Tryz.results9, go_sem, x0]) rfl ?_
    rw [HBV.out]
    exact call_hand (A := G) (n := 0) (by omega) HSL.out HBW.out _ _ _
  · go_wp2_with fail
    clear hl
    have hba : Below w1.heap.size w1 (w1.alloc (.cells #[.func (.func g) #[] (#[.pointer (some ⟨pb, 0, none⟩)])] 47)) := by (repeat with_reducible (first | exact bw0 _ _ | exact hBW | refine bw1 ?_ ?_ _ | refine bw2 ?_ ?_ _ | refine bw3 ?_ _ | refine bw4 ?_)); all_goals (first | omega | (dsimp only; omega) | ((repeat with_reducible (first | refine lz1 ?_ | refine lz2 ?_ | refine lz3 ?_ | refine lz4 ?_)); omega))
    have HBA := Lib.hid (HB1.out.trans (hba.mono HB1.out.size))
    have hbk := hba.block
    have key := Both_any A B a b capA capB (w1.alloc (.cells #[.func (.func g) #[] (#[.pointer (some ⟨pb, 0, none⟩)])] 47)) F HA.out HB.out H1.out H2.out (HSA.out.below HBA.out) (HSB.out.below HBA.out) (g := g) (cp := (#[.pointer (some ⟨pb, 0, none⟩)])) HENT.out (fun x hx y hy => (HFV.out x y (HA.out.h7 x hx) (HB.out.h7 y hy)).below hba) (fun x hx y hy => refR_right (HS.out.right x y (HA.out.h7 x hx) (HB.out.h7 y hy)))
    unfold arrA at key
    refine key.mono ?_
    clear key
    rintro e w4 ⟨x, rfl, ⟨a4, cap4, rfl, hsl⟩, hb4⟩
    have e0 := (hb4.block _ (by rw [World.size_alloc]; have := lt_of_heap e6.out; omega)).trans ((hbk _ (lt_of_heap e6.out)).trans e6.out)
    have x0 := cell_of_heap e0
    have y0 := frozen_of_heap e0
    have z0' := lt_of_heap e0
    have HSL := Lib.hid (hsl.mono (B' := w.heap.size + 1 + 1 + 1) (by rw [World.size_alloc]; have := lt_of_heap e6.out; omega))
    have HBW := Lib.hid (HBA.out.trans (hb4.mono HBA.out.size))
    clear hsl hb4 e0 k0 j0 z0 z1 hba hbk
    generalize hbv : bothV F A B = G at HSL ⊢
    have HBV := Lib.hid hbv
    clear hbv
    go_wp2_with fail
    refine bodyPost_ret (v := .tuple #[.agg #[.int .i64 G.r, .int .i64 G.c, .slice a4 G.l.length cap4], .bool true]) (by simp [results, Tryz.results9, go_sem, x0]) rfl ?_
    rw [HBV.out]
    exact call_hand (A := G) (n := 0) (by omega) HSL.out HBW.out _ _ _
end
theorem ent72 : Ent 72 := enters_of Tryz.func72 (by kernel_rfl) rfl
theorem ent33 : Ent 33 := enters_of Tryz.func33 (by kernel_rfl) rfl
theorem ent34 : Ent 34 := enters_of Tryz.func34 (by kernel_rfl) rfl
theorem ent35 : Ent 35 := enters_of Tryz.func35 (by kernel_rfl) rfl
theorem ent36 : Ent 36 := enters_of Tryz.func36 (by kernel_rfl) rfl
theorem ent37 : Ent 37 := enters_of Tryz.func37 (by kernel_rfl) rfl
theorem ent38 : Ent 38 := enters_of Tryz.func38 (by kernel_rfl) rfl
theorem sign_hold {w : World} {l : List (ByteArray × Value)} {s : ByteArray} {g : Nat} {is : Int → Bool} (hE : Ent g) (hI : IsOk g is) (b : Nat) (h1 : getL l s = some (.agg #[.func (.func 72) #[] #[.pointer (some ⟨b, 0, none⟩)]])) (h2 : w.heap[b]? = some (.cells #[.func (.func g) #[] #[]] 65)) : SignAt w l s (holdV is) :=
  ⟨72, _, .inr ⟨b, rfl⟩, h1, ent72, fun x y hx hy W hW => holder1_any hE hI x y hx hy W b ((hW.block b (lt_of_heap h2)).trans h2)⟩
theorem sign_eq : SignOk ⟨#[61]⟩ (holdV (fun o => decide (o = 0))) := ⟨fun w w' e h ht => by
  obtain ⟨B, l, he, hm, _, hb, _, _, _, _, _, _, ⟨b, h1, h2⟩, _⟩ := h
  exact ⟨B, l, he, hm, hb, sign_hold ent33 is33 b h1 h2⟩, fun x y hx hy => hold_right _ hx hy⟩
theorem sign_ne : SignOk ⟨#[60, 62]⟩ (holdV (fun o => decide (o ≠ 0))) := ⟨fun w w' e h ht => by
  obtain ⟨B, l, he, hm, _, hb, _, _, _, _, _, _, _, ⟨b, h1, h2⟩, _⟩ := h
  exact ⟨B, l, he, hm, hb, sign_hold ent34 is34 b h1 h2⟩, fun x y hx hy => hold_right _ hx hy⟩
theorem sign_lt : SignOk ⟨#[60]⟩ (holdV (fun o => decide (o < 0))) := ⟨fun w w' e h ht => by
  obtain ⟨B, l, he, hm, _, hb, _, _, _, _, _, _, _, _, ⟨b, h1, h2⟩, _⟩ := h
  exact ⟨B, l, he, hm, hb, sign_hold ent35 is35 b h1 h2⟩, fun x y hx hy => hold_right _ hx hy⟩
theorem sign_le : SignOk ⟨#[60, 61]⟩ (holdV (fun o => decide (o ≤ 0))) := ⟨fun w w' e h ht => by
  obtain ⟨B, l, he, hm, _, hb, _, _, _, _, _, _, _, _, _, ⟨b, h1, h2⟩, _⟩ := h
  exact ⟨B, l, he, hm, hb, sign_hold ent36 is36 b h1 h2⟩, fun x y hx hy => hold_right _ hx hy⟩
theorem sign_gt : SignOk ⟨#[62]⟩ (holdV (fun o => decide (0 < o))) := ⟨fun w w' e h ht => by
  obtain ⟨B, l, he, hm, _, hb, _, _, _, _, _, _, _, _, _, _, ⟨b, h1, h2⟩, _⟩ := h
  exact ⟨B, l, he, hm, hb, sign_hold ent37 is37 b h1 h2⟩, fun x y hx hy => hold_right _ hx hy⟩
theorem sign_ge : SignOk ⟨#[62, 61]⟩ (holdV (fun o => decide (0 ≤ o))) := ⟨fun w w' e h ht => by
  obtain ⟨B, l, he, hm, _, hb, _, _, _, _, _, _, _, _, _, _, _, ⟨b, h1, h2⟩⟩ := h
  exact ⟨B, l, he, hm, hb, sign_hold ent38 is38 b h1 h2⟩, fun x y hx hy => hold_right _ hx hy⟩
end Go.Proofs.YtndhmahkglfopaaGreatDoor
/- Posts of calls that make an array, with a word on its capacity. -/
namespace Go.Proofs.YtndhmahkglfopaaGreatDoor
open Go.RowKit
def ArrPostC (X : Nat → Prop) (w : World) (A : Arr) (e : Ending) (w' : World) : Prop := ∃ a cap, e = .returned (.agg #[.int .i64 A.r, .int .i64 A.c, .slice a A.l.length cap]) ∧ X cap ∧ SlB w.heap.size w' a A.l ∧ Below w.heap.size w w'
def CallPostC (X : Nat → Prop) (w : World) (A : Arr) (e : Ending) (w' : World) : Prop := ∃ a cap, e = .returned (.tuple #[.agg #[.int .i64 A.r, .int .i64 A.c, .slice a A.l.length cap], .bool true]) ∧ X cap ∧ SlB w.heap.size w' a A.l ∧ Below w.heap.size w w'
theorem ArrPostC.post {X : Nat → Prop} {w w' : World} {A : Arr} {e : Ending} (h : ArrPostC X w A e w') : ArrPost w A e w' := by
  obtain ⟨a, cap, rfl, _, h1, h2⟩ := h
  exact ⟨_, rfl, ⟨a, cap, rfl, h1⟩, h2⟩
theorem ArrPost.any {w w' : World} {A : Arr} {e : Ending} (h : ArrPost w A e w') : ArrPostC (fun _ => True) w A e w' := by
  obtain ⟨x, rfl, ⟨a, cap, rfl, h1⟩, h2⟩ := h
  exact ⟨a, cap, rfl, trivial, h1, h2⟩
theorem hand_frame (w1 : World) (b : Nat) (x y z : Value) (n : Nat) : Fr (fun k => k = b) w1 ((((w1.setCell ⟨b, 0, none⟩ x).setCell ⟨b, 1, none⟩ y).setCell ⟨b, 2, none⟩ z).drewN n) :=
  (((Fr.setCell w1 ⟨b, 0, none⟩ x).trans (Fr.setCell _ ⟨b, 1, none⟩ y) (fun _ _ h => h)).trans (Fr.setCell _ ⟨b, 2, none⟩ z) (fun _ _ h => h)).trans (S' := fun _ => False) (.of_below (below_drewN _ _ _)) (fun _ _ h => h.elim)
theorem arr_handC {X : Nat → Prop} {w w1 : World} {b : Nat} {A : Arr} {a : Option Addr} {cap n : Nat} (hX : X cap) (hb : w.heap.size ≤ b) (hsl : SlB (b + 1) w1 a A.l) (hB : Below w.heap.size w w1) (x y z : Value) :
    ArrPostC X w A (.returned (.agg #[.int .i64 A.r, .int .i64 A.c, .slice a A.l.length cap])) ((((w1.setCell ⟨b, 0, none⟩ x).setCell ⟨b, 1, none⟩ y).setCell ⟨b, 2, none⟩ z).drewN n) := by
  have hf := hand_frame w1 b x y z n
  exact ⟨a, cap, rfl, hX, (hsl.frame hf (fun k hk => by omega)).mono (by omega), hB.trans (hf.below hB.size (fun k hk => by omega))⟩
theorem call_handC {X : Nat → Prop} {w w1 : World} {b : Nat} {A : Arr} {a : Option Addr} {cap n : Nat} (hX : X cap) (hb : w.heap.size ≤ b) (hsl : SlB (b + 1) w1 a A.l) (hB : Below w.heap.size w w1) (x y z : Value) :
    CallPostC X w A (.returned (.tuple #[.agg #[.int .i64 A.r, .int .i64 A.c, .slice a A.l.length cap], .bool true])) ((((w1.setCell ⟨b, 0, none⟩ x).setCell ⟨b, 1, none⟩ y).setCell ⟨b, 2, none⟩ z).drewN n) := by
  have hf := hand_frame w1 b x y z n
  exact ⟨a, cap, rfl, hX, (hsl.frame hf (fun k hk => by omega)).mono (by omega), hB.trans (hf.below hB.size (fun k hk => by omega))⟩
/-- What stays true while nothing old turns. -/
def Stays (C : World → Prop) : Prop := ∀ w w', C w → Below w.heap.size w w' → C w'
theorem stays_tab : Stays Tab := fun _ _ h hb => h.below hb
end Go.Proofs.YtndhmahkglfopaaGreatDoor
