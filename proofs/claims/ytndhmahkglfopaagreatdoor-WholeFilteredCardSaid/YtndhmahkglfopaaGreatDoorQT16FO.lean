/- WholeFiltered: the law's walk. -/
import Derived.Deep.DeepCutAuto
import Derived.Deep.CutBlock
import Derived.Test.YtndhmahkglfopaaGreatDoorQMultiO
import Derived.Test.YtndhmahkglfopaaGreatDoorQT16FC
namespace Go.Proofs.YtndhmahkglfopaaGreatDoor
open Go.RowKit
def signs6 : Array Value := #[.string ⟨#[62]⟩, .string ⟨#[60]⟩, .string ⟨#[62, 61]⟩, .string ⟨#[60, 61]⟩, .string ⟨#[61]⟩, .string ⟨#[60, 62]⟩]
theorem sgn_at (t : Int) : ∃ (k : Nat) (s : ByteArray) (is : Int → Bool), t % 6 = (k : Int) ∧ k < 6 ∧ signs6[k]? = some (.string s) ∧ Sg s is := by
  have h0 : 0 ≤ t % 6 := Int.emod_nonneg _ (by omega)
  have h1 : t % 6 < 6 := Int.emod_lt_of_pos _ (by omega)
  obtain ⟨k, hk⟩ : ∃ k : Nat, t % 6 = (k : Int) := ⟨(t % 6).toNat, (Int.toNat_of_nonneg h0).symm⟩
  have hk6 : k < 6 := by omega
  refine ⟨k, ?_⟩
  have h6 : k = 0 ∨ k = 1 ∨ k = 2 ∨ k = 3 ∨ k = 4 ∨ k = 5 := by omega
  rcases h6 with rfl | rfl | rfl | rfl | rfl | rfl
  · exact ⟨_, _, hk, hk6, rfl, sg_gt⟩
  · exact ⟨_, _, hk, hk6, rfl, sg_lt⟩
  · exact ⟨_, _, hk, hk6, rfl, sg_ge⟩
  · exact ⟨_, _, hk, hk6, rfl, sg_le⟩
  · exact ⟨_, _, hk, hk6, rfl, sg_eq⟩
  · exact ⟨_, _, hk, hk6, rfl, sg_ne⟩
def sNone : ByteArray := ⟨#[110, 111, 110, 101]⟩
/-- A word on a call whose first argument's slice is known, capacity and all. -/
def CapK (A : Arr) (l : List Arr) (n : Nat) (nm : ByteArray) (X : Nat → Prop) (R : Arr) : Prop := ∀ (fb fc ca : Nat) (a : Option Addr) (w : World), ArgsAt 0 w (some ⟨fb, 0, none⟩) l → fb < w.heap.size → w.cell? ⟨fb, 2, none⟩ = some (.slice a A.l.length ca) → SlB 0 w a A.l → A.l.length ≤ ca → Tab w → Calls Tryz.prog 11 #[.string nm, .slice (some ⟨fb, 0, none⟩) n fc] w (ArrPostC X w R)
def ArgK (l : List Arr) (n : Nat) (nm : ByteArray) (R : Arr) : Prop := ∀ (a : Option Addr) (c : Nat) (w : World), n ≤ c → ArgsAt 0 w a l → Tab w → Calls Tryz.prog 11 #[.string nm, .slice a n c] w (ArrPost w R)
def BinK (s : ByteArray) (A B M : Arr) : Prop := ∀ (a c : Option Addr) (ca cc : Nat) (w : World), SlB 0 w a A.l → SlB 0 w c B.l → Tab w → Calls Tryz.prog 9 #[.string s, arrA A a ca, arrA B c cc] w (CallPost w M)
def SameK (A B : Arr) (z : Bool) : Prop := ∀ (x y : Value) (w : World), IsArr 0 w x A → IsArr 0 w y B → Calls Tryz.prog 13 #[x, y] w fun e w' => e = .returned (.bool z) ∧ Below w.heap.size w w'
def CntK (n : Int) (u : V) : Prop := ∀ w : World, Calls Tryz.prog 10 #[.int .i64 n] w fun r w' => r = .returned (vagg u) ∧ Below w.heap.size w w'
def OneK (u : V) (A : Arr) : Prop := ∀ w : World, Calls Tryz.prog 7 #[vagg u] w (ArrPost w A)
theorem ord_abs {P : Program} {ops : Array Oper} {Q : Exit → Act → World → Prop} {S : World → Prop} {ls : List Nat} {r : OrdT} {a : Act} {w : World} (h : ∀ W, W = w → wpOrd P ops Q S ls r a W) : wpOrd P ops Q S ls r a w := h w rfl
section
/- Binary of a column and one number, in a box of its own: tmps $1 .. $8 of ops 0 to 6 and 7; $9: the column's box's slot. Names: Wr, bx, XA, XM, HXB, SXB, KBX, HTr -/
/- COUNTIF, SUMIF of the column, in a box of its own: tmps $1 .. $7 of ops 0 to 6. Names: Wr, HXB, SXB (the column's box b8, slot 8), XQ, KXQ, HTr -/
/- the two arguments of FILTER laid: $1 the world, $2 its Below, $3 $4 the next ones -/
/- the one argument of SORT laid -/
/- FILTER called: $1 the world, $2 its Below, $3 $4 the next ones -/
/- SORT called, both held side by side; $1 the world, $2 its Below -/
variable (w : World)
set_option maxHeartbeats 8000000
set_option maxRecDepth 100000
theorem law_walk (s : ByteArray) (v t : Int) (k L cap b off : Nat) (D : List Int) (CA NA VA MA TA FA QA SA OA MB ZA EA : Arr) (uv u0 : V) (zz : Bool)
    (hL1 : 1 ≤ L) (hL40 : L ≤ 40) (htk : t.tmod 6 = (k : Int)) (ht0 : 0 ≤ t) (ht1 : t ≤ 255) (hk6 : k < 6) (hsg : signs6[k]? = some (.string s)) (hv : -32768 ≤ v ∧ v ≤ 32767) (hco : CO w b off D) (htab : Tab w)
    (kCol : ∀ w, CO w b off D → Calls Tryz.prog 6 #[.slice (some ⟨b, off, none⟩) L cap] w (ArrPostC (fun c => CA.l.length ≤ c) w CA))
    (kNone : OneK (tV sNone) NA) (kCnt : CntK v uv) (kOne : OneK uv VA) (kBin : BinK s CA VA MA) (kFil : CapK CA [CA, MA, NA] 3 sFILTER (fun c => FA.l.length ≤ c) FA)
    (kThan : ∀ w, Calls Tryz.prog 12 #[.string s, .int .i64 v] w (ArrPost w TA)) (kCI : ArgK [CA, TA] 2 sCOUNTIF QA) (kSI : ArgK [CA, TA] 2 sSUMIF SA) (kZero : CntK 0 u0) (kOneZ : OneK u0 EA) (kSameZ : SameK QA EA zz)
    (hz : zz = true → FA = NA ∧ SA = QA) (kSN : SameK NA NA true) (kSQ : SameK QA QA true) (kSS : SameK SA SA true) (kSZ : SameK ZA ZA true)
    (kSort : zz = false → CapK CA [CA] 1 sSORT (fun c => OA.l.length ≤ c) OA) (kBin2 : zz = false → BinK s OA VA MB) (kRows : zz = false → ArgK [FA] 1 sROWS QA) (kSum : zz = false → ArgK [FA] 1 sSUM SA)
    (kFil2 : zz = false → CapK OA [OA, MB] 2 sFILTER (fun _ => True) ZA) (kSort2 : zz = false → CapK FA [FA] 1 sSORT (fun _ => True) ZA) :
    Calls Tryz.prog 3 #[.slice (some ⟨b, off, none⟩) L cap, .int .i16 v, .int .u8 t] w fun e w' => e = .returned (.bool true) ∧ Below w.heap.size w w' := by
  have HCO := Lib.hid hco
  have HT := Lib.hid htab
  have KCOL := Lib.hid kCol
  have KNONE := Lib.hid kNone
  have KCNT := Lib.hid kCnt
  have KONE := Lib.hid kOne
  have KBIN := Lib.hid kBin
  have KFIL := Lib.hid kFil
  have KTHAN := Lib.hid kThan
  have KCI := Lib.hid kCI
  have KSI := Lib.hid kSI
  have KZERO := Lib.hid kZero
  have KONEZ := Lib.hid kOneZ
  have KSAMEZ := Lib.hid kSameZ
  have HZ := Lib.hid hz
  have KSN := Lib.hid kSN
  have KSQ := Lib.hid kSQ
  have KSS := Lib.hid kSS
  have KSZ := Lib.hid kSZ
  have KSORT := Lib.hid kSort
  have KBIN2 := Lib.hid kBin2
  have KROWS := Lib.hid kRows
  have KSUM := Lib.hid kSum
  have KFIL2 := Lib.hid kFil2
  have KSORT2 := Lib.hid kSort2
  have i1 : ¬ (L : Int) < 1 := by omega
  have i2 : ¬ (40 : Int) < (L : Int) := by omega
  have i3 : ¬ L < 1 := by omega
  have i4 : ¬ L = 0 := by omega
  have i5 : ¬ 40 < L := by omega
  have d1 : decide ((L : Int) < 1) = false := decide_eq_false i1
  have d2 : decide ((40 : Int) < (L : Int)) = false := decide_eq_false i2
  have j1 : (0 : Int) ≤ (k : Int) := by omega
  have j2 : (k : Int) < 6 := by omega
  have wt : wrap64 t = t := IntWalk.wrap64_in _ (by omega)
  have wd : IntKind.i64.wrap v = v := by rw [IntKind.wrap_i64]; omega
  have wd2 : wrap64 v = v := IntWalk.wrap64_in _ (by omega)
  clear hco htab kCol kNone kCnt kOne kBin kFil kThan kCI kSI kZero kOneZ kSameZ hz kSN kSQ kSS kSZ kSort kBin2 kRows kSum kFil2 kSort2 hL1 hL40 ht0 ht1 hv
  go_enter Tryz.func3, Tryz.ntmps3
  go_wp2_with fail
  refine (awake_any _ HT.out).mono ?_
  rintro e w1 ⟨rfl, hb1⟩
  have HB1 := Lib.hid hb1
  have hcell : (w1.alloc (.cells signs6 9)).cell? ⟨w1.heap.size, k, none⟩ = some (.string s) := by rw [cell_of_heap (heap_alloc_new w1 _) k]; exact hsg
  unfold signs6 at hsg hcell
  clear hb1
  go_upto_region 4 with fail
  refine abs_world ?_
  intro W2 hW2
  have b2 : Below w1.heap.size w1 W2 := by rw [hW2]; exact below_alloc w1 _ _ (Nat.le_refl _)
  have HB2 : Hid (Below w.heap.size w W2) := HB1.out.trans (b2.mono HB1.out.size)
  clear hW2 b2 hsg hcell htk wt j1 j2 i1 i2 i3 i4 i5 d1 d2 HB1 hk6
  go_wp2_with fail
  refine (KCOL.out _ (HCO.out.below HB2.out)).mono ?_
  rintro e w3 ⟨a3, c3, rfl, hx3, hs3, hb3⟩
  have HX3 := Lib.hid hx3
  have S3 := Lib.hid (hs3.mono (Nat.zero_le _))
  have HB3 := Lib.hid (HB2.out.trans (hb3.mono HB2.out.size))
  clear hx3 hs3 hb3 HB2
  go_wp2_with fail
  refine (text8_any _ sNone (by decide)).mono ?_
  rintro e w4 ⟨rfl, hb4⟩
  have S4 := Lib.hid (S3.out.below hb4)
  have HB4 := Lib.hid (HB3.out.trans (hb4.mono HB3.out.size))
  clear hb4 HB3 S3
  go_wp2_with fail
  refine (KNONE.out _).mono ?_
  rintro e w5 ⟨x, rfl, ⟨a5, c5, rfl, hs5⟩, hb5⟩
  have S5 := Lib.hid (S4.out.below hb5)
  have N5 := Lib.hid (hs5.mono (Nat.zero_le _))
  have HB5 := Lib.hid (HB4.out.trans (hb5.mono HB4.out.size))
  clear hb5 hs5 HB4 S4
  go_upto_region 5 with fail
  refine abs_world ?_
  intro W6 hW6
  have b6 : Below w5.heap.size w5 W6 := by rw [hW6]; (repeat with_reducible (first | exact bw0 _ _ | exact hBW | refine bw1 ?_ ?_ _ | refine bw2 ?_ ?_ _ | refine bw3 ?_ _ | refine bw4 ?_)); all_goals (first | omega | (dsimp only; omega) | ((repeat with_reducible (first | refine lz1 ?_ | refine lz2 ?_ | refine lz3 ?_ | refine lz4 ?_)); omega))
  have HB6 : Hid (Below w.heap.size w W6) := HB5.out.trans (b6.mono HB5.out.size)
  obtain ⟨b8, hb8⟩ : ∃ b8, b8 = w5.heap.size := ⟨_, rfl⟩
  obtain ⟨b9, hb9⟩ : ∃ b9, b9 = w5.heap.size + 1 := ⟨_, rfl⟩
  have X8 : Hid (BoxC b8 CA CA.l.length W6) := ⟨a3, c3, by rw [hW6, hb8]; (repeat (first | (with_reducible refine bw5 ?_ _; (first | rfl | (simp; done) | omega | (simp; omega)); done) | with_reducible refine bw6 ?_ _ | with_reducible refine bw7 ?_ | with_reducible refine bw8 ?_)), S5.out.below b6, HX3.out⟩
  have X9 : Hid (BoxC b9 NA 0 W6) := ⟨a5, c5, by rw [hW6, hb9]; (repeat (first | (with_reducible refine bw5 ?_ _; (first | rfl | (simp; done) | omega | (simp; omega)); done) | with_reducible refine bw6 ?_ _ | with_reducible refine bw7 ?_ | with_reducible refine bw8 ?_)), N5.out.below b6, Nat.zero_le _⟩
  rw [← hb9, ← hb8]
  clear hW6 b6 HB5 S5 N5 HX3 hb8 hb9
  obtain ⟨XA, hXA⟩ : ∃ XA, XA = CA := ⟨_, rfl⟩
  obtain ⟨XM, hXM⟩ : ∃ XM, XM = MA := ⟨_, rfl⟩
  have KBX : Hid (BinK s XA VA XM) := by rw [hXA, hXM]; exact KBIN
  obtain ⟨ax, cx, hx8, sx8, _⟩ := X8.out
  have HXB : Hid (W6.heap[b8]? = some (.cells #[.int .i64 XA.r, .int .i64 XA.c, .slice ax XA.l.length cx] 28)) := by rw [hXA]; exact hx8
  have SXB : Hid (SlB 0 W6 ax XA.l) := by rw [hXA]; exact sx8
  have HTr := Lib.hid (HT.out.below HB6.out)
  have HXM := Lib.hid hXM
  clear hx8 sx8 hXA hXM
  rename World => Wr
  go_cut [10, 11] (fun s10 s11 wx => ∃ b10, s10 = .pointer (some ⟨b10, 0, none⟩) ∧ s11 = .bool true ∧ Hid (BoxC b10 XM 0 wx) ∧ Hid (Below Wr.heap.size Wr wx))
  case first =>
    refine wp_region_par [] [0, 1, 2, 3, 4, 5, 6, 7, 8, 10] [9] [11, 12] (OpW [isV (.string s), isA XA, isV (.int .i16 v), isV (.int .i64 v), isV (vagg uv), isA VA, isP XM, isP XM, isA XM, isV (.bool true), isBox Wr.heap.size]) (by kernel_rfl) (by kernel_rfl) (OpW.stab ?_) rfl ?_ ?_ ?_
    · intro p hp
      simp only [List.mem_cons, List.mem_nil_iff, or_false] at hp
      rcases hp with rfl | rfl | rfl | rfl | rfl | rfl | rfl | rfl | rfl | rfl | rfl <;> first | exact isV.stab _ | exact isA.stab _ | exact isP.stab _ | exact isBox.stab _
    · refine ⟨?_, ?_, ?_, ?_, ?_, ?_, ?_, ?_, ?_, ?_, trivial⟩
      · refine ⟨_, by (rw [List.getElem?_toArray]; (repeat rw [List.getElem?_cons_succ]); rw [List.getElem?_cons_zero]), rfl, fun q u hb hold hd K hK0 => ?_⟩
        have hK := fun v w' h1 h2 => hK0 v w' h1 h2 (fun h => absurd h (by simp))
        clear hK0
        have e := (hold 7 (old_of (by kernel_rfl))).trans rfl
        clear hold hd
        go_simp
        exact hK _ _ (Below.refl _ _) rfl
      · refine ⟨_, by (rw [List.getElem?_toArray]; (repeat rw [List.getElem?_cons_succ]); rw [List.getElem?_cons_zero]), rfl, fun q u hb hold hd K hK0 => ?_⟩
        have hK := fun v w' h1 h2 => hK0 v w' h1 h2 (fun h => absurd h (by simp))
        clear hK0
        have e := (hold 8 (old_of (by kernel_rfl))).trans rfl
        have hb' := (Below.refl _ Wr).drew.trans hb
        have g := (hb'.block _ (lt_of_heap HXB.out)).trans HXB.out
        have c0 := cell_of_heap g 0
        have c1 := cell_of_heap g 1
        have c2 := cell_of_heap g 2
        have sx := Lib.hid (SXB.out.below hb')
        clear g hold hd hb'
        go_simp
        exact hK _ _ (Below.refl _ _) ⟨_, _, rfl, sx.out⟩
      · refine ⟨_, by (rw [List.getElem?_toArray]; (repeat rw [List.getElem?_cons_succ]); rw [List.getElem?_cons_zero]), rfl, fun q u hb hold hd K hK0 => ?_⟩
        have hK := fun v w' h1 h2 => hK0 v w' h1 h2 (fun h => absurd h (by simp))
        clear hK0
        have e := (hold 1 (old_of (by kernel_rfl))).trans rfl
        clear hold hd
        go_simp
        exact hK _ _ (Below.refl _ _) rfl
      · refine ⟨_, by (rw [List.getElem?_toArray]; (repeat rw [List.getElem?_cons_succ]); rw [List.getElem?_cons_zero]), rfl, fun q u hb hold hd K hK0 => ?_⟩
        have hK := fun v w' h1 h2 => hK0 v w' h1 h2 (fun h => absurd h (by simp))
        clear hK0
        obtain ⟨v0, e0, tv⟩ := dep_val hd 2 44 rfl (by kernel_rfl) (by kernel_rfl)
        have tv : v0 = .int .i16 v := tv
        subst tv
        clear hold hd
        go_simp
        exact hK _ _ (Below.refl _ _) rfl
      · refine ⟨_, by (rw [List.getElem?_toArray]; (repeat rw [List.getElem?_cons_succ]); rw [List.getElem?_cons_zero]), rfl, fun q u hb hold hd K hK0 => ?_⟩
        have hK := fun v w' h1 h2 => hK0 v w' h1 h2 (fun h => absurd h (by simp))
        clear hK0
        obtain ⟨v0, e0, tv⟩ := dep_val hd 3 45 rfl (by kernel_rfl) (by kernel_rfl)
        have tv : v0 = .int .i64 v := tv
        subst tv
        clear hold hd
        go_simp
        refine (KCNT.out u).mono ?_
        rintro e2 u2 ⟨rfl, hb2⟩
        exact hK _ _ hb2 rfl
      · refine ⟨_, by (rw [List.getElem?_toArray]; (repeat rw [List.getElem?_cons_succ]); rw [List.getElem?_cons_zero]), rfl, fun q u hb hold hd K hK0 => ?_⟩
        have hK := fun v w' h1 h2 => hK0 v w' h1 h2 (fun h => absurd h (by simp))
        clear hK0
        obtain ⟨v0, e0, tv⟩ := dep_val hd 4 46 rfl (by kernel_rfl) (by kernel_rfl)
        have tv : v0 = vagg uv := tv
        subst tv
        clear hold hd
        go_simp
        refine (KONE.out u).mono ?_
        rintro e2 u2 ⟨x, rfl, ⟨a2, c2, rfl, hs2⟩, hb2⟩
        exact hK _ _ hb2 ⟨a2, c2, rfl, hs2.mono (Nat.zero_le _)⟩
      · refine ⟨_, by (rw [List.getElem?_toArray]; (repeat rw [List.getElem?_cons_succ]); rw [List.getElem?_cons_zero]), rfl, fun q u hb hold hd K hK0 => ?_⟩
        have hK := fun v w' h1 h2 => hK0 v w' h1 h2 (fun h => absurd h (by simp))
        clear hK0
        obtain ⟨v0, e0, tv⟩ := dep_val hd 0 42 rfl (by kernel_rfl) (by kernel_rfl)
        have tv : v0 = .string s := tv
        subst tv
        obtain ⟨v1, e1, a3, c3, rfl, hs3⟩ := dep_val hd 1 43 rfl (by kernel_rfl) (by kernel_rfl)
        obtain ⟨v5, e5, a5, c5, rfl, hs5⟩ := dep_val hd 5 47 rfl (by kernel_rfl) (by kernel_rfl)
        clear hold hd
        unfold arrA at e1 e5
        go_simp
        refine (KBX.out a3 a5 c3 c5 u hs3 hs5 (HTr.out.below ((Below.refl _ Wr).drew.trans hb))).mono ?_
        rintro e2 u2 ⟨x, rfl, ⟨a2, c2, rfl, hs2⟩, hb2⟩
        exact hK _ _ hb2 ⟨a2, c2, rfl, hs2.mono (Nat.zero_le _)⟩
      · refine ⟨_, by (rw [List.getElem?_toArray]; (repeat rw [List.getElem?_cons_succ]); rw [List.getElem?_cons_zero]), rfl, fun q u hb hold hd K hK0 => ?_⟩
        have hK := fun v w' h1 h2 => hK0 v w' h1 h2 (fun h => absurd h (by simp))
        clear hK0
        obtain ⟨v, e, a3, c3, rfl, hs3⟩ := dep_val hd 6 48 rfl (by kernel_rfl) (by kernel_rfl)
        clear hold hd
        go_simp
        exact hK _ _ (Below.refl _ _) ⟨a3, c3, rfl, hs3⟩
      · refine ⟨_, by (rw [List.getElem?_toArray]; (repeat rw [List.getElem?_cons_succ]); rw [List.getElem?_cons_zero]), rfl, fun q u hb hold hd K hK0 => ?_⟩
        have hK := fun v w' h1 h2 => hK0 v w' h1 h2 (fun h => absurd h (by simp))
        clear hK0
        obtain ⟨v, e, a3, c3, rfl, hs3⟩ := dep_val hd 7 41 rfl (by kernel_rfl) (by kernel_rfl)
        clear hold hd
        go_simp
        exact hK _ _ (Below.refl _ _) ⟨a3, c3, rfl, hs3⟩
      · refine ⟨_, by (rw [List.getElem?_toArray]; (repeat rw [List.getElem?_cons_succ]); rw [List.getElem?_cons_zero]), rfl, fun q u hb hold hd K hK0 => ?_⟩
        have hK := fun v w' h1 h2 => hK0 v w' h1 h2 (fun h => absurd h (by simp))
        clear hK0
        clear hold hd
        go_simp
        exact hK _ _ (below_alloc u _ _ (Nat.le_refl _)) ⟨u.heap.size, rfl, hb.size, heap_alloc_new u _⟩
    · refine ⟨⟨_, by (rw [List.getElem?_toArray]; (repeat rw [List.getElem?_cons_succ]); rw [List.getElem?_cons_zero]), rfl, fun q u hd => ?_⟩, trivial⟩
      obtain ⟨v, e, a3, c3, rfl, hs3⟩ := dep_val hd 7 41 rfl (by kernel_rfl) (by kernel_rfl)
      refine ⟨.bool true, rfl, fun W => ?_⟩
      clear hd
      go_simp
    · intro vals u hb hall _
      have hb' : Below Wr.heap.size Wr u := (Below.refl _ Wr).drew.trans hb
      obtain ⟨ay, cy, h8, sy⟩ : isA XM (vals 8) u := hall 8 (by simp)
      have h9 : vals 9 = .bool true := hall 9 (by simp)
      obtain ⟨bb, h10, hbb, hbc⟩ : isBox Wr.heap.size (vals 10) u := hall 10 (by simp)
      unfold arrA at h8
      have HSY := Lib.hid sy
      have HBB := Lib.hid hbb
      have HBC := Lib.hid hbc
      have HBU := Lib.hid hb'
      clear hall hb hb' sy hbb
      simp only [putAll, dstOf, List.cons_append, List.nil_append, List.getElem?_toArray, List.getElem?_cons_zero, List.getElem?_cons_succ, Option.bind_some, Act.put, h8, h9, h10]
      generalize vals 0 = v0
      generalize vals 1 = v1
      generalize vals 2 = v2
      generalize vals 3 = v3
      generalize vals 4 = v4
      generalize vals 5 = v5
      generalize vals 6 = v6
      generalize vals 7 = v7
      clear h8 h9 h10
      have x0 := cell_of_heap hbc
      have y0 := frozen_of_heap hbc
      have z0 := lt_of_heap hbc
      clear hbc
      go_frame
      apply tail_step; (rw [List.getElem?_toArray]; (repeat rw [List.getElem?_cons_succ]); rw [List.getElem?_cons_zero]); rfl; rfl; intro K hK; go_simp; refine hK _ _ (fun _ => trivial) ?_; clear hK K
      apply tail_step; (rw [List.getElem?_toArray]; (repeat rw [List.getElem?_cons_succ]); rw [List.getElem?_cons_zero]); rfl; rfl; intro K hK; go_simp; refine hK _ _ (fun _ => trivial) ?_; clear hK K
      refine tail_done ?_
      clear x0 y0 z0
      go_wp2_with fail
      go_meet
      exact ⟨bb, rfl, rfl, ⟨ay, cy, boxed_at HBC.out XM.r XM.c (.slice ay XM.l.length cy), slb_boxed HSY.out HBC.out XM.r XM.c (.slice ay XM.l.length cy), Nat.zero_le _⟩, boxed_below HBU.out HBB.out XM.r XM.c (.slice ay XM.l.length cy)⟩
  case rest =>
  obtain ⟨b10, rfl, rfl, X10, BC⟩ := hcut
  have hXM := HXM.out
  subst XM
  rename World => Wa
  have HBa : Hid (Below w.heap.size w Wa) := HB6.out.trans (BC.out.mono HB6.out.size)
  have Y8 := Lib.hid (X8.out.below BC.out)
  have Y9 := Lib.hid (X9.out.below BC.out)
  clear KBX HXB SXB HTr X8 X9 HB6 BC
  obtain ⟨ay8, cy8, hy8, sy8, ly8⟩ := Y8.out
  obtain ⟨ay9, cy9, hy9, sy9, _⟩ := Y9.out
  obtain ⟨ay10, cy10, hy10, sy10, _⟩ := X10.out
  have q8 := cell_of_heap hy8
  have q9 := cell_of_heap hy9
  have q10 := cell_of_heap hy10
  have z8 := lt_of_heap hy8
  have z9 := lt_of_heap hy9
  have z10 := lt_of_heap hy10
  have AT := Lib.hid (args_three (ca := cy8) (cb := cy10) (cc := cy9) sy8 sy10 sy9)
  have AB := Lib.hid (below_alloc Wa (.cells #[.int .i64 CA.r, .int .i64 CA.c, .slice ay8 CA.l.length cy8, .int .i64 MA.r, .int .i64 MA.c, .slice ay10 MA.l.length cy10, .int .i64 NA.r, .int .i64 NA.c, .slice ay9 NA.l.length cy9] 28) _ (Nat.le_refl _))
  have AC : Hid ((Wa.alloc (.cells #[.int .i64 CA.r, .int .i64 CA.c, .slice ay8 CA.l.length cy8, .int .i64 MA.r, .int .i64 MA.c, .slice ay10 MA.l.length cy10, .int .i64 NA.r, .int .i64 NA.c, .slice ay9 NA.l.length cy9] 28)).cell? ⟨Wa.heap.size, 2, none⟩ = some (.slice ay8 CA.l.length cy8)) := cell_of_heap (heap_alloc_new Wa _) 2
  have SY8 := Lib.hid sy8
  have LY8 := Lib.hid ly8
  clear hy8 hy9 hy10 sy8 sy9 sy10 ly8
  go_wp2_with fail
  refine (KFIL.out Wa.heap.size 3 cy8 ay8 _ AT.out (by simp) AC.out (SY8.out.below AB.out) LY8.out (HT.out.below (HBa.out.trans (AB.out.mono HBa.out.size)))).mono ?_
  rintro e w7 ⟨a7, c7, rfl, hx7, hs7, hb7⟩
  have b7 : Below Wa.heap.size Wa w7 := AB.out.trans (hb7.mono (by simp))
  have HB7 := Lib.hid b7
  have HX7 := Lib.hid hx7
  have S7 := Lib.hid (hs7.mono (Nat.zero_le _))
  clear hx7 hs7 hb7 b7 q8 q9 q10 z8 z9 z10 AT AB AC SY8 LY8
  go_upto_region 7 with fail
  refine abs_world ?_
  intro Wb hWb
  have bb : Below w7.heap.size w7 Wb := by rw [hWb]; (repeat with_reducible (first | exact bw0 _ _ | exact hBW | refine bw1 ?_ ?_ _ | refine bw2 ?_ ?_ _ | refine bw3 ?_ _ | refine bw4 ?_)); all_goals (first | omega | (dsimp only; omega) | ((repeat with_reducible (first | refine lz1 ?_ | refine lz2 ?_ | refine lz3 ?_ | refine lz4 ?_)); omega))
  obtain ⟨b12, hb12⟩ : ∃ b12, b12 = w7.heap.size := ⟨_, rfl⟩
  have X12 : Hid (BoxC b12 FA FA.l.length Wb) := ⟨a7, c7, by rw [hWb, hb12]; (repeat (first | (with_reducible refine bw5 ?_ _; (first | rfl | (simp; done) | omega | (simp; omega)); done) | with_reducible refine bw6 ?_ _ | with_reducible refine bw7 ?_ | with_reducible refine bw8 ?_)), S7.out.below bb, HX7.out⟩
  have bab := HB7.out.trans (bb.mono HB7.out.size)
  have HBb : Hid (Below w.heap.size w Wb) := HBa.out.trans (bab.mono HBa.out.size)
  have Z8 := Lib.hid (Y8.out.below bab)
  have Z9 := Lib.hid (Y9.out.below bab)
  have Z10 := Lib.hid (X10.out.below bab)
  rw [← hb12]
  clear hWb bb bab HB7 S7 HX7 hb12 Y8 Y9 X10 HBa
  obtain ⟨XQ, hXQ⟩ : ∃ XQ, XQ = QA := ⟨_, rfl⟩
  have KXQ : Hid (ArgK [CA, TA] 2 sCOUNTIF XQ) := by rw [hXQ]; exact KCI
  have HXQ := Lib.hid hXQ
  obtain ⟨ax, cx, hx8, sx8, _⟩ := Z8.out
  have HXB := Lib.hid hx8
  have SXB := Lib.hid sx8
  have HTr := Lib.hid (HT.out.below HBb.out)
  clear hx8 sx8 hXQ
  rename World => Wr
  go_cut [13] (fun s13 wx => ∃ b13, s13 = .pointer (some ⟨b13, 0, none⟩) ∧ Hid (BoxC b13 XQ 0 wx) ∧ Hid (Below Wr.heap.size Wr wx))
  case first =>
    refine wp_region_par [] [0, 1, 2, 3, 4, 5, 6, 7] [] [8] (OpW [isA CA, isV (.string s), isV (.int .i16 v), isV (.int .i64 v), isA TA, isArg [CA, TA], isA XQ, isBox Wr.heap.size]) (by kernel_rfl) (by kernel_rfl) (OpW.stab ?_) rfl ?_ trivial ?_
    · intro p hp
      simp only [List.mem_cons, List.mem_nil_iff, or_false] at hp
      rcases hp with rfl | rfl | rfl | rfl | rfl | rfl | rfl | rfl <;> first | exact isV.stab _ | exact isArg.stab _ | exact isA.stab _ | exact isBox.stab _
    · refine ⟨?_, ?_, ?_, ?_, ?_, ?_, ?_, ?_, trivial⟩
      · refine ⟨_, by (rw [List.getElem?_toArray]; (repeat rw [List.getElem?_cons_succ]); rw [List.getElem?_cons_zero]), rfl, fun q u hb hold hd K hK0 => ?_⟩
        have hK := fun v w' h1 h2 => hK0 v w' h1 h2 (fun h => absurd h (by simp))
        clear hK0
        have e := (hold 8 (old_of (by kernel_rfl))).trans rfl
        have hb' := (Below.refl _ Wr).drew.trans hb
        have g := (hb'.block _ (lt_of_heap HXB.out)).trans HXB.out
        have c0 := cell_of_heap g 0
        have c1 := cell_of_heap g 1
        have c2 := cell_of_heap g 2
        have sx := Lib.hid (SXB.out.below hb')
        clear g hold hd hb'
        go_simp
        exact hK _ _ (Below.refl _ _) ⟨_, _, rfl, sx.out⟩
      · refine ⟨_, by (rw [List.getElem?_toArray]; (repeat rw [List.getElem?_cons_succ]); rw [List.getElem?_cons_zero]), rfl, fun q u hb hold hd K hK0 => ?_⟩
        have hK := fun v w' h1 h2 => hK0 v w' h1 h2 (fun h => absurd h (by simp))
        clear hK0
        have e := (hold 7 (old_of (by kernel_rfl))).trans rfl
        clear hold hd
        go_simp
        exact hK _ _ (Below.refl _ _) rfl
      · refine ⟨_, by (rw [List.getElem?_toArray]; (repeat rw [List.getElem?_cons_succ]); rw [List.getElem?_cons_zero]), rfl, fun q u hb hold hd K hK0 => ?_⟩
        have hK := fun v w' h1 h2 => hK0 v w' h1 h2 (fun h => absurd h (by simp))
        clear hK0
        have e := (hold 1 (old_of (by kernel_rfl))).trans rfl
        clear hold hd
        go_simp
        exact hK _ _ (Below.refl _ _) rfl
      · refine ⟨_, by (rw [List.getElem?_toArray]; (repeat rw [List.getElem?_cons_succ]); rw [List.getElem?_cons_zero]), rfl, fun q u hb hold hd K hK0 => ?_⟩
        have hK := fun v w' h1 h2 => hK0 v w' h1 h2 (fun h => absurd h (by simp))
        clear hK0
        obtain ⟨v0, e0, tv⟩ := dep_val hd 2 58 rfl (by kernel_rfl) (by kernel_rfl)
        have tv : v0 = .int .i16 v := tv
        subst tv
        clear hold hd
        go_simp
        exact hK _ _ (Below.refl _ _) rfl
      · refine ⟨_, by (rw [List.getElem?_toArray]; (repeat rw [List.getElem?_cons_succ]); rw [List.getElem?_cons_zero]), rfl, fun q u hb hold hd K hK0 => ?_⟩
        have hK := fun v w' h1 h2 => hK0 v w' h1 h2 (fun h => absurd h (by simp))
        clear hK0
        obtain ⟨v0, e0, tv⟩ := dep_val hd 1 57 rfl (by kernel_rfl) (by kernel_rfl)
        have tv : v0 = .string s := tv
        subst tv
        obtain ⟨v1, e1, tv⟩ := dep_val hd 3 59 rfl (by kernel_rfl) (by kernel_rfl)
        have tv : v1 = .int .i64 v := tv
        subst tv
        clear hold hd
        go_simp
        refine (KTHAN.out u).mono ?_
        rintro e2 u2 ⟨x, rfl, ⟨a2, c2, rfl, hs2⟩, hb2⟩
        exact hK _ _ hb2 ⟨a2, c2, rfl, hs2.mono (Nat.zero_le _)⟩
      · refine ⟨_, by (rw [List.getElem?_toArray]; (repeat rw [List.getElem?_cons_succ]); rw [List.getElem?_cons_zero]), rfl, fun q u hb hold hd K hK0 => ?_⟩
        have hK := fun v w' h1 h2 => hK0 v w' h1 h2 (fun h => absurd h (by simp))
        clear hK0
        obtain ⟨v0, e0, a3, c3, rfl, hs3⟩ := dep_val hd 0 56 rfl (by kernel_rfl) (by kernel_rfl)
        obtain ⟨v1, e1, a6, c6, rfl, hs6⟩ := dep_val hd 4 60 rfl (by kernel_rfl) (by kernel_rfl)
        clear hold hd
        unfold arrA at e0 e1
        go_simp
        exact hK _ _ (below_alloc u _ _ (Nat.le_refl _)) ⟨u.heap.size, rfl, args_two hs3 hs6⟩
      · refine ⟨_, by (rw [List.getElem?_toArray]; (repeat rw [List.getElem?_cons_succ]); rw [List.getElem?_cons_zero]), rfl, fun q u hb hold hd K hK0 => ?_⟩
        have hK := fun v w' h1 h2 => hK0 v w' h1 h2 (fun h => absurd h (by simp))
        clear hK0
        obtain ⟨v, e, b2, rfl, hargs⟩ := dep_val hd 5 61 rfl (by kernel_rfl) (by kernel_rfl)
        simp only [List.length_cons, List.length_nil, Nat.zero_add] at e
        clear hold hd
        go_simp
        refine (KXQ.out _ 2 u (Nat.le_refl _) hargs (HTr.out.below ((Below.refl _ Wr).drew.trans hb))).mono ?_
        rintro e2 u2 ⟨x, rfl, ⟨a2, c2, rfl, hs2⟩, hb2⟩
        exact hK _ _ hb2 ⟨a2, c2, rfl, hs2.mono (Nat.zero_le _)⟩
      · refine ⟨_, by (rw [List.getElem?_toArray]; (repeat rw [List.getElem?_cons_succ]); rw [List.getElem?_cons_zero]), rfl, fun q u hb hold hd K hK0 => ?_⟩
        have hK := fun v w' h1 h2 => hK0 v w' h1 h2 (fun h => absurd h (by simp))
        clear hK0
        clear hold hd
        go_simp
        exact hK _ _ (below_alloc u _ _ (Nat.le_refl _)) ⟨u.heap.size, rfl, hb.size, heap_alloc_new u _⟩
    · intro vals u hb hall _
      have hb' : Below Wr.heap.size Wr u := (Below.refl _ Wr).drew.trans hb
      obtain ⟨ay, cy, h6, sy⟩ : isA XQ (vals 6) u := hall 6 (by simp)
      obtain ⟨bb, h7, hbb, hbc⟩ : isBox Wr.heap.size (vals 7) u := hall 7 (by simp)
      unfold arrA at h6
      have HSY := Lib.hid sy
      have HBB := Lib.hid hbb
      have HBC := Lib.hid hbc
      have HBU := Lib.hid hb'
      clear hall hb hb' sy hbb
      simp only [putAll, dstOf, List.append_nil, List.getElem?_toArray, List.getElem?_cons_zero, List.getElem?_cons_succ, Option.bind_some, Act.put, h6, h7]
      generalize vals 0 = v0
      generalize vals 1 = v1
      generalize vals 2 = v2
      generalize vals 3 = v3
      generalize vals 4 = v4
      generalize vals 5 = v5
      clear h6 h7
      have x0 := cell_of_heap hbc
      have y0 := frozen_of_heap hbc
      have z0 := lt_of_heap hbc
      clear hbc
      go_frame
      apply tail_step; (rw [List.getElem?_toArray]; (repeat rw [List.getElem?_cons_succ]); rw [List.getElem?_cons_zero]); rfl; rfl; intro K hK; go_simp; refine hK _ _ (fun _ => trivial) ?_; clear hK K
      refine tail_done ?_
      clear x0 y0 z0
      go_wp2_with fail
      go_meet
      exact ⟨bb, rfl, ⟨ay, cy, boxed_at HBC.out XQ.r XQ.c (.slice ay XQ.l.length cy), slb_boxed HSY.out HBC.out XQ.r XQ.c (.slice ay XQ.l.length cy), Nat.zero_le _⟩, boxed_below HBU.out HBB.out XQ.r XQ.c (.slice ay XQ.l.length cy)⟩
  case rest =>
  obtain ⟨b13, rfl, X13, BC⟩ := hcut
  have hXQ := HXQ.out
  subst XQ
  rename World => Wc
  have HBc : Hid (Below w.heap.size w Wc) := HBb.out.trans (BC.out.mono HBb.out.size)
  have Y8 := Lib.hid (Z8.out.below BC.out)
  have Y9 := Lib.hid (Z9.out.below BC.out)
  have Y10 := Lib.hid (Z10.out.below BC.out)
  have Y12 := Lib.hid (X12.out.below BC.out)
  clear KXQ HXB SXB HTr Z8 Z9 Z10 X12 HBb BC
  obtain ⟨XQ, hXQ⟩ : ∃ XQ, XQ = SA := ⟨_, rfl⟩
  have KXQ : Hid (ArgK [CA, TA] 2 sSUMIF XQ) := by rw [hXQ]; exact KSI
  have HXQ := Lib.hid hXQ
  obtain ⟨ax, cx, hx8, sx8, _⟩ := Y8.out
  have HXB := Lib.hid hx8
  have SXB := Lib.hid sx8
  have HTr := Lib.hid (HT.out.below HBc.out)
  clear hx8 sx8 hXQ
  rename World => Wr
  go_upto_region 8 with fail
  go_cut [14] (fun s14 wx => ∃ b14, s14 = .pointer (some ⟨b14, 0, none⟩) ∧ Hid (BoxC b14 XQ 0 wx) ∧ Hid (Below Wr.heap.size Wr wx))
  case first =>
    refine wp_region_par [] [0, 1, 2, 3, 4, 5, 6, 7] [] [8] (OpW [isA CA, isV (.string s), isV (.int .i16 v), isV (.int .i64 v), isA TA, isArg [CA, TA], isA XQ, isBox Wr.heap.size]) (by kernel_rfl) (by kernel_rfl) (OpW.stab ?_) rfl ?_ trivial ?_
    · intro p hp
      simp only [List.mem_cons, List.mem_nil_iff, or_false] at hp
      rcases hp with rfl | rfl | rfl | rfl | rfl | rfl | rfl | rfl <;> first | exact isV.stab _ | exact isArg.stab _ | exact isA.stab _ | exact isBox.stab _
    · refine ⟨?_, ?_, ?_, ?_, ?_, ?_, ?_, ?_, trivial⟩
      · refine ⟨_, by (rw [List.getElem?_toArray]; (repeat rw [List.getElem?_cons_succ]); rw [List.getElem?_cons_zero]), rfl, fun q u hb hold hd K hK0 => ?_⟩
        have hK := fun v w' h1 h2 => hK0 v w' h1 h2 (fun h => absurd h (by simp))
        clear hK0
        have e := (hold 8 (old_of (by kernel_rfl))).trans rfl
        have hb' := (Below.refl _ Wr).drew.trans hb
        have g := (hb'.block _ (lt_of_heap HXB.out)).trans HXB.out
        have c0 := cell_of_heap g 0
        have c1 := cell_of_heap g 1
        have c2 := cell_of_heap g 2
        have sx := Lib.hid (SXB.out.below hb')
        clear g hold hd hb'
        go_simp
        exact hK _ _ (Below.refl _ _) ⟨_, _, rfl, sx.out⟩
      · refine ⟨_, by (rw [List.getElem?_toArray]; (repeat rw [List.getElem?_cons_succ]); rw [List.getElem?_cons_zero]), rfl, fun q u hb hold hd K hK0 => ?_⟩
        have hK := fun v w' h1 h2 => hK0 v w' h1 h2 (fun h => absurd h (by simp))
        clear hK0
        have e := (hold 7 (old_of (by kernel_rfl))).trans rfl
        clear hold hd
        go_simp
        exact hK _ _ (Below.refl _ _) rfl
      · refine ⟨_, by (rw [List.getElem?_toArray]; (repeat rw [List.getElem?_cons_succ]); rw [List.getElem?_cons_zero]), rfl, fun q u hb hold hd K hK0 => ?_⟩
        have hK := fun v w' h1 h2 => hK0 v w' h1 h2 (fun h => absurd h (by simp))
        clear hK0
        have e := (hold 1 (old_of (by kernel_rfl))).trans rfl
        clear hold hd
        go_simp
        exact hK _ _ (Below.refl _ _) rfl
      · refine ⟨_, by (rw [List.getElem?_toArray]; (repeat rw [List.getElem?_cons_succ]); rw [List.getElem?_cons_zero]), rfl, fun q u hb hold hd K hK0 => ?_⟩
        have hK := fun v w' h1 h2 => hK0 v w' h1 h2 (fun h => absurd h (by simp))
        clear hK0
        obtain ⟨v0, e0, tv⟩ := dep_val hd 2 65 rfl (by kernel_rfl) (by kernel_rfl)
        have tv : v0 = .int .i16 v := tv
        subst tv
        clear hold hd
        go_simp
        exact hK _ _ (Below.refl _ _) rfl
      · refine ⟨_, by (rw [List.getElem?_toArray]; (repeat rw [List.getElem?_cons_succ]); rw [List.getElem?_cons_zero]), rfl, fun q u hb hold hd K hK0 => ?_⟩
        have hK := fun v w' h1 h2 => hK0 v w' h1 h2 (fun h => absurd h (by simp))
        clear hK0
        obtain ⟨v0, e0, tv⟩ := dep_val hd 1 64 rfl (by kernel_rfl) (by kernel_rfl)
        have tv : v0 = .string s := tv
        subst tv
        obtain ⟨v1, e1, tv⟩ := dep_val hd 3 66 rfl (by kernel_rfl) (by kernel_rfl)
        have tv : v1 = .int .i64 v := tv
        subst tv
        clear hold hd
        go_simp
        refine (KTHAN.out u).mono ?_
        rintro e2 u2 ⟨x, rfl, ⟨a2, c2, rfl, hs2⟩, hb2⟩
        exact hK _ _ hb2 ⟨a2, c2, rfl, hs2.mono (Nat.zero_le _)⟩
      · refine ⟨_, by (rw [List.getElem?_toArray]; (repeat rw [List.getElem?_cons_succ]); rw [List.getElem?_cons_zero]), rfl, fun q u hb hold hd K hK0 => ?_⟩
        have hK := fun v w' h1 h2 => hK0 v w' h1 h2 (fun h => absurd h (by simp))
        clear hK0
        obtain ⟨v0, e0, a3, c3, rfl, hs3⟩ := dep_val hd 0 63 rfl (by kernel_rfl) (by kernel_rfl)
        obtain ⟨v1, e1, a6, c6, rfl, hs6⟩ := dep_val hd 4 67 rfl (by kernel_rfl) (by kernel_rfl)
        clear hold hd
        unfold arrA at e0 e1
        go_simp
        exact hK _ _ (below_alloc u _ _ (Nat.le_refl _)) ⟨u.heap.size, rfl, args_two hs3 hs6⟩
      · refine ⟨_, by (rw [List.getElem?_toArray]; (repeat rw [List.getElem?_cons_succ]); rw [List.getElem?_cons_zero]), rfl, fun q u hb hold hd K hK0 => ?_⟩
        have hK := fun v w' h1 h2 => hK0 v w' h1 h2 (fun h => absurd h (by simp))
        clear hK0
        obtain ⟨v, e, b2, rfl, hargs⟩ := dep_val hd 5 68 rfl (by kernel_rfl) (by kernel_rfl)
        simp only [List.length_cons, List.length_nil, Nat.zero_add] at e
        clear hold hd
        go_simp
        refine (KXQ.out _ 2 u (Nat.le_refl _) hargs (HTr.out.below ((Below.refl _ Wr).drew.trans hb))).mono ?_
        rintro e2 u2 ⟨x, rfl, ⟨a2, c2, rfl, hs2⟩, hb2⟩
        exact hK _ _ hb2 ⟨a2, c2, rfl, hs2.mono (Nat.zero_le _)⟩
      · refine ⟨_, by (rw [List.getElem?_toArray]; (repeat rw [List.getElem?_cons_succ]); rw [List.getElem?_cons_zero]), rfl, fun q u hb hold hd K hK0 => ?_⟩
        have hK := fun v w' h1 h2 => hK0 v w' h1 h2 (fun h => absurd h (by simp))
        clear hK0
        clear hold hd
        go_simp
        exact hK _ _ (below_alloc u _ _ (Nat.le_refl _)) ⟨u.heap.size, rfl, hb.size, heap_alloc_new u _⟩
    · intro vals u hb hall _
      have hb' : Below Wr.heap.size Wr u := (Below.refl _ Wr).drew.trans hb
      obtain ⟨ay, cy, h6, sy⟩ : isA XQ (vals 6) u := hall 6 (by simp)
      obtain ⟨bb, h7, hbb, hbc⟩ : isBox Wr.heap.size (vals 7) u := hall 7 (by simp)
      unfold arrA at h6
      have HSY := Lib.hid sy
      have HBB := Lib.hid hbb
      have HBC := Lib.hid hbc
      have HBU := Lib.hid hb'
      clear hall hb hb' sy hbb
      simp only [putAll, dstOf, List.append_nil, List.getElem?_toArray, List.getElem?_cons_zero, List.getElem?_cons_succ, Option.bind_some, Act.put, h6, h7]
      generalize vals 0 = v0
      generalize vals 1 = v1
      generalize vals 2 = v2
      generalize vals 3 = v3
      generalize vals 4 = v4
      generalize vals 5 = v5
      clear h6 h7
      have x0 := cell_of_heap hbc
      have y0 := frozen_of_heap hbc
      have z0 := lt_of_heap hbc
      clear hbc
      go_frame
      apply tail_step; (rw [List.getElem?_toArray]; (repeat rw [List.getElem?_cons_succ]); rw [List.getElem?_cons_zero]); rfl; rfl; intro K hK; go_simp; refine hK _ _ (fun _ => trivial) ?_; clear hK K
      refine tail_done ?_
      clear x0 y0 z0
      go_wp2_with fail
      go_meet
      exact ⟨bb, rfl, ⟨ay, cy, boxed_at HBC.out XQ.r XQ.c (.slice ay XQ.l.length cy), slb_boxed HSY.out HBC.out XQ.r XQ.c (.slice ay XQ.l.length cy), Nat.zero_le _⟩, boxed_below HBU.out HBB.out XQ.r XQ.c (.slice ay XQ.l.length cy)⟩
  case rest =>
  obtain ⟨b14, rfl, X14, BC⟩ := hcut
  have hXQ := HXQ.out
  subst XQ
  rename World => Wd
  have HBd : Hid (Below w.heap.size w Wd) := HBc.out.trans (BC.out.mono HBc.out.size)
  have Z8 := Lib.hid (Y8.out.below BC.out)
  have Z9 := Lib.hid (Y9.out.below BC.out)
  have Z10 := Lib.hid (Y10.out.below BC.out)
  have Z12 := Lib.hid (Y12.out.below BC.out)
  have Z13 := Lib.hid (X13.out.below BC.out)
  clear KXQ HXB SXB HTr Y8 Y9 Y10 Y12 X13 HBc BC
  obtain ⟨ay13, cy13, hy13, sy13, _⟩ := Z13.out
  have q13 := cell_of_heap hy13
  have z13 := lt_of_heap hy13
  have SY13 := Lib.hid sy13
  clear hy13 sy13
  go_upto_region 9 with fail
  refine wp_region_multiR [([0], [1, 2, 3], [3])] (by kernel_rfl) (by kernel_rfl) ?_
  refine multi_phase (Below Wd.heap.size Wd) (Below.refl _ _).drew ?_
  (first | (apply first_step; (rw [List.getElem?_toArray]; (repeat rw [List.getElem?_cons_succ]); rw [List.getElem?_cons_zero]); rfl; (intro W hB; have hc := bcellB hB; go_simp; (first | done | rfl)); go_frame) | (apply first_skip; (rw [List.getElem?_toArray]; (repeat rw [List.getElem?_cons_succ]); rw [List.getElem?_cons_zero]); rfl; go_frame))
  refine first_done ?_
  apply forced_step; (rw [List.getElem?_toArray]; (repeat rw [List.getElem?_cons_succ]); rw [List.getElem?_cons_zero]); rfl; intro K hK; go_simp
  refine (KZERO.out _).mono ?_
  rintro e w8 ⟨rfl, hb8⟩
  have b8' : Below Wd.heap.size Wd w8 := (Below.refl _ Wd).drew.trans hb8
  refine hK _ _ (fun _ => b8') ?_
  clear hK K hb8
  apply forced_step; (rw [List.getElem?_toArray]; (repeat rw [List.getElem?_cons_succ]); rw [List.getElem?_cons_zero]); rfl; intro K hK; go_simp
  refine (KONEZ.out _).mono ?_
  rintro e w9 ⟨x, rfl, ⟨a9, c9, rfl, hs9⟩, hb9⟩
  have b9' : Below Wd.heap.size Wd w9 := b8'.trans (hb9.mono b8'.size)
  refine hK _ _ (fun _ => b9') ?_
  have HB9 := Lib.hid b9'
  have S9 := Lib.hid (hs9.mono (Nat.zero_le _))
  clear hK K hb9 b8' b9' hs9
  apply forced_step; (rw [List.getElem?_toArray]; (repeat rw [List.getElem?_cons_succ]); rw [List.getElem?_cons_zero]); rfl; intro K hK; go_simp
  refine (KSAMEZ.out _ _ _ ⟨ay13, cy13, rfl, SY13.out.below HB9.out⟩ ⟨a9, c9, rfl, S9.out⟩).mono ?_
  rintro e we ⟨rfl, hbe⟩
  refine hK _ _ (fun h => absurd (by decide) h) ?_
  have be := HB9.out.trans (hbe.mono HB9.out.size)
  have HBe : Hid (Below w.heap.size w we) := HBd.out.trans (be.mono HBd.out.size)
  have Y8 := Lib.hid (Z8.out.below be)
  have Y9 := Lib.hid (Z9.out.below be)
  have Y10 := Lib.hid (Z10.out.below be)
  have Y12 := Lib.hid (Z12.out.below be)
  have Y13 := Lib.hid (Z13.out.below be)
  have Y14 := Lib.hid (X14.out.below be)
  clear hK K hbe be HB9 S9 SY13 Z8 Z9 Z10 Z12 Z13 X14 HBd q13 z13
  refine forced_done ?_
  refine multi_done ?_
  cases zz with
  | true =>
    obtain ⟨hz1, hz2⟩ := HZ.out rfl
    subst hz1 hz2
    obtain ⟨a12, c12, h12, s12, _⟩ := Y12.out
    obtain ⟨a9, c9, h9, s9, _⟩ := Y9.out
    have x12 := cell_of_heap h12
    have x9 := cell_of_heap h9
    have z12 := lt_of_heap h12
    have z9 := lt_of_heap h9
    have K1 := Lib.hid (KSN.out _ _ we ⟨a12, c12, rfl, s12⟩ ⟨a9, c9, rfl, s9⟩)
    clear h12 s12 h9 s9
    go_wp2_with fail
    refine K1.out.mono ?_
    rintro e wf ⟨rfl, hbf⟩
    have HBf := Lib.hid (HBe.out.trans (hbf.mono HBe.out.size))
    obtain ⟨a14, c14, h14, s14, _⟩ := Y14.out.below hbf
    obtain ⟨a13, c13, h13, s13, _⟩ := Y13.out.below hbf
    have x14 := cell_of_heap h14
    have x13 := cell_of_heap h13
    have z14 := lt_of_heap h14
    have z13 := lt_of_heap h13
    have K2 := Lib.hid (KSQ.out _ _ wf ⟨a14, c14, rfl, s14⟩ ⟨a13, c13, rfl, s13⟩)
    clear h14 s14 h13 s13 x12 x9 z12 z9 K1 hbf
    go_wp2_with fail
    refine K2.out.mono ?_
    rintro e wg ⟨rfl, hbg⟩
    have HBg := Lib.hid (HBf.out.trans (hbg.mono HBf.out.size))
    clear hbg K2 x14 x13 z14 z13
    go_wp2_with fail
    go_ret
    exact ⟨rfl, HBg.out⟩
  | false =>
    have JKSORT := Lib.hid (KSORT.out rfl)
    have JKBIN2 := Lib.hid (KBIN2.out rfl)
    have JKROWS := Lib.hid (KROWS.out rfl)
    have JKSUM := Lib.hid (KSUM.out rfl)
    have JKFIL2 := Lib.hid (KFIL2.out rfl)
    have JKSORT2 := Lib.hid (KSORT2.out rfl)
    clear KSORT KBIN2 KROWS KSUM KFIL2 KSORT2 HZ
    obtain ⟨ay8, cy8, hy8, sy8, ly8⟩ := Y8.out
    have q8 := cell_of_heap hy8
    have z8 := lt_of_heap hy8
    have AT := Lib.hid (args_one (ca := cy8) sy8)
    have AB := Lib.hid (below_alloc we (.cells #[.int .i64 CA.r, .int .i64 CA.c, .slice ay8 CA.l.length cy8] 28) _ (Nat.le_refl _))
    have AC : Hid ((we.alloc (.cells #[.int .i64 CA.r, .int .i64 CA.c, .slice ay8 CA.l.length cy8] 28)).cell? ⟨we.heap.size, 2, none⟩ = some (.slice ay8 CA.l.length cy8)) := cell_of_heap (heap_alloc_new we _) 2
    have SY8 := Lib.hid sy8
    have LY8 := Lib.hid ly8
    clear hy8 sy8 ly8
    go_wp2_with fail
    refine (JKSORT.out we.heap.size 1 cy8 ay8 _ AT.out (by simp) AC.out (SY8.out.below AB.out) LY8.out (HT.out.below (HBe.out.trans (AB.out.mono HBe.out.size)))).mono ?_
    rintro e w7 ⟨a7, c7, rfl, hx7, hs7, hb7⟩
    have b7 : Below we.heap.size we w7 := AB.out.trans (hb7.mono (by simp))
    have HB7 := Lib.hid b7
    have HX7 := Lib.hid hx7
    have S7 := Lib.hid (hs7.mono (Nat.zero_le _))
    clear hx7 hs7 hb7 b7 q8 z8 AT AB AC SY8 LY8 Y8 Y9 Y10
    go_upto_region 12 with fail
    refine abs_world ?_
    intro Wb hWb
    have bb : Below w7.heap.size w7 Wb := by rw [hWb]; (repeat with_reducible (first | exact bw0 _ _ | exact hBW | refine bw1 ?_ ?_ _ | refine bw2 ?_ ?_ _ | refine bw3 ?_ _ | refine bw4 ?_)); all_goals (first | omega | (dsimp only; omega) | ((repeat with_reducible (first | refine lz1 ?_ | refine lz2 ?_ | refine lz3 ?_ | refine lz4 ?_)); omega))
    obtain ⟨b15, hb15⟩ : ∃ b15, b15 = w7.heap.size := ⟨_, rfl⟩
    have X15 : Hid (BoxC b15 OA OA.l.length Wb) := ⟨a7, c7, by rw [hWb, hb15]; (repeat (first | (with_reducible refine bw5 ?_ _; (first | rfl | (simp; done) | omega | (simp; omega)); done) | with_reducible refine bw6 ?_ _ | with_reducible refine bw7 ?_ | with_reducible refine bw8 ?_)), S7.out.below bb, HX7.out⟩
    have bab := HB7.out.trans (bb.mono HB7.out.size)
    have HBb : Hid (Below w.heap.size w Wb) := HBe.out.trans (bab.mono HBe.out.size)
    have Z12 := Lib.hid (Y12.out.below bab)
    have Z13 := Lib.hid (Y13.out.below bab)
    have Z14 := Lib.hid (Y14.out.below bab)
    rw [← hb15]
    clear hWb bb bab HB7 S7 HX7 hb15 Y12 Y13 Y14 HBe
    obtain ⟨XA, hXA⟩ : ∃ XA, XA = OA := ⟨_, rfl⟩
    obtain ⟨XM, hXM⟩ : ∃ XM, XM = MB := ⟨_, rfl⟩
    have KBX : Hid (BinK s XA VA XM) := by rw [hXA, hXM]; exact JKBIN2
    obtain ⟨ax, cx, hx8, sx8, _⟩ := X15.out
    have HXB : Hid (Wb.heap[b15]? = some (.cells #[.int .i64 XA.r, .int .i64 XA.c, .slice ax XA.l.length cx] 28)) := by rw [hXA]; exact hx8
    have SXB : Hid (SlB 0 Wb ax XA.l) := by rw [hXA]; exact sx8
    have HTr := Lib.hid (HT.out.below HBb.out)
    have HXM := Lib.hid hXM
    clear hx8 sx8 hXA hXM
    rename World => Wr
    go_cut [16, 17] (fun s16 s17 wx => ∃ b16, s16 = .pointer (some ⟨b16, 0, none⟩) ∧ s17 = .bool true ∧ Hid (BoxC b16 XM 0 wx) ∧ Hid (Below Wr.heap.size Wr wx))
    case first =>
      refine wp_region_par [] [0, 1, 2, 3, 4, 5, 6, 7, 8, 10] [9] [11, 12] (OpW [isV (.string s), isA XA, isV (.int .i16 v), isV (.int .i64 v), isV (vagg uv), isA VA, isP XM, isP XM, isA XM, isV (.bool true), isBox Wr.heap.size]) (by kernel_rfl) (by kernel_rfl) (OpW.stab ?_) rfl ?_ ?_ ?_
      · intro p hp
        simp only [List.mem_cons, List.mem_nil_iff, or_false] at hp
        rcases hp with rfl | rfl | rfl | rfl | rfl | rfl | rfl | rfl | rfl | rfl | rfl <;> first | exact isV.stab _ | exact isA.stab _ | exact isP.stab _ | exact isBox.stab _
      · refine ⟨?_, ?_, ?_, ?_, ?_, ?_, ?_, ?_, ?_, ?_, trivial⟩
        · refine ⟨_, by (rw [List.getElem?_toArray]; (repeat rw [List.getElem?_cons_succ]); rw [List.getElem?_cons_zero]), rfl, fun q u hb hold hd K hK0 => ?_⟩
          have hK := fun v w' h1 h2 => hK0 v w' h1 h2 (fun h => absurd h (by simp))
          clear hK0
          have e := (hold 7 (old_of (by kernel_rfl))).trans rfl
          clear hold hd
          go_simp
          exact hK _ _ (Below.refl _ _) rfl
        · refine ⟨_, by (rw [List.getElem?_toArray]; (repeat rw [List.getElem?_cons_succ]); rw [List.getElem?_cons_zero]), rfl, fun q u hb hold hd K hK0 => ?_⟩
          have hK := fun v w' h1 h2 => hK0 v w' h1 h2 (fun h => absurd h (by simp))
          clear hK0
          have e := (hold 15 (old_of (by kernel_rfl))).trans rfl
          have hb' := (Below.refl _ Wr).drew.trans hb
          have g := (hb'.block _ (lt_of_heap HXB.out)).trans HXB.out
          have c0 := cell_of_heap g 0
          have c1 := cell_of_heap g 1
          have c2 := cell_of_heap g 2
          have sx := Lib.hid (SXB.out.below hb')
          clear g hold hd hb'
          go_simp
          exact hK _ _ (Below.refl _ _) ⟨_, _, rfl, sx.out⟩
        · refine ⟨_, by (rw [List.getElem?_toArray]; (repeat rw [List.getElem?_cons_succ]); rw [List.getElem?_cons_zero]), rfl, fun q u hb hold hd K hK0 => ?_⟩
          have hK := fun v w' h1 h2 => hK0 v w' h1 h2 (fun h => absurd h (by simp))
          clear hK0
          have e := (hold 1 (old_of (by kernel_rfl))).trans rfl
          clear hold hd
          go_simp
          exact hK _ _ (Below.refl _ _) rfl
        · refine ⟨_, by (rw [List.getElem?_toArray]; (repeat rw [List.getElem?_cons_succ]); rw [List.getElem?_cons_zero]), rfl, fun q u hb hold hd K hK0 => ?_⟩
          have hK := fun v w' h1 h2 => hK0 v w' h1 h2 (fun h => absurd h (by simp))
          clear hK0
          obtain ⟨v0, e0, tv⟩ := dep_val hd 2 91 rfl (by kernel_rfl) (by kernel_rfl)
          have tv : v0 = .int .i16 v := tv
          subst tv
          clear hold hd
          go_simp
          exact hK _ _ (Below.refl _ _) rfl
        · refine ⟨_, by (rw [List.getElem?_toArray]; (repeat rw [List.getElem?_cons_succ]); rw [List.getElem?_cons_zero]), rfl, fun q u hb hold hd K hK0 => ?_⟩
          have hK := fun v w' h1 h2 => hK0 v w' h1 h2 (fun h => absurd h (by simp))
          clear hK0
          obtain ⟨v0, e0, tv⟩ := dep_val hd 3 92 rfl (by kernel_rfl) (by kernel_rfl)
          have tv : v0 = .int .i64 v := tv
          subst tv
          clear hold hd
          go_simp
          refine (KCNT.out u).mono ?_
          rintro e2 u2 ⟨rfl, hb2⟩
          exact hK _ _ hb2 rfl
        · refine ⟨_, by (rw [List.getElem?_toArray]; (repeat rw [List.getElem?_cons_succ]); rw [List.getElem?_cons_zero]), rfl, fun q u hb hold hd K hK0 => ?_⟩
          have hK := fun v w' h1 h2 => hK0 v w' h1 h2 (fun h => absurd h (by simp))
          clear hK0
          obtain ⟨v0, e0, tv⟩ := dep_val hd 4 93 rfl (by kernel_rfl) (by kernel_rfl)
          have tv : v0 = vagg uv := tv
          subst tv
          clear hold hd
          go_simp
          refine (KONE.out u).mono ?_
          rintro e2 u2 ⟨x, rfl, ⟨a2, c2, rfl, hs2⟩, hb2⟩
          exact hK _ _ hb2 ⟨a2, c2, rfl, hs2.mono (Nat.zero_le _)⟩
        · refine ⟨_, by (rw [List.getElem?_toArray]; (repeat rw [List.getElem?_cons_succ]); rw [List.getElem?_cons_zero]), rfl, fun q u hb hold hd K hK0 => ?_⟩
          have hK := fun v w' h1 h2 => hK0 v w' h1 h2 (fun h => absurd h (by simp))
          clear hK0
          obtain ⟨v0, e0, tv⟩ := dep_val hd 0 89 rfl (by kernel_rfl) (by kernel_rfl)
          have tv : v0 = .string s := tv
          subst tv
          obtain ⟨v1, e1, a3, c3, rfl, hs3⟩ := dep_val hd 1 90 rfl (by kernel_rfl) (by kernel_rfl)
          obtain ⟨v5, e5, a5, c5, rfl, hs5⟩ := dep_val hd 5 94 rfl (by kernel_rfl) (by kernel_rfl)
          clear hold hd
          unfold arrA at e1 e5
          go_simp
          refine (KBX.out a3 a5 c3 c5 u hs3 hs5 (HTr.out.below ((Below.refl _ Wr).drew.trans hb))).mono ?_
          rintro e2 u2 ⟨x, rfl, ⟨a2, c2, rfl, hs2⟩, hb2⟩
          exact hK _ _ hb2 ⟨a2, c2, rfl, hs2.mono (Nat.zero_le _)⟩
        · refine ⟨_, by (rw [List.getElem?_toArray]; (repeat rw [List.getElem?_cons_succ]); rw [List.getElem?_cons_zero]), rfl, fun q u hb hold hd K hK0 => ?_⟩
          have hK := fun v w' h1 h2 => hK0 v w' h1 h2 (fun h => absurd h (by simp))
          clear hK0
          obtain ⟨v, e, a3, c3, rfl, hs3⟩ := dep_val hd 6 95 rfl (by kernel_rfl) (by kernel_rfl)
          clear hold hd
          go_simp
          exact hK _ _ (Below.refl _ _) ⟨a3, c3, rfl, hs3⟩
        · refine ⟨_, by (rw [List.getElem?_toArray]; (repeat rw [List.getElem?_cons_succ]); rw [List.getElem?_cons_zero]), rfl, fun q u hb hold hd K hK0 => ?_⟩
          have hK := fun v w' h1 h2 => hK0 v w' h1 h2 (fun h => absurd h (by simp))
          clear hK0
          obtain ⟨v, e, a3, c3, rfl, hs3⟩ := dep_val hd 7 88 rfl (by kernel_rfl) (by kernel_rfl)
          clear hold hd
          go_simp
          exact hK _ _ (Below.refl _ _) ⟨a3, c3, rfl, hs3⟩
        · refine ⟨_, by (rw [List.getElem?_toArray]; (repeat rw [List.getElem?_cons_succ]); rw [List.getElem?_cons_zero]), rfl, fun q u hb hold hd K hK0 => ?_⟩
          have hK := fun v w' h1 h2 => hK0 v w' h1 h2 (fun h => absurd h (by simp))
          clear hK0
          clear hold hd
          go_simp
          exact hK _ _ (below_alloc u _ _ (Nat.le_refl _)) ⟨u.heap.size, rfl, hb.size, heap_alloc_new u _⟩
      · refine ⟨⟨_, by (rw [List.getElem?_toArray]; (repeat rw [List.getElem?_cons_succ]); rw [List.getElem?_cons_zero]), rfl, fun q u hd => ?_⟩, trivial⟩
        obtain ⟨v, e, a3, c3, rfl, hs3⟩ := dep_val hd 7 88 rfl (by kernel_rfl) (by kernel_rfl)
        refine ⟨.bool true, rfl, fun W => ?_⟩
        clear hd
        go_simp
      · intro vals u hb hall _
        have hb' : Below Wr.heap.size Wr u := (Below.refl _ Wr).drew.trans hb
        obtain ⟨ay, cy, h8, sy⟩ : isA XM (vals 8) u := hall 8 (by simp)
        have h9 : vals 9 = .bool true := hall 9 (by simp)
        obtain ⟨bb, h10, hbb, hbc⟩ : isBox Wr.heap.size (vals 10) u := hall 10 (by simp)
        unfold arrA at h8
        have HSY := Lib.hid sy
        have HBB := Lib.hid hbb
        have HBC := Lib.hid hbc
        have HBU := Lib.hid hb'
        clear hall hb hb' sy hbb
        simp only [putAll, dstOf, List.cons_append, List.nil_append, List.getElem?_toArray, List.getElem?_cons_zero, List.getElem?_cons_succ, Option.bind_some, Act.put, h8, h9, h10]
        generalize vals 0 = v0
        generalize vals 1 = v1
        generalize vals 2 = v2
        generalize vals 3 = v3
        generalize vals 4 = v4
        generalize vals 5 = v5
        generalize vals 6 = v6
        generalize vals 7 = v7
        clear h8 h9 h10
        have x0 := cell_of_heap hbc
        have y0 := frozen_of_heap hbc
        have z0 := lt_of_heap hbc
        clear hbc
        go_frame
        apply tail_step; (rw [List.getElem?_toArray]; (repeat rw [List.getElem?_cons_succ]); rw [List.getElem?_cons_zero]); rfl; rfl; intro K hK; go_simp; refine hK _ _ (fun _ => trivial) ?_; clear hK K
        apply tail_step; (rw [List.getElem?_toArray]; (repeat rw [List.getElem?_cons_succ]); rw [List.getElem?_cons_zero]); rfl; rfl; intro K hK; go_simp; refine hK _ _ (fun _ => trivial) ?_; clear hK K
        refine tail_done ?_
        clear x0 y0 z0
        go_wp2_with fail
        go_meet
        exact ⟨bb, rfl, rfl, ⟨ay, cy, boxed_at HBC.out XM.r XM.c (.slice ay XM.l.length cy), slb_boxed HSY.out HBC.out XM.r XM.c (.slice ay XM.l.length cy), Nat.zero_le _⟩, boxed_below HBU.out HBB.out XM.r XM.c (.slice ay XM.l.length cy)⟩
    case rest =>
    obtain ⟨b16, rfl, rfl, X16, BC⟩ := hcut
    have hXM := HXM.out
    subst XM
    rename World => Wh
    have HBh : Hid (Below w.heap.size w Wh) := HBb.out.trans (BC.out.mono HBb.out.size)
    have Y12 := Lib.hid (Z12.out.below BC.out)
    have Y13 := Lib.hid (Z13.out.below BC.out)
    have Y14 := Lib.hid (Z14.out.below BC.out)
    have Y15 := Lib.hid (X15.out.below BC.out)
    clear KBX HXB SXB HTr Z12 Z13 Z14 X15 HBb BC
    go_upto_region 13 with fail
    obtain ⟨a12, c12, h12, s12, l12⟩ := Y12.out
    obtain ⟨a13, c13, h13, s13, _⟩ := Y13.out
    obtain ⟨a14, c14, h14, s14, _⟩ := Y14.out
    obtain ⟨a15, c15, h15, s15, l15⟩ := Y15.out
    obtain ⟨a16, c16, h16, s16, _⟩ := X16.out
    have q12 := cell_of_heap h12
    have q13 := cell_of_heap h13
    have q14 := cell_of_heap h14
    have q15 := cell_of_heap h15
    have q16 := cell_of_heap h16
    have z12 := lt_of_heap h12
    have z13 := lt_of_heap h13
    have z14 := lt_of_heap h14
    have z15 := lt_of_heap h15
    have z16 := lt_of_heap h16
    have S12 := Lib.hid s12
    have S13 := Lib.hid s13
    have S14 := Lib.hid s14
    have S15 := Lib.hid s15
    have S16 := Lib.hid s16
    have L12 := Lib.hid l12
    have L15 := Lib.hid l15
    clear h12 h13 h14 h15 h16 s12 s13 s14 s15 s16 l12 l15 Y12 Y13 Y14 Y15 X16
    refine wp_region_multiO [([0, 1, 2, 3, 4, 5, 8], [6, 7, 9], [9, 10, 11, 12, 13, 14, 15, 16, 17, 18, 19, 20, 21, 22, 23, 24, 25, 26, 27, 28]), ([10, 11, 12, 15], [13, 14, 16], [16, 17, 18, 19, 20, 21, 22, 23, 24, 25, 26, 27, 28])] [17, 18, 19, 20, 23] (.two 21 24 (.two 22 24 (.one 24 (.one 25 (.one 26 (.one 27 (.one 28 .nil))))) (.one 22 (.one 25 (.one 26 (.one 27 (.one 28 .nil)))))) (.one 21 (.one 22 (.one 25 (.one 26 (.one 27 (.one 28 .nil))))))) [25, 26, 27, 28] (by kernel_rfl) (by kernel_rfl) ?_
    refine multiO_phase (Below Wh.heap.size Wh) (Below.refl _ _).drew ?_
    iterate 7 (first | (apply first_step; (rw [List.getElem?_toArray]; (repeat rw [List.getElem?_cons_succ]); rw [List.getElem?_cons_zero]); rfl; (intro W hB; have hc := bcellB hB; go_simp; (first | done | rfl)); go_frame) | (apply first_skip; (rw [List.getElem?_toArray]; (repeat rw [List.getElem?_cons_succ]); rw [List.getElem?_cons_zero]); rfl; go_frame))
    refine first_done ?_
    apply forced_step; (rw [List.getElem?_toArray]; (repeat rw [List.getElem?_cons_succ]); rw [List.getElem?_cons_zero]); rfl; intro K hK; go_simp; refine hK _ _ (fun _ => by (repeat with_reducible (first | exact bw0 _ _ | exact hBW | refine bw1 ?_ ?_ _ | refine bw2 ?_ ?_ _ | refine bw3 ?_ _ | refine bw4 ?_)); all_goals (first | omega | (dsimp only; omega) | ((repeat with_reducible (first | refine lz1 ?_ | refine lz2 ?_ | refine lz3 ?_ | refine lz4 ?_)); omega))) ?_; clear hK K
    apply forced_step; (rw [List.getElem?_toArray]; (repeat rw [List.getElem?_cons_succ]); rw [List.getElem?_cons_zero]); rfl; intro K hK; go_simp
    refine (JKROWS.out _ 1 _ (Nat.le_refl _) (args_one (ca := c12) (S12.out.below (Below.refl _ Wh).drew)) (HT.out.below (HBh.out.trans (Below.mono (by (repeat with_reducible (first | exact bw0 _ _ | exact hBW | refine bw1 ?_ ?_ _ | refine bw2 ?_ ?_ _ | refine bw3 ?_ _ | refine bw4 ?_)); all_goals (first | omega | (dsimp only; omega) | ((repeat with_reducible (first | refine lz1 ?_ | refine lz2 ?_ | refine lz3 ?_ | refine lz4 ?_)); omega)) : Below Wh.heap.size Wh _) HBh.out.size)))).mono ?_
    rintro e wi ⟨x, rfl, ⟨ai, ci, rfl, hsi⟩, hbi⟩
    have bi : Below Wh.heap.size Wh wi := Below.trans (by (repeat with_reducible (first | exact bw0 _ _ | exact hBW | refine bw1 ?_ ?_ _ | refine bw2 ?_ ?_ _ | refine bw3 ?_ _ | refine bw4 ?_)); all_goals (first | omega | (dsimp only; omega) | ((repeat with_reducible (first | refine lz1 ?_ | refine lz2 ?_ | refine lz3 ?_ | refine lz4 ?_)); omega))) (hbi.mono (by simp))
    refine hK _ _ (fun _ => bi) ?_
    have BI := Lib.hid bi
    have SI := Lib.hid (hsi.mono (Nat.zero_le _))
    clear hK K hsi hbi bi
    apply forced_step; (rw [List.getElem?_toArray]; (repeat rw [List.getElem?_cons_succ]); rw [List.getElem?_cons_zero]); rfl; intro K hK; go_simp
    refine (KSQ.out _ _ wi ⟨ai, ci, rfl, SI.out⟩ ⟨a13, c13, rfl, S13.out.below BI.out⟩).mono ?_
    rintro e wj ⟨rfl, hbj⟩
    refine hK _ _ (fun h => absurd (by decide) h) ?_
    have BJ := Lib.hid (BI.out.trans (hbj.mono BI.out.size))
    clear hK K hbj SI BI
    refine forced_done ?_
    refine multiO_phase (Below Wh.heap.size Wh) BJ.out ?_
    iterate 4 (first | (apply first_step; (rw [List.getElem?_toArray]; (repeat rw [List.getElem?_cons_succ]); rw [List.getElem?_cons_zero]); rfl; (intro W hB; have hc := bcellB hB; go_simp; (first | done | rfl)); go_frame) | (apply first_skip; (rw [List.getElem?_toArray]; (repeat rw [List.getElem?_cons_succ]); rw [List.getElem?_cons_zero]); rfl; go_frame))
    refine first_done ?_
    apply forced_step; (rw [List.getElem?_toArray]; (repeat rw [List.getElem?_cons_succ]); rw [List.getElem?_cons_zero]); rfl; intro K hK; go_simp; refine hK _ _ (fun _ => BJ.out.trans ((below_alloc wj _ _ (Nat.le_refl _)).mono BJ.out.size)) ?_; clear hK K
    apply forced_step; (rw [List.getElem?_toArray]; (repeat rw [List.getElem?_cons_succ]); rw [List.getElem?_cons_zero]); rfl; intro K hK; go_simp
    refine (JKSUM.out _ 1 _ (Nat.le_refl _) (args_one (ca := c12) (S12.out.below BJ.out)) (HT.out.below (HBh.out.trans ((BJ.out.trans ((below_alloc wj _ _ (Nat.le_refl _)).mono BJ.out.size)).mono HBh.out.size)))).mono ?_
    rintro e wk ⟨x, rfl, ⟨ak, ck, rfl, hsk⟩, hbk⟩
    have bk : Below Wh.heap.size Wh wk := (BJ.out.trans ((below_alloc wj _ _ (Nat.le_refl _)).mono BJ.out.size)).trans (hbk.mono (by have := BJ.out.size; simp; omega))
    refine hK _ _ (fun _ => bk) ?_
    have BK := Lib.hid bk
    have SK := Lib.hid (hsk.mono (Nat.zero_le _))
    clear hK K hsk hbk bk BJ
    apply forced_step; (rw [List.getElem?_toArray]; (repeat rw [List.getElem?_cons_succ]); rw [List.getElem?_cons_zero]); rfl; intro K hK; go_simp
    refine (KSS.out _ _ wk ⟨ak, ck, rfl, SK.out⟩ ⟨a14, c14, rfl, S14.out.below BK.out⟩).mono ?_
    rintro e wl ⟨rfl, hbl⟩
    refine hK _ _ (fun h => absurd (by decide) h) ?_
    have BL := Lib.hid (BK.out.trans (hbl.mono BK.out.size))
    clear hK K hbl SK BK
    refine forced_done ?_
    refine multiO_last (Below Wh.heap.size Wh) BL.out ?_
    iterate 5 (first | (apply first_step; (rw [List.getElem?_toArray]; (repeat rw [List.getElem?_cons_succ]); rw [List.getElem?_cons_zero]); rfl; (intro W hB; have hc := bcellB hB; go_simp; (first | done | rfl)); go_frame) | (apply first_skip; (rw [List.getElem?_toArray]; (repeat rw [List.getElem?_cons_succ]); rw [List.getElem?_cons_zero]); rfl; go_frame))
    refine first_done ?_
    clear q12 q13 q14 q15 q16 z12 z13 z14 z15 z16
    refine ord_two ?_ ?_
    · apply ord_step; (rw [List.getElem?_toArray]; (repeat rw [List.getElem?_cons_succ]); rw [List.getElem?_cons_zero]); rfl; intro K hK; go_simp
      refine hK _ _ (fun _ => (Hid.out BL).trans ((below_alloc (wl) _ _ (Nat.le_refl _)).mono (Hid.out BL).size)) ?_
      clear hK K
      refine ord_abs ?_
      intro W21 hW
      have bq : Below (wl).heap.size (wl) W21 := by rw [hW]; exact below_alloc _ _ _ (Nat.le_refl _)
      have AT2 : Hid (ArgsAt 0 W21 (some ⟨(wl).heap.size, 0, none⟩) [OA, MB]) := by rw [hW]; exact args_two (S15.out.below (Hid.out BL)) (S16.out.below (Hid.out BL))
      have AC2 : Hid (World.cell? W21 ⟨(wl).heap.size, 2, none⟩ = some (.slice a15 OA.l.length c15)) := by rw [hW]; exact cell_of_heap (heap_alloc_new _ _) 2
      have AZ2 : Hid ((wl).heap.size < (World.heap W21).size) := by unfold Hid; rw [hW]; simp
      have BL1 := Lib.hid ((Hid.out BL).trans (bq.mono (Hid.out BL).size))
      have BQ := Lib.hid bq
      obtain ⟨p2, hp2⟩ : ∃ p2, p2 = (wl).heap.size := ⟨_, rfl⟩
      rw [← hp2] at AT2 AC2 AZ2 ⊢
      clear hW bq hp2
      refine ord_two ?_ ?_
      · apply ord_step; (rw [List.getElem?_toArray]; (repeat rw [List.getElem?_cons_succ]); rw [List.getElem?_cons_zero]); rfl; intro K hK; go_simp
        refine (JKFIL2.out p2 2 c15 a15 (W21) AT2.out AZ2.out AC2.out (S15.out.below (Hid.out BL1)) L15.out (HT.out.below (HBh.out.trans ((Hid.out BL1).mono HBh.out.size)))).mono ?_
        rintro e W22 ⟨a22, c22, rfl, _, hs22, hb22⟩
        refine hK _ _ (fun _ => (Hid.out BL1).trans (hb22.mono (Hid.out BL1).size)) ?_
        have BL2 := Lib.hid ((Hid.out BL1).trans (hb22.mono (Hid.out BL1).size))
        have S22 := Lib.hid (hs22.mono (Nat.zero_le _))
        have BQ := Lib.hid hb22
        clear hK K hs22 hb22 AT2 AC2 AZ2
        apply ord_step; (rw [List.getElem?_toArray]; (repeat rw [List.getElem?_cons_succ]); rw [List.getElem?_cons_zero]); rfl; intro K hK; go_simp
        refine hK _ _ (fun _ => (Hid.out BL2).trans ((below_alloc (W22) _ _ (Nat.le_refl _)).mono (Hid.out BL2).size)) ?_
        clear hK K
        refine ord_abs ?_
        intro W24 hW
        have bq : Below (W22).heap.size (W22) W24 := by rw [hW]; exact below_alloc _ _ _ (Nat.le_refl _)
        have AT1 : Hid (ArgsAt 0 W24 (some ⟨(W22).heap.size, 0, none⟩) [FA]) := by rw [hW]; exact args_one (S12.out.below (Hid.out BL2))
        have AC1 : Hid (World.cell? W24 ⟨(W22).heap.size, 2, none⟩ = some (.slice a12 FA.l.length c12)) := by rw [hW]; exact cell_of_heap (heap_alloc_new _ _) 2
        have AZ1 : Hid ((W22).heap.size < (World.heap W24).size) := by unfold Hid; rw [hW]; simp
        have BL3 := Lib.hid ((Hid.out BL2).trans (bq.mono (Hid.out BL2).size))
        have BQ := Lib.hid bq
        obtain ⟨p1, hp1⟩ : ∃ p1, p1 = (W22).heap.size := ⟨_, rfl⟩
        rw [← hp1] at AT1 AC1 AZ1 ⊢
        clear hW bq hp1
        have S22 := Lib.hid (S22.out.below BQ.out)
        apply ord_step; (rw [List.getElem?_toArray]; (repeat rw [List.getElem?_cons_succ]); rw [List.getElem?_cons_zero]); rfl; intro K hK; go_simp
        refine (JKSORT2.out p1 1 c12 a12 (W24) AT1.out AZ1.out AC1.out (S12.out.below (Hid.out BL3)) L12.out (HT.out.below (HBh.out.trans ((Hid.out BL3).mono HBh.out.size)))).mono ?_
        rintro e W25 ⟨a25, c25, rfl, _, hs25, hb25⟩
        refine hK _ _ (fun h => absurd (by decide) h) ?_
        have B25 := Lib.hid ((Hid.out BL3).trans (hb25.mono (Hid.out BL3).size))
        have T22 := Lib.hid (S22.out.below hb25)
        have S25 := Lib.hid (hs25.mono (Nat.zero_le _))
        clear hK K hs25 hb25 AT1 AC1 AZ1 S22
        apply ord_step; (rw [List.getElem?_toArray]; (repeat rw [List.getElem?_cons_succ]); rw [List.getElem?_cons_zero]); rfl; intro K hK; go_simp
        refine (KSZ.out _ _ W25 ⟨a22, c22, rfl, T22.out⟩ ⟨a25, c25, rfl, S25.out⟩).mono ?_
        rintro e W26 ⟨rfl, hb26⟩
        refine hK _ _ (fun h => absurd (by decide) h) ?_
        have B26 := Lib.hid (B25.out.trans (hb26.mono B25.out.size))
        clear hK K hb26
        apply ord_step; (rw [List.getElem?_toArray]; (repeat rw [List.getElem?_cons_succ]); rw [List.getElem?_cons_zero]); rfl; intro K hK; go_simp
        refine hK _ _ (fun h => absurd (by decide) h) ?_; clear hK K
        apply ord_step; (rw [List.getElem?_toArray]; (repeat rw [List.getElem?_cons_succ]); rw [List.getElem?_cons_zero]); rfl; intro K hK; go_simp
        refine hK _ _ (fun h => absurd (by decide) h) ?_; clear hK K
        refine ord_done ?_
        go_wp2_with fail
        go_ret
        exact ⟨rfl, HBh.out.trans (B26.out.mono HBh.out.size)⟩
      · apply ord_step; (rw [List.getElem?_toArray]; (repeat rw [List.getElem?_cons_succ]); rw [List.getElem?_cons_zero]); rfl; intro K hK; go_simp
        refine hK _ _ (fun _ => (Hid.out BL1).trans ((below_alloc (W21) _ _ (Nat.le_refl _)).mono (Hid.out BL1).size)) ?_
        clear hK K
        refine ord_abs ?_
        intro W24 hW
        have bq : Below (W21).heap.size (W21) W24 := by rw [hW]; exact below_alloc _ _ _ (Nat.le_refl _)
        have AT1 : Hid (ArgsAt 0 W24 (some ⟨(W21).heap.size, 0, none⟩) [FA]) := by rw [hW]; exact args_one (S12.out.below (Hid.out BL1))
        have AC1 : Hid (World.cell? W24 ⟨(W21).heap.size, 2, none⟩ = some (.slice a12 FA.l.length c12)) := by rw [hW]; exact cell_of_heap (heap_alloc_new _ _) 2
        have AZ1 : Hid ((W21).heap.size < (World.heap W24).size) := by unfold Hid; rw [hW]; simp
        have BL2 := Lib.hid ((Hid.out BL1).trans (bq.mono (Hid.out BL1).size))
        have BQ := Lib.hid bq
        obtain ⟨p1, hp1⟩ : ∃ p1, p1 = (W21).heap.size := ⟨_, rfl⟩
        rw [← hp1] at AT1 AC1 AZ1 ⊢
        clear hW bq hp1
        have AT2 := Lib.hid (AT2.out.below BQ.out)
        have AC2 := Lib.hid ((BQ.out.cell (p := ⟨p2, 2, none⟩) AZ2.out).trans AC2.out)
        have AZ2 := Lib.hid (Nat.lt_of_lt_of_le AZ2.out BQ.out.size)
        clear BQ
        apply ord_step; (rw [List.getElem?_toArray]; (repeat rw [List.getElem?_cons_succ]); rw [List.getElem?_cons_zero]); rfl; intro K hK; go_simp
        refine (JKFIL2.out p2 2 c15 a15 (W24) AT2.out AZ2.out AC2.out (S15.out.below (Hid.out BL2)) L15.out (HT.out.below (HBh.out.trans ((Hid.out BL2).mono HBh.out.size)))).mono ?_
        rintro e W22 ⟨a22, c22, rfl, _, hs22, hb22⟩
        refine hK _ _ (fun _ => (Hid.out BL2).trans (hb22.mono (Hid.out BL2).size)) ?_
        have BL3 := Lib.hid ((Hid.out BL2).trans (hb22.mono (Hid.out BL2).size))
        have S22 := Lib.hid (hs22.mono (Nat.zero_le _))
        have BQ := Lib.hid hb22
        clear hK K hs22 hb22 AT2 AC2 AZ2
        have AT1 := Lib.hid (AT1.out.below BQ.out)
        have AC1 := Lib.hid ((BQ.out.cell (p := ⟨p1, 2, none⟩) AZ1.out).trans AC1.out)
        have AZ1 := Lib.hid (Nat.lt_of_lt_of_le AZ1.out BQ.out.size)
        clear BQ
        apply ord_step; (rw [List.getElem?_toArray]; (repeat rw [List.getElem?_cons_succ]); rw [List.getElem?_cons_zero]); rfl; intro K hK; go_simp
        refine (JKSORT2.out p1 1 c12 a12 (W22) AT1.out AZ1.out AC1.out (S12.out.below (Hid.out BL3)) L12.out (HT.out.below (HBh.out.trans ((Hid.out BL3).mono HBh.out.size)))).mono ?_
        rintro e W25 ⟨a25, c25, rfl, _, hs25, hb25⟩
        refine hK _ _ (fun h => absurd (by decide) h) ?_
        have B25 := Lib.hid ((Hid.out BL3).trans (hb25.mono (Hid.out BL3).size))
        have T22 := Lib.hid (S22.out.below hb25)
        have S25 := Lib.hid (hs25.mono (Nat.zero_le _))
        clear hK K hs25 hb25 AT1 AC1 AZ1 S22
        apply ord_step; (rw [List.getElem?_toArray]; (repeat rw [List.getElem?_cons_succ]); rw [List.getElem?_cons_zero]); rfl; intro K hK; go_simp
        refine (KSZ.out _ _ W25 ⟨a22, c22, rfl, T22.out⟩ ⟨a25, c25, rfl, S25.out⟩).mono ?_
        rintro e W26 ⟨rfl, hb26⟩
        refine hK _ _ (fun h => absurd (by decide) h) ?_
        have B26 := Lib.hid (B25.out.trans (hb26.mono B25.out.size))
        clear hK K hb26
        apply ord_step; (rw [List.getElem?_toArray]; (repeat rw [List.getElem?_cons_succ]); rw [List.getElem?_cons_zero]); rfl; intro K hK; go_simp
        refine hK _ _ (fun h => absurd (by decide) h) ?_; clear hK K
        apply ord_step; (rw [List.getElem?_toArray]; (repeat rw [List.getElem?_cons_succ]); rw [List.getElem?_cons_zero]); rfl; intro K hK; go_simp
        refine hK _ _ (fun h => absurd (by decide) h) ?_; clear hK K
        refine ord_done ?_
        go_wp2_with fail
        go_ret
        exact ⟨rfl, HBh.out.trans (B26.out.mono HBh.out.size)⟩
    · apply ord_step; (rw [List.getElem?_toArray]; (repeat rw [List.getElem?_cons_succ]); rw [List.getElem?_cons_zero]); rfl; intro K hK; go_simp
      refine hK _ _ (fun _ => (Hid.out BL).trans ((below_alloc (wl) _ _ (Nat.le_refl _)).mono (Hid.out BL).size)) ?_
      clear hK K
      refine ord_abs ?_
      intro W24 hW
      have bq : Below (wl).heap.size (wl) W24 := by rw [hW]; exact below_alloc _ _ _ (Nat.le_refl _)
      have AT1 : Hid (ArgsAt 0 W24 (some ⟨(wl).heap.size, 0, none⟩) [FA]) := by rw [hW]; exact args_one (S12.out.below (Hid.out BL))
      have AC1 : Hid (World.cell? W24 ⟨(wl).heap.size, 2, none⟩ = some (.slice a12 FA.l.length c12)) := by rw [hW]; exact cell_of_heap (heap_alloc_new _ _) 2
      have AZ1 : Hid ((wl).heap.size < (World.heap W24).size) := by unfold Hid; rw [hW]; simp
      have BL1 := Lib.hid ((Hid.out BL).trans (bq.mono (Hid.out BL).size))
      have BQ := Lib.hid bq
      obtain ⟨p1, hp1⟩ : ∃ p1, p1 = (wl).heap.size := ⟨_, rfl⟩
      rw [← hp1] at AT1 AC1 AZ1 ⊢
      clear hW bq hp1
      apply ord_step; (rw [List.getElem?_toArray]; (repeat rw [List.getElem?_cons_succ]); rw [List.getElem?_cons_zero]); rfl; intro K hK; go_simp
      refine hK _ _ (fun _ => (Hid.out BL1).trans ((below_alloc (W24) _ _ (Nat.le_refl _)).mono (Hid.out BL1).size)) ?_
      clear hK K
      refine ord_abs ?_
      intro W21 hW
      have bq : Below (W24).heap.size (W24) W21 := by rw [hW]; exact below_alloc _ _ _ (Nat.le_refl _)
      have AT2 : Hid (ArgsAt 0 W21 (some ⟨(W24).heap.size, 0, none⟩) [OA, MB]) := by rw [hW]; exact args_two (S15.out.below (Hid.out BL1)) (S16.out.below (Hid.out BL1))
      have AC2 : Hid (World.cell? W21 ⟨(W24).heap.size, 2, none⟩ = some (.slice a15 OA.l.length c15)) := by rw [hW]; exact cell_of_heap (heap_alloc_new _ _) 2
      have AZ2 : Hid ((W24).heap.size < (World.heap W21).size) := by unfold Hid; rw [hW]; simp
      have BL2 := Lib.hid ((Hid.out BL1).trans (bq.mono (Hid.out BL1).size))
      have BQ := Lib.hid bq
      obtain ⟨p2, hp2⟩ : ∃ p2, p2 = (W24).heap.size := ⟨_, rfl⟩
      rw [← hp2] at AT2 AC2 AZ2 ⊢
      clear hW bq hp2
      have AT1 := Lib.hid (AT1.out.below BQ.out)
      have AC1 := Lib.hid ((BQ.out.cell (p := ⟨p1, 2, none⟩) AZ1.out).trans AC1.out)
      have AZ1 := Lib.hid (Nat.lt_of_lt_of_le AZ1.out BQ.out.size)
      clear BQ
      apply ord_step; (rw [List.getElem?_toArray]; (repeat rw [List.getElem?_cons_succ]); rw [List.getElem?_cons_zero]); rfl; intro K hK; go_simp
      refine (JKFIL2.out p2 2 c15 a15 (W21) AT2.out AZ2.out AC2.out (S15.out.below (Hid.out BL2)) L15.out (HT.out.below (HBh.out.trans ((Hid.out BL2).mono HBh.out.size)))).mono ?_
      rintro e W22 ⟨a22, c22, rfl, _, hs22, hb22⟩
      refine hK _ _ (fun _ => (Hid.out BL2).trans (hb22.mono (Hid.out BL2).size)) ?_
      have BL3 := Lib.hid ((Hid.out BL2).trans (hb22.mono (Hid.out BL2).size))
      have S22 := Lib.hid (hs22.mono (Nat.zero_le _))
      have BQ := Lib.hid hb22
      clear hK K hs22 hb22 AT2 AC2 AZ2
      have AT1 := Lib.hid (AT1.out.below BQ.out)
      have AC1 := Lib.hid ((BQ.out.cell (p := ⟨p1, 2, none⟩) AZ1.out).trans AC1.out)
      have AZ1 := Lib.hid (Nat.lt_of_lt_of_le AZ1.out BQ.out.size)
      clear BQ
      apply ord_step; (rw [List.getElem?_toArray]; (repeat rw [List.getElem?_cons_succ]); rw [List.getElem?_cons_zero]); rfl; intro K hK; go_simp
      refine (JKSORT2.out p1 1 c12 a12 (W22) AT1.out AZ1.out AC1.out (S12.out.below (Hid.out BL3)) L12.out (HT.out.below (HBh.out.trans ((Hid.out BL3).mono HBh.out.size)))).mono ?_
      rintro e W25 ⟨a25, c25, rfl, _, hs25, hb25⟩
      refine hK _ _ (fun h => absurd (by decide) h) ?_
      have B25 := Lib.hid ((Hid.out BL3).trans (hb25.mono (Hid.out BL3).size))
      have T22 := Lib.hid (S22.out.below hb25)
      have S25 := Lib.hid (hs25.mono (Nat.zero_le _))
      clear hK K hs25 hb25 AT1 AC1 AZ1 S22
      apply ord_step; (rw [List.getElem?_toArray]; (repeat rw [List.getElem?_cons_succ]); rw [List.getElem?_cons_zero]); rfl; intro K hK; go_simp
      refine (KSZ.out _ _ W25 ⟨a22, c22, rfl, T22.out⟩ ⟨a25, c25, rfl, S25.out⟩).mono ?_
      rintro e W26 ⟨rfl, hb26⟩
      refine hK _ _ (fun h => absurd (by decide) h) ?_
      have B26 := Lib.hid (B25.out.trans (hb26.mono B25.out.size))
      clear hK K hb26
      apply ord_step; (rw [List.getElem?_toArray]; (repeat rw [List.getElem?_cons_succ]); rw [List.getElem?_cons_zero]); rfl; intro K hK; go_simp
      refine hK _ _ (fun h => absurd (by decide) h) ?_; clear hK K
      apply ord_step; (rw [List.getElem?_toArray]; (repeat rw [List.getElem?_cons_succ]); rw [List.getElem?_cons_zero]); rfl; intro K hK; go_simp
      refine hK _ _ (fun h => absurd (by decide) h) ?_; clear hK K
      refine ord_done ?_
      go_wp2_with fail
      go_ret
      exact ⟨rfl, HBh.out.trans (B26.out.mono HBh.out.size)⟩
end
end Go.Proofs.YtndhmahkglfopaaGreatDoor
