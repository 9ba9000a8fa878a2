/- Fold; ToTruth of texts. -/
import Derived.Test.YtndhmahkglfopaaGreatDoorQT16P
import Derived.Test.YtndhmahkglfopaaGreatDoorQT16H
import Derived.Test.YtndhmahkglfopaaGreatDoorQT16X
import Derived.Test.YtndhmahkglfopaaGreatDoorQT13R09b
namespace Go.Proofs.YtndhmahkglfopaaGreatDoor
open Go.RowKit
theorem upL_same {l : List UInt8} (h : ∀ c ∈ l, upB c = c) : upL l = l := by
  unfold upL
  induction l with
  | nil => rfl
  | cons a r ih =>
    rw [List.map_cons, h a (by simp), ih (fun c hc => h c (List.mem_cons_of_mem _ hc))]
set_option maxHeartbeats 1000000 in
set_option maxRecDepth 100000 in
theorem fold_any (s : ByteArray) (hs : s.size ≤ 255) (w : World) : Calls Tryz.prog 110 #[.string s] w fun e w' => e = .returned (.string ⟨(upL s.data.toList).toArray⟩) ∧ Below w.heap.size w w' := by
  have HF := Lib.hid (folded_any s hs)
  go_enter Tryz.func110, Tryz.ntmps110
  go_wp2_with fail
  go_loop [6] (fun x => ∃ i : Nat, x = .int .i64 i ∧ i ≤ s.size ∧ Hid (∀ c ∈ s.data.toList.take i, upB c = c)) (fun x => s.size - (intOf x).toNat)
  case atStart => exact ⟨0, rfl, Nat.zero_le _, fun c hc => by simp at hc⟩
  case round =>
    obtain ⟨i, rfl, hi, hS⟩ := hrel
    by_cases hlt : i < s.size
    · have hsz : s.data.toList.length = s.size := by rw [Array.length_toList]; rfl
      have hc : s.data.toList[i]? = some s[i] := by
        rw [List.getElem?_eq_getElem (by omega)]
        simp
        rfl
      have NX : Hid (upB s[i] = s[i] → ∀ c ∈ s.data.toList.take (i + 1), upB c = c) := fun hu c hm => by
        rw [List.take_add_one, hc] at hm
        rcases List.mem_append.1 hm with hm | hm
        · exact hS.out c hm
        · simp at hm; rw [hm]; exact hu
      have HLO := Lib.hid (@upB_lo s[i])
      have j1 : (0 : Int) ≤ (i : Int) := by omega
      have j2 : (i : Int) < (s.size : Int) := by omega
      clear hsz hc hS
      by_cases h1 : 97 ≤ (s[i].toNat : Int)
      · by_cases h2 : (s[i].toNat : Int) ≤ 122
        · go_wp2_with fail
          refine (HF.out _).mono ?_
          rintro e w1 ⟨rfl, f1⟩
          have F1 := Lib.hid f1
          clear f1
          go_wp2_with fail
          go_ret
          exact ⟨rfl, F1.out⟩
        · have SS := Lib.hid (NX.out (HLO.out (fun h => h2 h.2)))
          have t2 : decide ((s[i].toNat : Int) ≤ 122) = false := by simpa using h2
          clear NX HLO h2
          go_wp2_with fail
          go_round
          case rel => exact ⟨i + 1, by go_num, by omega, SS⟩
          case measure => simp [intOf]; omega
      · have SS := Lib.hid (NX.out (HLO.out (fun h => h1 h.1)))
        have t1 : decide (97 ≤ (s[i].toNat : Int)) = false := by simpa using h1
        clear NX HLO h1
        go_wp2_with fail
        go_round
        case rel => exact ⟨i + 1, by go_num, by omega, SS⟩
        case measure => simp [intOf]; omega
    · have hsz : s.data.toList.length = s.size := by rw [Array.length_toList]; rfl
      have ES : Hid (s = ⟨(upL s.data.toList).toArray⟩) := by
        have := hS.out
        rw [List.take_of_length_le (by omega)] at this
        rw [upL_same this]
        rfl
      clear hsz hS
      go_wp2_with fail
      go_ret
      refine ⟨?_, Below.refl _ _⟩
      rw [← ES.out]
      rfl
set_option maxHeartbeats 1000000 in
set_option maxRecDepth 100000 in
theorem tok_text (v : V) (hk : v.k = 2) (hs : v.t.size ≤ 255) : TOk v := fun w => by
  obtain ⟨k, m, e, t, b, f⟩ := v
  simp only at hk hs
  subst hk
  have HF := Lib.hid (fold_any t hs)
  have hT : TT ⟨2, m, e, t, b, f⟩ = (if upL t.data.toList = [84, 82, 85, 69] then (true, 0) else if upL t.data.toList = [70, 65, 76, 83, 69] then (false, 0) else (false, 2)) := rfl
  rw [hT]
  unfold vagg
  simp only
  clear hT
  generalize upL t.data.toList = U at HF ⊢
  by_cases h1 : U = [84, 82, 85, 69]
  · rw [if_pos h1]
    subst h1
    go_enter Tryz.func272, Tryz.ntmps272
    go_wp2_with fail
    refine (HF.out _).mono ?_
    rintro r w1 ⟨rfl, f1⟩
    have F1 : Hid (Below w.heap.size w w1) := by
      refine Below.trans ?_ (f1.mono (by simp))
      (repeat with_reducible (first | exact bw0 _ _ | exact hBW | refine bw1 ?_ ?_ _ | refine bw2 ?_ ?_ _ | refine bw3 ?_ _ | refine bw4 ?_)); all_goals (first | omega | (dsimp only; omega) | ((repeat with_reducible (first | refine lz1 ?_ | refine lz2 ?_ | refine lz3 ?_ | refine lz4 ?_)); omega))
    clear f1
    go_wp2_with fail
    go_ret2
    exact ⟨rfl, F1.out⟩
  by_cases h2 : U = [70, 65, 76, 83, 69]
  · rw [if_neg h1, if_pos h2]
    subst h2
    clear h1
    go_enter Tryz.func272, Tryz.ntmps272
    go_wp2_with fail
    refine (HF.out _).mono ?_
    rintro r w1 ⟨rfl, f1⟩
    have F1 : Hid (Below w.heap.size w w1) := by
      refine Below.trans ?_ (f1.mono (by simp))
      (repeat with_reducible (first | exact bw0 _ _ | exact hBW | refine bw1 ?_ ?_ _ | refine bw2 ?_ ?_ _ | refine bw3 ?_ _ | refine bw4 ?_)); all_goals (first | omega | (dsimp only; omega) | ((repeat with_reducible (first | refine lz1 ?_ | refine lz2 ?_ | refine lz3 ?_ | refine lz4 ?_)); omega))
    clear f1
    go_wp2_with fail
    go_ret2
    exact ⟨rfl, F1.out⟩
  · rw [if_neg h1, if_neg h2]
    have e : ByteArray.toList ⟨U.toArray⟩ = U := by rw [ByteArray.toList_eq]
    have n1 : (ByteArray.toList ⟨U.toArray⟩ == [84, 82, 85, 69]) = false := by rw [e]; simpa using h1
    have n2 : (ByteArray.toList ⟨U.toArray⟩ == [70, 65, 76, 83, 69]) = false := by rw [e]; simpa using h2
    have n3 : ¬ ByteArray.toList ⟨U.toArray⟩ = [84, 82, 85, 69] := by rw [e]; exact h1
    have n4 : ¬ ByteArray.toList ⟨U.toArray⟩ = [70, 65, 76, 83, 69] := by rw [e]; exact h2
    clear e h1 h2
    generalize (⟨U.toArray⟩ : ByteArray) = T at HF n1 n2 n3 n4
    go_enter Tryz.func272, Tryz.ntmps272
    go_wp2_with fail
    refine (HF.out _).mono ?_
    rintro r w1 ⟨rfl, f1⟩
    have F1 : Hid (Below w.heap.size w w1) := by
      refine Below.trans ?_ (f1.mono (by simp))
      (repeat with_reducible (first | exact bw0 _ _ | exact hBW | refine bw1 ?_ ?_ _ | refine bw2 ?_ ?_ _ | refine bw3 ?_ _ | refine bw4 ?_)); all_goals (first | omega | (dsimp only; omega) | ((repeat with_reducible (first | refine lz1 ?_ | refine lz2 ?_ | refine lz3 ?_ | refine lz4 ?_)); omega))
    clear f1
    go_wp2_with fail
    go_ret2
    exact ⟨rfl, F1.out⟩
end Go.Proofs.YtndhmahkglfopaaGreatDoor
/- The reckoning, plainly. -/
namespace Go.Proofs.YtndhmahkglfopaaGreatDoor
open Go.RowKit
/-- No number. -/
def noR : (Int × Int) × Bool := ((0, 0), false)
theorem numR_neg {m e : Int} (h : numR m e = true) : numR (-m) e = true := by
  unfold numR at *
  by_cases h0 : m = 0
  · rw [if_pos h0] at h
    rw [if_pos (by omega)]
    exact h
  · rw [if_neg h0] at h
    rw [if_neg (by omega), Int.natAbs_neg]
    exact h
theorem addR_right (m e m' e' : Int) : numR (addR m e m' e').1.1 (addR m e m' e').1.2 = true := by
  unfold addR
  exact roundP_right _ _ _
def mulR (dv64 : Nat → Nat → Nat × Nat) (m e m' e' : Int) : (Int × Int) × Bool :=
  let P := m.natAbs * m'.natAbs
  let t := dv64 (P / 18446744073709551616) (P % 18446744073709551616)
  roundP (decide (m < 0) != decide (m' < 0)) (digs t.1 ++ (digs ((1000000000000000 + t.2) % 18446744073709551616)).drop 1) (e + e')
def divL (u : Nat) : Nat → List Nat → Int → Nat → List Nat × Int × Nat
  | 0, D, e, r => (D, e, r)
  | n + 1, D, e, r => if r = 0 then (D, e, r) else divL u n (D ++ [r * 10 / u]) (e - 1) (r * 10 % u)
theorem divL_zero (u n : Nat) (D : List Nat) (e : Int) : divL u n D e 0 = (D, e, 0) := by
  cases n with
  | zero => rfl
  | succ n => rfl
theorem divL_go (u n : Nat) (D : List Nat) (e : Int) {r : Nat} (h : r ≠ 0) : divL u (n + 1) D e r = divL u n (D ++ [r * 10 / u]) (e - 1) (r * 10 % u) := by
  rw [divL, if_neg h]
def divE (t : List Nat × Int × Nat) : List Nat × Int := if t.2.2 = 0 then (t.1, t.2.1) else (t.1 ++ [1], t.2.1 - 1)
def divR (m e m' e' : Int) : (Int × Int) × Bool :=
  if m' = 0 then noR else
  roundP (decide (m < 0) != decide (m' < 0)) (divE (divL m'.natAbs 32 (digs (m.natAbs / m'.natAbs)) (e - e') (m.natAbs % m'.natAbs))).1 (divE (divL m'.natAbs 32 (digs (m.natAbs / m'.natAbs)) (e - e') (m.natAbs % m'.natAbs))).2
def floorW (m e : Int) : Nat := if -e ≤ 15 then m.natAbs / 10 ^ (-e).toNat else 0
def floorQ (m e : Int) : Nat := if -e ≤ 15 then m.natAbs % 10 ^ (-e).toNat else m.natAbs
def floorN (m e : Int) : Nat := if m < 0 ∧ floorQ m e ≠ 0 then floorW m e + 1 else floorW m e
def floorR (m e : Int) : Int × Int := if 0 ≤ e then (m, e) else (trimM (decide (m < 0)) (floorN m e), trimX (floorN m e) 0)
def intL : Nat → Int → Option Int
  | 0, n => some n
  | k + 1, n => if 9223372036854775807 < n.natAbs * 10 then none else intL k (n * 10)
def intR (m e : Int) : Option Int := if numR m e = true ∧ 0 ≤ e then intL e.toNat m else none
def roundW (m : Int) (d : Nat) : Nat := if 10 ^ d ≤ (m.natAbs % 10 ^ d) * 2 then m.natAbs / 10 ^ d + 1 else m.natAbs / 10 ^ d
def roundR (m e p : Int) : Int × Int :=
  if p < -40 then (0, 0) else if 40 ≤ p ∨ -p ≤ e then (m, e) else if 15 < -p - e then (0, 0) else
  if numR (trimM (decide (m < 0)) (roundW m (-p - e).toNat)) (trimX (roundW m (-p - e).toNat) (-p)) then (trimM (decide (m < 0)) (roundW m (-p - e).toNat), trimX (roundW m (-p - e).toNat) (-p)) else (m, e)
theorem roundR_right {m e : Int} (h : numR m e = true) (p : Int) : numR (roundR m e p).1 (roundR m e p).2 = true := by
  unfold roundR
  split
  · rfl
  · split
    · exact h
    · split
      · rfl
      · split
        · assumption
        · exact h
theorem divR_right (m e m' e' : Int) : numR (divR m e m' e').1.1 (divR m e m' e').1.2 = true := by
  unfold divR
  split
  · rfl
  · exact roundP_right _ _ _
theorem mulR_right (g : Nat → Nat → Nat × Nat) (m e m' e' : Int) : numR (mulR g m e m' e').1.1 (mulR g m e m' e').1.2 = true := by
  unfold mulR
  exact roundP_right _ _ _
theorem numR_one : numR 1 0 = true := by
  have h : nd 1 = 1 := by
    rw [nd]
    simp
    rw [nd]
    simp
  unfold numR
  simp [h]
/-- What a value tells as a number, or the fault. -/
def toNum (v : V) : (Int × Int) × Int :=
  if v.k = 1 then ((v.m, v.e), 0) else if v.k = 2 then (if (parseP v.t).2 then ((parseP v.t).1, 0) else ((0, 0), 2)) else if v.k = 3 then (if v.b then ((1, 0), 0) else ((0, 0), 0)) else if v.k = 4 then ((0, 0), v.f) else ((0, 0), 0)
theorem toNum_right {v : V} (h : refR v = true) : numR (toNum v).1.1 (toNum v).1.2 = true := by
  unfold refR at h
  simp only [Bool.and_eq_true] at h
  have h5 := h.2
  unfold toNum
  by_cases k1 : v.k = 1
  · rw [if_pos k1] at h5 ⊢
    exact h5
  · rw [if_neg k1]
    split
    · split
      · exact parseP_right _
      · rfl
    · split
      · split
        · exact numR_one
        · rfl
      · split <;> rfl
def numV (n : Int × Int) : V := ⟨1, n.1, n.2, ⟨#[]⟩, false, 0⟩
def toldV (R : (Int × Int) × Bool) : V := if R.2 then numV R.1 else vBad 5
theorem refR_num {n : Int × Int} (h : numR n.1 n.2 = true) : refR (numV n) = true := by
  unfold refR numV
  simp [h]
theorem refR_bad (f : Int) : refR (vBad f) = true := by
  unfold refR vBad
  by_cases h : f < 1 ∨ 9 < f
  · simp [h]
  · simp [h]
    omega
theorem refR_truth (b : Bool) : refR (vTruth b) = true := by simp [refR, vTruth]
theorem refR_told {R : (Int × Int) × Bool} (h : numR R.1.1 R.1.2 = true) : refR (toldV R) = true := by
  unfold toldV
  split
  · exact refR_num h
  · exact refR_bad _
def pairR (x y : V) : ((Int × Int) × (Int × Int)) × Int :=
  if (toNum x).2 ≠ 0 then (((0, 0), (0, 0)), (toNum x).2) else if (toNum y).2 ≠ 0 then (((0, 0), (0, 0)), (toNum y).2) else (((toNum x).1, (toNum y).1), 0)
theorem pair_right {x y : V} (hx : refR x = true) (hy : refR y = true) : numR (pairR x y).1.1.1 (pairR x y).1.1.2 = true ∧ numR (pairR x y).1.2.1 (pairR x y).1.2.2 = true := by
  unfold pairR
  split
  · exact ⟨rfl, rfl⟩
  · split
    · exact ⟨rfl, rfl⟩
    · exact ⟨toNum_right hx, toNum_right hy⟩
def reckV (f : Int → Int → Int → Int → (Int × Int) × Bool) (x y : V) : V :=
  if (pairR x y).2 ≠ 0 then vBad (pairR x y).2 else toldV (f (pairR x y).1.1.1 (pairR x y).1.1.2 (pairR x y).1.2.1 (pairR x y).1.2.2)
theorem reck_right {f : Int → Int → Int → Int → (Int × Int) × Bool} (hf : ∀ a b c d, numR (f a b c d).1.1 (f a b c d).1.2 = true) (x y : V) : refR (reckV f x y) = true := by
  unfold reckV
  split
  · exact refR_bad _
  · exact refR_told (hf _ _ _ _)
def divV (x y : V) : V :=
  if (pairR x y).2 ≠ 0 then vBad (pairR x y).2 else if (pairR x y).1.2.1 = 0 then vBad 1 else toldV (divR (pairR x y).1.1.1 (pairR x y).1.1.2 (pairR x y).1.2.1 (pairR x y).1.2.2)
theorem div_right (x y : V) : refR (divV x y) = true := by
  unfold divV
  split
  · exact refR_bad _
  · split
    · exact refR_bad _
    · exact refR_told (divR_right _ _ _ _)
def powL (g : Nat → Nat → Nat × Nat) (m e : Int) : Nat → Int × Int → Option (Int × Int)
  | 0, p => some p
  | n + 1, p => if (mulR g p.1 p.2 m e).2 then powL g m e n (mulR g p.1 p.2 m e).1 else none
theorem powL_right {g : Nat → Nat → Nat × Nat} {m e : Int} : ∀ {n : Nat} {p q : Int × Int}, numR p.1 p.2 = true → powL g m e n p = some q → numR q.1 q.2 = true
  | 0, p, q, hp, h => by cases h; exact hp
  | n + 1, p, q, _, h => by
    unfold powL at h
    split at h
    · exact powL_right (mulR_right _ _ _ _ _) h
    · cases h
def powN (g : Nat → Nat → Nat × Nat) (m e : Int) (n : Nat) : (Int × Int) × Bool := match powL g m e n (1, 0) with
  | some q => (q, true)
  | none => noR
theorem powN_right (g : Nat → Nat → Nat × Nat) (m e : Int) (n : Nat) : numR (powN g m e n).1.1 (powN g m e n).1.2 = true := by
  unfold powN
  split
  · rename_i q hq
    exact powL_right numR_one hq
  · rfl
def powR (g : Nat → Nat → Nat × Nat) (m e k : Int) : (Int × Int) × Bool :=
  if k < -1000 ∨ 1000 < k then noR else if k < 0 then (if (powN g m e k.natAbs).2 then divR 1 0 (powN g m e k.natAbs).1.1 (powN g m e k.natAbs).1.2 else noR) else powN g m e k.natAbs
theorem powR_right (g : Nat → Nat → Nat × Nat) (m e k : Int) : numR (powR g m e k).1.1 (powR g m e k).1.2 = true := by
  unfold powR
  split
  · rfl
  · split
    · split
      · exact divR_right _ _ _ _
      · rfl
    · exact powN_right _ _ _ _
def powW (g : Nat → Nat → Nat × Nat) (a b : Int × Int) : V :=
  if floorR b.1 b.2 ≠ b then vBad 5 else if a.1 = 0 ∧ b.1 < 0 then vBad 1 else match intR b.1 b.2 with
  | none => vBad 5
  | some n => toldV (powR g a.1 a.2 n)
def powV (g : Nat → Nat → Nat × Nat) (x y : V) : V := if (pairR x y).2 ≠ 0 then vBad (pairR x y).2 else powW g (pairR x y).1.1 (pairR x y).1.2
theorem pow_right (g : Nat → Nat → Nat × Nat) (x y : V) : refR (powV g x y) = true := by
  unfold powV powW
  split
  · exact refR_bad _
  · split
    · exact refR_bad _
    · split
      · exact refR_bad _
      · split
        · exact refR_bad _
        · exact refR_told (powR_right _ _ _ _)
/-- The text of a number. -/
def textL (m e : Int) : List UInt8 :=
  (if m < 0 then [45] else []) ++ (if 0 ≤ e then Lib.decDigits m.natAbs ++ List.replicate e.toNat 48 else
  if 0 < ((Lib.decDigits m.natAbs).length : Int) + e then (Lib.decDigits m.natAbs).take (((Lib.decDigits m.natAbs).length : Int) + e).toNat ++ [46] ++ (Lib.decDigits m.natAbs).drop (((Lib.decDigits m.natAbs).length : Int) + e).toNat
  else [48, 46] ++ List.replicate (-(((Lib.decDigits m.natAbs).length : Int) + e)).toNat 48 ++ Lib.decDigits m.natAbs)
def toText (v : V) : ByteArray × Int :=
  if v.k = 1 then (⟨(textL v.m v.e).toArray⟩, 0) else if v.k = 2 then (v.t, 0) else if v.k = 3 then (if v.b then (⟨#[84, 82, 85, 69]⟩, 0) else (⟨#[70, 65, 76, 83, 69]⟩, 0)) else if v.k = 4 then (⟨#[]⟩, v.f) else (⟨#[]⟩, 0)
def textV (s : ByteArray) : V := if 255 < s.size then vBad 2 else ⟨2, 0, 0, s, false, 0⟩
theorem refR_text (s : ByteArray) : refR (textV s) = true := by
  unfold textV
  split
  · exact refR_bad _
  · simp [refR]
    omega
def joinV (x y : V) : V := if (toText x).2 ≠ 0 then vBad (toText x).2 else if (toText y).2 ≠ 0 then vBad (toText y).2 else textV ((toText x).1 ++ (toText y).1)
theorem join_right (x y : V) : refR (joinV x y) = true := by
  unfold joinV
  split
  · exact refR_bad _
  · split
    · exact refR_bad _
    · exact refR_text _
/-- How two values stand to each other. -/
def besV (v w : V) : V := if v.k = 0 ∧ (w.k = 1 ∨ w.k = 2 ∨ w.k = 3) then ⟨w.k, 0, 0, ⟨#[]⟩, false, 0⟩ else v
theorem bes_right {v w : V} (h : refR v = true) : refR (besV v w) = true := by
  unfold besV
  split
  · rename_i hc
    obtain ⟨_, hc | hc | hc⟩ := hc
    · simp [refR, hc, numR]
    · simp [refR, hc]
      exact Nat.zero_le _
    · simp [refR, hc]
  · exact h
def bOrd (a b : Bool) : Int := if a = b then 0 else if b then -1 else 1
def sameK (a b : V) : Int :=
  if a.k = 1 then cmpN a.m a.e b.m b.e else if a.k = 2 then Lib.compareBytes (upL a.t.data.toList) (upL b.t.data.toList) else if a.k = 3 then bOrd a.b b.b else if a.k = 4 then (if a.f < b.f then -1 else if b.f < a.f then 1 else 0) else 0
def cmpB (a b : V) : Int := if a.k ≠ b.k then (if a.k < b.k then -1 else 1) else sameK a b
def cmpV (x y : V) : Int := cmpB (besV x y) (besV y x)
def holdV (is : Int → Bool) (x y : V) : V := if x.k = 4 then x else if y.k = 4 then y else vTruth (is (cmpV x y))
theorem hold_right (is : Int → Bool) {x y : V} (hx : refR x = true) (hy : refR y = true) : refR (holdV is x y) = true := by
  unfold holdV
  split
  · exact hx
  · split
    · exact hy
    · exact refR_truth _
/-- The whole number of a value, or the fault. -/
def wholeR (v : V) : Int × Int := if (toNum v).2 ≠ 0 then (0, (toNum v).2) else match intR (floorR (toNum v).1.1 (toNum v).1.2).1 (floorR (toNum v).1.1 (toNum v).1.2).2 with
  | some n => (n, 0)
  | none => (0, 5)
def roundedV (x y : V) : V := if (toNum x).2 ≠ 0 then vBad (toNum x).2 else if (wholeR y).2 ≠ 0 then vBad (wholeR y).2 else numV (roundR (toNum x).1.1 (toNum x).1.2 (wholeR y).1)
theorem rounded_right {x : V} (hx : refR x = true) (y : V) : refR (roundedV x y) = true := by
  unfold roundedV
  split
  · exact refR_bad _
  · split
    · exact refR_bad _
    · exact refR_num (roundR_right (toNum_right hx) _)
end Go.Proofs.YtndhmahkglfopaaGreatDoor
/- value.ToNum, beside, truthOrder. -/
namespace Go.Proofs.YtndhmahkglfopaaGreatDoor
open Go.RowKit
def NumF (R : (Int × Int) × Int) : Value := .tuple #[.agg #[.int .i64 R.1.1, .int .i64 R.1.2], .int .i64 R.2]
def TNPost (w : World) (R : (Int × Int) × Int) (e : Ending) (w' : World) : Prop := e = .returned (NumF R) ∧ Below w.heap.size w w'
section
variable (k m e f : Int) (t : ByteArray) (b : Bool) (w : World)
set_option maxHeartbeats 2000000
set_option maxRecDepth 100000
theorem tn_1 : Calls Tryz.prog 103 #[.agg #[.int .i64 1, .int .i64 m, .int .i64 e, .string t, .bool b, .int .i64 f]] w (TNPost w ((m, e), 0)) := by
  go_enter Tryz.func103, Tryz.ntmps103
  go_wp2_with fail
  refine bodyPost_ret (v := .tuple #[.agg #[.int .i64 m, .int .i64 e], .int .i64 0]) (by simp [results, Tryz.results103, go_sem]) rfl ⟨rfl, ?_⟩
  (repeat with_reducible (first | exact bw0 _ _ | exact hBW | refine bw1 ?_ ?_ _ | refine bw2 ?_ ?_ _ | refine bw3 ?_ _ | refine bw4 ?_)); all_goals (first | omega | (dsimp only; omega) | ((repeat with_reducible (first | refine lz1 ?_ | refine lz2 ?_ | refine lz3 ?_ | refine lz4 ?_)); omega))
theorem tn_3t : Calls Tryz.prog 103 #[.agg #[.int .i64 3, .int .i64 m, .int .i64 e, .string t, .bool true, .int .i64 f]] w (TNPost w ((1, 0), 0)) := by
  go_enter Tryz.func103, Tryz.ntmps103
  go_wp2_with fail
  refine bodyPost_ret (v := .tuple #[.agg #[.int .i64 1, .int .i64 0], .int .i64 0]) (by simp [results, Tryz.results103, go_sem]) rfl ⟨rfl, ?_⟩
  (repeat with_reducible (first | exact bw0 _ _ | exact hBW | refine bw1 ?_ ?_ _ | refine bw2 ?_ ?_ _ | refine bw3 ?_ _ | refine bw4 ?_)); all_goals (first | omega | (dsimp only; omega) | ((repeat with_reducible (first | refine lz1 ?_ | refine lz2 ?_ | refine lz3 ?_ | refine lz4 ?_)); omega))
theorem tn_3f : Calls Tryz.prog 103 #[.agg #[.int .i64 3, .int .i64 m, .int .i64 e, .string t, .bool false, .int .i64 f]] w (TNPost w ((0, 0), 0)) := by
  go_enter Tryz.func103, Tryz.ntmps103
  go_wp2_with fail
  refine bodyPost_ret (v := .tuple #[.agg #[.int .i64 0, .int .i64 0], .int .i64 0]) (by simp [results, Tryz.results103, go_sem]) rfl ⟨rfl, ?_⟩
  (repeat with_reducible (first | exact bw0 _ _ | exact hBW | refine bw1 ?_ ?_ _ | refine bw2 ?_ ?_ _ | refine bw3 ?_ _ | refine bw4 ?_)); all_goals (first | omega | (dsimp only; omega) | ((repeat with_reducible (first | refine lz1 ?_ | refine lz2 ?_ | refine lz3 ?_ | refine lz4 ?_)); omega))
theorem tn_0 (n1 : (k == 1) = false) (n2 : (k == 2) = false) (n3 : (k == 3) = false) (n4 : (k == 4) = false) : Calls Tryz.prog 103 #[.agg #[.int .i64 k, .int .i64 m, .int .i64 e, .string t, .bool b, .int .i64 f]] w (TNPost w ((0, 0), 0)) := by
  go_enter Tryz.func103, Tryz.ntmps103
  go_wp2_with fail
  refine bodyPost_ret (v := .tuple #[.agg #[.int .i64 0, .int .i64 0], .int .i64 0]) (by simp [results, Tryz.results103, go_sem]) rfl ⟨rfl, ?_⟩
  (repeat with_reducible (first | exact bw0 _ _ | exact hBW | refine bw1 ?_ ?_ _ | refine bw2 ?_ ?_ _ | refine bw3 ?_ _ | refine bw4 ?_)); all_goals (first | omega | (dsimp only; omega) | ((repeat with_reducible (first | refine lz1 ?_ | refine lz2 ?_ | refine lz3 ?_ | refine lz4 ?_)); omega))
theorem tn_4 : Calls Tryz.prog 103 #[.agg #[.int .i64 4, .int .i64 m, .int .i64 e, .string t, .bool b, .int .i64 f]] w (TNPost w ((0, 0), f)) := by
  go_enter Tryz.func103, Tryz.ntmps103
  go_wp2_with fail
  refine abs_world ?_
  intro W1 hW1
  have hB1 : Below w.heap.size w W1 := by rw [hW1]; (repeat with_reducible (first | exact bw0 _ _ | exact hBW | refine bw1 ?_ ?_ _ | refine bw2 ?_ ?_ _ | refine bw3 ?_ _ | refine bw4 ?_)); all_goals (first | omega | (dsimp only; omega) | ((repeat with_reducible (first | refine lz1 ?_ | refine lz2 ?_ | refine lz3 ?_ | refine lz4 ?_)); omega))
  have ev : W1.heap[w.heap.size]? = some (.cells #[.int .i64 4, .int .i64 m, .int .i64 e, .string t, .bool b, .int .i64 f] 34) := by rw [hW1]; (repeat (first | (with_reducible refine bw5 ?_ _; (first | rfl | (simp; done) | omega | (simp; omega)); done) | with_reducible refine bw6 ?_ _ | with_reducible refine bw7 ?_ | with_reducible refine bw8 ?_))
  have e1 : W1.heap[w.heap.size + 1]? = some (.cells #[.int .i64 0, .int .i64 0] 32 (0, 0)) := by rw [hW1]; (repeat (first | (with_reducible refine bw5 ?_ _; (first | rfl | (simp; done) | omega | (simp; omega)); done) | with_reducible refine bw6 ?_ _ | with_reducible refine bw7 ?_ | with_reducible refine bw8 ?_))
  have k5 : W1.cell? ⟨w.heap.size, 5, none⟩ = some (.int .i64 f) := cell_of_heap ev 5
  have z0 := lt_of_heap ev
  have x1 := cell_of_heap e1
  have y1 := frozen_of_heap e1
  have z1 := lt_of_heap e1
  have HB1 := Lib.hid hB1
  clear hW1 hB1 ev e1
  refine wp_region_mix [0, 1, 2] [3, 4] [4] (fun W => W.cell? ⟨w.heap.size, 5, none⟩ = some (.int .i64 f)) (by kernel_rfl) (by kernel_rfl) k5 ?_
  iterate 3 (apply first_step; (rw [List.getElem?_toArray]; (repeat rw [List.getElem?_cons_succ]); rw [List.getElem?_cons_zero]); rfl; (intro W u0; go_simp; (first | done | rfl)); go_frame)
  refine first_done ?_
  apply tail_step; (rw [List.getElem?_toArray]; (repeat rw [List.getElem?_cons_succ]); rw [List.getElem?_cons_zero]); rfl; rfl; intro K hK; go_simp; refine hK _ _ (fun _ => by go_simp) ?_; clear hK K
  (apply tail_step; (rw [List.getElem?_toArray]; (repeat rw [List.getElem?_cons_succ]); rw [List.getElem?_cons_zero]); rfl; rfl; intro K hK; go_simp; refine hK _ _ (fun h => absurd (by decide) h) ?_; clear hK K)
  refine tail_done ?_
  have hBW := HB1.out
  go_wp2_with fail
  refine bodyPost_ret (v := .tuple #[.agg #[.int .i64 0, .int .i64 0], .int .i64 f]) (by simp [results, Tryz.results103, go_sem, x1]) rfl ⟨rfl, ?_⟩
  (repeat with_reducible (first | exact bw0 _ _ | exact hBW | refine bw1 ?_ ?_ _ | refine bw2 ?_ ?_ _ | refine bw3 ?_ _ | refine bw4 ?_)); all_goals (first | omega | (dsimp only; omega) | ((repeat with_reducible (first | refine lz1 ?_ | refine lz2 ?_ | refine lz3 ?_ | refine lz4 ?_)); omega))
theorem tn_2 (HP : Hid (∀ w, Calls Tryz.prog 130 #[.string t] w (NumPost w (parseP t)))) : Calls Tryz.prog 103 #[.agg #[.int .i64 2, .int .i64 m, .int .i64 e, .string t, .bool b, .int .i64 f]] w (TNPost w (if (parseP t).2 then ((parseP t).1, 0) else ((0, 0), 2))) := by
  generalize parseP t = P at HP ⊢
  obtain ⟨⟨rm, rx⟩, rk⟩ := P
  unfold NumPost NumV at HP
  simp only at HP
  cases rk with
  | true =>
    rw [if_pos rfl]
    go_enter Tryz.func103, Tryz.ntmps103
    go_wp2_with fail
    refine (HP.out _).mono ?_
    rintro r w1 ⟨rfl, hb1⟩
    have ev : w1.heap[w.heap.size + 1]? = some (.cells #[.int .i64 0, .int .i64 0] 32 (0, 0)) := (hb1.block _ (by simp)).trans (by (repeat (first | (with_reducible refine bw5 ?_ _; (first | rfl | (simp; done) | omega | (simp; omega)); done) | with_reducible refine bw6 ?_ _ | with_reducible refine bw7 ?_ | with_reducible refine bw8 ?_)))
    have HB1 : Hid (Below w.heap.size w w1) := by
      refine Below.trans ?_ (hb1.mono (by simp <;> omega))
      (repeat with_reducible (first | exact bw0 _ _ | exact hBW | refine bw1 ?_ ?_ _ | refine bw2 ?_ ?_ _ | refine bw3 ?_ _ | refine bw4 ?_)); all_goals (first | omega | (dsimp only; omega) | ((repeat with_reducible (first | refine lz1 ?_ | refine lz2 ?_ | refine lz3 ?_ | refine lz4 ?_)); omega))
    have x1 := cell_of_heap ev
    have y1 := frozen_of_heap ev
    have z1 := lt_of_heap ev
    clear hb1 ev
    go_wp2_with fail
    refine bodyPost_ret (v := .tuple #[.agg #[.int .i64 rm, .int .i64 rx], .int .i64 0]) (by simp [results, Tryz.results103, go_sem, x1, z1]) rfl ⟨rfl, ?_⟩
    have hBW := HB1.out
    (repeat with_reducible (first | exact bw0 _ _ | exact hBW | refine bw1 ?_ ?_ _ | refine bw2 ?_ ?_ _ | refine bw3 ?_ _ | refine bw4 ?_)); all_goals (first | omega | (dsimp only; omega) | ((repeat with_reducible (first | refine lz1 ?_ | refine lz2 ?_ | refine lz3 ?_ | refine lz4 ?_)); omega))
  | false =>
    rw [if_neg (by simp)]
    go_enter Tryz.func103, Tryz.ntmps103
    go_wp2_with fail
    refine (HP.out _).mono ?_
    rintro r w1 ⟨rfl, hb1⟩
    have ev : w1.heap[w.heap.size + 1]? = some (.cells #[.int .i64 0, .int .i64 0] 32 (0, 0)) := (hb1.block _ (by simp)).trans (by (repeat (first | (with_reducible refine bw5 ?_ _; (first | rfl | (simp; done) | omega | (simp; omega)); done) | with_reducible refine bw6 ?_ _ | with_reducible refine bw7 ?_ | with_reducible refine bw8 ?_)))
    have HB1 : Hid (Below w.heap.size w w1) := by
      refine Below.trans ?_ (hb1.mono (by simp <;> omega))
      (repeat with_reducible (first | exact bw0 _ _ | exact hBW | refine bw1 ?_ ?_ _ | refine bw2 ?_ ?_ _ | refine bw3 ?_ _ | refine bw4 ?_)); all_goals (first | omega | (dsimp only; omega) | ((repeat with_reducible (first | refine lz1 ?_ | refine lz2 ?_ | refine lz3 ?_ | refine lz4 ?_)); omega))
    have x1 := cell_of_heap ev
    have y1 := frozen_of_heap ev
    have z1 := lt_of_heap ev
    clear hb1 ev
    go_wp2_with fail
    refine bodyPost_ret (v := .tuple #[.agg #[.int .i64 0, .int .i64 0], .int .i64 2]) (by simp [results, Tryz.results103, go_sem, x1, z1]) rfl ⟨rfl, ?_⟩
    have hBW := HB1.out
    (repeat with_reducible (first | exact bw0 _ _ | exact hBW | refine bw1 ?_ ?_ _ | refine bw2 ?_ ?_ _ | refine bw3 ?_ _ | refine bw4 ?_)); all_goals (first | omega | (dsimp only; omega) | ((repeat with_reducible (first | refine lz1 ?_ | refine lz2 ?_ | refine lz3 ?_ | refine lz4 ?_)); omega))
end
theorem ToNum_any (v : V) (h : refR v = true) (w : World) : Calls Tryz.prog 103 #[vagg v] w (TNPost w (toNum v)) := by
  have ht : v.k = 2 → v.t.size ≤ 255 := fun hk => by
    unfold refR at h
    simp only [Bool.and_eq_true] at h
    have h5 := h.2
    rw [if_neg (by omega), if_pos hk] at h5
    exact of_decide_eq_true h5
  obtain ⟨k, m, e, t, b, f⟩ := v
  unfold vagg toNum
  simp only at ht ⊢
  by_cases k1 : k = 1
  · subst k1
    exact tn_1 m e f t b w
  rw [if_neg k1]
  by_cases k2 : k = 2
  · subst k2
    exact tn_2 m e f t b w (fun w => Parse_any t w (ht rfl))
  rw [if_neg k2]
  by_cases k3 : k = 3
  · subst k3
    cases b with
    | true => exact tn_3t m e f t w
    | false => exact tn_3f m e f t w
  rw [if_neg k3]
  by_cases k4 : k = 4
  · subst k4
    exact tn_4 m e f t b w
  rw [if_neg k4]
  exact tn_0 k m e f t b w (by simpa using k1) (by simpa using k2) (by simpa using k3) (by simpa using k4)
section
set_option maxHeartbeats 2000000
set_option maxRecDepth 100000
theorem truthOrder_any (a b : Bool) (w : World) : Calls Tryz.prog 111 #[.bool a, .bool b] w fun e w' => e = .returned (.int .i64 (bOrd a b)) ∧ w = w' := by
  cases a <;> cases b <;>
  · go_enter Tryz.func111, Tryz.ntmps111
    go_wp2_with fail
    go_ret
    exact ⟨rfl, rfl⟩
theorem beside_any (v u : V) (w : World) : Calls Tryz.prog 107 #[vagg v, vagg u] w fun e w' => e = .returned (vagg (besV v u)) ∧ Below w.heap.size w w' := by
  obtain ⟨k, m, e, t, b, f⟩ := v
  obtain ⟨k', m', e', t', b', f'⟩ := u
  unfold vagg besV
  simp only
  by_cases k0 : k = 0
  · subst k0
    have n0 : ((0 : Int) != 0) = false := rfl
    by_cases k1 : k' = 1
    · subst k1
      rw [if_pos ⟨rfl, .inl rfl⟩]
      go_enter Tryz.func107, Tryz.ntmps107
      go_wp2_with fail
      refine bodyPost_ret (v := vagg ⟨1, 0, 0, ⟨#[]⟩, false, 0⟩) (by simp [results, Tryz.results107, go_sem, vagg]) rfl ⟨rfl, ?_⟩
      (repeat with_reducible (first | exact bw0 _ _ | exact hBW | refine bw1 ?_ ?_ _ | refine bw2 ?_ ?_ _ | refine bw3 ?_ _ | refine bw4 ?_)); all_goals (first | omega | (dsimp only; omega) | ((repeat with_reducible (first | refine lz1 ?_ | refine lz2 ?_ | refine lz3 ?_ | refine lz4 ?_)); omega))
    have e1 : (k' == 1) = false := by simpa using k1
    by_cases k2 : k' = 2
    · subst k2
      rw [if_pos ⟨rfl, .inr (.inl rfl)⟩]
      clear k1 e1
      go_enter Tryz.func107, Tryz.ntmps107
      go_wp2_with fail
      refine bodyPost_ret (v := vagg ⟨2, 0, 0, ⟨#[]⟩, false, 0⟩) (by simp [results, Tryz.results107, go_sem, vagg]) rfl ⟨rfl, ?_⟩
      (repeat with_reducible (first | exact bw0 _ _ | exact hBW | refine bw1 ?_ ?_ _ | refine bw2 ?_ ?_ _ | refine bw3 ?_ _ | refine bw4 ?_)); all_goals (first | omega | (dsimp only; omega) | ((repeat with_reducible (first | refine lz1 ?_ | refine lz2 ?_ | refine lz3 ?_ | refine lz4 ?_)); omega))
    have e2 : (k' == 2) = false := by simpa using k2
    by_cases k3 : k' = 3
    · subst k3
      rw [if_pos ⟨rfl, .inr (.inr rfl)⟩]
      clear k1 e1 k2 e2
      go_enter Tryz.func107, Tryz.ntmps107
      go_wp2_with fail
      refine bodyPost_ret (v := vagg ⟨3, 0, 0, ⟨#[]⟩, false, 0⟩) (by simp [results, Tryz.results107, go_sem, vagg]) rfl ⟨rfl, ?_⟩
      (repeat with_reducible (first | exact bw0 _ _ | exact hBW | refine bw1 ?_ ?_ _ | refine bw2 ?_ ?_ _ | refine bw3 ?_ _ | refine bw4 ?_)); all_goals (first | omega | (dsimp only; omega) | ((repeat with_reducible (first | refine lz1 ?_ | refine lz2 ?_ | refine lz3 ?_ | refine lz4 ?_)); omega))
    have e3 : (k' == 3) = false := by simpa using k3
    rw [if_neg (by omega)]
    clear k1 k2 k3
    go_enter Tryz.func107, Tryz.ntmps107
    go_wp2_with fail
    refine bodyPost_ret (v := vagg ⟨0, m, e, t, b, f⟩) (by simp [results, Tryz.results107, go_sem, vagg]) rfl ⟨rfl, ?_⟩
    (repeat with_reducible (first | exact bw0 _ _ | exact hBW | refine bw1 ?_ ?_ _ | refine bw2 ?_ ?_ _ | refine bw3 ?_ _ | refine bw4 ?_)); all_goals (first | omega | (dsimp only; omega) | ((repeat with_reducible (first | refine lz1 ?_ | refine lz2 ?_ | refine lz3 ?_ | refine lz4 ?_)); omega))
  · have n0 : (k != 0) = true := by simpa using k0
    rw [if_neg (fun h => k0 h.1)]
    clear k0
    go_enter Tryz.func107, Tryz.ntmps107
    go_wp2_with fail
    refine bodyPost_ret (v := vagg ⟨k, m, e, t, b, f⟩) (by simp [results, Tryz.results107, go_sem, vagg]) rfl ⟨rfl, ?_⟩
    (repeat with_reducible (first | exact bw0 _ _ | exact hBW | refine bw1 ?_ ?_ _ | refine bw2 ?_ ?_ _ | refine bw3 ?_ _ | refine bw4 ?_)); all_goals (first | omega | (dsimp only; omega) | ((repeat with_reducible (first | refine lz1 ?_ | refine lz2 ?_ | refine lz3 ?_ | refine lz4 ?_)); omega))
end
end Go.Proofs.YtndhmahkglfopaaGreatDoor
