/- WholeFiltered, plainly: whole numbers' values, how they stand to each other, their texts read again. -/
import Derived.Test.YtndhmahkglfopaaGreatDoorQT16X
import Derived.Test.YtndhmahkglfopaaGreatDoorQT16ZA
import Derived.Test.YtndhmahkglfopaaGreatDoorQT16YC
import Derived.Test.YtndhmahkglfopaaGreatDoorQT16DE
import Derived.Test.YtndhmahkglfopaaGreatDoorQT16R
namespace Go.Proofs.YtndhmahkglfopaaGreatDoor
open Go.Sort
theorem trim_eq : ∀ (k n : Nat), n ≤ k → n ≠ 0 → n = trimW n * 10 ^ trimE n ∧ trimW n ≠ 0 ∧ trimW n % 10 ≠ 0 ∧ nd n = nd (trimW n) + trimE n
  | 0, n, h, h0 => by omega
  | k + 1, n, h, h0 => by
    by_cases h2 : n % 10 = 0
    · obtain ⟨q1, q2, q3, q4⟩ := trim_eq k (n / 10) (by omega) (by omega)
      rw [trimW_go h0 h2, trimE_go h0 h2]
      refine ⟨?_, q2, q3, ?_⟩
      · rw [Nat.pow_succ, ← Nat.mul_assoc, ← q1]; omega
      · rw [nd_pos h0, q4]; omega
    · rw [trimW_at h2, trimE_at h2]
      exact ⟨by simp, h0, h2, by simp⟩
theorem trimM_abs (neg : Bool) (n : Nat) : (trimM neg n).natAbs = trimW n := by
  unfold trimM
  split <;> simp
theorem mk_abs {d : Int} (h : d ≠ 0) : (mkM d).natAbs = trimW d.natAbs ∧ mkX d = (trimE d.natAbs : Int) := by
  have hn : d.natAbs ≠ 0 := by omega
  unfold mkM mkX trimX
  rw [if_neg h, if_neg h, if_neg hn, trimM_abs]
  exact ⟨rfl, by omega⟩
theorem nd15 {n : Nat} (h : n < 1000000000000000) : nd n ≤ 15 := nd_le 15 n h
theorem mk_right {d : Int} (h : Small d) : numR (mkM d) (mkX d) = true := by
  unfold Small at h
  by_cases h0 : d = 0
  · subst h0
    rfl
  · obtain ⟨e1, e2⟩ := mk_abs h0
    obtain ⟨q1, q2, q3, q4⟩ := trim_eq _ d.natAbs (Nat.le_refl _) (by omega)
    have q5 := nd15 h
    have q6 := trimW_le _ d.natAbs (Nat.le_refl _)
    unfold numR
    rw [if_neg (by omega), e1, e2]
    simp only [decide_eq_true_eq]
    refine ⟨by omega, q3, by omega, by omega, by omega⟩
theorem cnt_refR {d : Int} (h : Small d) : refR (cntV d) = true := refR_num (mk_right h)
theorem cmpV_num (p q : Int × Int) : cmpV (numV p) (numV q) = cmpN p.1 p.2 q.1 q.2 := by
  unfold cmpV besV cmpB sameK numV
  simp
theorem sgn_mk (d : Int) : sgn (mkM d) = sgn d := by
  by_cases h0 : d = 0
  · subst h0
    rfl
  · obtain ⟨q1, q2, q3, q4⟩ := trim_eq _ d.natAbs (Nat.le_refl _) (by omega)
    unfold mkM
    rw [if_neg h0]
    unfold trimM sgn
    by_cases h : d < 0
    · rw [decide_eq_true h, if_pos rfl, if_pos (by omega), if_pos h]
    · rw [decide_eq_false h]
      simp only [Bool.false_eq_true, if_false]
      rw [if_neg (by omega), if_pos (by omega), if_neg h, if_pos (by omega)]
theorem nd_mono {a b : Nat} (h : a ≤ b) : nd a ≤ nd b := nd_le _ _ (Nat.lt_of_le_of_lt h (lt_pow_nd _ b (Nat.le_refl _)))
theorem cmpZ_mk {a b : Int} (ha : Small a) (hb : Small b) (h0 : a ≠ 0) (h1 : b ≠ 0) : cmpZ (mkM a) (mkX a) (mkM b) (mkX b) = cmpI (a.natAbs : Int) (b.natAbs : Int) := by
  unfold Small at ha hb
  obtain ⟨e1, e2⟩ := mk_abs h0
  obtain ⟨f1, f2⟩ := mk_abs h1
  obtain ⟨q1, q2, q3, q4⟩ := trim_eq _ a.natAbs (Nat.le_refl _) (by omega)
  obtain ⟨r1, r2, r3, r4⟩ := trim_eq _ b.natAbs (Nat.le_refl _) (by omega)
  have q5 := nd15 ha
  have r5 := nd15 hb
  unfold cmpZ cszD
  rw [if_neg (by omega), e1, e2, f1, f2]
  have x1 : trimW a.natAbs * 10 ^ (15 - nd (trimW a.natAbs)) = a.natAbs * 10 ^ (15 - nd a.natAbs) := by
    rw [show 15 - nd (trimW a.natAbs) = trimE a.natAbs + (15 - nd a.natAbs) by omega, Nat.pow_add, ← Nat.mul_assoc, ← q1]
  have x2 : trimW b.natAbs * 10 ^ (15 - nd (trimW b.natAbs)) = b.natAbs * 10 ^ (15 - nd b.natAbs) := by
    rw [show 15 - nd (trimW b.natAbs) = trimE b.natAbs + (15 - nd b.natAbs) by omega, Nat.pow_add, ← Nat.mul_assoc, ← r1]
  rw [x1, x2]
  unfold cmpI
  generalize a.natAbs = A at *
  generalize b.natAbs = B at *
  by_cases hn : nd A = nd B
  · rw [if_neg (by omega), hn]
    have hp : 0 < 10 ^ (15 - nd B) := Nat.pow_pos (by omega)
    generalize 10 ^ (15 - nd B) = P at hp
    by_cases l : A < B
    · rw [if_pos (Nat.mul_lt_mul_of_pos_right l hp), if_neg (by omega), if_pos (by omega)]
    · by_cases g : B < A
      · rw [if_neg (Nat.not_lt.2 (Nat.mul_le_mul_right _ (by omega))), if_pos (Nat.mul_lt_mul_of_pos_right g hp), if_neg (by omega), if_neg (by omega)]
      · have e : A = B := by omega
        rw [e, if_neg (Nat.lt_irrefl _), if_neg (Nat.lt_irrefl _), if_pos rfl]
  · rw [if_pos (by omega)]
    by_cases l : A < B
    · have := nd_mono (Nat.le_of_lt l)
      rw [if_pos (by omega), if_neg (by omega), if_pos (by omega)]
    · have := nd_mono (Nat.le_of_not_lt l)
      have h2 : A ≠ B := fun e => hn (by rw [e])
      rw [if_neg (by omega), if_neg (by omega), if_neg (by omega)]
/-- Whole numbers' values stand to each other as the numbers do. -/
theorem cmp_cnt {a b : Int} (ha : Small a) (hb : Small b) : cmpV (cntV a) (cntV b) = cmpI a b := by
  unfold cntV
  rw [cmpV_num]
  unfold cmpN
  simp only [sgn_mk]
  by_cases h0 : a = 0
  · by_cases h1 : b = 0
    · subst h0 h1
      simp [sgn, cmpI]
    · subst h0
      unfold sgn cmpI
      by_cases h : b < 0
      · simp [h, Ne.symm h1]
        omega
      · have h2 : 0 < b := by omega
        simp [h, h2, Ne.symm h1]
  · by_cases h1 : b = 0
    · subst h1
      unfold sgn cmpI
      by_cases h : a < 0
      · simp [h, h0]
      · have h2 : 0 < a := by omega
        simp [h, h2, h0]
    · rw [cmpZ_mk ha hb h0 h1]
      unfold sgn cmpI
      by_cases h : a < 0
      · by_cases g : b < 0
        · simp only [h, g, if_true, ne_eq, not_true_eq_false, if_false]
          (repeat' split) <;> omega
        · have g2 : 0 < b := by omega
          simp only [h, g, g2, if_true, if_false]
          (repeat' split) <;> omega
      · have h2 : 0 < a := by omega
        by_cases g : b < 0
        · simp only [h, h2, g, if_true, if_false]
          (repeat' split) <;> omega
        · have g2 : 0 < b := by omega
          simp only [h, h2, g, g2, if_true, if_false, ne_eq, not_true_eq_false]
          (repeat' split) <;> omega
theorem cmpInt_all (D : List Int) (h : ∀ d ∈ D, Small d) : CmpInt D := fun a ha b hb => cmp_cnt (h a ha) (h b hb)
/-- No two whole numbers have one value. -/
theorem cnt_ne_zero {d : Int} (h0 : d ≠ 0) : cntV d ≠ cntV 0 := fun e => by
  have hm := congrArg V.m e
  obtain ⟨e1, _⟩ := mk_abs h0
  obtain ⟨_, q2, _, _⟩ := trim_eq _ d.natAbs (Nat.le_refl _) (by omega)
  have : mkM d = mkM 0 := hm
  rw [this] at e1
  exact q2 e1.symm
/-- A whole number's text, byte by byte. -/
def cText (d : Int) : List UInt8 := (if d < 0 then [45] else []) ++ (if d = 0 then [48] else (rdg d.natAbs).map fun x => UInt8.ofNat (48 + x))
/-- Its digits. -/
def cDig (d : Int) : List Nat := if d = 0 then [0] else rdg d.natAbs
theorem cText_eq (d : Int) : cText d = (if d < 0 then [45] else []) ++ (cDig d).map fun x => UInt8.ofNat (48 + x) := by
  unfold cText cDig
  by_cases h : d = 0
  · subst h; rfl
  · rw [if_neg h, if_neg h]
theorem cDig_ten (d : Int) : ∀ x ∈ cDig d, x < 10 := by
  unfold cDig
  split
  · simp
  · exact rdg_ten _ _ (Nat.le_refl _)
theorem cDig_len {d : Int} (h : Small d) : 1 ≤ (cDig d).length ∧ (cDig d).length ≤ 15 := by
  unfold Small at h
  unfold cDig
  split
  · simp
  · rw [rdg_len _ _ (Nat.le_refl _)]
    have := nd_pos (n := d.natAbs) (by omega)
    have := nd15 h
    omega
theorem readP_digits (s : ByteArray) : ∀ (l : List Nat) (pos n : Nat) (r : RS), (∀ (i x : Nat), l[i]? = some x → x < 10 ∧ s.data.toList[pos + i]? = some (UInt8.ofNat (48 + x))) → pos + l.length = s.size → l.length ≤ n → r.st ≤ 2 → l ≠ [] → readP s n pos r = some ⟨2, r.ng, r.np, r.D ++ l, r.bh, r.pw⟩
  | [], _, _, _, _, _, _, _, h => absurd rfl h
  | x :: l, pos, n, r, hx, hs, hn, hr, _ => by
    simp only [List.length_cons] at hs hn
    obtain ⟨n, rfl⟩ : ∃ k, n = k + 1 := ⟨n - 1, by omega⟩
    have hp : pos < s.size := by omega
    obtain ⟨x1, x2⟩ := hx 0 x rfl
    have e0 : s[pos]'hp = UInt8.ofNat (48 + x) := by
      have := (List.getElem?_eq_some_iff.1 x2).2
      exact this
    have e1 : (s[pos]'hp).toNat = 48 + x := by
      rw [e0, UInt8.toNat_ofNat']
      omega
    have hd := decode_ascii s pos hp (by omega)
    have ht : takeP r (Utf8.decode s pos).1 = some ⟨2, r.ng, r.np, r.D ++ [x], r.bh, r.pw⟩ := by
      rw [hd]
      simp only [e1]
      unfold takeP digitP
      rw [if_pos (by omega), if_pos hr, show 48 + x - 48 = x by omega]
    rw [readP_go hp ht, hd]
    cases l with
    | nil =>
      exact readP_end (by simp at hs; omega)
    | cons y l =>
      have key := readP_digits s (y :: l) (pos + 1) n ⟨2, r.ng, r.np, r.D ++ [x], r.bh, r.pw⟩ (fun i z hz => by
        have := hx (i + 1) z hz
        rw [show pos + 1 + i = pos + (i + 1) by omega]
        exact this) (by omega) (by omega) (Int.le_refl 2) (by simp)
      simpa using key
theorem valD_valR (D : List Nat) : valD D = valR D := by
  unfold valD valR
  congr 1
  funext a d
  omega
theorem round_rdg {N : Nat} (neg : Bool) (h0 : N ≠ 0) (h : N < 1000000000000000) (hr : numR (trimM neg N) (trimX N 0) = true) : roundP neg (rdg N) 0 = ((trimM neg N, trimX N 0), true) := by
  have hl := rdg_len _ N (Nat.le_refl _)
  have h15 := nd15 h
  have hb : bareP (rdg N) = rdg N := by
    obtain ⟨d, hd, hd0⟩ := rdg_head _ N (Nat.le_refl _) h0
    match hq : rdg N, hd with
    | [], hd => simp at hd
    | x :: r, hd =>
      simp at hd
      subst hd
      unfold bareP
      rw [if_neg hd0]
  have hp := nd_pos h0
  have hv : valD (rdg N) = N := by rw [valD_valR]; exact valR_rdg _ N (Nat.le_refl _)
  unfold roundP
  rw [hb, if_neg (by omega), if_neg (by omega)]
  unfold stg1
  rw [if_neg (by omega)]
  unfold stg2
  rw [if_neg (by omega)]
  unfold finP
  rw [hv, if_pos hr]
/-- Read again, a whole number's text is the number. -/
theorem parse_cText {d : Int} (h : Small d) (s : ByteArray) (he : s.data.toList = cText d) : parseP s = ((mkM d, mkX d), true) := by
  have hz : s.size = (cText d).length := by rw [← he]; exact Array.length_toList.symm
  have hl := cDig_len h
  have hne : cDig d ≠ [] := fun e => by rw [e] at hl; simp at hl
  rw [cText_eq] at he hz
  have hpost : ∀ neg, neg = decide (d < 0) → endP ⟨2, neg, false, [] ++ cDig d, 0, 0⟩ = ((mkM d, mkX d), true) := by
    intro neg hneg
    unfold endP
    simp only [true_or, if_true, List.nil_append, Bool.false_eq_true, if_false]
    show roundP neg (cDig d) 0 = _
    unfold cDig mkM mkX
    by_cases h0 : d = 0
    · simp only [h0, if_true]
      unfold roundP
      simp [bareP]
    · have hr := mk_right h
      unfold mkM mkX at hr
      simp only [h0, if_false] at hr ⊢
      rw [hneg]
      exact round_rdg _ (by omega) h hr
  unfold parseP
  by_cases hneg : d < 0
  · rw [if_pos hneg] at he hz
    simp only [List.length_append, List.length_cons, List.length_nil, List.length_map] at hz
    have hp : 0 < s.size := by omega
    have e0 : s[0]'hp = 45 := by
      have : s.data.toList[0]? = some 45 := by rw [he]; rfl
      exact (List.getElem?_eq_some_iff.1 this).2
    have hd := decode_ascii s 0 hp (by rw [e0]; decide)
    have ht : takeP RS0 (Utf8.decode s 0).1 = some ⟨1, true, false, [], 0, 0⟩ := by
      rw [hd]
      simp only [e0]
      rfl
    obtain ⟨k, hk⟩ : ∃ k, s.size = k + 1 := ⟨s.size - 1, by omega⟩
    have r1 : readP s s.size 0 RS0 = readP s k 1 ⟨1, true, false, [], 0, 0⟩ := by
      rw [hk, readP_go hp ht, hd]
      simp only [Nat.zero_add]
    have r2 := readP_digits s (cDig d) 1 k ⟨1, true, false, [], 0, 0⟩ (fun i x hx => ⟨cDig_ten d x (List.mem_of_getElem? hx), by
      rw [he, show 1 + i = i + 1 by omega]
      simp [hx]⟩) (by omega) (by omega) (by decide) hne
    rw [r1, r2]
    exact hpost true (by simp [hneg])
  · rw [if_neg hneg] at he hz
    simp only [List.nil_append, List.length_map] at hz
    have r2 := readP_digits s (cDig d) 0 s.size RS0 (fun i x hx => ⟨cDig_ten d x (List.mem_of_getElem? hx), by
      rw [he]
      simp [hx]⟩) (by omega) (by omega) (by decide) hne
    rw [r2]
    exact hpost false (by simp [hneg])
end Go.Proofs.YtndhmahkglfopaaGreatDoor
/- ref01.Text of whole numbers. -/
namespace Go.Proofs.YtndhmahkglfopaaGreatDoor
open Go.RowKit
def dByte (x : Nat) : UInt8 := UInt8.ofNat (48 + x)
def tx (l : List Nat) : ByteArray := ⟨(l.map dByte).toArray⟩
theorem tx_app (l r : List Nat) : tx l ++ tx r = tx (l ++ r) := by
  unfold tx
  rw [ba_app, List.map_append]
theorem tx_size (l : List Nat) : (tx l).size = l.length := by simp [tx, ByteArray.size]
theorem ten_ext (k : Nat) (h : k < 10) : ByteArray.extract ⟨#[48, 49, 50, 51, 52, 53, 54, 55, 56, 57]⟩ k (k + 1) = tx [k] := by
  have h10 : k = 0 ∨ k = 1 ∨ k = 2 ∨ k = 3 ∨ k = 4 ∨ k = 5 ∨ k = 6 ∨ k = 7 ∨ k = 8 ∨ k = 9 := by omega
  rcases h10 with rfl | rfl | rfl | rfl | rfl | rfl | rfl | rfl | rfl | rfl <;> (apply ByteArray.ext; simp [tx, dByte])
/-- A number's digits with the noughts that were cut off. -/
theorem rdg_trim : ∀ (k n : Nat), n ≤ k → n ≠ 0 → rdg (trimW n) ++ List.replicate (trimE n) 0 = rdg n
  | 0, n, h, h0 => by omega
  | k + 1, n, h, h0 => by
    by_cases h2 : n % 10 = 0
    · rw [trimW_go h0 h2, trimE_go h0 h2, rdg_pos h0, h2, ← rdg_trim k (n / 10) (by omega) (by omega), List.replicate_succ', List.append_assoc]
    · rw [trimW_at h2, trimE_at h2]
      simp
/-- The text that the document tells of a number: sign, digits, noughts. -/
def rtL (m : Int) (e : Nat) : List UInt8 := if m = 0 then [48] else (if m < 0 then [45] else []) ++ ((rdg m.natAbs ++ List.replicate e 0).map dByte)
theorem rtL_mk (d : Int) : rtL (mkM d) (mkX d).toNat = cText d := by
  unfold rtL cText
  by_cases h : d = 0
  · subst h
    rfl
  · obtain ⟨e1, e2⟩ := mk_abs h
    obtain ⟨_, q2, _, _⟩ := trim_eq _ d.natAbs (Nat.le_refl _) (by omega)
    have hs := sgn_mk d
    have hn : (mkM d < 0) ↔ d < 0 := by
      unfold sgn at hs
      constructor
      · intro h1
        rw [if_pos h1] at hs
        by_cases h2 : d < 0
        · exact h2
        · rw [if_neg h2] at hs
          split at hs <;> omega
      · intro h1
        rw [if_pos h1] at hs
        by_cases h2 : mkM d < 0
        · exact h2
        · rw [if_neg h2] at hs
          split at hs <;> omega
    rw [if_neg (by omega), if_neg h, e1, e2, Int.toNat_natCast, rdg_trim _ _ (Nat.le_refl _) (by omega)]
    simp only [hn]
    rfl
theorem mkX_nat (d : Int) : mkX d = ((mkX d).toNat : Int) := by
  by_cases h : d = 0
  · subst h
    rfl
  · rw [(mk_abs h).2]
    rfl
theorem w64s (n : Nat) (h : n ≤ 8192) : wrap64 ((n : Int) + 1) = (n : Int) + 1 := IntWalk.wrap64_in _ (by omega)
theorem k64s (n : Nat) (h : n ≤ 8192) : IntKind.i64.wrap ((n : Int) + 1) = (n : Int) + 1 := by rw [IntKind.wrap_i64]; omega
section
variable (w : World)
set_option maxHeartbeats 4000000
set_option maxRecDepth 100000
/- the end; $1: the sign's texts -/
theorem rtext_any (m : Int) (E : Nat) (h : numR m E = true) : Calls Tryz.prog 22 #[.agg #[.int .i64 m, .int .i64 E]] w fun r w' => r = .returned (.string ⟨(rtL m E).toArray⟩) ∧ Below w.heap.size w w' := by
  have hb := numR_small h
  have hR := fun w => refNum_any m E w
  rw [h] at hR
  have HR := Lib.hid hR
  obtain ⟨T, hT⟩ : ∃ T, T = rtL m E := ⟨_, rfl⟩
  rw [← hT]
  have ER := Lib.hid hT
  have HD := Lib.hid (fun w => digitsC_any m hb.1 w)
  have HT9 := Lib.hid (rdg_ten _ m.natAbs (Nat.le_refl _))
  have hE : E ≤ 40 := by omega
  have HN15 : Hid ((rdg m.natAbs).length ≤ 15) := by unfold Hid; rw [rdg_len _ _ (Nat.le_refl _)]; exact nd15 hb.1
  by_cases h0 : m = 0
  · have n0 : (m == 0) = true := by simpa using h0
    have EQ : Hid ((⟨#[48]⟩ : ByteArray) = ⟨T.toArray⟩) := by unfold Hid; rw [ER.out]; unfold rtL; rw [if_pos h0]
    clear h hR hT hb h0
    go_enter Tryz.func22, Tryz.ntmps22
    go_wp2_with fail
    refine (HR.out _).mono ?_
    rintro r w1 ⟨rfl, hb1⟩
    have ev : w1.heap[w.heap.size]? = some (.cells #[.int .i64 m, .int .i64 E] 32 (0, 0)) := (hb1.block _ (by simp)).trans (by (repeat (first | (with_reducible refine bw5 ?_ _; (first | rfl | (simp; done) | omega | (simp; omega)); done) | with_reducible refine bw6 ?_ _ | with_reducible refine bw7 ?_ | with_reducible refine bw8 ?_)))
    have HB9 : Hid (Below w.heap.size w w1) := by
      refine Below.trans ?_ (hb1.mono (by simp))
      (repeat with_reducible (first | exact bw0 _ _ | exact hBW | refine bw1 ?_ ?_ _ | refine bw2 ?_ ?_ _ | refine bw3 ?_ _ | refine bw4 ?_)); all_goals (first | omega | (dsimp only; omega) | ((repeat with_reducible (first | refine lz1 ?_ | refine lz2 ?_ | refine lz3 ?_ | refine lz4 ?_)); omega))
    have k0 := cell_of_heap ev 0
    have k1 := cell_of_heap ev 1
    have z0 := lt_of_heap ev
    clear hb1 ev HR
    go_wp2_with fail
    go_ret
    exact ⟨ret_str EQ.out, HB9.out⟩
  · have n0 : (m == 0) = false := by simpa using h0
    have hp : 0 < (rdg m.natAbs).length := by rw [rdg_pos (show m.natAbs ≠ 0 by omega)]; simp
    have HP := Lib.hid hp
    have EQT : Hid (T = (if m < 0 then [45] else []) ++ ((rdg m.natAbs ++ List.replicate E 0).map dByte)) := by unfold Hid; rw [ER.out]; unfold rtL; rw [if_neg h0]
    clear h hR hT hb h0 hp ER
    generalize rdg m.natAbs = D at HD HT9 HN15 HP EQT
    obtain ⟨n, hn⟩ : ∃ n, n = D.length := ⟨_, rfl⟩
    have EN := Lib.hid hn
    rw [← hn] at HN15 HD
    clear hn
    go_enter Tryz.func22, Tryz.ntmps22
    go_wp2_with fail
    refine (HR.out _).mono ?_
    rintro r w1 ⟨rfl, hb1⟩
    have ev : w1.heap[w.heap.size]? = some (.cells #[.int .i64 m, .int .i64 E] 32 (0, 0)) := (hb1.block _ (by simp)).trans (by (repeat (first | (with_reducible refine bw5 ?_ _; (first | rfl | (simp; done) | omega | (simp; omega)); done) | with_reducible refine bw6 ?_ _ | with_reducible refine bw7 ?_ | with_reducible refine bw8 ?_)))
    have HB1 : Hid (Below w.heap.size w w1) := by
      refine Below.trans ?_ (hb1.mono (by simp))
      (repeat with_reducible (first | exact bw0 _ _ | exact hBW | refine bw1 ?_ ?_ _ | refine bw2 ?_ ?_ _ | refine bw3 ?_ _ | refine bw4 ?_)); all_goals (first | omega | (dsimp only; omega) | ((repeat with_reducible (first | refine lz1 ?_ | refine lz2 ?_ | refine lz3 ?_ | refine lz4 ?_)); omega))
    have k0 := cell_of_heap ev 0
    have k1 := cell_of_heap ev 1
    have z0 := lt_of_heap ev
    have EV := Lib.hid ev
    clear hb1 ev HR
    go_wp2_with fail
    refine (HD.out _).mono ?_
    rintro r w2 ⟨⟨v, rfl, hrow⟩, hb2⟩
    rw [EN.out] at hrow
    obtain ⟨b, cap, rfl, _, hRD⟩ := rds_of_own hrow HP.out
    rw [← EN.out]
    have EV2 := Lib.hid ((hb2.block _ (lt_of_heap EV.out)).trans EV.out)
    have HB2 := Lib.hid (HB1.out.trans (hb2.mono HB1.out.size))
    have HRD := Lib.hid hRD
    have k9 := HN15.out
    clear hb2 hrow hRD k0 k1 z0 HD
    go_wp2_with fail
    go_loopw [4, 5] (fun s x wr => ∃ i : Nat, x = .int .i64 i ∧ s = .string (tx (D.take i)) ∧ i ≤ n ∧ Hid (Below w2.heap.size w2 wr)) (fun _ x _ => n - (intOf x).toNat)
    case atStart => exact ⟨0, rfl, rfl, Nat.zero_le _, Below.refl _ _⟩
    case round =>
      obtain ⟨i, rfl, rfl, hi, hB⟩ := hrel
      by_cases hlt : i < n
      · obtain ⟨k, hk⟩ : ∃ k, D[i]? = some k := ⟨_, List.getElem?_eq_getElem (by rw [← EN.out]; exact hlt)⟩
        have hk10 := HT9.out k (List.mem_of_getElem? hk)
        have cc := (HRD.out.below hB.out).2 i k hk
        have zb := (HRD.out.below hB.out).1
        have i1 : (i : Int) < (n : Int) := by omega
        have i0 : (0 : Int) ≤ (i : Int) := by omega
        have j1 : (0 : Int) ≤ (k : Int) := by omega
        have j2 : (k : Int) ≤ (k : Int) + 1 := by omega
        have j3 : (k : Int) + 1 ≤ 10 := by omega
        have j4 : ((k : Int) + 1).toNat = k + 1 := by omega
        have IL : Hid (i + 1 ≤ n) := by unfold Hid; omega
        have bk : k ≤ 8192 := by omega
        have bi : i ≤ 8192 := by omega
        obtain ⟨u, hu⟩ : ∃ u, u = tx (D.take i) := ⟨_, rfl⟩
        obtain ⟨c, hc⟩ : ∃ c, c = tx [k] := ⟨_, rfl⟩
        have hx : ByteArray.extract ⟨#[48, 49, 50, 51, 52, 53, 54, 55, 56, 57]⟩ k (k + 1) = c := by rw [hc]; exact ten_ext k hk10
        have hcs : c.size = 1 := by rw [hc, tx_size]; rfl
        have hus : u.size ≤ 15 := by rw [hu, tx_size]; simp; omega
        have s0 : ¬ 9223372036854775807 < u.size + c.size := by omega
        have s1 : ¬ 9223372036854775807 < u.size + 1 := by omega
        have NX : Hid (u ++ c = tx (D.take (i + 1))) := by unfold Hid; rw [hu, hc, tx_app, List.take_add_one, hk]; rfl
        rw [← hu]
        clear hu hc hk hk10
        have v1 := w64s k bk
        have v2 := k64s k bk
        have v3 := w64s i bi
        clear bk bi
        go_wp2_with fail
        refine wp_region_mix [0, 1, 2, 3, 4, 5, 6, 7, 8, 9, 10, 11, 12] [] [] (Below wr.heap.size wr) (by kernel_rfl) (by kernel_rfl) (Below.refl _ _).drew ?_
        iterate 13 (first | (apply first_step; (rw [List.getElem?_toArray]; (repeat rw [List.getElem?_cons_succ]); rw [List.getElem?_cons_zero]); rfl; (intro W hB; have hc := bcellB hB; go_simp; (first | done | rfl)); go_frame) | (apply first_skip; (rw [List.getElem?_toArray]; (repeat rw [List.getElem?_cons_succ]); rw [List.getElem?_cons_zero]); rfl; go_frame))
        refine first_done ?_
        refine tail_done ?_
        clear cc hx v1 v2 j1 j2 j3 j4 s0 s1 hcs hus zb
        go_wp2_with fail
        go_roundw
        case rel => exact ⟨i + 1, by first | rfl | go_num, by rw [NX.out], IL.out, hB.out.drew⟩
        case measure =>
          clear v3
          simp [intOf]; omega
      · have i1 : ¬ (i : Int) < (n : Int) := by omega
        have e : i = n := by omega
        rw [e, List.take_of_length_le (by rw [← EN.out]; exact Nat.le_refl _)]
        clear e hlt hi
        have HB3 : Hid (Below w.heap.size w wr) := HB2.out.trans (hB.out.mono HB2.out.size)
        have EV3 := Lib.hid ((hB.out.block _ (lt_of_heap EV2.out)).trans EV2.out)
        have k0 := cell_of_heap EV3.out 0
        have k1 := cell_of_heap EV3.out 1
        have z0 := lt_of_heap EV3.out
        rename World => wo
        have ED : Hid (tx D = tx (D ++ List.replicate 0 0)) := by unfold Hid; simp
        clear hB
        go_wp2_with fail
        go_loopw [4, 6] (fun s x wr => wr = wo ∧ ∃ i : Nat, x = .int .i64 i ∧ s = .string (tx (D ++ List.replicate i 0)) ∧ i ≤ E) (fun _ x _ => E - (intOf x).toNat)
        case atStart => exact ⟨rfl, 0, rfl, congrArg Value.string ED.out, Nat.zero_le _⟩
        case round =>
          obtain ⟨rfl, i, rfl, rfl, hi⟩ := hrel
          by_cases hlt : i < E
          · have i2 : (i : Int) < (E : Int) := by omega
            have IL : Hid (i + 1 ≤ E) := by unfold Hid; omega
            have bi : i ≤ 8192 := by omega
            obtain ⟨u, hu⟩ : ∃ u, u = tx (D ++ List.replicate i 0) := ⟨_, rfl⟩
            have hus : u.size ≤ 60 := by rw [hu, tx_size]; simp; rw [← EN.out]; omega
            have s1 : ¬ 9223372036854775807 < u.size + 1 := by omega
            have NX : Hid (u ++ ⟨#[48]⟩ = tx (D ++ List.replicate (i + 1) 0)) := by
              unfold Hid
              rw [hu, show (⟨#[48]⟩ : ByteArray) = tx [0] from rfl, tx_app, List.append_assoc, List.replicate_succ']
            rw [← hu]
            clear hu
            have v3 := w64s i bi
            go_wp2_with fail
            go_roundw
            case rel => exact ⟨by trivial, i + 1, by first | rfl | go_num, by rw [NX.out], IL.out⟩
            case measure =>
              clear v3 s1
              simp [intOf]; omega
          · have i2 : ¬ (i : Int) < (E : Int) := by omega
            have e : i = E := by omega
            subst e
            have de : decide ((i : Int) < 0) = false := decide_eq_false (by omega)
            have de2 : ¬ (i : Int) < 0 := by omega
            obtain ⟨u, hu⟩ : ∃ u, u = tx (D ++ List.replicate i 0) := ⟨_, rfl⟩
            have hus : u.size ≤ 60 := by rw [hu, tx_size]; simp; rw [← EN.out]; omega
            have s1 : ¬ 9223372036854775807 < 1 + u.size := by omega
            have HB9 := HB3
            rw [← hu]
            by_cases hm : m < 0
            · have dm : decide (m < 0) = true := decide_eq_true hm
              have EQ : Hid ((⟨#[45]⟩ : ByteArray) ++ u = ⟨T.toArray⟩) := by
                unfold Hid
                rw [EQT.out, if_pos hm, hu, show (⟨#[45]⟩ : ByteArray) = ⟨([45] : List UInt8).toArray⟩ from rfl]
                unfold tx
                rw [ba_app]
              clear hu hi hlt
              go_wp2_with fail
              go_ret
              exact ⟨ret_str EQ.out, HB9.out⟩
            · have dm : decide (m < 0) = false := decide_eq_false hm
              have EQ : Hid (u = ⟨T.toArray⟩) := by
                unfold Hid
                rw [EQT.out, if_neg hm, hu]
                rfl
              clear hu hi hlt
              go_wp2_with fail
              go_ret
              exact ⟨ret_str EQ.out, HB9.out⟩
end
end Go.Proofs.YtndhmahkglfopaaGreatDoor
/- than; prefixes cut off; Read of a number's text. -/
namespace Go.Proofs.YtndhmahkglfopaaGreatDoor
open Go.RowKit
def tV (t : ByteArray) : V := ⟨2, 0, 0, t, false, 0⟩
theorem tV_right {t : ByteArray} (h : t.size ≤ 255) : refR (tV t) = true := by
  unfold refR tV
  simp [h]
/-- A whole number's text. -/
def cT (d : Int) : ByteArray := ⟨(cText d).toArray⟩
theorem cT_size {d : Int} (h : Small d) : 1 ≤ (cT d).size ∧ (cT d).size ≤ 16 := by
  have h1 := cDig_len h
  have h2 : (cT d).size = (cText d).length := by simp [cT, ByteArray.size]
  rw [h2, cText_eq]
  split <;> simp <;> omega
section
variable (w : World)
set_option maxHeartbeats 2000000
set_option maxRecDepth 100000
theorem text8_any (t : ByteArray) (h : t.size ≤ 255) : Calls Tryz.prog 8 #[.string t] w fun r w' => r = .returned (vagg (tV t)) ∧ Below w.heap.size w w' := by
  have d : decide (255 < (t.size : Int)) = false := decide_eq_false (by omega)
  have d2 : ¬ 255 < (t.size : Int) := by omega
  clear h
  unfold vagg tV
  go_enter Tryz.func8, Tryz.ntmps8
  go_wp2_with fail
  refine bodyPost_ret (v := .agg #[.int .i64 2, .int .i64 0, .int .i64 0, .string t, .bool false, .int .i64 0]) (by simp [results, Tryz.results8, go_sem]) rfl ⟨rfl, ?_⟩
  (repeat with_reducible (first | exact bw0 _ _ | exact hBW | refine bw1 ?_ ?_ _ | refine bw2 ?_ ?_ _ | refine bw3 ?_ _ | refine bw4 ?_)); all_goals (first | omega | (dsimp only; omega) | ((repeat with_reducible (first | refine lz1 ?_ | refine lz2 ?_ | refine lz3 ?_ | refine lz4 ?_)); omega))
theorem than_any (s : ByteArray) (hs : s.size ≤ 2) (d : Int) (h : Small d) : Calls Tryz.prog 12 #[.string s, .int .i64 d] w (ArrPost w ⟨1, 1, [tV (s ++ cT d)]⟩) := by
  have hc := cT_size h
  have hsz : (s ++ cT d).size ≤ 255 := by rw [ByteArray.size_append]; omega
  have s1 : ¬ 9223372036854775807 < s.size + (cT d).size := by omega
  have HM := Lib.hid (fun w => Make_any w d h)
  have HT := Lib.hid (fun w => rtext_any w (mkM d) (mkX d).toNat (by rw [← mkX_nat]; exact mk_right h))
  have H8 := Lib.hid (fun w => text8_any w (s ++ cT d) hsz)
  have H7 := Lib.hid (fun w => single_any w (tV (s ++ cT d)) (tV_right hsz))
  rw [rtL_mk, ← mkX_nat] at HT
  generalize mkM d = M at HM HT
  generalize mkX d = X at HM HT
  change Hid (∀ w, Calls Tryz.prog 22 #[.agg #[.int .i64 M, .int .i64 X]] w fun r w' => r = .returned (.string (cT d)) ∧ Below w.heap.size w w') at HT
  unfold vagg tV at H8
  unfold tV at H7 ⊢
  simp only at H8
  generalize cT d = c at *
  generalize hS : s ++ c = S at H8 H7 ⊢
  clear h hc hsz hs
  go_enter Tryz.func12, Tryz.ntmps12
  go_wp2_with fail
  refine (HM.out _).mono ?_
  rintro e w1 ⟨rfl, hb1⟩
  have HB1 : Hid (Below w.heap.size w w1) := by
    refine Below.trans ?_ (hb1.mono (by simp))
    (repeat with_reducible (first | exact bw0 _ _ | exact hBW | refine bw1 ?_ ?_ _ | refine bw2 ?_ ?_ _ | refine bw3 ?_ _ | refine bw4 ?_)); all_goals (first | omega | (dsimp only; omega) | ((repeat with_reducible (first | refine lz1 ?_ | refine lz2 ?_ | refine lz3 ?_ | refine lz4 ?_)); omega))
  have G0 := Lib.hid ((hb1.block w.heap.size (by simp)).trans (show _ = some (.cells #[.int .i64 0, .int .i64 0, .slice none 0 0] 28 (0, 0)) by (repeat (first | (with_reducible refine bw5 ?_ _; (first | rfl | (simp; done) | omega | (simp; omega)); done) | with_reducible refine bw6 ?_ _ | with_reducible refine bw7 ?_ | with_reducible refine bw8 ?_))))
  clear hb1
  go_wp2_with fail
  refine (HT.out _).mono ?_
  rintro e w2 ⟨rfl, hb2⟩
  have hba : Below w1.heap.size w1 (w1.alloc (.cells #[.int .i64 M, .int .i64 X] 32)) := below_alloc w1 _ _ (Nat.le_refl _)
  have HB2 : Hid (Below w.heap.size w w2) := HB1.out.trans ((hba.trans (hb2.mono (by simp))).mono HB1.out.size)
  have G1 := Lib.hid ((hb2.block w.heap.size (by have := lt_of_heap G0.out; simp; omega)).trans (heap_alloc_old G0.out _))
  clear hb2 hba
  go_wp2_with fail
  refine (H8.out _).mono ?_
  rintro e w3 ⟨rfl, hb3⟩
  have HB3 : Hid (Below w.heap.size w w3) := HB2.out.trans (hb3.mono HB2.out.size)
  have G2 := Lib.hid ((hb3.block w.heap.size (lt_of_heap G1.out)).trans G1.out)
  clear hb3
  go_wp2_with fail
  refine (H7.out _).mono ?_
  rintro e w4 ⟨x, rfl, ⟨a4, cap4, rfl, hsl⟩, hb4⟩
  have e0 := (hb4.block w.heap.size (lt_of_heap G2.out)).trans G2.out
  have HB4 := Lib.hid (HB3.out.trans (hb4.mono HB3.out.size))
  have x0 := cell_of_heap e0
  have z0 := frozen_of_heap e0
  have hn0 := lt_of_heap e0
  have HSL := Lib.hid (hsl.mono (B' := w.heap.size + 1) (lt_of_heap G2.out))
  clear hsl hb4 e0
  go_wp2_with fail
  refine bodyPost_ret (v := .agg #[.int .i64 1, .int .i64 1, .slice a4 1 cap4]) (by simp [results, Tryz.results12, go_sem, x0]) rfl ?_
  exact arr_hand (A := ⟨1, 1, [⟨2, 0, 0, S, false, 0⟩]⟩) (n := 0) (Nat.le_refl _) HSL.out HB4.out _ _ _
/-- Begins s with p? -/
def pfx (p s : ByteArray) : Bool := decide (p.size ≤ s.size) && ((s.extract 0 p.size).toList == p.toList)
theorem hasPrefix_any (s p : ByteArray) : Calls Tryz.prog 311 #[.string s, .string p] w fun e w' => e = .returned (.bool (pfx p s)) ∧ w = w' := by
  by_cases h : p.size ≤ s.size
  · have d1 : decide ((p.size : Int) ≤ (s.size : Int)) = true := decide_eq_true (by omega)
    have i1 : (p.size : Int) ≤ (s.size : Int) := by omega
    have hx : pfx p s = ((s.extract 0 p.size).toList == p.toList) := by unfold pfx; simp [h]
    rw [hx]
    clear hx
    go_enter Tryz.func311, Tryz.ntmps311
    go_wp2_with fail
    go_ret
    exact ⟨rfl, rfl⟩
  · have d1 : decide ((p.size : Int) ≤ (s.size : Int)) = false := decide_eq_false (by omega)
    have i1 : ¬ (p.size : Int) ≤ (s.size : Int) := by omega
    have hx : pfx p s = false := by unfold pfx; simp [h]
    rw [hx]
    clear hx
    go_enter Tryz.func311, Tryz.ntmps311
    go_wp2_with fail
    go_ret
    exact ⟨rfl, rfl⟩
theorem cut345_yes (s p : ByteArray) (h : pfx p s = true) : Calls Tryz.prog 345 #[.string s, .string p] w fun e w' => e = .returned (.tuple #[.string (s.extract p.size s.size), .bool true]) ∧ w = w' := by
  have HP := Lib.hid (fun w => hasPrefix_any w s p)
  rw [h] at HP
  have hle : p.size ≤ s.size := by
    unfold pfx at h
    simp only [Bool.and_eq_true, decide_eq_true_eq] at h
    exact h.1
  have i1 : (p.size : Int) ≤ (s.size : Int) := by omega
  clear h
  go_enter Tryz.func345, Tryz.ntmps345
  go_wp2_with fail
  refine (HP.out _).mono ?_
  rintro e w1 ⟨rfl, rfl⟩
  clear HP
  go_wp2_with fail
  exact bodyPost_ret (v := .tuple #[.string (s.extract p.size s.size), .bool true]) (by simp [results, Tryz.results345, go_sem]) rfl ⟨rfl, rfl⟩
theorem cut345_no (s p : ByteArray) (h : pfx p s = false) : Calls Tryz.prog 345 #[.string s, .string p] w fun e w' => e = .returned (.tuple #[.string s, .bool false]) ∧ w = w' := by
  have HP := Lib.hid (fun w => hasPrefix_any w s p)
  rw [h] at HP
  clear h
  go_enter Tryz.func345, Tryz.ntmps345
  go_wp2_with fail
  refine (HP.out _).mono ?_
  rintro e w1 ⟨rfl, rfl⟩
  clear HP
  go_wp2_with fail
  exact bodyPost_ret (v := .tuple #[.string s, .bool false]) (by simp [results, Tryz.results345, go_sem]) rfl ⟨rfl, rfl⟩
theorem cut_yes (s p : ByteArray) (h : pfx p s = true) : Calls Tryz.prog 315 #[.string s, .string p] w fun e w' => e = .returned (.tuple #[.string (s.extract p.size s.size), .bool true]) ∧ w = w' := by
  have HP := Lib.hid (fun w => cut345_yes w s p h)
  generalize s.extract p.size s.size = x at HP ⊢
  clear h
  go_enter Tryz.func315, Tryz.ntmps315
  go_wp2_with fail
  refine (HP.out _).mono ?_
  rintro e w1 ⟨rfl, rfl⟩
  clear HP
  go_wp2_with fail
  exact bodyPost_ret (v := .tuple #[.string x, .bool true]) (by simp [results, Tryz.results315, go_sem]) rfl ⟨rfl, rfl⟩
theorem cut_no (s p : ByteArray) (h : pfx p s = false) : Calls Tryz.prog 315 #[.string s, .string p] w fun e w' => e = .returned (.tuple #[.string s, .bool false]) ∧ w = w' := by
  have HP := Lib.hid (fun w => cut345_no w s p h)
  clear h
  go_enter Tryz.func315, Tryz.ntmps315
  go_wp2_with fail
  refine (HP.out _).mono ?_
  rintro e w1 ⟨rfl, rfl⟩
  clear HP
  go_wp2_with fail
  exact bodyPost_ret (v := .tuple #[.string s, .bool false]) (by simp [results, Tryz.results315, go_sem]) rfl ⟨rfl, rfl⟩
/-- A number's text, read. -/
theorem read_num (t : ByteArray) (n : Int × Int) (h0 : 1 ≤ t.size) (h1 : t.size ≤ 255) (hp : parseP t = (n, true)) : Calls Tryz.prog 316 #[.string t] w fun r w' => r = .returned (vagg (numV n)) ∧ Below w.heap.size w w' := by
  have HP := Lib.hid (fun w => Parse_any t w h1)
  rw [hp] at HP
  obtain ⟨nm, nx⟩ := n
  unfold NumPost NumV at HP
  simp only at HP
  have e1 : t.toList.isEmpty = false := by
    rw [ByteArray.toList_eq]
    cases hl : t.data.toList with
    | nil =>
      have h2 : t.size = t.data.toList.length := Array.length_toList.symm
      rw [hl] at h2
      have h3 : t.size = 0 := h2
      omega
    | cons a r => rfl
  unfold vagg numV
  clear hp h0 h1
  go_enter Tryz.func316, Tryz.ntmps316
  go_wp2_with fail
  refine (HP.out _).mono ?_
  rintro e w1 ⟨rfl, hb1⟩
  have HB1 : Hid (Below w.heap.size w w1) := by
    refine Below.trans ?_ (hb1.mono (by simp))
    (repeat with_reducible (first | exact bw0 _ _ | exact hBW | refine bw1 ?_ ?_ _ | refine bw2 ?_ ?_ _ | refine bw3 ?_ _ | refine bw4 ?_)); all_goals (first | omega | (dsimp only; omega) | ((repeat with_reducible (first | refine lz1 ?_ | refine lz2 ?_ | refine lz3 ?_ | refine lz4 ?_)); omega))
  have G0 := Lib.hid ((hb1.block w.heap.size (by simp)).trans (show _ = some (.cells #[.int .i64 0, .int .i64 0, .int .i64 0, .string ⟨#[]⟩, .bool false, .int .i64 0] 34 (0, 0)) by (repeat (first | (with_reducible refine bw5 ?_ _; (first | rfl | (simp; done) | omega | (simp; omega)); done) | with_reducible refine bw6 ?_ _ | with_reducible refine bw7 ?_ | with_reducible refine bw8 ?_))))
  clear hb1 HP
  go_wp2_with fail
  refine (Of_any nm nx _).mono ?_
  rintro e w2 ⟨rfl, hb2⟩
  have hba : Below w1.heap.size w1 (w1.alloc (.cells #[.int .i64 nm, .int .i64 nx] 32)) := below_alloc w1 _ _ (Nat.le_refl _)
  have HB2 : Hid (Below w.heap.size w w2) := HB1.out.trans ((hba.trans (hb2.mono (by simp))).mono HB1.out.size)
  have e0 := (hb2.block w.heap.size (by have := lt_of_heap G0.out; simp; omega)).trans (heap_alloc_old G0.out _)
  have x0 := cell_of_heap e0
  have z0 := frozen_of_heap e0
  have hn0 := lt_of_heap e0
  clear hb2 hba e0
  go_wp2_with fail
  refine bodyPost_ret (v := .agg #[.int .i64 1, .int .i64 nm, .int .i64 nx, .string ⟨#[]⟩, .bool false, .int .i64 0]) (by simp [results, Tryz.results316, go_sem, x0]) rfl ⟨rfl, ?_⟩
  have hBW := HB2.out
  have hsz := hBW.size
  (repeat with_reducible (first | exact bw0 _ _ | exact hBW | refine bw1 ?_ ?_ _ | refine bw2 ?_ ?_ _ | refine bw3 ?_ _ | refine bw4 ?_)); all_goals (first | omega | (dsimp only; omega) | ((repeat with_reducible (first | refine lz1 ?_ | refine lz2 ?_ | refine lz3 ?_ | refine lz4 ?_)); omega))
theorem read_cT (d : Int) (h : Small d) : Calls Tryz.prog 316 #[.string (cT d)] w fun r w' => r = .returned (vagg (cntV d)) ∧ Below w.heap.size w w' :=
  read_num w (cT d) (mkM d, mkX d) (cT_size h).1 (Nat.le_trans (cT_size h).2 (by omega)) (parse_cText h (cT d) (by simp [cT]))
end
end Go.Proofs.YtndhmahkglfopaaGreatDoor
/- WholeFiltered, plainly: the mask, the places, sorted first or afterwards. -/
namespace Go.Proofs.YtndhmahkglfopaaGreatDoor
open Go.Sort
theorem sort_filter (p : Int → Bool) (D : List Int) : (sortD D).filter p = sortD (D.filter p) := by
  have tr : ∀ (a b c : Int), (!ltI b a) = true → (!ltI c b) = true → (!ltI c a) = true := fun a b c h1 h2 => by
    simp only [ltI, Bool.not_eq_true', decide_eq_false_iff_not] at *
    omega
  have tot : ∀ (a b : Int), ((!ltI b a) || (!ltI a b)) = true := fun a b => by
    simp only [ltI, Bool.or_eq_true, Bool.not_eq_true', decide_eq_false_iff_not]
    omega
  unfold sortD
  refine List.Perm.eq_of_pairwise (le := fun x y => (!ltI y x) = true) (fun a b _ _ h1 h2 => ?_) ((List.pairwise_mergeSort tr tot D).filter p) (List.pairwise_mergeSort tr tot (D.filter p)) ?_
  · simp only [ltI, Bool.not_eq_true', decide_eq_false_iff_not] at h1 h2
    omega
  · exact ((List.mergeSort_perm D _).filter p).trans (List.mergeSort_perm (D.filter p) _).symm
/-- What a sign asks of how a number stands to another. -/
def lets (is : Int → Bool) (v : Int) (d : Int) : Bool := is (cmpI d v)
/-- The mask. -/
def maskL (is : Int → Bool) (v : Int) (D : List Int) : List V := D.map fun d => vTruth (lets is v d)
theorem hold_cnt (is : Int → Bool) {a b : Int} (ha : Small a) (hb : Small b) : holdV is (cntV a) (cntV b) = vTruth (lets is b a) := by
  unfold holdV lets
  rw [cmp_cnt ha hb, if_neg (by simp [cntV, numV]), if_neg (by simp [cntV, numV])]
theorem grid_col (U : Nat → Nat → V) (r : Nat) : grid U r 1 = (List.range r).map fun i => U i 0 := by
  unfold grid
  induction r with
  | zero => rfl
  | succ r ih => rw [List.range_succ, List.flatMap_append, ih, List.map_append]; rfl
theorem mask_eq (is : Int → Bool) (v : Int) (D : List Int) (h1 : 1 ≤ D.length) (hv : Small v) (hD : ∀ d ∈ D, Small d) : bothV (holdV is) ⟨D.length, 1, D.map cntV⟩ ⟨1, 1, [cntV v]⟩ = ⟨D.length, 1, maskL is v D⟩ := by
  unfold bothV
  simp only [Arr.mk.injEq]
  have e1 : max (D.length : Int) 1 = D.length := by omega
  refine ⟨e1, rfl, ?_⟩
  rw [e1]
  show grid _ D.length 1 = _
  rw [grid_col]
  unfold maskL
  apply List.ext_getElem?
  intro i
  rw [List.getElem?_map, List.getElem?_map]
  by_cases hi : i < D.length
  · obtain ⟨d, hd⟩ : ∃ d, D[i]? = some d := ⟨_, List.getElem?_eq_getElem hi⟩
    rw [List.getElem?_range hi, hd]
    simp only [Option.map_some, Option.some.injEq]
    have hb : atP ⟨1, 1, [cntV v]⟩ i 0 = some (cntV v) := by
      unfold atP atI
      simp
    have ha : atP ⟨D.length, 1, D.map cntV⟩ i 0 = some (cntV d) := by
      unfold atP atI
      by_cases e : (D.length : Int) = 1
      · have : i = 0 := by omega
        subst this
        simp [e, hd]
      · have e3 := (List.getElem?_eq_some_iff.1 hd).2
        simp [e, hi, e3]
    unfold bothU
    rw [ha, hb]
    exact hold_cnt is (hD d (List.mem_of_getElem? hd)) hv
  · rw [List.getElem?_eq_none (by simp; omega), List.getElem?_eq_none (by omega)]
    rfl
/-- The places that are let by, of the first i. -/
def plcL (p : Int → Bool) (D : List Int) (i : Nat) : List Nat := (List.range i).filter fun k => p (dxI D k)
theorem plcL_succ (p : Int → Bool) (D : List Int) (i : Nat) : plcL p D (i + 1) = plcL p D i ++ (if p (dxI D i) then [i] else []) := by
  unfold plcL
  rw [List.range_succ, List.filter_append]
  congr 1
  by_cases h : p (dxI D i) <;> simp [h]
theorem plcL_len (p : Int → Bool) (D : List Int) (i : Nat) : (plcL p D i).length ≤ i := by
  unfold plcL
  exact Nat.le_trans (List.length_filter_le _ _) (by simp)
theorem plcL_lt (p : Int → Bool) (D : List Int) (i : Nat) : ∀ k ∈ plcL p D i, k < i := fun k hk => by
  unfold plcL at hk
  simpa using (List.mem_filter.1 hk).1
theorem plcL_map (p : Int → Bool) (D : List Int) : (plcL p D D.length).map (dxI D) = D.filter p := by
  have h := List.filter_map (f := dxI D) (p := p) (l := List.range D.length)
  rw [map_dx] at h
  exact h.symm
theorem plcL_size (p : Int → Bool) (D : List Int) : (plcL p D D.length).length = (D.filter p).length := by
  rw [← plcL_map, List.length_map]
theorem atPl_plc (p : Int → Bool) (D : List Int) (d : Array Nat) (h : d.toList = plcL p D D.length) : atPl (D.map cntV) d = (D.filter p).map cntV := by
  rw [← plcL_map]
  unfold atPl
  rw [h, List.map_map]
  apply List.map_congr_left
  intro x hx
  have := plcL_lt p D _ x hx
  simp [dxI, this]
theorem take_filter (p : Int → Bool) (D : List Int) (i : Nat) (d : Int) (hd : D[i]? = some d) : (D.take (i + 1)).filter p = (D.take i).filter p ++ (if p d then [d] else []) := by
  rw [List.take_add_one, hd, List.filter_append]
  congr 1
  by_cases h : p d <;> simp [h]
end Go.Proofs.YtndhmahkglfopaaGreatDoor
