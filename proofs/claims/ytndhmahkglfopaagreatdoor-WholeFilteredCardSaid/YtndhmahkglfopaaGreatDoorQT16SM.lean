/- symMerge, plainly: rotations, insertions, and that the halves' merge is in order. -/
import Derived.Test.YtndhmahkglfopaaGreatDoorQT16SA
namespace Go.Proofs.YtndhmahkglfopaaGreatDoor
open Go.Sort
section
variable {lt : Nat → Nat → Bool}
theorem sortedLe (hS : SWO lt) {a b i j : Nat} {d : Array Nat} (h : SortedIn lt a b d) (hi : a ≤ i) (hij : i ≤ j) (hj : j < b) : lt d[j]! d[i]! = false := by
  rcases Nat.lt_or_ge i j with h1 | h1
  · exact h i j hi h1 hj
  · have e : i = j := by omega
    rw [e]
    exact hS.irrefl _
/-- [lo, mid) and [mid, hi) have changed places. -/
def Rot (lo mid hi : Nat) (d d' : Array Nat) : Prop := d'.size = d.size ∧ ∀ x, d'[x]! = if lo ≤ x ∧ x < lo + (hi - mid) then d[x + (mid - lo)]! else if lo + (hi - mid) ≤ x ∧ x < hi then d[x - (hi - mid)]! else d[x]!
/-- n numbers from a on, and from b on, have changed places. -/
def Swr (a b n : Nat) (d d' : Array Nat) : Prop := d'.size = d.size ∧ ∀ x, d'[x]! = if a ≤ x ∧ x < a + n then d[x + b - a]! else if b ≤ x ∧ x < b + n then d[x + a - b]! else d[x]!
theorem Swr.zero (a b : Nat) (d : Array Nat) : Swr a b 0 d d := ⟨rfl, fun x => by
  rw [if_neg (by omega), if_neg (by omega)]⟩
theorem Swr.step {a b n : Nat} {d c : Array Nat} (h : Swr a b n d c) (hab : a + n < b) (hb : b + n < d.size) : Swr a b (n + 1) d (swp c (a + n) (b + n)) := by
  obtain ⟨h1, h2⟩ := h
  refine ⟨by rw [swp_size, h1], fun x => ?_⟩
  rw [swp_get c (by omega) (by omega)]
  by_cases e1 : x = b + n
  · subst e1
    rw [if_pos rfl, if_neg (by omega), if_pos (by omega), h2 (a + n), if_neg (by omega), if_neg (by omega)]
    congr 1
    omega
  · rw [if_neg e1]
    by_cases e2 : x = a + n
    · subst e2
      rw [if_pos rfl, if_pos (by omega), h2 (b + n), if_neg (by omega), if_neg (by omega)]
      congr 1
      omega
    · rw [if_neg e2, h2 x]
      by_cases e3 : a ≤ x ∧ x < a + n
      · rw [if_pos e3, if_pos (by omega)]
      · rw [if_neg e3]
        by_cases e4 : b ≤ x ∧ x < b + n
        · rw [if_pos e4, if_neg (by omega), if_pos (by omega)]
        · rw [if_neg e4, if_neg (by omega), if_neg (by omega)]
theorem Rot.none (m : Nat) (hi : Nat) (d : Array Nat) : Rot m m hi d d := ⟨rfl, fun x => by
  by_cases e : m ≤ x ∧ x < m + (hi - m)
  · rw [if_pos e]; congr 1; omega
  · rw [if_neg e, if_neg (by omega)]⟩
theorem Rot.none' (lo m : Nat) (d : Array Nat) : Rot lo m m d d := ⟨rfl, fun x => by
  rw [if_neg (by omega)]
  by_cases e : lo + (m - m) ≤ x ∧ x < m
  · rw [if_pos e]; congr 1; omega
  · rw [if_neg e]⟩
theorem Rot.done {m i : Nat} {d c : Array Nat} (h : Swr (m - i) m i d c) (hi : i ≤ m) : Rot (m - i) m (m + i) d c := by
  obtain ⟨h1, h2⟩ := h
  refine ⟨h1, fun x => ?_⟩
  rw [h2 x]
  by_cases e1 : m - i ≤ x ∧ x < m - i + i
  · rw [if_pos e1, if_pos (by omega)]; congr 1; omega
  · rw [if_neg e1]
    by_cases e2 : m ≤ x ∧ x < m + i
    · rw [if_pos e2, if_neg (by omega), if_pos (by omega)]; congr 1; omega
    · rw [if_neg e2, if_neg (by omega), if_neg (by omega)]
theorem Rot.gt {m i j : Nat} {c c' T : Array Nat} (h : Swr (m - i) m j c c') (hi : i ≤ m) (hj : j < i) (hT : Rot (m - (i - j)) m (m + j) c' T) : Rot (m - i) m (m + j) c T := by
  obtain ⟨h1, h2⟩ := h
  obtain ⟨k1, k2⟩ := hT
  refine ⟨k1.trans h1, fun x => ?_⟩
  rw [k2 x]
  by_cases e1 : m - i ≤ x ∧ x < m - i + (m + j - m)
  · rw [if_pos e1, if_neg (by omega), if_neg (by omega), h2 x, if_pos (by omega)]; congr 1; omega
  · rw [if_neg e1]
    by_cases e2 : m - i + (m + j - m) ≤ x ∧ x < m + j
    · rw [if_pos e2]
      by_cases e3 : x < m - (i - j) + (m + j - m)
      · rw [if_pos (by omega), h2, if_neg (by omega), if_pos (by omega)]; congr 1; omega
      · rw [if_neg (by omega), if_pos (by omega), h2, if_neg (by omega), if_neg (by omega)]
    · rw [if_neg e2, if_neg (by omega), if_neg (by omega), h2, if_neg (by omega), if_neg (by omega)]
theorem Rot.less {m i j : Nat} {c c' T : Array Nat} (h : Swr (m - i) (m + j - i) i c c') (hi : i ≤ m) (hj : i < j) (hT : Rot (m - i) m (m + (j - i)) c' T) : Rot (m - i) m (m + j) c T := by
  obtain ⟨h1, h2⟩ := h
  obtain ⟨k1, k2⟩ := hT
  refine ⟨k1.trans h1, fun x => ?_⟩
  rw [k2 x]
  by_cases e1 : m - i ≤ x ∧ x < m - i + (m + j - m)
  · rw [if_pos e1]
    by_cases e3 : x < m - i + (m + (j - i) - m)
    · rw [if_pos (by omega), h2]
      by_cases e4 : x + (m - (m - i)) < m + j - i
      · rw [if_neg (by omega), if_neg (by omega)]
      · rw [if_neg (by omega), if_pos (by omega)]
        exfalso
        omega
    · by_cases e5 : x < m + (j - i)
      · rw [if_neg (by omega), if_pos (by omega), h2, if_pos (by omega)]; congr 1; omega
      · rw [if_neg (by omega), if_neg (by omega), h2]
        exfalso
        omega
  · rw [if_neg e1]
    by_cases e2 : m - i + (m + j - m) ≤ x ∧ x < m + j
    · rw [if_pos e2, if_neg (by omega), if_neg (by omega), h2, if_neg (by omega), if_pos (by omega)]; congr 1; omega
    · rw [if_neg e2, if_neg (by omega), if_neg (by omega), h2, if_neg (by omega), if_neg (by omega)]
/-- The heart: where the two halves' parts have changed places, all of the left is no greater than all of the right. -/
theorem sym_split (hS : SWO lt) {a m b mid st en : Nat} {d d' : Array Nat} (h1 : SortedIn lt a m d) (h2 : SortedIn lt m b d) (_hmid : a ≤ mid) (hst : a ≤ st) (hsm : st ≤ m) (hst2 : st ≤ mid) (hme : m ≤ en) (_hmde : mid ≤ en) (heb : en ≤ b) (hn : st + en = mid + m)
    (hA : st = a ∨ en = b ∨ lt d[en]! d[st - 1]! = false) (hB : st = mid ∨ en = mid ∨ lt d[en - 1]! d[st]! = true) (hR : Rot st m en d d') :
    (∀ x y, a ≤ x → x < mid → mid ≤ y → y < b → lt d'[y]! d'[x]! = false) ∧ SortedIn lt a st d' ∧ SortedIn lt st mid d' ∧ SortedIn lt mid en d' ∧ SortedIn lt en b d' := by
  obtain ⟨_, hr⟩ := hR
  have g1 : ∀ x, x < st → d'[x]! = d[x]! := fun x hx => by rw [hr x, if_neg (by omega), if_neg (by omega)]
  have g2 : ∀ x, st ≤ x → x < mid → d'[x]! = d[x + (m - st)]! := fun x hx hy => by rw [hr x, if_pos (by omega)]
  have g3 : ∀ x, mid ≤ x → x < en → d'[x]! = d[x - (mid - st)]! := fun x hx hy => by
    rw [hr x, if_neg (by omega), if_pos (by omega)]; congr 1; omega
  have g4 : ∀ x, en ≤ x → d'[x]! = d[x]! := fun x hx => by rw [hr x, if_neg (by omega), if_neg (by omega)]
  refine ⟨fun x y hx hxm hy hyb => ?_, ?_, ?_, ?_, ?_⟩
  · by_cases q1 : x < st
    · rw [g1 x q1]
      by_cases q2 : y < en
      · rw [g3 y hy q2]
        exact sortedLe hS h1 hx (by omega) (by omega)
      · rw [g4 y (by omega)]
        rcases hA with e | e | e
        · omega
        · omega
        · exact hS.ntrans _ _ _ (sortedLe hS h2 (i := en) (j := y) (by omega) (by omega) hyb) (hS.ntrans _ _ _ e (sortedLe hS h1 hx (by omega) (by omega)))
    · rw [g2 x (by omega) hxm]
      by_cases q2 : y < en
      · rw [g3 y hy q2]
        rcases hB with e | e | e
        · omega
        · omega
        · exact hS.ntrans _ _ _ (sortedLe hS h1 (i := st) (j := y - (mid - st)) (by omega) (by omega) (by omega)) (hS.ntrans _ _ _ (hS.asymmA e) (sortedLe hS h2 (by omega) (by omega) (by omega)))
      · rw [g4 y (by omega)]
        exact sortedLe hS h2 (by omega) (by omega) hyb
  · intro i j hi hij hj
    rw [g1 i (by omega), g1 j hj]
    exact h1 i j hi hij (by omega)
  · intro i j hi hij hj
    rw [g2 i hi (by omega), g2 j (by omega) hj]
    exact h2 _ _ (by omega) (by omega) (by omega)
  · intro i j hi hij hj
    rw [g3 i hi (by omega), g3 j (by omega) hj]
    exact h1 _ _ (by omega) (by omega) (by omega)
  · intro i j hi hij hj
    rw [g4 i hi, g4 j (by omega)]
    exact h2 i j (by omega) hij hj
/-- Both halves in order, the left one no greater: the whole is. -/
theorem sorted_join {a mid b : Nat} {d' d1 d2 : Array Nat} (hx : ∀ x y, a ≤ x → x < mid → mid ≤ y → y < b → lt d'[y]! d'[x]! = false) (hb : b ≤ d'.size) (hmb : mid ≤ b) (p1 : PermIn a mid d' d1) (s1 : SortedIn lt a mid d1) (p2 : PermIn mid b d1 d2) (s2 : SortedIn lt mid b d2) : SortedIn lt a b d2 := by
  have e1 : ∀ x y, a ≤ x → x < mid → mid ≤ y → y < b → lt d1[y]! d1[x]! = false := fun x y h1 h2 h3 h4 => by
    rw [p1.2.1 y (by omega)]
    exact permIn_all d' d1 a mid (fun v => lt d'[y]! v = false) (by omega) p1 (fun i i1 i2 => hx i y i1 i2 h3 h4) x h1 h2
  have e2 : ∀ x y, a ≤ x → x < mid → mid ≤ y → y < b → lt d2[y]! d2[x]! = false := fun x y h1 h2 h3 h4 => by
    rw [p2.2.1 x (by omega)]
    exact permIn_all d1 d2 mid b (fun v => lt v d1[x]! = false) (by rw [p1.1]; exact hb) p2 (fun i i1 i2 => e1 x i h1 h2 i1 i2) y h3 h4
  intro i j hi hij hj
  by_cases q1 : j < mid
  · rw [p2.2.1 i (by omega), p2.2.1 j (by omega)]
    exact s1 i j hi hij q1
  · by_cases q2 : i < mid
    · exact e2 i j hi q2 (by omega) hj
    · exact s2 i j (by omega) hij hj
/-- The first of a run moved up to place k. -/
def InsL (a k : Nat) (d c : Array Nat) : Prop := c.size = d.size ∧ ∀ x, c[x]! = if a ≤ x ∧ x < k then d[x + 1]! else if x = k then d[a]! else d[x]!
theorem InsL.zero (a : Nat) (d : Array Nat) : InsL a a d d := ⟨rfl, fun x => by
  rw [if_neg (by omega)]
  by_cases e : x = a
  · rw [if_pos e, e]
  · rw [if_neg e]⟩
theorem InsL.step {a k : Nat} {d c : Array Nat} (h : InsL a k d c) (hk : a ≤ k) (hs : k + 1 < d.size) : InsL a (k + 1) d (swp c k (k + 1)) := by
  obtain ⟨h1, h2⟩ := h
  refine ⟨by rw [swp_size, h1], fun x => ?_⟩
  rw [swp_get c (by omega) (by omega)]
  by_cases e1 : x = k + 1
  · rw [if_pos e1, if_neg (by omega), if_pos e1, h2 k, if_neg (by omega), if_pos rfl]
  · rw [if_neg e1]
    by_cases e2 : x = k
    · subst e2
      rw [if_pos rfl, if_pos (by omega), h2 (x + 1), if_neg (by omega), if_neg (by omega)]
    · rw [if_neg e2, h2 x]
      by_cases e3 : a ≤ x ∧ x < k
      · rw [if_pos e3, if_pos (by omega)]
      · rw [if_neg e3, if_neg e2, if_neg (by omega), if_neg e1]
theorem InsL.sorted (hS : SWO lt) {a b i : Nat} {d c : Array Nat} (hd : SortedIn lt (a + 1) b d) (h : InsL a (i - 1) d c) (hi : a + 1 ≤ i) (hib : i ≤ b) (hA : i = a + 1 ∨ lt d[i - 1]! d[a]! = true) (hB : i = b ∨ lt d[i]! d[a]! = false) : SortedIn lt a b c := by
  obtain ⟨_, h2⟩ := h
  intro x y hx hxy hy
  rw [h2 x, h2 y]
  by_cases q1 : x < i - 1
  · rw [if_pos (show a ≤ x ∧ x < i - 1 by omega)]
    by_cases q2 : y < i - 1
    · rw [if_pos (show a ≤ y ∧ y < i - 1 by omega)]
      exact hd _ _ (by omega) (by omega) (by omega)
    · rw [if_neg (show ¬ (a ≤ y ∧ y < i - 1) by omega)]
      by_cases q3 : y = i - 1
      · rw [if_pos q3]
        rcases hA with e | e
        · omega
        · exact hS.ntrans _ _ _ (hS.asymmA e) (sortedLe hS hd (by omega) (by omega) (by omega))
      · rw [if_neg q3]
        exact sortedLe hS hd (by omega) (by omega) hy
  · rw [if_neg (show ¬ (a ≤ x ∧ x < i - 1) by omega), if_neg (show ¬ (a ≤ y ∧ y < i - 1) by omega), if_neg (show ¬ y = i - 1 by omega)]
    by_cases q3 : x = i - 1
    · rw [if_pos q3]
      rcases hB with e | e
      · omega
      · exact hS.ntrans _ _ _ (sortedLe hS hd (i := i) (j := y) (by omega) (by omega) hy) e
    · rw [if_neg q3]
      exact hd x y (by omega) hxy hy
/-- The last of a run moved down to place k. -/
def InsR (m k : Nat) (d c : Array Nat) : Prop := c.size = d.size ∧ ∀ x, c[x]! = if k < x ∧ x ≤ m then d[x - 1]! else if x = k then d[m]! else d[x]!
theorem InsR.zero (m : Nat) (d : Array Nat) : InsR m m d d := ⟨rfl, fun x => by
  rw [if_neg (by omega)]
  by_cases e : x = m
  · rw [if_pos e, e]
  · rw [if_neg e]⟩
theorem InsR.step {m k : Nat} {d c : Array Nat} (h : InsR m (k + 1) d c) (hk : k + 1 ≤ m) (hs : m < d.size) : InsR m k d (swp c (k + 1) k) := by
  obtain ⟨h1, h2⟩ := h
  refine ⟨by rw [swp_size, h1], fun x => ?_⟩
  rw [swp_get c (by omega) (by omega)]
  by_cases e1 : x = k
  · rw [if_pos e1, if_neg (by omega), if_pos e1, h2 (k + 1), if_neg (by omega), if_pos rfl]
  · rw [if_neg e1]
    by_cases e2 : x = k + 1
    · subst e2
      rw [if_pos rfl, if_pos (by omega), h2 k, if_neg (by omega), if_neg (by omega)]
      rfl
    · rw [if_neg e2, h2 x]
      by_cases e3 : k + 1 < x ∧ x ≤ m
      · rw [if_pos e3, if_pos (by omega)]
      · rw [if_neg e3, if_neg e2, if_neg (by omega), if_neg e1]
theorem InsR.sorted (hS : SWO lt) {a m i : Nat} {d c : Array Nat} (hd : SortedIn lt a m d) (h : InsR m i d c) (hi : a ≤ i) (him : i ≤ m) (hA : i = a ∨ lt d[m]! d[i - 1]! = false) (hB : i = m ∨ lt d[m]! d[i]! = true) : SortedIn lt a (m + 1) c := by
  obtain ⟨_, h2⟩ := h
  intro x y hx hxy hy
  rw [h2 x, h2 y]
  by_cases q1 : i < y
  · rw [if_pos (show i < y ∧ y ≤ m by omega)]
    by_cases q2 : i < x
    · rw [if_pos (show i < x ∧ x ≤ m by omega)]
      exact hd _ _ (by omega) (by omega) (by omega)
    · rw [if_neg (show ¬ (i < x ∧ x ≤ m) by omega)]
      by_cases q3 : x = i
      · rw [if_pos q3]
        rcases hB with e | e
        · omega
        · exact hS.ntrans _ _ _ (sortedLe hS hd (i := i) (by omega) (by omega) (by omega)) (hS.asymmA e)
      · rw [if_neg q3]
        exact sortedLe hS hd (by omega) (by omega) (by omega)
  · rw [if_neg (show ¬ (i < y ∧ y ≤ m) by omega), if_neg (show ¬ (i < x ∧ x ≤ m) by omega), if_neg (show ¬ x = i by omega)]
    by_cases q3 : y = i
    · rw [if_pos q3]
      rcases hA with e | e
      · omega
      · exact hS.ntrans _ _ _ e (sortedLe hS hd (by omega) (by omega) (by omega))
    · rw [if_neg q3]
      exact hd x y hx hxy (by omega)
end
end Go.Proofs.YtndhmahkglfopaaGreatDoor
/- slices.swapRangeCmpFunc and rotateCmpFunc over a row of places. -/
namespace Go.Proofs.YtndhmahkglfopaaGreatDoor
open Go.RowKit Go.Sort
section
variable (W0 w : World) (B g : Nat) (cb : Array Value) (blk cap : Nat)
set_option maxHeartbeats 4000000
set_option maxRecDepth 100000
theorem kwrap_small (n : Nat) (h : n ≤ 8192) : IntKind.i64.wrap (n : Int) = (n : Int) := by rw [IntKind.wrap_i64]; omega
theorem wrap64_small (n : Nat) (h : n ≤ 8192) : wrap64 (n : Int) = (n : Int) := IntWalk.wrap64_in _ (by omega)
theorem swapRange_any (a b n L : Nat) (d : Array Nat) (hS : RI W0 B blk d w) (hL : d.size = L) (hsz : L ≤ 4096) (hab : a + n ≤ b) (hbn : b + n ≤ L) :
    Calls Tryz.prog 381 #[.slice (some ⟨blk, 0, none⟩) L cap, .int .i64 a, .int .i64 b, .int .i64 n, .func (.func g) #[] cb] w fun e w' => e = .returned (.tuple #[]) ∧ ∃ d', RI W0 B blk d' w' ∧ Swr a b n d d' ∧ PermIn a (b + n) d d' := by
  have S0 := Lib.hid hS
  have HLD := Lib.hid hL
  clear hS hL
  go_enter Tryz.func381, Tryz.ntmps381
  go_wp2_with fail
  go_loopw [10] (fun x wr => ∃ (i : Nat) (dk : Array Nat), x = .int .i64 i ∧ i ≤ n ∧ Hid (RI W0 B blk dk wr) ∧ Hid (Swr a b i d dk) ∧ Hid (PermIn a (b + n) d dk)) (fun x _ => n - (intOf x).toNat)
  case atStart => exact ⟨0, d, rfl, Nat.zero_le _, S0, Swr.zero a b d, permIn_refl _ _ _⟩
  case round =>
    clear S0
    obtain ⟨i, dk, rfl, hi, hS, hW, hP⟩ := hrel
    by_cases hlt : i < n
    · have i1 : (i : Int) < (n : Int) := by omega
      have hz : dk.size = L := hP.out.1.trans HLD.out
      obtain ⟨p, hp⟩ : ∃ p, p = a + i := ⟨_, rfl⟩
      obtain ⟨r, hr⟩ : ∃ r, r = b + i := ⟨_, rfl⟩
      have W2 := hW.out.step (by omega) (by rw [HLD.out]; omega)
      have P2 : PermIn a (b + n) d (swp dk (a + i) (b + i)) := permIn_trans _ _ _ _ _ hP.out (swp_permIn _ _ _ _ _ (by omega) (by omega) (by omega) (by omega) (by rw [hz]; omega))
      rw [← hp, ← hr] at W2 P2
      have HW2 := Lib.hid W2
      have HP2 := Lib.hid P2
      have ep : (a : Int) + (i : Int) = (p : Int) := by omega
      have er : (b : Int) + (i : Int) = (r : Int) := by omega
      have wi : wrap64 ((i : Int) + 1) = (i : Int) + 1 := IntWalk.wrap64_in _ (by omega)
      have wp : IntKind.i64.wrap (p : Int) = (p : Int) := by rw [IntKind.wrap_i64]; omega
      have wr' : IntKind.i64.wrap (r : Int) = (r : Int) := by rw [IntKind.wrap_i64]; omega
      have k1 : (p : Int) < (L : Int) := by omega
      have k2 : (r : Int) < (L : Int) := by omega
      obtain ⟨u, hu⟩ : ∃ u, u = dk[p]! := ⟨_, rfl⟩
      obtain ⟨v, hv⟩ : ∃ v, v = dk[r]! := ⟨_, rfl⟩
      have z1 := hS.out.2.2.cell (i := p) (by rw [hz]; omega)
      have z2 := hS.out.2.2.cell (i := r) (by rw [hz]; omega)
      have f1 := hS.out.2.2.frozen p
      have f2 := hS.out.2.2.frozen r
      have S3 := hS.out.drew.swap (i := p) (j := r) (by rw [hz]; omega) (by rw [hz]; omega)
      rw [← hu, ← hv] at S3
      rw [← hu] at z1
      rw [← hv] at z2
      have S4 := Lib.hid S3
      have hne : p ≠ r := by omega
      have z3 : ((wr.drew.setCell ⟨blk, p, none⟩ (.int .i64 v)).cell? ⟨blk, r, none⟩) = some (.int .i64 v) := by
        rw [World.cell?_setCell_other _ _ _ _ (by intro e'; simp only [Addr.mk.injEq] at e'; omega)]
        exact z2
      clear S3 hS hW hP W2 P2 hu hv hp hr hz
      go_wp2_with fail
      have mixed : Tryz.prog.follows Departure.mixedOrders = true := by kernel_rfl
      go_big_region_o
      clear mixed z1 z2 z3 f1 f2
      go_wp2_with fail
      go_roundw
      case rel => exact ⟨i + 1, swp dk p r, by go_num, by omega, S4, HW2, HP2⟩
      case measure => simp [intOf]; omega
    · have e : i = n := by omega
      subst e
      have i1 : ¬ (i : Int) < (i : Int) := by omega
      go_wp2_with fail
      go_end0
      exact ⟨rfl, dk, hS.out, hW.out, hP.out⟩
theorem rotate_any (a m b L : Nat) (d : Array Nat) (hS : RI W0 B blk d w) (hL : d.size = L) (hsz : L ≤ 4096) (ham : a < m) (hmb : m < b) (hb : b ≤ L) :
    Calls Tryz.prog 379 #[.slice (some ⟨blk, 0, none⟩) L cap, .int .i64 a, .int .i64 m, .int .i64 b, .func (.func g) #[] cb] w fun e w' => e = .returned (.tuple #[]) ∧ ∃ d', RI W0 B blk d' w' ∧ Rot a m b d d' ∧ PermIn a b d d' := by
  have HSW := Lib.hid (fun w x y n dk (hS : RI W0 B blk dk w) (hL : dk.size = L) (h1 : x + n ≤ y) (h2 : y + n ≤ L) => swapRange_any W0 w B g cb blk cap x y n L dk hS hL hsz h1 h2)
  have S0 := Lib.hid hS
  have HLD := Lib.hid hL
  have w1 : wrap64 ((m : Int) - (a : Int)) = ((m - a : Nat) : Int) := by rw [show (m : Int) - (a : Int) = ((m - a : Nat) : Int) by omega]; exact IntWalk.wrap64_in _ (by omega)
  have w1k : IntKind.i64.wrap ((m : Int) - (a : Int)) = ((m - a : Nat) : Int) := by rw [show (m : Int) - (a : Int) = ((m - a : Nat) : Int) by omega, IntKind.wrap_i64]; omega
  have w2 : wrap64 ((b : Int) - (m : Int)) = ((b - m : Nat) : Int) := by rw [show (b : Int) - (m : Int) = ((b - m : Nat) : Int) by omega]; exact IntWalk.wrap64_in _ (by omega)
  have w2k : IntKind.i64.wrap ((b : Int) - (m : Int)) = ((b - m : Nat) : Int) := by rw [show (b : Int) - (m : Int) = ((b - m : Nat) : Int) by omega, IntKind.wrap_i64]; omega
  clear hS hL
  go_enter Tryz.func379, Tryz.ntmps379
  go_wp2_with fail
  go_loopw [10, 11] (fun x y wr => ∃ (i j : Nat) (dk : Array Nat), x = .int .i64 i ∧ y = .int .i64 j ∧ 1 ≤ i ∧ 1 ≤ j ∧ a + i ≤ m ∧ m + j ≤ b ∧ Hid (RI W0 B blk dk wr) ∧ Hid (∀ T, Rot (m - i) m (m + j) dk T → Rot a m b d T) ∧ Hid (PermIn a b d dk)) (fun x y _ => (intOf x).toNat + (intOf y).toNat)
  case atStart => exact ⟨m - a, b - m, d, by first | rfl | go_num, by first | rfl | go_num, by omega, by omega, by omega, by omega, S0, fun T hT => by rw [show m - (m - a) = a by omega, show m + (b - m) = b by omega] at hT; exact hT, permIn_refl _ _ _⟩
  case round =>
    clear S0 w1 w2
    obtain ⟨i, j, dk, rfl, rfl, hi, hj, hai, hbj, hS, hR, hP⟩ := hrel
    have hz : Hid (dk.size = L) := hP.out.1.trans HLD.out
    have wmi : wrap64 ((m : Int) - (i : Int)) = ((m - i : Nat) : Int) := by rw [show (m : Int) - (i : Int) = ((m - i : Nat) : Int) by omega]; exact IntWalk.wrap64_in _ (by omega)
    have wmik : IntKind.i64.wrap ((m : Int) - (i : Int)) = ((m - i : Nat) : Int) := by rw [show (m : Int) - (i : Int) = ((m - i : Nat) : Int) by omega, IntKind.wrap_i64]; omega
    by_cases hij : i = j
    · subst hij
      have key := HSW.out wr (m - i) m i dk hS.out hz.out (by omega) (by omega)
      go_wp2_with fail
      refine key.mono ?_
      clear key
      rintro e w9 ⟨rfl, d9, r1, r2, r3⟩
      have R1 := Lib.hid r1
      have R2 := Lib.hid (hR.out d9 (Rot.done r2 (by omega)))
      have R3 := Lib.hid (permIn_trans _ _ _ _ _ hP.out (permIn_mono _ _ _ _ _ _ (by omega) (by omega) (by rw [hz.out]; exact hb) r3))
      clear r1 r2 r3
      go_wp2_with fail
      go_end0
      exact ⟨rfl, d9, R1.out, R2.out, R3.out⟩
    · have n1 : ((i : Int) == (j : Int)) = false := beq_eq_false_iff_ne.2 (by omega)
      have n2 : ((i : Int) != (j : Int)) = true := by simp; omega
      by_cases hgt : j < i
      · have i1 : (j : Int) < (i : Int) := by omega
        have key := HSW.out wr (m - i) m j dk hS.out hz.out (by omega) (by omega)
        have wij : wrap64 ((i : Int) - (j : Int)) = ((i - j : Nat) : Int) := by rw [show (i : Int) - (j : Int) = ((i - j : Nat) : Int) by omega]; exact IntWalk.wrap64_in _ (by omega)
        have wijk : IntKind.i64.wrap ((i : Int) - (j : Int)) = ((i - j : Nat) : Int) := by rw [show (i : Int) - (j : Int) = ((i - j : Nat) : Int) by omega, IntKind.wrap_i64]; omega
        go_wp2_with fail
        refine key.mono ?_
        clear key
        rintro e w9 ⟨rfl, d9, r1, r2, r3⟩
        have R1 := Lib.hid r1
        have R2 : Hid (∀ T, Rot (m - (i - j)) m (m + j) d9 T → Rot a m b d T) := fun T hT => hR.out T (Rot.gt r2 (by omega) hgt hT)
        have R3 := Lib.hid (permIn_trans _ _ _ _ _ hP.out (permIn_mono _ _ _ _ _ _ (by omega) (by omega) (by rw [hz.out]; exact hb) r3))
        clear r1 r2 r3
        go_wp2_with fail
        go_roundw
        case rel => exact ⟨i - j, j, d9, by first | rfl | go_num, rfl, by omega, hj, by omega, hbj, R1, R2, R3⟩
        case measure => simp [intOf]; omega
      · have i1 : ¬ (j : Int) < (i : Int) := by omega
        obtain ⟨s, hs⟩ : ∃ s, s = m + j - i := ⟨_, rfl⟩
        obtain ⟨y, hy⟩ : ∃ y, y = m + j := ⟨_, rfl⟩
        have key := HSW.out wr (m - i) s i dk hS.out hz.out (by omega) (by omega)
        have RL : Hid (∀ d9 T, Swr (m - i) s i dk d9 → Rot (m - i) m (m + (j - i)) d9 T → Rot a m b d T) := by
          intro d9 T h1 h2
          rw [hs] at h1
          exact hR.out T (Rot.less h1 (by omega) (by omega) h2)
        have PL : Hid (∀ d9, PermIn (m - i) (s + i) dk d9 → PermIn a b d d9) := by
          intro d9 h1
          exact permIn_trans _ _ _ _ _ hP.out (permIn_mono _ _ _ _ _ _ (by omega) (by omega) (by rw [hz.out]; exact hb) h1)
        have N1 : Hid (1 ≤ j - i) := by unfold Hid; omega
        have N2 : Hid (m + (j - i) ≤ b) := by unfold Hid; omega
        have N3 : Hid (i + (j - i) < i + j) := by unfold Hid; omega
        have e1 : (m : Int) + (j : Int) = (y : Int) := by omega
        have e2 : (y : Int) - (i : Int) = (s : Int) := by omega
        have e3 : (j : Int) - (i : Int) = ((j - i : Nat) : Int) := by omega
        have by' : y ≤ 8192 := by omega
        have bs : s ≤ 8192 := by omega
        have bj : j - i ≤ 8192 := by omega
        have u1 := kwrap_small y by'
        have u2 := wrap64_small y by'
        have u3 := kwrap_small s bs
        have u4 := wrap64_small s bs
        have u5 := kwrap_small (j - i) bj
        have u6 := wrap64_small (j - i) bj
        clear hs hy by' bs bj
        go_wp2_with fail
        refine key.mono ?_
        clear key
        rintro e w9 ⟨rfl, d9, r1, r2, r3⟩
        have R1 := Lib.hid r1
        have R2 := Lib.hid (RL.out d9 · r2)
        have R3 := Lib.hid (PL.out d9 r3)
        clear r1 r2 r3 RL PL
        go_wp2_with fail
        go_roundw
        case rel => exact ⟨i, j - i, d9, rfl, by first | rfl | go_num, hi, N1.out, hai, N2.out, R1, R2, R3⟩
        case measure =>
          clear e1 e2 e3 u1 u2 u3 u4 u5 u6
          have N4 := N3.out
          simp [intOf]; omega
end
end Go.Proofs.YtndhmahkglfopaaGreatDoor
