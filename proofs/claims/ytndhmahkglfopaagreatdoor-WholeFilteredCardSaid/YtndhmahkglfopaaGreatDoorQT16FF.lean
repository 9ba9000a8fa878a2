/- fits; the criterion's function; criterion. -/
import Derived.Deep.DeepCutAuto
import Derived.Deep.CutBlock
import Derived.Test.YtndhmahkglfopaaGreatDoorQT16YC
import Derived.Test.YtndhmahkglfopaaGreatDoorQInv
import Derived.Test.YtndhmahkglfopaaGreatDoorQT16DS
import Derived.Test.YtndhmahkglfopaaGreatDoorQT16FA
namespace Go.Proofs.YtndhmahkglfopaaGreatDoor
open Go.RowKit
theorem ret_bool {a b : Bool} (h : a = b) : Ending.returned (.bool a) = .returned (.bool b) := by rw [h]
section
variable (x y : V) (w : World)
set_option maxHeartbeats 2000000
set_option maxRecDepth 100000
theorem fits_gt (h1 : x.k = 1) (h2 : y.k = 1) (hx : refR x = true) (hy : refR y = true) : Calls Tryz.prog 318 #[vagg x, .string ⟨#[62]⟩, vagg y] w fun e w' => e = .returned (.bool (decide (0 < cmpV x y))) ∧ Below w.heap.size w w' := by
  have HC := Lib.hid (fun w => Compare_any x y hx hy w)
  generalize cmpV x y = c at HC ⊢
  obtain ⟨xk, xm, xe, xt, xb, xf⟩ := x
  obtain ⟨yk, ym, ye, yt, yb, yf⟩ := y
  simp only at h1 h2
  subst h1 h2
  unfold CPost vagg at HC
  unfold vagg
  simp only at HC ⊢
  clear hx hy
  go_enter Tryz.func318, Tryz.ntmps318
  go_wp2_with fail
  refine (HC.out _).mono ?_
  rintro e w1 ⟨rfl, hb1⟩
  have HB1 : Hid (Below w.heap.size w w1) := by
    refine Below.trans ?_ (hb1.mono (by simp; omega))
    (repeat with_reducible (first | exact bw0 _ _ | exact hBW | refine bw1 ?_ ?_ _ | refine bw2 ?_ ?_ _ | refine bw3 ?_ _ | refine bw4 ?_)); all_goals (first | omega | (dsimp only; omega) | ((repeat with_reducible (first | refine lz1 ?_ | refine lz2 ?_ | refine lz3 ?_ | refine lz4 ?_)); omega))
  clear hb1 HC
  go_wp2_with fail
  go_ret
  exact ⟨ret_bool (by first | rfl | (simp; rfl)), HB1.out⟩
theorem fits_lt (h1 : x.k = 1) (h2 : y.k = 1) (hx : refR x = true) (hy : refR y = true) : Calls Tryz.prog 318 #[vagg x, .string ⟨#[60]⟩, vagg y] w fun e w' => e = .returned (.bool (decide (cmpV x y < 0))) ∧ Below w.heap.size w w' := by
  have HC := Lib.hid (fun w => Compare_any x y hx hy w)
  generalize cmpV x y = c at HC ⊢
  obtain ⟨xk, xm, xe, xt, xb, xf⟩ := x
  obtain ⟨yk, ym, ye, yt, yb, yf⟩ := y
  simp only at h1 h2
  subst h1 h2
  unfold CPost vagg at HC
  unfold vagg
  simp only at HC ⊢
  clear hx hy
  go_enter Tryz.func318, Tryz.ntmps318
  go_wp2_with fail
  refine (HC.out _).mono ?_
  rintro e w1 ⟨rfl, hb1⟩
  have HB1 : Hid (Below w.heap.size w w1) := by
    refine Below.trans ?_ (hb1.mono (by simp; omega))
    (repeat with_reducible (first | exact bw0 _ _ | exact hBW | refine bw1 ?_ ?_ _ | refine bw2 ?_ ?_ _ | refine bw3 ?_ _ | refine bw4 ?_)); all_goals (first | omega | (dsimp only; omega) | ((repeat with_reducible (first | refine lz1 ?_ | refine lz2 ?_ | refine lz3 ?_ | refine lz4 ?_)); omega))
  clear hb1 HC
  go_wp2_with fail
  go_ret
  exact ⟨ret_bool (by first | rfl | (simp; rfl)), HB1.out⟩
theorem fits_ge (h1 : x.k = 1) (h2 : y.k = 1) (hx : refR x = true) (hy : refR y = true) : Calls Tryz.prog 318 #[vagg x, .string ⟨#[62, 61]⟩, vagg y] w fun e w' => e = .returned (.bool (decide (0 ≤ cmpV x y))) ∧ Below w.heap.size w w' := by
  have HC := Lib.hid (fun w => Compare_any x y hx hy w)
  generalize cmpV x y = c at HC ⊢
  obtain ⟨xk, xm, xe, xt, xb, xf⟩ := x
  obtain ⟨yk, ym, ye, yt, yb, yf⟩ := y
  simp only at h1 h2
  subst h1 h2
  unfold CPost vagg at HC
  unfold vagg
  simp only at HC ⊢
  clear hx hy
  go_enter Tryz.func318, Tryz.ntmps318
  go_wp2_with fail
  refine (HC.out _).mono ?_
  rintro e w1 ⟨rfl, hb1⟩
  have HB1 : Hid (Below w.heap.size w w1) := by
    refine Below.trans ?_ (hb1.mono (by simp; omega))
    (repeat with_reducible (first | exact bw0 _ _ | exact hBW | refine bw1 ?_ ?_ _ | refine bw2 ?_ ?_ _ | refine bw3 ?_ _ | refine bw4 ?_)); all_goals (first | omega | (dsimp only; omega) | ((repeat with_reducible (first | refine lz1 ?_ | refine lz2 ?_ | refine lz3 ?_ | refine lz4 ?_)); omega))
  clear hb1 HC
  go_wp2_with fail
  go_ret
  exact ⟨ret_bool (by first | rfl | (simp; rfl)), HB1.out⟩
theorem fits_le (h1 : x.k = 1) (h2 : y.k = 1) (hx : refR x = true) (hy : refR y = true) : Calls Tryz.prog 318 #[vagg x, .string ⟨#[60, 61]⟩, vagg y] w fun e w' => e = .returned (.bool (decide (cmpV x y ≤ 0))) ∧ Below w.heap.size w w' := by
  have HC := Lib.hid (fun w => Compare_any x y hx hy w)
  generalize cmpV x y = c at HC ⊢
  obtain ⟨xk, xm, xe, xt, xb, xf⟩ := x
  obtain ⟨yk, ym, ye, yt, yb, yf⟩ := y
  simp only at h1 h2
  subst h1 h2
  unfold CPost vagg at HC
  unfold vagg
  simp only at HC ⊢
  clear hx hy
  go_enter Tryz.func318, Tryz.ntmps318
  go_wp2_with fail
  refine (HC.out _).mono ?_
  rintro e w1 ⟨rfl, hb1⟩
  have HB1 : Hid (Below w.heap.size w w1) := by
    refine Below.trans ?_ (hb1.mono (by simp; omega))
    (repeat with_reducible (first | exact bw0 _ _ | exact hBW | refine bw1 ?_ ?_ _ | refine bw2 ?_ ?_ _ | refine bw3 ?_ _ | refine bw4 ?_)); all_goals (first | omega | (dsimp only; omega) | ((repeat with_reducible (first | refine lz1 ?_ | refine lz2 ?_ | refine lz3 ?_ | refine lz4 ?_)); omega))
  clear hb1 HC
  go_wp2_with fail
  go_ret
  exact ⟨ret_bool (by first | rfl | (simp; rfl)), HB1.out⟩
theorem fits_eq (h1 : x.k = 1) (h2 : y.k = 1) (hx : refR x = true) (hy : refR y = true) : Calls Tryz.prog 318 #[vagg x, .string ⟨#[61]⟩, vagg y] w fun e w' => e = .returned (.bool (decide (cmpV x y = 0))) ∧ Below w.heap.size w w' := by
  have HC := Lib.hid (fun w => Compare_any x y hx hy w)
  generalize cmpV x y = c at HC ⊢
  obtain ⟨xk, xm, xe, xt, xb, xf⟩ := x
  obtain ⟨yk, ym, ye, yt, yb, yf⟩ := y
  simp only at h1 h2
  subst h1 h2
  unfold CPost vagg at HC
  unfold vagg
  simp only at HC ⊢
  clear hx hy
  go_enter Tryz.func318, Tryz.ntmps318
  go_wp2_with fail
  refine (HC.out _).mono ?_
  rintro e w1 ⟨rfl, hb1⟩
  have HB1 : Hid (Below w.heap.size w w1) := by
    refine Below.trans ?_ (hb1.mono (by simp; omega))
    (repeat with_reducible (first | exact bw0 _ _ | exact hBW | refine bw1 ?_ ?_ _ | refine bw2 ?_ ?_ _ | refine bw3 ?_ _ | refine bw4 ?_)); all_goals (first | omega | (dsimp only; omega) | ((repeat with_reducible (first | refine lz1 ?_ | refine lz2 ?_ | refine lz3 ?_ | refine lz4 ?_)); omega))
  clear hb1 HC
  go_wp2_with fail
  go_ret
  exact ⟨ret_bool (by first | rfl | (simp; rfl)), HB1.out⟩
theorem fits_ne (h1 : x.k = 1) (h2 : y.k = 1) (hx : refR x = true) (hy : refR y = true) : Calls Tryz.prog 318 #[vagg x, .string ⟨#[60, 62]⟩, vagg y] w fun e w' => e = .returned (.bool (decide (cmpV x y ≠ 0))) ∧ Below w.heap.size w w' := by
  have HC := Lib.hid (fun w => Compare_any x y hx hy w)
  generalize cmpV x y = c at HC ⊢
  obtain ⟨xk, xm, xe, xt, xb, xf⟩ := x
  obtain ⟨yk, ym, ye, yt, yb, yf⟩ := y
  simp only at h1 h2
  subst h1 h2
  unfold CPost vagg at HC
  unfold vagg
  simp only at HC ⊢
  clear hx hy
  go_enter Tryz.func318, Tryz.ntmps318
  go_wp2_with fail
  refine (HC.out _).mono ?_
  rintro e w1 ⟨rfl, hb1⟩
  have HB1 : Hid (Below w.heap.size w w1) := by
    refine Below.trans ?_ (hb1.mono (by simp; omega))
    (repeat with_reducible (first | exact bw0 _ _ | exact hBW | refine bw1 ?_ ?_ _ | refine bw2 ?_ ?_ _ | refine bw3 ?_ _ | refine bw4 ?_)); all_goals (first | omega | (dsimp only; omega) | ((repeat with_reducible (first | refine lz1 ?_ | refine lz2 ?_ | refine lz3 ?_ | refine lz4 ?_)); omega))
  clear hb1 HC
  go_wp2_with fail
  go_ret
  exact ⟨ret_bool (by first | rfl | (simp; rfl)), HB1.out⟩
/-- The signs, in criterion's order. -/
def preA : Array Value := #[.string ⟨#[62, 61]⟩, .string ⟨#[60, 61]⟩, .string ⟨#[60, 62]⟩, .string ⟨#[62]⟩, .string ⟨#[60]⟩, .string ⟨#[61]⟩]
/-- criterion finds this sign ahead of a text that begins with no sign. -/
def PreOk (s : ByteArray) : Prop := ∀ (c : ByteArray) (b : UInt8), c.data.toList[0]? = some b → b < 60 → ∃ j, j < 6 ∧ preA[j]? = some (.string s) ∧ pfx s (s ++ c) = true ∧ ∀ i p, i < j → preA[i]? = some (.string p) → pfx p (s ++ c) = false
/-- A sign, with what it asks. -/
structure Sg (s : ByteArray) (is : Int → Bool) : Prop where
  size : s.size ≤ 2
  fit : ∀ (x y : V) (w : World), x.k = 1 → y.k = 1 → refR x = true → refR y = true → Calls Tryz.prog 318 #[vagg x, .string s, vagg y] w fun e w' => e = .returned (.bool (is (cmpV x y))) ∧ Below w.heap.size w w'
  bin : SignOk s (holdV is)
  pre : PreOk s
theorem pfx_eq (p s : ByteArray) : pfx p s = (decide (p.data.toList.length ≤ s.data.toList.length) && (s.data.toList.take p.data.toList.length == p.data.toList)) := by
  unfold pfx
  rw [ByteArray.toList_eq, ByteArray.toList_eq]
  have h1 : ∀ t : ByteArray, t.size = t.data.toList.length := fun t => Array.length_toList.symm
  rw [h1, h1]
  congr 2
  simp
theorem pfx_app (s c : ByteArray) : pfx s (s ++ c) = true := by
  rw [pfx_eq]
  simp
theorem cut_app (s c : ByteArray) : (s ++ c).extract s.size (s ++ c).size = c := by
  apply ByteArray.ext
  apply Array.ext'
  rw [ByteArray.data_extract, Array.toList_extract, List.extract_eq_take_drop, ByteArray.data_append, Array.toList_append, List.drop_left' (show s.data.toList.length = s.size from Array.length_toList)]
  exact List.take_of_length_le (by rw [ByteArray.size_append, show c.data.toList.length = c.size from Array.length_toList]; omega)
theorem pre_gt : PreOk ⟨#[62]⟩ := by
  intro c b hb hlt
  obtain ⟨r, hr⟩ : ∃ r, c.data.toList = b :: r := by
    cases hc : c.data.toList with
    | nil => rw [hc] at hb; simp at hb
    | cons a r =>
      rw [hc] at hb
      simp at hb
      exact ⟨r, by rw [hb]⟩
  have b0 : (b == 60) = false := by simp; intro e; subst e; exact absurd hlt (by decide)
  have b1 : (b == 61) = false := by simp; intro e; subst e; exact absurd hlt (by decide)
  have b2 : (b == 62) = false := by simp; intro e; subst e; exact absurd hlt (by decide)
  refine ⟨3, by decide, rfl, pfx_app _ _, fun i p hi hp => ?_⟩
  rw [pfx_eq, ByteArray.data_append, Array.toList_append, hr]
  have h6 : i = 0 ∨ i = 1 ∨ i = 2 ∨ i = 3 ∨ i = 4 := by omega
  rcases h6 with rfl | rfl | rfl | rfl | rfl
  · first | omega | (obtain rfl := Value.string.inj (Option.some.inj (show some (Value.string ⟨#[62, 61]⟩) = some (Value.string p) from hp)); simp_all)
  · first | omega | (obtain rfl := Value.string.inj (Option.some.inj (show some (Value.string ⟨#[60, 61]⟩) = some (Value.string p) from hp)); simp_all)
  · first | omega | (obtain rfl := Value.string.inj (Option.some.inj (show some (Value.string ⟨#[60, 62]⟩) = some (Value.string p) from hp)); simp_all)
  · first | omega | (obtain rfl := Value.string.inj (Option.some.inj (show some (Value.string ⟨#[62]⟩) = some (Value.string p) from hp)); simp_all)
  · first | omega | (obtain rfl := Value.string.inj (Option.some.inj (show some (Value.string ⟨#[60]⟩) = some (Value.string p) from hp)); simp_all)
theorem sg_gt : Sg ⟨#[62]⟩ (fun o => decide (0 < o)) := ⟨by decide, fun x y w h1 h2 hx hy => fits_gt x y w h1 h2 hx hy, sign_gt, pre_gt⟩
theorem pre_lt : PreOk ⟨#[60]⟩ := by
  intro c b hb hlt
  obtain ⟨r, hr⟩ : ∃ r, c.data.toList = b :: r := by
    cases hc : c.data.toList with
    | nil => rw [hc] at hb; simp at hb
    | cons a r =>
      rw [hc] at hb
      simp at hb
      exact ⟨r, by rw [hb]⟩
  have b0 : (b == 60) = false := by simp; intro e; subst e; exact absurd hlt (by decide)
  have b1 : (b == 61) = false := by simp; intro e; subst e; exact absurd hlt (by decide)
  have b2 : (b == 62) = false := by simp; intro e; subst e; exact absurd hlt (by decide)
  refine ⟨4, by decide, rfl, pfx_app _ _, fun i p hi hp => ?_⟩
  rw [pfx_eq, ByteArray.data_append, Array.toList_append, hr]
  have h6 : i = 0 ∨ i = 1 ∨ i = 2 ∨ i = 3 ∨ i = 4 := by omega
  rcases h6 with rfl | rfl | rfl | rfl | rfl
  · first | omega | (obtain rfl := Value.string.inj (Option.some.inj (show some (Value.string ⟨#[62, 61]⟩) = some (Value.string p) from hp)); simp_all)
  · first | omega | (obtain rfl := Value.string.inj (Option.some.inj (show some (Value.string ⟨#[60, 61]⟩) = some (Value.string p) from hp)); simp_all)
  · first | omega | (obtain rfl := Value.string.inj (Option.some.inj (show some (Value.string ⟨#[60, 62]⟩) = some (Value.string p) from hp)); simp_all)
  · first | omega | (obtain rfl := Value.string.inj (Option.some.inj (show some (Value.string ⟨#[62]⟩) = some (Value.string p) from hp)); simp_all)
  · first | omega | (obtain rfl := Value.string.inj (Option.some.inj (show some (Value.string ⟨#[60]⟩) = some (Value.string p) from hp)); simp_all)
theorem sg_lt : Sg ⟨#[60]⟩ (fun o => decide (o < 0)) := ⟨by decide, fun x y w h1 h2 hx hy => fits_lt x y w h1 h2 hx hy, sign_lt, pre_lt⟩
theorem pre_ge : PreOk ⟨#[62, 61]⟩ := by
  intro c b hb hlt
  obtain ⟨r, hr⟩ : ∃ r, c.data.toList = b :: r := by
    cases hc : c.data.toList with
    | nil => rw [hc] at hb; simp at hb
    | cons a r =>
      rw [hc] at hb
      simp at hb
      exact ⟨r, by rw [hb]⟩
  have b0 : (b == 60) = false := by simp; intro e; subst e; exact absurd hlt (by decide)
  have b1 : (b == 61) = false := by simp; intro e; subst e; exact absurd hlt (by decide)
  have b2 : (b == 62) = false := by simp; intro e; subst e; exact absurd hlt (by decide)
  refine ⟨0, by decide, rfl, pfx_app _ _, fun i p hi hp => ?_⟩
  rw [pfx_eq, ByteArray.data_append, Array.toList_append, hr]
  have h6 : i = 0 ∨ i = 1 ∨ i = 2 ∨ i = 3 ∨ i = 4 := by omega
  rcases h6 with rfl | rfl | rfl | rfl | rfl
  · first | omega | (obtain rfl := Value.string.inj (Option.some.inj (show some (Value.string ⟨#[62, 61]⟩) = some (Value.string p) from hp)); simp_all)
  · first | omega | (obtain rfl := Value.string.inj (Option.some.inj (show some (Value.string ⟨#[60, 61]⟩) = some (Value.string p) from hp)); simp_all)
  · first | omega | (obtain rfl := Value.string.inj (Option.some.inj (show some (Value.string ⟨#[60, 62]⟩) = some (Value.string p) from hp)); simp_all)
  · first | omega | (obtain rfl := Value.string.inj (Option.some.inj (show some (Value.string ⟨#[62]⟩) = some (Value.string p) from hp)); simp_all)
  · first | omega | (obtain rfl := Value.string.inj (Option.some.inj (show some (Value.string ⟨#[60]⟩) = some (Value.string p) from hp)); simp_all)
theorem sg_ge : Sg ⟨#[62, 61]⟩ (fun o => decide (0 ≤ o)) := ⟨by decide, fun x y w h1 h2 hx hy => fits_ge x y w h1 h2 hx hy, sign_ge, pre_ge⟩
theorem pre_le : PreOk ⟨#[60, 61]⟩ := by
  intro c b hb hlt
  obtain ⟨r, hr⟩ : ∃ r, c.data.toList = b :: r := by
    cases hc : c.data.toList with
    | nil => rw [hc] at hb; simp at hb
    | cons a r =>
      rw [hc] at hb
      simp at hb
      exact ⟨r, by rw [hb]⟩
  have b0 : (b == 60) = false := by simp; intro e; subst e; exact absurd hlt (by decide)
  have b1 : (b == 61) = false := by simp; intro e; subst e; exact absurd hlt (by decide)
  have b2 : (b == 62) = false := by simp; intro e; subst e; exact absurd hlt (by decide)
  refine ⟨1, by decide, rfl, pfx_app _ _, fun i p hi hp => ?_⟩
  rw [pfx_eq, ByteArray.data_append, Array.toList_append, hr]
  have h6 : i = 0 ∨ i = 1 ∨ i = 2 ∨ i = 3 ∨ i = 4 := by omega
  rcases h6 with rfl | rfl | rfl | rfl | rfl
  · first | omega | (obtain rfl := Value.string.inj (Option.some.inj (show some (Value.string ⟨#[62, 61]⟩) = some (Value.string p) from hp)); simp_all)
  · first | omega | (obtain rfl := Value.string.inj (Option.some.inj (show some (Value.string ⟨#[60, 61]⟩) = some (Value.string p) from hp)); simp_all)
  · first | omega | (obtain rfl := Value.string.inj (Option.some.inj (show some (Value.string ⟨#[60, 62]⟩) = some (Value.string p) from hp)); simp_all)
  · first | omega | (obtain rfl := Value.string.inj (Option.some.inj (show some (Value.string ⟨#[62]⟩) = some (Value.string p) from hp)); simp_all)
  · first | omega | (obtain rfl := Value.string.inj (Option.some.inj (show some (Value.string ⟨#[60]⟩) = some (Value.string p) from hp)); simp_all)
theorem sg_le : Sg ⟨#[60, 61]⟩ (fun o => decide (o ≤ 0)) := ⟨by decide, fun x y w h1 h2 hx hy => fits_le x y w h1 h2 hx hy, sign_le, pre_le⟩
theorem pre_eq : PreOk ⟨#[61]⟩ := by
  intro c b hb hlt
  obtain ⟨r, hr⟩ : ∃ r, c.data.toList = b :: r := by
    cases hc : c.data.toList with
    | nil => rw [hc] at hb; simp at hb
    | cons a r =>
      rw [hc] at hb
      simp at hb
      exact ⟨r, by rw [hb]⟩
  have b0 : (b == 60) = false := by simp; intro e; subst e; exact absurd hlt (by decide)
  have b1 : (b == 61) = false := by simp; intro e; subst e; exact absurd hlt (by decide)
  have b2 : (b == 62) = false := by simp; intro e; subst e; exact absurd hlt (by decide)
  refine ⟨5, by decide, rfl, pfx_app _ _, fun i p hi hp => ?_⟩
  rw [pfx_eq, ByteArray.data_append, Array.toList_append, hr]
  have h6 : i = 0 ∨ i = 1 ∨ i = 2 ∨ i = 3 ∨ i = 4 := by omega
  rcases h6 with rfl | rfl | rfl | rfl | rfl
  · first | omega | (obtain rfl := Value.string.inj (Option.some.inj (show some (Value.string ⟨#[62, 61]⟩) = some (Value.string p) from hp)); simp_all)
  · first | omega | (obtain rfl := Value.string.inj (Option.some.inj (show some (Value.string ⟨#[60, 61]⟩) = some (Value.string p) from hp)); simp_all)
  · first | omega | (obtain rfl := Value.string.inj (Option.some.inj (show some (Value.string ⟨#[60, 62]⟩) = some (Value.string p) from hp)); simp_all)
  · first | omega | (obtain rfl := Value.string.inj (Option.some.inj (show some (Value.string ⟨#[62]⟩) = some (Value.string p) from hp)); simp_all)
  · first | omega | (obtain rfl := Value.string.inj (Option.some.inj (show some (Value.string ⟨#[60]⟩) = some (Value.string p) from hp)); simp_all)
theorem sg_eq : Sg ⟨#[61]⟩ (fun o => decide (o = 0)) := ⟨by decide, fun x y w h1 h2 hx hy => fits_eq x y w h1 h2 hx hy, sign_eq, pre_eq⟩
theorem pre_ne : PreOk ⟨#[60, 62]⟩ := by
  intro c b hb hlt
  obtain ⟨r, hr⟩ : ∃ r, c.data.toList = b :: r := by
    cases hc : c.data.toList with
    | nil => rw [hc] at hb; simp at hb
    | cons a r =>
      rw [hc] at hb
      simp at hb
      exact ⟨r, by rw [hb]⟩
  have b0 : (b == 60) = false := by simp; intro e; subst e; exact absurd hlt (by decide)
  have b1 : (b == 61) = false := by simp; intro e; subst e; exact absurd hlt (by decide)
  have b2 : (b == 62) = false := by simp; intro e; subst e; exact absurd hlt (by decide)
  refine ⟨2, by decide, rfl, pfx_app _ _, fun i p hi hp => ?_⟩
  rw [pfx_eq, ByteArray.data_append, Array.toList_append, hr]
  have h6 : i = 0 ∨ i = 1 ∨ i = 2 ∨ i = 3 ∨ i = 4 := by omega
  rcases h6 with rfl | rfl | rfl | rfl | rfl
  · first | omega | (obtain rfl := Value.string.inj (Option.some.inj (show some (Value.string ⟨#[62, 61]⟩) = some (Value.string p) from hp)); simp_all)
  · first | omega | (obtain rfl := Value.string.inj (Option.some.inj (show some (Value.string ⟨#[60, 61]⟩) = some (Value.string p) from hp)); simp_all)
  · first | omega | (obtain rfl := Value.string.inj (Option.some.inj (show some (Value.string ⟨#[60, 62]⟩) = some (Value.string p) from hp)); simp_all)
  · first | omega | (obtain rfl := Value.string.inj (Option.some.inj (show some (Value.string ⟨#[62]⟩) = some (Value.string p) from hp)); simp_all)
  · first | omega | (obtain rfl := Value.string.inj (Option.some.inj (show some (Value.string ⟨#[60]⟩) = some (Value.string p) from hp)); simp_all)
theorem sg_ne : Sg ⟨#[60, 62]⟩ (fun o => decide (o ≠ 0)) := ⟨by decide, fun x y w h1 h2 hx hy => fits_ne x y w h1 h2 hx hy, sign_ne, pre_ne⟩
end
end Go.Proofs.YtndhmahkglfopaaGreatDoor
/- criterion, and the function that it tells. -/
namespace Go.Proofs.YtndhmahkglfopaaGreatDoor
open Go.RowKit
theorem cT_first {d : Int} (h : Small d) : ∃ b, (cT d).data.toList[0]? = some b ∧ b < 60 := by
  have hl := cDig_len h
  show ∃ b, (cText d)[0]? = some b ∧ b < 60
  rw [cText_eq]
  by_cases hd : d < 0
  · rw [if_pos hd]
    exact ⟨45, rfl, by decide⟩
  · rw [if_neg hd]
    obtain ⟨x, hx⟩ : ∃ x, (cDig d)[0]? = some x := ⟨_, List.getElem?_eq_getElem (by omega)⟩
    have h10 := cDig_ten d x (List.mem_of_getElem? hx)
    refine ⟨UInt8.ofNat (48 + x), by simp [hx], ?_⟩
    rw [UInt8.lt_iff_toNat_lt, UInt8.toNat_ofNat']
    show (48 + x) % 2 ^ 8 < 60
    omega
theorem preA_get {i : Nat} (h : i < 6) : ∃ p, preA[i]? = some (.string p) := by
  have h6 : i = 0 ∨ i = 1 ∨ i = 2 ∨ i = 3 ∨ i = 4 ∨ i = 5 := by omega
  rcases h6 with rfl | rfl | rfl | rfl | rfl | rfl <;> exact ⟨_, rfl⟩
/-- What criterion$1 holds: the sign's box, the number's box. -/
structure CritAt (w : World) (b1 b2 : Nat) (s : ByteArray) (u : V) : Prop where
  h1 : w.heap[b1]? = some (.cells #[.string s] 9)
  h2 : w.heap[b2]? = some (.cells #[.int .i64 u.k, .int .i64 u.m, .int .i64 u.e, .string u.t, .bool u.b, .int .i64 u.f] 34)
theorem CritAt.below {w w' : World} {b1 b2 : Nat} {s : ByteArray} {u : V} (h : CritAt w b1 b2 s u) (hb : Below w.heap.size w w') : CritAt w' b1 b2 s u :=
  ⟨(hb.block _ (lt_of_heap h.h1)).trans h.h1, (hb.block _ (lt_of_heap h.h2)).trans h.h2⟩
def CritPost (w : World) (s : ByteArray) (u : V) (e : Ending) (w' : World) : Prop := ∃ b1 b2, e = .returned (.tuple #[.func (.func 317) #[] #[.pointer (some ⟨b1, 0, none⟩), .pointer (some ⟨b2, 0, none⟩)], .int .i64 0]) ∧ CritAt w' b1 b2 s u ∧ Below w.heap.size w w'
section
variable (w : World)
set_option maxHeartbeats 4000000
set_option maxRecDepth 100000
theorem crit1_any {s : ByteArray} {is : Int → Bool} (hS : Sg s is) (d v : Int) (hd : Small d) (hv : Small v) (b1 b2 : Nat) (hC : CritAt w b1 b2 s (cntV v)) : Calls Tryz.prog 317 #[vagg (cntV d), .pointer (some ⟨b1, 0, none⟩), .pointer (some ⟨b2, 0, none⟩)] w fun e w' => e = .returned (.bool (lets is v d)) ∧ Below w.heap.size w w' := by
  have HF := Lib.hid (fun w => hS.fit (cntV d) (cntV v) w rfl rfl (cnt_refR hd) (cnt_refR hv))
  rw [cmp_cnt hd hv] at HF
  change Hid (∀ w, Calls Tryz.prog 318 #[vagg (cntV d), .string s, vagg (cntV v)] w fun e w' => e = .returned (.bool (lets is v d)) ∧ Below w.heap.size w w') at HF
  generalize lets is v d = R at HF ⊢
  have g1 := hC.h1
  have g2 := hC.h2
  generalize cntV d = x at HF ⊢
  generalize cntV v = y at HF g2
  clear hC hS hd hv
  obtain ⟨xk, xm, xe, xt, xb, xf⟩ := x
  obtain ⟨yk, ym, ye, yt, yb, yf⟩ := y
  unfold vagg at HF ⊢
  simp only at HF g2 ⊢
  have x1 := cell_of_heap g1 0
  have x2 := cell_of_heap g2
  have z1 := lt_of_heap g1
  have z2 := lt_of_heap g2
  have q1 : b1 ≠ w.heap.size := by omega
  have q2 : b2 ≠ w.heap.size := by omega
  have q3 : b1 < w.heap.size + 1 := by omega
  have q4 : b2 < w.heap.size + 1 := by omega
  clear g1 g2
  go_enter Tryz.func317, Tryz.ntmps317
  go_wp2_with fail
  refine (HF.out _).mono ?_
  rintro e w1 ⟨rfl, hb1⟩
  have HB1 : Hid (Below w.heap.size w w1) := by
    refine Below.trans ?_ (hb1.mono (by simp))
    (repeat with_reducible (first | exact bw0 _ _ | exact hBW | refine bw1 ?_ ?_ _ | refine bw2 ?_ ?_ _ | refine bw3 ?_ _ | refine bw4 ?_)); all_goals (first | omega | (dsimp only; omega) | ((repeat with_reducible (first | refine lz1 ?_ | refine lz2 ?_ | refine lz3 ?_ | refine lz4 ?_)); omega))
  clear hb1 HF x1 x2 z1 z2 q1 q2 q3 q4
  go_wp2_with fail
  go_ret
  exact ⟨rfl, HB1.out⟩
theorem criterion_any {s : ByteArray} {is : Int → Bool} (hS : Sg s is) (d : Int) (h : Small d) : Calls Tryz.prog 243 #[vagg (tV (s ++ cT d))] w (CritPost w s (cntV d)) := by
  obtain ⟨b0, hb0, hb60⟩ := cT_first h
  obtain ⟨j, hj, hpj, hpy, hpn⟩ := hS.pre (cT d) b0 hb0 hb60
  have HR := Lib.hid (fun w => read_cT w d h)
  have HY := Lib.hid (fun w => cut_yes w (s ++ cT d) s hpy)
  rw [cut_app] at HY
  have HN := Lib.hid (fun w i p hi hp => cut_no w (s ++ cT d) p (hpn i p hi hp))
  have HPJ := Lib.hid hpj
  unfold tV vagg
  simp only
  generalize s ++ cT d = t at HY HN ⊢
  generalize cT d = c at HR HY
  generalize cntV d = u at HR ⊢
  obtain ⟨uk, um, ue, ut, ub, uf⟩ := u
  unfold vagg at HR
  simp only at HR
  clear hb0 hb60 hpj hpy hpn h hS b0
  go_enter Tryz.func243, Tryz.ntmps243
  go_upto_region 3 with fail
  refine abs_world ?_
  intro W1 hW1
  have g0 : W1.heap[w.heap.size]? = some (.cells #[.int .i64 2, .int .i64 0, .int .i64 0, .string t, .bool false, .int .i64 0] 34) := by rw [hW1]; (repeat (first | (with_reducible refine bw5 ?_ _; (first | rfl | (simp; done) | omega | (simp; omega)); done) | with_reducible refine bw6 ?_ _ | with_reducible refine bw7 ?_ | with_reducible refine bw8 ?_))
  have hb1 : Below w.heap.size w W1 := by rw [hW1]; (repeat with_reducible (first | exact bw0 _ _ | exact hBW | refine bw1 ?_ ?_ _ | refine bw2 ?_ ?_ _ | refine bw3 ?_ _ | refine bw4 ?_)); all_goals (first | omega | (dsimp only; omega) | ((repeat with_reducible (first | refine lz1 ?_ | refine lz2 ?_ | refine lz3 ?_ | refine lz4 ?_)); omega))
  have x0 := cell_of_heap g0
  have z0 := lt_of_heap g0
  have G0 := Lib.hid g0
  have HB1 := Lib.hid hb1
  clear hW1 g0 hb1
  go_cut [4, 5] (fun s4 s5 wx => ∃ b4 b5, s4 = .pointer (some ⟨b4, 0, none⟩) ∧ s5 = .pointer (some ⟨b5, 0, none⟩) ∧ Hid (b4 ≠ b5 ∧ W1.heap.size ≤ b4 ∧ W1.heap.size ≤ b5) ∧ Hid (wx.heap[b4]? = some (.cells #[.string ⟨#[61]⟩] 9)) ∧ Hid (wx.heap[b5]? = some (.cells #[.int .i64 2, .int .i64 0, .int .i64 0, .string t, .bool false, .int .i64 0] 34)) ∧ Hid (Below W1.heap.size W1 wx))
  case first =>
    refine wp_region_ord [0] (.two 1 2 (.one 2 (.one 3 (.one 4 .nil))) (.one 1 (.one 3 (.one 4 .nil)))) [4] (Below W1.heap.size W1) (by kernel_rfl) (by kernel_rfl) (Below.refl _ _).drew ?_
    (first | (apply first_step; (rw [List.getElem?_toArray]; (repeat rw [List.getElem?_cons_succ]); rw [List.getElem?_cons_zero]); rfl; (intro W hB; have hc := bcellB hB; go_simp; (first | done | rfl)); go_frame) | (apply first_skip; (rw [List.getElem?_toArray]; (repeat rw [List.getElem?_cons_succ]); rw [List.getElem?_cons_zero]); rfl; go_frame))
    refine first_done ?_
    refine ord_two ?_ ?_
    · apply ord_step; (rw [List.getElem?_toArray]; (repeat rw [List.getElem?_cons_succ]); rw [List.getElem?_cons_zero]); rfl; intro K hK; go_simp; refine hK _ _ (fun _ => by first | (exfalso; simp at *; done) | (repeat with_reducible (first | exact bw0 _ _ | exact hBW | refine bw1 ?_ ?_ _ | refine bw2 ?_ ?_ _ | refine bw3 ?_ _ | refine bw4 ?_)); all_goals (first | omega | (dsimp only; omega) | ((repeat with_reducible (first | refine lz1 ?_ | refine lz2 ?_ | refine lz3 ?_ | refine lz4 ?_)); omega))) ?_; clear hK K
      apply ord_step; (rw [List.getElem?_toArray]; (repeat rw [List.getElem?_cons_succ]); rw [List.getElem?_cons_zero]); rfl; intro K hK; go_simp; refine hK _ _ (fun _ => by first | (exfalso; simp at *; done) | (repeat with_reducible (first | exact bw0 _ _ | exact hBW | refine bw1 ?_ ?_ _ | refine bw2 ?_ ?_ _ | refine bw3 ?_ _ | refine bw4 ?_)); all_goals (first | omega | (dsimp only; omega) | ((repeat with_reducible (first | refine lz1 ?_ | refine lz2 ?_ | refine lz3 ?_ | refine lz4 ?_)); omega))) ?_; clear hK K
      apply ord_step; (rw [List.getElem?_toArray]; (repeat rw [List.getElem?_cons_succ]); rw [List.getElem?_cons_zero]); rfl; intro K hK; go_simp; refine hK _ _ (fun _ => by first | (exfalso; simp at *; done) | (repeat with_reducible (first | exact bw0 _ _ | exact hBW | refine bw1 ?_ ?_ _ | refine bw2 ?_ ?_ _ | refine bw3 ?_ _ | refine bw4 ?_)); all_goals (first | omega | (dsimp only; omega) | ((repeat with_reducible (first | refine lz1 ?_ | refine lz2 ?_ | refine lz3 ?_ | refine lz4 ?_)); omega))) ?_; clear hK K
      apply ord_step; (rw [List.getElem?_toArray]; (repeat rw [List.getElem?_cons_succ]); rw [List.getElem?_cons_zero]); rfl; intro K hK; go_simp; refine hK _ _ (fun _ => by first | (exfalso; simp at *; done) | (repeat with_reducible (first | exact bw0 _ _ | exact hBW | refine bw1 ?_ ?_ _ | refine bw2 ?_ ?_ _ | refine bw3 ?_ _ | refine bw4 ?_)); all_goals (first | omega | (dsimp only; omega) | ((repeat with_reducible (first | refine lz1 ?_ | refine lz2 ?_ | refine lz3 ?_ | refine lz4 ?_)); omega))) ?_; clear hK K
      refine ord_done ?_
      go_wp2_with fail
      go_meet
      exact ⟨W1.heap.size, W1.heap.size + 1, rfl, rfl, by unfold Hid; omega, by unfold Hid; (repeat (first | (with_reducible refine bw5 ?_ _; (first | rfl | (simp; done) | omega | (simp; omega)); done) | with_reducible refine bw6 ?_ _ | with_reducible refine bw7 ?_ | with_reducible refine bw8 ?_)), by unfold Hid; (repeat (first | (with_reducible refine bw5 ?_ _; (first | rfl | (simp; done) | omega | (simp; omega)); done) | with_reducible refine bw6 ?_ _ | with_reducible refine bw7 ?_ | with_reducible refine bw8 ?_)), by unfold Hid; (repeat with_reducible (first | exact bw0 _ _ | exact hBW | refine bw1 ?_ ?_ _ | refine bw2 ?_ ?_ _ | refine bw3 ?_ _ | refine bw4 ?_)); all_goals (first | omega | (dsimp only; omega) | ((repeat with_reducible (first | refine lz1 ?_ | refine lz2 ?_ | refine lz3 ?_ | refine lz4 ?_)); omega))⟩
    · apply ord_step; (rw [List.getElem?_toArray]; (repeat rw [List.getElem?_cons_succ]); rw [List.getElem?_cons_zero]); rfl; intro K hK; go_simp; refine hK _ _ (fun _ => by first | (exfalso; simp at *; done) | (repeat with_reducible (first | exact bw0 _ _ | exact hBW | refine bw1 ?_ ?_ _ | refine bw2 ?_ ?_ _ | refine bw3 ?_ _ | refine bw4 ?_)); all_goals (first | omega | (dsimp only; omega) | ((repeat with_reducible (first | refine lz1 ?_ | refine lz2 ?_ | refine lz3 ?_ | refine lz4 ?_)); omega))) ?_; clear hK K
      apply ord_step; (rw [List.getElem?_toArray]; (repeat rw [List.getElem?_cons_succ]); rw [List.getElem?_cons_zero]); rfl; intro K hK; go_simp; refine hK _ _ (fun _ => by first | (exfalso; simp at *; done) | (repeat with_reducible (first | exact bw0 _ _ | exact hBW | refine bw1 ?_ ?_ _ | refine bw2 ?_ ?_ _ | refine bw3 ?_ _ | refine bw4 ?_)); all_goals (first | omega | (dsimp only; omega) | ((repeat with_reducible (first | refine lz1 ?_ | refine lz2 ?_ | refine lz3 ?_ | refine lz4 ?_)); omega))) ?_; clear hK K
      apply ord_step; (rw [List.getElem?_toArray]; (repeat rw [List.getElem?_cons_succ]); rw [List.getElem?_cons_zero]); rfl; intro K hK; go_simp; refine hK _ _ (fun _ => by first | (exfalso; simp at *; done) | (repeat with_reducible (first | exact bw0 _ _ | exact hBW | refine bw1 ?_ ?_ _ | refine bw2 ?_ ?_ _ | refine bw3 ?_ _ | refine bw4 ?_)); all_goals (first | omega | (dsimp only; omega) | ((repeat with_reducible (first | refine lz1 ?_ | refine lz2 ?_ | refine lz3 ?_ | refine lz4 ?_)); omega))) ?_; clear hK K
      apply ord_step; (rw [List.getElem?_toArray]; (repeat rw [List.getElem?_cons_succ]); rw [List.getElem?_cons_zero]); rfl; intro K hK; go_simp; refine hK _ _ (fun _ => by first | (exfalso; simp at *; done) | (repeat with_reducible (first | exact bw0 _ _ | exact hBW | refine bw1 ?_ ?_ _ | refine bw2 ?_ ?_ _ | refine bw3 ?_ _ | refine bw4 ?_)); all_goals (first | omega | (dsimp only; omega) | ((repeat with_reducible (first | refine lz1 ?_ | refine lz2 ?_ | refine lz3 ?_ | refine lz4 ?_)); omega))) ?_; clear hK K
      refine ord_done ?_
      go_wp2_with fail
      go_meet
      exact ⟨W1.heap.size + 1, W1.heap.size, rfl, rfl, by unfold Hid; omega, by unfold Hid; (repeat (first | (with_reducible refine bw5 ?_ _; (first | rfl | (simp; done) | omega | (simp; omega)); done) | with_reducible refine bw6 ?_ _ | with_reducible refine bw7 ?_ | with_reducible refine bw8 ?_)), by unfold Hid; (repeat (first | (with_reducible refine bw5 ?_ _; (first | rfl | (simp; done) | omega | (simp; omega)); done) | with_reducible refine bw6 ?_ _ | with_reducible refine bw7 ?_ | with_reducible refine bw8 ?_)), by unfold Hid; (repeat with_reducible (first | exact bw0 _ _ | exact hBW | refine bw1 ?_ ?_ _ | refine bw2 ?_ ?_ _ | refine bw3 ?_ _ | refine bw4 ?_)); all_goals (first | omega | (dsimp only; omega) | ((repeat with_reducible (first | refine lz1 ?_ | refine lz2 ?_ | refine lz3 ?_ | refine lz4 ?_)); omega))⟩
  case rest =>
  obtain ⟨b4, b5, rfl, rfl, HNE, H4, H5, HBC⟩ := hcut
  have g0 := (HBC.out.block _ (lt_of_heap G0.out)).trans G0.out
  have H0 := Lib.hid g0
  have x0 := cell_of_heap g0
  have z0 := lt_of_heap g0
  clear g0
  rename World => w3
  go_wp2_with fail
  refine abs_world ?_
  intro W2 hW2
  have p0 : W2.heap[w3.heap.size]? = some (.cells preA 9) := by rw [hW2]; exact heap_alloc_new w3 _
  have hb2 : Below w3.heap.size w3 W2 := by rw [hW2]; exact below_alloc w3 _ _ (Nat.le_refl _)
  have P0 := Lib.hid p0
  have HB2 := Lib.hid hb2
  have J0 := Lib.hid ((hb2.block _ (lt_of_heap H0.out)).trans H0.out)
  have J4 := Lib.hid ((hb2.block _ (lt_of_heap H4.out)).trans H4.out)
  have J5 := Lib.hid ((hb2.block _ (lt_of_heap H5.out)).trans H5.out)
  obtain ⟨pb, hpb⟩ : ∃ pb, pb = w3.heap.size := ⟨_, rfl⟩
  rw [← hpb] at P0 ⊢
  clear hW2 p0 hb2 x0 z0 hpb
  go_loopw [21] (fun x wr => wr = W2 ∧ ∃ k : Nat, x = .int .i64 k ∧ k ≤ j) (fun x _ => 6 - (intOf x).toNat)
  case atStart => exact ⟨rfl, 0, rfl, Nat.zero_le _⟩
  case round =>
    obtain ⟨rfl, k, rfl, hk⟩ := hrel
    obtain ⟨p, hp⟩ := preA_get (i := k) (by omega)
    have cp : wr.cell? ⟨pb, k, none⟩ = some (.string p) := by rw [cell_of_heap P0.out k]; exact hp
    have zp := lt_of_heap P0.out
    have x0 := cell_of_heap J0.out
    have z0 := lt_of_heap J0.out
    have i1 : (k : Int) < 6 := by omega
    have i0 : (0 : Int) ≤ (k : Int) := by omega
    have v3 := w64s k (by omega)
    by_cases hkj : k < j
    · have key := HN.out (wr) k p hkj hp
      have HKJ := Lib.hid hkj
      clear hkj hp
      go_wp2_with fail
      refine key.mono ?_
      rintro e w5 ⟨rfl, rfl⟩
      clear key cp x0 zp z0
      go_wp2_with fail
      go_roundw
      case rel => exact ⟨by trivial, k + 1, by first | rfl | go_num, HKJ.out⟩
      case measure =>
        clear v3
        simp [intOf]
        omega
    · have e : k = j := by omega
      subst e
      obtain rfl : s = p := by
        have := HPJ.out
        rw [hp] at this
        exact (Value.string.inj (Option.some.inj this)).symm
      have key := HY.out wr
      clear hp hkj
      go_wp2_with fail
      refine key.mono ?_
      rintro e w5 ⟨rfl, rfl⟩
      clear key cp zp x0 z0 v3
      go_wp2_with fail
      refine (HR.out _).mono ?_
      rintro e w5 ⟨rfl, hb5⟩
      have q4 := (hb5.block _ (lt_of_heap J4.out)).trans J4.out
      have q5 := (hb5.block _ (lt_of_heap J5.out)).trans J5.out
      have HB5 := Lib.hid hb5
      have Q4 := Lib.hid q4
      have Q5 := Lib.hid q5
      have x4 := cell_of_heap q4
      have x5 := cell_of_heap q5
      have f4 := frozen_of_heap q4
      have f5 := frozen_of_heap q5
      have z4 := lt_of_heap q4
      have z5 := lt_of_heap q5
      have hne : b4 ≠ b5 := HNE.out.1
      have hne2 : b5 ≠ b4 := Ne.symm hne
      clear hb5 q4 q5
      go_wp2_with fail
      have hz1 := HB1.out.size
      have hz3 := HBC.out.size
      have hz2 := HB2.out.size
      have hz5 := HB5.out.size
      have hBW : Below w.heap.size w w5 := HB1.out.trans ((HBC.out.trans ((HB2.out.trans (HB5.out.mono hz2)).mono hz3)).mono hz1)
      have hq := HNE.out.2
      refine bodyPost_ret (v := .tuple #[.func (.func 317) #[] #[.pointer (some ⟨b4, 0, none⟩), .pointer (some ⟨b5, 0, none⟩)], .int .i64 0]) (by simp [results, Tryz.results243, go_sem]) rfl ⟨b4, b5, rfl, ⟨?_, ?_⟩, ?_⟩
      · refine (Below.heap_setCell _ _ _ _ hne).trans ((Below.heap_setCell _ _ _ _ hne).trans ((Below.heap_setCell _ _ _ _ hne).trans ((Below.heap_setCell _ _ _ _ hne).trans ((Below.heap_setCell _ _ _ _ hne).trans ((Below.heap_setCell _ _ _ _ hne).trans ?_)))))
        exact heap_setCell_at Q4.out 0 _
      · have q5 : (w5.setCell ⟨b4, 0, none⟩ (.string s)).heap[b5]? = _ := (Below.heap_setCell _ _ _ _ hne2).trans Q5.out
        exact heap_setCell_at (heap_setCell_at (heap_setCell_at (heap_setCell_at (heap_setCell_at (heap_setCell_at q5 0 _) 1 _) 2 _) 3 _) 4 _) 5 _
      · (repeat with_reducible (first | exact bw0 _ _ | exact hBW | refine bw1 ?_ ?_ _ | refine bw2 ?_ ?_ _ | refine bw3 ?_ _ | refine bw4 ?_)); all_goals (first | omega | (dsimp only; omega) | ((repeat with_reducible (first | refine lz1 ?_ | refine lz2 ?_ | refine lz3 ?_ | refine lz4 ?_)); omega))
end
end Go.Proofs.YtndhmahkglfopaaGreatDoor
