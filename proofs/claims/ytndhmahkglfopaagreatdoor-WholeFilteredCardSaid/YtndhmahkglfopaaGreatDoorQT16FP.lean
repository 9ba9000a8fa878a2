/- WholeFiltered: the whole law. -/
import Derived.Test.YtndhmahkglfopaaGreatDoorQT16SH
import Derived.Test.YtndhmahkglfopaaGreatDoorQT16FO
namespace Go.Proofs.YtndhmahkglfopaaGreatDoor
open Go.RowKit Go.Sort
section
variable (w : World)
set_option maxHeartbeats 4000000
set_option maxRecDepth 100000
theorem law_out (a : Option Addr) (n cap : Nat) (x y : Int) (h : n < 1 ∨ 40 < n) (htab : Tab w) : Calls Tryz.prog 3 #[.slice a n cap, .int .i16 x, .int .u8 y] w fun e w' => e = .returned (.bool true) ∧ Below w.heap.size w w' := by
  have HT := Lib.hid htab
  clear htab
  by_cases h1 : n < 1
  · have i1 : (n : Int) < 1 := by omega
    have i2 : n = 0 := by omega
    subst i2
    clear h h1
    go_enter Tryz.func3, Tryz.ntmps3
    go_wp2_with fail
    refine (awake_any _ HT.out).mono ?_
    rintro e w1 ⟨rfl, hb1⟩
    have HB1 := Lib.hid hb1
    clear hb1
    go_wp2_with fail
    refine (awake_any _ (HT.out.below HB1.out)).mono ?_
    rintro e w2 ⟨rfl, hb2⟩
    have HB2 := Lib.hid (HB1.out.trans (hb2.mono HB1.out.size))
    clear hb2
    go_wp2_with fail
    go_ret
    exact ⟨rfl, HB2.out⟩
  · have i1 : ¬ (n : Int) < 1 := by omega
    have i2 : (40 : Int) < (n : Int) := by omega
    have i3 : 40 < n := by omega
    have i4 : ¬ n = 0 := by omega
    clear h
    go_enter Tryz.func3, Tryz.ntmps3
    go_wp2_with fail
    refine (awake_any _ HT.out).mono ?_
    rintro e w1 ⟨rfl, hb1⟩
    have HB1 := Lib.hid hb1
    clear hb1
    go_wp2_with fail
    refine (awake_any _ (HT.out.below HB1.out)).mono ?_
    rintro e w2 ⟨rfl, hb2⟩
    have HB2 := Lib.hid (HB1.out.trans (hb2.mono HB1.out.size))
    clear hb2
    go_wp2_with fail
    go_ret
    exact ⟨rfl, HB2.out⟩
end
theorem symAll_any (D : List Int) (h : D.length ≤ 40) : SymAll D := fun _ W ab bb yb blk scap hc => symOk_all W W.heap.size 298 _ D.length (cfI D) blk scap ent298 (swo_cf D) hc (Nat.le_refl _) D.length (by omega)
/-- A column's array. -/
def colA (D : List Int) : Arr := ⟨D.length, 1, D.map cntV⟩
theorem colA_len (D : List Int) : (colA D).l.length = D.length := by simp [colA]
theorem ArrPostC.len {n m : Nat} {w w' : World} {A : Arr} {e : Ending} (h : ArrPostC (fun c => n ≤ c) w A e w') (hm : m ≤ n) : ArrPostC (fun c => m ≤ c) w A e w' := by
  obtain ⟨a, cap, he, hx, h1, h2⟩ := h
  exact ⟨a, cap, he, Nat.le_trans hm hx, h1, h2⟩
theorem ArrPostC.all {n : Nat} {w w' : World} {A : Arr} {e : Ending} (h : ArrPostC (fun c => n ≤ c) w A e w') : ArrPostC (fun _ => True) w A e w' := by
  obtain ⟨a, cap, he, _, h1, h2⟩ := h
  exact ⟨a, cap, he, trivial, h1, h2⟩
theorem sameK_yes (A : Arr) (h : A.l.length ≤ 1000000) : SameK A A true := fun x y w hx hy => same_yes A x y w hx hy h
theorem sort_cap (D : List Int) (hD : ∀ d ∈ D, Small d) (h1 : 1 ≤ D.length) (h2 : D.length ≤ 40) : CapK (colA D) [colA D] 1 sSORT (fun c => (colA (sortD D)).l.length ≤ c) (colA (sortD D)) := fun fb fc ca a w hargs hlt hcell hsl hcap _ => by
  rw [colA_len] at hcell hcap
  obtain ⟨b', off', e', _, _, hall⟩ := hargs (by simp)
  simp only [Option.some.injEq, Addr.mk.injEq, and_true] at e'
  obtain ⟨rfl, rfl⟩ := e'
  obtain ⟨_, _, c0, c1, _, _⟩ := hall 0 _ rfl
  simp only [Nat.zero_mul, Nat.add_zero, Nat.zero_add] at c0 c1
  have key := call_sort D (fun d hd => cnt_refR (hD d hd)) (cmpInt_all D hD) h1 h2 (symAll_any D h2) fb 0 fc ca a hcap w ⟨hlt, c0, c1, by simpa using hcell, hsl⟩
  have e : (⟨(D.length : Int), 1, (sortD D).map cntV⟩ : Arr) = colA (sortD D) := by unfold colA; rw [sortD_len]
  rw [e] at key
  refine key.mono fun e w' h => h.len ?_
  rw [colA_len, sortD_len]
  exact Nat.le_refl _
theorem bin_col {s : ByteArray} {is : Int → Bool} (hS : Sg s is) (D : List Int) (v : Int) (hD : ∀ d ∈ D, Small d) (hv : Small v) (h1 : 1 ≤ D.length) (h2 : D.length ≤ 40) : BinK s (colA D) ⟨1, 1, [cntV v]⟩ (maskA (lets is v) D) := fun a c ca cc w ha hc ht => by
  have hA : ArrR (colA D) := col_ok hD h1 h2
  have hB : ArrR ⟨1, 1, [cntV v]⟩ := one_right (cnt_refR hv)
  have hb := both_bd hA hB (by rw [colA_len]; exact h2) (by simp)
  have key := Binary_any s (colA D) ⟨1, 1, [cntV v]⟩ a c ca cc w hS.bin hA hB hb.1 hb.2 ha hc ht
  rw [show bothV (holdV is) (colA D) ⟨1, 1, [cntV v]⟩ = maskA (lets is v) D from mask_eq is v D h1 hv hD] at key
  exact key
theorem filtered_in (w : World) (D : List Int) (b off cap : Nat) (v t : Int) (hD : ∀ d ∈ D, -32768 ≤ d ∧ d ≤ 32767) (hv : -32768 ≤ v ∧ v ≤ 32767) (ht0 : 0 ≤ t) (ht1 : t ≤ 255) (h1 : 1 ≤ D.length) (h2 : D.length ≤ 40) (hco : CO w b off D) (htab : Tab w) :
    Calls Tryz.prog 3 #[.slice (some ⟨b, off, none⟩) D.length cap, .int .i16 v, .int .u8 t] w fun e w' => e = .returned (.bool true) ∧ Below w.heap.size w w' := by
  obtain ⟨k, s, is, htk, hk6, hsg, hS⟩ := sgn_at t
  have mt : t.tmod 6 = (k : Int) := by rw [← htk]; exact Int.tmod_eq_emod_of_nonneg ht0
  have sD : ∀ d ∈ D, Small d := fun d hd => by have := hD d hd; unfold Small; omega
  have sv : Small v := by unfold Small; omega
  have s0 : Small 0 := by unfold Small; omega
  obtain ⟨p, hp⟩ : ∃ p, p = lets is v := ⟨_, rfl⟩
  have hF2 : (D.filter p).length ≤ 40 := Nat.le_trans (List.length_filter_le _ _) h2
  have sF : ∀ d ∈ D.filter p, Small d := fun d hd => sD d (List.mem_filter.1 hd).1
  have sO : ∀ d ∈ sortD D, Small d := fun d hd => sD d ((sortD_mem d).1 hd)
  have o1 : 1 ≤ (sortD D).length := by rw [sortD_len]; exact h1
  have o2 : (sortD D).length ≤ 40 := by rw [sortD_len]; exact h2
  have sN : refR (tV sNone) = true := tV_right (by decide)
  obtain ⟨FA, hFA⟩ : ∃ FA : Arr, FA = if D.filter p = [] then ⟨1, 1, [tV sNone]⟩ else colA (D.filter p) := ⟨_, rfl⟩
  have fa0 : D.filter p = [] → FA = ⟨1, 1, [tV sNone]⟩ := fun h => by rw [hFA, if_pos h]
  have fa1 : D.filter p ≠ [] → FA = colA (D.filter p) := fun h => by rw [hFA, if_neg h]
  have ne1 : D.filter p ≠ [] → 1 ≤ (D.filter p).length := fun h => by
    cases hq : D.filter p with
    | nil => exact absurd hq h
    | cons x r => simp
  have zf : decide (D.filter p = []) = false → D.filter p ≠ [] := fun h => of_decide_eq_false h
  refine law_walk w s v t k D.length cap b off D (colA D) ⟨1, 1, [tV sNone]⟩ ⟨1, 1, [cntV v]⟩ (maskA p D) ⟨1, 1, [tV (s ++ cT v)]⟩ FA ⟨1, 1, [cntV (D.filter p).length]⟩ ⟨1, 1, [sumV (((D.filter p).map cntV).map prV)]⟩ (colA (sortD D)) (maskA p (sortD D)) (colA (sortD (D.filter p))) ⟨1, 1, [cntV 0]⟩ (cntV v) (cntV 0) (decide (D.filter p = []))
    h1 h2 mt ht0 ht1 hk6 hsg hv hco htab ?_ (fun w => single_any w _ sN) (fun w => cnt_any v sv w) (fun w => single_any w _ (cnt_refR sv)) ?_ ?_ (fun w => than_any w s hS.size v sv) ?_ ?_ (fun w => cnt_any 0 s0 w) (fun w => single_any w _ (cnt_refR s0)) ?_ ?_ (sameK_yes _ (by simp)) (sameK_yes _ (by simp)) (sameK_yes _ (by simp)) (sameK_yes _ (by rw [colA_len, sortD_len]; omega)) (fun _ => sort_cap D sD h1 h2) ?_ ?_ ?_ ?_ ?_
  · intro w hc
    refine (columnO_any w D hD h2 b off cap hc).mono fun e w' h => h.len ?_
    rw [colA_len]
    exact Nat.le_refl _
  · rw [hp]
    exact bin_col hS D v sD sv h1 h2
  · intro fb fc ca a w hargs hlt hcell hsl hcap _
    rw [colA_len] at hcell hcap
    exact call_filter3 p D sD h1 h2 (tV sNone) sN rfl FA fa1 fa0 fb 0 fc ca a hcap w hargs ⟨hlt, by simpa using hcell, hsl⟩
  · intro a c w hc hargs ht
    rw [hp]
    exact call_countIf hS D v sD sv h1 h2 a c hc w hargs ht
  · intro a c w hc hargs ht
    rw [hp]
    exact call_sumIf hS D v sD sv h1 h2 a c w hargs ht
  · intro x y w hx hy
    by_cases h0 : D.filter p = []
    · have e : (D.filter p).length = 0 := by rw [h0]; rfl
      rw [e] at hx
      rw [decide_eq_true h0]
      exact same_yes _ x y w hx hy (by simp)
    · have hk := ne1 h0
      rw [decide_eq_false h0]
      refine same_no _ _ ?_ x y w hx hy
      intro e
      refine cnt_ne_zero (d := ((D.filter p).length : Int)) (by omega) ?_
      have hx0 : mkM ((D.filter p).length : Int) ≠ 0 := by
        have hm := (mk_abs (d := ((D.filter p).length : Int)) (by omega)).1
        obtain ⟨_, q2, _, _⟩ := trim_eq _ ((D.filter p).length : Int).natAbs (Nat.le_refl _) (by omega)
        omega
      exact absurd e hx0
  · intro hz
    have h0 : D.filter p = [] := of_decide_eq_true hz
    refine ⟨fa0 h0, ?_⟩
    rw [h0]
    rfl
  · intro _
    rw [hp]
    exact bin_col hS (sortD D) v sO sv o1 o2
  · intro hz a c w hc hargs ht
    have h0 := zf hz
    rw [fa1 h0] at hargs
    exact call_rows (colA (D.filter p)) (col_ok sF (ne1 h0) hF2) (D.filter p).length rfl (by omega) a c w hargs ht
  · intro hz a c w hc hargs ht
    have h0 := zf hz
    rw [fa1 h0] at hargs
    exact call_sum (colA (D.filter p)) (col_ok sF (ne1 h0) hF2) (by rw [colA_len]; exact ne1 h0) (by rw [colA_len]; omega) (fun u hu => by
      obtain ⟨d, _, rfl⟩ := List.mem_map.1 hu
      rfl) a c w hargs ht
  · intro hz fb fc ca a w hargs hlt hcell hsl hcap _
    have h0 := zf hz
    rw [colA_len] at hcell hcap
    have hsf : (sortD D).filter p = sortD (D.filter p) := sort_filter p D
    have hne : (sortD D).filter p ≠ [] := fun e => by
      rw [hsf] at e
      have h3 := congrArg List.length e
      rw [sortD_len] at h3
      have h4 := ne1 h0
      simp only [List.length_nil] at h3
      omega
    have key := call_filter2 p (sortD D) sO o1 o2 hne fb 0 fc ca a hcap w hargs ⟨hlt, by simpa using hcell, hsl⟩
    rw [hsf] at key
    exact key.mono fun e w' h => h.all
  · intro hz fb fc ca a w hargs hlt hcell hsl hcap ht
    have h0 := zf hz
    rw [fa1 h0] at hargs hcell hsl hcap
    exact (sort_cap (D.filter p) sF (ne1 h0) hF2 fb fc ca a w hargs hlt hcell hsl hcap ht).mono fun e w' h => h.all
theorem filtered_any (w : World) (D : List Int) (a : Option Addr) (cap : Nat) (v t : Int) (hD : ∀ d ∈ D, -32768 ≤ d ∧ d ≤ 32767) (hv : -32768 ≤ v ∧ v ≤ 32767) (ht0 : 0 ≤ t) (ht1 : t ≤ 255) (hs : 0 < D.length → ∃ b off, a = some ⟨b, off, none⟩ ∧ CO w b off D) (htab : Tab w) :
    Calls Tryz.prog 3 #[.slice a D.length cap, .int .i16 v, .int .u8 t] w fun e w' => e = .returned (.bool true) ∧ Below w.heap.size w w' := by
  by_cases h1 : D.length < 1
  · exact law_out w a D.length cap v t (.inl h1) htab
  · by_cases h2 : 40 < D.length
    · exact law_out w a D.length cap v t (.inr h2) htab
    · obtain ⟨b, off, rfl, hco⟩ := hs (by omega)
      exact filtered_in w D b off cap v t hD hv ht0 ht1 (by omega) (by omega) hco htab
end Go.Proofs.YtndhmahkglfopaaGreatDoor
