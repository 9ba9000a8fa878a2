/- oper: joined, holder. -/
import Derived.Test.YtndhmahkglfopaaGreatDoorQT13Right
import Derived.Test.YtndhmahkglfopaaGreatDoorQT16ZA
import Derived.Test.YtndhmahkglfopaaGreatDoorQT16ZB
import Derived.Test.YtndhmahkglfopaaGreatDoorQT16U
import Derived.Test.YtndhmahkglfopaaGreatDoorQT16YC
namespace Go.Proofs.YtndhmahkglfopaaGreatDoor
open Go.RowKit
theorem TextV_any (t : ByteArray) (w : World) : Calls Tryz.prog 71 #[.string t] w (VPost w (textV t)) := by
  by_cases h : 255 < t.size
  · have := Text_long t w h
    unfold textV
    rw [if_pos h]
    exact this
  · have := Text_any t (by omega) w
    unfold textV
    rw [if_neg h]
    exact this
theorem toText_size {v : V} (h : refR v = true) : (toText v).1.size ≤ 255 := by
  have hp := cprop h
  unfold toText
  split
  · rename_i hk
    have hb := numR_small (hp.1 hk)
    have hl := dec_le v.m.natAbs (by omega)
    simp only [ByteArray.size, textL]
    simp only [List.size_toArray, List.length_append]
    have h1 : (if v.m < 0 then ([45] : List UInt8) else []).length ≤ 1 := by split <;> simp
    generalize (if v.m < 0 then ([45] : List UInt8) else []).length = a at h1 ⊢
    generalize Lib.decDigits v.m.natAbs = L at hl ⊢
    split
    · simp; omega
    · split
      · simp; omega
      · simp; omega
  · split
    · rename_i hk
      exact hp.2 hk
    · split
      · split
        · exact (by decide : (4 : Nat) ≤ 255)
        · exact (by decide : (5 : Nat) ≤ 255)
      · split
        · exact Nat.zero_le _
        · exact Nat.zero_le _
section
variable (x y : V) (w : World)
set_option maxHeartbeats 2000000
set_option maxRecDepth 100000
theorem joined_x (X Y : ByteArray × Int) (U : V) (HX : Hid (∀ w, Tab w → Calls Tryz.prog 70 #[vagg x] w (TTPost w X))) (HY : Hid (∀ w, Tab w → Calls Tryz.prog 70 #[vagg y] w (TTPost w Y))) (hs1 : X.1.size ≤ 255) (hs2 : Y.1.size ≤ 255) (htab : Tab w)
    (hU : U = if X.2 ≠ 0 then vBad X.2 else if Y.2 ≠ 0 then vBad Y.2 else textV (X.1 ++ Y.1)) : Calls Tryz.prog 31 #[vagg x, vagg y] w (VPost w U) := by
  obtain ⟨X, xf⟩ := X
  obtain ⟨Y, yf⟩ := Y
  have HUU := Lib.hid hU
  have HT := Lib.hid htab
  unfold vagg TTPost at HX HY
  unfold vagg
  simp only at HX HY hs1 hs2
  clear hU htab
  go_enter Tryz.func31, Tryz.ntmps31
  go_wp2_with fail
  have ht2 : Tab (((w.alloc (.cells #[.int .i64 x.k, .int .i64 x.m, .int .i64 x.e, .string x.t, .bool x.b, .int .i64 x.f] 34)).alloc (.cells #[.int .i64 y.k, .int .i64 y.m, .int .i64 y.e, .string y.t, .bool y.b, .int .i64 y.f] 34)).alloc (.cells #[.int .i64 0, .int .i64 0, .int .i64 0, .string ⟨#[]⟩, .bool false, .int .i64 0] 34)) := HT.out.below (by (repeat with_reducible (first | exact bw0 _ _ | exact hBW | refine bw1 ?_ ?_ _ | refine bw2 ?_ ?_ _ | refine bw3 ?_ _ | refine bw4 ?_)); all_goals (first | omega | (dsimp only; omega) | ((repeat with_reducible (first | refine lz1 ?_ | refine lz2 ?_ | refine lz3 ?_ | refine lz4 ?_)); omega)))
  refine (HX.out _ ht2).mono ?_
  clear ht2
  rintro r w1 ⟨rfl, hb1⟩
  have E2 := Lib.hid ((hb1.block (w.heap.size + 1 + 1) (by simp)).trans (show _ = some (.cells #[.int .i64 0, .int .i64 0, .int .i64 0, .string ⟨#[]⟩, .bool false, .int .i64 0] 34 (0, 0)) by (repeat (first | (with_reducible refine bw5 ?_ _; (first | rfl | (simp; done) | omega | (simp; omega)); done) | with_reducible refine bw6 ?_ _ | with_reducible refine bw7 ?_ | with_reducible refine bw8 ?_))))
  have E1 := Lib.hid ((hb1.block (w.heap.size + 1) (by simp <;> omega)).trans (show _ = some (.cells #[.int .i64 y.k, .int .i64 y.m, .int .i64 y.e, .string y.t, .bool y.b, .int .i64 y.f] 34 (0, 0)) by (repeat (first | (with_reducible refine bw5 ?_ _; (first | rfl | (simp; done) | omega | (simp; omega)); done) | with_reducible refine bw6 ?_ _ | with_reducible refine bw7 ?_ | with_reducible refine bw8 ?_))))
  have HB1 : Hid (Below w.heap.size w w1) := by
    refine Below.trans ?_ (hb1.mono (by simp <;> omega))
    (repeat with_reducible (first | exact bw0 _ _ | exact hBW | refine bw1 ?_ ?_ _ | refine bw2 ?_ ?_ _ | refine bw3 ?_ _ | refine bw4 ?_)); all_goals (first | omega | (dsimp only; omega) | ((repeat with_reducible (first | refine lz1 ?_ | refine lz2 ?_ | refine lz3 ?_ | refine lz4 ?_)); omega))
  have j0 := cell_of_heap E1.out
  have z1 := lt_of_heap E1.out
  clear hb1
  by_cases hxf : xf = 0
  · have n1 : (xf != 0) = false := by simp [hxf]
    have HU2 : Hid (U = if yf ≠ 0 then vBad yf else textV (X ++ Y)) := by have := HUU.out; rw [if_neg (by simpa using hxf)] at this; exact this
    clear hxf HUU HX
    go_wp2_with fail
    refine (HY.out _ (HT.out.below HB1.out)).mono ?_
    rintro r w2 ⟨rfl, hb2⟩
    have HB2 := Lib.hid (HB1.out.trans (hb2.mono HB1.out.size))
    have E22 := Lib.hid ((hb2.block _ (lt_of_heap E2.out)).trans E2.out)
    clear hb2 j0 z1 E1 E2
    by_cases hyf : yf = 0
    · have n2 : (yf != 0) = false := by simp [hyf]
      have HU3 : Hid (U = textV (X ++ Y)) := by have := HU2.out; rw [if_neg (by simpa using hyf)] at this; exact this
      have HC := Lib.hid (fun w => TextV_any (X ++ Y) w)
      obtain ⟨u, hu⟩ : ∃ u, u = textV (X ++ Y) := ⟨_, rfl⟩
      rw [← hu] at HC HU3
      have HU := HU3
      unfold VPost at HC
      clear hyf HU2 HU3 hu
      have s1 : ¬ 9223372036854775807 < X.size + Y.size := by omega
      go_wp2_with fail
      refine (HC.out _).mono ?_
      rintro r w3 ⟨rfl, hb3⟩
      have HBQ := Lib.hid (HB2.out.trans (hb3.mono HB2.out.size))
      have EQ2 := Lib.hid ((hb3.block _ (lt_of_heap E22.out)).trans E22.out)
      clear hb3
      have x2 := cell_of_heap EQ2.out
      have y2 := frozen_of_heap EQ2.out
      have z2 := lt_of_heap EQ2.out
      rw [vagg_eq u]
      go_wp2_with fail
      have hBW := HBQ.out
      refine bodyPost_ret (v := .agg #[.int .i64 u.k, .int .i64 u.m, .int .i64 u.e, .string u.t, .bool u.b, .int .i64 u.f]) (by simp [results, Tryz.results31, go_sem, x2]) rfl ⟨by rw [HU.out]; rfl, ?_⟩
      (repeat with_reducible (first | exact bw0 _ _ | exact hBW | refine bw1 ?_ ?_ _ | refine bw2 ?_ ?_ _ | refine bw3 ?_ _ | refine bw4 ?_)); all_goals (first | omega | (dsimp only; omega) | ((repeat with_reducible (first | refine lz1 ?_ | refine lz2 ?_ | refine lz3 ?_ | refine lz4 ?_)); omega))
    · have n2 : (yf != 0) = true := by simpa using hyf
      have HU3 : Hid (U = vBad yf) := by have := HU2.out; rw [if_pos hyf] at this; exact this
      have HC := Lib.hid (fun w => bad_any yf w)
      obtain ⟨u, hu⟩ : ∃ u, u = vBad yf := ⟨_, rfl⟩
      rw [← hu] at HC HU3
      have HU := HU3
      clear hyf HU2 HU3 hu
      go_wp2_with fail
      refine (HC.out _).mono ?_
      rintro r w3 ⟨rfl, hb3⟩
      have HBQ := Lib.hid (HB2.out.trans (hb3.mono HB2.out.size))
      have EQ2 := Lib.hid ((hb3.block _ (lt_of_heap E22.out)).trans E22.out)
      clear hb3
      have x2 := cell_of_heap EQ2.out
      have y2 := frozen_of_heap EQ2.out
      have z2 := lt_of_heap EQ2.out
      rw [vagg_eq u]
      go_wp2_with fail
      have hBW := HBQ.out
      refine bodyPost_ret (v := .agg #[.int .i64 u.k, .int .i64 u.m, .int .i64 u.e, .string u.t, .bool u.b, .int .i64 u.f]) (by simp [results, Tryz.results31, go_sem, x2]) rfl ⟨by rw [HU.out]; rfl, ?_⟩
      (repeat with_reducible (first | exact bw0 _ _ | exact hBW | refine bw1 ?_ ?_ _ | refine bw2 ?_ ?_ _ | refine bw3 ?_ _ | refine bw4 ?_)); all_goals (first | omega | (dsimp only; omega) | ((repeat with_reducible (first | refine lz1 ?_ | refine lz2 ?_ | refine lz3 ?_ | refine lz4 ?_)); omega))
  · have n1 : (xf != 0) = true := by simpa using hxf
    have HU2 : Hid (U = vBad xf) := by have := HUU.out; rw [if_pos hxf] at this; exact this
    have HC := Lib.hid (fun w => bad_any xf w)
    obtain ⟨u, hu⟩ : ∃ u, u = vBad xf := ⟨_, rfl⟩
    rw [← hu] at HC HU2
    have HU := HU2
    clear hxf HUU HX HU2 hu
    go_wp2_with fail
    refine (HC.out _).mono ?_
    rintro r w3 ⟨rfl, hb3⟩
    have HBQ := Lib.hid (HB1.out.trans (hb3.mono HB1.out.size))
    have EQ2 := Lib.hid ((hb3.block _ (lt_of_heap E2.out)).trans E2.out)
    clear hb3 j0 z1
    have x2 := cell_of_heap EQ2.out
    have y2 := frozen_of_heap EQ2.out
    have z2 := lt_of_heap EQ2.out
    rw [vagg_eq u]
    go_wp2_with fail
    have hBW := HBQ.out
    refine bodyPost_ret (v := .agg #[.int .i64 u.k, .int .i64 u.m, .int .i64 u.e, .string u.t, .bool u.b, .int .i64 u.f]) (by simp [results, Tryz.results31, go_sem, x2]) rfl ⟨by rw [HU.out]; rfl, ?_⟩
    (repeat with_reducible (first | exact bw0 _ _ | exact hBW | refine bw1 ?_ ?_ _ | refine bw2 ?_ ?_ _ | refine bw3 ?_ _ | refine bw4 ?_)); all_goals (first | omega | (dsimp only; omega) | ((repeat with_reducible (first | refine lz1 ?_ | refine lz2 ?_ | refine lz3 ?_ | refine lz4 ?_)); omega))
end
theorem joined_any (x y : V) (hx : refR x = true) (hy : refR y = true) (w : World) (htab : Tab w) : Calls Tryz.prog 31 #[vagg x, vagg y] w (VPost w (joinV x y)) :=
  joined_x x y w (toText x) (toText y) (joinV x y) (Lib.hid (fun w ht => ToText_any x hx w ht)) (Lib.hid (fun w ht => ToText_any y hy w ht)) (toText_size hx) (toText_size hy) htab rfl
end Go.Proofs.YtndhmahkglfopaaGreatDoor
/- oper: what holder makes; the six questions. -/
namespace Go.Proofs.YtndhmahkglfopaaGreatDoor
open Go.RowKit
def IsOk (g : Nat) (is : Int → Bool) : Prop := ∀ (o : Int) (W : World), Calls Tryz.prog g #[.int .i64 o] W fun e w' => e = .returned (.bool (is o)) ∧ W = w'
section
set_option maxHeartbeats 2000000
set_option maxRecDepth 100000
theorem is33 : IsOk 33 (fun o => decide (o = 0)) := fun o W => by
  go_enter Tryz.func33, Tryz.ntmps33
  go_wp2_with fail
  go_ret
  exact ⟨congrArg (fun b => Ending.returned (.bool b)) (by by_cases h : o = 0 <;> simp [h]), rfl⟩
theorem is34 : IsOk 34 (fun o => decide (o ≠ 0)) := fun o W => by
  go_enter Tryz.func34, Tryz.ntmps34
  go_wp2_with fail
  go_ret
  exact ⟨congrArg (fun b => Ending.returned (.bool b)) (by by_cases h : o = 0 <;> simp [h]), rfl⟩
theorem is35 : IsOk 35 (fun o => decide (o < 0)) := fun o W => by
  go_enter Tryz.func35, Tryz.ntmps35
  go_wp2_with fail
  go_ret
  exact ⟨by simp, rfl⟩
theorem is36 : IsOk 36 (fun o => decide (o ≤ 0)) := fun o W => by
  go_enter Tryz.func36, Tryz.ntmps36
  go_wp2_with fail
  go_ret
  exact ⟨by simp, rfl⟩
theorem is37 : IsOk 37 (fun o => decide (0 < o)) := fun o W => by
  go_enter Tryz.func37, Tryz.ntmps37
  go_wp2_with fail
  go_ret
  exact ⟨by simp, rfl⟩
theorem is38 : IsOk 38 (fun o => decide (0 ≤ o)) := fun o W => by
  go_enter Tryz.func38, Tryz.ntmps38
  go_wp2_with fail
  go_ret
  exact ⟨by simp, rfl⟩
end
section
variable (x y : V) (w : World)
set_option maxHeartbeats 2000000
set_option maxRecDepth 100000
theorem hold_x (fb : Nat) (n1 : (x.k == 4) = true) : Calls Tryz.prog 72 #[vagg x, vagg y, .pointer (some ⟨fb, 0, none⟩)] w (VPost w x) := by
  unfold vagg
  go_enter Tryz.func72, Tryz.ntmps72
  go_wp2_with fail
  refine bodyPost_ret (v := vagg x) (by simp [results, Tryz.results72, go_sem, vagg]) rfl ⟨rfl, ?_⟩
  (repeat with_reducible (first | exact bw0 _ _ | exact hBW | refine bw1 ?_ ?_ _ | refine bw2 ?_ ?_ _ | refine bw3 ?_ _ | refine bw4 ?_)); all_goals (first | omega | (dsimp only; omega) | ((repeat with_reducible (first | refine lz1 ?_ | refine lz2 ?_ | refine lz3 ?_ | refine lz4 ?_)); omega))
theorem hold_y (fb : Nat) (n1 : (x.k == 4) = false) (n2 : (y.k == 4) = true) : Calls Tryz.prog 72 #[vagg x, vagg y, .pointer (some ⟨fb, 0, none⟩)] w (VPost w y) := by
  unfold vagg
  go_enter Tryz.func72, Tryz.ntmps72
  go_wp2_with fail
  refine bodyPost_ret (v := vagg y) (by simp [results, Tryz.results72, go_sem, vagg]) rfl ⟨rfl, ?_⟩
  (repeat with_reducible (first | exact bw0 _ _ | exact hBW | refine bw1 ?_ ?_ _ | refine bw2 ?_ ?_ _ | refine bw3 ?_ _ | refine bw4 ?_)); all_goals (first | omega | (dsimp only; omega) | ((repeat with_reducible (first | refine lz1 ?_ | refine lz2 ?_ | refine lz3 ?_ | refine lz4 ?_)); omega))
theorem hold_c {g : Nat} {is : Int → Bool} (hE : Ent g) (hI : IsOk g is) (fb : Nat) (hf : w.heap[fb]? = some (.cells #[.func (.func g) #[] #[]] 65)) (n1 : (x.k == 4) = false) (n2 : (y.k == 4) = false) (c : Int) (hC : ∀ w, Calls Tryz.prog 74 #[vagg x, vagg y] w (CPost w c)) : Calls Tryz.prog 72 #[vagg x, vagg y, .pointer (some ⟨fb, 0, none⟩)] w (VPost w (vTruth (is c))) := by
  have HC := Lib.hid hC
  have HI := Lib.hid (hI c)
  have HT := Lib.hid (truth_any (is c))
  have HE := Lib.hid hE
  have HF := Lib.hid hf
  generalize is c = b at HI HT ⊢
  unfold CPost vagg at HC
  obtain ⟨u, hu⟩ : ∃ u, u = vTruth b := ⟨_, rfl⟩
  rw [← hu] at HT ⊢
  unfold vagg
  rw [vagg_eq u] at HT
  clear hC hI hE hf hu
  go_enter Tryz.func72, Tryz.ntmps72
  go_wp2_with fail
  refine abs_world ?_
  intro W1 hW1
  have hB1 : Below w.heap.size w W1 := by rw [hW1]; (repeat with_reducible (first | exact bw0 _ _ | exact hBW | refine bw1 ?_ ?_ _ | refine bw2 ?_ ?_ _ | refine bw3 ?_ _ | refine bw4 ?_)); all_goals (first | omega | (dsimp only; omega) | ((repeat with_reducible (first | refine lz1 ?_ | refine lz2 ?_ | refine lz3 ?_ | refine lz4 ?_)); omega))
  have ev : W1.heap[w.heap.size]? = some (.cells #[.int .i64 x.k, .int .i64 x.m, .int .i64 x.e, .string x.t, .bool x.b, .int .i64 x.f] 34) := by rw [hW1]; (repeat (first | (with_reducible refine bw5 ?_ _; (first | rfl | (simp; done) | omega | (simp; omega)); done) | with_reducible refine bw6 ?_ _ | with_reducible refine bw7 ?_ | with_reducible refine bw8 ?_))
  have eu : W1.heap[w.heap.size + 1]? = some (.cells #[.int .i64 y.k, .int .i64 y.m, .int .i64 y.e, .string y.t, .bool y.b, .int .i64 y.f] 34) := by rw [hW1]; (repeat (first | (with_reducible refine bw5 ?_ _; (first | rfl | (simp; done) | omega | (simp; omega)); done) | with_reducible refine bw6 ?_ _ | with_reducible refine bw7 ?_ | with_reducible refine bw8 ?_))
  have e2 : W1.heap[w.heap.size + 1 + 1]? = some (.cells #[.int .i64 0, .int .i64 0, .int .i64 0, .string ⟨#[]⟩, .bool false, .int .i64 0] 34) := by rw [hW1]; (repeat (first | (with_reducible refine bw5 ?_ _; (first | rfl | (simp; done) | omega | (simp; omega)); done) | with_reducible refine bw6 ?_ _ | with_reducible refine bw7 ?_ | with_reducible refine bw8 ?_))
  have hf1 := (hB1.block fb (lt_of_heap HF.out)).trans HF.out
  have f0 : W1.cell? ⟨fb, 0, none⟩ = some (.func (.func g) #[] #[]) := cell_of_heap hf1 0
  have zf := lt_of_heap hf1
  have k0 := cell_of_heap ev
  have j0 := cell_of_heap eu
  have z0 := lt_of_heap ev
  have z1 := lt_of_heap eu
  have E2 := Lib.hid e2
  have HB1 := Lib.hid hB1
  clear hW1 hB1 ev eu e2 hf1
  refine wp_region_mix [0, 1, 2] [3, 4, 5, 6] [4, 5, 6] (Below W1.heap.size W1) (by kernel_rfl) (by kernel_rfl) (Below.refl _ _).drew ?_
  iterate 3 (first | (apply first_step; (rw [List.getElem?_toArray]; (repeat rw [List.getElem?_cons_succ]); rw [List.getElem?_cons_zero]); rfl; (intro W hB; have hc := bcellB hB; go_simp; (first | done | rfl)); go_frame) | (apply first_skip; (rw [List.getElem?_toArray]; (repeat rw [List.getElem?_cons_succ]); rw [List.getElem?_cons_zero]); rfl; go_frame))
  refine first_done ?_
  apply tail_step; (rw [List.getElem?_toArray]; (repeat rw [List.getElem?_cons_succ]); rw [List.getElem?_cons_zero]); rfl; rfl; intro K hK; go_simp
  refine (HC.out _).mono ?_
  rintro r w2 ⟨rfl, hb2⟩
  have hb2' : Below W1.heap.size W1 w2 := (Below.refl _ W1).drew.trans hb2
  refine hK _ _ (fun _ => hb2') ?_
  clear hK K
  have HB2 := Lib.hid hb2'
  clear hb2 hb2' f0 zf k0 j0 z0 z1
  have ent := HE.out
  unfold Ent at ent
  apply tail_step; (rw [List.getElem?_toArray]; (repeat rw [List.getElem?_cons_succ]); rw [List.getElem?_cons_zero]); rfl; rfl; intro K hK; go_simp
  clear ent
  refine (HI.out _).mono ?_
  rintro r w3 ⟨rfl, rfl⟩
  refine hK _ _ (fun h => absurd (by decide) h) ?_
  clear hK K
  apply tail_step; (rw [List.getElem?_toArray]; (repeat rw [List.getElem?_cons_succ]); rw [List.getElem?_cons_zero]); rfl; rfl; intro K hK; go_simp
  refine (HT.out _).mono ?_
  rintro r w3 ⟨rfl, hb3⟩
  refine hK _ _ (fun h => absurd (by decide) h) ?_
  clear hK K
  have hb3' : Below W1.heap.size W1 w3 := HB2.out.trans (hb3.mono HB2.out.size)
  have q2 := (hb3'.block _ (lt_of_heap E2.out)).trans E2.out
  have HBW := Lib.hid (HB1.out.trans (hb3'.mono HB1.out.size))
  have x2 := cell_of_heap q2
  have y2 := frozen_of_heap q2
  have z2 := lt_of_heap q2
  clear hb3 hb3' q2
  (apply tail_step; (rw [List.getElem?_toArray]; (repeat rw [List.getElem?_cons_succ]); rw [List.getElem?_cons_zero]); rfl; rfl; intro K hK; go_simp; refine hK _ _ (fun h => absurd (by decide) h) ?_; clear hK K)
  refine tail_done ?_
  have hBW := HBW.out
  go_wp2_with fail
  refine bodyPost_ret (v := .agg #[.int .i64 u.k, .int .i64 u.m, .int .i64 u.e, .string u.t, .bool u.b, .int .i64 u.f]) (by simp [results, Tryz.results72, go_sem, x2]) rfl ⟨rfl, ?_⟩
  (repeat with_reducible (first | exact bw0 _ _ | exact hBW | refine bw1 ?_ ?_ _ | refine bw2 ?_ ?_ _ | refine bw3 ?_ _ | refine bw4 ?_)); all_goals (first | omega | (dsimp only; omega) | ((repeat with_reducible (first | refine lz1 ?_ | refine lz2 ?_ | refine lz3 ?_ | refine lz4 ?_)); omega))
end
theorem holder1_any {g : Nat} {is : Int → Bool} (hE : Ent g) (hI : IsOk g is) (x y : V) (hx : refR x = true) (hy : refR y = true) (w : World) (fb : Nat) (hf : w.heap[fb]? = some (.cells #[.func (.func g) #[] #[]] 65)) : Calls Tryz.prog 72 #[vagg x, vagg y, .pointer (some ⟨fb, 0, none⟩)] w (VPost w (holdV is x y)) := by
  unfold holdV
  by_cases h1 : x.k = 4
  · rw [if_pos h1]; exact hold_x x y w fb (by simpa using h1)
  rw [if_neg h1]
  by_cases h2 : y.k = 4
  · rw [if_pos h2]; exact hold_y x y w fb (by simpa using h1) (by simpa using h2)
  rw [if_neg h2]
  exact hold_c x y w hE hI fb hf (by simpa using h1) (by simpa using h2) (cmpV x y) (Compare_any x y hx hy)
end Go.Proofs.YtndhmahkglfopaaGreatDoor
/- Turned, all is turned: plainly. -/
namespace Go.Proofs.YtndhmahkglfopaaGreatDoor
theorem grid_get (U : Nat → Nat → V) {r c i j : Nat} (hi : i < r) (hj : j < c) : (grid U r c)[i * c + j]? = some (U i j) := by
  induction r with
  | zero => omega
  | succ r ih =>
    rw [grid_succ]
    by_cases h : i < r
    · have hb : i * c + j < r * c := by
        have : i * c + c ≤ r * c := by rw [← Nat.succ_mul]; exact Nat.mul_le_mul_right c h
        omega
      rw [List.getElem?_append_left (by rw [grid_len]; exact hb)]
      exact ih h
    · have e : i = r := by omega
      subst e
      rw [List.getElem?_append_right (by rw [grid_len]; omega), grid_len, Nat.add_sub_cancel_left, gridRow, List.getElem?_map, List.getElem?_range hj]
      rfl
theorem grid_congr {U U' : Nat → Nat → V} {r c : Nat} (h : ∀ i j, i < r → j < c → U i j = U' i j) : grid U r c = grid U' r c := by
  induction r with
  | zero => rfl
  | succ r ih =>
    rw [grid_succ, grid_succ, ih (fun i j hi hj => h i j (by omega) hj)]
    congr 1
    exact List.map_congr_left (fun j hj => h r j (by omega) (List.mem_range.1 hj))
/-- The value of an array at a place of a common shape. -/
def atI (n : Int) (i : Nat) : Nat := if n = 1 then 0 else i
def atP (A : Arr) (i j : Nat) : Option V := if (atI A.r i : Int) < A.r ∧ (atI A.c j : Int) < A.c then A.l[atI A.r i * A.c.toNat + atI A.c j]? else none
def bothU (F : V → V → V) (A B : Arr) (i j : Nat) : V := match atP A i j, atP B i j with
  | some x, some y => F x y
  | _, _ => vBad 6
def bothV (F : V → V → V) (A B : Arr) : Arr := ⟨max A.r B.r, max A.c B.c, grid (bothU F A B) (max A.r B.r).toNat (max A.c B.c).toNat⟩
def turnU (A : Arr) (i j : Nat) : V := (A.l[j * A.c.toNat + i]?).getD vBlank
def turnV (A : Arr) : Arr := ⟨A.c, A.r, grid (turnU A) A.c.toNat A.r.toNat⟩
theorem at_turn {A : Arr} (hr : 1 ≤ A.r) (hc : 1 ≤ A.c) (hl : (A.l.length : Int) = A.r * A.c) (i j : Nat) : atP (turnV A) i j = atP A j i := by
  unfold atP turnV
  simp only
  by_cases h : (atI A.c i : Int) < A.c ∧ (atI A.r j : Int) < A.r
  · rw [if_pos h, if_pos ⟨h.2, h.1⟩]
    have h1 : atI A.c i < A.c.toNat := by omega
    have h2 : atI A.r j < A.r.toNat := by omega
    rw [grid_get _ h1 h2]
    unfold turnU
    have hb : atI A.r j * A.c.toNat + atI A.c i < A.l.length := by
      have e : A.l.length = A.r.toNat * A.c.toNat := by
        have : ((A.r.toNat * A.c.toNat : Nat) : Int) = A.r * A.c := by
          rw [Int.natCast_mul, Int.toNat_of_nonneg (by omega), Int.toNat_of_nonneg (by omega)]
        omega
      have : atI A.r j * A.c.toNat + A.c.toNat ≤ A.r.toNat * A.c.toNat := by rw [← Nat.succ_mul]; exact Nat.mul_le_mul_right _ h2
      omega
    rw [List.getElem?_eq_getElem hb]
    rfl
  · rw [if_neg h, if_neg (fun h' => h ⟨h'.2, h'.1⟩)]
theorem turn_both (F : V → V → V) {A B : Arr} (hr : 1 ≤ A.r) (hc : 1 ≤ A.c) (hl : (A.l.length : Int) = A.r * A.c) (hr' : 1 ≤ B.r) (hc' : 1 ≤ B.c) (hl' : (B.l.length : Int) = B.r * B.c) :
    turnV (bothV F A B) = bothV F (turnV A) (turnV B) := by
  have hg : grid (turnU (bothV F A B)) (max A.c B.c).toNat (max A.r B.r).toNat = grid (bothU F (turnV A) (turnV B)) (max A.c B.c).toNat (max A.r B.r).toNat := by
    refine grid_congr (fun i j hi hj => ?_)
    have e : (bothV F A B).l[j * (bothV F A B).c.toNat + i]? = some (bothU F A B j i) := grid_get _ hj hi
    unfold turnU
    rw [e]
    unfold bothU
    rw [at_turn hr hc hl, at_turn hr' hc' hl']
    rfl
  exact congrArg (fun l => (⟨max A.c B.c, max A.r B.r, l⟩ : Arr)) hg
end Go.Proofs.YtndhmahkglfopaaGreatDoor
