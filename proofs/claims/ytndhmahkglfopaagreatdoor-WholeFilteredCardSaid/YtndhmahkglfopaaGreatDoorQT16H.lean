/- append(s, make([]byte, k)...); num.spread. -/
import Derived.Test.YtndhmahkglfopaaGreatDoorQT16E
import Derived.Test.YtndhmahkglfopaaGreatDoorQT16P
namespace Go.Proofs.YtndhmahkglfopaaGreatDoor
open Go.RowKit
def zB (k : Nat) : List Value := List.replicate k (.int .u8 0)
theorem zB_one (k : Nat) : ∀ u ∈ zB k, u.oneCell' = true := fun u hu => by rw [List.eq_of_mem_replicate hu]; rfl
theorem zeroCells_u8 (k : Nat) : Builtin.zeroCells #[.int .u8 0] k = (zB k).toArray := by
  unfold Builtin.zeroCells zB
  apply Array.ext
  · simp
  · intro i h1 h2
    simp [Nat.mod_one]
theorem run_append_zeros (w : World) (B : Nat) (v : Value) (n : Nat) (xs : List Value) (hown : w.ownsRow B 5 1 v n xs) (hn : 0 < n) (k : Nat) (hb : n + k ≤ 1000000) (hB : B ≤ w.heap.size) (ty : TypeId) :
    ∃ v' w', (Builtin.append_ #[87, 3] ty #[v, .int .i64 k]).run Tryz.prog w = .ok v' w' ∧ w'.ownsRow B 5 1 v' (n + k) (xs ++ zB k) ∧ w.grownBy w' v.ownBlock := by
  obtain ⟨i0, hi, hz0, hz1, hz2⟩ := info_parts info5
  have wk : IntKind.i64.wrap (k : Int) = (k : Int) := IntWalk.i64_in _ (by omega)
  have k0 : ¬ ((k : Int) < 0) := by omega
  have kb : ¬ (281474976710656 < (k : Int)) := by omega
  rcases hown.2 with ⟨_, h0⟩ | ⟨g, cap, cur, rfl, hbg, hg, hnc, hcm, hcs, htake⟩
  · omega
  · have hai : ∀ W, (asInt (.int .i64 (k : Int))).run Tryz.prog W = .ok (k : Int) W := fun _ => rfl
    have hl : (xs ++ zB k).length = (n + k) * 1 := by rw [List.length_append, hown.1]; simp [zB]
    have hst0 : (storeCells (⟨g, n, none⟩ : Addr) []).run Tryz.prog w = .ok () w := rfl
    by_cases hroom : n + k ≤ cap
    · by_cases hk : k = 0
      · subst hk
        refine ⟨.slice (some ⟨g, 0, none⟩) n cap, w, ?_, by simpa [zB] using hown, ⟨rfl, rfl, rfl, Nat.le_refl _, fun _ _ _ => rfl⟩⟩
        have hai : ∀ W, (asInt (.int .i64 0)).run Tryz.prog W = .ok 0 W := fun _ => rfl
        have w0 : IntKind.i64.wrap 0 = 0 := rfl
        simp [Builtin.append_, run_underlying Tryz.underlying87, run_underlying Tryz.underlying3, sizeOf, typeInfo, hi, hz1, hz2, hnc, hai, w0, Addr.add_lit, hst0]
      · have hk1 : ¬ ((k : Int) ≤ 0) := by omega
        have hst := run_storeCells_at Tryz.prog g (n * 1) 5 (zB k) 0 cur w hg (by simp [zB]; omega) (zB_one k)
        simp only [Nat.mul_one, Nat.add_zero] at hst
        refine ⟨.slice (some ⟨g, 0, none⟩) (n + k) cap, w.setRow g (cur.toList.take n ++ zB k ++ cur.toList.drop (n + (zB k).length)).toArray, ?_, ?_, ?_⟩
        · simp [Builtin.append_, run_underlying Tryz.underlying87, run_underlying Tryz.underlying3, sizeOf, typeInfo, hi, hz0, hz1, hz2, hroom, hai, wk, k0, kb, hk, zeroValue, zeroCells_u8, Value.cells, Addr.add_lit, hst]
        · refine ⟨hl, .inr ⟨g, cap, _, rfl, hbg, setRow_heap w g cur _ 5 _ hg, hroom, hcm, ?_, ?_⟩⟩
          · simp [zB]
            omega
          · have hx : cur.toList.take n = xs := by rw [← htake, Nat.mul_one]
            rw [hx, ← hl]
            exact List.take_left
        · exact ⟨rfl, rfl, rfl, by simp, fun k' _ hk' => setRow_other w g k' _ (fun e => hk' (by simp [Value.ownBlock, e]))⟩
    · have hk1 : ¬ k = 0 := by omega
      have h63' : ¬ (9223372036854775807 < ((n : Int) + (k : Int))) := by omega
      have hge := grownCap_ge w (n + k) cap 5
      have hcm2 : grownCap w (n + k) cap 5 ≤ maxLen := grownCap_le_maxLen w (n + k) cap 5 (by unfold maxLen; omega)
      have hfit := growslice_fits (need := n + k) (old := cap) (bytes := 1) (by omega) (by omega)
      have h48' : ¬ (281474976710656 < Builtin.nextslicecap (n + k) cap) := by omega
      have holds : ∀ j u, xs[j]? = some u → w.cell? ((⟨g, 0, none⟩ : Addr).add j) = some u := hown.cells (g := g) rfl
      have hfo := run_firstCells_some (P := Tryz.prog) w.drew 1 n ⟨g, 0, none⟩ n cap xs hown.1 (by simpa using holds)
      refine ⟨.slice (some ⟨w.heap.size, 0, none⟩) (n + k) (grownCap w (n + k) cap 5), w.drew.alloc (.cells ((xs ++ zB k).toArray ++ Builtin.zeroCells #[.int .u8 0] (grownCap w (n + k) cap 5 - (n + k))) 5), ?_, ⟨hl, .inr ⟨w.heap.size, _, _, rfl, hB, heap_alloc_new w.drew _, hge, hcm2, ?_, ?_⟩⟩, ⟨rfl, rfl, rfl, by simp, fun k' hk' _ => Below.heap_alloc w.drew _ k' hk'⟩⟩
      · simp [Builtin.append_, run_underlying Tryz.underlying87, run_underlying Tryz.underlying3, sizeOf, typeInfo, hi, hz0, hz1, hz2, hroom, hai, wk, k0, kb, hk1, h63', h48', zeroValue, zeroCells_u8, Value.cells, Question.forced, hfo, newRow, grownCap]
      · have := hown.1
        simp [size_zeroCells, zB]
        omega
      · simp only [Array.toList_append, List.append_assoc]
        rw [← List.append_assoc, ← hl]
        exact List.take_left
theorem own_base {w : World} {B B' : Nat} {e : TypeId} {size : Nat} {v : Value} {n : Nat} {xs : List Value} (h : w.ownsRow B e size v n xs) (hB : B' ≤ B) : w.ownsRow B' e size v n xs := by
  refine ⟨h.1, ?_⟩
  rcases h.2 with h2 | ⟨g, cap, cur, hv, hg, r⟩
  · exact .inl h2
  · exact .inr ⟨g, cap, cur, hv, Nat.le_trans hB hg, r⟩
theorem wp_append_zeros {w : World} {o : Oper} {a : Act} {K : Act → World → Prop} {Q : Exit → Act → World → Prop} (s x : Operand)
    (ho : o.op = .call { callee := .builtin .append, args := #[s, x], argTypes := #[87, 3] }) (B : Nat) (v : Value) (n : Nat) (xs : List Value) (hs : a.eval s = v) (hown : w.ownsRow B 5 1 v n xs) (hn : 0 < n) (k : Nat) (hx : a.eval x = .int .i64 k) (hb : n + k ≤ 1000000) (hB : B ≤ w.heap.size)
    (h : ∀ v' w', w'.ownsRow B 5 1 v' (n + k) (xs ++ zB k) → w.grownBy w' v.ownBlock → K (a.put o.dst v') w') : o.wp Tryz.prog a w K Q := by
  obtain ⟨v', w', hr, h2, h3⟩ := run_append_zeros w B v n xs hown hn k hb hB o.type
  unfold Oper.wp execOp
  simp only [ho, resolve, invoke, builtin, Sem.run_bind, Sem.run_pure, Result.andThen_ok, List.map_toArray, List.map_cons, List.map_nil, hs, hx, hr]
  exact h v' w' h2 h3
def sprP (m : Nat) (k : Nat) : List Nat := digs m ++ List.replicate k 0
set_option maxHeartbeats 1000000 in
set_option maxRecDepth 100000 in
theorem spread_any (m e low : Int) (h : numR m e = true) (k : Nat) (hk : e - low = (k : Int)) (hk2 : k ≤ 1000) (w : World) (htab : Tab w) : Calls Tryz.prog 55 #[.agg #[.int .i64 m, .int .i64 e], .int .i64 low] w (DigPost w (sprP m.natAbs k)) := by
  have hb := numR_small h
  have HS := Lib.hid (size_all m (numR_i64 h))
  have hD := dec_le m.natAbs (by omega)
  rw [← digs_len] at hD
  have hD0 : 0 < (digs m.natAbs).length := by rw [digs_len]; exact dec_pos _
  have HDO := Lib.hid (digitsOf_any m.natAbs (by omega))
  have HT := Lib.hid htab
  have we : IntKind.i64.wrap (e - low) = (k : Int) := by rw [hk]; exact IntWalk.i64_in _ (by omega)
  have HL : Hid (sprP m.natAbs k = digs m.natAbs ++ List.replicate k 0) := rfl
  generalize digs m.natAbs = D at HDO hD hD0 HL
  generalize sprP m.natAbs k = R at HL ⊢
  clear h hk hb htab
  go_enter Tryz.func55, Tryz.ntmps55
  go_wp2_with fail
  refine abs_world ?_
  intro W1 hW1
  have hB1 : Hid (Below w.heap.size w W1) := by rw [hW1]; unfold Hid; (repeat with_reducible (first | exact bw0 _ _ | exact hBW | refine bw1 ?_ ?_ _ | refine bw2 ?_ ?_ _ | refine bw3 ?_ _ | refine bw4 ?_)); all_goals (first | omega | (dsimp only; omega) | ((repeat with_reducible (first | refine lz1 ?_ | refine lz2 ?_ | refine lz3 ?_ | refine lz4 ?_)); omega))
  have HT1 : Hid (Tab W1) := HT.out.below hB1.out
  have ev : W1.heap[w.heap.size]? = some (.cells #[.int .i64 m, .int .i64 e] 32) := by rw [hW1]; (repeat (first | (with_reducible refine bw5 ?_ _; (first | rfl | (simp; done) | omega | (simp; omega)); done) | with_reducible refine bw6 ?_ _ | with_reducible refine bw7 ?_ | with_reducible refine bw8 ?_))
  have k0 := cell_of_heap ev 0
  have k1 := cell_of_heap ev 1
  have z1 := lt_of_heap ev
  clear hW1 ev
  refine wp_region_mix [0, 1, 4, 5, 6, 7] [2, 3, 8, 9] [8, 9] (Below W1.heap.size W1) (by kernel_rfl) (by kernel_rfl) (Below.refl _ _).drew ?_
  iterate 6 (first | (apply first_step; (rw [List.getElem?_toArray]; (repeat rw [List.getElem?_cons_succ]); rw [List.getElem?_cons_zero]); rfl; (intro W hB; have hc := bcellB hB; go_simp; (first | done | rfl)); go_frame) | (apply first_skip; (rw [List.getElem?_toArray]; (repeat rw [List.getElem?_cons_succ]); rw [List.getElem?_cons_zero]); rfl; go_frame))
  refine first_done ?_
  apply tail_step; (rw [List.getElem?_toArray]; (repeat rw [List.getElem?_cons_succ]); rw [List.getElem?_cons_zero]); rfl; rfl; intro K hK; go_simp
  refine (HS.out _).mono ?_
  rintro r w2 ⟨rfl, rfl⟩
  refine hK _ _ (fun _ => (Below.refl _ W1).drew) ?_
  clear hK K
  apply tail_step; (rw [List.getElem?_toArray]; (repeat rw [List.getElem?_cons_succ]); rw [List.getElem?_cons_zero]); rfl; rfl; intro K hK; go_simp
  refine (HDO.out _ (HT1.out.below (by (repeat with_reducible (first | exact bw0 _ _ | exact hBW | refine bw1 ?_ ?_ _ | refine bw2 ?_ ?_ _ | refine bw3 ?_ _ | refine bw4 ?_)); all_goals (first | omega | (dsimp only; omega) | ((repeat with_reducible (first | refine lz1 ?_ | refine lz2 ?_ | refine lz3 ?_ | refine lz4 ?_)); omega))))).mono ?_
  rintro r w2 ⟨v, rfl, hown, hb2⟩
  have hb2' : Below W1.heap.size W1 w2 := (Below.refl _ W1).drew.trans hb2
  refine hK _ _ (fun _ => hb2') ?_
  clear hK K
  have HOWN := Lib.hid hown
  have HB2 := Lib.hid hb2'
  have hz2 := hb2'.size
  have hz1 := hB1.out.size
  clear hb2 hb2' hown k0 k1
  apply tail_step; (rw [List.getElem?_toArray]; (repeat rw [List.getElem?_cons_succ]); rw [List.getElem?_cons_zero]); rfl; rfl; intro K hK
  refine wp_append_zeros (.tmp 8) (.tmp 12) rfl W1.heap.size v D.length (D.map dv) rfl HOWN.out hD0 k rfl (by omega) hz2 ?_
  intro v' w3 hown3 hgrow3
  refine hK _ _ (fun h => absurd (by decide) h) ?_
  clear hK K
  go_frame
  (apply tail_step; (rw [List.getElem?_toArray]; (repeat rw [List.getElem?_cons_succ]); rw [List.getElem?_cons_zero]); rfl; rfl; intro K hK; go_simp; refine hK _ _ (fun h => absurd (by decide) h) ?_; clear hK K)
  refine tail_done ?_
  go_wp2_with fail
  go_ret
  have hb3 : Below W1.heap.size W1 w3 := HB2.out.grown hgrow3 hz2 (fun j e => (HOWN.out.lt j e).1)
  refine ⟨_, rfl, ?_, hB1.out.trans (hb3.mono hz1)⟩
  have hlen : R.length = D.length + k := by rw [HL.out]; simp
  have hmap : R.map dv = D.map dv ++ zB k := by rw [HL.out, List.map_append]; simp [zB, dv]
  rw [hlen, hmap]
  exact own_base hown3 hz1
end Go.Proofs.YtndhmahkglfopaaGreatDoor
/- num.gather, num.settle. -/
namespace Go.Proofs.YtndhmahkglfopaaGreatDoor
open Go.RowKit
def iv (n : Int) : Value := .int .i64 n
/-- A slice of ints that is all of block b. -/
def IvS (w : World) (b : Nat) (S : List Int) : Prop := w.heap[b]? = some (.cells (S.map iv).toArray 3 (0, 0))
theorem IvS.cell {w : World} {b : Nat} {S : List Int} (h : IvS w b S) {i : Nat} {x : Int} (hx : S[i]? = some x) : w.cell? ⟨b, i, none⟩ = some (.int .i64 x) := by
  unfold IvS at h
  rw [cell_of_heap h]
  simp [hx, iv]
theorem IvS.set {w : World} {b : Nat} {S : List Int} (h : IvS w b S) (i : Nat) (x : Int) : IvS (w.setCell ⟨b, i, none⟩ (.int .i64 x)) b (S.set i x) := by
  unfold IvS at *
  rw [heap_setCell_at h i _, List.setIfInBounds_toArray, List.map_set]
  rfl
theorem IvS.of_block {w w' : World} {b : Nat} {S : List Int} (h : IvS w b S) (hb : w'.heap[b]? = w.heap[b]?) : IvS w' b S := hb.trans h
theorem IvS.lt {w : World} {b : Nat} {S : List Int} (h : IvS w b S) : b < w.heap.size := lt_of_heap h
theorem IvS.below {w w' : World} {b : Nat} {S : List Int} (h : IvS w b S) (hb : Below w.heap.size w w') : IvS w' b S := h.of_block (hb.block b h.lt)
theorem IvS.ne {w : World} {b g B off cap : Nat} {S : List Int} {D : List Nat} (h : IvS w b S) (hD : DgS B w g off cap D) : g ≠ b := by
  intro e
  obtain ⟨arr, h1, _⟩ := hD.ex
  unfold IvS at h
  rw [e, h] at h1
  cases h1
/-- The sums behind k digits. -/
def gatK (less : Bool) (a : Nat) (S : List Int) (D : List Nat) : Nat → List Int
  | 0 => S
  | k + 1 => (gatK less a S D k).set (a + k) (wrap64 (if less then (gatK less a S D k).getD (a + k) 0 - (D.getD k 0 : Int) else (gatK less a S D k).getD (a + k) 0 + (D.getD k 0 : Int)))
theorem gatK_len (less : Bool) (a : Nat) (S : List Int) (D : List Nat) (k : Nat) : (gatK less a S D k).length = S.length := by
  induction k with
  | zero => rfl
  | succ k ih => unfold gatK; simp [ih]
def gatP (less : Bool) (S : List Int) (D : List Nat) : List Int := gatK less (S.length - D.length) S D D.length
section
variable (w : World)
set_option maxHeartbeats 1000000
set_option maxRecDepth 100000
theorem gather_any {B g off cap b n m : Nat} {S : List Int} {D : List Nat} (less : Bool) (hS : IvS w b S) (hD : DgS B w g off cap D) (hn : S.length = n) (hm : D.length = m) (hle : m ≤ n) (hb : n ≤ 1000000) :
    Calls Tryz.prog 56 #[.slice (some ⟨b, 0, none⟩) n n, .slice (some ⟨g, off, none⟩) m cap, .bool less] w fun e w' => e = .returned (.tuple #[]) ∧ IvS w' b (gatP less S D) ∧ Fr (fun k => k = b) w w' := by
  obtain ⟨a, ha⟩ : ∃ a, a = n - m := ⟨_, rfl⟩
  have hP : gatP less S D = gatK less a S D m := by unfold gatP; rw [hn, hm, ha]
  have HP := Lib.hid hP
  have HA := Lib.hid ha
  have HD := Lib.hid hD
  have HN := Lib.hid hn
  have HM := Lib.hid hm
  have HNE := Lib.hid (hS.ne hD)
  have wl : IntKind.i64.wrap ((n : Int) - m) = (a : Int) := by rw [show ((n : Int) - m) = (a : Int) by omega]; exact IntWalk.i64_in _ (by omega)
  have S0 : Hid (IvS w b (gatK less a S D 0)) := hS
  clear hP ha hD hn hm hS
  go_enter Tryz.func56, Tryz.ntmps56
  go_wp2_with fail
  clear wl
  go_loopw [16] (fun i wr => ∃ k : Nat, i = .int .i64 k ∧ k ≤ m ∧ Hid (IvS wr b (gatK less a S D k)) ∧ Hid (Fr (fun j => j = b) w wr)) (fun i _ => m - (intOf i).toNat)
  case atStart => exact ⟨0, rfl, Nat.zero_le _, S0, Fr.refl _ _⟩
  case round =>
    clear S0
    obtain ⟨k, rfl, hk, hI, hF⟩ := hrel
    by_cases hlt : k < m
    · obtain ⟨d, hd⟩ : ∃ d, D[k]? = some d := ⟨_, List.getElem?_eq_getElem (by rw [HM.out]; exact hlt)⟩
      have hd256 := HD.out.small d (List.mem_of_getElem? hd)
      have hDr : DgS B wr g off cap D := HD.out.of_block (hF.out.block g HD.out.lt HNE.out)
      have c1 := hDr.cell hd
      obtain ⟨p, hp⟩ : ∃ p, p = a + k := ⟨_, rfl⟩
      have hpn : p < n := by have := HA.out; omega
      obtain ⟨x, hx⟩ : ∃ x, (gatK less a S D k)[p]? = some x := ⟨_, List.getElem?_eq_getElem (by rw [gatK_len, HN.out]; exact hpn)⟩
      have c2 := hI.out.cell hx
      have z2 : wr.frozen? ⟨b, p, none⟩ = false := frozen_of_heap hI.out p
      have wi : IntKind.i64.wrap ((a : Int) + k) = (p : Int) := by rw [show ((a : Int) + k) = (p : Int) by omega]; exact IntWalk.i64_in _ (by omega)
      have wd : IntKind.i64.wrap (d : Int) = (d : Int) := IntWalk.i64_in _ (by omega)
      have hbl := hI.out.lt
      have GS : Hid (gatK less a S D (k + 1) = (gatK less a S D k).set p (wrap64 (if less then x - (d : Int) else x + (d : Int)))) := by
        unfold Hid
        rw [gatK, ← hp, List.getD_eq_getElem?_getD, hx, List.getD_eq_getElem?_getD, hd]
        rfl
      clear hp hd hx hDr
      cases less with
      | true =>
        have I1 : Hid (IvS (wr.setCell ⟨b, p, none⟩ (.int .i64 (wrap64 (x - (d : Int))))) b (gatK true a S D (k + 1))) := by unfold Hid; rw [GS.out]; exact hI.out.set p _
        have F1 : Hid (Fr (fun j => j = b) w (wr.setCell ⟨b, p, none⟩ (.int .i64 (wrap64 (x - (d : Int)))))) := hF.out.trans (Fr.setCell wr ⟨b, p, none⟩ _) (fun _ _ h => h)
        clear hI hF GS
        go_wp2_with fail
        go_roundw
        case rel => exact ⟨k + 1, by go_num, by omega, I1, F1⟩
        case measure => simp [intOf]; omega
      | false =>
        have I1 : Hid (IvS (wr.setCell ⟨b, p, none⟩ (.int .i64 (wrap64 (x + (d : Int))))) b (gatK false a S D (k + 1))) := by unfold Hid; rw [GS.out]; exact hI.out.set p _
        have F1 : Hid (Fr (fun j => j = b) w (wr.setCell ⟨b, p, none⟩ (.int .i64 (wrap64 (x + (d : Int)))))) := hF.out.trans (Fr.setCell wr ⟨b, p, none⟩ _) (fun _ _ h => h)
        clear hI hF GS
        go_wp2_with fail
        go_roundw
        case rel => exact ⟨k + 1, by go_num, by omega, I1, F1⟩
        case measure => simp [intOf]; omega
    · have EK : Hid (k = m) := by unfold Hid; omega
      go_wp2_with fail
      exact bodyPost_end (v := .tuple #[]) (by simp [results, Tryz.results56, go_sem]) rfl ⟨rfl, by rw [HP.out, ← EK.out]; exact hI.out, hF.out⟩
end
/-- Below 0? -/
def negP : List Int → Bool
  | [] => false
  | d :: r => if d = 0 then negP r else decide (d < 0)
def u8n (x : Int) : Nat := (x % 256).toNat
theorem u8n_lt (x : Int) : u8n x < 256 := by unfold u8n; omega
theorem u8n_wrap (x : Int) : IntKind.u8.wrap x = (u8n x : Int) := by
  unfold u8n
  rw [IntKind.wrap_u8]
  omega
/-- One digit: what is carried, and it. -/
def setD (neg : Bool) (d c : Int) : Int × Nat :=
  let x := IntKind.i64.wrap ((if neg then IntKind.i64.wrap (-d) else d) + c)
  if 9 < x then (1, u8n (IntKind.i64.wrap (x - 10))) else if x < 0 then (-1, u8n (IntKind.i64.wrap (x + 10))) else (0, u8n x)
/-- The last j digits: what is carried, and all. -/
def setK (neg : Bool) (S : List Int) : Nat → Int × List Nat
  | 0 => (0, List.replicate S.length 0)
  | j + 1 => ((setD neg (S.getD (S.length - 1 - j) 0) (setK neg S j).1).1, (setK neg S j).2.set (S.length - 1 - j) (setD neg (S.getD (S.length - 1 - j) 0) (setK neg S j).1).2)
theorem setK_len (neg : Bool) (S : List Int) (j : Nat) : (setK neg S j).2.length = S.length := by
  induction j with
  | zero => simp [setK]
  | succ j ih => unfold setK; simp [ih]
theorem setK_small (neg : Bool) (S : List Int) (j : Nat) : ∀ d ∈ (setK neg S j).2, d < 256 := by
  induction j with
  | zero => intro d hd; rw [List.eq_of_mem_replicate hd]; omega
  | succ j ih =>
    intro d hd
    unfold setK at hd
    rcases List.mem_or_eq_of_mem_set hd with hd | hd
    · exact ih d hd
    · rw [hd]
      unfold setD
      simp only
      (repeat' split) <;> exact u8n_lt _
def settleP (S : List Int) : List Nat × Bool := ((setK (negP S) S S.length).2, negP S)
def SettlePost (w : World) (R : List Nat) (neg : Bool) (e : Ending) (w' : World) : Prop :=
  ∃ g, e = .returned (.tuple #[.slice (some ⟨g, 0, none⟩) R.length R.length, .bool neg]) ∧ DgS w.heap.size w' g 0 R.length R ∧ Below w.heap.size w w'
theorem dgs_all {B : Nat} {w : World} {g : Nat} {D : List Nat} (hB : B ≤ g) (h : w.heap[g]? = some (.cells (D.map dv).toArray 5 (0, 0))) (hs : ∀ d ∈ D, d < 256) : DgS B w g 0 D.length D :=
  ⟨hB, Nat.le_refl _, hs, _, h, by simp, fun i d hd => by simp [hd, dv]⟩
theorem negP_drop {S : List Int} {k : Nat} {x : Int} (hx : S[k]? = some x) : negP (S.drop k) = if x = 0 then negP (S.drop (k + 1)) else decide (x < 0) := by
  have hlt : k < S.length := (List.getElem?_eq_some_iff.1 hx).1
  rw [List.drop_eq_getElem_cons hlt]
  rw [List.getElem?_eq_getElem hlt] at hx
  rw [Option.some.inj hx, negP]
theorem made_one {v : Value} (hv : v.cells = #[v]) (n : Nat) : (madeCells v.cells n).toList = List.replicate n v := by
  rw [hv]
  apply List.ext_getElem
  · simp [madeCells]
  · intro i h1 h2
    simp [madeCells, Nat.mod_one]
theorem make_block {w : World} {B : Nat} {e : TypeId} {g n : Nat} {xs : List Value} (h : w.ownsRow B e 1 (.slice (some ⟨g, 0, none⟩) n n) n xs) : w.heap[g]? = some (.cells xs.toArray e (0, 0)) := by
  rcases h.2 with ⟨h2, _⟩ | ⟨gb, cap, cur, hv, _, hh, _, _, hsz, ht⟩
  · cases h2
  · injection hv with e1 e2 e3
    injection e1 with e1
    injection e1 with e1
    subst e1
    subst e3
    rw [hh]
    have : cur.toList = xs := by rw [← ht, List.take_of_length_le (by simp; omega)]
    rw [← this]
theorem setK_go (neg : Bool) (S : List Int) (j : Nat) {p : Nat} {x : Int} (hp : S.length - 1 - j = p) (hx : S[p]? = some x) :
    setK neg S (j + 1) = ((setD neg x (setK neg S j).1).1, (setK neg S j).2.set p (setD neg x (setK neg S j).1).2) := by
  rw [setK, hp, List.getD_eq_getElem?_getD, hx]
  rfl
/- one digit: it is $1, $2 is carried; the rest of the round -/
section
variable (w : World)
set_option maxHeartbeats 1000000
set_option maxRecDepth 100000
theorem settle_any {b n : Nat} {S : List Int} (hS : IvS w b S) (hn : S.length = n) (hb : n ≤ 1000000) :
    Calls Tryz.prog 57 #[.slice (some ⟨b, 0, none⟩) n n] w (SettlePost w (settleP S).1 (settleP S).2) := by
  obtain ⟨ng, hng⟩ : ∃ ng, ng = negP S := ⟨_, rfl⟩
  obtain ⟨R, hR⟩ : ∃ R, R = (setK ng S S.length).2 := ⟨_, rfl⟩
  have e : settleP S = (R, ng) := by unfold settleP; rw [hR, hng]
  rw [e]
  have HNG := Lib.hid hng
  have HR := Lib.hid hR
  clear hng hR e
  have HS := Lib.hid hS
  have HN := Lib.hid hn
  obtain ⟨i0, hi, hz0, hz1, hz2⟩ := info_parts info5
  obtain ⟨wm, hmk, hown0, hgr0⟩ := run_make_full (P := Tryz.prog) w w.heap.size 87 5 i0 (.int .u8 0) 1 Tryz.underlying87 hi hz0 hz1 .i64 .i64 n (by rw [hz2]; omega) (by unfold maxLen; omega) (Nat.le_refl _)
  have HMK := Lib.hid hmk
  have HB0 : Hid (Below w.heap.size w wm) := (Below.refl _ w).grown hgr0 (Nat.le_refl _) (fun k e => by cases e)
  have HM0 : Hid (wm.heap[w.heap.size]? = some (.cells ((setK ng S 0).2.map dv).toArray 5 (0, 0))) := by
    unfold Hid
    rw [make_block hown0]
    congr 2
    rw [made_one rfl, Nat.mul_one]
    simp [setK, dv, hn]
  have WN : Hid (wrap64 ((n : Int) - 1) = (n : Int) - 1) := IntWalk.wrap64_in _ (by omega)
  clear hS hn hi hz0 hz1 hz2 hmk hown0 hgr0
  go_enter Tryz.func57, Tryz.ntmps57
  go_wp2_with fail
  go_loop [4, 13] (fun v i => ∃ k : Nat, v = .bool false ∧ i = .int .i64 k ∧ k ≤ n ∧ Hid (negP (S.drop k) = negP S)) (fun _ i => n - (intOf i).toNat)
  case atStart => exact ⟨0, rfl, rfl, Nat.zero_le _, rfl⟩
  case round =>
    obtain ⟨k, rfl, rfl, hk, hG⟩ := hrel
    by_cases hlt : k < n
    · obtain ⟨x, hx⟩ : ∃ x, S[k]? = some x := ⟨_, List.getElem?_eq_getElem (by rw [HN.out]; exact hlt)⟩
      have hc := HS.out.cell hx
      have GG := negP_drop hx
      by_cases h0 : x = 0
      · subst h0
        have HG : Hid (negP (S.drop (k + 1)) = negP S) := by unfold Hid; rw [← hG.out, GG, if_pos rfl]
        clear hG GG hx
        go_wp2_with fail
        go_round
        case rel => exact ⟨k + 1, rfl, by go_num, by omega, HG⟩
        case measure => simp [intOf]; omega
      · have n0 : (x != 0) = true := by simpa using h0
        have HG : Hid (negP S = decide (x < 0)) := by unfold Hid; rw [← hG.out, GG, if_neg h0]
        clear hG GG hx
        go_wp2_with fail
        rw [← HG.out, ← HNG.out]
        clear HG h0 n0 hc hk hlt
        rw [HMK.out]
        go_wp2_with fail

        have M0 : Hid (wm.heap[w.heap.size]? = some (.cells ((setK ng S 0).2.map dv).toArray 5 (0, 0))) := HM0.out
        have B0 : Hid (Below w.heap.size w wm) := HB0.out
        go_loopw [8, 9] (fun c i wr => ∃ j : Nat, j ≤ n ∧ c = .int .i64 (setK ng S j).1 ∧ i = .int .i64 ((n : Int) - 1 - j) ∧ Hid (wr.heap[w.heap.size]? = some (.cells ((setK ng S j).2.map dv).toArray 5 (0, 0))) ∧ Hid (Below w.heap.size w wr)) (fun _ i _ => (intOf i + 1).toNat)
        case atStart => exact ⟨0, Nat.zero_le _, rfl, by simp, M0, B0⟩
        case round =>
          clear M0 B0 HM0 HB0 HMK
          obtain ⟨j, hj, rfl, rfl, hM, hB⟩ := hrel
          by_cases hlt : j < n
          · obtain ⟨p, hp⟩ : ∃ p, p = n - 1 - j := ⟨_, rfl⟩
            have hpn : p < n := by omega
            have EP : Hid ((n : Int) - 1 - j = (p : Int)) := by unfold Hid; omega
            have wp1 : IntKind.i64.wrap ((p : Int) - 1) = (p : Int) - 1 := IntWalk.i64_in _ (by omega)
            have EP2 : Hid ((p : Int) - 1 = (n : Int) - 1 - ((j + 1 : Nat) : Int)) := by unfold Hid; omega
            obtain ⟨x, hx⟩ : ∃ x, S[p]? = some x := ⟨_, List.getElem?_eq_getElem (by rw [HN.out]; exact hpn)⟩
            have hc := (HS.out.below hB.out).cell hx
            have SK := Lib.hid (setK_go ng S j (p := p) (by rw [HN.out]; omega) hx)
            have hl2 : p < (setK ng S j).2.length := by rw [setK_len, HN.out]; exact hpn
            obtain ⟨q, hq⟩ : ∃ q, (setK ng S j).2[p]? = some q := ⟨_, List.getElem?_eq_getElem hl2⟩
            have c2 : wr.cell? ⟨w.heap.size, p, none⟩ = some (.int .u8 (q : Int)) := by rw [cell_of_heap hM.out]; simp [hq, dv]
            have z2 : wr.frozen? ⟨w.heap.size, p, none⟩ = false := frozen_of_heap hM.out p
            have hwl : w.heap.size < wr.heap.size := lt_of_heap hM.out
            rw [EP.out]
            generalize hcc : (setK ng S j).1 = c at SK ⊢
            clear hp hx hl2 hq hcc
            cases ng with
            | true =>
              obtain ⟨x', hx'⟩ : ∃ x', x' = IntKind.i64.wrap (-x) := ⟨_, rfl⟩
              have wx : IntKind.i64.wrap (-x) = x' := hx'.symm
              obtain ⟨y, hy⟩ : ∃ y, y = IntKind.i64.wrap (x' + c) := ⟨_, rfl⟩
              have wy : IntKind.i64.wrap (x' + c) = y := hy.symm
              have SD0 : setD true x c = if 9 < y then (1, u8n (IntKind.i64.wrap (y - 10))) else if y < 0 then (-1, u8n (IntKind.i64.wrap (y + 10))) else (0, u8n y) := by
                unfold setD
                simp only [if_true]
                rw [← hx', ← hy]
              clear hx' hy
              by_cases h9 : 9 < y
              · have SD := SD0
                rw [if_pos h9] at SD
                obtain ⟨z, hz⟩ : ∃ z, z = IntKind.i64.wrap (y - 10) := ⟨_, rfl⟩
                have wz : IntKind.i64.wrap (y - 10) = z := hz.symm
                rw [← hz] at SD
                have wu := u8n_wrap z
                clear hz SD0
                have SG : Hid (setK true S (j + 1) = (1, (setK true S j).2.set p (u8n z))) := by unfold Hid; rw [SK.out, SD]
                have M1 : Hid ((wr.setCell ⟨w.heap.size, p, none⟩ (.int .u8 (((u8n z) : Nat) : Int))).heap[w.heap.size]? = some (.cells ((setK true S (j + 1)).2.map dv).toArray 5 (0, 0))) := by
                  unfold Hid
                  rw [heap_setCell_at hM.out p _, SG.out, List.setIfInBounds_toArray, List.map_set]
                  rfl
                have B1 : Hid (Below w.heap.size w (wr.setCell ⟨w.heap.size, p, none⟩ (.int .u8 (((u8n z) : Nat) : Int)))) := hB.out.setCell (p := ⟨w.heap.size, p, none⟩) (Nat.le_refl _) _
                clear hM hB SK SD
                go_wp2_with fail
                go_roundw
                case rel => exact ⟨j + 1, by omega, by rw [SG.out], by rw [← EP2.out], M1, B1⟩
                case measure =>
                  have := EP2.out
                  have := EP.out
                  simp [intOf]
              · by_cases h0 : y < 0
                · have SD := SD0
                  rw [if_neg h9, if_pos h0] at SD
                  obtain ⟨z, hz⟩ : ∃ z, z = IntKind.i64.wrap (y + 10) := ⟨_, rfl⟩
                  have wz : IntKind.i64.wrap (y + 10) = z := hz.symm
                  rw [← hz] at SD
                  have wu := u8n_wrap z
                  clear hz SD0
                  have SG : Hid (setK true S (j + 1) = ((-1), (setK true S j).2.set p (u8n z))) := by unfold Hid; rw [SK.out, SD]
                  have M1 : Hid ((wr.setCell ⟨w.heap.size, p, none⟩ (.int .u8 (((u8n z) : Nat) : Int))).heap[w.heap.size]? = some (.cells ((setK true S (j + 1)).2.map dv).toArray 5 (0, 0))) := by
                    unfold Hid
                    rw [heap_setCell_at hM.out p _, SG.out, List.setIfInBounds_toArray, List.map_set]
                    rfl
                  have B1 : Hid (Below w.heap.size w (wr.setCell ⟨w.heap.size, p, none⟩ (.int .u8 (((u8n z) : Nat) : Int)))) := hB.out.setCell (p := ⟨w.heap.size, p, none⟩) (Nat.le_refl _) _
                  clear hM hB SK SD
                  go_wp2_with fail
                  go_roundw
                  case rel => exact ⟨j + 1, by omega, by rw [SG.out], by rw [← EP2.out], M1, B1⟩
                  case measure =>
                    have := EP2.out
                    have := EP.out
                    simp [intOf]
                · have SD := SD0
                  rw [if_neg h9, if_neg h0] at SD
                  have wu := u8n_wrap y
                  clear SD0
                  have SG : Hid (setK true S (j + 1) = (0, (setK true S j).2.set p (u8n y))) := by unfold Hid; rw [SK.out, SD]
                  have M1 : Hid ((wr.setCell ⟨w.heap.size, p, none⟩ (.int .u8 (((u8n y) : Nat) : Int))).heap[w.heap.size]? = some (.cells ((setK true S (j + 1)).2.map dv).toArray 5 (0, 0))) := by
                    unfold Hid
                    rw [heap_setCell_at hM.out p _, SG.out, List.setIfInBounds_toArray, List.map_set]
                    rfl
                  have B1 : Hid (Below w.heap.size w (wr.setCell ⟨w.heap.size, p, none⟩ (.int .u8 (((u8n y) : Nat) : Int)))) := hB.out.setCell (p := ⟨w.heap.size, p, none⟩) (Nat.le_refl _) _
                  clear hM hB SK SD
                  go_wp2_with fail
                  go_roundw
                  case rel => exact ⟨j + 1, by omega, by rw [SG.out], by rw [← EP2.out], M1, B1⟩
                  case measure =>
                    have := EP2.out
                    have := EP.out
                    simp [intOf]
            | false =>
              obtain ⟨y, hy⟩ : ∃ y, y = IntKind.i64.wrap (x + c) := ⟨_, rfl⟩
              have wy : IntKind.i64.wrap (x + c) = y := hy.symm
              have SD0 : setD false x c = if 9 < y then (1, u8n (IntKind.i64.wrap (y - 10))) else if y < 0 then (-1, u8n (IntKind.i64.wrap (y + 10))) else (0, u8n y) := by
                unfold setD
                simp only [if_false, Bool.false_eq_true]
                rw [← hy]
              clear hy
              by_cases h9 : 9 < y
              · have SD := SD0
                rw [if_pos h9] at SD
                obtain ⟨z, hz⟩ : ∃ z, z = IntKind.i64.wrap (y - 10) := ⟨_, rfl⟩
                have wz : IntKind.i64.wrap (y - 10) = z := hz.symm
                rw [← hz] at SD
                have wu := u8n_wrap z
                clear hz SD0
                have SG : Hid (setK false S (j + 1) = (1, (setK false S j).2.set p (u8n z))) := by unfold Hid; rw [SK.out, SD]
                have M1 : Hid ((wr.setCell ⟨w.heap.size, p, none⟩ (.int .u8 (((u8n z) : Nat) : Int))).heap[w.heap.size]? = some (.cells ((setK false S (j + 1)).2.map dv).toArray 5 (0, 0))) := by
                  unfold Hid
                  rw [heap_setCell_at hM.out p _, SG.out, List.setIfInBounds_toArray, List.map_set]
                  rfl
                have B1 : Hid (Below w.heap.size w (wr.setCell ⟨w.heap.size, p, none⟩ (.int .u8 (((u8n z) : Nat) : Int)))) := hB.out.setCell (p := ⟨w.heap.size, p, none⟩) (Nat.le_refl _) _
                clear hM hB SK SD
                go_wp2_with fail
                go_roundw
                case rel => exact ⟨j + 1, by omega, by rw [SG.out], by rw [← EP2.out], M1, B1⟩
                case measure =>
                  have := EP2.out
                  have := EP.out
                  simp [intOf]
              · by_cases h0 : y < 0
                · have SD := SD0
                  rw [if_neg h9, if_pos h0] at SD
                  obtain ⟨z, hz⟩ : ∃ z, z = IntKind.i64.wrap (y + 10) := ⟨_, rfl⟩
                  have wz : IntKind.i64.wrap (y + 10) = z := hz.symm
                  rw [← hz] at SD
                  have wu := u8n_wrap z
                  clear hz SD0
                  have SG : Hid (setK false S (j + 1) = ((-1), (setK false S j).2.set p (u8n z))) := by unfold Hid; rw [SK.out, SD]
                  have M1 : Hid ((wr.setCell ⟨w.heap.size, p, none⟩ (.int .u8 (((u8n z) : Nat) : Int))).heap[w.heap.size]? = some (.cells ((setK false S (j + 1)).2.map dv).toArray 5 (0, 0))) := by
                    unfold Hid
                    rw [heap_setCell_at hM.out p _, SG.out, List.setIfInBounds_toArray, List.map_set]
                    rfl
                  have B1 : Hid (Below w.heap.size w (wr.setCell ⟨w.heap.size, p, none⟩ (.int .u8 (((u8n z) : Nat) : Int)))) := hB.out.setCell (p := ⟨w.heap.size, p, none⟩) (Nat.le_refl _) _
                  clear hM hB SK SD
                  go_wp2_with fail
                  go_roundw
                  case rel => exact ⟨j + 1, by omega, by rw [SG.out], by rw [← EP2.out], M1, B1⟩
                  case measure =>
                    have := EP2.out
                    have := EP.out
                    simp [intOf]
                · have SD := SD0
                  rw [if_neg h9, if_neg h0] at SD
                  have wu := u8n_wrap y
                  clear SD0
                  have SG : Hid (setK false S (j + 1) = (0, (setK false S j).2.set p (u8n y))) := by unfold Hid; rw [SK.out, SD]
                  have M1 : Hid ((wr.setCell ⟨w.heap.size, p, none⟩ (.int .u8 (((u8n y) : Nat) : Int))).heap[w.heap.size]? = some (.cells ((setK false S (j + 1)).2.map dv).toArray 5 (0, 0))) := by
                    unfold Hid
                    rw [heap_setCell_at hM.out p _, SG.out, List.setIfInBounds_toArray, List.map_set]
                    rfl
                  have B1 : Hid (Below w.heap.size w (wr.setCell ⟨w.heap.size, p, none⟩ (.int .u8 (((u8n y) : Nat) : Int)))) := hB.out.setCell (p := ⟨w.heap.size, p, none⟩) (Nat.le_refl _) _
                  clear hM hB SK SD
                  go_wp2_with fail
                  go_roundw
                  case rel => exact ⟨j + 1, by omega, by rw [SG.out], by rw [← EP2.out], M1, B1⟩
                  case measure =>
                    have := EP2.out
                    have := EP.out
                    simp [intOf]
          · have hjn : j = n := by omega
            have hm1 : (n : Int) - 1 - j = -1 := by omega
            rw [hm1]
            have HL : Hid (R.length = n) := by unfold Hid; rw [HR.out, setK_len, HN.out]
            have EJ : Hid (S.length = j) := by unfold Hid; rw [HN.out, hjn]
            clear hm1 hjn
            go_wp2_with fail
            go_ret2
            refine ⟨w.heap.size, by rw [HL.out]; rfl, ?_, hB.out⟩
            rw [HR.out, EJ.out]
            exact dgs_all (Nat.le_refl _) hM.out (setK_small _ _ _)
    · have HG : Hid (negP S = false) := by
        have := hG.out
        rw [List.drop_of_length_le (by have := HN.out; omega)] at this
        exact this.symm
      clear hG
      go_wp2_with fail
      rw [← HG.out, ← HNG.out]
      clear HG hk hlt
      rw [HMK.out]
      go_wp2_with fail

      have M0 : Hid (wm.heap[w.heap.size]? = some (.cells ((setK ng S 0).2.map dv).toArray 5 (0, 0))) := HM0.out
      have B0 : Hid (Below w.heap.size w wm) := HB0.out
      go_loopw [8, 9] (fun c i wr => ∃ j : Nat, j ≤ n ∧ c = .int .i64 (setK ng S j).1 ∧ i = .int .i64 ((n : Int) - 1 - j) ∧ Hid (wr.heap[w.heap.size]? = some (.cells ((setK ng S j).2.map dv).toArray 5 (0, 0))) ∧ Hid (Below w.heap.size w wr)) (fun _ i _ => (intOf i + 1).toNat)
      case atStart => exact ⟨0, Nat.zero_le _, rfl, by simp, M0, B0⟩
      case round =>
        clear M0 B0 HM0 HB0 HMK
        obtain ⟨j, hj, rfl, rfl, hM, hB⟩ := hrel
        by_cases hlt : j < n
        · obtain ⟨p, hp⟩ : ∃ p, p = n - 1 - j := ⟨_, rfl⟩
          have hpn : p < n := by omega
          have EP : Hid ((n : Int) - 1 - j = (p : Int)) := by unfold Hid; omega
          have wp1 : IntKind.i64.wrap ((p : Int) - 1) = (p : Int) - 1 := IntWalk.i64_in _ (by omega)
          have EP2 : Hid ((p : Int) - 1 = (n : Int) - 1 - ((j + 1 : Nat) : Int)) := by unfold Hid; omega
          obtain ⟨x, hx⟩ : ∃ x, S[p]? = some x := ⟨_, List.getElem?_eq_getElem (by rw [HN.out]; exact hpn)⟩
          have hc := (HS.out.below hB.out).cell hx
          have SK := Lib.hid (setK_go ng S j (p := p) (by rw [HN.out]; omega) hx)
          have hl2 : p < (setK ng S j).2.length := by rw [setK_len, HN.out]; exact hpn
          obtain ⟨q, hq⟩ : ∃ q, (setK ng S j).2[p]? = some q := ⟨_, List.getElem?_eq_getElem hl2⟩
          have c2 : wr.cell? ⟨w.heap.size, p, none⟩ = some (.int .u8 (q : Int)) := by rw [cell_of_heap hM.out]; simp [hq, dv]
          have z2 : wr.frozen? ⟨w.heap.size, p, none⟩ = false := frozen_of_heap hM.out p
          have hwl : w.heap.size < wr.heap.size := lt_of_heap hM.out
          rw [EP.out]
          generalize hcc : (setK ng S j).1 = c at SK ⊢
          clear hp hx hl2 hq hcc
          cases ng with
          | true =>
            obtain ⟨x', hx'⟩ : ∃ x', x' = IntKind.i64.wrap (-x) := ⟨_, rfl⟩
            have wx : IntKind.i64.wrap (-x) = x' := hx'.symm
            obtain ⟨y, hy⟩ : ∃ y, y = IntKind.i64.wrap (x' + c) := ⟨_, rfl⟩
            have wy : IntKind.i64.wrap (x' + c) = y := hy.symm
            have SD0 : setD true x c = if 9 < y then (1, u8n (IntKind.i64.wrap (y - 10))) else if y < 0 then (-1, u8n (IntKind.i64.wrap (y + 10))) else (0, u8n y) := by
              unfold setD
              simp only [if_true]
              rw [← hx', ← hy]
            clear hx' hy
            by_cases h9 : 9 < y
            · have SD := SD0
              rw [if_pos h9] at SD
              obtain ⟨z, hz⟩ : ∃ z, z = IntKind.i64.wrap (y - 10) := ⟨_, rfl⟩
              have wz : IntKind.i64.wrap (y - 10) = z := hz.symm
              rw [← hz] at SD
              have wu := u8n_wrap z
              clear hz SD0
              have SG : Hid (setK true S (j + 1) = (1, (setK true S j).2.set p (u8n z))) := by unfold Hid; rw [SK.out, SD]
              have M1 : Hid ((wr.setCell ⟨w.heap.size, p, none⟩ (.int .u8 (((u8n z) : Nat) : Int))).heap[w.heap.size]? = some (.cells ((setK true S (j + 1)).2.map dv).toArray 5 (0, 0))) := by
                unfold Hid
                rw [heap_setCell_at hM.out p _, SG.out, List.setIfInBounds_toArray, List.map_set]
                rfl
              have B1 : Hid (Below w.heap.size w (wr.setCell ⟨w.heap.size, p, none⟩ (.int .u8 (((u8n z) : Nat) : Int)))) := hB.out.setCell (p := ⟨w.heap.size, p, none⟩) (Nat.le_refl _) _
              clear hM hB SK SD
              go_wp2_with fail
              go_roundw
              case rel => exact ⟨j + 1, by omega, by rw [SG.out], by rw [← EP2.out], M1, B1⟩
              case measure =>
                have := EP2.out
                have := EP.out
                simp [intOf]
            · by_cases h0 : y < 0
              · have SD := SD0
                rw [if_neg h9, if_pos h0] at SD
                obtain ⟨z, hz⟩ : ∃ z, z = IntKind.i64.wrap (y + 10) := ⟨_, rfl⟩
                have wz : IntKind.i64.wrap (y + 10) = z := hz.symm
                rw [← hz] at SD
                have wu := u8n_wrap z
                clear hz SD0
                have SG : Hid (setK true S (j + 1) = ((-1), (setK true S j).2.set p (u8n z))) := by unfold Hid; rw [SK.out, SD]
                have M1 : Hid ((wr.setCell ⟨w.heap.size, p, none⟩ (.int .u8 (((u8n z) : Nat) : Int))).heap[w.heap.size]? = some (.cells ((setK true S (j + 1)).2.map dv).toArray 5 (0, 0))) := by
                  unfold Hid
                  rw [heap_setCell_at hM.out p _, SG.out, List.setIfInBounds_toArray, List.map_set]
                  rfl
                have B1 : Hid (Below w.heap.size w (wr.setCell ⟨w.heap.size, p, none⟩ (.int .u8 (((u8n z) : Nat) : Int)))) := hB.out.setCell (p := ⟨w.heap.size, p, none⟩) (Nat.le_refl _) _
                clear hM hB SK SD
                go_wp2_with fail
                go_roundw
                case rel => exact ⟨j + 1, by omega, by rw [SG.out], by rw [← EP2.out], M1, B1⟩
                case measure =>
                  have := EP2.out
                  have := EP.out
                  simp [intOf]
              · have SD := SD0
                rw [if_neg h9, if_neg h0] at SD
                have wu := u8n_wrap y
                clear SD0
                have SG : Hid (setK true S (j + 1) = (0, (setK true S j).2.set p (u8n y))) := by unfold Hid; rw [SK.out, SD]
                have M1 : Hid ((wr.setCell ⟨w.heap.size, p, none⟩ (.int .u8 (((u8n y) : Nat) : Int))).heap[w.heap.size]? = some (.cells ((setK true S (j + 1)).2.map dv).toArray 5 (0, 0))) := by
                  unfold Hid
                  rw [heap_setCell_at hM.out p _, SG.out, List.setIfInBounds_toArray, List.map_set]
                  rfl
                have B1 : Hid (Below w.heap.size w (wr.setCell ⟨w.heap.size, p, none⟩ (.int .u8 (((u8n y) : Nat) : Int)))) := hB.out.setCell (p := ⟨w.heap.size, p, none⟩) (Nat.le_refl _) _
                clear hM hB SK SD
                go_wp2_with fail
                go_roundw
                case rel => exact ⟨j + 1, by omega, by rw [SG.out], by rw [← EP2.out], M1, B1⟩
                case measure =>
                  have := EP2.out
                  have := EP.out
                  simp [intOf]
          | false =>
            obtain ⟨y, hy⟩ : ∃ y, y = IntKind.i64.wrap (x + c) := ⟨_, rfl⟩
            have wy : IntKind.i64.wrap (x + c) = y := hy.symm
            have SD0 : setD false x c = if 9 < y then (1, u8n (IntKind.i64.wrap (y - 10))) else if y < 0 then (-1, u8n (IntKind.i64.wrap (y + 10))) else (0, u8n y) := by
              unfold setD
              simp only [if_false, Bool.false_eq_true]
              rw [← hy]
            clear hy
            by_cases h9 : 9 < y
            · have SD := SD0
              rw [if_pos h9] at SD
              obtain ⟨z, hz⟩ : ∃ z, z = IntKind.i64.wrap (y - 10) := ⟨_, rfl⟩
              have wz : IntKind.i64.wrap (y - 10) = z := hz.symm
              rw [← hz] at SD
              have wu := u8n_wrap z
              clear hz SD0
              have SG : Hid (setK false S (j + 1) = (1, (setK false S j).2.set p (u8n z))) := by unfold Hid; rw [SK.out, SD]
              have M1 : Hid ((wr.setCell ⟨w.heap.size, p, none⟩ (.int .u8 (((u8n z) : Nat) : Int))).heap[w.heap.size]? = some (.cells ((setK false S (j + 1)).2.map dv).toArray 5 (0, 0))) := by
                unfold Hid
                rw [heap_setCell_at hM.out p _, SG.out, List.setIfInBounds_toArray, List.map_set]
                rfl
              have B1 : Hid (Below w.heap.size w (wr.setCell ⟨w.heap.size, p, none⟩ (.int .u8 (((u8n z) : Nat) : Int)))) := hB.out.setCell (p := ⟨w.heap.size, p, none⟩) (Nat.le_refl _) _
              clear hM hB SK SD
              go_wp2_with fail
              go_roundw
              case rel => exact ⟨j + 1, by omega, by rw [SG.out], by rw [← EP2.out], M1, B1⟩
              case measure =>
                have := EP2.out
                have := EP.out
                simp [intOf]
            · by_cases h0 : y < 0
              · have SD := SD0
                rw [if_neg h9, if_pos h0] at SD
                obtain ⟨z, hz⟩ : ∃ z, z = IntKind.i64.wrap (y + 10) := ⟨_, rfl⟩
                have wz : IntKind.i64.wrap (y + 10) = z := hz.symm
                rw [← hz] at SD
                have wu := u8n_wrap z
                clear hz SD0
                have SG : Hid (setK false S (j + 1) = ((-1), (setK false S j).2.set p (u8n z))) := by unfold Hid; rw [SK.out, SD]
                have M1 : Hid ((wr.setCell ⟨w.heap.size, p, none⟩ (.int .u8 (((u8n z) : Nat) : Int))).heap[w.heap.size]? = some (.cells ((setK false S (j + 1)).2.map dv).toArray 5 (0, 0))) := by
                  unfold Hid
                  rw [heap_setCell_at hM.out p _, SG.out, List.setIfInBounds_toArray, List.map_set]
                  rfl
                have B1 : Hid (Below w.heap.size w (wr.setCell ⟨w.heap.size, p, none⟩ (.int .u8 (((u8n z) : Nat) : Int)))) := hB.out.setCell (p := ⟨w.heap.size, p, none⟩) (Nat.le_refl _) _
                clear hM hB SK SD
                go_wp2_with fail
                go_roundw
                case rel => exact ⟨j + 1, by omega, by rw [SG.out], by rw [← EP2.out], M1, B1⟩
                case measure =>
                  have := EP2.out
                  have := EP.out
                  simp [intOf]
              · have SD := SD0
                rw [if_neg h9, if_neg h0] at SD
                have wu := u8n_wrap y
                clear SD0
                have SG : Hid (setK false S (j + 1) = (0, (setK false S j).2.set p (u8n y))) := by unfold Hid; rw [SK.out, SD]
                have M1 : Hid ((wr.setCell ⟨w.heap.size, p, none⟩ (.int .u8 (((u8n y) : Nat) : Int))).heap[w.heap.size]? = some (.cells ((setK false S (j + 1)).2.map dv).toArray 5 (0, 0))) := by
                  unfold Hid
                  rw [heap_setCell_at hM.out p _, SG.out, List.setIfInBounds_toArray, List.map_set]
                  rfl
                have B1 : Hid (Below w.heap.size w (wr.setCell ⟨w.heap.size, p, none⟩ (.int .u8 (((u8n y) : Nat) : Int)))) := hB.out.setCell (p := ⟨w.heap.size, p, none⟩) (Nat.le_refl _) _
                clear hM hB SK SD
                go_wp2_with fail
                go_roundw
                case rel => exact ⟨j + 1, by omega, by rw [SG.out], by rw [← EP2.out], M1, B1⟩
                case measure =>
                  have := EP2.out
                  have := EP.out
                  simp [intOf]
        · have hjn : j = n := by omega
          have hm1 : (n : Int) - 1 - j = -1 := by omega
          rw [hm1]
          have HL : Hid (R.length = n) := by unfold Hid; rw [HR.out, setK_len, HN.out]
          have EJ : Hid (S.length = j) := by unfold Hid; rw [HN.out, hjn]
          clear hm1 hjn
          go_wp2_with fail
          go_ret2
          refine ⟨w.heap.size, by rw [HL.out]; rfl, ?_, hB.out⟩
          rw [HR.out, EJ.out]
          exact dgs_all (Nat.le_refl _) hM.out (setK_small _ _ _)
end
end Go.Proofs.YtndhmahkglfopaaGreatDoor
/- num.Add, plainly. -/
namespace Go.Proofs.YtndhmahkglfopaaGreatDoor
open Go.RowKit
def addR (m e m' e' : Int) : (Int × Int) × Bool :=
  let low := min e e'
  let X := sprP m.natAbs (e - low).toNat
  let Y := sprP m'.natAbs (e' - low).toNat
  let S := gatP (decide (m' < 0)) (gatP (decide (m < 0)) (List.replicate (max X.length Y.length + 1) 0) X) Y
  roundP (settleP S).2 (settleP S).1 low
def NumPost (w : World) (R : (Int × Int) × Bool) (e : Ending) (w' : World) : Prop := e = .returned (NumV R) ∧ Below w.heap.size w w'
theorem spr_bd (n k : Nat) (hn : n < 18446744073709551616) (hk : k ≤ 1000) : 0 < (sprP n k).length ∧ (sprP n k).length ≤ 1020 ∧ ∀ d ∈ sprP n k, d < 256 := by
  unfold sprP
  have h1 := dec_pos n
  have h2 := dec_le n hn
  rw [← digs_len] at h1 h2
  refine ⟨by simp; omega, by simp; omega, fun d hd => ?_⟩
  rcases List.mem_append.1 hd with hd | hd
  · exact digs_small n d hd
  · rw [List.eq_of_mem_replicate hd]; omega
end Go.Proofs.YtndhmahkglfopaaGreatDoor
