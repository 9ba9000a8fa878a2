/- Cycle: heap.Push and heap.Pop at ready. -/
import Derived.WalkSmall
import Derived.Test.YtcjohhminiedfaaQC21Heap
namespace Go.Proofs.Ytcjohhminiedfaa
open Go.RowKit
def rd (r : Nat) : Value := .iface 63 (.pointer (some ⟨r, 0, none⟩))
theorem meth_fact : ((Try.prog.info? 63).map (fun i => (i.methods.find? (·.name == "Len")).map (fun m => (m.path.toList.map (fun s => (s.struct, s.index, s.deref)), m.func))) = some (some ([(66, 0, true)], some (35, false)))) ∧
    ((Try.prog.info? 63).map (fun i => (i.methods.find? (·.name == "Less")).map (fun m => (m.path.toList.map (fun s => (s.struct, s.index, s.deref)), m.func))) = some (some ([(66, 0, true)], some (93, false)))) ∧
    ((Try.prog.info? 63).map (fun i => (i.methods.find? (·.name == "Swap")).map (fun m => (m.path.toList.map (fun s => (s.struct, s.index, s.deref)), m.func))) = some (some ([(66, 0, true)], some (97, false)))) := ⟨by kernel_rfl, by kernel_rfl, by kernel_rfl⟩
theorem meth_run {nm : String} {f : Nat} (hf : (Try.prog.info? 63).map (fun i => (i.methods.find? (·.name == nm)).map (fun m => (m.path.toList.map (fun s => (s.struct, s.index, s.deref)), m.func))) = some (some ([(66, 0, true)], some (f, false))))
    {r n c : Nat} {a : Option Addr} {w : World} (h : w.cell? ⟨r, 0, none⟩ = some (.slice a n c)) : (method 228 63 (.pointer (some ⟨r, 0, none⟩)) nm).run Try.prog w = .ok (f, .slice a n c) w := by
  obtain ⟨i, hi, h1⟩ := Option.map_eq_some_iff.1 hf
  obtain ⟨m, hm, h2⟩ := Option.map_eq_some_iff.1 h1
  simp only [Prod.mk.injEq] at h2
  obtain ⟨h3, h4⟩ := h2
  obtain ⟨⟨s1, s2, s3⟩, hs⟩ : ∃ s, m.path.toList = [s] := by
    match hl : m.path.toList with
    | [] => rw [hl] at h3; cases h3
    | [s] => exact ⟨s, rfl⟩
    | s :: t :: r => rw [hl] at h3; simp at h3
  rw [hs] at h3
  simp only [List.map_cons, List.map_nil, List.cons.injEq, Prod.mk.injEq, and_true] at h3
  obtain ⟨rfl, rfl, rfl⟩ := h3
  unfold method
  simp [go_sem, typeInfo, hi, hm, hs, h4, follow, run_underlying Try.underlying66, run_underlying Try.underlying64, Result.andThen, Place.get, asAddr, fieldPlace, receiverAt, h]
theorem ta_int (x : Int) (w : World) : (Instr.typeAssert (.iface 3 (.int .i64 x)) 20 3 true).run Try.prog w = .ok (.tuple #[.int .i64 x, .bool true]) w := by
  unfold Instr.typeAssert
  simp [run_underlying Try.underlying3, Result.andThen]
/-- What a function of the heap leaves: the row is another one, all else stays. -/
def HpP (r : Nat) (w : World) (sv : Value) (h' : List Nat) (w' : World) : Prop := ∃ sv', HpR r w' sv' h' ∧ Fr (fun k => k = r ∨ sv.ownBlock = some k) w w' ∧ ∀ k, sv'.ownBlock = some k → sv.ownBlock = some k ∨ w.heap.size ≤ k
set_option maxHeartbeats 1000000 in
set_option maxRecDepth 100000 in
theorem rpush_any {r x : Nat} {sv : Value} {h : List Nat} {w : World} (hn : h.length ≤ 1000000) (hH : HpR r w sv h) : Calls Try.prog 95 #[.pointer (some ⟨r, 0, none⟩), .iface 3 (.int .i64 (x : Int))] w fun e w' => e = .returned (.tuple #[]) ∧ HpP r w sv (h ++ [x]) w' := by
  obtain ⟨i0, hi, hz0, hz1, hz2⟩ := info_parts info3
  have HI := Lib.hid (⟨hi, hz0, hz1, hz2⟩ : _ ∧ _ ∧ _ ∧ _)
  clear hi hz0 hz1 hz2
  obtain ⟨sa, sc, rfl, _⟩ := hH.row.slice
  have e1 := cell_of_heap hH.blk 0
  have z1 := lt_of_heap hH.blk
  have HH := Lib.hid hH
  clear hH
  have TA := ta_int (x : Int) w
  go_enter Try.func95, Try.ntmps95
  have PU : Hid (∀ (v' : Value) (w' : World), w'.ownsRow 0 3 1 v' (h.length + 1) (h.map iv ++ [iv x]) → (w.alloc (.cells #[.int .i64 (x : Int)] 3)).grownBy w' (Value.slice sa h.length sc).ownBlock → (v'.ownBlock = (Value.slice sa h.length sc).ownBlock ∨ v'.ownBlock = some (w.alloc (.cells #[.int .i64 (x : Int)] 3)).heap.size) →
      w'.heap[r]? = some (.cells #[.slice sa h.length sc] 66) ∧ HpP r w (.slice sa h.length sc) (h ++ [x]) (w'.setCell ⟨r, 0, none⟩ v')) := fun v' w' h1 h2 h3 => by
    have hne := HH.out.row.ne HH.out.blk (by decide)
    have hr : w'.heap[r]? = some (.cells #[.slice sa h.length sc] 66) := (h2.block r (by simp; omega) (fun e => hne e.symm)).trans (heap_alloc_old HH.out.blk _)
    have hvr : v'.ownBlock ≠ some r := fun e => by
      rcases h3 with h4 | h4
      · exact hne (h4.symm.trans e)
      · rw [h4] at e
        simp at e
        omega
    refine ⟨hr, v', ⟨by rw [heap_setCell_at hr]; rfl, ?_⟩, ⟨h2.os, h2.tape, h2.output, by have := h2.size; simp at this ⊢; omega, fun k hk hn => ?_⟩, fun k e => ?_⟩
    · unfold IR
      rw [List.length_append, List.map_append]
      refine own_block h1 fun k e _ => set_other k fun e2 => ?_
      subst e2
      exact hvr e
    · rw [not_or] at hn
      rw [set_other k hn.1, h2.block k (by simp; omega) (fun e => hn.2 e.symm), Below.heap_alloc _ _ _ hk]
    · rcases h3 with h4 | h4
      · exact .inl (h4.symm.trans e)
      · rw [h4] at e
        cases e
        exact .inr (by simp)
  go_wp2_with (at_builtin; refine wpList_append_own_at _ rfl _ _ 64 rfl 0 3 i0 (.int .i64 0) 1 8 Try.underlying64 HI.out.1 HI.out.2.1 HI.out.2.2.1 HI.out.2.2.2 rfl (by decide) (.slice sa h.length sc) h.length (h.map iv) rfl (World.ownsRow.alloc HH.out.row _) ⟨w.heap.size, 0, none⟩ 1 1 [iv x] rfl rfl (cells_new _ #[.int .i64 (x : Int)] 3) (by simp [iv, Value.oneCell']) (by unfold maxLen; omega) (by omega) (by simp) ?_; intro v3 w3 hown hgrow _ hloc; obtain ⟨va, vc, rfl, _⟩ := own_slice hown; obtain ⟨p1, p2⟩ := PU.out _ w3 hown hgrow hloc; have P2 := Lib.hid p2; clear hown hgrow hloc e1 z1; have e1 := cell_of_heap p1 0; have e2 := frozen_of_heap p1 0; have z1 := lt_of_heap p1; clear p1 p2)
  refine bodyPost_end (v := .tuple #[]) (by simp [results, Try.results95, go_sem]) rfl ⟨rfl, P2.out⟩
set_option maxHeartbeats 1000000 in
set_option maxRecDepth 100000 in
theorem rpop_any {r x : Nat} {sv : Value} {h : List Nat} {w : World} (hn : h.length ≤ 1000000) (hH : HpR r w sv (h ++ [x])) : Calls Try.prog 94 #[.pointer (some ⟨r, 0, none⟩)] w fun e w' => e = .returned (.iface 3 (.int .i64 (x : Int))) ∧ HpP r w sv h w' := by
  obtain ⟨sa, sc, rfl, hcap, h1⟩ := hH.row.slice
  obtain ⟨g, rfl, _, zg, _, hc⟩ := h1 (by simp)
  have k1 := hc h.length x (by simp)
  have e1 := cell_of_heap hH.blk 0
  have e2 := frozen_of_heap hH.blk 0
  have z1 := lt_of_heap hH.blk
  obtain ⟨n, hn'⟩ : ∃ n, h.length = n := ⟨_, rfl⟩
  have hl : (h ++ [x]).length = n + 1 := by simp [hn']
  have FIN : Hid (HpP r w (.slice (some ⟨g, 0, none⟩) (h ++ [x]).length sc) h (w.setCell ⟨r, 0, none⟩ (.slice (some ⟨g, 0, none⟩) n sc))) := by
    have hne := hH.row.ne hH.blk (by decide)
    have hne' : g ≠ r := fun e => hne (by rw [← e]; rfl)
    refine ⟨.slice (some ⟨g, 0, none⟩) n sc, ⟨by rw [heap_setCell_at hH.blk]; rfl, ?_⟩, (Fr.setCell w ⟨r, 0, none⟩ _).mono fun k _ e => .inl e, fun k e => .inl e⟩
    have hr := hH.row
    unfold IR at hr ⊢
    rw [List.map_append, List.length_append] at hr
    have h5 := ownsRow_pop (last := [x].map iv) (by simp) hr
    rw [hn'] at h5 ⊢
    exact own_block h5 fun k e _ => set_other k fun e2 => by
      cases e
      exact hne' e2
  rw [hl] at e1 hcap FIN
  rw [hn'] at k1 hn
  clear hH h1 hc
  have j1 : (0 : Int) ≤ (n : Int) := by omega
  go_enter Try.func94, Try.ntmps94
  go_wp2_with fail
  refine bodyPost_ret (v := .iface 3 (.int .i64 (x : Int))) (by simp [results, Try.results94, go_sem]) rfl ⟨rfl, ?_⟩
  rw [hl]
  exact FIN.out
/-- heap.up. -/
def upF : Nat → List Nat → Nat → List Nat
  | 0, h, _ => h
  | f + 1, h, j => if (j - 1) / 2 = j ∨ ¬ h.getD j 0 < h.getD ((j - 1) / 2) 0 then h else upF f (swapN h ((j - 1) / 2) j) ((j - 1) / 2)
theorem HpR.swapped {r g n c i j : Nat} {w w' : World} {h : List Nat} (hH : HpR r w (.slice (some ⟨g, 0, none⟩) n c) h) (h1 : IR 0 w' (.slice (some ⟨g, 0, none⟩) n c) (swapN h i j)) (h2 : Fr (fun k => k = g) w w') : HpR r w' (.slice (some ⟨g, 0, none⟩) n c) (swapN h i j) :=
  ⟨(h2.block r (lt_of_heap hH.blk) (fun e => hH.row.ne hH.blk (by decide) (by rw [e]; rfl))).trans hH.blk, h1⟩
theorem HpR.drew {r : Nat} {w : World} {sv : Value} {h : List Nat} (hH : HpR r w sv h) : HpR r w.drew sv h := ⟨hH.blk, hH.row⟩
theorem quo2 (j : Nat) : Int.tdiv ((j : Int) - 1) 2 = (((j - 1) / 2 : Nat) : Int) := by
  cases j with
  | zero => rfl
  | succ j =>
    have e : ((j + 1 : Nat) : Int) - 1 = (j : Int) := by omega
    rw [e, Nat.add_sub_cancel]
    rfl
set_option maxHeartbeats 2000000 in
set_option maxRecDepth 100000 in
theorem up_any {r j g n c : Nat} {h : List Nat} {w : World} (hn : n ≤ 1000000) (hj : j < n) (hl : h.length = n) (hH : HpR r w (.slice (some ⟨g, 0, none⟩) n c) h) : Calls Try.prog 45 #[rd r, .int .i64 (j : Int)] w fun e w' => e = .returned (.tuple #[]) ∧ HpR r w' (.slice (some ⟨g, 0, none⟩) n c) (upF n h j) ∧ Fr (fun k => k = g) w w' := by
  unfold rd
  obtain ⟨R, hR⟩ : ∃ R, upF n h j = R := ⟨_, rfl⟩
  have HR0 := Lib.hid hR
  have HL := Lib.hid hl
  have HH := Lib.hid hH
  rw [hR]
  clear hR hl hH
  go_enter Try.func45, Try.ntmps45
  go_wp2_with fail
  go_loopg [1] j (fun q i wr => ∃ (j' f : Nat) (h' : List Nat), i = .int .i64 j' ∧ q = j' * 1 ∧ j' < n ∧ j' < f ∧ Hid (upF f h' j' = R) ∧ Hid (h'.length = n) ∧ Hid (HpR r wr (.slice (some ⟨g, 0, none⟩) n c) h') ∧ Hid (Fr (fun k => k = g) w wr))
  case atStart => exact ⟨j, n, h, rfl, by omega, hj, hj, HR0.out, HL.out, HH.out, Fr.refl _ _⟩
  case round =>
    obtain ⟨j', f, h', rfl, rfl, hj', hf, hU, hL, hH, hF⟩ := hrel
    obtain ⟨i, hi⟩ : ∃ i, (j' - 1) / 2 = i := ⟨_, rfl⟩
    have hq := quo2 j'
    rw [hi] at hq
    obtain ⟨f', rfl⟩ : ∃ f', f = f' + 1 := ⟨f - 1, by omega⟩
    have e1 := cell_of_heap hH.out.blk 0
    have ML := meth_run meth_fact.2.1 e1
    have MS := meth_run meth_fact.2.2 e1
    by_cases hij : i = j'
    · have hib : ((i : Int) == (j' : Int)) = true := by simp [hij]
      have hUR : Hid (h' = R) := by
        unfold Hid
        rw [← hU.out]
        unfold upF
        rw [if_pos (.inl (by rw [hi]; exact hij))]
      go_wp2_with fail
      refine bodyPost_end (v := .tuple #[]) (by simp [results, Try.results45, go_sem]) rfl ⟨rfl, ?_, hF.out⟩
      rw [← hUR.out]
      exact hH.out
    · have hib : ((i : Int) == (j' : Int)) = false := by simp; omega
      have hin : i < n := by omega
      obtain ⟨x, hx⟩ : ∃ x, h'[j']? = some x := ⟨_, List.getElem?_eq_getElem (by rw [hL.out]; exact hj')⟩
      obtain ⟨y, hy⟩ : ∃ y, h'[i]? = some y := ⟨_, List.getElem?_eq_getElem (by rw [hL.out]; exact hin)⟩
      obtain ⟨_, _, e, _, hs1⟩ := hH.out.row.slice
      injection e with e2 e3 e4
      obtain ⟨_, e5, _, zg, _, hc⟩ := hs1 (by rw [hL.out]; omega)
      rw [← e2] at e5
      cases e5
      have CL := Lib.hid (less_any (c := c) hj' hin zg (hc j' x hx) (hc i y hy))
      have HX := Lib.hid hx
      have HY := Lib.hid hy
      clear hx hy hs1 e2 e3 e4 hc
      go_wp2_with fail
      refine CL.out.mono ?_
      rintro e w2 ⟨rfl, rfl⟩
      have e1' : wr.drew.cell? ⟨r, 0, none⟩ = some (.slice (some ⟨g, 0, none⟩) n c) := e1
      have MS' := meth_run meth_fact.2.2 e1'
      clear CL ML MS
      by_cases hxy : x < y
      · have hxb : decide (x < y) = true := by simpa using hxy
        have NX : Hid (upF f' (swapN h' i j') i = R) := by
          unfold Hid
          rw [← hU.out]
          conv => rhs; unfold upF
          rw [hi, if_neg (by rw [getD_at HX.out, getD_at HY.out]; exact fun h => h.elim hij fun h => h hxy)]
        have CS := swap_any (g := g) (c := c) (i := i) (j := j') (h := h') (w := wr.drew) (by rw [hL.out]; exact hn) (by rw [hL.out]; exact hin) (by rw [hL.out]; exact hj') (by rw [hL.out]; exact hH.out.drew.row)
        rw [hL.out] at CS
        have HCS := Lib.hid CS
        clear CS hxy HX HY
        go_wp2_with fail
        refine HCS.out.mono ?_
        rintro e w3 ⟨rfl, s1, s2, s3⟩
        have H3 := Lib.hid (hH.out.drew.swapped s1 s2)
        have F3 : Hid (Fr (fun k => k = g) w w3) := (hF.out.trans (S' := fun _ => False) (Fr.of_below (Below.refl _ _).drew) fun _ _ h => h.elim).trans s2 fun _ _ h => h
        clear s1 s2 s3 HCS hH hF e1 e1' MS' zg hxb
        go_wp2_with fail
        go_roundg (i * 1)
        case measure => omega
        case rel => exact ⟨i, f', swapN h' i j', rfl, by omega, hin, by omega, NX, by unfold Hid; rw [swapN_length]; exact hL.out, H3, F3⟩
      · have hxb : decide (x < y) = false := by simpa using hxy
        have hUR : Hid (h' = R) := by
          unfold Hid
          rw [← hU.out]
          unfold upF
          rw [hi, if_pos (.inr (by rw [getD_at HX.out, getD_at HY.out]; exact hxy))]
        go_wp2_with fail
        refine bodyPost_end (v := .tuple #[]) (by simp [results, Try.results45, go_sem]) rfl ⟨rfl, ?_, hF.out.trans (S' := fun _ => False) (Fr.of_below (Below.refl _ _).drew) fun _ _ h => h.elim⟩
        rw [← hUR.out]
        exact hH.out.drew
end Go.Proofs.Ytcjohhminiedfaa
