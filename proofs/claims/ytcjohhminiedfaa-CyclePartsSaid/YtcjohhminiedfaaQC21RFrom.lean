/- Cycle: ref.From. -/
import Derived.Test.YtcjohhminiedfaaQC21Queue
namespace Go.Proofs.Ytcjohhminiedfaa
open Go.RowKit
/-- A row of truths of a block. -/
def BM (w : World) (b : Nat) (l : List Bool) : Prop := w.heap[b]? = some (.cells (bvs l).toArray 4)
theorem BM.keep {w w' : World} {b : Nat} {l : List Bool} (h : BM w b l) (hk : w'.heap[b]? = w.heap[b]?) : BM w' b l := hk.trans h
theorem RInv.begin {n x : Nat} (T : List (List Nat)) (hx : x < n) : RInv n T [x] 0 [] [x] := by
  refine ⟨⟨by simp, fun y hy => by rw [List.mem_singleton.1 hy]; exact hx⟩, fun y hy => ⟨x, by simp, by rw [List.mem_singleton.1 hy]; exact .refl _⟩, fun s hs => hs, fun a p ha => by omega, fun p _ y hy => by cases hy⟩
theorem RInv.pass {n : Nat} {T : List (List Nat)} {S : List Nat} {i k p : Nat} {l : List Nat} {A : Nat → Bool} (h : RInv n T S i ((List.range k).filter A) l) (hp : l[i]? = some p) (hA : A k = decide (k ∈ T.getD p [])) (hk : k < n) : RInv n T S i ((List.range (k + 1)).filter A) (if k ∈ T.getD p [] then takeI n l (k : Int) else l) ∧ (if k ∈ T.getD p [] then takeI n l (k : Int) else l)[i]? = some p := by
  rw [List.range_succ, List.filter_append]
  by_cases hm : k ∈ T.getD p []
  · rw [if_pos hm]
    have e : [k].filter A = [k] := by simp [hA]; simpa using hm
    rw [e]
    exact h.take hp hm hk
  · rw [if_neg hm]
    have e : [k].filter A = [] := by simp [hA]; simpa using hm
    rw [e, List.append_nil]
    exact ⟨h, hp⟩
theorem takeI_in {n k : Nat} {l : List Nat} (h : k ∈ l) : takeI n l (k : Int) = l := by
  unfold takeI
  rw [if_neg]
  rintro ⟨_, _, h2⟩
  exact h2 (by simpa using h)
theorem takeI_new {n k : Nat} {l : List Nat} (hk : k < n) (h : k ∉ l) : takeI n l (k : Int) = l ++ [k] := by
  unfold takeI
  rw [if_pos ⟨by omega, by omega, by simpa using h⟩]
  simp
set_option maxHeartbeats 4000000 in
set_option maxRecDepth 100000 in
theorem rfrom_any {w : World} {a : Option Addr} {n cap x : Nat} {E : List (Nat × Nat)} (hn : n ≤ 10000) (hok : EOk n E) (hx : x < n) (hM : MxA w a n (adjE E)) :
    Calls Try.prog 38 #[.agg #[.slice a n cap], .int .i64 (x : Int)] w fun e w' => ∃ b l, e = .returned (.slice (some ⟨b, 0, none⟩) n n) ∧ w.heap.size ≤ b ∧ BM w' b (cmL n l) ∧ (∀ y, y ∈ l ↔ Rch (tos n E) x y) ∧ Below w.heap.size w w' := by
  have HMX := Lib.hid hM
  have HOK := Lib.hid hok
  obtain ⟨K, hK⟩ : ∃ K, w.heap.size = K := ⟨_, rfl⟩
  have HK := Lib.hid hK
  have MK := mk4 n (by omega)
  clear hM hok hK
  go_enter Try.func38, Try.ntmps38
  go_upto_region 2 with fail
  refine abs_world ?_
  intro W1 hW1
  have HC1 : Hid (W1.heap[K]? = some (.cells #[.slice a n cap] 27)) := by
    rw [hW1, ← HK.out]
    exact heap_alloc_old (heap_alloc_new w _) _
  have HO1 : Hid (BM W1 (K + 1) (cmL n [])) := by
    unfold Hid BM bvs
    rw [hW1, cmL_nil, List.map_replicate, ← List.toArray_replicate]
    exact heap_alloc_at (by simp; exact HK.out.symm) _
  have HB1 : Hid (Below K w W1) := by
    rw [hW1, ← HK.out]
    exact (below_alloc w _ _ (Nat.le_refl _)).alloc (by simp) _
  rw [HK.out]
  clear hW1 MK
  have c1 := bcell HO1.out (cmL_at [] hx)
  have y1 := frozen_of_heap HO1.out x
  have z1 := lt_of_heap HO1.out
  have i1 : (0 : Int) ≤ (x : Int) := by omega
  have i2 : (x : Int) < (n : Int) := by omega
  go_upto_region 3 with fail
  refine abs_world ?_
  intro W2 hW2
  have HC2 : Hid (W2.heap[K]? = some (.cells #[.slice a n cap] 27)) := by
    rw [hW2]
    exact (set_other K (by simp)).trans HC1.out
  have HO2 : Hid (BM W2 (K + 1) (cmL n [x])) := by
    rw [hW2]
    have h1 := bput HO1.out x true
    rw [cmL_push [] hx] at h1
    exact h1
  have HB2 : Hid (Below K w W2) := by
    rw [hW2]
    exact HB1.out.setCell (p := ⟨K + 1, x, none⟩) (Nat.le_succ K) _
  have hz2 : K + 2 ≤ W2.heap.size := lt_of_heap HO2.out
  clear hW2 HC1 HO1 HB1 c1 y1 z1 i1 i2
  have HQ3 : Hid (QR (K + 2) (W2.alloc (.cells #[.int .i64 (x : Int)] 3)) (.slice (some ⟨W2.heap.size, 0, none⟩) 1 1) ([x].drop 0)) := QR.start x hz2
  have hw3 := below_alloc W2 (.cells #[.int .i64 (x : Int)] 3) W2.heap.size (Nat.le_refl _)
  have HC3 : Hid ((W2.alloc (.cells #[.int .i64 (x : Int)] 3)).heap[K]? = some (.cells #[.slice a n cap] 27) ∧ Below K w (W2.alloc (.cells #[.int .i64 (x : Int)] 3))) := ⟨(hw3.block K (by omega)).trans HC2.out, HB2.out.trans (hw3.mono (by omega))⟩
  have HO3 : Hid (BM (W2.alloc (.cells #[.int .i64 (x : Int)] 3)) (K + 1) (cmL n [x])) := HO2.out.keep (hw3.block _ (by omega))
  have HR3 := Lib.hid (RInv.begin (tos n E) hx)
  clear HC2 HO2 HB2 hw3
  go_wp2_with fail
  go_loopg [6] n (fun g s6 wr => ∃ (i : Nat) (l : List Nat), g = n - i ∧ i ≤ l.length ∧ Hid (RInv n (tos n E) [x] i [] l) ∧ Hid (QR (K + 2) wr s6 (l.drop i)) ∧ Hid (BM wr (K + 1) (cmL n l)) ∧ Hid (wr.heap[K]? = some (.cells #[.slice a n cap] 27) ∧ Below K w wr))
  case atStart => exact ⟨0, [x], rfl, Nat.zero_le _, HR3, HQ3, HO3, HC3⟩
  case round =>
    clear HR3 HQ3 HO3 HC3 hz2
    obtain ⟨i, l, rfl, hil, hR, hQ, hO, hC⟩ := hrel
    have hln := hR.out.ok.le
    by_cases hlt : i < l.length
    · obtain ⟨p, hp⟩ : ∃ p, l[i]? = some p := ⟨_, List.getElem?_eq_getElem hlt⟩
      have hpn : p < n := hR.out.ok.lt p (List.mem_of_getElem? hp)
      have hdr : l.drop i = p :: l.drop (i + 1) := by
        rw [List.drop_eq_getElem_cons hlt]
        rw [List.getElem?_eq_getElem hlt] at hp
        cases hp
        rfl
      have hQ2 := hQ.out
      rw [hdr] at hQ2
      obtain ⟨v', hsl, hQ3⟩ := hQ2.rest
      obtain ⟨g, off, qc, e, hqc, _, zg, hcell⟩ := hQ2.at
      have cg := hcell 0 p rfl
      rw [Nat.add_zero] at cg
      subst e
      have HQ3 := Lib.hid hQ3
      obtain ⟨m, hm⟩ : ∃ m, (p :: l.drop (i + 1)).length = m := ⟨_, rfl⟩
      have hm0 : 0 < m := by rw [← hm]; simp
      have b1 : decide ((0 : Int) < (m : Int)) = true := by simp; omega
      have m1 := cell_of_heap hC.out.1 0
      have m2 := lt_of_heap hC.out.1
      have HP := Lib.hid hp
      have hRI : Hid (RInv n (tos n E) [x] i ((List.range 0).filter (adjE E p)) l) := hR
      rw [hm] at hsl hqc ⊢
      have i1 : (0 : Int) < (m : Int) := by omega
      clear hp hdr hQ hQ2 hQ3 hcell hm hR
      go_wp2_with fail
      clear cg zg b1 hsl m1 m2 i1 hqc hm0
      go_loopg [6, 8] n (fun g s6 s8 wr => ∃ (k : Nat) (l : List Nat), s8 = .int .i64 (k : Int) ∧ g = n - k ∧ k ≤ n ∧ Hid (RInv n (tos n E) [x] i ((List.range k).filter (adjE E p)) l) ∧ Hid (l[i]? = some p) ∧ Hid (QR (K + 2) wr s6 (l.drop (i + 1))) ∧ Hid (BM wr (K + 1) (cmL n l)) ∧ Hid (wr.heap[K]? = some (.cells #[.slice a n cap] 27) ∧ Below K w wr))
      case atStart => exact ⟨0, l, rfl, rfl, Nat.zero_le _, hRI, HP, HQ3, hO, hC⟩
      case round =>
        clear hRI HP HQ3 hO hC hil hln hlt
        obtain ⟨k, l, rfl, rfl, hk, hR, hP, hQ, hO, hC⟩ := hrel
        have m1 := cell_of_heap hC.out.1 0
        have m2 := lt_of_heap hC.out.1
        by_cases hlt2 : k < n
        · obtain ⟨g, e2, d1, r, rc, m3, d2, hr⟩ := (HMX.out.below (by rw [HK.out]; exact hC.out.2)) p hpn
          subst e2
          have m4 := hr k hlt2
          have c1 := bcell hO.out (cmL_at l hlt2)
          have y1 := frozen_of_heap hO.out k
          have z1 := lt_of_heap hO.out
          have i1 : (0 : Int) ≤ (k : Int) := by omega
          have i2 : (k : Int) < (n : Int) := by omega
          have i3 : (0 : Int) ≤ (p : Int) := by omega
          have i4 : (p : Int) < (n : Int) := by omega
          clear hr
          have HR2 := Lib.hid (hR.out.pass (A := adjE E p) hP.out (by rw [Bool.eq_iff_iff, adjE_mem, decide_eq_true_iff, mem_tos HOK.out]) hlt2).1
          have HP2 := Lib.hid (hR.out.pass (A := adjE E p) hP.out (by rw [Bool.eq_iff_iff, adjE_mem, decide_eq_true_iff, mem_tos HOK.out]) hlt2).2
          by_cases hmem : k ∈ (tos n E).getD p []
          · have hA : adjE E p k = true := adjE_mem.2 ((mem_tos HOK.out).1 hmem)
            rw [if_pos hmem] at HR2 HP2
            rw [hA] at m4
            by_cases hin : k ∈ l
            · rw [takeI_in hin] at HR2 HP2
              have hct : l.contains k = true := by simpa using hin
              rw [hct] at c1
              clear hR hP hmem hA hin hct
              go_wp2_with fail
              clear c1 y1 z1 m1 m2 m3 m4 d1 d2
              go_roundg (n - (k + 1))
              case measure => omega
              case rel => exact ⟨k + 1, l, by go_num, rfl, by omega, HR2, HP2, hQ, hO, hC⟩
            · rw [takeI_new hlt2 hin] at HR2 HP2
              have hct : l.contains k = false := by simpa using hin
              rw [hct] at c1
              have hil2 : i < l.length := (List.getElem?_eq_some_iff.1 hP.out).1
              have hln := hR.out.ok.le
              have hdl : (l ++ [k]).drop (i + 1) = l.drop (i + 1) ++ [k] := List.drop_append_of_le_length (by omega)
              have hO2 : Hid (BM (wr.setCell ⟨K + 1, k, none⟩ (.bool true)) (K + 1) (cmL n (l ++ [k]))) := by
                have h1 := bput hO.out k true
                rw [cmL_push l hlt2] at h1
                exact h1
              have hC2 : Hid ((wr.setCell ⟨K + 1, k, none⟩ (.bool true)).heap[K]? = some (.cells #[.slice (some ⟨g, 0, none⟩) n cap] 27) ∧ Below K w (wr.setCell ⟨K + 1, k, none⟩ (.bool true))) := ⟨(set_other K (by simp)).trans hC.out.1, hC.out.2.setCell (p := ⟨K + 1, k, none⟩) (Nat.le_succ K) _⟩
              have hQ2 : QR (K + 2) (wr.setCell ⟨K + 1, k, none⟩ (.bool true)) u6 (l.drop (i + 1)) := hQ.out.keep fun j hj _ => set_other j (by show j ≠ K + 1; omega)
              obtain ⟨ga, gc, e⟩ := hQ2.shape
              subst e
              have HQ2 := Lib.hid hQ2
              clear hR hP hmem hA hin hct hQ hO hC hQ2
              go_upto_region 12 with fail
              refine abs_world ?_
              intro W8 hW8
              rw [← hW8] at hO2 hC2 HQ2
              clear hW8 c1 y1 z1 m1 m2 m3 m4 d1 d2
              have hz8 := lt_of_heap hO2.out
              have hw9 := below_alloc W8 (.cells #[.int .i64 (k : Int)] 3) W8.heap.size (Nat.le_refl _)
              obtain ⟨v9, w9, hap, hQ9, hb9⟩ := (HQ2.out.keep (w' := W8.alloc (.cells #[.int .i64 (k : Int)] 3)) fun j _ hj => hw9.block j hj).push (ad := ⟨W8.heap.size, 0, none⟩) (y := k) (by rw [cell_of_heap (heap_alloc_new W8 _)]; rfl) (by rw [List.length_drop]; omega) (by simp; omega) rfl
              rw [← hdl] at hQ9
              have HQ9 := Lib.hid hQ9
              have hb10 : Below (K + 2) W8 w9 := (hw9.mono (by omega)).trans hb9
              have HO9 : Hid (BM w9 (K + 1) (cmL n (l ++ [k]))) := hO2.out.keep (hb10.block _ (by omega))
              have HC9 : Hid (w9.heap[K]? = some (.cells #[.slice (some ⟨g, 0, none⟩) n cap] 27) ∧ Below K w w9) := ⟨(hb10.block K (by omega)).trans hC2.out.1, hC2.out.2.trans (hb10.mono (by omega))⟩
              obtain ⟨m, hm⟩ : ∃ m, (l.drop (i + 1)).length = m := ⟨_, rfl⟩
              rw [hm] at hap ⊢
              clear hQ9 hb9 hb10 hw9 HQ2 hO2 hC2 hdl hm
              go_upto_region 9 with (at_builtin; refine wpList_append_run rfl (.tmp 51) (.tmp 53) 31 rfl _ _ _ rfl rfl hap ?_)
              clear hap
              go_wp2_with fail
              go_roundg (n - (k + 1))
              case measure => omega
              case rel => exact ⟨k + 1, _, by go_num, rfl, by omega, HR2, HP2, HQ9, HO9, HC9⟩
          · have hA : adjE E p k = false := by
              cases e : adjE E p k with
              | false => rfl
              | true => exact absurd ((mem_tos HOK.out).2 (adjE_mem.1 e)) hmem
            rw [if_neg hmem] at HR2 HP2
            rw [hA] at m4
            clear hR hP hmem hA
            go_wp2_with fail
            clear c1 y1 z1 m1 m2 m3 m4 d1 d2
            go_roundg (n - (k + 1))
            case measure => omega
            case rel => exact ⟨k + 1, l, by go_num, rfl, by omega, HR2, HP2, hQ, hO, hC⟩
        · have hil2 : i + 1 ≤ l.length := (List.getElem?_eq_some_iff.1 hP.out).1
          have hln := hR.out.ok.le
          have HR2 : Hid (RInv n (tos n E) [x] (i + 1) [] l) := hR.out.next hP.out fun y hy => by
            have hyn := (HOK.out.lt _ ((mem_tos HOK.out).1 hy)).2
            exact List.mem_filter.2 ⟨List.mem_range.2 (by have : y < n := hyn; omega), adjE_mem.2 ((mem_tos HOK.out).1 hy)⟩
          clear hR hP
          go_wp2_with fail
          clear m1 m2
          go_roundg (n - (i + 1))
          case measure => omega
          case rel => exact ⟨i + 1, l, rfl, hil2, HR2, hQ, hO, hC⟩
    · have HE := Lib.hid (hR.out.end (by omega))
      obtain ⟨ga, gc, e⟩ := hQ.out.shape
      subst e
      obtain ⟨m, hm⟩ : ∃ m, (l.drop i).length = m := ⟨_, rfl⟩
      have hm0 : m = 0 := by rw [← hm, List.length_drop]; omega
      rw [hm, hm0]
      clear hR hQ hm hm0
      go_wp2_with fail
      refine bodyPost_ret (v := .slice (some ⟨K + 1, 0, none⟩) n n) (by simp [results, Try.results38, go_sem]) rfl ⟨K + 1, l, rfl, by rw [HK.out]; exact Nat.le_succ K, hO.out, fun y => ?_, by rw [HK.out]; exact hC.out.2⟩
      rw [HE.out y]
      constructor
      · rintro ⟨s, hs, hr⟩
        rw [List.mem_singleton.1 hs] at hr
        exact hr
      · exact fun hr => ⟨x, by simp, hr⟩
end Go.Proofs.Ytcjohhminiedfaa
