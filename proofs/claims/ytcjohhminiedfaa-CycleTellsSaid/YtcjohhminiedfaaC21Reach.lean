/- Cycle: Reach. -/
import Derived.Test.YtcjohhminiedfaaC21Take
namespace Go.Proofs.Ytcjohhminiedfaa
open Go.RowKit Go.Shelf
theorem RM.begin {K n cb b5 b6 : Nat} {G : Gb} {T F : List (List Nat)} {w : World} (hg : GrN w G n T F) (hK : ∀ p, G.pv = .pointer (some p) → ∀ k, G.has k → k < K) (c2 : w.heap[K]? = some (.cells #[G.pv] 24)) (c5 : w.heap[b5]? = some (.cells #[.slice (some ⟨cb, 0, none⟩) n n] 42)) (c6 : w.heap[b6]? = some (.cells #[.slice none 0 0] 31))
    (cm : w.heap[cb]? = some (.cells (List.replicate n (.bool false)).toArray 4)) (o : K < cb ∧ cb < b5 ∧ b5 < b6) : RM K (b6 + 1) n cb b5 b6 G T F w [] (.slice none 0 0) :=
  ⟨hg, hK, c2, c5, c6, by rw [cm, cmL_nil, List.map_replicate], o.1, by omega, by omega, by omega, by omega, by omega, by omega, by omega, by omega, lt_of_heap c6, IR.nil _ _⟩
theorem sort_all {B : Nat} {v : Value} {l : List Nat} {w : World} (h : IR B w v l) (hl : l.length ≤ 1000000) : Calls Try.prog 30 #[v] w fun e w' => e = .returned (.tuple #[]) ∧ IR B w' v (sortN l) ∧ w.grownBy w' v.ownBlock := by
  by_cases h0 : 0 < l.length
  · exact sort_any h h0 hl
  · have hL : l = [] := List.length_eq_zero_iff.1 (by omega)
    subst hL
    obtain ⟨a, cap, rfl, _⟩ := h.slice
    have c := AnyM.slices_Sort_int_none Try.sortA a cap w
    change Calls Try.prog 30 _ w _ at c
    refine c.mono ?_
    rintro e w' ⟨rfl, rfl⟩
    rw [show sortN [] = [] from List.length_eq_zero_iff.1 (sortN_length [])]
    exact ⟨rfl, h, ⟨rfl, rfl, rfl, Nat.le_refl _, fun _ _ _ => rfl⟩⟩
/-- The first k were taken. -/
def P1 (n : Nat) (S : List Int) (k : Nat) (l : List Nat) : Prop := LOk n l ∧ ∀ y, y ∈ l ↔ y ∈ nodesI n (S.take k)
theorem P1.take {n k : Nat} {S : List Int} {l : List Nat} {x : Int} (h : P1 n S k l) (hx : S[k]? = some x) : P1 n S (k + 1) (takeI n l x) := by
  refine ⟨h.1.take x, fun y => ?_⟩
  rw [take_mem, h.2, List.take_add_one, hx, mem_nodesI, mem_nodesI]
  simp only [Option.toList_some, List.mem_append, List.mem_singleton]
  constructor
  · rintro (⟨h1, h2⟩ | ⟨h1, h2, h3⟩)
    · exact ⟨h1, .inl h2⟩
    · exact ⟨by omega, .inr (by omega)⟩
  · rintro ⟨h1, h2 | h2⟩
    · exact .inl ⟨h1, h2⟩
    · exact .inr ⟨by omega, by omega, by omega⟩
theorem P1.start {n : Nat} {T : List (List Nat)} {S : List Int} {l : List Nat} (h : P1 n S S.length l) : RInv n T (nodesI n S) 0 [] l := by
  have hm : ∀ y, y ∈ l ↔ y ∈ nodesI n S := fun y => by rw [h.2, List.take_of_length_le (Nat.le_refl _)]
  exact ⟨h.1, fun y hy => ⟨y, (hm y).1 hy, .refl y⟩, fun s hs => (hm s).2 hs, fun a p ha => by omega, fun p _ y hy => by cases hy⟩
set_option maxHeartbeats 4000000 in
set_option maxRecDepth 100000 in
theorem reach_any {w : World} {G : Gb} {n : Nat} {T F : List (List Nat)} {S : List Int} {sv : Value} (hT : TOk n T) (hn : n ≤ 100000) (h : GrN w G n T F) (hG : ∀ p, G.pv = .pointer (some p) → ∀ k, G.has k → k < w.heap.size) (hS : RdI w sv S) :
    Calls Try.prog 18 #[G.pv, sv] w fun e w' => ∃ v r, e = .returned v ∧ IR w.heap.size w' v r ∧ ReachR n T S r ∧ Below w.heap.size w w' := by
  have HT := Lib.hid hT
  have HG := Lib.hid hG
  have HGR := Lib.hid h
  obtain ⟨hm0, a, cap, rfl, hsr⟩ := hS
  obtain ⟨m, hm⟩ : ∃ m, S.length = m := ⟨_, rfl⟩
  have HM := Lib.hid hm
  have HSR := Lib.hid hsr
  rw [hm] at hm0 ⊢
  unfold maxLen at hm0
  have hgp : ∃ o, G.pv = .pointer o := by
    rcases h with ⟨_, h, _⟩ | ⟨h, _⟩
    · exact ⟨_, h⟩
    · exact ⟨_, h.ptr⟩
  obtain ⟨go, hgo⟩ := hgp
  have HGV := Lib.hid hgo
  rw [hgo]
  obtain ⟨K, hK⟩ : ∃ K, w.heap.size = K := ⟨_, rfl⟩
  have HK := Lib.hid hK
  rw [hK] at HG
  clear hT hG h hm hsr hgo hK
  go_enter Try.func18, Try.ntmps18
  go_wp2_with fail
  have CS := size_any (HGR.out.below (w' := w.alloc (.cells #[.pointer go] 24)) (below_alloc w _ _ (Nat.le_refl _)))
  rw [HGV.out] at CS
  refine CS.mono ?_
  clear CS
  rintro e w1 ⟨rfl, hb1⟩
  have hz1 : w.heap.size < w1.heap.size := by have := hb1.size; simp at this; omega
  have HB1 : Hid (Below w.heap.size w w1) := (below_alloc w _ _ (Nat.le_refl _)).trans (hb1.mono (by simp))
  have q2 : Hid (w1.heap[w.heap.size]? = some (.cells #[.pointer go] 24)) := (hb1.block _ (by simp)).trans (heap_alloc_new _ _)
  have MK := mk4 n (by omega)
  clear hb1
  go_wp2_with fail
  refine abs_world ?_
  intro W3 hW3
  have hGp : Hid (∀ p, G.pv = .pointer (some p) → ∀ k, G.has k → k < w.heap.size) := by rw [HK.out]; exact HG.out
  have HB3 : Hid (Below w.heap.size w W3) := by
    rw [hW3]
    exact ((HB1.out.alloc (by omega) _).alloc (by simp; omega) _).alloc (by simp; omega) _
  have HM3 : Hid (RM w.heap.size (w1.heap.size + 1 + 1 + 1) n w1.heap.size (w1.heap.size + 1) (w1.heap.size + 1 + 1) G T F W3 [] (.slice none 0 0)) := by
    refine RM.begin (HGR.out.keepK hGp.out HB3.out) hGp.out ?_ ?_ ?_ ?_ ⟨hz1, by omega, by omega⟩
    · rw [HGV.out, hW3]
      exact heap_alloc_old (heap_alloc_old (heap_alloc_old q2.out _) _) _
    · rw [hW3]
      exact heap_alloc_old (heap_alloc_at (by simp) _) _
    · rw [hW3]
      exact heap_alloc_at (by simp) _
    · rw [hW3, ← List.toArray_replicate]
      exact heap_alloc_old (heap_alloc_old (heap_alloc_new _ _) _) _
  obtain ⟨cb, hcb⟩ : ∃ cb, w1.heap.size = cb := ⟨_, rfl⟩
  rw [hcb] at HM3 hz1 ⊢
  obtain ⟨b5, hb5⟩ : ∃ b5, cb + 1 = b5 := ⟨_, rfl⟩
  rw [hb5] at HM3 ⊢
  obtain ⟨b6, hb6⟩ : ∃ b6, b5 + 1 = b6 := ⟨_, rfl⟩
  rw [hb6] at HM3 ⊢
  obtain ⟨H, hH⟩ : ∃ H, b6 + 1 = H := ⟨_, rfl⟩
  rw [hH] at HM3
  obtain ⟨K, hK⟩ : ∃ K, w.heap.size = K := ⟨_, rfl⟩
  have HK := Lib.hid hK
  rw [hK] at HM3 HB3 hz1 hGp ⊢
  clear hcb hb5 hb6 hH hK hW3 MK HB1 q2 HG
  go_loopg [19] m (fun g i wr => ∃ (k : Nat) (l : List Nat) (lv : Value), i = .int .i64 (k : Int) ∧ g = m - k ∧ k ≤ m ∧ Hid (P1 n S k l) ∧ Hid (RM K H n cb b5 b6 G T F wr l lv) ∧ Hid (Below K w wr))
  case atStart => exact ⟨0, [], _, rfl, rfl, Nat.zero_le _, ⟨LOk.nil n, fun y => by simp [nodesI]⟩, HM3, HB3⟩
  case round =>
    obtain ⟨k, l, lv, rfl, rfl, hk, hP, hM, hB⟩ := hrel
    by_cases hlt : k < m
    · obtain ⟨x, hx⟩ : ∃ x, S[k]? = some x := ⟨_, List.getElem?_eq_getElem (by rw [HM.out]; exact hlt)⟩
      obtain ⟨g, off, rfl, zg, cg⟩ := HSR.out k x hx
      have zg' := Nat.lt_of_lt_of_le zg hB.out.size
      have cg' := (hB.out.cell (p := ⟨g, off + k, none⟩) (by rw [← HK.out]; exact zg)).trans cg
      have HP2 := Lib.hid (hP.out.take hx)
      have CT := Lib.hid (take_any hn hP.out.1 hM.out x)
      have j1 : (0 : Int) ≤ (k : Int) := by omega
      have j2 : (k : Int) < (m : Int) := by omega
      unfold pb at CT
      clear cg zg hx hP
      go_wp2_with fail
      refine CT.out.mono ?_
      rintro e w5 ⟨rfl, lv5, hM5, hB5⟩
      have HM5 := Lib.hid hM5
      have HB5 := Lib.hid (hB.out.trans (hB5.mono (Nat.le_succ K)))
      clear hM5 hB5 CT cg' zg' hM hB
      go_wp2_with fail
      go_roundg (m - (k + 1))
      case measure => omega
      case rel => exact ⟨k + 1, _, lv5, by go_num, rfl, by omega, HP2, HM5, HB5⟩
    · have hkm : k = m := by omega
      have HR0 : Hid (RInv n T (nodesI n S) 0 [] l) := by
        have h1 := hP.out
        rw [hkm, ← HM.out] at h1
        exact h1.start
      clear hP hkm HM3 HB3
      go_wp2_with fail
      go_loopg [10] n (fun g s10 wr => ∃ (i : Nat) (l : List Nat) (lv : Value), s10 = .int .i64 (i : Int) ∧ g = n - i ∧ i ≤ l.length ∧ Hid (RInv n T (nodesI n S) i [] l) ∧ Hid (RM K H n cb b5 b6 G T F wr l lv) ∧ Hid (Below K w wr))
      case atStart => exact ⟨0, l, lv, rfl, rfl, Nat.zero_le _, HR0, hM, hB⟩
      case round =>
        obtain ⟨i, l, lv, rfl, rfl, hil, hR, hM, hB⟩ := hrel
        obtain ⟨la, lc, rfl, hlc, hls⟩ := hM.out.row.slice
        have hln := hR.out.ok.le
        have c6 := cell_of_heap hM.out.c6 0
        have z6 := lt_of_heap hM.out.c6
        obtain ⟨q, hq⟩ : ∃ q, l.length = q := ⟨_, rfl⟩
        have HQL := Lib.hid hq
        by_cases hlt2 : i < q
        · obtain ⟨p, hp⟩ : ∃ p, l[i]? = some p := ⟨_, List.getElem?_eq_getElem (by omega)⟩
          obtain ⟨lg, rfl, _, zl, _, hcl⟩ := hls (by omega)
          have cl := hcl i p hp
          have hpn : p < n := hR.out.ok.lt p (List.mem_of_getElem? hp)
          have hgr : GrR wr G T F ∧ T.length = n := by
            rcases hM.out.gr with ⟨h, _⟩ | ⟨h1, h2, _⟩
            · omega
            · exact ⟨h1, h2⟩
          have c2 := cell_of_heap hM.out.c2 0
          have z2 := lt_of_heap hM.out.c2
          have hpv := hgr.1.ptr
          rw [hpv] at c2
          obtain ⟨hmax, ta, tc, ra, rc, cp, zt, ct, hrow⟩ := hgr.1.rowT (hGp.out _ hpv) (x := p) (by rw [hgr.2]; exact hpn)
          rw [hgr.2] at cp
          have zp := lt_of_heap hgr.1.blk
          obtain ⟨row, hrw⟩ : ∃ row, T.getD p [] = row := ⟨_, rfl⟩
          have HRW := Lib.hid hrw
          obtain ⟨r, hr⟩ : ∃ r, row.length = r := ⟨_, rfl⟩
          rw [hrw] at ct hmax hrow
          rw [hr] at ct hmax
          unfold maxLen at hmax
          have HRL := Lib.hid hr
          have HP := Lib.hid hp
          rw [hq] at hil hlc hln c6
          have j1 : (0 : Int) ≤ (i : Int) := by omega
          have j2 : (i : Int) < (q : Int) := by omega
          have j3 : (0 : Int) ≤ (p : Int) := by omega
          have j4 : (p : Int) < (n : Int) := by omega
          have HROW := Lib.hid hrow
          clear hgr hrow hr hrw hq hls hcl hp hpv
          go_wp2_with fail
          refine wp_region_mix [0, 1, 2, 3, 4, 5, 6, 7, 8, 9, 10, 11] [] [] (Below wr.heap.size wr) (by kernel_rfl) (by kernel_rfl) (Below.refl _ _).drew ?_
          iterate 12 (first | (apply first_step; (rw [List.getElem?_toArray]; (repeat rw [List.getElem?_cons_succ]); rw [List.getElem?_cons_zero]); rfl; (intro W hB; have hc := bcellB hB; go_simp; (first | done | rfl)); go_frame) | (apply first_skip; (rw [List.getElem?_toArray]; (repeat rw [List.getElem?_cons_succ]); rw [List.getElem?_cons_zero]); rfl; go_frame))
          refine first_done ?_
          refine tail_done ?_
          refine abs_exit ?_
          intro W6 hW6
          have HM6 : Hid (RM K H n cb b5 b6 G T F W6 l (.slice (some ⟨lg, 0, none⟩) l.length lc)) := by rw [hW6]; exact hM.out.below (Below.refl _ _).drew
          have HB6 : Hid (Below K w W6) := by rw [hW6]; exact hB.out.drew
          have HROW6 : Hid (RowAt K ra row W6) := fun W hW => HROW.out W ((show Below K wr W6 by rw [hW6]; exact (Below.refl _ _).drew).trans hW)
          clear hW6 hM hB c2 z2 cp zt ct zp cl zl c6 z6 HROW j1 j2 j3 j4
          go_wp2_with fail
          go_loopg [44] r (fun g s44 wr2 => ∃ (b : Nat) (l : List Nat) (lv : Value), s44 = .int .i64 (b : Int) ∧ g = r - b ∧ b ≤ r ∧ Hid (RInv n T (nodesI n S) i (row.take b) l) ∧ Hid (l[i]? = some p) ∧ Hid (RM K H n cb b5 b6 G T F wr2 l lv) ∧ Hid (Below K w wr2) ∧ Hid (Below K W6 wr2))
          case atStart => exact ⟨0, l, _, rfl, rfl, Nat.zero_le _, hR, HP, HM6, HB6, Below.refl _ _⟩
          case round =>
            obtain ⟨b, l, lv, rfl, rfl, hb, hR, hP, hM, hB, hB2⟩ := hrel
            by_cases hlt3 : b < r
            · obtain ⟨y, hy⟩ : ∃ y, row[b]? = some y := ⟨_, List.getElem?_eq_getElem (by rw [HRL.out]; exact hlt3)⟩
              obtain ⟨rg, rfl, zr, cr⟩ := HROW6.out wr hB2.out b y hy
              have hyT : y ∈ T.getD p [] := by rw [HRW.out]; exact List.mem_of_getElem? hy
              obtain ⟨t1, t2⟩ := hR.out.take hP.out hyT (HT.out.at hyT)
              have TK : row.take (b + 1) = row.take b ++ [y] := by
                rw [List.take_add_one, hy]
                rfl
              rw [← TK] at t1
              have HR2 := Lib.hid t1
              have HP2 := Lib.hid t2
              have CT := Lib.hid (take_any hn hR.out.ok hM.out (y : Int))
              have j1 : (0 : Int) ≤ (b : Int) := by omega
              have j2 : (b : Int) < (r : Int) := by omega
              unfold pb at CT
              clear hy hyT t1 t2 TK hR hP
              go_wp2_with fail
              refine CT.out.mono ?_
              rintro e w5 ⟨rfl, lv5, hM5, hB5⟩
              have HM5 := Lib.hid hM5
              have HB5 := Lib.hid (hB.out.trans (hB5.mono (Nat.le_succ K)))
              have HB6' := Lib.hid (hB2.out.trans (hB5.mono (Nat.le_succ K)))
              clear hM5 hB5 CT cr zr hM hB hB2
              go_wp2_with fail
              go_roundg (r - (b + 1))
              case measure => omega
              case rel => exact ⟨b + 1, _, lv5, by go_num, rfl, by omega, HR2, HP2, HM5, HB5, HB6'⟩
            · have HR2 : Hid (RInv n T (nodesI n S) (i + 1) [] l) := by
                have h1 := hR.out
                rw [List.take_of_length_le (by rw [HRL.out]; omega)] at h1
                exact h1.next hP.out fun y hy => by rw [← HRW.out]; exact hy
              have hil2 : i + 1 ≤ l.length := (List.getElem?_eq_some_iff.1 hP.out).1
              have hln2 := hR.out.ok.le
              clear hR hP hB2 HROW6
              go_wp2_with fail
              go_roundg (n - (i + 1))
              case measure => omega
              case rel => exact ⟨i + 1, l, lv, by go_num, rfl, hil2, HR2, hM, hB⟩
        · have HRR := Lib.hid (hR.out.reach (by omega))
          have CS := sort_all hM.out.row (by omega)
          have HKH : K ≤ H := by have h1 := hM.out.o3; have h2 := hM.out.h3; omega
          have hH6 := hM.out.h3
          rw [hq] at c6 CS
          have CS := Lib.hid CS
          have HM7 := Lib.hid (hM.out.c6)
          have HRLT : Hid (∀ k, (Value.slice la q lc).ownBlock = some k → H ≤ k) := fun k e => (hM.out.row.lt k (by rw [hq]; exact e)).1
          rw [hq] at HM7
          clear hls hq hM
          go_wp2_with fail
          refine CS.out.mono ?_
          rintro e w8 ⟨rfl, hI8, hg8⟩
          have e6 : w8.heap[b6]? = some (.cells #[.slice la q lc] 31) := (hg8.block b6 z6 (fun e => by have := HRLT.out b6 e.symm; omega)).trans HM7.out
          have HI8 := Lib.hid hI8
          have HB8 : Hid (Below K w w8) := hB.out.grown hg8 (by rw [← HK.out]; exact hB.out.size) fun k e => Nat.le_trans HKH (HRLT.out k e)
          clear c6 z6
          have c6 := cell_of_heap e6 0
          have z6 := lt_of_heap e6
          clear hI8 hg8 e6 CS
          go_wp2_with fail
          refine bodyPost_ret (v := .slice la q lc) (by simp [results, Try.results18, go_sem]) rfl ⟨_, sortN l, rfl, by rw [HK.out]; exact HI8.out.base HKH, HRR.out, by rw [HK.out]; exact HB8.out⟩
end Go.Proofs.Ytcjohhminiedfaa
