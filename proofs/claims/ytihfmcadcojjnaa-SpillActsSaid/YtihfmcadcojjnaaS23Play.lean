/- play: a board on which acts were done. -/
import Derived.Test.YtihfmcadcojjnaaS23PlayP
namespace Go.Proofs.Ytihfmcadcojjnaa
open Go.RowKit
def PlayR (w wr : World) (p : Nat) (g : G) : Prop := OBd wr p w.heap.size g ∧ Below w.heap.size w wr
set_option maxHeartbeats 2000000 in
set_option maxRecDepth 100000 in
theorem play_any (a b : Int) (aa : Option Addr) (acap : Nat) (q : List Ac) (w : World) (q1 : 0 ≤ a) (q2 : a ≤ 255) (q3 : 0 ≤ b) (q4 : b ≤ 255) (hq : q.length ≤ 60) (hA : ActsAt w aa q) :
    Calls Try.prog 15 #[.int .u8 a, .int .u8 b, .slice aa q.length acap] w fun e w' => e = .returned (.pointer (some ⟨w.heap.size + 3, 0, none⟩)) ∧ OBd w' (w.heap.size + 3) w.heap.size (actAll (gNew (a % 12) (b % 12)) q) ∧ Below w.heap.size w w' := by
  have HA := Lib.hid hA
  clear hA
  generalize hR : a % 12 = R0
  generalize hC : b % 12 = C0
  go_enter Try.func15, Try.ntmps15
  go_wp2_with fail
  clear hR hC
  refine (new_o _ _ _).mono ?_
  rintro e w2 ⟨rfl, b2, f2, _⟩
  have K2 : Hid (PlayR w w2 (w.heap.size + 3) (actAll (gNew R0 C0) (q.take 0))) := ⟨b2, f2⟩
  clear b2 f2
  go_wp2_with fail
  go_loopw [8] (fun i wr => ∃ k : Nat, i = .int .i64 k ∧ k ≤ q.length ∧ Hid (PlayR w wr (w.heap.size + 3) (actAll (gNew R0 C0) (q.take k)))) (fun i _ => q.length - (intOf i).toNat)
  case atStart => exact ⟨0, rfl, Nat.zero_le _, K2⟩
  case round =>
    obtain ⟨j, rfl, hj, L3⟩ := hrel
    by_cases hjt : j < q.length
    · obtain ⟨x, hx⟩ : ∃ x, q[j]? = some x := ⟨_, List.getElem?_eq_getElem hjt⟩
      obtain ⟨b, off, rfl, hbw, hcell⟩ := HA.out (by omega)
      obtain ⟨e0, e1, e2, e3, e4⟩ := hcell j x hx
      have hBw : Below w.heap.size w wr := L3.out.2
      have d0 := (hBw.cell (p := ⟨b, off + j * 5, none⟩) hbw).trans e0
      have d1 := (hBw.cell (p := ⟨b, off + j * 5 + 1, none⟩) hbw).trans e1
      have d2 := (hBw.cell (p := ⟨b, off + j * 5 + 2, none⟩) hbw).trans e2
      have d3 := (hBw.cell (p := ⟨b, off + j * 5 + 3, none⟩) hbw).trans e3
      have d4 := (hBw.cell (p := ⟨b, off + j * 5 + 4, none⟩) hbw).trans e4
      have hb1 : b < wr.heap.size := Nat.lt_of_lt_of_le hbw hBw.size
      have j1 : (0 : Int) ≤ (j : Int) := by omega
      have j2 : (j : Int) < (q.length : Int) := by omega
      have SN := Lib.hid (actAll_snoc (gNew R0 C0) hx)
      have HLn : Hid ((actAll (gNew R0 C0) (q.take j)).L.length ≤ 1000000) := by
        have h1 := actAll_len (gNew R0 C0) (q.take j)
        have h2 : (gNew R0 C0).L.length = 0 := rfl
        have := List.length_take_le j q
        unfold Hid
        omega
      clear hx hcell e0 e1 e2 e3 e4 hBw
      obtain ⟨xf, xr, xc, xrs, xcs⟩ := x
      simp only at d0 d1 d2 d3 d4
      unfold gAct at SN
      cases xf with
      | true =>
        simp only [if_true] at SN
        go_wp2_with fail
        refine wp_region_mix [0, 1, 2, 3, 4, 5, 6, 7, 8, 9, 10] [11] [11] (Below wr.heap.size wr) (by kernel_rfl) (by kernel_rfl) (Below.refl _ _).drew ?_
        iterate 11 (first | (apply first_step; (rw [List.getElem?_toArray]; (repeat rw [List.getElem?_cons_succ]); rw [List.getElem?_cons_zero]); rfl; (intro W hB; have hc := bcellB hB; go_simp; (first | done | rfl)); go_frame) | (apply first_skip; (rw [List.getElem?_toArray]; (repeat rw [List.getElem?_cons_succ]); rw [List.getElem?_cons_zero]); rfl; go_frame))
        refine first_done ?_
        apply tail_step; (rw [List.getElem?_toArray]; (repeat rw [List.getElem?_cons_succ]); rw [List.getElem?_cons_zero]); rfl; rfl; intro K hK; go_simp
        refine (fill_o (L3.out.1.below (Below.refl _ _).drew) _ _).mono ?_
        rintro e w5 ⟨rfl, k5, f5⟩
        refine hK _ _ (fun h => absurd (by decide) h) ?_
        clear hK K
        refine tail_done ?_
        have L6 : Hid (PlayR w w5 (w.heap.size + 3) (gFill (actAll (gNew R0 C0) (q.take j)) xr xc)) := ⟨k5, L3.out.2.trans ((Below.refl _ wr).drew.trans f5)⟩
        clear k5 f5 d0 d1 d2 d3 d4 hb1
        go_wp2_with fail
        go_roundw
        case rel => exact ⟨j + 1, by go_num, by omega, by rw [SN.out]; exact L6⟩
        case measure => simp [intOf]; omega
      | false =>
        simp only [Bool.false_eq_true, if_false] at SN
        go_wp2_with fail
        refine wp_region_mix [0, 1, 2, 3, 4, 5, 6, 7, 8, 9, 10, 11, 12, 13, 14, 15, 16, 17, 18, 19, 20] [21] [21] (Below wr.heap.size wr) (by kernel_rfl) (by kernel_rfl) (Below.refl _ _).drew ?_
        iterate 21 (first | (apply first_step; (rw [List.getElem?_toArray]; (repeat rw [List.getElem?_cons_succ]); rw [List.getElem?_cons_zero]); rfl; (intro W hB; have hc := bcellB hB; go_simp; (first | done | rfl)); go_frame) | (apply first_skip; (rw [List.getElem?_toArray]; (repeat rw [List.getElem?_cons_succ]); rw [List.getElem?_cons_zero]); rfl; go_frame))
        refine first_done ?_
        apply tail_step; (rw [List.getElem?_toArray]; (repeat rw [List.getElem?_cons_succ]); rw [List.getElem?_cons_zero]); rfl; rfl; intro K hK; go_simp
        refine (decide_o (L3.out.1.below (Below.refl _ _).drew) HLn.out _ _ _ _).mono ?_
        rintro e w5 ⟨rfl, k5, f5⟩
        refine hK _ _ (fun h => absurd (by decide) h) ?_
        clear hK K
        refine tail_done ?_
        have L6 : Hid (PlayR w w5 (w.heap.size + 3) (gDecide (actAll (gNew R0 C0) (q.take j)) xr xc xrs xcs)) := ⟨k5, L3.out.2.trans ((Below.refl _ wr).drew.trans f5)⟩
        clear k5 f5 d0 d1 d2 d3 d4 hb1
        go_wp2_with fail
        go_roundw
        case rel => exact ⟨j + 1, by go_num, by omega, by rw [SN.out]; exact L6⟩
        case measure => simp [intOf]; omega
    · have e : q.take j = q := List.take_of_length_le (by omega)
      rw [e] at L3
      clear e
      go_wp2_with fail
      go_ret
      exact ⟨rfl, L3.out.1, L3.out.2⟩
end Go.Proofs.Ytihfmcadcojjnaa
