/- (*names.Table).Get. -/
import Derived.Test.YtlcglkanlhmmdaaGreatQN17Set2
namespace Go.Proofs.YtlcglkanlhmmdaaGreat
open Go.RowKit
theorem build_00 (w : World) : (Instr.build 42 #[]).run Tryz.prog w = .ok (nagg nd0 (.slice none 0 0)) w := run_build w 42 _ _ (by kernel_rfl)
def GetR (w : World) (L : List (ByteArray × T)) (s : ByteArray) : Ending → World → Prop := fun e w' =>
  ((getL L s = none ∧ e = .returned (.tuple #[nagg nd0 (.slice none 0 0), .bool false])) ∨
    ∃ u a c S, getL L s = some u ∧ e = .returned (.tuple #[nagg u.o (.slice a u.l.length c), .bool true]) ∧ u.Own w' a S ∧ ∀ k, S k → w.heap.size ≤ k ∧ k < w'.heap.size) ∧ Below w.heap.size w w'
set_option maxHeartbeats 4000000 in
set_option maxRecDepth 100000 in
theorem get_any (L : List (ByteArray × T)) (hz : ∀ p ∈ L, p.2.size ≤ 2097152) (s : ByteArray) (w : World) (pt : Nat) (hT : Tab w pt L) : Calls Tryz.prog 14 #[.pointer (some ⟨pt, 0, none⟩), .string s] w (GetR w L s) := by
  obtain ⟨mo, hp, hV⟩ := hT
  have HP := Lib.hid hp
  have HZ := Lib.hid hz
  have HV := Lib.hid hV
  clear hp hz hV
  rcases HV.out.look s with ⟨hg, hlk⟩ | ⟨u, ua, uc, hg, hA, hlk⟩
  · have HG := Lib.hid hg
    clear hg
    go_enter Tryz.func14, Tryz.ntmps14
    go_upto_region 1 with fail
    refine abs_world ?_
    intro W0 hW0
    have g0 : W0.heap[w.heap.size]? = some (.cells (ncells nd0 (.slice none 0 0)).toArray 42) := by rw [hW0]; exact heap_alloc_new w _
    have hB0 : Below w.heap.size w W0 := by rw [hW0]; (repeat (first | with_reducible exact Below.refl _ _ | with_reducible exact hBW | with_reducible refine Below.setCell ?_ ?_ _ | with_reducible refine Below.alloc ?_ ?_ _ | with_reducible refine belowN ?_ _ | with_reducible refine Below.drew ?_)); all_goals (first | omega | (dsimp only; omega) | ((repeat (first | with_reducible refine le_alloc ?_ | with_reducible refine le_setCell ?_ | with_reducible refine le_drew ?_ | with_reducible refine le_drewN ?_)); omega))
    clear hW0
    have hlk0 := hlk W0 hB0
    have hp0 := (hB0.block _ (lt_of_heap HP.out)).trans HP.out
    have x0 := cell_of_heap hp0 0
    have zp := lt_of_heap hp0
    have G0 := Lib.hid g0
    have HB0 := Lib.hid hB0
    clear g0 hB0 hp0 hlk
    go_upto_region 4 with (refine wpList_store_nd rfl (.tmp 6) (.tmp 18) rfl W0.heap.size 0 (ncells nd0 (.slice none 0 0)) 42 (heap_alloc_new W0 _) (Nat.le_refl _) nd0 (.slice none 0 0) rfl rfl rfl ?_; intro W1 p1 p2 p3)
    have N1 : Hid (W1.heap[W0.heap.size]? = some (.cells (ncells nd0 (.slice none 0 0)).toArray 42)) := p1
    have hB01 : Below W0.heap.size W0 W1 := ((Below.refl _ W0).alloc (Nat.le_refl _) _).trans (p2.below (by simp) (fun k hk => by omega))
    have HB1 : Hid (Below w.heap.size w W1) := HB0.out.trans (hB01.mono HB0.out.size)
    have G1 : Hid (W1.heap[w.heap.size]? = some (.cells (ncells nd0 (.slice none 0 0)).toArray 42)) := (hB01.block _ (lt_of_heap G0.out)).trans G0.out
    clear p1 p2 p3 hB01 hlk0 x0 zp G0 HB0
    go_wp2_with (first | refine wpList_build0 rfl 42 rfl _ build_00 ?_ | (refine wpList_store_nd rfl (.tmp 4) (.tmp 22) rfl w.heap.size 0 (ncells nd0 (.slice none 0 0)) 42 G1.out (Nat.le_refl _) nd0 (.slice none 0 0) rfl rfl rfl ?_; intro W2 p1 p2 p3))
    have p1' : W2.heap[w.heap.size]? = some (.cells (ncells nd0 (.slice none 0 0)).toArray 42) := p1
    refine bodyPost_ret (v := .tuple #[nagg nd0 (.slice none 0 0), .bool false]) (results_nd2 rfl rfl rfl (range_blk p1')) rfl ?_
    exact ⟨.inl ⟨HG.out, rfl⟩, HB1.out.trans (p2.below HB1.out.size (fun k hk => by omega))⟩
  · have HG := Lib.hid hg
    have HA := Lib.hid hA
    have HUZ : Hid (u.size ≤ 2097152) := HZ.out (s, u) (mem_of_getL hg)
    clear hg hA
    go_enter Tryz.func14, Tryz.ntmps14
    go_upto_region 1 with fail
    refine abs_world ?_
    intro W0 hW0
    have g0 : W0.heap[w.heap.size]? = some (.cells (ncells nd0 (.slice none 0 0)).toArray 42) := by rw [hW0]; exact heap_alloc_new w _
    have hB0 : Below w.heap.size w W0 := by rw [hW0]; (repeat (first | with_reducible exact Below.refl _ _ | with_reducible exact hBW | with_reducible refine Below.setCell ?_ ?_ _ | with_reducible refine Below.alloc ?_ ?_ _ | with_reducible refine belowN ?_ _ | with_reducible refine Below.drew ?_)); all_goals (first | omega | (dsimp only; omega) | ((repeat (first | with_reducible refine le_alloc ?_ | with_reducible refine le_setCell ?_ | with_reducible refine le_drew ?_ | with_reducible refine le_drewN ?_)); omega))
    clear hW0
    have hlk0 := hlk W0 hB0
    have hp0 := (hB0.block _ (lt_of_heap HP.out)).trans HP.out
    have x0 := cell_of_heap hp0 0
    have zp := lt_of_heap hp0
    have G0 := Lib.hid g0
    have HB0 := Lib.hid hB0
    clear g0 hB0 hp0 hlk
    go_upto_region 4 with (refine wpList_store_nd rfl (.tmp 6) (.tmp 18) rfl W0.heap.size 0 (ncells nd0 (.slice none 0 0)) 42 (heap_alloc_new W0 _) (Nat.le_refl _) u.o (.slice ua u.l.length uc) rfl rfl rfl ?_; intro W1 p1 p2 p3)
    have N1 : Hid (W1.heap[W0.heap.size]? = some (.cells (ncells u.o (.slice ua u.l.length uc)).toArray 42)) := p1
    have hB01 : Below W0.heap.size W0 W1 := ((Below.refl _ W0).alloc (Nat.le_refl _) _).trans (p2.below (by simp) (fun k hk => by omega))
    have HB1 : Hid (Below w.heap.size w W1) := HB0.out.trans (hB01.mono HB0.out.size)
    have G1 : Hid (W1.heap[w.heap.size]? = some (.cells (ncells nd0 (.slice none 0 0)).toArray 42)) := (hB01.block _ (lt_of_heap G0.out)).trans G0.out
    clear p1 p2 p3 hB01 hlk0 x0 zp G0 HB0
    have RN := Lib.hid (range_blk N1.out)
    go_wp2_with (refine wpList_load_g rfl 42 (.tmp 6) rfl W0.heap.size 0 rfl _ _ RN.out Tryz.underlying42 rfl info35 ?_)
    refine (copied_any u HUZ.out _ W1 ⟨ua, uc, rfl, HA.out.below HB1.out u⟩).mono ?_
    rintro e w3 ⟨a3, S3, rfl, hO3, hS3, hb3⟩
    have HB3 : Hid (Below w.heap.size w w3) := HB1.out.trans (hb3.mono HB1.out.size)
    have G3 : Hid (w3.heap[w.heap.size]? = some (.cells (ncells nd0 (.slice none 0 0)).toArray 42)) := (hb3.block _ (lt_of_heap G1.out)).trans G1.out
    have HO3 := Lib.hid hO3
    have HS3 : Hid (∀ k, S3 k → w.heap.size + 1 ≤ k ∧ k < w3.heap.size) := fun k hk => ⟨Nat.le_trans (lt_of_heap G1.out) (hS3 k hk).1, (hS3 k hk).2⟩
    clear hO3 hS3 hb3 HB1 G1 RN N1
    go_wp2_with (refine wpList_store_nd rfl (.tmp 4) (.tmp 24) rfl w.heap.size 0 (ncells nd0 (.slice none 0 0)) 42 G3.out (Nat.le_refl _) u.o (.slice a3 u.l.length u.l.length) rfl rfl rfl ?_; intro W2 p1 p2 p3)
    have p1' : W2.heap[w.heap.size]? = some (.cells (ncells u.o (.slice a3 u.l.length u.l.length)).toArray 42) := p1
    refine bodyPost_ret (v := .tuple #[nagg u.o (.slice a3 u.l.length u.l.length), .bool true]) (results_nd2 rfl rfl rfl (range_blk p1')) rfl ?_
    exact ⟨.inr ⟨u, a3, u.l.length, S3, HG.out, rfl, HO3.out.frame u (fun k hk hl => p2.block k hl (by have := HS3.out k hk; omega)), fun k hk => by have := HS3.out k hk; omega⟩, HB3.out.trans (p2.below HB3.out.size (fun k hk => by omega))⟩
end Go.Proofs.YtlcglkanlhmmdaaGreat
