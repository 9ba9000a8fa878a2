/- A family's Call: a name that it has not. -/
import Derived.Test.YtndhmahkglfopaaGreatDoorQT16CB
import Derived.Test.YtndhmahkglfopaaGreatDoorQT16T117
namespace Go.Proofs.YtndhmahkglfopaaGreatDoor
open Go.RowKit
def MissPost (w : World) (e : Ending) (w' : World) : Prop := e = .returned (.tuple #[.agg #[.int .i64 0, .int .i64 0, .slice none 0 0], .bool false]) ∧ Below w.heap.size w w'
theorem zero142 (w : World) : (zeroValue 142).run Tryz.prog w = .ok (.agg #[.int .i64 0, .int .i64 0, .nilFunc]) w := by kernel_rfl
theorem zero148 (w : World) : (zeroValue 148).run Tryz.prog w = .ok (.agg #[.int .i64 0, .int .i64 0, .nilFunc]) w := by kernel_rfl
theorem zero154 (w : World) : (zeroValue 154).run Tryz.prog w = .ok (.agg #[.int .i64 0, .int .i64 0, .nilFunc]) w := by kernel_rfl
section
variable (s : ByteArray) (a : Option Addr) (n cap : Nat) (w : World)
set_option maxHeartbeats 2000000
set_option maxRecDepth 100000
/- $1: the function, $2: its table's contract, $3: the struct, $4: the map's type -/
theorem call82_miss (hn : newKey keys112 s = true) : Calls Tryz.prog 82 #[.string s, .slice a n cap] w (MissPost w) := by
  have HTB := Lib.hid tab112_any
  have HN := Lib.hid hn
  clear hn
  go_enter Tryz.func82, Tryz.ntmps82
  go_wp2_with fail
  refine (HTB.out _).mono ?_
  intro e w1 ht
  have hbw : Below w.heap.size w w1 := by
    obtain ⟨_, _, _, _, _, hb, _⟩ := ht
    refine Below.trans ?_ (hb.mono (by simp))
    (repeat with_reducible (first | exact bw0 _ _ | exact hBW | refine bw1 ?_ ?_ _ | refine bw2 ?_ ?_ _ | refine bw3 ?_ _ | refine bw4 ?_)); all_goals (first | omega | (dsimp only; omega) | ((repeat with_reducible (first | refine lz1 ?_ | refine lz2 ?_ | refine lz3 ?_ | refine lz4 ?_)); omega))
  have hbw2 := ht
  obtain ⟨BB, l, rfl, hm, hk, hb⟩ := hbw2
  have hl := hm.look2 (string_fits Tryz.underlying9) Tryz.underlying129 (zero134 w1) s
  rw [TabSt.miss hk HN.out] at hl
  simp only [Option.map_none, Option.getD_none, Option.isSome_none] at hl
  have g0 : w1.heap[w.heap.size]? = some (.cells #[.int .i64 0, .int .i64 0, .slice none 0 0] 28) := (hb.1.block _ (by simp)).trans (by (repeat (first | (with_reducible refine bw5 ?_ _; (first | rfl | (simp; done) | omega | (simp; omega)); done) | with_reducible refine bw6 ?_ _ | with_reducible refine bw7 ?_ | with_reducible refine bw8 ?_)))
  have FB := Lib.hid hbw
  have x0 := cell_of_heap g0
  have y0 := frozen_of_heap g0
  have z0 := lt_of_heap g0
  clear g0 hb hbw ht hm hk
  go_wp2_with fail
  have hBW := FB.out
  have hsz := hBW.size
  refine bodyPost_ret (v := .tuple #[.agg #[.int .i64 0, .int .i64 0, .slice none 0 0], .bool false]) (by simp [results, Tryz.results82, go_sem, x0, z0]) rfl ⟨rfl, ?_⟩
  (repeat with_reducible (first | exact bw0 _ _ | exact hBW | refine bw1 ?_ ?_ _ | refine bw2 ?_ ?_ _ | refine bw3 ?_ _ | refine bw4 ?_)); all_goals (first | omega | (dsimp only; omega) | ((repeat with_reducible (first | refine lz1 ?_ | refine lz2 ?_ | refine lz3 ?_ | refine lz4 ?_)); omega))
theorem call85_miss (hn : newKey keys117 s = true) : Calls Tryz.prog 85 #[.string s, .slice a n cap] w (MissPost w) := by
  have HTB := Lib.hid tab117_any
  have HN := Lib.hid hn
  clear hn
  go_enter Tryz.func85, Tryz.ntmps85
  go_wp2_with fail
  refine (HTB.out _).mono ?_
  intro e w1 ht
  have hbw : Below w.heap.size w w1 := by
    obtain ⟨_, _, _, _, _, hb⟩ := ht
    refine Below.trans ?_ (hb.mono (by simp))
    (repeat with_reducible (first | exact bw0 _ _ | exact hBW | refine bw1 ?_ ?_ _ | refine bw2 ?_ ?_ _ | refine bw3 ?_ _ | refine bw4 ?_)); all_goals (first | omega | (dsimp only; omega) | ((repeat with_reducible (first | refine lz1 ?_ | refine lz2 ?_ | refine lz3 ?_ | refine lz4 ?_)); omega))
  have hbw2 := ht
  obtain ⟨BB, l, rfl, hm, hk, hb⟩ := hbw2
  have hl := hm.look2 (string_fits Tryz.underlying9) Tryz.underlying140 (zero142 w1) s
  rw [TabSt.miss hk HN.out] at hl
  simp only [Option.map_none, Option.getD_none, Option.isSome_none] at hl
  have g0 : w1.heap[w.heap.size]? = some (.cells #[.int .i64 0, .int .i64 0, .slice none 0 0] 28) := (hb.block _ (by simp)).trans (by (repeat (first | (with_reducible refine bw5 ?_ _; (first | rfl | (simp; done) | omega | (simp; omega)); done) | with_reducible refine bw6 ?_ _ | with_reducible refine bw7 ?_ | with_reducible refine bw8 ?_)))
  have FB := Lib.hid hbw
  have x0 := cell_of_heap g0
  have y0 := frozen_of_heap g0
  have z0 := lt_of_heap g0
  clear g0 hb hbw ht hm hk
  go_wp2_with fail
  have hBW := FB.out
  have hsz := hBW.size
  refine bodyPost_ret (v := .tuple #[.agg #[.int .i64 0, .int .i64 0, .slice none 0 0], .bool false]) (by simp [results, Tryz.results85, go_sem, x0, z0]) rfl ⟨rfl, ?_⟩
  (repeat with_reducible (first | exact bw0 _ _ | exact hBW | refine bw1 ?_ ?_ _ | refine bw2 ?_ ?_ _ | refine bw3 ?_ _ | refine bw4 ?_)); all_goals (first | omega | (dsimp only; omega) | ((repeat with_reducible (first | refine lz1 ?_ | refine lz2 ?_ | refine lz3 ?_ | refine lz4 ?_)); omega))
theorem call88_miss (hn : newKey keys120 s = true) : Calls Tryz.prog 88 #[.string s, .slice a n cap] w (MissPost w) := by
  have HTB := Lib.hid tab120_any
  have HN := Lib.hid hn
  clear hn
  go_enter Tryz.func88, Tryz.ntmps88
  go_wp2_with fail
  refine (HTB.out _).mono ?_
  intro e w1 ht
  have hbw : Below w.heap.size w w1 := by
    obtain ⟨_, _, _, _, _, hb⟩ := ht
    refine Below.trans ?_ (hb.mono (by simp))
    (repeat with_reducible (first | exact bw0 _ _ | exact hBW | refine bw1 ?_ ?_ _ | refine bw2 ?_ ?_ _ | refine bw3 ?_ _ | refine bw4 ?_)); all_goals (first | omega | (dsimp only; omega) | ((repeat with_reducible (first | refine lz1 ?_ | refine lz2 ?_ | refine lz3 ?_ | refine lz4 ?_)); omega))
  have hbw2 := ht
  obtain ⟨BB, l, rfl, hm, hk, hb⟩ := hbw2
  have hl := hm.look2 (string_fits Tryz.underlying9) Tryz.underlying146 (zero148 w1) s
  rw [TabSt.miss hk HN.out] at hl
  simp only [Option.map_none, Option.getD_none, Option.isSome_none] at hl
  have g0 : w1.heap[w.heap.size]? = some (.cells #[.int .i64 0, .int .i64 0, .slice none 0 0] 28) := (hb.block _ (by simp)).trans (by (repeat (first | (with_reducible refine bw5 ?_ _; (first | rfl | (simp; done) | omega | (simp; omega)); done) | with_reducible refine bw6 ?_ _ | with_reducible refine bw7 ?_ | with_reducible refine bw8 ?_)))
  have FB := Lib.hid hbw
  have x0 := cell_of_heap g0
  have y0 := frozen_of_heap g0
  have z0 := lt_of_heap g0
  clear g0 hb hbw ht hm hk
  go_wp2_with fail
  have hBW := FB.out
  have hsz := hBW.size
  refine bodyPost_ret (v := .tuple #[.agg #[.int .i64 0, .int .i64 0, .slice none 0 0], .bool false]) (by simp [results, Tryz.results88, go_sem, x0, z0]) rfl ⟨rfl, ?_⟩
  (repeat with_reducible (first | exact bw0 _ _ | exact hBW | refine bw1 ?_ ?_ _ | refine bw2 ?_ ?_ _ | refine bw3 ?_ _ | refine bw4 ?_)); all_goals (first | omega | (dsimp only; omega) | ((repeat with_reducible (first | refine lz1 ?_ | refine lz2 ?_ | refine lz3 ?_ | refine lz4 ?_)); omega))
theorem call91_miss (hn : newKey keys123 s = true) : Calls Tryz.prog 91 #[.string s, .slice a n cap] w (MissPost w) := by
  have HTB := Lib.hid tab123_any
  have HN := Lib.hid hn
  clear hn
  go_enter Tryz.func91, Tryz.ntmps91
  go_wp2_with fail
  refine (HTB.out _).mono ?_
  intro e w1 ht
  have hbw : Below w.heap.size w w1 := by
    obtain ⟨_, _, _, _, _, hb⟩ := ht
    refine Below.trans ?_ (hb.mono (by simp))
    (repeat with_reducible (first | exact bw0 _ _ | exact hBW | refine bw1 ?_ ?_ _ | refine bw2 ?_ ?_ _ | refine bw3 ?_ _ | refine bw4 ?_)); all_goals (first | omega | (dsimp only; omega) | ((repeat with_reducible (first | refine lz1 ?_ | refine lz2 ?_ | refine lz3 ?_ | refine lz4 ?_)); omega))
  have hbw2 := ht
  obtain ⟨BB, l, rfl, hm, hk, hb⟩ := hbw2
  have hl := hm.look2 (string_fits Tryz.underlying9) Tryz.underlying152 (zero154 w1) s
  rw [TabSt.miss hk HN.out] at hl
  simp only [Option.map_none, Option.getD_none, Option.isSome_none] at hl
  have g0 : w1.heap[w.heap.size]? = some (.cells #[.int .i64 0, .int .i64 0, .slice none 0 0] 28) := (hb.block _ (by simp)).trans (by (repeat (first | (with_reducible refine bw5 ?_ _; (first | rfl | (simp; done) | omega | (simp; omega)); done) | with_reducible refine bw6 ?_ _ | with_reducible refine bw7 ?_ | with_reducible refine bw8 ?_)))
  have FB := Lib.hid hbw
  have x0 := cell_of_heap g0
  have y0 := frozen_of_heap g0
  have z0 := lt_of_heap g0
  clear g0 hb hbw ht hm hk
  go_wp2_with fail
  have hBW := FB.out
  have hsz := hBW.size
  refine bodyPost_ret (v := .tuple #[.agg #[.int .i64 0, .int .i64 0, .slice none 0 0], .bool false]) (by simp [results, Tryz.results91, go_sem, x0, z0]) rfl ⟨rfl, ?_⟩
  (repeat with_reducible (first | exact bw0 _ _ | exact hBW | refine bw1 ?_ ?_ _ | refine bw2 ?_ ?_ _ | refine bw3 ?_ _ | refine bw4 ?_)); all_goals (first | omega | (dsimp only; omega) | ((repeat with_reducible (first | refine lz1 ?_ | refine lz2 ?_ | refine lz3 ?_ | refine lz4 ?_)); omega))
end
end Go.Proofs.YtndhmahkglfopaaGreatDoor
