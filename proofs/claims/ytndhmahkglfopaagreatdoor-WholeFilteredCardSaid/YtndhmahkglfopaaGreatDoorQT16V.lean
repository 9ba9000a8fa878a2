/- num's reader: digit, take. -/
import Derived.Test.YtndhmahkglfopaaGreatDoorQT13Right
import Derived.Test.YtndhmahkglfopaaGreatDoorQT16P
namespace Go.Proofs.YtndhmahkglfopaaGreatDoor
open Go.RowKit
/-- A reader in block rb, whose digits lie in memory from block B on. -/
structure RdAt (B rb : Nat) (r : RS) (v : Value) (W : World) : Prop where
  blk : W.heap[rb]? = some (.cells #[.int .i64 r.st, .bool r.ng, .bool r.np, v, .int .i64 r.bh, .int .i64 r.pw] 194 (0, 0))
  own : W.ownsRow B 5 1 v r.D.length (r.D.map dv)
  le : B ≤ W.heap.size
def RdFr (rb : Nat) (v : Value) (W W' : World) : Prop := Fr (fun k => k = rb ∨ v.ownBlock = some k) W W'
theorem row_ne_rd {w : World} {B p : Nat} {v : Value} {n : Nat} {xs cs : List Value} (h : w.ownsRow B 5 1 v n xs) (hp : w.heap[p]? = some (.cells cs.toArray 194 (0, 0))) : ∀ k, v.ownBlock = some k → k ≠ p ∧ B ≤ k := fun k hk => by
  rcases h.2 with ⟨e, _⟩ | ⟨g, cap, cur, hv, hg, hh, _⟩
  · rw [e] at hk; cases hk
  · rw [hv] at hk
    simp [Value.ownBlock] at hk
    subst hk
    exact ⟨fun e => by rw [e, hp] at hh; simp at hh, hg⟩
theorem RdAt.ne {B rb : Nat} {r : RS} {v : Value} {W : World} (h : RdAt B rb r v W) : ∀ k, v.ownBlock = some k → k ≠ rb ∧ B ≤ k :=
  row_ne_rd (cs := [.int .i64 r.st, .bool r.ng, .bool r.np, v, .int .i64 r.bh, .int .i64 r.pw]) h.own h.blk
theorem RdAt.put {B rb : Nat} {r r' : RS} {v : Value} {W : World} (h : RdAt B rb r v W) (o : Nat) (x : Value)
    (hc : (#[.int .i64 r.st, .bool r.ng, .bool r.np, v, .int .i64 r.bh, .int .i64 r.pw] : Array Value).setIfInBounds o x = #[.int .i64 r'.st, .bool r'.ng, .bool r'.np, v, .int .i64 r'.bh, .int .i64 r'.pw]) (hD : r'.D = r.D) : RdAt B rb r' v (W.setCell ⟨rb, o, none⟩ x) := by
  refine ⟨?_, ?_, by rw [World.size_setCell]; exact h.le⟩
  · rw [← hc]
    exact heap_setCell_at h.blk o x
  · rw [hD]
    exact own_of_block h.own (fun k hk _ => Below.heap_setCell _ _ _ _ (h.ne k hk).1)
theorem RdFr.put {rb : Nat} {v : Value} {W W' : World} (h : RdFr rb v W W') (o : Nat) (x : Value) : RdFr rb v W (W'.setCell ⟨rb, o, none⟩ x) :=
  Fr.trans h (Fr.setCell W' ⟨rb, o, none⟩ x) (fun _ _ h => .inl h)
theorem RdFr.refl (rb : Nat) (v : Value) (W : World) : RdFr rb v W W := Fr.refl _ _
/-- An append's new row. -/
theorem RdAt.app {B rb : Nat} {r r' : RS} {v v' : Value} {W wN : World} {d : Nat} (h : RdAt B rb r v W) (arr : Array Value) (hg : (W.alloc (.cells arr 5)).grownBy wN v.ownBlock) (hown : wN.ownsRow B 5 1 v' (r.D.length + 1) (r.D.map dv ++ [.int .u8 (d : Int)]))
    (hr : r' = ⟨r.st, r.ng, r.np, r.D ++ [d], r.bh, r.pw⟩) : RdAt B rb r' v' (wN.setCell ⟨rb, 3, none⟩ v') := by
  have hb : wN.heap[rb]? = some (.cells #[.int .i64 r.st, .bool r.ng, .bool r.np, v, .int .i64 r.bh, .int .i64 r.pw] 194 (0, 0)) :=
    ((Fr.grown hg).block rb (by rw [World.size_alloc]; have := lt_of_heap h.blk; omega) (fun e => (h.ne rb e.symm).1 rfl)).trans (heap_alloc_old h.blk _)
  subst hr
  refine ⟨heap_setCell_at hb 3 v', ?_, ?_⟩
  · have hne := row_ne_rd (cs := [.int .i64 r.st, .bool r.ng, .bool r.np, v, .int .i64 r.bh, .int .i64 r.pw]) hown hb
    rw [List.length_append, List.map_append]
    exact own_of_block hown (fun k hk _ => Below.heap_setCell _ _ _ _ (hne k hk).1)
  · rw [World.size_setCell]
    have := hg.size
    rw [World.size_alloc] at this
    have := h.le
    omega
theorem RdFr.app {B rb : Nat} {r : RS} {v v' : Value} {W0 W wN : World} (h0 : RdFr rb v W0 W) (_h : RdAt B rb r v W) (arr : Array Value) (hg : (W.alloc (.cells arr 5)).grownBy wN v.ownBlock) : RdFr rb v W0 (wN.setCell ⟨rb, 3, none⟩ v') := by
  have h1 : Fr (fun k => k = rb ∨ v.ownBlock = some k) W (W.alloc (.cells arr 5)) := Fr.of_below (below_alloc W _ _ (Nat.le_refl _))
  have h2 := Fr.trans h1 (Fr.grown hg) (fun k _ e => .inr e.symm)
  exact RdFr.put (Fr.trans h0 h2 (fun _ _ h => h)) 3 v'
def DigEnd (B rb : Nat) (r' : RS) (v : Value) (W : World) (e : Ending) (W' : World) : Prop := e = .returned (.tuple #[]) ∧ ∃ v', RdAt B rb r' v' W' ∧ RdFr rb v W W'
section
variable (B rb : Nat) (c d : Nat) (v : Value) (w : World)
set_option maxHeartbeats 2000000
set_option maxRecDepth 100000
theorem RdAt.keep {B rb : Nat} {r : RS} {v : Value} {W wN : World} (h : RdAt B rb r v W) (arr : Array Value) (hg : (W.alloc (.cells arr 5)).grownBy wN v.ownBlock) : wN.heap[rb]? = some (.cells #[.int .i64 r.st, .bool r.ng, .bool r.np, v, .int .i64 r.bh, .int .i64 r.pw] 194 (0, 0)) :=
  ((Fr.grown hg).block rb (by rw [World.size_alloc]; have := lt_of_heap h.blk; omega) (fun e => (h.ne rb e.symm).1 rfl)).trans (heap_alloc_old h.blk _)
/- digit from a state that appends; $1: the reader behind its stores, $2: its world (RA: RdAt there, RF: RdFr) -/
theorem digit_0 (r : RS) (hs : r.st = 0) (hDl : r.D.length ≤ 300) (HR : Hid (RdAt B rb r v w)) (h48 : 48 ≤ c) (h57 : c ≤ 57) (hd : d = c - 48) : Calls Tryz.prog 309 #[.pointer (some ⟨rb, 0, none⟩), .int .i32 c] w (DigEnd B rb (digitP r c) v w) := by
  obtain ⟨i0, hi, hz0, hz1, hz2⟩ := info_parts info5
  have HI := Lib.hid hi
  have HZ0 := Lib.hid hz0
  have HZ1 := Lib.hid hz1
  have HZ2 := Lib.hid hz2
  have HD := Lib.hid hd
  have w32 : IntKind.i32.wrap ((c : Int) - 48) = (d : Int) := by rw [hd, show ((c : Int) - 48) = ((c - 48 : Nat) : Int) by omega]; exact IntWalk.i32_in _ (by omega)
  have w8 : IntKind.u8.wrap (d : Int) = (d : Int) := IntWalk.u8_in _ (by omega)
  have x0 := cell_of_heap HR.out.blk 0
  have x3 := cell_of_heap HR.out.blk 3
  have x4 := cell_of_heap HR.out.blk 4
  have x5 := cell_of_heap HR.out.blk 5
  have y0 := frozen_of_heap HR.out.blk
  have z0 := lt_of_heap HR.out.blk
  rw [hs] at x0
  clear hi hz0 hz1 hz2 hd
  have RA : Hid (RdAt B rb ⟨2, r.ng, r.np, r.D, r.bh, r.pw⟩ v (w.setCell ⟨rb, 0, none⟩ (.int .i64 2))) := HR.out.put 0 (.int .i64 2) rfl rfl
  have RF : Hid (RdFr rb v w (w.setCell ⟨rb, 0, none⟩ (.int .i64 2))) := (RdFr.refl rb v w).put 0 (.int .i64 2)
  go_enter Tryz.func309, Tryz.ntmps309
  have HEQ : Hid (digitP r c = ⟨(⟨2, r.ng, r.np, r.D, r.bh, r.pw⟩ : RS).st, (⟨2, r.ng, r.np, r.D, r.bh, r.pw⟩ : RS).ng, (⟨2, r.ng, r.np, r.D, r.bh, r.pw⟩ : RS).np, (⟨2, r.ng, r.np, r.D, r.bh, r.pw⟩ : RS).D ++ [d], (⟨2, r.ng, r.np, r.D, r.bh, r.pw⟩ : RS).bh, (⟨2, r.ng, r.np, r.D, r.bh, r.pw⟩ : RS).pw⟩) := by
    unfold Hid digitP
    rw [HD.out]
    simp [hs]
  have hle : B ≤ (World.heap (w.setCell ⟨rb, 0, none⟩ (.int .i64 2))).size := RA.out.le
  have RO : Hid (World.ownsRow (w.setCell ⟨rb, 0, none⟩ (.int .i64 2)) B 5 1 v r.D.length (r.D.map dv)) := RA.out.own
  clear HR
  go_wp2_with (
    at_builtin
    refine wpList_append_own_at _ rfl _ _ 87 rfl B 5 i0 (.int .u8 0) 1 1 Tryz.underlying87 HI.out HZ0.out HZ1.out HZ2.out rfl (by decide) v r.D.length (r.D.map dv) rfl (RO.out.alloc _) ⟨w.heap.size, 0, none⟩ 1 1 [.int .u8 d] rfl rfl (fun j u hj => by have := cells_new (w.setCell ⟨rb, 0, none⟩ (.int .i64 2)) #[.int .u8 d] 5 j u hj; simp only [World.size_setCell] at this; exact this) (by simp [Value.oneCell']) (by unfold maxLen; omega) (by omega) (by simp at hle ⊢; omega) ?_
    intro v' wN hown hgrow _ _
    obtain ⟨gb, cap5, rfl⟩ := ownsRow_succ hown
    have hb := RA.out.keep _ hgrow
    have x3 := cell_of_heap hb 3
    have y3 := frozen_of_heap hb
    have z3 := lt_of_heap hb
    have FIN := Lib.hid (And.intro (RA.out.app _ hgrow hown HEQ.out) (RF.out.app (v' := .slice (some ⟨gb, 0, none⟩) (r.D.length + 1) cap5) RA.out _ hgrow))
    clear hb hown hgrow)
  exact bodyPost_end (v := .tuple #[]) (by simp [results, Tryz.results309, go_sem]) rfl ⟨rfl, _, FIN.out.1, FIN.out.2⟩
theorem digit_1 (r : RS) (hs : r.st = 1) (hDl : r.D.length ≤ 300) (HR : Hid (RdAt B rb r v w)) (h48 : 48 ≤ c) (h57 : c ≤ 57) (hd : d = c - 48) : Calls Tryz.prog 309 #[.pointer (some ⟨rb, 0, none⟩), .int .i32 c] w (DigEnd B rb (digitP r c) v w) := by
  obtain ⟨i0, hi, hz0, hz1, hz2⟩ := info_parts info5
  have HI := Lib.hid hi
  have HZ0 := Lib.hid hz0
  have HZ1 := Lib.hid hz1
  have HZ2 := Lib.hid hz2
  have HD := Lib.hid hd
  have w32 : IntKind.i32.wrap ((c : Int) - 48) = (d : Int) := by rw [hd, show ((c : Int) - 48) = ((c - 48 : Nat) : Int) by omega]; exact IntWalk.i32_in _ (by omega)
  have w8 : IntKind.u8.wrap (d : Int) = (d : Int) := IntWalk.u8_in _ (by omega)
  have x0 := cell_of_heap HR.out.blk 0
  have x3 := cell_of_heap HR.out.blk 3
  have x4 := cell_of_heap HR.out.blk 4
  have x5 := cell_of_heap HR.out.blk 5
  have y0 := frozen_of_heap HR.out.blk
  have z0 := lt_of_heap HR.out.blk
  rw [hs] at x0
  clear hi hz0 hz1 hz2 hd
  have RA : Hid (RdAt B rb ⟨2, r.ng, r.np, r.D, r.bh, r.pw⟩ v (w.setCell ⟨rb, 0, none⟩ (.int .i64 2))) := HR.out.put 0 (.int .i64 2) rfl rfl
  have RF : Hid (RdFr rb v w (w.setCell ⟨rb, 0, none⟩ (.int .i64 2))) := (RdFr.refl rb v w).put 0 (.int .i64 2)
  go_enter Tryz.func309, Tryz.ntmps309
  have HEQ : Hid (digitP r c = ⟨(⟨2, r.ng, r.np, r.D, r.bh, r.pw⟩ : RS).st, (⟨2, r.ng, r.np, r.D, r.bh, r.pw⟩ : RS).ng, (⟨2, r.ng, r.np, r.D, r.bh, r.pw⟩ : RS).np, (⟨2, r.ng, r.np, r.D, r.bh, r.pw⟩ : RS).D ++ [d], (⟨2, r.ng, r.np, r.D, r.bh, r.pw⟩ : RS).bh, (⟨2, r.ng, r.np, r.D, r.bh, r.pw⟩ : RS).pw⟩) := by
    unfold Hid digitP
    rw [HD.out]
    simp [hs]
  have hle : B ≤ (World.heap (w.setCell ⟨rb, 0, none⟩ (.int .i64 2))).size := RA.out.le
  have RO : Hid (World.ownsRow (w.setCell ⟨rb, 0, none⟩ (.int .i64 2)) B 5 1 v r.D.length (r.D.map dv)) := RA.out.own
  clear HR
  go_wp2_with (
    at_builtin
    refine wpList_append_own_at _ rfl _ _ 87 rfl B 5 i0 (.int .u8 0) 1 1 Tryz.underlying87 HI.out HZ0.out HZ1.out HZ2.out rfl (by decide) v r.D.length (r.D.map dv) rfl (RO.out.alloc _) ⟨w.heap.size, 0, none⟩ 1 1 [.int .u8 d] rfl rfl (fun j u hj => by have := cells_new (w.setCell ⟨rb, 0, none⟩ (.int .i64 2)) #[.int .u8 d] 5 j u hj; simp only [World.size_setCell] at this; exact this) (by simp [Value.oneCell']) (by unfold maxLen; omega) (by omega) (by simp at hle ⊢; omega) ?_
    intro v' wN hown hgrow _ _
    obtain ⟨gb, cap5, rfl⟩ := ownsRow_succ hown
    have hb := RA.out.keep _ hgrow
    have x3 := cell_of_heap hb 3
    have y3 := frozen_of_heap hb
    have z3 := lt_of_heap hb
    have FIN := Lib.hid (And.intro (RA.out.app _ hgrow hown HEQ.out) (RF.out.app (v' := .slice (some ⟨gb, 0, none⟩) (r.D.length + 1) cap5) RA.out _ hgrow))
    clear hb hown hgrow)
  exact bodyPost_end (v := .tuple #[]) (by simp [results, Tryz.results309, go_sem]) rfl ⟨rfl, _, FIN.out.1, FIN.out.2⟩
theorem digit_2 (r : RS) (hs : r.st = 2) (hDl : r.D.length ≤ 300) (HR : Hid (RdAt B rb r v w)) (h48 : 48 ≤ c) (h57 : c ≤ 57) (hd : d = c - 48) : Calls Tryz.prog 309 #[.pointer (some ⟨rb, 0, none⟩), .int .i32 c] w (DigEnd B rb (digitP r c) v w) := by
  obtain ⟨i0, hi, hz0, hz1, hz2⟩ := info_parts info5
  have HI := Lib.hid hi
  have HZ0 := Lib.hid hz0
  have HZ1 := Lib.hid hz1
  have HZ2 := Lib.hid hz2
  have HD := Lib.hid hd
  have w32 : IntKind.i32.wrap ((c : Int) - 48) = (d : Int) := by rw [hd, show ((c : Int) - 48) = ((c - 48 : Nat) : Int) by omega]; exact IntWalk.i32_in _ (by omega)
  have w8 : IntKind.u8.wrap (d : Int) = (d : Int) := IntWalk.u8_in _ (by omega)
  have x0 := cell_of_heap HR.out.blk 0
  have x3 := cell_of_heap HR.out.blk 3
  have x4 := cell_of_heap HR.out.blk 4
  have x5 := cell_of_heap HR.out.blk 5
  have y0 := frozen_of_heap HR.out.blk
  have z0 := lt_of_heap HR.out.blk
  rw [hs] at x0
  clear hi hz0 hz1 hz2 hd
  have RA : Hid (RdAt B rb ⟨2, r.ng, r.np, r.D, r.bh, r.pw⟩ v (w.setCell ⟨rb, 0, none⟩ (.int .i64 2))) := HR.out.put 0 (.int .i64 2) rfl rfl
  have RF : Hid (RdFr rb v w (w.setCell ⟨rb, 0, none⟩ (.int .i64 2))) := (RdFr.refl rb v w).put 0 (.int .i64 2)
  go_enter Tryz.func309, Tryz.ntmps309
  have HEQ : Hid (digitP r c = ⟨(⟨2, r.ng, r.np, r.D, r.bh, r.pw⟩ : RS).st, (⟨2, r.ng, r.np, r.D, r.bh, r.pw⟩ : RS).ng, (⟨2, r.ng, r.np, r.D, r.bh, r.pw⟩ : RS).np, (⟨2, r.ng, r.np, r.D, r.bh, r.pw⟩ : RS).D ++ [d], (⟨2, r.ng, r.np, r.D, r.bh, r.pw⟩ : RS).bh, (⟨2, r.ng, r.np, r.D, r.bh, r.pw⟩ : RS).pw⟩) := by
    unfold Hid digitP
    rw [HD.out]
    simp [hs]
  have hle : B ≤ (World.heap (w.setCell ⟨rb, 0, none⟩ (.int .i64 2))).size := RA.out.le
  have RO : Hid (World.ownsRow (w.setCell ⟨rb, 0, none⟩ (.int .i64 2)) B 5 1 v r.D.length (r.D.map dv)) := RA.out.own
  clear HR
  go_wp2_with (
    at_builtin
    refine wpList_append_own_at _ rfl _ _ 87 rfl B 5 i0 (.int .u8 0) 1 1 Tryz.underlying87 HI.out HZ0.out HZ1.out HZ2.out rfl (by decide) v r.D.length (r.D.map dv) rfl (RO.out.alloc _) ⟨w.heap.size, 0, none⟩ 1 1 [.int .u8 d] rfl rfl (fun j u hj => by have := cells_new (w.setCell ⟨rb, 0, none⟩ (.int .i64 2)) #[.int .u8 d] 5 j u hj; simp only [World.size_setCell] at this; exact this) (by simp [Value.oneCell']) (by unfold maxLen; omega) (by omega) (by simp at hle ⊢; omega) ?_
    intro v' wN hown hgrow _ _
    obtain ⟨gb, cap5, rfl⟩ := ownsRow_succ hown
    have hb := RA.out.keep _ hgrow
    have x3 := cell_of_heap hb 3
    have y3 := frozen_of_heap hb
    have z3 := lt_of_heap hb
    have FIN := Lib.hid (And.intro (RA.out.app _ hgrow hown HEQ.out) (RF.out.app (v' := .slice (some ⟨gb, 0, none⟩) (r.D.length + 1) cap5) RA.out _ hgrow))
    clear hb hown hgrow)
  exact bodyPost_end (v := .tuple #[]) (by simp [results, Tryz.results309, go_sem]) rfl ⟨rfl, _, FIN.out.1, FIN.out.2⟩
theorem digit_3 (r : RS) (hs : r.st = 3) (hDl : r.D.length ≤ 300) (hbh : r.bh ≤ 300) (HR : Hid (RdAt B rb r v w)) (h48 : 48 ≤ c) (h57 : c ≤ 57) (hd : d = c - 48) : Calls Tryz.prog 309 #[.pointer (some ⟨rb, 0, none⟩), .int .i32 c] w (DigEnd B rb (digitP r c) v w) := by
  obtain ⟨i0, hi, hz0, hz1, hz2⟩ := info_parts info5
  have HI := Lib.hid hi
  have HZ0 := Lib.hid hz0
  have HZ1 := Lib.hid hz1
  have HZ2 := Lib.hid hz2
  have HD := Lib.hid hd
  have w32 : IntKind.i32.wrap ((c : Int) - 48) = (d : Int) := by rw [hd, show ((c : Int) - 48) = ((c - 48 : Nat) : Int) by omega]; exact IntWalk.i32_in _ (by omega)
  have w8 : IntKind.u8.wrap (d : Int) = (d : Int) := IntWalk.u8_in _ (by omega)
  have x0 := cell_of_heap HR.out.blk 0
  have x3 := cell_of_heap HR.out.blk 3
  have x4 := cell_of_heap HR.out.blk 4
  have x5 := cell_of_heap HR.out.blk 5
  have y0 := frozen_of_heap HR.out.blk
  have z0 := lt_of_heap HR.out.blk
  rw [hs] at x0
  clear hi hz0 hz1 hz2 hd
  have RA : Hid (RdAt B rb ⟨4, r.ng, r.np, r.D, r.bh + 1, r.pw⟩ v ((w.setCell ⟨rb, 0, none⟩ (.int .i64 4)).setCell ⟨rb, 4, none⟩ (.int .i64 ((r.bh : Int) + 1)))) := (HR.out.put (r' := ⟨4, r.ng, r.np, r.D, r.bh, r.pw⟩) 0 (.int .i64 4) rfl rfl).put 4 (.int .i64 ((r.bh : Int) + 1)) rfl rfl
  have RF : Hid (RdFr rb v w ((w.setCell ⟨rb, 0, none⟩ (.int .i64 4)).setCell ⟨rb, 4, none⟩ (.int .i64 ((r.bh : Int) + 1)))) := ((RdFr.refl rb v w).put 0 (.int .i64 4)).put 4 (.int .i64 ((r.bh : Int) + 1))
  go_enter Tryz.func309, Tryz.ntmps309
  have HEQ : Hid (digitP r c = ⟨(⟨4, r.ng, r.np, r.D, r.bh + 1, r.pw⟩ : RS).st, (⟨4, r.ng, r.np, r.D, r.bh + 1, r.pw⟩ : RS).ng, (⟨4, r.ng, r.np, r.D, r.bh + 1, r.pw⟩ : RS).np, (⟨4, r.ng, r.np, r.D, r.bh + 1, r.pw⟩ : RS).D ++ [d], (⟨4, r.ng, r.np, r.D, r.bh + 1, r.pw⟩ : RS).bh, (⟨4, r.ng, r.np, r.D, r.bh + 1, r.pw⟩ : RS).pw⟩) := by
    unfold Hid digitP
    rw [HD.out]
    simp [hs]
  have hle : B ≤ (World.heap ((w.setCell ⟨rb, 0, none⟩ (.int .i64 4)).setCell ⟨rb, 4, none⟩ (.int .i64 ((r.bh : Int) + 1)))).size := RA.out.le
  have RO : Hid (World.ownsRow ((w.setCell ⟨rb, 0, none⟩ (.int .i64 4)).setCell ⟨rb, 4, none⟩ (.int .i64 ((r.bh : Int) + 1))) B 5 1 v r.D.length (r.D.map dv)) := RA.out.own
  clear HR
  go_wp2_with (
    at_builtin
    refine wpList_append_own_at _ rfl _ _ 87 rfl B 5 i0 (.int .u8 0) 1 1 Tryz.underlying87 HI.out HZ0.out HZ1.out HZ2.out rfl (by decide) v r.D.length (r.D.map dv) rfl (RO.out.alloc _) ⟨w.heap.size, 0, none⟩ 1 1 [.int .u8 d] rfl rfl (fun j u hj => by have := cells_new ((w.setCell ⟨rb, 0, none⟩ (.int .i64 4)).setCell ⟨rb, 4, none⟩ (.int .i64 ((r.bh : Int) + 1))) #[.int .u8 d] 5 j u hj; simp only [World.size_setCell] at this; exact this) (by simp [Value.oneCell']) (by unfold maxLen; omega) (by omega) (by simp at hle ⊢; omega) ?_
    intro v' wN hown hgrow _ _
    obtain ⟨gb, cap5, rfl⟩ := ownsRow_succ hown
    have hb := RA.out.keep _ hgrow
    have x3 := cell_of_heap hb 3
    have y3 := frozen_of_heap hb
    have z3 := lt_of_heap hb
    have FIN := Lib.hid (And.intro (RA.out.app _ hgrow hown HEQ.out) (RF.out.app (v' := .slice (some ⟨gb, 0, none⟩) (r.D.length + 1) cap5) RA.out _ hgrow))
    clear hb hown hgrow)
  exact bodyPost_end (v := .tuple #[]) (by simp [results, Tryz.results309, go_sem]) rfl ⟨rfl, _, FIN.out.1, FIN.out.2⟩
theorem digit_4 (r : RS) (hs : r.st = 4) (hDl : r.D.length ≤ 300) (hbh : r.bh ≤ 300) (HR : Hid (RdAt B rb r v w)) (h48 : 48 ≤ c) (h57 : c ≤ 57) (hd : d = c - 48) : Calls Tryz.prog 309 #[.pointer (some ⟨rb, 0, none⟩), .int .i32 c] w (DigEnd B rb (digitP r c) v w) := by
  obtain ⟨i0, hi, hz0, hz1, hz2⟩ := info_parts info5
  have HI := Lib.hid hi
  have HZ0 := Lib.hid hz0
  have HZ1 := Lib.hid hz1
  have HZ2 := Lib.hid hz2
  have HD := Lib.hid hd
  have w32 : IntKind.i32.wrap ((c : Int) - 48) = (d : Int) := by rw [hd, show ((c : Int) - 48) = ((c - 48 : Nat) : Int) by omega]; exact IntWalk.i32_in _ (by omega)
  have w8 : IntKind.u8.wrap (d : Int) = (d : Int) := IntWalk.u8_in _ (by omega)
  have x0 := cell_of_heap HR.out.blk 0
  have x3 := cell_of_heap HR.out.blk 3
  have x4 := cell_of_heap HR.out.blk 4
  have x5 := cell_of_heap HR.out.blk 5
  have y0 := frozen_of_heap HR.out.blk
  have z0 := lt_of_heap HR.out.blk
  rw [hs] at x0
  clear hi hz0 hz1 hz2 hd
  have RA : Hid (RdAt B rb ⟨4, r.ng, r.np, r.D, r.bh + 1, r.pw⟩ v ((w.setCell ⟨rb, 0, none⟩ (.int .i64 4)).setCell ⟨rb, 4, none⟩ (.int .i64 ((r.bh : Int) + 1)))) := (HR.out.put (r' := ⟨4, r.ng, r.np, r.D, r.bh, r.pw⟩) 0 (.int .i64 4) rfl rfl).put 4 (.int .i64 ((r.bh : Int) + 1)) rfl rfl
  have RF : Hid (RdFr rb v w ((w.setCell ⟨rb, 0, none⟩ (.int .i64 4)).setCell ⟨rb, 4, none⟩ (.int .i64 ((r.bh : Int) + 1)))) := ((RdFr.refl rb v w).put 0 (.int .i64 4)).put 4 (.int .i64 ((r.bh : Int) + 1))
  go_enter Tryz.func309, Tryz.ntmps309
  have HEQ : Hid (digitP r c = ⟨(⟨4, r.ng, r.np, r.D, r.bh + 1, r.pw⟩ : RS).st, (⟨4, r.ng, r.np, r.D, r.bh + 1, r.pw⟩ : RS).ng, (⟨4, r.ng, r.np, r.D, r.bh + 1, r.pw⟩ : RS).np, (⟨4, r.ng, r.np, r.D, r.bh + 1, r.pw⟩ : RS).D ++ [d], (⟨4, r.ng, r.np, r.D, r.bh + 1, r.pw⟩ : RS).bh, (⟨4, r.ng, r.np, r.D, r.bh + 1, r.pw⟩ : RS).pw⟩) := by
    unfold Hid digitP
    rw [HD.out]
    simp [hs]
  have hle : B ≤ (World.heap ((w.setCell ⟨rb, 0, none⟩ (.int .i64 4)).setCell ⟨rb, 4, none⟩ (.int .i64 ((r.bh : Int) + 1)))).size := RA.out.le
  have RO : Hid (World.ownsRow ((w.setCell ⟨rb, 0, none⟩ (.int .i64 4)).setCell ⟨rb, 4, none⟩ (.int .i64 ((r.bh : Int) + 1))) B 5 1 v r.D.length (r.D.map dv)) := RA.out.own
  clear HR
  go_wp2_with (
    at_builtin
    refine wpList_append_own_at _ rfl _ _ 87 rfl B 5 i0 (.int .u8 0) 1 1 Tryz.underlying87 HI.out HZ0.out HZ1.out HZ2.out rfl (by decide) v r.D.length (r.D.map dv) rfl (RO.out.alloc _) ⟨w.heap.size, 0, none⟩ 1 1 [.int .u8 d] rfl rfl (fun j u hj => by have := cells_new ((w.setCell ⟨rb, 0, none⟩ (.int .i64 4)).setCell ⟨rb, 4, none⟩ (.int .i64 ((r.bh : Int) + 1))) #[.int .u8 d] 5 j u hj; simp only [World.size_setCell] at this; exact this) (by simp [Value.oneCell']) (by unfold maxLen; omega) (by omega) (by simp at hle ⊢; omega) ?_
    intro v' wN hown hgrow _ _
    obtain ⟨gb, cap5, rfl⟩ := ownsRow_succ hown
    have hb := RA.out.keep _ hgrow
    have x3 := cell_of_heap hb 3
    have y3 := frozen_of_heap hb
    have z3 := lt_of_heap hb
    have FIN := Lib.hid (And.intro (RA.out.app _ hgrow hown HEQ.out) (RF.out.app (v' := .slice (some ⟨gb, 0, none⟩) (r.D.length + 1) cap5) RA.out _ hgrow))
    clear hb hown hgrow)
  exact bodyPost_end (v := .tuple #[]) (by simp [results, Tryz.results309, go_sem]) rfl ⟨rfl, _, FIN.out.1, FIN.out.2⟩
theorem digit_5 (r : RS) (hs : 5 ≤ r.st) (hpw : r.pw < 100000) (HR : Hid (RdAt B rb r v w)) (h48 : 48 ≤ c) (h57 : c ≤ 57) (hd : d = c - 48) : Calls Tryz.prog 309 #[.pointer (some ⟨rb, 0, none⟩), .int .i32 c] w (DigEnd B rb (digitP r c) v w) := by
  have HD := Lib.hid hd
  have w32 : IntKind.i32.wrap ((c : Int) - 48) = (d : Int) := by rw [hd, show ((c : Int) - 48) = ((c - 48 : Nat) : Int) by omega]; exact IntWalk.i32_in _ (by omega)
  have w64 : IntKind.i64.wrap (d : Int) = (d : Int) := IntWalk.i64_in _ (by omega)
  have w64b : wrap64 (d : Int) = (d : Int) := IntWalk.wrap64_in _ (by omega)
  have hd9 : d ≤ 9 := by omega
  have n0 : (r.st == 0) = false := by simp; omega
  have n1 : (r.st == 1) = false := by simp; omega
  have n2 : (r.st == 2) = false := by simp; omega
  have n3 : (r.st == 3) = false := by simp; omega
  have n4 : (r.st == 4) = false := by simp; omega
  have x0 := cell_of_heap HR.out.blk 0
  have x3 := cell_of_heap HR.out.blk 3
  have x4 := cell_of_heap HR.out.blk 4
  have x5 := cell_of_heap HR.out.blk 5
  have y0 := frozen_of_heap HR.out.blk
  have z0 := lt_of_heap HR.out.blk
  have EQ : Hid (digitP r c = ⟨7, r.ng, r.np, r.D, r.bh, r.pw * 10 + d⟩) := by
    unfold Hid digitP
    rw [if_neg (by omega), if_neg (by omega), if_pos hpw, hd]
  have dp : decide ((r.pw : Int) < 100000) = true := decide_eq_true (by omega)
  have wq : IntKind.i64.wrap ((r.pw : Int) * 10) = (r.pw : Int) * 10 := IntWalk.i64_in _ (by omega)
  have wq2 : IntKind.i64.wrap ((r.pw : Int) * 10 + (d : Int)) = (r.pw : Int) * 10 + (d : Int) := IntWalk.i64_in _ (by omega)
  have wq3 : wrap64 ((r.pw : Int) * 10) = (r.pw : Int) * 10 := IntWalk.wrap64_in _ (by omega)
  have wq4 : wrap64 ((r.pw : Int) * 10 + (d : Int)) = (r.pw : Int) * 10 + (d : Int) := IntWalk.wrap64_in _ (by omega)
  clear hd hs hpw
  go_enter Tryz.func309, Tryz.ntmps309
  go_wp2_with fail
  refine bodyPost_ret (v := .tuple #[]) (by simp [results, Tryz.results309, go_sem]) rfl ⟨rfl, v, ?_, ((RdFr.refl rb v w).put 0 _).put 5 _⟩
  rw [EQ.out]
  exact (HR.out.put (r' := ⟨7, r.ng, r.np, r.D, r.bh, r.pw⟩) 0 (.int .i64 7) rfl rfl).put 5 _ (by simp) rfl
theorem digit_6 (r : RS) (hs : 5 ≤ r.st) (hpw : ¬ r.pw < 100000) (HR : Hid (RdAt B rb r v w)) (h48 : 48 ≤ c) (h57 : c ≤ 57) (hd : d = c - 48) : Calls Tryz.prog 309 #[.pointer (some ⟨rb, 0, none⟩), .int .i32 c] w (DigEnd B rb (digitP r c) v w) := by
  have HD := Lib.hid hd
  have w32 : IntKind.i32.wrap ((c : Int) - 48) = (d : Int) := by rw [hd, show ((c : Int) - 48) = ((c - 48 : Nat) : Int) by omega]; exact IntWalk.i32_in _ (by omega)
  have w64 : IntKind.i64.wrap (d : Int) = (d : Int) := IntWalk.i64_in _ (by omega)
  have w64b : wrap64 (d : Int) = (d : Int) := IntWalk.wrap64_in _ (by omega)
  have hd9 : d ≤ 9 := by omega
  have n0 : (r.st == 0) = false := by simp; omega
  have n1 : (r.st == 1) = false := by simp; omega
  have n2 : (r.st == 2) = false := by simp; omega
  have n3 : (r.st == 3) = false := by simp; omega
  have n4 : (r.st == 4) = false := by simp; omega
  have x0 := cell_of_heap HR.out.blk 0
  have x3 := cell_of_heap HR.out.blk 3
  have x4 := cell_of_heap HR.out.blk 4
  have x5 := cell_of_heap HR.out.blk 5
  have y0 := frozen_of_heap HR.out.blk
  have z0 := lt_of_heap HR.out.blk
  have EQ : Hid (digitP r c = ⟨7, r.ng, r.np, r.D, r.bh, r.pw⟩) := by
    unfold Hid digitP
    rw [if_neg (by omega), if_neg (by omega), if_neg hpw]
  have dp : decide ((r.pw : Int) < 100000) = false := decide_eq_false (by omega)
  clear hd hs hpw
  go_enter Tryz.func309, Tryz.ntmps309
  go_wp2_with fail
  refine bodyPost_ret (v := .tuple #[]) (by simp [results, Tryz.results309, go_sem]) rfl ⟨rfl, v, ?_, (RdFr.refl rb v w).put 0 _⟩
  rw [EQ.out]
  exact HR.out.put (r' := ⟨7, r.ng, r.np, r.D, r.bh, r.pw⟩) 0 (.int .i64 7) rfl rfl
end
theorem digit_any {B rb c : Nat} {v : Value} {w : World} {r : RS} {n : Nat} (hn : n ≤ 300) (hok : r.Ok n) (h : RdAt B rb r v w) (h48 : 48 ≤ c) (h57 : c ≤ 57) : Calls Tryz.prog 309 #[.pointer (some ⟨rb, 0, none⟩), .int .i32 c] w (DigEnd B rb (digitP r c) v w) := by
  have h0 := hok.st0
  have h7 := hok.st7
  have hl := hok.len
  have hb := hok.bh
  by_cases h5 : 5 ≤ r.st
  · by_cases hp : r.pw < 100000
    · exact digit_5 B rb c (c - 48) v w r h5 hp h h48 h57 rfl
    · exact digit_6 B rb c (c - 48) v w r h5 hp h h48 h57 rfl
  by_cases s0 : r.st = 0
  · exact digit_0 B rb c (c - 48) v w r s0 (by omega) h h48 h57 rfl
  by_cases s1 : r.st = 1
  · exact digit_1 B rb c (c - 48) v w r s1 (by omega) h h48 h57 rfl
  by_cases s2 : r.st = 2
  · exact digit_2 B rb c (c - 48) v w r s2 (by omega) h h48 h57 rfl
  by_cases s3 : r.st = 3
  · exact digit_3 B rb c (c - 48) v w r s3 (by omega) (by omega) h h48 h57 rfl
  · exact digit_4 B rb c (c - 48) v w r (by omega) (by omega) (by omega) h h48 h57 rfl
end Go.Proofs.YtndhmahkglfopaaGreatDoor
