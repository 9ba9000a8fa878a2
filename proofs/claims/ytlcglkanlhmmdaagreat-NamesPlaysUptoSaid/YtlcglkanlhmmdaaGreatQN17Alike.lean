/- tree.alike, bare. -/
import Derived.Test.YtlcglkanlhmmdaaGreatQN17Tree
import Derived.Test.YtlcglkanlhmmdaaGreatQN17Leaf
namespace Go.Proofs.YtlcglkanlhmmdaaGreat
open Go.RowKit
/-- A node in memory. -/
def NdAt (w : World) (b off : Nat) (o : Nd) (s : Value) : Prop := ∀ j, j < 22 → w.cell? ⟨b, off + j, none⟩ = (ncells o s)[j]?
theorem NdAt.below {w w' : World} {b off : Nat} {o : Nd} {s : Value} {K : Nat} (h : NdAt w b off o s) (hb : Below K w w') (hK : b < K) : NdAt w' b off o s := fun j hj => (hb.cell (p := ⟨b, _, none⟩) hK).trans (h j hj)
theorem info26 : (Tryz.prog.info? 33).map (·.size) = some 6 := by kernel_rfl
theorem info32 : (Tryz.prog.info? 39).map (·.size) = some 12 := by kernel_rfl
theorem load_v {w : World} {b off : Nat} {o : Nd} {s : Value} (hb : b < w.heap.size) (h : NdAt w b off o s) :
    ∀ W, Below w.heap.size w W → (Instr.loadAt 33 (.pointer (some ⟨b, off + 1, none⟩))).run Tryz.prog W = .ok (vagg o.v) W := fun W hW => by
  refine run_loadAt_mid W b (off + 1) 33 [.int .i64 o.v.k, .int .i64 o.v.m, .int .i64 o.v.e, .string o.v.t, .bool o.v.b, .int .i64 o.v.f] _ (fun j v hv => ?_) Tryz.underlying33 rfl info26
  have hj : j < 6 := (List.getElem?_eq_some_iff.1 hv).1
  rw [(hW.cell (p := ⟨b, off + 1 + j, none⟩) hb), Nat.add_assoc, h (1 + j) (by omega), ← hv, Nat.add_comm]
  rcases (by omega : j = 0 ∨ j = 1 ∨ j = 2 ∨ j = 3 ∨ j = 4 ∨ j = 5) with rfl | rfl | rfl | rfl | rfl | rfl <;> rfl
theorem load_a {w : World} {b off : Nat} {o : Nd} {s : Value} (hb : b < w.heap.size) (h : NdAt w b off o s) :
    ∀ W, Below w.heap.size w W → (Instr.loadAt 39 (.pointer (some ⟨b, off + 8, none⟩))).run Tryz.prog W = .ok (aagg o.a o.b) W := fun W hW => by
  refine run_loadAt_mid W b (off + 8) 39 [.int .i64 o.a.ra, .int .i64 o.a.rn, .int .i64 o.a.ca, .int .i64 o.a.cn, .bool o.a.fr, .bool o.a.fc, .int .i64 o.b.ra, .int .i64 o.b.rn, .int .i64 o.b.ca, .int .i64 o.b.cn, .bool o.b.fr, .bool o.b.fc] _ (fun j v hv => ?_) Tryz.underlying39 rfl info32
  have hj : j < 12 := (List.getElem?_eq_some_iff.1 hv).1
  rw [(hW.cell (p := ⟨b, off + 8 + j, none⟩) hb), Nat.add_assoc, h (8 + j) (by omega), ← hv, Nat.add_comm]
  rcases (by omega : j = 0 ∨ j = 1 ∨ j = 2 ∨ j = 3 ∨ j = 4 ∨ j = 5 ∨ j = 6 ∨ j = 7 ∨ j = 8 ∨ j = 9 ∨ j = 10 ∨ j = 11) with rfl | rfl | rfl | rfl | rfl | rfl | rfl | rfl | rfl | rfl | rfl | rfl <;> rfl
theorem nd_blk {w : World} {b : Nat} {o : Nd} {s : Value} (h : w.heap[b]? = some (.cells (ncells o s).toArray 42)) : NdAt w b 0 o s := fun j _ => by
  rw [cell_of_heap h, Nat.zero_add]
  simp
end Go.Proofs.YtlcglkanlhmmdaaGreat
/- tree.alike, way 1. -/
namespace Go.Proofs.YtlcglkanlhmmdaaGreat
open Go.RowKit
section
variable (o p : Nd) (a c : Option Addr) (n cap m cap' b off q : Nat) (w : World)
variable (hb : b < w.heap.size) (hq : q < w.heap.size) (hp : NdAt w b off o (.slice a n cap)) (hr : NdAt w q 0 p (.slice c m cap'))
include hb hq hp hr
set_option maxHeartbeats 4000000 in
set_option maxRecDepth 100000 in
theorem alike_1 (h1 : (o.k == p.k) = false) : Calls Tryz.prog 64 #[.pointer (some ⟨b, off, none⟩), .pointer (some ⟨q, 0, none⟩)] w fun e w' => e = .returned (.bool false) ∧ Below w.heap.size w w' := by
  have q1 := load_v hb hp
  have q2 := load_v hq hr
  have q3 := load_a hb hp
  have q4 := load_a hq hr
  have r0 : w.cell? ⟨b, off, none⟩ = some (.int .i64 o.k) := hp 0 (by omega)
  have r7 : w.cell? ⟨b, off + 7, none⟩ = some (.string o.nm) := hp 7 (by omega)
  have r20 : w.cell? ⟨b, off + 20, none⟩ = some (.int .i64 o.rows) := hp 20 (by omega)
  have r21 : w.cell? ⟨b, off + 21, none⟩ = some (.slice a n cap) := hp 21 (by omega)
  have s0 : w.cell? ⟨q, 0, none⟩ = some (.int .i64 p.k) := hr 0 (by omega)
  have s7 : w.cell? ⟨q, 7, none⟩ = some (.string p.nm) := hr 7 (by omega)
  have s20 : w.cell? ⟨q, 20, none⟩ = some (.int .i64 p.rows) := hr 20 (by omega)
  have s21 : w.cell? ⟨q, 21, none⟩ = some (.slice c m cap') := hr 21 (by omega)
  clear hp hr
  unfold vagg at q1 q2
  unfold aagg at q3 q4
  try unfold vagg at h2
  try unfold aagg at h4
  go_enter Tryz.func64, Tryz.ntmps64
  go_wp2_with fail
  simp only [List.append_eq, List.cons_append, List.nil_append]
  refine wp_region_multiR [([0, 1, 2, 3, 4, 5, 6, 7, 8, 9, 10, 11, 12, 13, 14, 15, 16, 17, 18, 19, 20, 21, 22, 23, 24, 25, 26, 27, 28, 29, 30, 31, 32, 33, 34, 35, 36, 37, 38, 39, 40, 41, 42, 43, 44, 45, 46, 47, 48, 49, 50, 51, 52, 53, 54, 55, 56, 57, 58, 59, 60, 61, 62, 63, 64, 65, 66], [], [])] (by kernel_rfl) (by kernel_rfl) ?_
  refine multi_phase (Below w.heap.size w) (Below.refl _ _).drew ?_
  iterate 13 (first | (apply first_step; (rw [List.getElem?_toArray]; (repeat rw [List.getElem?_cons_succ]); rw [List.getElem?_cons_zero]); rfl; (intro W hB; have hc := bcellB hB; go_simp; (first | done | rfl)); go_frame) | (apply first_skip; (rw [List.getElem?_toArray]; (repeat rw [List.getElem?_cons_succ]); rw [List.getElem?_cons_zero]); rfl; go_frame))
  first | (apply first_load; (rw [List.getElem?_toArray]; (repeat rw [List.getElem?_cons_succ]); rw [List.getElem?_cons_zero]); rfl; rfl; rfl; exact q1; go_frame) | (first | (apply first_step; (rw [List.getElem?_toArray]; (repeat rw [List.getElem?_cons_succ]); rw [List.getElem?_cons_zero]); rfl; (intro W hB; have hc := bcellB hB; go_simp; (first | done | rfl)); go_frame) | (apply first_skip; (rw [List.getElem?_toArray]; (repeat rw [List.getElem?_cons_succ]); rw [List.getElem?_cons_zero]); rfl; go_frame))
  iterate 3 (first | (apply first_step; (rw [List.getElem?_toArray]; (repeat rw [List.getElem?_cons_succ]); rw [List.getElem?_cons_zero]); rfl; (intro W hB; have hc := bcellB hB; go_simp; (first | done | rfl)); go_frame) | (apply first_skip; (rw [List.getElem?_toArray]; (repeat rw [List.getElem?_cons_succ]); rw [List.getElem?_cons_zero]); rfl; go_frame))
  first | (apply first_load; (rw [List.getElem?_toArray]; (repeat rw [List.getElem?_cons_succ]); rw [List.getElem?_cons_zero]); rfl; rfl; rfl; exact q2; go_frame) | (first | (apply first_step; (rw [List.getElem?_toArray]; (repeat rw [List.getElem?_cons_succ]); rw [List.getElem?_cons_zero]); rfl; (intro W hB; have hc := bcellB hB; go_simp; (first | done | rfl)); go_frame) | (apply first_skip; (rw [List.getElem?_toArray]; (repeat rw [List.getElem?_cons_succ]); rw [List.getElem?_cons_zero]); rfl; go_frame))
  iterate 17 (first | (apply first_step; (rw [List.getElem?_toArray]; (repeat rw [List.getElem?_cons_succ]); rw [List.getElem?_cons_zero]); rfl; (intro W hB; have hc := bcellB hB; go_simp; (first | done | rfl)); go_frame) | (apply first_skip; (rw [List.getElem?_toArray]; (repeat rw [List.getElem?_cons_succ]); rw [List.getElem?_cons_zero]); rfl; go_frame))
  first | (apply first_load; (rw [List.getElem?_toArray]; (repeat rw [List.getElem?_cons_succ]); rw [List.getElem?_cons_zero]); rfl; rfl; rfl; exact q3; go_frame) | (first | (apply first_step; (rw [List.getElem?_toArray]; (repeat rw [List.getElem?_cons_succ]); rw [List.getElem?_cons_zero]); rfl; (intro W hB; have hc := bcellB hB; go_simp; (first | done | rfl)); go_frame) | (apply first_skip; (rw [List.getElem?_toArray]; (repeat rw [List.getElem?_cons_succ]); rw [List.getElem?_cons_zero]); rfl; go_frame))
  iterate 3 (first | (apply first_step; (rw [List.getElem?_toArray]; (repeat rw [List.getElem?_cons_succ]); rw [List.getElem?_cons_zero]); rfl; (intro W hB; have hc := bcellB hB; go_simp; (first | done | rfl)); go_frame) | (apply first_skip; (rw [List.getElem?_toArray]; (repeat rw [List.getElem?_cons_succ]); rw [List.getElem?_cons_zero]); rfl; go_frame))
  first | (apply first_load; (rw [List.getElem?_toArray]; (repeat rw [List.getElem?_cons_succ]); rw [List.getElem?_cons_zero]); rfl; rfl; rfl; exact q4; go_frame) | (first | (apply first_step; (rw [List.getElem?_toArray]; (repeat rw [List.getElem?_cons_succ]); rw [List.getElem?_cons_zero]); rfl; (intro W hB; have hc := bcellB hB; go_simp; (first | done | rfl)); go_frame) | (apply first_skip; (rw [List.getElem?_toArray]; (repeat rw [List.getElem?_cons_succ]); rw [List.getElem?_cons_zero]); rfl; go_frame))
  iterate 27 (first | (apply first_step; (rw [List.getElem?_toArray]; (repeat rw [List.getElem?_cons_succ]); rw [List.getElem?_cons_zero]); rfl; (intro W hB; have hc := bcellB hB; go_simp; (first | done | rfl)); go_frame) | (apply first_skip; (rw [List.getElem?_toArray]; (repeat rw [List.getElem?_cons_succ]); rw [List.getElem?_cons_zero]); rfl; go_frame))
  refine first_done ?_
  refine forced_done ?_
  refine multi_done ?_
  clear q1 q2 q3 q4 r0 r7 r20 r21 s0 s7 s20 s21
  go_wp2_with fail
  go_ret
  exact ⟨by first | exact rfl | (refine ret_bool' ?_; simp [*]), (Below.refl _ w).drew⟩
end
end Go.Proofs.YtlcglkanlhmmdaaGreat
/- tree.alike, way 2. -/
namespace Go.Proofs.YtlcglkanlhmmdaaGreat
open Go.RowKit
section
variable (o p : Nd) (a c : Option Addr) (n cap m cap' b off q : Nat) (w : World)
variable (hb : b < w.heap.size) (hq : q < w.heap.size) (hp : NdAt w b off o (.slice a n cap)) (hr : NdAt w q 0 p (.slice c m cap'))
include hb hq hp hr
set_option maxHeartbeats 4000000 in
set_option maxRecDepth 100000 in
theorem alike_2 (h1 : (o.k == p.k) = true) (h2 : ∀ W, (binOp .eql 33 (vagg o.v) (vagg p.v)).run Tryz.prog W = .ok (.bool false) W) : Calls Tryz.prog 64 #[.pointer (some ⟨b, off, none⟩), .pointer (some ⟨q, 0, none⟩)] w fun e w' => e = .returned (.bool false) ∧ Below w.heap.size w w' := by
  have q1 := load_v hb hp
  have q2 := load_v hq hr
  have q3 := load_a hb hp
  have q4 := load_a hq hr
  have r0 : w.cell? ⟨b, off, none⟩ = some (.int .i64 o.k) := hp 0 (by omega)
  have r7 : w.cell? ⟨b, off + 7, none⟩ = some (.string o.nm) := hp 7 (by omega)
  have r20 : w.cell? ⟨b, off + 20, none⟩ = some (.int .i64 o.rows) := hp 20 (by omega)
  have r21 : w.cell? ⟨b, off + 21, none⟩ = some (.slice a n cap) := hp 21 (by omega)
  have s0 : w.cell? ⟨q, 0, none⟩ = some (.int .i64 p.k) := hr 0 (by omega)
  have s7 : w.cell? ⟨q, 7, none⟩ = some (.string p.nm) := hr 7 (by omega)
  have s20 : w.cell? ⟨q, 20, none⟩ = some (.int .i64 p.rows) := hr 20 (by omega)
  have s21 : w.cell? ⟨q, 21, none⟩ = some (.slice c m cap') := hr 21 (by omega)
  clear hp hr
  unfold vagg at q1 q2
  unfold aagg at q3 q4
  try unfold vagg at h2
  try unfold aagg at h4
  go_enter Tryz.func64, Tryz.ntmps64
  go_wp2_with fail
  simp only [List.append_eq, List.cons_append, List.nil_append]
  refine wp_region_multiR [([0, 1, 2, 3, 4, 5, 6, 7, 8, 9, 10, 11, 12, 13, 14, 15, 16, 17, 18, 19, 20, 21, 22, 23, 24, 25, 26, 27, 28, 29, 30, 31, 32, 33, 34, 35, 36, 37, 38, 39, 40, 41, 42, 43, 44, 45, 46, 47, 48, 49, 50, 51, 52, 53, 54, 55, 56, 57, 58, 59, 60, 61, 62, 63, 64, 65, 66], [], [])] (by kernel_rfl) (by kernel_rfl) ?_
  refine multi_phase (Below w.heap.size w) (Below.refl _ _).drew ?_
  iterate 13 (first | (apply first_step; (rw [List.getElem?_toArray]; (repeat rw [List.getElem?_cons_succ]); rw [List.getElem?_cons_zero]); rfl; (intro W hB; have hc := bcellB hB; go_simp; (first | done | rfl)); go_frame) | (apply first_skip; (rw [List.getElem?_toArray]; (repeat rw [List.getElem?_cons_succ]); rw [List.getElem?_cons_zero]); rfl; go_frame))
  first | (apply first_load; (rw [List.getElem?_toArray]; (repeat rw [List.getElem?_cons_succ]); rw [List.getElem?_cons_zero]); rfl; rfl; rfl; exact q1; go_frame) | (first | (apply first_step; (rw [List.getElem?_toArray]; (repeat rw [List.getElem?_cons_succ]); rw [List.getElem?_cons_zero]); rfl; (intro W hB; have hc := bcellB hB; go_simp; (first | done | rfl)); go_frame) | (apply first_skip; (rw [List.getElem?_toArray]; (repeat rw [List.getElem?_cons_succ]); rw [List.getElem?_cons_zero]); rfl; go_frame))
  iterate 3 (first | (apply first_step; (rw [List.getElem?_toArray]; (repeat rw [List.getElem?_cons_succ]); rw [List.getElem?_cons_zero]); rfl; (intro W hB; have hc := bcellB hB; go_simp; (first | done | rfl)); go_frame) | (apply first_skip; (rw [List.getElem?_toArray]; (repeat rw [List.getElem?_cons_succ]); rw [List.getElem?_cons_zero]); rfl; go_frame))
  first | (apply first_load; (rw [List.getElem?_toArray]; (repeat rw [List.getElem?_cons_succ]); rw [List.getElem?_cons_zero]); rfl; rfl; rfl; exact q2; go_frame) | (first | (apply first_step; (rw [List.getElem?_toArray]; (repeat rw [List.getElem?_cons_succ]); rw [List.getElem?_cons_zero]); rfl; (intro W hB; have hc := bcellB hB; go_simp; (first | done | rfl)); go_frame) | (apply first_skip; (rw [List.getElem?_toArray]; (repeat rw [List.getElem?_cons_succ]); rw [List.getElem?_cons_zero]); rfl; go_frame))
  iterate 17 (first | (apply first_step; (rw [List.getElem?_toArray]; (repeat rw [List.getElem?_cons_succ]); rw [List.getElem?_cons_zero]); rfl; (intro W hB; have hc := bcellB hB; go_simp; (first | done | rfl)); go_frame) | (apply first_skip; (rw [List.getElem?_toArray]; (repeat rw [List.getElem?_cons_succ]); rw [List.getElem?_cons_zero]); rfl; go_frame))
  first | (apply first_load; (rw [List.getElem?_toArray]; (repeat rw [List.getElem?_cons_succ]); rw [List.getElem?_cons_zero]); rfl; rfl; rfl; exact q3; go_frame) | (first | (apply first_step; (rw [List.getElem?_toArray]; (repeat rw [List.getElem?_cons_succ]); rw [List.getElem?_cons_zero]); rfl; (intro W hB; have hc := bcellB hB; go_simp; (first | done | rfl)); go_frame) | (apply first_skip; (rw [List.getElem?_toArray]; (repeat rw [List.getElem?_cons_succ]); rw [List.getElem?_cons_zero]); rfl; go_frame))
  iterate 3 (first | (apply first_step; (rw [List.getElem?_toArray]; (repeat rw [List.getElem?_cons_succ]); rw [List.getElem?_cons_zero]); rfl; (intro W hB; have hc := bcellB hB; go_simp; (first | done | rfl)); go_frame) | (apply first_skip; (rw [List.getElem?_toArray]; (repeat rw [List.getElem?_cons_succ]); rw [List.getElem?_cons_zero]); rfl; go_frame))
  first | (apply first_load; (rw [List.getElem?_toArray]; (repeat rw [List.getElem?_cons_succ]); rw [List.getElem?_cons_zero]); rfl; rfl; rfl; exact q4; go_frame) | (first | (apply first_step; (rw [List.getElem?_toArray]; (repeat rw [List.getElem?_cons_succ]); rw [List.getElem?_cons_zero]); rfl; (intro W hB; have hc := bcellB hB; go_simp; (first | done | rfl)); go_frame) | (apply first_skip; (rw [List.getElem?_toArray]; (repeat rw [List.getElem?_cons_succ]); rw [List.getElem?_cons_zero]); rfl; go_frame))
  iterate 27 (first | (apply first_step; (rw [List.getElem?_toArray]; (repeat rw [List.getElem?_cons_succ]); rw [List.getElem?_cons_zero]); rfl; (intro W hB; have hc := bcellB hB; go_simp; (first | done | rfl)); go_frame) | (apply first_skip; (rw [List.getElem?_toArray]; (repeat rw [List.getElem?_cons_succ]); rw [List.getElem?_cons_zero]); rfl; go_frame))
  refine first_done ?_
  refine forced_done ?_
  refine multi_done ?_
  clear q1 q2 q3 q4 r0 r7 r20 r21 s0 s7 s20 s21
  go_wp2_with fail
  go_ret
  exact ⟨by first | exact rfl | (refine ret_bool' ?_; simp [*]), (Below.refl _ w).drew⟩
end
end Go.Proofs.YtlcglkanlhmmdaaGreat
/- tree.alike, way 3. -/
namespace Go.Proofs.YtlcglkanlhmmdaaGreat
open Go.RowKit
section
variable (o p : Nd) (a c : Option Addr) (n cap m cap' b off q : Nat) (w : World)
variable (hb : b < w.heap.size) (hq : q < w.heap.size) (hp : NdAt w b off o (.slice a n cap)) (hr : NdAt w q 0 p (.slice c m cap'))
include hb hq hp hr
set_option maxHeartbeats 4000000 in
set_option maxRecDepth 100000 in
theorem alike_3 (h1 : (o.k == p.k) = true) (h2 : ∀ W, (binOp .eql 33 (vagg o.v) (vagg p.v)).run Tryz.prog W = .ok (.bool true) W) (h3 : (o.nm.toList == p.nm.toList) = false) : Calls Tryz.prog 64 #[.pointer (some ⟨b, off, none⟩), .pointer (some ⟨q, 0, none⟩)] w fun e w' => e = .returned (.bool false) ∧ Below w.heap.size w w' := by
  have q1 := load_v hb hp
  have q2 := load_v hq hr
  have q3 := load_a hb hp
  have q4 := load_a hq hr
  have r0 : w.cell? ⟨b, off, none⟩ = some (.int .i64 o.k) := hp 0 (by omega)
  have r7 : w.cell? ⟨b, off + 7, none⟩ = some (.string o.nm) := hp 7 (by omega)
  have r20 : w.cell? ⟨b, off + 20, none⟩ = some (.int .i64 o.rows) := hp 20 (by omega)
  have r21 : w.cell? ⟨b, off + 21, none⟩ = some (.slice a n cap) := hp 21 (by omega)
  have s0 : w.cell? ⟨q, 0, none⟩ = some (.int .i64 p.k) := hr 0 (by omega)
  have s7 : w.cell? ⟨q, 7, none⟩ = some (.string p.nm) := hr 7 (by omega)
  have s20 : w.cell? ⟨q, 20, none⟩ = some (.int .i64 p.rows) := hr 20 (by omega)
  have s21 : w.cell? ⟨q, 21, none⟩ = some (.slice c m cap') := hr 21 (by omega)
  clear hp hr
  unfold vagg at q1 q2
  unfold aagg at q3 q4
  try unfold vagg at h2
  try unfold aagg at h4
  go_enter Tryz.func64, Tryz.ntmps64
  go_wp2_with fail
  simp only [List.append_eq, List.cons_append, List.nil_append]
  refine wp_region_multiR [([0, 1, 2, 3, 4, 5, 6, 7, 8, 9, 10, 11, 12, 13, 14, 15, 16, 17, 18, 19, 20, 21, 22, 23, 24, 25, 26, 27, 28, 29, 30, 31, 32, 33, 34, 35, 36, 37, 38, 39, 40, 41, 42, 43, 44, 45, 46, 47, 48, 49, 50, 51, 52, 53, 54, 55, 56, 57, 58, 59, 60, 61, 62, 63, 64, 65, 66], [], [])] (by kernel_rfl) (by kernel_rfl) ?_
  refine multi_phase (Below w.heap.size w) (Below.refl _ _).drew ?_
  iterate 13 (first | (apply first_step; (rw [List.getElem?_toArray]; (repeat rw [List.getElem?_cons_succ]); rw [List.getElem?_cons_zero]); rfl; (intro W hB; have hc := bcellB hB; go_simp; (first | done | rfl)); go_frame) | (apply first_skip; (rw [List.getElem?_toArray]; (repeat rw [List.getElem?_cons_succ]); rw [List.getElem?_cons_zero]); rfl; go_frame))
  first | (apply first_load; (rw [List.getElem?_toArray]; (repeat rw [List.getElem?_cons_succ]); rw [List.getElem?_cons_zero]); rfl; rfl; rfl; exact q1; go_frame) | (first | (apply first_step; (rw [List.getElem?_toArray]; (repeat rw [List.getElem?_cons_succ]); rw [List.getElem?_cons_zero]); rfl; (intro W hB; have hc := bcellB hB; go_simp; (first | done | rfl)); go_frame) | (apply first_skip; (rw [List.getElem?_toArray]; (repeat rw [List.getElem?_cons_succ]); rw [List.getElem?_cons_zero]); rfl; go_frame))
  iterate 3 (first | (apply first_step; (rw [List.getElem?_toArray]; (repeat rw [List.getElem?_cons_succ]); rw [List.getElem?_cons_zero]); rfl; (intro W hB; have hc := bcellB hB; go_simp; (first | done | rfl)); go_frame) | (apply first_skip; (rw [List.getElem?_toArray]; (repeat rw [List.getElem?_cons_succ]); rw [List.getElem?_cons_zero]); rfl; go_frame))
  first | (apply first_load; (rw [List.getElem?_toArray]; (repeat rw [List.getElem?_cons_succ]); rw [List.getElem?_cons_zero]); rfl; rfl; rfl; exact q2; go_frame) | (first | (apply first_step; (rw [List.getElem?_toArray]; (repeat rw [List.getElem?_cons_succ]); rw [List.getElem?_cons_zero]); rfl; (intro W hB; have hc := bcellB hB; go_simp; (first | done | rfl)); go_frame) | (apply first_skip; (rw [List.getElem?_toArray]; (repeat rw [List.getElem?_cons_succ]); rw [List.getElem?_cons_zero]); rfl; go_frame))
  iterate 17 (first | (apply first_step; (rw [List.getElem?_toArray]; (repeat rw [List.getElem?_cons_succ]); rw [List.getElem?_cons_zero]); rfl; (intro W hB; have hc := bcellB hB; go_simp; (first | done | rfl)); go_frame) | (apply first_skip; (rw [List.getElem?_toArray]; (repeat rw [List.getElem?_cons_succ]); rw [List.getElem?_cons_zero]); rfl; go_frame))
  first | (apply first_load; (rw [List.getElem?_toArray]; (repeat rw [List.getElem?_cons_succ]); rw [List.getElem?_cons_zero]); rfl; rfl; rfl; exact q3; go_frame) | (first | (apply first_step; (rw [List.getElem?_toArray]; (repeat rw [List.getElem?_cons_succ]); rw [List.getElem?_cons_zero]); rfl; (intro W hB; have hc := bcellB hB; go_simp; (first | done | rfl)); go_frame) | (apply first_skip; (rw [List.getElem?_toArray]; (repeat rw [List.getElem?_cons_succ]); rw [List.getElem?_cons_zero]); rfl; go_frame))
  iterate 3 (first | (apply first_step; (rw [List.getElem?_toArray]; (repeat rw [List.getElem?_cons_succ]); rw [List.getElem?_cons_zero]); rfl; (intro W hB; have hc := bcellB hB; go_simp; (first | done | rfl)); go_frame) | (apply first_skip; (rw [List.getElem?_toArray]; (repeat rw [List.getElem?_cons_succ]); rw [List.getElem?_cons_zero]); rfl; go_frame))
  first | (apply first_load; (rw [List.getElem?_toArray]; (repeat rw [List.getElem?_cons_succ]); rw [List.getElem?_cons_zero]); rfl; rfl; rfl; exact q4; go_frame) | (first | (apply first_step; (rw [List.getElem?_toArray]; (repeat rw [List.getElem?_cons_succ]); rw [List.getElem?_cons_zero]); rfl; (intro W hB; have hc := bcellB hB; go_simp; (first | done | rfl)); go_frame) | (apply first_skip; (rw [List.getElem?_toArray]; (repeat rw [List.getElem?_cons_succ]); rw [List.getElem?_cons_zero]); rfl; go_frame))
  iterate 27 (first | (apply first_step; (rw [List.getElem?_toArray]; (repeat rw [List.getElem?_cons_succ]); rw [List.getElem?_cons_zero]); rfl; (intro W hB; have hc := bcellB hB; go_simp; (first | done | rfl)); go_frame) | (apply first_skip; (rw [List.getElem?_toArray]; (repeat rw [List.getElem?_cons_succ]); rw [List.getElem?_cons_zero]); rfl; go_frame))
  refine first_done ?_
  refine forced_done ?_
  refine multi_done ?_
  clear q1 q2 q3 q4 r0 r7 r20 r21 s0 s7 s20 s21
  go_wp2_with fail
  go_ret
  exact ⟨by first | exact rfl | (refine ret_bool' ?_; simp [*]), (Below.refl _ w).drew⟩
end
end Go.Proofs.YtlcglkanlhmmdaaGreat
/- tree.alike, way 4. -/
namespace Go.Proofs.YtlcglkanlhmmdaaGreat
open Go.RowKit
section
variable (o p : Nd) (a c : Option Addr) (n cap m cap' b off q : Nat) (w : World)
variable (hb : b < w.heap.size) (hq : q < w.heap.size) (hp : NdAt w b off o (.slice a n cap)) (hr : NdAt w q 0 p (.slice c m cap'))
include hb hq hp hr
set_option maxHeartbeats 4000000 in
set_option maxRecDepth 100000 in
theorem alike_4 (h1 : (o.k == p.k) = true) (h2 : ∀ W, (binOp .eql 33 (vagg o.v) (vagg p.v)).run Tryz.prog W = .ok (.bool true) W) (h3 : (o.nm.toList == p.nm.toList) = true) (h4 : ∀ W, (binOp .eql 39 (aagg o.a o.b) (aagg p.a p.b)).run Tryz.prog W = .ok (.bool false) W) : Calls Tryz.prog 64 #[.pointer (some ⟨b, off, none⟩), .pointer (some ⟨q, 0, none⟩)] w fun e w' => e = .returned (.bool false) ∧ Below w.heap.size w w' := by
  have q1 := load_v hb hp
  have q2 := load_v hq hr
  have q3 := load_a hb hp
  have q4 := load_a hq hr
  have r0 : w.cell? ⟨b, off, none⟩ = some (.int .i64 o.k) := hp 0 (by omega)
  have r7 : w.cell? ⟨b, off + 7, none⟩ = some (.string o.nm) := hp 7 (by omega)
  have r20 : w.cell? ⟨b, off + 20, none⟩ = some (.int .i64 o.rows) := hp 20 (by omega)
  have r21 : w.cell? ⟨b, off + 21, none⟩ = some (.slice a n cap) := hp 21 (by omega)
  have s0 : w.cell? ⟨q, 0, none⟩ = some (.int .i64 p.k) := hr 0 (by omega)
  have s7 : w.cell? ⟨q, 7, none⟩ = some (.string p.nm) := hr 7 (by omega)
  have s20 : w.cell? ⟨q, 20, none⟩ = some (.int .i64 p.rows) := hr 20 (by omega)
  have s21 : w.cell? ⟨q, 21, none⟩ = some (.slice c m cap') := hr 21 (by omega)
  clear hp hr
  unfold vagg at q1 q2
  unfold aagg at q3 q4
  try unfold vagg at h2
  try unfold aagg at h4
  go_enter Tryz.func64, Tryz.ntmps64
  go_wp2_with fail
  simp only [List.append_eq, List.cons_append, List.nil_append]
  refine wp_region_multiR [([0, 1, 2, 3, 4, 5, 6, 7, 8, 9, 10, 11, 12, 13, 14, 15, 16, 17, 18, 19, 20, 21, 22, 23, 24, 25, 26, 27, 28, 29, 30, 31, 32, 33, 34, 35, 36, 37, 38, 39, 40, 41, 42, 43, 44, 45, 46, 47, 48, 49, 50, 51, 52, 53, 54, 55, 56, 57, 58, 59, 60, 61, 62, 63, 64, 65, 66], [], [])] (by kernel_rfl) (by kernel_rfl) ?_
  refine multi_phase (Below w.heap.size w) (Below.refl _ _).drew ?_
  iterate 13 (first | (apply first_step; (rw [List.getElem?_toArray]; (repeat rw [List.getElem?_cons_succ]); rw [List.getElem?_cons_zero]); rfl; (intro W hB; have hc := bcellB hB; go_simp; (first | done | rfl)); go_frame) | (apply first_skip; (rw [List.getElem?_toArray]; (repeat rw [List.getElem?_cons_succ]); rw [List.getElem?_cons_zero]); rfl; go_frame))
  first | (apply first_load; (rw [List.getElem?_toArray]; (repeat rw [List.getElem?_cons_succ]); rw [List.getElem?_cons_zero]); rfl; rfl; rfl; exact q1; go_frame) | (first | (apply first_step; (rw [List.getElem?_toArray]; (repeat rw [List.getElem?_cons_succ]); rw [List.getElem?_cons_zero]); rfl; (intro W hB; have hc := bcellB hB; go_simp; (first | done | rfl)); go_frame) | (apply first_skip; (rw [List.getElem?_toArray]; (repeat rw [List.getElem?_cons_succ]); rw [List.getElem?_cons_zero]); rfl; go_frame))
  iterate 3 (first | (apply first_step; (rw [List.getElem?_toArray]; (repeat rw [List.getElem?_cons_succ]); rw [List.getElem?_cons_zero]); rfl; (intro W hB; have hc := bcellB hB; go_simp; (first | done | rfl)); go_frame) | (apply first_skip; (rw [List.getElem?_toArray]; (repeat rw [List.getElem?_cons_succ]); rw [List.getElem?_cons_zero]); rfl; go_frame))
  first | (apply first_load; (rw [List.getElem?_toArray]; (repeat rw [List.getElem?_cons_succ]); rw [List.getElem?_cons_zero]); rfl; rfl; rfl; exact q2; go_frame) | (first | (apply first_step; (rw [List.getElem?_toArray]; (repeat rw [List.getElem?_cons_succ]); rw [List.getElem?_cons_zero]); rfl; (intro W hB; have hc := bcellB hB; go_simp; (first | done | rfl)); go_frame) | (apply first_skip; (rw [List.getElem?_toArray]; (repeat rw [List.getElem?_cons_succ]); rw [List.getElem?_cons_zero]); rfl; go_frame))
  iterate 17 (first | (apply first_step; (rw [List.getElem?_toArray]; (repeat rw [List.getElem?_cons_succ]); rw [List.getElem?_cons_zero]); rfl; (intro W hB; have hc := bcellB hB; go_simp; (first | done | rfl)); go_frame) | (apply first_skip; (rw [List.getElem?_toArray]; (repeat rw [List.getElem?_cons_succ]); rw [List.getElem?_cons_zero]); rfl; go_frame))
  first | (apply first_load; (rw [List.getElem?_toArray]; (repeat rw [List.getElem?_cons_succ]); rw [List.getElem?_cons_zero]); rfl; rfl; rfl; exact q3; go_frame) | (first | (apply first_step; (rw [List.getElem?_toArray]; (repeat rw [List.getElem?_cons_succ]); rw [List.getElem?_cons_zero]); rfl; (intro W hB; have hc := bcellB hB; go_simp; (first | done | rfl)); go_frame) | (apply first_skip; (rw [List.getElem?_toArray]; (repeat rw [List.getElem?_cons_succ]); rw [List.getElem?_cons_zero]); rfl; go_frame))
  iterate 3 (first | (apply first_step; (rw [List.getElem?_toArray]; (repeat rw [List.getElem?_cons_succ]); rw [List.getElem?_cons_zero]); rfl; (intro W hB; have hc := bcellB hB; go_simp; (first | done | rfl)); go_frame) | (apply first_skip; (rw [List.getElem?_toArray]; (repeat rw [List.getElem?_cons_succ]); rw [List.getElem?_cons_zero]); rfl; go_frame))
  first | (apply first_load; (rw [List.getElem?_toArray]; (repeat rw [List.getElem?_cons_succ]); rw [List.getElem?_cons_zero]); rfl; rfl; rfl; exact q4; go_frame) | (first | (apply first_step; (rw [List.getElem?_toArray]; (repeat rw [List.getElem?_cons_succ]); rw [List.getElem?_cons_zero]); rfl; (intro W hB; have hc := bcellB hB; go_simp; (first | done | rfl)); go_frame) | (apply first_skip; (rw [List.getElem?_toArray]; (repeat rw [List.getElem?_cons_succ]); rw [List.getElem?_cons_zero]); rfl; go_frame))
  iterate 27 (first | (apply first_step; (rw [List.getElem?_toArray]; (repeat rw [List.getElem?_cons_succ]); rw [List.getElem?_cons_zero]); rfl; (intro W hB; have hc := bcellB hB; go_simp; (first | done | rfl)); go_frame) | (apply first_skip; (rw [List.getElem?_toArray]; (repeat rw [List.getElem?_cons_succ]); rw [List.getElem?_cons_zero]); rfl; go_frame))
  refine first_done ?_
  refine forced_done ?_
  refine multi_done ?_
  clear q1 q2 q3 q4 r0 r7 r20 r21 s0 s7 s20 s21
  go_wp2_with fail
  go_ret
  exact ⟨by first | exact rfl | (refine ret_bool' ?_; simp [*]), (Below.refl _ w).drew⟩
end
end Go.Proofs.YtlcglkanlhmmdaaGreat
/- tree.alike, way 5. -/
namespace Go.Proofs.YtlcglkanlhmmdaaGreat
open Go.RowKit
section
variable (o p : Nd) (a c : Option Addr) (n cap m cap' b off q : Nat) (w : World)
variable (hb : b < w.heap.size) (hq : q < w.heap.size) (hp : NdAt w b off o (.slice a n cap)) (hr : NdAt w q 0 p (.slice c m cap'))
include hb hq hp hr
set_option maxHeartbeats 4000000 in
set_option maxRecDepth 100000 in
theorem alike_5 (h1 : (o.k == p.k) = true) (h2 : ∀ W, (binOp .eql 33 (vagg o.v) (vagg p.v)).run Tryz.prog W = .ok (.bool true) W) (h3 : (o.nm.toList == p.nm.toList) = true) (h4 : ∀ W, (binOp .eql 39 (aagg o.a o.b) (aagg p.a p.b)).run Tryz.prog W = .ok (.bool true) W) (h5 : (o.rows == p.rows) = false) : Calls Tryz.prog 64 #[.pointer (some ⟨b, off, none⟩), .pointer (some ⟨q, 0, none⟩)] w fun e w' => e = .returned (.bool false) ∧ Below w.heap.size w w' := by
  have q1 := load_v hb hp
  have q2 := load_v hq hr
  have q3 := load_a hb hp
  have q4 := load_a hq hr
  have r0 : w.cell? ⟨b, off, none⟩ = some (.int .i64 o.k) := hp 0 (by omega)
  have r7 : w.cell? ⟨b, off + 7, none⟩ = some (.string o.nm) := hp 7 (by omega)
  have r20 : w.cell? ⟨b, off + 20, none⟩ = some (.int .i64 o.rows) := hp 20 (by omega)
  have r21 : w.cell? ⟨b, off + 21, none⟩ = some (.slice a n cap) := hp 21 (by omega)
  have s0 : w.cell? ⟨q, 0, none⟩ = some (.int .i64 p.k) := hr 0 (by omega)
  have s7 : w.cell? ⟨q, 7, none⟩ = some (.string p.nm) := hr 7 (by omega)
  have s20 : w.cell? ⟨q, 20, none⟩ = some (.int .i64 p.rows) := hr 20 (by omega)
  have s21 : w.cell? ⟨q, 21, none⟩ = some (.slice c m cap') := hr 21 (by omega)
  clear hp hr
  unfold vagg at q1 q2
  unfold aagg at q3 q4
  try unfold vagg at h2
  try unfold aagg at h4
  go_enter Tryz.func64, Tryz.ntmps64
  go_wp2_with fail
  simp only [List.append_eq, List.cons_append, List.nil_append]
  refine wp_region_multiR [([0, 1, 2, 3, 4, 5, 6, 7, 8, 9, 10, 11, 12, 13, 14, 15, 16, 17, 18, 19, 20, 21, 22, 23, 24, 25, 26, 27, 28, 29, 30, 31, 32, 33, 34, 35, 36, 37, 38, 39, 40, 41, 42, 43, 44, 45, 46, 47, 48, 49, 50, 51, 52, 53, 54, 55, 56, 57, 58, 59, 60, 61, 62, 63, 64, 65, 66], [], [])] (by kernel_rfl) (by kernel_rfl) ?_
  refine multi_phase (Below w.heap.size w) (Below.refl _ _).drew ?_
  iterate 13 (first | (apply first_step; (rw [List.getElem?_toArray]; (repeat rw [List.getElem?_cons_succ]); rw [List.getElem?_cons_zero]); rfl; (intro W hB; have hc := bcellB hB; go_simp; (first | done | rfl)); go_frame) | (apply first_skip; (rw [List.getElem?_toArray]; (repeat rw [List.getElem?_cons_succ]); rw [List.getElem?_cons_zero]); rfl; go_frame))
  first | (apply first_load; (rw [List.getElem?_toArray]; (repeat rw [List.getElem?_cons_succ]); rw [List.getElem?_cons_zero]); rfl; rfl; rfl; exact q1; go_frame) | (first | (apply first_step; (rw [List.getElem?_toArray]; (repeat rw [List.getElem?_cons_succ]); rw [List.getElem?_cons_zero]); rfl; (intro W hB; have hc := bcellB hB; go_simp; (first | done | rfl)); go_frame) | (apply first_skip; (rw [List.getElem?_toArray]; (repeat rw [List.getElem?_cons_succ]); rw [List.getElem?_cons_zero]); rfl; go_frame))
  iterate 3 (first | (apply first_step; (rw [List.getElem?_toArray]; (repeat rw [List.getElem?_cons_succ]); rw [List.getElem?_cons_zero]); rfl; (intro W hB; have hc := bcellB hB; go_simp; (first | done | rfl)); go_frame) | (apply first_skip; (rw [List.getElem?_toArray]; (repeat rw [List.getElem?_cons_succ]); rw [List.getElem?_cons_zero]); rfl; go_frame))
  first | (apply first_load; (rw [List.getElem?_toArray]; (repeat rw [List.getElem?_cons_succ]); rw [List.getElem?_cons_zero]); rfl; rfl; rfl; exact q2; go_frame) | (first | (apply first_step; (rw [List.getElem?_toArray]; (repeat rw [List.getElem?_cons_succ]); rw [List.getElem?_cons_zero]); rfl; (intro W hB; have hc := bcellB hB; go_simp; (first | done | rfl)); go_frame) | (apply first_skip; (rw [List.getElem?_toArray]; (repeat rw [List.getElem?_cons_succ]); rw [List.getElem?_cons_zero]); rfl; go_frame))
  iterate 17 (first | (apply first_step; (rw [List.getElem?_toArray]; (repeat rw [List.getElem?_cons_succ]); rw [List.getElem?_cons_zero]); rfl; (intro W hB; have hc := bcellB hB; go_simp; (first | done | rfl)); go_frame) | (apply first_skip; (rw [List.getElem?_toArray]; (repeat rw [List.getElem?_cons_succ]); rw [List.getElem?_cons_zero]); rfl; go_frame))
  first | (apply first_load; (rw [List.getElem?_toArray]; (repeat rw [List.getElem?_cons_succ]); rw [List.getElem?_cons_zero]); rfl; rfl; rfl; exact q3; go_frame) | (first | (apply first_step; (rw [List.getElem?_toArray]; (repeat rw [List.getElem?_cons_succ]); rw [List.getElem?_cons_zero]); rfl; (intro W hB; have hc := bcellB hB; go_simp; (first | done | rfl)); go_frame) | (apply first_skip; (rw [List.getElem?_toArray]; (repeat rw [List.getElem?_cons_succ]); rw [List.getElem?_cons_zero]); rfl; go_frame))
  iterate 3 (first | (apply first_step; (rw [List.getElem?_toArray]; (repeat rw [List.getElem?_cons_succ]); rw [List.getElem?_cons_zero]); rfl; (intro W hB; have hc := bcellB hB; go_simp; (first | done | rfl)); go_frame) | (apply first_skip; (rw [List.getElem?_toArray]; (repeat rw [List.getElem?_cons_succ]); rw [List.getElem?_cons_zero]); rfl; go_frame))
  first | (apply first_load; (rw [List.getElem?_toArray]; (repeat rw [List.getElem?_cons_succ]); rw [List.getElem?_cons_zero]); rfl; rfl; rfl; exact q4; go_frame) | (first | (apply first_step; (rw [List.getElem?_toArray]; (repeat rw [List.getElem?_cons_succ]); rw [List.getElem?_cons_zero]); rfl; (intro W hB; have hc := bcellB hB; go_simp; (first | done | rfl)); go_frame) | (apply first_skip; (rw [List.getElem?_toArray]; (repeat rw [List.getElem?_cons_succ]); rw [List.getElem?_cons_zero]); rfl; go_frame))
  iterate 27 (first | (apply first_step; (rw [List.getElem?_toArray]; (repeat rw [List.getElem?_cons_succ]); rw [List.getElem?_cons_zero]); rfl; (intro W hB; have hc := bcellB hB; go_simp; (first | done | rfl)); go_frame) | (apply first_skip; (rw [List.getElem?_toArray]; (repeat rw [List.getElem?_cons_succ]); rw [List.getElem?_cons_zero]); rfl; go_frame))
  refine first_done ?_
  refine forced_done ?_
  refine multi_done ?_
  clear q1 q2 q3 q4 r0 r7 r20 r21 s0 s7 s20 s21
  go_wp2_with fail
  go_ret
  exact ⟨by first | exact rfl | (refine ret_bool' ?_; simp [*]), (Below.refl _ w).drew⟩
end
end Go.Proofs.YtlcglkanlhmmdaaGreat
/- tree.alike, way 6. -/
namespace Go.Proofs.YtlcglkanlhmmdaaGreat
open Go.RowKit
section
variable (o p : Nd) (a c : Option Addr) (n cap m cap' b off q : Nat) (w : World)
variable (hb : b < w.heap.size) (hq : q < w.heap.size) (hp : NdAt w b off o (.slice a n cap)) (hr : NdAt w q 0 p (.slice c m cap'))
include hb hq hp hr
set_option maxHeartbeats 4000000 in
set_option maxRecDepth 100000 in
theorem alike_6 (h1 : (o.k == p.k) = true) (h2 : ∀ W, (binOp .eql 33 (vagg o.v) (vagg p.v)).run Tryz.prog W = .ok (.bool true) W) (h3 : (o.nm.toList == p.nm.toList) = true) (h4 : ∀ W, (binOp .eql 39 (aagg o.a o.b) (aagg p.a p.b)).run Tryz.prog W = .ok (.bool true) W) (h5 : (o.rows == p.rows) = true) : Calls Tryz.prog 64 #[.pointer (some ⟨b, off, none⟩), .pointer (some ⟨q, 0, none⟩)] w fun e w' => e = .returned (.bool (((n : Int) == (m : Int)))) ∧ Below w.heap.size w w' := by
  have q1 := load_v hb hp
  have q2 := load_v hq hr
  have q3 := load_a hb hp
  have q4 := load_a hq hr
  have r0 : w.cell? ⟨b, off, none⟩ = some (.int .i64 o.k) := hp 0 (by omega)
  have r7 : w.cell? ⟨b, off + 7, none⟩ = some (.string o.nm) := hp 7 (by omega)
  have r20 : w.cell? ⟨b, off + 20, none⟩ = some (.int .i64 o.rows) := hp 20 (by omega)
  have r21 : w.cell? ⟨b, off + 21, none⟩ = some (.slice a n cap) := hp 21 (by omega)
  have s0 : w.cell? ⟨q, 0, none⟩ = some (.int .i64 p.k) := hr 0 (by omega)
  have s7 : w.cell? ⟨q, 7, none⟩ = some (.string p.nm) := hr 7 (by omega)
  have s20 : w.cell? ⟨q, 20, none⟩ = some (.int .i64 p.rows) := hr 20 (by omega)
  have s21 : w.cell? ⟨q, 21, none⟩ = some (.slice c m cap') := hr 21 (by omega)
  clear hp hr
  unfold vagg at q1 q2
  unfold aagg at q3 q4
  try unfold vagg at h2
  try unfold aagg at h4
  go_enter Tryz.func64, Tryz.ntmps64
  go_wp2_with fail
  simp only [List.append_eq, List.cons_append, List.nil_append]
  refine wp_region_multiR [([0, 1, 2, 3, 4, 5, 6, 7, 8, 9, 10, 11, 12, 13, 14, 15, 16, 17, 18, 19, 20, 21, 22, 23, 24, 25, 26, 27, 28, 29, 30, 31, 32, 33, 34, 35, 36, 37, 38, 39, 40, 41, 42, 43, 44, 45, 46, 47, 48, 49, 50, 51, 52, 53, 54, 55, 56, 57, 58, 59, 60, 61, 62, 63, 64, 65, 66], [], [])] (by kernel_rfl) (by kernel_rfl) ?_
  refine multi_phase (Below w.heap.size w) (Below.refl _ _).drew ?_
  iterate 13 (first | (apply first_step; (rw [List.getElem?_toArray]; (repeat rw [List.getElem?_cons_succ]); rw [List.getElem?_cons_zero]); rfl; (intro W hB; have hc := bcellB hB; go_simp; (first | done | rfl)); go_frame) | (apply first_skip; (rw [List.getElem?_toArray]; (repeat rw [List.getElem?_cons_succ]); rw [List.getElem?_cons_zero]); rfl; go_frame))
  first | (apply first_load; (rw [List.getElem?_toArray]; (repeat rw [List.getElem?_cons_succ]); rw [List.getElem?_cons_zero]); rfl; rfl; rfl; exact q1; go_frame) | (first | (apply first_step; (rw [List.getElem?_toArray]; (repeat rw [List.getElem?_cons_succ]); rw [List.getElem?_cons_zero]); rfl; (intro W hB; have hc := bcellB hB; go_simp; (first | done | rfl)); go_frame) | (apply first_skip; (rw [List.getElem?_toArray]; (repeat rw [List.getElem?_cons_succ]); rw [List.getElem?_cons_zero]); rfl; go_frame))
  iterate 3 (first | (apply first_step; (rw [List.getElem?_toArray]; (repeat rw [List.getElem?_cons_succ]); rw [List.getElem?_cons_zero]); rfl; (intro W hB; have hc := bcellB hB; go_simp; (first | done | rfl)); go_frame) | (apply first_skip; (rw [List.getElem?_toArray]; (repeat rw [List.getElem?_cons_succ]); rw [List.getElem?_cons_zero]); rfl; go_frame))
  first | (apply first_load; (rw [List.getElem?_toArray]; (repeat rw [List.getElem?_cons_succ]); rw [List.getElem?_cons_zero]); rfl; rfl; rfl; exact q2; go_frame) | (first | (apply first_step; (rw [List.getElem?_toArray]; (repeat rw [List.getElem?_cons_succ]); rw [List.getElem?_cons_zero]); rfl; (intro W hB; have hc := bcellB hB; go_simp; (first | done | rfl)); go_frame) | (apply first_skip; (rw [List.getElem?_toArray]; (repeat rw [List.getElem?_cons_succ]); rw [List.getElem?_cons_zero]); rfl; go_frame))
  iterate 17 (first | (apply first_step; (rw [List.getElem?_toArray]; (repeat rw [List.getElem?_cons_succ]); rw [List.getElem?_cons_zero]); rfl; (intro W hB; have hc := bcellB hB; go_simp; (first | done | rfl)); go_frame) | (apply first_skip; (rw [List.getElem?_toArray]; (repeat rw [List.getElem?_cons_succ]); rw [List.getElem?_cons_zero]); rfl; go_frame))
  first | (apply first_load; (rw [List.getElem?_toArray]; (repeat rw [List.getElem?_cons_succ]); rw [List.getElem?_cons_zero]); rfl; rfl; rfl; exact q3; go_frame) | (first | (apply first_step; (rw [List.getElem?_toArray]; (repeat rw [List.getElem?_cons_succ]); rw [List.getElem?_cons_zero]); rfl; (intro W hB; have hc := bcellB hB; go_simp; (first | done | rfl)); go_frame) | (apply first_skip; (rw [List.getElem?_toArray]; (repeat rw [List.getElem?_cons_succ]); rw [List.getElem?_cons_zero]); rfl; go_frame))
  iterate 3 (first | (apply first_step; (rw [List.getElem?_toArray]; (repeat rw [List.getElem?_cons_succ]); rw [List.getElem?_cons_zero]); rfl; (intro W hB; have hc := bcellB hB; go_simp; (first | done | rfl)); go_frame) | (apply first_skip; (rw [List.getElem?_toArray]; (repeat rw [List.getElem?_cons_succ]); rw [List.getElem?_cons_zero]); rfl; go_frame))
  first | (apply first_load; (rw [List.getElem?_toArray]; (repeat rw [List.getElem?_cons_succ]); rw [List.getElem?_cons_zero]); rfl; rfl; rfl; exact q4; go_frame) | (first | (apply first_step; (rw [List.getElem?_toArray]; (repeat rw [List.getElem?_cons_succ]); rw [List.getElem?_cons_zero]); rfl; (intro W hB; have hc := bcellB hB; go_simp; (first | done | rfl)); go_frame) | (apply first_skip; (rw [List.getElem?_toArray]; (repeat rw [List.getElem?_cons_succ]); rw [List.getElem?_cons_zero]); rfl; go_frame))
  iterate 27 (first | (apply first_step; (rw [List.getElem?_toArray]; (repeat rw [List.getElem?_cons_succ]); rw [List.getElem?_cons_zero]); rfl; (intro W hB; have hc := bcellB hB; go_simp; (first | done | rfl)); go_frame) | (apply first_skip; (rw [List.getElem?_toArray]; (repeat rw [List.getElem?_cons_succ]); rw [List.getElem?_cons_zero]); rfl; go_frame))
  refine first_done ?_
  refine forced_done ?_
  refine multi_done ?_
  clear q1 q2 q3 q4 r0 r7 r20 r21 s0 s7 s20 s21
  go_wp2_with fail
  go_ret
  exact ⟨by first | exact rfl | (refine ret_bool' ?_; simp [*]), (Below.refl _ w).drew⟩
end
end Go.Proofs.YtlcglkanlhmmdaaGreat
