/- ref17: Set. -/
import Derived.Laws.Cover1
import Derived.Test.YtlcglkanlhmmdaaGreatQN17Find
import Derived.Test.YtlcglkanlhmmdaaGreatQN17CheckR
namespace Go.Proofs.YtlcglkanlhmmdaaGreat
open Go.RowKit
theorem info81w : (Tryz.prog.info? 70).map (fun i => (i.zero, i.size, i.bytes)) = some (some (.agg (nmcells ⟨#[]⟩ nd0 (.slice none 0 0)).toArray), 23, 208) := by kernel_rfl
theorem info81 : (Tryz.prog.info? 70).map (·.size) = some 23 := by kernel_rfl
theorem build_nm (s : ByteArray) (o : Nd) (v : Value) (w : World) : (Instr.build 70 #[(0, .string s), (1, nagg o v)]).run Tryz.prog w = .ok (.agg (nmcells s o v).toArray) w := run_build w 70 _ _ (by kernel_rfl)
theorem bs_nm (s : ByteArray) (o : Nd) (v : Value) (w : World) : (Instr.buildSlice 27 1 #[(0, .agg (nmcells s o v).toArray)]).run Tryz.prog w = .ok (.slice (some ⟨w.heap.size, 0, none⟩) 1 1) (w.alloc (.cells (nmcells s o v).toArray 70)) := by
  simp only [nmcells, ncells, ocells, List.cons_append, List.nil_append]
  go_simp
theorem wpList_bs_nm {ops : Array Oper} {rest : List Oper} {op : Oper} {a : Act} {w : World} {Q : Exit → Act → World → Prop} (hw : Region.wanted op (yielded ops a.tmps) = true) (x : Operand) (ho : op.op = .buildSlice 27 1 #[(0, x)]) (s : ByteArray) (o : Nd) (v : Value) (hx : a.eval x = .agg (nmcells s o v).toArray)
    (h : wpList Tryz.prog ops Q rest (a.put op.dst (.slice (some ⟨w.heap.size, 0, none⟩) 1 1)) (w.alloc (.cells (nmcells s o v).toArray 70))) : wpList Tryz.prog ops Q (op :: rest) a w :=
  wpList_step fun K hK => by
    rw [if_pos hw]
    unfold Oper.wp execOp
    simp only [ho, List.map_toArray, List.map_cons, List.map_nil, hx, Sem.run_bind, bs_nm, Result.andThen_ok]
    exact hK _ _ h
theorem one_nm (s : ByteArray) (o : Nd) {v : Value} (hv : v.oneCell' = true) : ∀ u ∈ nmcells s o v, u.oneCell' = true := by
  intro u hu
  rcases List.mem_cons.1 hu with rfl | hu
  · rfl
  · exact one_nd o hv u hu
/-- Is x greater than s? -/
def gtS (s x : ByteArray) : Bool := !(Op.bytesLess x.toList s.toList || x.toList == s.toList)
def rsetL (R : List (ByteArray × T)) (s : ByteArray) (t : T) : List (ByteArray × T) := if setE R s t = 0 then insG s t (gtS s) R false else R
def RSetR (w : World) (R' : List (ByteArray × T)) (z : Int) : Ending → World → Prop := fun e w' => (∃ a' c', e = .returned (.tuple #[.agg #[.slice a' R'.length c'], .int .i64 z]) ∧ RowsAt w' a' R') ∧ Below w.heap.size w w'
theorem info43 : (Tryz.prog.info? 29).map (·.size) = some 1 := by kernel_rfl
theorem results_43 {fn : Func} {tm : Array Value} {k m b : Nat} {v u : Value} {W : World} (hf : fn.results = #[.cell k 29, .tmp m]) (ht : tm.getD k undef = .pointer (some ⟨b, 0, none⟩)) (hm : tm.getD m undef = u) (hr : W.heap[b]? = some (.cells #[v] 29)) :
    (results fn tm).run Tryz.prog W = .ok (.tuple #[.agg #[v], u]) W := by
  have hra : W.rangeAt b 0 [v] := fun j x hx => by
    rw [cell_of_heap hr, Nat.zero_add]
    simpa using hx
  have h := run_loadVar_mid (P := Tryz.prog) W b 0 29 [v] _ hra Tryz.underlying29 rfl info43
  have ht2 : tm[k]?.getD undef = .pointer (some ⟨b, 0, none⟩) := by rw [← ht]; simp
  have hm2 : tm[m]?.getD undef = u := by rw [← hm]; simp
  unfold results
  simp [hf, h, asAddr, ht2, hm2]
/-- Set refuses: the table as it was. -/
theorem rset_no {R : List (ByteArray × T)} {ra : Option Addr} {rc r : Nat} {s : ByteArray} {t : T} {w W : World} {z : Int} {tm : Array Value} (hr : R.length = r) (hRA : RowsAt w ra R) (hB : Below w.heap.size w W) (hG : W.heap[w.heap.size + 1 + 1]? = some (.cells #[.slice none 0 0] 29)) (hz : setE R s t = z) (hz0 : z ≠ 0)
    (h6 : tm.getD 6 undef = .pointer (some ⟨w.heap.size + 1 + 1, 0, none⟩)) (h7 : tm.getD 7 undef = .int .i64 z) :
    bodyPost Tryz.prog Tryz.f10 (RSetR w (rsetL R s t) (setE R s t)) Exit.ret { tmps := tm, defers := [] } (W.setCell ⟨w.heap.size + 1 + 1, 0, none⟩ (.slice ra r rc)) := by
  have hh : (W.setCell ⟨w.heap.size + 1 + 1, 0, none⟩ (.slice ra r rc)).heap[w.heap.size + 1 + 1]? = some (.cells #[.slice ra r rc] 29) := heap_setCell_at hG 0 _
  have hb : Below w.heap.size w (W.setCell ⟨w.heap.size + 1 + 1, 0, none⟩ (.slice ra r rc)) := hB.setCell (p := ⟨w.heap.size + 1 + 1, 0, none⟩) (by show w.heap.size ≤ w.heap.size + 1 + 1; omega) _
  refine bodyPost_ret (v := .tuple #[.agg #[.slice ra r rc], .int .i64 z]) (results_43 rfl h6 h7 hh) rfl ?_
  have e : rsetL R s t = R := by unfold rsetL; rw [if_neg (by rw [hz]; exact hz0)]
  rw [e, hz]
  exact ⟨⟨ra, rc, by rw [hr], hRA.below hb⟩, hb⟩
theorem range_nm {w : World} {q off : Nat} {x : ByteArray} {o : Nd} {v : Value} (h0 : w.cell? ⟨q, off, none⟩ = some (.string x)) (h : NdAt w q (off + 1) o v) : w.rangeAt q off (nmcells x o v) := fun j u hu => by
  cases j with
  | zero =>
    cases hu
    exact h0
  | succ j =>
    have hj : j < 22 := by have := (List.getElem?_eq_some_iff.1 hu).1; change j + 1 < 23 at this; omega
    rw [show off + (j + 1) = off + 1 + j from by omega]
    exact (h j hj).trans hu
theorem wpList_bld_nm {ops : Array Oper} {rest : List Oper} {op : Oper} {a : Act} {w : World} {Q : Exit → Act → World → Prop} (hw : Region.wanted op (yielded ops a.tmps) = true) (x y : Operand) (ho : op.op = .build 70 #[(0, x), (1, y)]) (s : ByteArray) (o : Nd) (v : Value) (hx : a.eval x = .string s) (hy : a.eval y = .agg (ncells o v).toArray)
    (h : wpList Tryz.prog ops Q rest (a.put op.dst (.agg (nmcells s o v).toArray)) w) : wpList Tryz.prog ops Q (op :: rest) a w :=
  wpList_step fun K hK => by
    have hb : (Instr.build 70 #[(0, .string s), (1, .agg (ncells o v).toArray)]).run Tryz.prog w = .ok (.agg (nmcells s o v).toArray) w := build_nm s o v w
    rw [if_pos hw]
    unfold Oper.wp execOp
    simp only [ho, List.map_toArray, List.map_cons, List.map_nil, hx, hy, Sem.run_bind, hb, Result.andThen_ok]
    exact hK _ _ h
theorem wpList_app_nm {ops : Array Oper} {rest : List Oper} {op : Oper} {a : Act} {Q : Exit → Act → World → Prop} {w0 wr : World} {base : Nat} {v : Value} {A : List (ByteArray × T)} (hw : Region.wanted op (yielded ops a.tmps) = true) (s x : Operand)
    (ho : op.op = .call { callee := .builtin .append, args := #[s, x], argTypes := #[27, 27] }) (hs : a.eval s = v) (hO : NamO w0 wr base v A) (y : ByteArray) (u : T) (ua : Option Addr) (m uc : Nat) (hm : u.l.length = m) (hx : a.eval x = .slice (some ⟨wr.heap.size, 0, none⟩) 1 1) (hat : u.At w0 ua)
    (hl : A.length ≤ 4194304) (hbase : base ≤ wr.heap.size) (h : ∀ v' W5, NamO w0 W5 base v' (A ++ [(y, u)]) → Below base wr W5 → wpList Tryz.prog ops Q rest (a.put op.dst v') W5) :
    wpList Tryz.prog ops Q (op :: rest) a (wr.alloc (.cells (nmcells y u.o (.slice ua m uc)).toArray 70)) := by
  subst hm
  obtain ⟨i0, hii, hi0, hi1, hi2⟩ := info_parts info81w
  obtain ⟨es, hrow, hel, hes⟩ := hO
  refine wpList_append_src hw s x 27 ho base 70 i0 _ 23 208 Tryz.underlying27 hii hi0 hi1 hi2 rfl (by decide) v A.length (rowN es) hs (World.ownsRow.alloc hrow _) (some ⟨wr.heap.size, 0, none⟩) 1 1 (nmcells y u.o (.slice ua u.l.length uc)) hx rfl (fun _ => ⟨_, rfl, fun j v hv => cells_new wr (nmcells y u.o (.slice ua u.l.length uc)).toArray 70 j v hv⟩) (one_nm _ _ rfl) (by unfold maxLen; omega) (by omega) (by simp; omega) ?_
  intro v5 W5 ho5 hg5
  exact h v5 W5 (NamO.push hel hes hat ho5) (((Below.refl _ wr).alloc hbase _).grown hg5 (by simp; omega) (own_base (World.ownsRow.alloc hrow (.cells (nmcells y u.o (.slice ua u.l.length uc)).toArray 70))))
theorem NamO.keepB {w wr wr' : World} {base : Nat} {v : Value} {A : List (ByteArray × T)} (h : NamO w wr base v A) (hb : ∀ k, base ≤ k → k < wr.heap.size → wr'.heap[k]? = wr.heap[k]?) : NamO w wr' base v A := by
  obtain ⟨es, h1, h2, h3⟩ := h
  refine ⟨es, ⟨h1.1, ?_⟩, h2, h3⟩
  rcases h1.2 with h4 | ⟨g, cap, cur, e, h5, h6, h7⟩
  · exact .inl h4
  · exact .inr ⟨g, cap, cur, e, h5, (hb g h5 (lt_of_heap h6)).trans h6, h7⟩
theorem NamO.slice {w wr : World} {base : Nat} {v : Value} {A : List (ByteArray × T)} (h : NamO w wr base v A) : ∃ a c, v = .slice a A.length c := by
  obtain ⟨es, h1, _⟩ := h
  exact own_slice h1
/-- Set gives the name. -/
theorem rset_yes {R R' : List (ByteArray × T)} {a' : Option Addr} {c' r : Nat} {s : ByteArray} {t : T} {w W : World} {tm : Array Value} (hr : R'.length = r) (hB : Below w.heap.size w W) (hG : W.heap[w.heap.size + 1 + 1]? = some (.cells #[.slice none 0 0] 29)) (hO : NamO w W (w.heap.size + 3) (.slice a' r c') R') (hz : setE R s t = 0) (hR : insG s t (gtS s) R false = R')
    (h6 : tm.getD 6 undef = .pointer (some ⟨w.heap.size + 1 + 1, 0, none⟩)) (h7 : tm.getD 7 undef = .int .i64 0) :
    bodyPost Tryz.prog Tryz.f10 (RSetR w (rsetL R s t) (setE R s t)) Exit.ret { tmps := tm, defers := [] } (W.setCell ⟨w.heap.size + 1 + 1, 0, none⟩ (.slice a' r c')) := by
  subst hr
  have hh : (W.setCell ⟨w.heap.size + 1 + 1, 0, none⟩ (.slice a' R'.length c')).heap[w.heap.size + 1 + 1]? = some (.cells #[.slice a' R'.length c'] 29) := heap_setCell_at hG 0 _
  have hb : Below w.heap.size w (W.setCell ⟨w.heap.size + 1 + 1, 0, none⟩ (.slice a' R'.length c')) := hB.setCell (p := ⟨w.heap.size + 1 + 1, 0, none⟩) (by show w.heap.size ≤ w.heap.size + 1 + 1; omega) _
  refine bodyPost_ret (v := .tuple #[.agg #[.slice a' R'.length c'], .int .i64 0]) (results_43 rfl h6 h7 hh) rfl ?_
  have e : rsetL R s t = R' := by unfold rsetL; rw [if_pos hz, hR]
  rw [e, hz]
  refine ⟨⟨a', c', rfl, NamO.rows (NamO.keepB hO fun k hk _ => ?_) hb⟩, hb⟩
  exact Below.heap_setCell _ _ _ _ (by show k ≠ w.heap.size + 1 + 1; omega)
end Go.Proofs.YtlcglkanlhmmdaaGreat
