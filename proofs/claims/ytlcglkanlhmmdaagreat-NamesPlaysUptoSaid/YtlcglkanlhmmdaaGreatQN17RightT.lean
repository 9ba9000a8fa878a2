/- tree.right: what it asks of a node itself (a cut). -/
import Derived.Test.YtlcglkanlhmmdaaGreatQN17RightT0
namespace Go.Proofs.YtlcglkanlhmmdaaGreat
open Go.RowKit
theorem info30 : (Tryz.prog.info? 37).map (·.size) = some 6 := by kernel_rfl
theorem info28 : (Tryz.prog.info? 35).map (·.size) = some 2 := by kernel_rfl
section
variable {P : Program} {ops : Array Oper} {rest : List Oper} {op : Oper} {a : Act} {w : World} {Q : Exit → Act → World → Prop}
theorem wpList_build0 (hw : Region.wanted op (yielded ops a.tmps) = true) (t : TypeId) (ho : op.op = .build t #[]) (v : Value) (hb : ∀ w, (Instr.build t #[]).run P w = .ok v w) (h : wpList P ops Q rest (a.put op.dst v) w) : wpList P ops Q (op :: rest) a w :=
  wpList_step fun K hK => by
    rw [if_pos hw]
    unfold Oper.wp execOp
    simp only [ho, List.map_toArray, List.map_nil, Sem.run_bind, hb, Result.andThen_ok]
    exact hK _ _ h
theorem wpList_build1 (hw : Region.wanted op (yielded ops a.tmps) = true) (t : TypeId) (i : Nat) (x : Operand) (ho : op.op = .build t #[(i, x)])
    (v0 : Value) (hx : a.eval x = v0) (v : Value) (hb : ∀ w, (Instr.build t #[(i, v0)]).run P w = .ok v w) (h : wpList P ops Q rest (a.put op.dst v) w) : wpList P ops Q (op :: rest) a w :=
  wpList_step fun K hK => by
    rw [if_pos hw]
    unfold Oper.wp execOp
    simp only [ho, List.map_toArray, List.map_cons, List.map_nil, hx, Sem.run_bind, hb, Result.andThen_ok]
    exact hK _ _ h
theorem first_build2 {S : World → Prop} {K : Act → Prop} {i : Nat} {rs : List Nat} (ho : ops[i]? = some op) (hw : Region.wanted op (yielded ops a.tmps) = true) (t : TypeId) (j k : Nat) (x y : Operand) (hop : op.op = .build t #[(j, x), (k, y)])
    (v1 v2 : Value) (hx : a.eval x = v1) (hy : a.eval y = v2) (v : Value) (hb : ∀ w, (Instr.build t #[(j, v1), (k, v2)]).run P w = .ok v w) (h : wpFirst P ops S K rs (a.put op.dst v)) : wpFirst P ops S K (i :: rs) a := by
  refine first_step ho hw (fun W _ => ?_) h
  unfold execOp
  simp only [hop, List.map_toArray, List.map_cons, List.map_nil, hx, hy, Sem.run_bind, hb, Result.andThen_ok, Sem.run_pure]
end
theorem build_v (v : V) (w : World) : (Instr.build 42 #[(1, .agg #[.int .i64 v.k, .int .i64 v.m, .int .i64 v.e, .string v.t, .bool v.b, .int .i64 v.f])]).run Tryz.prog w = .ok (nagg { nd0 with v := v } (.slice none 0 0)) w := run_build w 42 _ _ (by kernel_rfl)
theorem build_c (c : Cn) (w : World) : (Instr.build 39 #[(0, .agg #[.int .i64 c.ra, .int .i64 c.rn, .int .i64 c.ca, .int .i64 c.cn, .bool c.fr, .bool c.fc])]).run Tryz.prog w = .ok (aagg c nd0.b) w := run_build w 39 _ _ (by kernel_rfl)
theorem build_a (a b : Cn) (w : World) : (Instr.build 42 #[(3, aagg a b)]).run Tryz.prog w = .ok (nagg { nd0 with a := a, b := b } (.slice none 0 0)) w := run_build w 42 _ _ (by kernel_rfl)
theorem build_n (s : ByteArray) (w : World) : (Instr.build 42 #[(2, .string s)]).run Tryz.prog w = .ok (nagg { nd0 with nm := s } (.slice none 0 0)) w := run_build w 42 _ _ (by kernel_rfl)
theorem build_nl (s : ByteArray) (a : Option Addr) (n cap : Nat) (w : World) : (Instr.build 42 #[(2, .string s), (5, .slice a n cap)]).run Tryz.prog w = .ok (nagg { nd0 with nm := s } (.slice a n cap)) w := run_build w 42 _ _ (by kernel_rfl)
theorem build_rl (r : Int) (a : Option Addr) (n cap : Nat) (w : World) : (Instr.build 42 #[(4, .int .i64 r), (5, .slice a n cap)]).run Tryz.prog w = .ok (nagg { nd0 with rows := r } (.slice a n cap)) w := run_build w 42 _ _ (by kernel_rfl)
theorem build_0 (w : World) : (Instr.build 42 #[]).run Tryz.prog w = .ok (nagg nd0 (.slice none 0 0)) w := run_build w 42 _ _ (by kernel_rfl)
theorem nd_range {w : World} {b off : Nat} {o : Nd} {s : Value} (h : NdAt w b off o s) (k : Nat) (cs r : List Value) (hc : (ncells o s).drop k = cs ++ r) (hl : k + cs.length ≤ 22) : w.rangeAt b (off + k) cs := fun j v hv => by
  have hj : j < cs.length := (List.getElem?_eq_some_iff.1 hv).1
  have h1 : (ncells o s)[k + j]? = some v := by rw [← List.getElem?_drop, hc, List.getElem?_append_left hj]; exact hv
  rw [Nat.add_assoc]
  exact (h (k + j) (by omega)).trans h1
theorem range_v {w : World} {b off : Nat} {o : Nd} {s : Value} (h : NdAt w b off o s) : w.rangeAt b (off + 1) [.int .i64 o.v.k, .int .i64 o.v.m, .int .i64 o.v.e, .string o.v.t, .bool o.v.b, .int .i64 o.v.f] := nd_range h 1 _ _ rfl (by simp)
theorem range_a {w : World} {b off : Nat} {o : Nd} {s : Value} (h : NdAt w b off o s) : w.rangeAt b (off + 8) [.int .i64 o.a.ra, .int .i64 o.a.rn, .int .i64 o.a.ca, .int .i64 o.a.cn, .bool o.a.fr, .bool o.a.fc, .int .i64 o.b.ra, .int .i64 o.b.rn, .int .i64 o.b.ca, .int .i64 o.b.cn, .bool o.b.fr, .bool o.b.fc] := nd_range h 8 _ _ rfl (by simp)
theorem range_c {w : World} {b off : Nat} {o : Nd} {s : Value} (h : NdAt w b off o s) : w.rangeAt b (off + 8) [.int .i64 o.a.ra, .int .i64 o.a.rn, .int .i64 o.a.ca, .int .i64 o.a.cn, .bool o.a.fr, .bool o.a.fc] := nd_range h 8 _ _ rfl (by simp)
theorem range_i1 {w : World} {b off : Nat} {o : Nd} {s : Value} (h : NdAt w b off o s) : w.rangeAt b (off + 8) [.int .i64 o.a.ra, .int .i64 o.a.rn] := nd_range h 8 _ _ rfl (by simp)
theorem range_i2 {w : World} {b off : Nat} {o : Nd} {s : Value} (h : NdAt w b off o s) : w.rangeAt b (off + 10) [.int .i64 o.a.ca, .int .i64 o.a.cn] := nd_range h 10 _ _ rfl (by simp)
theorem bare_v (o : Nd) (a : Option Addr) (n cap b off : Nat) (w : World) (hb : b < w.heap.size) (hp : NdAt w b off o (.slice a n cap)) :
    Calls Tryz.prog 52 #[.pointer (some ⟨b, off, none⟩), .agg #[.int .i64 0, .int .i64 o.v.k, .int .i64 o.v.m, .int .i64 o.v.e, .string o.v.t, .bool o.v.b, .int .i64 o.v.f, .string ⟨#[]⟩, .int .i64 0, .int .i64 0, .int .i64 0, .int .i64 0, .bool false, .bool false, .int .i64 0, .int .i64 0, .int .i64 0, .int .i64 0, .bool false, .bool false, .int .i64 0, .slice none 0 0]] w fun e w' => e = .returned (.bool (decide (o = { nd0 with k := o.k, v := o.v }) && decide (n = 0))) ∧ Below w.heap.size w w' := by
  have h := bare_any o { nd0 with v := o.v } a none n cap 0 0 b off w hb hp
  rw [nagg_eq] at h
  exact h
theorem bare_c (o : Nd) (a : Option Addr) (n cap b off : Nat) (w : World) (hb : b < w.heap.size) (hp : NdAt w b off o (.slice a n cap)) :
    Calls Tryz.prog 52 #[.pointer (some ⟨b, off, none⟩), .agg #[.int .i64 0, .int .i64 0, .int .i64 0, .int .i64 0, .string ⟨#[]⟩, .bool false, .int .i64 0, .string ⟨#[]⟩, .int .i64 o.a.ra, .int .i64 o.a.rn, .int .i64 o.a.ca, .int .i64 o.a.cn, .bool o.a.fr, .bool o.a.fc, .int .i64 0, .int .i64 0, .int .i64 0, .int .i64 0, .bool false, .bool false, .int .i64 0, .slice none 0 0]] w fun e w' => e = .returned (.bool (decide (o = { nd0 with k := o.k, a := o.a }) && decide (n = 0))) ∧ Below w.heap.size w w' := by
  have h := bare_any o { nd0 with a := o.a } a none n cap 0 0 b off w hb hp
  rw [nagg_eq] at h
  exact h
theorem bare_a (o : Nd) (a : Option Addr) (n cap b off : Nat) (w : World) (hb : b < w.heap.size) (hp : NdAt w b off o (.slice a n cap)) :
    Calls Tryz.prog 52 #[.pointer (some ⟨b, off, none⟩), .agg #[.int .i64 0, .int .i64 0, .int .i64 0, .int .i64 0, .string ⟨#[]⟩, .bool false, .int .i64 0, .string ⟨#[]⟩, .int .i64 o.a.ra, .int .i64 o.a.rn, .int .i64 o.a.ca, .int .i64 o.a.cn, .bool o.a.fr, .bool o.a.fc, .int .i64 o.b.ra, .int .i64 o.b.rn, .int .i64 o.b.ca, .int .i64 o.b.cn, .bool o.b.fr, .bool o.b.fc, .int .i64 0, .slice none 0 0]] w fun e w' => e = .returned (.bool (decide (o = { nd0 with k := o.k, a := o.a, b := o.b }) && decide (n = 0))) ∧ Below w.heap.size w w' := by
  have h := bare_any o { nd0 with a := o.a, b := o.b } a none n cap 0 0 b off w hb hp
  rw [nagg_eq] at h
  exact h
theorem bare_n (o : Nd) (a : Option Addr) (n cap b off : Nat) (w : World) (hb : b < w.heap.size) (hp : NdAt w b off o (.slice a n cap)) :
    Calls Tryz.prog 52 #[.pointer (some ⟨b, off, none⟩), .agg #[.int .i64 0, .int .i64 0, .int .i64 0, .int .i64 0, .string ⟨#[]⟩, .bool false, .int .i64 0, .string o.nm, .int .i64 0, .int .i64 0, .int .i64 0, .int .i64 0, .bool false, .bool false, .int .i64 0, .int .i64 0, .int .i64 0, .int .i64 0, .bool false, .bool false, .int .i64 0, .slice none 0 0]] w fun e w' => e = .returned (.bool (decide (o = { nd0 with k := o.k, nm := o.nm }) && decide (n = 0))) ∧ Below w.heap.size w w' := by
  have h := bare_any o { nd0 with nm := o.nm } a none n cap 0 0 b off w hb hp
  rw [nagg_eq] at h
  exact h
theorem bare_nl (o : Nd) (a : Option Addr) (n cap b off : Nat) (w : World) (hb : b < w.heap.size) (hp : NdAt w b off o (.slice a n cap)) :
    Calls Tryz.prog 52 #[.pointer (some ⟨b, off, none⟩), .agg #[.int .i64 0, .int .i64 0, .int .i64 0, .int .i64 0, .string ⟨#[]⟩, .bool false, .int .i64 0, .string o.nm, .int .i64 0, .int .i64 0, .int .i64 0, .int .i64 0, .bool false, .bool false, .int .i64 0, .int .i64 0, .int .i64 0, .int .i64 0, .bool false, .bool false, .int .i64 0, .slice a n cap]] w fun e w' => e = .returned (.bool (decide (o = { nd0 with k := o.k, nm := o.nm }) && decide (n = n))) ∧ Below w.heap.size w w' := by
  have h := bare_any o { nd0 with nm := o.nm } a a n cap n cap b off w hb hp
  rw [nagg_eq] at h
  exact h
theorem bare_rl (o : Nd) (a : Option Addr) (n cap b off : Nat) (w : World) (hb : b < w.heap.size) (hp : NdAt w b off o (.slice a n cap)) :
    Calls Tryz.prog 52 #[.pointer (some ⟨b, off, none⟩), .agg #[.int .i64 0, .int .i64 0, .int .i64 0, .int .i64 0, .string ⟨#[]⟩, .bool false, .int .i64 0, .string ⟨#[]⟩, .int .i64 0, .int .i64 0, .int .i64 0, .int .i64 0, .bool false, .bool false, .int .i64 0, .int .i64 0, .int .i64 0, .int .i64 0, .bool false, .bool false, .int .i64 o.rows, .slice a n cap]] w fun e w' => e = .returned (.bool (decide (o = { nd0 with k := o.k, rows := o.rows }) && decide (n = n))) ∧ Below w.heap.size w w' := by
  have h := bare_any o { nd0 with rows := o.rows } a a n cap n cap b off w hb hp
  rw [nagg_eq] at h
  exact h
theorem bare_0 (o : Nd) (a : Option Addr) (n cap b off : Nat) (w : World) (hb : b < w.heap.size) (hp : NdAt w b off o (.slice a n cap)) :
    Calls Tryz.prog 52 #[.pointer (some ⟨b, off, none⟩), .agg #[.int .i64 0, .int .i64 0, .int .i64 0, .int .i64 0, .string ⟨#[]⟩, .bool false, .int .i64 0, .string ⟨#[]⟩, .int .i64 0, .int .i64 0, .int .i64 0, .int .i64 0, .bool false, .bool false, .int .i64 0, .int .i64 0, .int .i64 0, .int .i64 0, .bool false, .bool false, .int .i64 0, .slice none 0 0]] w fun e w' => e = .returned (.bool (decide (o = { nd0 with k := o.k }) && decide (n = 0))) ∧ Below w.heap.size w w' := by
  have h := bare_any o nd0 a none n cap 0 0 b off w hb hp
  rw [nagg_eq] at h
  exact h
set_option maxHeartbeats 16000000 in
set_option maxRecDepth 100000 in
theorem rightT_any (t : T) : ∀ (_ : t.size ≤ 2097152) (_ : t.fit) (above : Int) (b off : Nat) (a : Option Addr) (cap : Nat) (w : World), b < w.heap.size → NdAt w b off t.o (.slice a t.l.length cap) → t.At w a →
    Calls Tryz.prog 36 #[.pointer (some ⟨b, off, none⟩), .int .i64 above] w fun e w' => e = .returned (.bool (rightT t above)) ∧ Below w.heap.size w w' := by
  induction t using T.ind with
  | h o l ih =>
    rintro hz hfit above b off a cap w hb hp hA
    change NdAt w b off o (.slice a l.length cap) at hp
    have hlen : l.length ≤ 2097152 := by have := T.len_le o l; omega
    have HZ := Lib.hid hz
    have HF := Lib.hid (T.fit_mk.1 hfit)
    have IH := Lib.hid ih
    have HA := Lib.hid hA
    obtain ⟨n, hn⟩ : ∃ n, l.length = n := ⟨_, rfl⟩
    rw [hn] at hlen hp
    have HN := Lib.hid hn
    have HP := Lib.hid hp
    have HR : Hid (rightT (.mk o l) above = (okT o l above && l.all (kidT o))) := rightT_mk o l above
    have r0 : w.cell? ⟨b, off, none⟩ = some (.int .i64 o.k) := hp 0 (by omega)
    have r7 : w.cell? ⟨b, off + 7, none⟩ = some (.string o.nm) := hp 7 (by omega)
    have r20 : w.cell? ⟨b, off + 20, none⟩ = some (.int .i64 o.rows) := hp 20 (by omega)
    have r21 : w.cell? ⟨b, off + 21, none⟩ = some (.slice a n cap) := hp 21 (by omega)
    have B8 : (above == 8) = decide (above = 8) := by rw [Bool.eq_iff_iff]; simp
    have B4 : (above == 4) = decide (above = 4) := by rw [Bool.eq_iff_iff]; simp
    have B8 := Lib.hid B8
    have B4 := Lib.hid B4
    clear hA hn hz hfit ih hp
    go_enter Tryz.func36, Tryz.ntmps36
    go_upto_block 0 with fail
    go_cut [5] (fun s5 wx => s5 = .bool (okT o l above) ∧ Hid (Below w.heap.size w wx))
    case first =>
      by_cases h0 : o.k = 0
      · as_aux_lemma =>
        have HK : Hid (okT o l above = (litP o.v && ((above == 8) || decide (0 ≤ o.v.m)) && (decide (o = { nd0 with k := o.k, v := o.v }) && decide (n = 0)))) := by
          unfold Hid; rw [okT_0 o l above h0, HN.out, B8.out]
        have e0 : (o.k == 0) = true := by simp [h0]
        clear h0
        go_wp2_with (refine wpList_load_g rfl 33 (.tmp 15) rfl b (off + 1) rfl _ _ (range_v HP.out) Tryz.underlying33 rfl info26 ?_)
        refine (rightLit_any o.v (above == 8) HF.out.1.2.2 w).mono ?_
        rintro e w1 ⟨rfl, hb1⟩
        have HB1 := Lib.hid hb1
        cases hR : (litP o.v && ((above == 8) || decide (0 ≤ o.v.m))) with
        | false =>
          go_wp2_with fail
          go_meet
          exact ⟨by rw [HK.out]; rw [hR]; all_goals (first | exact rfl | simp), HB1⟩
        | true =>
          have P1 := HP.out.below hb1 hb
          have PP := Lib.hid P1
          have hb' := Nat.lt_of_lt_of_le hb hb1.size
          clear hb1 P1
          go_wp2_with (first | refine wpList_load_g rfl 33 (.tmp 24) rfl b (off + 1) rfl _ _ (range_v PP.out) Tryz.underlying33 rfl info26 ?_ | refine wpList_build1 rfl 42 1 (.tmp 25) rfl (.agg #[.int .i64 o.v.k, .int .i64 o.v.m, .int .i64 o.v.e, .string o.v.t, .bool o.v.b, .int .i64 o.v.f]) rfl _ (build_v o.v) ?_)
          refine (bare_v o a n cap b off w1 hb' PP.out).mono ?_
          rintro e w9 ⟨rfl, hb9⟩
          have HB9 : Hid (Below w.heap.size w w9) := HB1.out.trans (hb9.mono HB1.out.size)
          clear hb9
          go_wp2_with fail
          go_meet
          exact ⟨by rw [HK.out]; rw [hR, Bool.true_and]; all_goals (first | exact rfl | simp), HB9⟩
      by_cases h1 : o.k = 1
      · as_aux_lemma =>
        have HK : Hid (okT o l above = (oneP o.a && (decide (o = { nd0 with k := o.k, a := o.a }) && decide (n = 0)))) := by
          unfold Hid; rw [okT_1 o l above (by omega), HN.out]
        have e0 : (o.k == 0) = false := by simp [h1]
        have e1 : (o.k == 1) = true := by simp [h1]
        clear h1
        have n1 := fun W => neq_id o.a.ra o.a.rn W
        have n2 := fun W => neq_id o.a.ca o.a.cn W
        cases z1 : zid o.a.ra o.a.rn with
        | true =>
          rw [z1, Bool.not_true] at n1
          go_wp2_with (first | refine wpList_load_g rfl 35 (.tmp 36) rfl b (off + 8) rfl _ _ (range_i1 HP.out) Tryz.underlying35 rfl info28 ?_ | refine wpList_load_g rfl 35 (.tmp 45) rfl b (off + 10) rfl _ _ (range_i2 HP.out) Tryz.underlying35 rfl info28 ?_ | refine wpList_load_g rfl 37 (.tmp 55) rfl b (off + 8) rfl _ _ (range_c HP.out) Tryz.underlying37 rfl info30 ?_ | refine wpList_build1 rfl 39 0 (.tmp 56) rfl (.agg #[.int .i64 o.a.ra, .int .i64 o.a.rn, .int .i64 o.a.ca, .int .i64 o.a.cn, .bool o.a.fr, .bool o.a.fc]) rfl _ (build_c o.a) ?_ | refine wpList_build1 rfl 42 3 (.tmp 57) rfl (.agg #[.int .i64 o.a.ra, .int .i64 o.a.rn, .int .i64 o.a.ca, .int .i64 o.a.cn, .bool o.a.fr, .bool o.a.fc, .int .i64 nd0.b.ra, .int .i64 nd0.b.rn, .int .i64 nd0.b.ca, .int .i64 nd0.b.cn, .bool nd0.b.fr, .bool nd0.b.fc]) rfl _ (build_a o.a nd0.b) ?_)
          go_meet
          exact ⟨by rw [HK.out]; unfold oneP; rw [z1]; all_goals (first | exact rfl | simp), Below.refl _ _⟩
        | false =>
          rw [z1, Bool.not_false] at n1
          cases z2 : zid o.a.ca o.a.cn with
          | true =>
            rw [z2, Bool.not_true] at n2
            go_wp2_with (first | refine wpList_load_g rfl 35 (.tmp 36) rfl b (off + 8) rfl _ _ (range_i1 HP.out) Tryz.underlying35 rfl info28 ?_ | refine wpList_load_g rfl 35 (.tmp 45) rfl b (off + 10) rfl _ _ (range_i2 HP.out) Tryz.underlying35 rfl info28 ?_ | refine wpList_load_g rfl 37 (.tmp 55) rfl b (off + 8) rfl _ _ (range_c HP.out) Tryz.underlying37 rfl info30 ?_ | refine wpList_build1 rfl 39 0 (.tmp 56) rfl (.agg #[.int .i64 o.a.ra, .int .i64 o.a.rn, .int .i64 o.a.ca, .int .i64 o.a.cn, .bool o.a.fr, .bool o.a.fc]) rfl _ (build_c o.a) ?_ | refine wpList_build1 rfl 42 3 (.tmp 57) rfl (.agg #[.int .i64 o.a.ra, .int .i64 o.a.rn, .int .i64 o.a.ca, .int .i64 o.a.cn, .bool o.a.fr, .bool o.a.fc, .int .i64 nd0.b.ra, .int .i64 nd0.b.rn, .int .i64 nd0.b.ca, .int .i64 nd0.b.cn, .bool nd0.b.fr, .bool nd0.b.fc]) rfl _ (build_a o.a nd0.b) ?_)
            go_meet
            exact ⟨by rw [HK.out]; unfold oneP; rw [z1, z2]; all_goals (first | exact rfl | simp), Below.refl _ _⟩
          | false =>
            rw [z2, Bool.not_false] at n2
            go_wp2_with (first | refine wpList_load_g rfl 35 (.tmp 36) rfl b (off + 8) rfl _ _ (range_i1 HP.out) Tryz.underlying35 rfl info28 ?_ | refine wpList_load_g rfl 35 (.tmp 45) rfl b (off + 10) rfl _ _ (range_i2 HP.out) Tryz.underlying35 rfl info28 ?_ | refine wpList_load_g rfl 37 (.tmp 55) rfl b (off + 8) rfl _ _ (range_c HP.out) Tryz.underlying37 rfl info30 ?_ | refine wpList_build1 rfl 39 0 (.tmp 56) rfl (.agg #[.int .i64 o.a.ra, .int .i64 o.a.rn, .int .i64 o.a.ca, .int .i64 o.a.cn, .bool o.a.fr, .bool o.a.fc]) rfl _ (build_c o.a) ?_ | refine wpList_build1 rfl 42 3 (.tmp 57) rfl (.agg #[.int .i64 o.a.ra, .int .i64 o.a.rn, .int .i64 o.a.ca, .int .i64 o.a.cn, .bool o.a.fr, .bool o.a.fc, .int .i64 nd0.b.ra, .int .i64 nd0.b.rn, .int .i64 nd0.b.ca, .int .i64 nd0.b.cn, .bool nd0.b.fr, .bool nd0.b.fc]) rfl _ (build_a o.a nd0.b) ?_)
            refine (bare_c o a n cap b off w hb HP.out).mono ?_
            rintro e w9 ⟨rfl, hb9⟩
            have HB9 : Hid (Below w.heap.size w w9) := hb9
            clear hb9
            go_wp2_with fail
            go_meet
            exact ⟨by rw [HK.out]; unfold oneP; rw [z1, z2]; all_goals (first | exact rfl | simp), HB9⟩
      by_cases h3 : o.k = 3
      · as_aux_lemma =>
        have HK : Hid (okT o l above = (oneP o.a && (decide (o = { nd0 with k := o.k, a := o.a }) && decide (n = 0)))) := by
          unfold Hid; rw [okT_1 o l above (by omega), HN.out]
        have e0 : (o.k == 0) = false := by simp [h3]
        have e1 : (o.k == 1) = false := by simp [h3]
        have e3 : (o.k == 3) = true := by simp [h3]
        clear h3
        have n1 := fun W => neq_id o.a.ra o.a.rn W
        have n2 := fun W => neq_id o.a.ca o.a.cn W
        cases z1 : zid o.a.ra o.a.rn with
        | true =>
          rw [z1, Bool.not_true] at n1
          go_wp2_with (first | refine wpList_load_g rfl 35 (.tmp 36) rfl b (off + 8) rfl _ _ (range_i1 HP.out) Tryz.underlying35 rfl info28 ?_ | refine wpList_load_g rfl 35 (.tmp 45) rfl b (off + 10) rfl _ _ (range_i2 HP.out) Tryz.underlying35 rfl info28 ?_ | refine wpList_load_g rfl 37 (.tmp 55) rfl b (off + 8) rfl _ _ (range_c HP.out) Tryz.underlying37 rfl info30 ?_ | refine wpList_build1 rfl 39 0 (.tmp 56) rfl (.agg #[.int .i64 o.a.ra, .int .i64 o.a.rn, .int .i64 o.a.ca, .int .i64 o.a.cn, .bool o.a.fr, .bool o.a.fc]) rfl _ (build_c o.a) ?_ | refine wpList_build1 rfl 42 3 (.tmp 57) rfl (.agg #[.int .i64 o.a.ra, .int .i64 o.a.rn, .int .i64 o.a.ca, .int .i64 o.a.cn, .bool o.a.fr, .bool o.a.fc, .int .i64 nd0.b.ra, .int .i64 nd0.b.rn, .int .i64 nd0.b.ca, .int .i64 nd0.b.cn, .bool nd0.b.fr, .bool nd0.b.fc]) rfl _ (build_a o.a nd0.b) ?_)
          go_meet
          exact ⟨by rw [HK.out]; unfold oneP; rw [z1]; all_goals (first | exact rfl | simp), Below.refl _ _⟩
        | false =>
          rw [z1, Bool.not_false] at n1
          cases z2 : zid o.a.ca o.a.cn with
          | true =>
            rw [z2, Bool.not_true] at n2
            go_wp2_with (first | refine wpList_load_g rfl 35 (.tmp 36) rfl b (off + 8) rfl _ _ (range_i1 HP.out) Tryz.underlying35 rfl info28 ?_ | refine wpList_load_g rfl 35 (.tmp 45) rfl b (off + 10) rfl _ _ (range_i2 HP.out) Tryz.underlying35 rfl info28 ?_ | refine wpList_load_g rfl 37 (.tmp 55) rfl b (off + 8) rfl _ _ (range_c HP.out) Tryz.underlying37 rfl info30 ?_ | refine wpList_build1 rfl 39 0 (.tmp 56) rfl (.agg #[.int .i64 o.a.ra, .int .i64 o.a.rn, .int .i64 o.a.ca, .int .i64 o.a.cn, .bool o.a.fr, .bool o.a.fc]) rfl _ (build_c o.a) ?_ | refine wpList_build1 rfl 42 3 (.tmp 57) rfl (.agg #[.int .i64 o.a.ra, .int .i64 o.a.rn, .int .i64 o.a.ca, .int .i64 o.a.cn, .bool o.a.fr, .bool o.a.fc, .int .i64 nd0.b.ra, .int .i64 nd0.b.rn, .int .i64 nd0.b.ca, .int .i64 nd0.b.cn, .bool nd0.b.fr, .bool nd0.b.fc]) rfl _ (build_a o.a nd0.b) ?_)
            go_meet
            exact ⟨by rw [HK.out]; unfold oneP; rw [z1, z2]; all_goals (first | exact rfl | simp), Below.refl _ _⟩
          | false =>
            rw [z2, Bool.not_false] at n2
            go_wp2_with (first | refine wpList_load_g rfl 35 (.tmp 36) rfl b (off + 8) rfl _ _ (range_i1 HP.out) Tryz.underlying35 rfl info28 ?_ | refine wpList_load_g rfl 35 (.tmp 45) rfl b (off + 10) rfl _ _ (range_i2 HP.out) Tryz.underlying35 rfl info28 ?_ | refine wpList_load_g rfl 37 (.tmp 55) rfl b (off + 8) rfl _ _ (range_c HP.out) Tryz.underlying37 rfl info30 ?_ | refine wpList_build1 rfl 39 0 (.tmp 56) rfl (.agg #[.int .i64 o.a.ra, .int .i64 o.a.rn, .int .i64 o.a.ca, .int .i64 o.a.cn, .bool o.a.fr, .bool o.a.fc]) rfl _ (build_c o.a) ?_ | refine wpList_build1 rfl 42 3 (.tmp 57) rfl (.agg #[.int .i64 o.a.ra, .int .i64 o.a.rn, .int .i64 o.a.ca, .int .i64 o.a.cn, .bool o.a.fr, .bool o.a.fc, .int .i64 nd0.b.ra, .int .i64 nd0.b.rn, .int .i64 nd0.b.ca, .int .i64 nd0.b.cn, .bool nd0.b.fr, .bool nd0.b.fc]) rfl _ (build_a o.a nd0.b) ?_)
            refine (bare_c o a n cap b off w hb HP.out).mono ?_
            rintro e w9 ⟨rfl, hb9⟩
            have HB9 : Hid (Below w.heap.size w w9) := hb9
            clear hb9
            go_wp2_with fail
            go_meet
            exact ⟨by rw [HK.out]; unfold oneP; rw [z1, z2]; all_goals (first | exact rfl | simp), HB9⟩
      by_cases h2 : o.k = 2
      · as_aux_lemma =>
        have HK : Hid (okT o l above = (rangeP o.a o.b && (decide (o = { nd0 with k := o.k, a := o.a, b := o.b }) && decide (n = 0)))) := by
          unfold Hid; rw [okT_2 o l above h2, HN.out]
        have e0 : (o.k == 0) = false := by simp [h2]
        have e1 : (o.k == 1) = false := by simp [h2]
        have e3 : (o.k == 3) = false := by simp [h2]
        have e2 : (o.k == 2) = true := by simp [h2]
        clear h2
        go_wp2_with (refine wpList_load_g rfl 39 (.tmp 65) rfl b (off + 8) rfl _ _ (range_a HP.out) Tryz.underlying39 rfl info32 ?_)
        refine (rightRange_any o.a o.b w).mono ?_
        rintro e w1 ⟨rfl, hb1⟩
        have HB1 := Lib.hid hb1
        cases hR : rangeP o.a o.b with
        | false =>
          go_wp2_with fail
          go_meet
          exact ⟨by rw [HK.out]; rw [hR]; all_goals (first | exact rfl | simp), HB1⟩
        | true =>
          have P1 := HP.out.below hb1 hb
          have PP := Lib.hid P1
          have hb' := Nat.lt_of_lt_of_le hb hb1.size
          clear hb1 P1
          go_wp2_with (first | refine wpList_load_g rfl 39 (.tmp 72) rfl b (off + 8) rfl _ _ (range_a PP.out) Tryz.underlying39 rfl info32 ?_ | refine wpList_build1 rfl 42 3 (.tmp 73) rfl (.agg #[.int .i64 o.a.ra, .int .i64 o.a.rn, .int .i64 o.a.ca, .int .i64 o.a.cn, .bool o.a.fr, .bool o.a.fc, .int .i64 o.b.ra, .int .i64 o.b.rn, .int .i64 o.b.ca, .int .i64 o.b.cn, .bool o.b.fr, .bool o.b.fc]) rfl _ (build_a o.a o.b) ?_)
          refine (bare_a o a n cap b off w1 hb' PP.out).mono ?_
          rintro e w9 ⟨rfl, hb9⟩
          have HB9 : Hid (Below w.heap.size w w9) := HB1.out.trans (hb9.mono HB1.out.size)
          clear hb9
          go_wp2_with fail
          go_meet
          exact ⟨by rw [HK.out]; rw [hR, Bool.true_and]; all_goals (first | exact rfl | simp), HB9⟩
      by_cases h4 : o.k = 4
      · as_aux_lemma =>
        have HK : Hid (okT o l above = (callP (bl o.nm) && decide (n ≤ 32) && (decide (n ≠ 1) || decide (fk l ≠ 9)) && decide (o = { nd0 with k := o.k, nm := o.nm }))) := by
          unfold Hid; rw [okT_4 o l above h4, HN.out]
        have e0 : (o.k == 0) = false := by simp [h4]
        have e1 : (o.k == 1) = false := by simp [h4]
        have e3 : (o.k == 3) = false := by simp [h4]
        have e2 : (o.k == 2) = false := by simp [h4]
        have e4 : (o.k == 4) = true := by simp [h4]
        clear h4
        go_wp2_with fail
        refine wp_region_multiR [([0, 1, 2, 3], [4], [4, 5, 6, 7, 8, 9, 10, 11, 12, 13, 14, 15, 16, 17, 18, 19, 20, 21, 22, 23, 24, 25, 26, 27, 28, 29, 30, 31, 32, 33, 34, 35, 36, 37, 38, 39, 40, 41, 42, 43, 44, 45]), ([5, 6, 7, 8, 9, 10, 11, 12, 13, 14, 15, 16, 17, 18, 19, 20, 21, 22, 23, 24, 25, 26, 27, 28, 29, 30, 31, 32, 33, 34, 35, 36, 37, 38, 39, 40, 41, 42], [43], [43, 44, 45]), ([44, 45], [], [])] (by kernel_rfl) (by kernel_rfl) ?_
        refine multi_phase (Below w.heap.size w) (Below.refl _ _).drew ?_
        iterate 4 (first | (apply first_step; (rw [List.getElem?_toArray]; (repeat rw [List.getElem?_cons_succ]); rw [List.getElem?_cons_zero]); rfl; (intro W hB; have hc := bcellB hB; go_simp; (first | done | rfl)); go_frame) | (apply first_skip; (rw [List.getElem?_toArray]; (repeat rw [List.getElem?_cons_succ]); rw [List.getElem?_cons_zero]); rfl; go_frame))
        refine first_done ?_
        apply forced_step; (rw [List.getElem?_toArray]; (repeat rw [List.getElem?_cons_succ]); rw [List.getElem?_cons_zero]); rfl; intro K hK; go_simp
        refine (isCall_any o.nm HF.out.1.1 _).mono ?_
        rintro e w1 ⟨rfl, hb1⟩
        have HB1 : Hid (Below w.heap.size w w1) := (Below.refl _ w).drew.trans hb1
        clear hb1
        refine hK _ _ (fun h => absurd (by decide) h) ?_
        clear hK K
        refine forced_done ?_
        have P1 := HP.out.below HB1.out hb
        have s7 : w1.cell? ⟨b, off + 7, none⟩ = some (.string o.nm) := P1 7 (by omega)
        have s21 : w1.cell? ⟨b, off + 21, none⟩ = some (.slice a n cap) := P1 21 (by omega)
        have hb' := Nat.lt_of_lt_of_le hb HB1.out.size
        clear r0 r7 r20 r21
        have PP := Lib.hid P1
        clear P1
        refine multi_phase (Below w1.heap.size w1) (Below.refl _ _) ?_
        cases hR : callP (bl o.nm) with
        | false =>
          iterate 37 (first | (apply first_step; (rw [List.getElem?_toArray]; (repeat rw [List.getElem?_cons_succ]); rw [List.getElem?_cons_zero]); rfl; (intro W hB; have hc := bcellB hB; go_simp; (first | done | rfl)); go_frame) | (apply first_skip; (rw [List.getElem?_toArray]; (repeat rw [List.getElem?_cons_succ]); rw [List.getElem?_cons_zero]); rfl; go_frame))
          first | (refine first_build2 (v1 := .string o.nm) (v2 := .slice a n cap) (v := nagg { nd0 with nm := o.nm } (.slice a n cap)) ?_ rfl 42 2 5 _ _ rfl rfl rfl (build_nl o.nm _ n cap) ?_; (rw [List.getElem?_toArray]; (repeat rw [List.getElem?_cons_succ]); rw [List.getElem?_cons_zero]); go_frame) | (first | (apply first_step; (rw [List.getElem?_toArray]; (repeat rw [List.getElem?_cons_succ]); rw [List.getElem?_cons_zero]); rfl; (intro W hB; have hc := bcellB hB; go_simp; (first | done | rfl)); go_frame) | (apply first_skip; (rw [List.getElem?_toArray]; (repeat rw [List.getElem?_cons_succ]); rw [List.getElem?_cons_zero]); rfl; go_frame))
          refine first_done ?_
          apply forced_skip; (rw [List.getElem?_toArray]; (repeat rw [List.getElem?_cons_succ]); rw [List.getElem?_cons_zero]); rfl
          · exact fun h => absurd (by decide) h
          refine forced_done ?_
          refine multi_phase (fun _ => True) trivial ?_
          iterate 2 (first | (apply first_step; (rw [List.getElem?_toArray]; (repeat rw [List.getElem?_cons_succ]); rw [List.getElem?_cons_zero]); rfl; (intro W hB; go_simp; (first | done | rfl)); go_frame) | (apply first_skip; (rw [List.getElem?_toArray]; (repeat rw [List.getElem?_cons_succ]); rw [List.getElem?_cons_zero]); rfl; go_frame))
          refine first_done ?_
          refine forced_done ?_
          refine multi_done ?_
          go_wp2_with fail
          go_meet
          exact ⟨by rw [HK.out]; rw [hR]; all_goals (first | exact rfl | simp), HB1⟩
        | true =>
          by_cases c1 : n ≤ 32
          case neg =>
            have d1 : decide ((n : Int) ≤ 32) = false := by simp; omega
            have D1 : Hid (decide (n ≤ 32) = false) := decide_eq_false c1
            clear c1
            iterate 37 (first | (apply first_step; (rw [List.getElem?_toArray]; (repeat rw [List.getElem?_cons_succ]); rw [List.getElem?_cons_zero]); rfl; (intro W hB; have hc := bcellB hB; go_simp; (first | done | rfl)); go_frame) | (apply first_skip; (rw [List.getElem?_toArray]; (repeat rw [List.getElem?_cons_succ]); rw [List.getElem?_cons_zero]); rfl; go_frame))
            first | (refine first_build2 (v1 := .string o.nm) (v2 := .slice a n cap) (v := nagg { nd0 with nm := o.nm } (.slice a n cap)) ?_ rfl 42 2 5 _ _ rfl rfl rfl (build_nl o.nm _ n cap) ?_; (rw [List.getElem?_toArray]; (repeat rw [List.getElem?_cons_succ]); rw [List.getElem?_cons_zero]); go_frame) | (first | (apply first_step; (rw [List.getElem?_toArray]; (repeat rw [List.getElem?_cons_succ]); rw [List.getElem?_cons_zero]); rfl; (intro W hB; have hc := bcellB hB; go_simp; (first | done | rfl)); go_frame) | (apply first_skip; (rw [List.getElem?_toArray]; (repeat rw [List.getElem?_cons_succ]); rw [List.getElem?_cons_zero]); rfl; go_frame))
            refine first_done ?_
            apply forced_skip; (rw [List.getElem?_toArray]; (repeat rw [List.getElem?_cons_succ]); rw [List.getElem?_cons_zero]); rfl
            · exact fun h => absurd (by decide) h
            refine forced_done ?_
            refine multi_phase (fun _ => True) trivial ?_
            iterate 2 (first | (apply first_step; (rw [List.getElem?_toArray]; (repeat rw [List.getElem?_cons_succ]); rw [List.getElem?_cons_zero]); rfl; (intro W hB; go_simp; (first | done | rfl)); go_frame) | (apply first_skip; (rw [List.getElem?_toArray]; (repeat rw [List.getElem?_cons_succ]); rw [List.getElem?_cons_zero]); rfl; go_frame))
            refine first_done ?_
            refine forced_done ?_
            refine multi_done ?_
            go_wp2_with fail
            go_meet
            exact ⟨by rw [HK.out]; rw [D1.out, Bool.and_false, Bool.false_and, Bool.false_and]; all_goals (first | exact rfl | simp), HB1⟩
          have d1 : decide ((n : Int) ≤ 32) = true := by simp; omega
          have D1 : Hid (decide (n ≤ 32) = true) := decide_eq_true c1
          clear c1
          by_cases c2 : n = 1
          case neg =>
            have d2 : ((n : Int) == 1) = false := by simp; omega
            have D2 : Hid (decide (n ≠ 1) = true) := decide_eq_true c2
            clear c2
            iterate 37 (first | (apply first_step; (rw [List.getElem?_toArray]; (repeat rw [List.getElem?_cons_succ]); rw [List.getElem?_cons_zero]); rfl; (intro W hB; have hc := bcellB hB; go_simp; (first | done | rfl)); go_frame) | (apply first_skip; (rw [List.getElem?_toArray]; (repeat rw [List.getElem?_cons_succ]); rw [List.getElem?_cons_zero]); rfl; go_frame))
            first | (refine first_build2 (v1 := .string o.nm) (v2 := .slice a n cap) (v := nagg { nd0 with nm := o.nm } (.slice a n cap)) ?_ rfl 42 2 5 _ _ rfl rfl rfl (build_nl o.nm _ n cap) ?_; (rw [List.getElem?_toArray]; (repeat rw [List.getElem?_cons_succ]); rw [List.getElem?_cons_zero]); go_frame) | (first | (apply first_step; (rw [List.getElem?_toArray]; (repeat rw [List.getElem?_cons_succ]); rw [List.getElem?_cons_zero]); rfl; (intro W hB; have hc := bcellB hB; go_simp; (first | done | rfl)); go_frame) | (apply first_skip; (rw [List.getElem?_toArray]; (repeat rw [List.getElem?_cons_succ]); rw [List.getElem?_cons_zero]); rfl; go_frame))
            refine first_done ?_
            apply forced_step; (rw [List.getElem?_toArray]; (repeat rw [List.getElem?_cons_succ]); rw [List.getElem?_cons_zero]); rfl; intro K hK; go_simp
            refine (bare_nl o a n cap b off w1 hb' PP.out).mono ?_
            rintro e w9 ⟨rfl, hb9⟩
            have HB9 : Hid (Below w.heap.size w w9) := HB1.out.trans (hb9.mono HB1.out.size)
            clear hb9
            refine hK _ _ (fun h => absurd (by decide) h) ?_
            clear hK K
            refine forced_done ?_
            refine multi_phase (fun _ => True) trivial ?_
            iterate 2 (first | (apply first_step; (rw [List.getElem?_toArray]; (repeat rw [List.getElem?_cons_succ]); rw [List.getElem?_cons_zero]); rfl; (intro W hB; go_simp; (first | done | rfl)); go_frame) | (apply first_skip; (rw [List.getElem?_toArray]; (repeat rw [List.getElem?_cons_succ]); rw [List.getElem?_cons_zero]); rfl; go_frame))
            refine first_done ?_
            refine forced_done ?_
            refine multi_done ?_
            go_wp2_with fail
            go_meet
            exact ⟨by rw [HK.out]; rw [hR, D1.out, D2.out]; all_goals (first | exact rfl | simp), HB9⟩
          have d2 : ((n : Int) == 1) = true := by simp [c2]
          have D2 : Hid (decide (n ≠ 1) = false) := decide_eq_false (fun h => h c2)
          obtain ⟨g, go, rfl, hg, hall⟩ := T.at_mk.1 (HA.out.below HB1.out) (by rw [HN.out]; omega)
          obtain ⟨t0, ht0⟩ : ∃ t, l[0]? = some t := ⟨_, List.getElem?_eq_getElem (by rw [HN.out]; omega)⟩
          obtain ⟨ta, tc, hc, _⟩ := hall 0 t0 ht0
          have c0 : w1.cell? ⟨g, go, none⟩ = some (.int .i64 t0.o.k) := by have h := hc 0 (by omega); simp only [Nat.zero_mul, Nat.add_zero] at h; exact h
          have HFK : Hid (fk l = t0.o.k) := by unfold Hid fk; rw [List.head?_eq_getElem?, ht0]; rfl
          have j2 : (0 : Int) < (n : Int) := by omega
          have j3 : 0 < n := by omega
          have j4 : ¬ (n : Int) ≤ 0 := by omega
          clear hall hc ht0 c2
          by_cases c3 : t0.o.k = 9
          · have d3 : (t0.o.k == 9) = true := by simp [c3]
            have D3 : Hid (decide (fk l ≠ 9) = false) := by unfold Hid; rw [HFK.out]; simp [c3]
            clear c3
            iterate 37 (first | (apply first_step; (rw [List.getElem?_toArray]; (repeat rw [List.getElem?_cons_succ]); rw [List.getElem?_cons_zero]); rfl; (intro W hB; have hc := bcellB hB; go_simp; (first | done | rfl)); go_frame) | (apply first_skip; (rw [List.getElem?_toArray]; (repeat rw [List.getElem?_cons_succ]); rw [List.getElem?_cons_zero]); rfl; go_frame))
            first | (refine first_build2 (v1 := .string o.nm) (v2 := .slice (some ⟨g, go, none⟩) n cap) (v := nagg { nd0 with nm := o.nm } (.slice (some ⟨g, go, none⟩) n cap)) ?_ rfl 42 2 5 _ _ rfl rfl rfl (build_nl o.nm _ n cap) ?_; (rw [List.getElem?_toArray]; (repeat rw [List.getElem?_cons_succ]); rw [List.getElem?_cons_zero]); go_frame) | (first | (apply first_step; (rw [List.getElem?_toArray]; (repeat rw [List.getElem?_cons_succ]); rw [List.getElem?_cons_zero]); rfl; (intro W hB; have hc := bcellB hB; go_simp; (first | done | rfl)); go_frame) | (apply first_skip; (rw [List.getElem?_toArray]; (repeat rw [List.getElem?_cons_succ]); rw [List.getElem?_cons_zero]); rfl; go_frame))
            refine first_done ?_
            apply forced_skip; (rw [List.getElem?_toArray]; (repeat rw [List.getElem?_cons_succ]); rw [List.getElem?_cons_zero]); rfl
            · exact fun h => absurd (by decide) h
            refine forced_done ?_
            refine multi_phase (fun _ => True) trivial ?_
            iterate 2 (first | (apply first_step; (rw [List.getElem?_toArray]; (repeat rw [List.getElem?_cons_succ]); rw [List.getElem?_cons_zero]); rfl; (intro W hB; go_simp; (first | done | rfl)); go_frame) | (apply first_skip; (rw [List.getElem?_toArray]; (repeat rw [List.getElem?_cons_succ]); rw [List.getElem?_cons_zero]); rfl; go_frame))
            refine first_done ?_
            refine forced_done ?_
            refine multi_done ?_
            go_wp2_with fail
            go_meet
            exact ⟨by rw [HK.out]; rw [D2.out, D3.out, Bool.or_false, Bool.and_false, Bool.false_and]; all_goals (first | exact rfl | simp), HB1⟩
          · have d3 : (t0.o.k == 9) = false := by simp [c3]
            have D3 : Hid (decide (fk l ≠ 9) = true) := by unfold Hid; rw [HFK.out]; simp [c3]
            clear c3
            iterate 37 (first | (apply first_step; (rw [List.getElem?_toArray]; (repeat rw [List.getElem?_cons_succ]); rw [List.getElem?_cons_zero]); rfl; (intro W hB; have hc := bcellB hB; go_simp; (first | done | rfl)); go_frame) | (apply first_skip; (rw [List.getElem?_toArray]; (repeat rw [List.getElem?_cons_succ]); rw [List.getElem?_cons_zero]); rfl; go_frame))
            first | (refine first_build2 (v1 := .string o.nm) (v2 := .slice (some ⟨g, go, none⟩) n cap) (v := nagg { nd0 with nm := o.nm } (.slice (some ⟨g, go, none⟩) n cap)) ?_ rfl 42 2 5 _ _ rfl rfl rfl (build_nl o.nm _ n cap) ?_; (rw [List.getElem?_toArray]; (repeat rw [List.getElem?_cons_succ]); rw [List.getElem?_cons_zero]); go_frame) | (first | (apply first_step; (rw [List.getElem?_toArray]; (repeat rw [List.getElem?_cons_succ]); rw [List.getElem?_cons_zero]); rfl; (intro W hB; have hc := bcellB hB; go_simp; (first | done | rfl)); go_frame) | (apply first_skip; (rw [List.getElem?_toArray]; (repeat rw [List.getElem?_cons_succ]); rw [List.getElem?_cons_zero]); rfl; go_frame))
            refine first_done ?_
            apply forced_step; (rw [List.getElem?_toArray]; (repeat rw [List.getElem?_cons_succ]); rw [List.getElem?_cons_zero]); rfl; intro K hK; go_simp
            refine (bare_nl o (some ⟨g, go, none⟩) n cap b off w1 hb' PP.out).mono ?_
            rintro e w9 ⟨rfl, hb9⟩
            have HB9 : Hid (Below w.heap.size w w9) := HB1.out.trans (hb9.mono HB1.out.size)
            clear hb9
            refine hK _ _ (fun h => absurd (by decide) h) ?_
            clear hK K
            refine forced_done ?_
            refine multi_phase (fun _ => True) trivial ?_
            iterate 2 (first | (apply first_step; (rw [List.getElem?_toArray]; (repeat rw [List.getElem?_cons_succ]); rw [List.getElem?_cons_zero]); rfl; (intro W hB; go_simp; (first | done | rfl)); go_frame) | (apply first_skip; (rw [List.getElem?_toArray]; (repeat rw [List.getElem?_cons_succ]); rw [List.getElem?_cons_zero]); rfl; go_frame))
            refine first_done ?_
            refine forced_done ?_
            refine multi_done ?_
            go_wp2_with fail
            go_meet
            exact ⟨by rw [HK.out]; rw [hR, D1.out, D3.out, Bool.or_true]; all_goals (first | exact rfl | simp), HB9⟩
      by_cases h5 : o.k = 5
      · as_aux_lemma =>
        have HK : Hid (okT o l above = (unP o.nm && decide (n = 1) && decide (o = { nd0 with k := o.k, nm := o.nm }))) := by
          unfold Hid; rw [okT_5 o l above h5, HN.out]
        have e0 : (o.k == 0) = false := by simp [h5]
        have e1 : (o.k == 1) = false := by simp [h5]
        have e3 : (o.k == 3) = false := by simp [h5]
        have e2 : (o.k == 2) = false := by simp [h5]
        have e4 : (o.k == 4) = false := by simp [h5]
        have e5 : (o.k == 5) = true := by simp [h5]
        clear h5
        go_wp2_with fail
        refine wp_region_multiR [([0, 1, 2, 3], [4], [4, 5, 6, 7, 8, 9, 10, 11, 12, 13, 14, 15, 16, 17, 18, 19, 20, 21, 22, 23, 24, 25, 26]), ([5, 6, 7, 8, 9, 10, 11, 12, 13, 14, 15, 16, 17, 18, 19, 20, 21, 22, 23], [24], [24, 25, 26]), ([25, 26], [], [])] (by kernel_rfl) (by kernel_rfl) ?_
        refine multi_phase (Below w.heap.size w) (Below.refl _ _).drew ?_
        iterate 4 (first | (apply first_step; (rw [List.getElem?_toArray]; (repeat rw [List.getElem?_cons_succ]); rw [List.getElem?_cons_zero]); rfl; (intro W hB; have hc := bcellB hB; go_simp; (first | done | rfl)); go_frame) | (apply first_skip; (rw [List.getElem?_toArray]; (repeat rw [List.getElem?_cons_succ]); rw [List.getElem?_cons_zero]); rfl; go_frame))
        refine first_done ?_
        apply forced_step; (rw [List.getElem?_toArray]; (repeat rw [List.getElem?_cons_succ]); rw [List.getElem?_cons_zero]); rfl; intro K hK; go_simp
        refine (unary_any o.nm _).mono ?_
        rintro e w1 ⟨rfl, rfl⟩
        refine hK _ _ (fun h => absurd (by decide) h) ?_
        clear hK K
        refine forced_done ?_
        refine multi_phase (Below w.heap.size w) (Below.refl _ _).drew ?_
        cases hR : unP o.nm with
        | false =>
          iterate 18 (first | (apply first_step; (rw [List.getElem?_toArray]; (repeat rw [List.getElem?_cons_succ]); rw [List.getElem?_cons_zero]); rfl; (intro W hB; have hc := bcellB hB; go_simp; (first | done | rfl)); go_frame) | (apply first_skip; (rw [List.getElem?_toArray]; (repeat rw [List.getElem?_cons_succ]); rw [List.getElem?_cons_zero]); rfl; go_frame))
          first | (refine first_build2 (v1 := .string o.nm) (v2 := .slice a n cap) (v := nagg { nd0 with nm := o.nm } (.slice a n cap)) ?_ rfl 42 2 5 _ _ rfl rfl rfl (build_nl o.nm _ n cap) ?_; (rw [List.getElem?_toArray]; (repeat rw [List.getElem?_cons_succ]); rw [List.getElem?_cons_zero]); go_frame) | (first | (apply first_step; (rw [List.getElem?_toArray]; (repeat rw [List.getElem?_cons_succ]); rw [List.getElem?_cons_zero]); rfl; (intro W hB; have hc := bcellB hB; go_simp; (first | done | rfl)); go_frame) | (apply first_skip; (rw [List.getElem?_toArray]; (repeat rw [List.getElem?_cons_succ]); rw [List.getElem?_cons_zero]); rfl; go_frame))
          refine first_done ?_
          apply forced_skip; (rw [List.getElem?_toArray]; (repeat rw [List.getElem?_cons_succ]); rw [List.getElem?_cons_zero]); rfl
          · exact fun h => absurd (by decide) h
          refine forced_done ?_
          refine multi_phase (fun _ => True) trivial ?_
          iterate 2 (first | (apply first_step; (rw [List.getElem?_toArray]; (repeat rw [List.getElem?_cons_succ]); rw [List.getElem?_cons_zero]); rfl; (intro W hB; go_simp; (first | done | rfl)); go_frame) | (apply first_skip; (rw [List.getElem?_toArray]; (repeat rw [List.getElem?_cons_succ]); rw [List.getElem?_cons_zero]); rfl; go_frame))
          refine first_done ?_
          refine forced_done ?_
          refine multi_done ?_
          go_wp2_with fail
          go_meet
          exact ⟨by rw [HK.out]; rw [hR]; all_goals (first | exact rfl | simp), (Below.refl _ _).drew⟩
        | true =>
          by_cases c1 : n = 1
          · have d1 : ((n : Int) == 1) = true := by simp [c1]
            have D1 : Hid (decide (n = 1) = true) := decide_eq_true c1
            clear c1
            iterate 18 (first | (apply first_step; (rw [List.getElem?_toArray]; (repeat rw [List.getElem?_cons_succ]); rw [List.getElem?_cons_zero]); rfl; (intro W hB; have hc := bcellB hB; go_simp; (first | done | rfl)); go_frame) | (apply first_skip; (rw [List.getElem?_toArray]; (repeat rw [List.getElem?_cons_succ]); rw [List.getElem?_cons_zero]); rfl; go_frame))
            first | (refine first_build2 (v1 := .string o.nm) (v2 := .slice a n cap) (v := nagg { nd0 with nm := o.nm } (.slice a n cap)) ?_ rfl 42 2 5 _ _ rfl rfl rfl (build_nl o.nm _ n cap) ?_; (rw [List.getElem?_toArray]; (repeat rw [List.getElem?_cons_succ]); rw [List.getElem?_cons_zero]); go_frame) | (first | (apply first_step; (rw [List.getElem?_toArray]; (repeat rw [List.getElem?_cons_succ]); rw [List.getElem?_cons_zero]); rfl; (intro W hB; have hc := bcellB hB; go_simp; (first | done | rfl)); go_frame) | (apply first_skip; (rw [List.getElem?_toArray]; (repeat rw [List.getElem?_cons_succ]); rw [List.getElem?_cons_zero]); rfl; go_frame))
            refine first_done ?_
            apply forced_step; (rw [List.getElem?_toArray]; (repeat rw [List.getElem?_cons_succ]); rw [List.getElem?_cons_zero]); rfl; intro K hK; go_simp
            refine (bare_nl o a n cap b off w.drew hb HP.out).mono ?_
            rintro e w9 ⟨rfl, hb9⟩
            have HB9 : Hid (Below w.heap.size w w9) := (Below.refl _ w).drew.trans hb9
            clear hb9
            refine hK _ _ (fun h => absurd (by decide) h) ?_
            clear hK K
            refine forced_done ?_
            refine multi_phase (fun _ => True) trivial ?_
            iterate 2 (first | (apply first_step; (rw [List.getElem?_toArray]; (repeat rw [List.getElem?_cons_succ]); rw [List.getElem?_cons_zero]); rfl; (intro W hB; go_simp; (first | done | rfl)); go_frame) | (apply first_skip; (rw [List.getElem?_toArray]; (repeat rw [List.getElem?_cons_succ]); rw [List.getElem?_cons_zero]); rfl; go_frame))
            refine first_done ?_
            refine forced_done ?_
            refine multi_done ?_
            go_wp2_with fail
            go_meet
            exact ⟨by rw [HK.out]; rw [hR, D1.out]; all_goals (first | exact rfl | simp), HB9⟩
          · have d1 : ((n : Int) == 1) = false := by simp; omega
            have D1 : Hid (decide (n = 1) = false) := decide_eq_false c1
            clear c1
            iterate 18 (first | (apply first_step; (rw [List.getElem?_toArray]; (repeat rw [List.getElem?_cons_succ]); rw [List.getElem?_cons_zero]); rfl; (intro W hB; have hc := bcellB hB; go_simp; (first | done | rfl)); go_frame) | (apply first_skip; (rw [List.getElem?_toArray]; (repeat rw [List.getElem?_cons_succ]); rw [List.getElem?_cons_zero]); rfl; go_frame))
            first | (refine first_build2 (v1 := .string o.nm) (v2 := .slice a n cap) (v := nagg { nd0 with nm := o.nm } (.slice a n cap)) ?_ rfl 42 2 5 _ _ rfl rfl rfl (build_nl o.nm _ n cap) ?_; (rw [List.getElem?_toArray]; (repeat rw [List.getElem?_cons_succ]); rw [List.getElem?_cons_zero]); go_frame) | (first | (apply first_step; (rw [List.getElem?_toArray]; (repeat rw [List.getElem?_cons_succ]); rw [List.getElem?_cons_zero]); rfl; (intro W hB; have hc := bcellB hB; go_simp; (first | done | rfl)); go_frame) | (apply first_skip; (rw [List.getElem?_toArray]; (repeat rw [List.getElem?_cons_succ]); rw [List.getElem?_cons_zero]); rfl; go_frame))
            refine first_done ?_
            apply forced_skip; (rw [List.getElem?_toArray]; (repeat rw [List.getElem?_cons_succ]); rw [List.getElem?_cons_zero]); rfl
            · exact fun h => absurd (by decide) h
            refine forced_done ?_
            refine multi_phase (fun _ => True) trivial ?_
            iterate 2 (first | (apply first_step; (rw [List.getElem?_toArray]; (repeat rw [List.getElem?_cons_succ]); rw [List.getElem?_cons_zero]); rfl; (intro W hB; go_simp; (first | done | rfl)); go_frame) | (apply first_skip; (rw [List.getElem?_toArray]; (repeat rw [List.getElem?_cons_succ]); rw [List.getElem?_cons_zero]); rfl; go_frame))
            refine first_done ?_
            refine forced_done ?_
            refine multi_done ?_
            go_wp2_with fail
            go_meet
            exact ⟨by rw [HK.out]; rw [hR, D1.out]; all_goals (first | exact rfl | simp), (Below.refl _ _).drew⟩
      by_cases h6 : o.k = 6
      · as_aux_lemma =>
        have HK : Hid (okT o l above = (binP o.nm && decide (n = 2) && decide (o = { nd0 with k := o.k, nm := o.nm }))) := by
          unfold Hid; rw [okT_6 o l above h6, HN.out]
        have e0 : (o.k == 0) = false := by simp [h6]
        have e1 : (o.k == 1) = false := by simp [h6]
        have e3 : (o.k == 3) = false := by simp [h6]
        have e2 : (o.k == 2) = false := by simp [h6]
        have e4 : (o.k == 4) = false := by simp [h6]
        have e5 : (o.k == 5) = false := by simp [h6]
        have e6 : (o.k == 6) = true := by simp [h6]
        clear h6
        go_wp2_with fail
        refine wp_region_multiR [([0, 1, 2, 3], [4], [4, 5, 6, 7, 8, 9, 10, 11, 12, 13, 14, 15, 16, 17, 18, 19, 20, 21, 22, 23, 24, 25, 26]), ([5, 6, 7, 8, 9, 10, 11, 12, 13, 14, 15, 16, 17, 18, 19, 20, 21, 22, 23], [24], [24, 25, 26]), ([25, 26], [], [])] (by kernel_rfl) (by kernel_rfl) ?_
        refine multi_phase (Below w.heap.size w) (Below.refl _ _).drew ?_
        iterate 4 (first | (apply first_step; (rw [List.getElem?_toArray]; (repeat rw [List.getElem?_cons_succ]); rw [List.getElem?_cons_zero]); rfl; (intro W hB; have hc := bcellB hB; go_simp; (first | done | rfl)); go_frame) | (apply first_skip; (rw [List.getElem?_toArray]; (repeat rw [List.getElem?_cons_succ]); rw [List.getElem?_cons_zero]); rfl; go_frame))
        refine first_done ?_
        apply forced_step; (rw [List.getElem?_toArray]; (repeat rw [List.getElem?_cons_succ]); rw [List.getElem?_cons_zero]); rfl; intro K hK; go_simp
        refine (binary_any o.nm _).mono ?_
        rintro e w1 ⟨rfl, rfl⟩
        refine hK _ _ (fun h => absurd (by decide) h) ?_
        clear hK K
        refine forced_done ?_
        refine multi_phase (Below w.heap.size w) (Below.refl _ _).drew ?_
        cases hR : binP o.nm with
        | false =>
          iterate 18 (first | (apply first_step; (rw [List.getElem?_toArray]; (repeat rw [List.getElem?_cons_succ]); rw [List.getElem?_cons_zero]); rfl; (intro W hB; have hc := bcellB hB; go_simp; (first | done | rfl)); go_frame) | (apply first_skip; (rw [List.getElem?_toArray]; (repeat rw [List.getElem?_cons_succ]); rw [List.getElem?_cons_zero]); rfl; go_frame))
          first | (refine first_build2 (v1 := .string o.nm) (v2 := .slice a n cap) (v := nagg { nd0 with nm := o.nm } (.slice a n cap)) ?_ rfl 42 2 5 _ _ rfl rfl rfl (build_nl o.nm _ n cap) ?_; (rw [List.getElem?_toArray]; (repeat rw [List.getElem?_cons_succ]); rw [List.getElem?_cons_zero]); go_frame) | (first | (apply first_step; (rw [List.getElem?_toArray]; (repeat rw [List.getElem?_cons_succ]); rw [List.getElem?_cons_zero]); rfl; (intro W hB; have hc := bcellB hB; go_simp; (first | done | rfl)); go_frame) | (apply first_skip; (rw [List.getElem?_toArray]; (repeat rw [List.getElem?_cons_succ]); rw [List.getElem?_cons_zero]); rfl; go_frame))
          refine first_done ?_
          apply forced_skip; (rw [List.getElem?_toArray]; (repeat rw [List.getElem?_cons_succ]); rw [List.getElem?_cons_zero]); rfl
          · exact fun h => absurd (by decide) h
          refine forced_done ?_
          refine multi_phase (fun _ => True) trivial ?_
          iterate 2 (first | (apply first_step; (rw [List.getElem?_toArray]; (repeat rw [List.getElem?_cons_succ]); rw [List.getElem?_cons_zero]); rfl; (intro W hB; go_simp; (first | done | rfl)); go_frame) | (apply first_skip; (rw [List.getElem?_toArray]; (repeat rw [List.getElem?_cons_succ]); rw [List.getElem?_cons_zero]); rfl; go_frame))
          refine first_done ?_
          refine forced_done ?_
          refine multi_done ?_
          go_wp2_with fail
          go_meet
          exact ⟨by rw [HK.out]; rw [hR]; all_goals (first | exact rfl | simp), (Below.refl _ _).drew⟩
        | true =>
          by_cases c1 : n = 2
          · have d1 : ((n : Int) == 2) = true := by simp [c1]
            have D1 : Hid (decide (n = 2) = true) := decide_eq_true c1
            clear c1
            iterate 18 (first | (apply first_step; (rw [List.getElem?_toArray]; (repeat rw [List.getElem?_cons_succ]); rw [List.getElem?_cons_zero]); rfl; (intro W hB; have hc := bcellB hB; go_simp; (first | done | rfl)); go_frame) | (apply first_skip; (rw [List.getElem?_toArray]; (repeat rw [List.getElem?_cons_succ]); rw [List.getElem?_cons_zero]); rfl; go_frame))
            first | (refine first_build2 (v1 := .string o.nm) (v2 := .slice a n cap) (v := nagg { nd0 with nm := o.nm } (.slice a n cap)) ?_ rfl 42 2 5 _ _ rfl rfl rfl (build_nl o.nm _ n cap) ?_; (rw [List.getElem?_toArray]; (repeat rw [List.getElem?_cons_succ]); rw [List.getElem?_cons_zero]); go_frame) | (first | (apply first_step; (rw [List.getElem?_toArray]; (repeat rw [List.getElem?_cons_succ]); rw [List.getElem?_cons_zero]); rfl; (intro W hB; have hc := bcellB hB; go_simp; (first | done | rfl)); go_frame) | (apply first_skip; (rw [List.getElem?_toArray]; (repeat rw [List.getElem?_cons_succ]); rw [List.getElem?_cons_zero]); rfl; go_frame))
            refine first_done ?_
            apply forced_step; (rw [List.getElem?_toArray]; (repeat rw [List.getElem?_cons_succ]); rw [List.getElem?_cons_zero]); rfl; intro K hK; go_simp
            refine (bare_nl o a n cap b off w.drew hb HP.out).mono ?_
            rintro e w9 ⟨rfl, hb9⟩
            have HB9 : Hid (Below w.heap.size w w9) := (Below.refl _ w).drew.trans hb9
            clear hb9
            refine hK _ _ (fun h => absurd (by decide) h) ?_
            clear hK K
            refine forced_done ?_
            refine multi_phase (fun _ => True) trivial ?_
            iterate 2 (first | (apply first_step; (rw [List.getElem?_toArray]; (repeat rw [List.getElem?_cons_succ]); rw [List.getElem?_cons_zero]); rfl; (intro W hB; go_simp; (first | done | rfl)); go_frame) | (apply first_skip; (rw [List.getElem?_toArray]; (repeat rw [List.getElem?_cons_succ]); rw [List.getElem?_cons_zero]); rfl; go_frame))
            refine first_done ?_
            refine forced_done ?_
            refine multi_done ?_
            go_wp2_with fail
            go_meet
            exact ⟨by rw [HK.out]; rw [hR, D1.out]; all_goals (first | exact rfl | simp), HB9⟩
          · have d1 : ((n : Int) == 2) = false := by simp; omega
            have D1 : Hid (decide (n = 2) = false) := decide_eq_false c1
            clear c1
            iterate 18 (first | (apply first_step; (rw [List.getElem?_toArray]; (repeat rw [List.getElem?_cons_succ]); rw [List.getElem?_cons_zero]); rfl; (intro W hB; have hc := bcellB hB; go_simp; (first | done | rfl)); go_frame) | (apply first_skip; (rw [List.getElem?_toArray]; (repeat rw [List.getElem?_cons_succ]); rw [List.getElem?_cons_zero]); rfl; go_frame))
            first | (refine first_build2 (v1 := .string o.nm) (v2 := .slice a n cap) (v := nagg { nd0 with nm := o.nm } (.slice a n cap)) ?_ rfl 42 2 5 _ _ rfl rfl rfl (build_nl o.nm _ n cap) ?_; (rw [List.getElem?_toArray]; (repeat rw [List.getElem?_cons_succ]); rw [List.getElem?_cons_zero]); go_frame) | (first | (apply first_step; (rw [List.getElem?_toArray]; (repeat rw [List.getElem?_cons_succ]); rw [List.getElem?_cons_zero]); rfl; (intro W hB; have hc := bcellB hB; go_simp; (first | done | rfl)); go_frame) | (apply first_skip; (rw [List.getElem?_toArray]; (repeat rw [List.getElem?_cons_succ]); rw [List.getElem?_cons_zero]); rfl; go_frame))
            refine first_done ?_
            apply forced_skip; (rw [List.getElem?_toArray]; (repeat rw [List.getElem?_cons_succ]); rw [List.getElem?_cons_zero]); rfl
            · exact fun h => absurd (by decide) h
            refine forced_done ?_
            refine multi_phase (fun _ => True) trivial ?_
            iterate 2 (first | (apply first_step; (rw [List.getElem?_toArray]; (repeat rw [List.getElem?_cons_succ]); rw [List.getElem?_cons_zero]); rfl; (intro W hB; go_simp; (first | done | rfl)); go_frame) | (apply first_skip; (rw [List.getElem?_toArray]; (repeat rw [List.getElem?_cons_succ]); rw [List.getElem?_cons_zero]); rfl; go_frame))
            refine first_done ?_
            refine forced_done ?_
            refine multi_done ?_
            go_wp2_with fail
            go_meet
            exact ⟨by rw [HK.out]; rw [hR, D1.out]; all_goals (first | exact rfl | simp), (Below.refl _ _).drew⟩
      by_cases h7 : o.k = 7
      · as_aux_lemma =>
        have HK : Hid (okT o l above = (nameP o.nm && (decide (o = { nd0 with k := o.k, nm := o.nm }) && decide (n = 0)))) := by
          unfold Hid; rw [okT_7 o l above h7, HN.out]
        have e0 : (o.k == 0) = false := by simp [h7]
        have e1 : (o.k == 1) = false := by simp [h7]
        have e3 : (o.k == 3) = false := by simp [h7]
        have e2 : (o.k == 2) = false := by simp [h7]
        have e4 : (o.k == 4) = false := by simp [h7]
        have e5 : (o.k == 5) = false := by simp [h7]
        have e6 : (o.k == 6) = false := by simp [h7]
        have e7 : (o.k == 7) = true := by simp [h7]
        clear h7
        go_wp2_with fail
        refine (isName_any o.nm HF.out.1.1 _).mono ?_
        rintro e w1 ⟨rfl, hb1⟩
        have HB1 := Lib.hid hb1
        cases hR : nameP o.nm with
        | false =>
          go_wp2_with fail
          go_meet
          exact ⟨by rw [HK.out]; rw [hR]; all_goals (first | exact rfl | simp), HB1⟩
        | true =>
          have P1 := HP.out.below hb1 hb
          have s7 : w1.cell? ⟨b, off + 7, none⟩ = some (.string o.nm) := P1 7 (by omega)
          have hb' := Nat.lt_of_lt_of_le hb hb1.size
          clear hb1
          go_wp2_with (refine wpList_build1 rfl 42 2 (.tmp 192) rfl (.string o.nm) rfl _ (build_n o.nm) ?_)
          refine (bare_n o a n cap b off w1 hb' P1).mono ?_
          rintro e w9 ⟨rfl, hb9⟩
          have HB9 : Hid (Below w.heap.size w w9) := HB1.out.trans (hb9.mono HB1.out.size)
          clear hb9
          go_wp2_with fail
          go_meet
          exact ⟨by rw [HK.out]; rw [hR, Bool.true_and]; all_goals (first | exact rfl | simp), HB9⟩
      by_cases h8 : o.k = 8
      · as_aux_lemma =>
        have HK : Hid (okT o l above = (decide (1 ≤ o.rows) && decide (1 ≤ n) && decide ((n : Int).tmod o.rows = 0) && decide (o = { nd0 with k := o.k, rows := o.rows }))) := by
          unfold Hid; rw [okT_8 o l above h8, HN.out]
        have e0 : (o.k == 0) = false := by simp [h8]
        have e1 : (o.k == 1) = false := by simp [h8]
        have e3 : (o.k == 3) = false := by simp [h8]
        have e2 : (o.k == 2) = false := by simp [h8]
        have e4 : (o.k == 4) = false := by simp [h8]
        have e5 : (o.k == 5) = false := by simp [h8]
        have e6 : (o.k == 6) = false := by simp [h8]
        have e7 : (o.k == 7) = false := by simp [h8]
        have e8 : (o.k == 8) = true := by simp [h8]
        clear h8 r7
        go_wp2_with fail
        refine wp_region_multiR [([0, 1, 2, 3, 4, 5, 6, 7, 8, 9, 10, 11, 12, 13, 14, 15, 16, 17, 18, 19, 20, 21, 22, 23, 24, 25, 26, 27, 28, 29, 30, 31, 32, 33, 34, 35, 36], [37], [37, 38, 39]), ([38, 39], [], [])] (by kernel_rfl) (by kernel_rfl) ?_
        refine multi_phase (Below w.heap.size w) (Below.refl _ _).drew ?_
        by_cases c1 : 1 ≤ o.rows
        case neg =>
          have d1 : decide (1 ≤ o.rows) = false := by simpa using c1
          have D1 := Lib.hid d1
          clear c1
          iterate 36 (first | (apply first_step; (rw [List.getElem?_toArray]; (repeat rw [List.getElem?_cons_succ]); rw [List.getElem?_cons_zero]); rfl; (intro W hB; have hc := bcellB hB; go_simp; (first | done | rfl)); go_frame) | (apply first_skip; (rw [List.getElem?_toArray]; (repeat rw [List.getElem?_cons_succ]); rw [List.getElem?_cons_zero]); rfl; go_frame))
          first | (refine first_build2 (v1 := .int .i64 o.rows) (v2 := .slice a n cap) (v := nagg { nd0 with rows := o.rows } (.slice a n cap)) ?_ rfl 42 4 5 _ _ rfl rfl rfl (build_rl o.rows _ n cap) ?_; (rw [List.getElem?_toArray]; (repeat rw [List.getElem?_cons_succ]); rw [List.getElem?_cons_zero]); go_frame) | (first | (apply first_step; (rw [List.getElem?_toArray]; (repeat rw [List.getElem?_cons_succ]); rw [List.getElem?_cons_zero]); rfl; (intro W hB; have hc := bcellB hB; go_simp; (first | done | rfl)); go_frame) | (apply first_skip; (rw [List.getElem?_toArray]; (repeat rw [List.getElem?_cons_succ]); rw [List.getElem?_cons_zero]); rfl; go_frame))
          refine first_done ?_
          apply forced_skip; (rw [List.getElem?_toArray]; (repeat rw [List.getElem?_cons_succ]); rw [List.getElem?_cons_zero]); rfl
          · exact fun h => absurd (by decide) h
          refine forced_done ?_
          refine multi_phase (fun _ => True) trivial ?_
          iterate 2 (first | (apply first_step; (rw [List.getElem?_toArray]; (repeat rw [List.getElem?_cons_succ]); rw [List.getElem?_cons_zero]); rfl; (intro W hB; go_simp; (first | done | rfl)); go_frame) | (apply first_skip; (rw [List.getElem?_toArray]; (repeat rw [List.getElem?_cons_succ]); rw [List.getElem?_cons_zero]); rfl; go_frame))
          refine first_done ?_
          refine forced_done ?_
          refine multi_done ?_
          go_wp2_with fail
          go_meet
          exact ⟨by rw [HK.out]; rw [D1.out, Bool.false_and, Bool.false_and, Bool.false_and]; all_goals (first | exact rfl | simp), (Below.refl _ _).drew⟩
        have d1 : decide (1 ≤ o.rows) = true := by simpa using c1
        have D1 := Lib.hid d1
        by_cases c2 : 1 ≤ n
        case neg =>
          have d2 : decide ((1 : Int) ≤ (n : Int)) = false := by simp; omega
          have D2 : Hid (decide (1 ≤ n) = false) := decide_eq_false c2
          clear c1 c2
          iterate 36 (first | (apply first_step; (rw [List.getElem?_toArray]; (repeat rw [List.getElem?_cons_succ]); rw [List.getElem?_cons_zero]); rfl; (intro W hB; have hc := bcellB hB; go_simp; (first | done | rfl)); go_frame) | (apply first_skip; (rw [List.getElem?_toArray]; (repeat rw [List.getElem?_cons_succ]); rw [List.getElem?_cons_zero]); rfl; go_frame))
          first | (refine first_build2 (v1 := .int .i64 o.rows) (v2 := .slice a n cap) (v := nagg { nd0 with rows := o.rows } (.slice a n cap)) ?_ rfl 42 4 5 _ _ rfl rfl rfl (build_rl o.rows _ n cap) ?_; (rw [List.getElem?_toArray]; (repeat rw [List.getElem?_cons_succ]); rw [List.getElem?_cons_zero]); go_frame) | (first | (apply first_step; (rw [List.getElem?_toArray]; (repeat rw [List.getElem?_cons_succ]); rw [List.getElem?_cons_zero]); rfl; (intro W hB; have hc := bcellB hB; go_simp; (first | done | rfl)); go_frame) | (apply first_skip; (rw [List.getElem?_toArray]; (repeat rw [List.getElem?_cons_succ]); rw [List.getElem?_cons_zero]); rfl; go_frame))
          refine first_done ?_
          apply forced_skip; (rw [List.getElem?_toArray]; (repeat rw [List.getElem?_cons_succ]); rw [List.getElem?_cons_zero]); rfl
          · exact fun h => absurd (by decide) h
          refine forced_done ?_
          refine multi_phase (fun _ => True) trivial ?_
          iterate 2 (first | (apply first_step; (rw [List.getElem?_toArray]; (repeat rw [List.getElem?_cons_succ]); rw [List.getElem?_cons_zero]); rfl; (intro W hB; go_simp; (first | done | rfl)); go_frame) | (apply first_skip; (rw [List.getElem?_toArray]; (repeat rw [List.getElem?_cons_succ]); rw [List.getElem?_cons_zero]); rfl; go_frame))
          refine first_done ?_
          refine forced_done ?_
          refine multi_done ?_
          go_wp2_with fail
          go_meet
          exact ⟨by rw [HK.out]; rw [D2.out, Bool.and_false, Bool.false_and, Bool.false_and]; all_goals (first | exact rfl | simp), (Below.refl _ _).drew⟩
        have d2 : decide ((1 : Int) ≤ (n : Int)) = true := by simp; omega
        have D2 : Hid (decide (1 ≤ n) = true) := decide_eq_true c2
        have dz : (o.rows == 0) = false := by simp; omega
        have dn : ¬ o.rows = 0 := by omega
        have HTM : Hid ((n : Int).tmod o.rows = (n : Int) % o.rows) := Int.tmod_eq_emod_of_nonneg (Int.natCast_nonneg n)
        clear c1 c2
        by_cases c3 : (n : Int) % o.rows = 0
        · have d3 : ((n : Int) % o.rows == 0) = true := by simp [c3]
          have D3 : Hid (decide ((n : Int).tmod o.rows = 0) = true) := by unfold Hid; rw [HTM.out]; exact decide_eq_true c3
          have d4 : ((n : Int).tmod o.rows == 0) = true := by rw [HTM.out]; exact d3
          clear c3
          iterate 36 (first | (apply first_step; (rw [List.getElem?_toArray]; (repeat rw [List.getElem?_cons_succ]); rw [List.getElem?_cons_zero]); rfl; (intro W hB; have hc := bcellB hB; go_simp; (first | done | rfl)); go_frame) | (apply first_skip; (rw [List.getElem?_toArray]; (repeat rw [List.getElem?_cons_succ]); rw [List.getElem?_cons_zero]); rfl; go_frame))
          first | (refine first_build2 (v1 := .int .i64 o.rows) (v2 := .slice a n cap) (v := nagg { nd0 with rows := o.rows } (.slice a n cap)) ?_ rfl 42 4 5 _ _ rfl rfl rfl (build_rl o.rows _ n cap) ?_; (rw [List.getElem?_toArray]; (repeat rw [List.getElem?_cons_succ]); rw [List.getElem?_cons_zero]); go_frame) | (first | (apply first_step; (rw [List.getElem?_toArray]; (repeat rw [List.getElem?_cons_succ]); rw [List.getElem?_cons_zero]); rfl; (intro W hB; have hc := bcellB hB; go_simp; (first | done | rfl)); go_frame) | (apply first_skip; (rw [List.getElem?_toArray]; (repeat rw [List.getElem?_cons_succ]); rw [List.getElem?_cons_zero]); rfl; go_frame))
          refine first_done ?_
          apply forced_step; (rw [List.getElem?_toArray]; (repeat rw [List.getElem?_cons_succ]); rw [List.getElem?_cons_zero]); rfl; intro K hK; go_simp
          refine (bare_rl o a n cap b off w.drew hb HP.out).mono ?_
          rintro e w9 ⟨rfl, hb9⟩
          have HB9 : Hid (Below w.heap.size w w9) := (Below.refl _ w).drew.trans hb9
          clear hb9
          refine hK _ _ (fun h => absurd (by decide) h) ?_
          clear hK K
          refine forced_done ?_
          refine multi_phase (fun _ => True) trivial ?_
          iterate 2 (first | (apply first_step; (rw [List.getElem?_toArray]; (repeat rw [List.getElem?_cons_succ]); rw [List.getElem?_cons_zero]); rfl; (intro W hB; go_simp; (first | done | rfl)); go_frame) | (apply first_skip; (rw [List.getElem?_toArray]; (repeat rw [List.getElem?_cons_succ]); rw [List.getElem?_cons_zero]); rfl; go_frame))
          refine first_done ?_
          refine forced_done ?_
          refine multi_done ?_
          go_wp2_with fail
          go_meet
          exact ⟨by rw [HK.out]; rw [D1.out, D2.out, D3.out]; all_goals (first | exact rfl | simp), HB9⟩
        · have d3 : ((n : Int) % o.rows == 0) = false := by simp [c3]
          have D3 : Hid (decide ((n : Int).tmod o.rows = 0) = false) := by unfold Hid; rw [HTM.out]; exact decide_eq_false c3
          have d4 : ((n : Int).tmod o.rows == 0) = false := by rw [HTM.out]; exact d3
          clear c3
          iterate 36 (first | (apply first_step; (rw [List.getElem?_toArray]; (repeat rw [List.getElem?_cons_succ]); rw [List.getElem?_cons_zero]); rfl; (intro W hB; have hc := bcellB hB; go_simp; (first | done | rfl)); go_frame) | (apply first_skip; (rw [List.getElem?_toArray]; (repeat rw [List.getElem?_cons_succ]); rw [List.getElem?_cons_zero]); rfl; go_frame))
          first | (refine first_build2 (v1 := .int .i64 o.rows) (v2 := .slice a n cap) (v := nagg { nd0 with rows := o.rows } (.slice a n cap)) ?_ rfl 42 4 5 _ _ rfl rfl rfl (build_rl o.rows _ n cap) ?_; (rw [List.getElem?_toArray]; (repeat rw [List.getElem?_cons_succ]); rw [List.getElem?_cons_zero]); go_frame) | (first | (apply first_step; (rw [List.getElem?_toArray]; (repeat rw [List.getElem?_cons_succ]); rw [List.getElem?_cons_zero]); rfl; (intro W hB; have hc := bcellB hB; go_simp; (first | done | rfl)); go_frame) | (apply first_skip; (rw [List.getElem?_toArray]; (repeat rw [List.getElem?_cons_succ]); rw [List.getElem?_cons_zero]); rfl; go_frame))
          refine first_done ?_
          apply forced_skip; (rw [List.getElem?_toArray]; (repeat rw [List.getElem?_cons_succ]); rw [List.getElem?_cons_zero]); rfl
          · exact fun h => absurd (by decide) h
          refine forced_done ?_
          refine multi_phase (fun _ => True) trivial ?_
          iterate 2 (first | (apply first_step; (rw [List.getElem?_toArray]; (repeat rw [List.getElem?_cons_succ]); rw [List.getElem?_cons_zero]); rfl; (intro W hB; go_simp; (first | done | rfl)); go_frame) | (apply first_skip; (rw [List.getElem?_toArray]; (repeat rw [List.getElem?_cons_succ]); rw [List.getElem?_cons_zero]); rfl; go_frame))
          refine first_done ?_
          refine forced_done ?_
          refine multi_done ?_
          go_wp2_with fail
          go_meet
          exact ⟨by rw [HK.out]; rw [D3.out, Bool.and_false, Bool.false_and]; all_goals (first | exact rfl | simp), (Below.refl _ _).drew⟩
      by_cases h9 : o.k = 9
      · as_aux_lemma =>
        have HK : Hid (okT o l above = ((above == 4) && (decide (o = { nd0 with k := o.k }) && decide (n = 0)))) := by
          unfold Hid; rw [okT_9 o l above h9, HN.out, B4.out]
        have e0 : (o.k == 0) = false := by simp [h9]
        have e1 : (o.k == 1) = false := by simp [h9]
        have e3 : (o.k == 3) = false := by simp [h9]
        have e2 : (o.k == 2) = false := by simp [h9]
        have e4 : (o.k == 4) = false := by simp [h9]
        have e5 : (o.k == 5) = false := by simp [h9]
        have e6 : (o.k == 6) = false := by simp [h9]
        have e7 : (o.k == 7) = false := by simp [h9]
        have e8 : (o.k == 8) = false := by simp [h9]
        have e9 : (o.k == 9) = true := by simp [h9]
        clear h9
        by_cases c4 : above = 4
        case neg =>
          have d4 : decide (above = 4) = false := decide_eq_false c4
          have e4 : (above == 4) = false := by simp [c4]
          have D4 : Hid ((above == 4) = false) := e4
          clear c4
          go_wp2_with fail
          go_meet
          exact ⟨by rw [HK.out]; rw [D4.out]; all_goals (first | exact rfl | simp), Below.refl _ _⟩
        case pos =>
          have D4 : Hid ((above == 4) = true) := by unfold Hid; simp [c4]
          have d4 : decide (above = 4) = true := decide_eq_true c4
          clear c4
          go_wp2_with (refine wpList_build0 rfl 42 rfl _ build_0 ?_)
          refine (bare_0 o a n cap b off w hb HP.out).mono ?_
          rintro e w9 ⟨rfl, hb9⟩
          have HB9 : Hid (Below w.heap.size w w9) := hb9
          clear hb9
          go_wp2_with fail
          go_meet
          exact ⟨by rw [HK.out]; rw [D4.out, Bool.true_and]; all_goals (first | exact rfl | simp), HB9⟩
      have HK : Hid (okT o l above = false) := okT_no o l above h0 h1 h2 h3 h4 h5 h6 h7 h8 h9
      have e0 : (o.k == 0) = false := by simpa using h0
      have e1 : (o.k == 1) = false := by simpa using h1
      have e3 : (o.k == 3) = false := by simpa using h3
      have e2 : (o.k == 2) = false := by simpa using h2
      have e4 : (o.k == 4) = false := by simpa using h4
      have e5 : (o.k == 5) = false := by simpa using h5
      have e6 : (o.k == 6) = false := by simpa using h6
      have e7 : (o.k == 7) = false := by simpa using h7
      have e8 : (o.k == 8) = false := by simpa using h8
      have e9 : (o.k == 9) = false := by simpa using h9
      clear h0 h1 h2 h3 h4 h5 h6 h7 h8 h9
      go_wp2_with fail
      go_meet
      exact ⟨by rw [HK.out]; skip; all_goals (first | exact rfl | simp), Below.refl _ _⟩
    case rest =>
    as_aux_lemma =>
    obtain ⟨rfl, hB0⟩ := hcut
    have HP0 := Lib.hid (HP.out.below hB0.out hb)
    have hbc : b < wc.heap.size := Nat.lt_of_lt_of_le hb hB0.out.size
    obtain ⟨W0, hW0⟩ : ∃ W0 : World, W0 = wc := ⟨_, rfl⟩
    rw [← hW0] at hB0 HP0 hbc ⊢
    clear hW0
    have y21 : W0.cell? ⟨b, off + 21, none⟩ = some (.slice a n cap) := HP0.out 21 (by omega)
    clear r0 r7 r20 r21
    generalize hOK : okT o l above = OK at HR
    clear hOK
    go_wp2_with fail
    go_loopg [251, 5] n (fun g i s5 wr => ∃ (k : Nat), i = .int .i64 k ∧ g = n - k ∧ k ≤ n ∧ s5 = .bool (OK && (l.take k).all (kidT o)) ∧ Hid (Below W0.heap.size W0 wr))
    case atStart => exact ⟨0, rfl, rfl, Nat.zero_le _, by rw [List.take_zero, List.all_nil, Bool.and_true], Below.refl _ _⟩
    case round =>
      obtain ⟨k, rfl, rfl, hk, rfl, hB⟩ := hrel
      have HBw : Hid (Below w.heap.size w wr) := hB0.out.trans (hB.out.mono hB0.out.size)
      have hwr : b < wr.heap.size := Nat.lt_of_lt_of_le hbc hB.out.size
      have PW := HP0.out.below hB.out hbc
      have x0 : wr.cell? ⟨b, off, none⟩ = some (.int .i64 o.k) := PW 0 (by omega)
      have x21 : wr.cell? ⟨b, off + 21, none⟩ = some (.slice a n cap) := PW 21 (by omega)
      clear PW
      by_cases hlt : k < n
      · cases hE : (OK && (l.take k).all (kidT o)) with
        | false =>
          have Y : Hid (rightT (.mk o l) above = false) := by
            unfold Hid
            rw [HR.out]
            rw [Bool.and_eq_false_iff] at hE ⊢
            rcases hE with h | h
            · exact .inl h
            · right
              rw [List.all_eq_false] at h ⊢
              obtain ⟨x, hx, h2⟩ := h
              exact ⟨x, List.mem_of_mem_take hx, h2⟩
          go_wp2_with fail
          go_ret
          exact ⟨by rw [Y.out]; all_goals exact rfl, HBw.out⟩
        | true =>
          obtain ⟨t, ht⟩ : ∃ t, l[k]? = some t := ⟨_, List.getElem?_eq_getElem (by rw [HN.out]; exact hlt)⟩
          obtain ⟨g, go, rfl, hg, hall⟩ := T.at_mk.1 (HA.out.below HBw.out) (by rw [HN.out]; omega)
          obtain ⟨ta, tc, hc, hat⟩ := hall k t ht
          have c0 : wr.cell? ⟨g, go + k * 22, none⟩ = some (.int .i64 t.o.k) := hc 0 (by omega)
          have j1 : (0 : Int) ≤ (k : Int) := by omega
          have j2 : (k : Int) < (n : Int) := by omega
          have hts : t.size ≤ 2097152 := by have := HZ.out; have h2 := T.size_le (o := o) (List.mem_of_getElem? ht); omega
          have IHt := Lib.hid (IH.out t (List.mem_of_getElem? ht) hts (HF.out.2 t (List.mem_of_getElem? ht)) o.k g (go + k * 22) ta tc wr.drew hg hc (hat.below ((Below.refl _ wr).drew) t))
          have NX : Hid (∀ B : Bool, kidT o t = B → (OK && (l.take (k + 1)).all (kidT o)) = B) := fun B hB => by
            rw [List.take_add_one, ht, List.all_append, ← Bool.and_assoc, hE]
            simp [hB]
          clear hall hc hat ht hts hE
          go_wp2_with fail
          refine wp_region_multiR [([0, 1, 2, 3, 4, 5, 6, 7, 8, 9, 10, 11, 12, 13, 14, 15, 16, 17, 18, 19, 20, 21, 22, 23, 24, 25, 26], [27], [27, 28, 29]), ([28, 29], [], [])] (by kernel_rfl) (by kernel_rfl) ?_
          refine multi_phase (Below wr.heap.size wr) (Below.refl _ _).drew ?_
          by_cases h8 : o.k = 8
          · have n8 : (o.k != 8) = false := by simp [h8]
            have D8 : Hid (decide (o.k ≠ 8) = false) := by unfold Hid; simp [h8]
            clear h8
            by_cases hk0 : t.o.k = 0
            · have ek : (t.o.k == 0) = true := by simp [hk0]
              have KD : Hid (kidT o t = rightT t o.k) := by unfold Hid kidT; rw [decide_eq_true hk0, Bool.or_true, Bool.true_and]
              clear hk0
              iterate 27 (first | (apply first_step; (rw [List.getElem?_toArray]; (repeat rw [List.getElem?_cons_succ]); rw [List.getElem?_cons_zero]); rfl; (intro W hB; have hc := bcellB hB; go_simp; (first | done | rfl)); go_frame) | (apply first_skip; (rw [List.getElem?_toArray]; (repeat rw [List.getElem?_cons_succ]); rw [List.getElem?_cons_zero]); rfl; go_frame))
              refine first_done ?_
              apply forced_step; (rw [List.getElem?_toArray]; (repeat rw [List.getElem?_cons_succ]); rw [List.getElem?_cons_zero]); rfl; intro K hK; go_simp
              refine (IHt.out).mono ?_
              rintro e3 w3 ⟨rfl, hb3⟩
              have HB3 : Hid (Below W0.heap.size W0 w3) := hB.out.trans (((Below.refl _ wr).drew.trans hb3).mono hB.out.size)
              refine hK _ _ (fun h => absurd (by decide) h) ?_
              clear hK K hb3
              refine forced_done ?_
              refine multi_phase (fun _ => True) trivial ?_
              iterate 2 (first | (apply first_step; (rw [List.getElem?_toArray]; (repeat rw [List.getElem?_cons_succ]); rw [List.getElem?_cons_zero]); rfl; (intro W hB; go_simp; (first | done | rfl)); go_frame) | (apply first_skip; (rw [List.getElem?_toArray]; (repeat rw [List.getElem?_cons_succ]); rw [List.getElem?_cons_zero]); rfl; go_frame))
              refine first_done ?_
              refine forced_done ?_
              refine multi_done ?_
              go_wp2_with fail
              go_roundg (n - (k + 1))
              case measure => omega
              case rel => exact ⟨k + 1, by go_num, rfl, by omega, by rw [NX.out _ KD.out], HB3⟩
            · have ek : (t.o.k == 0) = false := by simp [hk0]
              have KD : Hid (kidT o t = false) := by unfold Hid kidT; rw [decide_eq_false hk0, D8.out]; rfl
              clear hk0
              iterate 27 (first | (apply first_step; (rw [List.getElem?_toArray]; (repeat rw [List.getElem?_cons_succ]); rw [List.getElem?_cons_zero]); rfl; (intro W hB; have hc := bcellB hB; go_simp; (first | done | rfl)); go_frame) | (apply first_skip; (rw [List.getElem?_toArray]; (repeat rw [List.getElem?_cons_succ]); rw [List.getElem?_cons_zero]); rfl; go_frame))
              refine first_done ?_
              apply forced_skip; (rw [List.getElem?_toArray]; (repeat rw [List.getElem?_cons_succ]); rw [List.getElem?_cons_zero]); rfl
              · exact fun h => absurd (by decide) h
              refine forced_done ?_
              refine multi_phase (fun _ => True) trivial ?_
              iterate 2 (first | (apply first_step; (rw [List.getElem?_toArray]; (repeat rw [List.getElem?_cons_succ]); rw [List.getElem?_cons_zero]); rfl; (intro W hB; go_simp; (first | done | rfl)); go_frame) | (apply first_skip; (rw [List.getElem?_toArray]; (repeat rw [List.getElem?_cons_succ]); rw [List.getElem?_cons_zero]); rfl; go_frame))
              refine first_done ?_
              refine forced_done ?_
              refine multi_done ?_
              go_wp2_with fail
              go_roundg (n - (k + 1))
              case measure => omega
              case rel => exact ⟨k + 1, by go_num, rfl, by omega, by rw [NX.out _ KD.out], hB.out.drew⟩
          · have n8 : (o.k != 8) = true := by simp [h8]
            have KD : Hid (kidT o t = rightT t o.k) := by unfold Hid kidT; rw [decide_eq_true h8, Bool.true_or, Bool.true_and]
            clear h8
            iterate 27 (first | (apply first_step; (rw [List.getElem?_toArray]; (repeat rw [List.getElem?_cons_succ]); rw [List.getElem?_cons_zero]); rfl; (intro W hB; have hc := bcellB hB; go_simp; (first | done | rfl)); go_frame) | (apply first_skip; (rw [List.getElem?_toArray]; (repeat rw [List.getElem?_cons_succ]); rw [List.getElem?_cons_zero]); rfl; go_frame))
            refine first_done ?_
            apply forced_step; (rw [List.getElem?_toArray]; (repeat rw [List.getElem?_cons_succ]); rw [List.getElem?_cons_zero]); rfl; intro K hK; go_simp
            refine (IHt.out).mono ?_
            rintro e3 w3 ⟨rfl, hb3⟩
            have HB3 : Hid (Below W0.heap.size W0 w3) := hB.out.trans (((Below.refl _ wr).drew.trans hb3).mono hB.out.size)
            refine hK _ _ (fun h => absurd (by decide) h) ?_
            clear hK K hb3
            refine forced_done ?_
            refine multi_phase (fun _ => True) trivial ?_
            iterate 2 (first | (apply first_step; (rw [List.getElem?_toArray]; (repeat rw [List.getElem?_cons_succ]); rw [List.getElem?_cons_zero]); rfl; (intro W hB; go_simp; (first | done | rfl)); go_frame) | (apply first_skip; (rw [List.getElem?_toArray]; (repeat rw [List.getElem?_cons_succ]); rw [List.getElem?_cons_zero]); rfl; go_frame))
            refine first_done ?_
            refine forced_done ?_
            refine multi_done ?_
            go_wp2_with fail
            go_roundg (n - (k + 1))
            case measure => omega
            case rel => exact ⟨k + 1, by go_num, rfl, by omega, by rw [NX.out _ KD.out], HB3⟩
      · have NX : Hid ((OK && (l.take k).all (kidT o)) = rightT (.mk o l) above) := by
          unfold Hid
          rw [HR.out, List.take_of_length_le (by rw [HN.out]; omega)]
        go_wp2_with fail
        go_ret
        exact ⟨by rw [NX.out]; all_goals exact rfl, HBw.out⟩
end Go.Proofs.YtlcglkanlhmmdaaGreat
