/- names.New, Right, one, (*names.Table).Set. -/
import Derived.Test.YtlcglkanlhmmdaaGreatQN17Expand
import Derived.Test.YtlcglkanlhmmdaaGreatQN17CheckT
namespace Go.Proofs.YtlcglkanlhmmdaaGreat
open Go.RowKit
theorem wpList_build2 {P : Program} {ops : Array Oper} {rest : List Oper} {op : Oper} {a : Act} {w : World} {Q : Exit → Act → World → Prop} (hw : Region.wanted op (yielded ops a.tmps) = true) (t : TypeId) (i j : Nat) (x y : Operand) (ho : op.op = .build t #[(i, x), (j, y)])
    (v0 v1 : Value) (hx : a.eval x = v0) (hy : a.eval y = v1) (v : Value) (hb : ∀ w, (Instr.build t #[(i, v0), (j, v1)]).run P w = .ok v w) (h : wpList P ops Q rest (a.put op.dst v) w) : wpList P ops Q (op :: rest) a w :=
  wpList_step fun K hK => by
    rw [if_pos hw]
    unfold Oper.wp execOp
    simp only [ho, List.map_toArray, List.map_cons, List.map_nil, hx, hy, Sem.run_bind, hb, Result.andThen_ok]
    exact hK _ _ h
theorem build_kn (s : ByteArray) (w : World) : (Instr.build 42 #[(0, .int .i64 7), (2, .string s)]).run Tryz.prog w = .ok (nagg { nd0 with k := 7, nm := s } (.slice none 0 0)) w := run_build w 42 _ _ (by kernel_rfl)
theorem fit_name (s : ByteArray) (hs : s.size ≤ 1048576) : (T.mk { nd0 with k := 7, nm := s } []).fit := by
  rw [T.fit_mk]
  exact ⟨⟨hs, Nat.zero_le _, by show I64 0; unfold I64; omega⟩, fun t h => by cases h⟩
theorem check_name (s : ByteArray) : checkP (.mk { nd0 with k := 7, nm := s } []) = if nameP s then 0 else 6 := by
  have h1 : (T.mk { nd0 with k := 7, nm := s } []).size = 1 := by rw [T.size_mk]; rfl
  have h2 : (T.mk { nd0 with k := 7, nm := s } []).depth = 1 := by rw [T.depth_mk]; rfl
  have h3 : rightR (.mk { nd0 with k := 7, nm := s } []) false = nameP s := by
    rw [rightR_mk]
    simp [ownP, okR, mO]
  unfold checkP
  rw [h1, h2, h3]
  have h4 : belowP (T.mk { nd0 with k := 7, nm := s } []).o = false := by
    show belowP { nd0 with k := 7, nm := s } = false
    simp [belowP]
  rw [h4]
  cases nameP s <;> simp
set_option maxHeartbeats 1000000 in
set_option maxRecDepth 100000 in
theorem rightN_any (s : ByteArray) (hs : s.size ≤ 1048576) (w : World) : Calls Tryz.prog 7 #[.string s] w fun e w' => e = .returned (.bool (nameP s)) ∧ Below w.heap.size w w' := by
  go_enter Tryz.func7, Tryz.ntmps7
  go_wp2_with (refine wpList_build2 rfl 42 0 2 (.const (.int .i64 7)) (.tmp 3) rfl (.int .i64 7) (.string s) rfl rfl _ (build_kn s) ?_)
  refine (checkT_any (.mk { nd0 with k := 7, nm := s } []) (by rw [T.size_mk]; simp) (fit_name s hs) _ w ⟨none, 0, rfl, by rw [T.at_mk]; intro h; cases h⟩).mono ?_
  rintro e w1 ⟨rfl, hb⟩
  rw [check_name]
  have HB := Lib.hid hb
  clear hb
  cases hn : nameP s with
  | true =>
    go_wp2_with fail
    go_ret
    exact ⟨by rw [hn]; exact rfl, HB.out⟩
  | false =>
    go_wp2_with fail
    go_ret
    exact ⟨by rw [hn]; exact rfl, HB.out⟩
set_option maxHeartbeats 400000 in
theorem new_any (w : World) : Calls Tryz.prog 6 #[] w fun e w' => e = .returned (.pointer (some ⟨w.heap.size, 0, none⟩)) ∧ w' = w.alloc (.cells #[.map none] 62) := by
  go_enter Tryz.func6, Tryz.ntmps6
  go_wp2
  go_ret
  exact ⟨rfl, rfl⟩
/-- A whole number, as a node. -/
def oneN (n : Int) : Nd := { nd0 with k := 0, v := ⟨1, n, 0, ⟨#[]⟩, false, 0⟩ }
theorem build_m (n : Int) (w : World) : (Instr.build 31 #[(0, .int .i64 n)]).run Tryz.prog w = .ok (.agg #[.int .i64 n, .int .i64 0]) w := run_build w 31 _ _ (by kernel_rfl)
theorem build_mv (n : Int) (w : World) : (Instr.build 33 #[(0, .int .i64 1), (1, .agg #[.int .i64 n, .int .i64 0])]).run Tryz.prog w = .ok (vagg ⟨1, n, 0, ⟨#[]⟩, false, 0⟩) w := run_build w 33 _ _ (by kernel_rfl)
theorem build_one (n : Int) (w : World) : (Instr.build 42 #[(0, .int .i64 0), (1, vagg ⟨1, n, 0, ⟨#[]⟩, false, 0⟩)]).run Tryz.prog w = .ok (nagg (oneN n) (.slice none 0 0)) w := run_build w 42 _ _ (by kernel_rfl)
set_option maxHeartbeats 1000000 in
set_option maxRecDepth 100000 in
theorem one_any17 (n : Int) (w : World) : Calls Tryz.prog 18 #[.int .i64 n] w fun e w' => e = .returned (nagg (oneN n) (.slice none 0 0)) ∧ Below w.heap.size w w' := by
  go_enter Tryz.func18, Tryz.ntmps18
  go_wp2_with (first | refine wpList_build1 rfl 31 0 (.tmp 3) rfl (.int .i64 n) rfl _ (build_m n) ?_ | refine wpList_build2 rfl 33 0 1 (.const (.int .i64 1)) (.tmp 4) rfl (.int .i64 1) (.agg #[.int .i64 n, .int .i64 0]) rfl rfl _ (build_mv n) ?_ | refine wpList_build2 rfl 42 0 1 (.const (.int .i64 0)) (.tmp 5) rfl (.int .i64 0) (vagg ⟨1, n, 0, ⟨#[]⟩, false, 0⟩) rfl rfl _ (build_one n) ?_ | (refine wpList_store_nd rfl (.tmp 2) (.tmp 6) rfl w.heap.size 0 (ncells nd0 (.slice none 0 0)) 42 (heap_alloc_new w _) (Nat.le_refl _) (oneN n) (.slice none 0 0) rfl rfl rfl ?_; intro W3 p1 p2 p3))
  have p1' : W3.heap[w.heap.size]? = some (.cells (ncells (oneN n) (.slice none 0 0)).toArray 42) := p1
  refine bodyPost_ret (v := nagg (oneN n) (.slice none 0 0)) (results_nd1 rfl rfl (range_blk p1')) rfl ⟨rfl, ?_⟩
  exact (below_alloc w _ _ (Nat.le_refl _)).trans (p2.below (by simp) (fun k hk => by omega))
/-- A table whose memory lies at or above K. -/
def TabK (K : Nat) (w : World) (pt : Nat) (mo : Option Nat) (L : List (ByteArray × T)) : Prop := w.heap[pt]? = some (.cells #[.map mo] 62) ∧ TabV w mo L ∧ K ≤ pt ∧ ∀ mt, mo = some mt → K ≤ mt
theorem TabK.tab {K : Nat} {w : World} {pt : Nat} {mo : Option Nat} {L : List (ByteArray × T)} (h : TabK K w pt mo L) : Tab w pt L := ⟨mo, h.1, h.2.1⟩
theorem TabK.below {K : Nat} {w w' : World} {pt : Nat} {mo : Option Nat} {L : List (ByteArray × T)} (h : TabK K w pt mo L) (hb : Below w.heap.size w w') : TabK K w' pt mo L :=
  ⟨(hb.block pt (lt_of_heap h.1)).trans h.1, h.2.1.below hb, h.2.2⟩
theorem IsT.keep {w W : World} {v : Value} {t : T} (h : IsT w v t) (hk : Keep w W) : IsT W v t := by
  obtain ⟨a, cap, e, hA⟩ := h
  exact ⟨a, cap, e, hA.keep hk⟩
theorem TabL.keep {w W : World} {vs : List (ByteArray × Value)} {L : List (ByteArray × T)} (h : TabL w vs L) (hk : Keep w W) : TabL W vs L := by
  refine ⟨h.1, fun i s t hi => ?_⟩
  obtain ⟨v, h1, h2⟩ := h.2 i s t hi
  exact ⟨v, h1, h2.keep hk⟩
theorem TabL.put {w : World} : ∀ {vs : List (ByteArray × Value)} {L : List (ByteArray × T)}, TabL w vs L → ∀ {s : ByteArray} {t : T} {v : Value}, IsT w v t → TabL w (putL vs s v) (putL L s t)
  | [], [], _, s, t, v, hv => ⟨rfl, fun i s' t' hi => by
      cases i with
      | zero => simp [putL] at hi; obtain ⟨rfl, rfl⟩ := hi; exact ⟨v, rfl, hv⟩
      | succ i => simp [putL] at hi⟩
  | [], (_ :: _), h, _, _, _, _ => by have := h.1; simp at this
  | (_ :: _), [], h, _, _, _, _ => by have := h.1; simp at this
  | ((x, u) :: vs), ((y, t0) :: L), h, s, t, v, hv => by
    have h1 := h.1
    simp only [List.map_cons, List.cons.injEq] at h1
    obtain ⟨rfl, h2⟩ := h1
    have htl : TabL w vs L := ⟨h2, fun i s' t' hi => by
      obtain ⟨v2, p1, p2⟩ := h.2 (i + 1) s' t' (by simpa using hi)
      exact ⟨v2, by simpa using p1, p2⟩⟩
    by_cases hs : x = s
    · subst hs
      simp only [putL, if_true]
      refine ⟨by simp [h2], fun i s' t' hi => ?_⟩
      cases i with
      | zero => simp at hi; obtain ⟨rfl, rfl⟩ := hi; exact ⟨v, rfl, hv⟩
      | succ i => exact htl.2 i s' t' (by simpa using hi) |> fun ⟨v2, p1, p2⟩ => ⟨v2, by simpa using p1, p2⟩
    · simp only [putL, if_neg hs]
      have ih := TabL.put htl (s := s) (t := t) hv
      refine ⟨by simp [ih.1], fun i s' t' hi => ?_⟩
      cases i with
      | zero =>
        obtain ⟨v2, p1, p2⟩ := h.2 0 s' t' (by simpa using hi)
        exact ⟨v2, by simpa using p1, p2⟩
      | succ i =>
        obtain ⟨v2, p1, p2⟩ := ih.2 i s' t' (by simpa using hi)
        exact ⟨v2, by simpa using p1, p2⟩
/-- What Set tells, and what the table has then. -/
def setE (L : List (ByteArray × T)) (s : ByteArray) (t : T) : Int := if nameP s = false then 9 else if checkP t ≠ 0 then checkP t else if calT t [] false = true then 17 else if getL L s = none ∧ 100 ≤ L.length then 5 else 0
def setL (L : List (ByteArray × T)) (s : ByteArray) (t : T) : List (ByteArray × T) := if setE L s t = 0 then putL L s t else L
end Go.Proofs.YtlcglkanlhmmdaaGreat
/- The law's example: plain. -/
namespace Go.Proofs.YtlcglkanlhmmdaaGreat
open Go.RowKit
def sTAX : ByteArray := ⟨#[84, 65, 88]⟩
def sA1 : ByteArray := ⟨#[65, 49]⟩
theorem name_TAX : nameP sTAX = true := by kernel_rfl
theorem name_A1 : nameP sA1 = false := by kernel_rfl
def one3 : T := .mk (oneN 3) []
theorem one3_size : one3.size = 1 := by unfold one3; rw [T.size_mk]; rfl
theorem one3_fit : one3.fit := by
  unfold one3
  rw [T.fit_mk]
  exact ⟨⟨Nat.zero_le _, Nat.zero_le _, by show I64 3; unfold I64; omega⟩, fun t h => by cases h⟩
theorem one3_check : checkP one3 = 0 := by
  have h2 : one3.depth = 1 := by unfold one3; rw [T.depth_mk]; rfl
  have hnd : nd 3 = 1 := nd_small (by omega) (by omega)
  have h3 : rightR one3 false = true := by
    unfold one3
    rw [rightR_mk]
    have hl : litP (oneN 3).v = true := by
      simp [litP, refR, oneN, numR, hnd]
    have ho : okR (oneN 3) [] = true := by
      unfold okR
      rw [if_pos (by rfl), hl]
      rfl
    have hm : decide (oneN 3 = mO (oneN 3)) = true := by
      rw [decide_eq_true_eq]
      unfold mO
      rw [if_pos (by rfl)]
      rfl
    unfold ownP
    rw [ho, hm]
    rfl
  unfold checkP
  rw [one3_size, h2, h3]
  rfl
theorem one3_free : calT one3 [] false = false := by
  unfold one3
  rw [calT_mk]
  rfl
theorem set_TAX : setE [] sTAX one3 = 0 := by
  unfold setE
  rw [name_TAX, one3_check, one3_free]
  rfl
theorem setL_TAX : setL [] sTAX one3 = [(sTAX, one3)] := by
  unfold setL
  rw [if_pos set_TAX]
  rfl
def unN : Nd := { nd0 with k := 5, nm := ⟨#[45]⟩ }
def taxN : Nd := { nd0 with k := 7, nm := sTAX }
def exT : T := .mk unN [.mk taxN []]
theorem exT_exp : expT (subL [(sTAX, one3)]) exT [] false = .mk unN [one3] := by
  unfold exT
  rw [expT_mk, show hereP unN [] false = false from rfl]
  show T.mk unN (kidsE _ unN [T.mk taxN []] []) = _
  have h : kidsE (subL [(sTAX, one3)]) unN [T.mk taxN []] [] = [expT (subL [(sTAX, one3)]) (.mk taxN []) ([] ++ bnP unN [T.mk taxN []] 0) (tlP unN [T.mk taxN []] 0)] := rfl
  rw [h, show bnP unN [T.mk taxN []] 0 = [] from rfl, show tlP unN [T.mk taxN []] 0 = false from rfl, expT_mk, show hereP taxN ([] ++ []) false = true from rfl]
  simp [subL, getL, taxN]
theorem exT_size : exT.size = 2 := by
  unfold exT
  rw [T.size_mk, List.map_cons, T.size_mk]
  rfl
end Go.Proofs.YtlcglkanlhmmdaaGreat
