/- CycleTells: the walk. -/
import Derived.Test.YtcjohhminiedfaaC21TellsP
import Derived.Test.YtcjohhminiedfaaC21MoreQ
import Derived.Test.YtcjohhminiedfaaMapRange
import Derived.Test.YtcjohhminiedfaaInv
import Derived.Deep.DeepCutAuto
namespace Go.Proofs.Ytcjohhminiedfaa
open Go.RowKit
inductive OT
  | nil
  | one (i : Nat) (r : OT)
  | two (t u : Nat) (x y : OT)
section
variable {P : Program} {ops : Array Oper} {Q : Exit → Act → World → Prop}
def trB (ops : Array Oper) : OT → Array Bool → Bool
  | .nil, l => (Region.ready .any ops l).isEmpty
  | .one i r, l => (Region.ready .any ops l == [i]) && trB ops r (l.setIfInBounds i true)
  | .two t u x y, l => (Region.ready .any ops l == [t, u]) && trB ops x (l.setIfInBounds t true) && trB ops y (l.setIfInBounds u true)
def trN : OT → Nat
  | .nil => 0
  | .one _ r => trN r + 1
  | .two _ _ x y => max (trN x) (trN y) + 1
def wpTr (P : Program) (ops : Array Oper) (Q : Exit → Act → World → Prop) : OT → Act → World → Prop
  | .nil, a, w => Q .normal a w
  | .one i r, a, w => wpOp P ops Q i (fun a' w' => wpTr P ops Q r a' w') a w
  | .two t u x y, a, w => wpOp P ops Q t (fun a' w' => wpTr P ops Q x a' w') a w ∧ wpOp P ops Q u (fun a' w' => wpTr P ops Q y a' w') a w
theorem wpAnyG_tr {S : World → Prop} {ls : List Nat} (hS : ∀ W, S W) : ∀ (r : OT) (fuel : Nat) (listed : Array Bool) (a : Act) (w : World), trN r ≤ fuel → trB ops r listed = true → wpTr P ops Q r a w → wpAnyG P ops Q S ls fuel listed a w := by
  intro r
  induction r with
  | nil =>
    intro fuel listed a w _ hB h
    have hr : Region.ready .any ops listed = [] := by simpa [trB] using hB
    cases fuel with
    | zero => exact ⟨hr, h⟩
    | succ fuel => exact ⟨fun _ => h, fun i hi => by rw [hr] at hi; cases hi⟩
  | one i r ih =>
    intro fuel listed a w hf hB h
    simp only [trB, Bool.and_eq_true, beq_iff_eq] at hB
    cases fuel with
    | zero => simp [trN] at hf
    | succ fuel =>
      refine ⟨fun h0 => (by rw [hB.1] at h0; cases h0), fun j hj => ?_⟩
      rw [hB.1, List.mem_singleton] at hj
      subst hj
      exact wpOp_mono (fun a' w' h' => ⟨fun _ => hS _, ih fuel _ a' w' (by simp [trN] at hf; omega) hB.2 h'⟩) h
  | two t u x y ihx ihy =>
    intro fuel listed a w hf hB h
    simp only [trB, Bool.and_eq_true, beq_iff_eq] at hB
    cases fuel with
    | zero => simp [trN] at hf
    | succ fuel =>
      simp only [trN] at hf
      refine ⟨fun h0 => (by rw [hB.1.1] at h0; cases h0), fun j hj => ?_⟩
      rw [hB.1.1] at hj
      rcases (by simpa using hj : j = t ∨ j = u) with rfl | rfl
      · exact wpOp_mono (fun a' w' h' => ⟨fun _ => hS _, ihx fuel _ a' w' (by omega) hB.1.2 h'⟩) h.1
      · exact wpOp_mono (fun a' w' h' => ⟨fun _ => hS _, ihy fuel _ a' w' (by omega) hB.2 h'⟩) h.2
def regTrB (ops : Array Oper) (fs : List Nat) (r : OT) : Bool :=
  Region.noSelect ops && decide (fs.length + trN r ≤ ops.size) && firstR ops (masks ops) [] fs (Array.replicate ops.size false) && trB ops r (listAll fs (Array.replicate ops.size false))
/-- First all of fs, which are quiet; then the tree. -/
theorem wp_region_tr {id : Nat} {a : Act} {w : World} (fs : List Nat) (r : OT) (hm : P.follows .mixedOrders = true) (hB : regTrB ops fs r = true)
    (h : wpFirst P ops (fun _ => True) (fun a' => wpTr P ops (NoPanic Q) r a' w.drew) fs a) : (Code.region id ops true).wp P Q a w := by
  simp only [regTrB, Bool.and_eq_true, decide_eq_true_eq] at hB
  obtain ⟨⟨⟨b1, b2⟩, b3⟩, b4⟩ := hB
  refine wp_region_noPanic (wp_region_any hm (wpAny_of_G (S := fun _ => True) (ls := []) _ _ _ _ (wpAnyG_firstsR (Region.noSelect_spec b1) (fun _ _ _ _ _ h => h) fs ops.size _ a _ (by omega) (closed_none _) b3 trivial ?_ h)))
  intro f1 a1 he1 hc1 hk1
  exact wpAnyG_tr (fun _ => trivial) r f1 _ a1 _ (by omega) b4 hk1
theorem tr_step {i : Nat} {r : OT} {a : Act} {w : World} {o : Oper} (ho : ops[i]? = some o) (hw : Region.wanted o (yielded ops a.tmps) = true)
    (h : ∀ K : Act → World → Prop, (∀ a w, wpTr P ops Q r a w → K a w) → o.wp P a w K Q) : wpTr P ops Q (.one i r) a w := inv_step ho hw h
theorem tr_done {a : Act} {w : World} (h : Q .normal a w) : wpTr P ops (NoPanic Q) .nil a w := h
theorem tr_two {t u : Nat} {x y : OT} {a : Act} {w : World} (h1 : wpTr P ops Q (.one t x) a w) (h2 : wpTr P ops Q (.one u y) a w) : wpTr P ops Q (.two t u x y) a w := ⟨h1, h2⟩
end
end Go.Proofs.Ytcjohhminiedfaa
namespace Go.Proofs.Ytcjohhminiedfaa
open Go.RowKit
/-- A map that has these pairs, and no others; with its stamps. -/
def SetQ (w : World) (mb : Nat) (l : List (Nat × Nat)) : Prop := MapS w mb encP Value.bool (mE l)
theorem SetQ.new (w : World) : SetQ (w.alloc (.map #[] 0)) w.heap.size [] := MapS.new w _ _
theorem SetQ.lt {w : World} {mb : Nat} {l : List (Nat × Nat)} (h : SetQ w mb l) : mb < w.heap.size := MapIs.lt (MapS.is h)
theorem SetQ.keep {w w' : World} {mb : Nat} {l : List (Nat × Nat)} (h : SetQ w mb l) (hk : w'.heap[mb]? = w.heap[mb]?) : SetQ w' mb l := MapS.of_block h hk
theorem SetQ.put {w : World} {mb : Nat} {l : List (Nat × Nat)} {a b : Nat} (h : SetQ w mb l) : ∃ w', (Instr.mapUpdate 36 (.map (some mb)) (.agg #[.int .i64 (a : Int), .int .i64 (b : Int)]) (.bool true)).run Try.prog w = .ok () w' ∧ SetQ w' mb (if (a, b) ∈ l then l else l ++ [(a, b)]) ∧ Fr (fun k => k = mb) w w' ∧ w'.heap.size = w.heap.size := by
  obtain ⟨w', u1, u2, u3, u4⟩ := MapS.upd place_fits h Try.underlying36 (kE (a, b)) true
  refine ⟨w', u1, ?_, u3, u4⟩
  by_cases hn : (a, b) ∈ l
  · rw [if_pos hn]
    obtain ⟨j, hj⟩ := List.mem_iff_getElem?.1 hn
    have hj2 : (mE l)[j]? = some (kE (a, b), true) := by unfold mE; rw [List.getElem?_map, hj]; rfl
    rw [putL_old (MapIs.nodup (MapS.is h)) hj2] at u2
    have e : (mE l).set j (kE (a, b), true) = mE l := by
      apply List.ext_getElem?
      intro i
      rw [List.getElem?_set]
      by_cases hi : j = i
      · subst hi
        rw [if_pos rfl, if_pos (List.getElem?_eq_some_iff.1 hj2).1, hj2]
      · rw [if_neg hi]
    rw [e] at u2
    exact u2
  · rw [if_neg hn]
    rw [putL_mE hn] at u2
    exact u2
theorem SetQ.get {w : World} {mb : Nat} {l : List (Nat × Nat)} (h : SetQ w mb l) (a b : Nat) : (Instr.lookup 36 (.map (some mb)) (.agg #[.int .i64 (a : Int), .int .i64 (b : Int)]) false).run Try.prog w = .ok (.bool (decide ((a, b) ∈ l))) w := by
  have hl := MapIs.look1 place_fits (MapS.is h) Try.underlying36 (zero4 w) (kE (a, b))
  rw [getL_mE] at hl
  refine hl.trans ?_
  by_cases e : (a, b) ∈ l
  · rw [if_pos e, decide_eq_true e]
    rfl
  · rw [if_neg e, decide_eq_false e]
    rfl
theorem SetQ.rng {w : World} {mb : Nat} {l : List (Nat × Nat)} (h : SetQ w mb l) : ∃ es c, w.heap[mb]? = some (.map es c) ∧ BornOk es c ∧ (∀ e ∈ es.toList, ∃ q ∈ l, e.key = encP (kE q)) ∧ ∀ q ∈ l, ∃ e ∈ es.toList, e.key = encP (kE q) := by
  obtain ⟨es, c, h1, h2, _, h4⟩ := h
  refine ⟨es, c, h1, h4, fun e he => ?_, fun q hq => ?_⟩
  · have hm : (e.key, e.val) ∈ es.toList.map (fun e => (e.key, e.val)) := List.mem_map.2 ⟨e, he, rfl⟩
    rw [h2] at hm
    obtain ⟨p, hp, e2⟩ := List.mem_map.1 hm
    obtain ⟨q, hq, rfl⟩ := List.mem_map.1 hp
    injection e2 with e2 _
    exact ⟨q, hq, e2.symm⟩
  · have hm : (encP (kE q), Value.bool true) ∈ (mE l).map (fun p => (encP p.1, Value.bool p.2)) := List.mem_map.2 ⟨(kE q, true), List.mem_map.2 ⟨q, hq, rfl⟩, rfl⟩
    rw [← h2] at hm
    obtain ⟨e, he, e2⟩ := List.mem_map.1 hm
    injection e2 with e2 _
    exact ⟨e, he, e2⟩
def inE (n : Nat) (x y : Int) : Bool := decide (0 ≤ x ∧ x < (n : Int)) && decide (0 ≤ y ∧ y < (n : Int))
theorem inE_no {n : Nat} {E : List (Nat × Nat)} {x y : Int} (h : inE n x y = false) : okE n E x y = false ∧ addE n E x y = E := by
  have h1 : okE n E x y = false := by
    unfold okE
    unfold inE at h
    rw [h]
    rfl
  refine ⟨h1, ?_⟩
  unfold addE
  rw [h1]
  rfl
theorem inE_yes {n : Nat} {x y : Int} (h : inE n x y = true) : ∃ a b : Nat, x = (a : Int) ∧ y = (b : Int) ∧ a < n ∧ b < n := by
  unfold inE at h
  simp only [Bool.and_eq_true, decide_eq_true_eq] at h
  exact ⟨x.toNat, y.toNat, by omega, by omega, by omega, by omega⟩
theorem okE_yes {n : Nat} {E : List (Nat × Nat)} {a b : Nat} (ha : a < n) (hb : b < n) : okE n E (a : Int) (b : Int) = !decide ((a, b) ∈ E) ∧ addE n E (a : Int) (b : Int) = if (a, b) ∈ E then E else E ++ [(a, b)] := by
  have h1 : okE n E (a : Int) (b : Int) = !decide ((a, b) ∈ E) := by
    unfold okE
    rw [decide_eq_true (by omega), decide_eq_true (by omega)]
    simp
  refine ⟨h1, ?_⟩
  unfold addE
  rw [h1]
  by_cases h : (a, b) ∈ E
  · simp [h]
  · simp [h]
theorem mod101 {v : Int} (h0 : 0 ≤ v) : ∃ n : Nat, n ≤ 100 ∧ v.tmod 101 = (n : Int) := ⟨(v % 101).toNat, by omega, by rw [Int.tmod_eq_emod_of_nonneg h0]; omega⟩
theorem FarM.other {w : World} {bf : Nat} {far : List Int} (h : FarM w bf far) {p : Addr} (v : Value) (hne : bf ≠ p.block) : FarM (w.setCell p v) bf far := h.keep (set_other bf hne)
/-- A row of truths of the call's own block. -/
def BoolM (w : World) (b : Nat) (l : List Bool) : Prop := w.heap[b]? = some (.cells (l.map Value.bool).toArray 4)
theorem BoolM.at {w : World} {b : Nat} {l : List Bool} (h : BoolM w b l) {y : Nat} {v : Bool} (hy : l[y]? = some v) : w.cell? ⟨b, y, none⟩ = some (.bool v) := by
  rw [cell_of_heap h]; simp [hy]
theorem BoolM.put {w : World} {b : Nat} {l : List Bool} (h : BoolM w b l) (y : Nat) (v : Bool) : BoolM (w.setCell ⟨b, y, none⟩ (.bool v)) b (l.set y v) := by
  unfold BoolM
  rw [heap_setCell_at h]
  simp [List.map_set]
theorem BoolM.keep {w w' : World} {b : Nat} {l : List Bool} (h : BoolM w b l) (hk : w'.heap[b]? = w.heap[b]?) : BoolM w' b l := hk.trans h
open Classical in
theorem rgL_congr {n : Nat} {L : List (List Nat)} {D D' : List (Nat × Nat)} (h : ∀ y, InRing L D y ↔ InRing L D' y) : rgL n L D = rgL n L D' := by
  unfold rgL
  refine List.map_congr_left fun y _ => ?_
  rw [decide_eq_decide]
  exact h y
theorem born_inj {l : List MapEntry} (h : (l.map (·.born)).Nodup) {x y : MapEntry} (hx : x ∈ l) (hy : y ∈ l) (e : x.born = y.born) : x = y := by
  induction l with
  | nil => cases hx
  | cons a r ih =>
    rw [List.map_cons, List.nodup_cons] at h
    rcases List.mem_cons.1 hx with rfl | hx
    · rcases List.mem_cons.1 hy with rfl | hy
      · rfl
      · exact absurd (List.mem_map.2 ⟨y, hy, e.symm⟩) h.1
    · rcases List.mem_cons.1 hy with e2 | hy
      · rw [e2] at e
        exact absurd (List.mem_map.2 ⟨x, hx, e⟩) h.1
      · exact ih h.2 hx hy
open Classical in
theorem rgL_get {n : Nat} {L : List (List Nat)} {E : List (Nat × Nat)} {x : Nat} (h : x < n) : ∃ tr, (rgL n L E)[x]? = some tr ∧ (tr = true ↔ InRing L E x) := ⟨_, rgL_at L E h, decide_eq_true_iff⟩
theorem idx_get {F : List Nat} {x : Nat} (h : x ∈ F) : F[F.idxOf x]? = some x := by
  have h1 := List.idxOf_lt_length_iff.2 h
  rw [List.getElem?_eq_getElem h1, List.getElem_idxOf h1]
set_option maxHeartbeats 16000000 in
set_option maxRecDepth 100000 in
theorem tells_law {v : Int} (v0 : 0 ≤ v) (v1 : v ≤ 255) {w : World} {a : Option Addr} {cap : Nat} {l : List (Int × Int)} (hE : EdAt w a l) :
    Calls Try.prog 4 #[.int .u8 v, .slice a l.length cap] w fun e w' => e = .returned (.bool true) ∧ Below w.heap.size w w' := by
  obtain ⟨n, hn, hmod⟩ := mod101 v0
  have hwr : IntKind.i64.wrap v = v := by rw [IntKind.wrap_i64]; omega
  have hmm := @run_makeMap Try.prog
  have HE := Lib.hid hE
  obtain ⟨m, hm⟩ : ∃ m, l.length = m := ⟨_, rfl⟩
  have HM := Lib.hid hm
  rw [hm]
  clear hm hE
  go_enter Try.func4, Try.ntmps4
  go_wp2_with fail
  refine (awake_any w).mono ?_
  rintro e w1 ⟨rfl, hb1⟩
  have HB1 := Lib.hid hb1
  clear hb1
  by_cases h1 : 300 < m
  · have b1 : decide ((300 : Int) < (m : Int)) = true := by simp; omega
    go_wp2_with fail
    refine bodyPost_ret (v := .bool true) (by simp [results, Try.results4, go_sem]) rfl ⟨rfl, HB1.out⟩
  have b1 : decide ((300 : Int) < (m : Int)) = false := by simp; omega
  have C2 := Lib.hid (new_E (w := w1) (n : Int) n (by omega))
  go_wp2_with fail
  clear hwr hmod
  refine C2.out.mono ?_
  rintro e w2 ⟨G, rfl, hG2, hb2⟩
  obtain ⟨p, hp⟩ : ∃ p, G.pv = .pointer (some p) := ⟨_, hG2.gr.ptr⟩
  have HP := Lib.hid hp
  have HG2 := Lib.hid hG2
  have HB2 := Lib.hid (HB1.out.trans (hb2.mono HB1.out.size))
  obtain ⟨K2, hK2e⟩ : ∃ K, w1.heap.size = K := ⟨_, rfl⟩
  have hK2 : w.heap.size ≤ K2 := by rw [← hK2e]; exact HB1.out.size
  rw [hp]
  rw [hK2e] at HG2
  clear hp hG2 hb2 C2 HB1 hK2e
  go_upto_region 8 with fail
  obtain ⟨mb, hmb⟩ : ∃ mb, w2.heap.size = mb := ⟨_, rfl⟩
  have hmbw : w.heap.size ≤ mb := by rw [← hmb]; exact HB2.out.size
  have HS3 : Hid (SetQ (w2.alloc (.map #[] 0)) mb (laidE n false (l.take 0))) := by rw [← hmb]; exact SetQ.new w2
  have HG3 : Hid (GrE K2 (w2.alloc (.map #[] 0)) G n (laidE n false (l.take 0))) := HG2.out.below (below_alloc w2 _ _ (Nat.le_refl _))
  have HN3 : Hid (¬ G.has mb) := fun e => by have := HG2.out.has _ e; omega
  have HB3 : Hid (Below w.heap.size w (w2.alloc (.map #[] 0))) := HB2.out.alloc HB2.out.size _
  rw [hmb]
  clear hmb HB2 HG2
  go_wp2_with fail
  go_loopg [42] m (fun g s42 wr => ∃ (k : Nat) (G : Gb), s42 = .int .i64 (k : Int) ∧ g = m - k ∧ k ≤ m ∧ Hid (G.pv = .pointer (some p)) ∧ Hid (GrE K2 wr G n (laidE n false (l.take k))) ∧ Hid (SetQ wr mb (laidE n false (l.take k))) ∧ Hid (¬ G.has mb) ∧ Hid (Below w.heap.size w wr))
  case atStart => exact ⟨0, G, rfl, rfl, Nat.zero_le _, HP, HG3, HS3, HN3, HB3⟩
  case round =>
    clear HP HG3 HS3 HN3 HB3
    obtain ⟨k, G, rfl, rfl, hk, HP, HG, HS, HN, HB⟩ := hrel
    by_cases hlt : k < m
    · obtain ⟨⟨x, y⟩, hx⟩ : ∃ x, l[k]? = some x := ⟨_, List.getElem?_eq_getElem (by rw [HM.out]; exact hlt)⟩
      obtain ⟨b, off, rfl, zb, c1, c2⟩ := HE.out k _ hx
      have zb' := Nat.lt_of_lt_of_le zb HB.out.size
      have c1' := (HB.out.cell (p := ⟨b, off + k * 2, none⟩) zb).trans c1
      have c2' := (HB.out.cell (p := ⟨b, off + k * 2 + 1, none⟩) zb).trans c2
      have TK : Hid (laidE n false (l.take (k + 1)) = addE n (laidE n false (l.take k)) x y) := by
        unfold Hid
        rw [take_snoc hx, laidE_push]
        rfl
      have hlen : (laidE n false (l.take k)).length ≤ 1000000 := by
        have h1 := laidE_len n false (l.take k)
        rw [List.length_take] at h1
        omega
      have j1 : (0 : Int) ≤ (k : Int) := by omega
      have j2 : (k : Int) < (m : Int) := by omega
      clear c1 c2 zb hx
      go_upto_region 11 with fail
      refine abs_world ?_
      intro W5 hW5
      obtain ⟨B, hBe⟩ : ∃ B, wr.heap.size = B := ⟨_, rfl⟩
      have hw5 : Below wr.heap.size wr W5 := by
        rw [hW5]
        exact below_alloc wr _ _ (Nat.le_refl _)
      have q5 : Hid (W5.heap[B]? = some (.cells #[.int .i64 x, .int .i64 y] 37)) := by
        rw [hW5, ← hBe]
        exact heap_alloc_new wr _
      have HG5 : Hid (GrE K2 W5 G n (laidE n false (l.take k))) := HG.out.below hw5
      have HS5 : Hid (SetQ W5 mb (laidE n false (l.take k))) := HS.out.keep (hw5.block _ HS.out.lt)
      have HB5 : Hid (Below w.heap.size w W5) := HB.out.trans (hw5.mono HB.out.size)
      have HNB : Hid (¬ G.has B) := fun e => by have := HG.out.has _ e; omega
      rw [hBe]
      clear hW5 hw5 hBe HG HS HB c1' c2' zb'
      have c0 := cell_of_heap q5.out 0
      have c1 := cell_of_heap q5.out 1
      have z0 := lt_of_heap q5.out
      obtain ⟨t, ht⟩ : ∃ t, inE n x y = t := ⟨_, rfl⟩
      have HIN := Lib.hid ht
      go_cut [10] (fun s10 wx => W5 = wx ∧ s10 = .bool t)
      case first =>
        clear ht
        by_cases g1 : 0 ≤ x
        · have d1 : decide (0 ≤ x) = true := by simpa using g1
          by_cases g2 : x < (n : Int)
          · have d2 : decide (x < (n : Int)) = true := by simpa using g2
            by_cases g3 : 0 ≤ y
            · have d3 : decide (0 ≤ y) = true := by simpa using g3
              by_cases g4 : y < (n : Int)
              · have d4 : decide (y < (n : Int)) = true := by simpa using g4
                have ht : t = true := by rw [← HIN.out]; unfold inE; simp; omega
                subst ht
                go_wp2_with fail
                go_meet
                exact ⟨rfl, rfl⟩
              · have d4 : decide (y < (n : Int)) = false := by simpa using g4
                have ht : t = false := by rw [← HIN.out]; unfold inE; simp; omega
                subst ht
                go_wp2_with fail
                go_meet
                exact ⟨rfl, rfl⟩
            · have d3 : decide (0 ≤ y) = false := by simpa using g3
              have ht : t = false := by rw [← HIN.out]; unfold inE; simp; omega
              subst ht
              go_wp2_with fail
              go_meet
              exact ⟨rfl, rfl⟩
          · have d2 : decide (x < (n : Int)) = false := by simpa using g2
            have ht : t = false := by rw [← HIN.out]; unfold inE; simp; omega
            subst ht
            go_wp2_with fail
            go_meet
            exact ⟨rfl, rfl⟩
        · have d1 : decide (0 ≤ x) = false := by simpa using g1
          have ht : t = false := by rw [← HIN.out]; unfold inE; simp; omega
          subst ht
          go_wp2_with fail
          go_meet
          exact ⟨rfl, rfl⟩
      case rest =>
      obtain ⟨rfl, rfl⟩ := hcut
      have C7 := edge_E hlen HG5.out x y
      rw [HP.out] at C7
      clear ht hlen HG5
      cases t with
      | false =>
        obtain ⟨o1, o2⟩ := inE_no (E := laidE n false (l.take k)) HIN.out
        rw [o1, o2] at C7
        rw [o2] at TK
        have C7 := Lib.hid C7
        clear o1 o2
        go_wp2_with fail
        refine C7.out.mono ?_
        rintro e w7 ⟨rfl, ⟨G7, hp7, hG7, hn7⟩, hf7, hB7⟩
        have HP7 : Hid (G7.pv = .pointer (some p)) := hp7
        have HG7 := Lib.hid hG7
        have HS7 : Hid (SetQ w7 mb (laidE n false (l.take k))) := HS5.out.keep (hf7.block mb HS5.out.lt HN.out)
        have HN7 : Hid (¬ G7.has mb) := fun e => by
          rcases hn7 mb e with e | e
          · exact HN.out e
          · have := HS5.out.lt
            omega
        have q7 : Hid (w7.heap[B]? = some (.cells #[.int .i64 x, .int .i64 y] 37)) := (hf7.block B (lt_of_heap q5.out) HNB.out).trans q5.out
        have HB7 : Hid (Below w.heap.size w w7) := HB5.out.trans (hB7.mono hK2)
        have c0 := cell_of_heap q7.out 0
        have c1 := cell_of_heap q7.out 1
        have z0 := lt_of_heap q7.out
        clear hp7 hG7 hn7 hf7 hB7 C7
        have HG8 : Hid (GrE K2 w7 G7 n (laidE n false (l.take (k + 1)))) := by rw [TK.out]; exact HG7
        have HS8 : Hid (SetQ w7 mb (laidE n false (l.take (k + 1)))) := by rw [TK.out]; exact HS7
        clear HG7 HS7
        go_wp2_with fail
        go_roundg (m - (k + 1))
        case measure => omega
        case rel => exact ⟨k + 1, G7, by go_num, rfl, by omega, HP7, HG8, HS8, HN7, HB7⟩
      | true =>
        obtain ⟨s, d, rfl, rfl, hsn, hdn⟩ := inE_yes HIN.out
        obtain ⟨o1, o2⟩ := okE_yes (E := laidE n false (l.take k)) hsn hdn
        rw [o1, o2] at C7
        rw [o2] at TK
        clear o1 o2
        by_cases hmem : (s, d) ∈ laidE n false (l.take k)
        · rw [decide_eq_true hmem, if_pos hmem] at C7
          rw [if_pos hmem] at TK
          have C7 := Lib.hid C7
          have HMEM := Lib.hid hmem
          clear hmem
          go_wp2_with fail
          refine C7.out.mono ?_
          rintro e w7 ⟨rfl, ⟨G7, hp7, hG7, hn7⟩, hf7, hB7⟩
          have HP7 : Hid (G7.pv = .pointer (some p)) := hp7
          have HG7 := Lib.hid hG7
          have HS7 : Hid (SetQ w7 mb (laidE n false (l.take k))) := HS5.out.keep (hf7.block mb HS5.out.lt HN.out)
          have HN7 : Hid (¬ G7.has mb) := fun e => by
            rcases hn7 mb e with e | e
            · exact HN.out e
            · have := HS5.out.lt
              omega
          have q7 : Hid (w7.heap[B]? = some (.cells #[.int .i64 (s : Int), .int .i64 (d : Int)] 37)) := (hf7.block B (lt_of_heap q5.out) HNB.out).trans q5.out
          have HB7 : Hid (Below w.heap.size w w7) := HB5.out.trans (hB7.mono hK2)
          have c0 := cell_of_heap q7.out 0
          have c1 := cell_of_heap q7.out 1
          have z0 := lt_of_heap q7.out
          clear hp7 hG7 hn7 hf7 hB7 C7
          have LK := HS7.out.get s d
          rw [decide_eq_true HMEM.out] at LK
          obtain ⟨w8, u1, u2, u3, u4⟩ := HS7.out.put (a := s) (b := d)
          rw [if_pos HMEM.out] at u2
          rw [← TK.out] at u2
          have HS8 := Lib.hid u2
          have HG8 : Hid (GrE K2 w8 G7 n (laidE n false (l.take (k + 1)))) := by
            rw [TK.out]
            exact GrD.keep HG7.out fun i hi hlt => u3.block i hlt fun e => HN7.out (by rw [← e]; exact hi)
          have HB8 : Hid (Below w.heap.size w w8) := HB7.out.trans (u3.below HB7.out.size fun i hi => by rw [hi]; exact hmbw)
          clear u2 u3 u4 HS7 HG7 HB7
          go_wp2_with fail
          go_roundg (m - (k + 1))
          case measure => omega
          case rel => exact ⟨k + 1, G7, by go_num, rfl, by omega, HP7, HG8, HS8, HN7, HB8⟩
        · rw [decide_eq_false hmem, if_neg hmem] at C7
          rw [if_neg hmem] at TK
          have C7 := Lib.hid C7
          have HMEM := Lib.hid hmem
          clear hmem
          go_wp2_with fail
          refine C7.out.mono ?_
          rintro e w7 ⟨rfl, ⟨G7, hp7, hG7, hn7⟩, hf7, hB7⟩
          have HP7 : Hid (G7.pv = .pointer (some p)) := hp7
          have HG7 := Lib.hid hG7
          have HS7 : Hid (SetQ w7 mb (laidE n false (l.take k))) := HS5.out.keep (hf7.block mb HS5.out.lt HN.out)
          have HN7 : Hid (¬ G7.has mb) := fun e => by
            rcases hn7 mb e with e | e
            · exact HN.out e
            · have := HS5.out.lt
              omega
          have q7 : Hid (w7.heap[B]? = some (.cells #[.int .i64 (s : Int), .int .i64 (d : Int)] 37)) := (hf7.block B (lt_of_heap q5.out) HNB.out).trans q5.out
          have HB7 : Hid (Below w.heap.size w w7) := HB5.out.trans (hB7.mono hK2)
          have c0 := cell_of_heap q7.out 0
          have c1 := cell_of_heap q7.out 1
          have z0 := lt_of_heap q7.out
          clear hp7 hG7 hn7 hf7 hB7 C7
          have LK := HS7.out.get s d
          rw [decide_eq_false HMEM.out] at LK
          obtain ⟨w8, u1, u2, u3, u4⟩ := HS7.out.put (a := s) (b := d)
          rw [if_neg HMEM.out] at u2
          rw [← TK.out] at u2
          have HS8 := Lib.hid u2
          have HG8 : Hid (GrE K2 w8 G7 n (laidE n false (l.take (k + 1)))) := by
            rw [TK.out]
            exact GrD.keep HG7.out fun i hi hlt => u3.block i hlt fun e => HN7.out (by rw [← e]; exact hi)
          have HB8 : Hid (Below w.heap.size w w8) := HB7.out.trans (u3.below HB7.out.size fun i hi => by rw [hi]; exact hmbw)
          clear u2 u3 u4 HS7 HG7 HB7
          go_wp2_with fail
          go_roundg (m - (k + 1))
          case measure => omega
          case rel => exact ⟨k + 1, G7, by go_num, rfl, by omega, HP7, HG8, HS8, HN7, HB8⟩
    · obtain ⟨E, hEE⟩ : ∃ E, laidE n false l = E := ⟨_, rfl⟩
      have hT : l.take k = l := List.take_of_length_le (by rw [HM.out]; omega)
      have HOK : Hid (EOk n E) := by rw [← hEE]; exact laidE_ok n false l
      have HEL : Hid (E.length ≤ 1000000) := by
        have h1 := laidE_len n false l
        rw [hEE, HM.out] at h1
        unfold Hid
        omega
      rw [hT, hEE] at HG HS
      clear hT hEE
      go_upto_region 17 with fail
      obtain ⟨H, hH⟩ : ∃ H, wr.heap.size = H := ⟨_, rfl⟩
      have HH := Lib.hid hH
      have MK := mk3 n (by omega)
      clear hH
      rename World => wE
      go_cut [11, 12] (fun s11 s12 wx => ∃ b1 b2, s11 = .slice (some ⟨b1, 0, none⟩) n n ∧ s12 = .slice (some ⟨b2, 0, none⟩) n n ∧ Hid (wE.heap.size ≤ b1 ∧ wE.heap.size ≤ b2 ∧ b1 ≠ b2) ∧ Hid (FarM wx b1 (fillL n 0)) ∧ Hid (FarM wx b2 (fillL n 0)) ∧ Hid (Below wE.heap.size wE wx))
      case first =>
        refine wp_region_tr [0, 2] (.two 1 3 (.two 3 4 (.one 4 (.one 5 .nil)) (.one 3 (.one 5 .nil))) (.one 1 (.one 4 (.one 5 .nil)))) (by kernel_rfl) (by kernel_rfl) ?_
        iterate 2 (apply first_step; (rw [List.getElem?_toArray]; (repeat rw [List.getElem?_cons_succ]); rw [List.getElem?_cons_zero]); rfl; (intro W _; go_simp; (first | done | rfl)); go_frame)
        refine first_done ?_
        refine tr_two ?_ ?_
        · refine tr_step (by (rw [List.getElem?_toArray]; (repeat rw [List.getElem?_cons_succ]); rw [List.getElem?_cons_zero])) rfl fun K' hK => ?_
          go_simp
          refine hK _ _ ?_
          clear hK K'
          refine tr_two ?_ ?_
          · refine tr_step (by (rw [List.getElem?_toArray]; (repeat rw [List.getElem?_cons_succ]); rw [List.getElem?_cons_zero])) rfl fun K' hK => ?_
            go_simp
            refine hK _ _ ?_
            clear hK K'
            refine tr_step (by (rw [List.getElem?_toArray]; (repeat rw [List.getElem?_cons_succ]); rw [List.getElem?_cons_zero])) rfl fun K' hK => ?_
            go_simp
            refine hK _ _ ?_
            clear hK K'
            refine tr_step (by (rw [List.getElem?_toArray]; (repeat rw [List.getElem?_cons_succ]); rw [List.getElem?_cons_zero])) rfl fun K' hK => ?_
            go_simp
            refine hK _ _ ?_
            clear hK K'
            refine tr_done ?_
            refine abs_exit ?_
            intro W6 hW6
            have F1 : Hid (FarM W6 wE.heap.size (fillL n 0)) := by
              unfold Hid FarM
              rw [hW6, fillL_zero, List.map_replicate, ← List.toArray_replicate]
              exact heap_alloc_old (heap_alloc_new wE _) _
            have F2 : Hid (FarM W6 (wE.heap.size + 1) (fillL n 0)) := by
              unfold Hid FarM
              rw [hW6, fillL_zero, List.map_replicate, ← List.toArray_replicate]
              exact heap_alloc_at (by simp) _
            have B6 : Hid (Below wE.heap.size wE W6) := by
              rw [hW6]
              exact (((below_alloc wE _ _ (Nat.le_refl _)).alloc (by simp) _)).drew
            clear hW6
            go_wp2_with fail
            go_meet
            exact ⟨_, _, rfl, rfl, ⟨Nat.le_refl _, by omega, by omega⟩, F1, F2, B6⟩
          · refine tr_step (by (rw [List.getElem?_toArray]; (repeat rw [List.getElem?_cons_succ]); rw [List.getElem?_cons_zero])) rfl fun K' hK => ?_
            go_simp
            refine hK _ _ ?_
            clear hK K'
            refine tr_step (by (rw [List.getElem?_toArray]; (repeat rw [List.getElem?_cons_succ]); rw [List.getElem?_cons_zero])) rfl fun K' hK => ?_
            go_simp
            refine hK _ _ ?_
            clear hK K'
            refine tr_step (by (rw [List.getElem?_toArray]; (repeat rw [List.getElem?_cons_succ]); rw [List.getElem?_cons_zero])) rfl fun K' hK => ?_
            go_simp
            refine hK _ _ ?_
            clear hK K'
            refine tr_done ?_
            refine abs_exit ?_
            intro W6 hW6
            have F1 : Hid (FarM W6 wE.heap.size (fillL n 0)) := by
              unfold Hid FarM
              rw [hW6, fillL_zero, List.map_replicate, ← List.toArray_replicate]
              exact heap_alloc_old (heap_alloc_new wE _) _
            have F2 : Hid (FarM W6 (wE.heap.size + 1) (fillL n 0)) := by
              unfold Hid FarM
              rw [hW6, fillL_zero, List.map_replicate, ← List.toArray_replicate]
              exact heap_alloc_at (by simp) _
            have B6 : Hid (Below wE.heap.size wE W6) := by
              rw [hW6]
              exact (((below_alloc wE _ _ (Nat.le_refl _)).alloc (by simp) _)).drew
            clear hW6
            go_wp2_with fail
            go_meet
            exact ⟨_, _, rfl, rfl, ⟨Nat.le_refl _, by omega, by omega⟩, F1, F2, B6⟩
        · refine tr_step (by (rw [List.getElem?_toArray]; (repeat rw [List.getElem?_cons_succ]); rw [List.getElem?_cons_zero])) rfl fun K' hK => ?_
          go_simp
          refine hK _ _ ?_
          clear hK K'
          refine tr_step (by (rw [List.getElem?_toArray]; (repeat rw [List.getElem?_cons_succ]); rw [List.getElem?_cons_zero])) rfl fun K' hK => ?_
          go_simp
          refine hK _ _ ?_
          clear hK K'
          refine tr_step (by (rw [List.getElem?_toArray]; (repeat rw [List.getElem?_cons_succ]); rw [List.getElem?_cons_zero])) rfl fun K' hK => ?_
          go_simp
          refine hK _ _ ?_
          clear hK K'
          refine tr_step (by (rw [List.getElem?_toArray]; (repeat rw [List.getElem?_cons_succ]); rw [List.getElem?_cons_zero])) rfl fun K' hK => ?_
          go_simp
          refine hK _ _ ?_
          clear hK K'
          refine tr_done ?_
          refine abs_exit ?_
          intro W6 hW6
          have F1 : Hid (FarM W6 wE.heap.size (fillL n 0)) := by
            unfold Hid FarM
            rw [hW6, fillL_zero, List.map_replicate, ← List.toArray_replicate]
            exact heap_alloc_old (heap_alloc_new wE _) _
          have F2 : Hid (FarM W6 (wE.heap.size + 1) (fillL n 0)) := by
            unfold Hid FarM
            rw [hW6, fillL_zero, List.map_replicate, ← List.toArray_replicate]
            exact heap_alloc_at (by simp) _
          have B6 : Hid (Below wE.heap.size wE W6) := by
            rw [hW6]
            exact (((below_alloc wE _ _ (Nat.le_refl _)).alloc (by simp) _)).drew
          clear hW6
          go_wp2_with fail
          go_meet
          exact ⟨_, _, rfl, rfl, ⟨by omega, Nat.le_refl _, by omega⟩, F2, F1, B6⟩
      case rest =>
      obtain ⟨b1, b2, rfl, rfl, HBB, HF1, HF2, HB6⟩ := hcut
      obtain ⟨H, hH⟩ : ∃ H, wE.heap.size = H := ⟨_, rfl⟩
      have HH := Lib.hid hH
      rw [hH] at HBB HB6
      obtain ⟨hb1, hb2, hne⟩ := HBB.out
      have hne2 : b2 ≠ b1 := Ne.symm hne
      clear hH HBB MK
      go_wp2_with fail
      go_loopg [89] n (fun g s89 wr => ∃ (k : Nat), s89 = .int .i64 (k : Int) ∧ g = n - k ∧ k ≤ n ∧ Hid (FarM wr b1 (fillL n k)) ∧ Hid (FarM wr b2 (fillL n k)) ∧ Hid (Below H wE wr))
      case atStart => exact ⟨0, rfl, rfl, Nat.zero_le _, HF1, HF2, HB6⟩
      case round =>
        clear HF1 HF2 HB6
        obtain ⟨k, rfl, rfl, hk, HF1, HF2, HB6⟩ := hrel
        by_cases hlt : k < n
        · have c1 := HF1.out.at (fillL_at hlt hk)
          have c2 := HF2.out.at (fillL_at hlt hk)
          have y1 := frozen_of_heap HF1.out k
          have y2 := frozen_of_heap HF2.out k
          have z1 := lt_of_heap HF1.out
          have z2 := lt_of_heap HF2.out
          have j1 : (0 : Int) ≤ (k : Int) := by omega
          have j2 : (k : Int) < (n : Int) := by omega
          have HF3 : Hid (FarM ((wr.setCell ⟨b1, k, none⟩ (.int .i64 (-1))).setCell ⟨b2, k, none⟩ (.int .i64 (-1))) b1 (fillL n (k + 1))) := by
            rw [← fillL_succ hlt]
            exact (HF1.out.put k (-1)).other _ hne
          have HF4 : Hid (FarM ((wr.setCell ⟨b1, k, none⟩ (.int .i64 (-1))).setCell ⟨b2, k, none⟩ (.int .i64 (-1))) b2 (fillL n (k + 1))) := by
            rw [← fillL_succ hlt]
            exact (HF2.out.other _ hne2).put k (-1)
          have HB7 : Hid (Below H wE ((wr.setCell ⟨b1, k, none⟩ (.int .i64 (-1))).setCell ⟨b2, k, none⟩ (.int .i64 (-1)))) := (HB6.out.setCell (p := ⟨b1, k, none⟩) hb1 _).setCell (p := ⟨b2, k, none⟩) hb2 _
          clear HF1 HF2 HB6
          go_wp2_with fail
          clear c1 c2 y1 y2 z1 z2
          go_roundg (n - (k + 1))
          case measure => omega
          case rel => exact ⟨k + 1, by go_num, rfl, by omega, HF3, HF4, HB7⟩
        · have HF3 : Hid (FarM wr b1 (rowI n fun _ => -1)) := by
            have h1 := HF1.out
            rw [show k = n by omega, fillL_all, ← rowI_const] at h1
            exact h1
          have HF4 : Hid (FarM wr b2 (rowI n fun _ => -1)) := by
            have h1 := HF2.out
            rw [show k = n by omega, fillL_all, ← rowI_const] at h1
            exact h1
          have HGE : Hid (GrE K2 wr G n E) := HG.out.below (by rw [HH.out]; exact HB6.out)
          have C8 := parts_E HOK.out (by omega) HGE.out
          rw [HP.out] at C8
          have C8 := Lib.hid C8
          clear HF1 HF2
          go_wp2_with fail
          refine C8.out.mono ?_
          rintro e w8 ⟨v8, vs8, L, rfl, hV8, hL8, hb8⟩
          have HPL := Lib.hid (hL8.pl (tos_ok HOK.out))
          have HF5 : Hid (FarM w8 b1 (rowI n (ptF L 0 0))) := by
            rw [rowI_congr (f := ptF L 0 0) (g := fun _ => -1) fun y _ => ptF_start L y]
            exact HF3.out.keep (hb8.block b1 (lt_of_heap HF3.out))
          have HF6 : Hid (FarM w8 b2 (rowI n fun _ => -1)) := HF4.out.keep (hb8.block b2 (lt_of_heap HF4.out))
          have HB8 : Hid (Below H wE w8) := HB6.out.trans (hb8.mono (by have := lt_of_heap HF3.out; omega))
          have hbR : b1 < wr.heap.size := lt_of_heap HF3.out
          obtain ⟨R, hR⟩ : ∃ R, wr.heap.size = R := ⟨_, rfl⟩
          rw [hR] at hV8 hbR
          have hqm := own_max hV8.row
          obtain ⟨a8, c8, e, _⟩ := hV8.slice
          subst e
          have HV8 := Lib.hid hV8
          obtain ⟨q, hq⟩ : ∃ q, L.length = q := ⟨_, rfl⟩
          have HQ := Lib.hid hq
          rw [hq] at hqm HV8 ⊢
          unfold maxLen at hqm
          clear hV8 hL8 hb8 C8 hq hR HF3 HF4 HB6 HGE
          go_wp2_with fail
          go_loopg [102] q (fun g s102 wr => ∃ (i : Nat), s102 = .int .i64 (i : Int) ∧ g = q - i ∧ i ≤ q ∧ Hid (FarM wr b1 (rowI n (ptF L i 0))) ∧ Hid (FarM wr b2 (rowI n fun _ => -1)) ∧ Hid (RR R wr (.slice a8 q c8) vs8 L) ∧ Hid (Below H wE wr))
          case atStart => exact ⟨0, rfl, rfl, Nat.zero_le _, HF5, HF6, HV8, HB8⟩
          case round =>
            clear HF5 HF6 HV8 HB8
            obtain ⟨i, rfl, rfl, hi, HF1, HF2, HV, HB6⟩ := hrel
            by_cases hlt2 : i < q
            · obtain ⟨row, hrow⟩ : ∃ row, L[i]? = some row := ⟨_, List.getElem?_eq_getElem (by rw [HQ.out]; exact hlt2)⟩
              obtain ⟨a9, c9, e, _, hr⟩ := HV.out.slice
              injection e with e e3 e4
              clear e3 e4
              subst e
              obtain ⟨g8, rfl, z8, ra, rc, _, cr, hI9⟩ := hr i row hrow
              obtain ⟨q9, hq9⟩ : ∃ q, row.length = q := ⟨_, rfl⟩
              have hmax9 : q9 ≤ maxLen := by rw [← hq9]; exact own_max hI9
              have HI9 := Lib.hid hI9
              have HQ9 := Lib.hid hq9
              have HROW := Lib.hid hrow
              have HF0 : Hid (FarM wr b1 (rowI n (ptF L i 0))) := HF1
              rw [hq9] at HI9 cr
              unfold maxLen at hmax9
              have i1 : (0 : Int) ≤ (i : Int) := by omega
              have i2 : (i : Int) < (q : Int) := by omega
              clear hr hI9 hq9 hrow HF1
              go_wp2_with fail
              clear cr z8
              go_loopg [109] q9 (fun g s109 wr => ∃ (j : Nat), s109 = .int .i64 (j : Int) ∧ g = q9 - j ∧ j ≤ q9 ∧ Hid (FarM wr b1 (rowI n (ptF L i j))) ∧ Hid (FarM wr b2 (rowI n fun _ => -1)) ∧ Hid (RR R wr (.slice (some ⟨g8, 0, none⟩) q c8) vs8 L) ∧ Hid (IR R wr (.slice ra q9 rc) row) ∧ Hid (Below H wE wr))
              case atStart => exact ⟨0, rfl, rfl, Nat.zero_le _, HF0, HF2, HV, HI9, HB6⟩
              case round =>
                clear HF0 HF2 HV HI9 HB6
                obtain ⟨j, rfl, rfl, hj, HF1, HF2, HV, HI9, HB6⟩ := hrel
                by_cases hlt3 : j < q9
                · obtain ⟨x, hx⟩ : ∃ x, row[j]? = some x := ⟨_, List.getElem?_eq_getElem (by rw [HQ9.out]; exact hlt3)⟩
                  obtain ⟨xn, x1, x2, x3⟩ := ptF_take HPL.out HROW.out hx
                  obtain ⟨g9, rfl, z9, cx⟩ := HI9.out.at hx
                  have c1 := HF1.out.at (rowI_at _ xn)
                  rw [x1] at c1
                  have y1 := frozen_of_heap HF1.out x
                  have z1 := lt_of_heap HF1.out
                  have i3 : (0 : Int) ≤ (j : Int) := by omega
                  have i4 : (j : Int) < (q9 : Int) := by omega
                  have i5 : (0 : Int) ≤ (x : Int) := by omega
                  have i6 : (x : Int) < (n : Int) := by omega
                  have d1 : decide ((x : Int) < 0) = false := by simp
                  have d2 : decide ((n : Int) ≤ (x : Int)) = false := by simp; omega
                  have HF3 : Hid (FarM (wr.setCell ⟨b1, x, none⟩ (.int .i64 (i : Int))) b1 (rowI n (ptF L i (j + 1)))) := by
                    rw [← rowI_set (f := ptF L i j) xn fun y _ hy => x3 y hy, x2]
                    exact HF1.out.put x _
                  have HF4 : Hid (FarM (wr.setCell ⟨b1, x, none⟩ (.int .i64 (i : Int))) b2 (rowI n fun _ => -1)) := HF2.out.other _ hne2
                  have hoth : ∀ k, R ≤ k → (wr.setCell ⟨b1, x, none⟩ (.int .i64 (i : Int))).heap[k]? = wr.heap[k]? := fun k hk => set_other k (by show k ≠ b1; omega)
                  have HV2 : Hid (RR R (wr.setCell ⟨b1, x, none⟩ (.int .i64 (i : Int))) (.slice (some ⟨g8, 0, none⟩) q c8) vs8 L) := HV.out.block (fun k e _ => hoth k (HV.out.row.lt k e).1) fun _ u k e1 e2 _ => hoth k (HV.out.lt' e1 k e2).1
                  have HI2 : Hid (IR R (wr.setCell ⟨b1, x, none⟩ (.int .i64 (i : Int))) (.slice (some ⟨g9, 0, none⟩) q9 rc) row) := HI9.out.block fun k e _ => hoth k (HI9.out.lt k e).1
                  have HB7 : Hid (Below H wE (wr.setCell ⟨b1, x, none⟩ (.int .i64 (i : Int)))) := HB6.out.setCell (p := ⟨b1, x, none⟩) hb1 _
                  clear HF1 HF2 HV HI9 HB6 hx x1 x2 x3 hoth
                  go_wp2_with fail
                  clear c1 y1 z1 cx z9
                  go_roundg (q9 - (j + 1))
                  case measure => omega
                  case rel => exact ⟨j + 1, by go_num, rfl, by omega, HF3, HF4, HV2, HI2, HB7⟩
                · have HF3 : Hid (FarM wr b1 (rowI n (ptF L (i + 1) 0))) := by
                    have h1 := HF1.out
                    rw [show j = row.length by rw [HQ9.out]; omega, rowI_congr fun y hy => ptF_next HPL.out HROW.out hy] at h1
                    exact h1
                  clear HF1
                  go_wp2_with fail
                  go_roundg (q - (i + 1))
                  case measure => omega
                  case rel => exact ⟨i + 1, by go_num, rfl, by omega, HF3, HF2, HV, HB6⟩
            · have HF3 : Hid (FarM wr b1 (rowI n fun y => (ofL L y : Int))) := by
                have h1 := HF1.out
                rw [show i = L.length by rw [HQ.out]; omega, rowI_congr fun y hy => ptF_end HPL.out hy] at h1
                exact h1
              have HGE : Hid (GrE K2 wr G n E) := HG.out.below (by rw [HH.out]; exact HB6.out)
              have C10 := order_E HOK.out (by omega) HEL.out HGE.out
              rw [HP.out] at C10
              have C10 := Lib.hid C10
              clear HF1 HV
              go_wp2_with fail
              refine C10.out.mono ?_
              rintro e w10 ⟨v10, L10, O, rfl, hL10, hO, hI10, hb10⟩
              have hLL : L10 = L := (hL10.pl (tos_ok HOK.out)).only HPL.out
              have hlenF := order_len (tos_ok HOK.out) hL10 hO
              subst hLL
              obtain ⟨F, hF⟩ : ∃ F, (O.flatMap fun i => L10.getD i []) = F := ⟨_, rfl⟩
              have HPLC : Hid (∀ a b : Nat, (a, b) ∈ E → ofL L10 a ≠ ofL L10 b → ∀ i j : Nat, F[i]? = some a → F[j]? = some b → j < i) := fun a b hab hne i j hi hj => by
                rw [← hF] at hi hj
                exact order_place HPL.out hO (HOK.out.lt _ hab).1 (HOK.out.lt _ hab).2 ((mem_tos HOK.out).2 hab) hne hi hj
              have HFN : Hid (F.Nodup ∧ ∀ y ∈ F, y < n) := by
                rw [← hF]
                exact flat_nodup HPL.out.scc O hO.nod fun i hi => (hO.all i).1 hi
              have HFA : Hid (∀ y, y < n → y ∈ F) := fun y hy => by
                obtain ⟨r, r1, r2⟩ := HPL.out.scc.of_at hy
                rw [← hF]
                exact List.mem_flatMap.2 ⟨ofL L10 y, (hO.all _).2 (HPL.out.scc.of_lt hy), by rw [List.getD_eq_getElem?_getD, r1]; exact r2⟩
              rw [hF] at hlenF hI10
              have HFL := Lib.hid hlenF
              have HF5 : Hid (FarM w10 b1 (rowI n fun y => (ofL L10 y : Int))) := HF3.out.keep (hb10.block b1 (lt_of_heap HF3.out))
              have HF6 : Hid (FarM w10 b2 (rowI n (plF F 0))) := by
                rw [rowI_congr (f := plF F 0) (g := fun _ => -1) fun y _ => plF_start F y]
                exact HF2.out.keep (hb10.block b2 (lt_of_heap HF2.out))
              have HB10 : Hid (Below H wE w10) := HB6.out.trans (hb10.mono (by have := lt_of_heap HF3.out; omega))
              have hbR2 : b2 < wr.heap.size := lt_of_heap HF2.out
              obtain ⟨R9, hR9⟩ : ∃ R, wr.heap.size = R := ⟨_, rfl⟩
              rw [hR9] at hI10 hbR2
              obtain ⟨a10, c10, e⟩ := hI10.shape
              subst e
              have HI10 := Lib.hid hI10
              rw [hlenF] at HI10 ⊢
              clear hI10 hL10 hO hF hb10 C10 hR9 HF3 HF2 HB6 HGE hlenF
              go_wp2_with fail
              go_loopg [136] n (fun g s136 wr => ∃ (k : Nat), s136 = .int .i64 (k : Int) ∧ g = n - k ∧ k ≤ n ∧ Hid (FarM wr b1 (rowI n fun y => (ofL L10 y : Int))) ∧ Hid (FarM wr b2 (rowI n (plF F k))) ∧ Hid (IR R9 wr (.slice a10 n c10) F) ∧ Hid (Below H wE wr))
              case atStart => exact ⟨0, rfl, rfl, Nat.zero_le _, HF5, HF6, HI10, HB10⟩
              case round =>
                clear HF5 HF6 HI10 HB10
                obtain ⟨k, rfl, rfl, hk, HF1, HF2, HI10, HB6⟩ := hrel
                by_cases hlt4 : k < n
                · obtain ⟨x, hx⟩ : ∃ x, F[k]? = some x := ⟨_, List.getElem?_eq_getElem (by rw [HFL.out]; exact hlt4)⟩
                  have xn := HFN.out.2 x (List.mem_of_getElem? hx)
                  obtain ⟨x1, x2, x3⟩ := plF_take HFN.out.1 hx
                  obtain ⟨g9, rfl, z9, cx⟩ := HI10.out.at hx
                  have c1 := HF2.out.at (rowI_at _ xn)
                  rw [x1] at c1
                  have y1 := frozen_of_heap HF2.out x
                  have z1 := lt_of_heap HF2.out
                  have i3 : (0 : Int) ≤ (k : Int) := by omega
                  have i4 : (k : Int) < (n : Int) := by omega
                  have i5 : (0 : Int) ≤ (x : Int) := by omega
                  have i6 : (x : Int) < (n : Int) := by omega
                  have d1 : decide ((x : Int) < 0) = false := by simp
                  have d2 : decide ((n : Int) ≤ (x : Int)) = false := by simp; omega
                  have HF4 : Hid (FarM (wr.setCell ⟨b2, x, none⟩ (.int .i64 (k : Int))) b2 (rowI n (plF F (k + 1)))) := by
                    rw [← rowI_set (f := plF F k) xn fun y _ hy => x3 y hy, x2]
                    exact HF2.out.put x _
                  have HF3 : Hid (FarM (wr.setCell ⟨b2, x, none⟩ (.int .i64 (k : Int))) b1 (rowI n fun y => (ofL L10 y : Int))) := HF1.out.other _ hne
                  have HI2 : Hid (IR R9 (wr.setCell ⟨b2, x, none⟩ (.int .i64 (k : Int))) (.slice (some ⟨g9, 0, none⟩) n c10) F) := HI10.out.block fun j e _ => set_other j (by show j ≠ b2; have := (HI10.out.lt j e).1; omega)
                  have HB7 : Hid (Below H wE (wr.setCell ⟨b2, x, none⟩ (.int .i64 (k : Int)))) := HB6.out.setCell (p := ⟨b2, x, none⟩) hb2 _
                  clear HF1 HF2 HI10 HB6 hx x1 x2 x3
                  go_wp2_with fail
                  clear c1 y1 z1 cx z9
                  go_roundg (n - (k + 1))
                  case measure => omega
                  case rel => exact ⟨k + 1, by go_num, rfl, by omega, HF3, HF4, HI2, HB7⟩
                · have HF3 : Hid (FarM wr b2 (rowI n fun y => (F.idxOf y : Int))) := by
                    have h1 := HF2.out
                    rw [show k = F.length by rw [HFL.out]; omega, rowI_congr fun y hy => plF_end (HFA.out y hy)] at h1
                    exact h1
                  have MK4 := mk4 n (by omega)
                  clear HF2 HI10
                  go_upto_region 42 with fail
                  obtain ⟨b3, hb3⟩ : ∃ b3, wr.heap.size = b3 := ⟨_, rfl⟩
                  refine abs_world ?_
                  intro W11 hW11
                  have hw11 : Below wr.heap.size wr W11 := by
                    rw [hW11]
                    exact below_alloc wr _ _ (Nat.le_refl _)
                  have HR3 : Hid (BoolM W11 b3 (rgL n L10 [])) := by
                    unfold Hid BoolM
                    rw [hW11, ← hb3, rgL_nil, List.map_replicate, ← List.toArray_replicate]
                    exact heap_alloc_new wr _
                  have HF5 : Hid (FarM W11 b1 (rowI n fun y => (ofL L10 y : Int))) := HF1.out.keep (hw11.block _ (lt_of_heap HF1.out))
                  have HF6 : Hid (FarM W11 b2 (rowI n fun y => (F.idxOf y : Int))) := HF3.out.keep (hw11.block _ (lt_of_heap HF3.out))
                  have HB11 : Hid (Below H wE W11) := HB6.out.trans (hw11.mono (by have := lt_of_heap HF3.out; omega))
                  have hn3 : b1 < b3 ∧ b2 < b3 := by rw [← hb3]; exact ⟨lt_of_heap HF1.out, lt_of_heap HF3.out⟩
                  have HS11 : Hid (SetQ W11 mb E) := HS.out.keep (HB11.out.block mb (by rw [← HH.out]; exact HS.out.lt))
                  have hmbH : mb < H := by rw [← HH.out]; exact HS.out.lt
                  obtain ⟨es, ck, hes, hbo, hk1, hk2⟩ := HS11.out.rng
                  have HES := Lib.hid hes
                  have HBO := Lib.hid hbo
                  have HK1 := Lib.hid hk1
                  have HK2 := Lib.hid hk2
                  rw [hb3]
                  clear hW11 hw11 hes hbo hk1 hk2 HF1 HF3 HB6 MK4 hb3
                  go_wp2_with (refine wpList_range_s rfl (.tmp 162) 36 37 4 rfl Try.underlying36 mb es ck rfl HES.out ?_; intro hrg)
                  go_frame
                  obtain ⟨r, hr⟩ : ∃ r, r = W11.heap.size := ⟨_, rfl⟩
                  have hba := below_alloc W11 (.mapIter (some mb) ck #[] ck) W11.heap.size (Nat.le_refl _)
                  have hr3 : b3 < r := by rw [hr]; exact lt_of_heap HR3.out
                  have HR4 : Hid (BoolM (W11.alloc (.mapIter (some mb) ck #[] ck)) b3 (rgL n L10 [])) := HR3.out.keep (hba.block _ (lt_of_heap HR3.out))
                  have HF7 : Hid (FarM (W11.alloc (.mapIter (some mb) ck #[] ck)) b1 (rowI n fun y => (ofL L10 y : Int))) := HF5.out.keep (hba.block _ (lt_of_heap HF5.out))
                  have HF8 : Hid (FarM (W11.alloc (.mapIter (some mb) ck #[] ck)) b2 (rowI n fun y => (F.idxOf y : Int))) := HF6.out.keep (hba.block _ (lt_of_heap HF6.out))
                  have HB12 : Hid (Below H wE (W11.alloc (.mapIter (some mb) ck #[] ck))) := HB11.out.trans (hba.mono (by have := lt_of_heap HF5.out; omega))
                  have HRG : Hid (RangeS (W11.alloc (.mapIter (some mb) ck #[] ck)) mb r es ck #[]) := by rw [hr]; exact hrg
                  rw [← hr]
                  clear hrg hr hba HR3 HF5 HF6 HB11 HS11
                  generalize W11.alloc (.mapIter (some mb) ck #[] ck) = W12 at HR4 HF7 HF8 HB12 HRG ⊢
                  go_loopg [] (leftOf es #[]).size (fun gh wr => ∃ (seen : Array Nat) (D : List (Nat × Nat)), gh = (leftOf es seen).size ∧ Hid (RangeS wr mb r es ck seen) ∧ Hid ((∀ q ∈ D, q ∈ E) ∧ ∀ e ∈ es.toList, seen.contains e.born = true → ∃ q ∈ D, e.key = encP (kE q)) ∧ Hid (FarM wr b1 (rowI n fun y => (ofL L10 y : Int))) ∧ Hid (FarM wr b2 (rowI n fun y => (F.idxOf y : Int))) ∧ Hid (BoolM wr b3 (rgL n L10 D)) ∧ Hid (Below H wE wr))
                  case atStart => exact ⟨#[], [], rfl, HRG, ⟨fun q hq => (by cases hq), fun e _ h => (by simp at h)⟩, HF7, HF8, HR4, HB12⟩
                  case round =>
                    clear HRG HF7 HF8 HR4 HB12
                    obtain ⟨seen, D, rfl, HRG, HD, HF1, HF2, HR3, HB6⟩ := hrel
                    go_wp2_with (refine wpList_next_s rfl (.tmp 163) rfl mb r ck es seen rfl HRG.out HBO.out (by omega) ?_ ?_)
                    · intro hall
                      have HRE : Hid (BoolM wr b3 (rgL n L10 E)) := by
                        have h1 := HR3.out
                        rw [rgL_congr (D' := E) fun y => ?_] at h1
                        · exact h1
                        · constructor
                          · rintro ⟨q, hq, h2⟩
                            exact ⟨q, HD.out.1 q hq, h2⟩
                          · rintro ⟨q, hq, h2⟩
                            obtain ⟨e, he, hek⟩ := HK2.out q hq
                            obtain ⟨q', hq', hek'⟩ := HD.out.2 e he (by simpa using hall e (by simpa using he))
                            have : q = q' := kE_inj (encP_inj (hek.symm.trans hek'))
                            exact ⟨q, by rw [this]; exact hq', h2⟩
                      have HGE : Hid (GrE K2 wr G n E) := HG.out.below (by rw [HH.out]; exact HB6.out)
                      have HSE : Hid (SetQ wr mb E) := HS.out.keep (HB6.out.block mb hmbH)
                      have HBN : Hid (Below w.heap.size w wr) := HB.out.trans (HB6.out.mono (by rw [← HH.out]; exact HB.out.size))
                      have hz1 := lt_of_heap HF1.out
                      have hz2 := lt_of_heap HF2.out
                      have hz3 := lt_of_heap HRE.out
                      have hzm : mb < wr.heap.size := HSE.out.lt
                      clear hall HRG HD HR3 HB6 HES HBO HK1 HK2
                      go_wp2_with fail
                      rename World => wN
                      go_loopg [197] n (fun g s197 wr => ∃ (x : Nat), s197 = .int .i64 (x : Int) ∧ g = n - x ∧ x ≤ n ∧ Hid (Below wN.heap.size wN wr))
                      case atStart => exact ⟨0, rfl, rfl, Nat.zero_le _, Below.refl _ _⟩
                      case round =>
                        obtain ⟨x, rfl, rfl, hx, HB6⟩ := hrel
                        by_cases hxn : x < n
                        · have j1 : (0 : Int) ≤ (x : Int) := by omega
                          have j2 : (x : Int) < (n : Int) := by omega
                          have C15 := round_E HOK.out (by omega) hxn (HGE.out.below HB6.out)
                          rw [HP.out] at C15
                          have C15 := Lib.hid C15
                          go_wp2_with fail
                          refine C15.out.mono ?_
                          rintro e w15 ⟨v15, rg, f15, rfl, hI15, hD15, hR15, hb15⟩
                          have HB7 : Hid (Below wN.heap.size wN w15) := HB6.out.trans (hb15.mono HB6.out.size)
                          have HRING : Hid (∀ i y : Nat, rg[i]? = some y → ∃ z, rg[(i + 1) % rg.length]? = some z ∧ (y, z) ∈ E ∧ ofL L10 y = ofL L10 x ∧ y < n ∧ z < n) := fun i y hy => hR15.ring HOK.out HPL.out hxn hD15 hy
                          have HHD := Lib.hid hR15.hd0
                          have hiff := ring_iff HOK.out HPL.out hxn hD15 hR15
                          have hle := hR15.le hD15 hxn
                          obtain ⟨a15, c15, e⟩ := hI15.shape
                          subst e
                          have HI15 := Lib.hid hI15
                          have hs15 := HB7.out.size
                          have c1 : w15.cell? ⟨b1, x, none⟩ = some (.int .i64 (ofL L10 x : Int)) := (HB7.out.cell (p := ⟨b1, x, none⟩) hz1).trans (HF1.out.at (rowI_at _ hxn))
                          have c2 : w15.cell? ⟨b2, x, none⟩ = some (.int .i64 (F.idxOf x : Int)) := (HB7.out.cell (p := ⟨b2, x, none⟩) hz2).trans (HF2.out.at (rowI_at _ hxn))
                          have z1 := Nat.lt_of_lt_of_le hz1 hs15
                          have z2 := Nat.lt_of_lt_of_le hz2 hs15
                          have z3 := Nat.lt_of_lt_of_le hz3 hs15
                          have d1 : decide ((ofL L10 x : Int) < 0) = false := by simp
                          have d2 : decide ((F.idxOf x : Int) < 0) = false := by simp
                          obtain ⟨tr, htr, htr2⟩ : ∃ tr, (rgL n L10 E)[x]? = some tr ∧ (tr = true ↔ InRing L10 E x) := rgL_get hxn
                          have c3 : w15.cell? ⟨b3, x, none⟩ = some (.bool tr) := (HB7.out.cell (p := ⟨b3, x, none⟩) hz3).trans (HRE.out.at htr)
                          obtain ⟨q15, hq15⟩ : ∃ q, rg.length = q := ⟨_, rfl⟩
                          have HQ15 := Lib.hid hq15
                          rw [hq15] at hiff hle HI15 HHD ⊢
                          clear hI15 hD15 hR15 hb15 hq15 C15 htr HB6 hs15
                          by_cases h0 : 0 < q15
                          · have ht : tr = true := htr2.2 (hiff.1 h0)
                            subst ht
                            have d3 : decide ((0 : Int) < (q15 : Int)) = true := by simp; omega
                            clear hiff htr2
                            go_wp2_with fail
                            clear c1 c2 c3 d1 d2 z2 z3
                            go_loopg [227] q15 (fun g s227 wr => ∃ (i : Nat), s227 = .int .i64 (i : Int) ∧ g = q15 - i ∧ i ≤ q15 ∧ Hid (Below w15.heap.size w15 wr))
                            case atStart => exact ⟨0, rfl, rfl, Nat.zero_le _, Below.refl _ _⟩
                            case round =>
                              obtain ⟨i, rfl, rfl, hi, HB8⟩ := hrel
                              have HB9 : Hid (Below wN.heap.size wN wr) := HB7.out.trans (HB8.out.mono HB7.out.size)
                              have HI := Lib.hid (HI15.out.below HB8.out)
                              by_cases hiq : i < q15
                              · obtain ⟨y, hy⟩ : ∃ y, rg[i]? = some y := ⟨_, List.getElem?_eq_getElem (by rw [HQ15.out]; exact hiq)⟩
                                obtain ⟨z, hz, hyz, hpy, hyn, hzn⟩ := HRING.out i y hy
                                rw [HQ15.out] at hz
                                obtain ⟨zi, hzi⟩ : ∃ zi, (i + 1) % q15 = zi := ⟨_, rfl⟩
                                have hrem : ((i : Int) + 1).tmod (q15 : Int) = (zi : Int) := by
                                  rw [← hzi]
                                  rfl
                                have hzq : zi < q15 := by rw [← hzi]; exact Nat.mod_lt _ (by omega)
                                rw [hzi] at hz
                                obtain ⟨g9, e1, z9, cy⟩ := HI.out.at hy
                                obtain ⟨g10, e2, _, cz⟩ := HI.out.at hz
                                subst e1
                                injection e2 with e2
                                injection e2 with e2 e3 e4
                                clear e3 e4
                                subst e2
                                have c4 : wr.cell? ⟨b1, y, none⟩ = some (.int .i64 (ofL L10 x : Int)) := by
                                  rw [← hpy]
                                  exact (HB9.out.cell (p := ⟨b1, y, none⟩) hz1).trans (HF1.out.at (rowI_at _ hyn))
                                have c5 : wr.cell? ⟨b1, x, none⟩ = some (.int .i64 (ofL L10 x : Int)) := (HB9.out.cell (p := ⟨b1, x, none⟩) hz1).trans (HF1.out.at (rowI_at _ hxn))
                                have z5 : b1 < wr.heap.size := Nat.lt_of_lt_of_le hz1 HB9.out.size
                                have hl1 : ∀ W, Below wr.heap.size wr W → (Instr.lookup 36 (.map (some mb)) (.agg #[.int .i64 (y : Int), .int .i64 (z : Int)]) false).run Try.prog W = .ok (.bool true) W := fun W hW => by
                                  have h := (HSE.out.keep ((HB9.out.trans (hW.mono HB9.out.size)).block mb hzm)).get y z
                                  rw [decide_eq_true hyz] at h
                                  exact h
                                have b7 : ((ofL L10 x : Int) != (ofL L10 x : Int)) = false := by simp
                                have i1 : (0 : Int) ≤ (i : Int) := by omega
                                have i2 : (i : Int) < (q15 : Int) := by omega
                                have i3 : (0 : Int) ≤ (zi : Int) := by omega
                                have i4 : (zi : Int) < (q15 : Int) := by omega
                                have i5 : (0 : Int) ≤ (y : Int) := by omega
                                have i6 : (y : Int) < (n : Int) := by omega
                                clear hy hz hyz hpy hzi
                                go_wp2_with fail
                                refine wp_region_mix [0, 1, 2, 3, 4, 5, 6, 7, 8, 9, 10, 11, 12, 13, 14, 15, 16] [] [] (Below wr.heap.size wr) (by kernel_rfl) (by kernel_rfl) (Below.refl _ _).drew ?_
                                iterate 17 (first | (apply first_step; (rw [List.getElem?_toArray]; (repeat rw [List.getElem?_cons_succ]); rw [List.getElem?_cons_zero]); rfl; (intro W hB; have hc := bcellB hB; go_simp; (first | done | rfl)); go_frame) | (apply first_skip; (rw [List.getElem?_toArray]; (repeat rw [List.getElem?_cons_succ]); rw [List.getElem?_cons_zero]); rfl; go_frame))
                                refine first_done ?_
                                refine tail_done ?_
                                have HB10 : Hid (Below w15.heap.size w15 wr.drew) := HB8.out.drew
                                clear c4 c5 z5 hl1 cy cz z9 hrem HI HB8 HB9
                                go_wp2_with fail
                                go_roundg (q15 - (i + 1))
                                case measure => omega
                                case rel => exact ⟨i + 1, by go_num, rfl, by omega, HB10⟩
                              · obtain ⟨g9, e1, z9, cy⟩ := HI.out.at (HHD.out h0)
                                subst e1
                                have b7 : ((x : Int) != (x : Int)) = false := by simp
                                have i1 : (0 : Int) < (q15 : Int) := by omega
                                clear HI HB8
                                go_wp2_with fail
                                clear cy z9 b7
                                go_roundg (n - (x + 1))
                                case measure => omega
                                case rel => exact ⟨x + 1, by go_num, rfl, by omega, HB9⟩
                          · have ht : tr = false := by
                              cases tr with
                              | true => exact absurd (hiff.2 (htr2.1 rfl)) h0
                              | false => rfl
                            subst ht
                            have hq0 : q15 = 0 := by omega
                            subst hq0
                            clear hiff htr2
                            go_wp2_with fail
                            clear c1 c2 c3 d1 d2
                            go_loopg [227] 0 (fun g s227 wr => s227 = .int .i64 0 ∧ g = 0 ∧ wr = w15)
                            case atStart => exact ⟨rfl, rfl, rfl⟩
                            case round =>
                              obtain ⟨rfl, rfl, rfl⟩ := hrel
                              go_wp2_with fail
                              go_roundg (n - (x + 1))
                              case measure => omega
                              case rel => exact ⟨x + 1, by go_num, rfl, by omega, HB7⟩
                        · go_wp2_with fail
                          refine bodyPost_ret (v := .bool true) (by simp [results, Try.results4, go_sem]) rfl ⟨rfl, HBN.out.trans (HB6.out.mono HBN.out.size)⟩
                    · intro e w13 hem hes3 hrg3 hf3 hlt3 hen
                      have hem : e ∈ es.toList := by simpa using hem
                      obtain ⟨⟨s, d⟩, hq, hkey⟩ := HK1.out e hem
                      have HD2 : Hid ((∀ q ∈ D ++ [(s, d)], q ∈ E) ∧ ∀ e' ∈ es.toList, (seen.push e.born).contains e'.born = true → ∃ q ∈ D ++ [(s, d)], e'.key = encP (kE q)) := by
                        refine ⟨fun q hq' => ?_, fun e' he' h => ?_⟩
                        · rcases List.mem_append.1 hq' with h | h
                          · exact HD.out.1 q h
                          · rw [List.mem_singleton.1 h]
                            exact hq
                        · by_cases hb : e'.born = e.born
                          · have : e' = e := born_inj HBO.out.2 he' hem hb
                            rw [this]
                            exact ⟨(s, d), by simp, hkey⟩
                          · have h2 : seen.contains e'.born = true := by
                              simp only [Array.contains_iff_mem, Array.mem_push] at h ⊢
                              exact h.resolve_right hb
                            obtain ⟨q, hq1, hq2⟩ := HD.out.2 e' he' h2
                            exact ⟨q, List.mem_append_left _ hq1, hq2⟩
                      obtain ⟨key, val, born⟩ := e
                      have hkey : key = .agg #[.int .i64 (s : Int), .int .i64 (d : Int)] := hkey
                      subst hkey
                      obtain ⟨hsn, hdn⟩ := HOK.out.lt _ hq
                      have hsn : s < n := hsn
                      have hdn : d < n := hdn
                      have HQE := Lib.hid hq
                      have hrH : H ≤ r := by omega
                      have HF3 : Hid (FarM w13 b1 (rowI n fun y => (ofL L10 y : Int))) := HF1.out.keep (hf3.block _ (lt_of_heap HF1.out) (by omega))
                      have HF4 : Hid (FarM w13 b2 (rowI n fun y => (F.idxOf y : Int))) := HF2.out.keep (hf3.block _ (lt_of_heap HF2.out) (by omega))
                      have HR5 : Hid (BoolM w13 b3 (rgL n L10 D)) := HR3.out.keep (hf3.block _ (lt_of_heap HR3.out) (by omega))
                      have HB7 : Hid (Below H wE w13) := HB6.out.trans (hf3.below (by have := lt_of_heap HF1.out; omega) fun k hk => by omega)
                      have HRG3 := Lib.hid hrg3
                      have HLT := Lib.hid hlt3
                      clear hem hes3 hrg3 hf3 hlt3 hq HRG HF1 HF2 HR3 HB6 HD
                      go_upto_region 45 with fail
                      refine abs_world ?_
                      intro W14 hW14
                      obtain ⟨B, hBe⟩ : ∃ B, w13.heap.size = B := ⟨_, rfl⟩
                      have hw14 : Below w13.heap.size w13 W14 := by
                        rw [hW14]
                        exact below_alloc w13 _ _ (Nat.le_refl _)
                      have q14 : Hid (W14.heap[B]? = some (.cells #[.int .i64 (s : Int), .int .i64 (d : Int)] 37)) := by
                        rw [hW14, ← hBe]
                        exact heap_alloc_new w13 _
                      have HF5 : Hid (FarM W14 b1 (rowI n fun y => (ofL L10 y : Int))) := HF3.out.keep (hw14.block _ (lt_of_heap HF3.out))
                      have HF6 : Hid (FarM W14 b2 (rowI n fun y => (F.idxOf y : Int))) := HF4.out.keep (hw14.block _ (lt_of_heap HF4.out))
                      have HR6 : Hid (BoolM W14 b3 (rgL n L10 D)) := HR5.out.keep (hw14.block _ (lt_of_heap HR5.out))
                      have HB8 : Hid (Below H wE W14) := HB7.out.trans (hw14.mono (by have := lt_of_heap HF3.out; omega))
                      have HRG4 : Hid (RangeS W14 mb r es ck (seen.push born)) := by
                        obtain ⟨c0, hit, _⟩ := HRG3.out.it
                        exact HRG3.out.keep (hw14.block _ (lt_of_heap HRG3.out.map)) (hw14.block _ (lt_of_heap hit))
                      rw [hBe]
                      clear hW14 hw14 hBe HF3 HF4 HR5 HB7 HRG3 hen
                      have c0 := cell_of_heap q14.out 0
                      have c1 := cell_of_heap q14.out 1
                      have z0 := lt_of_heap q14.out
                      go_wp2_with fail
                      refine wp_region_mix [0, 1, 2, 3, 4, 5] [] [] (Below W14.heap.size W14) (by kernel_rfl) (by kernel_rfl) (Below.refl _ _).drew ?_
                      iterate 6 (first | (apply first_step; (rw [List.getElem?_toArray]; (repeat rw [List.getElem?_cons_succ]); rw [List.getElem?_cons_zero]); rfl; (intro W hB; have hc := bcellB hB; go_simp; (first | done | rfl)); go_frame) | (apply first_skip; (rw [List.getElem?_toArray]; (repeat rw [List.getElem?_cons_succ]); rw [List.getElem?_cons_zero]); rfl; go_frame))
                      refine first_done ?_
                      refine tail_done ?_
                      clear c0 c1 z0 q14
                      refine abs_exit ?_
                      intro W15 hW15
                      have hdr : W15.heap = W14.heap := by rw [hW15]; rfl
                      have HB8' : Hid (Below H wE W15) := by rw [hW15]; exact HB8.out.drew
                      clear hW15 HB8
                      have HF5 := Lib.hid (HF5.out.keep (w' := W15) (by rw [hdr]))
                      have HF6 := Lib.hid (HF6.out.keep (w' := W15) (by rw [hdr]))
                      have HR6 := Lib.hid (HR6.out.keep (w' := W15) (by rw [hdr]))
                      have HRG4 := Lib.hid (HRG4.out.keep (w' := W15) (by rw [hdr]) (by rw [hdr]))
                      have HB8 := HB8'
                      clear hdr HB8'
                      have p1 : W15.cell? ⟨b1, s, none⟩ = some (.int .i64 (ofL L10 s : Int)) := HF5.out.at (rowI_at _ hsn)
                      have p2 : W15.cell? ⟨b1, d, none⟩ = some (.int .i64 (ofL L10 d : Int)) := HF5.out.at (rowI_at _ hdn)
                      have z1 : b1 < W15.heap.size := lt_of_heap HF5.out
                      have i1 : (0 : Int) ≤ (s : Int) := by omega
                      have i2 : (s : Int) < (n : Int) := by omega
                      have i3 : (0 : Int) ≤ (d : Int) := by omega
                      have i4 : (d : Int) < (n : Int) := by omega
                      go_wp2_with fail
                      refine wp_region_mix [0, 1, 2, 3, 4, 5, 6, 7, 8] [] [] (Below W15.heap.size W15) (by kernel_rfl) (by kernel_rfl) (Below.refl _ _).drew ?_
                      iterate 9 (first | (apply first_step; (rw [List.getElem?_toArray]; (repeat rw [List.getElem?_cons_succ]); rw [List.getElem?_cons_zero]); rfl; (intro W hB; have hc := bcellB hB; go_simp; (first | done | rfl)); go_frame) | (apply first_skip; (rw [List.getElem?_toArray]; (repeat rw [List.getElem?_cons_succ]); rw [List.getElem?_cons_zero]); rfl; go_frame))
                      refine first_done ?_
                      refine tail_done ?_
                      refine abs_exit ?_
                      intro W16 hW16
                      clear p1 p2 z1
                      have hdr : W16.heap = W15.heap := by rw [hW16]; rfl
                      have HB8' : Hid (Below H wE W16) := by rw [hW16]; exact HB8.out.drew
                      clear hW16 HB8
                      have HF5 := Lib.hid (HF5.out.keep (w' := W16) (by rw [hdr]))
                      have HF6 := Lib.hid (HF6.out.keep (w' := W16) (by rw [hdr]))
                      have HR6 := Lib.hid (HR6.out.keep (w' := W16) (by rw [hdr]))
                      have HRG4 := Lib.hid (HRG4.out.keep (w' := W16) (by rw [hdr]) (by rw [hdr]))
                      have HB8 := HB8'
                      clear hdr HB8'
                      have z3 := lt_of_heap HR6.out
                      have r1 := HR6.out.at (rgL_at L10 D hsn)
                      have r2 := HR6.out.at (rgL_at L10 D hdn)
                      obtain ⟨t1, ht1⟩ : ∃ t, (rgL n L10 D)[s]? = some t := ⟨_, rgL_at L10 D hsn⟩
                      obtain ⟨t2, ht2⟩ : ∃ t, (rgL n L10 D)[d]? = some t := ⟨_, rgL_at L10 D hdn⟩
                      clear r1 r2
                      by_cases hsame : ofL L10 s = ofL L10 d
                      · have b9 : ((ofL L10 s : Int) == (ofL L10 d : Int)) = true := by simp [hsame]
                        have r1 := HR6.out.at ht1
                        have y1 := frozen_of_heap HR6.out s
                        have y2 := frozen_of_heap HR6.out d
                        have HR7 : Hid (BoolM ((W16.setCell ⟨b3, s, none⟩ (.bool true)).setCell ⟨b3, d, none⟩ (.bool true)) b3 (rgL n L10 (D ++ [(s, d)]))) := by
                          rw [← rgL_same hsame]
                          exact (HR6.out.put s true).put d true
                        have HF7 : Hid (FarM ((W16.setCell ⟨b3, s, none⟩ (.bool true)).setCell ⟨b3, d, none⟩ (.bool true)) b1 (rowI n fun y => (ofL L10 y : Int))) := (HF5.out.other _ (by show b1 ≠ b3; omega)).other _ (by show b1 ≠ b3; omega)
                        have HF8 : Hid (FarM ((W16.setCell ⟨b3, s, none⟩ (.bool true)).setCell ⟨b3, d, none⟩ (.bool true)) b2 (rowI n fun y => (F.idxOf y : Int))) := (HF6.out.other _ (by show b2 ≠ b3; omega)).other _ (by show b2 ≠ b3; omega)
                        have HB9 : Hid (Below H wE ((W16.setCell ⟨b3, s, none⟩ (.bool true)).setCell ⟨b3, d, none⟩ (.bool true))) := (HB8.out.setCell (p := ⟨b3, s, none⟩) (by show H ≤ b3; omega) _).setCell (p := ⟨b3, d, none⟩) (by show H ≤ b3; omega) _
                        have HRG5 : Hid (RangeS ((W16.setCell ⟨b3, s, none⟩ (.bool true)).setCell ⟨b3, d, none⟩ (.bool true)) mb r es ck (seen.push born)) := HRG4.out.keep ((set_other mb (by show mb ≠ b3; omega)).trans (set_other mb (by show mb ≠ b3; omega))) ((set_other r (by show r ≠ b3; omega)).trans (set_other r (by show r ≠ b3; omega)))
                        by_cases hsd : s = d
                        · subst hsd
                          clear HF5 HF6 HR6 HB8 HRG4 ht1 ht2 hsame i3 i4 y2
                          go_wp2_with fail
                          clear r1 y1 z3 b9
                          go_roundg (leftOf es (seen.push born)).size
                          case measure => exact HLT.out
                          case rel => exact ⟨seen.push born, _, rfl, HRG5, HD2, HF7, HF8, HR7, HB9⟩
                        · have r2 := HR6.out.at ht2
                          clear HF5 HF6 HR6 HB8 HRG4 ht1 ht2 hsame
                          go_wp2_with fail
                          clear r1 r2 y1 y2 z3 b9
                          go_roundg (leftOf es (seen.push born)).size
                          case measure => exact HLT.out
                          case rel => exact ⟨seen.push born, _, rfl, HRG5, HD2, HF7, HF8, HR7, HB9⟩
                      · have b9 : ((ofL L10 s : Int) == (ofL L10 d : Int)) = false := by simp; omega
                        have HR7 : Hid (BoolM W16 b3 (rgL n L10 (D ++ [(s, d)]))) := by rw [← rgL_other hsame]; exact HR6
                        have hpl : F.idxOf d < F.idxOf s := HPLC.out s d HQE.out hsame _ _ (idx_get (HFA.out s hsn)) (idx_get (HFA.out d hdn))
                        have b10 : decide ((F.idxOf s : Int) < (F.idxOf d : Int)) = false := by simp; omega
                        have p1 : W16.cell? ⟨b2, s, none⟩ = some (.int .i64 (F.idxOf s : Int)) := HF6.out.at (rowI_at _ hsn)
                        have p2 : W16.cell? ⟨b2, d, none⟩ = some (.int .i64 (F.idxOf d : Int)) := HF6.out.at (rowI_at _ hdn)
                        have z1 : b2 < W16.heap.size := lt_of_heap HF6.out
                        clear HR6 ht1 ht2 z3
                        go_wp2_with fail
                        refine wp_region_mix [0, 1, 2, 3, 4, 5, 6, 7, 8] [] [] (Below W16.heap.size W16) (by kernel_rfl) (by kernel_rfl) (Below.refl _ _).drew ?_
                        iterate 9 (first | (apply first_step; (rw [List.getElem?_toArray]; (repeat rw [List.getElem?_cons_succ]); rw [List.getElem?_cons_zero]); rfl; (intro W hB; have hc := bcellB hB; go_simp; (first | done | rfl)); go_frame) | (apply first_skip; (rw [List.getElem?_toArray]; (repeat rw [List.getElem?_cons_succ]); rw [List.getElem?_cons_zero]); rfl; go_frame))
                        refine first_done ?_
                        refine tail_done ?_
                        refine abs_exit ?_
                        intro W17 hW17
                        clear p1 p2 z1
                        have hdr : W17.heap = W16.heap := by rw [hW17]; rfl
                        have HB8' : Hid (Below H wE W17) := by rw [hW17]; exact HB8.out.drew
                        clear hW17 HB8
                        have HF5 := Lib.hid (HF5.out.keep (w' := W17) (by rw [hdr]))
                        have HF6 := Lib.hid (HF6.out.keep (w' := W17) (by rw [hdr]))
                        have HR7 := Lib.hid (HR7.out.keep (w' := W17) (by rw [hdr]))
                        have HRG4 := Lib.hid (HRG4.out.keep (w' := W17) (by rw [hdr]) (by rw [hdr]))
                        have HB8 := HB8'
                        clear hdr HB8'
                        go_wp2_with fail
                        clear b9 b10
                        go_roundg (leftOf es (seen.push born)).size
                        case measure => exact HLT.out
                        case rel => exact ⟨seen.push born, _, rfl, HRG4, HD2, HF5, HF6, HR7, HB8⟩
end Go.Proofs.Ytcjohhminiedfaa
