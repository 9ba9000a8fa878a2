/- Cycle: New. -/
import Derived.Test.YtcjohhminiedfaaQC21E
namespace Go.Proofs.Ytcjohhminiedfaa
open Go.RowKit
def T14 (i : Nat) : Prop := i = 1 ∨ i = 3 ∨ i = 4 ∨ i = 6
def val14 (n i b : Nat) : Value := if i = 4 then .map (some b) else if i = 6 then .pointer (some ⟨b, 0, none⟩) else .slice (some ⟨b, 0, none⟩) n n
def obj14 (n : Nat) (_ : Array Bool) (v : Nat → Value) (i : Nat) : Obj := if i = 4 then .map #[] 0 else if i = 6 then .cells #[v 1, v 3, v 4] 50 else .cells (List.replicate n (.slice none 0 0)).toArray 31
def D14 (l : Array Bool) : Prop := (l.getD 5 false = true → l.getD 1 false = true ∧ l.getD 3 false = true ∧ l.getD 4 false = true) ∧ (l.getD 6 false = true → l.getD 5 false = true) ∧ (l.getD 7 false = true → l.getD 6 false = true)
theorem D14.set {l : Array Bool} (h : D14 l) {t : Nat} (h5 : t = 5 → l.getD 1 false = true ∧ l.getD 3 false = true ∧ l.getD 4 false = true) (h6 : t = 6 → l.getD 5 false = true) (h7 : t = 7 → l.getD 6 false = true) : D14 (l.setIfInBounds t true) := by
  have m : ∀ i, l.getD i false = true → (l.setIfInBounds t true).getD i false = true := fun i hi => getD_set_true hi
  refine ⟨fun h1 => ?_, fun h1 => ?_, fun h1 => ?_⟩
  · rcases getD_set_of h1 with e | e
    · exact ⟨m _ (h5 e.symm).1, m _ (h5 e.symm).2.1, m _ (h5 e.symm).2.2⟩
    · exact ⟨m _ (h.1 e).1, m _ (h.1 e).2.1, m _ (h.1 e).2.2⟩
  · rcases getD_set_of h1 with e | e
    · exact m _ (h6 e.symm)
    · exact m _ (h.2.1 e)
  · rcases getD_set_of h1 with e | e
    · exact m _ (h7 e.symm)
    · exact m _ (h.2.2 e)
theorem D14.no {l : Array Bool} (h : D14 l) {t : Nat} (ht : t = 1 ∨ t = 3 ∨ t = 4) (hn : l.toList[t]? = some false) : ∀ q, (q = 5 ∨ q = 6 ∨ q = 7) → (l.setIfInBounds t true).getD q false = true → False := by
  have hno : l.getD t false = false := by simp at hn; simp [hn]
  have n5 : l.getD 5 false = true → False := fun h5 => by
    obtain ⟨a1, a3, a4⟩ := h.1 h5
    rcases ht with rfl | rfl | rfl
    · rw [a1] at hno; cases hno
    · rw [a3] at hno; cases hno
    · rw [a4] at hno; cases hno
  intro q hq hl
  rw [getD_set_ne false (by omega)] at hl
  rcases hq with rfl | rfl | rfl
  · exact n5 hl
  · exact n5 (h.2.1 hl)
  · exact n5 (h.2.1 (h.2.2 hl))
theorem obj14_alloc {n : Nat} {l : Array Bool} {v : Nat → Value} (h : D14 l) {t : Nat} (ht : t = 1 ∨ t = 3 ∨ t = 4) (hn : l.toList[t]? = some false) (x : Value) : ∀ i, i ≠ t → T14 i → l.getD i false = true → obj14 n (l.setIfInBounds t true) (fun i => if i = t then x else v i) i = obj14 n l v i := by
  intro i _ _ hl
  unfold obj14
  by_cases h4 : i = 4
  · rw [if_pos h4, if_pos h4]
  · rw [if_neg h4, if_neg h4]
    by_cases h6 : i = 6
    · subst h6
      exact (h.no ht hn 6 (.inr (.inl rfl)) (getD_set_true hl)).elim
    · rw [if_neg h6, if_neg h6]
section
variable {T : Nat → Prop} {val : Nat → Nat → Value} {obj : Array Bool → (Nat → Value) → Nat → Obj} {w0 w : World} {listed : Array Bool} {b : Nat → Nat} {v v' : Nat → Value}
/-- An operation that lays nothing. -/
theorem Slots.pure (h : Slots T val obj w0 listed b v w) {q : Nat} (hq : ¬ T q) (hv : ∀ i, T i → v' i = v i) (ho : ∀ i, T i → listed.getD i false = true → obj (listed.setIfInBounds q true) v' i = obj listed v i) : Slots T val obj w0 (listed.setIfInBounds q true) b v' w := by
  have on : ∀ i, T i → (listed.setIfInBounds q true).getD i false = true → listed.getD i false = true := fun i hi li => by
    rcases getD_set_of li with rfl | li'
    · exact absurd hi hq
    · exact li'
  refine ⟨h.bel, fun i j hi hj li lj e => h.inj i j hi hj (on i hi li) (on j hj lj) e, fun i hi li => ?_⟩
  obtain ⟨h1, h2, h3⟩ := h.at' i hi (on i hi li)
  exact ⟨h1, (hv i hi).trans h2, by rw [ho i hi (on i hi li)]; exact h3⟩
end
theorem build50 (b1 b3 b4 n : Nat) (w : World) : (Instr.build 50 #[(0, .slice (some ⟨b1, 0, none⟩) n n), (1, .slice (some ⟨b3, 0, none⟩) n n), (2, .map (some b4))]).run Try.prog w = .ok (.agg #[.slice (some ⟨b1, 0, none⟩) n n, .slice (some ⟨b3, 0, none⟩) n n, .map (some b4)]) w := run_build w 50 _ _ (by kernel_rfl)
theorem rep_own {w : World} {b n : Nat} (hn : n ≤ 10000) (h : w.heap[b]? = some (.cells (List.replicate n (.slice none 0 0)).toArray 31)) : RR 0 w (.slice (some ⟨b, 0, none⟩) n n) (List.replicate n (.slice none 0 0)) (List.replicate n []) := by
  refine ⟨⟨by simp, .inr ⟨b, n, _, by simp, Nat.zero_le _, h, by simp, by unfold maxLen; omega, by simp, by simp⟩⟩, fun i l hl => ?_⟩
  rw [List.getElem?_replicate] at hl
  split at hl
  · rename_i hi
    cases hl
    exact ⟨.slice none 0 0, by rw [List.getElem?_replicate, if_pos hi], IR.nil _ _⟩
  · cases hl
theorem tos_nil (n : Nat) : tos n [] = List.replicate n [] := by
  unfold tos
  simp only [List.filter_nil, List.map_nil]
  rw [List.map_const']
  simp
theorem frs_nil (n : Nat) : frs n [] = List.replicate n [] := by
  unfold frs
  simp only [List.filter_nil, List.map_nil]
  rw [List.map_const']
  simp
theorem GrD.begin {K n b1 b3 b4 b6 : Nat} {w : World} (hn : n ≤ 10000) (k1 : K ≤ b1) (k3 : K ≤ b3) (k4 : K ≤ b4) (k6 : K ≤ b6) (h13 : b1 ≠ b3)
    (h1 : w.heap[b1]? = some (.cells (List.replicate n (.slice none 0 0)).toArray 31)) (h3 : w.heap[b3]? = some (.cells (List.replicate n (.slice none 0 0)).toArray 31)) (h4 : w.heap[b4]? = some (.map #[] 0))
    (h6 : w.heap[b6]? = some (.cells #[.slice (some ⟨b1, 0, none⟩) n n, .slice (some ⟨b3, 0, none⟩) n n, .map (some b4)] 50)) :
    GrD K w ⟨.pointer (some ⟨b6, 0, none⟩), b6, .slice (some ⟨b1, 0, none⟩) n n, List.replicate n (.slice none 0 0), .slice (some ⟨b3, 0, none⟩) n n, List.replicate n (.slice none 0 0), some b4⟩ (tos n []) (frs n []) (mE []) := by
  have hrep : ∀ (i : Nat) (u : Value), (List.replicate n (Value.slice none 0 0))[i]? = some u → u.ownBlock = none := fun i u h => by
    rw [List.getElem?_replicate] at h
    split at h
    · cases h; rfl
    · cases h
  refine ⟨⟨rfl, h6, by rw [tos_nil]; exact rep_own hn h1, by rw [frs_nil]; exact rep_own hn h3⟩, ⟨b4, rfl, #[], 0, h4, by simp [mE], by simp [mE]⟩, fun k hk => ?_, fun i j u v k e1 _ e3 _ => ?_, fun i j u v k e1 _ e3 _ => ?_, fun i j u v k e1 _ e3 _ => ?_, fun k e1 e2 => ?_⟩
  · rcases hk with rfl | e | e | e | ⟨i, u, e1, e2⟩ | ⟨i, u, e1, e2⟩
    · exact k6
    · cases e; exact k1
    · cases e; exact k3
    · cases e; exact k4
    · rw [hrep i u e1] at e2; cases e2
    · rw [hrep i u e1] at e2; cases e2
  · rw [hrep i u e1] at e3; cases e3
  · rw [hrep i u e1] at e3; cases e3
  · rw [hrep i u e1] at e3; cases e3
  · cases e1
    cases e2
    exact h13 rfl
set_option maxHeartbeats 2000000 in
set_option maxRecDepth 100000 in
theorem new_any {w : World} (x : Int) (n : Nat) (hn : (n : Int) = min (max x 0) 10000) : Calls Try.prog 14 #[.int .i64 x] w fun e w' => ∃ G, e = .returned G.pv ∧ GrD w.heap.size w' G (tos n []) (frs n []) (mE []) ∧ Below w.heap.size w w' := by
  have hn2 : n ≤ 10000 := by omega
  go_enter Try.func14, Try.ntmps14
  go_wp2_with fail
  rw [← hn]
  obtain ⟨m, hm⟩ : ∃ m, max x 0 = m := ⟨_, rfl⟩
  rw [hm]
  clear hm hn
  have MK := mk39 n (by omega)
  refine wp_region_inv [0, 2] (fun listed a wr => listed.size = 8 ∧ (listed.getD 0 false = true ∧ listed.getD 2 false = true) ∧ D14 listed ∧ ∃ (b : Nat → Nat) (v : Nat → Value), Slots T14 (val14 n) (obj14 n) w listed b v wr ∧
    (listed.getD 5 false = true → v 5 = .agg #[v 1, v 3, v 4]) ∧ (listed.getD 7 false = true → v 7 = v 6) ∧
    a = { tmps := #[.int .i64 x, undef, v 7, .int .i64 (n : Int), .int .i64 x, .int .i64 m, .int .i64 (n : Int), .int .i64 (n : Int), v 1, .int .i64 (n : Int), v 3, v 4, v 5, v 6], defers := [] }) (by kernel_rfl) (by kernel_rfl) ?_ ?_ ?_
  · iterate 2 (apply first_step; (rw [List.getElem?_toArray]; (repeat rw [List.getElem?_cons_succ]); rw [List.getElem?_cons_zero]); rfl; (intro W _; go_simp; (first | done | rfl)); go_frame)
    refine first_done ?_
    refine ⟨by kernel_rfl, ⟨by kernel_rfl, by kernel_rfl⟩, ⟨by decide, by decide, by decide⟩, fun _ => 0, fun i => if i = 7 then .pointer none else undef, ⟨(Below.refl _ _).drew, fun i _ hi _ h1 _ _ => ?_, fun i hi h1 => ?_⟩, fun h => absurd h (by decide), fun h => absurd h (by decide), rfl⟩
    · unfold T14 at hi
      rcases hi with rfl | rfl | rfl | rfl <;> exact absurd h1 (by decide)
    · unfold T14 at hi
      rcases hi with rfl | rfl | rfl | rfl <;> exact absurd h1 (by decide)
  · rintro listed a wr i ⟨hz, hf, hd, b, v, hS, h5, h7, rfl⟩ hi
    have hlt : i < 8 := ready_lt hi
    rcases (by omega : i = 0 ∨ i = 1 ∨ i = 2 ∨ i = 3 ∨ i = 4 ∨ i = 5 ∨ i = 6 ∨ i = 7) with rfl | rfl | rfl | rfl | rfl | rfl | rfl | rfl
    · exact (ready_not hi hf.1).elim
    · have hl : listed.toList[1]? = some false := ready_false hi
      have N := hd.no (t := 1) (by omega) hl
      refine inv_step (by (rw [List.getElem?_toArray]; (repeat rw [List.getElem?_cons_succ]); rw [List.getElem?_cons_zero])) rfl fun K hK => ?_
      go_simp
      exact hK _ _ ⟨by simp [hz], ⟨getD_set_true hf.1, getD_set_true hf.2⟩, hd.set (t := 1) (by omega) (by omega) (by omega), _, _, hS.alloc (t := 1) hl rfl (obj14_alloc hd (by omega) hl _), fun h => (N 5 (by omega) h).elim, fun h => (N 7 (by omega) h).elim, rfl⟩
    · exact (ready_not hi hf.2).elim
    · have hl : listed.toList[3]? = some false := ready_false hi
      have N := hd.no (t := 3) (by omega) hl
      refine inv_step (by (rw [List.getElem?_toArray]; (repeat rw [List.getElem?_cons_succ]); rw [List.getElem?_cons_zero])) rfl fun K hK => ?_
      go_simp
      exact hK _ _ ⟨by simp [hz], ⟨getD_set_true hf.1, getD_set_true hf.2⟩, hd.set (t := 3) (by omega) (by omega) (by omega), _, _, hS.alloc (t := 3) hl rfl (obj14_alloc hd (by omega) hl _), fun h => (N 5 (by omega) h).elim, fun h => (N 7 (by omega) h).elim, rfl⟩
    · have hl : listed.toList[4]? = some false := ready_false hi
      have N := hd.no (t := 4) (by omega) hl
      refine inv_step (by (rw [List.getElem?_toArray]; (repeat rw [List.getElem?_cons_succ]); rw [List.getElem?_cons_zero])) rfl fun K hK => ?_
      go_simp
      exact hK _ _ ⟨by simp [hz], ⟨getD_set_true hf.1, getD_set_true hf.2⟩, hd.set (t := 4) (by omega) (by omega) (by omega), _, _, hS.alloc (t := 4) hl rfl (obj14_alloc hd (by omega) hl _), fun h => (N 5 (by omega) h).elim, fun h => (N 7 (by omega) h).elim, rfl⟩
    · have l1 : listed.getD 1 false = true := dep_listed (by kernel_rfl) hi
      have l3 : listed.getD 3 false = true := dep_listed (by kernel_rfl) hi
      have l4 : listed.getD 4 false = true := dep_listed (by kernel_rfl) hi
      obtain ⟨_, v1, _⟩ := hS.at' 1 (by unfold T14; omega) l1
      obtain ⟨_, v3, _⟩ := hS.at' 3 (by unfold T14; omega) l3
      obtain ⟨_, v4, _⟩ := hS.at' 4 (by unfold T14; omega) l4
      have v1' : v 1 = .slice (some ⟨b 1, 0, none⟩) n n := v1
      have v3' : v 3 = .slice (some ⟨b 3, 0, none⟩) n n := v3
      have v4' : v 4 = .map (some (b 4)) := v4
      have hl : listed.toList[5]? = some false := ready_false hi
      have hno : listed.getD 5 false = false := by simp at hl; simp [hl]
      have n6 : (listed.setIfInBounds 5 true).getD 6 false = true → False := fun h => by
        rw [getD_set_ne false (by decide)] at h
        rw [hd.2.1 h] at hno
        cases hno
      have n7 : (listed.setIfInBounds 5 true).getD 7 false = true → False := fun h => by
        rw [getD_set_ne false (by decide)] at h
        rw [hd.2.1 (hd.2.2 h)] at hno
        cases hno
      have N : Slots T14 (val14 n) (obj14 n) w (listed.setIfInBounds 5 true) b (fun i => if i = 5 then .agg #[v 1, v 3, v 4] else v i) wr := hS.pure (by unfold T14; omega) (fun i hi => by
        show (if i = 5 then _ else v i) = v i
        rw [if_neg (by unfold T14 at hi; omega)]) (fun i hi hl => by simp [obj14])
      have B := build50 (b 1) (b 3) (b 4) n
      refine inv_step (by (rw [List.getElem?_toArray]; (repeat rw [List.getElem?_cons_succ]); rw [List.getElem?_cons_zero])) rfl fun K hK => ?_
      rw [v1', v3', v4'] at N ⊢
      clear v1 v3 v4 hS
      go_simp
      refine hK _ _ ⟨by simp [hz], ⟨getD_set_true hf.1, getD_set_true hf.2⟩, hd.set (t := 5) (fun _ => ⟨l1, l3, l4⟩) (by omega) (by omega), b, _, N, fun _ => ?_, fun h => (n7 h).elim, ?_⟩
      · simp [v1', v3', v4']
      · simp [v1', v3', v4']
    · have l5 : listed.getD 5 false = true := dep_listed (by kernel_rfl) hi
      obtain ⟨l1, l3, l4⟩ := hd.1 l5
      have hl : listed.toList[6]? = some false := ready_false hi
      have hno : listed.getD 6 false = false := by simp at hl; simp [hl]
      have n7 : (listed.setIfInBounds 6 true).getD 7 false = true → False := fun h => by
        rw [getD_set_ne false (by decide)] at h
        rw [hd.2.2 h] at hno
        cases hno
      have N := hS.alloc (t := 6) hl (o := .cells #[v 1, v 3, v 4] 50) (by simp [obj14]) (fun i _ hi hl => by
        unfold T14 at hi
        simp [obj14])
      have v5 := h5 l5
      refine inv_step (by (rw [List.getElem?_toArray]; (repeat rw [List.getElem?_cons_succ]); rw [List.getElem?_cons_zero])) rfl fun K hK => ?_
      rw [v5]
      go_simp
      refine hK _ _ ⟨by simp [hz], ⟨getD_set_true hf.1, getD_set_true hf.2⟩, hd.set (t := 6) (by omega) (fun _ => l5) (by omega), _, _, N, fun _ => ?_, fun h => (n7 h).elim, ?_⟩
      · simpa using v5
      · simp [val14, v5]
    · have l6 : listed.getD 6 false = true := dep_listed (by kernel_rfl) hi
      have N : Slots T14 (val14 n) (obj14 n) w (listed.setIfInBounds 7 true) b (fun i => if i = 7 then v 6 else v i) wr := hS.pure (by unfold T14; omega) (fun i hi => by
        show (if i = 7 then _ else v i) = v i
        rw [if_neg (by unfold T14 at hi; omega)]) (fun i hi hl => by simp [obj14])
      refine inv_step (by (rw [List.getElem?_toArray]; (repeat rw [List.getElem?_cons_succ]); rw [List.getElem?_cons_zero])) rfl fun K hK => ?_
      go_simp
      refine hK _ _ ⟨by simp [hz], ⟨getD_set_true hf.1, getD_set_true hf.2⟩, hd.set (t := 7) (by omega) (by omega) (fun _ => l6), b, _, N, fun h => ?_, fun _ => ?_, ?_⟩
      · rw [getD_set_ne false (by decide)] at h
        simpa using h5 h
      · simp
      · simp
  · rintro listed a wr ⟨hz, hf, hd, b, v, hS, h5, h7, rfl⟩ hr
    have hall := all_listed (by kernel_rfl) hz hr
    obtain ⟨p1, v1, m1⟩ := hS.at' 1 (by unfold T14; omega) (hall 1 (by decide))
    obtain ⟨p3, v3, m3⟩ := hS.at' 3 (by unfold T14; omega) (hall 3 (by decide))
    obtain ⟨p4, v4, m4⟩ := hS.at' 4 (by unfold T14; omega) (hall 4 (by decide))
    obtain ⟨p6, v6, m6⟩ := hS.at' 6 (by unfold T14; omega) (hall 6 (by decide))
    have h13 : b 1 ≠ b 3 := fun e => absurd (hS.inj 1 3 (by unfold T14; omega) (by unfold T14; omega) (hall 1 (by decide)) (hall 3 (by decide)) e) (by decide)
    have v7 := h7 (hall 7 (by decide))
    have hB := hS.bel
    simp only [val14, obj14, Nat.reduceEqDiff, if_false, if_true] at v1 v3 v4 v6 m1 m3 m4 m6
    rw [v1, v3, v4] at m6
    have hG := GrD.begin hn2 p1 p3 p4 p6 h13 m1 m3 m4 m6
    have HG := Lib.hid hG
    rw [v7, v6]
    generalize v 1 = x1
    generalize v 3 = x3
    generalize v 4 = x4
    generalize v 5 = x5
    generalize b 6 = b6 at *
    clear hG m1 m3 m4 m6 v1 v3 v4 v6 v7 hS hz hf hd h5 h7 hall MK
    go_wp2_with fail
    refine bodyPost_ret (v := .pointer (some ⟨b6, 0, none⟩)) (by simp [results, Try.results14, go_sem]) rfl ⟨_, rfl, HG.out, hB⟩
end Go.Proofs.Ytcjohhminiedfaa
