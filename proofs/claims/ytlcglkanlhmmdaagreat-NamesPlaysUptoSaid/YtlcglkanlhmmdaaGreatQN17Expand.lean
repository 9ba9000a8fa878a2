/- (*names.Table).Expand. -/
import Derived.Test.YtlcglkanlhmmdaaGreatQN17Free
namespace Go.Proofs.YtlcglkanlhmmdaaGreat
open Go.RowKit
theorem TabV.len {w : World} {mo : Option Nat} {L : List (ByteArray × T)} (h : TabV w mo L) : (mo = none ∧ L = []) ∨ ∃ mt es c, mo = some mt ∧ w.heap[mt]? = some (.map es c) ∧ es.size = L.length := by
  cases mo with
  | none => exact .inl ⟨rfl, h⟩
  | some mt =>
    obtain ⟨vs, ⟨es, c, h1, h2, _⟩, h3⟩ := h
    refine .inr ⟨mt, es, c, rfl, h1, ?_⟩
    have e1 := congrArg List.length h2
    have e2 := congrArg List.length h3.1
    simp at e1 e2
    omega
theorem len_map {w : World} {mt c : Nat} {es : Array MapEntry} (hm : w.heap[mt]? = some (.map es c)) : (Builtin.len_ #[60] 3 #[.map (some mt)]).run Tryz.prog w = .ok (.int .i64 (es.size : Nat)) w := by
  simp [Builtin.len_, getObj, Sem.run, hm, goInt]
theorem T.Own.below' {w w' : World} {t : T} {a : Option Addr} {S : Nat → Prop} (h : t.Own w a S) (hb : Below w.heap.size w w') : t.Own w' a S := h.frame t (fun k _ hl => hb.block k hl)
/-- A tree of the call's own is handed back. -/
def OutR (w : World) (t : T) : Ending → World → Prop := fun e w' => ∃ a' cap' S, e = .returned (nagg t.o (.slice a' t.l.length cap')) ∧ t.Own w' a' S ∧ (∀ k, S k → w.heap.size ≤ k ∧ k < w'.heap.size) ∧ Below w.heap.size w w'
set_option maxHeartbeats 4000000 in
set_option maxRecDepth 100000 in
theorem expand_any (L : List (ByteArray × T)) (hz : ∀ p ∈ L, p.2.size ≤ 2097152) (t : T) (hzt : t.size ≤ 2097152) (x : Value) (w : World) (pt : Nat) (hT : Tab w pt L) (hx : IsT w x t) :
    Calls Tryz.prog 19 #[.pointer (some ⟨pt, 0, none⟩), x] w (OutR w (expT (subL L) t [] false)) := by
  obtain ⟨a, cap, rfl, hA⟩ := hx
  have HA := Lib.hid hA
  have HT := Lib.hid hT
  have HZ := Lib.hid hz
  clear hA hT hz
  have hmm := @run_makeMap Tryz.prog
  obtain ⟨n, hn⟩ : ∃ n, t.l.length = n := ⟨_, rfl⟩
  rw [hn]
  have HN := Lib.hid hn
  clear hn
  rw [nagg_eq]
  go_enter Tryz.func19, Tryz.ntmps19
  go_upto_region 1 with fail
  refine abs_world ?_
  intro W1 hW1
  have hz1 : W1.heap.size = w.heap.size + 3 := by rw [hW1]; simp
  have hB1 : Below w.heap.size w W1 := by rw [hW1]; (repeat (first | with_reducible exact Below.refl _ _ | with_reducible exact hBW | with_reducible refine Below.setCell ?_ ?_ _ | with_reducible refine Below.alloc ?_ ?_ _ | with_reducible refine belowN ?_ _ | with_reducible refine Below.drew ?_)); all_goals (first | omega | (dsimp only; omega) | ((repeat (first | with_reducible refine le_alloc ?_ | with_reducible refine le_setCell ?_ | with_reducible refine le_drew ?_ | with_reducible refine le_drewN ?_)); omega))
  have g0 : W1.heap[w.heap.size]? = some (.cells #[.pointer (some ⟨pt, 0, none⟩)] 25) := by rw [hW1]; exact heap_alloc_old (heap_alloc_old (heap_alloc_new w _) _) _
  have g1 : W1.heap[w.heap.size + 1]? = some (.cells (ncells t.o (.slice a n cap)).toArray 42) := by rw [hW1]; exact heap_alloc_old (heap_alloc_at (by simp) _) _
  have g2 : W1.heap[w.heap.size + 1 + 1]? = some (.cells (ncells nd0 (.slice none 0 0)).toArray 42) := by rw [hW1]; exact heap_alloc_at (by simp) _
  have R1 := Lib.hid (range_blk g1)
  have G1 := Lib.hid g1
  have G0 := Lib.hid g0
  have G2 := Lib.hid g2
  have HB1 := Lib.hid hB1
  have HZ1 := Lib.hid hz1
  clear hW1 g0 g1 g2 hB1 hz1
  go_wp2_with (refine wpList_load_g rfl 42 (.tmp 3) rfl (w.heap.size + 1) 0 rfl _ _ R1.out Tryz.underlying42 rfl info35 ?_)
  refine (copied_any t hzt _ W1 ⟨a, cap, by rw [HN.out]; rfl, HA.out.below HB1.out t⟩).mono ?_
  rintro e w2 ⟨a2, S2, rfl, hO2, hS2, hb2⟩
  rw [HN.out]
  have G1' : Hid (w2.heap[w.heap.size + 1]? = some (.cells (ncells t.o (.slice a n cap)).toArray 42)) := (hb2.block _ (lt_of_heap G1.out)).trans G1.out
  have HB2 : Hid (Below w.heap.size w w2) := HB1.out.trans (hb2.mono HB1.out.size)
  have G0' : Hid (w2.heap[w.heap.size]? = some (.cells #[.pointer (some ⟨pt, 0, none⟩)] 25)) := (hb2.block _ (lt_of_heap G0.out)).trans G0.out
  have G2' : Hid (w2.heap[w.heap.size + 1 + 1]? = some (.cells (ncells nd0 (.slice none 0 0)).toArray 42)) := (hb2.block _ (lt_of_heap G2.out)).trans G2.out
  have HS2 : Hid (∀ k, S2 k → w.heap.size + 3 ≤ k ∧ k < w2.heap.size) := fun k hk => by have := hS2 k hk; have := HZ1.out; omega
  have HO2 := Lib.hid hO2
  clear hO2 hS2 hb2
  obtain ⟨mo, hp, hV⟩ := HT.out
  have HV := Lib.hid hV
  have HP := Lib.hid hp
  clear hp hV
  go_upto_region 2 with (refine wpList_store_nd rfl (.tmp 3) (.tmp 7) rfl (w.heap.size + 1) 0 (ncells t.o (.slice a n cap)) 42 G1'.out (Nat.le_refl _) t.o (.slice a2 n n) rfl rfl rfl ?_; intro W3 p1 p2 p3)
  have HB3 : Hid (Below w.heap.size w W3) := HB2.out.trans (p2.below HB2.out.size (fun k hk => by omega))
  have N3 : Hid (W3.heap[w.heap.size + 1]? = some (.cells (ncells t.o (.slice a2 n n)).toArray 42)) := p1
  have K0 : Hid (W3.heap[w.heap.size]? = some (.cells #[.pointer (some ⟨pt, 0, none⟩)] 25)) := (p2.block _ (lt_of_heap G0'.out) (by omega)).trans G0'.out
  have K2 : Hid (W3.heap[w.heap.size + 1 + 1]? = some (.cells (ncells nd0 (.slice none 0 0)).toArray 42)) := (p2.block _ (lt_of_heap G2'.out) (by omega)).trans G2'.out
  have HO3 : Hid (t.Own W3 a2 S2) := HO2.out.frame t (fun k hk hl => p2.block k hl (by have := HS2.out k hk; omega))
  have HS3 : Hid (∀ k, S2 k → w.heap.size + 3 ≤ k ∧ k < W3.heap.size) := fun k hk => by rw [p3]; exact HS2.out k hk
  have KP : Hid (W3.heap[pt]? = some (.cells #[.map mo] 62)) := (HB3.out.block _ (lt_of_heap HP.out)).trans HP.out
  have x0 := cell_of_heap K0.out 0
  have x1 := cell_of_heap KP.out 0
  clear p1 p2 p3 G1' HB2 G0' G2' HO2 HS2 R1 G1 G0 G2 HB1 HZ1
  have EMPTY : Hid (L = [] → expT (subL L) t [] false = t) := fun hl => by
    have : subL L = fun _ => none := by rw [hl]; rfl
    rw [this]
    exact exp_none t [] false
  have R3 := Lib.hid (range_blk N3.out)
  rcases (HV.out.below HB3.out).len with ⟨rfl, hL⟩ | ⟨mt, es, c, rfl, hm, hes⟩
  · have HL := Lib.hid hL
    clear hL
    go_wp2_with (first | (refine wpList_load_g rfl 42 (.tmp 3) rfl (w.heap.size + 1) 0 rfl _ _ R3.out Tryz.underlying42 rfl info35 ?_) | (refine wpList_store_nd rfl (.tmp 4) (.tmp 18) rfl (w.heap.size + 1 + 1) 0 (ncells nd0 (.slice none 0 0)) 42 K2.out (Nat.le_refl _) t.o (.slice a2 n n) rfl rfl rfl ?_; intro W5 p1 p2 p3))
    have p1' : W5.heap[w.heap.size + 1 + 1]? = some (.cells (ncells t.o (.slice a2 n n)).toArray 42) := p1
    refine bodyPost_ret (v := nagg t.o (.slice a2 n n)) (results_nd1 rfl rfl (range_blk p1')) rfl ?_
    rw [EMPTY.out HL.out]
    refine ⟨a2, n, S2, by rw [HN.out], HO3.out.frame t (fun k hk hl => p2.block k hl (by have := HS3.out k hk; omega)), fun k hk => ?_, HB3.out.trans (p2.below HB3.out.size (fun k hk => by omega))⟩
    have := HS3.out k hk
    omega
  · have hln := len_map hm
    rw [hes] at hln
    clear hm hes
    by_cases h0 : L.length = 0
    · have HL : Hid (L = []) := List.length_eq_zero_iff.1 h0
      have e0 : ((L.length : Int) == 0) = true := by simp [h0]
      clear h0
      go_wp2_with (first | (refine wpList_load_g rfl 42 (.tmp 3) rfl (w.heap.size + 1) 0 rfl _ _ R3.out Tryz.underlying42 rfl info35 ?_) | (refine wpList_store_nd rfl (.tmp 4) (.tmp 18) rfl (w.heap.size + 1 + 1) 0 (ncells nd0 (.slice none 0 0)) 42 K2.out (Nat.le_refl _) t.o (.slice a2 n n) rfl rfl rfl ?_; intro W5 p1 p2 p3))
      have p1' : W5.heap[w.heap.size + 1 + 1]? = some (.cells (ncells t.o (.slice a2 n n)).toArray 42) := p1
      refine bodyPost_ret (v := nagg t.o (.slice a2 n n)) (results_nd1 rfl rfl (range_blk p1')) rfl ?_
      rw [EMPTY.out HL.out]
      refine ⟨a2, n, S2, by rw [HN.out], HO3.out.frame t (fun k hk hl => p2.block k hl (by have := HS3.out k hk; omega)), fun k hk => ?_, HB3.out.trans (p2.below HB3.out.size (fun k hk => by omega))⟩
      have := HS3.out k hk
      omega
    · have e0 : ((L.length : Int) == 0) = false := by simp [h0]
      clear h0 EMPTY
      go_wp2_with (refine wpList_store_new rfl 78 (.tmp 5) (.tmp 21) rfl (W3.heap.size + 1) (by simp) _ [.map (some W3.heap.size), .func (.func 31) #[] #[.pointer (some ⟨w.heap.size, 0, none⟩)]] 78 rfl rfl rfl info76 (by intro v hv; simp at hv; rcases hv with rfl | rfl <;> rfl) ?_)
      refine abs_calls ?_
      intro W4 hW4
      have hz3 : w.heap.size + 3 ≤ W3.heap.size := by have := lt_of_heap K2.out; omega
      have hz4 : W4.heap.size = W3.heap.size + 2 := by rw [hW4]; simp
      have hB4 : Below W3.heap.size W3 W4 := by rw [hW4]; (repeat (first | with_reducible exact Below.refl _ _ | with_reducible exact hBW | with_reducible refine Below.setCell ?_ ?_ _ | with_reducible refine Below.alloc ?_ ?_ _ | with_reducible refine belowN ?_ _ | with_reducible refine Below.drew ?_)); all_goals (first | omega | (dsimp only; omega) | ((repeat (first | with_reducible refine le_alloc ?_ | with_reducible refine le_setCell ?_ | with_reducible refine le_drew ?_ | with_reducible refine le_drewN ?_)); omega))
      have gm : W4.heap[W3.heap.size]? = some (.map #[] 0) := by rw [hW4]; exact heap_alloc_old (heap_alloc_new W3 _) _
      have gp : W4.heap[W3.heap.size + 1]? = some (.cells #[.map (some W3.heap.size), .func (.func 31) #[] #[.pointer (some ⟨w.heap.size, 0, none⟩)]] 78) := by rw [hW4]; exact heap_alloc_at (by simp) _
      clear hW4 x0 x1 hln e0 hmm
      have hBW4 : Below w.heap.size w W4 := HB3.out.trans (hB4.mono HB3.out.size)
      have HJ : ExpJ w w.heap.size (W3.heap.size + 1) W3.heap.size pt W4 := ⟨hBW4, (hB4.block _ (lt_of_heap K0.out)).trans K0.out, gp⟩
      have H : FreeOK true w W3.heap.size (W3.heap.size + 1) 31 #[.pointer (some ⟨w.heap.size, 0, none⟩)] (subL L) (fun _ W => ExpJ w w.heap.size (W3.heap.size + 1) W3.heap.size pt W) (fun k => k < w.heap.size ∨ k = w.heap.size ∨ k = W3.heap.size + 1) (fun _ => False) := by
        refine ⟨enters_of Tryz.func31 (by kernel_rfl) rfl, fun c W h => h.2.2, fun c W W' h hf => ⟨h.1.trans (hf.below h.1.size (fun k hk => by omega)), (hf.block _ (lt_of_heap h.2.1) (fun hh => hh (.inr (.inl rfl)))).trans h.2.1, (hf.block _ (lt_of_heap h.2.2) (fun hh => hh (.inr (.inr rfl)))).trans h.2.2⟩,
          by omega, fun k h => h.elim, fun c W k h hk => ?_, (fun h => by cases h), fun W b off u S c hN hJ hS => ?_⟩
        · rcases hk with hk | rfl | rfl
          · exact Nat.lt_of_lt_of_le hk h.1.size
          · exact lt_of_heap h.2.1
          · exact lt_of_heap h.2.2
        · exact repl_any L HZ.out w w w.heap.size (W3.heap.size + 1) W3.heap.size pt HT.out W b off u S hN hJ ⟨fun k hk => ((hS rfl).1 k hk).1, (hS rfl).2.1⟩
      have hs := walkF_any H t [] false false W4 (w.heap.size + 1) 0 S2 (by simp; omega) hzt ⟨(fun h => by cases h), fun _ => ⟨⟨ncells t.o (.slice a2 n n), a2, n, (hB4.block _ (lt_of_heap N3.out)).trans N3.out, fun j hj => by rw [Nat.zero_add, HN.out], HO3.out.below' hB4⟩, fun h => by have := HS3.out _ h; omega, fun k hk => Nat.lt_of_lt_of_le (HS3.out k hk).2 hB4.size⟩⟩ HJ
        ⟨[], ⟨#[], 0, gm, by simp, by simp⟩, fun s => rfl⟩ (fun _ => ⟨fun k hk => by have := HS3.out k hk; omega, by omega, by omega⟩)
      refine hs.mono ?_
      rintro e w5 ⟨⟨v, rfl⟩, hp, hj, _⟩
      obtain ⟨S5, hN5, hS5⟩ := hp.nod
      obtain ⟨⟨C5, a5, c5, q1, q2, q3⟩, q4, q5⟩ := hN5.2 rfl
      obtain ⟨t', ht'⟩ : ∃ t', t' = expT (subL L) t [] false := ⟨_, rfl⟩
      rw [← ht'] at q2 q3
      have HT' := Lib.hid ht'
      clear ht'
      have R5 : Hid (w5.rangeAt (w.heap.size + 1) 0 (ncells t'.o (.slice a5 t'.l.length c5))) := range_nd (fun j hj => by rw [cell_of_heap q1, List.getElem?_toArray]; exact q2 j hj)
      have K5 : Hid (w5.heap[w.heap.size + 1 + 1]? = some (.cells (ncells nd0 (.slice none 0 0)).toArray 42)) := (hp.fr.block _ (by omega) (by
        rintro ((h | h) | ⟨_, h | h⟩)
        · omega
        · exact h
        · have := HS3.out _ h; omega
        · omega)).trans ((hB4.block _ (lt_of_heap K2.out)).trans K2.out)
      have HB5 : Hid (Below w.heap.size w w5) := hj.1
      have HO5 := Lib.hid q3
      have HS5 : Hid (∀ k, S5 k → w.heap.size + 3 ≤ k ∧ k < w5.heap.size) := fun k hk => ⟨by rcases hS5 k hk with h | h; (have := HS3.out k h; omega); omega, q5 k hk⟩
      clear hs H HJ hp hj hN5 q1 q2 q3 q4 q5 hS5 gm gp hB4 hBW4 hz4
      go_wp2_with (first | (refine wpList_load_g rfl 42 (.tmp 3) rfl (w.heap.size + 1) 0 rfl _ _ R5.out Tryz.underlying42 rfl info35 ?_) | (refine wpList_store_nd rfl (.tmp 4) (.tmp 23) rfl (w.heap.size + 1 + 1) 0 (ncells nd0 (.slice none 0 0)) 42 K5.out (Nat.le_refl _) t'.o (.slice a5 t'.l.length c5) rfl rfl rfl ?_; intro W6 p1 p2 p3))
      have p1' : W6.heap[w.heap.size + 1 + 1]? = some (.cells (ncells t'.o (.slice a5 t'.l.length c5)).toArray 42) := p1
      refine bodyPost_ret (v := nagg t'.o (.slice a5 t'.l.length c5)) (results_nd1 rfl rfl (range_blk p1')) rfl ?_
      rw [← HT'.out]
      exact ⟨a5, c5, S5, rfl, HO5.out.frame t' (fun k hk hl => p2.block k hl (by have := HS5.out k hk; omega)), fun k hk => by have := HS5.out k hk; omega, HB5.out.trans (p2.below HB5.out.size (fun k hk => by omega))⟩
end Go.Proofs.YtlcglkanlhmmdaaGreat
