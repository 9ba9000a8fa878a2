/- The law's spoil: it writes into a tree's own memory alone. -/
import Derived.Test.YtlcglkanlhmmdaaQN17Get
namespace Go.Proofs.Ytlcglkanlhmmdaa
open Go.RowKit
def nd99 : Nd := { nd0 with k := 99 }
theorem build_99 (w : World) : (Instr.build 35 #[(0, .int .i64 99)]).run Try.prog w = .ok (nagg nd99 (.slice none 0 0)) w := run_build w 35 _ _ (by kernel_rfl)
def SpR (S : Nat → Prop) (w : World) : Ending → World → Prop := fun e w' => (∃ v, e = .returned v) ∧ Fr S w w'
/-- What the loop keeps: the row from the k-th on is as it was; what is changed is the row, and what the first k own. -/
structure SpI (b : Nat) (es : List (Nd × Value)) (Si : Nat → Nat → Prop) (W0 : World) (k : Nat) (wr : World) : Prop where
  row : ∃ C : List Value, wr.heap[b]? = some (.cells C.toArray 35) ∧ C.length = es.length * 22 ∧ ∀ j, k * 22 ≤ j → C[j]? = (rowC es)[j]?
  fr : Fr (fun x => x = b ∨ ∃ j, j < k ∧ Si j x) W0 wr
theorem SpI.next {b k : Nat} {es : List (Nd × Value)} {Si : Nat → Nat → Prop} {W0 wr w5 W6 : World} {C : List Value} (h : SpI b es Si W0 k wr) (hk : k < es.length) (hC : C.length = es.length * 22) (hCr : ∀ j, k * 22 ≤ j → C[j]? = (rowC es)[j]?) (hf : Fr (Si k) wr w5)
    (h6 : W6.heap[b]? = some (.cells (C.take (k * 22) ++ ncells nd99 (.slice none 0 0) ++ C.drop (k * 22 + 22)).toArray 35)) (hf6 : Fr (fun x => x = b) w5 W6) : SpI b es Si W0 (k + 1) W6 := by
  have hn : (ncells nd99 (.slice none 0 0)).length = 22 := rfl
  refine ⟨⟨_, h6, ?_, fun j hj => ?_⟩, ((h.fr.mono fun x _ hx => ?_).trans hf (fun x _ hx => .inr ⟨k, Nat.lt_succ_self k, hx⟩)).trans hf6 (fun x _ hx => .inl hx)⟩
  · rw [List.length_append, List.length_append, List.length_take, List.length_drop, hn]
    omega
  · rw [List.getElem?_append_right (by rw [List.length_append, List.length_take, hn]; omega), List.length_append, List.length_take, hn, List.getElem?_drop, ← hCr j (by omega)]
    congr 1
    omega
  · rcases hx with hx | ⟨j, hj, hx⟩
    · exact .inl hx
    · exact .inr ⟨j, by omega, hx⟩
set_option maxHeartbeats 4000000 in
set_option maxRecDepth 100000 in
theorem spoil_step (o : Nd) (l : List T) (ih : ∀ t ∈ l, ∀ (a : Option Addr) (cap : Nat) (S : Nat → Prop) (w : World), t.Own w a S → (∀ k, S k → k < w.heap.size) → Calls Try.prog 19 #[nagg t.o (.slice a t.l.length cap)] w (SpR S w)) (hl : l.length ≤ 2097152) (a : Option Addr) (cap : Nat) (S : Nat → Prop) (w : World) (hO : (T.mk o l).Own w a S) (hS : ∀ k, S k → k < w.heap.size) :
    Calls Try.prog 19 #[nagg o (.slice a l.length cap)] w (SpR S w) := by
  have HO := Lib.hid hO
  have IH := Lib.hid ih
  have HS := Lib.hid hS
  obtain ⟨n, hn⟩ : ∃ n, l.length = n := ⟨_, rfl⟩
  rw [hn] at hl ⊢
  have HN := Lib.hid hn
  clear hO ih hn hS
  rw [nagg_eq]
  go_enter Try.func19, Try.ntmps19
  go_upto_region 1 with fail
  refine abs_world ?_
  intro W0 hW0
  have g0 : W0.heap[w.heap.size]? = some (.cells (ncells o (.slice a n cap)).toArray 35) := by rw [hW0]; exact heap_alloc_new w _
  have hB0 : Hid (Below w.heap.size w W0) := by rw [hW0]; unfold Hid; (repeat (first | with_reducible exact Below.refl _ _ | with_reducible exact hBW | with_reducible refine Below.setCell ?_ ?_ _ | with_reducible refine Below.alloc ?_ ?_ _ | with_reducible refine belowN ?_ _ | with_reducible refine Below.drew ?_)); all_goals (first | omega | (dsimp only; omega) | ((repeat (first | with_reducible refine le_alloc ?_ | with_reducible refine le_setCell ?_ | with_reducible refine le_drew ?_ | with_reducible refine le_drewN ?_)); omega))
  have G0 := Lib.hid g0
  clear hW0 g0
  by_cases h0 : 0 < n
  · obtain ⟨b, es, Si, rfl, hb, hh, hel, hall⟩ := T.own_mk.1 HO.out (by rw [HN.out]; exact h0)
    have HALL := Lib.hid hall
    have HSB := Lib.hid hb
    have HEL : Hid (es.length = n) := hel.trans HN.out
    have hbw := lt_of_heap hh
    have HBW := Lib.hid hbw
    have I0 : Hid (SpI b es Si W0 0 W0) := ⟨⟨rowC es, (hB0.out.block b hbw).trans hh, rowC_length es, fun j _ => rfl⟩, Fr.refl _ _⟩
    have HSI : Hid (∀ j x, j < n → Si j x → S x ∧ x ≠ b ∧ x < w.heap.size ∧ ∀ i, i < j → ¬ Si i x) := fun j x hj hx => by
      obtain ⟨c, hc⟩ : ∃ c, l[j]? = some c := ⟨_, List.getElem?_eq_getElem (by rw [HN.out]; exact hj)⟩
      have h := (HALL.out j c hc).2 x hx
      exact ⟨h.1, h.2.1, HS.out x h.1, h.2.2⟩
    clear hall hb hh hel hbw
    go_wp2_with fail
    go_loopg [2] n (fun gh i wr => ∃ k : Nat, i = .int .i64 (k : Int) ∧ gh = n - k ∧ k ≤ n ∧ Hid (SpI b es Si W0 k wr))
    case atStart => exact ⟨0, rfl, rfl, Nat.zero_le _, I0⟩
    clear I0
    case round =>
      obtain ⟨k, rfl, rfl, hk, hI⟩ := hrel
      have g0 : wr.heap[w.heap.size]? = some (.cells (ncells o (.slice (some ⟨b, 0, none⟩) n cap)).toArray 35) := (hI.out.fr.block _ (lt_of_heap G0.out) (by
        rintro (h | ⟨j, hj, h⟩)
        · have := HBW.out; omega
        · have := (HSI.out j _ (by omega) h).2.2.1
          omega)).trans G0.out
      have GB := Lib.hid g0
      have x21 : wr.cell? ⟨w.heap.size, 21, none⟩ = some (.slice (some ⟨b, 0, none⟩) n cap) := cell_of_heap g0 21
      have z0 := lt_of_heap g0
      clear g0
      by_cases hlt : k < n
      · obtain ⟨c, hc⟩ : ∃ c, l[k]? = some c := ⟨_, List.getElem?_eq_getElem (by rw [HN.out]; exact hlt)⟩
        obtain ⟨⟨a', c', he, hOw⟩, hSi⟩ := HALL.out k c hc
        obtain ⟨C, hrow, hCl, hCr⟩ := hI.out.row
        have RNG : Hid (wr.rangeAt b (k * 22) (ncells c.o (.slice a' c.l.length c'))) := range_nd (fun j hj => by
          rw [cell_of_heap hrow, List.getElem?_toArray, hCr _ (by omega)]
          exact rowC_at he hj)
        have hOr : c.Own wr a' (Si k) := hOw.frame c (fun x hx hxl => by
          have h := HSI.out k x hlt hx
          refine (hI.out.fr.block x (Nat.lt_of_lt_of_le h.2.2.1 hB0.out.size) ?_).trans (hB0.out.block x h.2.2.1)
          rintro (e | ⟨j, hj, hj2⟩)
          · exact h.2.1 e
          · exact h.2.2.2 j hj hj2)
        have SP := Lib.hid (IH.out c (List.mem_of_getElem? hc) a' c' (Si k) wr hOr (fun x hx => Nat.lt_of_lt_of_le (HSI.out k x hlt hx).2.2.1 (Nat.le_trans hB0.out.size hI.out.fr.size)))
        have HROW := Lib.hid hrow
        have HCL := Lib.hid hCl
        have HCR := Lib.hid hCr
        have j1 : (0 : Int) ≤ (k : Int) := by omega
        have j2 : (k : Int) < (n : Int) := by omega
        clear hrow hCl hCr hOr hOw hSi he hc
        go_wp2_with (refine wpList_load_g rfl 35 (.tmp 13) rfl b (k * 22) rfl _ _ RNG.out Try.underlying35 rfl info35 ?_)
        refine SP.out.mono ?_
        rintro e w5 ⟨⟨v, rfl⟩, hf5⟩
        have g5 : w5.heap[w.heap.size]? = some (.cells (ncells o (.slice (some ⟨b, 0, none⟩) n cap)).toArray 35) := (hf5.block _ z0 (fun h => by have := (HSI.out k _ hlt h).2.2.1; omega)).trans GB.out
        have R5 : Hid (w5.heap[b]? = some (.cells C.toArray 35)) := (hf5.block _ (lt_of_heap HROW.out) (fun h => (HSI.out k _ hlt h).2.1 rfl)).trans HROW.out
        have y21 : w5.cell? ⟨w.heap.size, 21, none⟩ = some (.slice (some ⟨b, 0, none⟩) n cap) := cell_of_heap g5 21
        have z5 := lt_of_heap g5
        have HF5 := Lib.hid hf5
        have zr : k * 22 + 22 ≤ C.length := by have := HCL.out; have := HEL.out; omega
        have ZR := Lib.hid zr
        clear g5 hf5 SP RNG x21 z0 GB zr
        go_wp2_with (first | refine wpList_build1 rfl 35 0 (.const (.int .i64 99)) rfl (.int .i64 99) rfl _ build_99 ?_ | (refine wpList_store_nd rfl (.tmp 20) (.tmp 19) rfl b (k * 22) C 35 R5.out ZR.out nd99 (.slice none 0 0) rfl rfl rfl ?_; intro W6 p1 p2 p3))
        have I6 : Hid (SpI b es Si W0 (k + 1) W6) := hI.out.next (by rw [HEL.out]; exact hlt) HCL.out HCR.out HF5.out p1 p2
        clear p1 p2 p3 R5 HF5 hI y21 z5
        go_roundg (n - (k + 1))
        case measure => omega
        case rel => exact ⟨k + 1, by go_num, rfl, by omega, I6⟩
      · have FIN : Hid (Fr S w wr) := (Fr.of_below hB0.out).trans hI.out.fr (fun x _ hx => by
          rcases hx with h | ⟨j, hj, h⟩
          · rw [h]; exact HSB.out
          · exact (HSI.out j x (by omega) h).1)
        clear hI
        go_wp2_with fail
        go_end0
        exact ⟨⟨_, rfl⟩, FIN.out⟩
  · have hn0 : n = 0 := by omega
    subst hn0
    have x21 : W0.cell? ⟨w.heap.size, 21, none⟩ = some (.slice a 0 cap) := cell_of_heap G0.out 21
    have z0 := lt_of_heap G0.out
    go_wp2_with fail
    go_loopg [2] 0 (fun gh i wr => i = .int .i64 0 ∧ wr = W0 ∧ gh = 0)
    case atStart => exact ⟨rfl, rfl, rfl⟩
    case round =>
      obtain ⟨rfl, rfl, rfl⟩ := hrel
      go_wp2_with fail
      go_end0
      exact ⟨⟨_, rfl⟩, Fr.of_below hB0.out⟩
theorem spoil_any (t : T) : t.size ≤ 2097152 → ∀ (a : Option Addr) (cap : Nat) (S : Nat → Prop) (w : World), t.Own w a S → (∀ k, S k → k < w.heap.size) → Calls Try.prog 19 #[nagg t.o (.slice a t.l.length cap)] w (SpR S w) := by
  induction t using T.ind with
  | h o l ih =>
    intro hz a cap S w hO hS
    exact spoil_step o l (fun t ht a cap S w h1 h2 => ih t ht (by have := T.size_le (o := o) ht; omega) a cap S w h1 h2) (by have := T.len_le o l; omega) a cap S w hO hS
end Go.Proofs.Ytlcglkanlhmmdaa
