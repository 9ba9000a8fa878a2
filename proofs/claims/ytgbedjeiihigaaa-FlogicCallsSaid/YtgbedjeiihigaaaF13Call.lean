/- Call at AND, OR, XOR: arguments that may be. -/
import Derived.Test.YtgbedjeiihigaaaF13Tab2
import Derived.Laws.EntriesVeiled
namespace Go.Proofs.Ytgbedjeiihigaaa
open Go.RowKit
theorem zero48 (w : World) : (zeroValue 48).run Try.prog w = .ok (.agg #[.int .i64 0, .int .i64 0, .nilFunc]) w := by kernel_rfl
def CallPost (w : World) (A : Arr) (e : Ending) (w' : World) : Prop := ∃ x, e = .returned (.tuple #[x, .bool true]) ∧ IsArr w.heap.size w' x A ∧ Below w.heap.size w w'
theorem call_hand {w w1 : World} {b : Nat} {A : Arr} {a : Option Addr} {cap n : Nat} (hb : w.heap.size ≤ b) (hsl : SlB (b + 1) w1 a A.l) (hB : Below w.heap.size w w1) (x y z : Value) :
    CallPost w A (.returned (.tuple #[.agg #[.int .i64 A.r, .int .i64 A.c, .slice a A.l.length cap], .bool true])) ((((w1.setCell ⟨b, 0, none⟩ x).setCell ⟨b, 1, none⟩ y).setCell ⟨b, 2, none⟩ z).drewN n) := by
  obtain ⟨u, e, h1, h2⟩ := arr_hand (n := n) (cap := cap) hb hsl hB x y z
  cases e
  exact ⟨_, rfl, h1, h2⟩
theorem TableAt.below {w w' : World} {B b1 b2 b3 b4 b5 b6 b7 b8 b9 : Nat} (h : TableAt w B b1 b2 b3 b4 b5 b6 b7 b8 b9) (hb : Below w.heap.size w w') : TableAt w' B b1 b2 b3 b4 b5 b6 b7 b8 b9 := by
  have k : ∀ {b : Nat} {o : Obj}, w.heap[b]? = some o → w'.heap[b]? = some o := fun h => (hb.block _ (lt_of_heap h)).trans h
  have kk : ∀ {b : Nat} {n : Int}, KindAt w b n → KindAt w' b n := fun ⟨q, h1, h2⟩ => ⟨q, k h1, k h2⟩
  exact ⟨h.map.of_block (hb.block _ h.map.lt), k h.c1, k h.c2, k h.c3, k h.c4, kk h.c5, kk h.c6, kk h.c7, kk h.c8, kk h.c9⟩
set_option maxHeartbeats 2000000 in
set_option maxRecDepth 100000 in
theorem call_truths {fn : Int → Int → Bool} {g : Nat} (s : ByteArray) (hF : FnOk g fn) (hE : ∀ args W, (callFunc g args).run Try.prog W = .ok (.enter g args) W)
    (hG : ∀ (w : World) (B b1 b2 b3 b4 b5 b6 b7 b8 b9 : Nat), TableAt w B b1 b2 b3 b4 b5 b6 b7 b8 b9 → ∃ b, getL (tbl b1 b2 b3 b4 b5 b6 b7 b8 b9) s = some (fnV 1 32 51 #[ptrV b]) ∧ w.heap[b]? = some (.cells #[.func (.func g) #[] #[]] 63))
    (l : List Arr) (h1 : 1 ≤ l.length) (h2 : l.length ≤ 32) (hT : ∀ A ∈ l, ∀ v ∈ A.l, TOk v) (hO : ∀ A ∈ l, ArrOk A) (hN : (allV l).length ≤ 1000000) (a : Option Addr) (cap : Nat) (w : World) (hA : ArgsAt 0 w a l) :
    Calls Try.prog 10 #[.string s, .slice a l.length cap] w (CallPost w ⟨1, 1, [truthsV fn l]⟩) := by
  have HF := Lib.hid hF
  have HE := Lib.hid hE
  have HG := Lib.hid hG
  have HT := Lib.hid hT
  have HO := Lib.hid hO
  have HN := Lib.hid hN
  have HA := Lib.hid hA
  clear hF hE hG hT hO hN hA
  go_enter Try.func10, Try.ntmps10
  go_wp2_with fail
  refine (table_any _).mono ?_
  rintro e w1 ⟨B, b1, b2, b3, b4, b5, b6, b7, b8, b9, rfl, hTab, hb⟩
  obtain ⟨bf, hget, hbf⟩ := HG.out w1 B b1 b2 b3 b4 b5 b6 b7 b8 b9 hTab
  have hl := hTab.map.look2 (string_fits Try.underlying9) Try.underlying50 (zero48 w1) s
  rw [hget] at hl
  unfold fnV ptrV at hl
  simp only [Option.map_some, Option.getD_some, Option.isSome_some, id] at hl
  have hs1 : w.heap.size + 1 ≤ w1.heap.size := by have := hb.size; simpa using this
  have g0 : w1.heap[w.heap.size]? = some (.cells #[.int .i64 0, .int .i64 0, .slice none 0 0] 27) := (hb.block _ (by simp)).trans (by (repeat (first | (with_reducible refine heap_alloc_at ?_ _; (first | rfl | (simp; done) | omega | (simp; omega)); done) | with_reducible refine heap_alloc_old ?_ _ | with_reducible refine heap_drew_old ?_ | with_reducible refine heap_drewN_old ?_)))
  have FB : Hid (Below w.heap.size w w1) := by
    refine Below.trans ?_ (hb.mono (by simp))
    (repeat (first | with_reducible exact Below.refl _ _ | with_reducible exact hBW | with_reducible refine Below.setCell ?_ ?_ _ | with_reducible refine Below.alloc ?_ ?_ _ | with_reducible refine belowN ?_ _ | with_reducible refine Below.drew ?_)); all_goals (first | omega | (dsimp only; omega) | ((repeat (first | with_reducible refine le_alloc ?_ | with_reducible refine le_setCell ?_ | with_reducible refine le_drew ?_ | with_reducible refine le_drewN ?_)); omega))
  have G0 := Lib.hid g0
  have HBF := Lib.hid hbf
  clear g0 hb hbf hget hTab HG
  go_wp2_with fail
  clear hl
  refine abs_world ?_
  intro W2 hW2
  have hB2 : Below w1.heap.size w1 W2 := by rw [hW2]; (repeat (first | with_reducible exact Below.refl _ _ | with_reducible exact hBW | with_reducible refine Below.setCell ?_ ?_ _ | with_reducible refine Below.alloc ?_ ?_ _ | with_reducible refine belowN ?_ _ | with_reducible refine Below.drew ?_)); all_goals (first | omega | (dsimp only; omega) | ((repeat (first | with_reducible refine le_alloc ?_ | with_reducible refine le_setCell ?_ | with_reducible refine le_drew ?_ | with_reducible refine le_drewN ?_)); omega))
  have e6 : W2.heap[w1.heap.size]? = some (.cells #[.int .i64 1, .int .i64 32, .func (.func 51) #[] #[.pointer (some ⟨bf, 0, none⟩)]] 48) := by rw [hW2]; (repeat (first | (with_reducible refine heap_alloc_at ?_ _; (first | rfl | (simp; done) | omega | (simp; omega)); done) | with_reducible refine heap_alloc_old ?_ _ | with_reducible refine heap_drew_old ?_ | with_reducible refine heap_drewN_old ?_))
  have E6 := Lib.hid e6
  have HB2 := Lib.hid hB2
  clear hW2 hB2 e6
  go_loopw [34] (fun i wr => ∃ k : Nat, i = .int .i64 k ∧ k ≤ l.length ∧ Below W2.heap.size W2 wr) (fun i _ => l.length - (intOf i).toNat)
  case atStart => exact ⟨0, rfl, Nat.zero_le _, Below.refl _ _⟩
  case round =>
    obtain ⟨k, rfl, hk, hB⟩ := hrel
    have HB := Lib.hid hB
    have HBw : Hid (Below w.heap.size w wr) := FB.out.trans ((HB2.out.trans (hB.mono HB2.out.size)).mono FB.out.size)
    clear hB
    by_cases hlt : k < l.length
    · obtain ⟨A, hAk⟩ : ∃ A, l[k]? = some A := ⟨_, List.getElem?_eq_getElem hlt⟩
      obtain ⟨b, off, rfl, _, hb, hall⟩ := (HA.out.below HBw.out) (by omega)
      obtain ⟨a', cap', c0, c1, c2, hsl⟩ := hall k A hAk
      have HAk := Lib.hid hAk
      have HSL := Lib.hid hsl
      clear hall hAk hsl
      go_wp2_with fail
      refine (shapeRight_yes A (HO.out A (List.mem_of_getElem? HAk.out)) _ _ ⟨a', cap', rfl, HSL.out.below (below_alloc wr _ _ (Nat.le_refl _))⟩).mono ?_
      rintro e' w3 ⟨rfl, hb3⟩
      have HB3 : Hid (Below W2.heap.size W2 w3) := HB.out.trans (((below_alloc wr _ _ (Nat.le_refl _)).trans (hb3.mono (by simp))).mono HB.out.size)
      clear hb3 c0 c1 c2
      go_wp2_with fail
      go_roundw
      case rel => exact ⟨k + 1, by go_num, by omega, HB3.out⟩
      case measure => simp [intOf]; omega
    · have e6 := (HB.out.block w1.heap.size (lt_of_heap E6.out)).trans E6.out
      have x2 := cell_of_heap e6 2
      have hn6 : w1.heap.size < wr.heap.size := lt_of_heap e6
      have pc := cell_of_heap (((HB2.out.trans (HB.out.mono HB2.out.size)).block bf (lt_of_heap HBF.out)).trans HBF.out) 0
      have PC := Lib.hid pc
      clear e6 pc
      go_wp2_with fail
      refine (truths1_any HF.out HE.out l HT.out HN.out (by omega) a cap bf wr (HA.out.below HBw.out) PC.out).mono ?_
      rintro e' w3 ⟨x3, rfl, ⟨a3, cap3, rfl, hsl3⟩, hb4⟩
      have hB3 : Below w1.heap.size w1 w3 := HB2.out.trans ((HB.out.trans (hb4.mono HB.out.size)).mono HB2.out.size)
      have e0 := (hB3.block w.heap.size (lt_of_heap G0.out)).trans G0.out
      have x0 := cell_of_heap e0
      have y0 := frozen_of_heap e0
      have hn0 : w.heap.size < w3.heap.size := lt_of_heap e0
      have HSL3 := Lib.hid (hsl3.mono (B' := w.heap.size + 1) (by have := HBw.out.size; omega))
      have HB3 := Lib.hid (FB.out.trans (hB3.mono FB.out.size))
      clear hsl3 hb4 hB3 e0 x2
      go_wp2_with fail
      refine bodyPost_ret (v := .tuple #[.agg #[.int .i64 1, .int .i64 1, .slice a3 1 cap3], .bool true]) (by simp [results, Try.results10, go_sem, x0]) rfl ?_
      exact call_hand (A := ⟨1, 1, [truthsV fn l]⟩) (n := 0) (Nat.le_refl _) HSL3.out HB3.out _ _ _
end Go.Proofs.Ytgbedjeiihigaaa
