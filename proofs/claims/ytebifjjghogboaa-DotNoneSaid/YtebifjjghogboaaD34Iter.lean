/- All's function: it yields the row of a Seen, in its order. -/
import Derived.Test.YtebifjjghogboaaD34All
namespace Go.Proofs.Ytebifjjghogboaa
open Go.RowKit Go.Shelf Go.Maps
attribute [local go_sem] Oper.semAt_some
theorem grown_of_below {W W' : World} (h : Below W.heap.size W W') : W.grownBy W' none := ⟨h.os, h.tape, h.output, h.size, fun k hk _ => h.block k hk⟩
theorem zero3 (w : World) : (zeroValue 3).run Try.prog w = .ok (.int .i64 0) w := Try.zeroValue3 w
theorem int_look {w : World} {c : Nat} {L : List Id2} (h : MapL w c L) (a : Int) : (Instr.lookup 47 (.map (some c)) (.int .i64 a) false).run Try.prog w = .ok (.int .i64 (mo L a)) w := by
  obtain ⟨l, h1, h2, h3⟩ := h
  have := h1.is.look1 (int_fits Try.underlying3) Try.underlying47 (zero3 w) a
  rw [getL_of_perm h2 h1.is.nodup] at this
  unfold mo
  rw [this]
  cases getL L a <;> rfl
set_option maxRecDepth 100000 in
set_option maxHeartbeats 1000000 in
theorem iter_in (l Bn : Nat) (v : Value) (L : List Id2) (Z : Nat → Prop) (J Jx : List (SIn L) → World → Prop)
    (hY : ∀ pre x W, J pre W → pre.length < L.length → YieldAt Fence.wide 6 Try.prog l (encS x) W fun e W' =>
      (e = .returned (.bool true) ∧ J (pre ++ [x]) W' ∧ KZ Z W W') ∨ (e = .returned (.bool false) ∧ Jx (pre ++ [x]) W'))
    (W : World) (hZ : ∀ k, Z k → k < W.heap.size) (hBn : W.heap[Bn]? = some (.cells #[v] 26)) (hv : SnV W v L) (hJ : AbidesFrom W.heap.size J) (h0 : J [] W) :
    CallsIn Fence.wide 7 Try.prog 31 #[.func (.yield l) #[] #[], .pointer (some ⟨Bn, 0, none⟩)] W fun e W' => (∃ v, e = .returned v) ∧
      ((∃ ys, ys = L.attach ∧ J ys W') ∨ (∃ pre, pre <+: L.attach ∧ Jx pre W')) := by
  have c0 := cell_of_heap hBn 0
  refine callsIn_of_wp Try.func31 rfl trivial ?_ rfl
  simp only [Try.ntmps31, List.size_toArray, List.length_cons, List.length_nil, Nat.reduceAdd, Nat.reduceSub, Array.replicate_succ, Array.replicate_zero, List.push_toArray, List.append_toArray, List.nil_append, List.cons_append]
  rcases hv with ⟨rfl, rfl⟩ | ⟨p, rfl, hp, rfl⟩ | ⟨p, b, rfl, hp, hm⟩
  · gi_wp2
    refine bodyPost_ret (results_none rfl _ _ _) rfl ?_
    exact ⟨⟨_, rfl⟩, .inl ⟨_, rfl, h0⟩⟩
  · have c1 := cell_of_heap hp 0
    gi_wp2_with fail
    refine ⟨trivial, (clone_nil _).mono ?_⟩
    rintro e W1 ⟨rfl, rfl⟩
    gi_wp2_with fail
    refine ⟨trivial, (keys_of none _).mono ?_⟩
    rintro e W2 ⟨rfl, rfl⟩
    gi_wp2_with fail
    refine ⟨trivial, (sorted_nil' _).mono ?_⟩
    rintro e W3 ⟨rfl, hb⟩
    have hJ3 := hJ _ _ _ none h0 (grown_of_below hb) (fun r h => by cases h)
    gi_wp2
    gi_loopw [17] (fun x wr => x = .int .i64 0 ∧ wr = W3) (fun _ _ => 0)
    case atStart => exact ⟨rfl, rfl⟩
    case round =>
      obtain ⟨rfl, rfl⟩ := hrel
      gi_wp2
      go_end0
      exact ⟨⟨_, rfl⟩, .inl ⟨_, rfl, hJ3⟩⟩
  · have c1 := cell_of_heap hp 0
    obtain ⟨q, ⟨es, clock, hes, hq⟩, hq2⟩ := hm
    gi_wp2_with fail
    refine ⟨trivial, (clone_of b es clock _ hes).mono ?_⟩
    rintro e W1 ⟨rfl, rfl⟩
    gi_wp2_with fail
    refine ⟨trivial, (keys_of _ _).mono ?_⟩
    rintro e W2 ⟨rfl, rfl⟩
    have hML : MapL (W.alloc (.map es clock)) W.heap.size L := ⟨q, ⟨es, clock, heap_alloc_new _ _, hq⟩, hq2⟩
    gi_wp2_with fail
    have hS := sorted_of' _ _ L hML
    simp only [World.size_alloc] at hS
    refine ⟨trivial, hS.mono ?_⟩
    clear hS
    rintro e W3 ⟨v, rfl, hown, hb⟩
    have hM3 : MapL W3 W.heap.size L := hML.of_block (hb.block _ (Nat.lt_succ_self _))
    have hb3 : Below W.heap.size W W3 := ((Below.refl _ W).alloc (Nat.le_refl _) _).trans (hb.mono (Nat.le_succ _))
    have hJ3 := hJ _ _ _ none h0 (grown_of_below hb3) (fun r h => by cases h)
    have hG := hq2.2
    have hlen := hG.length
    have HM3 := Lib.hid hM3
    have HJ3 := Lib.hid hJ3
    have HG := Lib.hid hG
    have HB3 := Lib.hid hb3
    clear hes hq hq2 hML hM3 hb hb3 hJ3 hG c0 c1
    rcases hown.2 with ⟨rfl, hz⟩ | ⟨gb, cap, cur, rfl, hbase, hgb, r1, r2, r3, r4⟩
    · have hL : L = [] := List.length_eq_zero_iff.1 hz
      subst hL
      gi_wp2
      gi_loopw [17] (fun x wr => x = .int .i64 0 ∧ wr = W3) (fun _ _ => 0)
      case atStart => exact ⟨rfl, rfl⟩
      case round =>
        obtain ⟨rfl, rfl⟩ := hrel
        gi_wp2
        go_end0
        exact ⟨⟨_, rfl⟩, .inl ⟨_, rfl, HJ3.out⟩⟩
    · have H0 : Hid (J (L.attach.take 0) W3) := HJ3
      clear HJ3 h0 hown
      have hnz : Hid (¬ Z gb) := fun h => by have := hZ _ h; omega
      have hnc : Hid (¬ Z W.heap.size) := fun h => by have := hZ _ h; omega
      have hcur : Hid (∀ (k : Nat) (x : Id2), L[k]? = some x → cur[k]? = some (.int .i64 x.1)) := fun k x hx => by
        have h1 : (cur.toList.take (L.length * 1))[k]? = (L.map fun p => encZ p.1)[k]? := by rw [r4]
        have hk : k < L.length := (List.getElem?_eq_some_iff.1 hx).1
        rw [List.getElem?_take, if_pos (by omega), List.getElem?_map, hx] at h1
        simpa using h1
      have HGB := Lib.hid hgb
      have HM := Lib.hid HM3
      clear r4 HM3 hgb
      gi_wp2
      gi_loopw [17] (fun x wr => ∃ k : Nat, x = .int .i64 k ∧ k ≤ L.length ∧ Hid (wr.heap[gb]? = some (.cells cur 3 (0, 0))) ∧ Hid (MapL wr W.heap.size L) ∧ Hid (W.heap.size ≤ wr.heap.size) ∧ Hid (J (L.attach.take k) wr)) (fun x _ => L.length - (intOf x).toNat)
      case atStart => exact ⟨0, rfl, Nat.zero_le _, HGB, HM.out, HB3.out.size, H0⟩
      case round =>
        obtain ⟨k, rfl, hk, hgk, hmk, hsk, hJk⟩ := hrel
        by_cases hlt : k < L.length
        · obtain ⟨⟨v, hvm⟩, hx⟩ : ∃ x : SIn L, L.attach[k]? = some x := ⟨_, List.getElem?_eq_getElem (by simpa using hlt)⟩
          have hv : L[k]? = some v := by
            have := congrArg (Option.map Subtype.val) hx
            rw [← List.getElem?_map, List.attach_map_subtype_val] at this
            exact this
          have hck := cell_of_heap hgk.out k
          rw [hcur.out k v hv] at hck
          have TK : Hid (L.attach.take (k + 1) = L.attach.take k ++ [⟨v, hvm⟩]) := by
            unfold Hid
            rw [List.take_add_one, hx]
            rfl
          have PF : Hid (L.attach.take k ++ [⟨v, hvm⟩] <+: L.attach) := by
            rw [← TK.out]; exact List.take_prefix _ _
          have hlook := int_look hmk.out v.1
          rw [mo_mem HG.out hvm] at hlook
          obtain ⟨fn, tmps, assign, body, hy, hR⟩ := hY _ ⟨v, hvm⟩ _ hJk.out (by simp; omega)
          unfold encS at hy
          dsimp only at hy
          have j1 : (0 : Int) ≤ (k : Int) := by omega
          have j2 : (k : Int) < (L.length : Int) := by omega
          have HR := Lib.hid hR
          clear hR hx hv
          gi_wp2
          refine HR.out.mono ?_
          rintro e W4 (⟨rfl, hJ4, hk4⟩ | ⟨rfl, hJx4⟩)
          · have HJ4 := Lib.hid hJ4
            have HG4 : Hid (W4.heap[gb]? = some (.cells cur 3 (0, 0))) := hk4.same gb _ hnz.out hgk.out (.inl rfl)
            have HM4 : Hid (MapL W4 W.heap.size L) := by
              obtain ⟨l', ⟨es', c', h1, h2⟩, h3⟩ := hmk.out
              exact ⟨l', ⟨es', c', hk4.same _ _ hnc.out h1 (.inr rfl), h2⟩, h3⟩
            have HS4 : Hid (W.heap.size ≤ W4.heap.size) := Nat.le_trans hsk.out hk4.size
            clear hJ4 hk4 HR hy hck hlook
            gi_wp2
            go_roundw
            case rel => exact ⟨k + 1, by go_num, by omega, HG4, HM4, HS4, by rw [TK.out]; exact HJ4⟩
            case measure => simp [intOf]; omega
          · have HJ4 := Lib.hid hJx4
            clear hJx4 HR hy hck hlook
            gi_wp2
            refine bodyPost_ret (results_none rfl _ _ _) rfl ?_
            exact ⟨⟨_, rfl⟩, .inr ⟨_, PF.out, HJ4.out⟩⟩
        · have e : L.attach.take k = L.attach := List.take_of_length_le (by simp; omega)
          rw [e] at hJk
          clear e
          gi_wp2
          go_end0
          exact ⟨⟨_, rfl⟩, .inl ⟨_, rfl, hJk.out⟩⟩
theorem iter_stops (Bn : Nat) (v : Value) (L : List Id2) (Z : Nat → Prop) (w : World) (hZ : ∀ k, Z k → k < w.heap.size) (hBn : w.heap[Bn]? = some (.cells #[v] 26)) (hv : SnV w v L) :
    SeqStopsK Fence.wide 7 Try.prog 31 #[.pointer (some ⟨Bn, 0, none⟩)] (fun x : SIn L => encS x) (KZ Z) (fun ys => ys = L.attach) (fun pre => pre <+: L.attach) L.length w := fun l J Jx W hW hJ _ hY h0 =>
  iter_in l Bn v L Z J Jx hY W (fun k h => Nat.lt_of_lt_of_le (hZ k h) hW.size) ((hW.block Bn (lt_of_heap hBn)).trans hBn) (hv.below hW) hJ h0
end Go.Proofs.Ytebifjjghogboaa
