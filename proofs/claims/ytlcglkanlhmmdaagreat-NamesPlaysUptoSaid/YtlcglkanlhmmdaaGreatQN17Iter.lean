/- All's function: it yields the names of a table, rising, each with a copy of its tree. -/
import Derived.Test.YtlcglkanlhmmdaaGreatQRangeG
namespace Go.Proofs.YtlcglkanlhmmdaaGreat
open Go.RowKit Go.Shelf Go.Maps
attribute [local go_sem] Oper.semAt_some
/-- What is yielded: a name, a tree in memory S. -/
structure It where
  s : ByteArray
  t : T
  a : Option Addr
  c : Nat
  S : Nat → Prop
def It.key (x : It) : ByteArray × T := (x.s, x.t)
def encI (x : It) : Array Value := #[.string x.s, nagg x.t.o (.slice x.a x.t.l.length x.c)]
/-- What is known where it comes. -/
def GI (B : Nat) (L : List (ByteArray × T)) (pre : List It) (x : It) (W : World) : Prop := (sortP L)[pre.length]? = some x.key ∧ x.t.Own W x.a x.S ∧ ∀ k, x.S k → B ≤ k ∧ CellsAt W k
theorem GI.kz {B : Nat} {L : List (ByteArray × T)} (pre : List It) (x : It) (W W' : World) (h : GI B L pre x W) (hk : KZ (fun _ => False) W W') : GI B L pre x W' :=
  ⟨h.1, h.2.1.kz hk x.t (fun _ _ h => h), fun k hS => ⟨(h.2.2 k hS).1, by
    obtain ⟨cs, ty, fz, e⟩ := (h.2.2 k hS).2
    exact ⟨cs, ty, fz, hk.same k _ (fun h => h) e (.inl rfl)⟩⟩⟩
theorem get_of_sort {w : World} {L : List (ByteArray × T)} {mo : Option Nat} (h : TabV w mo L) {k : Nat} {s : ByteArray} {t : T} (hk : (sortP L)[k]? = some (s, t)) : getL L s = some t := by
  have hm : (s, t) ∈ L := (sortP_perm L).mem_iff.1 (List.mem_of_getElem? hk)
  have hn : (L.map Prod.fst).Nodup := by
    cases mo with
    | none =>
      have hL : L = [] := h
      rw [hL]
      simp
    | some mt =>
      obtain ⟨vs, ⟨es, c, _, _, h3, _⟩, h4, _⟩ := h
      rw [← h4]
      exact h3
  obtain ⟨j, hj⟩ := List.mem_iff_getElem?.1 hm
  exact getL_of_at hn hj
theorem sortP_nil : sortP [] = [] := List.mergeSort_nil
set_option maxRecDepth 100000 in
set_option maxHeartbeats 4000000 in
theorem iter_in (l Bn pt B : Nat) (L : List (ByteArray × T)) (Z : Nat → Prop) (J Jx : List It → World → Prop)
    (hY : ∀ pre x W, J pre W → pre.length < L.length → GI B L pre x W → YieldAt Fence.wide 6 Tryz.prog l (encI x) W fun e W' =>
      (e = .returned (.bool true) ∧ J (pre ++ [x]) W' ∧ KZ (fun k => Z k ∨ x.S k) W W') ∨ (e = .returned (.bool false) ∧ Jx (pre ++ [x]) W'))
    (W : World) (hB : B ≤ W.heap.size) (hZ : ∀ k, Z k → OneC W k ∧ k ≠ pt ∧ k ≠ Bn) (hBn : W.heap[Bn]? = some (.cells #[.pointer (some ⟨pt, 0, none⟩)] 25)) (hT : Tab W pt L) (hl : L.length ≤ 1000) (hz : ∀ p ∈ L, p.2.size ≤ 2097152 ∧ p.1.size ≤ 1048576) (hJ : LowFrom W.heap.size J) (h0 : J [] W) :
    CallsIn Fence.wide 7 Tryz.prog 46 #[.func (.yield l) #[] #[], .pointer (some ⟨Bn, 0, none⟩)] W fun e W' => (∃ v, e = .returned v) ∧
      ((∃ ys, ys.map It.key = sortP L ∧ J ys W') ∨ (∃ pre, pre.map It.key <+: sortP L ∧ Jx pre W')) := by
  have c0 := cell_of_heap hBn 0
  have HT := Lib.hid hT
  obtain ⟨mo, hp, hV⟩ := hT
  have c1 := cell_of_heap hp 0
  have zp := lt_of_heap hp
  have HBN := Lib.hid hBn
  have HZS := Lib.hid hz
  have HZ := Lib.hid hZ
  have HJ := Lib.hid hJ
  have HB := Lib.hid hB
  have HY := Lib.hid hY
  clear hp hBn hz hZ hJ hB hY
  refine callsIn_of_wp Tryz.func46 rfl trivial ?_ rfl
  simp only [Tryz.ntmps46, List.size_toArray, List.length_cons, List.length_nil, Nat.reduceAdd, Nat.reduceSub, Array.replicate_succ, Array.replicate_zero, List.push_toArray, List.append_toArray, List.nil_append, List.cons_append]
  cases mo with
  | none =>
    have hL : L = [] := hV
    subst hL
    gi_wp2_with fail
    refine ⟨trivial, (keys_of none W).mono ?_⟩
    rintro e W2 ⟨rfl, rfl⟩
    gi_wp2_with fail
    refine ⟨trivial, (sorted_nil W).mono ?_⟩
    rintro e W3 ⟨rfl, hb⟩
    have HJ3 := Lib.hid (HJ.out _ _ _ h0 hb)
    clear hb h0 c0 c1
    gi_wp2
    gi_loopw [16] (fun x wr => x = .int .i64 0 ∧ wr = W3) (fun _ _ => 0)
    case atStart => exact ⟨rfl, rfl⟩
    case round =>
      obtain ⟨rfl, rfl⟩ := hrel
      gi_wp2
      go_end0
      exact ⟨⟨_, rfl⟩, .inl ⟨[], sortP_nil.symm, HJ3.out⟩⟩
  | some mt =>
    have hV' := hV
    obtain ⟨vs, hm, hk, _⟩ := hV'
    have SRT := Lib.hid (sorted_of W mt L vs hm hk (fun p hp => (HZS.out p hp).2) hl)
    clear hm hk
    gi_wp2_with fail
    refine ⟨trivial, (keys_of (some mt) W).mono ?_⟩
    rintro e W2 ⟨rfl, rfl⟩
    gi_wp2_with fail
    refine ⟨trivial, SRT.out.mono ?_⟩
    rintro e W3 ⟨v, rfl, hown, hb⟩
    have HJ3 := Lib.hid (HJ.out _ _ _ h0 hb)
    have HB3 := Lib.hid hb
    clear hb h0 c0 c1 SRT
    rcases hown.2 with ⟨rfl, hz⟩ | ⟨gb, cap, cur, rfl, hbase, hgb, r1, r2, r3, r4⟩
    · have hL : L = [] := List.length_eq_zero_iff.1 hz
      subst hL
      clear hown
      gi_wp2
      gi_loopw [16] (fun x wr => x = .int .i64 0 ∧ wr = W3) (fun _ _ => 0)
      case atStart => exact ⟨rfl, rfl⟩
      case round =>
        obtain ⟨rfl, rfl⟩ := hrel
        gi_wp2
        go_end0
        exact ⟨⟨_, rfl⟩, .inl ⟨[], sortP_nil.symm, HJ3.out⟩⟩
    · obtain ⟨n, hn⟩ : ∃ n, L.length = n := ⟨_, rfl⟩
      rw [hn] at hl r4 ⊢
      have HN := Lib.hid hn
      have hcur : Hid (∀ (k : Nat) (s : ByteArray) (t : T), (sortP L)[k]? = some (s, t) → cur[k]? = some (.string s)) := fun k s t hx => by
        have h1 : (cur.toList.take (n * 1))[k]? = ((sortP L).map fun p => Value.string p.1)[k]? := by rw [r4]
        have hk : k < n := by have := (List.getElem?_eq_some_iff.1 hx).1; rwa [sortP_length, hn] at this
        rw [List.getElem?_take, if_pos (by omega), List.getElem?_map, hx] at h1
        simpa using h1
      have HGB := Lib.hid hgb
      have HBASE := Lib.hid hbase
      have HK0 : Hid (KZ (fun k => Z k ∨ W.heap.size ≤ k) W W3) := KZ.of_below HB3.out
      have H0 : Hid (J [] W3) := HJ3
      have HP0 : Hid (([] : List It).map It.key = (sortP L).take 0) := rfl
      have HVV := Lib.hid hV
      clear r1 r2 r3 r4 hgb hbase hn hown HB3 HJ3 hV
      gi_wp2
      gi_loopw [16] (fun x wr => ∃ (k : Nat) (pre : List It), x = .int .i64 k ∧ k ≤ n ∧ Hid (pre.map It.key = (sortP L).take k) ∧ Hid (wr.heap[gb]? = some (.cells cur 9 (0, 0))) ∧ Hid (KZ (fun k => Z k ∨ W.heap.size ≤ k) W wr) ∧ Hid (J pre wr)) (fun x _ => n - (intOf x).toNat)
      case atStart => exact ⟨0, [], rfl, Nat.zero_le _, HP0, HGB, HK0, H0⟩
      clear HP0 HGB HK0 H0
      case round =>
        obtain ⟨k, pre, rfl, hk, hP, hgk, hkz, hJk⟩ := hrel
        by_cases hlt : k < n
        · obtain ⟨⟨s, t⟩, hx⟩ : ∃ x, (sortP L)[k]? = some x := ⟨_, List.getElem?_eq_getElem (by rw [sortP_length, HN.out]; exact hlt)⟩
          have hck := cell_of_heap hgk.out k
          rw [hcur.out k s t hx] at hck
          have zg := lt_of_heap hgk.out
          have hTk : Tab wr pt L := HT.out.kz hkz.out (fun j hj hj2 => by
            rcases hj with h | h
            · exact ⟨(HZ.out j h).1, (HZ.out j h).2.1⟩
            · omega)
          have hbk : wr.heap[Bn]? = some (.cells #[.pointer (some ⟨pt, 0, none⟩)] 25) := hkz.out.same Bn _ (fun h => by
            rcases h with h | h
            · exact (HZ.out Bn h).2.2 rfl
            · have := lt_of_heap HBN.out; omega) HBN.out (.inl rfl)
          obtain ⟨mo2, hp2, hV2⟩ := hTk
          have c0 := cell_of_heap hbk 0
          have zb := lt_of_heap hbk
          have c1 := cell_of_heap hp2 0
          have zp2 := lt_of_heap hp2
          have hgl := get_of_sort HVV.out hx
          have HX := Lib.hid hx
          have hplen : Hid (pre.length = k) := by
            have := congrArg List.length hP.out
            rw [List.length_map, List.length_take, sortP_length, HN.out] at this
            show _ = _
            omega
          rcases hV2.look s with ⟨hg, _⟩ | ⟨u, ua, uc, hg, hA, hlk⟩
          · rw [hg] at hgl; cases hgl
          rw [hgl] at hg
          cases hg
          have hlk0 := hlk wr (Below.refl _ _)
          have HA := Lib.hid hA
          have HZT : Hid (t.size ≤ 2097152) := (HZS.out (s, t) (mem_of_getL hgl)).1
          have j1 : (0 : Int) ≤ (k : Int) := by omega
          have j2 : (k : Int) < (n : Int) := by omega
          clear hlk hA hgl hx hp2 hbk hV2
          gi_wp2_with (first | (refine wpListIn_store_nd rfl (.tmp 5) (.tmp 27) rfl wr.heap.size 0 (ncells nd0 (.slice none 0 0)) 42 (heap_alloc_new wr _) (Nat.le_refl _) t.o (.slice ua t.l.length uc) rfl rfl rfl ?_; intro W4 p1 p2 p3) | refine wpListIn_load_g rfl 42 (.tmp 5) rfl wr.heap.size 0 rfl _ _ (range_blk p1) Tryz.underlying42 rfl info35 ?_)
          have hB4 : Below wr.heap.size wr W4 := ((Below.refl _ wr).alloc (Nat.le_refl _) _).trans (p2.below (by simp) (fun k hk => by omega))
          have CP := copied_any t HZT.out (nagg t.o (.slice ua t.l.length uc)) W4 ⟨ua, uc, rfl, HA.out.below hB4 t⟩
          refine ⟨trivial, (callsIn_wide.2 CP).mono ?_⟩
          clear CP hlk0 hck c0 c1
          rintro e W5 ⟨a5, S5, rfl, hO5, hS5, hb5⟩
          have hO6 := hO5.cells t
          obtain ⟨S6, hS6⟩ : ∃ S6 : Nat → Prop, S6 = fun k => S5 k ∧ CellsAt W5 k := ⟨_, rfl⟩
          rw [← hS6] at hO6
          have hS6' : ∀ j, S6 j → S5 j ∧ CellsAt W5 j := by rw [hS6]; exact fun _ h => h
          have hB5 : Below wr.heap.size wr W5 := hB4.trans (hb5.mono hB4.size)
          have hJ5 : J pre W5 := HJ.out _ _ _ hJk.out (hB5.mono hkz.out.size)
          obtain ⟨fn, tmps, assign, body, hy, hR⟩ := HY.out pre (It.mk s t a5 t.l.length S6) W5 hJ5 (by rw [hplen.out, HN.out]; exact hlt)
            ⟨by rw [hplen.out]; exact HX.out, hO6, fun j hj => ⟨Nat.le_trans HB.out (Nat.le_trans hkz.out.size (Nat.le_trans hB4.size (hS5 j (hS6' j hj).1).1)), (hS6' j hj).2⟩⟩
          unfold encI at hy
          dsimp only at hy
          have HR := Lib.hid hR
          have HB5 := Lib.hid hB5
          have HS5 : Hid (∀ j, S6 j → wr.heap.size ≤ j) := fun j hj => Nat.le_trans hB4.size (hS5 j (hS6' j hj).1).1
          have HP6 : Hid ((pre ++ [It.mk s t a5 t.l.length S6]).map It.key = (sortP L).take (k + 1)) := by
            unfold Hid
            rw [List.map_append, hP.out, List.take_add_one, HX.out]
            rfl
          have HPF : Hid ((pre ++ [It.mk s t a5 t.l.length S6]).map It.key <+: sortP L) := by rw [HP6.out]; exact List.take_prefix _ _
          clear hR hO5 hO6 hS6 hS6' hS5 hb5 hB5 hB4 hJ5 p1 p2 p3 zg zb zp2
          gi_wp2
          refine HR.out.mono ?_
          rintro e W6 (⟨rfl, hJ6, hk6⟩ | ⟨rfl, hJx6⟩)
          · have HJ6 := Lib.hid hJ6
            have G6 : Hid (W6.heap[gb]? = some (.cells cur 9 (0, 0))) := hk6.same gb _ (fun h => by
              rcases h with h | h
              · obtain ⟨_, _, _, hh⟩ := (HZ.out gb h).1
                have := lt_of_heap hh
                have := HBASE.out
                omega
              · have := HS5.out gb h
                have := lt_of_heap hgk.out
                omega) ((HB5.out.block gb (lt_of_heap hgk.out)).trans hgk.out) (.inl rfl)
            have K6 : Hid (KZ (fun k => Z k ∨ W.heap.size ≤ k) W W6) := (hkz.out.trans (KZ.of_below HB5.out)).trans (hk6.mono (fun j hj => by
              rcases hj with h | h
              · exact .inl h
              · exact .inr (Nat.le_trans hkz.out.size (HS5.out j h))))
            clear hJ6 hk6 HR hy
            gi_wp2
            go_roundw
            case rel => exact ⟨k + 1, _, by go_num, by omega, HP6, G6, K6, HJ6⟩
            case measure => simp [intOf]; omega
          · have HJ6 := Lib.hid hJx6
            clear hJx6 HR hy
            gi_wp2
            refine bodyPost_ret (results_none rfl _ _ _) rfl ?_
            exact ⟨⟨_, rfl⟩, .inr ⟨_, HPF.out, HJ6.out⟩⟩
        · have e : (sortP L).take k = sortP L := List.take_of_length_le (by rw [sortP_length, HN.out]; omega)
          rw [e] at hP
          clear e
          gi_wp2
          go_end0
          exact ⟨⟨_, rfl⟩, .inl ⟨_, hP.out, hJk.out⟩⟩
theorem iter_stops (Bn pt : Nat) (L : List (ByteArray × T)) (Z : Nat → Prop) (w : World) (hZ : ∀ k, Z k → OneC w k ∧ k ≠ pt ∧ k ≠ Bn) (hBn : w.heap[Bn]? = some (.cells #[.pointer (some ⟨pt, 0, none⟩)] 25)) (hT : Tab w pt L) (hl : L.length ≤ 1000) (hz : ∀ p ∈ L, p.2.size ≤ 2097152 ∧ p.1.size ≤ 1048576) :
    SeqG Fence.wide 7 Tryz.prog 46 #[.pointer (some ⟨Bn, 0, none⟩)] encI It.S Z (GI w.heap.size L) (fun ys => ys.map It.key = sortP L) (fun pre => pre.map It.key <+: sortP L) L.length w := fun l J Jx W hW hJ _ hY h0 =>
  iter_in l Bn pt w.heap.size L Z J Jx hY W hW.size (fun k hk => by
    obtain ⟨⟨v, ty, fz, h1⟩, h2⟩ := hZ k hk
    exact ⟨⟨v, ty, fz, (hW.block k (lt_of_heap h1)).trans h1⟩, h2⟩) ((hW.block Bn (lt_of_heap hBn)).trans hBn) (hT.below hW) hl hz hJ h0
end Go.Proofs.YtlcglkanlhmmdaaGreat
