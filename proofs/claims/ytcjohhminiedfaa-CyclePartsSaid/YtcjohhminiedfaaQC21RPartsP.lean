/- Cycle: the document's parts, plain. -/
import Derived.Test.YtcjohhminiedfaaQC21RReach
namespace Go.Proofs.Ytcjohhminiedfaa
/-- One of the parts has it. -/
def InL (L : List (List Nat)) (y : Nat) : Prop := ∃ p ∈ L, y ∈ p
/-- Both reach one another. -/
def Mb (T : List (List Nat)) (i y : Nat) : Prop := Rch T i y ∧ Rch T y i
structure PInv (n : Nat) (T : List (List Nat)) (i : Nat) (L : List (List Nat)) : Prop where
  row : ∀ p ∈ L, ∃ h, h < i ∧ hd p = h ∧ UpTo (Mb T h) n p
  ord : L.Pairwise fun a b => hd a < hd b
  cov : ∀ y, y < i → InL L y
section
variable {n i : Nat} {T L : List (List Nat)} {r : List Nat}
theorem PInv.start (n : Nat) (T : List (List Nat)) : PInv n T 0 [] := ⟨fun p hp => (by cases hp), List.Pairwise.nil, fun y hy => by omega⟩
theorem PInv.skip (h : PInv n T i L) (hi : InL L i) : PInv n T (i + 1) L := by
  refine ⟨fun p hp => ?_, h.ord, fun y hy => ?_⟩
  · obtain ⟨a, h1, h2⟩ := h.row p hp
    exact ⟨a, by omega, h2⟩
  · by_cases e : y = i
    · rw [e]
      exact hi
    · exact h.cov y (by omega)
theorem PInv.push (h : PInv n T i L) (hi : ¬ InL L i) (hn : i < n) (hr : UpTo (Mb T i) n r) : PInv n T (i + 1) (L ++ [r]) := by
  have him : i ∈ r := (hr.2 i).2 ⟨hn, .refl _, .refl _⟩
  have hhd : hd r = i := by
    have hne : r ≠ [] := fun e => by rw [e] at him; cases him
    have hm := hd_mem hne
    have hle : hd r ≤ i := by
      cases r with
      | nil => exact absurd rfl hne
      | cons a s =>
        rcases List.mem_cons.1 him with e | e
        · exact Nat.le_of_eq e.symm
        · exact Nat.le_of_lt ((List.pairwise_cons.1 hr.1).1 i e)
    refine Classical.byContradiction fun e => hi ?_
    obtain ⟨p, hp, hjp⟩ := h.cov (hd r) (by omega)
    obtain ⟨a, _, _, ha⟩ := h.row p hp
    obtain ⟨_, j1, j2⟩ := (hr.2 (hd r)).1 hm
    obtain ⟨_, k1, k2⟩ := (ha.2 (hd r)).1 hjp
    exact ⟨p, hp, (ha.2 i).2 ⟨hn, k1.trans j2, j1.trans k2⟩⟩
  refine ⟨fun p hp => ?_, List.pairwise_append.2 ⟨h.ord, by simp, fun a ha b hb => ?_⟩, fun y hy => ?_⟩
  · rcases List.mem_append.1 hp with hp | hp
    · obtain ⟨a, h1, h2⟩ := h.row p hp
      exact ⟨a, by omega, h2⟩
    · rw [List.mem_singleton.1 hp]
      exact ⟨i, Nat.lt_succ_self i, hhd, hr⟩
  · rw [List.mem_singleton.1 hb, hhd]
    obtain ⟨c, h1, h2, _⟩ := h.row a ha
    omega
  · by_cases e : y = i
    · rw [e]
      exact ⟨r, by simp, him⟩
    · obtain ⟨p, hp, hy2⟩ := h.cov y (by omega)
      exact ⟨p, List.mem_append_left _ hp, hy2⟩
theorem PInv.len (h : PInv n T i L) : L.length ≤ i := by
  have hn : (L.map hd).Nodup := by
    unfold List.Nodup
    rw [List.pairwise_map]
    exact h.ord.imp fun h e => by omega
  have := hn.length_le_of_subset (l₂ := List.range i) fun j hj => by
    obtain ⟨p, hp, rfl⟩ := List.mem_map.1 hj
    obtain ⟨a, h1, h2, _⟩ := h.row p hp
    exact List.mem_range.2 (by omega)
  rw [List.length_range, List.length_map] at this
  exact this
theorem inL_push {y : Nat} : InL (L ++ [r]) y ↔ InL L y ∨ y ∈ r := by
  unfold InL
  constructor
  · rintro ⟨p, hp, h⟩
    rcases List.mem_append.1 hp with hp | hp
    · exact .inl ⟨p, hp, h⟩
    · rw [List.mem_singleton.1 hp] at h
      exact .inr h
  · rintro (⟨p, hp, h⟩ | h)
    · exact ⟨p, List.mem_append_left _ hp, h⟩
    · exact ⟨r, by simp, h⟩
theorem PInv.pl (hT : TOk n T) (h : PInv n T n L) : PL n T L := by
  have hrise : ∀ p ∈ L, p.Pairwise (· < ·) := fun p hp => by
    obtain ⟨a, _, _, ha⟩ := h.row p hp
    exact ha.1
  refine ⟨⟨h.cov, fun p hp y hy => ?_, fun p hp e => ?_, ?_, fun p hp => (hrise p hp).imp fun h e => by omega, fun p hp y hy z hz => ?_, fun p hp y hy z h1 h2 => ?_⟩, hrise, h.ord⟩
  · obtain ⟨a, _, _, ha⟩ := h.row p hp
    exact ((ha.2 y).1 hy).1
  · obtain ⟨a, h1, _, ha⟩ := h.row p hp
    have := (ha.2 a).2 ⟨h1, .refl _, .refl _⟩
    rw [e] at this
    cases this
  · refine h.ord.imp_of_mem fun {p q} hp hq hpq y hy hy2 => ?_
    obtain ⟨a, _, a2, ha⟩ := h.row p hp
    obtain ⟨b, _, b2, hb⟩ := h.row q hq
    obtain ⟨_, u1, u2⟩ := (ha.2 y).1 hy
    obtain ⟨_, v1, v2⟩ := (hb.2 y).1 hy2
    have hab : Rch T a b := u1.trans v2
    have hba : Rch T b a := v1.trans u2
    have : p = q := rise_eq ha.1 hb.1 fun z => by
      rw [ha.2, hb.2]
      constructor
      · exact fun ⟨h1, h2, h3⟩ => ⟨h1, hba.trans h2, h3.trans hab⟩
      · exact fun ⟨h1, h2, h3⟩ => ⟨h1, hab.trans h2, h3.trans hba⟩
    rw [this] at hpq
    omega
  · obtain ⟨a, _, _, ha⟩ := h.row p hp
    exact ((ha.2 y).1 hy).2.2.trans ((ha.2 z).1 hz).2.1
  · obtain ⟨a, _, _, ha⟩ := h.row p hp
    obtain ⟨k1, k2, k3⟩ := (ha.2 y).1 hy
    exact (ha.2 z).2 ⟨rch_lt hT k1 h1, k2.trans h1, h2.trans k3⟩
end
end Go.Proofs.Ytcjohhminiedfaa
/- Cycle: ref.Parts. -/
namespace Go.Proofs.Ytcjohhminiedfaa
open Go.RowKit
/-- The rows of whom each node reaches. -/
structure RTab (B n : Nat) (T : List (List Nat)) (w : World) (v : Value) (bs : List Nat) : Prop where
  row : w.ownsRow B 42 1 v bs.length (bs.map (rowV n))
  at' : ∀ (i b : Nat), bs[i]? = some b → B ≤ b ∧ ∃ L, BM w b L ∧ TB n (fun y => Rch T i y) L
theorem RTab.ne {B n : Nat} {T : List (List Nat)} {w : World} {v : Value} {bs : List Nat} (h : RTab B n T w v bs) {i b : Nat} (hb : bs[i]? = some b) : v.ownBlock ≠ some b := fun e => by
  obtain ⟨cs, h1⟩ := own_cells h.row e
  obtain ⟨_, L, h2, _⟩ := h.at' i b hb
  have h2' : w.heap[b]? = some (.cells (bvs L).toArray 4) := h2
  rw [h1] at h2'
  injection h2' with h2'
  injection h2' with _ h2'
  exact absurd h2' (by decide)
theorem RTab.keep {B n : Nat} {T : List (List Nat)} {w w' : World} {v : Value} {bs : List Nat} (h : RTab B n T w v bs) (hb : ∀ k, B ≤ k → k < w.heap.size → w'.heap[k]? = w.heap[k]?) : RTab B n T w' v bs :=
  ⟨own_block h.row fun k e hlt => hb k (World.ownsRow.lt h.row k e).1 hlt, fun i b hi => by
    obtain ⟨h1, L, h2, h3⟩ := h.at' i b hi
    exact ⟨h1, L, h2.keep (hb b h1 (lt_of_heap h2)), h3⟩⟩
theorem RTab.push {B n : Nat} {T : List (List Nat)} {w W W' : World} {v v' : Value} {bs : List Nat} {b : Nat} {L : List Bool} (h : RTab B n T w v bs) (hW : Below w.heap.size w W) (hb : w.heap.size ≤ b) (hB : B ≤ w.heap.size) (hbh : BM W b L) (hL : TB n (fun y => Rch T bs.length y) L)
    (hown : W'.ownsRow B 42 1 v' (bs.length + 1) (bs.map (rowV n) ++ [rowV n b])) (hg : W.grownBy W' v.ownBlock) : RTab B n T W' v' (bs ++ [b]) := by
  refine ⟨by rw [List.length_append, List.map_append]; exact hown, fun i c hc => ?_⟩
  by_cases hi : i < bs.length
  · rw [List.getElem?_append_left hi] at hc
    obtain ⟨h1, M, h2, h3⟩ := h.at' i c hc
    have hz := lt_of_heap h2
    exact ⟨h1, M, h2.keep ((hg.block c (Nat.lt_of_lt_of_le hz hW.size) fun e => h.ne hc e.symm).trans (hW.block c hz)), h3⟩
  · have hi2 : i = bs.length := by
      have := (List.getElem?_eq_some_iff.1 hc).1
      rw [List.length_append, List.length_singleton] at this
      omega
    subst hi2
    rw [List.getElem?_append_right (Nat.le_refl _), Nat.sub_self] at hc
    cases hc
    refine ⟨Nat.le_trans hB hb, L, hbh.keep (hg.block b (lt_of_heap hbh) fun e => ?_), hL⟩
    have := (World.ownsRow.lt h.row b e.symm).2
    omega
theorem RTab.slice {B n : Nat} {T : List (List Nat)} {w : World} {a : Option Addr} {m cap : Nat} {bs : List Nat} (h : RTab B n T w (.slice a m cap) bs) {i : Nat} (hi : i < bs.length) : ∃ g b L, a = some ⟨g, 0, none⟩ ∧ g < w.heap.size ∧ w.cell? ⟨g, i, none⟩ = some (.slice (some ⟨b, 0, none⟩) n n) ∧ b < w.heap.size ∧ BM w b L ∧ TB n (fun y => Rch T i y) L := by
  obtain ⟨a', cap', e, _, h1⟩ := own_slice h.row
  injection e with e _ _
  subst e
  obtain ⟨g, e2, _, z, _, hc⟩ := h1 (by omega)
  obtain ⟨b, hb⟩ : ∃ b, bs[i]? = some b := ⟨_, List.getElem?_eq_getElem hi⟩
  obtain ⟨_, L, h2, h3⟩ := h.at' i b hb
  exact ⟨g, b, L, e2, z, hc i _ (by rw [List.getElem?_map, hb]; rfl), lt_of_heap h2, h2, h3⟩
theorem RR.base' {B B' : Nat} {w : World} {v : Value} {vs : List Value} {L : List (List Nat)} (h : RR B w v vs L) (hB : B' ≤ B) : RR B' w v vs L := ⟨own_base h.row hB, fun i l hl => by
  obtain ⟨u, h1, h2⟩ := h.each i l hl
  exact ⟨u, h1, h2.base hB⟩⟩
theorem RR.push {B : Nat} {w W W' : World} {v v' u : Value} {vs : List Value} {L : List (List Nat)} {l : List Nat} (h : RR B w v vs L) (hW : Below w.heap.size w W) (hu : IR B w u l) (hown : W'.ownsRow B 31 1 v' (L.length + 1) (vs ++ [u])) (hg : W.grownBy W' v.ownBlock) : RR B W' v' (vs ++ [u]) (L ++ [l]) := by
  have key : ∀ {x : Value} {m : List Nat}, IR B w x m → IR B W' x m := fun {x m} hx => hx.block fun k e hlt => (hg.block k (Nat.lt_of_lt_of_le hlt hW.size) fun e2 => rr_ne h hx e e2.symm).trans (hW.block k hlt)
  refine ⟨by rw [List.length_append]; exact hown, fun i m hm => ?_⟩
  by_cases hi : i < L.length
  · rw [List.getElem?_append_left hi] at hm
    obtain ⟨x, h1, h2⟩ := h.each i m hm
    exact ⟨x, by rw [List.getElem?_append_left (by rw [h.len]; exact hi)]; exact h1, key h2⟩
  · have hi2 : i = L.length := by
      have := (List.getElem?_eq_some_iff.1 hm).1
      rw [List.length_append, List.length_singleton] at this
      omega
    subst hi2
    rw [List.getElem?_append_right (Nat.le_refl _), Nat.sub_self] at hm
    cases hm
    exact ⟨u, by rw [List.getElem?_append_right (by rw [h.len]; exact Nat.le_refl _), h.len, Nat.sub_self]; rfl, key hu⟩
set_option maxHeartbeats 4000000 in
set_option maxRecDepth 100000 in
theorem rparts_any {w : World} {a : Option Addr} {n cap : Nat} {E : List (Nat × Nat)} (hn : n ≤ 10000) (hok : EOk n E) (hM : MxA w a n (adjE E)) :
    Calls Try.prog 21 #[.agg #[.slice a n cap]] w fun e w' => ∃ v vs L, e = .returned v ∧ RR w.heap.size w' v vs L ∧ PL n (tos n E) L ∧ Below w.heap.size w w' := by
  have HMX := Lib.hid hM
  have HOK := Lib.hid hok
  obtain ⟨K, hK⟩ : ∃ K, w.heap.size = K := ⟨_, rfl⟩
  have HK := Lib.hid hK
  have MK := mk4 n (by omega)
  clear hM hok hK
  go_enter Try.func21, Try.ntmps21
  go_upto_region 2 with fail
  refine abs_world ?_
  intro W1 hW1
  have HC1 : Hid (W1.heap[K]? = some (.cells #[.slice a n cap] 27) ∧ Below K w W1) := by
    rw [hW1, ← HK.out]
    exact ⟨heap_alloc_old (heap_alloc_new w _) _, (below_alloc w _ _ (Nat.le_refl _)).alloc (by simp) _⟩
  have HT1 : Hid (RTab (K + 1) n (tos n E) W1 (.slice (some ⟨K + 1, 0, none⟩) 0 0) []) := by
    refine ⟨⟨by simp, .inr ⟨K + 1, 0, #[], rfl, Nat.le_refl _, ?_, Nat.le_refl _, by decide, by simp, by simp⟩⟩, fun i b h => by simp at h⟩
    rw [hW1, ← HK.out]
    exact heap_alloc_at (by simp) _
  rw [HK.out]
  clear hW1
  go_wp2_with fail
  go_loopg [3, 4] n (fun g s3 s4 wr => ∃ (i : Nat) (bs : List Nat), s4 = .int .i64 (i : Int) ∧ g = n - i ∧ i ≤ n ∧ bs.length = i ∧ Hid (RTab (K + 1) n (tos n E) wr s3 bs) ∧ Hid (wr.heap[K]? = some (.cells #[.slice a n cap] 27) ∧ Below K w wr))
  case atStart => exact ⟨0, [], rfl, rfl, Nat.zero_le _, rfl, HT1, HC1⟩
  case round =>
    clear HT1 HC1
    obtain ⟨i, bs, rfl, rfl, hi, hbs, hT, hC⟩ := hrel
    obtain ⟨ta, tc, e, _⟩ := own_slice hT.out.row
    subst e
    rw [hbs] at hT ⊢
    have m1 := cell_of_heap hC.out.1 0
    have m2 := lt_of_heap hC.out.1
    by_cases hlt : i < n
    · have C5 := Lib.hid (rfrom_any (w := wr) (cap := cap) hn HOK.out hlt (HMX.out.below (by rw [HK.out]; exact hC.out.2)))
      go_wp2_with fail
      refine C5.out.mono ?_
      rintro e w5 ⟨b, ls, rfl, hb, hL5, hls, hb5⟩
      have HC5 : Hid (w5.heap[K]? = some (.cells #[.slice a n cap] 27) ∧ Below K w w5) := ⟨(hb5.block K m2).trans hC.out.1, hC.out.2.trans (hb5.mono (Nat.le_of_lt m2))⟩
      obtain ⟨i0, hi0, hz0, hz1, hz2⟩ := info_parts info42
      have HI0 := Lib.hid (⟨hi0, hz0, hz1, hz2⟩ : _ ∧ _ ∧ _ ∧ _)
      have HROW : Hid (w5.ownsRow (K + 1) 42 1 (.slice ta i tc) i (bs.map (rowV n))) := by
        have h1 := (hT.out.keep (w' := w5) fun k _ hk => hb5.block k hk).row
        rw [hbs] at h1
        exact h1
      have hKz : K + 1 ≤ w5.heap.size := lt_of_heap HC5.out.1
      have PU : Hid (∀ (v' : Value) (w' : World), w'.ownsRow (K + 1) 42 1 v' (i + 1) (bs.map (rowV n) ++ [rowV n b]) → (w5.alloc (.cells #[rowV n b] 42)).grownBy w' (Value.slice ta i tc).ownBlock → RTab (K + 1) n (tos n E) w' v' (bs ++ [b]) ∧ (w'.heap[K]? = some (.cells #[.slice a n cap] 27) ∧ Below K w w')) := fun v' w' h1 h2 => by
        have hW : Below wr.heap.size wr (w5.alloc (.cells #[rowV n b] 42)) := hb5.alloc hb5.size _
        have hbw : Below (K + 1) w5 w' := (below_alloc w5 _ _ hKz).trans ⟨h2.os, h2.tape, h2.output, h2.size, fun j hj => h2.block j (by simp; omega) fun e => by
          have := (World.ownsRow.lt HROW.out j e.symm).1
          omega⟩
        refine ⟨hT.out.push hW hb (by omega) (hL5.keep (Below.heap_alloc _ _ _ (lt_of_heap hL5))) (by rw [hbs]; exact TB.cm hls) (by rw [hbs]; exact h1) h2, (hbw.block K (Nat.lt_succ_self K)).trans HC5.out.1, HC5.out.2.trans (hbw.mono (Nat.le_succ K))⟩
      have hbs2 : (bs ++ [b]).length = i + 1 := by rw [List.length_append, List.length_singleton, hbs]
      clear hb hL5 hls hb5 hi0 hz0 hz1 hz2 hT hC C5 m1 m2
      go_upto_region 4 with (at_builtin; refine wpList_append_own_at _ rfl _ _ 25 rfl (K + 1) 42 i0 (.slice none 0 0) 1 24 Try.underlying25 HI0.out.1 HI0.out.2.1 HI0.out.2.2.1 HI0.out.2.2.2 rfl (by decide) (.slice ta i tc) i (bs.map (rowV n)) rfl (World.ownsRow.alloc HROW.out _) ⟨w5.heap.size, 0, none⟩ 1 1 [rowV n b] rfl rfl (cells_new _ #[rowV n b] 42) (by simp [rowV, Value.oneCell']) (by unfold maxLen; omega) (by omega) (by simp; omega) ?_; intro v9 w9 hown hgrow _ _; obtain ⟨va, vc, rfl, _⟩ := own_slice hown; obtain ⟨p1, p2⟩ := PU.out _ w9 hown hgrow; have P1 := Lib.hid p1; have P2 := Lib.hid p2; clear hown hgrow p1 p2)
      go_wp2_with fail
      go_roundg (n - (i + 1))
      case measure => omega
      case rel => exact ⟨i + 1, _, by go_num, rfl, by omega, hbs2, P1, P2⟩
    · have hbn : bs.length = n := by omega
      have hin : i = n := by omega
      rw [hin] at hT ⊢
      clear hin
      go_upto_region 8 with fail
      refine abs_world ?_
      intro W2 hW2
      obtain ⟨bd, hbd⟩ : ∃ bd, wr.heap.size = bd := ⟨_, rfl⟩
      have hw2 : Below wr.heap.size wr W2 := by
        rw [hW2]
        exact (below_alloc wr _ _ (Nat.le_refl _)).alloc (by simp) _
      have HD2 : Hid (BM W2 bd (List.replicate n false)) := by
        unfold Hid BM bvs
        rw [hW2, ← hbd, List.map_replicate, ← List.toArray_replicate]
        exact heap_alloc_old (heap_alloc_new wr _) _
      have HV2 : Hid (RR (bd + 1) W2 (.slice (some ⟨bd + 1, 0, none⟩) 0 0) [] []) := by
        refine ⟨⟨by simp, .inr ⟨bd + 1, 0, #[], rfl, Nat.le_refl _, ?_, Nat.le_refl _, by decide, by simp, by simp⟩⟩, fun i l h => by simp at h⟩
        rw [hW2, ← hbd]
        exact heap_alloc_at (by simp) _
      have HB2 : Hid (Below bd wr W2) := by rw [← hbd]; exact hw2
      have HTB2 : Hid (TB n (InL []) (List.replicate n false)) := (TB.start n).congr fun y _ => ⟨fun h => h.elim, fun ⟨p, hp, _⟩ => by cases hp⟩
      have HT := hT
      have HC := hC
      have HBD := Lib.hid hbd
      have hKbd : K < bd := by rw [← hbd]; exact m2
      rw [hbd]
      have HWB : Hid (∀ W, Below bd W2 W → MxA W a n (adjE E) ∧ RTab (K + 1) n (tos n E) W (.slice ta n tc) bs ∧ W.heap[K]? = some (.cells #[.slice a n cap] 27) ∧ Below K w W) := fun W hW => by
        have h1 : Below bd wr W := HB2.out.trans hW
        have h2 : Below K w W := HC.out.2.trans (h1.mono (Nat.le_of_lt hKbd))
        exact ⟨HMX.out.below (by rw [HK.out]; exact h2), HT.out.keep fun k _ hk => h1.block k (by rw [← HBD.out]; exact hk), (h1.block K hKbd).trans HC.out.1, h2⟩
      clear hW2 hw2 hbd hT hC m1 m2 MK HT HC HB2 HMX
      go_wp2_with fail
      go_loopg [6, 7] n (fun g s6 s7 wr => ∃ (i : Nat) (L : List (List Nat)) (vs : List Value) (D : List Bool), s7 = .int .i64 (i : Int) ∧ g = n - i ∧ i ≤ n ∧ Hid (PInv n (tos n E) i L) ∧ Hid (TB n (InL L) D) ∧ Hid (BM wr bd D) ∧ Hid (RR (bd + 1) wr s6 vs L) ∧ Hid (Below bd W2 wr))
      case atStart => exact ⟨0, [], [], _, rfl, rfl, Nat.zero_le _, PInv.start _ _, HTB2, HD2, HV2, Below.refl _ _⟩
      case round =>
        clear HD2 HV2 HTB2
        obtain ⟨i, L, vs, D, rfl, rfl, hi, hP, hT, hD, hV, hB⟩ := hrel
        rename World => wq
        obtain ⟨oa, oc, e, _⟩ := own_slice hV.out.row
        subst e
        obtain ⟨_, _, hbox, hBK⟩ := HWB.out wq hB.out
        have m1 := cell_of_heap hbox 0
        have m2 := lt_of_heap hbox
        by_cases hlt : i < n
        · obtain ⟨d, hd1, hd2⟩ := hT.out.get hlt
          have c1 := bcell hD.out hd1
          have z1 := lt_of_heap hD.out
          have i1 : (0 : Int) ≤ (i : Int) := by omega
          have i2 : (i : Int) < (n : Int) := by omega
          clear hbox hBK
          cases d with
          | true =>
            have hP2 := Lib.hid (hP.out.skip (hd2.1 rfl))
            clear hP hd1 hd2
            go_wp2_with fail
            clear c1 z1 m1 m2
            go_roundg (n - (i + 1))
            case measure => omega
            case rel => exact ⟨i + 1, L, vs, D, by go_num, rfl, by omega, hP2, hT, hD, hV, hB⟩
          | false =>
            have hnin : Hid (¬ InL L i) := fun h => by
              have := hd2.2 h
              cases this
            clear hd1 hd2
            go_upto_region 13 with fail
            refine abs_world ?_
            intro W3 hW3
            obtain ⟨X, hX⟩ : ∃ X, wq.heap.size = X := ⟨_, rfl⟩
            have hw3 : Below wq.heap.size wq W3 := by
              rw [hW3]
              exact below_alloc wq _ _ (Nat.le_refl _)
            have HI3 : Hid (IR X W3 (.slice (some ⟨X, 0, none⟩) 0 0) []) := by
              rw [hW3, ← hX]
              exact IR.new (w := wq) [] (Nat.le_refl _) (by simp)
            have HD3 : Hid (BM W3 bd D) := hD.out.keep (hw3.block _ z1)
            have HF3 : Hid (Fr (fun k => k = bd) wq W3) := Fr.of_below hw3
            have HT3 : Hid (TB n (fun y => InL L y ∨ (y < 0 ∧ Mb (tos n E) i y)) D) := hT.out.congr fun y _ => by simp
            have hbX : bd < X := by rw [← hX]; exact z1
            have HX := Lib.hid hX
            have hXz : X ≤ W3.heap.size := by rw [← hX]; exact hw3.size
            rw [hX]
            clear hW3 hw3 hX c1 z1 m1 m2 hT hD
            go_wp2_with fail
            go_loopg [8, 9] n (fun g s8 s9 wr => ∃ (k : Nat) (r : List Nat) (D : List Bool), s9 = .int .i64 (k : Int) ∧ g = n - k ∧ k ≤ n ∧ Hid (UpTo (Mb (tos n E) i) k r) ∧ Hid (TB n (fun y => InL L y ∨ (y < k ∧ Mb (tos n E) i y)) D) ∧ Hid (BM wr bd D) ∧ Hid (IR X wr s8 r) ∧ Hid (Fr (fun k => k = bd) wq wr) ∧ X ≤ wr.heap.size)
            case atStart => exact ⟨0, [], D, rfl, rfl, Nat.zero_le _, UpTo.start _, HT3, HD3, HI3, HF3, hXz⟩
            case round =>
              clear HT3 HD3 HI3 HF3 hXz D
              obtain ⟨k, r, D, rfl, rfl, hk, hU, hT, hD, hI, hF, hXz⟩ := hrel
              obtain ⟨la, lc, e⟩ := hI.out.shape
              subst e
              have hBw : Hid (Below bd W2 wr) := hB.out.trans (hF.out.below (by rw [HX.out]; omega) fun k hk => by omega)
              obtain ⟨_, hRT, hbox, hBK⟩ := HWB.out wr hBw.out
              have m1 := cell_of_heap hbox 0
              have m2 := lt_of_heap hbox
              by_cases hlt2 : k < n
              · obtain ⟨g1, b1, L1, rfl, e1, e2, e3, hM1, hT1⟩ := hRT.slice (i := i) (by omega)
                obtain ⟨g2, b2, L2, f0, f1, f2, f3, hM2, hT2⟩ := hRT.slice (i := k) (by omega)
                injection f0 with f0
                injection f0 with f0 f4 f5
                clear f4 f5
                subst f0
                obtain ⟨v1, u1, u2⟩ := hT1.get hlt2
                obtain ⟨v2, x1, x2⟩ := hT2.get hlt
                have c1 := bcell hM1 u1
                have c2 := bcell hM2 x1
                have i3 : (0 : Int) ≤ (k : Int) := by omega
                have i4 : (k : Int) < (n : Int) := by omega
                clear hRT hbox hBK hM1 hT1 hM2 hT2 u1 x1
                cases v1 with
                | true =>
                  cases v2 with
                  | true =>
                    have hmb : Mb (tos n E) i k := ⟨u2.1 rfl, x2.1 rfl⟩
                    have hU2 := Lib.hid (hU.out.push hmb)
                    have hrl := hU.out.len
                    obtain ⟨d, hd1, _⟩ := hT.out.get hlt2
                    obtain ⟨q, hq⟩ : ∃ q, r.length = q := ⟨_, rfl⟩
                    have HQ := Lib.hid hq
                    have HROW : Hid (wr.ownsRow X 3 1 (.slice la q lc) q (r.map iv)) := by
                      have h1 := hI.out
                      unfold IR at h1
                      rw [hq] at h1
                      exact h1
                    rw [hq] at hrl ⊢
                    obtain ⟨i0, hi0, hz0, hz1, hz2⟩ := info_parts info3
                    have HI0 := Lib.hid (⟨hi0, hz0, hz1, hz2⟩ : _ ∧ _ ∧ _ ∧ _)
                    have PU : Hid (∀ (v' : Value) (w' : World), w'.ownsRow X 3 1 v' (q + 1) (r.map iv ++ [iv k]) → (wr.alloc (.cells #[.int .i64 (k : Int)] 3)).grownBy w' (Value.slice la q lc).ownBlock → IR X w' v' (r ++ [k]) ∧ BM w' bd D ∧ Fr (fun k => k = bd) wq w' ∧ X ≤ w'.heap.size) := fun v' w' h1 h2 => by
                      have hb : Below X wr w' := (below_alloc wr _ _ hXz).trans ⟨h2.os, h2.tape, h2.output, h2.size, fun j hj => h2.block j (by simp; omega) fun e => by
                        have := (World.ownsRow.lt HROW.out j e.symm).1
                        omega⟩
                      refine ⟨IR.pushed (by rw [HQ.out]; exact h1), hD.out.keep (hb.block _ hbX), ⟨hb.os.trans hF.out.os, hb.tape.trans hF.out.tape, hb.output.trans hF.out.output, Nat.le_trans hF.out.size hb.size, fun j hj hn => (hb.block j (by rw [← HX.out]; exact hj)).trans (hF.out.block j hj hn)⟩, Nat.le_trans hXz hb.size⟩
                    clear hi0 hz0 hz1 hz2 hq hU hI
                    go_upto_region 18 with (at_builtin; refine wpList_append_own_at _ rfl _ _ 31 rfl X 3 i0 (.int .i64 0) 1 8 Try.underlying31 HI0.out.1 HI0.out.2.1 HI0.out.2.2.1 HI0.out.2.2.2 rfl (by decide) (.slice la q lc) q (r.map iv) rfl (World.ownsRow.alloc HROW.out _) ⟨wr.heap.size, 0, none⟩ 1 1 [iv k] rfl rfl (cells_new _ #[.int .i64 (k : Int)] 3) (by simp [iv, Value.oneCell']) (by unfold maxLen; omega) (by omega) (by simp; omega) ?_; intro v9 w9 hown hgrow _ _; obtain ⟨va, vc, rfl, _⟩ := own_slice hown; obtain ⟨p1, p2, p3, p4⟩ := PU.out _ w9 hown hgrow; have P1 := Lib.hid p1; have P2 := Lib.hid p2; have P3 := Lib.hid p3; clear hown hgrow p1 p2 p3)
                    clear c1 c2 m1 m2 e1 e2 e3 f1 f2 f3 hD hF hBw PU HROW
                    have c3 := bcell P2.out hd1
                    have y3 := frozen_of_heap P2.out k
                    have z3 := lt_of_heap P2.out
                    have HT4 : Hid (TB n (fun y => InL L y ∨ (y < k + 1 ∧ Mb (tos n E) i y)) (D.set k true)) := hT.out.set ⟨fun _ => .inr ⟨Nat.lt_succ_self k, hmb⟩, fun _ => rfl⟩ fun y hy => by
                      constructor
                      · rintro (h | ⟨h1, h2⟩)
                        · exact .inl h
                        · exact .inr ⟨by omega, h2⟩
                      · rintro (h | ⟨h1, h2⟩)
                        · exact .inl h
                        · exact .inr ⟨by omega, h2⟩
                    have HD4 : Hid (BM (w9.setCell ⟨bd, k, none⟩ (.bool true)) bd (D.set k true)) := bput P2.out k true
                    have HI4 : Hid (IR X (w9.setCell ⟨bd, k, none⟩ (.bool true)) (.slice va (q + 1) vc) (r ++ [k])) := P1.out.block fun j e _ => set_other j (by show j ≠ bd; have := (P1.out.lt j e).1; omega)
                    have HF4 : Hid (Fr (fun k => k = bd) wq (w9.setCell ⟨bd, k, none⟩ (.bool true))) := Fr.trans P3.out (Fr.setCell w9 ⟨bd, k, none⟩ _) fun j _ hj => hj
                    have hz4 : X ≤ (w9.setCell ⟨bd, k, none⟩ (.bool true)).heap.size := by simpa using p4
                    clear P1 P2 P3 hT hd1 p4
                    go_wp2_with fail
                    clear c3 y3 z3
                    go_roundg (n - (k + 1))
                    case measure => omega
                    case rel => exact ⟨k + 1, _, _, by go_num, rfl, by omega, hU2, HT4, HD4, HI4, HF4, hz4⟩
                  | false =>
                    have hno : ¬ Mb (tos n E) i k := fun h => by
                      cases x2.2 h.2
                    have hU2 := Lib.hid (hU.out.skip hno)
                    have HT4 : Hid (TB n (fun y => InL L y ∨ (y < k + 1 ∧ Mb (tos n E) i y)) D) := hT.out.congr fun y _ => by
                      constructor
                      · rintro (h | ⟨h1, h2⟩)
                        · exact .inl h
                        · exact .inr ⟨by omega, h2⟩
                      · rintro (h | ⟨h1, h2⟩)
                        · exact .inl h
                        · by_cases e : y = k
                          · rw [e] at h2
                            exact absurd h2 hno
                          · exact .inr ⟨by omega, h2⟩
                    clear hU hT u2 x2 hno
                    go_wp2_with fail
                    clear c1 c2 m1 m2 e1 e2 e3 f1 f2 f3
                    go_roundg (n - (k + 1))
                    case measure => omega
                    case rel => exact ⟨k + 1, r, D, by go_num, rfl, by omega, hU2, HT4, hD, hI, hF, hXz⟩
                | false =>
                  have hno : ¬ Mb (tos n E) i k := fun h => by
                    cases u2.2 h.1
                  have hU2 := Lib.hid (hU.out.skip hno)
                  have HT4 : Hid (TB n (fun y => InL L y ∨ (y < k + 1 ∧ Mb (tos n E) i y)) D) := hT.out.congr fun y _ => by
                    constructor
                    · rintro (h | ⟨h1, h2⟩)
                      · exact .inl h
                      · exact .inr ⟨by omega, h2⟩
                    · rintro (h | ⟨h1, h2⟩)
                      · exact .inl h
                      · by_cases e : y = k
                        · rw [e] at h2
                          exact absurd h2 hno
                        · exact .inr ⟨by omega, h2⟩
                  clear hU hT u2 x2 hno
                  go_wp2_with fail
                  clear c1 c2 m1 m2 e1 e2 e3 f1 f2 f3
                  go_roundg (n - (k + 1))
                  case measure => omega
                  case rel => exact ⟨k + 1, r, D, by go_num, rfl, by omega, hU2, HT4, hD, hI, hF, hXz⟩
              · have hbn2 : k = n := by omega
                rw [hbn2] at hU hT
                clear hRT hbox hBK
                have HP2 := Lib.hid (hP.out.push hnin.out hlt hU.out)
                have HT2 : Hid (TB n (InL (L ++ [r])) D) := hT.out.congr fun y hy => by rw [inL_push, hU.out.2]
                have HVw : Hid (RR (bd + 1) wr (.slice oa L.length oc) vs L) := hV.out.block (fun j e hlt => hF.out.block j hlt (by have := (hV.out.row.lt j e).1; omega)) fun _ u j e1 e2 hlt => hF.out.block j hlt (by have := (hV.out.lt' e1 j e2).1; omega)
                have hLn := hP.out.len
                have hIb : Hid (IR (bd + 1) wr (.slice la r.length lc) r) := hI.out.base (by omega)
                obtain ⟨q, hq⟩ : ∃ q, r.length = q := ⟨_, rfl⟩
                obtain ⟨mm, hmm⟩ : ∃ mm, L.length = mm := ⟨_, rfl⟩
                have HMM := Lib.hid hmm
                rw [hq] at hIb ⊢
                rw [hmm] at HVw hLn ⊢
                have HROW : Hid (wr.ownsRow (bd + 1) 31 1 (.slice oa mm oc) mm vs) := by
                  have h1 := HVw.out.row
                  rw [hmm] at h1
                  exact h1
                obtain ⟨i0, hi0, hz0, hz1, hz2⟩ := info_parts info31
                have HI0 := Lib.hid (⟨hi0, hz0, hz1, hz2⟩ : _ ∧ _ ∧ _ ∧ _)
                have PU : Hid (∀ (v' : Value) (w' : World), w'.ownsRow (bd + 1) 31 1 v' (mm + 1) (vs ++ [.slice la q lc]) → (wr.alloc (.cells #[.slice la q lc] 31)).grownBy w' (Value.slice oa mm oc).ownBlock → RR (bd + 1) w' v' (vs ++ [.slice la q lc]) (L ++ [r]) ∧ BM w' bd D ∧ Below bd W2 w') := fun v' w' h1 h2 => by
                  have hW : Below wr.heap.size wr (wr.alloc (.cells #[.slice la q lc] 31)) := below_alloc wr _ _ (Nat.le_refl _)
                  have hb : Below (bd + 1) wr w' := (below_alloc wr _ _ (by omega)).trans ⟨h2.os, h2.tape, h2.output, h2.size, fun j hj => h2.block j (by simp; omega) fun e => by
                    have := (World.ownsRow.lt HROW.out j e.symm).1
                    omega⟩
                  exact ⟨HVw.out.push hW hIb.out (by rw [HMM.out]; exact h1) h2, hD.out.keep (hb.block _ (Nat.lt_succ_self bd)), hBw.out.trans (hb.mono (Nat.le_succ bd))⟩
                clear hi0 hz0 hz1 hz2 hq hmm hI hU hT hP hnin hV hF
                go_upto_region 10 with (at_builtin; refine wpList_append_own_at _ rfl _ _ 39 rfl (bd + 1) 31 i0 (.slice none 0 0) 1 24 Try.underlying39 HI0.out.1 HI0.out.2.1 HI0.out.2.2.1 HI0.out.2.2.2 rfl (by decide) (.slice oa mm oc) mm vs rfl (World.ownsRow.alloc HROW.out _) ⟨wr.heap.size, 0, none⟩ 1 1 [.slice la q lc] rfl rfl (cells_new _ #[.slice la q lc] 31) (by simp [Value.oneCell']) (by unfold maxLen; omega) (by omega) (by simp; omega) ?_; intro v9 w9 hown hgrow _ _; obtain ⟨va, vc, rfl, _⟩ := own_slice hown; obtain ⟨p1, p2, p3⟩ := PU.out _ w9 hown hgrow; have P1 := Lib.hid p1; have P2 := Lib.hid p2; have P3 := Lib.hid p3; clear hown hgrow p1 p2 p3)
                clear m1 m2
                go_wp2_with fail
                go_roundg (n - (i + 1))
                case measure => omega
                case rel => exact ⟨i + 1, _, _, D, by go_num, rfl, by omega, HP2, HT2, P2, P1, P3⟩
        · have HPL := Lib.hid (PInv.pl (tos_ok HOK.out) (show PInv n (tos n E) n L by rw [show n = i by omega]; rw [show n = i by omega] at hP; exact hP.out))
          obtain ⟨mm, hmm⟩ : ∃ mm, L.length = mm := ⟨_, rfl⟩
          rw [hmm] at hV ⊢
          clear hT hD hP hmm
          go_wp2_with fail
          refine bodyPost_ret (v := .slice oa mm oc) (by simp [results, Try.results21, go_sem]) rfl ⟨_, vs, L, rfl, by rw [HK.out]; exact hV.out.base' (by omega), HPL.out, by rw [HK.out]; exact hBK⟩
end Go.Proofs.Ytcjohhminiedfaa
