/- The names that are free in a tree: plain. -/
import Derived.Test.YtlcglkanlhmmdaaGreatQN17RLet
namespace Go.Proofs.YtlcglkanlhmmdaaGreat
open Go.RowKit
def frT : T → List ByteArray → Bool → List ByteArray
  | .mk o l, ar, told => (if hereP o ar told then [o.nm] else []) ++ (l.zipIdx.attach.map fun p => frT p.1.1 (ar ++ bnP o l p.1.2) (tlP o l p.1.2)).flatten
termination_by t => SizeOf.sizeOf t
decreasing_by exact T.lt (List.fst_mem_of_mem_zipIdx p.2)
def frK (o : Nd) (l : List T) (ar : List ByteArray) (i : Nat) (c : T) : List ByteArray := frT c (ar ++ bnP o l i) (tlP o l i)
/-- Of the first i below. -/
def frL (o : Nd) (l : List T) (ar : List ByteArray) (i : Nat) : List ByteArray := ((l.zipIdx.take i).map fun p => frK o l ar p.2 p.1).flatten
def frH (o : Nd) (ar : List ByteArray) (told : Bool) : List ByteArray := if hereP o ar told then [o.nm] else []
theorem frT_mk (o : Nd) (l : List T) (ar : List ByteArray) (told : Bool) : frT (.mk o l) ar told = frH o ar told ++ (l.zipIdx.map fun p => frK o l ar p.2 p.1).flatten := by
  rw [frT]
  congr 2
  have h := map_sub (fun p : T × Nat => frK o l ar p.2 p.1) l.zipIdx.attach
  rw [List.attach_map_subtype_val] at h
  exact h
theorem frT_all {o : Nd} {l : List T} {ar : List ByteArray} {i : Nat} (h : l.length ≤ i) (told : Bool) : frT (.mk o l) ar told = frH o ar told ++ frL o l ar i := by
  rw [frT_mk]
  unfold frL
  rw [List.take_of_length_le (by simpa using h)]
theorem frL_zero (o : Nd) (l : List T) (ar : List ByteArray) : frL o l ar 0 = [] := rfl
theorem frL_succ {o : Nd} {l : List T} {ar : List ByteArray} {i : Nat} {c : T} (h : l[i]? = some c) : frL o l ar (i + 1) = frL o l ar i ++ frK o l ar i c := by
  unfold frL
  have : l.zipIdx[i]? = some (c, i) := by rw [List.getElem?_zipIdx, h]; simp
  rw [List.take_add_one, this, List.map_append, List.flatten_append]
  simp
theorem frH_length (o : Nd) (ar : List ByteArray) (told : Bool) : (frH o ar told).length ≤ 1 := by
  unfold frH
  split <;> simp
theorem frT_length (t : T) : ∀ (ar : List ByteArray) (told : Bool), (frT t ar told).length ≤ t.size := by
  induction t using T.ind with
  | h o l ih =>
    intro ar told
    have key : ∀ i, i ≤ l.length → (frL o l ar i).length ≤ ((l.take i).map T.size).sum := by
      intro i
      induction i with
      | zero => intro _; simp [frL_zero]
      | succ i ihi =>
        intro hi
        obtain ⟨c, hc⟩ : ∃ c, l[i]? = some c := ⟨_, List.getElem?_eq_getElem (by omega)⟩
        rw [frL_succ hc, List.length_append, sum_take hc]
        have h1 := ih c (List.mem_of_getElem? hc) (ar ++ bnP o l i) (tlP o l i)
        have h2 := ihi (by omega)
        unfold frK
        omega
    rw [frT_all (Nat.le_refl l.length), List.length_append, T.size_mk]
    have h1 := key l.length (Nat.le_refl _)
    have h2 := frH_length o ar told
    rw [List.take_of_length_le (Nat.le_refl _)] at h1
    omega
theorem frL_length (o : Nd) (l : List T) (ar : List ByteArray) : ∀ i, i ≤ l.length → (frL o l ar i).length ≤ ((l.take i).map T.size).sum
  | 0, _ => by simp [frL_zero]
  | i + 1, hi => by
    obtain ⟨c, hc⟩ : ∃ c, l[i]? = some c := ⟨_, List.getElem?_eq_getElem (by omega)⟩
    rw [frL_succ hc, List.length_append, sum_take hc]
    have h1 := frT_length c (ar ++ bnP o l i) (tlP o l i)
    have h2 := frL_length o l ar i (by omega)
    unfold frK
    omega
/-- Of the first j below a child that is told. -/
def frG (c : T) (ar : List ByteArray) (j : Nat) : List ByteArray := ((c.l.take j).map fun g => frT g ar false).flatten
theorem frG_succ {c g : T} {ar : List ByteArray} {j : Nat} (h : c.l[j]? = some g) : frG c ar (j + 1) = frG c ar j ++ frT g ar false := by
  unfold frG
  rw [List.take_add_one, h, List.map_append, List.flatten_append]
  simp
theorem frG_length (c : T) (ar : List ByteArray) (j : Nat) : (frG c ar j).length ≤ c.size := by
  have key : ∀ (l : List T), ((l.map fun g => frT g ar false).flatten).length ≤ (l.map T.size).sum := by
    intro l
    induction l with
    | nil => simp
    | cons g r ih =>
      simp only [List.map_cons, List.flatten_cons, List.length_append, List.sum_cons]
      have := frT_length g ar false
      omega
  unfold frG
  have h1 := key (c.l.take j)
  have h2 := sum_le (l := c.l) j
  have h3 : c.size = 1 + (c.l.map T.size).sum := by rw [← T.size_mk c.o, T.eta]
  omega
theorem frK_told {o : Nd} {l : List T} {ar : List ByteArray} {i : Nat} {c : T} (h : toldP o l i = true) (hc : l[i]? = some c) {j : Nat} (hj : c.l.length ≤ j) : frK o l ar i c = frG c (ar ++ bnP o l i) j := by
  unfold toldP at h
  simp only [Bool.and_eq_true, decide_eq_true_eq, hc, Option.map_some, Option.some.injEq] at h
  obtain ⟨h1, h2⟩ := h
  unfold frK frG
  rw [h1, List.take_of_length_le hj]
  obtain ⟨p, m⟩ := c
  have h7 : p.k = 7 := h2
  have hl : letP p m = false := by unfold letP; simp [h7]
  rw [frT_mk]
  have hh : frH p (ar ++ bnP o l i) true = [] := by unfold frH hereP; simp
  rw [hh, List.nil_append]
  congr 1
  have : ∀ k, frK p m (ar ++ bnP o l i) k = fun g => frT g (ar ++ bnP o l i) false := fun k => by
    funext g
    unfold frK bnP tlP
    rw [hl]
    simp
  simp only [this]
  show _ = m.map _
  exact (show _ = (m.zipIdx.map Prod.fst).map (fun g => frT g (ar ++ bnP o l i) false) by rw [List.map_map]; rfl).trans (by rw [List.zipIdx_map_fst])
theorem fr_nok {c : T} (ar : List ByteArray) (h : c.o.k ≠ 7) (b b' : Bool) : frT c ar b = frT c ar b' := by
  obtain ⟨o, l⟩ := c
  have h' : ∀ b, hereP o ar b = false := fun b => by
    have : decide (o.k = 7) = false := decide_eq_false h
    simp [hereP, this]
  rw [frT_mk, frT_mk]
  unfold frH
  rw [h', h']
theorem told_tl {o : Nd} {l : List T} {i : Nat} {c : T} (hc : l[i]? = some c) : tlP o l i = toldP o l i ∨ c.o.k ≠ 7 := by
  by_cases h : c.o.k = 7
  · left
    unfold toldP
    rw [hc]
    simp [h]
  · exact .inr h
theorem frK_free {o : Nd} {l : List T} {ar : List ByteArray} {i : Nat} {c : T} (h : toldP o l i = false) (hc : l[i]? = some c) : frK o l ar i c = frT c (ar ++ bnP o l i) false := by
  unfold frK
  rcases told_tl (o := o) hc with h1 | h1
  · rw [h1, h]
  · exact fr_nok _ h1 _ _
theorem calT_fr (t : T) : ∀ (ar : List ByteArray) (told : Bool), calT t ar told = !(frT t ar told).isEmpty := by
  induction t using T.ind with
  | h o l ih =>
    intro ar told
    rw [calT_mk, frT_mk, Bool.eq_iff_iff]
    simp only [Bool.or_eq_true, List.any_eq_true, Bool.not_eq_true', List.isEmpty_eq_false_iff, ne_eq, List.append_eq_nil_iff, Classical.not_and_iff_not_or_not]
    have h1 : (hereP o ar told = true) ↔ ¬ frH o ar told = [] := by
      unfold frH
      cases hereP o ar told <;> simp
    rw [h1]
    have h2 : (∃ x, x ∈ l.zipIdx ∧ kidC o l ar x.2 x.1 = true) ↔ ¬ (List.map (fun p => frK o l ar p.2 p.1) l.zipIdx).flatten = [] := by
      rw [List.flatten_eq_nil_iff]
      simp only [List.mem_map, forall_exists_index, and_imp, forall_apply_eq_imp_iff₂, Classical.not_forall]
      constructor
      · rintro ⟨x, hx, hk⟩
        refine ⟨x, hx, fun h => ?_⟩
        unfold kidC at hk
        rw [ih x.1 (List.fst_mem_of_mem_zipIdx hx)] at hk
        unfold frK at h
        rw [h] at hk
        simp at hk
      · rintro ⟨x, hx, h⟩
        refine ⟨x, hx, ?_⟩
        unfold kidC
        rw [ih x.1 (List.fst_mem_of_mem_zipIdx hx)]
        unfold frK at h
        simpa using h
    rw [h2]
theorem kid_size {o : Nd} {l : List T} {i : Nat} {c : T} (h : l[i]? = some c) : l.length + c.size ≤ (T.mk o l).size := by
  have hi : i < l.length := (List.getElem?_eq_some_iff.1 h).1
  have key : ∀ (l : List T) (i : Nat) (c : T), l[i]? = some c → l.length + c.size ≤ 1 + (l.map T.size).sum := by
    intro l
    induction l with
    | nil => intro i c h; simp at h
    | cons t r ih =>
      intro i c h
      have ht : 1 ≤ t.size := by cases t; rw [T.size_mk]; omega
      cases i with
      | zero =>
        simp at h
        subst h
        have : r.length ≤ (r.map T.size).sum := by
          clear ih
          induction r with
          | nil => simp
          | cons u r ih =>
            have : 1 ≤ u.size := by cases u; rw [T.size_mk]; omega
            simp
            omega
        simp
        omega
      | succ i =>
        have := ih i c (by simpa using h)
        simp
        omega
  rw [T.size_mk]
  exact key l i c h
end Go.Proofs.YtlcglkanlhmmdaaGreat
/- ref17: Free. -/
namespace Go.Proofs.YtlcglkanlhmmdaaGreat
open Go.RowKit
def FreeR (w : World) (l : List ByteArray) : Ending → World → Prop := fun e w' => ∃ v, e = .returned v ∧ StrO w.heap.size w' v l ∧ Below w.heap.size w w'
theorem StrO.src {B : Nat} {w : World} {v : Value} {l : List ByteArray} (h : StrO B w v l) : ∃ a cap, v = .slice a l.length cap ∧ (0 < l.length → ∃ ad, a = some ad ∧ ∀ j u, (l.map Value.string)[j]? = some u → w.cell? (ad.add j) = some u) := by
  obtain ⟨a, cap, rfl, hs⟩ := h.strs
  refine ⟨a, cap, rfl, fun h0 => ?_⟩
  obtain ⟨b, off, rfl, hb, h2⟩ := hs h0
  refine ⟨_, rfl, fun j u hu => ?_⟩
  rw [List.getElem?_map] at hu
  cases hx : l[j]? with
  | none => rw [hx] at hu; cases hu
  | some x =>
    rw [hx] at hu
    cases hu
    rw [Addr.add_mid]
    exact h2 j x hx
theorem nd_of {w : World} {b : Nat} {o : Nd} {s : Value} (h : w.heap[b]? = some (.cells (ncells o s).toArray 42)) : NdAt w b 0 o s := fun j hj => by rw [cell_of_heap h, Nat.zero_add]; simp
/-- Behind the append of a row of texts. -/
theorem StrO.after {B : Nat} {v' : Value} {A l : List ByteArray} {w' : World} (ho : w'.ownsRow B 9 1 v' (A.length + l.length) (A.map Value.string ++ l.map Value.string)) : StrO B w' v' (A ++ l) := by
  unfold StrO
  rw [List.length_append, List.map_append]
  exact ho
set_option maxHeartbeats 4000000 in
set_option maxRecDepth 100000 in
theorem free15_step (o : Nd) (l : List T) (ar : List ByteArray) (hz : (T.mk o l).size ≤ 2097152) (har : ar.length + (T.mk o l).size ≤ 4194304) (a : Option Addr) (cap : Nat) (aa : Option Addr) (ac : Nat) (w : World) (hA : (T.mk o l).At w a) (hS : StrsAt w aa ar)
    (ih : ∀ u : T, u.size < (T.mk o l).size → ∀ (br : List ByteArray) (x : Value) (ba : Option Addr) (bc : Nat) (w : World), br.length + u.size ≤ 4194304 → IsT w x u → StrsAt w ba br → Calls Tryz.prog 27 #[x, .slice ba br.length bc] w (FreeR w (frT u br false))) :
    Calls Tryz.prog 27 #[nagg o (.slice a l.length cap), .slice aa ar.length ac] w (FreeR w (frT (.mk o l) ar false)) := by
  have hll : l.length < (T.mk o l).size := T.len_le o l
  have HA := Lib.hid hA
  have HS := Lib.hid hS
  have IH := Lib.hid ih
  have HZ := Lib.hid hz
  have HAR := Lib.hid har
  obtain ⟨n, hn⟩ : ∃ n, l.length = n := ⟨_, rfl⟩
  rw [hn] at hll ⊢
  have HN := Lib.hid hn
  have hn2 : n ≤ 2097152 := by omega
  have har2 : ar.length ≤ 4194304 := by omega
  have IN := Lib.hid (fun W (h : Below w.heap.size w W) => in28_any o.nm ar har2 aa ac W (hS.below h))
  obtain ⟨i0, hii, hz0, hz1, hz2⟩ := info_parts info9z
  have HI := Lib.hid (And.intro hii (And.intro hz0 (And.intro hz1 hz2)))
  clear hA hS ih hn hii hz0 hz1 hz2 hz har
  rw [nagg_eq]
  go_enter Tryz.func27, Tryz.ntmps27
  go_upto_region 2 with fail
  refine abs_world ?_
  intro W0 hW0
  have hB0 : Hid (Below w.heap.size w W0) := by rw [hW0]; unfold Hid; (repeat (first | with_reducible exact Below.refl _ _ | with_reducible exact hBW | with_reducible refine Below.setCell ?_ ?_ _ | with_reducible refine Below.alloc ?_ ?_ _ | with_reducible refine belowN ?_ _ | with_reducible refine Below.drew ?_)); all_goals (first | omega | (dsimp only; omega) | ((repeat (first | with_reducible refine le_alloc ?_ | with_reducible refine le_setCell ?_ | with_reducible refine le_drew ?_ | with_reducible refine le_drewN ?_)); omega))
  have g0 : W0.heap[w.heap.size]? = some (.cells (ncells o (.slice a n cap)).toArray 42) := by rw [hW0]; exact heap_alloc_new w _
  have G0 := Lib.hid g0
  clear hW0
  go_cut [17] (fun s17 wx => W0 = wx ∧ s17 = .bool (hereP o ar false))
  case first =>
    have x0 : W0.cell? ⟨w.heap.size, 0, none⟩ = some (.int .i64 o.k) := cell_of_heap G0.out 0
    have x7 : W0.cell? ⟨w.heap.size, 7, none⟩ = some (.string o.nm) := cell_of_heap G0.out 7
    have z0 := lt_of_heap G0.out
    have HI0 := Lib.hid (IN.out W0 hB0.out)
    by_cases h7 : o.k = 7
    case neg =>
      have e7 : (o.k == 7) = false := by simp [h7]
      have HH : Hid (hereP o ar false = false) := by unfold Hid hereP; simp [h7]
      clear h7
      go_wp2_with fail
      go_meet
      exact ⟨rfl, by rw [HH.out]⟩
    have e7 : (o.k == 7) = true := by simp [h7]
    have HH : Hid (hereP o ar false = !(ar.any (fun x => x.toList == o.nm.toList))) := by unfold Hid hereP inL; simp [h7]
    clear h7
    go_wp2_with fail
    refine HI0.out.mono ?_
    rintro e w1 ⟨rfl, rfl⟩
    go_wp2_with fail
    go_meet
    exact ⟨rfl, by rw [HH.out]⟩
  case rest =>
  obtain ⟨rfl, rfl⟩ := hcut
  go_upto_if 17 with fail
  go_cut [5] (fun s5 wx => StrO (w.heap.size + 1) wx s5 (frH o ar false) ∧ Hid (Below (w.heap.size + 1) W0 wx))
  case first =>
    have x7 : W0.cell? ⟨w.heap.size, 7, none⟩ = some (.string o.nm) := cell_of_heap G0.out 7
    have z0 := lt_of_heap G0.out
    cases hin : hereP o ar false with
    | false =>
      have HH : Hid (frH o ar false = []) := by unfold Hid frH; rw [hin]; rfl
      clear hin
      go_wp2_with fail
      go_meet
      exact ⟨by rw [HH.out]; exact StrO.nil _ _, Below.refl _ _⟩
    | true =>
      have HH : Hid (frH o ar false = [o.nm]) := by unfold Hid frH; rw [hin]; rfl
      have h0 : Hid ((W0.alloc (.cells #[.string o.nm] 9)).ownsRow (w.heap.size + 1) 9 1 (.slice none 0 0) 0 []) := ⟨rfl, .inl ⟨rfl, rfl⟩⟩
      clear hin
      go_wp2_with (refine wpList_append_src rfl (.tmp 18) (.tmp 21) 66 rfl (w.heap.size + 1) 9 i0 _ 1 16 Tryz.underlying66 HI.out.1 HI.out.2.1 HI.out.2.2.1 HI.out.2.2.2 rfl (by decide) (.slice none 0 0) 0 [] rfl h0.out (some ⟨W0.heap.size, 0, none⟩) 1 1 [.string o.nm] rfl rfl (fun _ => ⟨_, rfl, fun j u hu => cells_new W0 #[.string o.nm] 9 j u hu⟩) (by simp [Value.oneCell']) (by unfold maxLen; omega) (by omega) (by simp; omega) ?_; intro v4 W4 ho4 hg4)
      go_meet
      refine ⟨by rw [HH.out]; exact ho4, ((Below.refl _ W0).alloc (by omega) _).grown hg4 (by simp; omega) (fun k h => by cases h)⟩
  case rest =>
  obtain ⟨hO, hB⟩ := hcut
  have HO := Lib.hid hO
  clear hO
  go_wp2_with fail
  go_loopg [5, 6] n (fun gh s5 s6 wr => ∃ k : Nat, s6 = .int .i64 (k : Int) ∧ gh = n - k ∧ k ≤ n ∧ Hid (StrO (w.heap.size + 1) wr s5 (frH o ar false ++ frL o l ar k)) ∧ Hid (Below (w.heap.size + 1) W0 wr))
  case atStart => exact ⟨0, rfl, rfl, Nat.zero_le _, (by rw [frL_zero, List.append_nil]; exact HO.out), hB⟩
  clear HO hB
  case round =>
    obtain ⟨k, rfl, rfl, hk, hO, hB⟩ := hrel
    have HW : Hid (Below w.heap.size w wr) := hB0.out.trans (hB.out.mono (Nat.le_succ _))
    have gr : wr.heap[w.heap.size]? = some (.cells (ncells o (.slice a n cap)).toArray 42) := (hB.out.block _ (Nat.lt_succ_self _)).trans G0.out
    have GR := Lib.hid gr
    have x21 : wr.cell? ⟨w.heap.size, 21, none⟩ = some (.slice a n cap) := cell_of_heap gr 21
    have zr := lt_of_heap gr
    have HZR : Hid (w.heap.size + 1 ≤ wr.heap.size) := zr
    clear gr
    by_cases hlt : k < n
    · obtain ⟨c, hc⟩ : ∃ c, l[k]? = some c := ⟨_, List.getElem?_eq_getElem (by rw [HN.out]; exact hlt)⟩
      have HC := Lib.hid hc
      have HKS := Lib.hid (kid_size (o := o) hc)
      have RR := Lib.hid (range_blk GR.out)
      have TLD := Lib.hid (told_any o l a cap k (by rw [HN.out]; exact hn2) (by rw [HN.out]; omega) wr (HA.out.below HW.out))
      rw [HN.out] at TLD HKS
      obtain ⟨g, go, rfl, hg, hall⟩ := T.at_mk.1 HA.out (by rw [HN.out]; omega)
      have HG : Hid (g < w.heap.size ∧ ∃ ta tc, NdAt w g (go + k * 22) c.o (.slice ta c.l.length tc) ∧ c.At w ta) := by
        obtain ⟨ta, tc, h1, h2⟩ := hall k c hc
        exact ⟨hg, ta, tc, h1, h2⟩
      have hALEN : Hid ((frH o ar false ++ frL o l ar k).length ≤ 2097152) := by
        have h1 := frH_length o ar false
        have h2 := frL_length o l ar k (by rw [HN.out]; omega)
        have h3 := sum_le (l := l) k
        have h4 := HZ.out
        rw [T.size_mk] at h4
        show List.length _ ≤ _
        rw [List.length_append]
        omega
      obtain ⟨A, hAe⟩ : ∃ A, frH o ar false ++ frL o l ar k = A := ⟨_, rfl⟩
      rw [hAe] at hALEN hO
      have HAE := Lib.hid hAe
      clear hall hg hc hAe
      go_wp2_with (refine wpList_load_g rfl 42 (.tmp 2) rfl w.heap.size 0 rfl _ _ RR.out Tryz.underlying42 rfl info35 ?_)
      refine TLD.out.mono ?_
      rintro e w1 ⟨rfl, hb1⟩
      clear RR TLD x21
      have HW1 : Hid (Below wr.heap.size wr w1) := hb1
      clear hb1
      obtain ⟨br, hbr⟩ : ∃ br, ar ++ bnP o l k = br := ⟨_, rfl⟩
      have hbl : br.length + c.size ≤ 4194304 := by
        have h1 := HKS.out
        have h2 := HAR.out
        have h3 := bnP_length o l k
        rw [← hbr, List.length_append]
        omega
      have HBR := Lib.hid hbr
      clear hbr
      cases htp : toldP o l k with
      | true =>
        have HT := Lib.hid htp
        clear htp
        obtain ⟨m, hm⟩ : ∃ m, c.l.length = m := ⟨_, rfl⟩
        have HM := Lib.hid hm
        have HCS : Hid (m < c.size) := by have := T.len_le c.o c.l; rw [T.eta, hm] at this; exact this
        rw [hm] at HG
        have hm2 : m ≤ 2097152 := by have h1 := HCS.out; have h2 := HKS.out; have h3 := HZ.out; omega
        clear hm
        go_wp2_with fail
        have HO1 := Lib.hid (hO.out.below HW1.out)
        have HB1 : Hid (Below (w.heap.size + 1) W0 w1) := hB.out.trans (HW1.out.mono HZR.out)
        clear hO hB HW HW1 GR HZR zr
        go_loopg [5, 7] m (fun gh s5 s7 wr => ∃ j : Nat, s7 = .int .i64 (j : Int) ∧ gh = m - j ∧ j ≤ m ∧ Hid (StrO (w.heap.size + 1) wr s5 (A ++ frG c br j)) ∧ Hid (Below (w.heap.size + 1) W0 wr))
        case atStart => exact ⟨0, rfl, rfl, Nat.zero_le _, (by show StrO _ _ _ (A ++ []); rw [List.append_nil]; exact HO1.out), HB1⟩
        clear HO1 HB1
        case round =>
          obtain ⟨j, rfl, rfl, hj, hO, hB⟩ := hrel
          have HW : Hid (Below w.heap.size w wr) := hB0.out.trans (hB.out.mono (Nat.le_succ _))
          have g1 : wr.heap[w.heap.size]? = some (.cells (ncells o (.slice (some ⟨g, go, none⟩) n cap)).toArray 42) := (hB.out.block _ (Nat.lt_succ_self _)).trans G0.out
          have x21 : wr.cell? ⟨w.heap.size, 21, none⟩ = some (.slice (some ⟨g, go, none⟩) n cap) := cell_of_heap g1 21
          have z1 := lt_of_heap g1
          have HZR : Hid (w.heap.size + 1 ≤ wr.heap.size) := z1
          obtain ⟨hg, ta, tc, hnd0, hat0⟩ := HG.out
          have hg1 : g < wr.heap.size := Nat.lt_of_lt_of_le hg HW.out.size
          have hnd : NdAt wr g (go + k * 22) c.o (.slice ta m tc) := NdAt.below hnd0 HW.out hg
          have y21 : wr.cell? ⟨g, go + k * 22 + 21, none⟩ = some (.slice ta m tc) := hnd 21 (by omega)
          have hat := hat0.below HW.out c
          have j1 : (0 : Int) ≤ (k : Int) := by omega
          have j2 : (k : Int) < (n : Int) := by omega
          have j3 : (0 : Int) ≤ (j : Int) := by omega
          have LDN := load_nd z1 (nd_of g1)
          clear hnd0 hat0 hnd hg g1
          by_cases hjm : j < m
          · obtain ⟨d, hd⟩ : ∃ d, c.l[j]? = some d := ⟨_, List.getElem?_eq_getElem (by rw [HM.out]; exact hjm)⟩
            have HD := Lib.hid hd
            obtain ⟨q, qo, rfl, hq, hall⟩ := T.at_mk.1 (show (T.mk c.o c.l).At wr ta by rw [T.eta]; exact hat) (by rw [HM.out]; omega)
            obtain ⟨da, dc, hnd, hda⟩ := hall j d hd
            have LDK := load_nd hq hnd
            have HAT : Hid (d.At wr da) := hda
            have HDS : Hid (d.size < c.size) := by have := T.size_le (o := c.o) (List.mem_of_getElem? hd); rw [T.eta] at this; exact this
            have j4 : (j : Int) < (m : Int) := by omega
            clear hall hnd hda hat hd
            obtain ⟨A2, hA2⟩ : ∃ A2, A ++ frG c br j = A2 := ⟨_, rfl⟩
            have hALEN2 : Hid (A2.length ≤ 4194304) := by
              have h1 := frG_length c br j
              have h2 := hALEN.out
              have h3 := HKS.out
              have h4 := HZ.out
              rw [← hA2]
              show List.length _ ≤ _
              rw [List.length_append]
              omega
            rw [hA2] at hO
            have HAE2 := Lib.hid hA2
            clear hA2
            go_wp2_with fail
            refine wp_region_multiR [([10, 11, 12, 0, 1, 3, 7, 2, 4, 5, 6, 8, 9], [13, 14, 15], [15, 16]), ([16], [], [])] (by kernel_rfl) (by kernel_rfl) ?_
            refine multi_phase (Below wr.heap.size wr) (Below.refl _ _).drew ?_
            apply first_load; (rw [List.getElem?_toArray]; (repeat rw [List.getElem?_cons_succ]); rw [List.getElem?_cons_zero]); rfl; rfl; rfl; exact LDN; go_frame
            iterate 11 (first | (apply first_step; (rw [List.getElem?_toArray]; (repeat rw [List.getElem?_cons_succ]); rw [List.getElem?_cons_zero]); rfl; (intro W hB; have hc := bcellB hB; go_simp; (first | done | rfl)); go_frame) | (apply first_skip; (rw [List.getElem?_toArray]; (repeat rw [List.getElem?_cons_succ]); rw [List.getElem?_cons_zero]); rfl; go_frame))
            apply first_load; (rw [List.getElem?_toArray]; (repeat rw [List.getElem?_cons_succ]); rw [List.getElem?_cons_zero]); rfl; rfl; rfl; exact LDK; go_frame
            refine first_done ?_
            apply forced_step; (rw [List.getElem?_toArray]; (repeat rw [List.getElem?_cons_succ]); rw [List.getElem?_cons_zero]); rfl; intro K hK; go_simp
            have BND := bound_any o l (some ⟨g, go, none⟩) cap k (by rw [HN.out]; exact hn2) (by rw [HN.out]; exact hlt) ar har2 aa ac wr.drew ((HA.out.below HW.out).below (Below.refl _ wr).drew) ((HS.out.below HW.out).below (Below.refl _ wr).drew)
            rw [HN.out] at BND
            rw [HBR.out] at BND
            refine BND.mono ?_
            rintro e w2 ⟨bv, rfl, hbv, hb2⟩
            have HB2 : Hid (Below wr.heap.size wr w2) := (Below.refl _ wr).drew.trans hb2
            obtain ⟨ba, bc, rfl, hbs⟩ := hbv.strs
            have CL := Lib.hid (IH.out d (by have := HKS.out; have := HDS.out; omega) br (nagg d.o (.slice da d.l.length dc)) ba bc w2 (by have := HDS.out; omega) ⟨da, dc, rfl, HAT.out.below HB2.out d⟩ hbs)
            refine hK _ _ (fun _ => HB2.out) ?_
            clear hK K hb2 hbv hbs BND LDN LDK x21 y21
            apply forced_step; (rw [List.getElem?_toArray]; (repeat rw [List.getElem?_cons_succ]); rw [List.getElem?_cons_zero]); rfl; intro K hK; go_simp
            refine CL.out.mono ?_
            rintro e w4 ⟨v4, rfl, hv4, hb4⟩
            obtain ⟨R, hRe⟩ : ∃ R, frT d br false = R := ⟨_, rfl⟩
            rw [hRe] at hv4
            have HRL : Hid (R.length ≤ 2097152) := by
              have h1 := frT_length d br false
              have h2 := HKS.out
              have h3 := HZ.out
              have h4 := HDS.out
              rw [hRe] at h1
              show R.length ≤ _
              omega
            have HRE := Lib.hid hRe
            clear hRe
            have HB4 : Hid (Below wr.heap.size wr w4) := HB2.out.trans (hb4.mono HB2.out.size)
            obtain ⟨a4, c4, rfl, hsrc⟩ := hv4.src
            refine hK _ _ (fun _ => HB4.out) ?_
            clear hK K hb4 hv4
            have O4 : Hid (StrO (w.heap.size + 1) w4 u5 A2) := hO.out.below HB4.out
            have hl1 : (A2).length ≤ 4194304 := by have := hALEN2.out; omega
            have hl2 : R.length ≤ 4194304 := by have := HRL.out; omega
            have hbx : Below (w.heap.size + 1) W0 w4 := hB.out.trans (HB4.out.mono HZR.out)
            have hbase : w.heap.size + 1 ≤ w4.heap.size := Nat.le_trans (lt_of_heap G0.out) hbx.size
            apply forced_step; (rw [List.getElem?_toArray]; (repeat rw [List.getElem?_cons_succ]); rw [List.getElem?_cons_zero]); rfl; intro K hK
            refine wp_append_src (.tmp 44) (.tmp 58) 66 rfl (w.heap.size + 1) 9 i0 _ 1 16 Tryz.underlying66 HI.out.1 HI.out.2.1 HI.out.2.2.1 HI.out.2.2.2 rfl (by decide) u5 (A2).length ((A2).map Value.string) rfl O4.out a4 R.length c4 (R.map Value.string) rfl (by simp) hsrc (str_one R) (by unfold maxLen; omega) (by omega) hbase ?_
            intro v5 W5 ho5 hg5
            have HB5 : Hid (Below (w.heap.size + 1) W0 W5) := hbx.trans ((Below.refl _ w4).grown hg5 hbase (own_base O4.out))
            have O5 : Hid (StrO (w.heap.size + 1) W5 v5 (A2 ++ R)) := StrO.after ho5
            refine hK _ _ (fun h => absurd (by decide) h) ?_
            clear hK K hg5 ho5 O4 hl1 hl2 hbase hbx hsrc
            refine forced_done ?_
            refine multi_phase (fun _ => True) trivial ?_
            apply first_step; (rw [List.getElem?_toArray]; (repeat rw [List.getElem?_cons_succ]); rw [List.getElem?_cons_zero]); rfl; (intro W hB; go_simp; (first | done | rfl)); go_frame
            refine first_done ?_
            refine forced_done ?_
            refine multi_done ?_
            go_wp2_with fail
            go_roundg (m - (j + 1))
            case measure => omega
            case rel =>
              refine ⟨j + 1, by go_num, rfl, by omega, ?_, HB5⟩
              rw [frG_succ HD.out, HRE.out, ← List.append_assoc, HAE2.out]
              exact O5
          · have hjm2 : j = m := by omega
            have HO2 : Hid (StrO (w.heap.size + 1) wr u5 (frH o ar false ++ frL o l ar (k + 1))) := by
              rw [frL_succ HC.out, frK_told HT.out HC.out (j := j) (by rw [HM.out]; omega), HBR.out, ← List.append_assoc, HAE.out]
              exact hO.out
            clear hO
            go_wp2_with fail
            go_roundg (n - (k + 1))
            case measure => omega
            case rel => exact ⟨k + 1, by go_num, rfl, by omega, HO2, hB⟩
      | false =>
        have HT := Lib.hid htp
        clear htp
        have hs1 : wr.heap.size ≤ w1.heap.size := HW1.out.size
        have g1 : w1.heap[w.heap.size]? = some (.cells (ncells o (.slice (some ⟨g, go, none⟩) n cap)).toArray 42) := (HW1.out.block _ zr).trans GR.out
        have x21 : w1.cell? ⟨w.heap.size, 21, none⟩ = some (.slice (some ⟨g, go, none⟩) n cap) := cell_of_heap g1 21
        have z1 := lt_of_heap g1
        obtain ⟨hg, ta, tc, hnd, hat⟩ := HG.out
        have HWw : Hid (Below w.heap.size w w1) := HW.out.trans (HW1.out.mono HW.out.size)
        have hg1 : g < w1.heap.size := Nat.lt_of_lt_of_le hg HWw.out.size
        have LDN := load_nd z1 (nd_of g1)
        have LDK := load_nd hg1 (NdAt.below hnd HWw.out hg)
        have HAT : Hid (c.At w1 ta) := hat.below HWw.out c
        have j1 : (0 : Int) ≤ (k : Int) := by omega
        have j2 : (k : Int) < (n : Int) := by omega
        clear hnd hat hg g1
        go_wp2_with fail
        refine wp_region_multiR [([6, 7, 8, 0, 1, 3, 2, 4, 5], [9, 10, 11], [11, 12]), ([12], [], [])] (by kernel_rfl) (by kernel_rfl) ?_
        refine multi_phase (Below w1.heap.size w1) (Below.refl _ _).drew ?_
        apply first_load; (rw [List.getElem?_toArray]; (repeat rw [List.getElem?_cons_succ]); rw [List.getElem?_cons_zero]); rfl; rfl; rfl; exact LDN; go_frame
        iterate 7 (first | (apply first_step; (rw [List.getElem?_toArray]; (repeat rw [List.getElem?_cons_succ]); rw [List.getElem?_cons_zero]); rfl; (intro W hB; have hc := bcellB hB; go_simp; (first | done | rfl)); go_frame) | (apply first_skip; (rw [List.getElem?_toArray]; (repeat rw [List.getElem?_cons_succ]); rw [List.getElem?_cons_zero]); rfl; go_frame))
        apply first_load; (rw [List.getElem?_toArray]; (repeat rw [List.getElem?_cons_succ]); rw [List.getElem?_cons_zero]); rfl; rfl; rfl; exact LDK; go_frame
        refine first_done ?_
        apply forced_step; (rw [List.getElem?_toArray]; (repeat rw [List.getElem?_cons_succ]); rw [List.getElem?_cons_zero]); rfl; intro K hK; go_simp
        have BND := bound_any o l (some ⟨g, go, none⟩) cap k (by rw [HN.out]; exact hn2) (by rw [HN.out]; exact hlt) ar har2 aa ac w1.drew ((HA.out.below (HW.out.trans (HW1.out.mono HW.out.size))).below (Below.refl _ w1).drew) ((HS.out.below (HW.out.trans (HW1.out.mono HW.out.size))).below (Below.refl _ w1).drew)
        rw [HN.out] at BND
        rw [HBR.out] at BND
        refine BND.mono ?_
        rintro e w2 ⟨bv, rfl, hbv, hb2⟩
        have HB2 : Hid (Below w1.heap.size w1 w2) := (Below.refl _ w1).drew.trans hb2
        obtain ⟨ba, bc, rfl, hbs⟩ := hbv.strs
        have HBS := Lib.hid hbs
        have CL := Lib.hid (IH.out c (by have := HKS.out; omega) br (nagg c.o (.slice ta c.l.length tc)) ba bc w2 hbl ⟨ta, tc, rfl, HAT.out.below HB2.out c⟩ hbs)
        refine hK _ _ (fun _ => HB2.out) ?_
        clear hK K hb2 hbv hbs BND LDN LDK x21
        apply forced_step; (rw [List.getElem?_toArray]; (repeat rw [List.getElem?_cons_succ]); rw [List.getElem?_cons_zero]); rfl; intro K hK; go_simp
        refine CL.out.mono ?_
        rintro e w4 ⟨v4, rfl, hv4, hb4⟩
        obtain ⟨R, hRe⟩ : ∃ R, frT c br false = R := ⟨_, rfl⟩
        rw [hRe] at hv4
        have HRL : Hid (R.length ≤ 2097152) := by
          have h1 := frT_length c br false
          have h2 := HKS.out
          have h3 := HZ.out
          rw [hRe] at h1
          show R.length ≤ _
          omega
        have HRE := Lib.hid hRe
        clear hRe
        have HB4 : Hid (Below w1.heap.size w1 w4) := HB2.out.trans (hb4.mono HB2.out.size)
        obtain ⟨a4, c4, rfl, hsrc⟩ := hv4.src
        refine hK _ _ (fun _ => HB4.out) ?_
        clear hK K hb4 hv4
        have O4 : Hid (StrO (w.heap.size + 1) w4 u5 A) := (hO.out.below HW1.out).below HB4.out
        have hl1 : (A).length ≤ 4194304 := by have := hALEN.out; omega
        have hl2 : R.length ≤ 4194304 := by have := HRL.out; omega
        have hbx : Below (w.heap.size + 1) W0 w4 := hB.out.trans ((HW1.out.trans (HB4.out.mono HW1.out.size)).mono HZR.out)
        have hbase : w.heap.size + 1 ≤ w4.heap.size := Nat.le_trans (lt_of_heap G0.out) hbx.size
        apply forced_step; (rw [List.getElem?_toArray]; (repeat rw [List.getElem?_cons_succ]); rw [List.getElem?_cons_zero]); rfl; intro K hK
        refine wp_append_src (.tmp 60) (.tmp 70) 66 rfl (w.heap.size + 1) 9 i0 _ 1 16 Tryz.underlying66 HI.out.1 HI.out.2.1 HI.out.2.2.1 HI.out.2.2.2 rfl (by decide) u5 (A).length ((A).map Value.string) rfl O4.out a4 R.length c4 (R.map Value.string) rfl (by simp) hsrc (str_one R) (by unfold maxLen; omega) (by omega) hbase ?_
        intro v5 W5 ho5 hg5
        have HB5 : Hid (Below (w.heap.size + 1) W0 W5) := hbx.trans ((Below.refl _ w4).grown hg5 hbase (own_base O4.out))
        have O5 : Hid (StrO (w.heap.size + 1) W5 v5 (A ++ R)) := StrO.after ho5
        refine hK _ _ (fun h => absurd (by decide) h) ?_
        clear hK K hg5 ho5 O4 hl1 hl2 hbase hbx hsrc
        refine forced_done ?_
        refine multi_phase (fun _ => True) trivial ?_
        apply first_step; (rw [List.getElem?_toArray]; (repeat rw [List.getElem?_cons_succ]); rw [List.getElem?_cons_zero]); rfl; (intro W hB; go_simp; (first | done | rfl)); go_frame
        refine first_done ?_
        refine forced_done ?_
        refine multi_done ?_
        go_wp2_with fail
        go_roundg (n - (k + 1))
        case measure => omega
        case rel =>
          refine ⟨k + 1, by go_num, rfl, by omega, ?_, HB5⟩
          rw [frL_succ HC.out, frK_free HT.out HC.out, HBR.out, HRE.out, ← List.append_assoc, HAE.out]
          exact O5
    · have hkn : k = n := by omega
      have HR : Hid (StrO (w.heap.size + 1) wr u5 (frT (.mk o l) ar false)) := by
        rw [frT_all (i := k) (by rw [HN.out]; omega)]
        exact hO.out
      clear hO
      go_wp2_with fail
      go_ret
      exact ⟨_, rfl, own_base_le HR.out (Nat.le_succ _), HW.out⟩
theorem free15_all : ∀ (N : Nat) (t : T), t.size ≤ N → t.size ≤ 2097152 → ∀ (ar : List ByteArray) (x : Value) (aa : Option Addr) (ac : Nat) (w : World), ar.length + t.size ≤ 4194304 → IsT w x t → StrsAt w aa ar → Calls Tryz.prog 27 #[x, .slice aa ar.length ac] w (FreeR w (frT t ar false))
  | 0, t, h, _, _, _, _, _, _, _, _, _ => by
    have : 1 ≤ t.size := by cases t; rw [T.size_mk]; omega
    omega
  | N + 1, .mk o l, h, hz, ar, x, aa, ac, w, har, hx, hS => by
    obtain ⟨a, cap, rfl, hA⟩ := hx
    exact free15_step o l ar hz har a cap aa ac w hA hS (fun u hu br x ba bc w hbr hx hs => free15_all N u (by omega) (by omega) br x ba bc w hbr hx hs)
theorem free15_any (t : T) (hz : t.size ≤ 2097152) (x : Value) (w : World) (hx : IsT w x t) : Calls Tryz.prog 27 #[x, .slice none 0 0] w (FreeR w (frT t [] false)) :=
  free15_all _ t (Nat.le_refl _) hz [] x none 0 w (by simp; omega) hx (fun h => by cases h)
end Go.Proofs.YtlcglkanlhmmdaaGreat
