/- ref06.own. -/
import Derived.Test.YtlcglkanlhmmdaaGreatQTwo
namespace Go.Proofs.YtlcglkanlhmmdaaGreat
open Go.RowKit
theorem strsN (w : World) (l : List ByteArray) : StrsAt (w.alloc (.cells (l.map Value.string).toArray 9)) (some ⟨w.heap.size, 0, none⟩) l := fun _ =>
  ⟨w.heap.size, 0, rfl, by simp, fun i u hu => by
    rw [cell_of_heap (heap_alloc_new w _), Nat.zero_add]
    simp [hu]⟩
theorem beq_nat (n m : Nat) {k : Int} (hk : k = (m : Int)) : ((n : Int) == k) = decide (n = m) := by
  subst hk
  rw [Bool.eq_iff_iff]
  simp
  omega
theorem beq_tl (a b : ByteArray) (x : List UInt8) (h : a.data.toList = x) : (a.toList == b.toList) = (b.toList == x) := by
  rw [ByteArray.toList_eq a, h, BEq.comm]
def unS : List ByteArray := [⟨#[45]⟩, ⟨#[43]⟩, ⟨#[37]⟩]
def binS : List ByteArray := [⟨#[43]⟩, ⟨#[45]⟩, ⟨#[42]⟩, ⟨#[47]⟩, ⟨#[94]⟩, ⟨#[38]⟩, ⟨#[61]⟩, ⟨#[60, 62]⟩, ⟨#[60]⟩, ⟨#[60, 61]⟩, ⟨#[62]⟩, ⟨#[62, 61]⟩]
theorem un_in (s : ByteArray) : unS.any (fun x => x.toList == s.toList) = unP s := by
  unfold unS unP
  simp only [List.any_cons, List.any_nil, Bool.or_false]
  rw [beq_tl _ s [45] rfl, beq_tl _ s [43] rfl, beq_tl _ s [37] rfl, Bool.or_assoc]
theorem bin_in (s : ByteArray) : binS.any (fun x => x.toList == s.toList) = binP s := by
  unfold binS binP binL
  simp only [List.any_cons, List.any_nil, Bool.or_false]
  rw [beq_tl _ s [43] rfl, beq_tl _ s [45] rfl, beq_tl _ s [42] rfl, beq_tl _ s [47] rfl, beq_tl _ s [94] rfl, beq_tl _ s [38] rfl, beq_tl _ s [61] rfl, beq_tl _ s [60, 62] rfl, beq_tl _ s [60] rfl, beq_tl _ s [60, 61] rfl, beq_tl _ s [62] rfl, beq_tl _ s [62, 61] rfl]
theorem un_call (s : ByteArray) (W : World) (b : Nat) (hb : b = W.heap.size) : Calls Tryz.prog 73 #[.string s, .slice (some ⟨b, 0, none⟩) 3 3] (W.alloc (.cells #[.string ⟨#[45]⟩, .string ⟨#[43]⟩, .string ⟨#[37]⟩] 9)) fun e w' => e = .returned (.bool (unP s)) ∧ W.alloc (.cells #[.string ⟨#[45]⟩, .string ⟨#[43]⟩, .string ⟨#[37]⟩] 9) = w' := by
  subst hb
  rw [← un_in]
  exact in88_any s unS (by decide) _ 3 _ (strsN W unS)
theorem bin_call (s : ByteArray) (W : World) (b : Nat) (hb : b = W.heap.size) : Calls Tryz.prog 73 #[.string s, .slice (some ⟨b, 0, none⟩) 12 12] (W.alloc (.cells #[.string ⟨#[43]⟩, .string ⟨#[45]⟩, .string ⟨#[42]⟩, .string ⟨#[47]⟩, .string ⟨#[94]⟩, .string ⟨#[38]⟩, .string ⟨#[61]⟩, .string ⟨#[60, 62]⟩, .string ⟨#[60]⟩, .string ⟨#[60, 61]⟩, .string ⟨#[62]⟩, .string ⟨#[62, 61]⟩] 9)) fun e w' => e = .returned (.bool (binP s)) ∧ W.alloc (.cells #[.string ⟨#[43]⟩, .string ⟨#[45]⟩, .string ⟨#[42]⟩, .string ⟨#[47]⟩, .string ⟨#[94]⟩, .string ⟨#[38]⟩, .string ⟨#[61]⟩, .string ⟨#[60, 62]⟩, .string ⟨#[60]⟩, .string ⟨#[60, 61]⟩, .string ⟨#[62]⟩, .string ⟨#[62, 61]⟩] 9) = w' := by
  subst hb
  rw [← bin_in]
  exact in88_any s binS (by decide) _ 12 _ (strsN W binS)
theorem same_self (o p : Nd) (l : List T) : T.same (.mk o l) (.mk p l) = decide (p = o) := by
  rw [Bool.eq_iff_iff, T.same_iff]
  simp only [T.mk.injEq, and_true, decide_eq_true_eq]
  exact ⟨fun h => h.symm, fun h => h.symm⟩
set_option maxHeartbeats 16000000 in
set_option maxRecDepth 100000 in
theorem own_any (o : Nd) (l : List T) (a : Option Addr) (cap : Nat) (hz : (T.mk o l).size ≤ 2097152) (hnm : o.nm.size ≤ 1048576) (hvt : o.v.t.size ≤ 1048576) (w : World) (hA : (T.mk o l).At w a) :
    Calls Tryz.prog 58 #[nagg o (.slice a l.length cap)] w fun e w' => e = .returned (.bool (ownP o l)) ∧ Below w.heap.size w w' := by
  have hlen : l.length ≤ 2097152 := by have := T.len_le o l; omega
  have HA := Lib.hid hA
  have HZ := Lib.hid hz
  have HNM := Lib.hid hnm
  have HVT := Lib.hid hvt
  obtain ⟨n, hn⟩ : ∃ n, l.length = n := ⟨_, rfl⟩
  rw [hn] at hlen ⊢
  have HN := Lib.hid hn
  clear hA hn hz hnm hvt
  rw [nagg_eq]
  go_enter Tryz.func58, Tryz.ntmps58
  go_upto_block 0 with (refine wpList_store_new rfl 42 (.tmp 3) (.tmp 9) rfl (w.heap.size + 1) (by simp) _ [.int .i64 o.k, .int .i64 0, .int .i64 0, .int .i64 0, .string ⟨#[]⟩, .bool false, .int .i64 0, .string ⟨#[]⟩, .int .i64 0, .int .i64 0, .int .i64 0, .int .i64 0, .bool false, .bool false, .int .i64 0, .int .i64 0, .int .i64 0, .int .i64 0, .bool false, .bool false, .int .i64 0, .slice a n cap] 42 rfl rfl rfl info35 (one_nd { nd0 with k := o.k } (s := .slice a n cap) rfl) ?_)
  go_cut [4] (fun s4 wx => s4 = .bool (okR o l) ∧ wx.heap[w.heap.size]? = some (.cells (ncells o (.slice a n cap)).toArray 42) ∧ wx.heap[w.heap.size + 1]? = some (.cells (ncells (mO o) (.slice a n cap)).toArray 42) ∧ Below w.heap.size w wx)
  case first =>
    by_cases h0 : o.k = 0
    · have HK : Hid (okR o l = (litP o.v && decide (n = 0))) := by unfold Hid okR; simp only [h0, HN.out]; simp
      have HM : Hid (mO o = { nd0 with k := o.k, v := o.v }) := by unfold Hid mO; simp [h0]
      have e0 : (o.k == 0) = true := by simp [h0]
      clear h0
      go_wp2_with fail
      refine (literal_any o.v HVT.out _).mono ?_
      rintro e w1 ⟨rfl, hb1⟩
      have hb1' := hb1
      rw [World.size_alloc, World.size_alloc] at hb1'
      have f0 : w1.heap[w.heap.size]? = some (.cells (ncells o (.slice a n cap)).toArray 42) := (hb1'.block _ (by omega)).trans (heap_alloc_old (heap_alloc_new w _) _)
      have f1 : w1.heap[w.heap.size + 1]? = some (.cells (ncells (mO o) (.slice a n cap)).toArray 42) := (hb1'.block _ (by omega)).trans (by rw [HM.out]; exact heap_alloc_at (by simp) _)
      have hBW : Below w.heap.size w w1 := Below.trans (((Below.refl _ w).alloc (Nat.le_refl _) _).alloc (by simp) _) (hb1'.mono (by omega))
      have c21 : w1.cell? ⟨w.heap.size, 21, none⟩ = some (.slice a n cap) := cell_of_heap f0 21
      have F := Lib.hid (And.intro f0 (And.intro f1 hBW))
      clear hb1 hb1' f0 f1 hBW
      cases hP : litP o.v with
      | false =>
        go_wp2_with fail
        go_meet
        exact ⟨by rw [HK.out, hP]; exact rfl, F.out.1, F.out.2.1, F.out.2.2⟩
      | true =>
        go_wp2_with fail
        go_meet
        exact ⟨by rw [HK.out, hP, Bool.true_and, ← beq_nat n 0 (k := 0) rfl], F.out.1, F.out.2.1, F.out.2.2⟩
    by_cases h1 : o.k = 1
    · have HK : Hid (okR o l = (oneP o.a && decide (n = 0))) := by unfold Hid okR; simp only [h1, HN.out]; simp
      have HM : Hid (mO o = { nd0 with k := o.k, a := o.a }) := by unfold Hid mO; simp [h1]
      have e0 : (o.k == 0) = false := by simp [h1]
      have e1 : (o.k == 1) = true := by simp [h1]
      clear h1
      go_wp2_with fail
      refine (one_any o.a _).mono ?_
      rintro e w1 ⟨rfl, hb1⟩
      have hb1' := hb1
      rw [World.size_alloc, World.size_alloc] at hb1'
      have f0 : w1.heap[w.heap.size]? = some (.cells (ncells o (.slice a n cap)).toArray 42) := (hb1'.block _ (by omega)).trans (heap_alloc_old (heap_alloc_new w _) _)
      have f1 : w1.heap[w.heap.size + 1]? = some (.cells (ncells (mO o) (.slice a n cap)).toArray 42) := (hb1'.block _ (by omega)).trans (by rw [HM.out]; exact heap_alloc_at (by simp) _)
      have hBW : Below w.heap.size w w1 := Below.trans (((Below.refl _ w).alloc (Nat.le_refl _) _).alloc (by simp) _) (hb1'.mono (by omega))
      have c21 : w1.cell? ⟨w.heap.size, 21, none⟩ = some (.slice a n cap) := cell_of_heap f0 21
      have F := Lib.hid (And.intro f0 (And.intro f1 hBW))
      clear hb1 hb1' f0 f1 hBW
      cases hP : oneP o.a with
      | false =>
        go_wp2_with fail
        go_meet
        exact ⟨by rw [HK.out, hP]; exact rfl, F.out.1, F.out.2.1, F.out.2.2⟩
      | true =>
        go_wp2_with fail
        go_meet
        exact ⟨by rw [HK.out, hP, Bool.true_and, ← beq_nat n 0 (k := 0) rfl], F.out.1, F.out.2.1, F.out.2.2⟩
    by_cases h3 : o.k = 3
    · have HK : Hid (okR o l = (oneP o.a && decide (n = 0))) := by unfold Hid okR; simp only [h3, HN.out]; simp
      have HM : Hid (mO o = { nd0 with k := o.k, a := o.a }) := by unfold Hid mO; simp [h3]
      have e0 : (o.k == 0) = false := by simp [h3]
      have e1 : (o.k == 1) = false := by simp [h3]
      have e3 : (o.k == 3) = true := by simp [h3]
      clear h3
      go_wp2_with fail
      refine (one_any o.a _).mono ?_
      rintro e w1 ⟨rfl, hb1⟩
      have hb1' := hb1
      rw [World.size_alloc, World.size_alloc] at hb1'
      have f0 : w1.heap[w.heap.size]? = some (.cells (ncells o (.slice a n cap)).toArray 42) := (hb1'.block _ (by omega)).trans (heap_alloc_old (heap_alloc_new w _) _)
      have f1 : w1.heap[w.heap.size + 1]? = some (.cells (ncells (mO o) (.slice a n cap)).toArray 42) := (hb1'.block _ (by omega)).trans (by rw [HM.out]; exact heap_alloc_at (by simp) _)
      have hBW : Below w.heap.size w w1 := Below.trans (((Below.refl _ w).alloc (Nat.le_refl _) _).alloc (by simp) _) (hb1'.mono (by omega))
      have c21 : w1.cell? ⟨w.heap.size, 21, none⟩ = some (.slice a n cap) := cell_of_heap f0 21
      have F := Lib.hid (And.intro f0 (And.intro f1 hBW))
      clear hb1 hb1' f0 f1 hBW
      cases hP : oneP o.a with
      | false =>
        go_wp2_with fail
        go_meet
        exact ⟨by rw [HK.out, hP]; exact rfl, F.out.1, F.out.2.1, F.out.2.2⟩
      | true =>
        go_wp2_with fail
        go_meet
        exact ⟨by rw [HK.out, hP, Bool.true_and, ← beq_nat n 0 (k := 0) rfl], F.out.1, F.out.2.1, F.out.2.2⟩
    by_cases h2 : o.k = 2
    · have HK : Hid (okR o l = (rangeP o.a o.b && decide (n = 0))) := by unfold Hid okR; simp only [h2, HN.out]; simp
      have HM : Hid (mO o = { nd0 with k := o.k, a := o.a, b := o.b }) := by unfold Hid mO; simp [h2]
      have e0 : (o.k == 0) = false := by simp [h2]
      have e1 : (o.k == 1) = false := by simp [h2]
      have e3 : (o.k == 3) = false := by simp [h2]
      have e2 : (o.k == 2) = true := by simp [h2]
      clear h2
      go_wp2_with fail
      refine (area_any o.a o.b _).mono ?_
      rintro e w1 ⟨rfl, hb1⟩
      have hb1' := hb1
      rw [World.size_alloc, World.size_alloc] at hb1'
      have f0 : w1.heap[w.heap.size]? = some (.cells (ncells o (.slice a n cap)).toArray 42) := (hb1'.block _ (by omega)).trans (heap_alloc_old (heap_alloc_new w _) _)
      have f1 : w1.heap[w.heap.size + 1]? = some (.cells (ncells (mO o) (.slice a n cap)).toArray 42) := (hb1'.block _ (by omega)).trans (by rw [HM.out]; exact heap_alloc_at (by simp) _)
      have hBW : Below w.heap.size w w1 := Below.trans (((Below.refl _ w).alloc (Nat.le_refl _) _).alloc (by simp) _) (hb1'.mono (by omega))
      have c21 : w1.cell? ⟨w.heap.size, 21, none⟩ = some (.slice a n cap) := cell_of_heap f0 21
      have F := Lib.hid (And.intro f0 (And.intro f1 hBW))
      clear hb1 hb1' f0 f1 hBW
      cases hP : rangeP o.a o.b with
      | false =>
        go_wp2_with fail
        go_meet
        exact ⟨by rw [HK.out, hP]; exact rfl, F.out.1, F.out.2.1, F.out.2.2⟩
      | true =>
        go_wp2_with fail
        go_meet
        exact ⟨by rw [HK.out, hP, Bool.true_and, ← beq_nat n 0 (k := 0) rfl], F.out.1, F.out.2.1, F.out.2.2⟩
    by_cases h4 : o.k = 4
    · have HK : Hid (okR o l = (callP (bl o.nm) && decide (n ≤ 32) && (decide (n ≠ 1) || decide (fk l ≠ 9)))) := by unfold Hid okR; simp only [h4, HN.out]; simp
      have HM : Hid (mO o = { nd0 with k := o.k, nm := o.nm }) := by unfold Hid mO; simp [h4]
      have e0 : (o.k == 0) = false := by simp [h4]
      have e1 : (o.k == 1) = false := by simp [h4]
      have e3 : (o.k == 3) = false := by simp [h4]
      have e2 : (o.k == 2) = false := by simp [h4]
      have e4 : (o.k == 4) = true := by simp [h4]
      clear h4
      go_wp2_with fail
      refine (function_any o.nm HNM.out _).mono ?_
      rintro e w1 ⟨rfl, rfl⟩
      cases hP : callP (bl o.nm) with
      | false =>
        go_wp2_with fail
        go_meet
        exact ⟨by rw [HK.out]; rw [hP]; exact rfl, heap_alloc_old (heap_alloc_new w _) _, by rw [HM.out]; exact heap_alloc_at (by simp) _, ((Below.refl _ w).alloc (Nat.le_refl _) _).alloc (by simp) _⟩
      | true =>
        rw [hP, Bool.true_and] at HK
        by_cases c1 : n ≤ 32
        case neg =>
          have d1 : decide ((n : Int) ≤ 32) = false := by simp; omega
          go_wp2_with fail
          go_meet
          exact ⟨by rw [HK.out]; simp [c1], heap_alloc_old (heap_alloc_new w _) _, by rw [HM.out]; exact heap_alloc_at (by simp) _, ((Below.refl _ w).alloc (Nat.le_refl _) _).alloc (by simp) _⟩
        have d1 : decide ((n : Int) ≤ 32) = true := by simp; omega
        by_cases c2 : n = 1
        case neg =>
          have d2 : ((n : Int) != 1) = true := by simp; omega
          go_wp2_with fail
          go_meet
          exact ⟨by rw [HK.out]; simp [c1, c2], heap_alloc_old (heap_alloc_new w _) _, by rw [HM.out]; exact heap_alloc_at (by simp) _, ((Below.refl _ w).alloc (Nat.le_refl _) _).alloc (by simp) _⟩
        have d2 : ((n : Int) != 1) = false := by simp; omega
        obtain ⟨b, off, rfl, hb, hall⟩ := T.at_mk.1 HA.out (by rw [HN.out]; omega)
        obtain ⟨t0, ht0⟩ : ∃ t, l[0]? = some t := ⟨_, List.getElem?_eq_getElem (by rw [HN.out]; omega)⟩
        obtain ⟨ta, tc, hc, _⟩ := hall 0 t0 ht0
        have c0 : w.cell? ⟨b, off, none⟩ = some (.int .i64 t0.o.k) := by have h := hc 0 (by omega); simp only [Nat.zero_mul, Nat.add_zero] at h; exact h
        have HF : Hid (fk l = t0.o.k) := by unfold Hid fk; rw [List.head?_eq_getElem?, ht0]; rfl
        clear hall hc ht0
        have j2 : (0 : Int) < (n : Int) := by omega
        have C2 := Lib.hid c2
        clear c2
        by_cases c3 : t0.o.k = 9
        · have d3 : (t0.o.k != 9) = false := by simp [c3]
          go_wp2_with fail
          go_meet
          exact ⟨by rw [HK.out]; rw [HF.out]; simp [C2.out, c3], heap_alloc_old (heap_alloc_new w _) _, by rw [HM.out]; exact heap_alloc_at (by simp) _, ((Below.refl _ w).alloc (Nat.le_refl _) _).alloc (by simp) _⟩
        · have d3 : (t0.o.k != 9) = true := by simp [c3]
          go_wp2_with fail
          go_meet
          exact ⟨by rw [HK.out]; rw [HF.out]; simp [c1, c3], heap_alloc_old (heap_alloc_new w _) _, by rw [HM.out]; exact heap_alloc_at (by simp) _, ((Below.refl _ w).alloc (Nat.le_refl _) _).alloc (by simp) _⟩
    by_cases h5 : o.k = 5
    · have HK : Hid (okR o l = (unP o.nm && decide (n = 1))) := by unfold Hid okR; simp only [h5, HN.out]; simp
      have HM : Hid (mO o = { nd0 with k := o.k, nm := o.nm }) := by unfold Hid mO; simp [h5]
      have e0 : (o.k == 0) = false := by simp [h5]
      have e1 : (o.k == 1) = false := by simp [h5]
      have e3 : (o.k == 3) = false := by simp [h5]
      have e2 : (o.k == 2) = false := by simp [h5]
      have e4 : (o.k == 4) = false := by simp [h5]
      have e5 : (o.k == 5) = true := by simp [h5]
      clear h5
      go_wp2_with fail
      refine (un_call o.nm _ _ (by simp)).mono ?_
      rintro e w1 ⟨rfl, rfl⟩
      cases hP : unP o.nm with
      | false =>
        go_wp2_with fail
        go_meet
        exact ⟨by rw [HK.out]; rw [hP]; exact rfl, heap_alloc_old (heap_alloc_old (heap_alloc_new w _) _) _, by rw [HM.out]; exact heap_alloc_old (heap_alloc_at (by simp) _) _, (((Below.refl _ w).alloc (Nat.le_refl _) _).alloc (by simp) _).alloc (by simp; omega) _⟩
      | true =>
        go_wp2_with fail
        go_meet
        exact ⟨by rw [HK.out]; rw [hP, Bool.true_and, ← beq_nat n 1 (k := 1) rfl], heap_alloc_old (heap_alloc_old (heap_alloc_new w _) _) _, by rw [HM.out]; exact heap_alloc_old (heap_alloc_at (by simp) _) _, (((Below.refl _ w).alloc (Nat.le_refl _) _).alloc (by simp) _).alloc (by simp; omega) _⟩
    by_cases h6 : o.k = 6
    · have HK : Hid (okR o l = (binP o.nm && decide (n = 2))) := by unfold Hid okR; simp only [h6, HN.out]; simp
      have HM : Hid (mO o = { nd0 with k := o.k, nm := o.nm }) := by unfold Hid mO; simp [h6]
      have e0 : (o.k == 0) = false := by simp [h6]
      have e1 : (o.k == 1) = false := by simp [h6]
      have e3 : (o.k == 3) = false := by simp [h6]
      have e2 : (o.k == 2) = false := by simp [h6]
      have e4 : (o.k == 4) = false := by simp [h6]
      have e5 : (o.k == 5) = false := by simp [h6]
      have e6 : (o.k == 6) = true := by simp [h6]
      clear h6
      go_wp2_with fail
      refine (bin_call o.nm _ _ (by simp)).mono ?_
      rintro e w1 ⟨rfl, rfl⟩
      cases hP : binP o.nm with
      | false =>
        go_wp2_with fail
        go_meet
        exact ⟨by rw [HK.out]; rw [hP]; exact rfl, heap_alloc_old (heap_alloc_old (heap_alloc_new w _) _) _, by rw [HM.out]; exact heap_alloc_old (heap_alloc_at (by simp) _) _, (((Below.refl _ w).alloc (Nat.le_refl _) _).alloc (by simp) _).alloc (by simp; omega) _⟩
      | true =>
        go_wp2_with fail
        go_meet
        exact ⟨by rw [HK.out]; rw [hP, Bool.true_and, ← beq_nat n 2 (k := 2) rfl], heap_alloc_old (heap_alloc_old (heap_alloc_new w _) _) _, by rw [HM.out]; exact heap_alloc_old (heap_alloc_at (by simp) _) _, (((Below.refl _ w).alloc (Nat.le_refl _) _).alloc (by simp) _).alloc (by simp; omega) _⟩
    by_cases h7 : o.k = 7
    · have HK : Hid (okR o l = (nameP o.nm && decide (n = 0))) := by unfold Hid okR; simp only [h7, HN.out]; simp
      have HM : Hid (mO o = { nd0 with k := o.k, nm := o.nm }) := by unfold Hid mO; simp [h7]
      have e0 : (o.k == 0) = false := by simp [h7]
      have e1 : (o.k == 1) = false := by simp [h7]
      have e3 : (o.k == 3) = false := by simp [h7]
      have e2 : (o.k == 2) = false := by simp [h7]
      have e4 : (o.k == 4) = false := by simp [h7]
      have e5 : (o.k == 5) = false := by simp [h7]
      have e6 : (o.k == 6) = false := by simp [h7]
      have e7 : (o.k == 7) = true := by simp [h7]
      clear h7
      go_wp2_with fail
      refine (name_any o.nm HNM.out _).mono ?_
      rintro e w1 ⟨rfl, rfl⟩
      cases hP : nameP o.nm with
      | false =>
        go_wp2_with fail
        go_meet
        exact ⟨by rw [HK.out]; rw [hP]; exact rfl, heap_alloc_old (heap_alloc_new w _) _, by rw [HM.out]; exact heap_alloc_at (by simp) _, ((Below.refl _ w).alloc (Nat.le_refl _) _).alloc (by simp) _⟩
      | true =>
        go_wp2_with fail
        go_meet
        exact ⟨by rw [HK.out]; rw [hP, Bool.true_and, ← beq_nat n 0 (k := 0) rfl], heap_alloc_old (heap_alloc_new w _) _, by rw [HM.out]; exact heap_alloc_at (by simp) _, ((Below.refl _ w).alloc (Nat.le_refl _) _).alloc (by simp) _⟩
    by_cases h8 : o.k = 8
    · have HK : Hid (okR o l = (decide (1 ≤ o.rows) && decide (1 ≤ n) && decide ((n : Int).tmod o.rows = 0))) := by unfold Hid okR; simp only [h8, HN.out]; simp
      have HM : Hid (mO o = { nd0 with k := o.k, rows := o.rows }) := by unfold Hid mO; simp [h8]
      have e0 : (o.k == 0) = false := by simp [h8]
      have e1 : (o.k == 1) = false := by simp [h8]
      have e3 : (o.k == 3) = false := by simp [h8]
      have e2 : (o.k == 2) = false := by simp [h8]
      have e4 : (o.k == 4) = false := by simp [h8]
      have e5 : (o.k == 5) = false := by simp [h8]
      have e6 : (o.k == 6) = false := by simp [h8]
      have e7 : (o.k == 7) = false := by simp [h8]
      have e8 : (o.k == 8) = true := by simp [h8]
      clear h8
      by_cases c1 : 1 ≤ o.rows
      case neg =>
        have d1 : decide (1 ≤ o.rows) = false := by simpa using c1
        have D1 := Lib.hid d1
        go_wp2_with fail
        go_meet
        exact ⟨by rw [HK.out]; rw [D1.out, Bool.false_and, Bool.false_and], heap_alloc_old (heap_alloc_new w _) _, by rw [HM.out]; exact heap_alloc_at (by simp) _, ((Below.refl _ w).alloc (Nat.le_refl _) _).alloc (by simp) _⟩
      have d1 : decide (1 ≤ o.rows) = true := by simpa using c1
      by_cases c2 : 1 ≤ n
      case neg =>
        have d2 : decide ((1 : Int) ≤ (n : Int)) = false := by simp; omega
        have D2 : Hid (decide (1 ≤ n) = false) := decide_eq_false c2
        go_wp2_with fail
        go_meet
        exact ⟨by rw [HK.out]; rw [D2.out, Bool.and_false, Bool.false_and], heap_alloc_old (heap_alloc_new w _) _, by rw [HM.out]; exact heap_alloc_at (by simp) _, ((Below.refl _ w).alloc (Nat.le_refl _) _).alloc (by simp) _⟩
      have d2 : decide ((1 : Int) ≤ (n : Int)) = true := by simp; omega
      have dz : (o.rows == 0) = false := by simp; omega
      have dn : ¬ o.rows = 0 := by omega
      have D1 := Lib.hid d1
      have D2 : Hid (decide (1 ≤ n) = true) := decide_eq_true c2
      have HTM : Hid ((n : Int).tmod o.rows = (n : Int) % o.rows) := Int.tmod_eq_emod_of_nonneg (Int.natCast_nonneg n)
      go_wp2_with fail
      go_meet
      exact ⟨by rw [HK.out]; rw [HTM.out, D1.out, D2.out, Bool.true_and, Bool.true_and]; congr 1, heap_alloc_old (heap_alloc_new w _) _, by rw [HM.out]; exact heap_alloc_at (by simp) _, ((Below.refl _ w).alloc (Nat.le_refl _) _).alloc (by simp) _⟩
    by_cases h9 : o.k = 9
    · have HK : Hid (okR o l = decide (n = 0)) := by unfold Hid okR; simp only [h9, HN.out]; simp
      have HM : Hid (mO o = { nd0 with k := o.k }) := by unfold Hid mO; simp [h9]
      have e0 : (o.k == 0) = false := by simp [h9]
      have e1 : (o.k == 1) = false := by simp [h9]
      have e3 : (o.k == 3) = false := by simp [h9]
      have e2 : (o.k == 2) = false := by simp [h9]
      have e4 : (o.k == 4) = false := by simp [h9]
      have e5 : (o.k == 5) = false := by simp [h9]
      have e6 : (o.k == 6) = false := by simp [h9]
      have e7 : (o.k == 7) = false := by simp [h9]
      have e8 : (o.k == 8) = false := by simp [h9]
      have e9 : (o.k == 9) = true := by simp [h9]
      clear h9
      go_wp2_with fail
      go_meet
      exact ⟨by rw [HK.out]; rw [← beq_nat n 0 (k := 0) rfl], heap_alloc_old (heap_alloc_new w _) _, by rw [HM.out]; exact heap_alloc_at (by simp) _, ((Below.refl _ w).alloc (Nat.le_refl _) _).alloc (by simp) _⟩
    have HK : Hid (okR o l = false) := by unfold Hid okR; simp [h0, h1, h2, h3, h4, h5, h6, h7, h8, h9]
    have HM : Hid (mO o = { nd0 with k := o.k }) := by unfold Hid mO; simp [h0, h1, h2, h3, h4, h5, h6, h7, h8]
    have e0 : (o.k == 0) = false := by simpa using h0
    have e1 : (o.k == 1) = false := by simpa using h1
    have e2 : (o.k == 2) = false := by simpa using h2
    have e3 : (o.k == 3) = false := by simpa using h3
    have e4 : (o.k == 4) = false := by simpa using h4
    have e5 : (o.k == 5) = false := by simpa using h5
    have e6 : (o.k == 6) = false := by simpa using h6
    have e7 : (o.k == 7) = false := by simpa using h7
    have e8 : (o.k == 8) = false := by simpa using h8
    have e9 : (o.k == 9) = false := by simpa using h9
    clear h0 h1 h2 h3 h4 h5 h6 h7 h8 h9
    go_wp2_with fail
    go_meet
    exact ⟨by rw [HK.out]; skip, heap_alloc_old (heap_alloc_new w _) _, by rw [HM.out]; exact heap_alloc_at (by simp) _, ((Below.refl _ w).alloc (Nat.le_refl _) _).alloc (by simp) _⟩
  case rest =>
  obtain ⟨rfl, h1, h2, hB⟩ := hcut
  have G1 := Lib.hid (range_blk h1)
  have G2 := Lib.hid (range_blk h2)
  have HB := Lib.hid hB
  have HS : Hid (Calls Tryz.prog 16 #[nagg (mO o) (.slice a n cap), nagg o (.slice a n cap)] wc fun e w' => e = .returned (.bool (decide (o = mO o))) ∧ Below wc.heap.size wc w') := by
    rw [← same_self (mO o) o l]
    exact same_any (.mk (mO o) l) (by have := HZ.out; rw [T.size_mk] at this ⊢; omega) (.mk o l) _ _ wc ⟨a, cap, by have h := HN.out; subst h; rfl, T.at_mk.2 (T.at_mk.1 (HA.out.below hB (T.mk o l)))⟩ ⟨a, cap, by have h := HN.out; subst h; rfl, HA.out.below hB (T.mk o l)⟩
  clear h1 h2 hB
  cases hK : okR o l with
  | false =>
    go_wp2_with fail
    go_ret
    exact ⟨by unfold ownP; rw [hK]; exact rfl, HB.out⟩
  | true =>
    go_wp2_with (first | (refine wpList_load_g rfl 42 (.tmp 3) rfl (w.heap.size + 1) 0 rfl _ _ G2.out Tryz.underlying42 rfl info35 ?_) | (refine wpList_load_g rfl 42 (.tmp 1) rfl w.heap.size 0 rfl _ _ G1.out Tryz.underlying42 rfl info35 ?_))
    refine HS.out.mono ?_
    rintro e w2 ⟨rfl, hb2⟩
    have HB2 : Hid (Below w.heap.size w w2) := HB.out.trans (hb2.mono HB.out.size)
    clear hb2 HS G1 G2
    go_wp2_with fail
    go_ret
    exact ⟨by unfold ownP; rw [hK]; exact rfl, HB2.out⟩
end Go.Proofs.YtlcglkanlhmmdaaGreat
/- ref06.right, Check. -/
namespace Go.Proofs.YtlcglkanlhmmdaaGreat
open Go.RowKit
/-- Numbers fit, texts are no longer than what came. -/
def T.fit : T → Prop
  | .mk o l => (o.nm.size ≤ 1048576 ∧ o.v.t.size ≤ 1048576 ∧ I64 o.v.m) ∧ ∀ (i : Nat) (hi : i < l.length), T.fit l[i]
termination_by t => SizeOf.sizeOf t
decreasing_by exact T.lt (List.getElem_mem _)
theorem T.fit_mk {o : Nd} {l : List T} : (T.mk o l).fit ↔ (o.nm.size ≤ 1048576 ∧ o.v.t.size ≤ 1048576 ∧ I64 o.v.m) ∧ ∀ t ∈ l, t.fit := by
  rw [T.fit]
  constructor
  · rintro ⟨h1, h2⟩
    refine ⟨h1, fun t ht => ?_⟩
    obtain ⟨i, hi, rfl⟩ := List.mem_iff_getElem.1 ht
    exact h2 i hi
  · rintro ⟨h1, h2⟩
    exact ⟨h1, fun i hi => h2 _ (List.getElem_mem hi)⟩
def kidR (o : Nd) (c : T) : Bool := (decide (o.k ≠ 8) || decide (c.o.k = 0)) && (decide (o.k = 8) || !belowP c.o) && rightR c (decide (o.k = 4))
set_option maxHeartbeats 16000000 in
set_option maxRecDepth 100000 in
theorem rightR_any (t : T) : ∀ (_ : t.size ≤ 2097152) (_ : t.fit) (call : Bool) (x : Value) (w : World), IsT w x t → Calls Tryz.prog 41 #[x, .bool call] w fun e w' => e = .returned (.bool (rightR t call)) ∧ Below w.heap.size w w' := by
  induction t using T.ind with
  | h o l ih =>
    rintro hz hfit call x w ⟨a, cap, rfl, hA⟩
    change Calls Tryz.prog 41 #[nagg o (.slice a l.length cap), .bool call] w _
    have hlen : l.length ≤ 2097152 := by have := T.len_le o l; omega
    have HZ := Lib.hid hz
    have HF := Lib.hid (T.fit_mk.1 hfit)
    have IH := Lib.hid ih
    have HA := Lib.hid hA
    have HOWN := Lib.hid (fun w' (hb : Below w.heap.size w w') => own_any o l a cap hz HF.out.1.1 HF.out.1.2.1 w' (hA.below hb))
    obtain ⟨n, hn⟩ : ∃ n, l.length = n := ⟨_, rfl⟩
    rw [hn] at hlen HOWN ⊢
    have HN := Lib.hid hn
    clear hA hn hz hfit ih
    have HR : Hid (rightR (.mk o l) call = (ownP o l && (decide (o.k ≠ 9) || call) && l.all (kidR o))) := rightR_mk o l call
    rw [nagg_eq]
    go_enter Tryz.func41, Tryz.ntmps41
    go_upto_region 1 with fail
    refine abs_world ?_
    intro W00 hW0
    have hB00 : Hid (Below w.heap.size w W00) := by rw [hW0]; unfold Hid; (repeat (first | with_reducible exact Below.refl _ _ | with_reducible exact hBW | with_reducible refine Below.setCell ?_ ?_ _ | with_reducible refine Below.alloc ?_ ?_ _ | with_reducible refine belowN ?_ _ | with_reducible refine Below.drew ?_)); all_goals (first | omega | (dsimp only; omega) | ((repeat (first | with_reducible refine le_alloc ?_ | with_reducible refine le_setCell ?_ | with_reducible refine le_drew ?_ | with_reducible refine le_drewN ?_)); omega))
    have g00 : W00.heap[w.heap.size]? = some (.cells (ncells o (.slice a n cap)).toArray 42) := by rw [hW0]; exact heap_alloc_new w _
    have z00 : w.heap.size < W00.heap.size := lt_of_heap g00
    have G00 := Lib.hid g00
    have RG0 := Lib.hid (range_blk g00)
    clear hW0 g00
    go_cut [17] (fun s17 wx => s17 = .bool (!(ownP o l && (decide (o.k ≠ 9) || call))) ∧ Hid (Below W00.heap.size W00 wx))
    case first =>
      go_wp2_with (refine wpList_load_g rfl 42 (.tmp 2) rfl w.heap.size 0 rfl _ _ RG0.out Tryz.underlying42 rfl info35 ?_)
      refine (HOWN.out _ hB00.out).mono ?_
      rintro e w1 ⟨rfl, hb1⟩
      have HB1 := Lib.hid hb1
      have ck : w1.cell? ⟨w.heap.size, 0, none⟩ = some (.int .i64 o.k) := cell_of_heap ((hb1.block _ z00).trans G00.out) 0
      clear hb1 RG0
      cases hP : ownP o l with
      | false =>
        go_wp2_with fail
        go_meet
        exact ⟨by rw [hP]; exact rfl, HB1⟩
      | true =>
        by_cases h9 : o.k = 9
        · have e9 : (o.k == 9) = true := by simp [h9]
          have D9 : Hid (decide (o.k ≠ 9) = false) := by unfold Hid; simp [h9]
          clear h9
          go_wp2_with fail
          go_meet
          exact ⟨by rw [hP, D9.out]; first | exact rfl | simp, HB1⟩
        · have e9 : (o.k == 9) = false := by simp [h9]
          have D9 : Hid (decide (o.k ≠ 9) = true) := by unfold Hid; simp [h9]
          clear h9
          go_wp2_with fail
          go_meet
          exact ⟨by rw [hP, D9.out]; first | exact rfl | simp, HB1⟩
    case rest =>
    obtain ⟨rfl, hB⟩ := hcut
    have hB0 : Hid (Below w.heap.size w wc) := hB00.out.trans (hB.out.mono hB00.out.size)
    have G0 := Lib.hid ((hB.out.block _ z00).trans G00.out)
    have z0 : w.heap.size < wc.heap.size := lt_of_heap G0.out
    clear hB G00 z00 RG0 HOWN hB00
    clear W00
    cases hP : (ownP o l && (decide (o.k ≠ 9) || call)) with
    | false =>
      have Y : Hid (rightR (.mk o l) call = false) := by unfold Hid; rw [HR.out, hP, Bool.false_and]
      go_wp2_with fail
      go_ret
      exact ⟨by rw [Y.out]; exact rfl, hB0.out⟩
    | true =>
    have HR : Hid (rightR (.mk o l) call = l.all (kidR o)) := by unfold Hid; rw [HR.out, hP, Bool.true_and]
    clear hP
    obtain ⟨W0, hW0⟩ : ∃ W0 : World, wc = W0 := ⟨_, rfl⟩
    subst hW0
    obtain ⟨W0, hW0⟩ : ∃ W0 : World, W0 = wc := ⟨_, rfl⟩
    rw [← hW0] at G0 z0 hB0 ⊢
    clear hW0
    go_wp2_with fail
    go_loopg [5] n (fun g i wr => ∃ (k : Nat), i = .int .i64 k ∧ g = n - k ∧ k ≤ n ∧ Hid ((l.take k).all (kidR o) = true) ∧ Hid (Below W0.heap.size W0 wr))
    case atStart => exact ⟨0, rfl, rfl, Nat.zero_le _, rfl, Below.refl _ _⟩
    case round =>
      obtain ⟨k, rfl, rfl, hk, hE, hB⟩ := hrel
      have e0 := (hB.out.block w.heap.size z0).trans G0.out
      have x0 : wr.cell? ⟨w.heap.size, 21, none⟩ = some (.slice a n cap) := cell_of_heap e0 21
      have xk : wr.cell? ⟨w.heap.size, 0, none⟩ = some (.int .i64 o.k) := cell_of_heap e0 0
      have HBw : Hid (Below w.heap.size w wr) := hB0.out.trans (hB.out.mono hB0.out.size)
      have hwr : w.heap.size < wr.heap.size := lt_of_heap e0
      clear e0
      by_cases hlt : k < n
      · obtain ⟨t, ht⟩ : ∃ t, l[k]? = some t := ⟨_, List.getElem?_eq_getElem (by rw [HN.out]; exact hlt)⟩
        obtain ⟨b, off, rfl, hb, hall⟩ := T.at_mk.1 (HA.out.below HBw.out) (by rw [HN.out]; omega)
        obtain ⟨ta, tc, hc, hat⟩ := hall k t ht
        have q1 := load_nd hb hc
        have c0 : wr.cell? ⟨b, off + k * 22, none⟩ = some (.int .i64 t.o.k) := hc 0 (by omega)
        have HAT := Lib.hid hat
        have HT := Lib.hid ht
        have j1 : (0 : Int) ≤ (k : Int) := by omega
        have j2 : (k : Int) < (n : Int) := by omega
        have hts : t.size ≤ 2097152 := by have := HZ.out; have h2 := T.size_le (o := o) (List.mem_of_getElem? ht); omega
        have HBEL := Lib.hid (below_any t.o (.slice ta t.l.length tc))
        have IHt := Lib.hid (fun w' (hb' : Below wr.heap.size wr w') => IH.out t (List.mem_of_getElem? ht) hts (HF.out.2 t (List.mem_of_getElem? ht)) (decide (o.k = 4)) (nagg t.o (.slice ta t.l.length tc)) w' ⟨ta, tc, rfl, hat.below hb' t⟩)
        have NOT : Hid (kidR o t = false → rightR (.mk o l) call = false) := fun h => by rw [HR.out, List.all_eq_false]; exact ⟨t, List.mem_of_getElem? HT.out, by simp [h]⟩
        have B4 : (o.k == 4) = decide (o.k = 4) := by rw [Bool.eq_iff_iff]; simp
        clear hall hc hat ht hts
        go_wp2_with fail
        by_cases h8 : o.k = 8
        · have e8 : (o.k == 8) = true := by simp [h8]
          have n8 : (o.k != 8) = false := by simp [h8]
          have D8 : Hid (decide (o.k ≠ 8) = false ∧ decide (o.k = 8) = true) := by unfold Hid; simp [h8]
          clear h8
          by_cases hk0 : t.o.k = 0
          · have ek : (t.o.k != 0) = false := by simp [hk0]
            have DK : Hid (decide (t.o.k = 0) = true) := by unfold Hid; simp [hk0]
            clear hk0
            refine wp_region_multiR [([0, 1, 2, 3, 4, 5, 6, 7, 8, 9, 10, 11, 12, 13, 14, 15, 16, 17, 18, 19, 20, 21], [22], [22, 23, 24, 25, 26, 27, 28, 29, 30, 31, 32, 33, 34, 35, 36]), ([23, 24, 25, 26, 27, 28, 29, 30, 31, 32, 33], [34], [34, 35, 36]), ([35, 36], [], [])] (by kernel_rfl) (by kernel_rfl) ?_
            refine multi_phase (Below wr.heap.size wr) (Below.refl _ _).drew ?_
            iterate 21 (first | (apply first_step; (rw [List.getElem?_toArray]; (repeat rw [List.getElem?_cons_succ]); rw [List.getElem?_cons_zero]); rfl; (intro W hB; have hc := bcellB hB; go_simp; (first | done | rfl)); go_frame) | (apply first_skip; (rw [List.getElem?_toArray]; (repeat rw [List.getElem?_cons_succ]); rw [List.getElem?_cons_zero]); rfl; go_frame))
            first | (apply first_load; (rw [List.getElem?_toArray]; (repeat rw [List.getElem?_cons_succ]); rw [List.getElem?_cons_zero]); rfl; rfl; rfl; exact q1; go_frame) | (first | (apply first_step; (rw [List.getElem?_toArray]; (repeat rw [List.getElem?_cons_succ]); rw [List.getElem?_cons_zero]); rfl; (intro W hB; have hc := bcellB hB; go_simp; (first | done | rfl)); go_frame) | (apply first_skip; (rw [List.getElem?_toArray]; (repeat rw [List.getElem?_cons_succ]); rw [List.getElem?_cons_zero]); rfl; go_frame))
            refine first_done ?_
            apply forced_skip; (rw [List.getElem?_toArray]; (repeat rw [List.getElem?_cons_succ]); rw [List.getElem?_cons_zero]); rfl
            · exact fun h => absurd (by decide) h
            refine forced_done ?_
            refine multi_phase (Below wr.heap.size wr) (Below.refl _ _).drew ?_
            iterate 7 (first | (apply first_step; (rw [List.getElem?_toArray]; (repeat rw [List.getElem?_cons_succ]); rw [List.getElem?_cons_zero]); rfl; (intro W hB; have hc := bcellB hB; go_simp; (first | done | rfl)); go_frame) | (apply first_skip; (rw [List.getElem?_toArray]; (repeat rw [List.getElem?_cons_succ]); rw [List.getElem?_cons_zero]); rfl; go_frame))
            first | (apply first_load; (rw [List.getElem?_toArray]; (repeat rw [List.getElem?_cons_succ]); rw [List.getElem?_cons_zero]); rfl; rfl; rfl; exact q1; go_frame) | (first | (apply first_step; (rw [List.getElem?_toArray]; (repeat rw [List.getElem?_cons_succ]); rw [List.getElem?_cons_zero]); rfl; (intro W hB; have hc := bcellB hB; go_simp; (first | done | rfl)); go_frame) | (apply first_skip; (rw [List.getElem?_toArray]; (repeat rw [List.getElem?_cons_succ]); rw [List.getElem?_cons_zero]); rfl; go_frame))
            iterate 3 (first | (apply first_step; (rw [List.getElem?_toArray]; (repeat rw [List.getElem?_cons_succ]); rw [List.getElem?_cons_zero]); rfl; (intro W hB; have hc := bcellB hB; go_simp; (first | done | rfl)); go_frame) | (apply first_skip; (rw [List.getElem?_toArray]; (repeat rw [List.getElem?_cons_succ]); rw [List.getElem?_cons_zero]); rfl; go_frame))
            refine first_done ?_
            apply forced_step; (rw [List.getElem?_toArray]; (repeat rw [List.getElem?_cons_succ]); rw [List.getElem?_cons_zero]); rfl; intro K hK; go_simp
            refine (IHt.out _ (Below.refl _ _).drew).mono ?_
            rintro e3 w3 ⟨rfl, hb3⟩
            have HB3 : Hid (Below W0.heap.size W0 w3) := (hB.out.trans (((Below.refl _ wr).drew.trans hb3).mono hB.out.size))
            refine hK _ _ (fun h => absurd (by decide) h) ?_
            clear hK K hb3
            refine forced_done ?_
            refine multi_phase (fun _ => True) trivial ?_
            iterate 2 (first | (apply first_step; (rw [List.getElem?_toArray]; (repeat rw [List.getElem?_cons_succ]); rw [List.getElem?_cons_zero]); rfl; (intro W hB; go_simp; (first | done | rfl)); go_frame) | (apply first_skip; (rw [List.getElem?_toArray]; (repeat rw [List.getElem?_cons_succ]); rw [List.getElem?_cons_zero]); rfl; go_frame))
            refine first_done ?_
            refine forced_done ?_
            refine multi_done ?_
            clear q1 x0 xk c0
            cases hR : rightR t (decide (o.k = 4)) with
            | true =>
              have NX : Hid ((l.take (k + 1)).all (kidR o) = true) := by
                unfold Hid
                rw [List.take_add_one, HT.out, List.all_append, hE.out]
                simp [kidR, hR, D8.out, DK.out]
              clear hE
              go_wp2_with fail
              go_roundg (n - (k + 1))
              case measure => omega
              case rel => exact ⟨k + 1, by go_num, rfl, by omega, NX, HB3⟩
            | false =>
              have Y := Lib.hid (NOT.out (by unfold kidR; rw [hR, Bool.and_false]))
              go_wp2_with fail
              go_ret
              exact ⟨by rw [Y.out]; exact rfl, hB0.out.trans (HB3.out.mono hB0.out.size)⟩
          · have ek : (t.o.k != 0) = true := by simp [hk0]
            have DK : Hid (decide (t.o.k = 0) = false) := by unfold Hid; simp [hk0]
            clear hk0
            refine wp_region_multiR [([0, 1, 2, 3, 4, 5, 6, 7, 8, 9, 10, 11, 12, 13, 14, 15, 16, 17, 18, 19, 20, 21], [22], [22, 23, 24, 25, 26, 27, 28, 29, 30, 31, 32, 33, 34, 35, 36]), ([23, 24, 25, 26, 27, 28, 29, 30, 31, 32, 33], [34], [34, 35, 36]), ([35, 36], [], [])] (by kernel_rfl) (by kernel_rfl) ?_
            refine multi_phase (Below wr.heap.size wr) (Below.refl _ _).drew ?_
            iterate 21 (first | (apply first_step; (rw [List.getElem?_toArray]; (repeat rw [List.getElem?_cons_succ]); rw [List.getElem?_cons_zero]); rfl; (intro W hB; have hc := bcellB hB; go_simp; (first | done | rfl)); go_frame) | (apply first_skip; (rw [List.getElem?_toArray]; (repeat rw [List.getElem?_cons_succ]); rw [List.getElem?_cons_zero]); rfl; go_frame))
            first | (apply first_load; (rw [List.getElem?_toArray]; (repeat rw [List.getElem?_cons_succ]); rw [List.getElem?_cons_zero]); rfl; rfl; rfl; exact q1; go_frame) | (first | (apply first_step; (rw [List.getElem?_toArray]; (repeat rw [List.getElem?_cons_succ]); rw [List.getElem?_cons_zero]); rfl; (intro W hB; have hc := bcellB hB; go_simp; (first | done | rfl)); go_frame) | (apply first_skip; (rw [List.getElem?_toArray]; (repeat rw [List.getElem?_cons_succ]); rw [List.getElem?_cons_zero]); rfl; go_frame))
            refine first_done ?_
            apply forced_skip; (rw [List.getElem?_toArray]; (repeat rw [List.getElem?_cons_succ]); rw [List.getElem?_cons_zero]); rfl
            · exact fun h => absurd (by decide) h
            refine forced_done ?_
            refine multi_phase (Below wr.heap.size wr) (Below.refl _ _).drew ?_
            iterate 7 (first | (apply first_step; (rw [List.getElem?_toArray]; (repeat rw [List.getElem?_cons_succ]); rw [List.getElem?_cons_zero]); rfl; (intro W hB; have hc := bcellB hB; go_simp; (first | done | rfl)); go_frame) | (apply first_skip; (rw [List.getElem?_toArray]; (repeat rw [List.getElem?_cons_succ]); rw [List.getElem?_cons_zero]); rfl; go_frame))
            first | (apply first_load; (rw [List.getElem?_toArray]; (repeat rw [List.getElem?_cons_succ]); rw [List.getElem?_cons_zero]); rfl; rfl; rfl; exact q1; go_frame) | (first | (apply first_step; (rw [List.getElem?_toArray]; (repeat rw [List.getElem?_cons_succ]); rw [List.getElem?_cons_zero]); rfl; (intro W hB; have hc := bcellB hB; go_simp; (first | done | rfl)); go_frame) | (apply first_skip; (rw [List.getElem?_toArray]; (repeat rw [List.getElem?_cons_succ]); rw [List.getElem?_cons_zero]); rfl; go_frame))
            iterate 3 (first | (apply first_step; (rw [List.getElem?_toArray]; (repeat rw [List.getElem?_cons_succ]); rw [List.getElem?_cons_zero]); rfl; (intro W hB; have hc := bcellB hB; go_simp; (first | done | rfl)); go_frame) | (apply first_skip; (rw [List.getElem?_toArray]; (repeat rw [List.getElem?_cons_succ]); rw [List.getElem?_cons_zero]); rfl; go_frame))
            refine first_done ?_
            apply forced_skip; (rw [List.getElem?_toArray]; (repeat rw [List.getElem?_cons_succ]); rw [List.getElem?_cons_zero]); rfl
            · exact fun h => absurd (by decide) h
            refine forced_done ?_
            refine multi_phase (fun _ => True) trivial ?_
            iterate 2 (first | (apply first_step; (rw [List.getElem?_toArray]; (repeat rw [List.getElem?_cons_succ]); rw [List.getElem?_cons_zero]); rfl; (intro W hB; go_simp; (first | done | rfl)); go_frame) | (apply first_skip; (rw [List.getElem?_toArray]; (repeat rw [List.getElem?_cons_succ]); rw [List.getElem?_cons_zero]); rfl; go_frame))
            refine first_done ?_
            refine forced_done ?_
            refine multi_done ?_
            have Y := Lib.hid (NOT.out (by unfold kidR; rw [D8.out.1, DK.out]; rfl))
            clear q1 x0 xk c0
            go_wp2_with fail
            go_ret
            exact ⟨by rw [Y.out]; exact rfl, HBw.out.drew⟩
        · have e8 : (o.k == 8) = false := by simp [h8]
          have n8 : (o.k != 8) = true := by simp [h8]
          have D8 : Hid (decide (o.k ≠ 8) = true ∧ decide (o.k = 8) = false) := by unfold Hid; simp [h8]
          clear h8
          refine wp_region_multiR [([0, 1, 2, 3, 4, 5, 6, 7, 8, 9, 10, 11, 12, 13, 14, 15, 16, 17, 18, 19, 20, 21], [22], [22, 23, 24, 25, 26, 27, 28, 29, 30, 31, 32, 33, 34, 35, 36]), ([23, 24, 25, 26, 27, 28, 29, 30, 31, 32, 33], [34], [34, 35, 36]), ([35, 36], [], [])] (by kernel_rfl) (by kernel_rfl) ?_
          refine multi_phase (Below wr.heap.size wr) (Below.refl _ _).drew ?_
          iterate 21 (first | (apply first_step; (rw [List.getElem?_toArray]; (repeat rw [List.getElem?_cons_succ]); rw [List.getElem?_cons_zero]); rfl; (intro W hB; have hc := bcellB hB; go_simp; (first | done | rfl)); go_frame) | (apply first_skip; (rw [List.getElem?_toArray]; (repeat rw [List.getElem?_cons_succ]); rw [List.getElem?_cons_zero]); rfl; go_frame))
          first | (apply first_load; (rw [List.getElem?_toArray]; (repeat rw [List.getElem?_cons_succ]); rw [List.getElem?_cons_zero]); rfl; rfl; rfl; exact q1; go_frame) | (first | (apply first_step; (rw [List.getElem?_toArray]; (repeat rw [List.getElem?_cons_succ]); rw [List.getElem?_cons_zero]); rfl; (intro W hB; have hc := bcellB hB; go_simp; (first | done | rfl)); go_frame) | (apply first_skip; (rw [List.getElem?_toArray]; (repeat rw [List.getElem?_cons_succ]); rw [List.getElem?_cons_zero]); rfl; go_frame))
          refine first_done ?_
          apply forced_step; (rw [List.getElem?_toArray]; (repeat rw [List.getElem?_cons_succ]); rw [List.getElem?_cons_zero]); rfl; intro K hK; go_simp
          refine (HBEL.out _).mono ?_
          rintro e2 w2 ⟨rfl, hb2⟩
          have HB2 : Hid (Below wr.heap.size wr w2) := (Below.refl _ wr).drew.trans hb2
          refine hK _ _ (fun h => absurd (by decide) h) ?_
          clear hK K hb2
          refine forced_done ?_
          refine multi_phase (Below wr.heap.size wr) HB2.out ?_
          cases hBl : belowP t.o with
          | true =>
            iterate 7 (first | (apply first_step; (rw [List.getElem?_toArray]; (repeat rw [List.getElem?_cons_succ]); rw [List.getElem?_cons_zero]); rfl; (intro W hB; have hc := bcellB hB; go_simp; (first | done | rfl)); go_frame) | (apply first_skip; (rw [List.getElem?_toArray]; (repeat rw [List.getElem?_cons_succ]); rw [List.getElem?_cons_zero]); rfl; go_frame))
            first | (apply first_load; (rw [List.getElem?_toArray]; (repeat rw [List.getElem?_cons_succ]); rw [List.getElem?_cons_zero]); rfl; rfl; rfl; exact q1; go_frame) | (first | (apply first_step; (rw [List.getElem?_toArray]; (repeat rw [List.getElem?_cons_succ]); rw [List.getElem?_cons_zero]); rfl; (intro W hB; have hc := bcellB hB; go_simp; (first | done | rfl)); go_frame) | (apply first_skip; (rw [List.getElem?_toArray]; (repeat rw [List.getElem?_cons_succ]); rw [List.getElem?_cons_zero]); rfl; go_frame))
            iterate 3 (first | (apply first_step; (rw [List.getElem?_toArray]; (repeat rw [List.getElem?_cons_succ]); rw [List.getElem?_cons_zero]); rfl; (intro W hB; have hc := bcellB hB; go_simp; (first | done | rfl)); go_frame) | (apply first_skip; (rw [List.getElem?_toArray]; (repeat rw [List.getElem?_cons_succ]); rw [List.getElem?_cons_zero]); rfl; go_frame))
            refine first_done ?_
            apply forced_skip; (rw [List.getElem?_toArray]; (repeat rw [List.getElem?_cons_succ]); rw [List.getElem?_cons_zero]); rfl
            · exact fun h => absurd (by decide) h
            refine forced_done ?_
            refine multi_phase (fun _ => True) trivial ?_
            iterate 2 (first | (apply first_step; (rw [List.getElem?_toArray]; (repeat rw [List.getElem?_cons_succ]); rw [List.getElem?_cons_zero]); rfl; (intro W hB; go_simp; (first | done | rfl)); go_frame) | (apply first_skip; (rw [List.getElem?_toArray]; (repeat rw [List.getElem?_cons_succ]); rw [List.getElem?_cons_zero]); rfl; go_frame))
            refine first_done ?_
            refine forced_done ?_
            refine multi_done ?_
            have Y := Lib.hid (NOT.out (by unfold kidR; rw [D8.out.2, hBl]; simp))
            clear q1 x0 xk c0
            go_wp2_with fail
            go_ret
            exact ⟨by rw [Y.out]; exact rfl, HBw.out.trans (HB2.out.mono HBw.out.size)⟩
          | false =>
            iterate 7 (first | (apply first_step; (rw [List.getElem?_toArray]; (repeat rw [List.getElem?_cons_succ]); rw [List.getElem?_cons_zero]); rfl; (intro W hB; have hc := bcellB hB; go_simp; (first | done | rfl)); go_frame) | (apply first_skip; (rw [List.getElem?_toArray]; (repeat rw [List.getElem?_cons_succ]); rw [List.getElem?_cons_zero]); rfl; go_frame))
            first | (apply first_load; (rw [List.getElem?_toArray]; (repeat rw [List.getElem?_cons_succ]); rw [List.getElem?_cons_zero]); rfl; rfl; rfl; exact q1; go_frame) | (first | (apply first_step; (rw [List.getElem?_toArray]; (repeat rw [List.getElem?_cons_succ]); rw [List.getElem?_cons_zero]); rfl; (intro W hB; have hc := bcellB hB; go_simp; (first | done | rfl)); go_frame) | (apply first_skip; (rw [List.getElem?_toArray]; (repeat rw [List.getElem?_cons_succ]); rw [List.getElem?_cons_zero]); rfl; go_frame))
            iterate 3 (first | (apply first_step; (rw [List.getElem?_toArray]; (repeat rw [List.getElem?_cons_succ]); rw [List.getElem?_cons_zero]); rfl; (intro W hB; have hc := bcellB hB; go_simp; (first | done | rfl)); go_frame) | (apply first_skip; (rw [List.getElem?_toArray]; (repeat rw [List.getElem?_cons_succ]); rw [List.getElem?_cons_zero]); rfl; go_frame))
            refine first_done ?_
            apply forced_step; (rw [List.getElem?_toArray]; (repeat rw [List.getElem?_cons_succ]); rw [List.getElem?_cons_zero]); rfl; intro K hK; go_simp
            refine (IHt.out _ HB2.out).mono ?_
            rintro e3 w3 ⟨rfl, hb3⟩
            have HB3 : Hid (Below W0.heap.size W0 w3) := (hB.out.trans ((HB2.out.trans (hb3.mono HB2.out.size)).mono hB.out.size))
            refine hK _ _ (fun h => absurd (by decide) h) ?_
            clear hK K hb3
            refine forced_done ?_
            refine multi_phase (fun _ => True) trivial ?_
            iterate 2 (first | (apply first_step; (rw [List.getElem?_toArray]; (repeat rw [List.getElem?_cons_succ]); rw [List.getElem?_cons_zero]); rfl; (intro W hB; go_simp; (first | done | rfl)); go_frame) | (apply first_skip; (rw [List.getElem?_toArray]; (repeat rw [List.getElem?_cons_succ]); rw [List.getElem?_cons_zero]); rfl; go_frame))
            refine first_done ?_
            refine forced_done ?_
            refine multi_done ?_
            clear q1 x0 xk c0
            cases hR : rightR t (decide (o.k = 4)) with
            | true =>
              have NX : Hid ((l.take (k + 1)).all (kidR o) = true) := by
                unfold Hid
                rw [List.take_add_one, HT.out, List.all_append, hE.out]
                simp [kidR, hR, D8.out, hBl]
              clear hE
              go_wp2_with fail
              go_roundg (n - (k + 1))
              case measure => omega
              case rel => exact ⟨k + 1, by go_num, rfl, by omega, NX, HB3⟩
            | false =>
              have Y := Lib.hid (NOT.out (by unfold kidR; rw [hR, Bool.and_false]))
              go_wp2_with fail
              go_ret
              exact ⟨by rw [Y.out]; exact rfl, hB0.out.trans (HB3.out.mono hB0.out.size)⟩
      · have NX : Hid (rightR (.mk o l) call = true) := by
          unfold Hid
          rw [HR.out]
          have := hE.out
          rwa [List.take_of_length_le (by rw [HN.out]; omega)] at this
        clear hE
        go_wp2_with fail
        go_ret
        exact ⟨by rw [NX.out]; exact rfl, HBw.out⟩
end Go.Proofs.YtlcglkanlhmmdaaGreat
