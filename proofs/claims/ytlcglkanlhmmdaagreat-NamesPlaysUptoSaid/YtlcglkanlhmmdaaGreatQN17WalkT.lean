/- (*names.walker).walk. -/
import Derived.Test.YtlcglkanlhmmdaaGreatQBase
import Derived.Test.YtlcglkanlhmmdaaGreatQN17Owned
namespace Go.Proofs.YtlcglkanlhmmdaaGreat
open Go.RowKit
/-- The map at mb counts as told. -/
def BM (w : World) (mb : Nat) (cnt : ByteArray → Nat) : Prop := ∃ l : List (ByteArray × Int), MapIs w mb Value.string (fun z : Int => .int .i64 z) l ∧ ∀ s, (getL l s).getD 0 = (cnt s : Int)
theorem BM.of_block {w w' : World} {mb : Nat} {cnt : ByteArray → Nat} (h : BM w mb cnt) (hb : w'.heap[mb]? = w.heap[mb]?) : BM w' mb cnt := by
  obtain ⟨l, h1, h2⟩ := h
  exact ⟨l, h1.of_block hb, h2⟩
theorem BM.lt {w : World} {mb : Nat} {cnt : ByteArray → Nat} (h : BM w mb cnt) : mb < w.heap.size := by
  obtain ⟨l, h1, _⟩ := h
  exact h1.lt
theorem zeroT3 (w : World) : (zeroValue 3).run Tryz.prog w = .ok (.int .i64 0) w := Tryz.zeroValue3 w
theorem BM.look {w : World} {mb : Nat} {cnt : ByteArray → Nat} (h : BM w mb cnt) (s : ByteArray) : (Instr.lookup 74 (.map (some mb)) (.string s) false).run Tryz.prog w = .ok (.int .i64 (cnt s)) w := by
  obtain ⟨l, h1, h2⟩ := h
  rw [h1.look1 (string_fits Tryz.underlying9) Tryz.underlying74 (zeroT3 w) s]
  have := h2 s
  cases hg : getL l s with
  | none => rw [hg] at this; simp only [Option.getD_none] at this; simp [← this]
  | some z => rw [hg] at this; simp only [Option.getD_some] at this; simp [← this]
theorem BM.upd {w : World} {mb : Nat} {cnt : ByteArray → Nat} (h : BM w mb cnt) (s : ByteArray) (z : Int) (k : Nat) (hz : z = (k : Int)) : ∃ w', (Instr.mapUpdate 74 (.map (some mb)) (.string s) (.int .i64 z)).run Tryz.prog w = .ok () w' ∧ BM w' mb (fun x => if x = s then k else cnt x) ∧ Fr (fun x => x = mb) w w' ∧ w'.heap.size = w.heap.size := by
  obtain ⟨l, h1, h2⟩ := h
  obtain ⟨w', p1, p2, p3, p4⟩ := h1.upd (string_fits Tryz.underlying9) Tryz.underlying74 s z
  refine ⟨w', p1, ⟨_, p2, fun x => ?_⟩, p3, p4⟩
  rw [getL_putL]
  by_cases hx : s = x
  · dsimp only
    rw [if_pos hx, if_pos hx.symm, hz]
    rfl
  · dsimp only
    rw [if_neg hx, if_neg (Ne.symm hx)]
    exact h2 x
/-- What a walk's function does with a free name. -/
structure FreeOK (m : Bool) (w0 : World) (mb pw fid : Nat) (lb : Array Value) (sub : ByteArray → Option T) (J : Bool → World → Prop) (L MF : Nat → Prop) : Prop where
  enters : ∀ args w, (callFunc fid args).run Tryz.prog w = .ok (.enter fid args) w
  jw : ∀ c w, J c w → w.heap[pw]? = some (.cells #[.map (some mb), .func (.func fid) #[] lb] 78)
  jL : ∀ c w w', J c w → Fr (fun k => ¬ L k) w w' → J c w'
  mbL : ¬ L mb
  mfL : ∀ k, MF k → L k
  llt : ∀ c w k, J c w → L k → k < w.heap.size
  ro0 : m = false → w0.heap.size ≤ mb ∧ ∀ k, L k → w0.heap.size ≤ k
  free : ∀ (w : World) (b off : Nat) (t : T) (S : Nat → Prop) (c : Bool), Nod m w0 w b off t S → J c w → (m = true → (∀ k, S k → ¬ L k ∧ k ≠ mb) ∧ ¬ L b ∧ b ≠ mb) →
    Calls Tryz.prog fid (#[.pointer (some ⟨b, off, none⟩)] ++ lb) w fun e w' => e = .returned (.bool (sub t.o.nm).isSome) ∧ PostW m w0 w w' b off ((sub t.o.nm).getD t) S MF ∧ J true w'
def WalkR (m : Bool) (w0 : World) (mb : Nat) (sub : ByteArray → Option T) (J : Bool → World → Prop) (MF : Nat → Prop) (w : World) (b off : Nat) (t : T) (S : Nat → Prop) (ar : List ByteArray) (told c : Bool) : Ending → World → Prop := fun e w' =>
  (∃ v, e = .returned v) ∧ PostW m w0 w w' b off (expT sub t ar told) S (fun k => k = mb ∨ MF k) ∧ J (c || calT t ar told) w' ∧ BM w' mb (fun s => cntL s ar)
structure W0P (m : Bool) (w0 : World) (mb : Nat) (sub : ByteArray → Option T) (J : Bool → World → Prop) (MF : Nat → Prop) (w : World) (b off : Nat) (o : Nd) (l : List T) (S : Nat → Prop) (ar : List ByteArray) (told c r : Bool) (wx : World) : Prop where
  post : PostW m w0 w wx b off (if r = true then expT sub (.mk o l) ar told else .mk o l) S (fun k => k = mb ∨ MF k)
  j : J (c || hereP o ar told) wx
  bm : BM wx mb (fun s => cntL s ar)
  no : r = false → expT sub (.mk o l) ar told = .mk o (kidsE sub o l ar)
  yes : r = true → hereP o ar told = true
structure MidP (m : Bool) (w0 : World) (mb : Nat) (sub : ByteArray → Option T) (J : Bool → World → Prop) (MF : Nat → Prop) (w : World) (b off : Nat) (o : Nd) (l : List T) (S : Nat → Prop) (ar : List ByteArray) (told c : Bool) (i : Nat) (wx : World) : Prop where
  post : PostW m w0 w wx b off (.mk o (mid sub o l ar i)) S (fun k => k = mb ∨ MF k)
  j : J (c || hereP o ar told || anyC o l ar i) wx
  bm : BM wx mb (fun s => cntL s (ar ++ bnP o l i))
structure L2P (m : Bool) (w0 : World) (mb : Nat) (sub : ByteArray → Option T) (J : Bool → World → Prop) (MF : Nat → Prop) (w : World) (b off : Nat) (o : Nd) (l : List T) (S : Nat → Prop) (ar : List ByteArray) (told c : Bool) (n jj : Nat) (wx : World) : Prop where
  post : PostW m w0 w wx b off (.mk o (kidsE sub o l ar)) S (fun k => k = mb ∨ MF k)
  j : J (c || calT (.mk o l) ar told) wx
  bm : ∃ f, BM wx mb f ∧ ∀ s, f s + cntL s (bnL l jj) = cntL s ar + cntL s (bnL l n)
theorem bnP_zero (o : Nd) (l : List T) : bnP o l 0 = [] := by
  unfold bnP
  split <;> rfl
theorem sep_step {m : Bool} {mb b : Nat} {L S S1 : Nat → Prop} {w : World} (h : m = true → (∀ k, S k → ¬ L k ∧ k ≠ mb) ∧ ¬ L b ∧ b ≠ mb) (h1 : ∀ k, S1 k → S k ∨ w.heap.size ≤ k) (h2 : ∀ k, L k → k < w.heap.size) (h3 : mb < w.heap.size) :
    m = true → (∀ k, S1 k → ¬ L k ∧ k ≠ mb) ∧ ¬ L b ∧ b ≠ mb := fun hm => by
  refine ⟨fun k hk => ?_, (h hm).2⟩
  rcases h1 k hk with h4 | h4
  · exact (h hm).1 k h4
  · exact ⟨fun hl => by have := h2 k hl; omega, by omega⟩
theorem sum_kid : ∀ (l : List T) (i : Nat) (t : T), l[i]? = some t → t.size + (l.length - 1) ≤ (l.map T.size).sum
  | [], _, _, h => by simp at h
  | x :: r, 0, t, h => by
    simp at h
    subst h
    have h2 : r.length ≤ (r.map T.size).sum := by
      induction r with
      | nil => exact Nat.zero_le _
      | cons y q ih =>
        have : 1 ≤ y.size := by cases y; rw [T.size_mk]; omega
        rw [List.length_cons, List.map_cons, List.sum_cons]
        omega
    rw [List.map_cons, List.sum_cons, List.length_cons]
    omega
  | x :: r, i + 1, t, h => by
    have h2 := sum_kid r i t (by simpa using h)
    have h3 : 1 ≤ x.size := by cases x; rw [T.size_mk]; omega
    have h4 : 1 ≤ r.length := by cases r with
      | nil => simp at h
      | cons a b => rw [List.length_cons]; omega
    rw [List.map_cons, List.sum_cons, List.length_cons]
    omega
theorem mid_step {m : Bool} {w0 : World} {mb pw fid : Nat} {lb : Array Value} {sub : ByteArray → Option T} {J : Bool → World → Prop} {L MF : Nat → Prop} {w wr : World} {b off i : Nat} {o : Nd} {l : List T} {t : T} {S : Nat → Prop} {ar : List ByteArray} {told c : Bool}
    (H : FreeOK m w0 mb pw fid lb sub J L MF) (hS : m = true → (∀ k, S k → ¬ L k ∧ k ≠ mb) ∧ ¬ L b ∧ b ≠ mb) (hL : ∀ k, L k → k < w.heap.size) (hmb : mb < w.heap.size) (hP : MidP m w0 mb sub J MF w b off o l S ar told c i wr) (ht : l[i]? = some t) :
    ∃ g go cap Si, NdAt wr b off o (.slice (some ⟨g, go, none⟩) l.length cap) ∧ g < wr.heap.size ∧ Nod m w0 wr g (go + i * 22) t Si ∧ (m = true → (∀ k, Si k → ¬ L k ∧ k ≠ mb) ∧ ¬ L g ∧ g ≠ mb) ∧
      ∀ e w3, WalkR m w0 mb sub J MF wr g (go + i * 22) t Si (ar ++ bnP o l i) (tlP o l i) (c || hereP o ar told || anyC o l ar i) e w3 →
        PostW m w0 w w3 b off (.mk o (mid sub o l ar (i + 1))) S (fun k => k = mb ∨ MF k) ∧ J (c || hereP o ar told || anyC o l ar (i + 1)) w3 ∧ BM w3 mb (fun s => cntL s (ar ++ bnP o l i)) := by
  have hil := (List.getElem?_eq_some_iff.1 ht).1
  obtain ⟨S2, hN2, hS2⟩ := hP.post.nod
  have hS3 := sep_step hS hS2 hL hmb
  have hM : m = true → ∀ k, (k = mb ∨ MF k) → ¬ S2 k ∧ k ≠ b := fun hm k hk => by
    rcases hk with rfl | hk
    · exact ⟨fun h => ((hS3 hm).1 k h).2 rfl, fun h => (hS3 hm).2.2 h.symm⟩
    · exact ⟨fun h => ((hS3 hm).1 k h).1 (H.mfL k hk), fun h => (hS3 hm).2.1 (h ▸ H.mfL k hk)⟩
  obtain ⟨g, go, cap, Si, h1, h2, h3, h4, _, h6⟩ := kid_open (M := fun k => k = mb ∨ MF k) hN2 ((mid_at hil).trans ht) hM
  rw [mid_length] at h1
  refine ⟨g, go, cap, Si, h1, h2, h3, fun hm => ⟨fun k hk => (hS3 hm).1 k ((h4 hm).1 k hk), (hS3 hm).1 g (h4 hm).2⟩, fun e w3 hw => ?_⟩
  obtain ⟨_, p1, p2, p3⟩ := hw
  refine ⟨?_, ?_, p3⟩
  · rw [← mid_set ht]
    exact hP.post.comp hS2 (h6 w3 _ p1)
  · rw [anyC_succ ht, ← Bool.or_assoc]
    exact p2
theorem bnL_even {l : List T} {i : Nat} (h : i % 2 = 0) : bnL l (i + 1) = bnL l i := by
  rw [bnL, if_neg (by omega), List.append_nil]
theorem bnL_odd {l : List T} {i : Nat} {u : T} (h : (i + 1) % 2 = 1) (hu : l[i]? = some u) : bnL l (i + 2) = bnL l (i + 1) ++ (if u.o.k = 7 then [u.o.nm] else []) := by
  rw [bnL, Nat.add_sub_cancel, hu]
  simp [h]
theorem bnL_mono (l : List T) (s : ByteArray) (i : Nat) : ∀ j, cntL s (bnL l i) ≤ cntL s (bnL l (i + j))
  | 0 => Nat.le_refl _
  | j + 1 => by
    have h := bnL_mono l s i j
    rw [← Nat.add_assoc, bnL, cnt_append]
    omega
theorem bm_step {w : World} {mb : Nat} {s : ByteArray} {ar bn : List ByteArray} (h : BM w mb (fun x => if x = s then cntL s (ar ++ bn) + 1 else cntL x (ar ++ bn))) : BM w mb (fun x => cntL x (ar ++ (bn ++ [s]))) := by
  have e : (fun x => if x = s then cntL s (ar ++ bn) + 1 else cntL x (ar ++ bn)) = fun x => cntL x (ar ++ (bn ++ [s])) := by
    funext x
    rw [← List.append_assoc, cnt_append x (ar ++ bn), cnt_one]
    by_cases hx : x = s
    · rw [if_pos hx, if_pos hx.symm, hx]
    · rw [if_neg hx, if_neg (Ne.symm hx), Nat.add_zero]
  rw [← e]
  exact h
theorem mid_kid {m : Bool} {w0 w w3 : World} {b off j : Nat} {o : Nd} {l' : List T} {u : T} {S M : Nat → Prop} (hP : PostW m w0 w w3 b off (.mk o l') S M) (hu : l'[j]? = some u) :
    ∃ g go cap s, NdAt w3 b off o (.slice (some ⟨g, go, none⟩) l'.length cap) ∧ b < w3.heap.size ∧ g < w3.heap.size ∧ NdAt w3 g (go + j * 22) u.o s := by
  obtain ⟨S3, hN, _⟩ := hP.nod
  obtain ⟨g, go, cap, Si, h1, h2, h3, _, h5, _⟩ := kid_open (M := fun _ => False) hN hu (fun _ _ h => h.elim)
  obtain ⟨s, hs⟩ := h5 j u hu
  obtain ⟨_, _, _, hb, _⟩ := hN.nd
  exact ⟨g, go, cap, s, h1, hb, h2, hs⟩
theorem post_mb {m : Bool} {w0 w w3 w4 : World} {mb pw fid : Nat} {lb : Array Value} {sub : ByteArray → Option T} {J : Bool → World → Prop} {L MF : Nat → Prop} {b off : Nat} {t : T} {S : Nat → Prop} (H : FreeOK m w0 mb pw fid lb sub J L MF)
    (hS : m = true → (∀ k, S k → ¬ L k ∧ k ≠ mb) ∧ ¬ L b ∧ b ≠ mb) (hL : ∀ k, L k → k < w.heap.size) (hmb : mb < w.heap.size) (hP : PostW m w0 w w3 b off t S (fun k => k = mb ∨ MF k)) (hf : Fr (fun k => k = mb) w3 w4) : PostW m w0 w w4 b off t S (fun k => k = mb ∨ MF k) := by
  obtain ⟨S3, hN, hS3⟩ := hP.nod
  have hS4 := sep_step hS hS3 hL hmb
  refine hP.comp hS3 (PostW.of_fr hN (hf.mono (fun k _ h => .inl h)) (fun hm k hk => ?_) (fun hm k hk => ?_))
  · rcases hk with rfl | hk
    · exact (H.ro0 hm).1
    · exact (H.ro0 hm).2 k (H.mfL k hk)
  · rcases hk with rfl | hk
    · exact ⟨fun h => ((hS4 hm).1 k h).2 rfl, fun h => (hS4 hm).2.2 h.symm⟩
    · exact ⟨fun h => ((hS4 hm).1 k h).1 (H.mfL k hk), fun h => (hS4 hm).2.1 (h ▸ H.mfL k hk)⟩
section
variable {m : Bool} {w0 : World} {mb pw fid : Nat} {lb : Array Value} {sub : ByteArray → Option T} {J : Bool → World → Prop} {L MF : Nat → Prop}
set_option maxHeartbeats 16000000 in
set_option maxRecDepth 100000 in
theorem walkF_any (H : FreeOK m w0 mb pw fid lb sub J L MF) (t : T) : ∀ (ar : List ByteArray) (told c : Bool) (w : World) (b off : Nat) (S : Nat → Prop), ar.length + t.size ≤ 4194304 → t.size ≤ 2097152 → Nod m w0 w b off t S → J c w → BM w mb (fun s => cntL s ar) →
    (m = true → (∀ k, S k → ¬ L k ∧ k ≠ mb) ∧ ¬ L b ∧ b ≠ mb) →
    Calls Tryz.prog 32 #[.pointer (some ⟨pw, 0, none⟩), .pointer (some ⟨b, off, none⟩), .bool told] w (WalkR m w0 mb sub J MF w b off t S ar told c) := by
  have HH := Lib.hid H
  clear H
  induction t using T.ind with
  | h o l ih =>
    intro ar told c w b off S har hz hN hJ hM hS
    have IH := Lib.hid ih
    have hlen : l.length ≤ 2097152 := by have := T.len_le o l; omega
    have HN := Lib.hid hN
    have HJ := Lib.hid hJ
    have HM := Lib.hid hM
    have HS := Lib.hid hS
    have HZ := Lib.hid hz
    have HAR := Lib.hid har
    obtain ⟨a, cap, hnd, hb, _⟩ := hN.nd
    change NdAt w b off o (.slice a l.length cap) at hnd
    obtain ⟨n, hn⟩ : ∃ n, l.length = n := ⟨_, rfl⟩
    rw [hn] at hnd hlen
    have HLN := Lib.hid hn
    have r0 : w.cell? ⟨b, off, none⟩ = some (.int .i64 o.k) := hnd 0 (by omega)
    have r7 : w.cell? ⟨b, off + 7, none⟩ = some (.string o.nm) := hnd 7 (by omega)
    have hpw := HH.out.jw c w hJ
    have p0 := cell_of_heap hpw 0
    have p1 := cell_of_heap hpw 1
    have zp := lt_of_heap hpw
    have hlk : ∀ W, Below w.heap.size w W → (Instr.lookup 74 (.map (some mb)) (.string o.nm) false).run Tryz.prog W = .ok (.int .i64 (cntL o.nm ar)) W := fun W hW => (HM.out.of_block (hW.block mb HM.out.lt)).look o.nm
    have ent := HH.out.enters
    clear ih hN hJ hM hS hz har hnd hn hpw
    go_enter Tryz.func32, Tryz.ntmps32
    go_upto_region 1 with fail
    have NOT : Hid (hereP o ar told = false → ∀ wx, Below w.heap.size w wx → W0P m w0 mb sub J MF w b off o l S ar told c false wx) := fun hh wx hb => by
      refine ⟨?_, ?_, HM.out.of_block (hb.block mb HM.out.lt), fun _ => ?_, fun h => by cases h⟩
      · rw [if_neg (by simp)]
        exact PostW.of_fr HN.out (Fr.of_below hb) (fun hm k hk => by
          rcases hk with hk | hk
          · rw [hk]; exact (HH.out.ro0 hm).1
          · exact (HH.out.ro0 hm).2 k (HH.out.mfL k hk)) (fun hm k hk => by
          rcases hk with hk | hk
          · rw [hk]; exact ⟨fun h => ((HS.out hm).1 mb h).2 rfl, fun h => (HS.out hm).2.2 h.symm⟩
          · exact ⟨fun h => ((HS.out hm).1 k h).1 (HH.out.mfL k hk), fun h => (HS.out hm).2.1 (h ▸ HH.out.mfL k hk)⟩)
      · rw [hh, Bool.or_false]
        exact HH.out.jL c w wx HJ.out (Fr.of_below hb)
      · rw [expT_mk, hh]
        rfl
    go_cut [38] (fun s38 wx => ∃ r : Bool, s38 = .bool r ∧ W0P m w0 mb sub J MF w b off o l S ar told c r wx)
    case first =>
      by_cases h7 : o.k = 7
      case neg =>
        have e7 : (o.k == 7) = false := by simp [h7]
        have H7 : Hid (decide (o.k = 7) = false) := decide_eq_false h7
        clear h7
        refine wp_region_multiR [([0, 1, 2, 3, 4, 5, 6, 7, 8, 9, 10, 11, 12, 13, 14, 15, 16, 17, 18, 19, 20, 21, 22, 23, 24, 25, 26], [27], [27, 28]), ([28], [], [])] (by kernel_rfl) (by kernel_rfl) ?_
        refine multi_phase (Below w.heap.size w) (Below.refl _ _).drew ?_
        iterate 27 (first | (apply first_step; (rw [List.getElem?_toArray]; (repeat rw [List.getElem?_cons_succ]); rw [List.getElem?_cons_zero]); rfl; (intro W hB; have hc := bcellB hB; go_simp; (first | done | rfl)); go_frame) | (apply first_skip; (rw [List.getElem?_toArray]; (repeat rw [List.getElem?_cons_succ]); rw [List.getElem?_cons_zero]); rfl; go_frame))
        refine first_done ?_
        apply forced_skip; (rw [List.getElem?_toArray]; (repeat rw [List.getElem?_cons_succ]); rw [List.getElem?_cons_zero]); rfl
        · exact fun h => absurd (by decide) h
        refine forced_done ?_
        refine multi_phase (fun _ => True) trivial ?_
        first | (apply first_step; (rw [List.getElem?_toArray]; (repeat rw [List.getElem?_cons_succ]); rw [List.getElem?_cons_zero]); rfl; (intro W hB; go_simp; (first | done | rfl)); go_frame) | (apply first_skip; (rw [List.getElem?_toArray]; (repeat rw [List.getElem?_cons_succ]); rw [List.getElem?_cons_zero]); rfl; go_frame)
        refine first_done ?_
        refine forced_done ?_
        refine multi_done ?_
        go_wp2_with fail
        go_meet
        exact ⟨false, rfl, NOT.out (by unfold hereP; rw [H7.out]; rfl) _ (Below.refl _ w).drew⟩
      have e7 : (o.k == 7) = true := by simp [h7]
      have H7 : Hid (decide (o.k = 7) = true) := decide_eq_true h7
      clear h7
      cases told with
      | true =>
        refine wp_region_multiR [([0, 1, 2, 3, 4, 5, 6, 7, 8, 9, 10, 11, 12, 13, 14, 15, 16, 17, 18, 19, 20, 21, 22, 23, 24, 25, 26], [27], [27, 28]), ([28], [], [])] (by kernel_rfl) (by kernel_rfl) ?_
        refine multi_phase (Below w.heap.size w) (Below.refl _ _).drew ?_
        iterate 27 (first | (apply first_step; (rw [List.getElem?_toArray]; (repeat rw [List.getElem?_cons_succ]); rw [List.getElem?_cons_zero]); rfl; (intro W hB; have hc := bcellB hB; go_simp; (first | done | rfl)); go_frame) | (apply first_skip; (rw [List.getElem?_toArray]; (repeat rw [List.getElem?_cons_succ]); rw [List.getElem?_cons_zero]); rfl; go_frame))
        refine first_done ?_
        apply forced_skip; (rw [List.getElem?_toArray]; (repeat rw [List.getElem?_cons_succ]); rw [List.getElem?_cons_zero]); rfl
        · exact fun h => absurd (by decide) h
        refine forced_done ?_
        refine multi_phase (fun _ => True) trivial ?_
        first | (apply first_step; (rw [List.getElem?_toArray]; (repeat rw [List.getElem?_cons_succ]); rw [List.getElem?_cons_zero]); rfl; (intro W hB; go_simp; (first | done | rfl)); go_frame) | (apply first_skip; (rw [List.getElem?_toArray]; (repeat rw [List.getElem?_cons_succ]); rw [List.getElem?_cons_zero]); rfl; go_frame)
        refine first_done ?_
        refine forced_done ?_
        refine multi_done ?_
        go_wp2_with fail
        go_meet
        exact ⟨false, rfl, NOT.out (by unfold hereP; rw [H7.out]; rfl) _ (Below.refl _ w).drew⟩
      | false =>
        by_cases hc : cntL o.nm ar = 0
        case neg =>
          have ec : ((cntL o.nm ar : Int) == 0) = false := by simp; exact hc
          have HC : Hid (inL o.nm ar = true) := by
            have := cnt_zero o.nm ar
            rw [decide_eq_false hc] at this
            unfold Hid
            cases hi : inL o.nm ar
            · rw [hi] at this; cases this
            · rfl
          clear hc
          refine wp_region_multiR [([0, 1, 2, 3, 4, 5, 6, 7, 8, 9, 10, 11, 12, 13, 14, 15, 16, 17, 18, 19, 20, 21, 22, 23, 24, 25, 26], [27], [27, 28]), ([28], [], [])] (by kernel_rfl) (by kernel_rfl) ?_
          refine multi_phase (Below w.heap.size w) (Below.refl _ _).drew ?_
          iterate 27 (first | (apply first_step; (rw [List.getElem?_toArray]; (repeat rw [List.getElem?_cons_succ]); rw [List.getElem?_cons_zero]); rfl; (intro W hB; have hc := bcellB hB; go_simp; (first | done | rfl)); go_frame) | (apply first_skip; (rw [List.getElem?_toArray]; (repeat rw [List.getElem?_cons_succ]); rw [List.getElem?_cons_zero]); rfl; go_frame))
          refine first_done ?_
          apply forced_skip; (rw [List.getElem?_toArray]; (repeat rw [List.getElem?_cons_succ]); rw [List.getElem?_cons_zero]); rfl
          · exact fun h => absurd (by decide) h
          refine forced_done ?_
          refine multi_phase (fun _ => True) trivial ?_
          first | (apply first_step; (rw [List.getElem?_toArray]; (repeat rw [List.getElem?_cons_succ]); rw [List.getElem?_cons_zero]); rfl; (intro W hB; go_simp; (first | done | rfl)); go_frame) | (apply first_skip; (rw [List.getElem?_toArray]; (repeat rw [List.getElem?_cons_succ]); rw [List.getElem?_cons_zero]); rfl; go_frame)
          refine first_done ?_
          refine forced_done ?_
          refine multi_done ?_
          go_wp2_with fail
          go_meet
          exact ⟨false, rfl, NOT.out (by unfold hereP; rw [H7.out, HC.out]; rfl) _ (Below.refl _ w).drew⟩
        have ec : ((cntL o.nm ar : Int) == 0) = true := by simp; exact hc
        have HE : Hid (hereP o ar false = true) := by
          have := cnt_zero o.nm ar
          rw [decide_eq_true hc] at this
          unfold Hid hereP
          rw [H7.out]
          cases hi : inL o.nm ar
          · rfl
          · rw [hi] at this; cases this
        clear hc
        have HFR := Lib.hid (HH.out.free w.drew b off (.mk o l) S c (HN.out.fr (M := fun _ => False) (Fr.of_below (below_drewN w 1 _)) (fun _ _ h => h.elim) (fun _ _ h => h.elim)) (HH.out.jL c w _ HJ.out (Fr.of_below (below_drewN w 1 _))) HS.out)
        have GOOD : Hid (∀ w1, PostW m w0 w.drew w1 b off ((sub o.nm).getD (.mk o l)) S MF → J true w1 → W0P m w0 mb sub J MF w b off o l S ar false c (sub o.nm).isSome w1) := fun w1 hp1 hj1 => by
          have hfr : Fr (fun k => MF k ∨ (m = true ∧ (S k ∨ k = b))) w w1 := ⟨hp1.fr.os, hp1.fr.tape, hp1.fr.output, hp1.fr.size, hp1.fr.block⟩
          refine ⟨?_, by rw [HE.out, Bool.or_true]; exact hj1, HM.out.of_block (hfr.block mb HM.out.lt ?_), fun hr => ?_, fun _ => HE.out⟩
          · have e : (if (sub o.nm).isSome = true then expT sub (.mk o l) ar false else .mk o l) = (sub o.nm).getD (.mk o l) := by
              cases hs : sub o.nm with
              | none => rfl
              | some s => rw [expT_mk, HE.out, hs]; rfl
            rw [e]
            exact ⟨hfr.mono (fun k _ hc => hc.elim (fun h => .inl (.inr h)) .inr), hp1.nod, hp1.row⟩
          · rintro (h | ⟨hm, h | h⟩)
            · exact HH.out.mbL (HH.out.mfL mb h)
            · exact ((HS.out hm).1 mb h).2 rfl
            · exact (HS.out hm).2.2 h.symm
          · cases hs : sub o.nm with
            | none => rw [expT_mk, HE.out, hs]; rfl
            | some s => rw [hs] at hr; cases hr
        have hsn : (T.mk o l).o.nm = o.nm := rfl
        rw [hsn] at HFR
        clear hsn
        refine wp_region_multiR [([0, 1, 2, 3, 4, 5, 6, 7, 8, 9, 10, 11, 12, 13, 14, 15, 16, 17, 18, 19, 20, 21, 22, 23, 24, 25, 26], [27], [27, 28]), ([28], [], [])] (by kernel_rfl) (by kernel_rfl) ?_
        refine multi_phase (Below w.heap.size w) (Below.refl _ _).drew ?_
        iterate 27 (first | (apply first_step; (rw [List.getElem?_toArray]; (repeat rw [List.getElem?_cons_succ]); rw [List.getElem?_cons_zero]); rfl; (intro W hB; have hc := bcellB hB; go_simp; (first | done | rfl)); go_frame) | (apply first_skip; (rw [List.getElem?_toArray]; (repeat rw [List.getElem?_cons_succ]); rw [List.getElem?_cons_zero]); rfl; go_frame))
        refine first_done ?_
        apply forced_step; (rw [List.getElem?_toArray]; (repeat rw [List.getElem?_cons_succ]); rw [List.getElem?_cons_zero]); rfl; intro K hK; go_simp
        clear ent hlk
        refine HFR.out.mono ?_
        rintro e w1 ⟨rfl, hp1, hj1⟩
        have G1 := Lib.hid (GOOD.out w1 hp1 hj1)
        refine hK _ _ (fun h => absurd (by decide) h) ?_
        clear hK K GOOD hp1 hj1 HFR
        generalize (sub o.nm).isSome = r at G1 ⊢
        refine forced_done ?_
        refine multi_phase (fun _ => True) trivial ?_
        first | (apply first_step; (rw [List.getElem?_toArray]; (repeat rw [List.getElem?_cons_succ]); rw [List.getElem?_cons_zero]); rfl; (intro W hB; go_simp; (first | done | rfl)); go_frame) | (apply first_skip; (rw [List.getElem?_toArray]; (repeat rw [List.getElem?_cons_succ]); rw [List.getElem?_cons_zero]); rfl; go_frame)
        refine first_done ?_
        refine forced_done ?_
        refine multi_done ?_
        go_wp2_with fail
        go_meet
        exact ⟨r, rfl, G1.out⟩
    case rest =>
    obtain ⟨r, rfl, hP⟩ := hcut
    clear ent hlk p0 p1 r0 r7 zp
    cases r with
    | true =>
      have END : Hid (WalkR m w0 mb sub J MF w b off (.mk o l) S ar told c (.returned (.tuple #[])) wc) := by
        refine ⟨⟨_, rfl⟩, hP.post, ?_, hP.bm⟩
        have h := hP.j
        rw [hP.yes rfl, Bool.or_true] at h
        have hc : calT (.mk o l) ar told = true := by rw [calT_mk, hP.yes rfl, Bool.true_or]
        rw [hc, Bool.or_true]
        exact h
      clear hP
      go_wp2_with fail
      refine bodyPost_ret (results_none rfl _ _ _) rfl ?_
      exact END.out
    | false =>
    have hP1 := hP.post
    rw [if_neg (by simp)] at hP1
    have hLlt : Hid (∀ k, L k → k < w.heap.size) := fun k hk => HH.out.llt c w k HJ.out hk
    have START : Hid (MidP m w0 mb sub J MF w b off o l S ar told c 0 wc) := ⟨by rw [mid_zero]; exact hP1, by rw [anyC_zero, Bool.or_false]; exact hP.j, by rw [bnP_zero, List.append_nil]; exact hP.bm⟩
    have NOE := Lib.hid (hP.no rfl)
    obtain ⟨S1, hN1, _⟩ := hP1.nod
    obtain ⟨a1, cap1, hnd1, hb1, _⟩ := hN1.nd
    change NdAt wc b off o (.slice a1 l.length cap1) at hnd1
    rw [HLN.out] at hnd1
    have IL := Lib.hid (isLet_any o a1 n cap1 b off wc hlen hnd1)
    have HLT : Hid (letP o l = (decide (o.k = 4) && (o.nm.toList == [76, 69, 84]) && decide (3 ≤ n) && decide (n % 2 = 1))) := by unfold Hid letP; rw [HLN.out]
    have x21 : wc.cell? ⟨b, off + 21, none⟩ = some (.slice a1 n cap1) := hnd1 21 (by omega)
    clear hP hP1 hN1 hnd1
    go_wp2_with fail
    refine IL.out.mono ?_
    rintro e w2 ⟨rfl, rfl⟩
    rw [← HLT.out]
    clear IL HLT
    cases hlet : letP o l with
    | false =>
      have BN : Hid (∀ i, bnP o l i = []) := fun i => by unfold bnP; rw [hlet]; rfl
      have TL : Hid (∀ i, tlP o l i = false) := fun i => by unfold tlP; rw [hlet]; rfl
      clear hlet
      go_wp2_with fail
      go_loopg [47] n (fun gh s47 wr => ∃ i : Nat, s47 = .int .i64 (i : Int) ∧ gh = n - i ∧ i ≤ n ∧ Hid (MidP m w0 mb sub J MF w b off o l S ar told c i wr))
      case atStart => exact ⟨0, rfl, rfl, Nat.zero_le _, START⟩
      case round =>
        obtain ⟨i, rfl, rfl, hi, hI⟩ := hrel
        clear START
        by_cases hlt : i < n
        · obtain ⟨t, ht⟩ : ∃ t, l[i]? = some t := ⟨_, List.getElem?_eq_getElem (by rw [HLN.out]; exact hlt)⟩
          obtain ⟨g, go, cap, Si, q1, q2, q3, q4, q5⟩ := mid_step HH.out HS.out hLlt.out HM.out.lt hI.out ht
          rw [HLN.out] at q1
          have y21 : wr.cell? ⟨b, off + 21, none⟩ = some (.slice (some ⟨g, go, none⟩) n cap) := q1 21 (by omega)
          have hsk := sum_kid l i t ht
          have CALL := Lib.hid (IH.out t (List.mem_of_getElem? ht) (ar ++ bnP o l i) (tlP o l i) _ wr g (go + i * 22) Si (by
            have h1 := HAR.out
            rw [T.size_mk] at h1
            have h2 := bnP_length o l i
            have h3 := HLN.out
            rw [List.length_append]
            omega) (by have := HZ.out; rw [T.size_mk] at this; omega) q3 hI.out.j hI.out.bm q4)
          rw [TL.out] at CALL
          have NX := Lib.hid q5
          rw [TL.out] at NX
          have j1 : (0 : Int) ≤ (i : Int) := by omega
          have j2 : (i : Int) < (n : Int) := by omega
          clear q1 q2 q3 q4 q5 hsk ht hI
          go_wp2_with fail
          refine CALL.out.mono ?_
          intro e w3 hw
          obtain ⟨r1, r2, r3⟩ := NX.out e w3 hw
          obtain ⟨⟨v, rfl⟩, _⟩ := hw
          have NXT : Hid (MidP m w0 mb sub J MF w b off o l S ar told c (i + 1) w3) := ⟨r1, r2, by rw [BN.out (i + 1)]; rw [BN.out i] at r3; exact r3⟩
          clear r1 r2 r3 NX CALL
          go_wp2_with fail
          go_roundg (n - (i + 1))
          case measure => omega
          case rel => exact ⟨i + 1, by go_num, rfl, by omega, NXT⟩
        · have END : Hid (WalkR m w0 mb sub J MF w b off (.mk o l) S ar told c (.returned (.tuple #[])) wr) := by
            have hin : l.length ≤ i := by rw [HLN.out]; omega
            have h1 := hI.out.post
            have h2 := hI.out.j
            have h3 := hI.out.bm
            rw [mid_all hin] at h1
            rw [BN.out i, List.append_nil] at h3
            exact ⟨⟨_, rfl⟩, by rw [NOE.out]; exact h1, by rw [anyC_all hin, ← Bool.or_assoc]; exact h2, h3⟩
          clear hI
          go_wp2_with fail
          refine bodyPost_ret (results_none rfl _ _ _) rfl ?_
          exact END.out
    | true =>
      have BN : Hid (∀ i, bnP o l i = bnL l i) := fun i => by unfold bnP; rw [hlet]; rfl
      have TL : Hid (∀ i, tlP o l i = (decide (i % 2 = 0) && decide (i + 1 < n))) := fun i => by unfold tlP; rw [hlet, HLN.out]; rfl
      have HN3 : Hid (3 ≤ n ∧ n % 2 = 1) := by
        have h := hlet
        unfold letP at h
        rw [HLN.out] at h
        simp only [Bool.and_eq_true, decide_eq_true_eq] at h
        exact ⟨h.1.2, h.2⟩
      clear hlet
      go_wp2_with fail
      go_loopg [70] n (fun gh s70 wr => ∃ i : Nat, s70 = .int .i64 (i : Int) ∧ gh = n - i ∧ i ≤ n ∧ Hid (MidP m w0 mb sub J MF w b off o l S ar told c i wr))
      case atStart => exact ⟨0, rfl, rfl, Nat.zero_le _, START⟩
      case round =>
        obtain ⟨i, rfl, rfl, hi, hI⟩ := hrel
        clear START
        by_cases hlt : i < n
        · obtain ⟨t, ht⟩ : ∃ t, l[i]? = some t := ⟨_, List.getElem?_eq_getElem (by rw [HLN.out]; exact hlt)⟩
          obtain ⟨g, go, cap, Si, q1, q2, q3, q4, q5⟩ := mid_step HH.out HS.out hLlt.out HM.out.lt hI.out ht
          rw [HLN.out] at q1
          have y21 : wr.cell? ⟨b, off + 21, none⟩ = some (.slice (some ⟨g, go, none⟩) n cap) := q1 21 (by omega)
          have hsk := sum_kid l i t ht
          have CALL := Lib.hid (IH.out t (List.mem_of_getElem? ht) (ar ++ bnP o l i) (tlP o l i) _ wr g (go + i * 22) Si (by
            have h1 := HAR.out
            rw [T.size_mk] at h1
            have h2 := bnP_length o l i
            have h3 := HLN.out
            rw [List.length_append]
            omega) (by have := HZ.out; rw [T.size_mk] at this; omega) q3 hI.out.j hI.out.bm q4)
          have NX := Lib.hid q5
          have j1 : (0 : Int) ≤ (i : Int) := by omega
          have j2 : (i : Int) < (n : Int) := by omega
          clear q1 q2 q3 q4 q5 hsk ht hI
          by_cases h2 : i % 2 = 0
          · have e2 : ((i : Int) % 2 == 0) = true := by simp; omega
            have e21 : ((i : Int) % 2 == 1) = false := by simp; omega
            have EV : Hid (bnP o l (i + 1) = bnP o l i) := by unfold Hid; rw [BN.out, BN.out, bnL_even h2]
            have TLi : Hid (tlP o l i = decide ((i : Int) < (n : Int) - 1)) := by
              unfold Hid
              rw [TL.out, decide_eq_true h2, Bool.true_and, Bool.eq_iff_iff]
              simp
              omega
            rw [TLi.out] at CALL NX
            clear h2 TLi
            go_wp2_with fail
            refine CALL.out.mono ?_
            intro e w3 hw
            obtain ⟨r1, r2, r3⟩ := NX.out e w3 hw
            obtain ⟨⟨v, rfl⟩, _⟩ := hw
            have NXT : Hid (MidP m w0 mb sub J MF w b off o l S ar told c (i + 1) w3) := ⟨r1, r2, by rw [EV.out]; exact r3⟩
            clear r1 r2 r3 NX CALL
            go_wp2_with fail
            go_roundg (n - (i + 1))
            case measure => omega
            case rel => exact ⟨i + 1, by go_num, rfl, by omega, NXT⟩
          · obtain ⟨p, rfl⟩ : ∃ p, i = p + 1 := ⟨i - 1, by omega⟩
            have e2 : (((p : Int) + 1) % 2 == 0) = false := by simp; omega
            have e21 : (((p : Int) + 1) % 2 == 1) = true := by simp; omega
            have e2' : ¬ ((p : Int) + 1) % 2 = 0 := by omega
            have e21' : ((p : Int) + 1) % 2 = 1 := by omega
            have H2 := Lib.hid h2
            have TLi : Hid (tlP o l (p + 1) = false) := by
              unfold Hid
              rw [TL.out, decide_eq_false h2]
              rfl
            rw [TLi.out] at CALL NX
            obtain ⟨u, hu⟩ : ∃ u, l[p]? = some u := ⟨_, List.getElem?_eq_getElem (by rw [HLN.out]; omega)⟩
            have HU := Lib.hid hu
            clear h2 TLi hu
            go_wp2_with fail
            refine CALL.out.mono ?_
            intro e w3 hw
            obtain ⟨r1, r2, r3⟩ := NX.out e w3 hw
            obtain ⟨⟨v, rfl⟩, _⟩ := hw
            obtain ⟨g3, go3, cap3, s3, t1, t2, t3, t4⟩ := mid_kid r1 (mid_done HU.out (Nat.lt_succ_of_le (Nat.le_succ p)))
            have hko : (kidE sub o l ar p u).o = u.o := by
              unfold kidE
              rw [TL.out, decide_eq_true (by have := H2.out; omega : p % 2 = 0), decide_eq_true (by omega : p + 1 < n)]
              exact exp_told_o sub u _
            rw [hko] at t4
            rw [mid_length, HLN.out] at t1
            have z21 : w3.cell? ⟨b, off + 21, none⟩ = some (.slice (some ⟨g3, go3, none⟩) n cap3) := t1 21 (by omega)
            have k0 : w3.cell? ⟨g3, go3 + p * 22, none⟩ = some (.int .i64 u.o.k) := t4 0 (by omega)
            have k7 : w3.cell? ⟨g3, go3 + p * 22 + 7, none⟩ = some (.string u.o.nm) := t4 7 (by omega)
            have j3 : (0 : Int) ≤ (p : Int) := by omega
            have j4 : (p : Int) < (n : Int) := by omega
            have BO : Hid (bnP o l (p + 1 + 1) = bnP o l (p + 1) ++ (if u.o.k = 7 then [u.o.nm] else [])) := by
              unfold Hid
              rw [BN.out, BN.out]
              exact bnL_odd (by have := H2.out; omega) HU.out
            have R1 := Lib.hid r1
            have R2 := Lib.hid r2
            have R3 := Lib.hid r3
            clear NX CALL t1 t4 hko y21 r1 r2 r3
            by_cases h7 : u.o.k = 7
            · have e7 : (u.o.k == 7) = true := by simp [h7]
              have BO2 : Hid (bnP o l (p + 1 + 1) = bnP o l (p + 1) ++ [u.o.nm]) := by unfold Hid; rw [BO.out, if_pos h7]
              clear h7 BO
              have zb3 := t2
              have hpw3 := HH.out.jw _ w3 R2.out
              have u0 := cell_of_heap hpw3 0
              have zp3 := lt_of_heap hpw3
              obtain ⟨cq, hcq⟩ : ∃ cq, cq = cntL u.o.nm (ar ++ bnP o l (p + 1)) := ⟨_, rfl⟩
              have hcl : cq ≤ 8388608 := by
                have h1 := cntL_le u.o.nm (ar ++ bnP o l (p + 1))
                rw [List.length_append] at h1
                have h2 := bnP_length o l (p + 1)
                have h3 := HAR.out
                omega
              have hlk3 : ∀ W, Below w3.heap.size w3 W → (Instr.lookup 74 (.map (some mb)) (.string u.o.nm) false).run Tryz.prog W = .ok (.int .i64 (cq : Int)) W := fun W hW => by
                rw [hcq]
                exact (R3.out.of_block (hW.block mb R3.out.lt)).look u.o.nm
              have jw : IntKind.i64.wrap ((cq : Int) + 1) = (cq : Int) + 1 := IntWalk.i64_in _ (by omega)
              have jp : IntKind.i64.wrap ((p : Int) + 1 - 1) = (p : Int) := by rw [Int.add_sub_cancel]; exact IntWalk.i64_in _ (by omega)
              have jp2 : IntKind.i64.wrap (p : Int) = (p : Int) := IntWalk.i64_in _ (by omega)
              have HCQ := Lib.hid hcq
              clear hcq hpw3
              go_wp2_with fail
              refine wp_region_multiR [([0, 1, 2, 3, 4, 5, 6, 7, 8, 9, 10, 11, 12, 13, 14], [15], [15])] (by kernel_rfl) (by kernel_rfl) ?_
              refine multi_phase (Below w3.heap.size w3) (Below.refl _ _).drew ?_
              iterate 15 (first | (apply first_step; (rw [List.getElem?_toArray]; (repeat rw [List.getElem?_cons_succ]); rw [List.getElem?_cons_zero]); rfl; (intro W hB; have hc := bcellB hB; go_simp; (first | done | rfl)); go_frame) | (apply first_skip; (rw [List.getElem?_toArray]; (repeat rw [List.getElem?_cons_succ]); rw [List.getElem?_cons_zero]); rfl; go_frame))
              refine first_done ?_
              obtain ⟨w4, hup, hbm, hfm, hsz⟩ := BM.upd (w := w3.drew) (cnt := fun s => cntL s (ar ++ bnP o l (p + 1))) (R3.out.of_block rfl) u.o.nm ((cq : Int) + 1) (cq + 1) (by push_cast; rfl)
              apply forced_step; (rw [List.getElem?_toArray]; (repeat rw [List.getElem?_cons_succ]); rw [List.getElem?_cons_zero]); rfl; intro K hK; go_simp
              have hf3 : Fr (fun k => k = mb) w3 w4 := ⟨hfm.os, hfm.tape, hfm.output, hfm.size, hfm.block⟩
              have NXT : Hid (MidP m w0 mb sub J MF w b off o l S ar told c (p + 1 + 1) w4) := by
                refine ⟨post_mb HH.out HS.out hLlt.out HM.out.lt R1.out hf3, HH.out.jL _ _ _ R2.out (hf3.mono (fun k _ h => by rw [h]; exact HH.out.mbL)), ?_⟩
                rw [BO2.out]
                refine bm_step ?_
                rw [HCQ.out] at hbm
                exact hbm
              refine hK _ _ (fun h => absurd (by decide) h) ?_
              clear hK K hup hbm hfm hsz hf3 hlk3 u0 z21 k0 k7 jw jp jp2
              refine forced_done ?_
              refine multi_done ?_
              go_wp2_with fail
              go_roundg (n - (p + 1 + 1))
              case measure => omega
              case rel => exact ⟨p + 1 + 1, by go_num, rfl, by omega, NXT⟩
            · have e7 : (u.o.k == 7) = false := by simp [h7]
              have NXT : Hid (MidP m w0 mb sub J MF w b off o l S ar told c (p + 1 + 1) w3) := ⟨R1.out, R2.out, by rw [BO.out, if_neg h7, List.append_nil]; exact R3.out⟩
              clear h7
              go_wp2_with fail
              go_roundg (n - (p + 1 + 1))
              case measure => omega
              case rel => exact ⟨p + 1 + 1, by go_num, rfl, by omega, NXT⟩
        · have hin : l.length ≤ i := by rw [HLN.out]; omega
          have ST2 : Hid (L2P m w0 mb sub J MF w b off o l S ar told c n 0 wr) := by
            have h1 := hI.out.post
            have h2 := hI.out.j
            have h3 := hI.out.bm
            have hi2 : i = n := by omega
            rw [mid_all hin] at h1
            rw [BN.out i, hi2] at h3
            refine ⟨h1, by rw [anyC_all hin, ← Bool.or_assoc]; exact h2, _, h3, fun s => ?_⟩
            rw [cnt_append]
            show _ + cntL s [] = _
            exact Nat.add_zero _
          clear hI hin
          go_wp2_with fail
          go_loopg [9] n (fun gh s9 wr => ∃ j : Nat, s9 = .int .i64 (j : Int) ∧ gh = n - j ∧ j + 1 ≤ n ∧ j % 2 = 0 ∧ Hid (L2P m w0 mb sub J MF w b off o l S ar told c n j wr))
          case atStart => exact ⟨0, rfl, rfl, by have := HN3.out.1; omega, rfl, ST2⟩
          case round =>
            obtain ⟨j, rfl, rfl, hj, hj2, hI⟩ := hrel
            clear ST2
            by_cases hjt : j + 1 < n
            · obtain ⟨u, hu⟩ : ∃ u, l[j]? = some u := ⟨_, List.getElem?_eq_getElem (by rw [HLN.out]; omega)⟩
              obtain ⟨g3, go3, cap3, s3, t1, t2, t3, t4⟩ := mid_kid hI.out.post (kidsE_at hu)
              have hko : (kidE sub o l ar j u).o = u.o := by
                unfold kidE
                rw [TL.out, decide_eq_true hj2, decide_eq_true hjt]
                exact exp_told_o sub u _
              rw [hko] at t4
              rw [kidsE_length, HLN.out] at t1
              have z21 : wr.cell? ⟨b, off + 21, none⟩ = some (.slice (some ⟨g3, go3, none⟩) n cap3) := t1 21 (by omega)
              have k0 : wr.cell? ⟨g3, go3 + j * 22, none⟩ = some (.int .i64 u.o.k) := t4 0 (by omega)
              have k7 : wr.cell? ⟨g3, go3 + j * 22 + 7, none⟩ = some (.string u.o.nm) := t4 7 (by omega)
              have j1 : (0 : Int) ≤ (j : Int) := by omega
              have j2 : (j : Int) < (n : Int) := by omega
              have j3 : (j : Int) < (n : Int) - 1 := by omega
              have BO : Hid (bnL l (j + 2) = bnL l j ++ (if u.o.k = 7 then [u.o.nm] else [])) := by
                unfold Hid
                rw [bnL_odd (by omega) hu, bnL_even hj2]
              have MONO : Hid (∀ s, cntL s (bnL l (j + 2)) ≤ cntL s (bnL l n)) := fun s => by
                have h := bnL_mono l s (j + 2) (n - (j + 2))
                rwa [show j + 2 + (n - (j + 2)) = n by have := HN3.out.2; omega] at h
              have HJ2 := Lib.hid hj2
              clear t1 t4 hko hu hj2
              by_cases h7 : u.o.k = 7
              · have e7 : (u.o.k == 7) = true := by simp [h7]
                have BO2 : Hid (bnL l (j + 2) = bnL l j ++ [u.o.nm]) := by unfold Hid; rw [BO.out, if_pos h7]
                clear h7 BO
                obtain ⟨f, hf1, hf2⟩ := hI.out.bm
                have hpw3 := HH.out.jw _ wr hI.out.j
                have u0 := cell_of_heap hpw3 0
                have zp3 := lt_of_heap hpw3
                obtain ⟨cq, hcq⟩ : ∃ cq, f u.o.nm = cq + 1 := by
                  have h1 := hf2 u.o.nm
                  have h2 := MONO.out u.o.nm
                  rw [BO2.out, cnt_append, cnt_one, if_pos rfl] at h2
                  exact ⟨f u.o.nm - 1, by omega⟩
                have hcl : cq ≤ 8388608 := by
                  have h1 := cntL_le u.o.nm ar
                  have h2 := cntL_le u.o.nm (bnL l n)
                  have h3 := bnL_length l n
                  have h4 := HAR.out
                  have h5 := hf2 u.o.nm
                  omega
                have hlk3 : ∀ W, Below wr.heap.size wr W → (Instr.lookup 74 (.map (some mb)) (.string u.o.nm) false).run Tryz.prog W = .ok (.int .i64 ((cq : Int) + 1)) W := fun W hW => by
                  have := (hf1.of_block (hW.block mb hf1.lt)).look u.o.nm
                  rw [hcq] at this
                  exact this
                have jw : IntKind.i64.wrap ((cq : Int) + 1 - 1) = (cq : Int) := by rw [Int.add_sub_cancel]; exact IntWalk.i64_in _ (by omega)
                have jw2 : IntKind.i64.wrap (cq : Int) = (cq : Int) := IntWalk.i64_in _ (by omega)
                have HF1 := Lib.hid hf1
                have HF2 := Lib.hid hf2
                have HCQ := Lib.hid hcq
                have zb3 := t2
                clear hcq hpw3 hf1 hf2
                go_wp2_with fail
                refine wp_region_multiR [([0, 1, 2, 3, 4, 5, 6, 7, 8, 9, 10, 11, 12, 13], [14], [14])] (by kernel_rfl) (by kernel_rfl) ?_
                refine multi_phase (Below wr.heap.size wr) (Below.refl _ _).drew ?_
                iterate 14 (first | (apply first_step; (rw [List.getElem?_toArray]; (repeat rw [List.getElem?_cons_succ]); rw [List.getElem?_cons_zero]); rfl; (intro W hB; have hc := bcellB hB; go_simp; (first | done | rfl)); go_frame) | (apply first_skip; (rw [List.getElem?_toArray]; (repeat rw [List.getElem?_cons_succ]); rw [List.getElem?_cons_zero]); rfl; go_frame))
                refine first_done ?_
                obtain ⟨w4, hup, hbm, hfm, hsz⟩ := BM.upd (w := wr.drew) (cnt := f) (HF1.out.of_block rfl) u.o.nm (cq : Int) cq rfl
                apply forced_step; (rw [List.getElem?_toArray]; (repeat rw [List.getElem?_cons_succ]); rw [List.getElem?_cons_zero]); rfl; intro K hK; go_simp
                have hf3 : Fr (fun k => k = mb) wr w4 := ⟨hfm.os, hfm.tape, hfm.output, hfm.size, hfm.block⟩
                have NXT : Hid (L2P m w0 mb sub J MF w b off o l S ar told c n (j + 2) w4) := by
                  refine ⟨post_mb HH.out HS.out hLlt.out HM.out.lt hI.out.post hf3, HH.out.jL _ _ _ hI.out.j (hf3.mono (fun k _ h => by rw [h]; exact HH.out.mbL)), _, hbm, fun s => ?_⟩
                  have h1 := HF2.out s
                  rw [BO2.out, cnt_append, cnt_one]
                  by_cases hs : s = u.o.nm
                  · rw [if_pos hs, if_pos hs.symm]
                    rw [hs, HCQ.out] at h1
                    rw [hs]
                    omega
                  · rw [if_neg hs, if_neg (Ne.symm hs)]
                    exact h1
                refine hK _ _ (fun h => absurd (by decide) h) ?_
                clear hK K hup hbm hfm hsz hf3 hlk3 u0 z21 k0 k7 jw jw2 hI
                refine forced_done ?_
                refine multi_done ?_
                go_wp2_with fail
                go_roundg (n - (j + 2))
                case measure => omega
                case rel => exact ⟨j + 2, by go_num, rfl, by have := HN3.out.2; have := HJ2.out; omega, by have := HJ2.out; omega, NXT⟩
              · have e7 : (u.o.k == 7) = false := by simp [h7]
                have NXT : Hid (L2P m w0 mb sub J MF w b off o l S ar told c n (j + 2) wr) := ⟨hI.out.post, hI.out.j, by
                  obtain ⟨f, hf1, hf2⟩ := hI.out.bm
                  exact ⟨f, hf1, fun s => by rw [BO.out, if_neg h7, List.append_nil]; exact hf2 s⟩⟩
                clear h7 hI
                go_wp2_with fail
                go_roundg (n - (j + 2))
                case measure => omega
                case rel => exact ⟨j + 2, by go_num, rfl, by have := HN3.out.2; have := HJ2.out; omega, by have := HJ2.out; omega, NXT⟩
            · have END : Hid (WalkR m w0 mb sub J MF w b off (.mk o l) S ar told c (.returned (.tuple #[])) wr) := by
                obtain ⟨f, hf1, hf2⟩ := hI.out.bm
                have hjn : n = j + 1 := by omega
                have e : f = fun s => cntL s ar := by
                  funext s
                  have := hf2 s
                  rw [hjn, bnL_even hj2] at this
                  omega
                rw [e] at hf1
                exact ⟨⟨_, rfl⟩, by rw [NOE.out]; exact hI.out.post, hI.out.j, hf1⟩
              have j3 : ¬ (j : Int) < (n : Int) - 1 := by omega
              clear hI
              go_wp2_with fail
              refine bodyPost_end (results_none rfl _ _ _) rfl ?_
              exact END.out
end
end Go.Proofs.YtlcglkanlhmmdaaGreat
