/- NamesOwn: the walk. -/
import Derived.Test.YtlcglkanlhmmdaaQN17Expands
import Derived.Test.YtlcglkanlhmmdaaQN17Iter
import Derived.Test.YtlcglkanlhmmdaaQN17Spoil
namespace Go.Proofs.Ytlcglkanlhmmdaa
open Go.RowKit Go.Shelf Go.Maps
attribute [local go_sem] Oper.semAt_some
theorem end_plain {n : Nat} {P : Program} {fn : Func} {tm : Array Value} {R : Ending → World → Prop} {W : World} (v : Value) (hres : (results fn tm).run P W = .ok v W) (hR : R (.returned v) W) :
    bodyPostM Fence.wide n P fn R .ret { tmps := tm, defers := [] } W := ⟨v, hres, hR⟩
theorem exp_name (s : ByteArray) (t : T) : expT (subL [(s, t)]) (.mk { nd0 with k := 7, nm := s } []) [] false = t := by
  have h : hereP { nd0 with k := 7, nm := s } [] false = true := rfl
  rw [expT_mk, h]
  have h2 : subL [(s, t)] s = some t := by unfold subL; rw [getL, if_pos rfl]
  rw [if_pos rfl]
  show (subL [(s, t)] s).getD _ = t
  rw [h2]
  rfl
def KeyR (w2 W : World) : Prop := Below w2.heap.size w2 W
set_option maxHeartbeats 4000000 in
set_option maxRecDepth 100000 in
theorem own_law (s : ByteArray) (hs : s.size ≤ 1048576) (t : T) (htz : t.size ≤ 2097152 ∧ t.fit) (x : Value) (w : World) (hx : IsT w x t) :
    Calls Try.prog 5 #[.string s, x] w fun e w' => e = .returned (.bool true) ∧ Below w.heap.size w w' := by
  have HT := Lib.hid htz
  have HS := Lib.hid hs
  obtain ⟨ta, tc, rfl, hat⟩ := hx
  have HAT := Lib.hid hat
  clear htz hat
  rw [nagg_eq]
  refine (callsIn_wide (n := 8)).1 ?_
  refine callsIn_of_wp_marks Try.func5 rfl trivial ?_ rfl
  simp only [Try.ntmps5, List.size_toArray, List.length_cons, List.length_nil, Nat.reduceAdd, Nat.reduceSub, Array.replicate_succ, Array.replicate_zero, List.push_toArray, List.append_toArray, List.nil_append, List.cons_append]
  refine wpIn_wide.2 ?_
  go_upto_region 1 with fail
  refine abs_world ?_
  intro W0 hW0
  have b0 : Below w.heap.size w W0 := by rw [hW0]; (repeat (first | with_reducible exact Below.refl _ _ | with_reducible exact hBW | with_reducible refine Below.setCell ?_ ?_ _ | with_reducible refine Below.alloc ?_ ?_ _ | with_reducible refine belowN ?_ _ | with_reducible refine Below.drew ?_)); all_goals (first | omega | (dsimp only; omega) | ((repeat (first | with_reducible refine le_alloc ?_ | with_reducible refine le_setCell ?_ | with_reducible refine le_drew ?_ | with_reducible refine le_drewN ?_)); omega))
  have g0 : W0.heap[w.heap.size]? = some (.cells (ncells t.o (.slice ta t.l.length tc)).toArray 35) := by rw [hW0]; exact heap_alloc_new w _
  have B0 : Hid (Box w t ta tc W0) := ⟨b0, g0⟩
  clear hW0 b0 g0
  go_wp2_with fail
  refine (awake_any _).mono ?_
  rintro e w1 ⟨rfl, hb1⟩
  have B1 := Lib.hid (B0.out.below hb1)
  clear hb1 B0
  by_cases h100 : 100 < s.size
  · have e6 : decide ((100 : Int) < (s.size : Int)) = true := by simp; omega
    go_wp2_with fail
    refine (awake_any w1).mono ?_
    rintro e w9 ⟨rfl, hb9⟩
    have B9 := Lib.hid (B1.out.below hb9)
    clear hb9
    go_wp2_with fail
    refine end_plain (.bool true) ?_ ⟨rfl, B9.out.1⟩
    simp [results, Try.results5]
  have e6 : decide ((100 : Int) < (s.size : Int)) = false := by simp; omega
  have R1 := Lib.hid (range_blk B1.out.2)
  go_wp2_with (refine wpList_load_g rfl 35 (.tmp 3) rfl w.heap.size 0 rfl _ _ R1.out Try.underlying35 rfl info35 ?_)
  refine (great_any t HT.out.1 _ w1 ⟨ta, tc, rfl, HAT.out.below B1.out.1 t⟩).mono ?_
  rintro e wc ⟨rfl, hb3⟩
  have hI := Lib.hid (B1.out.below hb3)
  clear hb3 B1 R1 e6 h100
  cases htg : t.great with
  | true =>
    go_wp2_with fail
    refine (awake_any wc).mono ?_
    rintro e w9 ⟨rfl, hb9⟩
    have B9 := Lib.hid (hI.out.below hb9)
    clear hb9
    go_wp2_with fail
    refine end_plain (.bool true) ?_ ⟨rfl, B9.out.1⟩
    simp [results, Try.results5]
  | false =>
  clear htg
  go_wp2_with fail
  refine (new_any wc).mono ?_
  rintro e w1 ⟨rfl, hw1⟩
  obtain ⟨pt, hpt⟩ : ∃ pt, pt = wc.heap.size := ⟨_, rfl⟩
  have hT1 : Hid (TabK w.heap.size w1 pt none []) := by rw [hw1, hpt]; exact ⟨heap_alloc_new wc _, rfl, hI.out.1.size, fun _ h => by cases h⟩
  have B1 : Hid (Box w t ta tc w1) := by rw [hw1]; exact hI.out.below (below_alloc _ _ _ (Nat.le_refl _))
  have hpz : Hid (w.heap.size < pt) := by rw [hpt]; exact lt_of_heap hI.out.2
  rw [← hpt]
  clear hw1 hpt hI
  have R1 := Lib.hid (range_blk B1.out.2)
  go_wp2_with (refine wpList_load_g rfl 35 (.tmp 3) rfl w.heap.size 0 rfl _ _ R1.out Try.underlying35 rfl info35 ?_)
  have ST := set_any w.heap.size pt none [] s HS.out t HT.out.1 HT.out.2 _ w1 hT1.out ⟨ta, tc, rfl, HAT.out.below B1.out.1 t⟩
  refine ST.mono ?_
  rintro e w2 ⟨rfl, ⟨mo2, hT2, _⟩, hf2⟩
  have B2 : Hid (Box w t ta tc w2) := ⟨B1.out.1.trans (hf2.below B1.out.1.size (fun k hk => hk.1)), (hf2.block _ (lt_of_heap B1.out.2) (fun hk => by rcases hk.2 with h | h; (have := hpz.out; omega); cases h)).trans B1.out.2⟩
  have HT2 := Lib.hid hT2
  clear ST hT2 hf2 hT1 B1 R1
  obtain ⟨z, hz⟩ : ∃ z, setE [] s t = z := ⟨_, rfl⟩
  have HZ := Lib.hid hz
  rw [hz]
  clear hz
  by_cases hz0 : z = 0
  case neg =>
    have e0 : (z != 0) = true := by simp [hz0]
    have hL : setL [] s t = [] := by unfold setL; rw [if_neg (by rw [HZ.out]; exact hz0)]
    have T2 : Hid (Tab w2 pt []) := by have := HT2.out.tab; rw [hL] at this; exact this
    clear hz0 hL HT2
    go_wp2_with fail
    refine (get_any [] (fun p hp => by cases hp) s w2 pt T2.out).mono ?_
    rintro e w3 ⟨he, hb3⟩
    obtain rfl : e = .returned (.tuple #[nagg nd0 (.slice none 0 0), .bool false]) := by
      rcases he with ⟨_, h⟩ | ⟨u, _, _, _, hg, _⟩
      · exact h
      · cases hg
    have B3 := Lib.hid (B2.out.below hb3)
    clear he hb3 B2 T2
    go_wp2_with (refine wpList_store_nd rfl (.tmp 6) (.tmp 36) rfl w3.heap.size 0 (ncells nd0 (.slice none 0 0)) 35 (heap_alloc_new w3 _) (Nat.le_refl _) nd0 (.slice none 0 0) rfl rfl rfl ?_; intro W4 p1 p2 p3)
    have HB4 : Hid (Below w.heap.size w W4) := B3.out.1.trans (((Below.refl _ w3).alloc B3.out.1.size _).trans (p2.below (Nat.le_trans B3.out.1.size (by simp)) (fun k hk => by have := B3.out.1.size; omega)))
    refine end_plain (.bool true) ?_ ⟨rfl, HB4.out⟩
    simp [results, Try.results5]
  subst hz0
  have hL : setL [] s t = [(s, t)] := by unfold setL; rw [if_pos HZ.out]; rfl
  have T2 : Hid (Tab w2 pt [(s, t)]) := by have := HT2.out.tab; rw [hL] at this; exact this
  have HLZ : Hid (∀ p ∈ [(s, t)], p.2.size ≤ 2097152 ∧ p.1.size ≤ 1048576) := fun p hp => by rw [List.mem_singleton.1 hp]; exact ⟨HT.out.1, HS.out⟩
  have hgs : Hid (getL [(s, t)] s = some t) := by unfold Hid; rw [getL, if_pos rfl]
  clear hL HT2 HZ
  go_wp2_with fail
  refine (get_any [(s, t)] (fun p hp => (HLZ.out p hp).1) s w2 pt T2.out).mono ?_
  rintro e w3 ⟨he, hb3⟩
  rcases he with ⟨hg, _⟩ | ⟨u, a3, c3, S3, hg, rfl, hO3, hS3⟩
  · rw [hgs.out] at hg; cases hg
  rw [hgs.out] at hg
  cases hg
  have HB3 : Hid (Below w2.heap.size w2 w3) := hb3
  have HO3 := Lib.hid hO3
  have HS3 := Lib.hid hS3
  clear hb3 hO3 hS3
  go_upto_region 8 with (refine wpList_store_nd rfl (.tmp 8) (.tmp 44) rfl w3.heap.size 0 (ncells nd0 (.slice none 0 0)) 35 (heap_alloc_new w3 _) (Nat.le_refl _) t.o (.slice a3 t.l.length c3) rfl rfl rfl ?_; intro W4 p1 p2 p3)
  have p1' : W4.heap[w3.heap.size]? = some (.cells (ncells t.o (.slice a3 t.l.length c3)).toArray 35) := p1
  have R4 := Lib.hid (range_blk p1')
  have hB34 : Below w3.heap.size w3 W4 := ((Below.refl _ w3).alloc (Nat.le_refl _) _).trans (p2.below (by simp) (fun k hk => by omega))
  have HB4 : Hid (Below w2.heap.size w2 W4) := HB3.out.trans (hB34.mono HB3.out.size)
  have O4 : Hid (t.Own W4 a3 S3) := HO3.out.frame t (fun k hk hl => hB34.block k hl)
  have S4 : Hid (∀ k, S3 k → k < W4.heap.size) := fun k hk => Nat.lt_of_lt_of_le (HS3.out k hk).2 hB34.size
  clear p1 p1' p2 p3 hB34 HB3 HO3
  go_wp2_with (refine wpList_load_g rfl 35 (.tmp 8) rfl w3.heap.size 0 rfl _ _ R4.out Try.underlying35 rfl info35 ?_)
  refine (spoil_any t HT.out.1 a3 c3 S3 W4 O4.out S4.out).mono ?_
  rintro e w5 ⟨⟨v5, rfl⟩, hf5⟩
  have HB5 : Hid (Below w2.heap.size w2 w5) := HB4.out.trans (hf5.below HB4.out.size (fun k hk => (HS3.out k hk).1))
  clear hf5 HB4 O4 S4 R4 HS3
  go_wp2_with fail
  refine (all20_any pt w5).mono ?_
  rintro e w6 ⟨rfl, hw6⟩
  have g6 : Hid (w6.heap[w5.heap.size]? = some (.cells #[.pointer (some ⟨pt, 0, none⟩)] 40)) := by rw [hw6]; exact heap_alloc_new w5 _
  have HB6 : Hid (Below w2.heap.size w2 w6) := by rw [hw6]; exact HB5.out.alloc HB5.out.size _
  have T6 := Lib.hid (T2.out.below HB6.out)
  clear hw6 HB5
  go_wp2_with fail
  refine (wpIn_wide (n := 8)).1 ?_
  refine range_gb (Z := fun _ => False) (A := ?A) rfl (by omega) (gf := 34) (lb := #[.pointer (some ⟨w5.heap.size, 0, none⟩)]) rfl trivial (enters_of Try.func34 (by kernel_rfl) rfl)
    (iter_stops w5.heap.size pt [(s, t)] _ w6 (fun k hk => hk.elim) g6.out T6.out (by simp) HLZ.out) (fun _ => rfl) (fun pre x W W' h hk => h.kz pre x W W' hk)
    (fun _ W => Below w6.heap.size w6 W) (fun _ _ _ => False) ?lowI ?lowX (Below.refl _ _)
    (fun x b W => W.heap[b]? = some (Obj.cells (ncells x.t.o (.slice x.a x.t.l.length x.c)).toArray 35)) ?hP ?assign ?body ?done ?stop
  case lowI => exact fun pre A B h hb => h.trans hb
  case lowX => exact fun c pre A B h hb => h.elim
  case hP => exact fun x b W W' h hk => hk.same b _ (fun h => h) h (.inl rfl)
  case assign =>
    intro l pre x W K hG hK
    obtain ⟨bx, hbx⟩ : ∃ bx, bx = W.heap.size := ⟨_, rfl⟩
    unfold encI
    gi_wp2_with (refine wpListIn_store_nd rfl (.tmp 11) (.tmp 51) rfl W.heap.size 0 (ncells nd0 (.slice none 0 0)) 35 (heap_alloc_new W _) (Nat.le_refl _) x.t.o (.slice x.a x.t.l.length x.c) rfl rfl rfl ?_; intro W4 p1 p2 p3)
    have hb4 : Below W.heap.size W W4 := ((Below.refl _ W).alloc (Nat.le_refl _) _).trans (p2.below (by simp) (fun k hk => by omega))
    go_frame
    rw [← hbx] at p1 ⊢
    exact hK bx W4 hbx hb4 p1
  case body =>
    rintro l pre x bx W hl ⟨r, hr⟩ hI hlt hG hbx
    have RX := Lib.hid (range_blk hbx)
    have SP := Lib.hid (spoil_any x.t (by
      have h := hG.1
      have hm : x.key ∈ [(s, t)] := (sortP_perm _).mem_iff.1 (List.mem_of_getElem? h)
      have e := List.mem_singleton.1 hm
      have : x.t = t := congrArg Prod.snd e
      rw [this]
      exact HT.out.1) x.a x.c x.S W hG.2.1 (fun k hk => by
        obtain ⟨cs, ty, fz, e⟩ := (hG.2.2 k hk).2
        exact lt_of_heap e))
    have HG := Lib.hid hG
    have HI := Lib.hid hI
    clear hG hI hr hbx hlt
    gi_wp2_with (refine wpListIn_load_g rfl 35 (.tmp 11) rfl bx 0 rfl _ _ RX.out Try.underlying35 rfl info35 ?_)
    refine ⟨trivial, (CallsIn.inRound l (callsIn_wide.2 SP.out)).mono ?_⟩
    rintro e W5 ⟨⟨v, rfl⟩, hf5⟩
    have F5 := Lib.hid hf5
    clear hf5 SP RX
    gi_wp2
    exact ⟨keeps_of_fr F5.out (fun k hk => (HG.out.2.2 k hk).2), (KZ.of_fr F5.out).mono (fun k hk => .inr hk), HI.out.trans (F5.out.below HI.out.size (fun k hk => (HG.out.2.2 k hk).1))⟩
  case stop => exact fun D c pre W _ _ h => h.elim
  case done =>
    rintro D xs W hD hS hI hDD
    have HB7 : Hid (Below w2.heap.size w2 W) := HB6.out.trans (hI.mono HB6.out.size)
    have T7 := Lib.hid (T2.out.below HB7.out)
    have HD := Lib.hid hDD
    have HDl : Hid (w2.heap.size ≤ D) := Nat.le_trans HB6.out.size hD
    clear hS hI hDD hD T6 HB6 g6
    go_wp2_with (refine wpList_build2 rfl 35 0 2 (.const (.int .i64 7)) (.tmp 55) rfl (.int .i64 7) (.string s) rfl rfl _ (build_kn s) ?_)
    have EX := expand_any [(s, t)] (fun p hp => (HLZ.out p hp).1) (.mk { nd0 with k := 7, nm := s } []) (by rw [T.size_mk]; simp) (nagg { nd0 with k := 7, nm := s } (.slice none 0 0)) W pt T7.out ⟨none, 0, rfl, by rw [T.at_mk]; intro h; cases h⟩
    rw [exp_name] at EX
    refine EX.mono ?_
    rintro e w8 ⟨a8, c8, S8, rfl, hO8, hS8, hb8⟩
    have SP := Lib.hid (spoil_any t HT.out.1 a8 c8 S8 w8 hO8 (fun k hk => (hS8 k hk).2))
    have HB8 : Hid (Below w2.heap.size w2 w8) := HB7.out.trans (hb8.mono HB7.out.size)
    have HS8 : Hid (∀ k, S8 k → W.heap.size ≤ k) := fun k hk => (hS8 k hk).1
    have D8 : Hid (w8.heap[D]? = some (.deferred (some []))) := (hb8.block _ (lt_of_heap HD.out)).trans HD.out
    clear EX hO8 hS8 hb8
    go_wp2_with fail
    refine SP.out.mono ?_
    rintro e w9 ⟨⟨v9, rfl⟩, hf9⟩
    have HB9 : Hid (Below w2.heap.size w2 w9) := HB8.out.trans (hf9.below HB8.out.size (fun k hk => Nat.le_trans HB7.out.size (HS8.out k hk)))
    have D9 : Hid (w9.heap[D]? = some (.deferred (some []))) := (hf9.block _ (lt_of_heap D8.out) (fun hk => by have := HS8.out D hk; have := lt_of_heap HD.out; omega)).trans D8.out
    have T9 := Lib.hid (T2.out.below HB9.out)
    clear hf9 SP HB8 D8 HS8 HB7 T7 HD
    go_wp2_with fail
    refine (get_any [(s, t)] (fun p hp => (HLZ.out p hp).1) s w9 pt T9.out).mono ?_
    rintro e w10 ⟨he, hb10⟩
    rcases he with ⟨hg, _⟩ | ⟨u, a10, c10, S10, hg, rfl, hO10, _⟩
    · rw [hgs.out] at hg; cases hg
    rw [hgs.out] at hg
    cases hg
    have I10 : Hid (IsT w10 (nagg t.o (.slice a10 t.l.length c10)) t) := ⟨a10, c10, rfl, hO10.at⟩
    have HB10 : Hid (Below w2.heap.size w2 w10) := HB9.out.trans (hb10.mono HB9.out.size)
    have D10 : Hid (w10.heap[D]? = some (.deferred (some []))) := (hb10.block _ (lt_of_heap D9.out)).trans D9.out
    clear hb10 hO10 HB9 D9 T9
    go_upto_region 14 with (refine wpList_store_nd rfl (.tmp 12) (.tmp 63) rfl w10.heap.size 0 (ncells nd0 (.slice none 0 0)) 35 (heap_alloc_new w10 _) (Nat.le_refl _) t.o (.slice a10 t.l.length c10) rfl rfl rfl ?_; intro W11 p1 p2 p3)
    have p1' : W11.heap[w10.heap.size]? = some (.cells (ncells t.o (.slice a10 t.l.length c10)).toArray 35) := p1
    have R11 := Lib.hid (range_blk p1')
    have hb11 : Below w10.heap.size w10 W11 := ((Below.refl _ w10).alloc (Nat.le_refl _) _).trans (p2.below (by simp) (fun k hk => by omega))
    have I11 := Lib.hid (I10.out.below hb11)
    have B11 : Hid (Box w t ta tc W11) := B2.out.below (HB10.out.trans (hb11.mono HB10.out.size))
    have D11 : Hid (W11.heap[D]? = some (.deferred (some []))) := (hb11.block _ (lt_of_heap D10.out)).trans D10.out
    have Q11 := Lib.hid (range_blk B11.out.2)
    clear p1 p1' p2 p3 hb11 I10 HB10 D10
    go_wp2_with (first | (refine wpList_load_g rfl 35 (.tmp 12) rfl w10.heap.size 0 rfl _ _ R11.out Try.underlying35 rfl info35 ?_) | (refine wpList_load_g rfl 35 (.tmp 3) rfl w.heap.size 0 rfl _ _ Q11.out Try.underlying35 rfl info35 ?_))
    have SM := same_any t (by have := HT.out.1; omega) t (nagg t.o (.slice a10 t.l.length c10)) (nagg t.o (.slice ta t.l.length tc)) W11 I11.out ⟨ta, tc, rfl, HAT.out.below B11.out.1 t⟩
    rw [(T.same_iff _ _).2 rfl] at SM
    refine SM.mono ?_
    rintro e w12 ⟨rfl, hb12⟩
    have B12 := Lib.hid (B11.out.below hb12)
    have D12 : Hid (w12.heap[D]? = some (.deferred (some []))) := (hb12.block _ (lt_of_heap D11.out)).trans D11.out
    clear SM hb12 B11 D11 R11 Q11 I11
    go_wp2_with fail
    refine end_ret D12.out (.bool true) ?_ ⟨rfl, below_put B12.out.1 (Nat.le_refl _) _ (Nat.le_trans B2.out.1.size HDl.out)⟩
    simp [results, Try.results5]
end Go.Proofs.Ytlcglkanlhmmdaa
