/- num.round. -/
import Derived.Test.YtndhmahkglfopaaGreatDoorQT13NumA
namespace Go.Proofs.YtndhmahkglfopaaGreatDoor
open Go.RowKit
def valD (D : List Nat) : Nat := D.foldl (fun a d => a * 10 + d) 0
theorem valD_snoc (D : List Nat) (d : Nat) : valD (D ++ [d]) = valD D * 10 + d := by simp [valD]
theorem valD_take {D : List Nat} {k d : Nat} (h : D[k]? = some d) : valD (D.take (k + 1)) = valD (D.take k) * 10 + d := by
  rw [List.take_add_one, h]
  exact valD_snoc _ _
theorem valD_bd {D : List Nat} (hs : ∀ d ∈ D, d < 256) : ∀ k, k ≤ D.length → valD (D.take k) + 29 ≤ 29 * 10 ^ k
  | 0, _ => by simp [valD]
  | k + 1, h => by
    have ih := valD_bd hs k (by omega)
    have hd : D[k]? = some D[k] := List.getElem?_eq_getElem (by omega)
    have := hs D[k] (List.getElem_mem _)
    rw [valD_take hd, Nat.pow_succ]
    omega
theorem incAt_len : ∀ (i : Nat) (h : List Nat), (incAt i h).1.length = h.length
  | 0, h => rfl
  | i + 1, h => by
    unfold incAt
    split
    · simp
    · rw [incAt_len]; simp
theorem cutP_len {D : List Nat} {n : Nat} (hn : n ≤ D.length) : (cutP D n).length ≤ n + 1 := by
  unfold cutP
  have h1 : (D.take n).length = n := by rw [List.length_take, Nat.min_eq_left hn]
  (repeat' split)
  · simp
  · simp [incAt_len]; omega
  · rw [incAt_len]; omega
  · omega
def finP (neg : Bool) (D : List Nat) (e : Int) : (Int × Int) × Bool :=
  if numR (trimM neg (valD D)) (trimX (valD D) e) then ((trimM neg (valD D), trimX (valD D) e), true) else ((0, 0), false)
def stg2 (neg : Bool) (D : List Nat) (e : Int) : (Int × Int) × Bool :=
  if e < -40 then (if (D.length : Int) < -40 - e then ((0, 0), true) else finP neg (cutP D (D.length - (-40 - e).toNat)) (-40)) else finP neg D e
def stg1 (neg : Bool) (D : List Nat) (e : Int) : (Int × Int) × Bool :=
  if 15 < D.length then stg2 neg (cutP D 15) (e + ((D.length : Int) - 15)) else stg2 neg D e
def roundP (neg : Bool) (D : List Nat) (e : Int) : (Int × Int) × Bool :=
  if (bareP D).length = 0 then ((0, 0), true) else if 40 ≤ e then ((0, 0), false) else stg1 neg (bareP D) e
def NumV (R : (Int × Int) × Bool) : Value := .tuple #[.agg #[.int .i64 R.1.1, .int .i64 R.1.2], .bool R.2]
def RoundPost (w : World) (b : Nat) (R : (Int × Int) × Bool) (e : Ending) (w' : World) : Prop := e = .returned (NumV R) ∧ Fr (fun k => k = b) w w'
theorem bareP_len : ∀ D : List Nat, (bareP D).length ≤ D.length
  | [] => Nat.le_refl _
  | d :: r => by
    unfold bareP
    split
    · have := bareP_len r; simp; omega
    · exact Nat.le_refl _
theorem ret_numv {m x : Int} {k : Bool} {R : (Int × Int) × Bool} (h : R = ((m, x), k)) : Ending.returned (.tuple #[.agg #[.int .i64 m, .int .i64 x], .bool k]) = .returned (NumV R) := by rw [h]; rfl
theorem trimM_i64 (neg : Bool) {n : Nat} (h : n < 1000000000000000000) : I64 (trimM neg n) := by
  have := trimW_le n n (Nat.le_refl _)
  unfold I64 trimM
  split <;> omega
theorem Fr.tail {S : Nat → Prop} {a b c : World} (h : Fr S a b) (k : Below a.heap.size b c) : Fr S a c := ⟨k.os.trans h.os, k.tape.trans h.tape, k.output.trans h.output, Nat.le_trans h.size k.size, fun i hi hn => (k.block i hi).trans (h.block i hi hn)⟩
section
variable {B : Nat} {b off cap : Nat} {D : List Nat} (neg : Bool) (e : Int) (w : World)
set_option maxHeartbeats 1000000
set_option maxRecDepth 100000
theorem round_0 (hD : DgS B w b off cap D) (hq : (bareP D).length = 0) : Calls Tryz.prog 58 #[.bool neg, .slice (some ⟨b, off, none⟩) D.length cap, .int .i64 e] w (RoundPost w b ((0, 0), true)) := by
  have HD := Lib.hid (hD.below (below_alloc w (.cells #[.int .i64 0, .int .i64 0] 32) _ (Nat.le_refl _)))
  clear hD
  go_enter Tryz.func58, Tryz.ntmps58
  go_wp2_with fail
  refine (bare_any _ HD.out).mono ?_
  rintro e w2 ⟨⟨o2, c3, rfl, hd2⟩, rfl⟩
  clear hd2
  rw [hq]
  go_wp2_with fail
  refine bodyPost_ret (v := .tuple #[.agg #[.int .i64 0, .int .i64 0], .bool true]) (by simp [results, Tryz.results58, go_sem]) rfl ⟨rfl, ?_⟩
  exact .of_below (by (repeat with_reducible (first | exact bw0 _ _ | exact hBW | refine bw1 ?_ ?_ _ | refine bw2 ?_ ?_ _ | refine bw3 ?_ _ | refine bw4 ?_)); all_goals (first | omega | (dsimp only; omega) | ((repeat with_reducible (first | refine lz1 ?_ | refine lz2 ?_ | refine lz3 ?_ | refine lz4 ?_)); omega)))
theorem round_40 (hD : DgS B w b off cap D) (hq : 0 < (bareP D).length) (he : 40 ≤ e) : Calls Tryz.prog 58 #[.bool neg, .slice (some ⟨b, off, none⟩) D.length cap, .int .i64 e] w (RoundPost w b ((0, 0), false)) := by
  have HD := Lib.hid (hD.below (below_alloc w (.cells #[.int .i64 0, .int .i64 0] 32) _ (Nat.le_refl _)))
  clear hD
  go_enter Tryz.func58, Tryz.ntmps58
  go_wp2_with fail
  refine (bare_any _ HD.out).mono ?_
  rintro e w2 ⟨⟨o2, c3, rfl, hd2⟩, rfl⟩
  clear hd2
  generalize (bareP D).length = q at hq ⊢
  have q0 : ((q : Int) == 0) = false := by simp; omega
  go_wp2_with fail
  refine bodyPost_ret (v := .tuple #[.agg #[.int .i64 0, .int .i64 0], .bool false]) (by simp [results, Tryz.results58, go_sem]) rfl ⟨rfl, ?_⟩
  exact .of_below (by (repeat with_reducible (first | exact bw0 _ _ | exact hBW | refine bw1 ?_ ?_ _ | refine bw2 ?_ ?_ _ | refine bw3 ?_ _ | refine bw4 ?_)); all_goals (first | omega | (dsimp only; omega) | ((repeat with_reducible (first | refine lz1 ?_ | refine lz2 ?_ | refine lz3 ?_ | refine lz4 ?_)); omega)))
theorem round_a (hD : DgS B w b off cap D) (hq : 0 < (bareP D).length) (he : e < 40) (h15 : (bareP D).length ≤ 15) (he2 : -40 ≤ e) (R : (Int × Int) × Bool) (hR : R = finP neg (bareP D) e) : Calls Tryz.prog 58 #[.bool neg, .slice (some ⟨b, off, none⟩) D.length cap, .int .i64 e] w (RoundPost w b R) := by
  have HD := Lib.hid (hD.below (below_alloc w (.cells #[.int .i64 0, .int .i64 0] 32) _ (Nat.le_refl _)))
  have ER := Lib.hid hR
  clear hD hR
  go_enter Tryz.func58, Tryz.ntmps58
  go_wp2_with fail
  refine (bare_any _ HD.out).mono ?_
  rintro e w2 ⟨⟨o2, c3, rfl, hd2⟩, rfl⟩
  have HDN := Lib.hid hd2
  clear hd2 HD
  generalize bareP D = D1 at hq h15 HDN ER ⊢
  have q0 : ((D1.length : Int) == 0) = false := by simp; intro h; rw [h] at hq; simp at hq
  have wl : IntKind.i64.wrap ((D1.length : Int) - 15) = (D1.length : Int) - 15 := IntWalk.i64_in _ (by omega)
  have HF : Hid (Fr (fun k => k = b) w (w.alloc (.cells #[.int .i64 0, .int .i64 0] 32))) := .of_below (below_alloc w _ _ (Nat.le_refl _))
  have HP : Hid ((w.alloc (.cells #[.int .i64 0, .int .i64 0] 32)).heap[w.heap.size]? = some (.cells #[.int .i64 0, .int .i64 0] 32)) := heap_alloc_new w _
  go_wp2_with fail
  clear q0 wl
  have hsm := HDN.out.small
  go_loop [10, 50] (fun v i => ∃ k : Nat, v = .int .u64 (valD ((D1).take k) : Nat) ∧ i = .int .i64 k ∧ k ≤ (D1).length) (fun _ i => (D1).length - (intOf i).toNat)
  case atStart => exact ⟨0, rfl, rfl, Nat.zero_le _⟩
  case round =>
    obtain ⟨k, rfl, rfl, hk⟩ := hrel
    have hb := valD_bd hsm k hk
    have hb16 : 29 * 10 ^ k ≤ 290000000000000000 := by
      have := Nat.pow_le_pow_right (n := 10) (by omega) (show k ≤ 16 by omega)
      omega
    by_cases hlt : k < (D1).length
    · obtain ⟨d, hd⟩ : ∃ d, (D1)[k]? = some d := ⟨_, List.getElem?_eq_getElem hlt⟩
      have hc := HDN.out.cell hd
      have hd256 := hsm d (List.mem_of_getElem? hd)
      have VS := Lib.hid (valD_take hd)
      generalize valD ((D1).take k) = V at hb VS ⊢
      have wq : IntKind.u64.wrap ((V : Int) * 10) = (V : Int) * 10 := IntWalk.u64_in _ (by omega)
      have wd : IntKind.u64.wrap (d : Int) = (d : Int) := IntWalk.u64_in _ (by omega)
      have wq2 : IntKind.u64.wrap ((V : Int) * 10 + d) = (V : Int) * 10 + d := IntWalk.u64_in _ (by omega)
      clear hd hsm hb hb16
      go_wp2_with fail
      go_round
      case rel => exact ⟨k + 1, by rw [VS.out]; simp, by go_num, by omega⟩
      case measure => simp [intOf]; omega
    · have ek : k = (D1).length := by omega
      have EV : Hid (valD ((D1).take k) = valD (D1)) := by unfold Hid; rw [ek, List.take_length]
      have hV : valD (D1) < 1000000000000000000 := by rw [← EV.out]; omega
      rw [EV.out]
      clear hb hb16 hsm ek EV hk
      have HI := Lib.hid (trimM_i64 neg hV)
      have HT := Lib.hid (fun w => trimmed_any neg (valD (D1)) hV e (by omega) (by omega) w)
      obtain ⟨m, hm⟩ : ∃ m, m = trimM neg (valD (D1)) := ⟨_, rfl⟩
      obtain ⟨x, hx⟩ : ∃ x, x = trimX (valD (D1)) e := ⟨_, rfl⟩
      have ER : Hid (R = if numR m x then ((m, x), true) else ((0, 0), false)) := by unfold Hid; rw [ER.out, hm, hx]; rfl
      rw [← hm] at HI
      rw [← hm, ← hx] at HT
      have HN := Lib.hid (num_all m x HI.out)
      clear hm hx HI hV
      generalize numR m x = nr at HN ER
      go_wp2_with fail
      refine (HT.out _).mono ?_
      rintro e' w3 ⟨rfl, hb3⟩
      have HF3 : Hid (Fr (fun k => k = b) w w3) := HF.out.trans (.of_below hb3) (fun _ _ h => h)
      have hp3 := (hb3.block _ (lt_of_heap HP.out)).trans HP.out
      have x0 := cell_of_heap hp3
      have y0 := frozen_of_heap hp3
      have z0 := lt_of_heap hp3
      have HP3 := Lib.hid hp3
      clear hb3 hp3 HF HP
      go_wp2_with fail
      refine (HN.out _).mono ?_
      rintro e' w4 ⟨rfl, hb4⟩
      have z3 := hb4.size
      have g1 : w4.heap[w3.heap.size]? = some (.cells #[.int .i64 m, .int .i64 x] 32) := (hb4.block _ (by simp)).trans (by (repeat (first | (with_reducible refine bw5 ?_ _; (first | rfl | (simp; done) | omega | (simp; omega)); done) | with_reducible refine bw6 ?_ _ | with_reducible refine bw7 ?_ | with_reducible refine bw8 ?_)))
      have hp4 : w4.heap[w.heap.size]? = some (.cells #[.int .i64 0, .int .i64 0] 32) := (hb4.block _ (by simp; omega)).trans (by first | exact heap_alloc_old HP3.out _ | (rw [Below.heap_setCell _ _ _ _ (by simp; omega)]; exact heap_alloc_old HP3.out _))
      have HF4 : Hid (Fr (fun k => k = b) w w4) := by
        refine (HF3.out.trans (.of_below ?_) (fun _ _ h => h)).trans (.of_below hb4) (fun _ _ h => h)
        (repeat with_reducible (first | exact bw0 _ _ | exact hBW | refine bw1 ?_ ?_ _ | refine bw2 ?_ ?_ _ | refine bw3 ?_ _ | refine bw4 ?_)); all_goals (first | omega | (dsimp only; omega) | ((repeat with_reducible (first | refine lz1 ?_ | refine lz2 ?_ | refine lz3 ?_ | refine lz4 ?_)); omega))
      clear x0 y0 z0
      have x0 := cell_of_heap hp4
      have y0 := frozen_of_heap hp4
      have z0 := lt_of_heap hp4
      have j0 := cell_of_heap g1 0
      have j1 := cell_of_heap g1 1
      have z1 := lt_of_heap g1
      clear hb4 g1 hp4 HF3 HP3
      cases nr with
      | true =>
        have ER : Hid (R = ((m, x), true)) := ER.out
        go_wp2_with fail
        refine bodyPost_ret (v := .tuple #[.agg #[.int .i64 m, .int .i64 x], .bool true]) (by simp [results, Tryz.results58, go_sem, x0]) rfl ⟨ret_numv ER.out, ?_⟩
        exact HF4.out.tail (by (repeat with_reducible (first | exact bw0 _ _ | exact hBW | refine bw1 ?_ ?_ _ | refine bw2 ?_ ?_ _ | refine bw3 ?_ _ | refine bw4 ?_)); all_goals (first | omega | (dsimp only; omega) | ((repeat with_reducible (first | refine lz1 ?_ | refine lz2 ?_ | refine lz3 ?_ | refine lz4 ?_)); omega)))
      | false =>
        have ER : Hid (R = ((0, 0), false)) := ER.out
        go_wp2_with fail
        refine bodyPost_ret (v := .tuple #[.agg #[.int .i64 0, .int .i64 0], .bool false]) (by simp [results, Tryz.results58, go_sem, x0]) rfl ⟨ret_numv ER.out, ?_⟩
        exact HF4.out.tail (by (repeat with_reducible (first | exact bw0 _ _ | exact hBW | refine bw1 ?_ ?_ _ | refine bw2 ?_ ?_ _ | refine bw3 ?_ _ | refine bw4 ?_)); all_goals (first | omega | (dsimp only; omega) | ((repeat with_reducible (first | refine lz1 ?_ | refine lz2 ?_ | refine lz3 ?_ | refine lz4 ?_)); omega)))
/- the first cut: D1's first 15 digits; their exponent is E -/
/- the second cut: of list $1 (exponent $2, below -40), so that the exponent is -40 -/
theorem round_b (hb : b < w.heap.size) (hB : B ≤ w.heap.size) (hD : DgS B w b off cap D) (hq : 0 < (bareP D).length) (he : e < 40) (h15 : 15 < (bareP D).length) (hl : (bareP D).length ≤ 100000) (hel : -2000000 ≤ e) (he2 : -40 ≤ e + (((bareP D).length : Int) - 15)) (R : (Int × Int) × Bool) (hR : R = finP neg (cutP (bareP D) 15) (e + (((bareP D).length : Int) - 15))) : Calls Tryz.prog 58 #[.bool neg, .slice (some ⟨b, off, none⟩) D.length cap, .int .i64 e] w (RoundPost w b R) := by
  have HD := Lib.hid (hD.below (below_alloc w (.cells #[.int .i64 0, .int .i64 0] 32) _ (Nat.le_refl _)))
  have ER := Lib.hid hR
  have HB := Lib.hid hB
  clear hD hR hB
  go_enter Tryz.func58, Tryz.ntmps58
  go_wp2_with fail
  refine (bare_any _ HD.out).mono ?_
  rintro e w2 ⟨⟨o2, c3, rfl, hd2⟩, rfl⟩
  have HDN := Lib.hid hd2
  have hbl := HD.out.lt
  clear hd2 HD
  generalize bareP D = D1 at hq h15 HDN ER hl he2 ⊢
  have HL := Lib.hid hl
  have HE := Lib.hid he2
  have q0 : ((D1.length : Int) == 0) = false := by simp; intro h; rw [h] at hq; simp at hq
  have wl : IntKind.i64.wrap ((D1.length : Int) - 15) = (D1.length : Int) - 15 := IntWalk.i64_in _ (by omega)
  have HF : Hid (Fr (fun k => k = b) w (w.alloc (.cells #[.int .i64 0, .int .i64 0] 32))) := .of_below (below_alloc w _ _ (Nat.le_refl _))
  have HP : Hid ((w.alloc (.cells #[.int .i64 0, .int .i64 0] 32)).heap[w.heap.size]? = some (.cells #[.int .i64 0, .int .i64 0] 32)) := heap_alloc_new w _
  clear hl he2
  go_wp2_with fail
  clear q0 wl
  have hbp : w.heap.size ≠ b := by
    have := hb
    omega
  refine (cut_any 15 _ (by have := HB.out; simp; omega) HDN.out h15 (by omega)).mono ?_
  rintro e' w5 ⟨b5, o5, c5, rfl, hd5, hf5, hb5⟩
  have HDN2 := Lib.hid hd5
  have HF2 : Hid (Fr (fun k => k = b) w w5) := HF.out.trans hf5 (fun _ _ h => h)
  have HP2 : Hid (w5.heap[w.heap.size]? = some (.cells #[.int .i64 0, .int .i64 0] 32)) := (hf5.block _ (by simp) hbp).trans HP.out
  have hb5' : Hid (b5 = b ∨ w.heap.size + 1 ≤ b5) := by unfold Hid; simpa using hb5
  have hl5 := cutP_len (D := D1) (n := 15) (by omega)
  obtain ⟨E, hE⟩ : ∃ E, E = e + ((D1.length : Int) - 15) := ⟨_, rfl⟩
  have we1 : IntKind.i64.wrap (e + ((D1.length : Int) - 15)) = E := by rw [hE]; exact IntWalk.i64_in _ (by have := HL.out; omega)
  have hE1 : -3000000 ≤ E := by have := HL.out; omega
  have hE2 : E ≤ 1000000 := by have := HL.out; omega
  rw [← hE] at ER HE
  clear hd5 hf5 HDN HF HP hb5 hE
  have HDN := HDN2
  have HF := HF2
  have HP := HP2
  clear HDN2 HF2 HP2
  generalize cutP D1 15 = D2 at hl5 HDN ER HE ⊢
  have hE3 := HE.out
  go_wp2_with fail
  clear we1
  have hsm := HDN.out.small
  go_loop [10, 50] (fun v i => ∃ k : Nat, v = .int .u64 (valD ((D2).take k) : Nat) ∧ i = .int .i64 k ∧ k ≤ (D2).length) (fun _ i => (D2).length - (intOf i).toNat)
  case atStart => exact ⟨0, rfl, rfl, Nat.zero_le _⟩
  case round =>
    obtain ⟨k, rfl, rfl, hk⟩ := hrel
    have hb := valD_bd hsm k hk
    have hb16 : 29 * 10 ^ k ≤ 290000000000000000 := by
      have := Nat.pow_le_pow_right (n := 10) (by omega) (show k ≤ 16 by omega)
      omega
    by_cases hlt : k < (D2).length
    · obtain ⟨d, hd⟩ : ∃ d, (D2)[k]? = some d := ⟨_, List.getElem?_eq_getElem hlt⟩
      have hc := HDN.out.cell hd
      have hd256 := hsm d (List.mem_of_getElem? hd)
      have VS := Lib.hid (valD_take hd)
      generalize valD ((D2).take k) = V at hb VS ⊢
      have wq : IntKind.u64.wrap ((V : Int) * 10) = (V : Int) * 10 := IntWalk.u64_in _ (by omega)
      have wd : IntKind.u64.wrap (d : Int) = (d : Int) := IntWalk.u64_in _ (by omega)
      have wq2 : IntKind.u64.wrap ((V : Int) * 10 + d) = (V : Int) * 10 + d := IntWalk.u64_in _ (by omega)
      clear hd hsm hb hb16
      go_wp2_with fail
      go_round
      case rel => exact ⟨k + 1, by rw [VS.out]; simp, by go_num, by omega⟩
      case measure => simp [intOf]; omega
    · have ek : k = (D2).length := by omega
      have EV : Hid (valD ((D2).take k) = valD (D2)) := by unfold Hid; rw [ek, List.take_length]
      have hV : valD (D2) < 1000000000000000000 := by rw [← EV.out]; omega
      rw [EV.out]
      clear hb hb16 hsm ek EV hk
      have HI := Lib.hid (trimM_i64 neg hV)
      have HT := Lib.hid (fun w => trimmed_any neg (valD (D2)) hV E (by omega) (by omega) w)
      obtain ⟨m, hm⟩ : ∃ m, m = trimM neg (valD (D2)) := ⟨_, rfl⟩
      obtain ⟨x, hx⟩ : ∃ x, x = trimX (valD (D2)) E := ⟨_, rfl⟩
      have ER : Hid (R = if numR m x then ((m, x), true) else ((0, 0), false)) := by unfold Hid; rw [ER.out, hm, hx]; rfl
      rw [← hm] at HI
      rw [← hm, ← hx] at HT
      have HN := Lib.hid (num_all m x HI.out)
      clear hm hx HI hV
      generalize numR m x = nr at HN ER
      go_wp2_with fail
      refine (HT.out _).mono ?_
      rintro e' w3 ⟨rfl, hb3⟩
      have HF3 : Hid (Fr (fun k => k = b) w w3) := HF.out.trans (.of_below hb3) (fun _ _ h => h)
      have hp3 := (hb3.block _ (lt_of_heap HP.out)).trans HP.out
      have x0 := cell_of_heap hp3
      have y0 := frozen_of_heap hp3
      have z0 := lt_of_heap hp3
      have HP3 := Lib.hid hp3
      clear hb3 hp3 HF HP
      go_wp2_with fail
      refine (HN.out _).mono ?_
      rintro e' w4 ⟨rfl, hb4⟩
      have z3 := hb4.size
      have g1 : w4.heap[w3.heap.size]? = some (.cells #[.int .i64 m, .int .i64 x] 32) := (hb4.block _ (by simp)).trans (by (repeat (first | (with_reducible refine bw5 ?_ _; (first | rfl | (simp; done) | omega | (simp; omega)); done) | with_reducible refine bw6 ?_ _ | with_reducible refine bw7 ?_ | with_reducible refine bw8 ?_)))
      have hp4 : w4.heap[w.heap.size]? = some (.cells #[.int .i64 0, .int .i64 0] 32) := (hb4.block _ (by simp; omega)).trans (by first | exact heap_alloc_old HP3.out _ | (rw [Below.heap_setCell _ _ _ _ (by simp; omega)]; exact heap_alloc_old HP3.out _))
      have HF4 : Hid (Fr (fun k => k = b) w w4) := by
        refine (HF3.out.trans (.of_below ?_) (fun _ _ h => h)).trans (.of_below hb4) (fun _ _ h => h)
        (repeat with_reducible (first | exact bw0 _ _ | exact hBW | refine bw1 ?_ ?_ _ | refine bw2 ?_ ?_ _ | refine bw3 ?_ _ | refine bw4 ?_)); all_goals (first | omega | (dsimp only; omega) | ((repeat with_reducible (first | refine lz1 ?_ | refine lz2 ?_ | refine lz3 ?_ | refine lz4 ?_)); omega))
      clear x0 y0 z0
      have x0 := cell_of_heap hp4
      have y0 := frozen_of_heap hp4
      have z0 := lt_of_heap hp4
      have j0 := cell_of_heap g1 0
      have j1 := cell_of_heap g1 1
      have z1 := lt_of_heap g1
      clear hb4 g1 hp4 HF3 HP3
      cases nr with
      | true =>
        have ER : Hid (R = ((m, x), true)) := ER.out
        go_wp2_with fail
        refine bodyPost_ret (v := .tuple #[.agg #[.int .i64 m, .int .i64 x], .bool true]) (by simp [results, Tryz.results58, go_sem, x0]) rfl ⟨ret_numv ER.out, ?_⟩
        exact HF4.out.tail (by (repeat with_reducible (first | exact bw0 _ _ | exact hBW | refine bw1 ?_ ?_ _ | refine bw2 ?_ ?_ _ | refine bw3 ?_ _ | refine bw4 ?_)); all_goals (first | omega | (dsimp only; omega) | ((repeat with_reducible (first | refine lz1 ?_ | refine lz2 ?_ | refine lz3 ?_ | refine lz4 ?_)); omega)))
      | false =>
        have ER : Hid (R = ((0, 0), false)) := ER.out
        go_wp2_with fail
        refine bodyPost_ret (v := .tuple #[.agg #[.int .i64 0, .int .i64 0], .bool false]) (by simp [results, Tryz.results58, go_sem, x0]) rfl ⟨ret_numv ER.out, ?_⟩
        exact HF4.out.tail (by (repeat with_reducible (first | exact bw0 _ _ | exact hBW | refine bw1 ?_ ?_ _ | refine bw2 ?_ ?_ _ | refine bw3 ?_ _ | refine bw4 ?_)); all_goals (first | omega | (dsimp only; omega) | ((repeat with_reducible (first | refine lz1 ?_ | refine lz2 ?_ | refine lz3 ?_ | refine lz4 ?_)); omega)))
theorem round_c (hb : b < w.heap.size) (hB : B ≤ w.heap.size) (hD : DgS B w b off cap D) (hq : 0 < (bareP D).length) (h15 : (bareP D).length ≤ 15) (hl : (bareP D).length ≤ 100000) (he3 : e < -40) (he2 : -40 - e ≤ ((bareP D).length : Int)) (R : (Int × Int) × Bool) (hR : R = finP neg (cutP (bareP D) ((bareP D).length - (-40 - e).toNat)) (-40)) : Calls Tryz.prog 58 #[.bool neg, .slice (some ⟨b, off, none⟩) D.length cap, .int .i64 e] w (RoundPost w b R) := by
  have HD := Lib.hid (hD.below (below_alloc w (.cells #[.int .i64 0, .int .i64 0] 32) _ (Nat.le_refl _)))
  have ER := Lib.hid hR
  have HB := Lib.hid hB
  clear hD hR hB
  go_enter Tryz.func58, Tryz.ntmps58
  go_wp2_with fail
  refine (bare_any _ HD.out).mono ?_
  rintro e w2 ⟨⟨o2, c3, rfl, hd2⟩, rfl⟩
  have HDN := Lib.hid hd2
  have hbl := HD.out.lt
  clear hd2 HD
  generalize bareP D = D1 at hq h15 HDN ER hl he2 ⊢
  have HL := Lib.hid hl
  have HE := Lib.hid he2
  have q0 : ((D1.length : Int) == 0) = false := by simp; intro h; rw [h] at hq; simp at hq
  have wl : IntKind.i64.wrap ((D1.length : Int) - 15) = (D1.length : Int) - 15 := IntWalk.i64_in _ (by omega)
  have HF : Hid (Fr (fun k => k = b) w (w.alloc (.cells #[.int .i64 0, .int .i64 0] 32))) := .of_below (below_alloc w _ _ (Nat.le_refl _))
  have HP : Hid ((w.alloc (.cells #[.int .i64 0, .int .i64 0] 32)).heap[w.heap.size]? = some (.cells #[.int .i64 0, .int .i64 0] 32)) := heap_alloc_new w _
  clear hl he2
  obtain ⟨n2, hn2⟩ : ∃ n2 : Nat, n2 = (D1).length - (-40 - e).toNat := ⟨_, rfl⟩
  rw [← hn2] at ER
  have hdr := HE.out
  have hn3 : (n2 : Int) = ((D1).length : Int) - (-40 - e) := by omega
  have we2 : IntKind.i64.wrap (-40 - e) = -40 - e := IntWalk.i64_in _ (by omega)
  have wc1 : IntKind.i64.wrap (((D1).length : Int) - (-40 - e)) = (n2 : Int) := by rw [← hn3]; exact IntWalk.i64_in _ (by omega)
  have hlt2 : n2 < (D1).length := by omega
  clear hn2 hn3
  go_wp2_with fail
  refine (cut_any n2 _ (by have := HB.out; simp; omega) HDN.out hlt2 (by omega)).mono ?_
  rintro e' w6 ⟨b6, o6, c6, rfl, hd6, hf6, hb6⟩
  have HDN2 := Lib.hid hd6
  have HF2 : Hid (Fr (fun k => k = b) w w6) := HF.out.trans hf6 (fun _ _ h => h)
  have HP2 : Hid (w6.heap[w.heap.size]? = some (.cells #[.int .i64 0, .int .i64 0] 32)) := (hf6.block _ (lt_of_heap HP.out) (by omega)).trans HP.out
  have hl6 := cutP_len (D := D1) (n := n2) (by omega)
  have hl6 : (cutP (D1) n2).length ≤ 16 := by omega
  clear hd6 hf6 HDN HF HP hb6 hlt2 wc1 we2 q0 wl
  have HDN := HDN2
  have HF := HF2
  have HP := HP2
  clear HDN2 HF2 HP2
  generalize cutP (D1) n2 = D3 at hl6 HDN ER ⊢
  go_wp2_with fail
  have hsm := HDN.out.small
  go_loop [10, 50] (fun v i => ∃ k : Nat, v = .int .u64 (valD ((D3).take k) : Nat) ∧ i = .int .i64 k ∧ k ≤ (D3).length) (fun _ i => (D3).length - (intOf i).toNat)
  case atStart => exact ⟨0, rfl, rfl, Nat.zero_le _⟩
  case round =>
    obtain ⟨k, rfl, rfl, hk⟩ := hrel
    have hb := valD_bd hsm k hk
    have hb16 : 29 * 10 ^ k ≤ 290000000000000000 := by
      have := Nat.pow_le_pow_right (n := 10) (by omega) (show k ≤ 16 by omega)
      omega
    by_cases hlt : k < (D3).length
    · obtain ⟨d, hd⟩ : ∃ d, (D3)[k]? = some d := ⟨_, List.getElem?_eq_getElem hlt⟩
      have hc := HDN.out.cell hd
      have hd256 := hsm d (List.mem_of_getElem? hd)
      have VS := Lib.hid (valD_take hd)
      generalize valD ((D3).take k) = V at hb VS ⊢
      have wq : IntKind.u64.wrap ((V : Int) * 10) = (V : Int) * 10 := IntWalk.u64_in _ (by omega)
      have wd : IntKind.u64.wrap (d : Int) = (d : Int) := IntWalk.u64_in _ (by omega)
      have wq2 : IntKind.u64.wrap ((V : Int) * 10 + d) = (V : Int) * 10 + d := IntWalk.u64_in _ (by omega)
      clear hd hsm hb hb16
      go_wp2_with fail
      go_round
      case rel => exact ⟨k + 1, by rw [VS.out]; simp, by go_num, by omega⟩
      case measure => simp [intOf]; omega
    · have ek : k = (D3).length := by omega
      have EV : Hid (valD ((D3).take k) = valD (D3)) := by unfold Hid; rw [ek, List.take_length]
      have hV : valD (D3) < 1000000000000000000 := by rw [← EV.out]; omega
      rw [EV.out]
      clear hb hb16 hsm ek EV hk
      have HI := Lib.hid (trimM_i64 neg hV)
      have HT := Lib.hid (fun w => trimmed_any neg (valD (D3)) hV (-40) (by omega) (by omega) w)
      obtain ⟨m, hm⟩ : ∃ m, m = trimM neg (valD (D3)) := ⟨_, rfl⟩
      obtain ⟨x, hx⟩ : ∃ x, x = trimX (valD (D3)) (-40) := ⟨_, rfl⟩
      have ER : Hid (R = if numR m x then ((m, x), true) else ((0, 0), false)) := by unfold Hid; rw [ER.out, hm, hx]; rfl
      rw [← hm] at HI
      rw [← hm, ← hx] at HT
      have HN := Lib.hid (num_all m x HI.out)
      clear hm hx HI hV
      generalize numR m x = nr at HN ER
      go_wp2_with fail
      refine (HT.out _).mono ?_
      rintro e' w3 ⟨rfl, hb3⟩
      have HF3 : Hid (Fr (fun k => k = b) w w3) := HF.out.trans (.of_below hb3) (fun _ _ h => h)
      have hp3 := (hb3.block _ (lt_of_heap HP.out)).trans HP.out
      have x0 := cell_of_heap hp3
      have y0 := frozen_of_heap hp3
      have z0 := lt_of_heap hp3
      have HP3 := Lib.hid hp3
      clear hb3 hp3 HF HP
      go_wp2_with fail
      refine (HN.out _).mono ?_
      rintro e' w4 ⟨rfl, hb4⟩
      have z3 := hb4.size
      have g1 : w4.heap[w3.heap.size]? = some (.cells #[.int .i64 m, .int .i64 x] 32) := (hb4.block _ (by simp)).trans (by (repeat (first | (with_reducible refine bw5 ?_ _; (first | rfl | (simp; done) | omega | (simp; omega)); done) | with_reducible refine bw6 ?_ _ | with_reducible refine bw7 ?_ | with_reducible refine bw8 ?_)))
      have hp4 : w4.heap[w.heap.size]? = some (.cells #[.int .i64 0, .int .i64 0] 32) := (hb4.block _ (by simp; omega)).trans (by first | exact heap_alloc_old HP3.out _ | (rw [Below.heap_setCell _ _ _ _ (by simp; omega)]; exact heap_alloc_old HP3.out _))
      have HF4 : Hid (Fr (fun k => k = b) w w4) := by
        refine (HF3.out.trans (.of_below ?_) (fun _ _ h => h)).trans (.of_below hb4) (fun _ _ h => h)
        (repeat with_reducible (first | exact bw0 _ _ | exact hBW | refine bw1 ?_ ?_ _ | refine bw2 ?_ ?_ _ | refine bw3 ?_ _ | refine bw4 ?_)); all_goals (first | omega | (dsimp only; omega) | ((repeat with_reducible (first | refine lz1 ?_ | refine lz2 ?_ | refine lz3 ?_ | refine lz4 ?_)); omega))
      clear x0 y0 z0
      have x0 := cell_of_heap hp4
      have y0 := frozen_of_heap hp4
      have z0 := lt_of_heap hp4
      have j0 := cell_of_heap g1 0
      have j1 := cell_of_heap g1 1
      have z1 := lt_of_heap g1
      clear hb4 g1 hp4 HF3 HP3
      cases nr with
      | true =>
        have ER : Hid (R = ((m, x), true)) := ER.out
        go_wp2_with fail
        refine bodyPost_ret (v := .tuple #[.agg #[.int .i64 m, .int .i64 x], .bool true]) (by simp [results, Tryz.results58, go_sem, x0]) rfl ⟨ret_numv ER.out, ?_⟩
        exact HF4.out.tail (by (repeat with_reducible (first | exact bw0 _ _ | exact hBW | refine bw1 ?_ ?_ _ | refine bw2 ?_ ?_ _ | refine bw3 ?_ _ | refine bw4 ?_)); all_goals (first | omega | (dsimp only; omega) | ((repeat with_reducible (first | refine lz1 ?_ | refine lz2 ?_ | refine lz3 ?_ | refine lz4 ?_)); omega)))
      | false =>
        have ER : Hid (R = ((0, 0), false)) := ER.out
        go_wp2_with fail
        refine bodyPost_ret (v := .tuple #[.agg #[.int .i64 0, .int .i64 0], .bool false]) (by simp [results, Tryz.results58, go_sem, x0]) rfl ⟨ret_numv ER.out, ?_⟩
        exact HF4.out.tail (by (repeat with_reducible (first | exact bw0 _ _ | exact hBW | refine bw1 ?_ ?_ _ | refine bw2 ?_ ?_ _ | refine bw3 ?_ _ | refine bw4 ?_)); all_goals (first | omega | (dsimp only; omega) | ((repeat with_reducible (first | refine lz1 ?_ | refine lz2 ?_ | refine lz3 ?_ | refine lz4 ?_)); omega)))
theorem round_e (hB : B ≤ w.heap.size) (hD : DgS B w b off cap D) (hq : 0 < (bareP D).length) (h15 : (bareP D).length ≤ 15) (hl : (bareP D).length ≤ 100000) (hel : -2000000 ≤ e) (he3 : e < -40) (he2 : ((bareP D).length : Int) < -40 - e) (R : (Int × Int) × Bool) (hR : R = ((0, 0), true)) : Calls Tryz.prog 58 #[.bool neg, .slice (some ⟨b, off, none⟩) D.length cap, .int .i64 e] w (RoundPost w b R) := by
  have HD := Lib.hid (hD.below (below_alloc w (.cells #[.int .i64 0, .int .i64 0] 32) _ (Nat.le_refl _)))
  have ER := Lib.hid hR
  have HB := Lib.hid hB
  clear hD hR hB
  go_enter Tryz.func58, Tryz.ntmps58
  go_wp2_with fail
  refine (bare_any _ HD.out).mono ?_
  rintro e w2 ⟨⟨o2, c3, rfl, hd2⟩, rfl⟩
  have HDN := Lib.hid hd2
  have hbl := HD.out.lt
  clear hd2 HD
  generalize bareP D = D1 at hq h15 HDN ER hl he2 ⊢
  have HL := Lib.hid hl
  have HE := Lib.hid he2
  have q0 : ((D1.length : Int) == 0) = false := by simp; intro h; rw [h] at hq; simp at hq
  have wl : IntKind.i64.wrap ((D1.length : Int) - 15) = (D1.length : Int) - 15 := IntWalk.i64_in _ (by omega)
  have HF : Hid (Fr (fun k => k = b) w (w.alloc (.cells #[.int .i64 0, .int .i64 0] 32))) := .of_below (below_alloc w _ _ (Nat.le_refl _))
  have HP : Hid ((w.alloc (.cells #[.int .i64 0, .int .i64 0] 32)).heap[w.heap.size]? = some (.cells #[.int .i64 0, .int .i64 0] 32)) := heap_alloc_new w _
  clear hl he2
  have hdr := HE.out
  have we2 : IntKind.i64.wrap (-40 - e) = -40 - e := IntWalk.i64_in _ (by omega)
  have x0 := cell_of_heap HP.out
  have y0 := frozen_of_heap HP.out
  have z0 := lt_of_heap HP.out
  go_wp2_with fail
  refine bodyPost_ret (v := .tuple #[.agg #[.int .i64 0, .int .i64 0], .bool true]) (by simp [results, Tryz.results58, go_sem]) rfl ⟨ret_numv ER.out, ?_⟩
  exact HF.out.tail (by (repeat with_reducible (first | exact bw0 _ _ | exact hBW | refine bw1 ?_ ?_ _ | refine bw2 ?_ ?_ _ | refine bw3 ?_ _ | refine bw4 ?_)); all_goals (first | omega | (dsimp only; omega) | ((repeat with_reducible (first | refine lz1 ?_ | refine lz2 ?_ | refine lz3 ?_ | refine lz4 ?_)); omega)))
theorem round_d (D2' : List Nat) (E' : Int) (hb : b < w.heap.size) (hB : B ≤ w.heap.size) (hD : DgS B w b off cap D) (hq : 0 < (bareP D).length) (he : e < 40) (h15 : 15 < (bareP D).length) (hl : (bareP D).length ≤ 100000) (hel : -2000000 ≤ e)
    (he2 : cutP (bareP D) 15 = D2' ∧ e + (((bareP D).length : Int) - 15) = E' ∧ E' < -40 ∧ -40 - E' ≤ (D2'.length : Int)) (R : (Int × Int) × Bool) (hR : e + (((bareP D).length : Int) - 15) = E' ∧ R = finP neg (cutP D2' (D2'.length - (-40 - E').toNat)) (-40)) : Calls Tryz.prog 58 #[.bool neg, .slice (some ⟨b, off, none⟩) D.length cap, .int .i64 e] w (RoundPost w b R) := by
  have HD := Lib.hid (hD.below (below_alloc w (.cells #[.int .i64 0, .int .i64 0] 32) _ (Nat.le_refl _)))
  have ER := Lib.hid hR
  have HB := Lib.hid hB
  clear hD hR hB
  go_enter Tryz.func58, Tryz.ntmps58
  go_wp2_with fail
  refine (bare_any _ HD.out).mono ?_
  rintro e w2 ⟨⟨o2, c3, rfl, hd2⟩, rfl⟩
  have HDN := Lib.hid hd2
  have hbl := HD.out.lt
  clear hd2 HD
  generalize bareP D = D1 at hq h15 HDN ER hl he2 ⊢
  have HL := Lib.hid hl
  have HE := Lib.hid he2
  have q0 : ((D1.length : Int) == 0) = false := by simp; intro h; rw [h] at hq; simp at hq
  have wl : IntKind.i64.wrap ((D1.length : Int) - 15) = (D1.length : Int) - 15 := IntWalk.i64_in _ (by omega)
  have HF : Hid (Fr (fun k => k = b) w (w.alloc (.cells #[.int .i64 0, .int .i64 0] 32))) := .of_below (below_alloc w _ _ (Nat.le_refl _))
  have HP : Hid ((w.alloc (.cells #[.int .i64 0, .int .i64 0] 32)).heap[w.heap.size]? = some (.cells #[.int .i64 0, .int .i64 0] 32)) := heap_alloc_new w _
  clear hl he2
  go_wp2_with fail
  clear q0 wl
  have hbp : w.heap.size ≠ b := by
    have := hb
    omega
  refine (cut_any 15 _ (by have := HB.out; simp; omega) HDN.out h15 (by omega)).mono ?_
  rintro e' w5 ⟨b5, o5, c5, rfl, hd5, hf5, hb5⟩
  have HDN2 := Lib.hid hd5
  have HF2 : Hid (Fr (fun k => k = b) w w5) := HF.out.trans hf5 (fun _ _ h => h)
  have HP2 : Hid (w5.heap[w.heap.size]? = some (.cells #[.int .i64 0, .int .i64 0] 32)) := (hf5.block _ (by simp) hbp).trans HP.out
  have hb5' : Hid (b5 = b ∨ w.heap.size + 1 ≤ b5) := by unfold Hid; simpa using hb5
  have hl5 := cutP_len (D := D1) (n := 15) (by omega)
  obtain ⟨E, hE⟩ : ∃ E, E = e + ((D1.length : Int) - 15) := ⟨_, rfl⟩
  have we1 : IntKind.i64.wrap (e + ((D1.length : Int) - 15)) = E := by rw [hE]; exact IntWalk.i64_in _ (by have := HL.out; omega)
  have hE1 : -3000000 ≤ E := by have := HL.out; omega
  have hE2 : E ≤ 1000000 := by have := HL.out; omega
  rw [← hE] at ER HE
  clear hd5 hf5 HDN HF HP hb5 hE
  have HDN := HDN2
  have HF := HF2
  have HP := HP2
  clear HDN2 HF2 HP2
  generalize cutP D1 15 = D2 at hl5 HDN ER HE ⊢
  have ER9 := Lib.hid ER.out.2
  clear ER
  obtain ⟨rfl, rfl, he4, he5⟩ := HE.out
  have ER := ER9
  clear ER9
  have HE : Hid (-40 - E ≤ (D2.length : Int)) := he5
  clear he5
  obtain ⟨n2, hn2⟩ : ∃ n2 : Nat, n2 = (D2).length - (-40 - E).toNat := ⟨_, rfl⟩
  rw [← hn2] at ER
  have hdr := HE.out
  have hn3 : (n2 : Int) = ((D2).length : Int) - (-40 - E) := by omega
  have we2 : IntKind.i64.wrap (-40 - E) = -40 - E := IntWalk.i64_in _ (by omega)
  have wc1 : IntKind.i64.wrap (((D2).length : Int) - (-40 - E)) = (n2 : Int) := by rw [← hn3]; exact IntWalk.i64_in _ (by omega)
  have hlt2 : n2 < (D2).length := by omega
  clear hn2 hn3
  go_wp2_with fail
  refine (cut_any n2 _ (by have := HF.out.size; have := HB.out; omega) HDN.out hlt2 (by omega)).mono ?_
  rintro e' w6 ⟨b6, o6, c6, rfl, hd6, hf6, hb6⟩
  have HDN2 := Lib.hid hd6
  have HF2 : Hid (Fr (fun k => k = b) w w6) := HF.out.trans hf6 (fun i hi h => hb5'.out.elim (fun h' => h.trans h') (fun h' => by omega))
  have HP2 : Hid (w6.heap[w.heap.size]? = some (.cells #[.int .i64 0, .int .i64 0] 32)) := (hf6.block _ (lt_of_heap HP.out) (fun hh => hb5'.out.elim (fun h' => by omega) (fun h' => by omega))).trans HP.out
  have hl6 := cutP_len (D := D2) (n := n2) (by omega)
  have hl6 : (cutP (D2) n2).length ≤ 16 := by omega
  clear hd6 hf6 HDN HF HP hb6 hlt2 wc1 we2 we1
  have HDN := HDN2
  have HF := HF2
  have HP := HP2
  clear HDN2 HF2 HP2
  generalize cutP (D2) n2 = D3 at hl6 HDN ER ⊢
  go_wp2_with fail
  have hsm := HDN.out.small
  go_loop [10, 50] (fun v i => ∃ k : Nat, v = .int .u64 (valD ((D3).take k) : Nat) ∧ i = .int .i64 k ∧ k ≤ (D3).length) (fun _ i => (D3).length - (intOf i).toNat)
  case atStart => exact ⟨0, rfl, rfl, Nat.zero_le _⟩
  case round =>
    obtain ⟨k, rfl, rfl, hk⟩ := hrel
    have hb := valD_bd hsm k hk
    have hb16 : 29 * 10 ^ k ≤ 290000000000000000 := by
      have := Nat.pow_le_pow_right (n := 10) (by omega) (show k ≤ 16 by omega)
      omega
    by_cases hlt : k < (D3).length
    · obtain ⟨d, hd⟩ : ∃ d, (D3)[k]? = some d := ⟨_, List.getElem?_eq_getElem hlt⟩
      have hc := HDN.out.cell hd
      have hd256 := hsm d (List.mem_of_getElem? hd)
      have VS := Lib.hid (valD_take hd)
      generalize valD ((D3).take k) = V at hb VS ⊢
      have wq : IntKind.u64.wrap ((V : Int) * 10) = (V : Int) * 10 := IntWalk.u64_in _ (by omega)
      have wd : IntKind.u64.wrap (d : Int) = (d : Int) := IntWalk.u64_in _ (by omega)
      have wq2 : IntKind.u64.wrap ((V : Int) * 10 + d) = (V : Int) * 10 + d := IntWalk.u64_in _ (by omega)
      clear hd hsm hb hb16
      go_wp2_with fail
      go_round
      case rel => exact ⟨k + 1, by rw [VS.out]; simp, by go_num, by omega⟩
      case measure => simp [intOf]; omega
    · have ek : k = (D3).length := by omega
      have EV : Hid (valD ((D3).take k) = valD (D3)) := by unfold Hid; rw [ek, List.take_length]
      have hV : valD (D3) < 1000000000000000000 := by rw [← EV.out]; omega
      rw [EV.out]
      clear hb hb16 hsm ek EV hk
      have HI := Lib.hid (trimM_i64 neg hV)
      have HT := Lib.hid (fun w => trimmed_any neg (valD (D3)) hV (-40) (by omega) (by omega) w)
      obtain ⟨m, hm⟩ : ∃ m, m = trimM neg (valD (D3)) := ⟨_, rfl⟩
      obtain ⟨x, hx⟩ : ∃ x, x = trimX (valD (D3)) (-40) := ⟨_, rfl⟩
      have ER : Hid (R = if numR m x then ((m, x), true) else ((0, 0), false)) := by unfold Hid; rw [ER.out, hm, hx]; rfl
      rw [← hm] at HI
      rw [← hm, ← hx] at HT
      have HN := Lib.hid (num_all m x HI.out)
      clear hm hx HI hV
      generalize numR m x = nr at HN ER
      go_wp2_with fail
      refine (HT.out _).mono ?_
      rintro e' w3 ⟨rfl, hb3⟩
      have HF3 : Hid (Fr (fun k => k = b) w w3) := HF.out.trans (.of_below hb3) (fun _ _ h => h)
      have hp3 := (hb3.block _ (lt_of_heap HP.out)).trans HP.out
      have x0 := cell_of_heap hp3
      have y0 := frozen_of_heap hp3
      have z0 := lt_of_heap hp3
      have HP3 := Lib.hid hp3
      clear hb3 hp3 HF HP
      go_wp2_with fail
      refine (HN.out _).mono ?_
      rintro e' w4 ⟨rfl, hb4⟩
      have z3 := hb4.size
      have g1 : w4.heap[w3.heap.size]? = some (.cells #[.int .i64 m, .int .i64 x] 32) := (hb4.block _ (by simp)).trans (by (repeat (first | (with_reducible refine bw5 ?_ _; (first | rfl | (simp; done) | omega | (simp; omega)); done) | with_reducible refine bw6 ?_ _ | with_reducible refine bw7 ?_ | with_reducible refine bw8 ?_)))
      have hp4 : w4.heap[w.heap.size]? = some (.cells #[.int .i64 0, .int .i64 0] 32) := (hb4.block _ (by simp; omega)).trans (by first | exact heap_alloc_old HP3.out _ | (rw [Below.heap_setCell _ _ _ _ (by simp; omega)]; exact heap_alloc_old HP3.out _))
      have HF4 : Hid (Fr (fun k => k = b) w w4) := by
        refine (HF3.out.trans (.of_below ?_) (fun _ _ h => h)).trans (.of_below hb4) (fun _ _ h => h)
        (repeat with_reducible (first | exact bw0 _ _ | exact hBW | refine bw1 ?_ ?_ _ | refine bw2 ?_ ?_ _ | refine bw3 ?_ _ | refine bw4 ?_)); all_goals (first | omega | (dsimp only; omega) | ((repeat with_reducible (first | refine lz1 ?_ | refine lz2 ?_ | refine lz3 ?_ | refine lz4 ?_)); omega))
      clear x0 y0 z0
      have x0 := cell_of_heap hp4
      have y0 := frozen_of_heap hp4
      have z0 := lt_of_heap hp4
      have j0 := cell_of_heap g1 0
      have j1 := cell_of_heap g1 1
      have z1 := lt_of_heap g1
      clear hb4 g1 hp4 HF3 HP3
      cases nr with
      | true =>
        have ER : Hid (R = ((m, x), true)) := ER.out
        go_wp2_with fail
        refine bodyPost_ret (v := .tuple #[.agg #[.int .i64 m, .int .i64 x], .bool true]) (by simp [results, Tryz.results58, go_sem, x0]) rfl ⟨ret_numv ER.out, ?_⟩
        exact HF4.out.tail (by (repeat with_reducible (first | exact bw0 _ _ | exact hBW | refine bw1 ?_ ?_ _ | refine bw2 ?_ ?_ _ | refine bw3 ?_ _ | refine bw4 ?_)); all_goals (first | omega | (dsimp only; omega) | ((repeat with_reducible (first | refine lz1 ?_ | refine lz2 ?_ | refine lz3 ?_ | refine lz4 ?_)); omega)))
      | false =>
        have ER : Hid (R = ((0, 0), false)) := ER.out
        go_wp2_with fail
        refine bodyPost_ret (v := .tuple #[.agg #[.int .i64 0, .int .i64 0], .bool false]) (by simp [results, Tryz.results58, go_sem, x0]) rfl ⟨ret_numv ER.out, ?_⟩
        exact HF4.out.tail (by (repeat with_reducible (first | exact bw0 _ _ | exact hBW | refine bw1 ?_ ?_ _ | refine bw2 ?_ ?_ _ | refine bw3 ?_ _ | refine bw4 ?_)); all_goals (first | omega | (dsimp only; omega) | ((repeat with_reducible (first | refine lz1 ?_ | refine lz2 ?_ | refine lz3 ?_ | refine lz4 ?_)); omega)))
theorem round_f (D2' : List Nat) (E' : Int) (hb : b < w.heap.size) (hB : B ≤ w.heap.size) (hD : DgS B w b off cap D) (hq : 0 < (bareP D).length) (he : e < 40) (h15 : 15 < (bareP D).length) (hl : (bareP D).length ≤ 100000) (hel : -2000000 ≤ e)
    (he2 : cutP (bareP D) 15 = D2' ∧ e + (((bareP D).length : Int) - 15) = E' ∧ E' < -40 ∧ (D2'.length : Int) < -40 - E') (R : (Int × Int) × Bool) (hR : e + (((bareP D).length : Int) - 15) = E' ∧ R = ((0, 0), true)) : Calls Tryz.prog 58 #[.bool neg, .slice (some ⟨b, off, none⟩) D.length cap, .int .i64 e] w (RoundPost w b R) := by
  have HD := Lib.hid (hD.below (below_alloc w (.cells #[.int .i64 0, .int .i64 0] 32) _ (Nat.le_refl _)))
  have ER := Lib.hid hR
  have HB := Lib.hid hB
  clear hD hR hB
  go_enter Tryz.func58, Tryz.ntmps58
  go_wp2_with fail
  refine (bare_any _ HD.out).mono ?_
  rintro e w2 ⟨⟨o2, c3, rfl, hd2⟩, rfl⟩
  have HDN := Lib.hid hd2
  have hbl := HD.out.lt
  clear hd2 HD
  generalize bareP D = D1 at hq h15 HDN ER hl he2 ⊢
  have HL := Lib.hid hl
  have HE := Lib.hid he2
  have q0 : ((D1.length : Int) == 0) = false := by simp; intro h; rw [h] at hq; simp at hq
  have wl : IntKind.i64.wrap ((D1.length : Int) - 15) = (D1.length : Int) - 15 := IntWalk.i64_in _ (by omega)
  have HF : Hid (Fr (fun k => k = b) w (w.alloc (.cells #[.int .i64 0, .int .i64 0] 32))) := .of_below (below_alloc w _ _ (Nat.le_refl _))
  have HP : Hid ((w.alloc (.cells #[.int .i64 0, .int .i64 0] 32)).heap[w.heap.size]? = some (.cells #[.int .i64 0, .int .i64 0] 32)) := heap_alloc_new w _
  clear hl he2
  go_wp2_with fail
  clear q0 wl
  have hbp : w.heap.size ≠ b := by
    have := hb
    omega
  refine (cut_any 15 _ (by have := HB.out; simp; omega) HDN.out h15 (by omega)).mono ?_
  rintro e' w5 ⟨b5, o5, c5, rfl, hd5, hf5, hb5⟩
  have HDN2 := Lib.hid hd5
  have HF2 : Hid (Fr (fun k => k = b) w w5) := HF.out.trans hf5 (fun _ _ h => h)
  have HP2 : Hid (w5.heap[w.heap.size]? = some (.cells #[.int .i64 0, .int .i64 0] 32)) := (hf5.block _ (by simp) hbp).trans HP.out
  have hb5' : Hid (b5 = b ∨ w.heap.size + 1 ≤ b5) := by unfold Hid; simpa using hb5
  have hl5 := cutP_len (D := D1) (n := 15) (by omega)
  obtain ⟨E, hE⟩ : ∃ E, E = e + ((D1.length : Int) - 15) := ⟨_, rfl⟩
  have we1 : IntKind.i64.wrap (e + ((D1.length : Int) - 15)) = E := by rw [hE]; exact IntWalk.i64_in _ (by have := HL.out; omega)
  have hE1 : -3000000 ≤ E := by have := HL.out; omega
  have hE2 : E ≤ 1000000 := by have := HL.out; omega
  rw [← hE] at ER HE
  clear hd5 hf5 HDN HF HP hb5 hE
  have HDN := HDN2
  have HF := HF2
  have HP := HP2
  clear HDN2 HF2 HP2
  generalize cutP D1 15 = D2 at hl5 HDN ER HE ⊢
  have ER9 := Lib.hid ER.out.2
  clear ER
  obtain ⟨rfl, rfl, he4, he5⟩ := HE.out
  have ER := ER9
  clear ER9
  have HE : Hid ((D2.length : Int) < -40 - E) := he5
  clear he5
  have hdr := HE.out
  have we2 : IntKind.i64.wrap (-40 - E) = -40 - E := IntWalk.i64_in _ (by omega)
  have x0 := cell_of_heap HP.out
  have y0 := frozen_of_heap HP.out
  have z0 := lt_of_heap HP.out
  go_wp2_with fail
  refine bodyPost_ret (v := .tuple #[.agg #[.int .i64 0, .int .i64 0], .bool true]) (by simp [results, Tryz.results58, go_sem, x0]) rfl ⟨ret_numv ER.out, ?_⟩
  exact HF.out.tail (by (repeat with_reducible (first | exact bw0 _ _ | exact hBW | refine bw1 ?_ ?_ _ | refine bw2 ?_ ?_ _ | refine bw3 ?_ _ | refine bw4 ?_)); all_goals (first | omega | (dsimp only; omega) | ((repeat with_reducible (first | refine lz1 ?_ | refine lz2 ?_ | refine lz3 ?_ | refine lz4 ?_)); omega)))
end
theorem round_any {B : Nat} {b off cap : Nat} {D : List Nat} (neg : Bool) (e : Int) (w : World) (hB : B ≤ w.heap.size) (hD : DgS B w b off cap D) (hl : D.length ≤ 100000) (he : -2000000 ≤ e) :
    Calls Tryz.prog 58 #[.bool neg, .slice (some ⟨b, off, none⟩) D.length cap, .int .i64 e] w (RoundPost w b (roundP neg D e)) := by
  have hb := hD.lt
  have hlb := bareP_len D
  by_cases hq : (bareP D).length = 0
  · have hr : roundP neg D e = ((0, 0), true) := by unfold roundP; rw [if_pos hq]
    rw [hr]
    exact round_0 neg e w hD hq
  · by_cases h40 : 40 ≤ e
    · have hr : roundP neg D e = ((0, 0), false) := by unfold roundP; rw [if_neg hq, if_pos h40]
      rw [hr]
      exact round_40 neg e w hD (by omega) h40
    · have hr : roundP neg D e = stg1 neg (bareP D) e := by unfold roundP; rw [if_neg hq, if_neg h40]
      rw [hr]
      by_cases h15 : 15 < (bareP D).length
      · have hr : stg1 neg (bareP D) e = stg2 neg (cutP (bareP D) 15) (e + (((bareP D).length : Int) - 15)) := by unfold stg1; rw [if_pos h15]
        rw [hr]
        by_cases hE : e + (((bareP D).length : Int) - 15) < -40
        · by_cases hd : ((cutP (bareP D) 15).length : Int) < -40 - (e + (((bareP D).length : Int) - 15))
          · exact round_f neg e w _ _ hb hB hD (by omega) (by omega) h15 (by omega) he ⟨rfl, rfl, hE, hd⟩ _ ⟨rfl, by unfold stg2; rw [if_pos hE, if_pos hd]⟩
          · exact round_d neg e w _ _ hb hB hD (by omega) (by omega) h15 (by omega) he ⟨rfl, rfl, hE, by omega⟩ _ ⟨rfl, by unfold stg2; rw [if_pos hE, if_neg hd]⟩
        · exact round_b neg e w hb hB hD (by omega) (by omega) h15 (by omega) he (by omega) _ (by unfold stg2; rw [if_neg hE])
      · have hr : stg1 neg (bareP D) e = stg2 neg (bareP D) e := by unfold stg1; rw [if_neg h15]
        rw [hr]
        by_cases hE : e < -40
        · by_cases hd : ((bareP D).length : Int) < -40 - e
          · exact round_e neg e w hB hD (by omega) (by omega) (by omega) he hE hd _ (by unfold stg2; rw [if_pos hE, if_pos hd])
          · exact round_c neg e w hb hB hD (by omega) (by omega) (by omega) hE (by omega) _ (by unfold stg2; rw [if_pos hE, if_neg hd])
        · exact round_a neg e w hD (by omega) (by omega) (by omega) (by omega) _ (by unfold stg2; rw [if_neg hE])
end Go.Proofs.YtndhmahkglfopaaGreatDoor
