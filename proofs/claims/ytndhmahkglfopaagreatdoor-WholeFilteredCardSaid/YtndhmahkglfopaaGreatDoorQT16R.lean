/- awake16, plainly. -/
import Derived.Test.YtndhmahkglfopaaGreatDoorQT13R09
import Derived.Test.YtndhmahkglfopaaGreatDoorQT16DK
namespace Go.Proofs.YtndhmahkglfopaaGreatDoor
theorem dec1 {n : Nat} (h : n < 10) : Lib.decDigits n = [UInt8.ofNat (48 + n)] := by rw [Lib.decDigits]; simp [h]
theorem digs1 {n : Nat} (h : n < 10) : digs n = [n] := by
  unfold digs
  rw [dec1 h]
  simp [UInt8.toNat_ofNat']
  omega
theorem nd1 {n : Nat} (h0 : n ≠ 0) (h : n < 10) : nd n = 1 := by
  have e : n / 10 = 0 := by omega
  have z : nd 0 = 0 := by rw [nd]; simp
  rw [nd]
  simp [h0, e, z]
theorem trimW1 {n : Nat} (_h0 : n ≠ 0) (_h : n < 10) : trimW n = n := by
  rw [trimW]
  have : ¬ (n ≠ 0 ∧ n % 10 = 0) := by omega
  simp [this]
theorem trimE1 {n : Nat} (_h0 : n ≠ 0) (_h : n < 10) : trimE n = 0 := by
  rw [trimE]
  have : ¬ (n ≠ 0 ∧ n % 10 = 0) := by omega
  simp [this]
theorem round1 {n : Nat} (h0 : n ≠ 0) (h : n < 10) : roundP false [0, n] 0 = (((n : Int), 0), true) := by
  have hv : valD [n] = n := by simp [valD]
  have hb : bareP [0, n] = [n] := by simp [bareP, h0]
  have hr : numR n 0 = true := by
    unfold numR
    rw [if_neg (by omega), Int.natAbs_natCast, nd1 h0 h]
    simp
    omega
  unfold roundP
  rw [hb]
  simp only [List.length_singleton]
  rw [if_neg (by omega), if_neg (by omega)]
  unfold stg1
  rw [if_neg (by simp)]
  unfold stg2
  rw [if_neg (by omega)]
  unfold finP
  rw [hv]
  have e1 : trimM false n = n := by unfold trimM; simp [trimW1 h0 h]
  have e2 : trimX n 0 = 0 := by unfold trimX; simp [h0, trimE1 h0 h]
  rw [e1, e2, if_pos hr]
theorem add01 : addR 0 0 1 0 = ((1, 0), true) := by
  unfold addR
  simp only [sprP, digs1 (n := 0) (by omega), Int.natAbs_zero, show (1 : Int).natAbs = 1 from rfl, digs1 (n := 1) (by omega), Int.min_self, Int.sub_self, Int.toNat_zero, List.replicate_zero, List.append_nil, List.length_singleton, Nat.max_self]
  have e : settleP (gatP false (gatP false [0, 0] [0]) [1]) = ([0, 1], false) := by kernel_rfl
  exact (congrArg (fun q => roundP q.2 q.1 0) e).trans (round1 (n := 1) (by omega) (by omega))
theorem add12 : addR 1 0 2 0 = ((3, 0), true) := by
  unfold addR
  simp only [sprP, show (2 : Int).natAbs = 2 from rfl, digs1 (n := 2) (by omega), show (1 : Int).natAbs = 1 from rfl, digs1 (n := 1) (by omega), Int.min_self, Int.sub_self, Int.toNat_zero, List.replicate_zero, List.append_nil, List.length_singleton, Nat.max_self]
  have e : settleP (gatP false (gatP false [0, 0] [1]) [2]) = ([0, 3], false) := by kernel_rfl
  exact (congrArg (fun q => roundP q.2 q.1 0) e).trans (round1 (n := 3) (by omega) (by omega))
theorem add33 : addR 3 0 3 0 = ((6, 0), true) := by
  unfold addR
  simp only [sprP, show (3 : Int).natAbs = 3 from rfl, digs1 (n := 3) (by omega), Int.min_self, Int.sub_self, Int.toNat_zero, List.replicate_zero, List.append_nil, List.length_singleton, Nat.max_self]
  have e : settleP (gatP false (gatP false [0, 0] [3]) [3]) = ([0, 6], false) := by kernel_rfl
  exact (congrArg (fun q => roundP q.2 q.1 0) e).trans (round1 (n := 6) (by omega) (by omega))
end Go.Proofs.YtndhmahkglfopaaGreatDoor
/- awake16's numbers: 1, 2, 3, 6, and how 3 and 1 stand. -/
namespace Go.Proofs.YtndhmahkglfopaaGreatDoor
open Go.Sort
theorem mk1 {n : Nat} (h0 : n ≠ 0) (h : n < 10) : cntV (n : Int) = numV (n, 0) := by
  have e0 : ¬ (n : Int) = 0 := by omega
  have e1 : decide ((n : Int) < 0) = false := decide_eq_false (by omega)
  have hm : mkM (n : Int) = n := by
    unfold mkM
    rw [if_neg e0, e1, Int.natAbs_natCast]
    unfold trimM
    simp [trimW1 h0 h]
  have hx : mkX (n : Int) = 0 := by
    unfold mkX
    rw [if_neg e0, Int.natAbs_natCast]
    unfold trimX
    simp [h0, trimE1 h0 h]
  unfold cntV
  rw [hm, hx]
theorem num1 {n : Nat} (h0 : n ≠ 0) (h : n < 10) : numR (n : Int) 0 = true := by
  unfold numR
  rw [if_neg (by omega), Int.natAbs_natCast, nd1 h0 h]
  simp
  omega
theorem cnt1_right {n : Nat} (h0 : n ≠ 0) (h : n < 10) : refR (cntV (n : Int)) = true := by
  rw [mk1 h0 h]
  exact refR_num (num1 h0 h)
theorem c1 : cntV 1 = numV (1, 0) := mk1 (n := 1) (by omega) (by omega)
theorem c2 : cntV 2 = numV (2, 0) := mk1 (n := 2) (by omega) (by omega)
theorem c3 : cntV 3 = numV (3, 0) := mk1 (n := 3) (by omega) (by omega)
theorem c6 : cntV 6 = numV (6, 0) := mk1 (n := 6) (by omega) (by omega)
theorem sum123 : sumV (([1, 2, 3].map cntV).map prV) = cntV 6 := by
  simp only [List.map_cons, List.map_nil, c1, c2, c3, c6]
  show sumV [(1, 0), (2, 0), (3, 0)] = _
  unfold sumV
  simp only [addL, add01, add12, add33, if_true]
  rfl
theorem nd1' : nd 1 = 1 := nd1 (by omega) (by omega)
theorem nd3' : nd 3 = 1 := nd1 (by omega) (by omega)
theorem cmpz (a b : Nat) (ha : a ≠ 0) (hb : b ≠ 0) (na : nd a = 1) (nb : nd b = 1) : cmpV (numV ((a : Int), 0)) (numV ((b : Int), 0)) = cmpI a b := by
  have h1 : cmpV (numV ((a : Int), 0)) (numV ((b : Int), 0)) = cmpN a 0 b 0 := by
    unfold cmpV besV cmpB sameK numV
    simp
  have sa : sgn (a : Int) = 1 := by unfold sgn; split; omega; split <;> omega
  have sb : sgn (b : Int) = 1 := by unfold sgn; split; omega; split <;> omega
  rw [h1]
  unfold cmpN
  rw [sa, sb]
  unfold cmpZ cszD cmpI
  simp only [Int.natAbs_natCast, na, nb]
  rw [if_neg (by simp), if_neg (by omega), if_neg (by simp)]
  by_cases e : a = b
  · subst e
    simp
  · by_cases l : a < b
    · rw [if_pos (by omega), if_neg (by omega), if_pos (by omega)]
      rfl
    · rw [if_neg (by omega), if_pos (by omega), if_neg (by omega), if_neg (by omega)]
      rfl
theorem cmp31 : CmpInt [3, 1] := fun a ha b hb => by
  have h3 := fun b hb nb => cmpz 3 b (by omega) hb nd3' nb
  have h1 := fun b hb nb => cmpz 1 b (by omega) hb nd1' nb
  simp only [List.mem_cons, List.mem_nil_iff, or_false] at ha hb
  rcases ha with rfl | rfl <;> rcases hb with rfl | rfl
  · rw [c3]; exact h3 3 (by omega) nd3'
  · rw [c3, c1]; exact h3 1 (by omega) nd1'
  · rw [c3, c1]; exact h1 3 (by omega) nd3'
  · rw [c1]; exact h1 1 (by omega) nd1'
theorem sort31 : sortD [3, 1] = [1, 3] := by
  simp [sortD, List.mergeSort, ltI]
end Go.Proofs.YtndhmahkglfopaaGreatDoor
/- The law's call of SORT. -/
namespace Go.Proofs.YtndhmahkglfopaaGreatDoor
open Go.RowKit Go.Sort
/-- The one argument's cells, capacity and all. -/
structure ArgC (D : List Int) (b off : Nat) (a : Option Addr) (acap : Nat) (w : World) : Prop where
  lt : b < w.heap.size
  c0 : w.cell? ⟨b, off, none⟩ = some (.int .i64 D.length)
  c1 : w.cell? ⟨b, off + 1, none⟩ = some (.int .i64 1)
  c2 : w.cell? ⟨b, off + 2, none⟩ = some (.slice a D.length acap)
  sl : SlB 0 w a (D.map cntV)
theorem ArgC.below {D : List Int} {b off acap : Nat} {a : Option Addr} {w w' : World} (h : ArgC D b off a acap w) (hb : Below w.heap.size w w') : ArgC D b off a acap w' :=
  ⟨Nat.lt_of_lt_of_le h.lt hb.size, (hb.cell (p := ⟨b, off, none⟩) h.lt).trans h.c0, (hb.cell (p := ⟨b, off + 1, none⟩) h.lt).trans h.c1, (hb.cell (p := ⟨b, off + 2, none⟩) h.lt).trans h.c2, h.sl.below hb⟩
theorem ArgC.args {D : List Int} {b off acap : Nat} {a : Option Addr} {w : World} (h : ArgC D b off a acap w) : ArgsAt 0 w (some ⟨b, off, none⟩) [⟨D.length, 1, D.map cntV⟩] := fun _ => by
  refine ⟨b, off, rfl, Nat.zero_le _, h.lt, fun i A hA => ?_⟩
  cases i with
  | zero =>
    simp only [List.getElem?_cons_zero, Option.some.injEq] at hA
    subst hA
    simp only [Nat.zero_mul, Nat.add_zero, List.length_map]
    exact ⟨a, acap, h.c0, h.c1, h.c2, h.sl⟩
  | succ i => simp at hA
theorem col_right {D : List Int} (hR : ∀ d ∈ D, refR (cntV d) = true) (h1 : 1 ≤ D.length) (h2 : D.length ≤ 40) : ArrR ⟨D.length, 1, D.map cntV⟩ where
  h1 := by dsimp only; omega
  h2 := by dsimp only; omega
  h3 := by dsimp only; omega
  h4 := by dsimp only; omega
  h5 := by dsimp only; omega
  h6 := by simp
  h7 := fun v hv => by
    obtain ⟨d, hd, rfl⟩ := List.mem_map.1 hv
    exact hR d hd
def sSORT : ByteArray := ⟨#[83, 79, 82, 84]⟩
/-- symMerge, in whatever world of whatever sort of these places. -/
def SymAll (D : List Int) : Prop := 20 < D.length → ∀ (W : World) (ab bb yb blk scap : Nat), CmpOk W W.heap.size 298 #[.pointer (some ⟨ab, 0, none⟩), .pointer (some ⟨bb, 0, none⟩), .pointer (some ⟨yb, 0, none⟩)] D.length (cfI D) → SymOk W W.heap.size 298 #[.pointer (some ⟨ab, 0, none⟩), .pointer (some ⟨bb, 0, none⟩), .pointer (some ⟨yb, 0, none⟩)] D.length (cfI D) blk D.length scap
theorem ent208 : Ent 208 := enters_of Tryz.func208 (by kernel_rfl) rfl
theorem call_sort (D : List Int) (hR : ∀ d ∈ D, refR (cntV d) = true) (hC : CmpInt D) (h1 : 1 ≤ D.length) (h2 : D.length ≤ 40) (hM : SymAll D) (b off cap acap : Nat) (a : Option Addr) (hcap : D.length ≤ acap) (w : World) (hw : ArgC D b off a acap w) :
    Calls Tryz.prog 11 #[.string sSORT, .slice (some ⟨b, off, none⟩) 1 cap] w (ArrPostC (fun c => D.length ≤ c) w ⟨D.length, 1, (sortD D).map cntV⟩) :=
  call11 w sSORT (some ⟨b, off, none⟩) 1 cap _ fun W hW => lib_4 W sSORT (some ⟨b, off, none⟩) 1 cap _ (by kernel_rfl) (by kernel_rfl) (by kernel_rfl) (by kernel_rfl) fun W' hW' =>
    have hb := hW.trans (hW'.mono hW.size)
    call94_hit sSORT 1 3 [⟨D.length, 1, D.map cntV⟩] (some ⟨b, off, none⟩) cap _ W' (C := ArgC D b off a acap) (fun _ _ h hb => h.below hb) (fun w w' e h _ hc => by
      obtain ⟨BB, l, he, hm, _, hb, _, _, h3, _⟩ := h
      refine ⟨BB, l, 208, _, he, hm, hb, .inl rfl, h3, ent208, fun W hW => ?_⟩
      have hc2 := hc.below hW
      exact sortRows_any W D hR hC h1 h2 b off cap hc2.lt D.length a acap hcap hc2.c0 hc2.c1 hc2.c2 hc2.sl rfl hM) (fun X hX => by rw [List.mem_singleton.1 hX]; exact (col_right hR h1 h2).ok) (by simp) (by simp) (by omega) (hw.below hb).args (hw.below hb)
end Go.Proofs.YtndhmahkglfopaaGreatDoor
