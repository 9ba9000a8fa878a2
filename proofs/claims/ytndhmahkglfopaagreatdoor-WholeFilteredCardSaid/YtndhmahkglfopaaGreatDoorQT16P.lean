/-
  DERIVED: THE SHELF's CONTRACTS AT THIS DUMP, IN PLAIN WORDS (tools/lay-plain.mjs out of 'YtndhmahkglfopaaGreatDoorT16ShelfP.lean', which tools/lay-shelf.mjs wrote): THE SAME DECLARATIONS UNDER THE SAME NAMES: 'import', 'namespace', 'open', 'def', 'theorem' AND NOTHING ELSE: no command of the shelf's: FOR A HAND-IN. Each laying: the table of numbers ('.._ren') and one theorem, a field a fact of the dump's own or the kernel's comparison; each contract: ONE APPLICATION.
-/
import Derived.Laws.Runes
import Derived.Lib.OthersKept
import Derived.Shelf.Strings.OnBuilder
import Derived.Shelf.Small.Bits
import Derived.Shelf.Small.Strs
import Derived.Shelf.Strconv.Itoa1
import Derived.Shelf.LaysM
import Derived.Shelf.Strconv.Itoa2
import Derived.Shelf.Bits.Mul64
import Derived.Shelf.Strings.Repeat
import Derived.Ground.NamesProg
import Derived.Test.YtndhmahkglfopaaGreatDoorProg
import Derived.Lib.AppendIntMem
import Derived.Laws.MakeOwn
import Derived.Test.YtndhmahkglfopaaGreatDoorQT13NumA
import Derived.Test.YtndhmahkglfopaaGreatDoorQT16E
namespace Go.Proofs
open Go.Shelf
def Tryz.lays106_ren : Go.Shelf.Ren := ⟨fun | 106 => 109 | 213 => 134 | 265 => 229 | n => n, fun | 9 => 9 | 3 => 3 | n => n, fun | n => n⟩
theorem Tryz.lays106 : Go.Proofs.Lays.n106 Tryz.prog Tryz.lays106_ren := {
  mixed := by kernel_rfl
  f106 := Tryz.func109.trans (congrArg some (by kernel_rfl))
  f213 := Tryz.func134.trans (congrArg some (by kernel_rfl))
  f265 := Tryz.func229.trans (congrArg some (by kernel_rfl))
  t3 := Tryz.underlying3
  a3 := Tryz.isAgg3
  z3 := Tryz.sizeOf3
  v3 := Tryz.zeroValue3
  t9 := Tryz.underlying9
  a9 := Tryz.isAgg9
  z9 := Tryz.sizeOf9
  v9 := Tryz.zeroValue9 }
open Go.RowKit in
/-- strings.Compare: "Compare returns an integer comparing two strings lexicographically. The result will be 0 if a == b, -1 if a < b, and +1 if a > b.": IT RETURNS 'Lib.compareBytes a b'; the world is as it was. (LAID: no walk: one application.) -/
theorem Tryz.strings_Compare (a b : ByteArray) (w : World) :
    Calls Tryz.prog 109 #[.string a, .string b] w fun e w' => e = .returned (.int .i64 (Lib.compareBytes a.data.toList b.data.toList)) ∧ w' = w := Any.strings_Compare Tryz.lays106 a b w
def Tryz.lays283_ren : Go.Shelf.Ren := ⟨fun | 283 => 218 | n => n, fun | 3 => 3 | 9 => 9 | 4 => 4 | n => n, fun | n => n⟩
theorem Tryz.lays283 : Go.Proofs.Lays.n283 Tryz.prog Tryz.lays283_ren := {
  mixed := by kernel_rfl
  f283 := Tryz.func218.trans (congrArg some (by kernel_rfl))
  t3 := Tryz.underlying3
  a3 := Tryz.isAgg3
  z3 := Tryz.sizeOf3
  v3 := Tryz.zeroValue3
  t4 := Tryz.underlying4
  a4 := Tryz.isAgg4
  z4 := Tryz.sizeOf4
  v4 := Tryz.zeroValue4
  t9 := Tryz.underlying9
  a9 := Tryz.isAgg9
  z9 := Tryz.sizeOf9
  v9 := Tryz.zeroValue9 }
open Go.Lib in
/-- internal/strconv.small: "small returns the string for an i with 0 <= i < nSmalls.": i's decimal numeral. The world is as it was. (LAID: no walk: one application.) -/
theorem Tryz.internal_strconv_small (i : Nat) (h : i < 100) (w : World) :
    Calls Tryz.prog 218 #[.int .i64 i] w fun e w' => e = .returned (.string ⟨(Lib.decDigits i).toArray⟩) ∧ w' = w := Any.internal_strconv_small Tryz.lays283 i h w
def Tryz.laysM284_ren : Go.Shelf.Ren := ⟨fun | 284 => 219 | 129 => 128 | 317 => 305 | 318 => 306 | n => n, fun | 53 => 94 | 3 => 3 | 212 => 261 | 0 => 0 | 4 => 4 | 46 => 119 | 5 => 5 | 9 => 9 | n => n, fun | 17 => 3 | n => n⟩
theorem Tryz.laysM284 : Go.Proofs.LaysM.n284 Tryz.prog Tryz.laysM284_ren := {
  mixed := by kernel_rfl
  f129 := Tryz.func128.trans (congrArg some (by kernel_rfl))
  f284 := Tryz.func219.trans (congrArg some (by kernel_rfl))
  f317 := Tryz.func305.trans (congrArg some (by kernel_rfl))
  f318 := Tryz.func306.trans (congrArg some (by kernel_rfl))
  t0 := Tryz.underlying0
  a0 := Tryz.isAgg0
  z0 := Tryz.sizeOf0
  v0 := Tryz.zeroValue0
  t3 := Tryz.underlying3
  a3 := Tryz.isAgg3
  z3 := Tryz.sizeOf3
  v3 := Tryz.zeroValue3
  t4 := Tryz.underlying4
  a4 := Tryz.isAgg4
  z4 := Tryz.sizeOf4
  v4 := Tryz.zeroValue4
  t5 := Tryz.underlying5
  a5 := Tryz.isAgg5
  z5 := Tryz.sizeOf5
  v5 := Tryz.zeroValue5
  t9 := Tryz.underlying9
  a9 := Tryz.isAgg9
  z9 := Tryz.sizeOf9
  v9 := Tryz.zeroValue9
  t46 := Tryz.underlying119
  a46 := Tryz.isAgg119
  z46 := Tryz.sizeOf119
  v46 := Tryz.zeroValue119
  t53 := Tryz.underlying94
  a53 := Tryz.isAgg94
  z53 := Tryz.sizeOf94
  v53 := Tryz.zeroValue94
  t212 := Tryz.underlying261
  a212 := Tryz.isAgg261
  z212 := Tryz.sizeOf261
  v212 := Tryz.zeroValue261
  g17 := by kernel_rfl
  i0 := by kernel_rfl
  i3 := by kernel_rfl
  i4 := by kernel_rfl
  i5 := by kernel_rfl
  i9 := by kernel_rfl
  i46 := by kernel_rfl
  i53 := by kernel_rfl
  i212 := by kernel_rfl
  m17 := by kernel_rfl }
open Go.Lib in
/-- internal/strconv.numDigits, at a d that is not 0: THE NUMBER OF d's DECIMAL DIGITS. The world is as it was. (LAID: no walk: one application.) -/
theorem Tryz.internal_strconv_numDigits (u : Nat) (h1 : 1 ≤ u) (h2 : u < 18446744073709551616) (w : World) (htab : Lib.TabIs Tryz.prog w "internal/strconv.uint64pow10" .u64 Lib.pow10Tab) :
    Calls Tryz.prog 219 #[.int .u64 u] w fun e w' => e = .returned (.int .i64 (Lib.nDigits u)) ∧ w' = w := Any.internal_strconv_numDigits Tryz.laysM284 u h1 h2 w htab
def Tryz.lays285_ren : Go.Shelf.Ren := ⟨fun | 285 => 220 | n => n, fun | 37 => 87 | 53 => 94 | 3 => 3 | 4 => 4 | 51 => 227 | 9 => 9 | 5 => 5 | 0 => 0 | n => n, fun | n => n⟩
theorem Tryz.lays285 : Go.Proofs.Lays.n285 Tryz.prog Tryz.lays285_ren := {
  mixed := by kernel_rfl
  f285 := Tryz.func220.trans (congrArg some (by kernel_rfl))
  t0 := Tryz.underlying0
  a0 := Tryz.isAgg0
  z0 := Tryz.sizeOf0
  v0 := Tryz.zeroValue0
  t3 := Tryz.underlying3
  a3 := Tryz.isAgg3
  z3 := Tryz.sizeOf3
  v3 := Tryz.zeroValue3
  t4 := Tryz.underlying4
  a4 := Tryz.isAgg4
  z4 := Tryz.sizeOf4
  v4 := Tryz.zeroValue4
  t5 := Tryz.underlying5
  a5 := Tryz.isAgg5
  z5 := Tryz.sizeOf5
  v5 := Tryz.zeroValue5
  t9 := Tryz.underlying9
  a9 := Tryz.isAgg9
  z9 := Tryz.sizeOf9
  v9 := Tryz.zeroValue9
  t37 := Tryz.underlying87
  a37 := Tryz.isAgg87
  z37 := Tryz.sizeOf87
  v37 := Tryz.zeroValue87
  t51 := Tryz.underlying227
  a51 := Tryz.isAgg227
  z51 := Tryz.sizeOf227
  v51 := Tryz.zeroValue227
  t53 := Tryz.underlying94
  a53 := Tryz.isAgg94
  z53 := Tryz.sizeOf94
  v53 := Tryz.zeroValue94 }
open Go.RowKit Go.Sort Go.Lib in
/-- internal/strconv.formatBase10: "formatBase10 formats the decimal representation of u into a. The caller is responsible for ensuring that a is big enough to hold u. If a is too big, leading zeros will be filled in as needed.": THE ROW HOLDS u's DIGITS ('FmtInv .. 0 ..': every place t holds 'dg u (len - 1 - t)'); all else is as it was but for the count of draws. (LAID: no walk: one application.) -/
theorem Tryz.internal_strconv_formatBase10 (blk off cap : Nat) (u : Nat) (d : Array UInt8) (w : World) (hH : Holds (fun (b : UInt8) => Value.int .u8 (b.toNat : Int)) w blk off d) (hu : u < 10 ^ d.size) (hu64 : u < 18446744073709551616) (hsz : d.size < 4611686018427387904) :
    Calls Tryz.prog 220 #[.slice (some ⟨blk, off, none⟩) d.size cap, .int .u64 u] w fun e w' =>
      e = .returned (.tuple #[]) ∧ ∃ (n v' : Nat) (dk : Array UInt8), w' = (putRow (fun (b : UInt8) => Value.int .u8 (b.toNat : Int)) w blk off dk).drewN n ∧ FmtInv d.size u 0 v' dk := Any.internal_strconv_formatBase10 Tryz.lays285 blk off cap u d w hH hu hu64 hsz
end Go.Proofs
/- strconv.FormatUint at base 10; num.digitsOf. -/
namespace Go.Proofs.YtndhmahkglfopaaGreatDoor
open Go.RowKit Go.Sort Go.Lib
/-- The library's table of powers stands where it stood. -/
def Tab (w : World) : Prop := Lib.TabIs Tryz.prog w "internal/strconv.uint64pow10" .u64 Lib.pow10Tab
theorem tab_named : Tryz.prog.globalNamed "internal/strconv.uint64pow10" = some 3 := by kernel_rfl
theorem Tab.of_block {w w' : World} (h : Tab w) (hb : w'.heap[3]? = w.heap[3]?) : Tab w' := by
  unfold Tab Lib.TabIs World.var? at *
  rw [tab_named] at h ⊢
  simp only [Option.bind_some] at h ⊢
  rw [hb]
  exact h
theorem Tab.lt {w : World} (h : Tab w) : 3 < w.heap.size := by
  unfold Tab Lib.TabIs World.var? at h
  rw [tab_named] at h
  simp only [Option.bind_some] at h
  rcases Nat.lt_or_ge 3 w.heap.size with h' | h'
  · exact h'
  · rw [Array.getElem?_eq_none h'] at h; cases h
theorem Tab.below {w w' : World} (h : Tab w) (hb : Below w.heap.size w w') : Tab w' := h.of_block (hb.block 3 h.lt)
theorem below_row0 (w : World) (o : Obj) (dk : Array UInt8) (k : Nat) : Below w.heap.size w ((putRow (fun (b : UInt8) => Value.int .u8 (b.toNat : Int)) (w.alloc o) w.heap.size 0 dk).drewN k) := by
  rw [alloc_eq_grow]
  obtain ⟨os', _, e⟩ := putRow_grow_new (fun (b : UInt8) => Value.int .u8 (b.toNat : Int)) w #[o] w.heap.size 0 dk (Nat.le_refl _)
  rw [e]
  exact below_grow w.heap.size w (Nat.le_refl _) k os'
set_option maxHeartbeats 1000000 in
set_option maxRecDepth 100000 in
theorem fmtU_small (u : Nat) (hu : u < 100) (w : World) : Calls Tryz.prog 129 #[.int .u64 u, .int .i64 10] w fun e w' => e = .returned (.string ⟨(Lib.decDigits u).toArray⟩) ∧ Below w.heap.size w w' := by
  have wd : IntKind.i64.wrap (u : Int) = (u : Int) := IntWalk.i64_in _ (by omega)
  go_enter Tryz.func129, Tryz.ntmps129
  go_wp2_with fail
  refine (Tryz.internal_strconv_small u hu _).mono ?_
  rintro e w1 ⟨rfl, rfl⟩
  go_wp2_with fail
  go_ret
  exact ⟨rfl, Below.refl _ _⟩
set_option maxHeartbeats 1000000 in
set_option maxRecDepth 100000 in
theorem fmtU_big (u : Nat) (hu : 100 ≤ u) (hu64 : u < 18446744073709551616) (w : World) (htab : Tab w) : Calls Tryz.prog 129 #[.int .u64 u, .int .i64 10] w fun e w' => e = .returned (.string ⟨(Lib.decDigits u).toArray⟩) ∧ Below w.heap.size w w' := by
  have hu1 : 1 ≤ u := by omega
  have hnd20 : Lib.nDigits u ≤ 20 := by have := Lib.numDigits_eq u hu1 hu64; split at this <;> omega
  have hb3 : Lib.nDigits u ≤ 24 := by omega
  have hal : Tryz.prog.arrayLen 189 = 24 := by kernel_rfl
  have hsl1 : ∀ W, (Instr.sliceAt 189 (.pointer (some ⟨w.heap.size, 0, none⟩)) none (some (.int .i64 (Lib.nDigits u : Int))) none).run Tryz.prog W = .ok (.slice (some ⟨w.heap.size, 0, none⟩) (Lib.nDigits u) 24) W := fun W => by
    rw [run_sliceAt_array_h W 189 ⟨w.heap.size, 0, none⟩ (by kernel_rfl) .i64 (Lib.nDigits u : Int) (by omega) (by rw [hal]; omega)]
    go_simp
  have hH0 := Lib.holds_zero0 w 189 (Lib.nDigits u) (by omega)
  have hfmt := Tryz.internal_strconv_formatBase10 w.heap.size 0 24 u (Array.replicate (Lib.nDigits u) 0) (w.alloc (.cells Lib.zeros24 189)) hH0 (by rw [Array.size_replicate]; exact Lib.lt_pow_nDigits u) hu64 (by rw [Array.size_replicate]; omega)
  rw [Array.size_replicate] at hfmt
  have HH0 := Lib.hid hH0
  have HT := Lib.hid htab
  clear hH0 hal htab
  go_enter Tryz.func129, Tryz.ntmps129
  go_wp2_with fail
  refine (Tryz.internal_strconv_numDigits u hu1 hu64 _ (Lib.tabIs_alloc HT.out _)).mono ?_
  rintro e w1 ⟨rfl, rfl⟩
  go_wp2_with fail
  refine hfmt.mono ?_
  rintro e w1 ⟨rfl, k, v', dk, rfl, hF⟩
  have hcv : (convert 87 9 (.slice (some ⟨w.heap.size, 0, none⟩) (Lib.nDigits u) 24)).run Tryz.prog ((putRow (fun (b : UInt8) => Value.int .u8 (b.toNat : Int)) (w.alloc (.cells Lib.zeros24 189)) w.heap.size 0 dk).drewN k) = .ok (.string ⟨(Lib.decDigits u).toArray⟩) ((putRow (fun (b : UInt8) => Value.int .u8 (b.toNat : Int)) (w.alloc (.cells Lib.zeros24 189)) w.heap.size 0 dk).drewN k) := by
    have h := run_convert_bytes_back (P := Tryz.prog) ((putRow (fun (b : UInt8) => Value.int .u8 (b.toNat : Int)) (w.alloc (.cells Lib.zeros24 189)) w.heap.size 0 dk).drewN k) 87 9 5 ⟨w.heap.size, 0, none⟩ 24 (Lib.decDigits u) Tryz.underlying87 Tryz.underlying5 Tryz.underlying9 (fun j hj => by
      rw [Lib.row_is_numeral hF j hj, Lib.add_plain, World.cell?_drewN]
      exact cell?_putRow (fun (b : UInt8) => Value.int .u8 (b.toNat : Int)) _ w.heap.size 0 _ dk HH0.out (by rw [hF.size, Array.size_replicate]) j (by rw [hF.size]; rw [Lib.decDigits_length] at hj; exact hj))
    rw [Lib.decDigits_length] at h
    exact h
  have HB := Lib.hid (below_row0 w (.cells Lib.zeros24 189) dk k)
  clear hF hfmt
  go_wp2_with fail
  go_ret
  exact ⟨rfl, HB.out⟩
theorem fmtU_any (u : Nat) (hu64 : u < 18446744073709551616) (w : World) (htab : Tab w) : Calls Tryz.prog 129 #[.int .u64 u, .int .i64 10] w fun e w' => e = .returned (.string ⟨(Lib.decDigits u).toArray⟩) ∧ Below w.heap.size w w' := by
  by_cases hu : u < 100
  · exact fmtU_small u hu w
  · exact fmtU_big u (by omega) hu64 w htab
set_option maxHeartbeats 1000000 in
theorem fmtUint_any (u : Nat) (hu64 : u < 18446744073709551616) (w : World) (htab : Tab w) : Calls Tryz.prog 102 #[.int .u64 u, .int .i64 10] w fun e w' => e = .returned (.string ⟨(Lib.decDigits u).toArray⟩) ∧ Below w.heap.size w w' := by
  have HC := Lib.hid (fmtU_any u hu64 w htab)
  clear htab
  go_enter Tryz.func102, Tryz.ntmps102
  go_wp2_with fail
  refine HC.out.mono ?_
  rintro e w1 ⟨rfl, hb⟩
  have HB := Lib.hid hb
  clear hb
  go_wp2_with fail
  go_ret
  exact ⟨rfl, HB.out⟩
end Go.Proofs.YtndhmahkglfopaaGreatDoor
/- num.digitsOf. -/
namespace Go.Proofs.YtndhmahkglfopaaGreatDoor
open Go.RowKit Go.Sort Go.Lib
/-- An owned row stays while its block stays. -/
theorem own_keep {w w' : World} {B : Nat} {e : TypeId} {size : Nat} {v : Value} {n : Nat} {xs : List Value} (h : w.ownsRow B e size v n xs) (hb : ∀ (k : Nat) (c : Array Value), w.heap[k]? = some (Obj.cells c e (0, 0)) → w'.heap[k]? = w.heap[k]?) : w'.ownsRow B e size v n xs := by
  refine ⟨h.1, ?_⟩
  rcases h.2 with h2 | ⟨g, cap, cur, hv, hg, hh, r⟩
  · exact .inl h2
  · exact .inr ⟨g, cap, cur, hv, hg, (hb g cur hh).trans hh, r⟩
theorem own_move {w : World} {B e size n : Nat} {v : Value} {xs : List Value} {k : Nat} {s : ByteArray} {pos : Nat} (h : w.ownsRow B e size v n xs) (hk : w.heap[k]? = some (.stringIter s pos)) (pos' : Nat) : (w.iterAt k s pos').ownsRow B e size v n xs :=
  own_keep h fun j c hj => Lib.iterAt_other w k j s pos' (fun e => by rw [e, hk] at hj; cases hj)
theorem own_not_iter {w : World} {B e size n : Nat} {v : Value} {xs : List Value} {k : Nat} {s : ByteArray} {pos : Nat} (h : w.ownsRow B e size v n xs) (hk : w.heap[k]? = some (.stringIter s pos)) : ∀ j, v.ownBlock = some j → j ≠ k := by
  intro j hj e
  rcases h.2 with ⟨h2, _⟩ | ⟨g, cap, cur, hv, _, hh, _⟩
  · rw [h2] at hj; cases hj
  · rw [hv] at hj
    simp [Value.ownBlock] at hj
    rw [hj, e, hk] at hh
    cases hh
theorem dec_range : ∀ (k n : Nat), n ≤ k → ∀ b ∈ Lib.decDigits n, 48 ≤ b.toNat ∧ b.toNat ≤ 57
  | k, n, h, b, hb => by
    rw [Lib.decDigits] at hb
    split at hb
    · rename_i h10
      rw [List.mem_singleton.1 hb]
      have : (48 + n) % 256 = 48 + n := by omega
      simp [UInt8.toNat_ofNat']
      omega
    · rename_i h10
      rcases List.mem_append.1 hb with hb | hb
      · cases k with
        | zero => omega
        | succ k => exact dec_range k (n / 10) (by omega) b hb
      · rw [List.mem_singleton.1 hb]
        simp [UInt8.toNat_ofNat']
        omega
/-- The digits of a number, the first one first. -/
def digs (n : Nat) : List Nat := (Lib.decDigits n).map (fun b => b.toNat - 48)
theorem digs_len (n : Nat) : (digs n).length = (Lib.decDigits n).length := by simp [digs]
theorem dec_pos (n : Nat) : 0 < (Lib.decDigits n).length := by
  rw [Lib.decDigits]
  split <;> simp
theorem dec_le (n : Nat) (h : n < 18446744073709551616) : (Lib.decDigits n).length ≤ 20 := by
  rw [Lib.decDigits_length]
  by_cases h0 : n = 0
  · subst h0; rw [Lib.nDigits_small (by omega)]; omega
  · have := Lib.numDigits_eq n (by omega) h
    split at this <;> omega
theorem digs_small (n : Nat) : ∀ d ∈ digs n, d < 256 := by
  intro d hd
  obtain ⟨b, hb, rfl⟩ := List.mem_map.1 hd
  have := dec_range n n (Nat.le_refl _) b hb
  omega
/-- What a call hands back: digits in memory of its own. -/
def DigPost (w : World) (D : List Nat) (e : Ending) (w' : World) : Prop := ∃ v, e = .returned v ∧ w'.ownsRow w.heap.size 5 1 v D.length (D.map dv) ∧ Below w.heap.size w w'
set_option maxHeartbeats 1000000 in
set_option maxRecDepth 100000 in
theorem digitsOf_any (n : Nat) (hn : n < 18446744073709551616) (w : World) (htab : Tab w) : Calls Tryz.prog 63 #[.int .u64 n] w (DigPost w (digs n)) := by
  have hl20 := dec_le n hn
  have HC := Lib.hid (fmtUint_any n hn w htab)
  have hrg := dec_range n n (Nat.le_refl _)
  have HDL := Lib.hid (digs_len n)
  obtain ⟨L, hL⟩ : ∃ L, L = Lib.decDigits n := ⟨_, rfl⟩
  have HDG : Hid (digs n = L.map (fun b => b.toNat - 48)) := by rw [hL]; rfl
  rw [← hL] at HC hrg hl20 HDL
  have HRG := Lib.hid hrg
  obtain ⟨i0, hi, hz0, hz1, hz2⟩ := info_parts info5
  have HI := Lib.hid hi
  have HZ0 := Lib.hid hz0
  have HZ1 := Lib.hid hz1
  have HZ2 := Lib.hid hz2
  clear htab hL hrg hi hz0 hz1 hz2 hn
  go_enter Tryz.func63, Tryz.ntmps63
  go_wp2_with fail
  refine HC.out.mono ?_
  rintro e w1 ⟨rfl, hb1⟩
  have HB1 := Lib.hid hb1
  obtain ⟨s, hs⟩ : ∃ s : ByteArray, s = ⟨L.toArray⟩ := ⟨_, rfl⟩
  rw [← hs]
  have hsz : s.size = L.length := by rw [hs]; simp [ByteArray.size]
  have HS := Lib.hid hs
  have HSZ := Lib.hid hsz
  have hs20 : s.size ≤ 20 := by omega
  obtain ⟨wm, hmk, hown0, hgr0⟩ := run_make_own (P := Tryz.prog) w1 w.heap.size 87 5 i0 (.int .u8 0) 1 Tryz.underlying87 HI.out HZ0.out HZ1.out .i64 .i64 s.size (by rw [HZ2.out]; omega) (by unfold maxLen; omega) HB1.out.size
  have HOWN := Lib.hid hown0
  have HGR := Lib.hid hgr0
  clear hb1 hs hsz hown0 hgr0
  go_wp2_with fail
  clear hmk
  have hkI : (wm.iter s 0).heap[wm.heap.size]? = some (.stringIter s 0) := World.iter_heap wm s 0
  have hbm : Below w.heap.size w wm := HB1.out.grown HGR.out HB1.out.size (fun k e => by cases e)
  have R0 : Hid ((wm.iter s 0).heap[wm.heap.size]? = some (.stringIter s 0) ∧ (wm.iter s 0).ownsRow w.heap.size 5 1 (.slice (some ⟨w1.heap.size, 0, none⟩) 0 s.size) 0 (((digs n).take 0).map dv) ∧ Below w.heap.size w (wm.iter s 0)) :=
    ⟨hkI, HOWN.out.alloc _, hbm.alloc hbm.size _⟩
  have HBM := Lib.hid hbm
  clear hkI hbm HOWN HGR
  go_loopw [4] (fun v wr => ∃ pos : Nat, pos ≤ s.size ∧ Hid (wr.heap[wm.heap.size]? = some (.stringIter s pos) ∧ wr.ownsRow w.heap.size 5 1 v pos (((digs n).take pos).map dv) ∧ Below w.heap.size w wr)) (fun _ wr => s.size - wr.iterPos wm.heap.size)
  case atStart => exact ⟨0, Nat.zero_le _, R0⟩
  case round =>
    clear R0
    obtain ⟨pos, hps, hR⟩ := hrel
    obtain ⟨hk, hrow, hbw⟩ := hR.out
    have hmu : wr.iterPos wm.heap.size = pos := by simp [World.iterPos, hk]
    by_cases hp : pos < s.size
    · obtain ⟨c, hc⟩ : ∃ c, L[pos]? = some c := ⟨_, List.getElem?_eq_getElem (by rw [← HSZ.out]; exact hp)⟩
      have hrg := HRG.out c (List.mem_of_getElem? hc)
      have hsc : s[pos]'hp = c := by
        have h2 : s.data.toList[pos]? = some c := by rw [HS.out]; exact hc
        have h3 := Lib.getD_at s pos hp
        rw [h3]
        simp [List.getD, h2]
      have h128 : (s[pos]'hp).toNat < 128 := by rw [hsc]; omega
      have hnext : ∀ ty, (Instr.next (.pointer (some ⟨wm.heap.size, 0, none⟩)) true ty).run Tryz.prog wr = _ := fun ty => Lib.run_next_ascii_at wr wm.heap.size s pos ty hk hp h128
      rw [hsc] at hnext
      have hk1 := Lib.iterAt_heap wr wm.heap.size s pos (pos + 1) hk
      have hrow1 := own_move hrow hk (pos + 1)
      have hnx1 : Below w.heap.size w (wr.iterAt wm.heap.size s (pos + 1)) := Lib.below_iterAt hbw HBM.out.size s (pos + 1)
      have hds : (digs n)[pos]? = some (c.toNat - 48) := by rw [HDG.out, List.getElem?_map, hc]; rfl
      have HTK : Hid (((digs n).take (pos + 1)).map dv = ((digs n).take pos).map dv ++ [.int .u8 ((c.toNat - 48 : Nat) : Int)]) := by unfold Hid; rw [List.take_add_one, hds, List.map_append]; rfl
      obtain ⟨d, hd⟩ : ∃ d, d = c.toNat - 48 := ⟨_, rfl⟩
      rw [← hd] at HTK
      have w32 : IntKind.i32.wrap ((c.toNat : Int) - 48) = (d : Int) := by rw [hd, show ((c.toNat : Int) - 48) = ((c.toNat - 48 : Nat) : Int) by omega]; exact IntWalk.i32_in _ (by omega)
      have w8 : IntKind.u8.wrap (d : Int) = (d : Int) := IntWalk.u8_in _ (by omega)
      generalize c.toNat = cc at hnext w32
      generalize wr.iterAt wm.heap.size s (pos + 1) = W1 at hnext hk1 hrow1 hnx1
      have HK1 := Lib.hid hk1
      have HROW1 := Lib.hid hrow1
      have HNX1 := Lib.hid hnx1
      have HNI := Lib.hid (own_not_iter hrow1 hk1)
      have HMU := Lib.hid hmu
      have hz := hnx1.size
      have hkl := lt_of_heap hk1
      clear hR hk hrow hbw hc hrg hsc h128 hk1 hrow1 hnx1 hds hd hmu
      go_wp2_with (at_builtin; refine wpList_append_own_at _ rfl _ _ 87 rfl w.heap.size 5 i0 (.int .u8 0) 1 1 Tryz.underlying87 HI.out HZ0.out HZ1.out HZ2.out rfl (by decide) _ _ _ rfl (HROW1.out.alloc _) ⟨_, 0, none⟩ 1 1 [.int .u8 d] rfl rfl (fun j u hj => cells_new W1 #[.int .u8 d] 5 j u hj) (by simp [Value.oneCell']) (by unfold maxLen; omega) (by omega) (by simp; omega) ?_; intro v' wN hown hgrow _ _)
      have hkN : wN.heap[wm.heap.size]? = some (.stringIter s (pos + 1)) := (hgrow.block _ (by simp; omega) (fun e => HNI.out _ e.symm rfl)).trans (heap_alloc_old HK1.out _)
      have hmu2 : wN.iterPos wm.heap.size = pos + 1 := by simp [World.iterPos, hkN]
      have hbN : Below w.heap.size w wN := (HNX1.out.alloc hz _).grown hgrow (by simp; omega) (fun k e => (HROW1.out.lt k e).1)
      go_roundw
      case rel => exact ⟨pos + 1, by omega, hkN, by rw [HTK.out]; exact hown, hbN⟩
      case measure =>
        rw [HMU.out, hmu2]
        omega
    · have hnext : ∀ ty, (Instr.next (.pointer (some ⟨wm.heap.size, 0, none⟩)) true ty).run Tryz.prog wr = _ := fun ty => Lib.run_next_end_at wr wm.heap.size s pos ty hk hp
      have HROW : Hid (wr.ownsRow w.heap.size 5 1 u4 (digs n).length ((digs n).map dv)) := by
        have hlen : (digs n).length = pos := by rw [HDL.out, ← HSZ.out]; omega
        have := hrow
        rw [List.take_of_length_le (by omega)] at this
        unfold Hid
        rw [hlen]
        exact this
      have HBW := Lib.hid hbw
      clear hR hk hrow hbw hmu
      go_wp2_with fail
      go_ret
      exact ⟨_, rfl, HROW.out, HBW.out⟩
end Go.Proofs.YtndhmahkglfopaaGreatDoor
/- num.Parse: what it tells, plainly. -/
namespace Go.Proofs.YtndhmahkglfopaaGreatDoor
open Go.RowKit
theorem finP_right (neg : Bool) (D : List Nat) (e : Int) : numR (finP neg D e).1.1 (finP neg D e).1.2 = true := by
  unfold finP
  split
  · assumption
  · rfl
theorem stg2_right (neg : Bool) (D : List Nat) (e : Int) : numR (stg2 neg D e).1.1 (stg2 neg D e).1.2 = true := by
  unfold stg2
  split
  · split
    · rfl
    · exact finP_right _ _ _
  · exact finP_right _ _ _
theorem roundP_right (neg : Bool) (D : List Nat) (e : Int) : numR (roundP neg D e).1.1 (roundP neg D e).1.2 = true := by
  unfold roundP
  split
  · rfl
  · split
    · rfl
    · unfold stg1
      split <;> exact stg2_right _ _ _
/-- Where a reader of a number's text stands. -/
structure RS where
  st : Int
  ng : Bool
  np : Bool
  D : List Nat
  bh : Nat
  pw : Nat
def RS0 : RS := ⟨0, false, false, [], 0, 0⟩
def digitP (r : RS) (c : Nat) : RS :=
  if r.st ≤ 2 then ⟨2, r.ng, r.np, r.D ++ [c - 48], r.bh, r.pw⟩
  else if r.st ≤ 4 then ⟨4, r.ng, r.np, r.D ++ [c - 48], r.bh + 1, r.pw⟩
  else ⟨7, r.ng, r.np, r.D, r.bh, if r.pw < 100000 then r.pw * 10 + (c - 48) else r.pw⟩
def takeP (r : RS) (c : Nat) : Option RS :=
  if 48 ≤ c ∧ c ≤ 57 then some (digitP r c)
  else if c = 45 ∧ r.st = 0 then some ⟨1, true, r.np, r.D, r.bh, r.pw⟩
  else if c = 46 ∧ r.st ≤ 2 then some ⟨3, r.ng, r.np, r.D, r.bh, r.pw⟩
  else if (c = 101 ∨ c = 69) ∧ (r.st = 2 ∨ r.st = 4) then some ⟨5, r.ng, r.np, r.D, r.bh, r.pw⟩
  else if (c = 45 ∨ c = 43) ∧ r.st = 5 then some ⟨6, r.ng, decide (c = 45), r.D, r.bh, r.pw⟩
  else none
def endP (r : RS) : (Int × Int) × Bool :=
  if r.st = 2 ∨ r.st = 4 ∨ r.st = 7 then roundP r.ng r.D ((if r.np then -(r.pw : Int) else (r.pw : Int)) - r.bh) else ((0, 0), false)
def readP (s : ByteArray) : Nat → Nat → RS → Option RS
  | 0, _, r => some r
  | n + 1, pos, r => if pos < s.size then (match takeP r (Utf8.decode s pos).1 with | none => none | some r' => readP s n (pos + (Utf8.decode s pos).2) r') else some r
def parseP (s : ByteArray) : (Int × Int) × Bool :=
  match readP s s.size 0 RS0 with
  | none => ((0, 0), false)
  | some r => endP r
theorem readP_end {s : ByteArray} {n pos : Nat} {r : RS} (h : ¬ pos < s.size) : readP s n pos r = some r := by
  cases n with
  | zero => rfl
  | succ n => unfold readP; rw [if_neg h]
theorem readP_go {s : ByteArray} {n pos : Nat} {r : RS} (h : pos < s.size) {r' : RS} (ht : takeP r (Utf8.decode s pos).1 = some r') : readP s (n + 1) pos r = readP s n (pos + (Utf8.decode s pos).2) r' := by
  rw [readP, if_pos h, ht]
theorem readP_no {s : ByteArray} {n pos : Nat} {r : RS} (h : pos < s.size) (ht : takeP r (Utf8.decode s pos).1 = none) : readP s (n + 1) pos r = none := by
  rw [readP, if_pos h, ht]
theorem dec_width (s : ByteArray) (pos : Nat) (h : pos < s.size) : 1 ≤ (Utf8.decode s pos).2 := by
  by_cases ha : (s[pos]'h).toNat < 128
  · rw [decode_ascii s pos h ha]
    exact Nat.le_refl _
  · exact (decode_high s pos h (by omega)).2
/-- What holds of a reader that has read so many letters. -/
structure RS.Ok (r : RS) (n : Nat) : Prop where
  st0 : 0 ≤ r.st
  st7 : r.st ≤ 7
  len : r.D.length ≤ n
  bh : r.bh ≤ n
  pw : r.pw ≤ 1000000
  small : ∀ d ∈ r.D, d < 10
  some : r.st = 2 ∨ 4 ≤ r.st → r.D ≠ []
theorem RS.ok0 : RS.Ok RS0 0 := ⟨by simp [RS0], by simp [RS0], by simp [RS0], by simp [RS0], by simp [RS0], fun d h => by simp [RS0] at h, fun h => by simp [RS0] at h⟩
theorem takeP_ok {r r' : RS} {n c : Nat} (h : r.Ok n) (ht : takeP r c = Option.some r') : r'.Ok (n + 1) := by
  obtain ⟨h1, h2, h3, h4, h5, h6, h7⟩ := h
  unfold takeP at ht
  split at ht
  · rename_i hc
    cases ht
    have hs : ∀ d ∈ r.D ++ [c - 48], d < 10 := by
      intro d hd
      rcases List.mem_append.1 hd with hd | hd
      · exact h6 d hd
      · rw [List.mem_singleton.1 hd]; omega
    unfold digitP
    split
    · exact ⟨by simp, by simp, by simp; omega, by simp; omega, h5, hs, fun _ => by simp⟩
    · split
      · exact ⟨by simp, by simp, by simp; omega, by simp; omega, h5, hs, fun _ => by simp⟩
      · rename_i h8 h9
        refine ⟨by simp, by simp, by simp; omega, by simp; omega, ?_, h6, fun _ => h7 (by omega)⟩
        simp only
        split <;> omega
  · split at ht
    · rename_i hc; cases ht
      exact ⟨by simp, by simp, by simp; omega, by simp; omega, h5, h6, fun h => by simp at h⟩
    · split at ht
      · cases ht
        exact ⟨by simp, by simp, by simp; omega, by simp; omega, h5, h6, fun h => by simp at h⟩
      · split at ht
        · rename_i hc
          cases ht
          exact ⟨by simp, by simp, by simp; omega, by simp; omega, h5, h6, fun _ => h7 (by omega)⟩
        · split at ht
          · rename_i hc
            cases ht
            exact ⟨by simp, by simp, by simp; omega, by simp; omega, h5, h6, fun _ => h7 (by omega)⟩
          · cases ht
end Go.Proofs.YtndhmahkglfopaaGreatDoor
