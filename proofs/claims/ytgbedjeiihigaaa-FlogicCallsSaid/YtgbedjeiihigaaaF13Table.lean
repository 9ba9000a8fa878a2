/- The table of functions: a map from names to how many arguments they take and what they are. -/
import Derived.Test.YtgbedjeiihigaaaF13Truths1
import Derived.Shelf.Abstract
namespace Go.Proofs.Ytgbedjeiihigaaa
open Go.RowKit
theorem string_fits {P : Program} {kt : TypeId} (hk : P.underlying kt = some .string) : KeyFits P kt Value.string where
  inj h := by injection h
  check w em k := MapKept.run_checkKey (k := Value.string k) hk trivial em 9999
  find w k es hes := by
    have hks : ∀ y ∈ es, MapKept.IsKey .string y.key := fun y hy => by obtain ⟨k', h⟩ := hes y hy; rw [h]; trivial
    rcases MapKept.findNow_spec (d := .string) (k := Value.string k) trivial es 0 hks with ⟨h1, h2⟩ | ⟨j, e0, h1, h2, h3⟩
    · exact Or.inl ⟨MapKept.run_findKey hk h1, h2⟩
    · exact Or.inr ⟨j, e0, by simpa using MapKept.run_findKey hk h1, h2, h3⟩
  stays w k := MapKept.run_keyThatStays (d := .string) trivial
set_option maxHeartbeats 400000 in
theorem truths_any (g : Nat) (w : World) : Calls Try.prog 31 #[.func (.func g) #[] #[]] w fun e w' => e = .returned (.func (.func 51) #[] #[.pointer (some ⟨w.heap.size, 0, none⟩)]) ∧ w' = w.alloc (.cells #[.func (.func g) #[] #[]] 63) := by
  go_enter Try.func31, Try.ntmps31
  go_wp2
  go_ret
  exact ⟨rfl, rfl⟩
set_option maxHeartbeats 400000 in
theorem each_any (f : Fn) (c : Array Value) (w : World) : Calls Try.prog 35 #[.func f #[] c] w fun e w' => e = .returned (.func (.func 54) #[] #[.pointer (some ⟨w.heap.size, 0, none⟩)]) ∧ w' = w.alloc (.cells #[.func f #[] c] 65) := by
  go_enter Try.func35, Try.ntmps35
  go_wp2
  go_ret
  exact ⟨rfl, rfl⟩
set_option maxHeartbeats 400000 in
theorem kind_any (k : Int) (w : World) : Calls Try.prog 37 #[.int .i64 k] w fun e w' => e = .returned (.func (.func 56) #[] #[.pointer (some ⟨w.heap.size, 0, none⟩)]) ∧ w' = w.alloc (.cells #[.int .i64 k] 3) := by
  go_enter Try.func37, Try.ntmps37
  go_wp2
  go_ret
  exact ⟨rfl, rfl⟩
def sAND : ByteArray := ⟨#[65, 78, 68]⟩
def sOR : ByteArray := ⟨#[79, 82]⟩
def sXOR : ByteArray := ⟨#[88, 79, 82]⟩
def sNOT : ByteArray := ⟨#[78, 79, 84]⟩
def sBLANK : ByteArray := ⟨#[73, 83, 66, 76, 65, 78, 75]⟩
def sNUMBER : ByteArray := ⟨#[73, 83, 78, 85, 77, 66, 69, 82]⟩
def sTEXT : ByteArray := ⟨#[73, 83, 84, 69, 88, 84]⟩
def sLOGICAL : ByteArray := ⟨#[73, 83, 76, 79, 71, 73, 67, 65, 76]⟩
def sERROR : ByteArray := ⟨#[73, 83, 69, 82, 82, 79, 82]⟩
def sNA : ByteArray := ⟨#[78, 65]⟩
def fnV (least most : Int) (f : Nat) (c : Array Value) : Value := .agg #[.int .i64 least, .int .i64 most, .func (.func f) #[] c]
def ptrV (b : Nat) : Value := .pointer (some ⟨b, 0, none⟩)
def tbl (b1 b2 b3 b4 b5 b6 b7 b8 b9 : Nat) : List (ByteArray × Value) :=
  [(sAND, fnV 1 32 51 #[ptrV b1]), (sOR, fnV 1 32 51 #[ptrV b2]), (sXOR, fnV 1 32 51 #[ptrV b3]), (sNOT, fnV 1 1 54 #[ptrV b4]), (sBLANK, fnV 1 1 54 #[ptrV b5]), (sNUMBER, fnV 1 1 54 #[ptrV b6]),
   (sTEXT, fnV 1 1 54 #[ptrV b7]), (sLOGICAL, fnV 1 1 54 #[ptrV b8]), (sERROR, fnV 1 1 54 #[ptrV b9]), (sNA, fnV 0 0 38 #[])]
/-- A function of one value, in a block of its own: whether it is of kind k. -/
def KindAt (w : World) (b : Nat) (k : Int) : Prop := ∃ q, w.heap[b]? = some (.cells #[.func (.func 56) #[] #[ptrV q]] 65) ∧ w.heap[q]? = some (.cells #[.int .i64 k] 3)
structure TableAt (w : World) (B b1 b2 b3 b4 b5 b6 b7 b8 b9 : Nat) : Prop where
  map : MapIs w B Value.string id (tbl b1 b2 b3 b4 b5 b6 b7 b8 b9)
  c1 : w.heap[b1]? = some (.cells #[.func (.func 32) #[] #[]] 63)
  c2 : w.heap[b2]? = some (.cells #[.func (.func 33) #[] #[]] 63)
  c3 : w.heap[b3]? = some (.cells #[.func (.func 34) #[] #[]] 63)
  c4 : w.heap[b4]? = some (.cells #[.func (.func 36) #[] #[]] 65)
  c5 : KindAt w b5 0
  c6 : KindAt w b6 1
  c7 : KindAt w b7 2
  c8 : KindAt w b8 3
  c9 : KindAt w b9 4
def TablePost (w : World) (e : Ending) (w' : World) : Prop := ∃ B b1 b2 b3 b4 b5 b6 b7 b8 b9, e = .returned (.map (some B)) ∧ TableAt w' B b1 b2 b3 b4 b5 b6 b7 b8 b9 ∧ Below w.heap.size w w'
end Go.Proofs.Ytgbedjeiihigaaa
