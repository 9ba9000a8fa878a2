/-
  No cell of these rows narrows 'for every input' (looked for: loops, veiled, ifaces, maps, wideKeys, modest, calm, conditions, laid).
  DERIVED. THE GIVEN ROWS OF THIS SEAT. 5 by the template 'for every input the law returns true; each argument reads behind the call as it read before'; 0 by the template 'total and deterministic' (their statements: YtgbedjeiihigaaaTotals.lean).
  GIVEN WITH THE SEED: the statements are not yours to turn. If you find one false, say at which input.
  Laid BY PROGRAM, IN A SANDBOX (cutbox-rows.mjs): the forced cells as the released guide's own fill.sh prints them over the translation a5c42bfdb6741561… (all of the seat's roots in one cut). By AI agents, Wed Nov 11 2026. No macro, syntax, notation, axiom, sorry.
-/
import Derived.Test.YtgbedjeiihigaaaChecked
import GoSem.Claim
import GoSem.ClaimJoined
import GoSem.ClaimMapViews
import Derived.JoinedTies
import Derived.KernelRfl
namespace Go.Proofs.Ytgbedjeiihigaaa
/- THE CELL 'sum', in the pinned program and in every row, IS THE sha256 OF THE DUMP (.gsa) THAT YtgbedjeiihigaaaProg.lean LOADS. Nothing in Lean hashes anything: it is a label: what it is worth is what the hold of that sum in a sandbox is worth. -/
noncomputable def Try.pinned : Pinned := { name := "ytgbedjeiihigaaa", sum := "a5c42bfdb6741561f7511cc8711cfbbeef6d077e4baae6adf399ad8515ad10e4", checked := Try.checked }
namespace Rows
def none {H : Type} : Left H := { results := [], args := [] }

/-- 'counterpanelaw13.FlogicTurns': WHATEVER THE INPUT: true; the input reads as it did. -/
def flogicTurnsSpec : ChangeSpec := { name := "flogicTurns", fn := fun _ => fun
  | [d1, d2] => { results := [.lit (.bool true)], args := [d1, d2] }
  | _ => none }
def flogicTurnsRow : OpenClaim := { program := "ytgbedjeiihigaaa", sum := "a5c42bfdb6741561f7511cc8711cfbbeef6d077e4baae6adf399ad8515ad10e4", func := "counterpane/counterpanelaw13.FlogicTurns", spec := "flogicTurns", unfollowed := true, recurses := true, apart := false }
def FlogicTurnsSaid : Prop := flogicTurnsRow.holds Try.pinned (OpenSpec.ofChange flogicTurnsSpec)

/-- ITS FALSE NEIGHBOUR: 'it returns false'. Refute it at one input. -/
def flogicTurnsWrong : ChangeSpec := { name := "flogicTurns", fn := fun _ => fun
  | [d1, d2] => { results := [.lit (.bool false)], args := [d1, d2] }
  | _ => none }
def FlogicTurnsWrongFalsely : Prop := flogicTurnsRow.holds Try.pinned (OpenSpec.ofChange flogicTurnsWrong)

/-- 'counterpanelaw13.FlogicKinds': WHATEVER THE INPUT: true; the input reads as it did. -/
def flogicKindsSpec : ChangeSpec := { name := "flogicKinds", fn := fun _ => fun
  | [d] => { results := [.lit (.bool true)], args := [d] }
  | _ => none }
def flogicKindsRow : OpenClaim := { program := "ytgbedjeiihigaaa", sum := "a5c42bfdb6741561f7511cc8711cfbbeef6d077e4baae6adf399ad8515ad10e4", func := "counterpane/counterpanelaw13.FlogicKinds", spec := "flogicKinds", unfollowed := true, recurses := true, apart := false }
def FlogicKindsSaid : Prop := flogicKindsRow.holds Try.pinned (OpenSpec.ofChange flogicKindsSpec)

/-- ITS FALSE NEIGHBOUR: 'it returns false'. Refute it at one input. -/
def flogicKindsWrong : ChangeSpec := { name := "flogicKinds", fn := fun _ => fun
  | [d] => { results := [.lit (.bool false)], args := [d] }
  | _ => none }
def FlogicKindsWrongFalsely : Prop := flogicKindsRow.holds Try.pinned (OpenSpec.ofChange flogicKindsWrong)

/-- 'counterpanelaw13.FlogicFolds': WHATEVER THE INPUT: true; the input reads as it did. -/
def flogicFoldsSpec : ChangeSpec := { name := "flogicFolds", fn := fun _ => fun
  | [d1, d2] => { results := [.lit (.bool true)], args := [d1, d2] }
  | _ => none }
def flogicFoldsRow : OpenClaim := { program := "ytgbedjeiihigaaa", sum := "a5c42bfdb6741561f7511cc8711cfbbeef6d077e4baae6adf399ad8515ad10e4", func := "counterpane/counterpanelaw13.FlogicFolds", spec := "flogicFolds", unfollowed := true, recurses := true, apart := false }
def FlogicFoldsSaid : Prop := flogicFoldsRow.holds Try.pinned (OpenSpec.ofChange flogicFoldsSpec)

/-- ITS FALSE NEIGHBOUR: 'it returns false'. Refute it at one input. -/
def flogicFoldsWrong : ChangeSpec := { name := "flogicFolds", fn := fun _ => fun
  | [d1, d2] => { results := [.lit (.bool false)], args := [d1, d2] }
  | _ => none }
def FlogicFoldsWrongFalsely : Prop := flogicFoldsRow.holds Try.pinned (OpenSpec.ofChange flogicFoldsWrong)

/-- 'counterpanelaw13.FlogicEach': WHATEVER THE INPUT: true; the input reads as it did. -/
def flogicEachSpec : ChangeSpec := { name := "flogicEach", fn := fun _ => fun
  | [d1, d2, d3] => { results := [.lit (.bool true)], args := [d1, d2, d3] }
  | _ => none }
def flogicEachRow : OpenClaim := { program := "ytgbedjeiihigaaa", sum := "a5c42bfdb6741561f7511cc8711cfbbeef6d077e4baae6adf399ad8515ad10e4", func := "counterpane/counterpanelaw13.FlogicEach", spec := "flogicEach", unfollowed := true, recurses := true, apart := false }
def FlogicEachSaid : Prop := flogicEachRow.holds Try.pinned (OpenSpec.ofChange flogicEachSpec)

/-- ITS FALSE NEIGHBOUR: 'it returns false'. Refute it at one input. -/
def flogicEachWrong : ChangeSpec := { name := "flogicEach", fn := fun _ => fun
  | [d1, d2, d3] => { results := [.lit (.bool false)], args := [d1, d2, d3] }
  | _ => none }
def FlogicEachWrongFalsely : Prop := flogicEachRow.holds Try.pinned (OpenSpec.ofChange flogicEachWrong)

/-- 'counterpanelaw13.FlogicCalls': WHATEVER THE INPUT: true; the input reads as it did. -/
def flogicCallsSpec : ChangeSpec := { name := "flogicCalls", fn := fun _ => fun
  | [d1, d2] => { results := [.lit (.bool true)], args := [d1, d2] }
  | _ => none }
def flogicCallsRow : OpenClaim := { program := "ytgbedjeiihigaaa", sum := "a5c42bfdb6741561f7511cc8711cfbbeef6d077e4baae6adf399ad8515ad10e4", func := "counterpane/counterpanelaw13.FlogicCalls", spec := "flogicCalls", unfollowed := true, recurses := true, apart := false }
def FlogicCallsSaid : Prop := flogicCallsRow.holds Try.pinned (OpenSpec.ofChange flogicCallsSpec)

/-- ITS FALSE NEIGHBOUR: 'it returns false'. Refute it at one input. -/
def flogicCallsWrong : ChangeSpec := { name := "flogicCalls", fn := fun _ => fun
  | [d1, d2] => { results := [.lit (.bool false)], args := [d1, d2] }
  | _ => none }
def FlogicCallsWrongFalsely : Prop := flogicCallsRow.holds Try.pinned (OpenSpec.ofChange flogicCallsWrong)

/- THE SECOND FORM. 'bulk': how many values and letters a reading holds, each counted each time it is reached (what is shared counts as often as it is met; a slice's spare places count too). A statement '..UptoSaid' is the law's where the arguments, and the package variables that the reading takes, are together of bulk at most 1048576: NARROWER than '..Said'. Prove '..Said' where nothing that the law and all that it calls make is longer than what came in: it says more and counts as full. Else prove '..UptoSaid'. A law counts once. -/
mutual
def uptoBulk {H : Type} : DataW H → Nat
  | .lit (.string bytes) => bytes.length + 1
  | .lit _ => 1
  | .nil => 1
  | .ptr d => uptoBulk d + 1
  | .slice elems spare => uptoBulkAll elems + uptoBulkAll spare + 1
  | .agg parts => uptoBulkAll parts + 1
  | .iface _ d => uptoBulk d + 1
  | .map entries => uptoBulkEntries entries + 1
  | .held _ => 1
def uptoBulkAll {H : Type} : List (DataW H) → Nat
  | [] => 0
  | d :: r => uptoBulk d + uptoBulkAll r
def uptoBulkEntries {H : Type} : List (Lit × DataW H) → Nat
  | [] => 0
  | x :: r => uptoBulkEntry x + uptoBulkEntries r
def uptoBulkEntry {H : Type} : Lit × DataW H → Nat
  | (.string bytes, d) => bytes.length + uptoBulk d + 1
  | (_, d) => uptoBulk d + 1
 end
def uptoSmall : (H : Type) → List (DataW H) → Bool := fun _ ds => decide (uptoBulkAll ds ≤ 1048576)
def OpenSpec.upto (s : _root_.Go.ChangeSpec) : _root_.Go.OpenSpec := { _root_.Go.OpenSpec.ofChange s with cond := some uptoSmall }

/-- 'counterpanelaw13.FlogicTurns', WHERE WHAT IT READS IS OF BULK AT MOST 1048576: true; the input reads as it did. -/
def flogicTurnsUptoRow : OpenClaim := { program := "ytgbedjeiihigaaa", sum := "a5c42bfdb6741561f7511cc8711cfbbeef6d077e4baae6adf399ad8515ad10e4", func := "counterpane/counterpanelaw13.FlogicTurns", spec := "flogicTurns", unfollowed := true, recurses := true, apart := false, narrowed := true }
def FlogicTurnsUptoSaid : Prop := flogicTurnsUptoRow.holds Try.pinned (OpenSpec.upto flogicTurnsSpec)

/-- 'counterpanelaw13.FlogicKinds', WHERE WHAT IT READS IS OF BULK AT MOST 1048576: true; the input reads as it did. -/
def flogicKindsUptoRow : OpenClaim := { program := "ytgbedjeiihigaaa", sum := "a5c42bfdb6741561f7511cc8711cfbbeef6d077e4baae6adf399ad8515ad10e4", func := "counterpane/counterpanelaw13.FlogicKinds", spec := "flogicKinds", unfollowed := true, recurses := true, apart := false, narrowed := true }
def FlogicKindsUptoSaid : Prop := flogicKindsUptoRow.holds Try.pinned (OpenSpec.upto flogicKindsSpec)

/-- 'counterpanelaw13.FlogicFolds', WHERE WHAT IT READS IS OF BULK AT MOST 1048576: true; the input reads as it did. -/
def flogicFoldsUptoRow : OpenClaim := { program := "ytgbedjeiihigaaa", sum := "a5c42bfdb6741561f7511cc8711cfbbeef6d077e4baae6adf399ad8515ad10e4", func := "counterpane/counterpanelaw13.FlogicFolds", spec := "flogicFolds", unfollowed := true, recurses := true, apart := false, narrowed := true }
def FlogicFoldsUptoSaid : Prop := flogicFoldsUptoRow.holds Try.pinned (OpenSpec.upto flogicFoldsSpec)

/-- 'counterpanelaw13.FlogicEach', WHERE WHAT IT READS IS OF BULK AT MOST 1048576: true; the input reads as it did. -/
def flogicEachUptoRow : OpenClaim := { program := "ytgbedjeiihigaaa", sum := "a5c42bfdb6741561f7511cc8711cfbbeef6d077e4baae6adf399ad8515ad10e4", func := "counterpane/counterpanelaw13.FlogicEach", spec := "flogicEach", unfollowed := true, recurses := true, apart := false, narrowed := true }
def FlogicEachUptoSaid : Prop := flogicEachUptoRow.holds Try.pinned (OpenSpec.upto flogicEachSpec)

/-- 'counterpanelaw13.FlogicCalls', WHERE WHAT IT READS IS OF BULK AT MOST 1048576: true; the input reads as it did. -/
def flogicCallsUptoRow : OpenClaim := { program := "ytgbedjeiihigaaa", sum := "a5c42bfdb6741561f7511cc8711cfbbeef6d077e4baae6adf399ad8515ad10e4", func := "counterpane/counterpanelaw13.FlogicCalls", spec := "flogicCalls", unfollowed := true, recurses := true, apart := false, narrowed := true }
def FlogicCallsUptoSaid : Prop := flogicCallsUptoRow.holds Try.pinned (OpenSpec.upto flogicCallsSpec)

end Rows
end Go.Proofs.Ytgbedjeiihigaaa
