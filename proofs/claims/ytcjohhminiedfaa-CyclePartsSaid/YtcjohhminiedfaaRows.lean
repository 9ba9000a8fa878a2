/-
  No cell of these rows narrows 'for every input' (looked for: loops, veiled, ifaces, maps, wideKeys, modest, calm, conditions, laid).
  DERIVED. THE GIVEN ROWS OF THIS SEAT. 6 by the template 'for every input the law returns true; each argument reads behind the call as it read before'; 0 by the template 'total and deterministic' (their statements: YtcjohhminiedfaaTotals.lean).
  GIVEN WITH THE SEED: the statements are not yours to turn. If you find one false, say at which input.
  Laid BY PROGRAM, IN A SANDBOX (cutbox-rows.mjs): the forced cells as the released guide's own fill.sh prints them over the translation 4cc2a2f250f7a3c0… (all of the seat's roots in one cut). By AI agents, Wed Nov 11 2026. No macro, syntax, notation, axiom, sorry.
-/
import Derived.Test.YtcjohhminiedfaaChecked
import GoSem.Claim
import GoSem.ClaimJoined
import GoSem.ClaimMapViews
import Derived.JoinedTies
import Derived.KernelRfl
namespace Go.Proofs.Ytcjohhminiedfaa
/- THE CELL 'sum', in the pinned program and in every row, IS THE sha256 OF THE DUMP (.gsa) THAT YtcjohhminiedfaaProg.lean LOADS. Nothing in Lean hashes anything: it is a label: what it is worth is what the hold of that sum in a sandbox is worth. -/
noncomputable def Try.pinned : Pinned := { name := "ytcjohhminiedfaa", sum := "4cc2a2f250f7a3c0c7be3fc6919f785ac4ef48cc07207a7ed4b397acf04f1242", checked := Try.checked }
namespace Rows
def none {H : Type} : Left H := { results := [], args := [] }

/-- 'counterpanelaw21.CycleRounds': WHATEVER THE INPUT: true; the input reads as it did. -/
def cycleRoundsSpec : ChangeSpec := { name := "cycleRounds", fn := fun _ => fun
  | [d1, d2, d3] => { results := [.lit (.bool true)], args := [d1, d2, d3] }
  | _ => none }
def cycleRoundsRow : OpenClaim := { program := "ytcjohhminiedfaa", sum := "4cc2a2f250f7a3c0c7be3fc6919f785ac4ef48cc07207a7ed4b397acf04f1242", func := "counterpane/counterpanelaw21.CycleRounds", spec := "cycleRounds", unfollowed := true, recurses := true, plainKeys := false, apart := false }
def CycleRoundsSaid : Prop := cycleRoundsRow.holds Try.pinned (OpenSpec.ofChange cycleRoundsSpec)

/-- ITS FALSE NEIGHBOUR: 'it returns false'. Refute it at one input. -/
def cycleRoundsWrong : ChangeSpec := { name := "cycleRounds", fn := fun _ => fun
  | [d1, d2, d3] => { results := [.lit (.bool false)], args := [d1, d2, d3] }
  | _ => none }
def CycleRoundsWrongFalsely : Prop := cycleRoundsRow.holds Try.pinned (OpenSpec.ofChange cycleRoundsWrong)

/-- 'counterpanelaw21.CycleTells': WHATEVER THE INPUT: true; the input reads as it did. -/
def cycleTellsSpec : ChangeSpec := { name := "cycleTells", fn := fun _ => fun
  | [d1, d2] => { results := [.lit (.bool true)], args := [d1, d2] }
  | _ => none }
def cycleTellsRow : OpenClaim := { program := "ytcjohhminiedfaa", sum := "4cc2a2f250f7a3c0c7be3fc6919f785ac4ef48cc07207a7ed4b397acf04f1242", func := "counterpane/counterpanelaw21.CycleTells", spec := "cycleTells", unfollowed := true, recurses := true, plainKeys := false, apart := false }
def CycleTellsSaid : Prop := cycleTellsRow.holds Try.pinned (OpenSpec.ofChange cycleTellsSpec)

/-- ITS FALSE NEIGHBOUR: 'it returns false'. Refute it at one input. -/
def cycleTellsWrong : ChangeSpec := { name := "cycleTells", fn := fun _ => fun
  | [d1, d2] => { results := [.lit (.bool false)], args := [d1, d2] }
  | _ => none }
def CycleTellsWrongFalsely : Prop := cycleTellsRow.holds Try.pinned (OpenSpec.ofChange cycleTellsWrong)

/-- 'counterpanelaw21.CycleParts': WHATEVER THE INPUT: true; the input reads as it did. -/
def cyclePartsSpec : ChangeSpec := { name := "cycleParts", fn := fun _ => fun
  | [d1, d2, d3] => { results := [.lit (.bool true)], args := [d1, d2, d3] }
  | _ => none }
def cyclePartsRow : OpenClaim := { program := "ytcjohhminiedfaa", sum := "4cc2a2f250f7a3c0c7be3fc6919f785ac4ef48cc07207a7ed4b397acf04f1242", func := "counterpane/counterpanelaw21.CycleParts", spec := "cycleParts", unfollowed := true, recurses := true, plainKeys := false, apart := false }
def CyclePartsSaid : Prop := cyclePartsRow.holds Try.pinned (OpenSpec.ofChange cyclePartsSpec)

/-- ITS FALSE NEIGHBOUR: 'it returns false'. Refute it at one input. -/
def cyclePartsWrong : ChangeSpec := { name := "cycleParts", fn := fun _ => fun
  | [d1, d2, d3] => { results := [.lit (.bool false)], args := [d1, d2, d3] }
  | _ => none }
def CyclePartsWrongFalsely : Prop := cyclePartsRow.holds Try.pinned (OpenSpec.ofChange cyclePartsWrong)

/-- 'counterpanelaw21.CycleSizes': WHATEVER THE INPUT: true; the input reads as it did. -/
def cycleSizesSpec : ChangeSpec := { name := "cycleSizes", fn := fun _ => fun
  | [d1, d2] => { results := [.lit (.bool true)], args := [d1, d2] }
  | _ => none }
def cycleSizesRow : OpenClaim := { program := "ytcjohhminiedfaa", sum := "4cc2a2f250f7a3c0c7be3fc6919f785ac4ef48cc07207a7ed4b397acf04f1242", func := "counterpane/counterpanelaw21.CycleSizes", spec := "cycleSizes", unfollowed := true, recurses := true, plainKeys := false, apart := false }
def CycleSizesSaid : Prop := cycleSizesRow.holds Try.pinned (OpenSpec.ofChange cycleSizesSpec)

/-- ITS FALSE NEIGHBOUR: 'it returns false'. Refute it at one input. -/
def cycleSizesWrong : ChangeSpec := { name := "cycleSizes", fn := fun _ => fun
  | [d1, d2] => { results := [.lit (.bool false)], args := [d1, d2] }
  | _ => none }
def CycleSizesWrongFalsely : Prop := cycleSizesRow.holds Try.pinned (OpenSpec.ofChange cycleSizesWrong)

/-- 'counterpanelaw21.CycleMore': WHATEVER THE INPUT: true; the input reads as it did. -/
def cycleMoreSpec : ChangeSpec := { name := "cycleMore", fn := fun _ => fun
  | [d1, d2, d3] => { results := [.lit (.bool true)], args := [d1, d2, d3] }
  | _ => none }
def cycleMoreRow : OpenClaim := { program := "ytcjohhminiedfaa", sum := "4cc2a2f250f7a3c0c7be3fc6919f785ac4ef48cc07207a7ed4b397acf04f1242", func := "counterpane/counterpanelaw21.CycleMore", spec := "cycleMore", unfollowed := true, recurses := true, plainKeys := false, apart := false }
def CycleMoreSaid : Prop := cycleMoreRow.holds Try.pinned (OpenSpec.ofChange cycleMoreSpec)

/-- ITS FALSE NEIGHBOUR: 'it returns false'. Refute it at one input. -/
def cycleMoreWrong : ChangeSpec := { name := "cycleMore", fn := fun _ => fun
  | [d1, d2, d3] => { results := [.lit (.bool false)], args := [d1, d2, d3] }
  | _ => none }
def CycleMoreWrongFalsely : Prop := cycleMoreRow.holds Try.pinned (OpenSpec.ofChange cycleMoreWrong)

/-- 'counterpanelaw21.CycleTurned': WHATEVER THE INPUT: true; the input reads as it did. -/
def cycleTurnedSpec : ChangeSpec := { name := "cycleTurned", fn := fun _ => fun
  | [d1, d2] => { results := [.lit (.bool true)], args := [d1, d2] }
  | _ => none }
def cycleTurnedRow : OpenClaim := { program := "ytcjohhminiedfaa", sum := "4cc2a2f250f7a3c0c7be3fc6919f785ac4ef48cc07207a7ed4b397acf04f1242", func := "counterpane/counterpanelaw21.CycleTurned", spec := "cycleTurned", unfollowed := true, recurses := true, plainKeys := false, apart := false }
def CycleTurnedSaid : Prop := cycleTurnedRow.holds Try.pinned (OpenSpec.ofChange cycleTurnedSpec)

/-- ITS FALSE NEIGHBOUR: 'it returns false'. Refute it at one input. -/
def cycleTurnedWrong : ChangeSpec := { name := "cycleTurned", fn := fun _ => fun
  | [d1, d2] => { results := [.lit (.bool false)], args := [d1, d2] }
  | _ => none }
def CycleTurnedWrongFalsely : Prop := cycleTurnedRow.holds Try.pinned (OpenSpec.ofChange cycleTurnedWrong)

/- THE SECOND FORM. 'bulk': how many values and letters a reading holds, each counted each time it is reached (what is shared counts as often as it is met; a slice's spare places count too). A statement '..UptoSaid' is the law's where the arguments, and the package variables that the reading takes, are together of bulk at most 1048576: NARROWER than '..Said'. Prove '..Said' where nothing that the law and all that it calls make is longer than what came in: it says more and counts as full. Else prove '..UptoSaid'. A law counts once. -/
mutual
def uptoBulk {H : Type} : DataW H → Nat
  | .lit (.string bytes) => bytes.length + 1
  | .lit _ => 1
  | .nil => 1
  | .ptr d => uptoBulk d + 1
  | .slice elems spare => uptoBulkAll elems + uptoBulkAll spare + 1
  | .agg parts => uptoBulkAll parts + 1
  | .iface _ d => uptoBulk d + 1
  | .map entries => uptoBulkEntries entries + 1
  | .held _ => 1
def uptoBulkAll {H : Type} : List (DataW H) → Nat
  | [] => 0
  | d :: r => uptoBulk d + uptoBulkAll r
def uptoBulkEntries {H : Type} : List (Lit × DataW H) → Nat
  | [] => 0
  | x :: r => uptoBulkEntry x + uptoBulkEntries r
def uptoBulkEntry {H : Type} : Lit × DataW H → Nat
  | (.string bytes, d) => bytes.length + uptoBulk d + 1
  | (_, d) => uptoBulk d + 1
 end
def uptoSmall : (H : Type) → List (DataW H) → Bool := fun _ ds => decide (uptoBulkAll ds ≤ 1048576)
def OpenSpec.upto (s : _root_.Go.ChangeSpec) : _root_.Go.OpenSpec := { _root_.Go.OpenSpec.ofChange s with cond := some uptoSmall }

/-- 'counterpanelaw21.CycleRounds', WHERE WHAT IT READS IS OF BULK AT MOST 1048576: true; the input reads as it did. -/
def cycleRoundsUptoRow : OpenClaim := { program := "ytcjohhminiedfaa", sum := "4cc2a2f250f7a3c0c7be3fc6919f785ac4ef48cc07207a7ed4b397acf04f1242", func := "counterpane/counterpanelaw21.CycleRounds", spec := "cycleRounds", unfollowed := true, recurses := true, plainKeys := false, apart := false, narrowed := true }
def CycleRoundsUptoSaid : Prop := cycleRoundsUptoRow.holds Try.pinned (OpenSpec.upto cycleRoundsSpec)

/-- 'counterpanelaw21.CycleTells', WHERE WHAT IT READS IS OF BULK AT MOST 1048576: true; the input reads as it did. -/
def cycleTellsUptoRow : OpenClaim := { program := "ytcjohhminiedfaa", sum := "4cc2a2f250f7a3c0c7be3fc6919f785ac4ef48cc07207a7ed4b397acf04f1242", func := "counterpane/counterpanelaw21.CycleTells", spec := "cycleTells", unfollowed := true, recurses := true, plainKeys := false, apart := false, narrowed := true }
def CycleTellsUptoSaid : Prop := cycleTellsUptoRow.holds Try.pinned (OpenSpec.upto cycleTellsSpec)

/-- 'counterpanelaw21.CycleParts', WHERE WHAT IT READS IS OF BULK AT MOST 1048576: true; the input reads as it did. -/
def cyclePartsUptoRow : OpenClaim := { program := "ytcjohhminiedfaa", sum := "4cc2a2f250f7a3c0c7be3fc6919f785ac4ef48cc07207a7ed4b397acf04f1242", func := "counterpane/counterpanelaw21.CycleParts", spec := "cycleParts", unfollowed := true, recurses := true, plainKeys := false, apart := false, narrowed := true }
def CyclePartsUptoSaid : Prop := cyclePartsUptoRow.holds Try.pinned (OpenSpec.upto cyclePartsSpec)

/-- 'counterpanelaw21.CycleSizes', WHERE WHAT IT READS IS OF BULK AT MOST 1048576: true; the input reads as it did. -/
def cycleSizesUptoRow : OpenClaim := { program := "ytcjohhminiedfaa", sum := "4cc2a2f250f7a3c0c7be3fc6919f785ac4ef48cc07207a7ed4b397acf04f1242", func := "counterpane/counterpanelaw21.CycleSizes", spec := "cycleSizes", unfollowed := true, recurses := true, plainKeys := false, apart := false, narrowed := true }
def CycleSizesUptoSaid : Prop := cycleSizesUptoRow.holds Try.pinned (OpenSpec.upto cycleSizesSpec)

/-- 'counterpanelaw21.CycleMore', WHERE WHAT IT READS IS OF BULK AT MOST 1048576: true; the input reads as it did. -/
def cycleMoreUptoRow : OpenClaim := { program := "ytcjohhminiedfaa", sum := "4cc2a2f250f7a3c0c7be3fc6919f785ac4ef48cc07207a7ed4b397acf04f1242", func := "counterpane/counterpanelaw21.CycleMore", spec := "cycleMore", unfollowed := true, recurses := true, plainKeys := false, apart := false, narrowed := true }
def CycleMoreUptoSaid : Prop := cycleMoreUptoRow.holds Try.pinned (OpenSpec.upto cycleMoreSpec)

/-- 'counterpanelaw21.CycleTurned', WHERE WHAT IT READS IS OF BULK AT MOST 1048576: true; the input reads as it did. -/
def cycleTurnedUptoRow : OpenClaim := { program := "ytcjohhminiedfaa", sum := "4cc2a2f250f7a3c0c7be3fc6919f785ac4ef48cc07207a7ed4b397acf04f1242", func := "counterpane/counterpanelaw21.CycleTurned", spec := "cycleTurned", unfollowed := true, recurses := true, plainKeys := false, apart := false, narrowed := true }
def CycleTurnedUptoSaid : Prop := cycleTurnedUptoRow.holds Try.pinned (OpenSpec.upto cycleTurnedSpec)

end Rows
end Go.Proofs.Ytcjohhminiedfaa
