/-
  NARROWER THAN 'FOR EVERY INPUT', by the rows' own cells (each row's printed sentence says how): NamesExpands: loops · NamesOnce: loops · NamesOwn: loops · NamesOrder: loops.
  DERIVED. THE GIVEN ROWS OF THIS SEAT. 4 by the template 'for every input the law returns true; each argument reads behind the call as it read before'; 0 by the template 'total and deterministic' (their statements: YtlcglkanlhmmdaaTotals.lean).
  GIVEN WITH THE SEED: the statements are not yours to turn. If you find one false, say at which input.
  Laid BY PROGRAM, IN A SANDBOX (cutbox-rows.mjs): the forced cells as the released guide's own fill.sh prints them over the translation db600f09ebe8362c… (all of the seat's roots in one cut). By AI agents, Wed Nov 11 2026. No macro, syntax, notation, axiom, sorry.
-/
import Derived.Test.YtlcglkanlhmmdaaChecked
import GoSem.Claim
import GoSem.ClaimJoined
import GoSem.ClaimMapViews
import Derived.JoinedTies
import Derived.KernelRfl
namespace Go.Proofs.Ytlcglkanlhmmdaa
/- THE CELL 'sum', in the pinned program and in every row, IS THE sha256 OF THE DUMP (.gsa) THAT YtlcglkanlhmmdaaProg.lean LOADS. Nothing in Lean hashes anything: it is a label: what it is worth is what the hold of that sum in a sandbox is worth. -/
noncomputable def Try.pinned : Pinned := { name := "ytlcglkanlhmmdaa", sum := "db600f09ebe8362cd8061f646f1aee2a027d0fdba8254f9e7a2aa860e246d3a7", checked := Try.checked }
namespace Rows
def none {H : Type} : Left H := { results := [], args := [] }

/-- 'counterpanelaw17.NamesExpands': WHATEVER THE INPUT: true; the input reads as it did. -/
def namesExpandsSpec : ChangeSpec := { name := "namesExpands", fn := fun _ => fun
  | [d1, d2] => { results := [.lit (.bool true)], args := [d1, d2] }
  | _ => none }
def namesExpandsRow : OpenClaim := { program := "ytlcglkanlhmmdaa", sum := "db600f09ebe8362cd8061f646f1aee2a027d0fdba8254f9e7a2aa860e246d3a7", func := "counterpane/counterpanelaw17.NamesExpands", spec := "namesExpands", unfollowed := true, recurses := true, loops := true, apart := false }
def NamesExpandsSaid : Prop := namesExpandsRow.holds Try.pinned (OpenSpec.ofChange namesExpandsSpec)

/-- ITS FALSE NEIGHBOUR: 'it returns false'. Refute it at one input. -/
def namesExpandsWrong : ChangeSpec := { name := "namesExpands", fn := fun _ => fun
  | [d1, d2] => { results := [.lit (.bool false)], args := [d1, d2] }
  | _ => none }
def NamesExpandsWrongFalsely : Prop := namesExpandsRow.holds Try.pinned (OpenSpec.ofChange namesExpandsWrong)

/-- 'counterpanelaw17.NamesOnce': WHATEVER THE INPUT: true; the input reads as it did. -/
def namesOnceSpec : ChangeSpec := { name := "namesOnce", fn := fun _ => fun
  | [d1, d2] => { results := [.lit (.bool true)], args := [d1, d2] }
  | _ => none }
def namesOnceRow : OpenClaim := { program := "ytlcglkanlhmmdaa", sum := "db600f09ebe8362cd8061f646f1aee2a027d0fdba8254f9e7a2aa860e246d3a7", func := "counterpane/counterpanelaw17.NamesOnce", spec := "namesOnce", unfollowed := true, recurses := true, loops := true, apart := false }
def NamesOnceSaid : Prop := namesOnceRow.holds Try.pinned (OpenSpec.ofChange namesOnceSpec)

/-- ITS FALSE NEIGHBOUR: 'it returns false'. Refute it at one input. -/
def namesOnceWrong : ChangeSpec := { name := "namesOnce", fn := fun _ => fun
  | [d1, d2] => { results := [.lit (.bool false)], args := [d1, d2] }
  | _ => none }
def NamesOnceWrongFalsely : Prop := namesOnceRow.holds Try.pinned (OpenSpec.ofChange namesOnceWrong)

/-- 'counterpanelaw17.NamesOwn': WHATEVER THE INPUT: true; the input reads as it did. -/
def namesOwnSpec : ChangeSpec := { name := "namesOwn", fn := fun _ => fun
  | [d1, d2] => { results := [.lit (.bool true)], args := [d1, d2] }
  | _ => none }
def namesOwnRow : OpenClaim := { program := "ytlcglkanlhmmdaa", sum := "db600f09ebe8362cd8061f646f1aee2a027d0fdba8254f9e7a2aa860e246d3a7", func := "counterpane/counterpanelaw17.NamesOwn", spec := "namesOwn", unfollowed := true, recurses := true, loops := true, apart := false }
def NamesOwnSaid : Prop := namesOwnRow.holds Try.pinned (OpenSpec.ofChange namesOwnSpec)

/-- ITS FALSE NEIGHBOUR: 'it returns false'. Refute it at one input. -/
def namesOwnWrong : ChangeSpec := { name := "namesOwn", fn := fun _ => fun
  | [d1, d2] => { results := [.lit (.bool false)], args := [d1, d2] }
  | _ => none }
def NamesOwnWrongFalsely : Prop := namesOwnRow.holds Try.pinned (OpenSpec.ofChange namesOwnWrong)

/-- 'counterpanelaw17.NamesOrder': WHATEVER THE INPUT: true; the input reads as it did. -/
def namesOrderSpec : ChangeSpec := { name := "namesOrder", fn := fun _ => fun
  | [d] => { results := [.lit (.bool true)], args := [d] }
  | _ => none }
def namesOrderRow : OpenClaim := { program := "ytlcglkanlhmmdaa", sum := "db600f09ebe8362cd8061f646f1aee2a027d0fdba8254f9e7a2aa860e246d3a7", func := "counterpane/counterpanelaw17.NamesOrder", spec := "namesOrder", unfollowed := true, recurses := true, loops := true, apart := false }
def NamesOrderSaid : Prop := namesOrderRow.holds Try.pinned (OpenSpec.ofChange namesOrderSpec)

/-- ITS FALSE NEIGHBOUR: 'it returns false'. Refute it at one input. -/
def namesOrderWrong : ChangeSpec := { name := "namesOrder", fn := fun _ => fun
  | [d] => { results := [.lit (.bool false)], args := [d] }
  | _ => none }
def NamesOrderWrongFalsely : Prop := namesOrderRow.holds Try.pinned (OpenSpec.ofChange namesOrderWrong)

/- THE SECOND FORM. 'bulk': how many values and letters a reading holds, each counted each time it is reached (what is shared counts as often as it is met; a slice's spare places count too). A statement '..UptoSaid' is the law's where the arguments, and the package variables that the reading takes, are together of bulk at most 1048576: NARROWER than '..Said'. Prove '..Said' where nothing that the law and all that it calls make is longer than what came in: it says more and counts as full. Else prove '..UptoSaid'. A law counts once. -/
mutual
def uptoBulk {H : Type} : DataW H → Nat
  | .lit (.string bytes) => bytes.length + 1
  | .lit _ => 1
  | .nil => 1
  | .ptr d => uptoBulk d + 1
  | .slice elems spare => uptoBulkAll elems + uptoBulkAll spare + 1
  | .agg parts => uptoBulkAll parts + 1
  | .iface _ d => uptoBulk d + 1
  | .map entries => uptoBulkEntries entries + 1
  | .held _ => 1
def uptoBulkAll {H : Type} : List (DataW H) → Nat
  | [] => 0
  | d :: r => uptoBulk d + uptoBulkAll r
def uptoBulkEntries {H : Type} : List (Lit × DataW H) → Nat
  | [] => 0
  | x :: r => uptoBulkEntry x + uptoBulkEntries r
def uptoBulkEntry {H : Type} : Lit × DataW H → Nat
  | (.string bytes, d) => bytes.length + uptoBulk d + 1
  | (_, d) => uptoBulk d + 1
 end
def uptoSmall : (H : Type) → List (DataW H) → Bool := fun _ ds => decide (uptoBulkAll ds ≤ 1048576)
def OpenSpec.upto (s : _root_.Go.ChangeSpec) : _root_.Go.OpenSpec := { _root_.Go.OpenSpec.ofChange s with cond := some uptoSmall }

/-- 'counterpanelaw17.NamesExpands', WHERE WHAT IT READS IS OF BULK AT MOST 1048576: true; the input reads as it did. -/
def namesExpandsUptoRow : OpenClaim := { program := "ytlcglkanlhmmdaa", sum := "db600f09ebe8362cd8061f646f1aee2a027d0fdba8254f9e7a2aa860e246d3a7", func := "counterpane/counterpanelaw17.NamesExpands", spec := "namesExpands", unfollowed := true, recurses := true, loops := true, apart := false, narrowed := true }
def NamesExpandsUptoSaid : Prop := namesExpandsUptoRow.holds Try.pinned (OpenSpec.upto namesExpandsSpec)

/-- 'counterpanelaw17.NamesOnce', WHERE WHAT IT READS IS OF BULK AT MOST 1048576: true; the input reads as it did. -/
def namesOnceUptoRow : OpenClaim := { program := "ytlcglkanlhmmdaa", sum := "db600f09ebe8362cd8061f646f1aee2a027d0fdba8254f9e7a2aa860e246d3a7", func := "counterpane/counterpanelaw17.NamesOnce", spec := "namesOnce", unfollowed := true, recurses := true, loops := true, apart := false, narrowed := true }
def NamesOnceUptoSaid : Prop := namesOnceUptoRow.holds Try.pinned (OpenSpec.upto namesOnceSpec)

/-- 'counterpanelaw17.NamesOwn', WHERE WHAT IT READS IS OF BULK AT MOST 1048576: true; the input reads as it did. -/
def namesOwnUptoRow : OpenClaim := { program := "ytlcglkanlhmmdaa", sum := "db600f09ebe8362cd8061f646f1aee2a027d0fdba8254f9e7a2aa860e246d3a7", func := "counterpane/counterpanelaw17.NamesOwn", spec := "namesOwn", unfollowed := true, recurses := true, loops := true, apart := false, narrowed := true }
def NamesOwnUptoSaid : Prop := namesOwnUptoRow.holds Try.pinned (OpenSpec.upto namesOwnSpec)

/-- 'counterpanelaw17.NamesOrder', WHERE WHAT IT READS IS OF BULK AT MOST 1048576: true; the input reads as it did. -/
def namesOrderUptoRow : OpenClaim := { program := "ytlcglkanlhmmdaa", sum := "db600f09ebe8362cd8061f646f1aee2a027d0fdba8254f9e7a2aa860e246d3a7", func := "counterpane/counterpanelaw17.NamesOrder", spec := "namesOrder", unfollowed := true, recurses := true, loops := true, apart := false, narrowed := true }
def NamesOrderUptoSaid : Prop := namesOrderUptoRow.holds Try.pinned (OpenSpec.upto namesOrderSpec)

end Rows
end Go.Proofs.Ytlcglkanlhmmdaa
