/- Cycle: arguments of the laws, opened. -/
import Derived.Test.YtcjohhminiedfaaRows
import Derived.Test.YtcjohhminiedfaaQC21ReachP
import Derived.Test.YtcjohhminiedfaaQLaw
import Derived.Test.YtcjohhminiedfaaQOpens
namespace Go.Proofs.Ytcjohhminiedfaa
open Go.ChangeShapes Go.WideShapes Go.ChangeAt Go.RowKit
theorem own_try : ownKnob Try.prog.godebug = none := by kernel_rfl
theorem laid_try : laidOutB Try.prog = true := by kernel_rfl
set_option maxRecDepth 100000 in
theorem open_int {W : World} {r : Reach} {base' : Nat} {v : Value} (hv : Value.okWide Try.prog W r base' 3 v) :
    ∃ a, v = .int .i64 a := by
  obtain ⟨n, rfl⟩ := okWide_int Try.underlying3 hv
  exact ⟨n, rfl⟩
end Go.Proofs.Ytcjohhminiedfaa
