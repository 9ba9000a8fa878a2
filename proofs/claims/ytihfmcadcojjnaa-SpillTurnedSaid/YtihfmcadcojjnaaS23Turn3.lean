/- SpillTurned, whole: every input. -/
import Derived.Test.YtihfmcadcojjnaaS23TurnA0
import Derived.Test.YtihfmcadcojjnaaS23TurnA1
import Derived.Test.YtihfmcadcojjnaaS23TurnA2
import Derived.Test.YtihfmcadcojjnaaS23TurnA3
import Derived.Test.YtihfmcadcojjnaaS23Turn2
import Derived.Test.YtihfmcadcojjnaaS23TurnB1
import Derived.Test.YtihfmcadcojjnaaS23TurnB2
import Derived.Test.YtihfmcadcojjnaaS23TurnB3
namespace Go.Proofs.Ytihfmcadcojjnaa
open Go.RowKit
theorem turned_law (af cf : Bool) (ar ac ars acs cr cc crs ccs : Int) (fa : Option Addr) (fcap : Nat) (l : List P2) (w : World) (hP : PairsAt w fa l) :
    Calls Try.prog 3 #[.agg #[.bool af, .int .i64 ar, .int .i64 ac, .int .i64 ars, .int .i64 acs], .agg #[.bool cf, .int .i64 cr, .int .i64 cc, .int .i64 crs, .int .i64 ccs], .slice fa l.length fcap] w fun e w' => e = .returned (.bool true) ∧ Below w.heap.size w w' := by
  by_cases hl : 60 < l.length
  · exact turned_long af cf ar ac ars acs cr cc crs ccs fa fcap l w hl
  have hl' : l.length ≤ 60 := by omega
  by_cases m0 : ar < 0
  · exact turned_out0 af cf ar ac ars acs cr cc crs ccs fa fcap l w hl'  m0
  have n0 : decide (ar < 0) = false := by simpa using m0
  by_cases m1 : ac < 0
  · exact turned_out1 af cf ar ac ars acs cr cc crs ccs fa fcap l w hl' n0 m1
  have n1 : decide (ac < 0) = false := by simpa using m1
  by_cases m2 : cr < 0
  · exact turned_out2 af cf ar ac ars acs cr cc crs ccs fa fcap l w hl' n0 n1 m2
  have n2 : decide (cr < 0) = false := by simpa using m2
  by_cases m3 : cc < 0
  · exact turned_out3 af cf ar ac ars acs cr cc crs ccs fa fcap l w hl' n0 n1 n2 m3
  have n3 : decide (cc < 0) = false := by simpa using m3
  by_cases m4 : 12 < ar
  · exact turned_out4 af cf ar ac ars acs cr cc crs ccs fa fcap l w hl' n0 n1 n2 n3 m4
  have n4 : decide (12 < ar) = false := by simpa using m4
  by_cases m5 : 12 < ac
  · exact turned_out5 af cf ar ac ars acs cr cc crs ccs fa fcap l w hl' n0 n1 n2 n3 n4 m5
  have n5 : decide (12 < ac) = false := by simpa using m5
  by_cases m6 : 12 < cr
  · exact turned_out6 af cf ar ac ars acs cr cc crs ccs fa fcap l w hl' n0 n1 n2 n3 n4 n5 m6
  have n6 : decide (12 < cr) = false := by simpa using m6
  by_cases m7 : 12 < cc
  · exact turned_out7 af cf ar ac ars acs cr cc crs ccs fa fcap l w hl' n0 n1 n2 n3 n4 n5 n6 m7
  have n7 : decide (12 < cc) = false := by simpa using m7
  by_cases m8 : ars < 1
  · exact turned_out8 af cf ar ac ars acs cr cc crs ccs fa fcap l w hl' n0 n1 n2 n3 n4 n5 n6 n7 m8
  have n8 : decide (ars < 1) = false := by simpa using m8
  by_cases m9 : acs < 1
  · exact turned_out9 af cf ar ac ars acs cr cc crs ccs fa fcap l w hl' n0 n1 n2 n3 n4 n5 n6 n7 n8 m9
  have n9 : decide (acs < 1) = false := by simpa using m9
  by_cases m10 : crs < 1
  · exact turned_out10 af cf ar ac ars acs cr cc crs ccs fa fcap l w hl' n0 n1 n2 n3 n4 n5 n6 n7 n8 n9 m10
  have n10 : decide (crs < 1) = false := by simpa using m10
  by_cases m11 : ccs < 1
  · exact turned_out11 af cf ar ac ars acs cr cc crs ccs fa fcap l w hl' n0 n1 n2 n3 n4 n5 n6 n7 n8 n9 n10 m11
  have n11 : decide (ccs < 1) = false := by simpa using m11
  by_cases m12 : 12 < ars
  · exact turned_out12 af cf ar ac ars acs cr cc crs ccs fa fcap l w hl' n0 n1 n2 n3 n4 n5 n6 n7 n8 n9 n10 n11 m12
  have n12 : decide (12 < ars) = false := by simpa using m12
  by_cases m13 : 12 < acs
  · exact turned_out13 af cf ar ac ars acs cr cc crs ccs fa fcap l w hl' n0 n1 n2 n3 n4 n5 n6 n7 n8 n9 n10 n11 n12 m13
  have n13 : decide (12 < acs) = false := by simpa using m13
  by_cases m14 : 12 < crs
  · exact turned_out14 af cf ar ac ars acs cr cc crs ccs fa fcap l w hl' n0 n1 n2 n3 n4 n5 n6 n7 n8 n9 n10 n11 n12 n13 m14
  have n14 : decide (12 < crs) = false := by simpa using m14
  by_cases m15 : 12 < ccs
  · exact turned_out15 af cf ar ac ars acs cr cc crs ccs fa fcap l w hl' n0 n1 n2 n3 n4 n5 n6 n7 n8 n9 n10 n11 n12 n13 n14 m15
  have n15 : decide (12 < ccs) = false := by simpa using m15
  by_cases k1 : ar < cr + crs
  case neg => exact turned_main0 af cf ar ac ars acs cr cc crs ccs fa fcap l w hl' (by omega) (by omega) (by omega) (by omega) (by omega) (by omega) (by omega) (by omega) (by omega) (by omega) (by omega) (by omega) (by omega) (by omega) (by omega) (by omega) hP  (by simpa using k1)
  by_cases k2 : cr < ar + ars
  case neg => exact turned_main1 af cf ar ac ars acs cr cc crs ccs fa fcap l w hl' (by omega) (by omega) (by omega) (by omega) (by omega) (by omega) (by omega) (by omega) (by omega) (by omega) (by omega) (by omega) (by omega) (by omega) (by omega) (by omega) hP k1 (by simpa using k2)
  by_cases k3 : ac < cc + ccs
  case neg => exact turned_main2 af cf ar ac ars acs cr cc crs ccs fa fcap l w hl' (by omega) (by omega) (by omega) (by omega) (by omega) (by omega) (by omega) (by omega) (by omega) (by omega) (by omega) (by omega) (by omega) (by omega) (by omega) (by omega) hP k1 k2 (by simpa using k3)
  by_cases k4 : cc < ac + acs
  case neg => exact turned_main3 af cf ar ac ars acs cr cc crs ccs fa fcap l w hl' (by omega) (by omega) (by omega) (by omega) (by omega) (by omega) (by omega) (by omega) (by omega) (by omega) (by omega) (by omega) (by omega) (by omega) (by omega) (by omega) hP k1 k2 k3 (by simpa using k4)
  exact turned_meet af cf ar ac ars acs cr cc crs ccs fa fcap l w hl' (by omega) (by omega) (by omega) (by omega) (by omega) (by omega) (by omega) (by omega) (by omega) (by omega) (by omega) (by omega) (by omega) (by omega) (by omega) (by omega) k1 k2 k3 k4
end Go.Proofs.Ytihfmcadcojjnaa
