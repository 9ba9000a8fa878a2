/- The document's Decide, where a rect is decided. -/
import Derived.Test.YtihfmcadcojjnaaS23R6a
import Derived.Test.YtihfmcadcojjnaaS23R6b
import Derived.Test.YtihfmcadcojjnaaS23R6c
namespace Go.Proofs.Ytihfmcadcojjnaa
open Go.RowKit
theorem rdec_ok (g : G) (rows cols : Int) (fa : Option Addr) (fc : Nat) (F : List P2) (la : Option Addr) (lc : Nat) (L : List Ver) (r c rs cs : Int) (w : World) (hrows : Hid (rows = g.rows ∧ cols = g.cols)) (ho : Hid (onB rows cols r c = true)) (h0 : ¬ rs < 1) (h1 : ¬ cs < 1) (h2 : ¬ 4096 < rs) (h3 : ¬ 4096 < cs) (h4 : ¬ 4096 < rs * cs) (HF : Hid (PrsAt w fa F)) (hFl : F.length ≤ 100) (HH : Hid (fHas F r c = true)) (HL : Hid (RctAt w la L)) (HL0 : Hid (L = [] → la = none ∧ lc = 0)) (hLl : L.length ≤ 100) (HO : Hid (∀ m, IdxOf (ofB r c) L m → m = -1)) (HREL : Hid (Rel g F L)) (HE : Hid (gErr g r c rs cs = 0)) (HAN : Hid (getL g.A (r, c) = none)) (hr0 : 0 ≤ r) (hr1 : r ≤ 1000) (hc0 : 0 ≤ c) (hc1 : c ≤ 1000) (hrw : 0 ≤ rows) (hrw1 : rows ≤ 1000) (hcw : 0 ≤ cols) (hcw1 : cols ≤ 1000) :
    Calls Try.prog 19 #[xv rows cols fa F.length fc la L.length lc, .int .i64 r, .int .i64 c, .int .i64 rs, .int .i64 cs] w fun e w' => RDecPost w g rows cols fa F.length fc la L.length lc r c rs cs e w' := by
  by_cases hb1 : rows < r + rs
  · exact rdec_b1 g rows cols fa fc F la lc L r c rs cs w hrows ho h0 h1 h2 h3 h4 HF hFl HH HL HL0 hLl HO HREL HE HAN hb1 hr0 hr1 hc0 hc1 hrw hrw1 hcw hcw1
  · by_cases hb2 : cols < c + cs
    · exact rdec_b2 g rows cols fa fc F la lc L r c rs cs w hrows ho h0 h1 h2 h3 h4 HF hFl HH HL HL0 hLl HO HREL HE HAN hb1 hb2 hr0 hr1 hc0 hc1 hrw hrw1 hcw hcw1
    · exact rdec_in g rows cols fa fc F la lc L r c rs cs w hrows ho h0 h1 h2 h3 h4 HF hFl HH HL HL0 hLl HO HREL HE HAN hb1 hb2 hr0 hr1 hc0 hc1 hrw hrw1 hcw hcw1
end Go.Proofs.Ytihfmcadcojjnaa
