/- NamesPlays: the walk. -/
import Derived.Test.YtlcglkanlhmmdaaGreatQN17Awake
import Derived.Test.YtlcglkanlhmmdaaGreatQZ17Same
import Derived.Test.YtlcglkanlhmmdaaGreatQZ17RDrop
import Derived.Test.YtlcglkanlhmmdaaGreatQZ17RSet
namespace Go.Proofs.YtlcglkanlhmmdaaGreat
open Go.RowKit
theorem info44 : (Tryz.prog.info? 44).map (·.size) = some 24 := by kernel_rfl
def acells (d : Int) (s : ByteArray) (o : Nd) (v : Value) : List Value := .int .u8 d :: .string s :: ncells o v
theorem one_act (d : Int) (s : ByteArray) (o : Nd) {v : Value} (hv : v.oneCell' = true) : ∀ u ∈ acells d s o v, u.oneCell' = true := by
  intro u hu
  rcases List.mem_cons.1 hu with rfl | hu
  · rfl
  · rcases List.mem_cons.1 hu with rfl | hu
    · rfl
    · exact one_nd o hv u hu
theorem range_act {w : World} {q off : Nat} {d : Int} {s : ByteArray} {o : Nd} {v : Value} (h0 : w.cell? ⟨q, off, none⟩ = some (.int .u8 d)) (h1 : w.cell? ⟨q, off + 1, none⟩ = some (.string s)) (h : ∀ j, j < 22 → w.cell? ⟨q, off + 2 + j, none⟩ = (ncells o v)[j]?) : w.rangeAt q off (acells d s o v) := fun j u hu => by
  match j with
  | 0 => cases hu; exact h0
  | 1 => cases hu; exact h1
  | j + 2 =>
    have hj : j < 22 := by have := (List.getElem?_eq_some_iff.1 hu).1; change j + 2 < 24 at this; omega
    rw [show off + (j + 2) = off + 2 + j from by omega]
    exact (h j hj).trans hu
theorem build_29 (w : World) : (Instr.build 29 #[]).run Tryz.prog w = .ok (.agg #[.slice none 0 0]) w := run_build w 29 _ _ (by kernel_rfl)
theorem neq_bool (W : World) (b : Bool) : (binOp .neq 4 (.bool b) (.bool b)).run Tryz.prog W = .ok (.bool false) W := by
  cases b <;> kernel_rfl
/-- What the law's loop keeps: both tables, and what they have. -/
structure PlI (wx : World) (l : List Deed) (pt b4 : Nat) (mo : Option Nat) (L R : List (ByteArray × T)) (ra : Option Addr) (rc : Nat) (wr : World) : Prop where
  tab : TabK wx.heap.size wr pt mo L
  var : wr.heap[b4]? = some (.cells #[.slice ra R.length rc] 29)
  rows : RowsAt wr ra R
  agr : Agree L R
  rise : Rise R
  cap : R.length ≤ rc
  bel : Below wx.heap.size wx wr
  sz : ∀ p ∈ L, p.2.size ≤ 400 ∧ p.1.size ≤ 100
theorem PlI.below {wx wr wy : World} {l : List Deed} {pt b4 : Nat} {mo : Option Nat} {L R : List (ByteArray × T)} {ra : Option Addr} {rc : Nat} (h : PlI wx l pt b4 mo L R ra rc wr) (hb : Below wr.heap.size wr wy) : PlI wx l pt b4 mo L R ra rc wy :=
  ⟨h.tab.below hb, (hb.block _ (lt_of_heap h.var)).trans h.var, h.rows.below hb, h.agr, h.rise, h.cap, h.bel.trans (hb.mono h.bel.size), h.sz⟩
theorem set_sz {L : List (ByteArray × T)} {s : ByteArray} {t : T} (h : ∀ p ∈ L, p.2.size ≤ 400 ∧ p.1.size ≤ 100) (hs : s.size ≤ 100) (ht : t.size ≤ 400) : ∀ p ∈ setL L s t, p.2.size ≤ 400 ∧ p.1.size ≤ 100 := fun p hp => by
  unfold setL at hp
  split at hp
  · rcases mem_putL hp with rfl | hp
    · exact ⟨ht, hs⟩
    · exact h p hp
  · exact h p hp
theorem del_sz {L : List (ByteArray × T)} {s : ByteArray} (h : ∀ p ∈ L, p.2.size ≤ 400 ∧ p.1.size ≤ 100) : ∀ p ∈ delL L s, p.2.size ≤ 400 ∧ p.1.size ≤ 100 := fun p hp => h p ((del_sub L s).subset hp)
theorem Agree.via {L R Lc : List (ByteArray × T)} (h : Agree L R) (hc : Agree L Lc) : Agree Lc R := ⟨fun s => (h.get s).trans (hc.get s).symm, h.len.trans hc.len.symm, h.nodR, hc.nodR⟩
/-- A clone, and what the document's table was. -/
structure Was (B : Nat) (pc b8 : Nat) (mc : Option Nat) (Lc R : List (ByteArray × T)) (ra : Option Addr) (rc : Nat) (wr : World) : Prop where
  tab : TabK B wr pc mc Lc
  var : wr.heap[b8]? = some (.cells #[.slice ra R.length rc] 29)
  rows : RowsAt wr ra R
theorem Was.below {B pc b8 : Nat} {mc : Option Nat} {Lc R : List (ByteArray × T)} {ra : Option Addr} {rc : Nat} {wr wy : World} (h : Was B pc b8 mc Lc R ra rc wr) (hb : Below wr.heap.size wr wy) : Was B pc b8 mc Lc R ra rc wy := ⟨h.tab.below hb, (hb.block _ (lt_of_heap h.var)).trans h.var, h.rows.below hb⟩
theorem Was.thin {B pc b8 : Nat} {mc : Option Nat} {Lc R : List (ByteArray × T)} {ra : Option Addr} {rc : Nat} {S : Nat → Prop} {wr wy : World} (h : Was B pc b8 mc Lc R ra rc wr) (h8 : B ≤ b8) (hf : Fr S wr wy) (hS : ∀ k, S k → Thin wr k ∧ k < B) : Was B pc b8 mc Lc R ra rc wy := by
  refine ⟨h.tab.thin hf (fun k hk => (hS k hk).1) (fun hk => ?_) (fun mt hm hk => ?_), (hf.block _ (lt_of_heap h.var) (fun hk => ?_)).trans h.var, h.rows.thin hf (fun k hk => (hS k hk).1)⟩
  · have := (hS _ hk).2
    have := h.tab.2.2.1
    omega
  · have := (hS _ hk).2
    have := h.tab.2.2.2 mt hm
    omega
  · have := (hS _ hk).2
    omega
/-- Both, as a round has them. -/
structure Duo2 (wx : World) (l : List Deed) (pt b4 B pc b8 : Nat) (mc : Option Nat) (Lc R0 : List (ByteArray × T)) (ra0 : Option Addr) (rc0 : Nat) (mo : Option Nat) (L R : List (ByteArray × T)) (ra : Option Addr) (rc : Nat) (wr : World) : Prop where
  pl : PlI wx l pt b4 mo L R ra rc wr
  was : Was B pc b8 mc Lc R0 ra0 rc0 wr
theorem Duo2.below {wx : World} {l : List Deed} {pt b4 B pc b8 : Nat} {mc : Option Nat} {Lc R0 : List (ByteArray × T)} {ra0 : Option Addr} {rc0 : Nat} {mo : Option Nat} {L R : List (ByteArray × T)} {ra : Option Addr} {rc : Nat} {wr wy : World} (h : Duo2 wx l pt b4 B pc b8 mc Lc R0 ra0 rc0 mo L R ra rc wr) (hb : Below wr.heap.size wr wy) : Duo2 wx l pt b4 B pc b8 mc Lc R0 ra0 rc0 mo L R ra rc wy := ⟨h.pl.below hb, h.was.below hb⟩
/-- The program's table is changed, then the document's variable. -/
theorem Duo2.step {wx : World} {l : List Deed} {pt b4 B pc b8 : Nat} {mc : Option Nat} {Lc R0 : List (ByteArray × T)} {ra0 : Option Addr} {rc0 : Nat} {mo mo5 : Option Nat} {L R L5 R5 : List (ByteArray × T)} {ra ra5 : Option Addr} {rc rc5 : Nat} {wr w5 W6 W7 : World}
    (h : Duo2 wx l pt b4 B pc b8 mc Lc R0 ra0 rc0 mo L R ra rc wr) (hx : wx.heap.size ≤ wr.heap.size) (hp4 : pt ≠ b4) (h4 : wx.heap.size ≤ b4) (h4B : b4 < B) (hpB : pt < B) (hmB : ∀ m, mo = some m → m < B) (h8 : B ≤ b8)
    (hT : TabK wx.heap.size w5 pt mo5 L5) (hf : Fr (fun k => wx.heap.size ≤ k ∧ (k = pt ∨ mo = some k)) wr w5) (hR5 : RowsAt wr ra5 R5) (hag : Agree L5 R5) (hri : Rise R5) (hcap : R5.length ≤ rc5) (hsz : ∀ p ∈ L5, p.2.size ≤ 400 ∧ p.1.size ≤ 100)
    (hb6 : Below w5.heap.size w5 W6) (h7 : W7 = W6.setCell ⟨b4, 0, none⟩ (.slice ra5 R5.length rc5)) : Duo2 wx l pt b4 B pc b8 mc Lc R0 ra0 rc0 mo5 L5 R5 ra5 rc5 W7 := by
  have hth := h.pl.tab.thins
  have v5 : w5.heap[b4]? = some (.cells #[.slice ra R.length rc] 29) := (hf.block b4 (lt_of_heap h.pl.var) (by
    rintro ⟨_, e | e⟩
    · exact hp4 e.symm
    · exact h.pl.tab.map_ne h.pl.var b4 e rfl)).trans h.pl.var
  have v6 := (hb6.block b4 (lt_of_heap v5)).trans v5
  have hf7 : Fr (fun b => b = b4) W6 W7 := by rw [h7]; exact Fr.setCell W6 ⟨b4, 0, none⟩ _
  have hth7 : ∀ j, j = b4 → Thin W6 j := fun j e => by rw [e]; exact thin_cells v6
  have hT6 := hT.below hb6
  have hW5 := h.was.thin h8 hf (fun k hk => ⟨hth k hk, by rcases hk.2 with e | e; (rw [e]; exact hpB); exact hmB k e⟩)
  have hb5 : Below wx.heap.size wx w5 := h.pl.bel.trans (hf.below hx (fun k hk => hk.1))
  refine ⟨⟨hT6.thin hf7 hth7 hp4 (fun m hm => hT6.map_ne v6 m hm), by rw [h7]; exact heap_setCell_at v6 0 _, ((hR5.thin hf hth).below hb6).thin hf7 hth7, hag, hri, hcap, (hb5.trans (hb6.mono hb5.size)).trans (hf7.below (Nat.le_trans hb5.size hb6.size) (fun k hk => by omega)), hsz⟩, (hW5.below hb6).thin h8 hf7 (fun k hk => ⟨hth7 k hk, by omega⟩)⟩
end Go.Proofs.YtlcglkanlhmmdaaGreat
