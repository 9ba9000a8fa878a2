/- Cycle: heap.Push. -/
import Derived.Test.YtcjohhminiedfaaC21Heap2
namespace Go.Proofs.Ytcjohhminiedfaa
open Go.RowKit
/-- heap.Push. -/
def pushF (h : List Nat) (x : Nat) : List Nat := upF (h.length + 1) (h ++ [x]) h.length
set_option maxHeartbeats 1000000 in
set_option maxRecDepth 100000 in
theorem hpush_any {r x : Nat} {sv : Value} {h : List Nat} {w : World} (hn : h.length ≤ 900000) (hH : HpR r w sv h) : Calls Try.prog 34 #[rd r, .iface 3 (.int .i64 (x : Int))] w fun e w' => e = .returned (.tuple #[]) ∧ HpP r w sv (pushF h x) w' := by
  unfold rd
  have CP := Lib.hid (rpush_any (x := x) (by omega) hH)
  clear hH
  go_enter Try.func34, Try.ntmps34
  go_wp2_with fail
  refine CP.out.mono ?_
  rintro e w1 ⟨rfl, sv1, h1, h2, h3⟩
  obtain ⟨sa, sc, rfl, _, h4⟩ := h1.row.slice
  obtain ⟨g, rfl, _⟩ := h4 (by simp)
  obtain ⟨n, hn'⟩ : ∃ n, (h ++ [x]).length = n := ⟨_, rfl⟩
  have hn2 : h.length + 1 = n := by rw [← hn']; simp
  have e1 := cell_of_heap h1.blk 0
  have CU := up_any (r := r) (j := h.length) (g := g) (n := n) (c := sc) (h := h ++ [x]) (w := w1) (by omega) (by omega) hn' (by rw [← hn']; exact h1)
  have PF : Hid (upF n (h ++ [x]) h.length = pushF h x) := by
    unfold Hid pushF
    rw [hn2]
  rw [hn'] at e1 h3
  have ML := meth_run meth_fact.1 e1
  have H2 := Lib.hid h2
  have H3 := Lib.hid h3
  have HCU := Lib.hid CU
  clear h1 h2 h3 h4 CU CP hn'
  have hq : (n : Int) - 1 = (h.length : Int) := by omega
  clear hn2
  go_wp2_with fail
  refine (len_any _ _ _ _).mono ?_
  rintro e w2 ⟨rfl, rfl⟩
  clear ML
  go_wp2_with fail
  refine HCU.out.mono ?_
  rintro e w3 ⟨rfl, u1, u2⟩
  rw [PF.out] at u1
  have FIN : Hid (HpP r w sv (pushF h x) w3) := ⟨_, u1, H2.out.trans u2 (fun k hk e => by
    subst e
    rcases H3.out k rfl with h | h
    · exact .inr h
    · omega), H3.out⟩
  clear u1 u2 HCU H2 H3 e1
  go_wp2_with fail
  refine bodyPost_end (v := .tuple #[]) (by simp [results, Try.results34, go_sem]) rfl ⟨rfl, FIN.out⟩
end Go.Proofs.Ytcjohhminiedfaa
