/- Cycle: heap.Pop. -/
import Derived.Test.YtcjohhminiedfaaC21HP
namespace Go.Proofs.Ytcjohhminiedfaa
open Go.RowKit
set_option maxHeartbeats 2000000 in
set_option maxRecDepth 100000 in
theorem hpop_any {r : Nat} {sv : Value} {h : List Nat} {w : World} (hn : h.length ≤ 900000) (h0 : 0 < h.length) (hp : IsHp h) (hH : HpR r w sv h) : Calls Try.prog 36 #[rd r] w fun e w' => e = .returned (.iface 3 (.int .i64 ((h.getD 0 0 : Nat) : Int))) ∧ HpP r w sv (popF h) w' := by
  obtain ⟨_, _, hpp⟩ := pop_law hp h0
  have HPP := Lib.hid hpp
  clear hp hpp
  obtain ⟨sa, sc, rfl, _, h4⟩ := hH.row.slice
  obtain ⟨g, rfl, _⟩ := h4 h0
  clear h4
  obtain ⟨m, hm⟩ : ∃ m, h.length = m := ⟨_, rfl⟩
  obtain ⟨n, hn'⟩ : ∃ n, m - 1 = n := ⟨_, rfl⟩
  have hnm : n < m := by omega
  have hq : (m : Int) - 1 = (n : Int) := by omega
  have P2 : Hid (downF (n + 1) n (swapN h 0 n) 0 = popF h ++ [h.getD 0 0]) := by
    unfold Hid
    rw [← HPP.out, ← hn', ← hm]
    rfl
  have CS := swap_any (g := g) (c := sc) (i := 0) (j := n) (h := h) (w := w) (by omega) (by omega) (by omega) hH.row
  have HH := Lib.hid hH
  have HM := Lib.hid hm
  rw [hm] at CS hn h0 HH ⊢
  have HCS := Lib.hid CS
  clear CS hm hH hn' h0 HPP
  generalize h.getD 0 0 = x at *
  have e1 := cell_of_heap HH.out.blk 0
  have ML := meth_run meth_fact.1 e1
  have MS := meth_run meth_fact.2.2 e1
  unfold rd
  go_enter Try.func36, Try.ntmps36
  go_wp2_with fail
  refine (len_any _ _ _ _).mono ?_
  rintro e w1 ⟨rfl, rfl⟩
  clear ML
  go_wp2_with fail
  refine HCS.out.mono ?_
  rintro e w2 ⟨rfl, s1, s2, s3⟩
  have H2 := Lib.hid (HH.out.swapped s1 s2)
  have F2 := Lib.hid s2
  have CD := down_any (r := r) (i0 := 0) (g := g) (n := n) (m := m) (c := sc) (h := swapN h 0 n) (w := w2) hn hnm (Nat.zero_le _) (by rw [swapN_length]; exact HM.out) H2.out
  rw [P2.out] at CD
  have HCD := Lib.hid CD
  clear s1 s2 s3 CD HCS MS e1 H2 P2
  go_wp2_with fail
  refine HCD.out.mono ?_
  rintro e w3 ⟨⟨b, rfl⟩, d1, d2⟩
  have F3 : Hid (Fr (fun k => k = g) w w3) := F2.out.trans d2 fun _ _ h => h
  have hpl : (popF h ++ [x]).length = m := by
    have := d1.row.1
    have h5 := d1.row.slice
    obtain ⟨_, _, e, _⟩ := h5
    injection e with _ e _
    exact e.symm
  have CP := Lib.hid (rpop_any (x := x) (h := popF h) (by simp at hpl; omega) d1)
  clear d1 d2 F2 HCD hpl
  go_wp2_with fail
  refine CP.out.mono ?_
  rintro e w4 ⟨rfl, sv4, q1, q2, q3⟩
  have FIN : Hid (HpP r w (.slice (some ⟨g, 0, none⟩) m sc) (popF h) w4) := ⟨sv4, q1, (F3.out.mono (S' := fun k => k = r ∨ (Value.slice (some ⟨g, 0, none⟩) m sc).ownBlock = some k) fun k _ e => .inr (by rw [e]; rfl)).trans q2 fun _ _ h => h, fun k e => by
    rcases q3 k e with h | h
    · exact .inl h
    · exact .inr (Nat.le_trans F3.out.size h)⟩
  clear q1 q2 q3 CP F3
  go_wp2_with fail
  refine bodyPost_ret (v := .iface 3 (.int .i64 (x : Int))) (by simp [results, Try.results36, go_sem]) rfl ⟨rfl, FIN.out⟩
end Go.Proofs.Ytcjohhminiedfaa
