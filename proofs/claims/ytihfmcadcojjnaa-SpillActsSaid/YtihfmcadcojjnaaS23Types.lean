/- Facts on the types of the program: keys and elements of the board's maps. -/
import Derived.Test.YtihfmcadcojjnaaProg
import Derived.Test.YtihfmcadcojjnaaBase
namespace Go.Proofs.Ytihfmcadcojjnaa
open Go.RowKit
def encP (k : Int × Int) : Value := .agg #[.int .i64 k.1, .int .i64 k.2]
theorem eq_place (w : World) (a b : Int × Int) : (Op.equal 72 (encP a) (encP b)).run Try.prog w = .ok (decide (a = b)) w := by
  obtain ⟨a1, a2⟩ := a
  obtain ⟨b1, b2⟩ := b
  unfold encP Op.equal Op.maxDepth
  simp [go_sem]
  by_cases h1 : a1 = b1 <;> by_cases h2 : a2 = b2 <;> simp [h1, h2]
theorem check_place (w : World) (em : Bool) (k : Int × Int) : (Instr.checkKey em 10000 72 (encP k)).run Try.prog w = .ok () w := by
  obtain ⟨a, b⟩ := k
  unfold encP
  kernel_rfl
theorem encP_inj {a b : Int × Int} (h : encP a = encP b) : a = b := by
  obtain ⟨a1, a2⟩ := a
  obtain ⟨b1, b2⟩ := b
  simp [encP] at h
  simp [h]
theorem findAsking_place (w : World) (k : Int × Int) : ∀ (es : List MapEntry) (i : Nat), (∀ e ∈ es, ∃ k', e.key = encP k') →
    ((Instr.findAsking 72 (encP k) es i).run Try.prog w = .ok none w ∧ ∀ e ∈ es, e.key ≠ encP k) ∨
    ∃ j e, (Instr.findAsking 72 (encP k) es i).run Try.prog w = .ok (some (i + j, e.val)) w ∧ es[j]? = some e ∧ e.key = encP k
  | [], i, _ => .inl ⟨rfl, by simp⟩
  | e :: es, i, h => by
    obtain ⟨k', hk'⟩ := h e (by simp)
    have heq := eq_place w k k'
    rw [← hk'] at heq
    by_cases hkk : k = k'
    · refine .inr ⟨0, e, ?_, rfl, by rw [hk', hkk]⟩
      subst hkk
      simp [Instr.findAsking, heq, Result.andThen]
    · have hne : e.key ≠ encP k := fun he => hkk (encP_inj (he.symm.trans hk'))
      have hstep : (Instr.findAsking 72 (encP k) (e :: es) i).run Try.prog w = (Instr.findAsking 72 (encP k) es (i + 1)).run Try.prog w := by
        simp [Instr.findAsking, heq, hkk, Result.andThen]
      rcases findAsking_place w k es (i + 1) (fun x hx => h x (List.mem_cons_of_mem _ hx)) with ⟨h1, h2⟩ | ⟨j, e', h1, h2, h3⟩
      · refine .inl ⟨by rw [hstep]; exact h1, fun x hx => ?_⟩
        rcases List.mem_cons.1 hx with rfl | hx
        · exact hne
        · exact h2 x hx
      · exact .inr ⟨j + 1, e', by rw [hstep, h1, Nat.add_assoc, Nat.add_comm 1 j], by simpa using h2, h3⟩
theorem place_fits : KeyFits Try.prog 72 encP where
  inj := encP_inj
  check := check_place
  find w k es hes := by
    have h := findAsking_place w k es 0 hes
    rw [← run_findKey_eq (P := Try.prog) w (k := 72) rfl (encP k) es] at h
    simpa using h
  stays w k := by
    obtain ⟨a, b⟩ := k
    simp [Instr.keyThatStays, encP, Instr.sameBits]
def encR (r : Int × Int × Int × Int) : Value := .agg #[.int .i64 r.1, .int .i64 r.2.1, .int .i64 r.2.2.1, .int .i64 r.2.2.2]
theorem neq_rect (w : World) (a b : Int × Int × Int × Int) : (binOp .neq 38 (encR a) (encR b)).run Try.prog w = .ok (.bool (decide (a ≠ b))) w := by
  obtain ⟨a1, a2, a3, a4⟩ := a
  obtain ⟨b1, b2, b3, b4⟩ := b
  unfold encR
  simp [go_sem]
  by_cases h1 : a1 = b1 <;> by_cases h2 : a2 = b2 <;> by_cases h3 : a3 = b3 <;> by_cases h4 : a4 = b4 <;> simp [h1, h2, h3, h4]
theorem neq_place (w : World) (a b : Int × Int) : (binOp .neq 72 (encP a) (encP b)).run Try.prog w = .ok (.bool (decide (a ≠ b))) w := by
  obtain ⟨a1, a2⟩ := a
  obtain ⟨b1, b2⟩ := b
  unfold encP
  simp [go_sem]
  by_cases h1 : a1 = b1 <;> by_cases h2 : a2 = b2 <;> simp [h1, h2]
theorem zero4 (w : World) : (zeroValue 4).run Try.prog w = .ok (.bool false) w := by kernel_rfl
theorem zero3 (w : World) : (zeroValue 3).run Try.prog w = .ok (.int .i64 0) w := by kernel_rfl
theorem zero38 (w : World) : (zeroValue 38).run Try.prog w = .ok (encR (0, 0, 0, 0)) w := by kernel_rfl
end Go.Proofs.Ytihfmcadcojjnaa
