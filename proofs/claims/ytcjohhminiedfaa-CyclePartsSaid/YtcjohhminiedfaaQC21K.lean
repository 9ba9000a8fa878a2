/- Cycle: keys of two numbers. -/
import Derived.Test.YtcjohhminiedfaaProg
import Derived.Test.YtcjohhminiedfaaQBase
namespace Go.Proofs.Ytcjohhminiedfaa
open Go.RowKit
def encP (k : Int × Int) : Value := .agg #[.int .i64 k.1, .int .i64 k.2]
theorem eqIn_place (a b c d : Int) (w : World) : (Op.equalIn 10000 37 (.agg #[.int .i64 a, .int .i64 b]) (.agg #[.int .i64 c, .int .i64 d])).run Try.prog w = .ok (a == c && b == d) w := by
  have u3 := Try.underlying3
  have a3 := Try.isAgg3
  have z3 := Try.sizeOf3
  rw [show (10000 : Nat) = 9999 + 1 from rfl, Op.equalIn]
  simp only [Sem.run_bind, run_underlying Try.underlying37, Result.andThen_ok]
  simp only [Std.Legacy.Range.forIn_eq_forIn_range', Std.Legacy.Range.size, Nat.sub_zero, Nat.add_sub_cancel, Nat.div_one, List.range'_succ, List.range'_zero, List.forIn_cons, List.forIn_nil]
  go_simp
  by_cases h1 : a = c <;> by_cases h2 : b = d <;> simp [h1, h2]
theorem eq_place (w : World) (a b : Int × Int) : (Op.equal 37 (encP a) (encP b)).run Try.prog w = .ok (decide (a = b)) w := by
  obtain ⟨a1, a2⟩ := a
  obtain ⟨b1, b2⟩ := b
  refine (eqIn_place a1 a2 b1 b2 w).trans ?_
  by_cases h1 : a1 = b1 <;> by_cases h2 : a2 = b2 <;> simp [h1, h2]
theorem check_place (w : World) (em : Bool) (k : Int × Int) : (Instr.checkKey em 10000 37 (encP k)).run Try.prog w = .ok () w := by
  obtain ⟨a, b⟩ := k
  unfold encP
  kernel_rfl
theorem encP_inj {a b : Int × Int} (h : encP a = encP b) : a = b := by
  obtain ⟨a1, a2⟩ := a
  obtain ⟨b1, b2⟩ := b
  simp [encP] at h
  simp [h]
theorem findAsking_place (w : World) (k : Int × Int) : ∀ (es : List MapEntry) (i : Nat), (∀ e ∈ es, ∃ k', e.key = encP k') →
    ((Instr.findAsking 37 (encP k) es i).run Try.prog w = .ok none w ∧ ∀ e ∈ es, e.key ≠ encP k) ∨
    ∃ j e, (Instr.findAsking 37 (encP k) es i).run Try.prog w = .ok (some (i + j, e.val)) w ∧ es[j]? = some e ∧ e.key = encP k
  | [], i, _ => .inl ⟨rfl, by simp⟩
  | e :: es, i, h => by
    obtain ⟨k', hk'⟩ := h e (by simp)
    have heq := eq_place w k k'
    rw [← hk'] at heq
    by_cases hkk : k = k'
    · refine .inr ⟨0, e, ?_, rfl, by rw [hk', hkk]⟩
      subst hkk
      simp [Instr.findAsking, heq, Result.andThen]
    · have hne : e.key ≠ encP k := fun he => hkk (encP_inj (he.symm.trans hk'))
      have hstep : (Instr.findAsking 37 (encP k) (e :: es) i).run Try.prog w = (Instr.findAsking 37 (encP k) es (i + 1)).run Try.prog w := by
        simp [Instr.findAsking, heq, hkk, Result.andThen]
      rcases findAsking_place w k es (i + 1) (fun x hx => h x (List.mem_cons_of_mem _ hx)) with ⟨h1, h2⟩ | ⟨j, e', h1, h2, h3⟩
      · refine .inl ⟨by rw [hstep]; exact h1, fun x hx => ?_⟩
        rcases List.mem_cons.1 hx with rfl | hx
        · exact hne
        · exact h2 x hx
      · exact .inr ⟨j + 1, e', by rw [hstep, h1, Nat.add_assoc, Nat.add_comm 1 j], by simpa using h2, h3⟩
theorem place_fits : KeyFits Try.prog 37 encP where
  inj := encP_inj
  check := check_place
  find w k es hes := by
    have h := findAsking_place w k es 0 hes
    rw [← run_findKey_eq (P := Try.prog) w (k := 37) (by kernel_rfl) (encP k) es] at h
    simpa using h
  stays w k := by
    obtain ⟨a, b⟩ := k
    simp [Instr.keyThatStays, encP, Instr.sameBits]
theorem zero4 (w : World) : (zeroValue 4).run Try.prog w = .ok (.bool false) w := by kernel_rfl
/-- An edge as a key. -/
def kE (e : Nat × Nat) : Int × Int := ((e.1 : Int), (e.2 : Int))
theorem kE_inj {a b : Nat × Nat} (h : kE a = kE b) : a = b := by
  obtain ⟨a1, a2⟩ := a
  obtain ⟨b1, b2⟩ := b
  simp only [kE, Prod.mk.injEq] at h
  rw [Prod.mk.injEq]
  omega
/-- The edges as the map holds them. -/
def mE (E : List (Nat × Nat)) : List ((Int × Int) × Bool) := E.map fun e => (kE e, true)
theorem getL_mE (E : List (Nat × Nat)) (e : Nat × Nat) : getL (mE E) (kE e) = if e ∈ E then some true else none := by
  induction E with
  | nil => rfl
  | cons a r ih =>
    show getL ((kE a, true) :: mE r) (kE e) = _
    unfold getL
    by_cases h : kE a = kE e
    · rw [if_pos h, if_pos (by rw [kE_inj h]; exact List.mem_cons_self)]
    · rw [if_neg h, ih]
      have : e ∈ a :: r ↔ e ∈ r := by
        rw [List.mem_cons]
        constructor
        · rintro (h1 | h1)
          · exact absurd (by rw [h1]) h
          · exact h1
        · exact .inr
      simp only [this]
theorem putL_mE {E : List (Nat × Nat)} {e : Nat × Nat} (h : e ∉ E) : putL (mE E) (kE e) true = mE (E ++ [e]) := by
  rw [putL_new]
  · simp [mE]
  · intro p hp he
    obtain ⟨a, ha, rfl⟩ := List.mem_map.1 hp
    exact h (by rw [← kE_inj he]; exact ha)
end Go.Proofs.Ytcjohhminiedfaa
