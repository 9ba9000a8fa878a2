/- Regions in phases, the last of which is a tree of orders. -/
import Derived.Test.YtndhmahkglfopaaGreatDoorQT13Num2
import Derived.Test.YtndhmahkglfopaaGreatDoorQInv
namespace Go.Proofs.YtndhmahkglfopaaGreatDoor
open Go.RowKit
section
variable {P : Program} {ops : Array Oper} {Q : Exit → Act → World → Prop}
def wpMultiO (P : Program) (ops : Array Oper) (Q : Exit → Act → World → Prop) (fs : List Nat) (r : OrdT) (lo : List Nat) : List (List Nat × List Nat × List Nat) → Act → World → Prop
  | [], a, w => ∃ S : World → Prop, S w ∧ wpFirst P ops S (fun a' => wpOrd P ops Q S lo r a' w) fs a
  | ph :: rest, a, w => ∃ S : World → Prop, S w ∧ wpFirst P ops S (fun a' => wpForced P ops Q S ph.2.2 (wpMultiO P ops Q fs r lo rest) ph.2.1 a' w) ph.1 a
def multiOB (ops : Array Oper) (ms : List Nat) (fs : List Nat) (r : OrdT) (lo : List Nat) : List (List Nat × List Nat × List Nat) → Array Bool → Bool
  | ph :: rest, listed => firstR ops ms ph.2.2 ph.1 listed && forcedB ops ph.2.1 (listAll ph.1 listed) && leftB ops ph.2.2 (listAll ph.2.1 (listAll ph.1 listed)) && multiOB ops ms fs r lo rest (listAll ph.2.1 (listAll ph.1 listed))
  | [], listed => firstR ops ms lo fs listed && ordB ops r (listAll fs listed)
theorem wpAny_multiO {fs : List Nat} {r : OrdT} {lo : List Nat} (hsel : ∀ (j : Nat) (o : Oper) cs b, ops[j]? = some o → o.op ≠ .select cs b) (hQ : ∀ c a w d v, Q (.panic c) (a.put d v) w → Q (.panic c) a w) :
    ∀ (phs : List (List Nat × List Nat × List Nat)) (fuel : Nat) (listed : Array Bool) (a : Act) (w : World), phLen phs + (fs.length + ordN r) ≤ fuel → Closed ops listed → multiOB ops (masks ops) fs r lo phs listed = true → wpMultiO P ops Q fs r lo phs a w → wpAny P .any ops Q fuel listed a w
  | [], fuel, listed, a, w, hf, hcl, hB, h => by
    obtain ⟨S, hS, h⟩ := h
    simp only [multiOB, Bool.and_eq_true] at hB
    simp only [phLen] at hf
    refine wpAny_of_G (S := S) (ls := lo) _ _ _ _ (wpAnyG_firstsR hsel hQ fs fuel listed a w (by omega) hcl hB.1 hS ?_ h)
    intro f1 a1 he1 hc1 hk1
    exact wpAnyG_ord r f1 _ a1 _ (by omega) hB.2 hk1
  | ph :: rest, fuel, listed, a, w, hf, hcl, hB, h => by
    obtain ⟨S, hS, h⟩ := h
    simp only [multiOB, Bool.and_eq_true] at hB
    obtain ⟨⟨⟨h1, h2⟩, h3⟩, h4⟩ := hB
    simp only [phLen] at hf
    refine wpAny_of_G (S := S) (ls := ph.2.2) _ _ _ _ (wpAnyG_firstsR hsel hQ ph.1 fuel listed a w (by omega) hcl h1 hS ?_ h)
    intro f1 a1 he1 hc1 hk1
    refine wpAnyG_forced ph.2.1 f1 _ a1 w (by omega) hc1 h2 ?_ hk1
    intro f2 a2 w2 he2 hc2 hk2
    refine wpAnyG_of_any f2 _ a2 w2 (fun j hj => ?_) (wpAny_multiO hsel hQ rest f2 _ a2 w2 (by omega) hc2 h4 hk2)
    have := List.all_eq_true.1 h3 j (List.mem_range.2 hj)
    simpa using this
theorem wp_region_multiO {id : Nat} {a : Act} {w : World} (phs : List (List Nat × List Nat × List Nat)) (fs : List Nat) (r : OrdT) (lo : List Nat) (hm : P.follows .mixedOrders = true)
    (hB : (Region.noSelect ops && decide (phLen phs + (fs.length + ordN r) ≤ ops.size) && multiOB ops (masks ops) fs r lo phs (Array.replicate ops.size false)) = true)
    (h : wpMultiO P ops (NoPanic Q) fs r lo phs a w.drew) : (Code.region id ops true).wp P Q a w := by
  simp only [Bool.and_eq_true, decide_eq_true_eq] at hB
  exact wp_region_noPanic (wp_region_any hm (wpAny_multiO (Region.noSelect_spec hB.1.1) (fun _ _ _ _ _ h => h) phs ops.size _ a _ hB.1.2 (closed_none _) hB.2 h))
theorem multiO_phase {fs0 : List Nat} {r : OrdT} {lo fs ts ls : List Nat} {rest : List (List Nat × List Nat × List Nat)} {a : Act} {w : World} (S : World → Prop) (hS : S w)
    (h : wpFirst P ops S (fun a' => wpForced P ops Q S ls (wpMultiO P ops Q fs0 r lo rest) ts a' w) fs a) : wpMultiO P ops Q fs0 r lo ((fs, ts, ls) :: rest) a w := ⟨S, hS, h⟩
theorem multiO_last {fs0 : List Nat} {r : OrdT} {lo : List Nat} {a : Act} {w : World} (S : World → Prop) (hS : S w)
    (h : wpFirst P ops S (fun a' => wpOrd P ops Q S lo r a' w) fs0 a) : wpMultiO P ops Q fs0 r lo [] a w := ⟨S, hS, h⟩
end
end Go.Proofs.YtndhmahkglfopaaGreatDoor
