/- Regions that draw their order, in the body of a range over a function: the laws of Mix and MultiR there. -/
import Derived.Test.YtihfmcadcojjnaaMultiR
import Derived.RangeFuncCalls
import Derived.OrdersIn
import Derived.TacticsIn
namespace Go.Proofs.Ytihfmcadcojjnaa
open Go.RowKit
section
variable {P : Program} {ops : Array Oper} {Q : Exit → Act → World → Prop}
def noDefer (ops : Array Oper) : Bool := ops.all fun o => match o.op with | .defer .. => false | _ => true
theorem noDefer_spec (h : noDefer ops = true) {j : Nat} {o : Oper} (ho : ops[j]? = some o) : ∀ c, o.op ≠ .defer c := by
  intro c heq
  have hm := Array.all_eq_true'.1 h o (Array.mem_of_getElem? ho)
  simp [heq] at hm
theorem uponIn_of {l n : Nat} {o : Oper} {a : Act} {K K' : Act → World → Prop} (hk : ∀ a w, K a w → K' a w) : ∀ r, o.upon P a K Q r → o.uponIn (Fence.wide.inRound l) n P a K' Q r
  | .ok (.value _) _, h => hk _ _ h
  | .ok .skip _, h => hk _ _ h
  | .ok (.defer _) _, h => hk _ _ h
  | .ok (.enter _ _) _, h => ⟨(fun h => by cases h), (CallsIn.inRound l (callsIn_wide.2 h)).mono (fun e w'' h => by cases e <;> first | exact hk _ _ h | exact h)⟩
  | .ok (.row _ _) _, h => ⟨(fun h => by cases h), fun c cs _ => let ⟨v, w', r, s⟩ := h c cs; ⟨v, w', hk _ _ r, stepsIn_wide.2 s⟩⟩
  | .halt (.panic _) _, h => h
theorem wpOpIn_of {l n i : Nat} {a : Act} {w : World} {K K' : Act → World → Prop} (hd : noDefer ops = true) (hlo : ¬ LetsOut Q) (hk : ∀ a w, K a w → K' a w) (h : wpOp P ops Q i K a w) : wpOpIn (Fence.wide.inRound l) n P ops Q i K' a w := by
  unfold wpOp at h
  unfold wpOpIn
  cases ho : ops[i]? with
  | none =>
    rw [ho] at h
    exact hk _ _ h
  | some o =>
    rw [ho] at h
    dsimp only at h ⊢
    split
    · rename_i hw
      rw [if_pos hw] at h
      rcases h with h | h
      · refine ⟨fun _ _ => trivial, ?_⟩
        rw [Fence.inRound_round, Oper.semAt_some _ _ _ (noDefer_spec hd ho)]
        exact uponIn_of hk _ h
      · exact (hlo h.2).elim
    · rename_i hw
      rw [if_neg hw] at h
      exact ⟨fun _ _ => trivial, hk _ _ h⟩
theorem wpAnyIn_of {l n : Nat} (hd : noDefer ops = true) (hlo : ¬ LetsOut Q) : ∀ (fuel : Nat) (listed : Array Bool) (a : Act) (w : World), wpAny P .any ops Q fuel listed a w → wpAnyIn (Fence.wide.inRound l) n P .any ops Q fuel listed a w
  | 0, _, _, _, h => h
  | fuel + 1, _, _, _, h => ⟨h.1, fun i hi => wpOpIn_of hd hlo (wpAnyIn_of hd hlo fuel _) (h.2 i hi)⟩
theorem wpIn_of_any {l n id : Nat} {a : Act} {w : World} (hm : P.follows .mixedOrders = true) (hd : noDefer ops = true) (hlo : ¬ LetsOut Q)
    (h : wpAny P .any ops (NoPanic Q) ops.size (Array.replicate ops.size false) a w.drew) : (Code.region id ops true).wpIn (Fence.wide.inRound l) n P Q a w :=
  wpIn_mono (Q := NoPanic Q) (wpIn_region_any hm (wpAnyIn_of (Q := NoPanic Q) hd (fun ⟨a, w, h⟩ => hlo ⟨a, w, h⟩) _ _ _ _ h)) NoPanic.imp
theorem wpIn_region_mix {l n id : Nat} {a : Act} {w : World} (fs ts ls : List Nat) (S : World → Prop) (hm : P.follows .mixedOrders = true)
    (hB : (Region.noSelect ops && decide (fs.length + ts.length ≤ ops.size) && mixB ops ls [] ts fs (Array.replicate ops.size false)) = true) (hd : noDefer ops = true) (hlo : ¬ LetsOut Q)
    (hS : S w.drew) (h : wpFirst P ops S (fun a' => wpTail P ops (NoPanic Q) S ls [] ts a' w.drew) fs a) : (Code.region id ops true).wpIn (Fence.wide.inRound l) n P Q a w := by
  simp only [Bool.and_eq_true, decide_eq_true_eq] at hB
  exact wpIn_of_any hm hd hlo (wpAny_of_G _ _ _ _ (wpAnyG_mix (Region.noSelect_spec hB.1.1) (fun _ _ _ _ _ h => h) fs ts ops.size _ a _ (closed_none _) hB.1.2 hB.2 hS h))
theorem wpIn_region_multiR {l n id : Nat} {a : Act} {w : World} (phs : List (List Nat × List Nat × List Nat)) (hm : P.follows .mixedOrders = true)
    (hB : (Region.noSelect ops && decide (phLen phs ≤ ops.size) && multiR ops (masks ops) phs (Array.replicate ops.size false)) = true) (hd : noDefer ops = true) (hlo : ¬ LetsOut Q)
    (h : wpMulti P ops (NoPanic Q) phs a w.drew) : (Code.region id ops true).wpIn (Fence.wide.inRound l) n P Q a w := by
  simp only [Bool.and_eq_true, decide_eq_true_eq] at hB
  exact wpIn_of_any hm hd hlo (wpAny_multiR (Region.noSelect_spec hB.1.1) (fun _ _ _ _ _ h => h) phs ops.size _ a _ hB.1.2 (closed_none _) hB.2 h)
end
end Go.Proofs.Ytihfmcadcojjnaa
