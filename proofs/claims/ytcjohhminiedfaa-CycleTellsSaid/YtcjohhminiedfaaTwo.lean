/- A region that draws its order, where behind the quiet operations two may come first. -/
import Derived.Test.YtcjohhminiedfaaMultiR
namespace Go.Proofs.Ytcjohhminiedfaa
open Go.RowKit
section
variable {P : Program} {ops : Array Oper} {Q : Exit → Act → World → Prop}
theorem wpAnyG_two {S : World → Prop} {ls : List Nat} {K : Act → World → Prop} (t u : Nat) (ts us : List Nat) (fuel : Nat) (listed : Array Bool) (a : Act) (w : World) (hf : ts.length + 1 ≤ fuel) (hf' : us.length + 1 ≤ fuel)
    (hc : Closed ops listed) (hr : Region.ready .any ops listed = [t, u]) (hT : forcedB ops ts (listed.setIfInBounds t true) = true) (hU : forcedB ops us (listed.setIfInBounds u true) = true)
    (hKT : ∀ fuel' a' w', K a' w' → wpAnyG P ops Q S ls fuel' (listAll ts (listed.setIfInBounds t true)) a' w')
    (hKU : ∀ fuel' a' w', K a' w' → wpAnyG P ops Q S ls fuel' (listAll us (listed.setIfInBounds u true)) a' w')
    (h1 : wpForced P ops Q S ls K (t :: ts) a w) (h2 : wpForced P ops Q S ls K (u :: us) a w) : wpAnyG P ops Q S ls fuel listed a w := by
  cases fuel with
  | zero => omega
  | succ fuel =>
    have ht : t ∈ Region.ready .any ops listed := by rw [hr]; simp
    have hu : u ∈ Region.ready .any ops listed := by rw [hr]; simp
    refine ⟨fun h0 => (by rw [hr] at h0; cases h0), fun i hi => ?_⟩
    rw [hr] at hi
    rcases (by simpa using hi : i = t ∨ i = u) with rfl | rfl
    · exact wpOp_mono (fun a' w' h' => ⟨h'.1, wpAnyG_forced ts fuel _ a' w' (by omega) (hc.set ht) hT (fun f' a'' w'' _ _ hk => hKT f' a'' w'' hk) h'.2⟩) h1
    · exact wpOp_mono (fun a' w' h' => ⟨h'.1, wpAnyG_forced us fuel _ a' w' (by omega) (hc.set hu) hU (fun f' a'' w'' _ _ hk => hKU f' a'' w'' hk) h'.2⟩) h2
theorem wpAnyG_end {S : World → Prop} {ls : List Nat} (fuel : Nat) (listed : Array Bool) (a : Act) (w : World) (hr : (Region.ready .any ops listed).isEmpty = true) (h : Q .normal a w) : wpAnyG P ops Q S ls fuel listed a w := by
  have hr' : Region.ready .any ops listed = [] := by simpa using hr
  cases fuel with
  | zero => exact ⟨hr', h⟩
  | succ fuel => exact ⟨fun _ => h, fun i hi => by rw [hr'] at hi; cases hi⟩
def twoB (ops : Array Oper) (fs ls : List Nat) (t u : Nat) (ts us : List Nat) : Bool :=
  Region.noSelect ops && decide (fs.length + ts.length + 1 ≤ ops.size) && decide (fs.length + us.length + 1 ≤ ops.size) && firstR ops (masks ops) ls fs (Array.replicate ops.size false) &&
  (Region.ready .any ops (listAll fs (Array.replicate ops.size false)) == [t, u]) && forcedB ops ts ((listAll fs (Array.replicate ops.size false)).setIfInBounds t true) && forcedB ops us ((listAll fs (Array.replicate ops.size false)).setIfInBounds u true) &&
  (Region.ready .any ops (listAll ts ((listAll fs (Array.replicate ops.size false)).setIfInBounds t true))).isEmpty && (Region.ready .any ops (listAll us ((listAll fs (Array.replicate ops.size false)).setIfInBounds u true))).isEmpty
/-- First all of fs, which are quiet under S; then t and ts, or u and us. -/
theorem wp_region_two {id : Nat} {a : Act} {w : World} (fs ls : List Nat) (t u : Nat) (ts us : List Nat) (S : World → Prop) (hm : P.follows .mixedOrders = true) (hB : twoB ops fs ls t u ts us = true) (hS : S w.drew)
    (h : wpFirst P ops S (fun a' => wpForced P ops (NoPanic Q) S ls (fun a w => NoPanic Q .normal a w) (t :: ts) a' w.drew ∧ wpForced P ops (NoPanic Q) S ls (fun a w => NoPanic Q .normal a w) (u :: us) a' w.drew) fs a) : (Code.region id ops true).wp P Q a w := by
  simp only [twoB, Bool.and_eq_true, decide_eq_true_eq, beq_iff_eq] at hB
  obtain ⟨⟨⟨⟨⟨⟨⟨⟨b1, b2⟩, b3⟩, b4⟩, b5⟩, b6⟩, b7⟩, b8⟩, b9⟩ := hB
  refine wp_region_noPanic (wp_region_any hm (wpAny_of_G (S := S) (ls := ls) _ _ _ _ (wpAnyG_firstsR (Region.noSelect_spec b1) (fun _ _ _ _ _ h => h) fs ops.size _ a _ (by omega) (closed_none _) b4 hS ?_ h)))
  intro f1 a1 he1 hc1 hk1
  exact wpAnyG_two t u ts us f1 _ a1 _ (by omega) (by omega) hc1 b5 b6 b7 (fun f' a' w' hk => wpAnyG_end f' _ a' w' b8 hk) (fun f' a' w' hk => wpAnyG_end f' _ a' w' b9 hk) hk1.1 hk1.2
theorem two_done {a : Act} {w : World} (h : Q .normal a w) : NoPanic Q .normal a w := h
end
end Go.Proofs.Ytcjohhminiedfaa
