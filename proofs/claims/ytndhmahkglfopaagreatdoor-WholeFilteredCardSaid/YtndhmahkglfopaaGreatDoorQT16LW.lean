/- From a contract of a law's function to the law's row, where package variables are listed. -/
import Derived.LaidMore
import Derived.OpenShut
import Derived.Lay
import Derived.Lib.LaidU8
import Derived.Lib.LaidTab
import Derived.Stop.Joined
import Derived.Test.YtndhmahkglfopaaGreatDoorQT16P
import Derived.Test.YtndhmahkglfopaaGreatDoorQT16OP
namespace Go.Proofs.YtndhmahkglfopaaGreatDoor
open Go.ChangeShapes Go.WideShapes Go.ChangeAt Go.RowKit
/-- The listed variables, as the rows have them. -/
noncomputable def laidL : List (String × DataW Unit) := Rows.wholeTurnedRow.laid
theorem pow_datum : (Rows.laid_internal_strconv_uint64pow10 : DataW Unit) = Lib.tabData .u64 Lib.pow10Tab := by kernel_rfl
theorem tab_type : (Tryz.prog.globals[3]?).map (·.type) = some 261 := by kernel_rfl
set_option maxRecDepth 100000 in
theorem tab_of_laid {W : World} (h : laidMetH Tryz.prog laidL W) : Tab W := by
  rw [MakeChecks.laidMetH_plain _ _ _ (by kernel_rfl)] at h
  have hm : ("internal/strconv.uint64pow10", (Rows.laid_internal_strconv_uint64pow10 : DataW Unit)) ∈ laidL := by
    unfold laidL Rows.wholeTurnedRow
    simp
  obtain ⟨g, t, cs, fuel, p, hg, ht, hv, hd⟩ := Lib.laidMet.reads h hm
  obtain rfl := Option.some.inj (tab_named.symm.trans hg)
  obtain rfl := Option.some.inj (tab_type.symm.trans ht)
  rw [pow_datum] at hd
  unfold Tab Lib.TabIs
  rw [hv, ← Lib.cells_of_tab (k := .u64) Tryz.underlying261 Tryz.underlying94 (by kernel_rfl) (by kernel_rfl) hd]
set_option maxRecDepth 100000 in
theorem law_lift_tied {H : Type} {enc : TypeId × Value → H} {os : Os} {f : FuncId} {fn : Func} {s : ChangeSpec} {tb : TypeId}
    (started : os.Started) (noInit : Tryz.checked.prog.inits.idxOf? f = none) (hfn : Tryz.checked.prog.funcs[f]? = some fn)
    (witness : ∃ (w : World) (tape : Tape) (i : Input), w.os = os ∧ (w.forCall tape i).Shaped Tryz.checked.prog ∧ i.vars = [] ∧ Input.okWide Tryz.checked.prog (w.forCall tape i) .any w.heap.size f i ∧
      ((s.pre enc Tryz.checked.prog fn [] false (w.forCall tape i).memory i.args ∧ laidMetH Tryz.prog laidL (w.forCall tape i).memory) ∧ sizedMet enc Tryz.checked.prog fn (OpenSpec.ofChange s) false (w.forCall tape i).memory i.args) ∧ ({} : Assume).holds Tryz.checked.prog (lone (Frame.enter Tryz.checked.prog f i.args .normal) [] (w.forCall tape i)))
    (hr : (fn.params.toList.all fun t => Tryz.prog.readableRec t && decide (t < Tryz.prog.types.size)) = true)
    (hres : fn.resultTypes = #[tb]) (htb : Tryz.prog.underlying tb = some .bool) (hv : s.vars = [])
    (hs : ∀ (ds : List (DataW H)), ds.length = fn.params.toList.length → (s.fn H (ds ++ [])).results = [.lit (.bool true)] ∧ (s.fn H (ds ++ [])).args = ds ∧ (s.fn H (ds ++ [])).vars = [])
    (law : ∀ (W : World) (base : Nat) (args : Array Value) (ds : List (DataW H)) (p : List MemPlace),
      (∀ (j : Nat) t v, fn.params[j]? = some t → args[j]? = some v → Value.okWide Tryz.prog W .any base t v) →
      DataW.TrodAll enc Tryz.prog W 0 (fun _ => true) true fn.params.toList args.toList ds p → Tab W →
      Calls Tryz.prog f args W fun e W' => e = .returned (.bool true) ∧ Below W.heap.size W W') :
    ReturnsInHanded {} Tryz.checked os f .any (fun w args => (s.pre enc Tryz.prog fn [] false w args ∧ laidMetH Tryz.prog laidL w) ∧ sizedMet enc Tryz.prog fn (OpenSpec.ofChange s) false w args) (s.post enc Tryz.prog fn false true false false) := by
  refine returnsInHanded_of_change_and (C := Tryz.checked) (X := fun w _ => laidMetH Tryz.prog laidL w) (fun _ _ _ hh h => h.of_heap hh) own_try started noInit hfn witness ?_
  intro W base args ds gs before hval hW _ _ hL _
  have hW' := hW
  obtain ⟨p, q, hA, hV, rfl, _, _⟩ := hW
  rw [hv] at hV
  obtain ⟨rfl, rfl⟩ := trodVars_none hV
  simp only [List.append_nil] at hW'
  have hlt : ∀ x ∈ p, x.block < W.heap.size := fun x hx => hW'.lt x hx
  refine (law W base args ds p hval hA (tab_of_laid hL)).mono fun e W' ⟨he, hb⟩ => ?_
  subst he
  obtain ⟨e1, e2, e3⟩ := hs ds (trodAll_length _ _ _ _ hA)
  refine ⟨_, rfl, ds, [], p, [], p, [], hW', ?_, ?_, ?_, hb.frame _, fun h => by cases h⟩
  · rw [e1, hres]
    exact ⟨[], [], ⟨1, by simp [DataW.trod, htb, Value.cells, Tryz.checked]⟩, rfl, rfl⟩
  · rw [e2]
    exact trodAll_below laid_try hb _ _ _ _ hr hA hlt
  · rw [hv, e3]; rfl
end Go.Proofs.YtndhmahkglfopaaGreatDoor
