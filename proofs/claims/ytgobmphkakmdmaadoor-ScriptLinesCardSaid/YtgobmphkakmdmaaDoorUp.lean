/- What is told of the laid variables (powers of ten; a type's handle); how a law's row over them is shown. -/
import Derived.Test.YtgobmphkakmdmaaDoorRows
import Derived.Test.YtgobmphkakmdmaaDoorUm
import Derived.ProofKit
import Derived.OpenShut
import Derived.Lay
import Derived.LaidMore
import Derived.LaidHandle
import Derived.LaidSub
import Derived.MakeChecks
import Derived.Handed
import Derived.Stop.Joined
set_option linter.unusedVariables false
namespace Go.Proofs.YtgobmphkakmdmaaDoor
open Go Go.Kx
def laid1 : List (String × DataW Unit) := [("math/bits.deBruijn32tab", Rows.laid_math_bits_deBruijn32tab), ("math/bits.deBruijn64tab", Rows.laid_math_bits_deBruijn64tab), ("internal/strconv.uint64pow10", Rows.laid_internal_strconv_uint64pow10), ("errors.errorType", Rows.laid_errors_errorType)]
def laid3 : List (String × DataW Unit) := [("math/bits.deBruijn32tab", Rows.laid_math_bits_deBruijn32tab), ("math/bits.deBruijn64tab", Rows.laid_math_bits_deBruijn64tab), ("internal/strconv.uint64pow10", Rows.laid_internal_strconv_uint64pow10)]
theorem laid3_eq : (laid1.filter fun x => x.2.handleName?.isNone) = laid3 := by kernel_rfl
theorem own0 : ownKnob Tryd.prog.godebug = none := by kernel_rfl
--@def GT := 2
--@def TT := 114
--@def TY := 72
theorem shapeT : (((begin Tryd.prog (fun _ _ => 0) default).world.heap[2]?).bind Obj.row?).map (·.2) = some 114 := by kernel_rfl
theorem shapeE : (((begin Tryd.prog (fun _ _ => 0) default).world.heap[0]?).bind Obj.row?).map (·.2) = some 72 := by kernel_rfl
theorem dataT : (Rows.laid_internal_strconv_uint64pow10 : DataW Unit) = .agg (Lib.pow10Tab.map fun x => .lit (.int .u64 x)) := by kernel_rfl
theorem tab_of_laid {W : World} (h : laidMet Tryd.prog laid3 W) (hs : W.ShapedOpen Tryd.prog) : Tab W := by
  obtain ⟨ps, ⟨_, _, _, _, _, _, _, _, _, _, ⟨_, _, _, _, _, _, _, _, _, _, ⟨g, t, cs, fuel, p, q, hg, ht, hv, hd, _, _⟩, _⟩, _⟩, _, _⟩ := h
  obtain rfl := Option.some.inj ((show Tryd.prog.globalNamed "internal/strconv.uint64pow10" = some 2 by kernel_rfl).symm.trans hg)
  obtain rfl := Option.some.inj ((show (Tryd.prog.globals[2]?).map (·.type) = some 114 by kernel_rfl).symm.trans ht)
  have hsh := shapeT
  obtain ⟨⟨zero, t'⟩, hz, e⟩ := Option.map_eq_some_iff.1 hsh
  simp only at e
  subst e
  obtain ⟨cs', hc, _, _⟩ := hs.1 2 zero 114 (of_decide_eq_true (by kernel_rfl)) hz
  have hcs : cs' = cs := by
    unfold World.var? at hv
    rw [hg] at hv
    simp only [Option.bind_some, hc] at hv
    exact Option.some.inj hv
  subst hcs
  have c1 : Tryd.prog.cellsOf 108 = 1 := by kernel_rfl
  have c2 : Tryd.prog.cellsOf 114 = 20 := by kernel_rfl
  obtain ⟨xs, m, _, ex, hlen, hl, hel⟩ := DataW.trod_array Tryd.underlying114 hd
  rw [c2] at hlen
  rw [dataT] at ex
  have e3 := DataW.agg.inj (Prod.mk.inj ex).1
  refine ⟨(0, 0), ?_⟩
  unfold Blk
  rw [hc]
  have key : cs'.toList = ints .u64 Lib.pow10Tab := by
    apply List.ext_getElem?
    intro i
    rcases Nat.lt_or_ge i 20 with h80 | h80
    · have h1 := hel i h80
      rw [c1, Nat.mul_one] at h1
      have hx : xs[i]? = some xs[i] := by simp [hl, h80]
      rw [hx] at h1
      obtain ⟨n, hcell, hxi, _⟩ := DataW.trod_int Tryd.underlying108 h1
      have h2 := congrArg (fun l => l[i]?) e3
      simp only [List.getElem?_map, hx, Option.map_some, hxi] at h2
      have h3 : Lib.pow10Tab[i]? = some n := by
        cases hw : Lib.pow10Tab[i]? with
        | none => rw [hw] at h2; simp at h2
        | some v => rw [hw] at h2; simp at h2; rw [h2]
      have h4 : cs'.toList[i]? = some (.int .u64 n) := by
        have := congrArg (fun l => l[0]?) hcell
        simpa using this
      rw [h4]
      simp only [ints, List.getElem?_map, h3, Option.map_some]
    · rw [List.getElem?_eq_none (by omega), List.getElem?_eq_none (by simp only [ints, List.length_map, Lib.pow10Tab_length]; omega)]
  rw [← key]
theorem names_one : ((List.range Tryd.prog.types.size).all fun t => !Tryd.prog.rowNamed t [101, 114, 114, 111, 114] || t == 42) = true := by kernel_rfl
theorem err_of_laid {W : World} (h : handlesMet Tryd.prog (laid1.filter fun x => x.2.handleName?.isSome) W) (hs : W.ShapedOpen Tryd.prog) : ∃ fz, Blk W 0 72 fz [.iface 85 (.agg #[.pointer (some ⟨5, 42, none⟩)])] := by
  have hm := h ("errors.errorType", Rows.laid_errors_errorType) (List.mem_filter.2 ⟨by unfold laid1; simp, by kernel_rfl⟩)
  have hf : ((Rows.laid_errors_errorType : DataW Unit).funcsIn?) = none := by kernel_rfl
  simp only [hf] at hm
  obtain ⟨name, u, ty, hn, hu, hty, hrow, hv⟩ := hm
  obtain rfl : name = [101, 114, 114, 111, 114] := Option.some.inj (hn.symm.trans (show (Rows.laid_errors_errorType : DataW Unit).handleName? = some [101, 114, 114, 111, 114] by kernel_rfl))
  obtain rfl : u = 85 := Option.some.inj (hu.symm.trans (show (Tryd.prog.cutTypes.find? (·.1 == "internal/reflectlite.rtype")).map (·.2) = some 85 by kernel_rfl))
  obtain rfl : ty = 42 := by
    have := List.all_eq_true.1 names_one ty (List.mem_range.2 hty)
    rw [hrow] at this
    simpa using this
  have hsh := shapeE
  obtain ⟨⟨zero, t'⟩, hz, e⟩ := Option.map_eq_some_iff.1 hsh
  simp only at e
  subst e
  obtain ⟨cs', hc, _, _⟩ := hs.1 0 zero 72 (of_decide_eq_true (by kernel_rfl)) hz
  unfold World.var? at hv
  rw [show Tryd.prog.globalNamed "errors.errorType" = some 0 by kernel_rfl] at hv
  simp only [Option.bind_some, hc] at hv
  refine ⟨(0, 0), ?_⟩
  unfold Blk
  rw [hc, Option.some.inj hv]
  rfl
theorem lad_of_laid {W : World} (h : laidMetH Tryd.prog laid1 W) (hs : W.ShapedOpen Tryd.prog) : Lad W := by
  obtain ⟨h1, h2⟩ := laidMetH_iff.1 h
  rw [laid3_eq] at h1
  exact ⟨tab_of_laid h1 hs, err_of_laid h2 hs⟩
/-- A world that meets the condition. -/
noncomputable def laidB (os : Os) : World :=
  { World.holding Tryd.prog os ⟨#[], #[], []⟩ with heap := (World.holding Tryd.prog os ⟨#[], #[], []⟩).heap.modify 0 fun
      | .cells _ t frozen => .cells #[.iface 85 (.agg #[.pointer (some ⟨5, 42, none⟩)])] t frozen
      | o => o }
noncomputable def laidW (os : Os) : World := (laidB os).layVars Tryd.prog laid3
theorem laidW_os (os : Os) : (laidW os).os = os := World.layVars_os _ _ _
theorem laidW_met (os : Os) (args : Array Value) : laidMetH Tryd.prog laid1 ((laidW os).forCall (fun _ _ => 0) ⟨#[], args, []⟩).memory := by
  refine laidMetH_of_parts ?_ (by kernel_rfl)
  rw [laid3_eq]
  have h : laidMet Tryd.prog laid3 (laidW os) := laidMet_layVars (w0 := laidB os) (laid3.map (·.1)) [] (by rfl) (by kernel_rfl) (by kernel_rfl) LaidIn.none
  exact h.of_heap (by simp [World.memory, World.forCall, Input.heap])
set_option maxRecDepth 100000 in
theorem row_of_calls {H : Type} {enc : TypeId × Value → H} {os : Os} {f : FuncId} {fn : Func} {s : ChangeSpec} (args0 : Array Value) (started : os.Started) (noInit : Tryd.checked.prog.inits.idxOf? f = none) (hfn : Tryd.checked.prog.funcs[f]? = some fn)
    (hok : Input.okWideB Tryd.checked.prog ((laidW os).forCall (fun _ _ => 0) ⟨#[], args0, []⟩) f ⟨#[], args0, []⟩ = true)
    (hpre : s.preB enc Tryd.checked.prog fn [] false ((laidW os).forCall (fun _ _ => 0) ⟨#[], args0, []⟩).memory args0 8 = true)
    (hsz : s.sizedB enc Tryd.checked.prog fn false ((laidW os).forCall (fun _ _ => 0) ⟨#[], args0, []⟩).memory args0 8 = true)
    (hsh : ((laidW os).forCall (fun _ _ => 0) ⟨#[], args0, []⟩).Shaped Tryd.checked.prog)
    (contract : ∀ (W : World) (base : Nat) (args : Array Value) (ds gs : List (DataW H)) (before : List MemPlace), Lad W →
      (∀ (j : Nat) t v, fn.params[j]? = some t → args[j]? = some v → Value.okWide Tryd.checked.prog W .any base t v) →
      DataW.Whole enc Tryd.checked.prog fn.params.toList s.vars false W args.toList ds gs before →
      Calls Tryd.checked.prog f args W fun e W' => ∃ v, e = .returned v ∧ s.post enc Tryd.checked.prog fn false true false false W args v W') :
    ReturnsInHanded {} Tryd.checked os f .any (fun w args => (s.pre enc Tryd.checked.prog fn [] false w args ∧ laidMetH Tryd.prog laid1 w) ∧ sizedMet enc Tryd.checked.prog fn (OpenSpec.ofChange s) false w args) (s.post enc Tryd.checked.prog fn false true false false) := by
  refine returnsInHanded_of_calls own0 started noInit
    (ChangeSpec.witness_shaped (enc := enc) (C := Tryd.checked) (os := os) (X := fun w _ => laidMetH Tryd.prog laid1 w) false (laidW os) args0 8 (laidW_os _) hsh hok hpre hsz (laidW_met _ _)) ?_
  intro w tape i _ hshape _ hok hpre hholds
  obtain ⟨_, _, _, fn', hfn', _, _, _, _, hval⟩ := hok
  have e : fn' = fn := Option.some.inj (hfn'.symm.trans hfn)
  subst e
  obtain ⟨⟨⟨ds, gs, before, hw, hc⟩, hx⟩, hz⟩ := hpre
  have hw' := DataW.Whole.of_heap (w' := w.forCall tape i) (by rfl) hw
  have hx' : laidMetH Tryd.prog laid1 (w.forCall tape i) := laidMetH.of_heap (w := (w.forCall tape i).memory) (by rfl) hx
  refine (contract (w.forCall tape i) w.heap.size i.args ds gs before (lad_of_laid hx' hshape) hval hw').mono fun e W' ⟨v, he, hp⟩ => ?_
  subst he
  exact ChangeSpec.post_blind hp
end Go.Proofs.YtgobmphkakmdmaaDoor
