/- What is told of the laid table of SHA-512; how a law's row over it is shown. -/
import Derived.Test.YtfngacepjcdlnaaDoorRows
import Derived.Test.YtfngacepjcdlnaaDoorQHa
import Derived.ProofKit
import Derived.OpenShut
import Derived.Lay
import Derived.LaidMore
import Derived.MakeChecks
import Derived.Handed
import Derived.Stop.Joined
set_option linter.unusedVariables false
namespace Go.Proofs.YtfngacepjcdlnaaDoor
open Go Go.Kx
def laid1 : List (String × DataW Unit) := [("turnkey/sha512.constants", Rows.laid_turnkey_sha512_constants)]
theorem own0 : ownKnob Tryd.prog.godebug = none := by kernel_rfl
theorem shape1 : (((begin Tryd.prog (fun _ _ => 0) default).world.heap[1]?).bind Obj.row?).map (·.2) = some 243 := by kernel_rfl
theorem data1 : (Rows.laid_turnkey_sha512_constants : DataW Unit) = .agg ((ws kSha).map fun x => .lit (.int .u64 x)) := by kernel_rfl
theorem con_of_laid {W : World} (h : laidMetH Tryd.prog laid1 W) (hs : W.ShapedOpen Tryd.prog) : ∃ fz, Blk W 1 243 fz (ints .u64 (ws kSha)) := by
 rw [MakeChecks.laidMetH_plain _ _ _ (by kernel_rfl)] at h
 obtain ⟨ps, ⟨g, t, cs, fuel, p, q, hg, ht, hv, hd, _, _⟩, _, _⟩ := h
 obtain rfl := Option.some.inj ((show Tryd.prog.globalNamed "turnkey/sha512.constants" = some 1 by kernel_rfl).symm.trans hg)
 obtain rfl := Option.some.inj ((show (Tryd.prog.globals[1]?).map (·.type) = some 243 by kernel_rfl).symm.trans ht)
 have hsh := shape1
 obtain ⟨⟨zero, t'⟩, hz, e⟩ := Option.map_eq_some_iff.1 hsh
 simp only at e
 subst e
 obtain ⟨cs', hc, _, _⟩ := hs.1 1 zero 243 (of_decide_eq_true (by kernel_rfl)) hz
 have hcs : cs' = cs := by
  unfold World.var? at hv
  rw [hg] at hv
  simp only [Option.bind_some, hc] at hv
  exact Option.some.inj hv
 subst hcs
 have c1 : Tryd.prog.cellsOf 193 = 1 := by kernel_rfl
 have c2 : Tryd.prog.cellsOf 243 = 80 := by kernel_rfl
 obtain ⟨xs, m, _, ex, hlen, hl, hel⟩ := DataW.trod_array Tryd.underlying243 hd
 rw [c2] at hlen
 rw [data1] at ex
 have e3 := DataW.agg.inj (Prod.mk.inj ex).1
 refine ⟨(0, 0), ?_⟩
 unfold Blk
 rw [hc]
 have key : cs'.toList = ints .u64 (ws kSha) := by
  apply List.ext_getElem?
  intro i
  rcases Nat.lt_or_ge i 80 with h80 | h80
  ·have h1 := hel i h80
   rw [c1, Nat.mul_one] at h1
   have hx : xs[i]? = some xs[i] := by simp [hl, h80]
   rw [hx] at h1
   obtain ⟨n, hcell, hxi, _⟩ := DataW.trod_int Tryd.underlying193 h1
   have h2 := congrArg (fun l => l[i]?) e3
   simp only [List.getElem?_map, hx, Option.map_some, hxi] at h2
   have h3 : (ws kSha)[i]? = some n := by
    cases hw : (ws kSha)[i]? with
    | none => rw [hw] at h2; simp at h2
    | some v => rw [hw] at h2; simp at h2; rw [h2]
   have h4 : cs'.toList[i]? = some (.int .u64 n) := by
    have := congrArg (fun l => l[0]?) hcell
    simpa using this
   rw [h4]
   simp only [ints, List.getElem?_map, h3, Option.map_some]
  ·rw [List.getElem?_eq_none (by omega), List.getElem?_eq_none (by rw [ints_length, ws_length, kSha_length]; omega)]
 rw [← key]
set_option maxRecDepth 100000 in
theorem row_of_calls {H : Type} {enc : TypeId × Value → H} {os : Os} {f : FuncId} {fn : Func} {s : ChangeSpec} (args0 : Array Value) (started : os.Started) (noInit : Tryd.checked.prog.inits.idxOf? f = none) (hfn : Tryd.checked.prog.funcs[f]? = some fn)
  (hok : Input.okWideB Tryd.checked.prog ((World.laidAll Tryd.prog os laid1).forCall (fun _ _ => 0) ⟨#[], args0, []⟩) f ⟨#[], args0, []⟩ = true)
  (hpre : s.preB enc Tryd.checked.prog fn [] false ((World.laidAll Tryd.prog os laid1).forCall (fun _ _ => 0) ⟨#[], args0, []⟩).memory args0 8 = true)
  (hsz : s.sizedB enc Tryd.checked.prog fn false ((World.laidAll Tryd.prog os laid1).forCall (fun _ _ => 0) ⟨#[], args0, []⟩).memory args0 8 = true)
  (hsh : ((World.laidAll Tryd.prog os laid1).forCall (fun _ _ => 0) ⟨#[], args0, []⟩).Shaped Tryd.checked.prog)
  (contract : ∀ (W : World) (base : Nat) (args : Array Value) (ds gs : List (DataW H)) (before : List MemPlace), (∃ fz, Blk W 1 243 fz (ints .u64 (ws kSha))) →
   (∀ (j : Nat) t v, fn.params[j]? = some t → args[j]? = some v → Value.okWide Tryd.checked.prog W .any base t v) →
   DataW.Whole enc Tryd.checked.prog fn.params.toList s.vars false W args.toList ds gs before →
   Calls Tryd.checked.prog f args W fun e W' => ∃ v, e = .returned v ∧ s.post enc Tryd.checked.prog fn false true false false W args v W') :
  ReturnsInHanded {} Tryd.checked os f .any (fun w args => (s.pre enc Tryd.checked.prog fn [] false w args ∧ laidMetH Tryd.prog laid1 w) ∧ sizedMet enc Tryd.checked.prog fn (OpenSpec.ofChange s) false w args) (s.post enc Tryd.checked.prog fn false true false false) := by
 refine returnsInHanded_of_calls own0 started noInit
  (ChangeSpec.witness_shaped (enc := enc) (C := Tryd.checked) (os := os) (X := fun w _ => laidMetH Tryd.prog laid1 w) false (World.laidAll Tryd.prog os laid1) args0 8 (World.laidAll_os _ _ _) hsh hok hpre hsz
   (by rw [MakeChecks.laidMetH_plain _ _ _ (by kernel_rfl)]; exact laidMet_laidAll _ (by kernel_rfl) (by kernel_rfl))) ?_
 intro w tape i _ hshape _ hok hpre hholds
 obtain ⟨_, _, _, fn', hfn', _, _, _, _, hval⟩ := hok
 have e : fn' = fn := Option.some.inj (hfn'.symm.trans hfn)
 subst e
 obtain ⟨⟨⟨ds, gs, before, hw, hc⟩, hx⟩, hz⟩ := hpre
 have hw' := DataW.Whole.of_heap (w' := w.forCall tape i) (by rfl) hw
 have hx' : laidMetH Tryd.prog laid1 (w.forCall tape i) := laidMetH.of_heap (w := (w.forCall tape i).memory) (by rfl) hx
 refine (contract (w.forCall tape i) w.heap.size i.args ds gs before (con_of_laid hx' hshape) hval hw').mono fun e W' ⟨v, he, hp⟩ => ?_
 subst he
 exact ChangeSpec.post_blind hp
end Go.Proofs.YtfngacepjcdlnaaDoor
