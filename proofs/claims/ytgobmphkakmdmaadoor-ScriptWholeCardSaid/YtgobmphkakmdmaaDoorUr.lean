/- ScriptWhole: its arguments. -/
import Derived.Test.YtgobmphkakmdmaaDoorUo
import Derived.Test.YtgobmphkakmdmaaDoorUq
set_option linter.unusedVariables false
namespace Go.Proofs.YtgobmphkakmdmaaDoor
open Go Go.Kx Go.Sc
theorem whole_in (W : World) (hL : Lad W) (a0 : Option Addr) (len0 cap0 : Nat) (xs : List DeedC) (h0 : SlD W a0 len0 cap0 xs (fun b => b < W.heap.size)) (a1 : Option Addr) (len1 cap1 : Nat) (ys : List DeedC) (h1 : SlD W a1 len1 cap1 ys (fun b => b < W.heap.size)) :
    Calls Tryd.prog 3 #[.slice a0 len0 cap0, .slice a1 len1 cap1] W fun e W' => e = .returned (.bool true) ∧ RowKit.Below W.heap.size W W' := by
  obtain rfl := h0.len_eq
  obtain rfl := h1.len_eq
  refine (whole_calls xs ys a0 a1 cap0 cap1 W h0 h1 hL).mono ?_
  rintro _ w ⟨rfl, k⟩
  exact ⟨rfl, k.below⟩
end Go.Proofs.YtgobmphkakmdmaaDoor
