/- Bounds of remainders. Own work; nothing of a program is named here. -/
import Derived.Test.YtogfkmejgjodaaaKh
namespace Go.Kx
open Go
theorem rem_nn {a b : Int} (h : 0 ≤ a) : a.tmod b = a % b := Int.tmod_eq_emod_of_nonneg h
theorem rem_lt {a b : Int} (h : 0 < b) : a.tmod b < b := Int.tmod_lt_of_pos a h
theorem rem_gt {a b : Int} (h : 0 < b) : -b < a.tmod b := Int.lt_tmod_of_pos a h
end Go.Kx
