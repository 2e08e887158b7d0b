/- The facts on the types and the functions of this seat, printed by a program of this repo (wip/tools/types.py). -/
import Derived.Test.YtfngacepjcdlnaaDoorQKa
import Derived.Test.YtfngacepjcdlnaaDoorProg
import Derived.KernelRfl
set_option linter.unusedVariables false
namespace Go.Proofs.YtfngacepjcdlnaaDoor
open Go Go.Kx
instance : TSz Tryd.prog 1 1 := ⟨by kernel_rfl⟩
instance : TBy Tryd.prog 1 8 := ⟨by kernel_rfl⟩
instance : TOne Tryd.prog 1 := ⟨⟨_, Tryd.underlying1, rfl⟩⟩
instance : TZ Tryd.prog 1 (.nilFunc) := ⟨by kernel_rfl⟩
instance : TU Tryd.prog 2 (.int .i64) := ⟨by kernel_rfl⟩
instance : TSz Tryd.prog 2 1 := ⟨by kernel_rfl⟩
instance : TBy Tryd.prog 2 8 := ⟨by kernel_rfl⟩
instance : TOne Tryd.prog 2 := ⟨⟨_, Tryd.underlying2, rfl⟩⟩
instance : TZ Tryd.prog 2 (.int .i64 0) := ⟨by kernel_rfl⟩
instance : TU Tryd.prog 3 (.int .i64) := ⟨by kernel_rfl⟩
instance : TSz Tryd.prog 3 1 := ⟨by kernel_rfl⟩
instance : TBy Tryd.prog 3 8 := ⟨by kernel_rfl⟩
instance : TOne Tryd.prog 3 := ⟨⟨_, Tryd.underlying3, rfl⟩⟩
instance : TZ Tryd.prog 3 (.int .i64 0) := ⟨by kernel_rfl⟩
instance : TU Tryd.prog 4 (.bool) := ⟨by kernel_rfl⟩
instance : TSz Tryd.prog 4 1 := ⟨by kernel_rfl⟩
instance : TBy Tryd.prog 4 1 := ⟨by kernel_rfl⟩
instance : TOne Tryd.prog 4 := ⟨⟨_, Tryd.underlying4, rfl⟩⟩
instance : TZ Tryd.prog 4 (.bool false) := ⟨by kernel_rfl⟩
instance : TU Tryd.prog 5 (.int .u8) := ⟨by kernel_rfl⟩
instance : TSz Tryd.prog 5 1 := ⟨by kernel_rfl⟩
instance : TBy Tryd.prog 5 1 := ⟨by kernel_rfl⟩
instance : TOne Tryd.prog 5 := ⟨⟨_, Tryd.underlying5, rfl⟩⟩
instance : TZ Tryd.prog 5 (.int .u8 0) := ⟨by kernel_rfl⟩
instance : TU Tryd.prog 9 (.string) := ⟨by kernel_rfl⟩
instance : TSz Tryd.prog 9 1 := ⟨by kernel_rfl⟩
instance : TBy Tryd.prog 9 16 := ⟨by kernel_rfl⟩
instance : TOne Tryd.prog 9 := ⟨⟨_, Tryd.underlying9, rfl⟩⟩
instance : TZ Tryd.prog 9 (.string ⟨#[]⟩) := ⟨by kernel_rfl⟩
instance : TU Tryd.prog 12 (.int .u64) := ⟨by kernel_rfl⟩
instance : TSz Tryd.prog 12 1 := ⟨by kernel_rfl⟩
instance : TBy Tryd.prog 12 8 := ⟨by kernel_rfl⟩
instance : TOne Tryd.prog 12 := ⟨⟨_, Tryd.underlying12, rfl⟩⟩
instance : TZ Tryd.prog 12 (.int .u64 0) := ⟨by kernel_rfl⟩
instance : TSz Tryd.prog 13 2 := ⟨by kernel_rfl⟩
instance : TBy Tryd.prog 13 24 := ⟨by kernel_rfl⟩
instance : TAgg Tryd.prog 13 2 := ⟨⟨_, Tryd.underlying13, rfl⟩, by kernel_rfl⟩
def z13 : List Value := [.string ⟨#[]⟩, .int .u64 0]
instance : TZ Tryd.prog 13 (.agg z13.toArray) := ⟨by kernel_rfl⟩
instance : TFld Tryd.prog 13 0 0 := ⟨⟨_, _, Tryd.underlying13, rfl, rfl, by simpa using (show ¬ ((Tryd.prog.info? 9).map (·.size) = some 0) by rw [(inferInstance : TSz Tryd.prog 9 _).h]; decide), by kernel_rfl⟩⟩
instance : TFld Tryd.prog 13 1 1 := ⟨⟨_, _, Tryd.underlying13, rfl, rfl, by simpa using (show ¬ ((Tryd.prog.info? 12).map (·.size) = some 0) by rw [(inferInstance : TSz Tryd.prog 12 _).h]; decide), by kernel_rfl⟩⟩
instance : TSz Tryd.prog 20 1 := ⟨by kernel_rfl⟩
instance : TBy Tryd.prog 20 16 := ⟨by kernel_rfl⟩
instance : TOne Tryd.prog 20 := ⟨⟨_, Tryd.underlying20, rfl⟩⟩
instance : TZ Tryd.prog 20 (.nilIface) := ⟨by kernel_rfl⟩
instance : TU Tryd.prog 21 (.int .i32) := ⟨by kernel_rfl⟩
instance : TSz Tryd.prog 21 1 := ⟨by kernel_rfl⟩
instance : TBy Tryd.prog 21 4 := ⟨by kernel_rfl⟩
instance : TOne Tryd.prog 21 := ⟨⟨_, Tryd.underlying21, rfl⟩⟩
instance : TZ Tryd.prog 21 (.int .i32 0) := ⟨by kernel_rfl⟩
instance : TU Tryd.prog 22 (.array 16 5) := ⟨by kernel_rfl⟩
instance : TSz Tryd.prog 22 16 := ⟨by kernel_rfl⟩
instance : TBy Tryd.prog 22 16 := ⟨by kernel_rfl⟩
instance : TAgg Tryd.prog 22 16 := ⟨⟨_, Tryd.underlying22, rfl⟩, by kernel_rfl⟩
def z22 : List Value := List.replicate 16 (.int .u8 0)
instance : TZ Tryd.prog 22 (.agg z22.toArray) := ⟨by kernel_rfl⟩
def K22 : List IntKind := List.replicate 16 .u8
instance : TFlat Tryd.prog 22 K22 := ⟨by kernel_rfl, by kernel_rfl, by kernel_rfl⟩
instance : TU Tryd.prog 23 (.array 2 22) := ⟨by kernel_rfl⟩
instance : TSz Tryd.prog 23 32 := ⟨by kernel_rfl⟩
instance : TBy Tryd.prog 23 32 := ⟨by kernel_rfl⟩
instance : TAgg Tryd.prog 23 32 := ⟨⟨_, Tryd.underlying23, rfl⟩, by kernel_rfl⟩
def z23 : List Value := List.replicate 32 (.int .u8 0)
instance : TZ Tryd.prog 23 (.agg z23.toArray) := ⟨by kernel_rfl⟩
def K23 : List IntKind := List.replicate 32 .u8
instance : TFlat Tryd.prog 23 K23 := ⟨by kernel_rfl, by kernel_rfl, by kernel_rfl⟩
instance : TSz Tryd.prog 24 1 := ⟨by kernel_rfl⟩
instance : TBy Tryd.prog 24 8 := ⟨by kernel_rfl⟩
instance : TOne Tryd.prog 24 := ⟨⟨_, Tryd.underlying24, rfl⟩⟩
instance : TZ Tryd.prog 24 (.nilFunc) := ⟨by kernel_rfl⟩
instance : TU Tryd.prog 25 (.pointer 125) := ⟨by kernel_rfl⟩
instance : TSz Tryd.prog 25 1 := ⟨by kernel_rfl⟩
instance : TBy Tryd.prog 25 8 := ⟨by kernel_rfl⟩
instance : TOne Tryd.prog 25 := ⟨⟨_, Tryd.underlying25, rfl⟩⟩
instance : TZ Tryd.prog 25 (.pointer none) := ⟨by kernel_rfl⟩
instance : TU Tryd.prog 26 (.int .i64) := ⟨by kernel_rfl⟩
instance : TSz Tryd.prog 26 1 := ⟨by kernel_rfl⟩
instance : TBy Tryd.prog 26 8 := ⟨by kernel_rfl⟩
instance : TOne Tryd.prog 26 := ⟨⟨_, Tryd.underlying26, rfl⟩⟩
instance : TZ Tryd.prog 26 (.int .i64 0) := ⟨by kernel_rfl⟩
instance : TSz Tryd.prog 28 1 := ⟨by kernel_rfl⟩
instance : TBy Tryd.prog 28 8 := ⟨by kernel_rfl⟩
instance : TOne Tryd.prog 28 := ⟨⟨_, Tryd.underlying28, rfl⟩⟩
instance : TZ Tryd.prog 28 (.nilFunc) := ⟨by kernel_rfl⟩
instance : TU Tryd.prog 29 (.pointer 129) := ⟨by kernel_rfl⟩
instance : TSz Tryd.prog 29 1 := ⟨by kernel_rfl⟩
instance : TBy Tryd.prog 29 8 := ⟨by kernel_rfl⟩
instance : TOne Tryd.prog 29 := ⟨⟨_, Tryd.underlying29, rfl⟩⟩
instance : TZ Tryd.prog 29 (.pointer none) := ⟨by kernel_rfl⟩
instance : TSz Tryd.prog 30 1 := ⟨by kernel_rfl⟩
instance : TBy Tryd.prog 30 8 := ⟨by kernel_rfl⟩
instance : TOne Tryd.prog 30 := ⟨⟨_, Tryd.underlying30, rfl⟩⟩
instance : TZ Tryd.prog 30 (.nilFunc) := ⟨by kernel_rfl⟩
instance : TU Tryd.prog 31 (.slice 5) := ⟨by kernel_rfl⟩
instance : TSz Tryd.prog 31 1 := ⟨by kernel_rfl⟩
instance : TBy Tryd.prog 31 24 := ⟨by kernel_rfl⟩
instance : TOne Tryd.prog 31 := ⟨⟨_, Tryd.underlying31, rfl⟩⟩
instance : TZ Tryd.prog 31 (.slice none 0 0) := ⟨by kernel_rfl⟩
instance : TSz Tryd.prog 33 1 := ⟨by kernel_rfl⟩
instance : TBy Tryd.prog 33 8 := ⟨by kernel_rfl⟩
instance : TOne Tryd.prog 33 := ⟨⟨_, Tryd.underlying33, rfl⟩⟩
instance : TZ Tryd.prog 33 (.nilFunc) := ⟨by kernel_rfl⟩
instance : TSz Tryd.prog 34 17 := ⟨by kernel_rfl⟩
instance : TBy Tryd.prog 34 24 := ⟨by kernel_rfl⟩
instance : TAgg Tryd.prog 34 17 := ⟨⟨_, Tryd.underlying34, rfl⟩, by kernel_rfl⟩
def z34 : List Value := [.int .i64 0] ++ List.replicate 16 (.int .u8 0)
instance : TZ Tryd.prog 34 (.agg z34.toArray) := ⟨by kernel_rfl⟩
def K34 : List IntKind := [.i64] ++ List.replicate 16 .u8
instance : TFlat Tryd.prog 34 K34 := ⟨by kernel_rfl, by kernel_rfl, by kernel_rfl⟩
instance : TFld Tryd.prog 34 0 0 := ⟨⟨_, _, Tryd.underlying34, rfl, rfl, by simpa using (show ¬ ((Tryd.prog.info? 3).map (·.size) = some 0) by rw [(inferInstance : TSz Tryd.prog 3 _).h]; decide), by kernel_rfl⟩⟩
instance : TFld Tryd.prog 34 1 1 := ⟨⟨_, _, Tryd.underlying34, rfl, rfl, by simpa using (show ¬ ((Tryd.prog.info? 22).map (·.size) = some 0) by rw [(inferInstance : TSz Tryd.prog 22 _).h]; decide), by kernel_rfl⟩⟩
instance : TSz Tryd.prog 35 17 := ⟨by kernel_rfl⟩
instance : TBy Tryd.prog 35 24 := ⟨by kernel_rfl⟩
instance : TAgg Tryd.prog 35 17 := ⟨⟨_, Tryd.underlying35, rfl⟩, by kernel_rfl⟩
def z35 : List Value := [.int .i64 0] ++ List.replicate 16 (.int .u8 0)
instance : TZ Tryd.prog 35 (.agg z35.toArray) := ⟨by kernel_rfl⟩
def K35 : List IntKind := [.i64] ++ List.replicate 16 .u8
instance : TFlat Tryd.prog 35 K35 := ⟨by kernel_rfl, by kernel_rfl, by kernel_rfl⟩
instance : TFld Tryd.prog 35 0 0 := ⟨⟨_, _, Tryd.underlying35, rfl, rfl, by simpa using (show ¬ ((Tryd.prog.info? 3).map (·.size) = some 0) by rw [(inferInstance : TSz Tryd.prog 3 _).h]; decide), by kernel_rfl⟩⟩
instance : TFld Tryd.prog 35 1 1 := ⟨⟨_, _, Tryd.underlying35, rfl, rfl, by simpa using (show ¬ ((Tryd.prog.info? 22).map (·.size) = some 0) by rw [(inferInstance : TSz Tryd.prog 22 _).h]; decide), by kernel_rfl⟩⟩
instance : TU Tryd.prog 36 (.array 32 5) := ⟨by kernel_rfl⟩
instance : TSz Tryd.prog 36 32 := ⟨by kernel_rfl⟩
instance : TBy Tryd.prog 36 32 := ⟨by kernel_rfl⟩
instance : TAgg Tryd.prog 36 32 := ⟨⟨_, Tryd.underlying36, rfl⟩, by kernel_rfl⟩
def z36 : List Value := List.replicate 32 (.int .u8 0)
instance : TZ Tryd.prog 36 (.agg z36.toArray) := ⟨by kernel_rfl⟩
def K36 : List IntKind := List.replicate 32 .u8
instance : TFlat Tryd.prog 36 K36 := ⟨by kernel_rfl, by kernel_rfl, by kernel_rfl⟩
instance : TSz Tryd.prog 37 33 := ⟨by kernel_rfl⟩
instance : TBy Tryd.prog 37 40 := ⟨by kernel_rfl⟩
instance : TAgg Tryd.prog 37 33 := ⟨⟨_, Tryd.underlying37, rfl⟩, by kernel_rfl⟩
def z37 : List Value := [.int .i64 0] ++ List.replicate 32 (.int .u8 0)
instance : TZ Tryd.prog 37 (.agg z37.toArray) := ⟨by kernel_rfl⟩
def K37 : List IntKind := [.i64] ++ List.replicate 32 .u8
instance : TFlat Tryd.prog 37 K37 := ⟨by kernel_rfl, by kernel_rfl, by kernel_rfl⟩
instance : TFld Tryd.prog 37 0 0 := ⟨⟨_, _, Tryd.underlying37, rfl, rfl, by simpa using (show ¬ ((Tryd.prog.info? 3).map (·.size) = some 0) by rw [(inferInstance : TSz Tryd.prog 3 _).h]; decide), by kernel_rfl⟩⟩
instance : TFld Tryd.prog 37 1 1 := ⟨⟨_, _, Tryd.underlying37, rfl, rfl, by simpa using (show ¬ ((Tryd.prog.info? 36).map (·.size) = some 0) by rw [(inferInstance : TSz Tryd.prog 36 _).h]; decide), by kernel_rfl⟩⟩
instance : TSz Tryd.prog 38 33 := ⟨by kernel_rfl⟩
instance : TBy Tryd.prog 38 40 := ⟨by kernel_rfl⟩
instance : TAgg Tryd.prog 38 33 := ⟨⟨_, Tryd.underlying38, rfl⟩, by kernel_rfl⟩
def z38 : List Value := [.int .i64 0] ++ List.replicate 32 (.int .u8 0)
instance : TZ Tryd.prog 38 (.agg z38.toArray) := ⟨by kernel_rfl⟩
def K38 : List IntKind := [.i64] ++ List.replicate 32 .u8
instance : TFlat Tryd.prog 38 K38 := ⟨by kernel_rfl, by kernel_rfl, by kernel_rfl⟩
instance : TFld Tryd.prog 38 0 0 := ⟨⟨_, _, Tryd.underlying38, rfl, rfl, by simpa using (show ¬ ((Tryd.prog.info? 3).map (·.size) = some 0) by rw [(inferInstance : TSz Tryd.prog 3 _).h]; decide), by kernel_rfl⟩⟩
instance : TFld Tryd.prog 38 1 1 := ⟨⟨_, _, Tryd.underlying38, rfl, rfl, by simpa using (show ¬ ((Tryd.prog.info? 36).map (·.size) = some 0) by rw [(inferInstance : TSz Tryd.prog 36 _).h]; decide), by kernel_rfl⟩⟩
instance : TSz Tryd.prog 39 34 := ⟨by kernel_rfl⟩
instance : TBy Tryd.prog 39 48 := ⟨by kernel_rfl⟩
instance : TAgg Tryd.prog 39 34 := ⟨⟨_, Tryd.underlying39, rfl⟩, by kernel_rfl⟩
def z39 : List Value := [.int .i64 0] ++ List.replicate 32 (.int .u8 0) ++ [.int .i64 0]
instance : TZ Tryd.prog 39 (.agg z39.toArray) := ⟨by kernel_rfl⟩
def K39 : List IntKind := [.i64] ++ List.replicate 32 .u8 ++ [.i64]
instance : TFlat Tryd.prog 39 K39 := ⟨by kernel_rfl, by kernel_rfl, by kernel_rfl⟩
instance : TFld Tryd.prog 39 0 0 := ⟨⟨_, _, Tryd.underlying39, rfl, rfl, by simpa using (show ¬ ((Tryd.prog.info? 38).map (·.size) = some 0) by rw [(inferInstance : TSz Tryd.prog 38 _).h]; decide), by kernel_rfl⟩⟩
instance : TFld Tryd.prog 39 1 33 := ⟨⟨_, _, Tryd.underlying39, rfl, rfl, by simpa using (show ¬ ((Tryd.prog.info? 3).map (·.size) = some 0) by rw [(inferInstance : TSz Tryd.prog 3 _).h]; decide), by kernel_rfl⟩⟩
instance : TSz Tryd.prog 40 34 := ⟨by kernel_rfl⟩
instance : TBy Tryd.prog 40 48 := ⟨by kernel_rfl⟩
instance : TAgg Tryd.prog 40 34 := ⟨⟨_, Tryd.underlying40, rfl⟩, by kernel_rfl⟩
def z40 : List Value := [.int .i64 0] ++ List.replicate 32 (.int .u8 0) ++ [.int .i64 0]
instance : TZ Tryd.prog 40 (.agg z40.toArray) := ⟨by kernel_rfl⟩
def K40 : List IntKind := [.i64] ++ List.replicate 32 .u8 ++ [.i64]
instance : TFlat Tryd.prog 40 K40 := ⟨by kernel_rfl, by kernel_rfl, by kernel_rfl⟩
instance : TFld Tryd.prog 40 0 0 := ⟨⟨_, _, Tryd.underlying40, rfl, rfl, by simpa using (show ¬ ((Tryd.prog.info? 38).map (·.size) = some 0) by rw [(inferInstance : TSz Tryd.prog 38 _).h]; decide), by kernel_rfl⟩⟩
instance : TFld Tryd.prog 40 1 33 := ⟨⟨_, _, Tryd.underlying40, rfl, rfl, by simpa using (show ¬ ((Tryd.prog.info? 3).map (·.size) = some 0) by rw [(inferInstance : TSz Tryd.prog 3 _).h]; decide), by kernel_rfl⟩⟩
instance : TSz Tryd.prog 41 72 := ⟨by kernel_rfl⟩
instance : TBy Tryd.prog 41 128 := ⟨by kernel_rfl⟩
instance : TAgg Tryd.prog 41 72 := ⟨⟨_, Tryd.underlying41, rfl⟩, by kernel_rfl⟩
def z41 : List Value := [.int .i64 0, .int .i64 0, .int .i64 0, .int .i64 0, .int .i64 0] ++ List.replicate 16 (.int .u8 0) ++ [.int .i64 0] ++ List.replicate 16 (.int .u8 0) ++ [.int .i64 0] ++ List.replicate 32 (.int .u8 0) ++ [.int .i64 0]
instance : TZ Tryd.prog 41 (.agg z41.toArray) := ⟨by kernel_rfl⟩
def K41 : List IntKind := [.i64, .i64, .i64, .i64, .i64] ++ List.replicate 16 .u8 ++ [.i64] ++ List.replicate 16 .u8 ++ [.i64] ++ List.replicate 32 .u8 ++ [.i64]
instance : TFlat Tryd.prog 41 K41 := ⟨by kernel_rfl, by kernel_rfl, by kernel_rfl⟩
instance : TFld Tryd.prog 41 0 0 := ⟨⟨_, _, Tryd.underlying41, rfl, rfl, by simpa using (show ¬ ((Tryd.prog.info? 3).map (·.size) = some 0) by rw [(inferInstance : TSz Tryd.prog 3 _).h]; decide), by kernel_rfl⟩⟩
instance : TFld Tryd.prog 41 1 1 := ⟨⟨_, _, Tryd.underlying41, rfl, rfl, by simpa using (show ¬ ((Tryd.prog.info? 3).map (·.size) = some 0) by rw [(inferInstance : TSz Tryd.prog 3 _).h]; decide), by kernel_rfl⟩⟩
instance : TFld Tryd.prog 41 2 2 := ⟨⟨_, _, Tryd.underlying41, rfl, rfl, by simpa using (show ¬ ((Tryd.prog.info? 3).map (·.size) = some 0) by rw [(inferInstance : TSz Tryd.prog 3 _).h]; decide), by kernel_rfl⟩⟩
instance : TFld Tryd.prog 41 3 3 := ⟨⟨_, _, Tryd.underlying41, rfl, rfl, by simpa using (show ¬ ((Tryd.prog.info? 3).map (·.size) = some 0) by rw [(inferInstance : TSz Tryd.prog 3 _).h]; decide), by kernel_rfl⟩⟩
instance : TFld Tryd.prog 41 4 4 := ⟨⟨_, _, Tryd.underlying41, rfl, rfl, by simpa using (show ¬ ((Tryd.prog.info? 3).map (·.size) = some 0) by rw [(inferInstance : TSz Tryd.prog 3 _).h]; decide), by kernel_rfl⟩⟩
instance : TFld Tryd.prog 41 5 5 := ⟨⟨_, _, Tryd.underlying41, rfl, rfl, by simpa using (show ¬ ((Tryd.prog.info? 22).map (·.size) = some 0) by rw [(inferInstance : TSz Tryd.prog 22 _).h]; decide), by kernel_rfl⟩⟩
instance : TFld Tryd.prog 41 6 21 := ⟨⟨_, _, Tryd.underlying41, rfl, rfl, by simpa using (show ¬ ((Tryd.prog.info? 35).map (·.size) = some 0) by rw [(inferInstance : TSz Tryd.prog 35 _).h]; decide), by kernel_rfl⟩⟩
instance : TFld Tryd.prog 41 7 38 := ⟨⟨_, _, Tryd.underlying41, rfl, rfl, by simpa using (show ¬ ((Tryd.prog.info? 40).map (·.size) = some 0) by rw [(inferInstance : TSz Tryd.prog 40 _).h]; decide), by kernel_rfl⟩⟩
instance : TSz Tryd.prog 42 72 := ⟨by kernel_rfl⟩
instance : TBy Tryd.prog 42 128 := ⟨by kernel_rfl⟩
instance : TAgg Tryd.prog 42 72 := ⟨⟨_, Tryd.underlying42, rfl⟩, by kernel_rfl⟩
def z42 : List Value := [.int .i64 0, .int .i64 0, .int .i64 0, .int .i64 0, .int .i64 0] ++ List.replicate 16 (.int .u8 0) ++ [.int .i64 0] ++ List.replicate 16 (.int .u8 0) ++ [.int .i64 0] ++ List.replicate 32 (.int .u8 0) ++ [.int .i64 0]
instance : TZ Tryd.prog 42 (.agg z42.toArray) := ⟨by kernel_rfl⟩
def K42 : List IntKind := [.i64, .i64, .i64, .i64, .i64] ++ List.replicate 16 .u8 ++ [.i64] ++ List.replicate 16 .u8 ++ [.i64] ++ List.replicate 32 .u8 ++ [.i64]
instance : TFlat Tryd.prog 42 K42 := ⟨by kernel_rfl, by kernel_rfl, by kernel_rfl⟩
instance : TFld Tryd.prog 42 0 0 := ⟨⟨_, _, Tryd.underlying42, rfl, rfl, by simpa using (show ¬ ((Tryd.prog.info? 3).map (·.size) = some 0) by rw [(inferInstance : TSz Tryd.prog 3 _).h]; decide), by kernel_rfl⟩⟩
instance : TFld Tryd.prog 42 1 1 := ⟨⟨_, _, Tryd.underlying42, rfl, rfl, by simpa using (show ¬ ((Tryd.prog.info? 3).map (·.size) = some 0) by rw [(inferInstance : TSz Tryd.prog 3 _).h]; decide), by kernel_rfl⟩⟩
instance : TFld Tryd.prog 42 2 2 := ⟨⟨_, _, Tryd.underlying42, rfl, rfl, by simpa using (show ¬ ((Tryd.prog.info? 3).map (·.size) = some 0) by rw [(inferInstance : TSz Tryd.prog 3 _).h]; decide), by kernel_rfl⟩⟩
instance : TFld Tryd.prog 42 3 3 := ⟨⟨_, _, Tryd.underlying42, rfl, rfl, by simpa using (show ¬ ((Tryd.prog.info? 3).map (·.size) = some 0) by rw [(inferInstance : TSz Tryd.prog 3 _).h]; decide), by kernel_rfl⟩⟩
instance : TFld Tryd.prog 42 4 4 := ⟨⟨_, _, Tryd.underlying42, rfl, rfl, by simpa using (show ¬ ((Tryd.prog.info? 3).map (·.size) = some 0) by rw [(inferInstance : TSz Tryd.prog 3 _).h]; decide), by kernel_rfl⟩⟩
instance : TFld Tryd.prog 42 5 5 := ⟨⟨_, _, Tryd.underlying42, rfl, rfl, by simpa using (show ¬ ((Tryd.prog.info? 22).map (·.size) = some 0) by rw [(inferInstance : TSz Tryd.prog 22 _).h]; decide), by kernel_rfl⟩⟩
instance : TFld Tryd.prog 42 6 21 := ⟨⟨_, _, Tryd.underlying42, rfl, rfl, by simpa using (show ¬ ((Tryd.prog.info? 35).map (·.size) = some 0) by rw [(inferInstance : TSz Tryd.prog 35 _).h]; decide), by kernel_rfl⟩⟩
instance : TFld Tryd.prog 42 7 38 := ⟨⟨_, _, Tryd.underlying42, rfl, rfl, by simpa using (show ¬ ((Tryd.prog.info? 40).map (·.size) = some 0) by rw [(inferInstance : TSz Tryd.prog 40 _).h]; decide), by kernel_rfl⟩⟩
instance : TSz Tryd.prog 46 1 := ⟨by kernel_rfl⟩
instance : TBy Tryd.prog 46 8 := ⟨by kernel_rfl⟩
instance : TOne Tryd.prog 46 := ⟨⟨_, Tryd.underlying46, rfl⟩⟩
instance : TZ Tryd.prog 46 (.nilFunc) := ⟨by kernel_rfl⟩
instance : TU Tryd.prog 47 (.pointer 51) := ⟨by kernel_rfl⟩
instance : TSz Tryd.prog 47 1 := ⟨by kernel_rfl⟩
instance : TBy Tryd.prog 47 8 := ⟨by kernel_rfl⟩
instance : TOne Tryd.prog 47 := ⟨⟨_, Tryd.underlying47, rfl⟩⟩
instance : TZ Tryd.prog 47 (.pointer none) := ⟨by kernel_rfl⟩
instance : TU Tryd.prog 48 (.slice 9) := ⟨by kernel_rfl⟩
instance : TSz Tryd.prog 48 1 := ⟨by kernel_rfl⟩
instance : TBy Tryd.prog 48 24 := ⟨by kernel_rfl⟩
instance : TOne Tryd.prog 48 := ⟨⟨_, Tryd.underlying48, rfl⟩⟩
instance : TZ Tryd.prog 48 (.slice none 0 0) := ⟨by kernel_rfl⟩
instance : TU Tryd.prog 49 (.slice 4) := ⟨by kernel_rfl⟩
instance : TSz Tryd.prog 49 1 := ⟨by kernel_rfl⟩
instance : TBy Tryd.prog 49 24 := ⟨by kernel_rfl⟩
instance : TOne Tryd.prog 49 := ⟨⟨_, Tryd.underlying49, rfl⟩⟩
instance : TZ Tryd.prog 49 (.slice none 0 0) := ⟨by kernel_rfl⟩
instance : TSz Tryd.prog 51 3 := ⟨by kernel_rfl⟩
instance : TBy Tryd.prog 51 56 := ⟨by kernel_rfl⟩
instance : TAgg Tryd.prog 51 3 := ⟨⟨_, Tryd.underlying51, rfl⟩, by kernel_rfl⟩
def z51 : List Value := [.slice none 0 0, .slice none 0 0, .int .i64 0]
instance : TZ Tryd.prog 51 (.agg z51.toArray) := ⟨by kernel_rfl⟩
instance : TFld Tryd.prog 51 0 0 := ⟨⟨_, _, Tryd.underlying51, rfl, rfl, by simpa using (show ¬ ((Tryd.prog.info? 48).map (·.size) = some 0) by rw [(inferInstance : TSz Tryd.prog 48 _).h]; decide), by kernel_rfl⟩⟩
instance : TFld Tryd.prog 51 1 1 := ⟨⟨_, _, Tryd.underlying51, rfl, rfl, by simpa using (show ¬ ((Tryd.prog.info? 49).map (·.size) = some 0) by rw [(inferInstance : TSz Tryd.prog 49 _).h]; decide), by kernel_rfl⟩⟩
instance : TFld Tryd.prog 51 2 2 := ⟨⟨_, _, Tryd.underlying51, rfl, rfl, by simpa using (show ¬ ((Tryd.prog.info? 3).map (·.size) = some 0) by rw [(inferInstance : TSz Tryd.prog 3 _).h]; decide), by kernel_rfl⟩⟩
instance : TU Tryd.prog 52 (.pointer 171) := ⟨by kernel_rfl⟩
instance : TSz Tryd.prog 52 1 := ⟨by kernel_rfl⟩
instance : TBy Tryd.prog 52 8 := ⟨by kernel_rfl⟩
instance : TOne Tryd.prog 52 := ⟨⟨_, Tryd.underlying52, rfl⟩⟩
instance : TZ Tryd.prog 52 (.pointer none) := ⟨by kernel_rfl⟩
instance : TSz Tryd.prog 57 1 := ⟨by kernel_rfl⟩
instance : TBy Tryd.prog 57 8 := ⟨by kernel_rfl⟩
instance : TOne Tryd.prog 57 := ⟨⟨_, Tryd.underlying57, rfl⟩⟩
instance : TZ Tryd.prog 57 (.nilFunc) := ⟨by kernel_rfl⟩
instance : TU Tryd.prog 58 (.array 2 3) := ⟨by kernel_rfl⟩
instance : TSz Tryd.prog 58 2 := ⟨by kernel_rfl⟩
instance : TBy Tryd.prog 58 16 := ⟨by kernel_rfl⟩
instance : TAgg Tryd.prog 58 2 := ⟨⟨_, Tryd.underlying58, rfl⟩, by kernel_rfl⟩
def z58 : List Value := [.int .i64 0, .int .i64 0]
instance : TZ Tryd.prog 58 (.agg z58.toArray) := ⟨by kernel_rfl⟩
def K58 : List IntKind := [.i64, .i64]
instance : TFlat Tryd.prog 58 K58 := ⟨by kernel_rfl, by kernel_rfl, by kernel_rfl⟩
instance : TSz Tryd.prog 64 1 := ⟨by kernel_rfl⟩
instance : TBy Tryd.prog 64 8 := ⟨by kernel_rfl⟩
instance : TOne Tryd.prog 64 := ⟨⟨_, Tryd.underlying64, rfl⟩⟩
instance : TZ Tryd.prog 64 (.nilFunc) := ⟨by kernel_rfl⟩
instance : TU Tryd.prog 65 (.slice 22) := ⟨by kernel_rfl⟩
instance : TSz Tryd.prog 65 1 := ⟨by kernel_rfl⟩
instance : TBy Tryd.prog 65 24 := ⟨by kernel_rfl⟩
instance : TOne Tryd.prog 65 := ⟨⟨_, Tryd.underlying65, rfl⟩⟩
instance : TZ Tryd.prog 65 (.slice none 0 0) := ⟨by kernel_rfl⟩
instance : TSz Tryd.prog 67 1 := ⟨by kernel_rfl⟩
instance : TBy Tryd.prog 67 8 := ⟨by kernel_rfl⟩
instance : TOne Tryd.prog 67 := ⟨⟨_, Tryd.underlying67, rfl⟩⟩
instance : TZ Tryd.prog 67 (.nilFunc) := ⟨by kernel_rfl⟩
instance : TSz Tryd.prog 73 1 := ⟨by kernel_rfl⟩
instance : TBy Tryd.prog 73 8 := ⟨by kernel_rfl⟩
instance : TOne Tryd.prog 73 := ⟨⟨_, Tryd.underlying73, rfl⟩⟩
instance : TZ Tryd.prog 73 (.nilFunc) := ⟨by kernel_rfl⟩
instance : TU Tryd.prog 75 (.slice 3) := ⟨by kernel_rfl⟩
instance : TSz Tryd.prog 75 1 := ⟨by kernel_rfl⟩
instance : TBy Tryd.prog 75 24 := ⟨by kernel_rfl⟩
instance : TOne Tryd.prog 75 := ⟨⟨_, Tryd.underlying75, rfl⟩⟩
instance : TZ Tryd.prog 75 (.slice none 0 0) := ⟨by kernel_rfl⟩
instance : TU Tryd.prog 80 (.pointer 83) := ⟨by kernel_rfl⟩
instance : TSz Tryd.prog 80 1 := ⟨by kernel_rfl⟩
instance : TBy Tryd.prog 80 8 := ⟨by kernel_rfl⟩
instance : TOne Tryd.prog 80 := ⟨⟨_, Tryd.underlying80, rfl⟩⟩
instance : TZ Tryd.prog 80 (.pointer none) := ⟨by kernel_rfl⟩
instance : TU Tryd.prog 81 (.slice 166) := ⟨by kernel_rfl⟩
instance : TSz Tryd.prog 81 1 := ⟨by kernel_rfl⟩
instance : TBy Tryd.prog 81 24 := ⟨by kernel_rfl⟩
instance : TOne Tryd.prog 81 := ⟨⟨_, Tryd.underlying81, rfl⟩⟩
instance : TZ Tryd.prog 81 (.slice none 0 0) := ⟨by kernel_rfl⟩
instance : TSz Tryd.prog 83 1 := ⟨by kernel_rfl⟩
instance : TBy Tryd.prog 83 24 := ⟨by kernel_rfl⟩
instance : TAgg Tryd.prog 83 1 := ⟨⟨_, Tryd.underlying83, rfl⟩, by kernel_rfl⟩
def z83 : List Value := [.slice none 0 0]
instance : TZ Tryd.prog 83 (.agg z83.toArray) := ⟨by kernel_rfl⟩
instance : TFld Tryd.prog 83 0 0 := ⟨⟨_, _, Tryd.underlying83, rfl, rfl, by simpa using (show ¬ ((Tryd.prog.info? 81).map (·.size) = some 0) by rw [(inferInstance : TSz Tryd.prog 81 _).h]; decide), by kernel_rfl⟩⟩
instance : TSz Tryd.prog 97 1 := ⟨by kernel_rfl⟩
instance : TBy Tryd.prog 97 8 := ⟨by kernel_rfl⟩
instance : TOne Tryd.prog 97 := ⟨⟨_, Tryd.underlying97, rfl⟩⟩
instance : TZ Tryd.prog 97 (.nilFunc) := ⟨by kernel_rfl⟩
instance : TSz Tryd.prog 98 1 := ⟨by kernel_rfl⟩
instance : TBy Tryd.prog 98 8 := ⟨by kernel_rfl⟩
instance : TOne Tryd.prog 98 := ⟨⟨_, Tryd.underlying98, rfl⟩⟩
instance : TZ Tryd.prog 98 (.nilFunc) := ⟨by kernel_rfl⟩
instance : TSz Tryd.prog 99 1 := ⟨by kernel_rfl⟩
instance : TBy Tryd.prog 99 8 := ⟨by kernel_rfl⟩
instance : TOne Tryd.prog 99 := ⟨⟨_, Tryd.underlying99, rfl⟩⟩
instance : TZ Tryd.prog 99 (.nilFunc) := ⟨by kernel_rfl⟩
instance : TU Tryd.prog 101 (.slice 104) := ⟨by kernel_rfl⟩
instance : TSz Tryd.prog 101 1 := ⟨by kernel_rfl⟩
instance : TBy Tryd.prog 101 24 := ⟨by kernel_rfl⟩
instance : TOne Tryd.prog 101 := ⟨⟨_, Tryd.underlying101, rfl⟩⟩
instance : TZ Tryd.prog 101 (.slice none 0 0) := ⟨by kernel_rfl⟩
instance : TU Tryd.prog 102 (.slice 174) := ⟨by kernel_rfl⟩
instance : TSz Tryd.prog 102 1 := ⟨by kernel_rfl⟩
instance : TBy Tryd.prog 102 24 := ⟨by kernel_rfl⟩
instance : TOne Tryd.prog 102 := ⟨⟨_, Tryd.underlying102, rfl⟩⟩
instance : TZ Tryd.prog 102 (.slice none 0 0) := ⟨by kernel_rfl⟩
instance : TSz Tryd.prog 103 3 := ⟨by kernel_rfl⟩
instance : TBy Tryd.prog 103 24 := ⟨by kernel_rfl⟩
instance : TAgg Tryd.prog 103 3 := ⟨⟨_, Tryd.underlying103, rfl⟩, by kernel_rfl⟩
def z103 : List Value := [.int .i64 0, .int .i64 0, .int .u8 0]
instance : TZ Tryd.prog 103 (.agg z103.toArray) := ⟨by kernel_rfl⟩
def K103 : List IntKind := [.i64, .i64, .u8]
instance : TFlat Tryd.prog 103 K103 := ⟨by kernel_rfl, by kernel_rfl, by kernel_rfl⟩
instance : TFld Tryd.prog 103 0 0 := ⟨⟨_, _, Tryd.underlying103, rfl, rfl, by simpa using (show ¬ ((Tryd.prog.info? 3).map (·.size) = some 0) by rw [(inferInstance : TSz Tryd.prog 3 _).h]; decide), by kernel_rfl⟩⟩
instance : TFld Tryd.prog 103 1 1 := ⟨⟨_, _, Tryd.underlying103, rfl, rfl, by simpa using (show ¬ ((Tryd.prog.info? 3).map (·.size) = some 0) by rw [(inferInstance : TSz Tryd.prog 3 _).h]; decide), by kernel_rfl⟩⟩
instance : TFld Tryd.prog 103 2 2 := ⟨⟨_, _, Tryd.underlying103, rfl, rfl, by simpa using (show ¬ ((Tryd.prog.info? 5).map (·.size) = some 0) by rw [(inferInstance : TSz Tryd.prog 5 _).h]; decide), by kernel_rfl⟩⟩
instance : TSz Tryd.prog 104 3 := ⟨by kernel_rfl⟩
instance : TBy Tryd.prog 104 24 := ⟨by kernel_rfl⟩
instance : TAgg Tryd.prog 104 3 := ⟨⟨_, Tryd.underlying104, rfl⟩, by kernel_rfl⟩
def z104 : List Value := [.int .i64 0, .int .i64 0, .int .u8 0]
instance : TZ Tryd.prog 104 (.agg z104.toArray) := ⟨by kernel_rfl⟩
def K104 : List IntKind := [.i64, .i64, .u8]
instance : TFlat Tryd.prog 104 K104 := ⟨by kernel_rfl, by kernel_rfl, by kernel_rfl⟩
instance : TFld Tryd.prog 104 0 0 := ⟨⟨_, _, Tryd.underlying104, rfl, rfl, by simpa using (show ¬ ((Tryd.prog.info? 3).map (·.size) = some 0) by rw [(inferInstance : TSz Tryd.prog 3 _).h]; decide), by kernel_rfl⟩⟩
instance : TFld Tryd.prog 104 1 1 := ⟨⟨_, _, Tryd.underlying104, rfl, rfl, by simpa using (show ¬ ((Tryd.prog.info? 3).map (·.size) = some 0) by rw [(inferInstance : TSz Tryd.prog 3 _).h]; decide), by kernel_rfl⟩⟩
instance : TFld Tryd.prog 104 2 2 := ⟨⟨_, _, Tryd.underlying104, rfl, rfl, by simpa using (show ¬ ((Tryd.prog.info? 5).map (·.size) = some 0) by rw [(inferInstance : TSz Tryd.prog 5 _).h]; decide), by kernel_rfl⟩⟩
instance : TSz Tryd.prog 105 1 := ⟨by kernel_rfl⟩
instance : TBy Tryd.prog 105 8 := ⟨by kernel_rfl⟩
instance : TOne Tryd.prog 105 := ⟨⟨_, Tryd.underlying105, rfl⟩⟩
instance : TZ Tryd.prog 105 (.nilFunc) := ⟨by kernel_rfl⟩
instance : TSz Tryd.prog 107 1 := ⟨by kernel_rfl⟩
instance : TBy Tryd.prog 107 8 := ⟨by kernel_rfl⟩
instance : TOne Tryd.prog 107 := ⟨⟨_, Tryd.underlying107, rfl⟩⟩
instance : TZ Tryd.prog 107 (.nilFunc) := ⟨by kernel_rfl⟩
instance : TSz Tryd.prog 108 1 := ⟨by kernel_rfl⟩
instance : TBy Tryd.prog 108 8 := ⟨by kernel_rfl⟩
instance : TOne Tryd.prog 108 := ⟨⟨_, Tryd.underlying108, rfl⟩⟩
instance : TZ Tryd.prog 108 (.nilFunc) := ⟨by kernel_rfl⟩
instance : TSz Tryd.prog 110 1 := ⟨by kernel_rfl⟩
instance : TBy Tryd.prog 110 8 := ⟨by kernel_rfl⟩
instance : TOne Tryd.prog 110 := ⟨⟨_, Tryd.underlying110, rfl⟩⟩
instance : TZ Tryd.prog 110 (.nilFunc) := ⟨by kernel_rfl⟩
instance : TSz Tryd.prog 111 1 := ⟨by kernel_rfl⟩
instance : TBy Tryd.prog 111 8 := ⟨by kernel_rfl⟩
instance : TOne Tryd.prog 111 := ⟨⟨_, Tryd.underlying111, rfl⟩⟩
instance : TZ Tryd.prog 111 (.nilFunc) := ⟨by kernel_rfl⟩
instance : TSz Tryd.prog 114 1 := ⟨by kernel_rfl⟩
instance : TBy Tryd.prog 114 8 := ⟨by kernel_rfl⟩
instance : TOne Tryd.prog 114 := ⟨⟨_, Tryd.underlying114, rfl⟩⟩
instance : TZ Tryd.prog 114 (.nilFunc) := ⟨by kernel_rfl⟩
instance : TSz Tryd.prog 115 1 := ⟨by kernel_rfl⟩
instance : TBy Tryd.prog 115 8 := ⟨by kernel_rfl⟩
instance : TOne Tryd.prog 115 := ⟨⟨_, Tryd.underlying115, rfl⟩⟩
instance : TZ Tryd.prog 115 (.nilFunc) := ⟨by kernel_rfl⟩
instance : TU Tryd.prog 116 (.slice 118) := ⟨by kernel_rfl⟩
instance : TSz Tryd.prog 116 1 := ⟨by kernel_rfl⟩
instance : TBy Tryd.prog 116 24 := ⟨by kernel_rfl⟩
instance : TOne Tryd.prog 116 := ⟨⟨_, Tryd.underlying116, rfl⟩⟩
instance : TZ Tryd.prog 116 (.slice none 0 0) := ⟨by kernel_rfl⟩
instance : TSz Tryd.prog 117 2 := ⟨by kernel_rfl⟩
instance : TBy Tryd.prog 117 32 := ⟨by kernel_rfl⟩
instance : TAgg Tryd.prog 117 2 := ⟨⟨_, Tryd.underlying117, rfl⟩, by kernel_rfl⟩
def z117 : List Value := [.int .i64 0, .slice none 0 0]
instance : TZ Tryd.prog 117 (.agg z117.toArray) := ⟨by kernel_rfl⟩
instance : TFld Tryd.prog 117 0 0 := ⟨⟨_, _, Tryd.underlying117, rfl, rfl, by simpa using (show ¬ ((Tryd.prog.info? 3).map (·.size) = some 0) by rw [(inferInstance : TSz Tryd.prog 3 _).h]; decide), by kernel_rfl⟩⟩
instance : TFld Tryd.prog 117 1 1 := ⟨⟨_, _, Tryd.underlying117, rfl, rfl, by simpa using (show ¬ ((Tryd.prog.info? 31).map (·.size) = some 0) by rw [(inferInstance : TSz Tryd.prog 31 _).h]; decide), by kernel_rfl⟩⟩
instance : TSz Tryd.prog 118 2 := ⟨by kernel_rfl⟩
instance : TBy Tryd.prog 118 32 := ⟨by kernel_rfl⟩
instance : TAgg Tryd.prog 118 2 := ⟨⟨_, Tryd.underlying118, rfl⟩, by kernel_rfl⟩
def z118 : List Value := [.int .i64 0, .slice none 0 0]
instance : TZ Tryd.prog 118 (.agg z118.toArray) := ⟨by kernel_rfl⟩
instance : TFld Tryd.prog 118 0 0 := ⟨⟨_, _, Tryd.underlying118, rfl, rfl, by simpa using (show ¬ ((Tryd.prog.info? 3).map (·.size) = some 0) by rw [(inferInstance : TSz Tryd.prog 3 _).h]; decide), by kernel_rfl⟩⟩
instance : TFld Tryd.prog 118 1 1 := ⟨⟨_, _, Tryd.underlying118, rfl, rfl, by simpa using (show ¬ ((Tryd.prog.info? 31).map (·.size) = some 0) by rw [(inferInstance : TSz Tryd.prog 31 _).h]; decide), by kernel_rfl⟩⟩
instance : TSz Tryd.prog 119 1 := ⟨by kernel_rfl⟩
instance : TBy Tryd.prog 119 8 := ⟨by kernel_rfl⟩
instance : TOne Tryd.prog 119 := ⟨⟨_, Tryd.underlying119, rfl⟩⟩
instance : TZ Tryd.prog 119 (.nilFunc) := ⟨by kernel_rfl⟩
instance : TSz Tryd.prog 120 1 := ⟨by kernel_rfl⟩
instance : TBy Tryd.prog 120 8 := ⟨by kernel_rfl⟩
instance : TOne Tryd.prog 120 := ⟨⟨_, Tryd.underlying120, rfl⟩⟩
instance : TZ Tryd.prog 120 (.nilFunc) := ⟨by kernel_rfl⟩
instance : TU Tryd.prog 123 (.slice 135) := ⟨by kernel_rfl⟩
instance : TSz Tryd.prog 123 1 := ⟨by kernel_rfl⟩
instance : TBy Tryd.prog 123 24 := ⟨by kernel_rfl⟩
instance : TOne Tryd.prog 123 := ⟨⟨_, Tryd.underlying123, rfl⟩⟩
instance : TZ Tryd.prog 123 (.slice none 0 0) := ⟨by kernel_rfl⟩
instance : TSz Tryd.prog 125 2 := ⟨by kernel_rfl⟩
instance : TBy Tryd.prog 125 32 := ⟨by kernel_rfl⟩
instance : TAgg Tryd.prog 125 2 := ⟨⟨_, Tryd.underlying125, rfl⟩, by kernel_rfl⟩
def z125 : List Value := [.pointer none, .slice none 0 0]
instance : TZ Tryd.prog 125 (.agg z125.toArray) := ⟨by kernel_rfl⟩
instance : TFld Tryd.prog 125 0 0 := ⟨⟨_, _, Tryd.underlying125, rfl, rfl, by simpa using (show ¬ ((Tryd.prog.info? 29).map (·.size) = some 0) by rw [(inferInstance : TSz Tryd.prog 29 _).h]; decide), by kernel_rfl⟩⟩
instance : TFld Tryd.prog 125 1 1 := ⟨⟨_, _, Tryd.underlying125, rfl, rfl, by simpa using (show ¬ ((Tryd.prog.info? 123).map (·.size) = some 0) by rw [(inferInstance : TSz Tryd.prog 123 _).h]; decide), by kernel_rfl⟩⟩
instance : TU Tryd.prog 126 (.pointer 202) := ⟨by kernel_rfl⟩
instance : TSz Tryd.prog 126 1 := ⟨by kernel_rfl⟩
instance : TBy Tryd.prog 126 8 := ⟨by kernel_rfl⟩
instance : TOne Tryd.prog 126 := ⟨⟨_, Tryd.underlying126, rfl⟩⟩
instance : TZ Tryd.prog 126 (.pointer none) := ⟨by kernel_rfl⟩
instance : TU Tryd.prog 127 (.map 9 4) := ⟨by kernel_rfl⟩
instance : TSz Tryd.prog 127 1 := ⟨by kernel_rfl⟩
instance : TBy Tryd.prog 127 8 := ⟨by kernel_rfl⟩
instance : TOne Tryd.prog 127 := ⟨⟨_, Tryd.underlying127, rfl⟩⟩
instance : TZ Tryd.prog 127 (.map none) := ⟨by kernel_rfl⟩
instance : TSz Tryd.prog 129 4 := ⟨by kernel_rfl⟩
instance : TBy Tryd.prog 129 32 := ⟨by kernel_rfl⟩
instance : TAgg Tryd.prog 129 4 := ⟨⟨_, Tryd.underlying129, rfl⟩, by kernel_rfl⟩
def z129 : List Value := [.pointer none, .int .i64 0, .map none, .bool false]
instance : TZ Tryd.prog 129 (.agg z129.toArray) := ⟨by kernel_rfl⟩
instance : TFld Tryd.prog 129 0 0 := ⟨⟨_, _, Tryd.underlying129, rfl, rfl, by simpa using (show ¬ ((Tryd.prog.info? 126).map (·.size) = some 0) by rw [(inferInstance : TSz Tryd.prog 126 _).h]; decide), by kernel_rfl⟩⟩
instance : TFld Tryd.prog 129 1 1 := ⟨⟨_, _, Tryd.underlying129, rfl, rfl, by simpa using (show ¬ ((Tryd.prog.info? 3).map (·.size) = some 0) by rw [(inferInstance : TSz Tryd.prog 3 _).h]; decide), by kernel_rfl⟩⟩
instance : TFld Tryd.prog 129 2 2 := ⟨⟨_, _, Tryd.underlying129, rfl, rfl, by simpa using (show ¬ ((Tryd.prog.info? 127).map (·.size) = some 0) by rw [(inferInstance : TSz Tryd.prog 127 _).h]; decide), by kernel_rfl⟩⟩
instance : TFld Tryd.prog 129 3 3 := ⟨⟨_, _, Tryd.underlying129, rfl, rfl, by simpa using (show ¬ ((Tryd.prog.info? 4).map (·.size) = some 0) by rw [(inferInstance : TSz Tryd.prog 4 _).h]; decide), by kernel_rfl⟩⟩
instance : TU Tryd.prog 135 (.pointer 137) := ⟨by kernel_rfl⟩
instance : TSz Tryd.prog 135 1 := ⟨by kernel_rfl⟩
instance : TBy Tryd.prog 135 8 := ⟨by kernel_rfl⟩
instance : TOne Tryd.prog 135 := ⟨⟨_, Tryd.underlying135, rfl⟩⟩
instance : TZ Tryd.prog 135 (.pointer none) := ⟨by kernel_rfl⟩
instance : TSz Tryd.prog 137 18 := ⟨by kernel_rfl⟩
instance : TBy Tryd.prog 137 48 := ⟨by kernel_rfl⟩
instance : TAgg Tryd.prog 137 18 := ⟨⟨_, Tryd.underlying137, rfl⟩, by kernel_rfl⟩
def z137 : List Value := List.replicate 16 (.int .u8 0) ++ [.slice none 0 0, .int .i64 0]
instance : TZ Tryd.prog 137 (.agg z137.toArray) := ⟨by kernel_rfl⟩
instance : TFld Tryd.prog 137 0 0 := ⟨⟨_, _, Tryd.underlying137, rfl, rfl, by simpa using (show ¬ ((Tryd.prog.info? 22).map (·.size) = some 0) by rw [(inferInstance : TSz Tryd.prog 22 _).h]; decide), by kernel_rfl⟩⟩
instance : TFld Tryd.prog 137 1 16 := ⟨⟨_, _, Tryd.underlying137, rfl, rfl, by simpa using (show ¬ ((Tryd.prog.info? 31).map (·.size) = some 0) by rw [(inferInstance : TSz Tryd.prog 31 _).h]; decide), by kernel_rfl⟩⟩
instance : TFld Tryd.prog 137 2 17 := ⟨⟨_, _, Tryd.underlying137, rfl, rfl, by simpa using (show ¬ ((Tryd.prog.info? 3).map (·.size) = some 0) by rw [(inferInstance : TSz Tryd.prog 3 _).h]; decide), by kernel_rfl⟩⟩
instance : TU Tryd.prog 140 (.pointer 145) := ⟨by kernel_rfl⟩
instance : TSz Tryd.prog 140 1 := ⟨by kernel_rfl⟩
instance : TBy Tryd.prog 140 8 := ⟨by kernel_rfl⟩
instance : TOne Tryd.prog 140 := ⟨⟨_, Tryd.underlying140, rfl⟩⟩
instance : TZ Tryd.prog 140 (.pointer none) := ⟨by kernel_rfl⟩
instance : TU Tryd.prog 141 (.slice 210) := ⟨by kernel_rfl⟩
instance : TSz Tryd.prog 141 1 := ⟨by kernel_rfl⟩
instance : TBy Tryd.prog 141 24 := ⟨by kernel_rfl⟩
instance : TOne Tryd.prog 141 := ⟨⟨_, Tryd.underlying141, rfl⟩⟩
instance : TZ Tryd.prog 141 (.slice none 0 0) := ⟨by kernel_rfl⟩
instance : TSz Tryd.prog 143 5 := ⟨by kernel_rfl⟩
instance : TBy Tryd.prog 143 88 := ⟨by kernel_rfl⟩
instance : TAgg Tryd.prog 143 5 := ⟨⟨_, Tryd.underlying143, rfl⟩, by kernel_rfl⟩
def z143 : List Value := [.slice none 0 0, .slice none 0 0, .slice none 0 0, .bool false, .int .i64 0]
instance : TZ Tryd.prog 143 (.agg z143.toArray) := ⟨by kernel_rfl⟩
instance : TFld Tryd.prog 143 0 0 := ⟨⟨_, _, Tryd.underlying143, rfl, rfl, by simpa using (show ¬ ((Tryd.prog.info? 31).map (·.size) = some 0) by rw [(inferInstance : TSz Tryd.prog 31 _).h]; decide), by kernel_rfl⟩⟩
instance : TFld Tryd.prog 143 1 1 := ⟨⟨_, _, Tryd.underlying143, rfl, rfl, by simpa using (show ¬ ((Tryd.prog.info? 141).map (·.size) = some 0) by rw [(inferInstance : TSz Tryd.prog 141 _).h]; decide), by kernel_rfl⟩⟩
instance : TFld Tryd.prog 143 2 2 := ⟨⟨_, _, Tryd.underlying143, rfl, rfl, by simpa using (show ¬ ((Tryd.prog.info? 141).map (·.size) = some 0) by rw [(inferInstance : TSz Tryd.prog 141 _).h]; decide), by kernel_rfl⟩⟩
instance : TFld Tryd.prog 143 3 3 := ⟨⟨_, _, Tryd.underlying143, rfl, rfl, by simpa using (show ¬ ((Tryd.prog.info? 4).map (·.size) = some 0) by rw [(inferInstance : TSz Tryd.prog 4 _).h]; decide), by kernel_rfl⟩⟩
instance : TFld Tryd.prog 143 4 4 := ⟨⟨_, _, Tryd.underlying143, rfl, rfl, by simpa using (show ¬ ((Tryd.prog.info? 3).map (·.size) = some 0) by rw [(inferInstance : TSz Tryd.prog 3 _).h]; decide), by kernel_rfl⟩⟩
instance : TSz Tryd.prog 145 8 := ⟨by kernel_rfl⟩
instance : TBy Tryd.prog 145 128 := ⟨by kernel_rfl⟩
instance : TAgg Tryd.prog 145 8 := ⟨⟨_, Tryd.underlying145, rfl⟩, by kernel_rfl⟩
def z145 : List Value := [.bool false, .slice none 0 0, .slice none 0 0, .slice none 0 0, .bool false, .int .i64 0, .int .i64 0, .slice none 0 0]
instance : TZ Tryd.prog 145 (.agg z145.toArray) := ⟨by kernel_rfl⟩
instance : TFld Tryd.prog 145 0 0 := ⟨⟨_, _, Tryd.underlying145, rfl, rfl, by simpa using (show ¬ ((Tryd.prog.info? 4).map (·.size) = some 0) by rw [(inferInstance : TSz Tryd.prog 4 _).h]; decide), by kernel_rfl⟩⟩
instance : TFld Tryd.prog 145 1 1 := ⟨⟨_, _, Tryd.underlying145, rfl, rfl, by simpa using (show ¬ ((Tryd.prog.info? 143).map (·.size) = some 0) by rw [(inferInstance : TSz Tryd.prog 143 _).h]; decide), by kernel_rfl⟩⟩
instance : TFld Tryd.prog 145 2 6 := ⟨⟨_, _, Tryd.underlying145, rfl, rfl, by simpa using (show ¬ ((Tryd.prog.info? 3).map (·.size) = some 0) by rw [(inferInstance : TSz Tryd.prog 3 _).h]; decide), by kernel_rfl⟩⟩
instance : TFld Tryd.prog 145 3 7 := ⟨⟨_, _, Tryd.underlying145, rfl, rfl, by simpa using (show ¬ ((Tryd.prog.info? 48).map (·.size) = some 0) by rw [(inferInstance : TSz Tryd.prog 48 _).h]; decide), by kernel_rfl⟩⟩
instance : TU Tryd.prog 147 (.pointer 149) := ⟨by kernel_rfl⟩
instance : TSz Tryd.prog 147 1 := ⟨by kernel_rfl⟩
instance : TBy Tryd.prog 147 8 := ⟨by kernel_rfl⟩
instance : TOne Tryd.prog 147 := ⟨⟨_, Tryd.underlying147, rfl⟩⟩
instance : TZ Tryd.prog 147 (.pointer none) := ⟨by kernel_rfl⟩
instance : TSz Tryd.prog 149 3 := ⟨by kernel_rfl⟩
instance : TBy Tryd.prog 149 56 := ⟨by kernel_rfl⟩
instance : TAgg Tryd.prog 149 3 := ⟨⟨_, Tryd.underlying149, rfl⟩, by kernel_rfl⟩
def z149 : List Value := [.pointer none, .slice none 0 0, .slice none 0 0]
instance : TZ Tryd.prog 149 (.agg z149.toArray) := ⟨by kernel_rfl⟩
instance : TFld Tryd.prog 149 0 0 := ⟨⟨_, _, Tryd.underlying149, rfl, rfl, by simpa using (show ¬ ((Tryd.prog.info? 52).map (·.size) = some 0) by rw [(inferInstance : TSz Tryd.prog 52 _).h]; decide), by kernel_rfl⟩⟩
instance : TFld Tryd.prog 149 1 1 := ⟨⟨_, _, Tryd.underlying149, rfl, rfl, by simpa using (show ¬ ((Tryd.prog.info? 75).map (·.size) = some 0) by rw [(inferInstance : TSz Tryd.prog 75 _).h]; decide), by kernel_rfl⟩⟩
instance : TFld Tryd.prog 149 2 2 := ⟨⟨_, _, Tryd.underlying149, rfl, rfl, by simpa using (show ¬ ((Tryd.prog.info? 75).map (·.size) = some 0) by rw [(inferInstance : TSz Tryd.prog 75 _).h]; decide), by kernel_rfl⟩⟩
instance : TSz Tryd.prog 153 2 := ⟨by kernel_rfl⟩
instance : TBy Tryd.prog 153 16 := ⟨by kernel_rfl⟩
instance : TAgg Tryd.prog 153 2 := ⟨⟨_, Tryd.underlying153, rfl⟩, by kernel_rfl⟩
def z153 : List Value := [.int .i64 0, .int .i64 0]
instance : TZ Tryd.prog 153 (.agg z153.toArray) := ⟨by kernel_rfl⟩
def K153 : List IntKind := [.i64, .i64]
instance : TFlat Tryd.prog 153 K153 := ⟨by kernel_rfl, by kernel_rfl, by kernel_rfl⟩
instance : TFld Tryd.prog 153 0 0 := ⟨⟨_, _, Tryd.underlying153, rfl, rfl, by simpa using (show ¬ ((Tryd.prog.info? 3).map (·.size) = some 0) by rw [(inferInstance : TSz Tryd.prog 3 _).h]; decide), by kernel_rfl⟩⟩
instance : TFld Tryd.prog 153 1 1 := ⟨⟨_, _, Tryd.underlying153, rfl, rfl, by simpa using (show ¬ ((Tryd.prog.info? 3).map (·.size) = some 0) by rw [(inferInstance : TSz Tryd.prog 3 _).h]; decide), by kernel_rfl⟩⟩
instance : TU Tryd.prog 157 (.array 14 38) := ⟨by kernel_rfl⟩
instance : TSz Tryd.prog 157 462 := ⟨by kernel_rfl⟩
instance : TBy Tryd.prog 157 560 := ⟨by kernel_rfl⟩
instance : TAgg Tryd.prog 157 462 := ⟨⟨_, Tryd.underlying157, rfl⟩, by kernel_rfl⟩
def z157 : List Value := [.int .i64 0] ++ List.replicate 32 (.int .u8 0) ++ [.int .i64 0] ++ List.replicate 32 (.int .u8 0) ++ [.int .i64 0] ++ List.replicate 32 (.int .u8 0) ++ [.int .i64 0] ++ List.replicate 32 (.int .u8 0) ++ [.int .i64 0] ++ List.replicate 32 (.int .u8 0) ++ [.int .i64 0] ++ List.replicate 32 (.int .u8 0) ++ [.int .i64 0] ++ List.replicate 32 (.int .u8 0) ++ [.int .i64 0] ++ List.replicate 32 (.int .u8 0) ++ [.int .i64 0] ++ List.replicate 32 (.int .u8 0) ++ [.int .i64 0] ++ List.replicate 32 (.int .u8 0) ++ [.int .i64 0] ++ List.replicate 32 (.int .u8 0) ++ [.int .i64 0] ++ List.replicate 32 (.int .u8 0) ++ [.int .i64 0] ++ List.replicate 32 (.int .u8 0) ++ [.int .i64 0] ++ List.replicate 32 (.int .u8 0)
instance : TZ Tryd.prog 157 (.agg z157.toArray) := ⟨by kernel_rfl⟩
def K157 : List IntKind := [.i64] ++ List.replicate 32 .u8 ++ [.i64] ++ List.replicate 32 .u8 ++ [.i64] ++ List.replicate 32 .u8 ++ [.i64] ++ List.replicate 32 .u8 ++ [.i64] ++ List.replicate 32 .u8 ++ [.i64] ++ List.replicate 32 .u8 ++ [.i64] ++ List.replicate 32 .u8 ++ [.i64] ++ List.replicate 32 .u8 ++ [.i64] ++ List.replicate 32 .u8 ++ [.i64] ++ List.replicate 32 .u8 ++ [.i64] ++ List.replicate 32 .u8 ++ [.i64] ++ List.replicate 32 .u8 ++ [.i64] ++ List.replicate 32 .u8 ++ [.i64] ++ List.replicate 32 .u8
instance : TFlat Tryd.prog 157 K157 := ⟨by kernel_rfl, by kernel_rfl, by kernel_rfl⟩
instance : TSz Tryd.prog 166 3 := ⟨by kernel_rfl⟩
instance : TBy Tryd.prog 166 40 := ⟨by kernel_rfl⟩
instance : TAgg Tryd.prog 166 3 := ⟨⟨_, Tryd.underlying166, rfl⟩, by kernel_rfl⟩
def z166 : List Value := [.string ⟨#[]⟩, .string ⟨#[]⟩, .int .i64 0]
instance : TZ Tryd.prog 166 (.agg z166.toArray) := ⟨by kernel_rfl⟩
instance : TFld Tryd.prog 166 0 0 := ⟨⟨_, _, Tryd.underlying166, rfl, rfl, by simpa using (show ¬ ((Tryd.prog.info? 9).map (·.size) = some 0) by rw [(inferInstance : TSz Tryd.prog 9 _).h]; decide), by kernel_rfl⟩⟩
instance : TFld Tryd.prog 166 1 1 := ⟨⟨_, _, Tryd.underlying166, rfl, rfl, by simpa using (show ¬ ((Tryd.prog.info? 9).map (·.size) = some 0) by rw [(inferInstance : TSz Tryd.prog 9 _).h]; decide), by kernel_rfl⟩⟩
instance : TFld Tryd.prog 166 2 2 := ⟨⟨_, _, Tryd.underlying166, rfl, rfl, by simpa using (show ¬ ((Tryd.prog.info? 3).map (·.size) = some 0) by rw [(inferInstance : TSz Tryd.prog 3 _).h]; decide), by kernel_rfl⟩⟩
instance : TSz Tryd.prog 169 1 := ⟨by kernel_rfl⟩
instance : TBy Tryd.prog 169 16 := ⟨by kernel_rfl⟩
instance : TOne Tryd.prog 169 := ⟨⟨_, Tryd.underlying169, rfl⟩⟩
instance : TZ Tryd.prog 169 (.nilIface) := ⟨by kernel_rfl⟩
instance : TSz Tryd.prog 171 4 := ⟨by kernel_rfl⟩
instance : TBy Tryd.prog 171 72 := ⟨by kernel_rfl⟩
instance : TAgg Tryd.prog 171 4 := ⟨⟨_, Tryd.underlying171, rfl⟩, by kernel_rfl⟩
def z171 : List Value := [.nilIface, .pointer none, .slice none 0 0, .slice none 0 0]
instance : TZ Tryd.prog 171 (.agg z171.toArray) := ⟨by kernel_rfl⟩
instance : TFld Tryd.prog 171 0 0 := ⟨⟨_, _, Tryd.underlying171, rfl, rfl, by simpa using (show ¬ ((Tryd.prog.info? 169).map (·.size) = some 0) by rw [(inferInstance : TSz Tryd.prog 169 _).h]; decide), by kernel_rfl⟩⟩
instance : TFld Tryd.prog 171 1 1 := ⟨⟨_, _, Tryd.underlying171, rfl, rfl, by simpa using (show ¬ ((Tryd.prog.info? 29).map (·.size) = some 0) by rw [(inferInstance : TSz Tryd.prog 29 _).h]; decide), by kernel_rfl⟩⟩
instance : TFld Tryd.prog 171 2 2 := ⟨⟨_, _, Tryd.underlying171, rfl, rfl, by simpa using (show ¬ ((Tryd.prog.info? 31).map (·.size) = some 0) by rw [(inferInstance : TSz Tryd.prog 31 _).h]; decide), by kernel_rfl⟩⟩
instance : TFld Tryd.prog 171 3 3 := ⟨⟨_, _, Tryd.underlying171, rfl, rfl, by simpa using (show ¬ ((Tryd.prog.info? 31).map (·.size) = some 0) by rw [(inferInstance : TSz Tryd.prog 31 _).h]; decide), by kernel_rfl⟩⟩
instance : TSz Tryd.prog 174 2 := ⟨by kernel_rfl⟩
instance : TBy Tryd.prog 174 24 := ⟨by kernel_rfl⟩
instance : TAgg Tryd.prog 174 2 := ⟨⟨_, Tryd.underlying174, rfl⟩, by kernel_rfl⟩
def z174 : List Value := [.int .i64 0, .string ⟨#[]⟩]
instance : TZ Tryd.prog 174 (.agg z174.toArray) := ⟨by kernel_rfl⟩
instance : TFld Tryd.prog 174 0 0 := ⟨⟨_, _, Tryd.underlying174, rfl, rfl, by simpa using (show ¬ ((Tryd.prog.info? 3).map (·.size) = some 0) by rw [(inferInstance : TSz Tryd.prog 3 _).h]; decide), by kernel_rfl⟩⟩
instance : TFld Tryd.prog 174 1 1 := ⟨⟨_, _, Tryd.underlying174, rfl, rfl, by simpa using (show ¬ ((Tryd.prog.info? 9).map (·.size) = some 0) by rw [(inferInstance : TSz Tryd.prog 9 _).h]; decide), by kernel_rfl⟩⟩
instance : TU Tryd.prog 181 (.array 64 5) := ⟨by kernel_rfl⟩
instance : TSz Tryd.prog 181 64 := ⟨by kernel_rfl⟩
instance : TBy Tryd.prog 181 64 := ⟨by kernel_rfl⟩
instance : TAgg Tryd.prog 181 64 := ⟨⟨_, Tryd.underlying181, rfl⟩, by kernel_rfl⟩
def z181 : List Value := List.replicate 64 (.int .u8 0)
instance : TZ Tryd.prog 181 (.agg z181.toArray) := ⟨by kernel_rfl⟩
def K181 : List IntKind := List.replicate 64 .u8
instance : TFlat Tryd.prog 181 K181 := ⟨by kernel_rfl, by kernel_rfl, by kernel_rfl⟩
instance : TU Tryd.prog 193 (.int .u64) := ⟨by kernel_rfl⟩
instance : TSz Tryd.prog 193 1 := ⟨by kernel_rfl⟩
instance : TBy Tryd.prog 193 8 := ⟨by kernel_rfl⟩
instance : TOne Tryd.prog 193 := ⟨⟨_, Tryd.underlying193, rfl⟩⟩
instance : TZ Tryd.prog 193 (.int .u64 0) := ⟨by kernel_rfl⟩
instance : TU Tryd.prog 200 (.map 9 232) := ⟨by kernel_rfl⟩
instance : TSz Tryd.prog 200 1 := ⟨by kernel_rfl⟩
instance : TBy Tryd.prog 200 8 := ⟨by kernel_rfl⟩
instance : TOne Tryd.prog 200 := ⟨⟨_, Tryd.underlying200, rfl⟩⟩
instance : TZ Tryd.prog 200 (.map none) := ⟨by kernel_rfl⟩
instance : TSz Tryd.prog 202 5 := ⟨by kernel_rfl⟩
instance : TBy Tryd.prog 202 56 := ⟨by kernel_rfl⟩
instance : TAgg Tryd.prog 202 5 := ⟨⟨_, Tryd.underlying202, rfl⟩, by kernel_rfl⟩
def z202 : List Value := [.slice none 0 0, .map none, .map none, .bool false, .int .i64 0]
instance : TZ Tryd.prog 202 (.agg z202.toArray) := ⟨by kernel_rfl⟩
instance : TFld Tryd.prog 202 0 0 := ⟨⟨_, _, Tryd.underlying202, rfl, rfl, by simpa using (show ¬ ((Tryd.prog.info? 31).map (·.size) = some 0) by rw [(inferInstance : TSz Tryd.prog 31 _).h]; decide), by kernel_rfl⟩⟩
instance : TFld Tryd.prog 202 1 1 := ⟨⟨_, _, Tryd.underlying202, rfl, rfl, by simpa using (show ¬ ((Tryd.prog.info? 200).map (·.size) = some 0) by rw [(inferInstance : TSz Tryd.prog 200 _).h]; decide), by kernel_rfl⟩⟩
instance : TFld Tryd.prog 202 2 2 := ⟨⟨_, _, Tryd.underlying202, rfl, rfl, by simpa using (show ¬ ((Tryd.prog.info? 200).map (·.size) = some 0) by rw [(inferInstance : TSz Tryd.prog 200 _).h]; decide), by kernel_rfl⟩⟩
instance : TFld Tryd.prog 202 3 3 := ⟨⟨_, _, Tryd.underlying202, rfl, rfl, by simpa using (show ¬ ((Tryd.prog.info? 4).map (·.size) = some 0) by rw [(inferInstance : TSz Tryd.prog 4 _).h]; decide), by kernel_rfl⟩⟩
instance : TFld Tryd.prog 202 4 4 := ⟨⟨_, _, Tryd.underlying202, rfl, rfl, by simpa using (show ¬ ((Tryd.prog.info? 3).map (·.size) = some 0) by rw [(inferInstance : TSz Tryd.prog 3 _).h]; decide), by kernel_rfl⟩⟩
instance : TU Tryd.prog 203 (.int .u64) := ⟨by kernel_rfl⟩
instance : TSz Tryd.prog 203 1 := ⟨by kernel_rfl⟩
instance : TBy Tryd.prog 203 8 := ⟨by kernel_rfl⟩
instance : TOne Tryd.prog 203 := ⟨⟨_, Tryd.underlying203, rfl⟩⟩
instance : TZ Tryd.prog 203 (.int .u64 0) := ⟨by kernel_rfl⟩
instance : TU Tryd.prog 204 (.slice 31) := ⟨by kernel_rfl⟩
instance : TSz Tryd.prog 204 1 := ⟨by kernel_rfl⟩
instance : TBy Tryd.prog 204 24 := ⟨by kernel_rfl⟩
instance : TOne Tryd.prog 204 := ⟨⟨_, Tryd.underlying204, rfl⟩⟩
instance : TZ Tryd.prog 204 (.slice none 0 0) := ⟨by kernel_rfl⟩
instance : TSz Tryd.prog 210 3 := ⟨by kernel_rfl⟩
instance : TBy Tryd.prog 210 48 := ⟨by kernel_rfl⟩
instance : TAgg Tryd.prog 210 3 := ⟨⟨_, Tryd.underlying210, rfl⟩, by kernel_rfl⟩
def z210 : List Value := [.string ⟨#[]⟩, .string ⟨#[]⟩, .string ⟨#[]⟩]
instance : TZ Tryd.prog 210 (.agg z210.toArray) := ⟨by kernel_rfl⟩
instance : TFld Tryd.prog 210 0 0 := ⟨⟨_, _, Tryd.underlying210, rfl, rfl, by simpa using (show ¬ ((Tryd.prog.info? 9).map (·.size) = some 0) by rw [(inferInstance : TSz Tryd.prog 9 _).h]; decide), by kernel_rfl⟩⟩
instance : TFld Tryd.prog 210 1 1 := ⟨⟨_, _, Tryd.underlying210, rfl, rfl, by simpa using (show ¬ ((Tryd.prog.info? 9).map (·.size) = some 0) by rw [(inferInstance : TSz Tryd.prog 9 _).h]; decide), by kernel_rfl⟩⟩
instance : TFld Tryd.prog 210 2 2 := ⟨⟨_, _, Tryd.underlying210, rfl, rfl, by simpa using (show ¬ ((Tryd.prog.info? 9).map (·.size) = some 0) by rw [(inferInstance : TSz Tryd.prog 9 _).h]; decide), by kernel_rfl⟩⟩
instance : TU Tryd.prog 222 (.slice 193) := ⟨by kernel_rfl⟩
instance : TSz Tryd.prog 222 1 := ⟨by kernel_rfl⟩
instance : TBy Tryd.prog 222 24 := ⟨by kernel_rfl⟩
instance : TOne Tryd.prog 222 := ⟨⟨_, Tryd.underlying222, rfl⟩⟩
instance : TZ Tryd.prog 222 (.slice none 0 0) := ⟨by kernel_rfl⟩
instance : TU Tryd.prog 225 (.array 8 193) := ⟨by kernel_rfl⟩
instance : TSz Tryd.prog 225 8 := ⟨by kernel_rfl⟩
instance : TBy Tryd.prog 225 64 := ⟨by kernel_rfl⟩
instance : TAgg Tryd.prog 225 8 := ⟨⟨_, Tryd.underlying225, rfl⟩, by kernel_rfl⟩
def z225 : List Value := List.replicate 8 (.int .u64 0)
instance : TZ Tryd.prog 225 (.agg z225.toArray) := ⟨by kernel_rfl⟩
def K225 : List IntKind := List.replicate 8 .u64
instance : TFlat Tryd.prog 225 K225 := ⟨by kernel_rfl, by kernel_rfl, by kernel_rfl⟩
instance : TSz Tryd.prog 228 1 := ⟨by kernel_rfl⟩
instance : TBy Tryd.prog 228 8 := ⟨by kernel_rfl⟩
instance : TOne Tryd.prog 228 := ⟨⟨_, Tryd.underlying228, rfl⟩⟩
instance : TZ Tryd.prog 228 (.nilFunc) := ⟨by kernel_rfl⟩
instance : TU Tryd.prog 240 (.pointer 225) := ⟨by kernel_rfl⟩
instance : TSz Tryd.prog 240 1 := ⟨by kernel_rfl⟩
instance : TBy Tryd.prog 240 8 := ⟨by kernel_rfl⟩
instance : TOne Tryd.prog 240 := ⟨⟨_, Tryd.underlying240, rfl⟩⟩
instance : TZ Tryd.prog 240 (.pointer none) := ⟨by kernel_rfl⟩
instance : TU Tryd.prog 241 (.array 16 193) := ⟨by kernel_rfl⟩
instance : TSz Tryd.prog 241 16 := ⟨by kernel_rfl⟩
instance : TBy Tryd.prog 241 128 := ⟨by kernel_rfl⟩
instance : TAgg Tryd.prog 241 16 := ⟨⟨_, Tryd.underlying241, rfl⟩, by kernel_rfl⟩
def z241 : List Value := List.replicate 16 (.int .u64 0)
instance : TZ Tryd.prog 241 (.agg z241.toArray) := ⟨by kernel_rfl⟩
def K241 : List IntKind := List.replicate 16 .u64
instance : TFlat Tryd.prog 241 K241 := ⟨by kernel_rfl, by kernel_rfl, by kernel_rfl⟩
instance : TU Tryd.prog 243 (.array 80 193) := ⟨by kernel_rfl⟩
instance : TSz Tryd.prog 243 80 := ⟨by kernel_rfl⟩
instance : TBy Tryd.prog 243 640 := ⟨by kernel_rfl⟩
instance : TAgg Tryd.prog 243 80 := ⟨⟨_, Tryd.underlying243, rfl⟩, by kernel_rfl⟩
def z243 : List Value := List.replicate 80 (.int .u64 0)
instance : TZ Tryd.prog 243 (.agg z243.toArray) := ⟨by kernel_rfl⟩
def K243 : List IntKind := List.replicate 80 .u64
instance : TFlat Tryd.prog 243 K243 := ⟨by kernel_rfl, by kernel_rfl, by kernel_rfl⟩
instance : TU Tryd.prog 246 (.pointer 241) := ⟨by kernel_rfl⟩
instance : TSz Tryd.prog 246 1 := ⟨by kernel_rfl⟩
instance : TBy Tryd.prog 246 8 := ⟨by kernel_rfl⟩
instance : TOne Tryd.prog 246 := ⟨⟨_, Tryd.underlying246, rfl⟩⟩
instance : TZ Tryd.prog 246 (.pointer none) := ⟨by kernel_rfl⟩
instance : TU Tryd.prog 249 (.int .u32) := ⟨by kernel_rfl⟩
instance : TSz Tryd.prog 249 1 := ⟨by kernel_rfl⟩
instance : TBy Tryd.prog 249 4 := ⟨by kernel_rfl⟩
instance : TOne Tryd.prog 249 := ⟨⟨_, Tryd.underlying249, rfl⟩⟩
instance : TZ Tryd.prog 249 (.int .u32 0) := ⟨by kernel_rfl⟩
instance : TFn Tryd.prog 5 := ⟨⟨_, Tryd.func5, by kernel_rfl, rfl⟩⟩
instance : TFn Tryd.prog 15 := ⟨⟨_, Tryd.func15, by kernel_rfl, rfl⟩⟩
instance : TFn Tryd.prog 17 := ⟨⟨_, Tryd.func17, by kernel_rfl, rfl⟩⟩
instance : TFn Tryd.prog 18 := ⟨⟨_, Tryd.func18, by kernel_rfl, rfl⟩⟩
instance : TFn Tryd.prog 22 := ⟨⟨_, Tryd.func22, by kernel_rfl, rfl⟩⟩
instance : TFn Tryd.prog 23 := ⟨⟨_, Tryd.func23, by kernel_rfl, rfl⟩⟩
instance : TFn Tryd.prog 24 := ⟨⟨_, Tryd.func24, by kernel_rfl, rfl⟩⟩
instance : TFn Tryd.prog 25 := ⟨⟨_, Tryd.func25, by kernel_rfl, rfl⟩⟩
instance : TFn Tryd.prog 26 := ⟨⟨_, Tryd.func26, by kernel_rfl, rfl⟩⟩
instance : TFn Tryd.prog 27 := ⟨⟨_, Tryd.func27, by kernel_rfl, rfl⟩⟩
instance : TFn Tryd.prog 28 := ⟨⟨_, Tryd.func28, by kernel_rfl, rfl⟩⟩
instance : TFn Tryd.prog 29 := ⟨⟨_, Tryd.func29, by kernel_rfl, rfl⟩⟩
instance : TFn Tryd.prog 30 := ⟨⟨_, Tryd.func30, by kernel_rfl, rfl⟩⟩
instance : TFn Tryd.prog 39 := ⟨⟨_, Tryd.func39, by kernel_rfl, rfl⟩⟩
instance : TFn Tryd.prog 47 := ⟨⟨_, Tryd.func47, by kernel_rfl, rfl⟩⟩
instance : TFn Tryd.prog 48 := ⟨⟨_, Tryd.func48, by kernel_rfl, rfl⟩⟩
instance : TFn Tryd.prog 49 := ⟨⟨_, Tryd.func49, by kernel_rfl, rfl⟩⟩
instance : TFn Tryd.prog 53 := ⟨⟨_, Tryd.func53, by kernel_rfl, rfl⟩⟩
instance : TFn Tryd.prog 54 := ⟨⟨_, Tryd.func54, by kernel_rfl, rfl⟩⟩
instance : TFn Tryd.prog 55 := ⟨⟨_, Tryd.func55, by kernel_rfl, rfl⟩⟩
instance : TFn Tryd.prog 56 := ⟨⟨_, Tryd.func56, by kernel_rfl, rfl⟩⟩
instance : TFn Tryd.prog 57 := ⟨⟨_, Tryd.func57, by kernel_rfl, rfl⟩⟩
instance : TFn Tryd.prog 58 := ⟨⟨_, Tryd.func58, by kernel_rfl, rfl⟩⟩
instance : TFn Tryd.prog 59 := ⟨⟨_, Tryd.func59, by kernel_rfl, rfl⟩⟩
instance : TFn Tryd.prog 60 := ⟨⟨_, Tryd.func60, by kernel_rfl, rfl⟩⟩
instance : TFn Tryd.prog 61 := ⟨⟨_, Tryd.func61, by kernel_rfl, rfl⟩⟩
instance : TFn Tryd.prog 62 := ⟨⟨_, Tryd.func62, by kernel_rfl, rfl⟩⟩
instance : TFn Tryd.prog 63 := ⟨⟨_, Tryd.func63, by kernel_rfl, rfl⟩⟩
instance : TFn Tryd.prog 64 := ⟨⟨_, Tryd.func64, by kernel_rfl, rfl⟩⟩
instance : TFn Tryd.prog 66 := ⟨⟨_, Tryd.func66, by kernel_rfl, rfl⟩⟩
instance : TFn Tryd.prog 69 := ⟨⟨_, Tryd.func69, by kernel_rfl, rfl⟩⟩
instance : TFn Tryd.prog 71 := ⟨⟨_, Tryd.func71, by kernel_rfl, rfl⟩⟩
instance : TFn Tryd.prog 72 := ⟨⟨_, Tryd.func72, by kernel_rfl, rfl⟩⟩
instance : TFn Tryd.prog 73 := ⟨⟨_, Tryd.func73, by kernel_rfl, rfl⟩⟩
instance : TFn Tryd.prog 74 := ⟨⟨_, Tryd.func74, by kernel_rfl, rfl⟩⟩
instance : TFn Tryd.prog 75 := ⟨⟨_, Tryd.func75, by kernel_rfl, rfl⟩⟩
instance : TFn Tryd.prog 76 := ⟨⟨_, Tryd.func76, by kernel_rfl, rfl⟩⟩
instance : TFn Tryd.prog 77 := ⟨⟨_, Tryd.func77, by kernel_rfl, rfl⟩⟩
instance : TFn Tryd.prog 78 := ⟨⟨_, Tryd.func78, by kernel_rfl, rfl⟩⟩
instance : TFn Tryd.prog 79 := ⟨⟨_, Tryd.func79, by kernel_rfl, rfl⟩⟩
instance : TFn Tryd.prog 80 := ⟨⟨_, Tryd.func80, by kernel_rfl, rfl⟩⟩
instance : TFn Tryd.prog 81 := ⟨⟨_, Tryd.func81, by kernel_rfl, rfl⟩⟩
instance : TFn Tryd.prog 82 := ⟨⟨_, Tryd.func82, by kernel_rfl, rfl⟩⟩
instance : TFn Tryd.prog 86 := ⟨⟨_, Tryd.func86, by kernel_rfl, rfl⟩⟩
instance : TFn Tryd.prog 92 := ⟨⟨_, Tryd.func92, by kernel_rfl, rfl⟩⟩
instance : TFn Tryd.prog 93 := ⟨⟨_, Tryd.func93, by kernel_rfl, rfl⟩⟩
instance : TFn Tryd.prog 94 := ⟨⟨_, Tryd.func94, by kernel_rfl, rfl⟩⟩
instance : TFn Tryd.prog 95 := ⟨⟨_, Tryd.func95, by kernel_rfl, rfl⟩⟩
instance : TFn Tryd.prog 96 := ⟨⟨_, Tryd.func96, by kernel_rfl, rfl⟩⟩
instance : TFn Tryd.prog 97 := ⟨⟨_, Tryd.func97, by kernel_rfl, rfl⟩⟩
instance : TFn Tryd.prog 98 := ⟨⟨_, Tryd.func98, by kernel_rfl, rfl⟩⟩
instance : TFn Tryd.prog 99 := ⟨⟨_, Tryd.func99, by kernel_rfl, rfl⟩⟩
instance : TFn Tryd.prog 102 := ⟨⟨_, Tryd.func102, by kernel_rfl, rfl⟩⟩
instance : TFn Tryd.prog 105 := ⟨⟨_, Tryd.func105, by kernel_rfl, rfl⟩⟩
instance : TFn Tryd.prog 106 := ⟨⟨_, Tryd.func106, by kernel_rfl, rfl⟩⟩
instance : TFn Tryd.prog 107 := ⟨⟨_, Tryd.func107, by kernel_rfl, rfl⟩⟩
instance : TFn Tryd.prog 109 := ⟨⟨_, Tryd.func109, by kernel_rfl, rfl⟩⟩
instance : TFn Tryd.prog 110 := ⟨⟨_, Tryd.func110, by kernel_rfl, rfl⟩⟩
instance : TFn Tryd.prog 111 := ⟨⟨_, Tryd.func111, by kernel_rfl, rfl⟩⟩
instance : TFn Tryd.prog 114 := ⟨⟨_, Tryd.func114, by kernel_rfl, rfl⟩⟩
instance : TFn Tryd.prog 115 := ⟨⟨_, Tryd.func115, by kernel_rfl, rfl⟩⟩
instance : TFn Tryd.prog 116 := ⟨⟨_, Tryd.func116, by kernel_rfl, rfl⟩⟩
instance : TFn Tryd.prog 117 := ⟨⟨_, Tryd.func117, by kernel_rfl, rfl⟩⟩
instance : TFn Tryd.prog 121 := ⟨⟨_, Tryd.func121, by kernel_rfl, rfl⟩⟩
instance : TFn Tryd.prog 122 := ⟨⟨_, Tryd.func122, by kernel_rfl, rfl⟩⟩
instance : TFn Tryd.prog 124 := ⟨⟨_, Tryd.func124, by kernel_rfl, rfl⟩⟩
instance : TFn Tryd.prog 125 := ⟨⟨_, Tryd.func125, by kernel_rfl, rfl⟩⟩
instance : TFn Tryd.prog 132 := ⟨⟨_, Tryd.func132, by kernel_rfl, rfl⟩⟩
instance : TFn Tryd.prog 133 := ⟨⟨_, Tryd.func133, by kernel_rfl, rfl⟩⟩
instance : TFn Tryd.prog 134 := ⟨⟨_, Tryd.func134, by kernel_rfl, rfl⟩⟩
instance : TFn Tryd.prog 135 := ⟨⟨_, Tryd.func135, by kernel_rfl, rfl⟩⟩
instance : TFn Tryd.prog 136 := ⟨⟨_, Tryd.func136, by kernel_rfl, rfl⟩⟩
instance : TFn Tryd.prog 137 := ⟨⟨_, Tryd.func137, by kernel_rfl, rfl⟩⟩
instance : TFn Tryd.prog 138 := ⟨⟨_, Tryd.func138, by kernel_rfl, rfl⟩⟩
instance : TFn Tryd.prog 139 := ⟨⟨_, Tryd.func139, by kernel_rfl, rfl⟩⟩
instance : TFn Tryd.prog 140 := ⟨⟨_, Tryd.func140, by kernel_rfl, rfl⟩⟩
instance : TFn Tryd.prog 143 := ⟨⟨_, Tryd.func143, by kernel_rfl, rfl⟩⟩
instance : TFn Tryd.prog 144 := ⟨⟨_, Tryd.func144, by kernel_rfl, rfl⟩⟩
instance : TFn Tryd.prog 145 := ⟨⟨_, Tryd.func145, by kernel_rfl, rfl⟩⟩
instance : TFn Tryd.prog 146 := ⟨⟨_, Tryd.func146, by kernel_rfl, rfl⟩⟩
instance : TFn Tryd.prog 147 := ⟨⟨_, Tryd.func147, by kernel_rfl, rfl⟩⟩
instance : TFn Tryd.prog 148 := ⟨⟨_, Tryd.func148, by kernel_rfl, rfl⟩⟩
instance : TFn Tryd.prog 149 := ⟨⟨_, Tryd.func149, by kernel_rfl, rfl⟩⟩
instance : TFn Tryd.prog 151 := ⟨⟨_, Tryd.func151, by kernel_rfl, rfl⟩⟩
instance : TFn Tryd.prog 152 := ⟨⟨_, Tryd.func152, by kernel_rfl, rfl⟩⟩
instance : TFn Tryd.prog 154 := ⟨⟨_, Tryd.func154, by kernel_rfl, rfl⟩⟩
instance : TFn Tryd.prog 171 := ⟨⟨_, Tryd.func171, by kernel_rfl, rfl⟩⟩
instance : TFn Tryd.prog 172 := ⟨⟨_, Tryd.func172, by kernel_rfl, rfl⟩⟩
instance : TFn Tryd.prog 173 := ⟨⟨_, Tryd.func173, by kernel_rfl, rfl⟩⟩
end Go.Proofs.YtfngacepjcdlnaaDoor
