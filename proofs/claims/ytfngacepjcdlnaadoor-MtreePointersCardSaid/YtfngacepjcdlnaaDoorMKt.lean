/- The facts on the types and the functions of this seat, printed by a program of this repo (wip/tools/types.py). -/
import Derived.Test.YtfngacepjcdlnaaDoorMKa
import Derived.Test.YtfngacepjcdlnaaDoorProg
import Derived.KernelRfl
set_option linter.unusedVariables false
namespace Go.Proofs.YtfngacepjcdlnaaDoor
open Go Go.Kx

-- 1: func()
instance : TSz Tryd.prog 1 1 := ⟨by kernel_rfl⟩
instance : TBy Tryd.prog 1 8 := ⟨by kernel_rfl⟩
instance : TOne Tryd.prog 1 := ⟨⟨_, Tryd.underlying1, rfl⟩⟩
instance : TZ Tryd.prog 1 (.nilFunc) := ⟨by kernel_rfl⟩
-- 2: int64
instance : TU Tryd.prog 2 (.int .i64) := ⟨by kernel_rfl⟩
instance : TSz Tryd.prog 2 1 := ⟨by kernel_rfl⟩
instance : TBy Tryd.prog 2 8 := ⟨by kernel_rfl⟩
instance : TOne Tryd.prog 2 := ⟨⟨_, Tryd.underlying2, rfl⟩⟩
instance : TZ Tryd.prog 2 (.int .i64 0) := ⟨by kernel_rfl⟩
-- 3: int
instance : TU Tryd.prog 3 (.int .i64) := ⟨by kernel_rfl⟩
instance : TSz Tryd.prog 3 1 := ⟨by kernel_rfl⟩
instance : TBy Tryd.prog 3 8 := ⟨by kernel_rfl⟩
instance : TOne Tryd.prog 3 := ⟨⟨_, Tryd.underlying3, rfl⟩⟩
instance : TZ Tryd.prog 3 (.int .i64 0) := ⟨by kernel_rfl⟩
-- 4: bool
instance : TU Tryd.prog 4 (.bool) := ⟨by kernel_rfl⟩
instance : TSz Tryd.prog 4 1 := ⟨by kernel_rfl⟩
instance : TBy Tryd.prog 4 1 := ⟨by kernel_rfl⟩
instance : TOne Tryd.prog 4 := ⟨⟨_, Tryd.underlying4, rfl⟩⟩
instance : TZ Tryd.prog 4 (.bool false) := ⟨by kernel_rfl⟩
-- 5: uint8
instance : TU Tryd.prog 5 (.int .u8) := ⟨by kernel_rfl⟩
instance : TSz Tryd.prog 5 1 := ⟨by kernel_rfl⟩
instance : TBy Tryd.prog 5 1 := ⟨by kernel_rfl⟩
instance : TOne Tryd.prog 5 := ⟨⟨_, Tryd.underlying5, rfl⟩⟩
instance : TZ Tryd.prog 5 (.int .u8 0) := ⟨by kernel_rfl⟩
-- 9: string
instance : TU Tryd.prog 9 (.string) := ⟨by kernel_rfl⟩
instance : TSz Tryd.prog 9 1 := ⟨by kernel_rfl⟩
instance : TBy Tryd.prog 9 16 := ⟨by kernel_rfl⟩
instance : TOne Tryd.prog 9 := ⟨⟨_, Tryd.underlying9, rfl⟩⟩
instance : TZ Tryd.prog 9 (.string ⟨#[]⟩) := ⟨by kernel_rfl⟩
-- 12: uintptr
instance : TU Tryd.prog 12 (.int .u64) := ⟨by kernel_rfl⟩
instance : TSz Tryd.prog 12 1 := ⟨by kernel_rfl⟩
instance : TBy Tryd.prog 12 8 := ⟨by kernel_rfl⟩
instance : TOne Tryd.prog 12 := ⟨⟨_, Tryd.underlying12, rfl⟩⟩
instance : TZ Tryd.prog 12 (.int .u64 0) := ⟨by kernel_rfl⟩
-- 13: struct { msg string; addr uintptr }
instance : TSz Tryd.prog 13 2 := ⟨by kernel_rfl⟩
instance : TBy Tryd.prog 13 24 := ⟨by kernel_rfl⟩
instance : TAgg Tryd.prog 13 2 := ⟨⟨_, Tryd.underlying13, rfl⟩, by kernel_rfl⟩
def z13 : List Value := [.string ⟨#[]⟩, .int .u64 0]
instance : TZ Tryd.prog 13 (.agg z13.toArray) := ⟨by kernel_rfl⟩
instance : TFld Tryd.prog 13 0 0 := ⟨⟨_, _, Tryd.underlying13, rfl, rfl, by simpa using (show ¬ ((Tryd.prog.info? 9).map (·.size) = some 0) by rw [(inferInstance : TSz Tryd.prog 9 _).h]; decide), by kernel_rfl⟩⟩
instance : TFld Tryd.prog 13 1 1 := ⟨⟨_, _, Tryd.underlying13, rfl, rfl, by simpa using (show ¬ ((Tryd.prog.info? 12).map (·.size) = some 0) by rw [(inferInstance : TSz Tryd.prog 12 _).h]; decide), by kernel_rfl⟩⟩
-- 20: interface {}
instance : TSz Tryd.prog 20 1 := ⟨by kernel_rfl⟩
instance : TBy Tryd.prog 20 16 := ⟨by kernel_rfl⟩
instance : TOne Tryd.prog 20 := ⟨⟨_, Tryd.underlying20, rfl⟩⟩
instance : TZ Tryd.prog 20 (.nilIface) := ⟨by kernel_rfl⟩
-- 21: int32
instance : TU Tryd.prog 21 (.int .i32) := ⟨by kernel_rfl⟩
instance : TSz Tryd.prog 21 1 := ⟨by kernel_rfl⟩
instance : TBy Tryd.prog 21 4 := ⟨by kernel_rfl⟩
instance : TOne Tryd.prog 21 := ⟨⟨_, Tryd.underlying21, rfl⟩⟩
instance : TZ Tryd.prog 21 (.int .i32 0) := ⟨by kernel_rfl⟩
-- 22: [16]uint8
instance : TU Tryd.prog 22 (.array 16 5) := ⟨by kernel_rfl⟩
instance : TSz Tryd.prog 22 16 := ⟨by kernel_rfl⟩
instance : TBy Tryd.prog 22 16 := ⟨by kernel_rfl⟩
instance : TAgg Tryd.prog 22 16 := ⟨⟨_, Tryd.underlying22, rfl⟩, by kernel_rfl⟩
def z22 : List Value := List.replicate 16 (.int .u8 0)
instance : TZ Tryd.prog 22 (.agg z22.toArray) := ⟨by kernel_rfl⟩
def K22 : List IntKind := List.replicate 16 .u8
instance : TFlat Tryd.prog 22 K22 := ⟨by kernel_rfl, by kernel_rfl, by kernel_rfl⟩
-- 23: [2][16]uint8
instance : TU Tryd.prog 23 (.array 2 22) := ⟨by kernel_rfl⟩
instance : TSz Tryd.prog 23 32 := ⟨by kernel_rfl⟩
instance : TBy Tryd.prog 23 32 := ⟨by kernel_rfl⟩
instance : TAgg Tryd.prog 23 32 := ⟨⟨_, Tryd.underlying23, rfl⟩, by kernel_rfl⟩
def z23 : List Value := List.replicate 32 (.int .u8 0)
instance : TZ Tryd.prog 23 (.agg z23.toArray) := ⟨by kernel_rfl⟩
def K23 : List IntKind := List.replicate 32 .u8
instance : TFlat Tryd.prog 23 K23 := ⟨by kernel_rfl, by kernel_rfl, by kernel_rfl⟩
-- 24: func() bool
instance : TSz Tryd.prog 24 1 := ⟨by kernel_rfl⟩
instance : TBy Tryd.prog 24 8 := ⟨by kernel_rfl⟩
instance : TOne Tryd.prog 24 := ⟨⟨_, Tryd.underlying24, rfl⟩⟩
instance : TZ Tryd.prog 24 (.nilFunc) := ⟨by kernel_rfl⟩
-- 25: *keyring.Ring
instance : TU Tryd.prog 25 (.pointer 125) := ⟨by kernel_rfl⟩
instance : TSz Tryd.prog 25 1 := ⟨by kernel_rfl⟩
instance : TBy Tryd.prog 25 8 := ⟨by kernel_rfl⟩
instance : TOne Tryd.prog 25 := ⟨⟨_, Tryd.underlying25, rfl⟩⟩
instance : TZ Tryd.prog 25 (.pointer none) := ⟨by kernel_rfl⟩
-- 26: api.Errno
instance : TU Tryd.prog 26 (.int .i64) := ⟨by kernel_rfl⟩
instance : TSz Tryd.prog 26 1 := ⟨by kernel_rfl⟩
instance : TBy Tryd.prog 26 8 := ⟨by kernel_rfl⟩
instance : TOne Tryd.prog 26 := ⟨⟨_, Tryd.underlying26, rfl⟩⟩
instance : TZ Tryd.prog 26 (.int .i64 0) := ⟨by kernel_rfl⟩
-- 28: func(*oracle.Oracle) (*keyring.Ring, api.Errno)
instance : TSz Tryd.prog 28 1 := ⟨by kernel_rfl⟩
instance : TBy Tryd.prog 28 8 := ⟨by kernel_rfl⟩
instance : TOne Tryd.prog 28 := ⟨⟨_, Tryd.underlying28, rfl⟩⟩
instance : TZ Tryd.prog 28 (.nilFunc) := ⟨by kernel_rfl⟩
-- 29: *oracle.Oracle
instance : TU Tryd.prog 29 (.pointer 129) := ⟨by kernel_rfl⟩
instance : TSz Tryd.prog 29 1 := ⟨by kernel_rfl⟩
instance : TBy Tryd.prog 29 8 := ⟨by kernel_rfl⟩
instance : TOne Tryd.prog 29 := ⟨⟨_, Tryd.underlying29, rfl⟩⟩
instance : TZ Tryd.prog 29 (.pointer none) := ⟨by kernel_rfl⟩
-- 30: func() *oracle.Oracle
instance : TSz Tryd.prog 30 1 := ⟨by kernel_rfl⟩
instance : TBy Tryd.prog 30 8 := ⟨by kernel_rfl⟩
instance : TOne Tryd.prog 30 := ⟨⟨_, Tryd.underlying30, rfl⟩⟩
instance : TZ Tryd.prog 30 (.nilFunc) := ⟨by kernel_rfl⟩
-- 31: []uint8
instance : TU Tryd.prog 31 (.slice 5) := ⟨by kernel_rfl⟩
instance : TSz Tryd.prog 31 1 := ⟨by kernel_rfl⟩
instance : TBy Tryd.prog 31 24 := ⟨by kernel_rfl⟩
instance : TOne Tryd.prog 31 := ⟨⟨_, Tryd.underlying31, rfl⟩⟩
instance : TZ Tryd.prog 31 (.slice none 0 0) := ⟨by kernel_rfl⟩
-- 33: func([]uint8) ([16]uint8, api.Errno)
instance : TSz Tryd.prog 33 1 := ⟨by kernel_rfl⟩
instance : TBy Tryd.prog 33 8 := ⟨by kernel_rfl⟩
instance : TOne Tryd.prog 33 := ⟨⟨_, Tryd.underlying33, rfl⟩⟩
instance : TZ Tryd.prog 33 (.nilFunc) := ⟨by kernel_rfl⟩
-- 34: struct { Unit int; Key [16]uint8 }
instance : TSz Tryd.prog 34 17 := ⟨by kernel_rfl⟩
instance : TBy Tryd.prog 34 24 := ⟨by kernel_rfl⟩
instance : TAgg Tryd.prog 34 17 := ⟨⟨_, Tryd.underlying34, rfl⟩, by kernel_rfl⟩
def z34 : List Value := [.int .i64 0] ++ List.replicate 16 (.int .u8 0)
instance : TZ Tryd.prog 34 (.agg z34.toArray) := ⟨by kernel_rfl⟩
def K34 : List IntKind := [.i64] ++ List.replicate 16 .u8
instance : TFlat Tryd.prog 34 K34 := ⟨by kernel_rfl, by kernel_rfl, by kernel_rfl⟩
instance : TFld Tryd.prog 34 0 0 := ⟨⟨_, _, Tryd.underlying34, rfl, rfl, by simpa using (show ¬ ((Tryd.prog.info? 3).map (·.size) = some 0) by rw [(inferInstance : TSz Tryd.prog 3 _).h]; decide), by kernel_rfl⟩⟩
instance : TFld Tryd.prog 34 1 1 := ⟨⟨_, _, Tryd.underlying34, rfl, rfl, by simpa using (show ¬ ((Tryd.prog.info? 22).map (·.size) = some 0) by rw [(inferInstance : TSz Tryd.prog 22 _).h]; decide), by kernel_rfl⟩⟩
-- 35: api.Policy
instance : TSz Tryd.prog 35 17 := ⟨by kernel_rfl⟩
instance : TBy Tryd.prog 35 24 := ⟨by kernel_rfl⟩
instance : TAgg Tryd.prog 35 17 := ⟨⟨_, Tryd.underlying35, rfl⟩, by kernel_rfl⟩
def z35 : List Value := [.int .i64 0] ++ List.replicate 16 (.int .u8 0)
instance : TZ Tryd.prog 35 (.agg z35.toArray) := ⟨by kernel_rfl⟩
def K35 : List IntKind := [.i64] ++ List.replicate 16 .u8
instance : TFlat Tryd.prog 35 K35 := ⟨by kernel_rfl, by kernel_rfl, by kernel_rfl⟩
instance : TFld Tryd.prog 35 0 0 := ⟨⟨_, _, Tryd.underlying35, rfl, rfl, by simpa using (show ¬ ((Tryd.prog.info? 3).map (·.size) = some 0) by rw [(inferInstance : TSz Tryd.prog 3 _).h]; decide), by kernel_rfl⟩⟩
instance : TFld Tryd.prog 35 1 1 := ⟨⟨_, _, Tryd.underlying35, rfl, rfl, by simpa using (show ¬ ((Tryd.prog.info? 22).map (·.size) = some 0) by rw [(inferInstance : TSz Tryd.prog 22 _).h]; decide), by kernel_rfl⟩⟩
-- 36: [32]uint8
instance : TU Tryd.prog 36 (.array 32 5) := ⟨by kernel_rfl⟩
instance : TSz Tryd.prog 36 32 := ⟨by kernel_rfl⟩
instance : TBy Tryd.prog 36 32 := ⟨by kernel_rfl⟩
instance : TAgg Tryd.prog 36 32 := ⟨⟨_, Tryd.underlying36, rfl⟩, by kernel_rfl⟩
def z36 : List Value := List.replicate 32 (.int .u8 0)
instance : TZ Tryd.prog 36 (.agg z36.toArray) := ⟨by kernel_rfl⟩
def K36 : List IntKind := List.replicate 32 .u8
instance : TFlat Tryd.prog 36 K36 := ⟨by kernel_rfl, by kernel_rfl, by kernel_rfl⟩
-- 37: struct { Sector int; Mac [32]uint8 }
instance : TSz Tryd.prog 37 33 := ⟨by kernel_rfl⟩
instance : TBy Tryd.prog 37 40 := ⟨by kernel_rfl⟩
instance : TAgg Tryd.prog 37 33 := ⟨⟨_, Tryd.underlying37, rfl⟩, by kernel_rfl⟩
def z37 : List Value := [.int .i64 0] ++ List.replicate 32 (.int .u8 0)
instance : TZ Tryd.prog 37 (.agg z37.toArray) := ⟨by kernel_rfl⟩
def K37 : List IntKind := [.i64] ++ List.replicate 32 .u8
instance : TFlat Tryd.prog 37 K37 := ⟨by kernel_rfl, by kernel_rfl, by kernel_rfl⟩
instance : TFld Tryd.prog 37 0 0 := ⟨⟨_, _, Tryd.underlying37, rfl, rfl, by simpa using (show ¬ ((Tryd.prog.info? 3).map (·.size) = some 0) by rw [(inferInstance : TSz Tryd.prog 3 _).h]; decide), by kernel_rfl⟩⟩
instance : TFld Tryd.prog 37 1 1 := ⟨⟨_, _, Tryd.underlying37, rfl, rfl, by simpa using (show ¬ ((Tryd.prog.info? 36).map (·.size) = some 0) by rw [(inferInstance : TSz Tryd.prog 36 _).h]; decide), by kernel_rfl⟩⟩
-- 38: api.Ptr
instance : TSz Tryd.prog 38 33 := ⟨by kernel_rfl⟩
instance : TBy Tryd.prog 38 40 := ⟨by kernel_rfl⟩
instance : TAgg Tryd.prog 38 33 := ⟨⟨_, Tryd.underlying38, rfl⟩, by kernel_rfl⟩
def z38 : List Value := [.int .i64 0] ++ List.replicate 32 (.int .u8 0)
instance : TZ Tryd.prog 38 (.agg z38.toArray) := ⟨by kernel_rfl⟩
def K38 : List IntKind := [.i64] ++ List.replicate 32 .u8
instance : TFlat Tryd.prog 38 K38 := ⟨by kernel_rfl, by kernel_rfl, by kernel_rfl⟩
instance : TFld Tryd.prog 38 0 0 := ⟨⟨_, _, Tryd.underlying38, rfl, rfl, by simpa using (show ¬ ((Tryd.prog.info? 3).map (·.size) = some 0) by rw [(inferInstance : TSz Tryd.prog 3 _).h]; decide), by kernel_rfl⟩⟩
instance : TFld Tryd.prog 38 1 1 := ⟨⟨_, _, Tryd.underlying38, rfl, rfl, by simpa using (show ¬ ((Tryd.prog.info? 36).map (·.size) = some 0) by rw [(inferInstance : TSz Tryd.prog 36 _).h]; decide), by kernel_rfl⟩⟩
-- 39: struct { Root api.Ptr; Deep int }
instance : TSz Tryd.prog 39 34 := ⟨by kernel_rfl⟩
instance : TBy Tryd.prog 39 48 := ⟨by kernel_rfl⟩
instance : TAgg Tryd.prog 39 34 := ⟨⟨_, Tryd.underlying39, rfl⟩, by kernel_rfl⟩
def z39 : List Value := [.int .i64 0] ++ List.replicate 32 (.int .u8 0) ++ [.int .i64 0]
instance : TZ Tryd.prog 39 (.agg z39.toArray) := ⟨by kernel_rfl⟩
def K39 : List IntKind := [.i64] ++ List.replicate 32 .u8 ++ [.i64]
instance : TFlat Tryd.prog 39 K39 := ⟨by kernel_rfl, by kernel_rfl, by kernel_rfl⟩
instance : TFld Tryd.prog 39 0 0 := ⟨⟨_, _, Tryd.underlying39, rfl, rfl, by simpa using (show ¬ ((Tryd.prog.info? 38).map (·.size) = some 0) by rw [(inferInstance : TSz Tryd.prog 38 _).h]; decide), by kernel_rfl⟩⟩
instance : TFld Tryd.prog 39 1 33 := ⟨⟨_, _, Tryd.underlying39, rfl, rfl, by simpa using (show ¬ ((Tryd.prog.info? 3).map (·.size) = some 0) by rw [(inferInstance : TSz Tryd.prog 3 _).h]; decide), by kernel_rfl⟩⟩
-- 40: api.Tree
instance : TSz Tryd.prog 40 34 := ⟨by kernel_rfl⟩
instance : TBy Tryd.prog 40 48 := ⟨by kernel_rfl⟩
instance : TAgg Tryd.prog 40 34 := ⟨⟨_, Tryd.underlying40, rfl⟩, by kernel_rfl⟩
def z40 : List Value := [.int .i64 0] ++ List.replicate 32 (.int .u8 0) ++ [.int .i64 0]
instance : TZ Tryd.prog 40 (.agg z40.toArray) := ⟨by kernel_rfl⟩
def K40 : List IntKind := [.i64] ++ List.replicate 32 .u8 ++ [.i64]
instance : TFlat Tryd.prog 40 K40 := ⟨by kernel_rfl, by kernel_rfl, by kernel_rfl⟩
instance : TFld Tryd.prog 40 0 0 := ⟨⟨_, _, Tryd.underlying40, rfl, rfl, by simpa using (show ¬ ((Tryd.prog.info? 38).map (·.size) = some 0) by rw [(inferInstance : TSz Tryd.prog 38 _).h]; decide), by kernel_rfl⟩⟩
instance : TFld Tryd.prog 40 1 33 := ⟨⟨_, _, Tryd.underlying40, rfl, rfl, by simpa using (show ¬ ((Tryd.prog.info? 3).map (·.size) = some 0) by rw [(inferInstance : TSz Tryd.prog 3 _).h]; decide), by kernel_rfl⟩⟩
-- 41: struct { Kind int; Mode int; Links int; Size int; Time int; Nonce [16]uint8; api.Policy; api.Tree }
instance : TSz Tryd.prog 41 72 := ⟨by kernel_rfl⟩
instance : TBy Tryd.prog 41 128 := ⟨by kernel_rfl⟩
instance : TAgg Tryd.prog 41 72 := ⟨⟨_, Tryd.underlying41, rfl⟩, by kernel_rfl⟩
def z41 : List Value := [.int .i64 0, .int .i64 0, .int .i64 0, .int .i64 0, .int .i64 0] ++ List.replicate 16 (.int .u8 0) ++ [.int .i64 0] ++ List.replicate 16 (.int .u8 0) ++ [.int .i64 0] ++ List.replicate 32 (.int .u8 0) ++ [.int .i64 0]
instance : TZ Tryd.prog 41 (.agg z41.toArray) := ⟨by kernel_rfl⟩
def K41 : List IntKind := [.i64, .i64, .i64, .i64, .i64] ++ List.replicate 16 .u8 ++ [.i64] ++ List.replicate 16 .u8 ++ [.i64] ++ List.replicate 32 .u8 ++ [.i64]
instance : TFlat Tryd.prog 41 K41 := ⟨by kernel_rfl, by kernel_rfl, by kernel_rfl⟩
instance : TFld Tryd.prog 41 0 0 := ⟨⟨_, _, Tryd.underlying41, rfl, rfl, by simpa using (show ¬ ((Tryd.prog.info? 3).map (·.size) = some 0) by rw [(inferInstance : TSz Tryd.prog 3 _).h]; decide), by kernel_rfl⟩⟩
instance : TFld Tryd.prog 41 1 1 := ⟨⟨_, _, Tryd.underlying41, rfl, rfl, by simpa using (show ¬ ((Tryd.prog.info? 3).map (·.size) = some 0) by rw [(inferInstance : TSz Tryd.prog 3 _).h]; decide), by kernel_rfl⟩⟩
instance : TFld Tryd.prog 41 2 2 := ⟨⟨_, _, Tryd.underlying41, rfl, rfl, by simpa using (show ¬ ((Tryd.prog.info? 3).map (·.size) = some 0) by rw [(inferInstance : TSz Tryd.prog 3 _).h]; decide), by kernel_rfl⟩⟩
instance : TFld Tryd.prog 41 3 3 := ⟨⟨_, _, Tryd.underlying41, rfl, rfl, by simpa using (show ¬ ((Tryd.prog.info? 3).map (·.size) = some 0) by rw [(inferInstance : TSz Tryd.prog 3 _).h]; decide), by kernel_rfl⟩⟩
instance : TFld Tryd.prog 41 4 4 := ⟨⟨_, _, Tryd.underlying41, rfl, rfl, by simpa using (show ¬ ((Tryd.prog.info? 3).map (·.size) = some 0) by rw [(inferInstance : TSz Tryd.prog 3 _).h]; decide), by kernel_rfl⟩⟩
instance : TFld Tryd.prog 41 5 5 := ⟨⟨_, _, Tryd.underlying41, rfl, rfl, by simpa using (show ¬ ((Tryd.prog.info? 22).map (·.size) = some 0) by rw [(inferInstance : TSz Tryd.prog 22 _).h]; decide), by kernel_rfl⟩⟩
instance : TFld Tryd.prog 41 6 21 := ⟨⟨_, _, Tryd.underlying41, rfl, rfl, by simpa using (show ¬ ((Tryd.prog.info? 35).map (·.size) = some 0) by rw [(inferInstance : TSz Tryd.prog 35 _).h]; decide), by kernel_rfl⟩⟩
instance : TFld Tryd.prog 41 7 38 := ⟨⟨_, _, Tryd.underlying41, rfl, rfl, by simpa using (show ¬ ((Tryd.prog.info? 40).map (·.size) = some 0) by rw [(inferInstance : TSz Tryd.prog 40 _).h]; decide), by kernel_rfl⟩⟩
-- 42: api.Inode
instance : TSz Tryd.prog 42 72 := ⟨by kernel_rfl⟩
instance : TBy Tryd.prog 42 128 := ⟨by kernel_rfl⟩
instance : TAgg Tryd.prog 42 72 := ⟨⟨_, Tryd.underlying42, rfl⟩, by kernel_rfl⟩
def z42 : List Value := [.int .i64 0, .int .i64 0, .int .i64 0, .int .i64 0, .int .i64 0] ++ List.replicate 16 (.int .u8 0) ++ [.int .i64 0] ++ List.replicate 16 (.int .u8 0) ++ [.int .i64 0] ++ List.replicate 32 (.int .u8 0) ++ [.int .i64 0]
instance : TZ Tryd.prog 42 (.agg z42.toArray) := ⟨by kernel_rfl⟩
def K42 : List IntKind := [.i64, .i64, .i64, .i64, .i64] ++ List.replicate 16 .u8 ++ [.i64] ++ List.replicate 16 .u8 ++ [.i64] ++ List.replicate 32 .u8 ++ [.i64]
instance : TFlat Tryd.prog 42 K42 := ⟨by kernel_rfl, by kernel_rfl, by kernel_rfl⟩
instance : TFld Tryd.prog 42 0 0 := ⟨⟨_, _, Tryd.underlying42, rfl, rfl, by simpa using (show ¬ ((Tryd.prog.info? 3).map (·.size) = some 0) by rw [(inferInstance : TSz Tryd.prog 3 _).h]; decide), by kernel_rfl⟩⟩
instance : TFld Tryd.prog 42 1 1 := ⟨⟨_, _, Tryd.underlying42, rfl, rfl, by simpa using (show ¬ ((Tryd.prog.info? 3).map (·.size) = some 0) by rw [(inferInstance : TSz Tryd.prog 3 _).h]; decide), by kernel_rfl⟩⟩
instance : TFld Tryd.prog 42 2 2 := ⟨⟨_, _, Tryd.underlying42, rfl, rfl, by simpa using (show ¬ ((Tryd.prog.info? 3).map (·.size) = some 0) by rw [(inferInstance : TSz Tryd.prog 3 _).h]; decide), by kernel_rfl⟩⟩
instance : TFld Tryd.prog 42 3 3 := ⟨⟨_, _, Tryd.underlying42, rfl, rfl, by simpa using (show ¬ ((Tryd.prog.info? 3).map (·.size) = some 0) by rw [(inferInstance : TSz Tryd.prog 3 _).h]; decide), by kernel_rfl⟩⟩
instance : TFld Tryd.prog 42 4 4 := ⟨⟨_, _, Tryd.underlying42, rfl, rfl, by simpa using (show ¬ ((Tryd.prog.info? 3).map (·.size) = some 0) by rw [(inferInstance : TSz Tryd.prog 3 _).h]; decide), by kernel_rfl⟩⟩
instance : TFld Tryd.prog 42 5 5 := ⟨⟨_, _, Tryd.underlying42, rfl, rfl, by simpa using (show ¬ ((Tryd.prog.info? 22).map (·.size) = some 0) by rw [(inferInstance : TSz Tryd.prog 22 _).h]; decide), by kernel_rfl⟩⟩
instance : TFld Tryd.prog 42 6 21 := ⟨⟨_, _, Tryd.underlying42, rfl, rfl, by simpa using (show ¬ ((Tryd.prog.info? 35).map (·.size) = some 0) by rw [(inferInstance : TSz Tryd.prog 35 _).h]; decide), by kernel_rfl⟩⟩
instance : TFld Tryd.prog 42 7 38 := ⟨⟨_, _, Tryd.underlying42, rfl, rfl, by simpa using (show ¬ ((Tryd.prog.info? 40).map (·.size) = some 0) by rw [(inferInstance : TSz Tryd.prog 40 _).h]; decide), by kernel_rfl⟩⟩
-- 44: func(*keyring.Ring, api.Inode) ([]uint8, api.Errno)
instance : TSz Tryd.prog 44 1 := ⟨by kernel_rfl⟩
instance : TBy Tryd.prog 44 8 := ⟨by kernel_rfl⟩
instance : TOne Tryd.prog 44 := ⟨⟨_, Tryd.underlying44, rfl⟩⟩
instance : TZ Tryd.prog 44 (.nilFunc) := ⟨by kernel_rfl⟩
-- 45: func([]uint8, uint8, []uint8, int) string
instance : TSz Tryd.prog 45 1 := ⟨by kernel_rfl⟩
instance : TBy Tryd.prog 45 8 := ⟨by kernel_rfl⟩
instance : TOne Tryd.prog 45 := ⟨⟨_, Tryd.underlying45, rfl⟩⟩
instance : TZ Tryd.prog 45 (.nilFunc) := ⟨by kernel_rfl⟩
-- 46: func([2][16]uint8, bool) bool
instance : TSz Tryd.prog 46 1 := ⟨by kernel_rfl⟩
instance : TBy Tryd.prog 46 8 := ⟨by kernel_rfl⟩
instance : TOne Tryd.prog 46 := ⟨⟨_, Tryd.underlying46, rfl⟩⟩
instance : TZ Tryd.prog 46 (.nilFunc) := ⟨by kernel_rfl⟩
-- 47: *turnkeylaw16.store
instance : TU Tryd.prog 47 (.pointer 51) := ⟨by kernel_rfl⟩
instance : TSz Tryd.prog 47 1 := ⟨by kernel_rfl⟩
instance : TBy Tryd.prog 47 8 := ⟨by kernel_rfl⟩
instance : TOne Tryd.prog 47 := ⟨⟨_, Tryd.underlying47, rfl⟩⟩
instance : TZ Tryd.prog 47 (.pointer none) := ⟨by kernel_rfl⟩
-- 48: []string
instance : TU Tryd.prog 48 (.slice 9) := ⟨by kernel_rfl⟩
instance : TSz Tryd.prog 48 1 := ⟨by kernel_rfl⟩
instance : TBy Tryd.prog 48 24 := ⟨by kernel_rfl⟩
instance : TOne Tryd.prog 48 := ⟨⟨_, Tryd.underlying48, rfl⟩⟩
instance : TZ Tryd.prog 48 (.slice none 0 0) := ⟨by kernel_rfl⟩
-- 49: []bool
instance : TU Tryd.prog 49 (.slice 4) := ⟨by kernel_rfl⟩
instance : TSz Tryd.prog 49 1 := ⟨by kernel_rfl⟩
instance : TBy Tryd.prog 49 24 := ⟨by kernel_rfl⟩
instance : TOne Tryd.prog 49 := ⟨⟨_, Tryd.underlying49, rfl⟩⟩
instance : TZ Tryd.prog 49 (.slice none 0 0) := ⟨by kernel_rfl⟩
-- 50: struct { b []string; is []bool; room int }
instance : TSz Tryd.prog 50 3 := ⟨by kernel_rfl⟩
instance : TBy Tryd.prog 50 56 := ⟨by kernel_rfl⟩
instance : TAgg Tryd.prog 50 3 := ⟨⟨_, Tryd.underlying50, rfl⟩, by kernel_rfl⟩
def z50 : List Value := [.slice none 0 0, .slice none 0 0, .int .i64 0]
instance : TZ Tryd.prog 50 (.agg z50.toArray) := ⟨by kernel_rfl⟩
instance : TFld Tryd.prog 50 0 0 := ⟨⟨_, _, Tryd.underlying50, rfl, rfl, by simpa using (show ¬ ((Tryd.prog.info? 48).map (·.size) = some 0) by rw [(inferInstance : TSz Tryd.prog 48 _).h]; decide), by kernel_rfl⟩⟩
instance : TFld Tryd.prog 50 1 1 := ⟨⟨_, _, Tryd.underlying50, rfl, rfl, by simpa using (show ¬ ((Tryd.prog.info? 49).map (·.size) = some 0) by rw [(inferInstance : TSz Tryd.prog 49 _).h]; decide), by kernel_rfl⟩⟩
instance : TFld Tryd.prog 50 2 2 := ⟨⟨_, _, Tryd.underlying50, rfl, rfl, by simpa using (show ¬ ((Tryd.prog.info? 3).map (·.size) = some 0) by rw [(inferInstance : TSz Tryd.prog 3 _).h]; decide), by kernel_rfl⟩⟩
-- 51: turnkeylaw16.store
instance : TSz Tryd.prog 51 3 := ⟨by kernel_rfl⟩
instance : TBy Tryd.prog 51 56 := ⟨by kernel_rfl⟩
instance : TAgg Tryd.prog 51 3 := ⟨⟨_, Tryd.underlying51, rfl⟩, by kernel_rfl⟩
def z51 : List Value := [.slice none 0 0, .slice none 0 0, .int .i64 0]
instance : TZ Tryd.prog 51 (.agg z51.toArray) := ⟨by kernel_rfl⟩
instance : TFld Tryd.prog 51 0 0 := ⟨⟨_, _, Tryd.underlying51, rfl, rfl, by simpa using (show ¬ ((Tryd.prog.info? 48).map (·.size) = some 0) by rw [(inferInstance : TSz Tryd.prog 48 _).h]; decide), by kernel_rfl⟩⟩
instance : TFld Tryd.prog 51 1 1 := ⟨⟨_, _, Tryd.underlying51, rfl, rfl, by simpa using (show ¬ ((Tryd.prog.info? 49).map (·.size) = some 0) by rw [(inferInstance : TSz Tryd.prog 49 _).h]; decide), by kernel_rfl⟩⟩
instance : TFld Tryd.prog 51 2 2 := ⟨⟨_, _, Tryd.underlying51, rfl, rfl, by simpa using (show ¬ ((Tryd.prog.info? 3).map (·.size) = some 0) by rw [(inferInstance : TSz Tryd.prog 3 _).h]; decide), by kernel_rfl⟩⟩
-- 52: *mtree.Grove
instance : TU Tryd.prog 52 (.pointer 171) := ⟨by kernel_rfl⟩
instance : TSz Tryd.prog 52 1 := ⟨by kernel_rfl⟩
instance : TBy Tryd.prog 52 8 := ⟨by kernel_rfl⟩
instance : TOne Tryd.prog 52 := ⟨⟨_, Tryd.underlying52, rfl⟩⟩
instance : TZ Tryd.prog 52 (.pointer none) := ⟨by kernel_rfl⟩
-- 53: func(*turnkeylaw16.store, []uint8, []uint8) *mtree.Grove
instance : TSz Tryd.prog 53 1 := ⟨by kernel_rfl⟩
instance : TBy Tryd.prog 53 8 := ⟨by kernel_rfl⟩
instance : TOne Tryd.prog 53 := ⟨⟨_, Tryd.underlying53, rfl⟩⟩
instance : TZ Tryd.prog 53 (.nilFunc) := ⟨by kernel_rfl⟩
-- 55: func(api.Tree, int, []uint8) (api.Tree, api.Errno)
instance : TSz Tryd.prog 55 1 := ⟨by kernel_rfl⟩
instance : TBy Tryd.prog 55 8 := ⟨by kernel_rfl⟩
instance : TOne Tryd.prog 55 := ⟨⟨_, Tryd.underlying55, rfl⟩⟩
instance : TZ Tryd.prog 55 (.nilFunc) := ⟨by kernel_rfl⟩
-- 56: func(uint8) []uint8
instance : TSz Tryd.prog 56 1 := ⟨by kernel_rfl⟩
instance : TBy Tryd.prog 56 8 := ⟨by kernel_rfl⟩
instance : TOne Tryd.prog 56 := ⟨⟨_, Tryd.underlying56, rfl⟩⟩
instance : TZ Tryd.prog 56 (.nilFunc) := ⟨by kernel_rfl⟩
-- 57: func([]uint8, []uint8, [2]int, string) string
instance : TSz Tryd.prog 57 1 := ⟨by kernel_rfl⟩
instance : TBy Tryd.prog 57 8 := ⟨by kernel_rfl⟩
instance : TOne Tryd.prog 57 := ⟨⟨_, Tryd.underlying57, rfl⟩⟩
instance : TZ Tryd.prog 57 (.nilFunc) := ⟨by kernel_rfl⟩
-- 58: [2]int
instance : TU Tryd.prog 58 (.array 2 3) := ⟨by kernel_rfl⟩
instance : TSz Tryd.prog 58 2 := ⟨by kernel_rfl⟩
instance : TBy Tryd.prog 58 16 := ⟨by kernel_rfl⟩
instance : TAgg Tryd.prog 58 2 := ⟨⟨_, Tryd.underlying58, rfl⟩, by kernel_rfl⟩
def z58 : List Value := [.int .i64 0, .int .i64 0]
instance : TZ Tryd.prog 58 (.agg z58.toArray) := ⟨by kernel_rfl⟩
def K58 : List IntKind := [.i64, .i64]
instance : TFlat Tryd.prog 58 K58 := ⟨by kernel_rfl, by kernel_rfl, by kernel_rfl⟩
-- 59: func(api.Ptr) string
instance : TSz Tryd.prog 59 1 := ⟨by kernel_rfl⟩
instance : TBy Tryd.prog 59 8 := ⟨by kernel_rfl⟩
instance : TOne Tryd.prog 59 := ⟨⟨_, Tryd.underlying59, rfl⟩⟩
instance : TZ Tryd.prog 59 (.nilFunc) := ⟨by kernel_rfl⟩
-- 60: func(api.Ptr) []uint8
instance : TSz Tryd.prog 60 1 := ⟨by kernel_rfl⟩
instance : TBy Tryd.prog 60 8 := ⟨by kernel_rfl⟩
instance : TOne Tryd.prog 60 := ⟨⟨_, Tryd.underlying60, rfl⟩⟩
instance : TZ Tryd.prog 60 (.nilFunc) := ⟨by kernel_rfl⟩
-- 61: func([]uint8, []uint8, uint8) bool
instance : TSz Tryd.prog 61 1 := ⟨by kernel_rfl⟩
instance : TBy Tryd.prog 61 8 := ⟨by kernel_rfl⟩
instance : TOne Tryd.prog 61 := ⟨⟨_, Tryd.underlying61, rfl⟩⟩
instance : TZ Tryd.prog 61 (.nilFunc) := ⟨by kernel_rfl⟩
-- 62: func(api.Tree, int) ([]uint8, api.Errno)
instance : TSz Tryd.prog 62 1 := ⟨by kernel_rfl⟩
instance : TBy Tryd.prog 62 8 := ⟨by kernel_rfl⟩
instance : TOne Tryd.prog 62 := ⟨⟨_, Tryd.underlying62, rfl⟩⟩
instance : TZ Tryd.prog 62 (.nilFunc) := ⟨by kernel_rfl⟩
-- 63: func([]uint8, []uint8, int) bool
instance : TSz Tryd.prog 63 1 := ⟨by kernel_rfl⟩
instance : TBy Tryd.prog 63 8 := ⟨by kernel_rfl⟩
instance : TOne Tryd.prog 63 := ⟨⟨_, Tryd.underlying63, rfl⟩⟩
instance : TZ Tryd.prog 63 (.nilFunc) := ⟨by kernel_rfl⟩
-- 64: func(uint8, int) []uint8
instance : TSz Tryd.prog 64 1 := ⟨by kernel_rfl⟩
instance : TBy Tryd.prog 64 8 := ⟨by kernel_rfl⟩
instance : TOne Tryd.prog 64 := ⟨⟨_, Tryd.underlying64, rfl⟩⟩
instance : TZ Tryd.prog 64 (.nilFunc) := ⟨by kernel_rfl⟩
-- 65: [][16]uint8
instance : TU Tryd.prog 65 (.slice 22) := ⟨by kernel_rfl⟩
instance : TSz Tryd.prog 65 1 := ⟨by kernel_rfl⟩
instance : TBy Tryd.prog 65 24 := ⟨by kernel_rfl⟩
instance : TOne Tryd.prog 65 := ⟨⟨_, Tryd.underlying65, rfl⟩⟩
instance : TZ Tryd.prog 65 (.slice none 0 0) := ⟨by kernel_rfl⟩
-- 66: func() [][16]uint8
instance : TSz Tryd.prog 66 1 := ⟨by kernel_rfl⟩
instance : TBy Tryd.prog 66 8 := ⟨by kernel_rfl⟩
instance : TOne Tryd.prog 66 := ⟨⟨_, Tryd.underlying66, rfl⟩⟩
instance : TZ Tryd.prog 66 (.nilFunc) := ⟨by kernel_rfl⟩
-- 67: func(uint8) bool
instance : TSz Tryd.prog 67 1 := ⟨by kernel_rfl⟩
instance : TBy Tryd.prog 67 8 := ⟨by kernel_rfl⟩
instance : TOne Tryd.prog 67 := ⟨⟨_, Tryd.underlying67, rfl⟩⟩
instance : TZ Tryd.prog 67 (.nilFunc) := ⟨by kernel_rfl⟩
-- 68: func([16]uint8, uint8, []uint8, int) ([]uint8, api.Errno)
instance : TSz Tryd.prog 68 1 := ⟨by kernel_rfl⟩
instance : TBy Tryd.prog 68 8 := ⟨by kernel_rfl⟩
instance : TOne Tryd.prog 68 := ⟨⟨_, Tryd.underlying68, rfl⟩⟩
instance : TZ Tryd.prog 68 (.nilFunc) := ⟨by kernel_rfl⟩
-- 70: func([16]uint8) (bool, api.Errno)
instance : TSz Tryd.prog 70 1 := ⟨by kernel_rfl⟩
instance : TBy Tryd.prog 70 8 := ⟨by kernel_rfl⟩
instance : TOne Tryd.prog 70 := ⟨⟨_, Tryd.underlying70, rfl⟩⟩
instance : TZ Tryd.prog 70 (.nilFunc) := ⟨by kernel_rfl⟩
-- 71: func([16]uint8) api.Errno
instance : TSz Tryd.prog 71 1 := ⟨by kernel_rfl⟩
instance : TBy Tryd.prog 71 8 := ⟨by kernel_rfl⟩
instance : TOne Tryd.prog 71 := ⟨⟨_, Tryd.underlying71, rfl⟩⟩
instance : TZ Tryd.prog 71 (.nilFunc) := ⟨by kernel_rfl⟩
-- 72: func([16]uint8) int
instance : TSz Tryd.prog 72 1 := ⟨by kernel_rfl⟩
instance : TBy Tryd.prog 72 8 := ⟨by kernel_rfl⟩
instance : TOne Tryd.prog 72 := ⟨⟨_, Tryd.underlying72, rfl⟩⟩
instance : TZ Tryd.prog 72 (.nilFunc) := ⟨by kernel_rfl⟩
-- 73: func([]uint8) bool
instance : TSz Tryd.prog 73 1 := ⟨by kernel_rfl⟩
instance : TBy Tryd.prog 73 8 := ⟨by kernel_rfl⟩
instance : TOne Tryd.prog 73 := ⟨⟨_, Tryd.underlying73, rfl⟩⟩
instance : TZ Tryd.prog 73 (.nilFunc) := ⟨by kernel_rfl⟩
-- 74: func([]uint8, uint8) bool
instance : TSz Tryd.prog 74 1 := ⟨by kernel_rfl⟩
instance : TBy Tryd.prog 74 8 := ⟨by kernel_rfl⟩
instance : TOne Tryd.prog 74 := ⟨⟨_, Tryd.underlying74, rfl⟩⟩
instance : TZ Tryd.prog 74 (.nilFunc) := ⟨by kernel_rfl⟩
-- 75: []int
instance : TU Tryd.prog 75 (.slice 3) := ⟨by kernel_rfl⟩
instance : TSz Tryd.prog 75 1 := ⟨by kernel_rfl⟩
instance : TBy Tryd.prog 75 24 := ⟨by kernel_rfl⟩
instance : TOne Tryd.prog 75 := ⟨⟨_, Tryd.underlying75, rfl⟩⟩
instance : TZ Tryd.prog 75 (.slice none 0 0) := ⟨by kernel_rfl⟩
-- 77: func(api.Tree) ([]int, api.Errno)
instance : TSz Tryd.prog 77 1 := ⟨by kernel_rfl⟩
instance : TBy Tryd.prog 77 8 := ⟨by kernel_rfl⟩
instance : TOne Tryd.prog 77 := ⟨⟨_, Tryd.underlying77, rfl⟩⟩
instance : TZ Tryd.prog 77 (.nilFunc) := ⟨by kernel_rfl⟩
-- 78: func([]int, int) bool
instance : TSz Tryd.prog 78 1 := ⟨by kernel_rfl⟩
instance : TBy Tryd.prog 78 8 := ⟨by kernel_rfl⟩
instance : TOne Tryd.prog 78 := ⟨⟨_, Tryd.underlying78, rfl⟩⟩
instance : TZ Tryd.prog 78 (.nilFunc) := ⟨by kernel_rfl⟩
-- 79: []turnkeylaw23.Act
instance : TU Tryd.prog 79 (.slice 85) := ⟨by kernel_rfl⟩
instance : TSz Tryd.prog 79 1 := ⟨by kernel_rfl⟩
instance : TBy Tryd.prog 79 24 := ⟨by kernel_rfl⟩
instance : TOne Tryd.prog 79 := ⟨⟨_, Tryd.underlying79, rfl⟩⟩
instance : TZ Tryd.prog 79 (.slice none 0 0) := ⟨by kernel_rfl⟩
-- 80: *turnkeyref23.Ring
instance : TU Tryd.prog 80 (.pointer 83) := ⟨by kernel_rfl⟩
instance : TSz Tryd.prog 80 1 := ⟨by kernel_rfl⟩
instance : TBy Tryd.prog 80 8 := ⟨by kernel_rfl⟩
instance : TOne Tryd.prog 80 := ⟨⟨_, Tryd.underlying80, rfl⟩⟩
instance : TZ Tryd.prog 80 (.pointer none) := ⟨by kernel_rfl⟩
-- 81: []turnkeyref23.Key
instance : TU Tryd.prog 81 (.slice 166) := ⟨by kernel_rfl⟩
instance : TSz Tryd.prog 81 1 := ⟨by kernel_rfl⟩
instance : TBy Tryd.prog 81 24 := ⟨by kernel_rfl⟩
instance : TOne Tryd.prog 81 := ⟨⟨_, Tryd.underlying81, rfl⟩⟩
instance : TZ Tryd.prog 81 (.slice none 0 0) := ⟨by kernel_rfl⟩
-- 82: struct { L []turnkeyref23.Key }
instance : TSz Tryd.prog 82 1 := ⟨by kernel_rfl⟩
instance : TBy Tryd.prog 82 24 := ⟨by kernel_rfl⟩
instance : TAgg Tryd.prog 82 1 := ⟨⟨_, Tryd.underlying82, rfl⟩, by kernel_rfl⟩
def z82 : List Value := [.slice none 0 0]
instance : TZ Tryd.prog 82 (.agg z82.toArray) := ⟨by kernel_rfl⟩
instance : TFld Tryd.prog 82 0 0 := ⟨⟨_, _, Tryd.underlying82, rfl, rfl, by simpa using (show ¬ ((Tryd.prog.info? 81).map (·.size) = some 0) by rw [(inferInstance : TSz Tryd.prog 81 _).h]; decide), by kernel_rfl⟩⟩
-- 83: turnkeyref23.Ring
instance : TSz Tryd.prog 83 1 := ⟨by kernel_rfl⟩
instance : TBy Tryd.prog 83 24 := ⟨by kernel_rfl⟩
instance : TAgg Tryd.prog 83 1 := ⟨⟨_, Tryd.underlying83, rfl⟩, by kernel_rfl⟩
def z83 : List Value := [.slice none 0 0]
instance : TZ Tryd.prog 83 (.agg z83.toArray) := ⟨by kernel_rfl⟩
instance : TFld Tryd.prog 83 0 0 := ⟨⟨_, _, Tryd.underlying83, rfl, rfl, by simpa using (show ¬ ((Tryd.prog.info? 81).map (·.size) = some 0) by rw [(inferInstance : TSz Tryd.prog 81 _).h]; decide), by kernel_rfl⟩⟩
-- 84: struct { Kind int; N int; C uint8 }
instance : TSz Tryd.prog 84 3 := ⟨by kernel_rfl⟩
instance : TBy Tryd.prog 84 24 := ⟨by kernel_rfl⟩
instance : TAgg Tryd.prog 84 3 := ⟨⟨_, Tryd.underlying84, rfl⟩, by kernel_rfl⟩
def z84 : List Value := [.int .i64 0, .int .i64 0, .int .u8 0]
instance : TZ Tryd.prog 84 (.agg z84.toArray) := ⟨by kernel_rfl⟩
def K84 : List IntKind := [.i64, .i64, .u8]
instance : TFlat Tryd.prog 84 K84 := ⟨by kernel_rfl, by kernel_rfl, by kernel_rfl⟩
instance : TFld Tryd.prog 84 0 0 := ⟨⟨_, _, Tryd.underlying84, rfl, rfl, by simpa using (show ¬ ((Tryd.prog.info? 3).map (·.size) = some 0) by rw [(inferInstance : TSz Tryd.prog 3 _).h]; decide), by kernel_rfl⟩⟩
instance : TFld Tryd.prog 84 1 1 := ⟨⟨_, _, Tryd.underlying84, rfl, rfl, by simpa using (show ¬ ((Tryd.prog.info? 3).map (·.size) = some 0) by rw [(inferInstance : TSz Tryd.prog 3 _).h]; decide), by kernel_rfl⟩⟩
instance : TFld Tryd.prog 84 2 2 := ⟨⟨_, _, Tryd.underlying84, rfl, rfl, by simpa using (show ¬ ((Tryd.prog.info? 5).map (·.size) = some 0) by rw [(inferInstance : TSz Tryd.prog 5 _).h]; decide), by kernel_rfl⟩⟩
-- 85: turnkeylaw23.Act
instance : TSz Tryd.prog 85 3 := ⟨by kernel_rfl⟩
instance : TBy Tryd.prog 85 24 := ⟨by kernel_rfl⟩
instance : TAgg Tryd.prog 85 3 := ⟨⟨_, Tryd.underlying85, rfl⟩, by kernel_rfl⟩
def z85 : List Value := [.int .i64 0, .int .i64 0, .int .u8 0]
instance : TZ Tryd.prog 85 (.agg z85.toArray) := ⟨by kernel_rfl⟩
def K85 : List IntKind := [.i64, .i64, .u8]
instance : TFlat Tryd.prog 85 K85 := ⟨by kernel_rfl, by kernel_rfl, by kernel_rfl⟩
instance : TFld Tryd.prog 85 0 0 := ⟨⟨_, _, Tryd.underlying85, rfl, rfl, by simpa using (show ¬ ((Tryd.prog.info? 3).map (·.size) = some 0) by rw [(inferInstance : TSz Tryd.prog 3 _).h]; decide), by kernel_rfl⟩⟩
instance : TFld Tryd.prog 85 1 1 := ⟨⟨_, _, Tryd.underlying85, rfl, rfl, by simpa using (show ¬ ((Tryd.prog.info? 3).map (·.size) = some 0) by rw [(inferInstance : TSz Tryd.prog 3 _).h]; decide), by kernel_rfl⟩⟩
instance : TFld Tryd.prog 85 2 2 := ⟨⟨_, _, Tryd.underlying85, rfl, rfl, by simpa using (show ¬ ((Tryd.prog.info? 5).map (·.size) = some 0) by rw [(inferInstance : TSz Tryd.prog 5 _).h]; decide), by kernel_rfl⟩⟩
-- 86: func([]uint8) string
instance : TSz Tryd.prog 86 1 := ⟨by kernel_rfl⟩
instance : TBy Tryd.prog 86 8 := ⟨by kernel_rfl⟩
instance : TOne Tryd.prog 86 := ⟨⟨_, Tryd.underlying86, rfl⟩⟩
instance : TZ Tryd.prog 86 (.nilFunc) := ⟨by kernel_rfl⟩
-- 88: func([]uint8) (string, int)
instance : TSz Tryd.prog 88 1 := ⟨by kernel_rfl⟩
instance : TBy Tryd.prog 88 8 := ⟨by kernel_rfl⟩
instance : TOne Tryd.prog 88 := ⟨⟨_, Tryd.underlying88, rfl⟩⟩
instance : TZ Tryd.prog 88 (.nilFunc) := ⟨by kernel_rfl⟩
-- 90: func(string) (bool, int)
instance : TSz Tryd.prog 90 1 := ⟨by kernel_rfl⟩
instance : TBy Tryd.prog 90 8 := ⟨by kernel_rfl⟩
instance : TOne Tryd.prog 90 := ⟨⟨_, Tryd.underlying90, rfl⟩⟩
instance : TZ Tryd.prog 90 (.nilFunc) := ⟨by kernel_rfl⟩
-- 91: func(string) int
instance : TSz Tryd.prog 91 1 := ⟨by kernel_rfl⟩
instance : TBy Tryd.prog 91 8 := ⟨by kernel_rfl⟩
instance : TOne Tryd.prog 91 := ⟨⟨_, Tryd.underlying91, rfl⟩⟩
instance : TZ Tryd.prog 91 (.nilFunc) := ⟨by kernel_rfl⟩
-- 92: func(*keyring.Ring, *turnkeyref23.Ring) bool
instance : TSz Tryd.prog 92 1 := ⟨by kernel_rfl⟩
instance : TBy Tryd.prog 92 8 := ⟨by kernel_rfl⟩
instance : TOne Tryd.prog 92 := ⟨⟨_, Tryd.underlying92, rfl⟩⟩
instance : TZ Tryd.prog 92 (.nilFunc) := ⟨by kernel_rfl⟩
-- 93: func([]turnkeylaw23.Act) bool
instance : TSz Tryd.prog 93 1 := ⟨by kernel_rfl⟩
instance : TBy Tryd.prog 93 8 := ⟨by kernel_rfl⟩
instance : TOne Tryd.prog 93 := ⟨⟨_, Tryd.underlying93, rfl⟩⟩
instance : TZ Tryd.prog 93 (.nilFunc) := ⟨by kernel_rfl⟩
-- 94: func([]uint8) *oracle.Oracle
instance : TSz Tryd.prog 94 1 := ⟨by kernel_rfl⟩
instance : TBy Tryd.prog 94 8 := ⟨by kernel_rfl⟩
instance : TOne Tryd.prog 94 := ⟨⟨_, Tryd.underlying94, rfl⟩⟩
instance : TZ Tryd.prog 94 (.nilFunc) := ⟨by kernel_rfl⟩
-- 96: func(mtree.Store, *oracle.Oracle, []uint8, []uint8) (*mtree.Grove, api.Errno)
instance : TSz Tryd.prog 96 1 := ⟨by kernel_rfl⟩
instance : TBy Tryd.prog 96 8 := ⟨by kernel_rfl⟩
instance : TOne Tryd.prog 96 := ⟨⟨_, Tryd.underlying96, rfl⟩⟩
instance : TZ Tryd.prog 96 (.nilFunc) := ⟨by kernel_rfl⟩
-- 97: func([]uint8, []int, [2]int) bool
instance : TSz Tryd.prog 97 1 := ⟨by kernel_rfl⟩
instance : TBy Tryd.prog 97 8 := ⟨by kernel_rfl⟩
instance : TOne Tryd.prog 97 := ⟨⟨_, Tryd.underlying97, rfl⟩⟩
instance : TZ Tryd.prog 97 (.nilFunc) := ⟨by kernel_rfl⟩
-- 98: func(*keyring.Ring, api.Inode) bool
instance : TSz Tryd.prog 98 1 := ⟨by kernel_rfl⟩
instance : TBy Tryd.prog 98 8 := ⟨by kernel_rfl⟩
instance : TOne Tryd.prog 98 := ⟨⟨_, Tryd.underlying98, rfl⟩⟩
instance : TZ Tryd.prog 98 (.nilFunc) := ⟨by kernel_rfl⟩
-- 99: func(api.Inode, api.Inode) api.Errno
instance : TSz Tryd.prog 99 1 := ⟨by kernel_rfl⟩
instance : TBy Tryd.prog 99 8 := ⟨by kernel_rfl⟩
instance : TOne Tryd.prog 99 := ⟨⟨_, Tryd.underlying99, rfl⟩⟩
instance : TZ Tryd.prog 99 (.nilFunc) := ⟨by kernel_rfl⟩
-- 100: func([]uint8, api.Inode, bool) bool
instance : TSz Tryd.prog 100 1 := ⟨by kernel_rfl⟩
instance : TBy Tryd.prog 100 8 := ⟨by kernel_rfl⟩
instance : TOne Tryd.prog 100 := ⟨⟨_, Tryd.underlying100, rfl⟩⟩
instance : TZ Tryd.prog 100 (.nilFunc) := ⟨by kernel_rfl⟩
-- 101: []turnkeylaw16.Act
instance : TU Tryd.prog 101 (.slice 104) := ⟨by kernel_rfl⟩
instance : TSz Tryd.prog 101 1 := ⟨by kernel_rfl⟩
instance : TBy Tryd.prog 101 24 := ⟨by kernel_rfl⟩
instance : TOne Tryd.prog 101 := ⟨⟨_, Tryd.underlying101, rfl⟩⟩
instance : TZ Tryd.prog 101 (.slice none 0 0) := ⟨by kernel_rfl⟩
-- 102: []turnkeyref16.Block
instance : TU Tryd.prog 102 (.slice 174) := ⟨by kernel_rfl⟩
instance : TSz Tryd.prog 102 1 := ⟨by kernel_rfl⟩
instance : TBy Tryd.prog 102 24 := ⟨by kernel_rfl⟩
instance : TOne Tryd.prog 102 := ⟨⟨_, Tryd.underlying102, rfl⟩⟩
instance : TZ Tryd.prog 102 (.slice none 0 0) := ⟨by kernel_rfl⟩
-- 103: struct { Kind int; I int; C uint8 }
instance : TSz Tryd.prog 103 3 := ⟨by kernel_rfl⟩
instance : TBy Tryd.prog 103 24 := ⟨by kernel_rfl⟩
instance : TAgg Tryd.prog 103 3 := ⟨⟨_, Tryd.underlying103, rfl⟩, by kernel_rfl⟩
def z103 : List Value := [.int .i64 0, .int .i64 0, .int .u8 0]
instance : TZ Tryd.prog 103 (.agg z103.toArray) := ⟨by kernel_rfl⟩
def K103 : List IntKind := [.i64, .i64, .u8]
instance : TFlat Tryd.prog 103 K103 := ⟨by kernel_rfl, by kernel_rfl, by kernel_rfl⟩
instance : TFld Tryd.prog 103 0 0 := ⟨⟨_, _, Tryd.underlying103, rfl, rfl, by simpa using (show ¬ ((Tryd.prog.info? 3).map (·.size) = some 0) by rw [(inferInstance : TSz Tryd.prog 3 _).h]; decide), by kernel_rfl⟩⟩
instance : TFld Tryd.prog 103 1 1 := ⟨⟨_, _, Tryd.underlying103, rfl, rfl, by simpa using (show ¬ ((Tryd.prog.info? 3).map (·.size) = some 0) by rw [(inferInstance : TSz Tryd.prog 3 _).h]; decide), by kernel_rfl⟩⟩
instance : TFld Tryd.prog 103 2 2 := ⟨⟨_, _, Tryd.underlying103, rfl, rfl, by simpa using (show ¬ ((Tryd.prog.info? 5).map (·.size) = some 0) by rw [(inferInstance : TSz Tryd.prog 5 _).h]; decide), by kernel_rfl⟩⟩
-- 104: turnkeylaw16.Act
instance : TSz Tryd.prog 104 3 := ⟨by kernel_rfl⟩
instance : TBy Tryd.prog 104 24 := ⟨by kernel_rfl⟩
instance : TAgg Tryd.prog 104 3 := ⟨⟨_, Tryd.underlying104, rfl⟩, by kernel_rfl⟩
def z104 : List Value := [.int .i64 0, .int .i64 0, .int .u8 0]
instance : TZ Tryd.prog 104 (.agg z104.toArray) := ⟨by kernel_rfl⟩
def K104 : List IntKind := [.i64, .i64, .u8]
instance : TFlat Tryd.prog 104 K104 := ⟨by kernel_rfl, by kernel_rfl, by kernel_rfl⟩
instance : TFld Tryd.prog 104 0 0 := ⟨⟨_, _, Tryd.underlying104, rfl, rfl, by simpa using (show ¬ ((Tryd.prog.info? 3).map (·.size) = some 0) by rw [(inferInstance : TSz Tryd.prog 3 _).h]; decide), by kernel_rfl⟩⟩
instance : TFld Tryd.prog 104 1 1 := ⟨⟨_, _, Tryd.underlying104, rfl, rfl, by simpa using (show ¬ ((Tryd.prog.info? 3).map (·.size) = some 0) by rw [(inferInstance : TSz Tryd.prog 3 _).h]; decide), by kernel_rfl⟩⟩
instance : TFld Tryd.prog 104 2 2 := ⟨⟨_, _, Tryd.underlying104, rfl, rfl, by simpa using (show ¬ ((Tryd.prog.info? 5).map (·.size) = some 0) by rw [(inferInstance : TSz Tryd.prog 5 _).h]; decide), by kernel_rfl⟩⟩
-- 105: func(int) int
instance : TSz Tryd.prog 105 1 := ⟨by kernel_rfl⟩
instance : TBy Tryd.prog 105 8 := ⟨by kernel_rfl⟩
instance : TOne Tryd.prog 105 := ⟨⟨_, Tryd.underlying105, rfl⟩⟩
instance : TZ Tryd.prog 105 (.nilFunc) := ⟨by kernel_rfl⟩
-- 106: func([]turnkeyref16.Block, int, string) []turnkeyref16.Block
instance : TSz Tryd.prog 106 1 := ⟨by kernel_rfl⟩
instance : TBy Tryd.prog 106 8 := ⟨by kernel_rfl⟩
instance : TOne Tryd.prog 106 := ⟨⟨_, Tryd.underlying106, rfl⟩⟩
instance : TZ Tryd.prog 106 (.nilFunc) := ⟨by kernel_rfl⟩
-- 107: func(api.Tree, int) (api.Tree, api.Errno)
instance : TSz Tryd.prog 107 1 := ⟨by kernel_rfl⟩
instance : TBy Tryd.prog 107 8 := ⟨by kernel_rfl⟩
instance : TOne Tryd.prog 107 := ⟨⟨_, Tryd.underlying107, rfl⟩⟩
instance : TZ Tryd.prog 107 (.nilFunc) := ⟨by kernel_rfl⟩
-- 108: func([]turnkeyref16.Block, int) []turnkeyref16.Block
instance : TSz Tryd.prog 108 1 := ⟨by kernel_rfl⟩
instance : TBy Tryd.prog 108 8 := ⟨by kernel_rfl⟩
instance : TOne Tryd.prog 108 := ⟨⟨_, Tryd.underlying108, rfl⟩⟩
instance : TZ Tryd.prog 108 (.nilFunc) := ⟨by kernel_rfl⟩
-- 110: func([]turnkeyref16.Block, int) (string, bool)
instance : TSz Tryd.prog 110 1 := ⟨by kernel_rfl⟩
instance : TBy Tryd.prog 110 8 := ⟨by kernel_rfl⟩
instance : TOne Tryd.prog 110 := ⟨⟨_, Tryd.underlying110, rfl⟩⟩
instance : TZ Tryd.prog 110 (.nilFunc) := ⟨by kernel_rfl⟩
-- 111: func(*mtree.Grove, *turnkeylaw16.store, api.Tree, []turnkeyref16.Block) bool
instance : TSz Tryd.prog 111 1 := ⟨by kernel_rfl⟩
instance : TBy Tryd.prog 111 8 := ⟨by kernel_rfl⟩
instance : TOne Tryd.prog 111 := ⟨⟨_, Tryd.underlying111, rfl⟩⟩
instance : TZ Tryd.prog 111 (.nilFunc) := ⟨by kernel_rfl⟩
-- 112: func(int, []turnkeylaw16.Act) bool
instance : TSz Tryd.prog 112 1 := ⟨by kernel_rfl⟩
instance : TBy Tryd.prog 112 8 := ⟨by kernel_rfl⟩
instance : TOne Tryd.prog 112 := ⟨⟨_, Tryd.underlying112, rfl⟩⟩
instance : TZ Tryd.prog 112 (.nilFunc) := ⟨by kernel_rfl⟩
-- 114: func([]uint8) (api.Ptr, bool)
instance : TSz Tryd.prog 114 1 := ⟨by kernel_rfl⟩
instance : TBy Tryd.prog 114 8 := ⟨by kernel_rfl⟩
instance : TOne Tryd.prog 114 := ⟨⟨_, Tryd.underlying114, rfl⟩⟩
instance : TZ Tryd.prog 114 (.nilFunc) := ⟨by kernel_rfl⟩
-- 115: func([]uint8, int, int) bool
instance : TSz Tryd.prog 115 1 := ⟨by kernel_rfl⟩
instance : TBy Tryd.prog 115 8 := ⟨by kernel_rfl⟩
instance : TOne Tryd.prog 115 := ⟨⟨_, Tryd.underlying115, rfl⟩⟩
instance : TZ Tryd.prog 115 (.nilFunc) := ⟨by kernel_rfl⟩
-- 116: []api.Turn
instance : TU Tryd.prog 116 (.slice 118) := ⟨by kernel_rfl⟩
instance : TSz Tryd.prog 116 1 := ⟨by kernel_rfl⟩
instance : TBy Tryd.prog 116 24 := ⟨by kernel_rfl⟩
instance : TOne Tryd.prog 116 := ⟨⟨_, Tryd.underlying116, rfl⟩⟩
instance : TZ Tryd.prog 116 (.slice none 0 0) := ⟨by kernel_rfl⟩
-- 117: struct { I int; B []uint8 }
instance : TSz Tryd.prog 117 2 := ⟨by kernel_rfl⟩
instance : TBy Tryd.prog 117 32 := ⟨by kernel_rfl⟩
instance : TAgg Tryd.prog 117 2 := ⟨⟨_, Tryd.underlying117, rfl⟩, by kernel_rfl⟩
def z117 : List Value := [.int .i64 0, .slice none 0 0]
instance : TZ Tryd.prog 117 (.agg z117.toArray) := ⟨by kernel_rfl⟩
instance : TFld Tryd.prog 117 0 0 := ⟨⟨_, _, Tryd.underlying117, rfl, rfl, by simpa using (show ¬ ((Tryd.prog.info? 3).map (·.size) = some 0) by rw [(inferInstance : TSz Tryd.prog 3 _).h]; decide), by kernel_rfl⟩⟩
instance : TFld Tryd.prog 117 1 1 := ⟨⟨_, _, Tryd.underlying117, rfl, rfl, by simpa using (show ¬ ((Tryd.prog.info? 31).map (·.size) = some 0) by rw [(inferInstance : TSz Tryd.prog 31 _).h]; decide), by kernel_rfl⟩⟩
-- 118: api.Turn
instance : TSz Tryd.prog 118 2 := ⟨by kernel_rfl⟩
instance : TBy Tryd.prog 118 32 := ⟨by kernel_rfl⟩
instance : TAgg Tryd.prog 118 2 := ⟨⟨_, Tryd.underlying118, rfl⟩, by kernel_rfl⟩
def z118 : List Value := [.int .i64 0, .slice none 0 0]
instance : TZ Tryd.prog 118 (.agg z118.toArray) := ⟨by kernel_rfl⟩
instance : TFld Tryd.prog 118 0 0 := ⟨⟨_, _, Tryd.underlying118, rfl, rfl, by simpa using (show ¬ ((Tryd.prog.info? 3).map (·.size) = some 0) by rw [(inferInstance : TSz Tryd.prog 3 _).h]; decide), by kernel_rfl⟩⟩
instance : TFld Tryd.prog 118 1 1 := ⟨⟨_, _, Tryd.underlying118, rfl, rfl, by simpa using (show ¬ ((Tryd.prog.info? 31).map (·.size) = some 0) by rw [(inferInstance : TSz Tryd.prog 31 _).h]; decide), by kernel_rfl⟩⟩
-- 119: func(api.Tree, int, ...api.Turn) (api.Tree, api.Errno)
instance : TSz Tryd.prog 119 1 := ⟨by kernel_rfl⟩
instance : TBy Tryd.prog 119 8 := ⟨by kernel_rfl⟩
instance : TOne Tryd.prog 119 := ⟨⟨_, Tryd.underlying119, rfl⟩⟩
instance : TZ Tryd.prog 119 (.nilFunc) := ⟨by kernel_rfl⟩
-- 120: func(int, []turnkeylaw16.Act, []turnkeylaw16.Act) bool
instance : TSz Tryd.prog 120 1 := ⟨by kernel_rfl⟩
instance : TBy Tryd.prog 120 8 := ⟨by kernel_rfl⟩
instance : TOne Tryd.prog 120 := ⟨⟨_, Tryd.underlying120, rfl⟩⟩
instance : TZ Tryd.prog 120 (.nilFunc) := ⟨by kernel_rfl⟩
-- 122: func(api.Inode, int, api.Policy) (api.Inode, api.Errno)
instance : TSz Tryd.prog 122 1 := ⟨by kernel_rfl⟩
instance : TBy Tryd.prog 122 8 := ⟨by kernel_rfl⟩
instance : TOne Tryd.prog 122 := ⟨⟨_, Tryd.underlying122, rfl⟩⟩
instance : TZ Tryd.prog 122 (.nilFunc) := ⟨by kernel_rfl⟩
-- 123: []*keyring.entry
instance : TU Tryd.prog 123 (.slice 135) := ⟨by kernel_rfl⟩
instance : TSz Tryd.prog 123 1 := ⟨by kernel_rfl⟩
instance : TBy Tryd.prog 123 24 := ⟨by kernel_rfl⟩
instance : TOne Tryd.prog 123 := ⟨⟨_, Tryd.underlying123, rfl⟩⟩
instance : TZ Tryd.prog 123 (.slice none 0 0) := ⟨by kernel_rfl⟩
-- 124: struct { o *oracle.Oracle; es []*keyring.entry }
instance : TSz Tryd.prog 124 2 := ⟨by kernel_rfl⟩
instance : TBy Tryd.prog 124 32 := ⟨by kernel_rfl⟩
instance : TAgg Tryd.prog 124 2 := ⟨⟨_, Tryd.underlying124, rfl⟩, by kernel_rfl⟩
def z124 : List Value := [.pointer none, .slice none 0 0]
instance : TZ Tryd.prog 124 (.agg z124.toArray) := ⟨by kernel_rfl⟩
instance : TFld Tryd.prog 124 0 0 := ⟨⟨_, _, Tryd.underlying124, rfl, rfl, by simpa using (show ¬ ((Tryd.prog.info? 29).map (·.size) = some 0) by rw [(inferInstance : TSz Tryd.prog 29 _).h]; decide), by kernel_rfl⟩⟩
instance : TFld Tryd.prog 124 1 1 := ⟨⟨_, _, Tryd.underlying124, rfl, rfl, by simpa using (show ¬ ((Tryd.prog.info? 123).map (·.size) = some 0) by rw [(inferInstance : TSz Tryd.prog 123 _).h]; decide), by kernel_rfl⟩⟩
-- 125: keyring.Ring
instance : TSz Tryd.prog 125 2 := ⟨by kernel_rfl⟩
instance : TBy Tryd.prog 125 32 := ⟨by kernel_rfl⟩
instance : TAgg Tryd.prog 125 2 := ⟨⟨_, Tryd.underlying125, rfl⟩, by kernel_rfl⟩
def z125 : List Value := [.pointer none, .slice none 0 0]
instance : TZ Tryd.prog 125 (.agg z125.toArray) := ⟨by kernel_rfl⟩
instance : TFld Tryd.prog 125 0 0 := ⟨⟨_, _, Tryd.underlying125, rfl, rfl, by simpa using (show ¬ ((Tryd.prog.info? 29).map (·.size) = some 0) by rw [(inferInstance : TSz Tryd.prog 29 _).h]; decide), by kernel_rfl⟩⟩
instance : TFld Tryd.prog 125 1 1 := ⟨⟨_, _, Tryd.underlying125, rfl, rfl, by simpa using (show ¬ ((Tryd.prog.info? 123).map (·.size) = some 0) by rw [(inferInstance : TSz Tryd.prog 123 _).h]; decide), by kernel_rfl⟩⟩
-- 126: *tape.Lazy
instance : TU Tryd.prog 126 (.pointer 202) := ⟨by kernel_rfl⟩
instance : TSz Tryd.prog 126 1 := ⟨by kernel_rfl⟩
instance : TBy Tryd.prog 126 8 := ⟨by kernel_rfl⟩
instance : TOne Tryd.prog 126 := ⟨⟨_, Tryd.underlying126, rfl⟩⟩
instance : TZ Tryd.prog 126 (.pointer none) := ⟨by kernel_rfl⟩
-- 127: map[string]bool
instance : TU Tryd.prog 127 (.map 9 4) := ⟨by kernel_rfl⟩
instance : TSz Tryd.prog 127 1 := ⟨by kernel_rfl⟩
instance : TBy Tryd.prog 127 8 := ⟨by kernel_rfl⟩
instance : TOne Tryd.prog 127 := ⟨⟨_, Tryd.underlying127, rfl⟩⟩
instance : TZ Tryd.prog 127 (.map none) := ⟨by kernel_rfl⟩
-- 128: struct { lazy *tape.Lazy; nonces int; begins map[string]bool; twice bool }
instance : TSz Tryd.prog 128 4 := ⟨by kernel_rfl⟩
instance : TBy Tryd.prog 128 32 := ⟨by kernel_rfl⟩
instance : TAgg Tryd.prog 128 4 := ⟨⟨_, Tryd.underlying128, rfl⟩, by kernel_rfl⟩
def z128 : List Value := [.pointer none, .int .i64 0, .map none, .bool false]
instance : TZ Tryd.prog 128 (.agg z128.toArray) := ⟨by kernel_rfl⟩
instance : TFld Tryd.prog 128 0 0 := ⟨⟨_, _, Tryd.underlying128, rfl, rfl, by simpa using (show ¬ ((Tryd.prog.info? 126).map (·.size) = some 0) by rw [(inferInstance : TSz Tryd.prog 126 _).h]; decide), by kernel_rfl⟩⟩
instance : TFld Tryd.prog 128 1 1 := ⟨⟨_, _, Tryd.underlying128, rfl, rfl, by simpa using (show ¬ ((Tryd.prog.info? 3).map (·.size) = some 0) by rw [(inferInstance : TSz Tryd.prog 3 _).h]; decide), by kernel_rfl⟩⟩
instance : TFld Tryd.prog 128 2 2 := ⟨⟨_, _, Tryd.underlying128, rfl, rfl, by simpa using (show ¬ ((Tryd.prog.info? 127).map (·.size) = some 0) by rw [(inferInstance : TSz Tryd.prog 127 _).h]; decide), by kernel_rfl⟩⟩
instance : TFld Tryd.prog 128 3 3 := ⟨⟨_, _, Tryd.underlying128, rfl, rfl, by simpa using (show ¬ ((Tryd.prog.info? 4).map (·.size) = some 0) by rw [(inferInstance : TSz Tryd.prog 4 _).h]; decide), by kernel_rfl⟩⟩
-- 129: oracle.Oracle
instance : TSz Tryd.prog 129 4 := ⟨by kernel_rfl⟩
instance : TBy Tryd.prog 129 32 := ⟨by kernel_rfl⟩
instance : TAgg Tryd.prog 129 4 := ⟨⟨_, Tryd.underlying129, rfl⟩, by kernel_rfl⟩
def z129 : List Value := [.pointer none, .int .i64 0, .map none, .bool false]
instance : TZ Tryd.prog 129 (.agg z129.toArray) := ⟨by kernel_rfl⟩
instance : TFld Tryd.prog 129 0 0 := ⟨⟨_, _, Tryd.underlying129, rfl, rfl, by simpa using (show ¬ ((Tryd.prog.info? 126).map (·.size) = some 0) by rw [(inferInstance : TSz Tryd.prog 126 _).h]; decide), by kernel_rfl⟩⟩
instance : TFld Tryd.prog 129 1 1 := ⟨⟨_, _, Tryd.underlying129, rfl, rfl, by simpa using (show ¬ ((Tryd.prog.info? 3).map (·.size) = some 0) by rw [(inferInstance : TSz Tryd.prog 3 _).h]; decide), by kernel_rfl⟩⟩
instance : TFld Tryd.prog 129 2 2 := ⟨⟨_, _, Tryd.underlying129, rfl, rfl, by simpa using (show ¬ ((Tryd.prog.info? 127).map (·.size) = some 0) by rw [(inferInstance : TSz Tryd.prog 127 _).h]; decide), by kernel_rfl⟩⟩
instance : TFld Tryd.prog 129 3 3 := ⟨⟨_, _, Tryd.underlying129, rfl, rfl, by simpa using (show ¬ ((Tryd.prog.info? 4).map (·.size) = some 0) by rw [(inferInstance : TSz Tryd.prog 4 _).h]; decide), by kernel_rfl⟩⟩
-- 131: func([]uint8, uint8, []uint8, int) ([]uint8, bool)
instance : TSz Tryd.prog 131 1 := ⟨by kernel_rfl⟩
instance : TBy Tryd.prog 131 8 := ⟨by kernel_rfl⟩
instance : TOne Tryd.prog 131 := ⟨⟨_, Tryd.underlying131, rfl⟩⟩
instance : TZ Tryd.prog 131 (.nilFunc) := ⟨by kernel_rfl⟩
-- 133: func([16]uint8) (int, bool)
instance : TSz Tryd.prog 133 1 := ⟨by kernel_rfl⟩
instance : TBy Tryd.prog 133 8 := ⟨by kernel_rfl⟩
instance : TOne Tryd.prog 133 := ⟨⟨_, Tryd.underlying133, rfl⟩⟩
instance : TZ Tryd.prog 133 (.nilFunc) := ⟨by kernel_rfl⟩
-- 134: func([]*keyring.entry, int, ...*keyring.entry) []*keyring.entry
instance : TSz Tryd.prog 134 1 := ⟨by kernel_rfl⟩
instance : TBy Tryd.prog 134 8 := ⟨by kernel_rfl⟩
instance : TOne Tryd.prog 134 := ⟨⟨_, Tryd.underlying134, rfl⟩⟩
instance : TZ Tryd.prog 134 (.nilFunc) := ⟨by kernel_rfl⟩
-- 135: *keyring.entry
instance : TU Tryd.prog 135 (.pointer 137) := ⟨by kernel_rfl⟩
instance : TSz Tryd.prog 135 1 := ⟨by kernel_rfl⟩
instance : TBy Tryd.prog 135 8 := ⟨by kernel_rfl⟩
instance : TOne Tryd.prog 135 := ⟨⟨_, Tryd.underlying135, rfl⟩⟩
instance : TZ Tryd.prog 135 (.pointer none) := ⟨by kernel_rfl⟩
-- 136: struct { id [16]uint8; key []uint8; holds int }
instance : TSz Tryd.prog 136 18 := ⟨by kernel_rfl⟩
instance : TBy Tryd.prog 136 48 := ⟨by kernel_rfl⟩
instance : TAgg Tryd.prog 136 18 := ⟨⟨_, Tryd.underlying136, rfl⟩, by kernel_rfl⟩
def z136 : List Value := List.replicate 16 (.int .u8 0) ++ [.slice none 0 0, .int .i64 0]
instance : TZ Tryd.prog 136 (.agg z136.toArray) := ⟨by kernel_rfl⟩
instance : TFld Tryd.prog 136 0 0 := ⟨⟨_, _, Tryd.underlying136, rfl, rfl, by simpa using (show ¬ ((Tryd.prog.info? 22).map (·.size) = some 0) by rw [(inferInstance : TSz Tryd.prog 22 _).h]; decide), by kernel_rfl⟩⟩
instance : TFld Tryd.prog 136 1 16 := ⟨⟨_, _, Tryd.underlying136, rfl, rfl, by simpa using (show ¬ ((Tryd.prog.info? 31).map (·.size) = some 0) by rw [(inferInstance : TSz Tryd.prog 31 _).h]; decide), by kernel_rfl⟩⟩
instance : TFld Tryd.prog 136 2 17 := ⟨⟨_, _, Tryd.underlying136, rfl, rfl, by simpa using (show ¬ ((Tryd.prog.info? 3).map (·.size) = some 0) by rw [(inferInstance : TSz Tryd.prog 3 _).h]; decide), by kernel_rfl⟩⟩
-- 137: keyring.entry
instance : TSz Tryd.prog 137 18 := ⟨by kernel_rfl⟩
instance : TBy Tryd.prog 137 48 := ⟨by kernel_rfl⟩
instance : TAgg Tryd.prog 137 18 := ⟨⟨_, Tryd.underlying137, rfl⟩, by kernel_rfl⟩
def z137 : List Value := List.replicate 16 (.int .u8 0) ++ [.slice none 0 0, .int .i64 0]
instance : TZ Tryd.prog 137 (.agg z137.toArray) := ⟨by kernel_rfl⟩
instance : TFld Tryd.prog 137 0 0 := ⟨⟨_, _, Tryd.underlying137, rfl, rfl, by simpa using (show ¬ ((Tryd.prog.info? 22).map (·.size) = some 0) by rw [(inferInstance : TSz Tryd.prog 22 _).h]; decide), by kernel_rfl⟩⟩
instance : TFld Tryd.prog 137 1 16 := ⟨⟨_, _, Tryd.underlying137, rfl, rfl, by simpa using (show ¬ ((Tryd.prog.info? 31).map (·.size) = some 0) by rw [(inferInstance : TSz Tryd.prog 31 _).h]; decide), by kernel_rfl⟩⟩
instance : TFld Tryd.prog 137 2 17 := ⟨⟨_, _, Tryd.underlying137, rfl, rfl, by simpa using (show ¬ ((Tryd.prog.info? 3).map (·.size) = some 0) by rw [(inferInstance : TSz Tryd.prog 3 _).h]; decide), by kernel_rfl⟩⟩
-- 138: func([]uint8) []uint8
instance : TSz Tryd.prog 138 1 := ⟨by kernel_rfl⟩
instance : TBy Tryd.prog 138 8 := ⟨by kernel_rfl⟩
instance : TOne Tryd.prog 138 := ⟨⟨_, Tryd.underlying138, rfl⟩⟩
instance : TZ Tryd.prog 138 (.nilFunc) := ⟨by kernel_rfl⟩
-- 139: func(*keyring.Ring, api.Inode, uint8, int) ([]uint8, api.Errno)
instance : TSz Tryd.prog 139 1 := ⟨by kernel_rfl⟩
instance : TBy Tryd.prog 139 8 := ⟨by kernel_rfl⟩
instance : TOne Tryd.prog 139 := ⟨⟨_, Tryd.underlying139, rfl⟩⟩
instance : TZ Tryd.prog 139 (.nilFunc) := ⟨by kernel_rfl⟩
-- 140: *turnkeyref12.Oracle
instance : TU Tryd.prog 140 (.pointer 145) := ⟨by kernel_rfl⟩
instance : TSz Tryd.prog 140 1 := ⟨by kernel_rfl⟩
instance : TBy Tryd.prog 140 8 := ⟨by kernel_rfl⟩
instance : TOne Tryd.prog 140 := ⟨⟨_, Tryd.underlying140, rfl⟩⟩
instance : TZ Tryd.prog 140 (.pointer none) := ⟨by kernel_rfl⟩
-- 141: []turnkeyref11.Told
instance : TU Tryd.prog 141 (.slice 210) := ⟨by kernel_rfl⟩
instance : TSz Tryd.prog 141 1 := ⟨by kernel_rfl⟩
instance : TBy Tryd.prog 141 24 := ⟨by kernel_rfl⟩
instance : TOne Tryd.prog 141 := ⟨⟨_, Tryd.underlying141, rfl⟩⟩
instance : TZ Tryd.prog 141 (.slice none 0 0) := ⟨by kernel_rfl⟩
-- 142: struct { Seed []uint8; Functions []turnkeyref11.Told; Pairs []turnkeyref11.Told; Bad bool; N int }
instance : TSz Tryd.prog 142 5 := ⟨by kernel_rfl⟩
instance : TBy Tryd.prog 142 88 := ⟨by kernel_rfl⟩
instance : TAgg Tryd.prog 142 5 := ⟨⟨_, Tryd.underlying142, rfl⟩, by kernel_rfl⟩
def z142 : List Value := [.slice none 0 0, .slice none 0 0, .slice none 0 0, .bool false, .int .i64 0]
instance : TZ Tryd.prog 142 (.agg z142.toArray) := ⟨by kernel_rfl⟩
instance : TFld Tryd.prog 142 0 0 := ⟨⟨_, _, Tryd.underlying142, rfl, rfl, by simpa using (show ¬ ((Tryd.prog.info? 31).map (·.size) = some 0) by rw [(inferInstance : TSz Tryd.prog 31 _).h]; decide), by kernel_rfl⟩⟩
instance : TFld Tryd.prog 142 1 1 := ⟨⟨_, _, Tryd.underlying142, rfl, rfl, by simpa using (show ¬ ((Tryd.prog.info? 141).map (·.size) = some 0) by rw [(inferInstance : TSz Tryd.prog 141 _).h]; decide), by kernel_rfl⟩⟩
instance : TFld Tryd.prog 142 2 2 := ⟨⟨_, _, Tryd.underlying142, rfl, rfl, by simpa using (show ¬ ((Tryd.prog.info? 141).map (·.size) = some 0) by rw [(inferInstance : TSz Tryd.prog 141 _).h]; decide), by kernel_rfl⟩⟩
instance : TFld Tryd.prog 142 3 3 := ⟨⟨_, _, Tryd.underlying142, rfl, rfl, by simpa using (show ¬ ((Tryd.prog.info? 4).map (·.size) = some 0) by rw [(inferInstance : TSz Tryd.prog 4 _).h]; decide), by kernel_rfl⟩⟩
instance : TFld Tryd.prog 142 4 4 := ⟨⟨_, _, Tryd.underlying142, rfl, rfl, by simpa using (show ¬ ((Tryd.prog.info? 3).map (·.size) = some 0) by rw [(inferInstance : TSz Tryd.prog 3 _).h]; decide), by kernel_rfl⟩⟩
-- 143: turnkeyref11.Lazy
instance : TSz Tryd.prog 143 5 := ⟨by kernel_rfl⟩
instance : TBy Tryd.prog 143 88 := ⟨by kernel_rfl⟩
instance : TAgg Tryd.prog 143 5 := ⟨⟨_, Tryd.underlying143, rfl⟩, by kernel_rfl⟩
def z143 : List Value := [.slice none 0 0, .slice none 0 0, .slice none 0 0, .bool false, .int .i64 0]
instance : TZ Tryd.prog 143 (.agg z143.toArray) := ⟨by kernel_rfl⟩
instance : TFld Tryd.prog 143 0 0 := ⟨⟨_, _, Tryd.underlying143, rfl, rfl, by simpa using (show ¬ ((Tryd.prog.info? 31).map (·.size) = some 0) by rw [(inferInstance : TSz Tryd.prog 31 _).h]; decide), by kernel_rfl⟩⟩
instance : TFld Tryd.prog 143 1 1 := ⟨⟨_, _, Tryd.underlying143, rfl, rfl, by simpa using (show ¬ ((Tryd.prog.info? 141).map (·.size) = some 0) by rw [(inferInstance : TSz Tryd.prog 141 _).h]; decide), by kernel_rfl⟩⟩
instance : TFld Tryd.prog 143 2 2 := ⟨⟨_, _, Tryd.underlying143, rfl, rfl, by simpa using (show ¬ ((Tryd.prog.info? 141).map (·.size) = some 0) by rw [(inferInstance : TSz Tryd.prog 141 _).h]; decide), by kernel_rfl⟩⟩
instance : TFld Tryd.prog 143 3 3 := ⟨⟨_, _, Tryd.underlying143, rfl, rfl, by simpa using (show ¬ ((Tryd.prog.info? 4).map (·.size) = some 0) by rw [(inferInstance : TSz Tryd.prog 4 _).h]; decide), by kernel_rfl⟩⟩
instance : TFld Tryd.prog 143 4 4 := ⟨⟨_, _, Tryd.underlying143, rfl, rfl, by simpa using (show ¬ ((Tryd.prog.info? 3).map (·.size) = some 0) by rw [(inferInstance : TSz Tryd.prog 3 _).h]; decide), by kernel_rfl⟩⟩
-- 144: struct { Ideal bool; L turnkeyref11.Lazy; Nonces int; Told []string }
instance : TSz Tryd.prog 144 8 := ⟨by kernel_rfl⟩
instance : TBy Tryd.prog 144 128 := ⟨by kernel_rfl⟩
instance : TAgg Tryd.prog 144 8 := ⟨⟨_, Tryd.underlying144, rfl⟩, by kernel_rfl⟩
def z144 : List Value := [.bool false, .slice none 0 0, .slice none 0 0, .slice none 0 0, .bool false, .int .i64 0, .int .i64 0, .slice none 0 0]
instance : TZ Tryd.prog 144 (.agg z144.toArray) := ⟨by kernel_rfl⟩
instance : TFld Tryd.prog 144 0 0 := ⟨⟨_, _, Tryd.underlying144, rfl, rfl, by simpa using (show ¬ ((Tryd.prog.info? 4).map (·.size) = some 0) by rw [(inferInstance : TSz Tryd.prog 4 _).h]; decide), by kernel_rfl⟩⟩
instance : TFld Tryd.prog 144 1 1 := ⟨⟨_, _, Tryd.underlying144, rfl, rfl, by simpa using (show ¬ ((Tryd.prog.info? 143).map (·.size) = some 0) by rw [(inferInstance : TSz Tryd.prog 143 _).h]; decide), by kernel_rfl⟩⟩
instance : TFld Tryd.prog 144 2 6 := ⟨⟨_, _, Tryd.underlying144, rfl, rfl, by simpa using (show ¬ ((Tryd.prog.info? 3).map (·.size) = some 0) by rw [(inferInstance : TSz Tryd.prog 3 _).h]; decide), by kernel_rfl⟩⟩
instance : TFld Tryd.prog 144 3 7 := ⟨⟨_, _, Tryd.underlying144, rfl, rfl, by simpa using (show ¬ ((Tryd.prog.info? 48).map (·.size) = some 0) by rw [(inferInstance : TSz Tryd.prog 48 _).h]; decide), by kernel_rfl⟩⟩
-- 145: turnkeyref12.Oracle
instance : TSz Tryd.prog 145 8 := ⟨by kernel_rfl⟩
instance : TBy Tryd.prog 145 128 := ⟨by kernel_rfl⟩
instance : TAgg Tryd.prog 145 8 := ⟨⟨_, Tryd.underlying145, rfl⟩, by kernel_rfl⟩
def z145 : List Value := [.bool false, .slice none 0 0, .slice none 0 0, .slice none 0 0, .bool false, .int .i64 0, .int .i64 0, .slice none 0 0]
instance : TZ Tryd.prog 145 (.agg z145.toArray) := ⟨by kernel_rfl⟩
instance : TFld Tryd.prog 145 0 0 := ⟨⟨_, _, Tryd.underlying145, rfl, rfl, by simpa using (show ¬ ((Tryd.prog.info? 4).map (·.size) = some 0) by rw [(inferInstance : TSz Tryd.prog 4 _).h]; decide), by kernel_rfl⟩⟩
instance : TFld Tryd.prog 145 1 1 := ⟨⟨_, _, Tryd.underlying145, rfl, rfl, by simpa using (show ¬ ((Tryd.prog.info? 143).map (·.size) = some 0) by rw [(inferInstance : TSz Tryd.prog 143 _).h]; decide), by kernel_rfl⟩⟩
instance : TFld Tryd.prog 145 2 6 := ⟨⟨_, _, Tryd.underlying145, rfl, rfl, by simpa using (show ¬ ((Tryd.prog.info? 3).map (·.size) = some 0) by rw [(inferInstance : TSz Tryd.prog 3 _).h]; decide), by kernel_rfl⟩⟩
instance : TFld Tryd.prog 145 3 7 := ⟨⟨_, _, Tryd.underlying145, rfl, rfl, by simpa using (show ¬ ((Tryd.prog.info? 48).map (·.size) = some 0) by rw [(inferInstance : TSz Tryd.prog 48 _).h]; decide), by kernel_rfl⟩⟩
-- 146: func(api.Tree) bool
instance : TSz Tryd.prog 146 1 := ⟨by kernel_rfl⟩
instance : TBy Tryd.prog 146 8 := ⟨by kernel_rfl⟩
instance : TOne Tryd.prog 146 := ⟨⟨_, Tryd.underlying146, rfl⟩⟩
instance : TZ Tryd.prog 146 (.nilFunc) := ⟨by kernel_rfl⟩
-- 147: *mtree.change
instance : TU Tryd.prog 147 (.pointer 149) := ⟨by kernel_rfl⟩
instance : TSz Tryd.prog 147 1 := ⟨by kernel_rfl⟩
instance : TBy Tryd.prog 147 8 := ⟨by kernel_rfl⟩
instance : TOne Tryd.prog 147 := ⟨⟨_, Tryd.underlying147, rfl⟩⟩
instance : TZ Tryd.prog 147 (.pointer none) := ⟨by kernel_rfl⟩
-- 148: struct { *mtree.Grove; saved []int; gone []int }
instance : TSz Tryd.prog 148 3 := ⟨by kernel_rfl⟩
instance : TBy Tryd.prog 148 56 := ⟨by kernel_rfl⟩
instance : TAgg Tryd.prog 148 3 := ⟨⟨_, Tryd.underlying148, rfl⟩, by kernel_rfl⟩
def z148 : List Value := [.pointer none, .slice none 0 0, .slice none 0 0]
instance : TZ Tryd.prog 148 (.agg z148.toArray) := ⟨by kernel_rfl⟩
instance : TFld Tryd.prog 148 0 0 := ⟨⟨_, _, Tryd.underlying148, rfl, rfl, by simpa using (show ¬ ((Tryd.prog.info? 52).map (·.size) = some 0) by rw [(inferInstance : TSz Tryd.prog 52 _).h]; decide), by kernel_rfl⟩⟩
instance : TFld Tryd.prog 148 1 1 := ⟨⟨_, _, Tryd.underlying148, rfl, rfl, by simpa using (show ¬ ((Tryd.prog.info? 75).map (·.size) = some 0) by rw [(inferInstance : TSz Tryd.prog 75 _).h]; decide), by kernel_rfl⟩⟩
instance : TFld Tryd.prog 148 2 2 := ⟨⟨_, _, Tryd.underlying148, rfl, rfl, by simpa using (show ¬ ((Tryd.prog.info? 75).map (·.size) = some 0) by rw [(inferInstance : TSz Tryd.prog 75 _).h]; decide), by kernel_rfl⟩⟩
-- 149: mtree.change
instance : TSz Tryd.prog 149 3 := ⟨by kernel_rfl⟩
instance : TBy Tryd.prog 149 56 := ⟨by kernel_rfl⟩
instance : TAgg Tryd.prog 149 3 := ⟨⟨_, Tryd.underlying149, rfl⟩, by kernel_rfl⟩
def z149 : List Value := [.pointer none, .slice none 0 0, .slice none 0 0]
instance : TZ Tryd.prog 149 (.agg z149.toArray) := ⟨by kernel_rfl⟩
instance : TFld Tryd.prog 149 0 0 := ⟨⟨_, _, Tryd.underlying149, rfl, rfl, by simpa using (show ¬ ((Tryd.prog.info? 52).map (·.size) = some 0) by rw [(inferInstance : TSz Tryd.prog 52 _).h]; decide), by kernel_rfl⟩⟩
instance : TFld Tryd.prog 149 1 1 := ⟨⟨_, _, Tryd.underlying149, rfl, rfl, by simpa using (show ¬ ((Tryd.prog.info? 75).map (·.size) = some 0) by rw [(inferInstance : TSz Tryd.prog 75 _).h]; decide), by kernel_rfl⟩⟩
instance : TFld Tryd.prog 149 2 2 := ⟨⟨_, _, Tryd.underlying149, rfl, rfl, by simpa using (show ¬ ((Tryd.prog.info? 75).map (·.size) = some 0) by rw [(inferInstance : TSz Tryd.prog 75 _).h]; decide), by kernel_rfl⟩⟩
-- 151: func(api.Ptr, mtree.spot, int, []uint8) (api.Ptr, api.Errno)
instance : TSz Tryd.prog 151 1 := ⟨by kernel_rfl⟩
instance : TBy Tryd.prog 151 8 := ⟨by kernel_rfl⟩
instance : TOne Tryd.prog 151 := ⟨⟨_, Tryd.underlying151, rfl⟩⟩
instance : TZ Tryd.prog 151 (.nilFunc) := ⟨by kernel_rfl⟩
-- 152: struct { level int; first int }
instance : TSz Tryd.prog 152 2 := ⟨by kernel_rfl⟩
instance : TBy Tryd.prog 152 16 := ⟨by kernel_rfl⟩
instance : TAgg Tryd.prog 152 2 := ⟨⟨_, Tryd.underlying152, rfl⟩, by kernel_rfl⟩
def z152 : List Value := [.int .i64 0, .int .i64 0]
instance : TZ Tryd.prog 152 (.agg z152.toArray) := ⟨by kernel_rfl⟩
def K152 : List IntKind := [.i64, .i64]
instance : TFlat Tryd.prog 152 K152 := ⟨by kernel_rfl, by kernel_rfl, by kernel_rfl⟩
instance : TFld Tryd.prog 152 0 0 := ⟨⟨_, _, Tryd.underlying152, rfl, rfl, by simpa using (show ¬ ((Tryd.prog.info? 3).map (·.size) = some 0) by rw [(inferInstance : TSz Tryd.prog 3 _).h]; decide), by kernel_rfl⟩⟩
instance : TFld Tryd.prog 152 1 1 := ⟨⟨_, _, Tryd.underlying152, rfl, rfl, by simpa using (show ¬ ((Tryd.prog.info? 3).map (·.size) = some 0) by rw [(inferInstance : TSz Tryd.prog 3 _).h]; decide), by kernel_rfl⟩⟩
-- 153: mtree.spot
instance : TSz Tryd.prog 153 2 := ⟨by kernel_rfl⟩
instance : TBy Tryd.prog 153 16 := ⟨by kernel_rfl⟩
instance : TAgg Tryd.prog 153 2 := ⟨⟨_, Tryd.underlying153, rfl⟩, by kernel_rfl⟩
def z153 : List Value := [.int .i64 0, .int .i64 0]
instance : TZ Tryd.prog 153 (.agg z153.toArray) := ⟨by kernel_rfl⟩
def K153 : List IntKind := [.i64, .i64]
instance : TFlat Tryd.prog 153 K153 := ⟨by kernel_rfl, by kernel_rfl, by kernel_rfl⟩
instance : TFld Tryd.prog 153 0 0 := ⟨⟨_, _, Tryd.underlying153, rfl, rfl, by simpa using (show ¬ ((Tryd.prog.info? 3).map (·.size) = some 0) by rw [(inferInstance : TSz Tryd.prog 3 _).h]; decide), by kernel_rfl⟩⟩
instance : TFld Tryd.prog 153 1 1 := ⟨⟨_, _, Tryd.underlying153, rfl, rfl, by simpa using (show ¬ ((Tryd.prog.info? 3).map (·.size) = some 0) by rw [(inferInstance : TSz Tryd.prog 3 _).h]; decide), by kernel_rfl⟩⟩
-- 154: func(api.Tree, api.Errno) (api.Tree, api.Errno)
instance : TSz Tryd.prog 154 1 := ⟨by kernel_rfl⟩
instance : TBy Tryd.prog 154 8 := ⟨by kernel_rfl⟩
instance : TOne Tryd.prog 154 := ⟨⟨_, Tryd.underlying154, rfl⟩⟩
instance : TZ Tryd.prog 154 (.nilFunc) := ⟨by kernel_rfl⟩
-- 155: func(int, int) []uint8
instance : TSz Tryd.prog 155 1 := ⟨by kernel_rfl⟩
instance : TBy Tryd.prog 155 8 := ⟨by kernel_rfl⟩
instance : TOne Tryd.prog 155 := ⟨⟨_, Tryd.underlying155, rfl⟩⟩
instance : TZ Tryd.prog 155 (.nilFunc) := ⟨by kernel_rfl⟩
-- 156: func([]uint8, []uint8) string
instance : TSz Tryd.prog 156 1 := ⟨by kernel_rfl⟩
instance : TBy Tryd.prog 156 8 := ⟨by kernel_rfl⟩
instance : TOne Tryd.prog 156 := ⟨⟨_, Tryd.underlying156, rfl⟩⟩
instance : TZ Tryd.prog 156 (.nilFunc) := ⟨by kernel_rfl⟩
-- 157: [14]api.Ptr
instance : TU Tryd.prog 157 (.array 14 38) := ⟨by kernel_rfl⟩
instance : TSz Tryd.prog 157 462 := ⟨by kernel_rfl⟩
instance : TBy Tryd.prog 157 560 := ⟨by kernel_rfl⟩
instance : TAgg Tryd.prog 157 462 := ⟨⟨_, Tryd.underlying157, rfl⟩, by kernel_rfl⟩
def z157 : List Value := [.int .i64 0] ++ List.replicate 32 (.int .u8 0) ++ [.int .i64 0] ++ List.replicate 32 (.int .u8 0) ++ [.int .i64 0] ++ List.replicate 32 (.int .u8 0) ++ [.int .i64 0] ++ List.replicate 32 (.int .u8 0) ++ [.int .i64 0] ++ List.replicate 32 (.int .u8 0) ++ [.int .i64 0] ++ List.replicate 32 (.int .u8 0) ++ [.int .i64 0] ++ List.replicate 32 (.int .u8 0) ++ [.int .i64 0] ++ List.replicate 32 (.int .u8 0) ++ [.int .i64 0] ++ List.replicate 32 (.int .u8 0) ++ [.int .i64 0] ++ List.replicate 32 (.int .u8 0) ++ [.int .i64 0] ++ List.replicate 32 (.int .u8 0) ++ [.int .i64 0] ++ List.replicate 32 (.int .u8 0) ++ [.int .i64 0] ++ List.replicate 32 (.int .u8 0) ++ [.int .i64 0] ++ List.replicate 32 (.int .u8 0)
instance : TZ Tryd.prog 157 (.agg z157.toArray) := ⟨by kernel_rfl⟩
def K157 : List IntKind := [.i64] ++ List.replicate 32 .u8 ++ [.i64] ++ List.replicate 32 .u8 ++ [.i64] ++ List.replicate 32 .u8 ++ [.i64] ++ List.replicate 32 .u8 ++ [.i64] ++ List.replicate 32 .u8 ++ [.i64] ++ List.replicate 32 .u8 ++ [.i64] ++ List.replicate 32 .u8 ++ [.i64] ++ List.replicate 32 .u8 ++ [.i64] ++ List.replicate 32 .u8 ++ [.i64] ++ List.replicate 32 .u8 ++ [.i64] ++ List.replicate 32 .u8 ++ [.i64] ++ List.replicate 32 .u8 ++ [.i64] ++ List.replicate 32 .u8 ++ [.i64] ++ List.replicate 32 .u8
instance : TFlat Tryd.prog 157 K157 := ⟨by kernel_rfl, by kernel_rfl, by kernel_rfl⟩
-- 159: func(api.Ptr, mtree.spot) ([14]api.Ptr, api.Errno)
instance : TSz Tryd.prog 159 1 := ⟨by kernel_rfl⟩
instance : TBy Tryd.prog 159 8 := ⟨by kernel_rfl⟩
instance : TOne Tryd.prog 159 := ⟨⟨_, Tryd.underlying159, rfl⟩⟩
instance : TZ Tryd.prog 159 (.nilFunc) := ⟨by kernel_rfl⟩
-- 160: func(int) mtree.spot
instance : TSz Tryd.prog 160 1 := ⟨by kernel_rfl⟩
instance : TBy Tryd.prog 160 8 := ⟨by kernel_rfl⟩
instance : TOne Tryd.prog 160 := ⟨⟨_, Tryd.underlying160, rfl⟩⟩
instance : TZ Tryd.prog 160 (.nilFunc) := ⟨by kernel_rfl⟩
-- 161: func(api.Ptr, mtree.spot) ([]uint8, api.Errno)
instance : TSz Tryd.prog 161 1 := ⟨by kernel_rfl⟩
instance : TBy Tryd.prog 161 8 := ⟨by kernel_rfl⟩
instance : TOne Tryd.prog 161 := ⟨⟨_, Tryd.underlying161, rfl⟩⟩
instance : TZ Tryd.prog 161 (.nilFunc) := ⟨by kernel_rfl⟩
-- 162: func([16]uint8) *keyring.entry
instance : TSz Tryd.prog 162 1 := ⟨by kernel_rfl⟩
instance : TBy Tryd.prog 162 8 := ⟨by kernel_rfl⟩
instance : TOne Tryd.prog 162 := ⟨⟨_, Tryd.underlying162, rfl⟩⟩
instance : TZ Tryd.prog 162 (.nilFunc) := ⟨by kernel_rfl⟩
-- 163: func(*keyring.entry)
instance : TSz Tryd.prog 163 1 := ⟨by kernel_rfl⟩
instance : TBy Tryd.prog 163 8 := ⟨by kernel_rfl⟩
instance : TOne Tryd.prog 163 := ⟨⟨_, Tryd.underlying163, rfl⟩⟩
instance : TZ Tryd.prog 163 (.nilFunc) := ⟨by kernel_rfl⟩
-- 164: func(api.Ptr, mtree.spot) ([]int, api.Errno)
instance : TSz Tryd.prog 164 1 := ⟨by kernel_rfl⟩
instance : TBy Tryd.prog 164 8 := ⟨by kernel_rfl⟩
instance : TOne Tryd.prog 164 := ⟨⟨_, Tryd.underlying164, rfl⟩⟩
instance : TZ Tryd.prog 164 (.nilFunc) := ⟨by kernel_rfl⟩
-- 165: struct { ID string; Key string; Holds int }
instance : TSz Tryd.prog 165 3 := ⟨by kernel_rfl⟩
instance : TBy Tryd.prog 165 40 := ⟨by kernel_rfl⟩
instance : TAgg Tryd.prog 165 3 := ⟨⟨_, Tryd.underlying165, rfl⟩, by kernel_rfl⟩
def z165 : List Value := [.string ⟨#[]⟩, .string ⟨#[]⟩, .int .i64 0]
instance : TZ Tryd.prog 165 (.agg z165.toArray) := ⟨by kernel_rfl⟩
instance : TFld Tryd.prog 165 0 0 := ⟨⟨_, _, Tryd.underlying165, rfl, rfl, by simpa using (show ¬ ((Tryd.prog.info? 9).map (·.size) = some 0) by rw [(inferInstance : TSz Tryd.prog 9 _).h]; decide), by kernel_rfl⟩⟩
instance : TFld Tryd.prog 165 1 1 := ⟨⟨_, _, Tryd.underlying165, rfl, rfl, by simpa using (show ¬ ((Tryd.prog.info? 9).map (·.size) = some 0) by rw [(inferInstance : TSz Tryd.prog 9 _).h]; decide), by kernel_rfl⟩⟩
instance : TFld Tryd.prog 165 2 2 := ⟨⟨_, _, Tryd.underlying165, rfl, rfl, by simpa using (show ¬ ((Tryd.prog.info? 3).map (·.size) = some 0) by rw [(inferInstance : TSz Tryd.prog 3 _).h]; decide), by kernel_rfl⟩⟩
-- 166: turnkeyref23.Key
instance : TSz Tryd.prog 166 3 := ⟨by kernel_rfl⟩
instance : TBy Tryd.prog 166 40 := ⟨by kernel_rfl⟩
instance : TAgg Tryd.prog 166 3 := ⟨⟨_, Tryd.underlying166, rfl⟩, by kernel_rfl⟩
def z166 : List Value := [.string ⟨#[]⟩, .string ⟨#[]⟩, .int .i64 0]
instance : TZ Tryd.prog 166 (.agg z166.toArray) := ⟨by kernel_rfl⟩
instance : TFld Tryd.prog 166 0 0 := ⟨⟨_, _, Tryd.underlying166, rfl, rfl, by simpa using (show ¬ ((Tryd.prog.info? 9).map (·.size) = some 0) by rw [(inferInstance : TSz Tryd.prog 9 _).h]; decide), by kernel_rfl⟩⟩
instance : TFld Tryd.prog 166 1 1 := ⟨⟨_, _, Tryd.underlying166, rfl, rfl, by simpa using (show ¬ ((Tryd.prog.info? 9).map (·.size) = some 0) by rw [(inferInstance : TSz Tryd.prog 9 _).h]; decide), by kernel_rfl⟩⟩
instance : TFld Tryd.prog 166 2 2 := ⟨⟨_, _, Tryd.underlying166, rfl, rfl, by simpa using (show ¬ ((Tryd.prog.info? 3).map (·.size) = some 0) by rw [(inferInstance : TSz Tryd.prog 3 _).h]; decide), by kernel_rfl⟩⟩
-- 167: func([]uint8) *tape.Lazy
instance : TSz Tryd.prog 167 1 := ⟨by kernel_rfl⟩
instance : TBy Tryd.prog 167 8 := ⟨by kernel_rfl⟩
instance : TOne Tryd.prog 167 := ⟨⟨_, Tryd.underlying167, rfl⟩⟩
instance : TZ Tryd.prog 167 (.nilFunc) := ⟨by kernel_rfl⟩
-- 168: interface { Drop(int) api.Errno; Load(int) ([]uint8, api.Errno); Save([]uint8) (int, api.Errno) }
instance : TSz Tryd.prog 168 1 := ⟨by kernel_rfl⟩
instance : TBy Tryd.prog 168 16 := ⟨by kernel_rfl⟩
instance : TOne Tryd.prog 168 := ⟨⟨_, Tryd.underlying168, rfl⟩⟩
instance : TZ Tryd.prog 168 (.nilIface) := ⟨by kernel_rfl⟩
-- 169: mtree.Store
instance : TSz Tryd.prog 169 1 := ⟨by kernel_rfl⟩
instance : TBy Tryd.prog 169 16 := ⟨by kernel_rfl⟩
instance : TOne Tryd.prog 169 := ⟨⟨_, Tryd.underlying169, rfl⟩⟩
instance : TZ Tryd.prog 169 (.nilIface) := ⟨by kernel_rfl⟩
-- 170: struct { store mtree.Store; o *oracle.Oracle; key []uint8; name []uint8 }
instance : TSz Tryd.prog 170 4 := ⟨by kernel_rfl⟩
instance : TBy Tryd.prog 170 72 := ⟨by kernel_rfl⟩
instance : TAgg Tryd.prog 170 4 := ⟨⟨_, Tryd.underlying170, rfl⟩, by kernel_rfl⟩
def z170 : List Value := [.nilIface, .pointer none, .slice none 0 0, .slice none 0 0]
instance : TZ Tryd.prog 170 (.agg z170.toArray) := ⟨by kernel_rfl⟩
instance : TFld Tryd.prog 170 0 0 := ⟨⟨_, _, Tryd.underlying170, rfl, rfl, by simpa using (show ¬ ((Tryd.prog.info? 169).map (·.size) = some 0) by rw [(inferInstance : TSz Tryd.prog 169 _).h]; decide), by kernel_rfl⟩⟩
instance : TFld Tryd.prog 170 1 1 := ⟨⟨_, _, Tryd.underlying170, rfl, rfl, by simpa using (show ¬ ((Tryd.prog.info? 29).map (·.size) = some 0) by rw [(inferInstance : TSz Tryd.prog 29 _).h]; decide), by kernel_rfl⟩⟩
instance : TFld Tryd.prog 170 2 2 := ⟨⟨_, _, Tryd.underlying170, rfl, rfl, by simpa using (show ¬ ((Tryd.prog.info? 31).map (·.size) = some 0) by rw [(inferInstance : TSz Tryd.prog 31 _).h]; decide), by kernel_rfl⟩⟩
instance : TFld Tryd.prog 170 3 3 := ⟨⟨_, _, Tryd.underlying170, rfl, rfl, by simpa using (show ¬ ((Tryd.prog.info? 31).map (·.size) = some 0) by rw [(inferInstance : TSz Tryd.prog 31 _).h]; decide), by kernel_rfl⟩⟩
-- 171: mtree.Grove
instance : TSz Tryd.prog 171 4 := ⟨by kernel_rfl⟩
instance : TBy Tryd.prog 171 72 := ⟨by kernel_rfl⟩
instance : TAgg Tryd.prog 171 4 := ⟨⟨_, Tryd.underlying171, rfl⟩, by kernel_rfl⟩
def z171 : List Value := [.nilIface, .pointer none, .slice none 0 0, .slice none 0 0]
instance : TZ Tryd.prog 171 (.agg z171.toArray) := ⟨by kernel_rfl⟩
instance : TFld Tryd.prog 171 0 0 := ⟨⟨_, _, Tryd.underlying171, rfl, rfl, by simpa using (show ¬ ((Tryd.prog.info? 169).map (·.size) = some 0) by rw [(inferInstance : TSz Tryd.prog 169 _).h]; decide), by kernel_rfl⟩⟩
instance : TFld Tryd.prog 171 1 1 := ⟨⟨_, _, Tryd.underlying171, rfl, rfl, by simpa using (show ¬ ((Tryd.prog.info? 29).map (·.size) = some 0) by rw [(inferInstance : TSz Tryd.prog 29 _).h]; decide), by kernel_rfl⟩⟩
instance : TFld Tryd.prog 171 2 2 := ⟨⟨_, _, Tryd.underlying171, rfl, rfl, by simpa using (show ¬ ((Tryd.prog.info? 31).map (·.size) = some 0) by rw [(inferInstance : TSz Tryd.prog 31 _).h]; decide), by kernel_rfl⟩⟩
instance : TFld Tryd.prog 171 3 3 := ⟨⟨_, _, Tryd.underlying171, rfl, rfl, by simpa using (show ¬ ((Tryd.prog.info? 31).map (·.size) = some 0) by rw [(inferInstance : TSz Tryd.prog 31 _).h]; decide), by kernel_rfl⟩⟩
-- 172: func(api.Inode) bool
instance : TSz Tryd.prog 172 1 := ⟨by kernel_rfl⟩
instance : TBy Tryd.prog 172 8 := ⟨by kernel_rfl⟩
instance : TOne Tryd.prog 172 := ⟨⟨_, Tryd.underlying172, rfl⟩⟩
instance : TZ Tryd.prog 172 (.nilFunc) := ⟨by kernel_rfl⟩
-- 173: struct { I int; B string }
instance : TSz Tryd.prog 173 2 := ⟨by kernel_rfl⟩
instance : TBy Tryd.prog 173 24 := ⟨by kernel_rfl⟩
instance : TAgg Tryd.prog 173 2 := ⟨⟨_, Tryd.underlying173, rfl⟩, by kernel_rfl⟩
def z173 : List Value := [.int .i64 0, .string ⟨#[]⟩]
instance : TZ Tryd.prog 173 (.agg z173.toArray) := ⟨by kernel_rfl⟩
instance : TFld Tryd.prog 173 0 0 := ⟨⟨_, _, Tryd.underlying173, rfl, rfl, by simpa using (show ¬ ((Tryd.prog.info? 3).map (·.size) = some 0) by rw [(inferInstance : TSz Tryd.prog 3 _).h]; decide), by kernel_rfl⟩⟩
instance : TFld Tryd.prog 173 1 1 := ⟨⟨_, _, Tryd.underlying173, rfl, rfl, by simpa using (show ¬ ((Tryd.prog.info? 9).map (·.size) = some 0) by rw [(inferInstance : TSz Tryd.prog 9 _).h]; decide), by kernel_rfl⟩⟩
-- 174: turnkeyref16.Block
instance : TSz Tryd.prog 174 2 := ⟨by kernel_rfl⟩
instance : TBy Tryd.prog 174 24 := ⟨by kernel_rfl⟩
instance : TAgg Tryd.prog 174 2 := ⟨⟨_, Tryd.underlying174, rfl⟩, by kernel_rfl⟩
def z174 : List Value := [.int .i64 0, .string ⟨#[]⟩]
instance : TZ Tryd.prog 174 (.agg z174.toArray) := ⟨by kernel_rfl⟩
instance : TFld Tryd.prog 174 0 0 := ⟨⟨_, _, Tryd.underlying174, rfl, rfl, by simpa using (show ¬ ((Tryd.prog.info? 3).map (·.size) = some 0) by rw [(inferInstance : TSz Tryd.prog 3 _).h]; decide), by kernel_rfl⟩⟩
instance : TFld Tryd.prog 174 1 1 := ⟨⟨_, _, Tryd.underlying174, rfl, rfl, by simpa using (show ¬ ((Tryd.prog.info? 9).map (·.size) = some 0) by rw [(inferInstance : TSz Tryd.prog 9 _).h]; decide), by kernel_rfl⟩⟩
-- 175: func(api.Ptr, mtree.spot, int) (api.Ptr, api.Errno)
instance : TSz Tryd.prog 175 1 := ⟨by kernel_rfl⟩
instance : TBy Tryd.prog 175 8 := ⟨by kernel_rfl⟩
instance : TOne Tryd.prog 175 := ⟨⟨_, Tryd.underlying175, rfl⟩⟩
instance : TZ Tryd.prog 175 (.nilFunc) := ⟨by kernel_rfl⟩
-- 176: func([]turnkeyref16.Block, int) int
instance : TSz Tryd.prog 176 1 := ⟨by kernel_rfl⟩
instance : TBy Tryd.prog 176 8 := ⟨by kernel_rfl⟩
instance : TOne Tryd.prog 176 := ⟨⟨_, Tryd.underlying176, rfl⟩⟩
instance : TZ Tryd.prog 176 (.nilFunc) := ⟨by kernel_rfl⟩
-- 177: func() int
instance : TSz Tryd.prog 177 1 := ⟨by kernel_rfl⟩
instance : TBy Tryd.prog 177 8 := ⟨by kernel_rfl⟩
instance : TOne Tryd.prog 177 := ⟨⟨_, Tryd.underlying177, rfl⟩⟩
instance : TZ Tryd.prog 177 (.nilFunc) := ⟨by kernel_rfl⟩
-- 178: func(...uint8) int
instance : TSz Tryd.prog 178 1 := ⟨by kernel_rfl⟩
instance : TBy Tryd.prog 178 8 := ⟨by kernel_rfl⟩
instance : TOne Tryd.prog 178 := ⟨⟨_, Tryd.underlying178, rfl⟩⟩
instance : TZ Tryd.prog 178 (.nilFunc) := ⟨by kernel_rfl⟩
-- 179: func([]uint8) int
instance : TSz Tryd.prog 179 1 := ⟨by kernel_rfl⟩
instance : TBy Tryd.prog 179 8 := ⟨by kernel_rfl⟩
instance : TOne Tryd.prog 179 := ⟨⟨_, Tryd.underlying179, rfl⟩⟩
instance : TZ Tryd.prog 179 (.nilFunc) := ⟨by kernel_rfl⟩
-- 180: func(api.Tree, api.Turn) (api.Tree, api.Errno)
instance : TSz Tryd.prog 180 1 := ⟨by kernel_rfl⟩
instance : TBy Tryd.prog 180 8 := ⟨by kernel_rfl⟩
instance : TOne Tryd.prog 180 := ⟨⟨_, Tryd.underlying180, rfl⟩⟩
instance : TZ Tryd.prog 180 (.nilFunc) := ⟨by kernel_rfl⟩
-- 181: [64]uint8
instance : TU Tryd.prog 181 (.array 64 5) := ⟨by kernel_rfl⟩
instance : TSz Tryd.prog 181 64 := ⟨by kernel_rfl⟩
instance : TBy Tryd.prog 181 64 := ⟨by kernel_rfl⟩
instance : TAgg Tryd.prog 181 64 := ⟨⟨_, Tryd.underlying181, rfl⟩, by kernel_rfl⟩
def z181 : List Value := List.replicate 64 (.int .u8 0)
instance : TZ Tryd.prog 181 (.agg z181.toArray) := ⟨by kernel_rfl⟩
def K181 : List IntKind := List.replicate 64 .u8
instance : TFlat Tryd.prog 181 K181 := ⟨by kernel_rfl, by kernel_rfl, by kernel_rfl⟩
-- 182: func([]uint8, ...[]uint8) [64]uint8
instance : TSz Tryd.prog 182 1 := ⟨by kernel_rfl⟩
instance : TBy Tryd.prog 182 8 := ⟨by kernel_rfl⟩
instance : TOne Tryd.prog 182 := ⟨⟨_, Tryd.underlying182, rfl⟩⟩
instance : TZ Tryd.prog 182 (.nilFunc) := ⟨by kernel_rfl⟩
-- 183: func(...[]uint8) []uint8
instance : TSz Tryd.prog 183 1 := ⟨by kernel_rfl⟩
instance : TBy Tryd.prog 183 8 := ⟨by kernel_rfl⟩
instance : TOne Tryd.prog 183 := ⟨⟨_, Tryd.underlying183, rfl⟩⟩
instance : TZ Tryd.prog 183 (.nilFunc) := ⟨by kernel_rfl⟩
-- 184: func([]*keyring.entry, [16]uint8, func(*keyring.entry, [16]uint8) int) (int, bool)
instance : TSz Tryd.prog 184 1 := ⟨by kernel_rfl⟩
instance : TBy Tryd.prog 184 8 := ⟨by kernel_rfl⟩
instance : TOne Tryd.prog 184 := ⟨⟨_, Tryd.underlying184, rfl⟩⟩
instance : TZ Tryd.prog 184 (.nilFunc) := ⟨by kernel_rfl⟩
-- 185: func([]uint8, []uint8) int
instance : TSz Tryd.prog 185 1 := ⟨by kernel_rfl⟩
instance : TBy Tryd.prog 185 8 := ⟨by kernel_rfl⟩
instance : TOne Tryd.prog 185 := ⟨⟨_, Tryd.underlying185, rfl⟩⟩
instance : TZ Tryd.prog 185 (.nilFunc) := ⟨by kernel_rfl⟩
-- 186: func(*keyring.entry, [16]uint8) int
instance : TSz Tryd.prog 186 1 := ⟨by kernel_rfl⟩
instance : TBy Tryd.prog 186 8 := ⟨by kernel_rfl⟩
instance : TOne Tryd.prog 186 := ⟨⟨_, Tryd.underlying186, rfl⟩⟩
instance : TZ Tryd.prog 186 (.nilFunc) := ⟨by kernel_rfl⟩
-- 187: func([]*keyring.entry, []*keyring.entry) bool
instance : TSz Tryd.prog 187 1 := ⟨by kernel_rfl⟩
instance : TBy Tryd.prog 187 8 := ⟨by kernel_rfl⟩
instance : TOne Tryd.prog 187 := ⟨⟨_, Tryd.underlying187, rfl⟩⟩
instance : TZ Tryd.prog 187 (.nilFunc) := ⟨by kernel_rfl⟩
-- 188: func([]*keyring.entry, int)
instance : TSz Tryd.prog 188 1 := ⟨by kernel_rfl⟩
instance : TBy Tryd.prog 188 8 := ⟨by kernel_rfl⟩
instance : TOne Tryd.prog 188 := ⟨⟨_, Tryd.underlying188, rfl⟩⟩
instance : TZ Tryd.prog 188 (.nilFunc) := ⟨by kernel_rfl⟩
-- 189: func([14]api.Ptr, mtree.spot) (api.Ptr, api.Errno)
instance : TSz Tryd.prog 189 1 := ⟨by kernel_rfl⟩
instance : TBy Tryd.prog 189 8 := ⟨by kernel_rfl⟩
instance : TOne Tryd.prog 189 := ⟨⟨_, Tryd.underlying189, rfl⟩⟩
instance : TZ Tryd.prog 189 (.nilFunc) := ⟨by kernel_rfl⟩
-- 190: func(api.Ptr)
instance : TSz Tryd.prog 190 1 := ⟨by kernel_rfl⟩
instance : TBy Tryd.prog 190 8 := ⟨by kernel_rfl⟩
instance : TOne Tryd.prog 190 := ⟨⟨_, Tryd.underlying190, rfl⟩⟩
instance : TZ Tryd.prog 190 (.nilFunc) := ⟨by kernel_rfl⟩
-- 191: func([]uint8, mtree.spot) (api.Ptr, api.Errno)
instance : TSz Tryd.prog 191 1 := ⟨by kernel_rfl⟩
instance : TBy Tryd.prog 191 8 := ⟨by kernel_rfl⟩
instance : TOne Tryd.prog 191 := ⟨⟨_, Tryd.underlying191, rfl⟩⟩
instance : TZ Tryd.prog 191 (.nilFunc) := ⟨by kernel_rfl⟩
-- 192: func(int) api.Errno
instance : TSz Tryd.prog 192 1 := ⟨by kernel_rfl⟩
instance : TBy Tryd.prog 192 8 := ⟨by kernel_rfl⟩
instance : TOne Tryd.prog 192 := ⟨⟨_, Tryd.underlying192, rfl⟩⟩
instance : TZ Tryd.prog 192 (.nilFunc) := ⟨by kernel_rfl⟩
-- 193: uint64
instance : TU Tryd.prog 193 (.int .u64) := ⟨by kernel_rfl⟩
instance : TSz Tryd.prog 193 1 := ⟨by kernel_rfl⟩
instance : TBy Tryd.prog 193 8 := ⟨by kernel_rfl⟩
instance : TOne Tryd.prog 193 := ⟨⟨_, Tryd.underlying193, rfl⟩⟩
instance : TZ Tryd.prog 193 (.int .u64 0) := ⟨by kernel_rfl⟩
-- 194: func(string, string, int) string
instance : TSz Tryd.prog 194 1 := ⟨by kernel_rfl⟩
instance : TBy Tryd.prog 194 8 := ⟨by kernel_rfl⟩
instance : TOne Tryd.prog 194 := ⟨⟨_, Tryd.underlying194, rfl⟩⟩
instance : TZ Tryd.prog 194 (.nilFunc) := ⟨by kernel_rfl⟩
-- 195: func(int) ([]uint8, api.Errno)
instance : TSz Tryd.prog 195 1 := ⟨by kernel_rfl⟩
instance : TBy Tryd.prog 195 8 := ⟨by kernel_rfl⟩
instance : TOne Tryd.prog 195 := ⟨⟨_, Tryd.underlying195, rfl⟩⟩
instance : TZ Tryd.prog 195 (.nilFunc) := ⟨by kernel_rfl⟩
-- 196: func(mtree.spot, []uint8) [32]uint8
instance : TSz Tryd.prog 196 1 := ⟨by kernel_rfl⟩
instance : TBy Tryd.prog 196 8 := ⟨by kernel_rfl⟩
instance : TOne Tryd.prog 196 := ⟨⟨_, Tryd.underlying196, rfl⟩⟩
instance : TZ Tryd.prog 196 (.nilFunc) := ⟨by kernel_rfl⟩
-- 197: func([]uint8, []uint8) bool
instance : TSz Tryd.prog 197 1 := ⟨by kernel_rfl⟩
instance : TBy Tryd.prog 197 8 := ⟨by kernel_rfl⟩
instance : TOne Tryd.prog 197 := ⟨⟨_, Tryd.underlying197, rfl⟩⟩
instance : TZ Tryd.prog 197 (.nilFunc) := ⟨by kernel_rfl⟩
-- 198: func([]*keyring.entry, func(*keyring.entry) bool) []*keyring.entry
instance : TSz Tryd.prog 198 1 := ⟨by kernel_rfl⟩
instance : TBy Tryd.prog 198 8 := ⟨by kernel_rfl⟩
instance : TOne Tryd.prog 198 := ⟨⟨_, Tryd.underlying198, rfl⟩⟩
instance : TZ Tryd.prog 198 (.nilFunc) := ⟨by kernel_rfl⟩
-- 199: func(*keyring.entry) bool
instance : TSz Tryd.prog 199 1 := ⟨by kernel_rfl⟩
instance : TBy Tryd.prog 199 8 := ⟨by kernel_rfl⟩
instance : TOne Tryd.prog 199 := ⟨⟨_, Tryd.underlying199, rfl⟩⟩
instance : TZ Tryd.prog 199 (.nilFunc) := ⟨by kernel_rfl⟩
-- 200: map[string]*tape.table
instance : TU Tryd.prog 200 (.map 9 232) := ⟨by kernel_rfl⟩
instance : TSz Tryd.prog 200 1 := ⟨by kernel_rfl⟩
instance : TBy Tryd.prog 200 8 := ⟨by kernel_rfl⟩
instance : TOne Tryd.prog 200 := ⟨⟨_, Tryd.underlying200, rfl⟩⟩
instance : TZ Tryd.prog 200 (.map none) := ⟨by kernel_rfl⟩
-- 201: struct { seed []uint8; functions map[string]*tape.table; pairs map[string]*tape.table; bad bool; n int }
instance : TSz Tryd.prog 201 5 := ⟨by kernel_rfl⟩
instance : TBy Tryd.prog 201 56 := ⟨by kernel_rfl⟩
instance : TAgg Tryd.prog 201 5 := ⟨⟨_, Tryd.underlying201, rfl⟩, by kernel_rfl⟩
def z201 : List Value := [.slice none 0 0, .map none, .map none, .bool false, .int .i64 0]
instance : TZ Tryd.prog 201 (.agg z201.toArray) := ⟨by kernel_rfl⟩
instance : TFld Tryd.prog 201 0 0 := ⟨⟨_, _, Tryd.underlying201, rfl, rfl, by simpa using (show ¬ ((Tryd.prog.info? 31).map (·.size) = some 0) by rw [(inferInstance : TSz Tryd.prog 31 _).h]; decide), by kernel_rfl⟩⟩
instance : TFld Tryd.prog 201 1 1 := ⟨⟨_, _, Tryd.underlying201, rfl, rfl, by simpa using (show ¬ ((Tryd.prog.info? 200).map (·.size) = some 0) by rw [(inferInstance : TSz Tryd.prog 200 _).h]; decide), by kernel_rfl⟩⟩
instance : TFld Tryd.prog 201 2 2 := ⟨⟨_, _, Tryd.underlying201, rfl, rfl, by simpa using (show ¬ ((Tryd.prog.info? 200).map (·.size) = some 0) by rw [(inferInstance : TSz Tryd.prog 200 _).h]; decide), by kernel_rfl⟩⟩
instance : TFld Tryd.prog 201 3 3 := ⟨⟨_, _, Tryd.underlying201, rfl, rfl, by simpa using (show ¬ ((Tryd.prog.info? 4).map (·.size) = some 0) by rw [(inferInstance : TSz Tryd.prog 4 _).h]; decide), by kernel_rfl⟩⟩
instance : TFld Tryd.prog 201 4 4 := ⟨⟨_, _, Tryd.underlying201, rfl, rfl, by simpa using (show ¬ ((Tryd.prog.info? 3).map (·.size) = some 0) by rw [(inferInstance : TSz Tryd.prog 3 _).h]; decide), by kernel_rfl⟩⟩
-- 202: tape.Lazy
instance : TSz Tryd.prog 202 5 := ⟨by kernel_rfl⟩
instance : TBy Tryd.prog 202 56 := ⟨by kernel_rfl⟩
instance : TAgg Tryd.prog 202 5 := ⟨⟨_, Tryd.underlying202, rfl⟩, by kernel_rfl⟩
def z202 : List Value := [.slice none 0 0, .map none, .map none, .bool false, .int .i64 0]
instance : TZ Tryd.prog 202 (.agg z202.toArray) := ⟨by kernel_rfl⟩
instance : TFld Tryd.prog 202 0 0 := ⟨⟨_, _, Tryd.underlying202, rfl, rfl, by simpa using (show ¬ ((Tryd.prog.info? 31).map (·.size) = some 0) by rw [(inferInstance : TSz Tryd.prog 31 _).h]; decide), by kernel_rfl⟩⟩
instance : TFld Tryd.prog 202 1 1 := ⟨⟨_, _, Tryd.underlying202, rfl, rfl, by simpa using (show ¬ ((Tryd.prog.info? 200).map (·.size) = some 0) by rw [(inferInstance : TSz Tryd.prog 200 _).h]; decide), by kernel_rfl⟩⟩
instance : TFld Tryd.prog 202 2 2 := ⟨⟨_, _, Tryd.underlying202, rfl, rfl, by simpa using (show ¬ ((Tryd.prog.info? 200).map (·.size) = some 0) by rw [(inferInstance : TSz Tryd.prog 200 _).h]; decide), by kernel_rfl⟩⟩
instance : TFld Tryd.prog 202 3 3 := ⟨⟨_, _, Tryd.underlying202, rfl, rfl, by simpa using (show ¬ ((Tryd.prog.info? 4).map (·.size) = some 0) by rw [(inferInstance : TSz Tryd.prog 4 _).h]; decide), by kernel_rfl⟩⟩
instance : TFld Tryd.prog 202 4 4 := ⟨⟨_, _, Tryd.underlying202, rfl, rfl, by simpa using (show ¬ ((Tryd.prog.info? 3).map (·.size) = some 0) by rw [(inferInstance : TSz Tryd.prog 3 _).h]; decide), by kernel_rfl⟩⟩
-- 203: uint
instance : TU Tryd.prog 203 (.int .u64) := ⟨by kernel_rfl⟩
instance : TSz Tryd.prog 203 1 := ⟨by kernel_rfl⟩
instance : TBy Tryd.prog 203 8 := ⟨by kernel_rfl⟩
instance : TOne Tryd.prog 203 := ⟨⟨_, Tryd.underlying203, rfl⟩⟩
instance : TZ Tryd.prog 203 (.int .u64 0) := ⟨by kernel_rfl⟩
-- 204: [][]uint8
instance : TU Tryd.prog 204 (.slice 31) := ⟨by kernel_rfl⟩
instance : TSz Tryd.prog 204 1 := ⟨by kernel_rfl⟩
instance : TBy Tryd.prog 204 24 := ⟨by kernel_rfl⟩
instance : TOne Tryd.prog 204 := ⟨⟨_, Tryd.underlying204, rfl⟩⟩
instance : TZ Tryd.prog 204 (.slice none 0 0) := ⟨by kernel_rfl⟩
-- 205: func(string, []uint8, [][]uint8, int) []uint8
instance : TSz Tryd.prog 205 1 := ⟨by kernel_rfl⟩
instance : TBy Tryd.prog 205 8 := ⟨by kernel_rfl⟩
instance : TOne Tryd.prog 205 := ⟨⟨_, Tryd.underlying205, rfl⟩⟩
instance : TZ Tryd.prog 205 (.nilFunc) := ⟨by kernel_rfl⟩
-- 206: func([]uint8, int) []uint8
instance : TSz Tryd.prog 206 1 := ⟨by kernel_rfl⟩
instance : TBy Tryd.prog 206 8 := ⟨by kernel_rfl⟩
instance : TOne Tryd.prog 206 := ⟨⟨_, Tryd.underlying206, rfl⟩⟩
instance : TZ Tryd.prog 206 (.nilFunc) := ⟨by kernel_rfl⟩
-- 208: func([]uint8) (int, api.Errno)
instance : TSz Tryd.prog 208 1 := ⟨by kernel_rfl⟩
instance : TBy Tryd.prog 208 8 := ⟨by kernel_rfl⟩
instance : TOne Tryd.prog 208 := ⟨⟨_, Tryd.underlying208, rfl⟩⟩
instance : TZ Tryd.prog 208 (.nilFunc) := ⟨by kernel_rfl⟩
-- 209: struct { Name string; X string; Y string }
instance : TSz Tryd.prog 209 3 := ⟨by kernel_rfl⟩
instance : TBy Tryd.prog 209 48 := ⟨by kernel_rfl⟩
instance : TAgg Tryd.prog 209 3 := ⟨⟨_, Tryd.underlying209, rfl⟩, by kernel_rfl⟩
def z209 : List Value := [.string ⟨#[]⟩, .string ⟨#[]⟩, .string ⟨#[]⟩]
instance : TZ Tryd.prog 209 (.agg z209.toArray) := ⟨by kernel_rfl⟩
instance : TFld Tryd.prog 209 0 0 := ⟨⟨_, _, Tryd.underlying209, rfl, rfl, by simpa using (show ¬ ((Tryd.prog.info? 9).map (·.size) = some 0) by rw [(inferInstance : TSz Tryd.prog 9 _).h]; decide), by kernel_rfl⟩⟩
instance : TFld Tryd.prog 209 1 1 := ⟨⟨_, _, Tryd.underlying209, rfl, rfl, by simpa using (show ¬ ((Tryd.prog.info? 9).map (·.size) = some 0) by rw [(inferInstance : TSz Tryd.prog 9 _).h]; decide), by kernel_rfl⟩⟩
instance : TFld Tryd.prog 209 2 2 := ⟨⟨_, _, Tryd.underlying209, rfl, rfl, by simpa using (show ¬ ((Tryd.prog.info? 9).map (·.size) = some 0) by rw [(inferInstance : TSz Tryd.prog 9 _).h]; decide), by kernel_rfl⟩⟩
-- 210: turnkeyref11.Told
instance : TSz Tryd.prog 210 3 := ⟨by kernel_rfl⟩
instance : TBy Tryd.prog 210 48 := ⟨by kernel_rfl⟩
instance : TAgg Tryd.prog 210 3 := ⟨⟨_, Tryd.underlying210, rfl⟩, by kernel_rfl⟩
def z210 : List Value := [.string ⟨#[]⟩, .string ⟨#[]⟩, .string ⟨#[]⟩]
instance : TZ Tryd.prog 210 (.agg z210.toArray) := ⟨by kernel_rfl⟩
instance : TFld Tryd.prog 210 0 0 := ⟨⟨_, _, Tryd.underlying210, rfl, rfl, by simpa using (show ¬ ((Tryd.prog.info? 9).map (·.size) = some 0) by rw [(inferInstance : TSz Tryd.prog 9 _).h]; decide), by kernel_rfl⟩⟩
instance : TFld Tryd.prog 210 1 1 := ⟨⟨_, _, Tryd.underlying210, rfl, rfl, by simpa using (show ¬ ((Tryd.prog.info? 9).map (·.size) = some 0) by rw [(inferInstance : TSz Tryd.prog 9 _).h]; decide), by kernel_rfl⟩⟩
instance : TFld Tryd.prog 210 2 2 := ⟨⟨_, _, Tryd.underlying210, rfl, rfl, by simpa using (show ¬ ((Tryd.prog.info? 9).map (·.size) = some 0) by rw [(inferInstance : TSz Tryd.prog 9 _).h]; decide), by kernel_rfl⟩⟩
-- 211: func([]uint8, ...[]uint8) [32]uint8
instance : TSz Tryd.prog 211 1 := ⟨by kernel_rfl⟩
instance : TBy Tryd.prog 211 8 := ⟨by kernel_rfl⟩
instance : TOne Tryd.prog 211 := ⟨⟨_, Tryd.underlying211, rfl⟩⟩
instance : TZ Tryd.prog 211 (.nilFunc) := ⟨by kernel_rfl⟩
-- 212: func([]*keyring.entry, func(*keyring.entry) bool) int
instance : TSz Tryd.prog 212 1 := ⟨by kernel_rfl⟩
instance : TBy Tryd.prog 212 8 := ⟨by kernel_rfl⟩
instance : TOne Tryd.prog 212 := ⟨⟨_, Tryd.underlying212, rfl⟩⟩
instance : TZ Tryd.prog 212 (.nilFunc) := ⟨by kernel_rfl⟩
-- 213: func(...[]uint8) [64]uint8
instance : TSz Tryd.prog 213 1 := ⟨by kernel_rfl⟩
instance : TBy Tryd.prog 213 8 := ⟨by kernel_rfl⟩
instance : TOne Tryd.prog 213 := ⟨⟨_, Tryd.underlying213, rfl⟩⟩
instance : TZ Tryd.prog 213 (.nilFunc) := ⟨by kernel_rfl⟩
-- 214: func([]uint8, uint8) []uint8
instance : TSz Tryd.prog 214 1 := ⟨by kernel_rfl⟩
instance : TBy Tryd.prog 214 8 := ⟨by kernel_rfl⟩
instance : TOne Tryd.prog 214 := ⟨⟨_, Tryd.underlying214, rfl⟩⟩
instance : TZ Tryd.prog 214 (.nilFunc) := ⟨by kernel_rfl⟩
-- 215: func(string, string, int) []uint8
instance : TSz Tryd.prog 215 1 := ⟨by kernel_rfl⟩
instance : TBy Tryd.prog 215 8 := ⟨by kernel_rfl⟩
instance : TOne Tryd.prog 215 := ⟨⟨_, Tryd.underlying215, rfl⟩⟩
instance : TZ Tryd.prog 215 (.nilFunc) := ⟨by kernel_rfl⟩
-- 216: func([]uint8, [][]uint8) string
instance : TSz Tryd.prog 216 1 := ⟨by kernel_rfl⟩
instance : TBy Tryd.prog 216 8 := ⟨by kernel_rfl⟩
instance : TOne Tryd.prog 216 := ⟨⟨_, Tryd.underlying216, rfl⟩⟩
instance : TZ Tryd.prog 216 (.nilFunc) := ⟨by kernel_rfl⟩
-- 217: func(string, []uint8)
instance : TSz Tryd.prog 217 1 := ⟨by kernel_rfl⟩
instance : TBy Tryd.prog 217 8 := ⟨by kernel_rfl⟩
instance : TOne Tryd.prog 217 := ⟨⟨_, Tryd.underlying217, rfl⟩⟩
instance : TZ Tryd.prog 217 (.nilFunc) := ⟨by kernel_rfl⟩
-- 218: func([]*keyring.entry)
instance : TSz Tryd.prog 218 1 := ⟨by kernel_rfl⟩
instance : TBy Tryd.prog 218 8 := ⟨by kernel_rfl⟩
instance : TOne Tryd.prog 218 := ⟨⟨_, Tryd.underlying218, rfl⟩⟩
instance : TZ Tryd.prog 218 (.nilFunc) := ⟨by kernel_rfl⟩
-- 219: *turnkeyref11.Lazy
instance : TU Tryd.prog 219 (.pointer 143) := ⟨by kernel_rfl⟩
instance : TSz Tryd.prog 219 1 := ⟨by kernel_rfl⟩
instance : TBy Tryd.prog 219 8 := ⟨by kernel_rfl⟩
instance : TOne Tryd.prog 219 := ⟨⟨_, Tryd.underlying219, rfl⟩⟩
instance : TZ Tryd.prog 219 (.pointer none) := ⟨by kernel_rfl⟩
-- 220: func(int) string
instance : TSz Tryd.prog 220 1 := ⟨by kernel_rfl⟩
instance : TBy Tryd.prog 220 8 := ⟨by kernel_rfl⟩
instance : TOne Tryd.prog 220 := ⟨⟨_, Tryd.underlying220, rfl⟩⟩
instance : TZ Tryd.prog 220 (.nilFunc) := ⟨by kernel_rfl⟩
-- 221: func(int) []uint8
instance : TSz Tryd.prog 221 1 := ⟨by kernel_rfl⟩
instance : TBy Tryd.prog 221 8 := ⟨by kernel_rfl⟩
instance : TOne Tryd.prog 221 := ⟨⟨_, Tryd.underlying221, rfl⟩⟩
instance : TZ Tryd.prog 221 (.nilFunc) := ⟨by kernel_rfl⟩
-- 222: []uint64
instance : TU Tryd.prog 222 (.slice 193) := ⟨by kernel_rfl⟩
instance : TSz Tryd.prog 222 1 := ⟨by kernel_rfl⟩
instance : TBy Tryd.prog 222 24 := ⟨by kernel_rfl⟩
instance : TOne Tryd.prog 222 := ⟨⟨_, Tryd.underlying222, rfl⟩⟩
instance : TZ Tryd.prog 222 (.slice none 0 0) := ⟨by kernel_rfl⟩
-- 223: func([]uint64, []uint8) []uint64
instance : TSz Tryd.prog 223 1 := ⟨by kernel_rfl⟩
instance : TBy Tryd.prog 223 8 := ⟨by kernel_rfl⟩
instance : TOne Tryd.prog 223 := ⟨⟨_, Tryd.underlying223, rfl⟩⟩
instance : TZ Tryd.prog 223 (.nilFunc) := ⟨by kernel_rfl⟩
-- 224: [8]uint64
instance : TU Tryd.prog 224 (.array 8 193) := ⟨by kernel_rfl⟩
instance : TSz Tryd.prog 224 8 := ⟨by kernel_rfl⟩
instance : TBy Tryd.prog 224 64 := ⟨by kernel_rfl⟩
instance : TAgg Tryd.prog 224 8 := ⟨⟨_, Tryd.underlying224, rfl⟩, by kernel_rfl⟩
def z224 : List Value := List.replicate 8 (.int .u64 0)
instance : TZ Tryd.prog 224 (.agg z224.toArray) := ⟨by kernel_rfl⟩
def K224 : List IntKind := List.replicate 8 .u64
instance : TFlat Tryd.prog 224 K224 := ⟨by kernel_rfl, by kernel_rfl, by kernel_rfl⟩
-- 225: sha512.value
instance : TU Tryd.prog 225 (.array 8 193) := ⟨by kernel_rfl⟩
instance : TSz Tryd.prog 225 8 := ⟨by kernel_rfl⟩
instance : TBy Tryd.prog 225 64 := ⟨by kernel_rfl⟩
instance : TAgg Tryd.prog 225 8 := ⟨⟨_, Tryd.underlying225, rfl⟩, by kernel_rfl⟩
def z225 : List Value := List.replicate 8 (.int .u64 0)
instance : TZ Tryd.prog 225 (.agg z225.toArray) := ⟨by kernel_rfl⟩
def K225 : List IntKind := List.replicate 8 .u64
instance : TFlat Tryd.prog 225 K225 := ⟨by kernel_rfl, by kernel_rfl, by kernel_rfl⟩
-- 226: func() sha512.value
instance : TSz Tryd.prog 226 1 := ⟨by kernel_rfl⟩
instance : TBy Tryd.prog 226 8 := ⟨by kernel_rfl⟩
instance : TOne Tryd.prog 226 := ⟨⟨_, Tryd.underlying226, rfl⟩⟩
instance : TZ Tryd.prog 226 (.nilFunc) := ⟨by kernel_rfl⟩
-- 227: func(func([]uint8) bool)
instance : TSz Tryd.prog 227 1 := ⟨by kernel_rfl⟩
instance : TBy Tryd.prog 227 8 := ⟨by kernel_rfl⟩
instance : TOne Tryd.prog 227 := ⟨⟨_, Tryd.underlying227, rfl⟩⟩
instance : TZ Tryd.prog 227 (.nilFunc) := ⟨by kernel_rfl⟩
-- 228: iter.Seq[[]uint8]
instance : TSz Tryd.prog 228 1 := ⟨by kernel_rfl⟩
instance : TBy Tryd.prog 228 8 := ⟨by kernel_rfl⟩
instance : TOne Tryd.prog 228 := ⟨⟨_, Tryd.underlying228, rfl⟩⟩
instance : TZ Tryd.prog 228 (.nilFunc) := ⟨by kernel_rfl⟩
-- 229: func([]uint8, int) iter.Seq[[]uint8]
instance : TSz Tryd.prog 229 1 := ⟨by kernel_rfl⟩
instance : TBy Tryd.prog 229 8 := ⟨by kernel_rfl⟩
instance : TOne Tryd.prog 229 := ⟨⟨_, Tryd.underlying229, rfl⟩⟩
instance : TZ Tryd.prog 229 (.nilFunc) := ⟨by kernel_rfl⟩
-- 230: func([]uint8)
instance : TSz Tryd.prog 230 1 := ⟨by kernel_rfl⟩
instance : TBy Tryd.prog 230 8 := ⟨by kernel_rfl⟩
instance : TOne Tryd.prog 230 := ⟨⟨_, Tryd.underlying230, rfl⟩⟩
instance : TZ Tryd.prog 230 (.nilFunc) := ⟨by kernel_rfl⟩
-- 231: func([]uint8, []uint8) []uint8
instance : TSz Tryd.prog 231 1 := ⟨by kernel_rfl⟩
instance : TBy Tryd.prog 231 8 := ⟨by kernel_rfl⟩
instance : TOne Tryd.prog 231 := ⟨⟨_, Tryd.underlying231, rfl⟩⟩
instance : TZ Tryd.prog 231 (.nilFunc) := ⟨by kernel_rfl⟩
-- 232: *tape.table
instance : TU Tryd.prog 232 (.pointer 236) := ⟨by kernel_rfl⟩
instance : TSz Tryd.prog 232 1 := ⟨by kernel_rfl⟩
instance : TBy Tryd.prog 232 8 := ⟨by kernel_rfl⟩
instance : TOne Tryd.prog 232 := ⟨⟨_, Tryd.underlying232, rfl⟩⟩
instance : TZ Tryd.prog 232 (.pointer none) := ⟨by kernel_rfl⟩
-- 233: func(map[string]*tape.table, string) *tape.table
instance : TSz Tryd.prog 233 1 := ⟨by kernel_rfl⟩
instance : TBy Tryd.prog 233 8 := ⟨by kernel_rfl⟩
instance : TOne Tryd.prog 233 := ⟨⟨_, Tryd.underlying233, rfl⟩⟩
instance : TZ Tryd.prog 233 (.nilFunc) := ⟨by kernel_rfl⟩
-- 234: map[string]string
instance : TU Tryd.prog 234 (.map 9 9) := ⟨by kernel_rfl⟩
instance : TSz Tryd.prog 234 1 := ⟨by kernel_rfl⟩
instance : TBy Tryd.prog 234 8 := ⟨by kernel_rfl⟩
instance : TOne Tryd.prog 234 := ⟨⟨_, Tryd.underlying234, rfl⟩⟩
instance : TZ Tryd.prog 234 (.map none) := ⟨by kernel_rfl⟩
-- 235: struct { to map[string]string; from map[string]string }
instance : TSz Tryd.prog 235 2 := ⟨by kernel_rfl⟩
instance : TBy Tryd.prog 235 16 := ⟨by kernel_rfl⟩
instance : TAgg Tryd.prog 235 2 := ⟨⟨_, Tryd.underlying235, rfl⟩, by kernel_rfl⟩
def z235 : List Value := [.map none, .map none]
instance : TZ Tryd.prog 235 (.agg z235.toArray) := ⟨by kernel_rfl⟩
instance : TFld Tryd.prog 235 0 0 := ⟨⟨_, _, Tryd.underlying235, rfl, rfl, by simpa using (show ¬ ((Tryd.prog.info? 234).map (·.size) = some 0) by rw [(inferInstance : TSz Tryd.prog 234 _).h]; decide), by kernel_rfl⟩⟩
instance : TFld Tryd.prog 235 1 1 := ⟨⟨_, _, Tryd.underlying235, rfl, rfl, by simpa using (show ¬ ((Tryd.prog.info? 234).map (·.size) = some 0) by rw [(inferInstance : TSz Tryd.prog 234 _).h]; decide), by kernel_rfl⟩⟩
-- 236: tape.table
instance : TSz Tryd.prog 236 2 := ⟨by kernel_rfl⟩
instance : TBy Tryd.prog 236 16 := ⟨by kernel_rfl⟩
instance : TAgg Tryd.prog 236 2 := ⟨⟨_, Tryd.underlying236, rfl⟩, by kernel_rfl⟩
def z236 : List Value := [.map none, .map none]
instance : TZ Tryd.prog 236 (.agg z236.toArray) := ⟨by kernel_rfl⟩
instance : TFld Tryd.prog 236 0 0 := ⟨⟨_, _, Tryd.underlying236, rfl, rfl, by simpa using (show ¬ ((Tryd.prog.info? 234).map (·.size) = some 0) by rw [(inferInstance : TSz Tryd.prog 234 _).h]; decide), by kernel_rfl⟩⟩
instance : TFld Tryd.prog 236 1 1 := ⟨⟨_, _, Tryd.underlying236, rfl, rfl, by simpa using (show ¬ ((Tryd.prog.info? 234).map (·.size) = some 0) by rw [(inferInstance : TSz Tryd.prog 234 _).h]; decide), by kernel_rfl⟩⟩
-- 237: func(int, map[string]string) string
instance : TSz Tryd.prog 237 1 := ⟨by kernel_rfl⟩
instance : TBy Tryd.prog 237 8 := ⟨by kernel_rfl⟩
instance : TOne Tryd.prog 237 := ⟨⟨_, Tryd.underlying237, rfl⟩⟩
instance : TZ Tryd.prog 237 (.nilFunc) := ⟨by kernel_rfl⟩
-- 238: func(uint64, int) uint64
instance : TSz Tryd.prog 238 1 := ⟨by kernel_rfl⟩
instance : TBy Tryd.prog 238 8 := ⟨by kernel_rfl⟩
instance : TOne Tryd.prog 238 := ⟨⟨_, Tryd.underlying238, rfl⟩⟩
instance : TZ Tryd.prog 238 (.nilFunc) := ⟨by kernel_rfl⟩
-- 239: func() []uint64
instance : TSz Tryd.prog 239 1 := ⟨by kernel_rfl⟩
instance : TBy Tryd.prog 239 8 := ⟨by kernel_rfl⟩
instance : TOne Tryd.prog 239 := ⟨⟨_, Tryd.underlying239, rfl⟩⟩
instance : TZ Tryd.prog 239 (.nilFunc) := ⟨by kernel_rfl⟩
-- 240: *sha512.value
instance : TU Tryd.prog 240 (.pointer 225) := ⟨by kernel_rfl⟩
instance : TSz Tryd.prog 240 1 := ⟨by kernel_rfl⟩
instance : TBy Tryd.prog 240 8 := ⟨by kernel_rfl⟩
instance : TOne Tryd.prog 240 := ⟨⟨_, Tryd.underlying240, rfl⟩⟩
instance : TZ Tryd.prog 240 (.pointer none) := ⟨by kernel_rfl⟩
-- 241: [16]uint64
instance : TU Tryd.prog 241 (.array 16 193) := ⟨by kernel_rfl⟩
instance : TSz Tryd.prog 241 16 := ⟨by kernel_rfl⟩
instance : TBy Tryd.prog 241 128 := ⟨by kernel_rfl⟩
instance : TAgg Tryd.prog 241 16 := ⟨⟨_, Tryd.underlying241, rfl⟩, by kernel_rfl⟩
def z241 : List Value := List.replicate 16 (.int .u64 0)
instance : TZ Tryd.prog 241 (.agg z241.toArray) := ⟨by kernel_rfl⟩
def K241 : List IntKind := List.replicate 16 .u64
instance : TFlat Tryd.prog 241 K241 := ⟨by kernel_rfl, by kernel_rfl, by kernel_rfl⟩
-- 242: func([]uint8) [16]uint64
instance : TSz Tryd.prog 242 1 := ⟨by kernel_rfl⟩
instance : TBy Tryd.prog 242 8 := ⟨by kernel_rfl⟩
instance : TOne Tryd.prog 242 := ⟨⟨_, Tryd.underlying242, rfl⟩⟩
instance : TZ Tryd.prog 242 (.nilFunc) := ⟨by kernel_rfl⟩
-- 243: [80]uint64
instance : TU Tryd.prog 243 (.array 80 193) := ⟨by kernel_rfl⟩
instance : TSz Tryd.prog 243 80 := ⟨by kernel_rfl⟩
instance : TBy Tryd.prog 243 640 := ⟨by kernel_rfl⟩
instance : TAgg Tryd.prog 243 80 := ⟨⟨_, Tryd.underlying243, rfl⟩, by kernel_rfl⟩
def z243 : List Value := List.replicate 80 (.int .u64 0)
instance : TZ Tryd.prog 243 (.agg z243.toArray) := ⟨by kernel_rfl⟩
def K243 : List IntKind := List.replicate 80 .u64
instance : TFlat Tryd.prog 243 K243 := ⟨by kernel_rfl, by kernel_rfl, by kernel_rfl⟩
-- 244: func(uint64, int, int, int) uint64
instance : TSz Tryd.prog 244 1 := ⟨by kernel_rfl⟩
instance : TBy Tryd.prog 244 8 := ⟨by kernel_rfl⟩
instance : TOne Tryd.prog 244 := ⟨⟨_, Tryd.underlying244, rfl⟩⟩
instance : TZ Tryd.prog 244 (.nilFunc) := ⟨by kernel_rfl⟩
-- 245: func(*[16]uint64, int) uint64
instance : TSz Tryd.prog 245 1 := ⟨by kernel_rfl⟩
instance : TBy Tryd.prog 245 8 := ⟨by kernel_rfl⟩
instance : TOne Tryd.prog 245 := ⟨⟨_, Tryd.underlying245, rfl⟩⟩
instance : TZ Tryd.prog 245 (.nilFunc) := ⟨by kernel_rfl⟩
-- 246: *[16]uint64
instance : TU Tryd.prog 246 (.pointer 241) := ⟨by kernel_rfl⟩
instance : TSz Tryd.prog 246 1 := ⟨by kernel_rfl⟩
instance : TBy Tryd.prog 246 8 := ⟨by kernel_rfl⟩
instance : TOne Tryd.prog 246 := ⟨⟨_, Tryd.underlying246, rfl⟩⟩
instance : TZ Tryd.prog 246 (.pointer none) := ⟨by kernel_rfl⟩
-- 248: func(uint, uint) (uint, uint)
instance : TSz Tryd.prog 248 1 := ⟨by kernel_rfl⟩
instance : TBy Tryd.prog 248 8 := ⟨by kernel_rfl⟩
instance : TOne Tryd.prog 248 := ⟨⟨_, Tryd.underlying248, rfl⟩⟩
instance : TZ Tryd.prog 248 (.nilFunc) := ⟨by kernel_rfl⟩
-- 249: uint32
instance : TU Tryd.prog 249 (.int .u32) := ⟨by kernel_rfl⟩
instance : TSz Tryd.prog 249 1 := ⟨by kernel_rfl⟩
instance : TBy Tryd.prog 249 4 := ⟨by kernel_rfl⟩
instance : TOne Tryd.prog 249 := ⟨⟨_, Tryd.underlying249, rfl⟩⟩
instance : TZ Tryd.prog 249 (.int .u32 0) := ⟨by kernel_rfl⟩
-- 251: func(uint32, uint32) (uint32, uint32)
instance : TSz Tryd.prog 251 1 := ⟨by kernel_rfl⟩
instance : TBy Tryd.prog 251 8 := ⟨by kernel_rfl⟩
instance : TOne Tryd.prog 251 := ⟨⟨_, Tryd.underlying251, rfl⟩⟩
instance : TZ Tryd.prog 251 (.nilFunc) := ⟨by kernel_rfl⟩
-- 253: func(uint64, uint64) (uint64, uint64)
instance : TSz Tryd.prog 253 1 := ⟨by kernel_rfl⟩
instance : TBy Tryd.prog 253 8 := ⟨by kernel_rfl⟩
instance : TOne Tryd.prog 253 := ⟨⟨_, Tryd.underlying253, rfl⟩⟩
instance : TZ Tryd.prog 253 (.nilFunc) := ⟨by kernel_rfl⟩
-- 254: func() string
instance : TSz Tryd.prog 254 1 := ⟨by kernel_rfl⟩
instance : TBy Tryd.prog 254 8 := ⟨by kernel_rfl⟩
instance : TOne Tryd.prog 254 := ⟨⟨_, Tryd.underlying254, rfl⟩⟩
instance : TZ Tryd.prog 254 (.nilFunc) := ⟨by kernel_rfl⟩
-- 262: func(unsafe.Pointer, unsafe.Pointer) bool
instance : TSz Tryd.prog 262 1 := ⟨by kernel_rfl⟩
instance : TBy Tryd.prog 262 8 := ⟨by kernel_rfl⟩
instance : TOne Tryd.prog 262 := ⟨⟨_, Tryd.underlying262, rfl⟩⟩
instance : TZ Tryd.prog 262 (.nilFunc) := ⟨by kernel_rfl⟩
-- 263: *uint8
instance : TU Tryd.prog 263 (.pointer 5) := ⟨by kernel_rfl⟩
instance : TSz Tryd.prog 263 1 := ⟨by kernel_rfl⟩
instance : TBy Tryd.prog 263 8 := ⟨by kernel_rfl⟩
instance : TOne Tryd.prog 263 := ⟨⟨_, Tryd.underlying263, rfl⟩⟩
instance : TZ Tryd.prog 263 (.pointer none) := ⟨by kernel_rfl⟩
-- 268: unsafe.Pointer
instance : TSz Tryd.prog 268 1 := ⟨by kernel_rfl⟩
instance : TBy Tryd.prog 268 8 := ⟨by kernel_rfl⟩
instance : TOne Tryd.prog 268 := ⟨⟨_, Tryd.underlying268, rfl⟩⟩
instance : TZ Tryd.prog 268 (.pointer none) := ⟨by kernel_rfl⟩
instance : TFn Tryd.prog 3 := ⟨⟨_, Tryd.func3, by kernel_rfl, rfl⟩⟩ -- turnkey/turnkeylaw24.PolicyNonces
instance : TFn Tryd.prog 4 := ⟨⟨_, Tryd.func4, by kernel_rfl, rfl⟩⟩ -- turnkey/turnkeylaw16.MtreeSeals
instance : TFn Tryd.prog 5 := ⟨⟨_, Tryd.func5, by kernel_rfl, rfl⟩⟩ -- turnkey/turnkeylaw16.MtreeNames
instance : TFn Tryd.prog 6 := ⟨⟨_, Tryd.func6, by kernel_rfl, rfl⟩⟩ -- turnkey/turnkeylaw23.KeyringFull
instance : TFn Tryd.prog 7 := ⟨⟨_, Tryd.func7, by kernel_rfl, rfl⟩⟩ -- turnkey/turnkeylaw23.KeyringApart
instance : TFn Tryd.prog 8 := ⟨⟨_, Tryd.func8, by kernel_rfl, rfl⟩⟩ -- turnkey/turnkeylaw23.KeyringGone
instance : TFn Tryd.prog 9 := ⟨⟨_, Tryd.func9, by kernel_rfl, rfl⟩⟩ -- turnkey/turnkeylaw16.MtreeOrder
instance : TFn Tryd.prog 10 := ⟨⟨_, Tryd.func10, by kernel_rfl, rfl⟩⟩ -- turnkey/turnkeylaw23.KeyringActs
instance : TFn Tryd.prog 11 := ⟨⟨_, Tryd.func11, by kernel_rfl, rfl⟩⟩ -- turnkey/turnkeylaw16.MtreeTurned
instance : TFn Tryd.prog 12 := ⟨⟨_, Tryd.func12, by kernel_rfl, rfl⟩⟩ -- turnkey/turnkeylaw24.PolicyKeys
instance : TFn Tryd.prog 13 := ⟨⟨_, Tryd.func13, by kernel_rfl, rfl⟩⟩ -- turnkey/turnkeylaw16.MtreeActs
instance : TFn Tryd.prog 14 := ⟨⟨_, Tryd.func14, by kernel_rfl, rfl⟩⟩ -- turnkey/turnkeylaw16.MtreePointers
instance : TFn Tryd.prog 15 := ⟨⟨_, Tryd.func15, by kernel_rfl, rfl⟩⟩ -- turnkey/turnkeylaw16.MtreeTurns
instance : TFn Tryd.prog 16 := ⟨⟨_, Tryd.func16, by kernel_rfl, rfl⟩⟩ -- turnkey/turnkeylaw24.awake
instance : TFn Tryd.prog 17 := ⟨⟨_, Tryd.func17, by kernel_rfl, rfl⟩⟩ -- turnkey/keyring.New
instance : TFn Tryd.prog 18 := ⟨⟨_, Tryd.func18, by kernel_rfl, rfl⟩⟩ -- turnkey/oracle.Real
instance : TFn Tryd.prog 19 := ⟨⟨_, Tryd.func19, by kernel_rfl, rfl⟩⟩ -- (*turnkey/keyring.Ring).Add
instance : TFn Tryd.prog 20 := ⟨⟨_, Tryd.func20, by kernel_rfl, rfl⟩⟩ -- turnkey/policy.Contents
instance : TFn Tryd.prog 21 := ⟨⟨_, Tryd.func21, by kernel_rfl, rfl⟩⟩ -- turnkey/policy.Names
instance : TFn Tryd.prog 22 := ⟨⟨_, Tryd.func22, by kernel_rfl, rfl⟩⟩ -- turnkey/turnkeyref23.Derive
instance : TFn Tryd.prog 23 := ⟨⟨_, Tryd.func23, by kernel_rfl, rfl⟩⟩ -- turnkey/turnkeylaw16.awake
instance : TFn Tryd.prog 24 := ⟨⟨_, Tryd.func24, by kernel_rfl, rfl⟩⟩ -- turnkey/turnkeylaw16.grove
instance : TFn Tryd.prog 25 := ⟨⟨_, Tryd.func25, by kernel_rfl, rfl⟩⟩ -- (*turnkey/mtree.Grove).Put
instance : TFn Tryd.prog 26 := ⟨⟨_, Tryd.func26, by kernel_rfl, rfl⟩⟩ -- turnkey/turnkeylaw16.block
instance : TFn Tryd.prog 27 := ⟨⟨_, Tryd.func27, by kernel_rfl, rfl⟩⟩ -- turnkey/turnkeyref16.Mac
instance : TFn Tryd.prog 28 := ⟨⟨_, Tryd.func28, by kernel_rfl, rfl⟩⟩ -- turnkey/turnkeyref16.Pack
instance : TFn Tryd.prog 29 := ⟨⟨_, Tryd.func29, by kernel_rfl, rfl⟩⟩ -- turnkey/mtree.Pack
instance : TFn Tryd.prog 30 := ⟨⟨_, Tryd.func30, by kernel_rfl, rfl⟩⟩ -- (*turnkey/mtree.Grove).Get
instance : TFn Tryd.prog 31 := ⟨⟨_, Tryd.func31, by kernel_rfl, rfl⟩⟩ -- turnkey/turnkeylaw23.awake
instance : TFn Tryd.prog 32 := ⟨⟨_, Tryd.func32, by kernel_rfl, rfl⟩⟩ -- turnkey/turnkeylaw23.key
instance : TFn Tryd.prog 33 := ⟨⟨_, Tryd.func33, by kernel_rfl, rfl⟩⟩ -- (*turnkey/keyring.Ring).Keys
instance : TFn Tryd.prog 34 := ⟨⟨_, Tryd.func34, by kernel_rfl, rfl⟩⟩ -- (*turnkey/keyring.Ring).Derive
instance : TFn Tryd.prog 35 := ⟨⟨_, Tryd.func35, by kernel_rfl, rfl⟩⟩ -- (*turnkey/keyring.Ring).Remove
instance : TFn Tryd.prog 36 := ⟨⟨_, Tryd.func36, by kernel_rfl, rfl⟩⟩ -- (*turnkey/keyring.Ring).Hold
instance : TFn Tryd.prog 37 := ⟨⟨_, Tryd.func37, by kernel_rfl, rfl⟩⟩ -- (*turnkey/keyring.Ring).Release
instance : TFn Tryd.prog 38 := ⟨⟨_, Tryd.func38, by kernel_rfl, rfl⟩⟩ -- (*turnkey/keyring.Ring).Status
instance : TFn Tryd.prog 39 := ⟨⟨_, Tryd.func39, by kernel_rfl, rfl⟩⟩ -- (*turnkey/mtree.Grove).Sectors
instance : TFn Tryd.prog 40 := ⟨⟨_, Tryd.func40, by kernel_rfl, rfl⟩⟩ -- turnkey/turnkeyref23.ID
instance : TFn Tryd.prog 41 := ⟨⟨_, Tryd.func41, by kernel_rfl, rfl⟩⟩ -- (*turnkey/turnkeyref23.Ring).Add
instance : TFn Tryd.prog 42 := ⟨⟨_, Tryd.func42, by kernel_rfl, rfl⟩⟩ -- (*turnkey/turnkeyref23.Ring).Remove
instance : TFn Tryd.prog 43 := ⟨⟨_, Tryd.func43, by kernel_rfl, rfl⟩⟩ -- (*turnkey/turnkeyref23.Ring).Hold
instance : TFn Tryd.prog 44 := ⟨⟨_, Tryd.func44, by kernel_rfl, rfl⟩⟩ -- (*turnkey/turnkeyref23.Ring).Release
instance : TFn Tryd.prog 45 := ⟨⟨_, Tryd.func45, by kernel_rfl, rfl⟩⟩ -- (*turnkey/turnkeyref23.Ring).Status
instance : TFn Tryd.prog 46 := ⟨⟨_, Tryd.func46, by kernel_rfl, rfl⟩⟩ -- (*turnkey/keyring.Ring).Clear
instance : TFn Tryd.prog 47 := ⟨⟨_, Tryd.func47, by kernel_rfl, rfl⟩⟩ -- turnkey/turnkeylaw23.same
instance : TFn Tryd.prog 48 := ⟨⟨_, Tryd.func48, by kernel_rfl, rfl⟩⟩ -- turnkey/oracle.Ideal
instance : TFn Tryd.prog 49 := ⟨⟨_, Tryd.func49, by kernel_rfl, rfl⟩⟩ -- turnkey/mtree.New
instance : TFn Tryd.prog 50 := ⟨⟨_, Tryd.func50, by kernel_rfl, rfl⟩⟩ -- (*turnkey/oracle.Oracle).Bad
instance : TFn Tryd.prog 51 := ⟨⟨_, Tryd.func51, by kernel_rfl, rfl⟩⟩ -- turnkey/policy.Locked
instance : TFn Tryd.prog 52 := ⟨⟨_, Tryd.func52, by kernel_rfl, rfl⟩⟩ -- turnkey/policy.Fits
instance : TFn Tryd.prog 53 := ⟨⟨_, Tryd.func53, by kernel_rfl, rfl⟩⟩ -- turnkey/turnkeylaw16.at
instance : TFn Tryd.prog 54 := ⟨⟨_, Tryd.func54, by kernel_rfl, rfl⟩⟩ -- turnkey/turnkeyref16.Room
instance : TFn Tryd.prog 55 := ⟨⟨_, Tryd.func55, by kernel_rfl, rfl⟩⟩ -- turnkey/turnkeyref16.Put
instance : TFn Tryd.prog 56 := ⟨⟨_, Tryd.func56, by kernel_rfl, rfl⟩⟩ -- (*turnkey/mtree.Grove).Cut
instance : TFn Tryd.prog 57 := ⟨⟨_, Tryd.func57, by kernel_rfl, rfl⟩⟩ -- turnkey/turnkeyref16.Cut
instance : TFn Tryd.prog 58 := ⟨⟨_, Tryd.func58, by kernel_rfl, rfl⟩⟩ -- turnkey/turnkeyref16.Get
instance : TFn Tryd.prog 59 := ⟨⟨_, Tryd.func59, by kernel_rfl, rfl⟩⟩ -- turnkey/turnkeylaw16.same
instance : TFn Tryd.prog 60 := ⟨⟨_, Tryd.func60, by kernel_rfl, rfl⟩⟩ -- turnkey/mtree.Unpack
instance : TFn Tryd.prog 61 := ⟨⟨_, Tryd.func61, by kernel_rfl, rfl⟩⟩ -- turnkey/turnkeyref16.Unpack
instance : TFn Tryd.prog 62 := ⟨⟨_, Tryd.func62, by kernel_rfl, rfl⟩⟩ -- turnkey/mtree.Room
instance : TFn Tryd.prog 63 := ⟨⟨_, Tryd.func63, by kernel_rfl, rfl⟩⟩ -- turnkey/turnkeyref16.Without
instance : TFn Tryd.prog 64 := ⟨⟨_, Tryd.func64, by kernel_rfl, rfl⟩⟩ -- (*turnkey/mtree.Grove).Turn
instance : TFn Tryd.prog 65 := ⟨⟨_, Tryd.func65, by kernel_rfl, rfl⟩⟩ -- turnkey/policy.Set
instance : TFn Tryd.prog 66 := ⟨⟨_, Tryd.func66, by kernel_rfl, rfl⟩⟩ -- (*turnkey/oracle.Oracle).Derive
instance : TFn Tryd.prog 67 := ⟨⟨_, Tryd.func67, by kernel_rfl, rfl⟩⟩ -- (*turnkey/keyring.Ring).find
instance : TFn Tryd.prog 68 := ⟨⟨_, Tryd.func68, by kernel_rfl, rfl⟩⟩ -- slices.Insert[[]*turnkey/keyring.entry,*turnkey/keyring.entry]
instance : TFn Tryd.prog 69 := ⟨⟨_, Tryd.func69, by kernel_rfl, rfl⟩⟩ -- slices.Clone[[]byte,byte]
instance : TFn Tryd.prog 70 := ⟨⟨_, Tryd.func70, by kernel_rfl, rfl⟩⟩ -- turnkey/policy.derived
instance : TFn Tryd.prog 71 := ⟨⟨_, Tryd.func71, by kernel_rfl, rfl⟩⟩ -- (*turnkey/turnkeyref12.Oracle).Derive
instance : TFn Tryd.prog 72 := ⟨⟨_, Tryd.func72, by kernel_rfl, rfl⟩⟩ -- turnkey/mtree.right
instance : TFn Tryd.prog 73 := ⟨⟨_, Tryd.func73, by kernel_rfl, rfl⟩⟩ -- (*turnkey/mtree.change).deepen
instance : TFn Tryd.prog 74 := ⟨⟨_, Tryd.func74, by kernel_rfl, rfl⟩⟩ -- (*turnkey/mtree.change).put
instance : TFn Tryd.prog 75 := ⟨⟨_, Tryd.func75, by kernel_rfl, rfl⟩⟩ -- (*turnkey/mtree.change).end
instance : TFn Tryd.prog 76 := ⟨⟨_, Tryd.func76, by kernel_rfl, rfl⟩⟩ -- turnkey/turnkeyref01.Lay
instance : TFn Tryd.prog 77 := ⟨⟨_, Tryd.func77, by kernel_rfl, rfl⟩⟩ -- (*turnkey/turnkeyref12.Oracle).Seal
instance : TFn Tryd.prog 78 := ⟨⟨_, Tryd.func78, by kernel_rfl, rfl⟩⟩ -- turnkey/octets.Lay
instance : TFn Tryd.prog 79 := ⟨⟨_, Tryd.func79, by kernel_rfl, rfl⟩⟩ -- (*turnkey/mtree.Grove).pointers
instance : TFn Tryd.prog 80 := ⟨⟨_, Tryd.func80, by kernel_rfl, rfl⟩⟩ -- (turnkey/mtree.spot).holds
instance : TFn Tryd.prog 81 := ⟨⟨_, Tryd.func81, by kernel_rfl, rfl⟩⟩ -- (turnkey/mtree.spot).child
instance : TFn Tryd.prog 82 := ⟨⟨_, Tryd.func82, by kernel_rfl, rfl⟩⟩ -- (*turnkey/mtree.Grove).load
instance : TFn Tryd.prog 83 := ⟨⟨_, Tryd.func83, by kernel_rfl, rfl⟩⟩ -- (*turnkey/keyring.Ring).of
instance : TFn Tryd.prog 84 := ⟨⟨_, Tryd.func84, by kernel_rfl, rfl⟩⟩ -- (*turnkey/keyring.entry).wipe
instance : TFn Tryd.prog 85 := ⟨⟨_, Tryd.func85, by kernel_rfl, rfl⟩⟩ -- (*turnkey/keyring.Ring).drop
instance : TFn Tryd.prog 86 := ⟨⟨_, Tryd.func86, by kernel_rfl, rfl⟩⟩ -- (*turnkey/mtree.Grove).under
instance : TFn Tryd.prog 87 := ⟨⟨_, Tryd.func87, by kernel_rfl, rfl⟩⟩ -- (*turnkey/turnkeyref23.Ring).at
instance : TFn Tryd.prog 88 := ⟨⟨_, Tryd.func88, by kernel_rfl, rfl⟩⟩ -- (*turnkey/turnkeyref23.Ring).clean
instance : TFn Tryd.prog 89 := ⟨⟨_, Tryd.func89, by kernel_rfl, rfl⟩⟩ -- turnkey/tape.New
instance : TFn Tryd.prog 90 := ⟨⟨_, Tryd.func90, by kernel_rfl, rfl⟩⟩ -- (*turnkey/tape.Lazy).Bad
instance : TFn Tryd.prog 91 := ⟨⟨_, Tryd.func91, by kernel_rfl, rfl⟩⟩ -- turnkey/policy.plain
instance : TFn Tryd.prog 92 := ⟨⟨_, Tryd.func92, by kernel_rfl, rfl⟩⟩ -- (*turnkey/mtree.change).cut
instance : TFn Tryd.prog 93 := ⟨⟨_, Tryd.func93, by kernel_rfl, rfl⟩⟩ -- turnkey/turnkeyref16.Count
instance : TFn Tryd.prog 94 := ⟨⟨_, Tryd.func94, by kernel_rfl, rfl⟩⟩ -- (*turnkey/turnkeylaw16.store).count
instance : TFn Tryd.prog 95 := ⟨⟨_, Tryd.func95, by kernel_rfl, rfl⟩⟩ -- turnkey/octets.Number
instance : TFn Tryd.prog 96 := ⟨⟨_, Tryd.func96, by kernel_rfl, rfl⟩⟩ -- turnkey/turnkeyref01.Number
instance : TFn Tryd.prog 97 := ⟨⟨_, Tryd.func97, by kernel_rfl, rfl⟩⟩ -- (*turnkey/mtree.change).turn
instance : TFn Tryd.prog 98 := ⟨⟨_, Tryd.func98, by kernel_rfl, rfl⟩⟩ -- (*turnkey/oracle.Oracle).Seal
instance : TFn Tryd.prog 99 := ⟨⟨_, Tryd.func99, by kernel_rfl, rfl⟩⟩ -- slices.Concat[[]byte,byte]
instance : TFn Tryd.prog 100 := ⟨⟨_, Tryd.func100, by kernel_rfl, rfl⟩⟩ -- slices.BinarySearchFunc[[]*turnkey/keyring.entry,*turnkey/keyring.entry,[16]byte]
instance : TFn Tryd.prog 101 := ⟨⟨_, Tryd.func101, by kernel_rfl, rfl⟩⟩ -- (*turnkey/keyring.Ring).find$1
instance : TFn Tryd.prog 102 := ⟨⟨_, Tryd.func102, by kernel_rfl, rfl⟩⟩ -- bytes.Compare
instance : TFn Tryd.prog 104 := ⟨⟨_, Tryd.func104, by kernel_rfl, rfl⟩⟩ -- slices.rotateRight[*turnkey/keyring.entry]
instance : TFn Tryd.prog 105 := ⟨⟨_, Tryd.func105, by kernel_rfl, rfl⟩⟩ -- (*turnkey/mtree.change).node
instance : TFn Tryd.prog 106 := ⟨⟨_, Tryd.func106, by kernel_rfl, rfl⟩⟩ -- (*turnkey/mtree.change).lose
instance : TFn Tryd.prog 107 := ⟨⟨_, Tryd.func107, by kernel_rfl, rfl⟩⟩ -- (*turnkey/mtree.change).save
instance : TFn Tryd.prog 108 := ⟨⟨_, Tryd.func108, by kernel_rfl, rfl⟩⟩ -- (*turnkey/turnkeyref12.Oracle).ask
instance : TFn Tryd.prog 109 := ⟨⟨_, Tryd.func109, by kernel_rfl, rfl⟩⟩ -- turnkey/turnkeyref05.Sum
instance : TFn Tryd.prog 110 := ⟨⟨_, Tryd.func110, by kernel_rfl, rfl⟩⟩ -- (*turnkey/mtree.Grove).mac
instance : TFn Tryd.prog 111 := ⟨⟨_, Tryd.func111, by kernel_rfl, rfl⟩⟩ -- turnkey/octets.Same
instance : TFn Tryd.prog 112 := ⟨⟨_, Tryd.func112, by kernel_rfl, rfl⟩⟩ -- slices.DeleteFunc[[]*turnkey/keyring.entry,*turnkey/keyring.entry]
instance : TFn Tryd.prog 113 := ⟨⟨_, Tryd.func113, by kernel_rfl, rfl⟩⟩ -- (*turnkey/keyring.Ring).drop$1
instance : TFn Tryd.prog 114 := ⟨⟨_, Tryd.func114, by kernel_rfl, rfl⟩⟩ -- (*turnkey/mtree.change).remove
instance : TFn Tryd.prog 115 := ⟨⟨_, Tryd.func115, by kernel_rfl, rfl⟩⟩ -- turnkey/hmac.Sum
instance : TFn Tryd.prog 116 := ⟨⟨_, Tryd.func116, by kernel_rfl, rfl⟩⟩ -- (*turnkey/oracle.Oracle).ask
instance : TFn Tryd.prog 117 := ⟨⟨_, Tryd.func117, by kernel_rfl, rfl⟩⟩ -- slices.Grow[[]byte,byte]
instance : TFn Tryd.prog 119 := ⟨⟨_, Tryd.func119, by kernel_rfl, rfl⟩⟩ -- slices.rotateLeft[*turnkey/keyring.entry]
instance : TFn Tryd.prog 120 := ⟨⟨_, Tryd.func120, by kernel_rfl, rfl⟩⟩ -- (*turnkey/turnkeyref11.Lazy).Function
instance : TFn Tryd.prog 121 := ⟨⟨_, Tryd.func121, by kernel_rfl, rfl⟩⟩ -- turnkey/turnkeyref04.Sum
instance : TFn Tryd.prog 122 := ⟨⟨_, Tryd.func122, by kernel_rfl, rfl⟩⟩ -- (*turnkey/oracle.Oracle).Tag
instance : TFn Tryd.prog 123 := ⟨⟨_, Tryd.func123, by kernel_rfl, rfl⟩⟩ -- slices.IndexFunc[[]*turnkey/keyring.entry,*turnkey/keyring.entry]
instance : TFn Tryd.prog 124 := ⟨⟨_, Tryd.func124, by kernel_rfl, rfl⟩⟩ -- turnkey/sha512.Sum
instance : TFn Tryd.prog 125 := ⟨⟨_, Tryd.func125, by kernel_rfl, rfl⟩⟩ -- turnkey/hmac.padded
instance : TFn Tryd.prog 126 := ⟨⟨_, Tryd.func126, by kernel_rfl, rfl⟩⟩ -- (*turnkey/tape.Lazy).Queries
instance : TFn Tryd.prog 127 := ⟨⟨_, Tryd.func127, by kernel_rfl, rfl⟩⟩ -- (*turnkey/tape.Lazy).Function
instance : TFn Tryd.prog 128 := ⟨⟨_, Tryd.func128, by kernel_rfl, rfl⟩⟩ -- turnkey/oracle.query
instance : TFn Tryd.prog 129 := ⟨⟨_, Tryd.func129, by kernel_rfl, rfl⟩⟩ -- (*turnkey/oracle.Oracle).begin
instance : TFn Tryd.prog 130 := ⟨⟨_, Tryd.func130, by kernel_rfl, rfl⟩⟩ -- slices.Reverse[[]*turnkey/keyring.entry,*turnkey/keyring.entry]
instance : TFn Tryd.prog 131 := ⟨⟨_, Tryd.func131, by kernel_rfl, rfl⟩⟩ -- (*turnkey/turnkeyref11.Lazy).Draw
instance : TFn Tryd.prog 132 := ⟨⟨_, Tryd.func132, by kernel_rfl, rfl⟩⟩ -- turnkey/turnkeyref04.Fill
instance : TFn Tryd.prog 133 := ⟨⟨_, Tryd.func133, by kernel_rfl, rfl⟩⟩ -- turnkey/turnkeyref04.one
instance : TFn Tryd.prog 134 := ⟨⟨_, Tryd.func134, by kernel_rfl, rfl⟩⟩ -- turnkey/sha512.first
instance : TFn Tryd.prog 135 := ⟨⟨_, Tryd.func135, by kernel_rfl, rfl⟩⟩ -- slices.Chunk[[]byte,byte]
instance : TFn Tryd.prog 136 := ⟨⟨_, Tryd.func136, by kernel_rfl, rfl⟩⟩ -- turnkey/sha512.Fill
instance : TFn Tryd.prog 137 := ⟨⟨_, Tryd.func137, by kernel_rfl, rfl⟩⟩ -- (*turnkey/sha512.value).take
instance : TFn Tryd.prog 138 := ⟨⟨_, Tryd.func138, by kernel_rfl, rfl⟩⟩ -- turnkey/octets.Xor
instance : TFn Tryd.prog 139 := ⟨⟨_, Tryd.func139, by kernel_rfl, rfl⟩⟩ -- turnkey/octets.Fill
instance : TFn Tryd.prog 140 := ⟨⟨_, Tryd.func140, by kernel_rfl, rfl⟩⟩ -- slices.Repeat[[]byte,byte]
instance : TFn Tryd.prog 141 := ⟨⟨_, Tryd.func141, by kernel_rfl, rfl⟩⟩ -- turnkey/tape.of
instance : TFn Tryd.prog 142 := ⟨⟨_, Tryd.func142, by kernel_rfl, rfl⟩⟩ -- (*turnkey/tape.Lazy).drawn
instance : TFn Tryd.prog 143 := ⟨⟨_, Tryd.func143, by kernel_rfl, rfl⟩⟩ -- turnkey/turnkeyref04.rotr
instance : TFn Tryd.prog 144 := ⟨⟨_, Tryd.func144, by kernel_rfl, rfl⟩⟩ -- turnkey/turnkeyref04.k
instance : TFn Tryd.prog 145 := ⟨⟨_, Tryd.func145, by kernel_rfl, rfl⟩⟩ -- slices.Chunk[[]byte,byte]$1
instance : TFn Tryd.prog 146 := ⟨⟨_, Tryd.func146, by kernel_rfl, rfl⟩⟩ -- turnkey/sha512.words
instance : TFn Tryd.prog 147 := ⟨⟨_, Tryd.func147, by kernel_rfl, rfl⟩⟩ -- turnkey/sha512.great
instance : TFn Tryd.prog 148 := ⟨⟨_, Tryd.func148, by kernel_rfl, rfl⟩⟩ -- turnkey/sha512.next
instance : TFn Tryd.prog 149 := ⟨⟨_, Tryd.func149, by kernel_rfl, rfl⟩⟩ -- math/bits.Mul
instance : TFn Tryd.prog 150 := ⟨⟨_, Tryd.func150, by kernel_rfl, rfl⟩⟩ -- (*turnkey/tape.Lazy).Draw
instance : TFn Tryd.prog 151 := ⟨⟨_, Tryd.func151, by kernel_rfl, rfl⟩⟩ -- math/bits.RotateLeft64
instance : TFn Tryd.prog 152 := ⟨⟨_, Tryd.func152, by kernel_rfl, rfl⟩⟩ -- turnkey/sha512.small
instance : TFn Tryd.prog 153 := ⟨⟨_, Tryd.func153, by kernel_rfl, rfl⟩⟩ -- math/bits.Mul32
instance : TFn Tryd.prog 154 := ⟨⟨_, Tryd.func154, by kernel_rfl, rfl⟩⟩ -- math/bits.Mul64
instance : TFn Tryd.prog 171 := ⟨⟨_, Tryd.func171, by kernel_rfl, rfl⟩⟩ -- (*turnkey/turnkeylaw16.store).Drop
instance : TFn Tryd.prog 172 := ⟨⟨_, Tryd.func172, by kernel_rfl, rfl⟩⟩ -- (*turnkey/turnkeylaw16.store).Load
instance : TFn Tryd.prog 173 := ⟨⟨_, Tryd.func173, by kernel_rfl, rfl⟩⟩ -- (*turnkey/turnkeylaw16.store).Save
instance : TFn Tryd.prog 179 := ⟨⟨_, Tryd.func179, by kernel_rfl, rfl⟩⟩ -- gosem.cut.vars
end Go.Proofs.YtfngacepjcdlnaaDoor
