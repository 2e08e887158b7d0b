/- The facts on the types and the functions of this seat, printed by a program of this repo (wip/tools/types.py). -/
import Derived.Test.YtogfkmejgjodaaaKe
import Derived.Test.YtogfkmejgjodaaaProg
import Derived.KernelRfl
namespace Go.Proofs.Ytogfkmejgjodaaa
open Go Go.Kx

-- 1: func()
instance : TSz Try.prog 1 1 := ⟨by kernel_rfl⟩
instance : TBy Try.prog 1 8 := ⟨by kernel_rfl⟩
instance : TOne Try.prog 1 := ⟨⟨_, Try.underlying1, rfl⟩⟩
instance : TZ Try.prog 1 (.nilFunc) := ⟨by kernel_rfl⟩
-- 2: int64
instance : TU Try.prog 2 (.int .i64) := ⟨by kernel_rfl⟩
instance : TSz Try.prog 2 1 := ⟨by kernel_rfl⟩
instance : TBy Try.prog 2 8 := ⟨by kernel_rfl⟩
instance : TOne Try.prog 2 := ⟨⟨_, Try.underlying2, rfl⟩⟩
instance : TZ Try.prog 2 (.int .i64 0) := ⟨by kernel_rfl⟩
-- 3: int
instance : TU Try.prog 3 (.int .i64) := ⟨by kernel_rfl⟩
instance : TSz Try.prog 3 1 := ⟨by kernel_rfl⟩
instance : TBy Try.prog 3 8 := ⟨by kernel_rfl⟩
instance : TOne Try.prog 3 := ⟨⟨_, Try.underlying3, rfl⟩⟩
instance : TZ Try.prog 3 (.int .i64 0) := ⟨by kernel_rfl⟩
-- 4: bool
instance : TU Try.prog 4 (.bool) := ⟨by kernel_rfl⟩
instance : TSz Try.prog 4 1 := ⟨by kernel_rfl⟩
instance : TBy Try.prog 4 1 := ⟨by kernel_rfl⟩
instance : TOne Try.prog 4 := ⟨⟨_, Try.underlying4, rfl⟩⟩
instance : TZ Try.prog 4 (.bool false) := ⟨by kernel_rfl⟩
-- 5: uint8
instance : TU Try.prog 5 (.int .u8) := ⟨by kernel_rfl⟩
instance : TSz Try.prog 5 1 := ⟨by kernel_rfl⟩
instance : TBy Try.prog 5 1 := ⟨by kernel_rfl⟩
instance : TOne Try.prog 5 := ⟨⟨_, Try.underlying5, rfl⟩⟩
instance : TZ Try.prog 5 (.int .u8 0) := ⟨by kernel_rfl⟩
-- 9: string
instance : TU Try.prog 9 (.string) := ⟨by kernel_rfl⟩
instance : TSz Try.prog 9 1 := ⟨by kernel_rfl⟩
instance : TBy Try.prog 9 16 := ⟨by kernel_rfl⟩
instance : TOne Try.prog 9 := ⟨⟨_, Try.underlying9, rfl⟩⟩
instance : TZ Try.prog 9 (.string ⟨#[]⟩) := ⟨by kernel_rfl⟩
-- 12: uintptr
instance : TU Try.prog 12 (.int .u64) := ⟨by kernel_rfl⟩
instance : TSz Try.prog 12 1 := ⟨by kernel_rfl⟩
instance : TBy Try.prog 12 8 := ⟨by kernel_rfl⟩
instance : TOne Try.prog 12 := ⟨⟨_, Try.underlying12, rfl⟩⟩
instance : TZ Try.prog 12 (.int .u64 0) := ⟨by kernel_rfl⟩
-- 13: struct { msg string; addr uintptr }
instance : TSz Try.prog 13 2 := ⟨by kernel_rfl⟩
instance : TBy Try.prog 13 24 := ⟨by kernel_rfl⟩
instance : TAgg Try.prog 13 2 := ⟨⟨_, Try.underlying13, rfl⟩, by kernel_rfl⟩
def z13 : List Value := [.string ⟨#[]⟩, .int .u64 0]
instance : TZ Try.prog 13 (.agg z13.toArray) := ⟨by kernel_rfl⟩
instance : TFld Try.prog 13 0 0 := ⟨⟨_, _, Try.underlying13, rfl, rfl, by simpa using (show ¬ ((Try.prog.info? 9).map (·.size) = some 0) by rw [(inferInstance : TSz Try.prog 9 _).h]; decide), by kernel_rfl⟩⟩
instance : TFld Try.prog 13 1 1 := ⟨⟨_, _, Try.underlying13, rfl, rfl, by simpa using (show ¬ ((Try.prog.info? 12).map (·.size) = some 0) by rw [(inferInstance : TSz Try.prog 12 _).h]; decide), by kernel_rfl⟩⟩
-- 20: interface {}
instance : TSz Try.prog 20 1 := ⟨by kernel_rfl⟩
instance : TBy Try.prog 20 16 := ⟨by kernel_rfl⟩
instance : TOne Try.prog 20 := ⟨⟨_, Try.underlying20, rfl⟩⟩
instance : TZ Try.prog 20 (.nilIface) := ⟨by kernel_rfl⟩
-- 21: int32
instance : TU Try.prog 21 (.int .i32) := ⟨by kernel_rfl⟩
instance : TSz Try.prog 21 1 := ⟨by kernel_rfl⟩
instance : TBy Try.prog 21 4 := ⟨by kernel_rfl⟩
instance : TOne Try.prog 21 := ⟨⟨_, Try.underlying21, rfl⟩⟩
instance : TZ Try.prog 21 (.int .i32 0) := ⟨by kernel_rfl⟩
-- 22: [16]uint8
instance : TU Try.prog 22 (.array 16 5) := ⟨by kernel_rfl⟩
instance : TSz Try.prog 22 16 := ⟨by kernel_rfl⟩
instance : TBy Try.prog 22 16 := ⟨by kernel_rfl⟩
instance : TAgg Try.prog 22 16 := ⟨⟨_, Try.underlying22, rfl⟩, by kernel_rfl⟩
def z22 : List Value := List.replicate 16 (.int .u8 0)
instance : TZ Try.prog 22 (.agg z22.toArray) := ⟨by kernel_rfl⟩
def K22 : List IntKind := List.replicate 16 .u8
instance : TFlat Try.prog 22 K22 := ⟨by kernel_rfl, by kernel_rfl, by kernel_rfl⟩
-- 23: struct { Unit int; Key [16]uint8 }
instance : TSz Try.prog 23 17 := ⟨by kernel_rfl⟩
instance : TBy Try.prog 23 24 := ⟨by kernel_rfl⟩
instance : TAgg Try.prog 23 17 := ⟨⟨_, Try.underlying23, rfl⟩, by kernel_rfl⟩
def z23 : List Value := [.int .i64 0] ++ List.replicate 16 (.int .u8 0)
instance : TZ Try.prog 23 (.agg z23.toArray) := ⟨by kernel_rfl⟩
def K23 : List IntKind := [.i64] ++ List.replicate 16 .u8
instance : TFlat Try.prog 23 K23 := ⟨by kernel_rfl, by kernel_rfl, by kernel_rfl⟩
instance : TFld Try.prog 23 0 0 := ⟨⟨_, _, Try.underlying23, rfl, rfl, by simpa using (show ¬ ((Try.prog.info? 3).map (·.size) = some 0) by rw [(inferInstance : TSz Try.prog 3 _).h]; decide), by kernel_rfl⟩⟩
instance : TFld Try.prog 23 1 1 := ⟨⟨_, _, Try.underlying23, rfl, rfl, by simpa using (show ¬ ((Try.prog.info? 22).map (·.size) = some 0) by rw [(inferInstance : TSz Try.prog 22 _).h]; decide), by kernel_rfl⟩⟩
-- 24: api.Policy
instance : TSz Try.prog 24 17 := ⟨by kernel_rfl⟩
instance : TBy Try.prog 24 24 := ⟨by kernel_rfl⟩
instance : TAgg Try.prog 24 17 := ⟨⟨_, Try.underlying24, rfl⟩, by kernel_rfl⟩
def z24 : List Value := [.int .i64 0] ++ List.replicate 16 (.int .u8 0)
instance : TZ Try.prog 24 (.agg z24.toArray) := ⟨by kernel_rfl⟩
def K24 : List IntKind := [.i64] ++ List.replicate 16 .u8
instance : TFlat Try.prog 24 K24 := ⟨by kernel_rfl, by kernel_rfl, by kernel_rfl⟩
instance : TFld Try.prog 24 0 0 := ⟨⟨_, _, Try.underlying24, rfl, rfl, by simpa using (show ¬ ((Try.prog.info? 3).map (·.size) = some 0) by rw [(inferInstance : TSz Try.prog 3 _).h]; decide), by kernel_rfl⟩⟩
instance : TFld Try.prog 24 1 1 := ⟨⟨_, _, Try.underlying24, rfl, rfl, by simpa using (show ¬ ((Try.prog.info? 22).map (·.size) = some 0) by rw [(inferInstance : TSz Try.prog 22 _).h]; decide), by kernel_rfl⟩⟩
-- 25: [32]uint8
instance : TU Try.prog 25 (.array 32 5) := ⟨by kernel_rfl⟩
instance : TSz Try.prog 25 32 := ⟨by kernel_rfl⟩
instance : TBy Try.prog 25 32 := ⟨by kernel_rfl⟩
instance : TAgg Try.prog 25 32 := ⟨⟨_, Try.underlying25, rfl⟩, by kernel_rfl⟩
def z25 : List Value := List.replicate 32 (.int .u8 0)
instance : TZ Try.prog 25 (.agg z25.toArray) := ⟨by kernel_rfl⟩
def K25 : List IntKind := List.replicate 32 .u8
instance : TFlat Try.prog 25 K25 := ⟨by kernel_rfl, by kernel_rfl, by kernel_rfl⟩
-- 26: struct { Sector int; Mac [32]uint8 }
instance : TSz Try.prog 26 33 := ⟨by kernel_rfl⟩
instance : TBy Try.prog 26 40 := ⟨by kernel_rfl⟩
instance : TAgg Try.prog 26 33 := ⟨⟨_, Try.underlying26, rfl⟩, by kernel_rfl⟩
def z26 : List Value := [.int .i64 0] ++ List.replicate 32 (.int .u8 0)
instance : TZ Try.prog 26 (.agg z26.toArray) := ⟨by kernel_rfl⟩
def K26 : List IntKind := [.i64] ++ List.replicate 32 .u8
instance : TFlat Try.prog 26 K26 := ⟨by kernel_rfl, by kernel_rfl, by kernel_rfl⟩
instance : TFld Try.prog 26 0 0 := ⟨⟨_, _, Try.underlying26, rfl, rfl, by simpa using (show ¬ ((Try.prog.info? 3).map (·.size) = some 0) by rw [(inferInstance : TSz Try.prog 3 _).h]; decide), by kernel_rfl⟩⟩
instance : TFld Try.prog 26 1 1 := ⟨⟨_, _, Try.underlying26, rfl, rfl, by simpa using (show ¬ ((Try.prog.info? 25).map (·.size) = some 0) by rw [(inferInstance : TSz Try.prog 25 _).h]; decide), by kernel_rfl⟩⟩
-- 27: api.Ptr
instance : TSz Try.prog 27 33 := ⟨by kernel_rfl⟩
instance : TBy Try.prog 27 40 := ⟨by kernel_rfl⟩
instance : TAgg Try.prog 27 33 := ⟨⟨_, Try.underlying27, rfl⟩, by kernel_rfl⟩
def z27 : List Value := [.int .i64 0] ++ List.replicate 32 (.int .u8 0)
instance : TZ Try.prog 27 (.agg z27.toArray) := ⟨by kernel_rfl⟩
def K27 : List IntKind := [.i64] ++ List.replicate 32 .u8
instance : TFlat Try.prog 27 K27 := ⟨by kernel_rfl, by kernel_rfl, by kernel_rfl⟩
instance : TFld Try.prog 27 0 0 := ⟨⟨_, _, Try.underlying27, rfl, rfl, by simpa using (show ¬ ((Try.prog.info? 3).map (·.size) = some 0) by rw [(inferInstance : TSz Try.prog 3 _).h]; decide), by kernel_rfl⟩⟩
instance : TFld Try.prog 27 1 1 := ⟨⟨_, _, Try.underlying27, rfl, rfl, by simpa using (show ¬ ((Try.prog.info? 25).map (·.size) = some 0) by rw [(inferInstance : TSz Try.prog 25 _).h]; decide), by kernel_rfl⟩⟩
-- 28: struct { Root api.Ptr; Deep int }
instance : TSz Try.prog 28 34 := ⟨by kernel_rfl⟩
instance : TBy Try.prog 28 48 := ⟨by kernel_rfl⟩
instance : TAgg Try.prog 28 34 := ⟨⟨_, Try.underlying28, rfl⟩, by kernel_rfl⟩
def z28 : List Value := [.int .i64 0] ++ List.replicate 32 (.int .u8 0) ++ [.int .i64 0]
instance : TZ Try.prog 28 (.agg z28.toArray) := ⟨by kernel_rfl⟩
def K28 : List IntKind := [.i64] ++ List.replicate 32 .u8 ++ [.i64]
instance : TFlat Try.prog 28 K28 := ⟨by kernel_rfl, by kernel_rfl, by kernel_rfl⟩
instance : TFld Try.prog 28 0 0 := ⟨⟨_, _, Try.underlying28, rfl, rfl, by simpa using (show ¬ ((Try.prog.info? 27).map (·.size) = some 0) by rw [(inferInstance : TSz Try.prog 27 _).h]; decide), by kernel_rfl⟩⟩
instance : TFld Try.prog 28 1 33 := ⟨⟨_, _, Try.underlying28, rfl, rfl, by simpa using (show ¬ ((Try.prog.info? 3).map (·.size) = some 0) by rw [(inferInstance : TSz Try.prog 3 _).h]; decide), by kernel_rfl⟩⟩
-- 29: api.Tree
instance : TSz Try.prog 29 34 := ⟨by kernel_rfl⟩
instance : TBy Try.prog 29 48 := ⟨by kernel_rfl⟩
instance : TAgg Try.prog 29 34 := ⟨⟨_, Try.underlying29, rfl⟩, by kernel_rfl⟩
def z29 : List Value := [.int .i64 0] ++ List.replicate 32 (.int .u8 0) ++ [.int .i64 0]
instance : TZ Try.prog 29 (.agg z29.toArray) := ⟨by kernel_rfl⟩
def K29 : List IntKind := [.i64] ++ List.replicate 32 .u8 ++ [.i64]
instance : TFlat Try.prog 29 K29 := ⟨by kernel_rfl, by kernel_rfl, by kernel_rfl⟩
instance : TFld Try.prog 29 0 0 := ⟨⟨_, _, Try.underlying29, rfl, rfl, by simpa using (show ¬ ((Try.prog.info? 27).map (·.size) = some 0) by rw [(inferInstance : TSz Try.prog 27 _).h]; decide), by kernel_rfl⟩⟩
instance : TFld Try.prog 29 1 33 := ⟨⟨_, _, Try.underlying29, rfl, rfl, by simpa using (show ¬ ((Try.prog.info? 3).map (·.size) = some 0) by rw [(inferInstance : TSz Try.prog 3 _).h]; decide), by kernel_rfl⟩⟩
-- 30: struct { Kind int; Mode int; Links int; Size int; Time int; Nonce [16]uint8; api.Policy; api.Tree }
instance : TSz Try.prog 30 72 := ⟨by kernel_rfl⟩
instance : TBy Try.prog 30 128 := ⟨by kernel_rfl⟩
instance : TAgg Try.prog 30 72 := ⟨⟨_, Try.underlying30, rfl⟩, by kernel_rfl⟩
def z30 : List Value := [.int .i64 0, .int .i64 0, .int .i64 0, .int .i64 0, .int .i64 0] ++ List.replicate 16 (.int .u8 0) ++ [.int .i64 0] ++ List.replicate 16 (.int .u8 0) ++ [.int .i64 0] ++ List.replicate 32 (.int .u8 0) ++ [.int .i64 0]
instance : TZ Try.prog 30 (.agg z30.toArray) := ⟨by kernel_rfl⟩
def K30 : List IntKind := [.i64, .i64, .i64, .i64, .i64] ++ List.replicate 16 .u8 ++ [.i64] ++ List.replicate 16 .u8 ++ [.i64] ++ List.replicate 32 .u8 ++ [.i64]
instance : TFlat Try.prog 30 K30 := ⟨by kernel_rfl, by kernel_rfl, by kernel_rfl⟩
instance : TFld Try.prog 30 0 0 := ⟨⟨_, _, Try.underlying30, rfl, rfl, by simpa using (show ¬ ((Try.prog.info? 3).map (·.size) = some 0) by rw [(inferInstance : TSz Try.prog 3 _).h]; decide), by kernel_rfl⟩⟩
instance : TFld Try.prog 30 1 1 := ⟨⟨_, _, Try.underlying30, rfl, rfl, by simpa using (show ¬ ((Try.prog.info? 3).map (·.size) = some 0) by rw [(inferInstance : TSz Try.prog 3 _).h]; decide), by kernel_rfl⟩⟩
instance : TFld Try.prog 30 2 2 := ⟨⟨_, _, Try.underlying30, rfl, rfl, by simpa using (show ¬ ((Try.prog.info? 3).map (·.size) = some 0) by rw [(inferInstance : TSz Try.prog 3 _).h]; decide), by kernel_rfl⟩⟩
instance : TFld Try.prog 30 3 3 := ⟨⟨_, _, Try.underlying30, rfl, rfl, by simpa using (show ¬ ((Try.prog.info? 3).map (·.size) = some 0) by rw [(inferInstance : TSz Try.prog 3 _).h]; decide), by kernel_rfl⟩⟩
instance : TFld Try.prog 30 4 4 := ⟨⟨_, _, Try.underlying30, rfl, rfl, by simpa using (show ¬ ((Try.prog.info? 3).map (·.size) = some 0) by rw [(inferInstance : TSz Try.prog 3 _).h]; decide), by kernel_rfl⟩⟩
instance : TFld Try.prog 30 5 5 := ⟨⟨_, _, Try.underlying30, rfl, rfl, by simpa using (show ¬ ((Try.prog.info? 22).map (·.size) = some 0) by rw [(inferInstance : TSz Try.prog 22 _).h]; decide), by kernel_rfl⟩⟩
instance : TFld Try.prog 30 6 21 := ⟨⟨_, _, Try.underlying30, rfl, rfl, by simpa using (show ¬ ((Try.prog.info? 24).map (·.size) = some 0) by rw [(inferInstance : TSz Try.prog 24 _).h]; decide), by kernel_rfl⟩⟩
instance : TFld Try.prog 30 7 38 := ⟨⟨_, _, Try.underlying30, rfl, rfl, by simpa using (show ¬ ((Try.prog.info? 29).map (·.size) = some 0) by rw [(inferInstance : TSz Try.prog 29 _).h]; decide), by kernel_rfl⟩⟩
-- 31: api.Inode
instance : TSz Try.prog 31 72 := ⟨by kernel_rfl⟩
instance : TBy Try.prog 31 128 := ⟨by kernel_rfl⟩
instance : TAgg Try.prog 31 72 := ⟨⟨_, Try.underlying31, rfl⟩, by kernel_rfl⟩
def z31 : List Value := [.int .i64 0, .int .i64 0, .int .i64 0, .int .i64 0, .int .i64 0] ++ List.replicate 16 (.int .u8 0) ++ [.int .i64 0] ++ List.replicate 16 (.int .u8 0) ++ [.int .i64 0] ++ List.replicate 32 (.int .u8 0) ++ [.int .i64 0]
instance : TZ Try.prog 31 (.agg z31.toArray) := ⟨by kernel_rfl⟩
def K31 : List IntKind := [.i64, .i64, .i64, .i64, .i64] ++ List.replicate 16 .u8 ++ [.i64] ++ List.replicate 16 .u8 ++ [.i64] ++ List.replicate 32 .u8 ++ [.i64]
instance : TFlat Try.prog 31 K31 := ⟨by kernel_rfl, by kernel_rfl, by kernel_rfl⟩
instance : TFld Try.prog 31 0 0 := ⟨⟨_, _, Try.underlying31, rfl, rfl, by simpa using (show ¬ ((Try.prog.info? 3).map (·.size) = some 0) by rw [(inferInstance : TSz Try.prog 3 _).h]; decide), by kernel_rfl⟩⟩
instance : TFld Try.prog 31 1 1 := ⟨⟨_, _, Try.underlying31, rfl, rfl, by simpa using (show ¬ ((Try.prog.info? 3).map (·.size) = some 0) by rw [(inferInstance : TSz Try.prog 3 _).h]; decide), by kernel_rfl⟩⟩
instance : TFld Try.prog 31 2 2 := ⟨⟨_, _, Try.underlying31, rfl, rfl, by simpa using (show ¬ ((Try.prog.info? 3).map (·.size) = some 0) by rw [(inferInstance : TSz Try.prog 3 _).h]; decide), by kernel_rfl⟩⟩
instance : TFld Try.prog 31 3 3 := ⟨⟨_, _, Try.underlying31, rfl, rfl, by simpa using (show ¬ ((Try.prog.info? 3).map (·.size) = some 0) by rw [(inferInstance : TSz Try.prog 3 _).h]; decide), by kernel_rfl⟩⟩
instance : TFld Try.prog 31 4 4 := ⟨⟨_, _, Try.underlying31, rfl, rfl, by simpa using (show ¬ ((Try.prog.info? 3).map (·.size) = some 0) by rw [(inferInstance : TSz Try.prog 3 _).h]; decide), by kernel_rfl⟩⟩
instance : TFld Try.prog 31 5 5 := ⟨⟨_, _, Try.underlying31, rfl, rfl, by simpa using (show ¬ ((Try.prog.info? 22).map (·.size) = some 0) by rw [(inferInstance : TSz Try.prog 22 _).h]; decide), by kernel_rfl⟩⟩
instance : TFld Try.prog 31 6 21 := ⟨⟨_, _, Try.underlying31, rfl, rfl, by simpa using (show ¬ ((Try.prog.info? 24).map (·.size) = some 0) by rw [(inferInstance : TSz Try.prog 24 _).h]; decide), by kernel_rfl⟩⟩
instance : TFld Try.prog 31 7 38 := ⟨⟨_, _, Try.underlying31, rfl, rfl, by simpa using (show ¬ ((Try.prog.info? 29).map (·.size) = some 0) by rw [(inferInstance : TSz Try.prog 29 _).h]; decide), by kernel_rfl⟩⟩
-- 32: func() bool
instance : TSz Try.prog 32 1 := ⟨by kernel_rfl⟩
instance : TBy Try.prog 32 8 := ⟨by kernel_rfl⟩
instance : TOne Try.prog 32 := ⟨⟨_, Try.underlying32, rfl⟩⟩
instance : TZ Try.prog 32 (.nilFunc) := ⟨by kernel_rfl⟩
-- 33: api.Errno
instance : TU Try.prog 33 (.int .i64) := ⟨by kernel_rfl⟩
instance : TSz Try.prog 33 1 := ⟨by kernel_rfl⟩
instance : TBy Try.prog 33 8 := ⟨by kernel_rfl⟩
instance : TOne Try.prog 33 := ⟨⟨_, Try.underlying33, rfl⟩⟩
instance : TZ Try.prog 33 (.int .i64 0) := ⟨by kernel_rfl⟩
-- 35: func(api.Inode, int, api.Policy) (api.Inode, api.Errno)
instance : TSz Try.prog 35 1 := ⟨by kernel_rfl⟩
instance : TBy Try.prog 35 8 := ⟨by kernel_rfl⟩
instance : TOne Try.prog 35 := ⟨⟨_, Try.underlying35, rfl⟩⟩
instance : TZ Try.prog 35 (.nilFunc) := ⟨by kernel_rfl⟩
-- 37: func(api.Inode, int, api.Policy) (api.Inode, int)
instance : TSz Try.prog 37 1 := ⟨by kernel_rfl⟩
instance : TBy Try.prog 37 8 := ⟨by kernel_rfl⟩
instance : TOne Try.prog 37 := ⟨⟨_, Try.underlying37, rfl⟩⟩
instance : TZ Try.prog 37 (.nilFunc) := ⟨by kernel_rfl⟩
-- 38: func(api.Inode, int, api.Policy) bool
instance : TSz Try.prog 38 1 := ⟨by kernel_rfl⟩
instance : TBy Try.prog 38 8 := ⟨by kernel_rfl⟩
instance : TOne Try.prog 38 := ⟨⟨_, Try.underlying38, rfl⟩⟩
instance : TZ Try.prog 38 (.nilFunc) := ⟨by kernel_rfl⟩
-- 39: func(api.Inode, api.Inode) api.Inode
instance : TSz Try.prog 39 1 := ⟨by kernel_rfl⟩
instance : TBy Try.prog 39 8 := ⟨by kernel_rfl⟩
instance : TOne Try.prog 39 := ⟨⟨_, Try.underlying39, rfl⟩⟩
instance : TZ Try.prog 39 (.nilFunc) := ⟨by kernel_rfl⟩
-- 40: func(api.Inode, api.Inode) api.Errno
instance : TSz Try.prog 40 1 := ⟨by kernel_rfl⟩
instance : TBy Try.prog 40 8 := ⟨by kernel_rfl⟩
instance : TOne Try.prog 40 := ⟨⟨_, Try.underlying40, rfl⟩⟩
instance : TZ Try.prog 40 (.nilFunc) := ⟨by kernel_rfl⟩
-- 41: func(api.Inode, api.Inode) int
instance : TSz Try.prog 41 1 := ⟨by kernel_rfl⟩
instance : TBy Try.prog 41 8 := ⟨by kernel_rfl⟩
instance : TOne Try.prog 41 := ⟨⟨_, Try.underlying41, rfl⟩⟩
instance : TZ Try.prog 41 (.nilFunc) := ⟨by kernel_rfl⟩
-- 42: func(api.Inode, api.Inode) bool
instance : TSz Try.prog 42 1 := ⟨by kernel_rfl⟩
instance : TBy Try.prog 42 8 := ⟨by kernel_rfl⟩
instance : TOne Try.prog 42 := ⟨⟨_, Try.underlying42, rfl⟩⟩
instance : TZ Try.prog 42 (.nilFunc) := ⟨by kernel_rfl⟩
-- 43: []uint8
instance : TU Try.prog 43 (.slice 5) := ⟨by kernel_rfl⟩
instance : TSz Try.prog 43 1 := ⟨by kernel_rfl⟩
instance : TBy Try.prog 43 24 := ⟨by kernel_rfl⟩
instance : TOne Try.prog 43 := ⟨⟨_, Try.underlying43, rfl⟩⟩
instance : TZ Try.prog 43 (.slice none 0 0) := ⟨by kernel_rfl⟩
-- 44: *space.Space
instance : TU Try.prog 44 (.pointer 73) := ⟨by kernel_rfl⟩
instance : TSz Try.prog 44 1 := ⟨by kernel_rfl⟩
instance : TBy Try.prog 44 8 := ⟨by kernel_rfl⟩
instance : TOne Try.prog 44 := ⟨⟨_, Try.underlying44, rfl⟩⟩
instance : TZ Try.prog 44 (.pointer none) := ⟨by kernel_rfl⟩
-- 46: func(int, int) (*space.Space, api.Errno)
instance : TSz Try.prog 46 1 := ⟨by kernel_rfl⟩
instance : TBy Try.prog 46 8 := ⟨by kernel_rfl⟩
instance : TOne Try.prog 46 := ⟨⟨_, Try.underlying46, rfl⟩⟩
instance : TZ Try.prog 46 (.nilFunc) := ⟨by kernel_rfl⟩
-- 48: func() (int, api.Errno)
instance : TSz Try.prog 48 1 := ⟨by kernel_rfl⟩
instance : TBy Try.prog 48 8 := ⟨by kernel_rfl⟩
instance : TOne Try.prog 48 := ⟨⟨_, Try.underlying48, rfl⟩⟩
instance : TZ Try.prog 48 (.nilFunc) := ⟨by kernel_rfl⟩
-- 49: func(...int) api.Errno
instance : TSz Try.prog 49 1 := ⟨by kernel_rfl⟩
instance : TBy Try.prog 49 8 := ⟨by kernel_rfl⟩
instance : TOne Try.prog 49 := ⟨⟨_, Try.underlying49, rfl⟩⟩
instance : TZ Try.prog 49 (.nilFunc) := ⟨by kernel_rfl⟩
-- 50: func() int
instance : TSz Try.prog 50 1 := ⟨by kernel_rfl⟩
instance : TBy Try.prog 50 8 := ⟨by kernel_rfl⟩
instance : TOne Try.prog 50 := ⟨⟨_, Try.underlying50, rfl⟩⟩
instance : TZ Try.prog 50 (.nilFunc) := ⟨by kernel_rfl⟩
-- 51: []int
instance : TU Try.prog 51 (.slice 3) := ⟨by kernel_rfl⟩
instance : TSz Try.prog 51 1 := ⟨by kernel_rfl⟩
instance : TBy Try.prog 51 24 := ⟨by kernel_rfl⟩
instance : TOne Try.prog 51 := ⟨⟨_, Try.underlying51, rfl⟩⟩
instance : TZ Try.prog 51 (.slice none 0 0) := ⟨by kernel_rfl⟩
-- 52: func() []int
instance : TSz Try.prog 52 1 := ⟨by kernel_rfl⟩
instance : TBy Try.prog 52 8 := ⟨by kernel_rfl⟩
instance : TOne Try.prog 52 := ⟨⟨_, Try.underlying52, rfl⟩⟩
instance : TZ Try.prog 52 (.nilFunc) := ⟨by kernel_rfl⟩
-- 53: func(int, []uint8) bool
instance : TSz Try.prog 53 1 := ⟨by kernel_rfl⟩
instance : TBy Try.prog 53 8 := ⟨by kernel_rfl⟩
instance : TOne Try.prog 53 := ⟨⟨_, Try.underlying53, rfl⟩⟩
instance : TZ Try.prog 53 (.nilFunc) := ⟨by kernel_rfl⟩
-- 54: []bool
instance : TU Try.prog 54 (.slice 4) := ⟨by kernel_rfl⟩
instance : TSz Try.prog 54 1 := ⟨by kernel_rfl⟩
instance : TBy Try.prog 54 24 := ⟨by kernel_rfl⟩
instance : TOne Try.prog 54 := ⟨⟨_, Try.underlying54, rfl⟩⟩
instance : TZ Try.prog 54 (.slice none 0 0) := ⟨by kernel_rfl⟩
-- 55: func(...int)
instance : TSz Try.prog 55 1 := ⟨by kernel_rfl⟩
instance : TBy Try.prog 55 8 := ⟨by kernel_rfl⟩
instance : TOne Try.prog 55 := ⟨⟨_, Try.underlying55, rfl⟩⟩
instance : TZ Try.prog 55 (.nilFunc) := ⟨by kernel_rfl⟩
-- 56: func([]int, []int) bool
instance : TSz Try.prog 56 1 := ⟨by kernel_rfl⟩
instance : TBy Try.prog 56 8 := ⟨by kernel_rfl⟩
instance : TOne Try.prog 56 := ⟨⟨_, Try.underlying56, rfl⟩⟩
instance : TZ Try.prog 56 (.nilFunc) := ⟨by kernel_rfl⟩
-- 57: func([]uint8, []bool) bool
instance : TSz Try.prog 57 1 := ⟨by kernel_rfl⟩
instance : TBy Try.prog 57 8 := ⟨by kernel_rfl⟩
instance : TOne Try.prog 57 := ⟨⟨_, Try.underlying57, rfl⟩⟩
instance : TZ Try.prog 57 (.nilFunc) := ⟨by kernel_rfl⟩
-- 58: []turnkeylaw15.Act
instance : TU Try.prog 58 (.slice 63) := ⟨by kernel_rfl⟩
instance : TSz Try.prog 58 1 := ⟨by kernel_rfl⟩
instance : TBy Try.prog 58 24 := ⟨by kernel_rfl⟩
instance : TOne Try.prog 58 := ⟨⟨_, Try.underlying58, rfl⟩⟩
instance : TZ Try.prog 58 (.slice none 0 0) := ⟨by kernel_rfl⟩
-- 59: *turnkeyref15.Space
instance : TU Try.prog 59 (.pointer 61) := ⟨by kernel_rfl⟩
instance : TSz Try.prog 59 1 := ⟨by kernel_rfl⟩
instance : TBy Try.prog 59 8 := ⟨by kernel_rfl⟩
instance : TOne Try.prog 59 := ⟨⟨_, Try.underlying59, rfl⟩⟩
instance : TZ Try.prog 59 (.pointer none) := ⟨by kernel_rfl⟩
-- 60: struct { First int; End int; Used []int; Going []int }
instance : TSz Try.prog 60 4 := ⟨by kernel_rfl⟩
instance : TBy Try.prog 60 64 := ⟨by kernel_rfl⟩
instance : TAgg Try.prog 60 4 := ⟨⟨_, Try.underlying60, rfl⟩, by kernel_rfl⟩
def z60 : List Value := [.int .i64 0, .int .i64 0, .slice none 0 0, .slice none 0 0]
instance : TZ Try.prog 60 (.agg z60.toArray) := ⟨by kernel_rfl⟩
instance : TFld Try.prog 60 0 0 := ⟨⟨_, _, Try.underlying60, rfl, rfl, by simpa using (show ¬ ((Try.prog.info? 3).map (·.size) = some 0) by rw [(inferInstance : TSz Try.prog 3 _).h]; decide), by kernel_rfl⟩⟩
instance : TFld Try.prog 60 1 1 := ⟨⟨_, _, Try.underlying60, rfl, rfl, by simpa using (show ¬ ((Try.prog.info? 3).map (·.size) = some 0) by rw [(inferInstance : TSz Try.prog 3 _).h]; decide), by kernel_rfl⟩⟩
instance : TFld Try.prog 60 2 2 := ⟨⟨_, _, Try.underlying60, rfl, rfl, by simpa using (show ¬ ((Try.prog.info? 51).map (·.size) = some 0) by rw [(inferInstance : TSz Try.prog 51 _).h]; decide), by kernel_rfl⟩⟩
instance : TFld Try.prog 60 3 3 := ⟨⟨_, _, Try.underlying60, rfl, rfl, by simpa using (show ¬ ((Try.prog.info? 51).map (·.size) = some 0) by rw [(inferInstance : TSz Try.prog 51 _).h]; decide), by kernel_rfl⟩⟩
-- 61: turnkeyref15.Space
instance : TSz Try.prog 61 4 := ⟨by kernel_rfl⟩
instance : TBy Try.prog 61 64 := ⟨by kernel_rfl⟩
instance : TAgg Try.prog 61 4 := ⟨⟨_, Try.underlying61, rfl⟩, by kernel_rfl⟩
def z61 : List Value := [.int .i64 0, .int .i64 0, .slice none 0 0, .slice none 0 0]
instance : TZ Try.prog 61 (.agg z61.toArray) := ⟨by kernel_rfl⟩
instance : TFld Try.prog 61 0 0 := ⟨⟨_, _, Try.underlying61, rfl, rfl, by simpa using (show ¬ ((Try.prog.info? 3).map (·.size) = some 0) by rw [(inferInstance : TSz Try.prog 3 _).h]; decide), by kernel_rfl⟩⟩
instance : TFld Try.prog 61 1 1 := ⟨⟨_, _, Try.underlying61, rfl, rfl, by simpa using (show ¬ ((Try.prog.info? 3).map (·.size) = some 0) by rw [(inferInstance : TSz Try.prog 3 _).h]; decide), by kernel_rfl⟩⟩
instance : TFld Try.prog 61 2 2 := ⟨⟨_, _, Try.underlying61, rfl, rfl, by simpa using (show ¬ ((Try.prog.info? 51).map (·.size) = some 0) by rw [(inferInstance : TSz Try.prog 51 _).h]; decide), by kernel_rfl⟩⟩
instance : TFld Try.prog 61 3 3 := ⟨⟨_, _, Try.underlying61, rfl, rfl, by simpa using (show ¬ ((Try.prog.info? 51).map (·.size) = some 0) by rw [(inferInstance : TSz Try.prog 51 _).h]; decide), by kernel_rfl⟩⟩
-- 62: struct { Kind int; At []int }
instance : TSz Try.prog 62 2 := ⟨by kernel_rfl⟩
instance : TBy Try.prog 62 32 := ⟨by kernel_rfl⟩
instance : TAgg Try.prog 62 2 := ⟨⟨_, Try.underlying62, rfl⟩, by kernel_rfl⟩
def z62 : List Value := [.int .i64 0, .slice none 0 0]
instance : TZ Try.prog 62 (.agg z62.toArray) := ⟨by kernel_rfl⟩
instance : TFld Try.prog 62 0 0 := ⟨⟨_, _, Try.underlying62, rfl, rfl, by simpa using (show ¬ ((Try.prog.info? 3).map (·.size) = some 0) by rw [(inferInstance : TSz Try.prog 3 _).h]; decide), by kernel_rfl⟩⟩
instance : TFld Try.prog 62 1 1 := ⟨⟨_, _, Try.underlying62, rfl, rfl, by simpa using (show ¬ ((Try.prog.info? 51).map (·.size) = some 0) by rw [(inferInstance : TSz Try.prog 51 _).h]; decide), by kernel_rfl⟩⟩
-- 63: turnkeylaw15.Act
instance : TSz Try.prog 63 2 := ⟨by kernel_rfl⟩
instance : TBy Try.prog 63 32 := ⟨by kernel_rfl⟩
instance : TAgg Try.prog 63 2 := ⟨⟨_, Try.underlying63, rfl⟩, by kernel_rfl⟩
def z63 : List Value := [.int .i64 0, .slice none 0 0]
instance : TZ Try.prog 63 (.agg z63.toArray) := ⟨by kernel_rfl⟩
instance : TFld Try.prog 63 0 0 := ⟨⟨_, _, Try.underlying63, rfl, rfl, by simpa using (show ¬ ((Try.prog.info? 3).map (·.size) = some 0) by rw [(inferInstance : TSz Try.prog 3 _).h]; decide), by kernel_rfl⟩⟩
instance : TFld Try.prog 63 1 1 := ⟨⟨_, _, Try.underlying63, rfl, rfl, by simpa using (show ¬ ((Try.prog.info? 51).map (·.size) = some 0) by rw [(inferInstance : TSz Try.prog 51 _).h]; decide), by kernel_rfl⟩⟩
-- 65: func() (int, int)
instance : TSz Try.prog 65 1 := ⟨by kernel_rfl⟩
instance : TBy Try.prog 65 8 := ⟨by kernel_rfl⟩
instance : TOne Try.prog 65 := ⟨⟨_, Try.underlying65, rfl⟩⟩
instance : TZ Try.prog 65 (.nilFunc) := ⟨by kernel_rfl⟩
-- 66: func([]int) int
instance : TSz Try.prog 66 1 := ⟨by kernel_rfl⟩
instance : TBy Try.prog 66 8 := ⟨by kernel_rfl⟩
instance : TOne Try.prog 66 := ⟨⟨_, Try.underlying66, rfl⟩⟩
instance : TZ Try.prog 66 (.nilFunc) := ⟨by kernel_rfl⟩
-- 67: func([]int)
instance : TSz Try.prog 67 1 := ⟨by kernel_rfl⟩
instance : TBy Try.prog 67 8 := ⟨by kernel_rfl⟩
instance : TOne Try.prog 67 := ⟨⟨_, Try.underlying67, rfl⟩⟩
instance : TZ Try.prog 67 (.nilFunc) := ⟨by kernel_rfl⟩
-- 68: func(int) bool
instance : TSz Try.prog 68 1 := ⟨by kernel_rfl⟩
instance : TBy Try.prog 68 8 := ⟨by kernel_rfl⟩
instance : TOne Try.prog 68 := ⟨⟨_, Try.underlying68, rfl⟩⟩
instance : TZ Try.prog 68 (.nilFunc) := ⟨by kernel_rfl⟩
-- 69: func(int, int, []turnkeylaw15.Act) bool
instance : TSz Try.prog 69 1 := ⟨by kernel_rfl⟩
instance : TBy Try.prog 69 8 := ⟨by kernel_rfl⟩
instance : TOne Try.prog 69 := ⟨⟨_, Try.underlying69, rfl⟩⟩
instance : TZ Try.prog 69 (.nilFunc) := ⟨by kernel_rfl⟩
-- 70: func(api.Inode) bool
instance : TSz Try.prog 70 1 := ⟨by kernel_rfl⟩
instance : TBy Try.prog 70 8 := ⟨by kernel_rfl⟩
instance : TOne Try.prog 70 := ⟨⟨_, Try.underlying70, rfl⟩⟩
instance : TZ Try.prog 70 (.nilFunc) := ⟨by kernel_rfl⟩
-- 71: []space.state
instance : TU Try.prog 71 (.slice 75) := ⟨by kernel_rfl⟩
instance : TSz Try.prog 71 1 := ⟨by kernel_rfl⟩
instance : TBy Try.prog 71 24 := ⟨by kernel_rfl⟩
instance : TOne Try.prog 71 := ⟨⟨_, Try.underlying71, rfl⟩⟩
instance : TZ Try.prog 71 (.slice none 0 0) := ⟨by kernel_rfl⟩
-- 72: struct { first int; is []space.state }
instance : TSz Try.prog 72 2 := ⟨by kernel_rfl⟩
instance : TBy Try.prog 72 32 := ⟨by kernel_rfl⟩
instance : TAgg Try.prog 72 2 := ⟨⟨_, Try.underlying72, rfl⟩, by kernel_rfl⟩
def z72 : List Value := [.int .i64 0, .slice none 0 0]
instance : TZ Try.prog 72 (.agg z72.toArray) := ⟨by kernel_rfl⟩
instance : TFld Try.prog 72 0 0 := ⟨⟨_, _, Try.underlying72, rfl, rfl, by simpa using (show ¬ ((Try.prog.info? 3).map (·.size) = some 0) by rw [(inferInstance : TSz Try.prog 3 _).h]; decide), by kernel_rfl⟩⟩
instance : TFld Try.prog 72 1 1 := ⟨⟨_, _, Try.underlying72, rfl, rfl, by simpa using (show ¬ ((Try.prog.info? 71).map (·.size) = some 0) by rw [(inferInstance : TSz Try.prog 71 _).h]; decide), by kernel_rfl⟩⟩
-- 73: space.Space
instance : TSz Try.prog 73 2 := ⟨by kernel_rfl⟩
instance : TBy Try.prog 73 32 := ⟨by kernel_rfl⟩
instance : TAgg Try.prog 73 2 := ⟨⟨_, Try.underlying73, rfl⟩, by kernel_rfl⟩
def z73 : List Value := [.int .i64 0, .slice none 0 0]
instance : TZ Try.prog 73 (.agg z73.toArray) := ⟨by kernel_rfl⟩
instance : TFld Try.prog 73 0 0 := ⟨⟨_, _, Try.underlying73, rfl, rfl, by simpa using (show ¬ ((Try.prog.info? 3).map (·.size) = some 0) by rw [(inferInstance : TSz Try.prog 3 _).h]; decide), by kernel_rfl⟩⟩
instance : TFld Try.prog 73 1 1 := ⟨⟨_, _, Try.underlying73, rfl, rfl, by simpa using (show ¬ ((Try.prog.info? 71).map (·.size) = some 0) by rw [(inferInstance : TSz Try.prog 71 _).h]; decide), by kernel_rfl⟩⟩
-- 74: func([]space.state, space.state) int
instance : TSz Try.prog 74 1 := ⟨by kernel_rfl⟩
instance : TBy Try.prog 74 8 := ⟨by kernel_rfl⟩
instance : TOne Try.prog 74 := ⟨⟨_, Try.underlying74, rfl⟩⟩
instance : TZ Try.prog 74 (.nilFunc) := ⟨by kernel_rfl⟩
-- 75: space.state
instance : TU Try.prog 75 (.int .i64) := ⟨by kernel_rfl⟩
instance : TSz Try.prog 75 1 := ⟨by kernel_rfl⟩
instance : TBy Try.prog 75 8 := ⟨by kernel_rfl⟩
instance : TOne Try.prog 75 := ⟨⟨_, Try.underlying75, rfl⟩⟩
instance : TZ Try.prog 75 (.int .i64 0) := ⟨by kernel_rfl⟩
-- 76: func([]int, space.state, space.state) api.Errno
instance : TSz Try.prog 76 1 := ⟨by kernel_rfl⟩
instance : TBy Try.prog 76 8 := ⟨by kernel_rfl⟩
instance : TOne Try.prog 76 := ⟨⟨_, Try.underlying76, rfl⟩⟩
instance : TZ Try.prog 76 (.nilFunc) := ⟨by kernel_rfl⟩
-- 77: func(space.state, space.state)
instance : TSz Try.prog 77 1 := ⟨by kernel_rfl⟩
instance : TBy Try.prog 77 8 := ⟨by kernel_rfl⟩
instance : TOne Try.prog 77 := ⟨⟨_, Try.underlying77, rfl⟩⟩
instance : TZ Try.prog 77 (.nilFunc) := ⟨by kernel_rfl⟩
-- 78: func([]int, int) []int
instance : TSz Try.prog 78 1 := ⟨by kernel_rfl⟩
instance : TBy Try.prog 78 8 := ⟨by kernel_rfl⟩
instance : TOne Try.prog 78 := ⟨⟨_, Try.underlying78, rfl⟩⟩
instance : TZ Try.prog 78 (.nilFunc) := ⟨by kernel_rfl⟩
-- 79: func([]int) bool
instance : TSz Try.prog 79 1 := ⟨by kernel_rfl⟩
instance : TBy Try.prog 79 8 := ⟨by kernel_rfl⟩
instance : TOne Try.prog 79 := ⟨⟨_, Try.underlying79, rfl⟩⟩
instance : TZ Try.prog 79 (.nilFunc) := ⟨by kernel_rfl⟩
-- 80: func([]int, int) bool
instance : TSz Try.prog 80 1 := ⟨by kernel_rfl⟩
instance : TBy Try.prog 80 8 := ⟨by kernel_rfl⟩
instance : TOne Try.prog 80 := ⟨⟨_, Try.underlying80, rfl⟩⟩
instance : TZ Try.prog 80 (.nilFunc) := ⟨by kernel_rfl⟩
-- 81: func([]int, int) int
instance : TSz Try.prog 81 1 := ⟨by kernel_rfl⟩
instance : TBy Try.prog 81 8 := ⟨by kernel_rfl⟩
instance : TOne Try.prog 81 := ⟨⟨_, Try.underlying81, rfl⟩⟩
instance : TZ Try.prog 81 (.nilFunc) := ⟨by kernel_rfl⟩
-- 82: func() string
instance : TSz Try.prog 82 1 := ⟨by kernel_rfl⟩
instance : TBy Try.prog 82 8 := ⟨by kernel_rfl⟩
instance : TOne Try.prog 82 := ⟨⟨_, Try.underlying82, rfl⟩⟩
instance : TZ Try.prog 82 (.nilFunc) := ⟨by kernel_rfl⟩
-- 88: uint32
instance : TU Try.prog 88 (.int .u32) := ⟨by kernel_rfl⟩
instance : TSz Try.prog 88 1 := ⟨by kernel_rfl⟩
instance : TBy Try.prog 88 4 := ⟨by kernel_rfl⟩
instance : TOne Try.prog 88 := ⟨⟨_, Try.underlying88, rfl⟩⟩
instance : TZ Try.prog 88 (.int .u32 0) := ⟨by kernel_rfl⟩
-- 91: func(unsafe.Pointer, unsafe.Pointer) bool
instance : TSz Try.prog 91 1 := ⟨by kernel_rfl⟩
instance : TBy Try.prog 91 8 := ⟨by kernel_rfl⟩
instance : TOne Try.prog 91 := ⟨⟨_, Try.underlying91, rfl⟩⟩
instance : TZ Try.prog 91 (.nilFunc) := ⟨by kernel_rfl⟩
-- 92: *uint8
instance : TU Try.prog 92 (.pointer 5) := ⟨by kernel_rfl⟩
instance : TSz Try.prog 92 1 := ⟨by kernel_rfl⟩
instance : TBy Try.prog 92 8 := ⟨by kernel_rfl⟩
instance : TOne Try.prog 92 := ⟨⟨_, Try.underlying92, rfl⟩⟩
instance : TZ Try.prog 92 (.pointer none) := ⟨by kernel_rfl⟩
-- 97: unsafe.Pointer
instance : TSz Try.prog 97 1 := ⟨by kernel_rfl⟩
instance : TBy Try.prog 97 8 := ⟨by kernel_rfl⟩
instance : TOne Try.prog 97 := ⟨⟨_, Try.underlying97, rfl⟩⟩
instance : TZ Try.prog 97 (.pointer none) := ⟨by kernel_rfl⟩
instance : TFn Try.prog 3 := ⟨⟨_, Try.func3, by kernel_rfl, rfl⟩⟩ -- turnkey/turnkeylaw24.PolicySets
instance : TFn Try.prog 4 := ⟨⟨_, Try.func4, by kernel_rfl, rfl⟩⟩ -- turnkey/turnkeylaw24.PolicyFits
instance : TFn Try.prog 5 := ⟨⟨_, Try.func5, by kernel_rfl, rfl⟩⟩ -- turnkey/turnkeylaw15.SpaceTakes
instance : TFn Try.prog 6 := ⟨⟨_, Try.func6, by kernel_rfl, rfl⟩⟩ -- turnkey/turnkeylaw15.SpaceSums
instance : TFn Try.prog 7 := ⟨⟨_, Try.func7, by kernel_rfl, rfl⟩⟩ -- turnkey/turnkeylaw15.SpaceUndo
instance : TFn Try.prog 8 := ⟨⟨_, Try.func8, by kernel_rfl, rfl⟩⟩ -- turnkey/turnkeylaw15.SpaceActs
instance : TFn Try.prog 9 := ⟨⟨_, Try.func9, by kernel_rfl, rfl⟩⟩ -- turnkey/turnkeylaw24.awake
instance : TFn Try.prog 10 := ⟨⟨_, Try.func10, by kernel_rfl, rfl⟩⟩ -- turnkey/policy.Set
instance : TFn Try.prog 11 := ⟨⟨_, Try.func11, by kernel_rfl, rfl⟩⟩ -- turnkey/turnkeyref24.Set
instance : TFn Try.prog 12 := ⟨⟨_, Try.func12, by kernel_rfl, rfl⟩⟩ -- turnkey/policy.Inherit
instance : TFn Try.prog 13 := ⟨⟨_, Try.func13, by kernel_rfl, rfl⟩⟩ -- turnkey/policy.Fits
instance : TFn Try.prog 14 := ⟨⟨_, Try.func14, by kernel_rfl, rfl⟩⟩ -- turnkey/turnkeyref24.Fits
instance : TFn Try.prog 15 := ⟨⟨_, Try.func15, by kernel_rfl, rfl⟩⟩ -- turnkey/turnkeylaw15.awake
instance : TFn Try.prog 16 := ⟨⟨_, Try.func16, by kernel_rfl, rfl⟩⟩ -- turnkey/space.New
instance : TFn Try.prog 17 := ⟨⟨_, Try.func17, by kernel_rfl, rfl⟩⟩ -- (*turnkey/space.Space).Take
instance : TFn Try.prog 18 := ⟨⟨_, Try.func18, by kernel_rfl, rfl⟩⟩ -- (*turnkey/space.Space).Give
instance : TFn Try.prog 19 := ⟨⟨_, Try.func19, by kernel_rfl, rfl⟩⟩ -- (*turnkey/space.Space).Free
instance : TFn Try.prog 20 := ⟨⟨_, Try.func20, by kernel_rfl, rfl⟩⟩ -- (*turnkey/space.Space).Settle
instance : TFn Try.prog 21 := ⟨⟨_, Try.func21, by kernel_rfl, rfl⟩⟩ -- (*turnkey/space.Space).Used
instance : TFn Try.prog 22 := ⟨⟨_, Try.func22, by kernel_rfl, rfl⟩⟩ -- (*turnkey/space.Space).Back
instance : TFn Try.prog 23 := ⟨⟨_, Try.func23, by kernel_rfl, rfl⟩⟩ -- (*turnkey/space.Space).Use
instance : TFn Try.prog 24 := ⟨⟨_, Try.func24, by kernel_rfl, rfl⟩⟩ -- (*turnkey/space.Space).Undo
instance : TFn Try.prog 25 := ⟨⟨_, Try.func25, by kernel_rfl, rfl⟩⟩ -- turnkey/turnkeyref14.Ints
instance : TFn Try.prog 26 := ⟨⟨_, Try.func26, by kernel_rfl, rfl⟩⟩ -- (*turnkey/turnkeyref15.Space).Take
instance : TFn Try.prog 27 := ⟨⟨_, Try.func27, by kernel_rfl, rfl⟩⟩ -- (*turnkey/turnkeyref15.Space).Use
instance : TFn Try.prog 28 := ⟨⟨_, Try.func28, by kernel_rfl, rfl⟩⟩ -- (*turnkey/turnkeyref15.Space).Give
instance : TFn Try.prog 29 := ⟨⟨_, Try.func29, by kernel_rfl, rfl⟩⟩ -- (*turnkey/turnkeyref15.Space).Undo
instance : TFn Try.prog 30 := ⟨⟨_, Try.func30, by kernel_rfl, rfl⟩⟩ -- (*turnkey/turnkeyref15.Space).Back
instance : TFn Try.prog 31 := ⟨⟨_, Try.func31, by kernel_rfl, rfl⟩⟩ -- (*turnkey/turnkeyref15.Space).Free
instance : TFn Try.prog 32 := ⟨⟨_, Try.func32, by kernel_rfl, rfl⟩⟩ -- (*turnkey/space.Space).Is
instance : TFn Try.prog 33 := ⟨⟨_, Try.func33, by kernel_rfl, rfl⟩⟩ -- turnkey/policy.plain
instance : TFn Try.prog 34 := ⟨⟨_, Try.func34, by kernel_rfl, rfl⟩⟩ -- slices.Index[[]turnkey/space.state,turnkey/space.state]
instance : TFn Try.prog 35 := ⟨⟨_, Try.func35, by kernel_rfl, rfl⟩⟩ -- (*turnkey/space.Space).turn
instance : TFn Try.prog 36 := ⟨⟨_, Try.func36, by kernel_rfl, rfl⟩⟩ -- (*turnkey/space.Space).all
instance : TFn Try.prog 37 := ⟨⟨_, Try.func37, by kernel_rfl, rfl⟩⟩ -- (*turnkey/turnkeyref15.Space).free
instance : TFn Try.prog 38 := ⟨⟨_, Try.func38, by kernel_rfl, rfl⟩⟩ -- turnkey/turnkeyref15.Put
instance : TFn Try.prog 39 := ⟨⟨_, Try.func39, by kernel_rfl, rfl⟩⟩ -- turnkey/turnkeyref15.twice
instance : TFn Try.prog 40 := ⟨⟨_, Try.func40, by kernel_rfl, rfl⟩⟩ -- turnkey/turnkeyref15.has
instance : TFn Try.prog 41 := ⟨⟨_, Try.func41, by kernel_rfl, rfl⟩⟩ -- turnkey/turnkeyref15.without
instance : TFn Try.prog 42 := ⟨⟨_, Try.func42, by kernel_rfl, rfl⟩⟩ -- slices.Contains[[]int,int]
instance : TFn Try.prog 43 := ⟨⟨_, Try.func43, by kernel_rfl, rfl⟩⟩ -- slices.Index[[]int,int]
end Go.Proofs.Ytogfkmejgjodaaa
