/- The facts on the types and the functions of this seat, printed by a program of this repo (wip/tools/types.py). -/
import Derived.Test.YtgobmphkakmdmaaDoorKe
import Derived.Test.YtgobmphkakmdmaaDoorProg
import Derived.KernelRfl
namespace Go.Proofs.YtgobmphkakmdmaaDoor
open Go Go.Kx

-- 1: func()
instance : TSz Tryd.prog 1 1 := ⟨by kernel_rfl⟩
instance : TBy Tryd.prog 1 8 := ⟨by kernel_rfl⟩
instance : TOne Tryd.prog 1 := ⟨⟨_, Tryd.underlying1, rfl⟩⟩
instance : TZ Tryd.prog 1 (.nilFunc) := ⟨by kernel_rfl⟩
-- 2: int64
instance : TU Tryd.prog 2 (.int .i64) := ⟨by kernel_rfl⟩
instance : TSz Tryd.prog 2 1 := ⟨by kernel_rfl⟩
instance : TBy Tryd.prog 2 8 := ⟨by kernel_rfl⟩
instance : TOne Tryd.prog 2 := ⟨⟨_, Tryd.underlying2, rfl⟩⟩
instance : TZ Tryd.prog 2 (.int .i64 0) := ⟨by kernel_rfl⟩
-- 3: int
instance : TU Tryd.prog 3 (.int .i64) := ⟨by kernel_rfl⟩
instance : TSz Tryd.prog 3 1 := ⟨by kernel_rfl⟩
instance : TBy Tryd.prog 3 8 := ⟨by kernel_rfl⟩
instance : TOne Tryd.prog 3 := ⟨⟨_, Tryd.underlying3, rfl⟩⟩
instance : TZ Tryd.prog 3 (.int .i64 0) := ⟨by kernel_rfl⟩
-- 4: bool
instance : TU Tryd.prog 4 (.bool) := ⟨by kernel_rfl⟩
instance : TSz Tryd.prog 4 1 := ⟨by kernel_rfl⟩
instance : TBy Tryd.prog 4 1 := ⟨by kernel_rfl⟩
instance : TOne Tryd.prog 4 := ⟨⟨_, Tryd.underlying4, rfl⟩⟩
instance : TZ Tryd.prog 4 (.bool false) := ⟨by kernel_rfl⟩
-- 5: uint8
instance : TU Tryd.prog 5 (.int .u8) := ⟨by kernel_rfl⟩
instance : TSz Tryd.prog 5 1 := ⟨by kernel_rfl⟩
instance : TBy Tryd.prog 5 1 := ⟨by kernel_rfl⟩
instance : TOne Tryd.prog 5 := ⟨⟨_, Tryd.underlying5, rfl⟩⟩
instance : TZ Tryd.prog 5 (.int .u8 0) := ⟨by kernel_rfl⟩
-- 9: string
instance : TU Tryd.prog 9 (.string) := ⟨by kernel_rfl⟩
instance : TSz Tryd.prog 9 1 := ⟨by kernel_rfl⟩
instance : TBy Tryd.prog 9 16 := ⟨by kernel_rfl⟩
instance : TOne Tryd.prog 9 := ⟨⟨_, Tryd.underlying9, rfl⟩⟩
instance : TZ Tryd.prog 9 (.string ⟨#[]⟩) := ⟨by kernel_rfl⟩
-- 12: uintptr
instance : TU Tryd.prog 12 (.int .u64) := ⟨by kernel_rfl⟩
instance : TSz Tryd.prog 12 1 := ⟨by kernel_rfl⟩
instance : TBy Tryd.prog 12 8 := ⟨by kernel_rfl⟩
instance : TOne Tryd.prog 12 := ⟨⟨_, Tryd.underlying12, rfl⟩⟩
instance : TZ Tryd.prog 12 (.int .u64 0) := ⟨by kernel_rfl⟩
-- 13: struct { msg string; addr uintptr }
instance : TSz Tryd.prog 13 2 := ⟨by kernel_rfl⟩
instance : TBy Tryd.prog 13 24 := ⟨by kernel_rfl⟩
instance : TAgg Tryd.prog 13 2 := ⟨⟨_, Tryd.underlying13, rfl⟩, by kernel_rfl⟩
def z13 : List Value := [.string ⟨#[]⟩, .int .u64 0]
instance : TZ Tryd.prog 13 (.agg z13.toArray) := ⟨by kernel_rfl⟩
instance : TFld Tryd.prog 13 0 0 := ⟨⟨_, _, Tryd.underlying13, rfl, rfl, by simpa using (show ¬ ((Tryd.prog.info? 9).map (·.size) = some 0) by rw [(inferInstance : TSz Tryd.prog 9 _).h]; decide), by kernel_rfl⟩⟩
instance : TFld Tryd.prog 13 1 1 := ⟨⟨_, _, Tryd.underlying13, rfl, rfl, by simpa using (show ¬ ((Tryd.prog.info? 12).map (·.size) = some 0) by rw [(inferInstance : TSz Tryd.prog 12 _).h]; decide), by kernel_rfl⟩⟩
-- 20: interface {}
instance : TSz Tryd.prog 20 1 := ⟨by kernel_rfl⟩
instance : TBy Tryd.prog 20 16 := ⟨by kernel_rfl⟩
instance : TOne Tryd.prog 20 := ⟨⟨_, Tryd.underlying20, rfl⟩⟩
instance : TZ Tryd.prog 20 (.nilIface) := ⟨by kernel_rfl⟩
-- 21: int32
instance : TU Tryd.prog 21 (.int .i32) := ⟨by kernel_rfl⟩
instance : TSz Tryd.prog 21 1 := ⟨by kernel_rfl⟩
instance : TBy Tryd.prog 21 4 := ⟨by kernel_rfl⟩
instance : TOne Tryd.prog 21 := ⟨⟨_, Tryd.underlying21, rfl⟩⟩
instance : TZ Tryd.prog 21 (.int .i32 0) := ⟨by kernel_rfl⟩
-- 22: []api.Deed
instance : TU Tryd.prog 22 (.slice 32) := ⟨by kernel_rfl⟩
instance : TSz Tryd.prog 22 1 := ⟨by kernel_rfl⟩
instance : TBy Tryd.prog 22 24 := ⟨by kernel_rfl⟩
instance : TOne Tryd.prog 22 := ⟨⟨_, Tryd.underlying22, rfl⟩⟩
instance : TZ Tryd.prog 22 (.slice none 0 0) := ⟨by kernel_rfl⟩
-- 23: func() bool
instance : TSz Tryd.prog 23 1 := ⟨by kernel_rfl⟩
instance : TBy Tryd.prog 23 8 := ⟨by kernel_rfl⟩
instance : TOne Tryd.prog 23 := ⟨⟨_, Tryd.underlying23, rfl⟩⟩
instance : TZ Tryd.prog 23 (.nilFunc) := ⟨by kernel_rfl⟩
-- 24: func([]api.Deed) bool
instance : TSz Tryd.prog 24 1 := ⟨by kernel_rfl⟩
instance : TBy Tryd.prog 24 8 := ⟨by kernel_rfl⟩
instance : TOne Tryd.prog 24 := ⟨⟨_, Tryd.underlying24, rfl⟩⟩
instance : TZ Tryd.prog 24 (.nilFunc) := ⟨by kernel_rfl⟩
-- 25: api.Errno
instance : TU Tryd.prog 25 (.int .i64) := ⟨by kernel_rfl⟩
instance : TSz Tryd.prog 25 1 := ⟨by kernel_rfl⟩
instance : TBy Tryd.prog 25 8 := ⟨by kernel_rfl⟩
instance : TOne Tryd.prog 25 := ⟨⟨_, Tryd.underlying25, rfl⟩⟩
instance : TZ Tryd.prog 25 (.int .i64 0) := ⟨by kernel_rfl⟩
-- 27: func(...api.Deed) (string, api.Errno)
instance : TSz Tryd.prog 27 1 := ⟨by kernel_rfl⟩
instance : TBy Tryd.prog 27 8 := ⟨by kernel_rfl⟩
instance : TOne Tryd.prog 27 := ⟨⟨_, Tryd.underlying27, rfl⟩⟩
instance : TZ Tryd.prog 27 (.nilFunc) := ⟨by kernel_rfl⟩
-- 28: func([]api.Deed, []api.Deed) bool
instance : TSz Tryd.prog 28 1 := ⟨by kernel_rfl⟩
instance : TBy Tryd.prog 28 8 := ⟨by kernel_rfl⟩
instance : TOne Tryd.prog 28 := ⟨⟨_, Tryd.underlying28, rfl⟩⟩
instance : TZ Tryd.prog 28 (.nilFunc) := ⟨by kernel_rfl⟩
-- 29: []uint8
instance : TU Tryd.prog 29 (.slice 5) := ⟨by kernel_rfl⟩
instance : TSz Tryd.prog 29 1 := ⟨by kernel_rfl⟩
instance : TBy Tryd.prog 29 24 := ⟨by kernel_rfl⟩
instance : TOne Tryd.prog 29 := ⟨⟨_, Tryd.underlying29, rfl⟩⟩
instance : TZ Tryd.prog 29 (.slice none 0 0) := ⟨by kernel_rfl⟩
-- 30: []int
instance : TU Tryd.prog 30 (.slice 3) := ⟨by kernel_rfl⟩
instance : TSz Tryd.prog 30 1 := ⟨by kernel_rfl⟩
instance : TBy Tryd.prog 30 24 := ⟨by kernel_rfl⟩
instance : TOne Tryd.prog 30 := ⟨⟨_, Tryd.underlying30, rfl⟩⟩
instance : TZ Tryd.prog 30 (.slice none 0 0) := ⟨by kernel_rfl⟩
-- 31: struct { Kind int; N int; M int; K int; Path string; As string; B []uint8; Keep []int }
instance : TSz Tryd.prog 31 8 := ⟨by kernel_rfl⟩
instance : TBy Tryd.prog 31 112 := ⟨by kernel_rfl⟩
instance : TAgg Tryd.prog 31 8 := ⟨⟨_, Tryd.underlying31, rfl⟩, by kernel_rfl⟩
def z31 : List Value := [.int .i64 0, .int .i64 0, .int .i64 0, .int .i64 0, .string ⟨#[]⟩, .string ⟨#[]⟩, .slice none 0 0, .slice none 0 0]
instance : TZ Tryd.prog 31 (.agg z31.toArray) := ⟨by kernel_rfl⟩
instance : TFld Tryd.prog 31 0 0 := ⟨⟨_, _, Tryd.underlying31, rfl, rfl, by simpa using (show ¬ ((Tryd.prog.info? 3).map (·.size) = some 0) by rw [(inferInstance : TSz Tryd.prog 3 _).h]; decide), by kernel_rfl⟩⟩
instance : TFld Tryd.prog 31 1 1 := ⟨⟨_, _, Tryd.underlying31, rfl, rfl, by simpa using (show ¬ ((Tryd.prog.info? 3).map (·.size) = some 0) by rw [(inferInstance : TSz Tryd.prog 3 _).h]; decide), by kernel_rfl⟩⟩
instance : TFld Tryd.prog 31 2 2 := ⟨⟨_, _, Tryd.underlying31, rfl, rfl, by simpa using (show ¬ ((Tryd.prog.info? 3).map (·.size) = some 0) by rw [(inferInstance : TSz Tryd.prog 3 _).h]; decide), by kernel_rfl⟩⟩
instance : TFld Tryd.prog 31 3 3 := ⟨⟨_, _, Tryd.underlying31, rfl, rfl, by simpa using (show ¬ ((Tryd.prog.info? 3).map (·.size) = some 0) by rw [(inferInstance : TSz Tryd.prog 3 _).h]; decide), by kernel_rfl⟩⟩
instance : TFld Tryd.prog 31 4 4 := ⟨⟨_, _, Tryd.underlying31, rfl, rfl, by simpa using (show ¬ ((Tryd.prog.info? 9).map (·.size) = some 0) by rw [(inferInstance : TSz Tryd.prog 9 _).h]; decide), by kernel_rfl⟩⟩
instance : TFld Tryd.prog 31 5 5 := ⟨⟨_, _, Tryd.underlying31, rfl, rfl, by simpa using (show ¬ ((Tryd.prog.info? 9).map (·.size) = some 0) by rw [(inferInstance : TSz Tryd.prog 9 _).h]; decide), by kernel_rfl⟩⟩
instance : TFld Tryd.prog 31 6 6 := ⟨⟨_, _, Tryd.underlying31, rfl, rfl, by simpa using (show ¬ ((Tryd.prog.info? 29).map (·.size) = some 0) by rw [(inferInstance : TSz Tryd.prog 29 _).h]; decide), by kernel_rfl⟩⟩
instance : TFld Tryd.prog 31 7 7 := ⟨⟨_, _, Tryd.underlying31, rfl, rfl, by simpa using (show ¬ ((Tryd.prog.info? 30).map (·.size) = some 0) by rw [(inferInstance : TSz Tryd.prog 30 _).h]; decide), by kernel_rfl⟩⟩
-- 32: api.Deed
instance : TSz Tryd.prog 32 8 := ⟨by kernel_rfl⟩
instance : TBy Tryd.prog 32 112 := ⟨by kernel_rfl⟩
instance : TAgg Tryd.prog 32 8 := ⟨⟨_, Tryd.underlying32, rfl⟩, by kernel_rfl⟩
def z32 : List Value := [.int .i64 0, .int .i64 0, .int .i64 0, .int .i64 0, .string ⟨#[]⟩, .string ⟨#[]⟩, .slice none 0 0, .slice none 0 0]
instance : TZ Tryd.prog 32 (.agg z32.toArray) := ⟨by kernel_rfl⟩
instance : TFld Tryd.prog 32 0 0 := ⟨⟨_, _, Tryd.underlying32, rfl, rfl, by simpa using (show ¬ ((Tryd.prog.info? 3).map (·.size) = some 0) by rw [(inferInstance : TSz Tryd.prog 3 _).h]; decide), by kernel_rfl⟩⟩
instance : TFld Tryd.prog 32 1 1 := ⟨⟨_, _, Tryd.underlying32, rfl, rfl, by simpa using (show ¬ ((Tryd.prog.info? 3).map (·.size) = some 0) by rw [(inferInstance : TSz Tryd.prog 3 _).h]; decide), by kernel_rfl⟩⟩
instance : TFld Tryd.prog 32 2 2 := ⟨⟨_, _, Tryd.underlying32, rfl, rfl, by simpa using (show ¬ ((Tryd.prog.info? 3).map (·.size) = some 0) by rw [(inferInstance : TSz Tryd.prog 3 _).h]; decide), by kernel_rfl⟩⟩
instance : TFld Tryd.prog 32 3 3 := ⟨⟨_, _, Tryd.underlying32, rfl, rfl, by simpa using (show ¬ ((Tryd.prog.info? 3).map (·.size) = some 0) by rw [(inferInstance : TSz Tryd.prog 3 _).h]; decide), by kernel_rfl⟩⟩
instance : TFld Tryd.prog 32 4 4 := ⟨⟨_, _, Tryd.underlying32, rfl, rfl, by simpa using (show ¬ ((Tryd.prog.info? 9).map (·.size) = some 0) by rw [(inferInstance : TSz Tryd.prog 9 _).h]; decide), by kernel_rfl⟩⟩
instance : TFld Tryd.prog 32 5 5 := ⟨⟨_, _, Tryd.underlying32, rfl, rfl, by simpa using (show ¬ ((Tryd.prog.info? 9).map (·.size) = some 0) by rw [(inferInstance : TSz Tryd.prog 9 _).h]; decide), by kernel_rfl⟩⟩
instance : TFld Tryd.prog 32 6 6 := ⟨⟨_, _, Tryd.underlying32, rfl, rfl, by simpa using (show ¬ ((Tryd.prog.info? 29).map (·.size) = some 0) by rw [(inferInstance : TSz Tryd.prog 29 _).h]; decide), by kernel_rfl⟩⟩
instance : TFld Tryd.prog 32 7 7 := ⟨⟨_, _, Tryd.underlying32, rfl, rfl, by simpa using (show ¬ ((Tryd.prog.info? 30).map (·.size) = some 0) by rw [(inferInstance : TSz Tryd.prog 30 _).h]; decide), by kernel_rfl⟩⟩
-- 33: func(api.Deed) api.Deed
instance : TSz Tryd.prog 33 1 := ⟨by kernel_rfl⟩
instance : TBy Tryd.prog 33 8 := ⟨by kernel_rfl⟩
instance : TOne Tryd.prog 33 := ⟨⟨_, Tryd.underlying33, rfl⟩⟩
instance : TZ Tryd.prog 33 (.nilFunc) := ⟨by kernel_rfl⟩
-- 34: []string
instance : TU Tryd.prog 34 (.slice 9) := ⟨by kernel_rfl⟩
instance : TSz Tryd.prog 34 1 := ⟨by kernel_rfl⟩
instance : TBy Tryd.prog 34 24 := ⟨by kernel_rfl⟩
instance : TOne Tryd.prog 34 := ⟨⟨_, Tryd.underlying34, rfl⟩⟩
instance : TZ Tryd.prog 34 (.slice none 0 0) := ⟨by kernel_rfl⟩
-- 35: func() []string
instance : TSz Tryd.prog 35 1 := ⟨by kernel_rfl⟩
instance : TBy Tryd.prog 35 8 := ⟨by kernel_rfl⟩
instance : TOne Tryd.prog 35 := ⟨⟨_, Tryd.underlying35, rfl⟩⟩
instance : TZ Tryd.prog 35 (.nilFunc) := ⟨by kernel_rfl⟩
-- 36: func(int) []int
instance : TSz Tryd.prog 36 1 := ⟨by kernel_rfl⟩
instance : TBy Tryd.prog 36 8 := ⟨by kernel_rfl⟩
instance : TOne Tryd.prog 36 := ⟨⟨_, Tryd.underlying36, rfl⟩⟩
instance : TZ Tryd.prog 36 (.nilFunc) := ⟨by kernel_rfl⟩
-- 37: func(api.Deed, api.Deed) bool
instance : TSz Tryd.prog 37 1 := ⟨by kernel_rfl⟩
instance : TBy Tryd.prog 37 8 := ⟨by kernel_rfl⟩
instance : TOne Tryd.prog 37 := ⟨⟨_, Tryd.underlying37, rfl⟩⟩
instance : TZ Tryd.prog 37 (.nilFunc) := ⟨by kernel_rfl⟩
-- 38: *strings.Builder
instance : TU Tryd.prog 38 (.pointer 40) := ⟨by kernel_rfl⟩
instance : TSz Tryd.prog 38 1 := ⟨by kernel_rfl⟩
instance : TBy Tryd.prog 38 8 := ⟨by kernel_rfl⟩
instance : TOne Tryd.prog 38 := ⟨⟨_, Tryd.underlying38, rfl⟩⟩
instance : TZ Tryd.prog 38 (.pointer none) := ⟨by kernel_rfl⟩
-- 39: struct { addr *strings.Builder; buf []uint8 }
instance : TSz Tryd.prog 39 2 := ⟨by kernel_rfl⟩
instance : TBy Tryd.prog 39 32 := ⟨by kernel_rfl⟩
instance : TAgg Tryd.prog 39 2 := ⟨⟨_, Tryd.underlying39, rfl⟩, by kernel_rfl⟩
def z39 : List Value := [.pointer none, .slice none 0 0]
instance : TZ Tryd.prog 39 (.agg z39.toArray) := ⟨by kernel_rfl⟩
instance : TFld Tryd.prog 39 0 0 := ⟨⟨_, _, Tryd.underlying39, rfl, rfl, by simpa using (show ¬ ((Tryd.prog.info? 38).map (·.size) = some 0) by rw [(inferInstance : TSz Tryd.prog 38 _).h]; decide), by kernel_rfl⟩⟩
instance : TFld Tryd.prog 39 1 1 := ⟨⟨_, _, Tryd.underlying39, rfl, rfl, by simpa using (show ¬ ((Tryd.prog.info? 29).map (·.size) = some 0) by rw [(inferInstance : TSz Tryd.prog 29 _).h]; decide), by kernel_rfl⟩⟩
-- 40: strings.Builder
instance : TSz Tryd.prog 40 2 := ⟨by kernel_rfl⟩
instance : TBy Tryd.prog 40 32 := ⟨by kernel_rfl⟩
instance : TAgg Tryd.prog 40 2 := ⟨⟨_, Tryd.underlying40, rfl⟩, by kernel_rfl⟩
def z40 : List Value := [.pointer none, .slice none 0 0]
instance : TZ Tryd.prog 40 (.agg z40.toArray) := ⟨by kernel_rfl⟩
instance : TFld Tryd.prog 40 0 0 := ⟨⟨_, _, Tryd.underlying40, rfl, rfl, by simpa using (show ¬ ((Tryd.prog.info? 38).map (·.size) = some 0) by rw [(inferInstance : TSz Tryd.prog 38 _).h]; decide), by kernel_rfl⟩⟩
instance : TFld Tryd.prog 40 1 1 := ⟨⟨_, _, Tryd.underlying40, rfl, rfl, by simpa using (show ¬ ((Tryd.prog.info? 29).map (·.size) = some 0) by rw [(inferInstance : TSz Tryd.prog 29 _).h]; decide), by kernel_rfl⟩⟩
-- 41: interface { Error() string }
instance : TSz Tryd.prog 41 1 := ⟨by kernel_rfl⟩
instance : TBy Tryd.prog 41 16 := ⟨by kernel_rfl⟩
instance : TOne Tryd.prog 41 := ⟨⟨_, Tryd.underlying41, rfl⟩⟩
instance : TZ Tryd.prog 41 (.nilIface) := ⟨by kernel_rfl⟩
-- 42: error
instance : TSz Tryd.prog 42 1 := ⟨by kernel_rfl⟩
instance : TBy Tryd.prog 42 16 := ⟨by kernel_rfl⟩
instance : TOne Tryd.prog 42 := ⟨⟨_, Tryd.underlying42, rfl⟩⟩
instance : TZ Tryd.prog 42 (.nilIface) := ⟨by kernel_rfl⟩
-- 44: func(api.Deed) (string, error)
instance : TSz Tryd.prog 44 1 := ⟨by kernel_rfl⟩
instance : TBy Tryd.prog 44 8 := ⟨by kernel_rfl⟩
instance : TOne Tryd.prog 44 := ⟨⟨_, Tryd.underlying44, rfl⟩⟩
instance : TZ Tryd.prog 44 (.nilFunc) := ⟨by kernel_rfl⟩
-- 46: func(error) (int, api.Errno)
instance : TSz Tryd.prog 46 1 := ⟨by kernel_rfl⟩
instance : TBy Tryd.prog 46 8 := ⟨by kernel_rfl⟩
instance : TOne Tryd.prog 46 := ⟨⟨_, Tryd.underlying46, rfl⟩⟩
instance : TZ Tryd.prog 46 (.nilFunc) := ⟨by kernel_rfl⟩
-- 48: func(string) (int, error)
instance : TSz Tryd.prog 48 1 := ⟨by kernel_rfl⟩
instance : TBy Tryd.prog 48 8 := ⟨by kernel_rfl⟩
instance : TOne Tryd.prog 48 := ⟨⟨_, Tryd.underlying48, rfl⟩⟩
instance : TZ Tryd.prog 48 (.nilFunc) := ⟨by kernel_rfl⟩
-- 49: func() string
instance : TSz Tryd.prog 49 1 := ⟨by kernel_rfl⟩
instance : TBy Tryd.prog 49 8 := ⟨by kernel_rfl⟩
instance : TOne Tryd.prog 49 := ⟨⟨_, Tryd.underlying49, rfl⟩⟩
instance : TZ Tryd.prog 49 (.nilFunc) := ⟨by kernel_rfl⟩
-- 51: func(string, string) (string, string, bool)
instance : TSz Tryd.prog 51 1 := ⟨by kernel_rfl⟩
instance : TBy Tryd.prog 51 8 := ⟨by kernel_rfl⟩
instance : TOne Tryd.prog 51 := ⟨⟨_, Tryd.underlying51, rfl⟩⟩
instance : TZ Tryd.prog 51 (.nilFunc) := ⟨by kernel_rfl⟩
-- 52: func(api.Deed, int32) string
instance : TSz Tryd.prog 52 1 := ⟨by kernel_rfl⟩
instance : TBy Tryd.prog 52 8 := ⟨by kernel_rfl⟩
instance : TOne Tryd.prog 52 := ⟨⟨_, Tryd.underlying52, rfl⟩⟩
instance : TZ Tryd.prog 52 (.nilFunc) := ⟨by kernel_rfl⟩
-- 53: func(string, uint8) int
instance : TSz Tryd.prog 53 1 := ⟨by kernel_rfl⟩
instance : TBy Tryd.prog 53 8 := ⟨by kernel_rfl⟩
instance : TOne Tryd.prog 53 := ⟨⟨_, Tryd.underlying53, rfl⟩⟩
instance : TZ Tryd.prog 53 (.nilFunc) := ⟨by kernel_rfl⟩
-- 54: func([]string, string) string
instance : TSz Tryd.prog 54 1 := ⟨by kernel_rfl⟩
instance : TBy Tryd.prog 54 8 := ⟨by kernel_rfl⟩
instance : TOne Tryd.prog 54 := ⟨⟨_, Tryd.underlying54, rfl⟩⟩
instance : TZ Tryd.prog 54 (.nilFunc) := ⟨by kernel_rfl⟩
-- 55: *script.fault
instance : TU Tryd.prog 55 (.pointer 59) := ⟨by kernel_rfl⟩
instance : TSz Tryd.prog 55 1 := ⟨by kernel_rfl⟩
instance : TBy Tryd.prog 55 8 := ⟨by kernel_rfl⟩
instance : TOne Tryd.prog 55 := ⟨⟨_, Tryd.underlying55, rfl⟩⟩
instance : TZ Tryd.prog 55 (.pointer none) := ⟨by kernel_rfl⟩
-- 56: func(error, interface {}) bool
instance : TSz Tryd.prog 56 1 := ⟨by kernel_rfl⟩
instance : TBy Tryd.prog 56 8 := ⟨by kernel_rfl⟩
instance : TOne Tryd.prog 56 := ⟨⟨_, Tryd.underlying56, rfl⟩⟩
instance : TZ Tryd.prog 56 (.nilFunc) := ⟨by kernel_rfl⟩
-- 57: **script.fault
instance : TU Tryd.prog 57 (.pointer 55) := ⟨by kernel_rfl⟩
instance : TSz Tryd.prog 57 1 := ⟨by kernel_rfl⟩
instance : TBy Tryd.prog 57 8 := ⟨by kernel_rfl⟩
instance : TOne Tryd.prog 57 := ⟨⟨_, Tryd.underlying57, rfl⟩⟩
instance : TZ Tryd.prog 57 (.pointer none) := ⟨by kernel_rfl⟩
-- 58: struct { line int; err error }
instance : TSz Tryd.prog 58 2 := ⟨by kernel_rfl⟩
instance : TBy Tryd.prog 58 24 := ⟨by kernel_rfl⟩
instance : TAgg Tryd.prog 58 2 := ⟨⟨_, Tryd.underlying58, rfl⟩, by kernel_rfl⟩
def z58 : List Value := [.int .i64 0, .nilIface]
instance : TZ Tryd.prog 58 (.agg z58.toArray) := ⟨by kernel_rfl⟩
instance : TFld Tryd.prog 58 0 0 := ⟨⟨_, _, Tryd.underlying58, rfl, rfl, by simpa using (show ¬ ((Tryd.prog.info? 3).map (·.size) = some 0) by rw [(inferInstance : TSz Tryd.prog 3 _).h]; decide), by kernel_rfl⟩⟩
instance : TFld Tryd.prog 58 1 1 := ⟨⟨_, _, Tryd.underlying58, rfl, rfl, by simpa using (show ¬ ((Tryd.prog.info? 42).map (·.size) = some 0) by rw [(inferInstance : TSz Tryd.prog 42 _).h]; decide), by kernel_rfl⟩⟩
-- 59: script.fault
instance : TSz Tryd.prog 59 2 := ⟨by kernel_rfl⟩
instance : TBy Tryd.prog 59 24 := ⟨by kernel_rfl⟩
instance : TAgg Tryd.prog 59 2 := ⟨⟨_, Tryd.underlying59, rfl⟩, by kernel_rfl⟩
def z59 : List Value := [.int .i64 0, .nilIface]
instance : TZ Tryd.prog 59 (.agg z59.toArray) := ⟨by kernel_rfl⟩
instance : TFld Tryd.prog 59 0 0 := ⟨⟨_, _, Tryd.underlying59, rfl, rfl, by simpa using (show ¬ ((Tryd.prog.info? 3).map (·.size) = some 0) by rw [(inferInstance : TSz Tryd.prog 3 _).h]; decide), by kernel_rfl⟩⟩
instance : TFld Tryd.prog 59 1 1 := ⟨⟨_, _, Tryd.underlying59, rfl, rfl, by simpa using (show ¬ ((Tryd.prog.info? 42).map (·.size) = some 0) by rw [(inferInstance : TSz Tryd.prog 42 _).h]; decide), by kernel_rfl⟩⟩
-- 60: func(error, error) bool
instance : TSz Tryd.prog 60 1 := ⟨by kernel_rfl⟩
instance : TBy Tryd.prog 60 8 := ⟨by kernel_rfl⟩
instance : TOne Tryd.prog 60 := ⟨⟨_, Tryd.underlying60, rfl⟩⟩
instance : TZ Tryd.prog 60 (.nilFunc) := ⟨by kernel_rfl⟩
-- 61: *uint8
instance : TU Tryd.prog 61 (.pointer 5) := ⟨by kernel_rfl⟩
instance : TSz Tryd.prog 61 1 := ⟨by kernel_rfl⟩
instance : TBy Tryd.prog 61 8 := ⟨by kernel_rfl⟩
instance : TOne Tryd.prog 61 := ⟨⟨_, Tryd.underlying61, rfl⟩⟩
instance : TZ Tryd.prog 61 (.pointer none) := ⟨by kernel_rfl⟩
-- 62: func(string) string
instance : TSz Tryd.prog 62 1 := ⟨by kernel_rfl⟩
instance : TBy Tryd.prog 62 8 := ⟨by kernel_rfl⟩
instance : TOne Tryd.prog 62 := ⟨⟨_, Tryd.underlying62, rfl⟩⟩
instance : TZ Tryd.prog 62 (.nilFunc) := ⟨by kernel_rfl⟩
-- 63: func([]int) string
instance : TSz Tryd.prog 63 1 := ⟨by kernel_rfl⟩
instance : TBy Tryd.prog 63 8 := ⟨by kernel_rfl⟩
instance : TOne Tryd.prog 63 := ⟨⟨_, Tryd.underlying63, rfl⟩⟩
instance : TZ Tryd.prog 63 (.nilFunc) := ⟨by kernel_rfl⟩
-- 64: func(int) string
instance : TSz Tryd.prog 64 1 := ⟨by kernel_rfl⟩
instance : TBy Tryd.prog 64 8 := ⟨by kernel_rfl⟩
instance : TOne Tryd.prog 64 := ⟨⟨_, Tryd.underlying64, rfl⟩⟩
instance : TZ Tryd.prog 64 (.nilFunc) := ⟨by kernel_rfl⟩
-- 65: func(int)
instance : TSz Tryd.prog 65 1 := ⟨by kernel_rfl⟩
instance : TBy Tryd.prog 65 8 := ⟨by kernel_rfl⟩
instance : TOne Tryd.prog 65 := ⟨⟨_, Tryd.underlying65, rfl⟩⟩
instance : TZ Tryd.prog 65 (.nilFunc) := ⟨by kernel_rfl⟩
-- 66: unsafe.Pointer
instance : TSz Tryd.prog 66 1 := ⟨by kernel_rfl⟩
instance : TBy Tryd.prog 66 8 := ⟨by kernel_rfl⟩
instance : TOne Tryd.prog 66 := ⟨⟨_, Tryd.underlying66, rfl⟩⟩
instance : TZ Tryd.prog 66 (.pointer none) := ⟨by kernel_rfl⟩
-- 70: func(interface {}) reflectlite.Value
instance : TSz Tryd.prog 70 1 := ⟨by kernel_rfl⟩
instance : TBy Tryd.prog 70 8 := ⟨by kernel_rfl⟩
instance : TOne Tryd.prog 70 := ⟨⟨_, Tryd.underlying70, rfl⟩⟩
instance : TZ Tryd.prog 70 (.nilFunc) := ⟨by kernel_rfl⟩
-- 73: func() reflectlite.Type
instance : TSz Tryd.prog 73 1 := ⟨by kernel_rfl⟩
instance : TBy Tryd.prog 73 8 := ⟨by kernel_rfl⟩
instance : TOne Tryd.prog 73 := ⟨⟨_, Tryd.underlying73, rfl⟩⟩
instance : TZ Tryd.prog 73 (.nilFunc) := ⟨by kernel_rfl⟩
-- 76: func(reflectlite.Type) bool
instance : TSz Tryd.prog 76 1 := ⟨by kernel_rfl⟩
instance : TBy Tryd.prog 76 8 := ⟨by kernel_rfl⟩
instance : TOne Tryd.prog 76 := ⟨⟨_, Tryd.underlying76, rfl⟩⟩
instance : TZ Tryd.prog 76 (.nilFunc) := ⟨by kernel_rfl⟩
-- 77: func(error, interface {}, reflectlite.Value, reflectlite.Type) bool
instance : TSz Tryd.prog 77 1 := ⟨by kernel_rfl⟩
instance : TBy Tryd.prog 77 8 := ⟨by kernel_rfl⟩
instance : TOne Tryd.prog 77 := ⟨⟨_, Tryd.underlying77, rfl⟩⟩
instance : TZ Tryd.prog 77 (.nilFunc) := ⟨by kernel_rfl⟩
-- 78: func(interface {}) reflectlite.Type
instance : TSz Tryd.prog 78 1 := ⟨by kernel_rfl⟩
instance : TBy Tryd.prog 78 8 := ⟨by kernel_rfl⟩
instance : TOne Tryd.prog 78 := ⟨⟨_, Tryd.underlying78, rfl⟩⟩
instance : TZ Tryd.prog 78 (.nilFunc) := ⟨by kernel_rfl⟩
-- 79: func(error, error, bool) bool
instance : TSz Tryd.prog 79 1 := ⟨by kernel_rfl⟩
instance : TBy Tryd.prog 79 8 := ⟨by kernel_rfl⟩
instance : TOne Tryd.prog 79 := ⟨⟨_, Tryd.underlying79, rfl⟩⟩
instance : TZ Tryd.prog 79 (.nilFunc) := ⟨by kernel_rfl⟩
-- 80: func(unsafe.Pointer) unsafe.Pointer
instance : TSz Tryd.prog 80 1 := ⟨by kernel_rfl⟩
instance : TBy Tryd.prog 80 8 := ⟨by kernel_rfl⟩
instance : TOne Tryd.prog 80 := ⟨⟨_, Tryd.underlying80, rfl⟩⟩
instance : TZ Tryd.prog 80 (.nilFunc) := ⟨by kernel_rfl⟩
-- 81: func(string, string) int
instance : TSz Tryd.prog 81 1 := ⟨by kernel_rfl⟩
instance : TBy Tryd.prog 81 8 := ⟨by kernel_rfl⟩
instance : TOne Tryd.prog 81 := ⟨⟨_, Tryd.underlying81, rfl⟩⟩
instance : TZ Tryd.prog 81 (.nilFunc) := ⟨by kernel_rfl⟩
-- 82: func(uint8) error
instance : TSz Tryd.prog 82 1 := ⟨by kernel_rfl⟩
instance : TBy Tryd.prog 82 8 := ⟨by kernel_rfl⟩
instance : TOne Tryd.prog 82 := ⟨⟨_, Tryd.underlying82, rfl⟩⟩
instance : TZ Tryd.prog 82 (.nilFunc) := ⟨by kernel_rfl⟩
-- 83: func([]uint8) string
instance : TSz Tryd.prog 83 1 := ⟨by kernel_rfl⟩
instance : TBy Tryd.prog 83 8 := ⟨by kernel_rfl⟩
instance : TOne Tryd.prog 83 := ⟨⟨_, Tryd.underlying83, rfl⟩⟩
instance : TZ Tryd.prog 83 (.nilFunc) := ⟨by kernel_rfl⟩
-- 86: *reflectlite.ValueError
instance : TU Tryd.prog 86 (.pointer 137) := ⟨by kernel_rfl⟩
instance : TSz Tryd.prog 86 1 := ⟨by kernel_rfl⟩
instance : TBy Tryd.prog 86 8 := ⟨by kernel_rfl⟩
instance : TOne Tryd.prog 86 := ⟨⟨_, Tryd.underlying86, rfl⟩⟩
instance : TZ Tryd.prog 86 (.pointer none) := ⟨by kernel_rfl⟩
-- 87: func() reflectlite.Value
instance : TSz Tryd.prog 87 1 := ⟨by kernel_rfl⟩
instance : TBy Tryd.prog 87 8 := ⟨by kernel_rfl⟩
instance : TOne Tryd.prog 87 := ⟨⟨_, Tryd.underlying87, rfl⟩⟩
instance : TZ Tryd.prog 87 (.nilFunc) := ⟨by kernel_rfl⟩
-- 88: func(reflectlite.Value)
instance : TSz Tryd.prog 88 1 := ⟨by kernel_rfl⟩
instance : TBy Tryd.prog 88 8 := ⟨by kernel_rfl⟩
instance : TOne Tryd.prog 88 := ⟨⟨_, Tryd.underlying88, rfl⟩⟩
instance : TZ Tryd.prog 88 (.nilFunc) := ⟨by kernel_rfl⟩
-- 89: interface { As(interface {}) bool }
instance : TSz Tryd.prog 89 1 := ⟨by kernel_rfl⟩
instance : TBy Tryd.prog 89 16 := ⟨by kernel_rfl⟩
instance : TOne Tryd.prog 89 := ⟨⟨_, Tryd.underlying89, rfl⟩⟩
instance : TZ Tryd.prog 89 (.nilIface) := ⟨by kernel_rfl⟩
-- 91: func(interface {}) bool
instance : TSz Tryd.prog 91 1 := ⟨by kernel_rfl⟩
instance : TBy Tryd.prog 91 8 := ⟨by kernel_rfl⟩
instance : TOne Tryd.prog 91 := ⟨⟨_, Tryd.underlying91, rfl⟩⟩
instance : TZ Tryd.prog 91 (.nilFunc) := ⟨by kernel_rfl⟩
-- 92: interface { Unwrap() error }
instance : TSz Tryd.prog 92 1 := ⟨by kernel_rfl⟩
instance : TBy Tryd.prog 92 16 := ⟨by kernel_rfl⟩
instance : TOne Tryd.prog 92 := ⟨⟨_, Tryd.underlying92, rfl⟩⟩
instance : TZ Tryd.prog 92 (.nilIface) := ⟨by kernel_rfl⟩
-- 93: func() error
instance : TSz Tryd.prog 93 1 := ⟨by kernel_rfl⟩
instance : TBy Tryd.prog 93 8 := ⟨by kernel_rfl⟩
instance : TOne Tryd.prog 93 := ⟨⟨_, Tryd.underlying93, rfl⟩⟩
instance : TZ Tryd.prog 93 (.nilFunc) := ⟨by kernel_rfl⟩
-- 94: interface { Unwrap() []error }
instance : TSz Tryd.prog 94 1 := ⟨by kernel_rfl⟩
instance : TBy Tryd.prog 94 16 := ⟨by kernel_rfl⟩
instance : TOne Tryd.prog 94 := ⟨⟨_, Tryd.underlying94, rfl⟩⟩
instance : TZ Tryd.prog 94 (.nilIface) := ⟨by kernel_rfl⟩
-- 95: []error
instance : TU Tryd.prog 95 (.slice 42) := ⟨by kernel_rfl⟩
instance : TSz Tryd.prog 95 1 := ⟨by kernel_rfl⟩
instance : TBy Tryd.prog 95 24 := ⟨by kernel_rfl⟩
instance : TOne Tryd.prog 95 := ⟨⟨_, Tryd.underlying95, rfl⟩⟩
instance : TZ Tryd.prog 95 (.slice none 0 0) := ⟨by kernel_rfl⟩
-- 96: func() []error
instance : TSz Tryd.prog 96 1 := ⟨by kernel_rfl⟩
instance : TBy Tryd.prog 96 8 := ⟨by kernel_rfl⟩
instance : TOne Tryd.prog 96 := ⟨⟨_, Tryd.underlying96, rfl⟩⟩
instance : TZ Tryd.prog 96 (.nilFunc) := ⟨by kernel_rfl⟩
-- 97: interface { Is(error) bool }
instance : TSz Tryd.prog 97 1 := ⟨by kernel_rfl⟩
instance : TBy Tryd.prog 97 16 := ⟨by kernel_rfl⟩
instance : TOne Tryd.prog 97 := ⟨⟨_, Tryd.underlying97, rfl⟩⟩
instance : TZ Tryd.prog 97 (.nilIface) := ⟨by kernel_rfl⟩
-- 99: func(error) bool
instance : TSz Tryd.prog 99 1 := ⟨by kernel_rfl⟩
instance : TBy Tryd.prog 99 8 := ⟨by kernel_rfl⟩
instance : TOne Tryd.prog 99 := ⟨⟨_, Tryd.underlying99, rfl⟩⟩
instance : TZ Tryd.prog 99 (.nilFunc) := ⟨by kernel_rfl⟩
-- 100: func(int) int
instance : TSz Tryd.prog 100 1 := ⟨by kernel_rfl⟩
instance : TBy Tryd.prog 100 8 := ⟨by kernel_rfl⟩
instance : TOne Tryd.prog 100 := ⟨⟨_, Tryd.underlying100, rfl⟩⟩
instance : TZ Tryd.prog 100 (.nilFunc) := ⟨by kernel_rfl⟩
-- 101: uint
instance : TU Tryd.prog 101 (.int .u64) := ⟨by kernel_rfl⟩
instance : TSz Tryd.prog 101 1 := ⟨by kernel_rfl⟩
instance : TBy Tryd.prog 101 8 := ⟨by kernel_rfl⟩
instance : TOne Tryd.prog 101 := ⟨⟨_, Tryd.underlying101, rfl⟩⟩
instance : TZ Tryd.prog 101 (.int .u64 0) := ⟨by kernel_rfl⟩
-- 102: func(int64, int) string
instance : TSz Tryd.prog 102 1 := ⟨by kernel_rfl⟩
instance : TBy Tryd.prog 102 8 := ⟨by kernel_rfl⟩
instance : TOne Tryd.prog 102 := ⟨⟨_, Tryd.underlying102, rfl⟩⟩
instance : TZ Tryd.prog 102 (.nilFunc) := ⟨by kernel_rfl⟩
-- 103: func(int) []uint8
instance : TSz Tryd.prog 103 1 := ⟨by kernel_rfl⟩
instance : TBy Tryd.prog 103 8 := ⟨by kernel_rfl⟩
instance : TOne Tryd.prog 103 := ⟨⟨_, Tryd.underlying103, rfl⟩⟩
instance : TZ Tryd.prog 103 (.nilFunc) := ⟨by kernel_rfl⟩
-- 104: uint32
instance : TU Tryd.prog 104 (.int .u32) := ⟨by kernel_rfl⟩
instance : TSz Tryd.prog 104 1 := ⟨by kernel_rfl⟩
instance : TBy Tryd.prog 104 4 := ⟨by kernel_rfl⟩
instance : TOne Tryd.prog 104 := ⟨⟨_, Tryd.underlying104, rfl⟩⟩
instance : TZ Tryd.prog 104 (.int .u32 0) := ⟨by kernel_rfl⟩
-- 106: func(string) (uint32, uint32)
instance : TSz Tryd.prog 106 1 := ⟨by kernel_rfl⟩
instance : TBy Tryd.prog 106 8 := ⟨by kernel_rfl⟩
instance : TOne Tryd.prog 106 := ⟨⟨_, Tryd.underlying106, rfl⟩⟩
instance : TZ Tryd.prog 106 (.nilFunc) := ⟨by kernel_rfl⟩
-- 107: [24]uint8
instance : TU Tryd.prog 107 (.array 24 5) := ⟨by kernel_rfl⟩
instance : TSz Tryd.prog 107 24 := ⟨by kernel_rfl⟩
instance : TBy Tryd.prog 107 24 := ⟨by kernel_rfl⟩
instance : TAgg Tryd.prog 107 24 := ⟨⟨_, Tryd.underlying107, rfl⟩, by kernel_rfl⟩
def z107 : List Value := List.replicate 24 (.int .u8 0)
instance : TZ Tryd.prog 107 (.agg z107.toArray) := ⟨by kernel_rfl⟩
def K107 : List IntKind := List.replicate 24 .u8
instance : TFlat Tryd.prog 107 K107 := ⟨by kernel_rfl, by kernel_rfl, by kernel_rfl⟩
-- 108: uint64
instance : TU Tryd.prog 108 (.int .u64) := ⟨by kernel_rfl⟩
instance : TSz Tryd.prog 108 1 := ⟨by kernel_rfl⟩
instance : TBy Tryd.prog 108 8 := ⟨by kernel_rfl⟩
instance : TOne Tryd.prog 108 := ⟨⟨_, Tryd.underlying108, rfl⟩⟩
instance : TZ Tryd.prog 108 (.int .u64 0) := ⟨by kernel_rfl⟩
-- 109: func(uint64) int
instance : TSz Tryd.prog 109 1 := ⟨by kernel_rfl⟩
instance : TBy Tryd.prog 109 8 := ⟨by kernel_rfl⟩
instance : TOne Tryd.prog 109 := ⟨⟨_, Tryd.underlying109, rfl⟩⟩
instance : TZ Tryd.prog 109 (.nilFunc) := ⟨by kernel_rfl⟩
-- 110: func([]uint8, uint64)
instance : TSz Tryd.prog 110 1 := ⟨by kernel_rfl⟩
instance : TBy Tryd.prog 110 8 := ⟨by kernel_rfl⟩
instance : TOne Tryd.prog 110 := ⟨⟨_, Tryd.underlying110, rfl⟩⟩
instance : TZ Tryd.prog 110 (.nilFunc) := ⟨by kernel_rfl⟩
-- 112: func([]uint8, uint64, int, bool, bool) ([]uint8, string)
instance : TSz Tryd.prog 112 1 := ⟨by kernel_rfl⟩
instance : TBy Tryd.prog 112 8 := ⟨by kernel_rfl⟩
instance : TOne Tryd.prog 112 := ⟨⟨_, Tryd.underlying112, rfl⟩⟩
instance : TZ Tryd.prog 112 (.nilFunc) := ⟨by kernel_rfl⟩
-- 113: func(bool) int
instance : TSz Tryd.prog 113 1 := ⟨by kernel_rfl⟩
instance : TBy Tryd.prog 113 8 := ⟨by kernel_rfl⟩
instance : TOne Tryd.prog 113 := ⟨⟨_, Tryd.underlying113, rfl⟩⟩
instance : TZ Tryd.prog 113 (.nilFunc) := ⟨by kernel_rfl⟩
-- 114: [20]uint64
instance : TU Tryd.prog 114 (.array 20 108) := ⟨by kernel_rfl⟩
instance : TSz Tryd.prog 114 20 := ⟨by kernel_rfl⟩
instance : TBy Tryd.prog 114 160 := ⟨by kernel_rfl⟩
instance : TAgg Tryd.prog 114 20 := ⟨⟨_, Tryd.underlying114, rfl⟩, by kernel_rfl⟩
def z114 : List Value := List.replicate 20 (.int .u64 0)
instance : TZ Tryd.prog 114 (.agg z114.toArray) := ⟨by kernel_rfl⟩
def K114 : List IntKind := List.replicate 20 .u64
instance : TFlat Tryd.prog 114 K114 := ⟨by kernel_rfl, by kernel_rfl, by kernel_rfl⟩
-- 115: [65]uint8
instance : TU Tryd.prog 115 (.array 65 5) := ⟨by kernel_rfl⟩
instance : TSz Tryd.prog 115 65 := ⟨by kernel_rfl⟩
instance : TBy Tryd.prog 115 65 := ⟨by kernel_rfl⟩
instance : TAgg Tryd.prog 115 65 := ⟨⟨_, Tryd.underlying115, rfl⟩, by kernel_rfl⟩
def z115 : List Value := List.replicate 65 (.int .u8 0)
instance : TZ Tryd.prog 115 (.agg z115.toArray) := ⟨by kernel_rfl⟩
def K115 : List IntKind := List.replicate 65 .u8
instance : TFlat Tryd.prog 115 K115 := ⟨by kernel_rfl, by kernel_rfl, by kernel_rfl⟩
-- 116: func(int) bool
instance : TSz Tryd.prog 116 1 := ⟨by kernel_rfl⟩
instance : TBy Tryd.prog 116 8 := ⟨by kernel_rfl⟩
instance : TOne Tryd.prog 116 := ⟨⟨_, Tryd.underlying116, rfl⟩⟩
instance : TZ Tryd.prog 116 (.nilFunc) := ⟨by kernel_rfl⟩
-- 117: func(uint) int
instance : TSz Tryd.prog 117 1 := ⟨by kernel_rfl⟩
instance : TBy Tryd.prog 117 8 := ⟨by kernel_rfl⟩
instance : TOne Tryd.prog 117 := ⟨⟨_, Tryd.underlying117, rfl⟩⟩
instance : TZ Tryd.prog 117 (.nilFunc) := ⟨by kernel_rfl⟩
-- 118: func(uint32) int
instance : TSz Tryd.prog 118 1 := ⟨by kernel_rfl⟩
instance : TBy Tryd.prog 118 8 := ⟨by kernel_rfl⟩
instance : TOne Tryd.prog 118 := ⟨⟨_, Tryd.underlying118, rfl⟩⟩
instance : TZ Tryd.prog 118 (.nilFunc) := ⟨by kernel_rfl⟩
-- 119: [32]uint8
instance : TU Tryd.prog 119 (.array 32 5) := ⟨by kernel_rfl⟩
instance : TSz Tryd.prog 119 32 := ⟨by kernel_rfl⟩
instance : TBy Tryd.prog 119 32 := ⟨by kernel_rfl⟩
instance : TAgg Tryd.prog 119 32 := ⟨⟨_, Tryd.underlying119, rfl⟩, by kernel_rfl⟩
def z119 : List Value := List.replicate 32 (.int .u8 0)
instance : TZ Tryd.prog 119 (.agg z119.toArray) := ⟨by kernel_rfl⟩
def K119 : List IntKind := List.replicate 32 .u8
instance : TFlat Tryd.prog 119 K119 := ⟨by kernel_rfl, by kernel_rfl, by kernel_rfl⟩
-- 120: [64]uint8
instance : TU Tryd.prog 120 (.array 64 5) := ⟨by kernel_rfl⟩
instance : TSz Tryd.prog 120 64 := ⟨by kernel_rfl⟩
instance : TBy Tryd.prog 120 64 := ⟨by kernel_rfl⟩
instance : TAgg Tryd.prog 120 64 := ⟨⟨_, Tryd.underlying120, rfl⟩, by kernel_rfl⟩
def z120 : List Value := List.replicate 64 (.int .u8 0)
instance : TZ Tryd.prog 120 (.agg z120.toArray) := ⟨by kernel_rfl⟩
def K120 : List IntKind := List.replicate 64 .u8
instance : TFlat Tryd.prog 120 K120 := ⟨by kernel_rfl, by kernel_rfl, by kernel_rfl⟩
-- 126: func() int
instance : TSz Tryd.prog 126 1 := ⟨by kernel_rfl⟩
instance : TBy Tryd.prog 126 8 := ⟨by kernel_rfl⟩
instance : TOne Tryd.prog 126 := ⟨⟨_, Tryd.underlying126, rfl⟩⟩
instance : TZ Tryd.prog 126 (.nilFunc) := ⟨by kernel_rfl⟩
-- 129: func(unsafe.Pointer, unsafe.Pointer) bool
instance : TSz Tryd.prog 129 1 := ⟨by kernel_rfl⟩
instance : TBy Tryd.prog 129 8 := ⟨by kernel_rfl⟩
instance : TOne Tryd.prog 129 := ⟨⟨_, Tryd.underlying129, rfl⟩⟩
instance : TZ Tryd.prog 129 (.nilFunc) := ⟨by kernel_rfl⟩
-- 134: func() uintptr
instance : TSz Tryd.prog 134 1 := ⟨by kernel_rfl⟩
instance : TBy Tryd.prog 134 8 := ⟨by kernel_rfl⟩
instance : TOne Tryd.prog 134 := ⟨⟨_, Tryd.underlying134, rfl⟩⟩
instance : TZ Tryd.prog 134 (.nilFunc) := ⟨by kernel_rfl⟩
-- 140: uint16
instance : TU Tryd.prog 140 (.int .u16) := ⟨by kernel_rfl⟩
instance : TSz Tryd.prog 140 1 := ⟨by kernel_rfl⟩
instance : TBy Tryd.prog 140 2 := ⟨by kernel_rfl⟩
instance : TOne Tryd.prog 140 := ⟨⟨_, Tryd.underlying140, rfl⟩⟩
instance : TZ Tryd.prog 140 (.int .u16 0) := ⟨by kernel_rfl⟩
-- 147: *error
instance : TU Tryd.prog 147 (.pointer 42) := ⟨by kernel_rfl⟩
instance : TSz Tryd.prog 147 1 := ⟨by kernel_rfl⟩
instance : TBy Tryd.prog 147 8 := ⟨by kernel_rfl⟩
instance : TOne Tryd.prog 147 := ⟨⟨_, Tryd.underlying147, rfl⟩⟩
instance : TZ Tryd.prog 147 (.pointer none) := ⟨by kernel_rfl⟩
instance : TFn Tryd.prog 3 := ⟨⟨_, Tryd.func3, by kernel_rfl, rfl⟩⟩ -- turnkey/turnkeylaw29.ScriptWhole
instance : TFn Tryd.prog 4 := ⟨⟨_, Tryd.func4, by kernel_rfl, rfl⟩⟩ -- turnkey/turnkeylaw29.ScriptLines
instance : TFn Tryd.prog 5 := ⟨⟨_, Tryd.func5, by kernel_rfl, rfl⟩⟩ -- turnkey/turnkeylaw29.awake
instance : TFn Tryd.prog 6 := ⟨⟨_, Tryd.func6, by kernel_rfl, rfl⟩⟩ -- turnkey/turnkeylaw29.small
instance : TFn Tryd.prog 7 := ⟨⟨_, Tryd.func7, by kernel_rfl, rfl⟩⟩ -- turnkey/script.Print
instance : TFn Tryd.prog 8 := ⟨⟨_, Tryd.func8, by kernel_rfl, rfl⟩⟩ -- turnkey/turnkeyref29.Only
instance : TFn Tryd.prog 9 := ⟨⟨_, Tryd.func9, by kernel_rfl, rfl⟩⟩ -- turnkey/turnkeyref29.Names
instance : TFn Tryd.prog 10 := ⟨⟨_, Tryd.func10, by kernel_rfl, rfl⟩⟩ -- turnkey/turnkeyref29.Has
instance : TFn Tryd.prog 11 := ⟨⟨_, Tryd.func11, by kernel_rfl, rfl⟩⟩ -- turnkey/turnkeyref29.Same
instance : TFn Tryd.prog 12 := ⟨⟨_, Tryd.func12, by kernel_rfl, rfl⟩⟩ -- turnkey/script.line
instance : TFn Tryd.prog 13 := ⟨⟨_, Tryd.func13, by kernel_rfl, rfl⟩⟩ -- turnkey/script.split
instance : TFn Tryd.prog 14 := ⟨⟨_, Tryd.func14, by kernel_rfl, rfl⟩⟩ -- (*strings.Builder).WriteString
instance : TFn Tryd.prog 15 := ⟨⟨_, Tryd.func15, by kernel_rfl, rfl⟩⟩ -- (*strings.Builder).String
instance : TFn Tryd.prog 16 := ⟨⟨_, Tryd.func16, by kernel_rfl, rfl⟩⟩ -- turnkey/script.names
instance : TFn Tryd.prog 17 := ⟨⟨_, Tryd.func17, by kernel_rfl, rfl⟩⟩ -- strings.Cut
instance : TFn Tryd.prog 18 := ⟨⟨_, Tryd.func18, by kernel_rfl, rfl⟩⟩ -- turnkey/script.part
instance : TFn Tryd.prog 19 := ⟨⟨_, Tryd.func19, by kernel_rfl, rfl⟩⟩ -- strings.IndexByte
instance : TFn Tryd.prog 20 := ⟨⟨_, Tryd.func20, by kernel_rfl, rfl⟩⟩ -- strings.Join
instance : TFn Tryd.prog 21 := ⟨⟨_, Tryd.func21, by kernel_rfl, rfl⟩⟩ -- errors.As
instance : TFn Tryd.prog 22 := ⟨⟨_, Tryd.func22, by kernel_rfl, rfl⟩⟩ -- errors.Is
instance : TFn Tryd.prog 23 := ⟨⟨_, Tryd.func23, by kernel_rfl, rfl⟩⟩ -- (*strings.Builder).copyCheck
instance : TFn Tryd.prog 24 := ⟨⟨_, Tryd.func24, by kernel_rfl, rfl⟩⟩ -- internal/stringslite.Cut
instance : TFn Tryd.prog 25 := ⟨⟨_, Tryd.func25, by kernel_rfl, rfl⟩⟩ -- turnkey/script.word
instance : TFn Tryd.prog 26 := ⟨⟨_, Tryd.func26, by kernel_rfl, rfl⟩⟩ -- turnkey/script.list
instance : TFn Tryd.prog 27 := ⟨⟨_, Tryd.func27, by kernel_rfl, rfl⟩⟩ -- strconv.Itoa
instance : TFn Tryd.prog 28 := ⟨⟨_, Tryd.func28, by kernel_rfl, rfl⟩⟩ -- internal/stringslite.IndexByte
instance : TFn Tryd.prog 29 := ⟨⟨_, Tryd.func29, by kernel_rfl, rfl⟩⟩ -- (*strings.Builder).Grow
instance : TFn Tryd.prog 33 := ⟨⟨_, Tryd.func33, by kernel_rfl, rfl⟩⟩ -- errors.as
instance : TFn Tryd.prog 35 := ⟨⟨_, Tryd.func35, by kernel_rfl, rfl⟩⟩ -- errors.is
instance : TFn Tryd.prog 37 := ⟨⟨_, Tryd.func37, by kernel_rfl, rfl⟩⟩ -- internal/stringslite.Index
instance : TFn Tryd.prog 38 := ⟨⟨_, Tryd.func38, by kernel_rfl, rfl⟩⟩ -- (*strings.Builder).WriteByte
instance : TFn Tryd.prog 39 := ⟨⟨_, Tryd.func39, by kernel_rfl, rfl⟩⟩ -- turnkey/octets.Hex
instance : TFn Tryd.prog 40 := ⟨⟨_, Tryd.func40, by kernel_rfl, rfl⟩⟩ -- internal/strconv.Itoa
instance : TFn Tryd.prog 42 := ⟨⟨_, Tryd.func42, by kernel_rfl, rfl⟩⟩ -- (*strings.Builder).grow
instance : TFn Tryd.prog 46 := ⟨⟨_, Tryd.func46, by kernel_rfl, rfl⟩⟩ -- internal/bytealg.Cutover
instance : TFn Tryd.prog 47 := ⟨⟨_, Tryd.func47, by kernel_rfl, rfl⟩⟩ -- internal/bytealg.IndexRabinKarp[string]
instance : TFn Tryd.prog 48 := ⟨⟨_, Tryd.func48, by kernel_rfl, rfl⟩⟩ -- internal/strconv.FormatInt
instance : TFn Tryd.prog 50 := ⟨⟨_, Tryd.func50, by kernel_rfl, rfl⟩⟩ -- internal/bytealg.hashStr[string]
instance : TFn Tryd.prog 51 := ⟨⟨_, Tryd.func51, by kernel_rfl, rfl⟩⟩ -- internal/strconv.small
instance : TFn Tryd.prog 52 := ⟨⟨_, Tryd.func52, by kernel_rfl, rfl⟩⟩ -- internal/strconv.numDigits
instance : TFn Tryd.prog 53 := ⟨⟨_, Tryd.func53, by kernel_rfl, rfl⟩⟩ -- internal/strconv.formatBase10
instance : TFn Tryd.prog 54 := ⟨⟨_, Tryd.func54, by kernel_rfl, rfl⟩⟩ -- internal/strconv.formatBits
instance : TFn Tryd.prog 55 := ⟨⟨_, Tryd.func55, by kernel_rfl, rfl⟩⟩ -- internal/strconv.log10Pow2
instance : TFn Tryd.prog 56 := ⟨⟨_, Tryd.func56, by kernel_rfl, rfl⟩⟩ -- math/bits.Len64
instance : TFn Tryd.prog 57 := ⟨⟨_, Tryd.func57, by kernel_rfl, rfl⟩⟩ -- internal/strconv.bool2[int]
instance : TFn Tryd.prog 58 := ⟨⟨_, Tryd.func58, by kernel_rfl, rfl⟩⟩ -- internal/strconv.isPowerOfTwo
instance : TFn Tryd.prog 59 := ⟨⟨_, Tryd.func59, by kernel_rfl, rfl⟩⟩ -- math/bits.TrailingZeros
instance : TFn Tryd.prog 60 := ⟨⟨_, Tryd.func60, by kernel_rfl, rfl⟩⟩ -- math/bits.TrailingZeros32
instance : TFn Tryd.prog 61 := ⟨⟨_, Tryd.func61, by kernel_rfl, rfl⟩⟩ -- math/bits.TrailingZeros64
instance : TFn Tryd.prog 82 := ⟨⟨_, Tryd.func82, by kernel_rfl, rfl⟩⟩ -- (*turnkey/script.fault).Unwrap
instance : TFn Tryd.prog 104 := ⟨⟨_, Tryd.func104, by kernel_rfl, rfl⟩⟩ -- gosem.cut.vars
end Go.Proofs.YtgobmphkakmdmaaDoor
