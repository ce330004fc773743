/-
  The types of this program, as the walk uses them; what stands in for a function without a body.
-/
import Derived.Test.YtmbkemofejpnfaaProg
import Derived.Test.YtmbkemofejpnfaaAbs12
import Derived.KernelRfl
set_option autoImplicit false
set_option linter.unusedVariables false
set_option maxRecDepth 100000
namespace Go.Proofs.Ytmbkemofejpnfaa
open Go.Abs
def T1 : TI := { k := .func, size := 1, bytes := 8, zero := [.nilf] }
def T2 : TI := { k := .int .i64, size := 1, bytes := 8, zero := [.int .i64 0] }
def T3 : TI := { k := .int .i64, size := 1, bytes := 8, zero := [.int .i64 0] }
def T4 : TI := { k := .bool, size := 1, bytes := 1, zero := [.bool false] }
def T5 : TI := { k := .int .u8, size := 1, bytes := 1, zero := [.int .u8 0] }
def T6 : TI := { k := .int .u8, size := 1, bytes := 1, zero := [.int .u8 0] }
def T7 : TI := { k := .struct [(0, 2), (1, 3), (2, 4), (3, 6)], size := 4, bytes := 24, zero := [.int .i64 0, .int .i64 0, .bool false, .int .u8 0] }
def T8 : TI := { k := .struct [(0, 2), (1, 3), (2, 4), (3, 6)], size := 4, bytes := 24, zero := [.int .i64 0, .int .i64 0, .bool false, .int .u8 0] }
def T9 : TI := { k := .string, size := 1, bytes := 16, zero := [.str ⟨#[]⟩] }
def T10 : TI := { k := .string, size := 1, bytes := 16, zero := [.str ⟨#[]⟩] }
def T11 : TI := { k := .string, size := 1, bytes := 16, zero := [.str ⟨#[]⟩] }
def T12 : TI := { k := .int .u64, size := 1, bytes := 8, zero := [.int .u64 0] }
def T13 : TI := { k := .struct [(0, 9), (1, 12)], size := 2, bytes := 24, zero := [.str ⟨#[]⟩, .int .u64 0] }
def T14 : TI := { k := .struct [(0, 9), (1, 12)], size := 2, bytes := 24, zero := [.str ⟨#[]⟩, .int .u64 0] }
def T15 : TI := { k := .ptr 56, size := 1, bytes := 8, zero := [.nilp] }
def T16 : TI := { k := .ptr 59, size := 1, bytes := 8, zero := [.nilp] }
def T17 : TI := { k := .ptr 69, size := 1, bytes := 8, zero := [.nilp] }
def T18 : TI := { k := .struct [(0, 17)], size := 1, bytes := 8, zero := [.nilp] }
def T19 : TI := { k := .struct [(0, 17)], size := 1, bytes := 8, zero := [.nilp] }
def T20 : TI := { k := .iface, size := 1, bytes := 16, zero := [.nili] }
def T21 : TI := { k := .int .i32, size := 1, bytes := 4, zero := [.int .i32 0] }
def T22 : TI := { k := .slice 24, size := 1, bytes := 24, zero := [.nils] }
def T23 : TI := { k := .func, size := 1, bytes := 8, zero := [.nilf] }
def T24 : TI := { k := .slice 2, size := 1, bytes := 24, zero := [.nils] }
def T26 : TI := { k := .func, size := 1, bytes := 8, zero := [.nilf] }
def T27 : TI := { k := .func, size := 1, bytes := 8, zero := [.nilf] }
def T28 : TI := { k := .func, size := 1, bytes := 8, zero := [.nilf] }
def T29 : TI := { k := .func, size := 1, bytes := 8, zero := [.nilf] }
def T30 : TI := { k := .func, size := 1, bytes := 8, zero := [.nilf] }
def T31 : TI := { k := .func, size := 1, bytes := 8, zero := [.nilf] }
def T32 : TI := { k := .func, size := 1, bytes := 8, zero := [.nilf] }
def T33 : TI := { k := .func, size := 1, bytes := 8, zero := [.nilf] }
def T34 : TI := { k := .func, size := 1, bytes := 8, zero := [.nilf] }
def T35 : TI := { k := .func, size := 1, bytes := 8, zero := [.nilf] }
def T36 : TI := { k := .func, size := 1, bytes := 8, zero := [.nilf] }
def T37 : TI := { k := .func, size := 1, bytes := 8, zero := [.nilf] }
def T39 : TI := { k := .func, size := 1, bytes := 8, zero := [.nilf] }
def T40 : TI := { k := .struct [(0, 2), (1, 2)], size := 2, bytes := 16, zero := [.int .i64 0, .int .i64 0] }
def T41 : TI := { k := .struct [(0, 2), (1, 2)], size := 2, bytes := 16, zero := [.int .i64 0, .int .i64 0] }
def T42 : TI := { k := .func, size := 1, bytes := 8, zero := [.nilf] }
def T43 : TI := { k := .func, size := 1, bytes := 8, zero := [.nilf] }
def T44 : TI := { k := .func, size := 1, bytes := 8, zero := [.nilf] }
def T45 : TI := { k := .func, size := 1, bytes := 8, zero := [.nilf] }
def T46 : TI := { k := .func, size := 1, bytes := 8, zero := [.nilf] }
def T47 : TI := { k := .func, size := 1, bytes := 8, zero := [.nilf] }
def T48 : TI := { k := .func, size := 1, bytes := 8, zero := [.nilf] }
def T49 : TI := { k := .func, size := 1, bytes := 8, zero := [.nilf] }
def T50 : TI := { k := .int .u64, size := 1, bytes := 8, zero := [.int .u64 0] }
def T52 : TI := { k := .func, size := 1, bytes := 8, zero := [.nilf] }
def T53 : TI := { k := .int .u64, size := 1, bytes := 8, zero := [.int .u64 0] }
def T54 : TI := { k := .func, size := 1, bytes := 8, zero := [.nilf] }
def T55 : TI := { k := .struct [(0, 17), (1, 17), (2, 17), (3, 9)], size := 4, bytes := 40, zero := [.nilp, .nilp, .nilp, .str ⟨#[]⟩] }
def T56 : TI := { k := .struct [(0, 17), (1, 17), (2, 17), (3, 9)], size := 4, bytes := 40, zero := [.nilp, .nilp, .nilp, .str ⟨#[]⟩] }
def T57 : TI := { k := .array 0 16, size := 0, bytes := 0, zero := [] }
def T58 : TI := { k := .struct [(0, 57)], size := 0, bytes := 0, zero := [] }
def T59 : TI := { k := .struct [(0, 57)], size := 0, bytes := 0, zero := [] }
def T60 : TI := { k := .func, size := 1, bytes := 8, zero := [.nilf] }
def T61 : TI := { k := .int .u32, size := 1, bytes := 4, zero := [.int .u32 0] }
def T62 : TI := { k := .int .u8, size := 1, bytes := 1, zero := [.int .u8 0] }
def T63 : TI := { k := .int .u8, size := 1, bytes := 1, zero := [.int .u8 0] }
def T64 : TI := { k := .func, size := 1, bytes := 8, zero := [.nilf] }
def T65 : TI := { k := .ptr 5, size := 1, bytes := 8, zero := [.nilp] }
def T66 : TI := { k := .int .i32, size := 1, bytes := 4, zero := [.int .i32 0] }
def T67 : TI := { k := .int .i32, size := 1, bytes := 4, zero := [.int .i32 0] }
def T68 : TI := { k := .struct [(0, 12), (1, 12), (2, 61), (3, 62), (4, 5), (5, 5), (6, 63), (7, 64), (8, 65), (9, 66), (10, 67)], size := 11, bytes := 48, zero := [.int .u64 0, .int .u64 0, .int .u32 0, .int .u8 0, .int .u8 0, .int .u8 0, .int .u8 0, .nilf, .nilp, .int .i32 0, .int .i32 0] }
def T69 : TI := { k := .struct [(0, 12), (1, 12), (2, 61), (3, 62), (4, 5), (5, 5), (6, 63), (7, 64), (8, 65), (9, 66), (10, 67)], size := 11, bytes := 48, zero := [.int .u64 0, .int .u64 0, .int .u32 0, .int .u8 0, .int .u8 0, .int .u8 0, .int .u8 0, .nilf, .nilp, .int .i32 0, .int .i32 0] }
theorem tok1 : TyOk Try.prog 1 T1 := ⟨⟨_, Try.underlying1, ⟨_, _, _, rfl⟩⟩, ⟨_, _, Try.type1, rfl, rfl, rfl, rfl, rfl, rfl⟩⟩
theorem tok2 : TyOk Try.prog 2 T2 := ⟨⟨_, Try.underlying2, rfl⟩, ⟨_, _, Try.type2, rfl, rfl, rfl, rfl, rfl, rfl⟩⟩
theorem tok3 : TyOk Try.prog 3 T3 := ⟨⟨_, Try.underlying3, rfl⟩, ⟨_, _, Try.type3, rfl, rfl, rfl, rfl, rfl, rfl⟩⟩
theorem tok4 : TyOk Try.prog 4 T4 := ⟨⟨_, Try.underlying4, rfl⟩, ⟨_, _, Try.type4, rfl, rfl, rfl, rfl, rfl, rfl⟩⟩
theorem tok5 : TyOk Try.prog 5 T5 := ⟨⟨_, Try.underlying5, rfl⟩, ⟨_, _, Try.type5, rfl, rfl, rfl, rfl, rfl, rfl⟩⟩
theorem tok6 : TyOk Try.prog 6 T6 := ⟨⟨_, Try.underlying6, rfl⟩, ⟨_, _, Try.type6, rfl, rfl, rfl, rfl, rfl, rfl⟩⟩
theorem tok7 : TyOk Try.prog 7 T7 := ⟨⟨_, Try.underlying7, ⟨_, rfl, rfl⟩⟩, ⟨_, _, Try.type7, rfl, rfl, rfl, rfl, rfl, rfl⟩⟩
theorem tok8 : TyOk Try.prog 8 T8 := ⟨⟨_, Try.underlying8, ⟨_, rfl, rfl⟩⟩, ⟨_, _, Try.type8, rfl, rfl, rfl, rfl, rfl, rfl⟩⟩
theorem tok9 : TyOk Try.prog 9 T9 := ⟨⟨_, Try.underlying9, rfl⟩, ⟨_, _, Try.type9, rfl, rfl, rfl, rfl, rfl, rfl⟩⟩
theorem tok10 : TyOk Try.prog 10 T10 := ⟨⟨_, Try.underlying10, rfl⟩, ⟨_, _, Try.type10, rfl, rfl, rfl, rfl, rfl, rfl⟩⟩
theorem tok11 : TyOk Try.prog 11 T11 := ⟨⟨_, Try.underlying11, rfl⟩, ⟨_, _, Try.type11, rfl, rfl, rfl, rfl, rfl, rfl⟩⟩
theorem tok12 : TyOk Try.prog 12 T12 := ⟨⟨_, Try.underlying12, rfl⟩, ⟨_, _, Try.type12, rfl, rfl, rfl, rfl, rfl, rfl⟩⟩
theorem tok13 : TyOk Try.prog 13 T13 := ⟨⟨_, Try.underlying13, ⟨_, rfl, rfl⟩⟩, ⟨_, _, Try.type13, rfl, rfl, rfl, rfl, rfl, rfl⟩⟩
theorem tok14 : TyOk Try.prog 14 T14 := ⟨⟨_, Try.underlying14, ⟨_, rfl, rfl⟩⟩, ⟨_, _, Try.type14, rfl, rfl, rfl, rfl, rfl, rfl⟩⟩
theorem tok15 : TyOk Try.prog 15 T15 := ⟨⟨_, Try.underlying15, rfl⟩, ⟨_, _, Try.type15, rfl, rfl, rfl, rfl, rfl, rfl⟩⟩
theorem tok16 : TyOk Try.prog 16 T16 := ⟨⟨_, Try.underlying16, rfl⟩, ⟨_, _, Try.type16, rfl, rfl, rfl, rfl, rfl, rfl⟩⟩
theorem tok17 : TyOk Try.prog 17 T17 := ⟨⟨_, Try.underlying17, rfl⟩, ⟨_, _, Try.type17, rfl, rfl, rfl, rfl, rfl, rfl⟩⟩
theorem tok18 : TyOk Try.prog 18 T18 := ⟨⟨_, Try.underlying18, ⟨_, rfl, rfl⟩⟩, ⟨_, _, Try.type18, rfl, rfl, rfl, rfl, rfl, rfl⟩⟩
theorem tok19 : TyOk Try.prog 19 T19 := ⟨⟨_, Try.underlying19, ⟨_, rfl, rfl⟩⟩, ⟨_, _, Try.type19, rfl, rfl, rfl, rfl, rfl, rfl⟩⟩
theorem tok20 : TyOk Try.prog 20 T20 := ⟨⟨_, Try.underlying20, ⟨_, rfl⟩⟩, ⟨_, _, Try.type20, rfl, rfl, rfl, rfl, rfl, rfl⟩⟩
theorem tok21 : TyOk Try.prog 21 T21 := ⟨⟨_, Try.underlying21, rfl⟩, ⟨_, _, Try.type21, rfl, rfl, rfl, rfl, rfl, rfl⟩⟩
theorem tok22 : TyOk Try.prog 22 T22 := ⟨⟨_, Try.underlying22, rfl⟩, ⟨_, _, Try.type22, rfl, rfl, rfl, rfl, rfl, rfl⟩⟩
theorem tok23 : TyOk Try.prog 23 T23 := ⟨⟨_, Try.underlying23, ⟨_, _, _, rfl⟩⟩, ⟨_, _, Try.type23, rfl, rfl, rfl, rfl, rfl, rfl⟩⟩
theorem tok24 : TyOk Try.prog 24 T24 := ⟨⟨_, Try.underlying24, rfl⟩, ⟨_, _, Try.type24, rfl, rfl, rfl, rfl, rfl, rfl⟩⟩
theorem tok26 : TyOk Try.prog 26 T26 := ⟨⟨_, Try.underlying26, ⟨_, _, _, rfl⟩⟩, ⟨_, _, Try.type26, rfl, rfl, rfl, rfl, rfl, rfl⟩⟩
theorem tok27 : TyOk Try.prog 27 T27 := ⟨⟨_, Try.underlying27, ⟨_, _, _, rfl⟩⟩, ⟨_, _, Try.type27, rfl, rfl, rfl, rfl, rfl, rfl⟩⟩
theorem tok28 : TyOk Try.prog 28 T28 := ⟨⟨_, Try.underlying28, ⟨_, _, _, rfl⟩⟩, ⟨_, _, Try.type28, rfl, rfl, rfl, rfl, rfl, rfl⟩⟩
theorem tok29 : TyOk Try.prog 29 T29 := ⟨⟨_, Try.underlying29, ⟨_, _, _, rfl⟩⟩, ⟨_, _, Try.type29, rfl, rfl, rfl, rfl, rfl, rfl⟩⟩
theorem tok30 : TyOk Try.prog 30 T30 := ⟨⟨_, Try.underlying30, ⟨_, _, _, rfl⟩⟩, ⟨_, _, Try.type30, rfl, rfl, rfl, rfl, rfl, rfl⟩⟩
theorem tok31 : TyOk Try.prog 31 T31 := ⟨⟨_, Try.underlying31, ⟨_, _, _, rfl⟩⟩, ⟨_, _, Try.type31, rfl, rfl, rfl, rfl, rfl, rfl⟩⟩
theorem tok32 : TyOk Try.prog 32 T32 := ⟨⟨_, Try.underlying32, ⟨_, _, _, rfl⟩⟩, ⟨_, _, Try.type32, rfl, rfl, rfl, rfl, rfl, rfl⟩⟩
theorem tok33 : TyOk Try.prog 33 T33 := ⟨⟨_, Try.underlying33, ⟨_, _, _, rfl⟩⟩, ⟨_, _, Try.type33, rfl, rfl, rfl, rfl, rfl, rfl⟩⟩
theorem tok34 : TyOk Try.prog 34 T34 := ⟨⟨_, Try.underlying34, ⟨_, _, _, rfl⟩⟩, ⟨_, _, Try.type34, rfl, rfl, rfl, rfl, rfl, rfl⟩⟩
theorem tok35 : TyOk Try.prog 35 T35 := ⟨⟨_, Try.underlying35, ⟨_, _, _, rfl⟩⟩, ⟨_, _, Try.type35, rfl, rfl, rfl, rfl, rfl, rfl⟩⟩
theorem tok36 : TyOk Try.prog 36 T36 := ⟨⟨_, Try.underlying36, ⟨_, _, _, rfl⟩⟩, ⟨_, _, Try.type36, rfl, rfl, rfl, rfl, rfl, rfl⟩⟩
theorem tok37 : TyOk Try.prog 37 T37 := ⟨⟨_, Try.underlying37, ⟨_, _, _, rfl⟩⟩, ⟨_, _, Try.type37, rfl, rfl, rfl, rfl, rfl, rfl⟩⟩
theorem tok39 : TyOk Try.prog 39 T39 := ⟨⟨_, Try.underlying39, ⟨_, _, _, rfl⟩⟩, ⟨_, _, Try.type39, rfl, rfl, rfl, rfl, rfl, rfl⟩⟩
theorem tok40 : TyOk Try.prog 40 T40 := ⟨⟨_, Try.underlying40, ⟨_, rfl, rfl⟩⟩, ⟨_, _, Try.type40, rfl, rfl, rfl, rfl, rfl, rfl⟩⟩
theorem tok41 : TyOk Try.prog 41 T41 := ⟨⟨_, Try.underlying41, ⟨_, rfl, rfl⟩⟩, ⟨_, _, Try.type41, rfl, rfl, rfl, rfl, rfl, rfl⟩⟩
theorem tok42 : TyOk Try.prog 42 T42 := ⟨⟨_, Try.underlying42, ⟨_, _, _, rfl⟩⟩, ⟨_, _, Try.type42, rfl, rfl, rfl, rfl, rfl, rfl⟩⟩
theorem tok43 : TyOk Try.prog 43 T43 := ⟨⟨_, Try.underlying43, ⟨_, _, _, rfl⟩⟩, ⟨_, _, Try.type43, rfl, rfl, rfl, rfl, rfl, rfl⟩⟩
theorem tok44 : TyOk Try.prog 44 T44 := ⟨⟨_, Try.underlying44, ⟨_, _, _, rfl⟩⟩, ⟨_, _, Try.type44, rfl, rfl, rfl, rfl, rfl, rfl⟩⟩
theorem tok45 : TyOk Try.prog 45 T45 := ⟨⟨_, Try.underlying45, ⟨_, _, _, rfl⟩⟩, ⟨_, _, Try.type45, rfl, rfl, rfl, rfl, rfl, rfl⟩⟩
theorem tok46 : TyOk Try.prog 46 T46 := ⟨⟨_, Try.underlying46, ⟨_, _, _, rfl⟩⟩, ⟨_, _, Try.type46, rfl, rfl, rfl, rfl, rfl, rfl⟩⟩
theorem tok47 : TyOk Try.prog 47 T47 := ⟨⟨_, Try.underlying47, ⟨_, _, _, rfl⟩⟩, ⟨_, _, Try.type47, rfl, rfl, rfl, rfl, rfl, rfl⟩⟩
theorem tok48 : TyOk Try.prog 48 T48 := ⟨⟨_, Try.underlying48, ⟨_, _, _, rfl⟩⟩, ⟨_, _, Try.type48, rfl, rfl, rfl, rfl, rfl, rfl⟩⟩
theorem tok49 : TyOk Try.prog 49 T49 := ⟨⟨_, Try.underlying49, ⟨_, _, _, rfl⟩⟩, ⟨_, _, Try.type49, rfl, rfl, rfl, rfl, rfl, rfl⟩⟩
theorem tok50 : TyOk Try.prog 50 T50 := ⟨⟨_, Try.underlying50, rfl⟩, ⟨_, _, Try.type50, rfl, rfl, rfl, rfl, rfl, rfl⟩⟩
theorem tok52 : TyOk Try.prog 52 T52 := ⟨⟨_, Try.underlying52, ⟨_, _, _, rfl⟩⟩, ⟨_, _, Try.type52, rfl, rfl, rfl, rfl, rfl, rfl⟩⟩
theorem tok53 : TyOk Try.prog 53 T53 := ⟨⟨_, Try.underlying53, rfl⟩, ⟨_, _, Try.type53, rfl, rfl, rfl, rfl, rfl, rfl⟩⟩
theorem tok54 : TyOk Try.prog 54 T54 := ⟨⟨_, Try.underlying54, ⟨_, _, _, rfl⟩⟩, ⟨_, _, Try.type54, rfl, rfl, rfl, rfl, rfl, rfl⟩⟩
theorem tok55 : TyOk Try.prog 55 T55 := ⟨⟨_, Try.underlying55, ⟨_, rfl, rfl⟩⟩, ⟨_, _, Try.type55, rfl, rfl, rfl, rfl, rfl, rfl⟩⟩
theorem tok56 : TyOk Try.prog 56 T56 := ⟨⟨_, Try.underlying56, ⟨_, rfl, rfl⟩⟩, ⟨_, _, Try.type56, rfl, rfl, rfl, rfl, rfl, rfl⟩⟩
theorem tok57 : TyOk Try.prog 57 T57 := ⟨⟨_, Try.underlying57, rfl⟩, ⟨_, _, Try.type57, rfl, rfl, rfl, rfl, rfl, rfl⟩⟩
theorem tok58 : TyOk Try.prog 58 T58 := ⟨⟨_, Try.underlying58, ⟨_, rfl, rfl⟩⟩, ⟨_, _, Try.type58, rfl, rfl, rfl, rfl, rfl, rfl⟩⟩
theorem tok59 : TyOk Try.prog 59 T59 := ⟨⟨_, Try.underlying59, ⟨_, rfl, rfl⟩⟩, ⟨_, _, Try.type59, rfl, rfl, rfl, rfl, rfl, rfl⟩⟩
theorem tok60 : TyOk Try.prog 60 T60 := ⟨⟨_, Try.underlying60, ⟨_, _, _, rfl⟩⟩, ⟨_, _, Try.type60, rfl, rfl, rfl, rfl, rfl, rfl⟩⟩
theorem tok61 : TyOk Try.prog 61 T61 := ⟨⟨_, Try.underlying61, rfl⟩, ⟨_, _, Try.type61, rfl, rfl, rfl, rfl, rfl, rfl⟩⟩
theorem tok62 : TyOk Try.prog 62 T62 := ⟨⟨_, Try.underlying62, rfl⟩, ⟨_, _, Try.type62, rfl, rfl, rfl, rfl, rfl, rfl⟩⟩
theorem tok63 : TyOk Try.prog 63 T63 := ⟨⟨_, Try.underlying63, rfl⟩, ⟨_, _, Try.type63, rfl, rfl, rfl, rfl, rfl, rfl⟩⟩
theorem tok64 : TyOk Try.prog 64 T64 := ⟨⟨_, Try.underlying64, ⟨_, _, _, rfl⟩⟩, ⟨_, _, Try.type64, rfl, rfl, rfl, rfl, rfl, rfl⟩⟩
theorem tok65 : TyOk Try.prog 65 T65 := ⟨⟨_, Try.underlying65, rfl⟩, ⟨_, _, Try.type65, rfl, rfl, rfl, rfl, rfl, rfl⟩⟩
theorem tok66 : TyOk Try.prog 66 T66 := ⟨⟨_, Try.underlying66, rfl⟩, ⟨_, _, Try.type66, rfl, rfl, rfl, rfl, rfl, rfl⟩⟩
theorem tok67 : TyOk Try.prog 67 T67 := ⟨⟨_, Try.underlying67, rfl⟩, ⟨_, _, Try.type67, rfl, rfl, rfl, rfl, rfl, rfl⟩⟩
theorem tok68 : TyOk Try.prog 68 T68 := ⟨⟨_, Try.underlying68, ⟨_, rfl, rfl⟩⟩, ⟨_, _, Try.type68, rfl, rfl, rfl, rfl, rfl, rfl⟩⟩
theorem tok69 : TyOk Try.prog 69 T69 := ⟨⟨_, Try.underlying69, ⟨_, rfl, rfl⟩⟩, ⟨_, _, Try.type69, rfl, rfl, rfl, rfl, rfl, rfl⟩⟩
def tyL : List (Nat × TI) := [(1, T1), (2, T2), (3, T3), (4, T4), (5, T5), (6, T6), (7, T7), (8, T8), (9, T9), (10, T10), (11, T11), (12, T12), (13, T13), (14, T14), (15, T15), (16, T16), (17, T17), (18, T18), (19, T19), (20, T20), (21, T21), (22, T22), (23, T23), (24, T24), (26, T26), (27, T27), (28, T28), (29, T29), (30, T30), (31, T31), (32, T32), (33, T33), (34, T34), (35, T35), (36, T36), (37, T37), (39, T39), (40, T40), (41, T41), (42, T42), (43, T43), (44, T44), (45, T45), (46, T46), (47, T47), (48, T48), (49, T49), (50, T50), (52, T52), (53, T53), (54, T54), (55, T55), (56, T56), (57, T57), (58, T58), (59, T59), (60, T60), (61, T61), (62, T62), (63, T63), (64, T64), (65, T65), (66, T66), (67, T67), (68, T68), (69, T69)]
theorem tyL_ok : ∀ x ∈ tyL, TyOk Try.prog x.1 x.2 := List.forall_mem_cons.2 ⟨tok1, List.forall_mem_cons.2 ⟨tok2, List.forall_mem_cons.2 ⟨tok3, List.forall_mem_cons.2 ⟨tok4, List.forall_mem_cons.2 ⟨tok5, List.forall_mem_cons.2 ⟨tok6, List.forall_mem_cons.2 ⟨tok7, List.forall_mem_cons.2 ⟨tok8, List.forall_mem_cons.2 ⟨tok9, List.forall_mem_cons.2 ⟨tok10, List.forall_mem_cons.2 ⟨tok11, List.forall_mem_cons.2 ⟨tok12, List.forall_mem_cons.2 ⟨tok13, List.forall_mem_cons.2 ⟨tok14, List.forall_mem_cons.2 ⟨tok15, List.forall_mem_cons.2 ⟨tok16, List.forall_mem_cons.2 ⟨tok17, List.forall_mem_cons.2 ⟨tok18, List.forall_mem_cons.2 ⟨tok19, List.forall_mem_cons.2 ⟨tok20, List.forall_mem_cons.2 ⟨tok21, List.forall_mem_cons.2 ⟨tok22, List.forall_mem_cons.2 ⟨tok23, List.forall_mem_cons.2 ⟨tok24, List.forall_mem_cons.2 ⟨tok26, List.forall_mem_cons.2 ⟨tok27, List.forall_mem_cons.2 ⟨tok28, List.forall_mem_cons.2 ⟨tok29, List.forall_mem_cons.2 ⟨tok30, List.forall_mem_cons.2 ⟨tok31, List.forall_mem_cons.2 ⟨tok32, List.forall_mem_cons.2 ⟨tok33, List.forall_mem_cons.2 ⟨tok34, List.forall_mem_cons.2 ⟨tok35, List.forall_mem_cons.2 ⟨tok36, List.forall_mem_cons.2 ⟨tok37, List.forall_mem_cons.2 ⟨tok39, List.forall_mem_cons.2 ⟨tok40, List.forall_mem_cons.2 ⟨tok41, List.forall_mem_cons.2 ⟨tok42, List.forall_mem_cons.2 ⟨tok43, List.forall_mem_cons.2 ⟨tok44, List.forall_mem_cons.2 ⟨tok45, List.forall_mem_cons.2 ⟨tok46, List.forall_mem_cons.2 ⟨tok47, List.forall_mem_cons.2 ⟨tok48, List.forall_mem_cons.2 ⟨tok49, List.forall_mem_cons.2 ⟨tok50, List.forall_mem_cons.2 ⟨tok52, List.forall_mem_cons.2 ⟨tok53, List.forall_mem_cons.2 ⟨tok54, List.forall_mem_cons.2 ⟨tok55, List.forall_mem_cons.2 ⟨tok56, List.forall_mem_cons.2 ⟨tok57, List.forall_mem_cons.2 ⟨tok58, List.forall_mem_cons.2 ⟨tok59, List.forall_mem_cons.2 ⟨tok60, List.forall_mem_cons.2 ⟨tok61, List.forall_mem_cons.2 ⟨tok62, List.forall_mem_cons.2 ⟨tok63, List.forall_mem_cons.2 ⟨tok64, List.forall_mem_cons.2 ⟨tok65, List.forall_mem_cons.2 ⟨tok66, List.forall_mem_cons.2 ⟨tok67, List.forall_mem_cons.2 ⟨tok68, List.forall_mem_cons.2 ⟨tok69, fun x hx => by cases hx⟩⟩⟩⟩⟩⟩⟩⟩⟩⟩⟩⟩⟩⟩⟩⟩⟩⟩⟩⟩⟩⟩⟩⟩⟩⟩⟩⟩⟩⟩⟩⟩⟩⟩⟩⟩⟩⟩⟩⟩⟩⟩⟩⟩⟩⟩⟩⟩⟩⟩⟩⟩⟩⟩⟩⟩⟩⟩⟩⟩⟩⟩⟩⟩⟩⟩
def extL : List (Nat × (List AV → Option AV)) := [(37, add64A)]
noncomputable def env : Env := { P := Try.prog, ty := Abs.look tyL, gl := fun _ => none, ext := Abs.look extL }
theorem extL_ok : ∀ x ∈ extL, ExtOk Try.prog x.1 x.2 := List.forall_mem_cons.2 ⟨add64_ok Try.func37 (by kernel_rfl) (by kernel_rfl) (by kernel_rfl) (by kernel_rfl), fun x hx => by cases hx⟩
theorem envOk : EnvOk env := envOk_of (look_all tyL_ok) (by kernel_rfl) (look_all extL_ok)
theorem ty1 : env.ty 1 = some T1 := rfl
theorem ty2 : env.ty 2 = some T2 := rfl
theorem ty3 : env.ty 3 = some T3 := rfl
theorem ty4 : env.ty 4 = some T4 := rfl
theorem ty5 : env.ty 5 = some T5 := rfl
theorem ty6 : env.ty 6 = some T6 := rfl
theorem ty7 : env.ty 7 = some T7 := rfl
theorem ty8 : env.ty 8 = some T8 := rfl
theorem ty9 : env.ty 9 = some T9 := rfl
theorem ty10 : env.ty 10 = some T10 := rfl
theorem ty11 : env.ty 11 = some T11 := rfl
theorem ty12 : env.ty 12 = some T12 := rfl
theorem ty13 : env.ty 13 = some T13 := rfl
theorem ty14 : env.ty 14 = some T14 := rfl
theorem ty15 : env.ty 15 = some T15 := rfl
theorem ty16 : env.ty 16 = some T16 := rfl
theorem ty17 : env.ty 17 = some T17 := rfl
theorem ty18 : env.ty 18 = some T18 := rfl
theorem ty19 : env.ty 19 = some T19 := rfl
theorem ty20 : env.ty 20 = some T20 := rfl
theorem ty21 : env.ty 21 = some T21 := rfl
theorem ty22 : env.ty 22 = some T22 := rfl
theorem ty23 : env.ty 23 = some T23 := rfl
theorem ty24 : env.ty 24 = some T24 := rfl
theorem ty26 : env.ty 26 = some T26 := rfl
theorem ty27 : env.ty 27 = some T27 := rfl
theorem ty28 : env.ty 28 = some T28 := rfl
theorem ty29 : env.ty 29 = some T29 := rfl
theorem ty30 : env.ty 30 = some T30 := rfl
theorem ty31 : env.ty 31 = some T31 := rfl
theorem ty32 : env.ty 32 = some T32 := rfl
theorem ty33 : env.ty 33 = some T33 := rfl
theorem ty34 : env.ty 34 = some T34 := rfl
theorem ty35 : env.ty 35 = some T35 := rfl
theorem ty36 : env.ty 36 = some T36 := rfl
theorem ty37 : env.ty 37 = some T37 := rfl
theorem ty39 : env.ty 39 = some T39 := rfl
theorem ty40 : env.ty 40 = some T40 := rfl
theorem ty41 : env.ty 41 = some T41 := rfl
theorem ty42 : env.ty 42 = some T42 := rfl
theorem ty43 : env.ty 43 = some T43 := rfl
theorem ty44 : env.ty 44 = some T44 := rfl
theorem ty45 : env.ty 45 = some T45 := rfl
theorem ty46 : env.ty 46 = some T46 := rfl
theorem ty47 : env.ty 47 = some T47 := rfl
theorem ty48 : env.ty 48 = some T48 := rfl
theorem ty49 : env.ty 49 = some T49 := rfl
theorem ty50 : env.ty 50 = some T50 := rfl
theorem ty52 : env.ty 52 = some T52 := rfl
theorem ty53 : env.ty 53 = some T53 := rfl
theorem ty54 : env.ty 54 = some T54 := rfl
theorem ty55 : env.ty 55 = some T55 := rfl
theorem ty56 : env.ty 56 = some T56 := rfl
theorem ty57 : env.ty 57 = some T57 := rfl
theorem ty58 : env.ty 58 = some T58 := rfl
theorem ty59 : env.ty 59 = some T59 := rfl
theorem ty60 : env.ty 60 = some T60 := rfl
theorem ty61 : env.ty 61 = some T61 := rfl
theorem ty62 : env.ty 62 = some T62 := rfl
theorem ty63 : env.ty 63 = some T63 := rfl
theorem ty64 : env.ty 64 = some T64 := rfl
theorem ty65 : env.ty 65 = some T65 := rfl
theorem ty66 : env.ty 66 = some T66 := rfl
theorem ty67 : env.ty 67 = some T67 := rfl
theorem ty68 : env.ty 68 = some T68 := rfl
theorem ty69 : env.ty 69 = some T69 := rfl
theorem ext0 : env.ext 0 = none := rfl
theorem ext1 : env.ext 1 = none := rfl
theorem ext2 : env.ext 2 = none := rfl
theorem ext3 : env.ext 3 = none := rfl
theorem ext4 : env.ext 4 = none := rfl
theorem ext5 : env.ext 5 = none := rfl
theorem ext6 : env.ext 6 = none := rfl
theorem ext7 : env.ext 7 = none := rfl
theorem ext8 : env.ext 8 = none := rfl
theorem ext9 : env.ext 9 = none := rfl
theorem ext10 : env.ext 10 = none := rfl
theorem ext11 : env.ext 11 = none := rfl
theorem ext12 : env.ext 12 = none := rfl
theorem ext13 : env.ext 13 = none := rfl
theorem ext14 : env.ext 14 = none := rfl
theorem ext15 : env.ext 15 = none := rfl
theorem ext16 : env.ext 16 = none := rfl
theorem ext17 : env.ext 17 = none := rfl
theorem ext18 : env.ext 18 = none := rfl
theorem ext19 : env.ext 19 = none := rfl
theorem ext20 : env.ext 20 = none := rfl
theorem ext21 : env.ext 21 = none := rfl
theorem ext22 : env.ext 22 = none := rfl
theorem ext23 : env.ext 23 = none := rfl
theorem ext24 : env.ext 24 = none := rfl
theorem ext25 : env.ext 25 = none := rfl
theorem ext26 : env.ext 26 = none := rfl
theorem ext27 : env.ext 27 = none := rfl
theorem ext28 : env.ext 28 = none := rfl
theorem ext29 : env.ext 29 = none := rfl
theorem ext30 : env.ext 30 = none := rfl
theorem ext31 : env.ext 31 = none := rfl
theorem ext32 : env.ext 32 = none := rfl
theorem ext33 : env.ext 33 = none := rfl
theorem ext34 : env.ext 34 = none := rfl
theorem ext35 : env.ext 35 = none := rfl
theorem ext36 : env.ext 36 = none := rfl
theorem ext37 : env.ext 37 = some add64A := rfl
theorem ext38 : env.ext 38 = none := rfl
theorem ext39 : env.ext 39 = none := rfl
theorem ext40 : env.ext 40 = none := rfl
theorem ext41 : env.ext 41 = none := rfl
theorem ext42 : env.ext 42 = none := rfl
theorem ext43 : env.ext 43 = none := rfl
theorem ext44 : env.ext 44 = none := rfl
theorem ext45 : env.ext 45 = none := rfl
theorem ext46 : env.ext 46 = none := rfl
theorem ext47 : env.ext 47 = none := rfl
theorem ext48 : env.ext 48 = none := rfl
theorem ext49 : env.ext 49 = none := rfl
theorem ext50 : env.ext 50 = none := rfl
theorem ext51 : env.ext 51 = none := rfl
theorem ext52 : env.ext 52 = none := rfl
theorem ext53 : env.ext 53 = none := rfl
end Go.Proofs.Ytmbkemofejpnfaa
