/-
  The types of this program, as the walk uses them; what stands in for a function without a body.
-/
import Derived.Test.YtdmdjiaocbccpaaDoorProg
import Derived.Test.YtdmdjiaocbccpaaDoorAbs12
import Derived.KernelRfl
set_option autoImplicit false
set_option linter.unusedVariables false
set_option maxRecDepth 100000
namespace Go.Proofs.YtdmdjiaocbccpaaDoor
open Go.Abs
def T1 : TI := { k := .func, size := 1, bytes := 8, zero := [.nilf] }
def T2 : TI := { k := .int .i64, size := 1, bytes := 8, zero := [.int .i64 0] }
def T3 : TI := { k := .int .i64, size := 1, bytes := 8, zero := [.int .i64 0] }
def T4 : TI := { k := .bool, size := 1, bytes := 1, zero := [.bool false] }
def T5 : TI := { k := .int .u8, size := 1, bytes := 1, zero := [.int .u8 0] }
def T6 : TI := { k := .int .u8, size := 1, bytes := 1, zero := [.int .u8 0] }
def T7 : TI := { k := .struct [(0, 2), (1, 3), (2, 4), (3, 6)], size := 4, bytes := 24, zero := [.int .i64 0, .int .i64 0, .bool false, .int .u8 0] }
def T8 : TI := { k := .struct [(0, 2), (1, 3), (2, 4), (3, 6)], size := 4, bytes := 24, zero := [.int .i64 0, .int .i64 0, .bool false, .int .u8 0] }
def T9 : TI := { k := .string, size := 1, bytes := 16, zero := [.str ⟨#[]⟩] }
def T10 : TI := { k := .string, size := 1, bytes := 16, zero := [.str ⟨#[]⟩] }
def T11 : TI := { k := .string, size := 1, bytes := 16, zero := [.str ⟨#[]⟩] }
def T12 : TI := { k := .int .u64, size := 1, bytes := 8, zero := [.int .u64 0] }
def T13 : TI := { k := .struct [(0, 9), (1, 12)], size := 2, bytes := 24, zero := [.str ⟨#[]⟩, .int .u64 0] }
def T14 : TI := { k := .struct [(0, 9), (1, 12)], size := 2, bytes := 24, zero := [.str ⟨#[]⟩, .int .u64 0] }
def T15 : TI := { k := .ptr 128, size := 1, bytes := 8, zero := [.nilp] }
def T16 : TI := { k := .ptr 131, size := 1, bytes := 8, zero := [.nilp] }
def T17 : TI := { k := .ptr 139, size := 1, bytes := 8, zero := [.nilp] }
def T18 : TI := { k := .struct [(0, 17)], size := 1, bytes := 8, zero := [.nilp] }
def T19 : TI := { k := .struct [(0, 17)], size := 1, bytes := 8, zero := [.nilp] }
def T20 : TI := { k := .iface, size := 1, bytes := 16, zero := [.nili] }
def T21 : TI := { k := .int .i32, size := 1, bytes := 4, zero := [.int .i32 0] }
def T22 : TI := { k := .slice 9, size := 1, bytes := 24, zero := [.nils] }
def T23 : TI := { k := .ptr 60, size := 1, bytes := 8, zero := [.nilp] }
def T24 : TI := { k := .func, size := 1, bytes := 8, zero := [.nilf] }
def T25 : TI := { k := .func, size := 1, bytes := 8, zero := [.nilf] }
def T26 : TI := { k := .iface, size := 1, bytes := 16, zero := [.nili] }
def T27 : TI := { k := .iface, size := 1, bytes := 16, zero := [.nili] }
def T28 : TI := { k := .func, size := 1, bytes := 8, zero := [.nilf] }
def T30 : TI := { k := .func, size := 1, bytes := 8, zero := [.nilf] }
def T31 : TI := { k := .func, size := 1, bytes := 8, zero := [.nilf] }
def T32 : TI := { k := .func, size := 1, bytes := 8, zero := [.nilf] }
def T33 : TI := { k := .func, size := 1, bytes := 8, zero := [.nilf] }
def T34 : TI := { k := .slice 43, size := 1, bytes := 24, zero := [.nils] }
def T35 : TI := { k := .ptr 67, size := 1, bytes := 8, zero := [.nilp] }
def T36 : TI := { k := .func, size := 1, bytes := 8, zero := [.nilf] }
def T37 : TI := { k := .slice 41, size := 1, bytes := 24, zero := [.nils] }
def T39 : TI := { k := .func, size := 1, bytes := 8, zero := [.nilf] }
def T40 : TI := { k := .struct [(0, 3), (1, 3)], size := 2, bytes := 16, zero := [.int .i64 0, .int .i64 0] }
def T41 : TI := { k := .struct [(0, 3), (1, 3)], size := 2, bytes := 16, zero := [.int .i64 0, .int .i64 0] }
def T42 : TI := { k := .struct [(0, 3), (1, 41)], size := 3, bytes := 24, zero := [.int .i64 0, .int .i64 0, .int .i64 0] }
def T43 : TI := { k := .struct [(0, 3), (1, 41)], size := 3, bytes := 24, zero := [.int .i64 0, .int .i64 0, .int .i64 0] }
def T44 : TI := { k := .func, size := 1, bytes := 8, zero := [.nilf] }
def T45 : TI := { k := .slice 3, size := 1, bytes := 24, zero := [.nils] }
def T46 : TI := { k := .func, size := 1, bytes := 8, zero := [.nilf] }
def T47 : TI := { k := .func, size := 1, bytes := 8, zero := [.nilf] }
def T48 : TI := { k := .func, size := 1, bytes := 8, zero := [.nilf] }
def T49 : TI := { k := .func, size := 1, bytes := 8, zero := [.nilf] }
def T51 : TI := { k := .func, size := 1, bytes := 8, zero := [.nilf] }
def T53 : TI := { k := .func, size := 1, bytes := 8, zero := [.nilf] }
def T54 : TI := { k := .func, size := 1, bytes := 8, zero := [.nilf] }
def T55 : TI := { k := .func, size := 1, bytes := 8, zero := [.nilf] }
def T56 : TI := { k := .func, size := 1, bytes := 8, zero := [.nilf] }
def T57 : TI := { k := .func, size := 1, bytes := 8, zero := [.nilf] }
def T58 : TI := { k := .map 3 9, size := 1, bytes := 8, zero := [.nilm] }
def T59 : TI := { k := .struct [(0, 3), (1, 58)], size := 2, bytes := 16, zero := [.int .i64 0, .nilm] }
def T60 : TI := { k := .struct [(0, 3), (1, 58)], size := 2, bytes := 16, zero := [.int .i64 0, .nilm] }
def T61 : TI := { k := .int .i64, size := 1, bytes := 8, zero := [.int .i64 0] }
def T62 : TI := { k := .func, size := 1, bytes := 8, zero := [.nilf] }
def T64 : TI := { k := .func, size := 1, bytes := 8, zero := [.nilf] }
def T65 : TI := { k := .map 3 3, size := 1, bytes := 8, zero := [.nilm] }
def T66 : TI := { k := .struct [(0, 3), (1, 65)], size := 2, bytes := 16, zero := [.int .i64 0, .nilm] }
def T67 : TI := { k := .struct [(0, 3), (1, 65)], size := 2, bytes := 16, zero := [.int .i64 0, .nilm] }
def T68 : TI := { k := .func, size := 1, bytes := 8, zero := [.nilf] }
def T69 : TI := { k := .func, size := 1, bytes := 8, zero := [.nilf] }
def T70 : TI := { k := .func, size := 1, bytes := 8, zero := [.nilf] }
def T71 : TI := { k := .func, size := 1, bytes := 8, zero := [.nilf] }
def T72 : TI := { k := .func, size := 1, bytes := 8, zero := [.nilf] }
def T73 : TI := { k := .func, size := 1, bytes := 8, zero := [.nilf] }
def T74 : TI := { k := .func, size := 1, bytes := 8, zero := [.nilf] }
def T75 : TI := { k := .func, size := 1, bytes := 8, zero := [.nilf] }
def T76 : TI := { k := .ptr 61, size := 1, bytes := 8, zero := [.nilp] }
def T77 : TI := { k := .func, size := 1, bytes := 8, zero := [.nilf] }
def T78 : TI := { k := .func, size := 1, bytes := 8, zero := [.nilf] }
def T79 : TI := { k := .int .u64, size := 1, bytes := 8, zero := [.int .u64 0] }
def T81 : TI := { k := .int .u64, size := 1, bytes := 8, zero := [.int .u64 0] }
def T82 : TI := { k := .struct [(0, 17), (1, 80), (2, 81)], size := 3, bytes := 24, zero := [.nilp, .nilp, .int .u64 0] }
def T83 : TI := { k := .struct [(0, 17), (1, 80), (2, 81)], size := 3, bytes := 24, zero := [.nilp, .nilp, .int .u64 0] }
def T84 : TI := { k := .func, size := 1, bytes := 8, zero := [.nilf] }
def T85 : TI := { k := .iface, size := 1, bytes := 16, zero := [.nili] }
def T86 : TI := { k := .iface, size := 1, bytes := 16, zero := [.nili] }
def T87 : TI := { k := .func, size := 1, bytes := 8, zero := [.nilf] }
def T88 : TI := { k := .int .u8, size := 1, bytes := 1, zero := [.int .u8 0] }
def T89 : TI := { k := .func, size := 1, bytes := 8, zero := [.nilf] }
def T90 : TI := { k := .func, size := 1, bytes := 8, zero := [.nilf] }
def T91 : TI := { k := .func, size := 1, bytes := 8, zero := [.nilf] }
def T92 : TI := { k := .func, size := 1, bytes := 8, zero := [.nilf] }
def T93 : TI := { k := .int .i64, size := 1, bytes := 8, zero := [.int .i64 0] }
def T95 : TI := { k := .func, size := 1, bytes := 8, zero := [.nilf] }
def T96 : TI := { k := .func, size := 1, bytes := 8, zero := [.nilf] }
def T97 : TI := { k := .func, size := 1, bytes := 8, zero := [.nilf] }
def T98 : TI := { k := .func, size := 1, bytes := 8, zero := [.nilf] }
def T99 : TI := { k := .func, size := 1, bytes := 8, zero := [.nilf] }
def T100 : TI := { k := .int .u32, size := 1, bytes := 4, zero := [.int .u32 0] }
def T101 : TI := { k := .func, size := 1, bytes := 8, zero := [.nilf] }
def T102 : TI := { k := .int .u64, size := 1, bytes := 8, zero := [.int .u64 0] }
def T103 : TI := { k := .struct [(0, 17)], size := 1, bytes := 8, zero := [.nilp] }
def T104 : TI := { k := .struct [(0, 17)], size := 1, bytes := 8, zero := [.nilp] }
def T105 : TI := { k := .ptr 143, size := 1, bytes := 8, zero := [.nilp] }
def T106 : TI := { k := .func, size := 1, bytes := 8, zero := [.nilf] }
def T107 : TI := { k := .func, size := 1, bytes := 8, zero := [.nilf] }
def T108 : TI := { k := .func, size := 1, bytes := 8, zero := [.nilf] }
def T109 : TI := { k := .iface, size := 1, bytes := 16, zero := [.nili] }
def T111 : TI := { k := .func, size := 1, bytes := 8, zero := [.nilf] }
def T112 : TI := { k := .iface, size := 1, bytes := 16, zero := [.nili] }
def T113 : TI := { k := .func, size := 1, bytes := 8, zero := [.nilf] }
def T114 : TI := { k := .iface, size := 1, bytes := 16, zero := [.nili] }
def T115 : TI := { k := .slice 27, size := 1, bytes := 24, zero := [.nils] }
def T116 : TI := { k := .func, size := 1, bytes := 8, zero := [.nilf] }
def T117 : TI := { k := .int .u64, size := 1, bytes := 8, zero := [.int .u64 0] }
def T118 : TI := { k := .func, size := 1, bytes := 8, zero := [.nilf] }
def T119 : TI := { k := .func, size := 1, bytes := 8, zero := [.nilf] }
def T120 : TI := { k := .func, size := 1, bytes := 8, zero := [.nilf] }
def T121 : TI := { k := .ptr 3, size := 1, bytes := 8, zero := [.nilp] }
def T122 : TI := { k := .func, size := 1, bytes := 8, zero := [.nilf] }
def T123 : TI := { k := .ptr 117, size := 1, bytes := 8, zero := [.nilp] }
def T125 : TI := { k := .func, size := 1, bytes := 8, zero := [.nilf] }
def T126 : TI := { k := .func, size := 1, bytes := 8, zero := [.nilf] }
def T127 : TI := { k := .struct [(0, 17), (1, 17), (2, 17), (3, 9)], size := 4, bytes := 40, zero := [.nilp, .nilp, .nilp, .str ⟨#[]⟩] }
def T128 : TI := { k := .struct [(0, 17), (1, 17), (2, 17), (3, 9)], size := 4, bytes := 40, zero := [.nilp, .nilp, .nilp, .str ⟨#[]⟩] }
def T129 : TI := { k := .array 0 16, size := 0, bytes := 0, zero := [] }
def T130 : TI := { k := .struct [(0, 129)], size := 0, bytes := 0, zero := [] }
def T131 : TI := { k := .struct [(0, 129)], size := 0, bytes := 0, zero := [] }
def T132 : TI := { k := .func, size := 1, bytes := 8, zero := [.nilf] }
def T133 : TI := { k := .int .u8, size := 1, bytes := 1, zero := [.int .u8 0] }
def T134 : TI := { k := .func, size := 1, bytes := 8, zero := [.nilf] }
def T135 : TI := { k := .ptr 5, size := 1, bytes := 8, zero := [.nilp] }
def T136 : TI := { k := .int .i32, size := 1, bytes := 4, zero := [.int .i32 0] }
def T137 : TI := { k := .int .i32, size := 1, bytes := 4, zero := [.int .i32 0] }
def T138 : TI := { k := .struct [(0, 12), (1, 12), (2, 100), (3, 133), (4, 5), (5, 5), (6, 88), (7, 134), (8, 135), (9, 136), (10, 137)], size := 11, bytes := 48, zero := [.int .u64 0, .int .u64 0, .int .u32 0, .int .u8 0, .int .u8 0, .int .u8 0, .int .u8 0, .nilf, .nilp, .int .i32 0, .int .i32 0] }
def T139 : TI := { k := .struct [(0, 12), (1, 12), (2, 100), (3, 133), (4, 5), (5, 5), (6, 88), (7, 134), (8, 135), (9, 136), (10, 137)], size := 11, bytes := 48, zero := [.int .u64 0, .int .u64 0, .int .u32 0, .int .u8 0, .int .u8 0, .int .u8 0, .int .u8 0, .nilf, .nilp, .int .i32 0, .int .i32 0] }
def T140 : TI := { k := .func, size := 1, bytes := 8, zero := [.nilf] }
def T141 : TI := { k := .func, size := 1, bytes := 8, zero := [.nilf] }
def T142 : TI := { k := .struct [(0, 9), (1, 88)], size := 2, bytes := 24, zero := [.str ⟨#[]⟩, .int .u8 0] }
def T143 : TI := { k := .struct [(0, 9), (1, 88)], size := 2, bytes := 24, zero := [.str ⟨#[]⟩, .int .u8 0] }
def T144 : TI := { k := .ptr 148, size := 1, bytes := 8, zero := [.nilp] }
def T145 : TI := { k := .func, size := 1, bytes := 8, zero := [.nilf] }
def T146 : TI := { k := .int .u16, size := 1, bytes := 2, zero := [.int .u16 0] }
def T147 : TI := { k := .struct [(0, 136), (1, 146), (2, 146), (3, 100), (4, 100)], size := 5, bytes := 16, zero := [.int .i32 0, .int .u16 0, .int .u16 0, .int .u32 0, .int .u32 0] }
def T148 : TI := { k := .struct [(0, 136), (1, 146), (2, 146), (3, 100), (4, 100)], size := 5, bytes := 16, zero := [.int .i32 0, .int .u16 0, .int .u16 0, .int .u32 0, .int .u32 0] }
def T149 : TI := { k := .slice 152, size := 1, bytes := 24, zero := [.nils] }
def T150 : TI := { k := .int .i32, size := 1, bytes := 4, zero := [.int .i32 0] }
def T151 : TI := { k := .struct [(0, 136), (1, 137), (2, 150), (3, 150)], size := 4, bytes := 16, zero := [.int .i32 0, .int .i32 0, .int .i32 0, .int .i32 0] }
def T152 : TI := { k := .struct [(0, 136), (1, 137), (2, 150), (3, 150)], size := 4, bytes := 16, zero := [.int .i32 0, .int .i32 0, .int .i32 0, .int .i32 0] }
def T153 : TI := { k := .ptr 27, size := 1, bytes := 8, zero := [.nilp] }
theorem tok1 : TyOk Tryd.prog 1 T1 := ⟨⟨_, Tryd.underlying1, ⟨_, _, _, rfl⟩⟩, ⟨_, _, Tryd.type1, rfl, rfl, rfl, rfl, rfl, rfl, rfl⟩⟩
theorem tok2 : TyOk Tryd.prog 2 T2 := ⟨⟨_, Tryd.underlying2, rfl⟩, ⟨_, _, Tryd.type2, rfl, rfl, rfl, rfl, rfl, rfl, rfl⟩⟩
theorem tok3 : TyOk Tryd.prog 3 T3 := ⟨⟨_, Tryd.underlying3, rfl⟩, ⟨_, _, Tryd.type3, rfl, rfl, rfl, rfl, rfl, rfl, rfl⟩⟩
theorem tok4 : TyOk Tryd.prog 4 T4 := ⟨⟨_, Tryd.underlying4, rfl⟩, ⟨_, _, Tryd.type4, rfl, rfl, rfl, rfl, rfl, rfl, rfl⟩⟩
theorem tok5 : TyOk Tryd.prog 5 T5 := ⟨⟨_, Tryd.underlying5, rfl⟩, ⟨_, _, Tryd.type5, rfl, rfl, rfl, rfl, rfl, rfl, rfl⟩⟩
theorem tok6 : TyOk Tryd.prog 6 T6 := ⟨⟨_, Tryd.underlying6, rfl⟩, ⟨_, _, Tryd.type6, rfl, rfl, rfl, rfl, rfl, rfl, rfl⟩⟩
theorem tok7 : TyOk Tryd.prog 7 T7 := ⟨⟨_, Tryd.underlying7, ⟨_, rfl, rfl⟩⟩, ⟨_, _, Tryd.type7, rfl, rfl, rfl, rfl, rfl, rfl, rfl⟩⟩
theorem tok8 : TyOk Tryd.prog 8 T8 := ⟨⟨_, Tryd.underlying8, ⟨_, rfl, rfl⟩⟩, ⟨_, _, Tryd.type8, rfl, rfl, rfl, rfl, rfl, rfl, rfl⟩⟩
theorem tok9 : TyOk Tryd.prog 9 T9 := ⟨⟨_, Tryd.underlying9, rfl⟩, ⟨_, _, Tryd.type9, rfl, rfl, rfl, rfl, rfl, rfl, rfl⟩⟩
theorem tok10 : TyOk Tryd.prog 10 T10 := ⟨⟨_, Tryd.underlying10, rfl⟩, ⟨_, _, Tryd.type10, rfl, rfl, rfl, rfl, rfl, rfl, rfl⟩⟩
theorem tok11 : TyOk Tryd.prog 11 T11 := ⟨⟨_, Tryd.underlying11, rfl⟩, ⟨_, _, Tryd.type11, rfl, rfl, rfl, rfl, rfl, rfl, rfl⟩⟩
theorem tok12 : TyOk Tryd.prog 12 T12 := ⟨⟨_, Tryd.underlying12, rfl⟩, ⟨_, _, Tryd.type12, rfl, rfl, rfl, rfl, rfl, rfl, rfl⟩⟩
theorem tok13 : TyOk Tryd.prog 13 T13 := ⟨⟨_, Tryd.underlying13, ⟨_, rfl, rfl⟩⟩, ⟨_, _, Tryd.type13, rfl, rfl, rfl, rfl, rfl, rfl, rfl⟩⟩
theorem tok14 : TyOk Tryd.prog 14 T14 := ⟨⟨_, Tryd.underlying14, ⟨_, rfl, rfl⟩⟩, ⟨_, _, Tryd.type14, rfl, rfl, rfl, rfl, rfl, rfl, rfl⟩⟩
theorem tok15 : TyOk Tryd.prog 15 T15 := ⟨⟨_, Tryd.underlying15, rfl⟩, ⟨_, _, Tryd.type15, rfl, rfl, rfl, rfl, rfl, rfl, rfl⟩⟩
theorem tok16 : TyOk Tryd.prog 16 T16 := ⟨⟨_, Tryd.underlying16, rfl⟩, ⟨_, _, Tryd.type16, rfl, rfl, rfl, rfl, rfl, rfl, rfl⟩⟩
theorem tok17 : TyOk Tryd.prog 17 T17 := ⟨⟨_, Tryd.underlying17, rfl⟩, ⟨_, _, Tryd.type17, rfl, rfl, rfl, rfl, rfl, rfl, rfl⟩⟩
theorem tok18 : TyOk Tryd.prog 18 T18 := ⟨⟨_, Tryd.underlying18, ⟨_, rfl, rfl⟩⟩, ⟨_, _, Tryd.type18, rfl, rfl, rfl, rfl, rfl, rfl, rfl⟩⟩
theorem tok19 : TyOk Tryd.prog 19 T19 := ⟨⟨_, Tryd.underlying19, ⟨_, rfl, rfl⟩⟩, ⟨_, _, Tryd.type19, rfl, rfl, rfl, rfl, rfl, rfl, rfl⟩⟩
theorem tok20 : TyOk Tryd.prog 20 T20 := ⟨⟨_, Tryd.underlying20, ⟨_, rfl⟩⟩, ⟨_, _, Tryd.type20, rfl, rfl, rfl, rfl, rfl, rfl, rfl⟩⟩
theorem tok21 : TyOk Tryd.prog 21 T21 := ⟨⟨_, Tryd.underlying21, rfl⟩, ⟨_, _, Tryd.type21, rfl, rfl, rfl, rfl, rfl, rfl, rfl⟩⟩
theorem tok22 : TyOk Tryd.prog 22 T22 := ⟨⟨_, Tryd.underlying22, rfl⟩, ⟨_, _, Tryd.type22, rfl, rfl, rfl, rfl, rfl, rfl, rfl⟩⟩
theorem tok23 : TyOk Tryd.prog 23 T23 := ⟨⟨_, Tryd.underlying23, rfl⟩, ⟨_, _, Tryd.type23, rfl, rfl, rfl, rfl, rfl, rfl, rfl⟩⟩
theorem tok24 : TyOk Tryd.prog 24 T24 := ⟨⟨_, Tryd.underlying24, ⟨_, _, _, rfl⟩⟩, ⟨_, _, Tryd.type24, rfl, rfl, rfl, rfl, rfl, rfl, rfl⟩⟩
theorem tok25 : TyOk Tryd.prog 25 T25 := ⟨⟨_, Tryd.underlying25, ⟨_, _, _, rfl⟩⟩, ⟨_, _, Tryd.type25, rfl, rfl, rfl, rfl, rfl, rfl, rfl⟩⟩
theorem tok26 : TyOk Tryd.prog 26 T26 := ⟨⟨_, Tryd.underlying26, ⟨_, rfl⟩⟩, ⟨_, _, Tryd.type26, rfl, rfl, rfl, rfl, rfl, rfl, rfl⟩⟩
theorem tok27 : TyOk Tryd.prog 27 T27 := ⟨⟨_, Tryd.underlying27, ⟨_, rfl⟩⟩, ⟨_, _, Tryd.type27, rfl, rfl, rfl, rfl, rfl, rfl, rfl⟩⟩
theorem tok28 : TyOk Tryd.prog 28 T28 := ⟨⟨_, Tryd.underlying28, ⟨_, _, _, rfl⟩⟩, ⟨_, _, Tryd.type28, rfl, rfl, rfl, rfl, rfl, rfl, rfl⟩⟩
theorem tok30 : TyOk Tryd.prog 30 T30 := ⟨⟨_, Tryd.underlying30, ⟨_, _, _, rfl⟩⟩, ⟨_, _, Tryd.type30, rfl, rfl, rfl, rfl, rfl, rfl, rfl⟩⟩
theorem tok31 : TyOk Tryd.prog 31 T31 := ⟨⟨_, Tryd.underlying31, ⟨_, _, _, rfl⟩⟩, ⟨_, _, Tryd.type31, rfl, rfl, rfl, rfl, rfl, rfl, rfl⟩⟩
theorem tok32 : TyOk Tryd.prog 32 T32 := ⟨⟨_, Tryd.underlying32, ⟨_, _, _, rfl⟩⟩, ⟨_, _, Tryd.type32, rfl, rfl, rfl, rfl, rfl, rfl, rfl⟩⟩
theorem tok33 : TyOk Tryd.prog 33 T33 := ⟨⟨_, Tryd.underlying33, ⟨_, _, _, rfl⟩⟩, ⟨_, _, Tryd.type33, rfl, rfl, rfl, rfl, rfl, rfl, rfl⟩⟩
theorem tok34 : TyOk Tryd.prog 34 T34 := ⟨⟨_, Tryd.underlying34, rfl⟩, ⟨_, _, Tryd.type34, rfl, rfl, rfl, rfl, rfl, rfl, rfl⟩⟩
theorem tok35 : TyOk Tryd.prog 35 T35 := ⟨⟨_, Tryd.underlying35, rfl⟩, ⟨_, _, Tryd.type35, rfl, rfl, rfl, rfl, rfl, rfl, rfl⟩⟩
theorem tok36 : TyOk Tryd.prog 36 T36 := ⟨⟨_, Tryd.underlying36, ⟨_, _, _, rfl⟩⟩, ⟨_, _, Tryd.type36, rfl, rfl, rfl, rfl, rfl, rfl, rfl⟩⟩
theorem tok37 : TyOk Tryd.prog 37 T37 := ⟨⟨_, Tryd.underlying37, rfl⟩, ⟨_, _, Tryd.type37, rfl, rfl, rfl, rfl, rfl, rfl, rfl⟩⟩
theorem tok39 : TyOk Tryd.prog 39 T39 := ⟨⟨_, Tryd.underlying39, ⟨_, _, _, rfl⟩⟩, ⟨_, _, Tryd.type39, rfl, rfl, rfl, rfl, rfl, rfl, rfl⟩⟩
theorem tok40 : TyOk Tryd.prog 40 T40 := ⟨⟨_, Tryd.underlying40, ⟨_, rfl, rfl⟩⟩, ⟨_, _, Tryd.type40, rfl, rfl, rfl, rfl, rfl, rfl, rfl⟩⟩
theorem tok41 : TyOk Tryd.prog 41 T41 := ⟨⟨_, Tryd.underlying41, ⟨_, rfl, rfl⟩⟩, ⟨_, _, Tryd.type41, rfl, rfl, rfl, rfl, rfl, rfl, rfl⟩⟩
theorem tok42 : TyOk Tryd.prog 42 T42 := ⟨⟨_, Tryd.underlying42, ⟨_, rfl, rfl⟩⟩, ⟨_, _, Tryd.type42, rfl, rfl, rfl, rfl, rfl, rfl, rfl⟩⟩
theorem tok43 : TyOk Tryd.prog 43 T43 := ⟨⟨_, Tryd.underlying43, ⟨_, rfl, rfl⟩⟩, ⟨_, _, Tryd.type43, rfl, rfl, rfl, rfl, rfl, rfl, rfl⟩⟩
theorem tok44 : TyOk Tryd.prog 44 T44 := ⟨⟨_, Tryd.underlying44, ⟨_, _, _, rfl⟩⟩, ⟨_, _, Tryd.type44, rfl, rfl, rfl, rfl, rfl, rfl, rfl⟩⟩
theorem tok45 : TyOk Tryd.prog 45 T45 := ⟨⟨_, Tryd.underlying45, rfl⟩, ⟨_, _, Tryd.type45, rfl, rfl, rfl, rfl, rfl, rfl, rfl⟩⟩
theorem tok46 : TyOk Tryd.prog 46 T46 := ⟨⟨_, Tryd.underlying46, ⟨_, _, _, rfl⟩⟩, ⟨_, _, Tryd.type46, rfl, rfl, rfl, rfl, rfl, rfl, rfl⟩⟩
theorem tok47 : TyOk Tryd.prog 47 T47 := ⟨⟨_, Tryd.underlying47, ⟨_, _, _, rfl⟩⟩, ⟨_, _, Tryd.type47, rfl, rfl, rfl, rfl, rfl, rfl, rfl⟩⟩
theorem tok48 : TyOk Tryd.prog 48 T48 := ⟨⟨_, Tryd.underlying48, ⟨_, _, _, rfl⟩⟩, ⟨_, _, Tryd.type48, rfl, rfl, rfl, rfl, rfl, rfl, rfl⟩⟩
theorem tok49 : TyOk Tryd.prog 49 T49 := ⟨⟨_, Tryd.underlying49, ⟨_, _, _, rfl⟩⟩, ⟨_, _, Tryd.type49, rfl, rfl, rfl, rfl, rfl, rfl, rfl⟩⟩
theorem tok51 : TyOk Tryd.prog 51 T51 := ⟨⟨_, Tryd.underlying51, ⟨_, _, _, rfl⟩⟩, ⟨_, _, Tryd.type51, rfl, rfl, rfl, rfl, rfl, rfl, rfl⟩⟩
theorem tok53 : TyOk Tryd.prog 53 T53 := ⟨⟨_, Tryd.underlying53, ⟨_, _, _, rfl⟩⟩, ⟨_, _, Tryd.type53, rfl, rfl, rfl, rfl, rfl, rfl, rfl⟩⟩
theorem tok54 : TyOk Tryd.prog 54 T54 := ⟨⟨_, Tryd.underlying54, ⟨_, _, _, rfl⟩⟩, ⟨_, _, Tryd.type54, rfl, rfl, rfl, rfl, rfl, rfl, rfl⟩⟩
theorem tok55 : TyOk Tryd.prog 55 T55 := ⟨⟨_, Tryd.underlying55, ⟨_, _, _, rfl⟩⟩, ⟨_, _, Tryd.type55, rfl, rfl, rfl, rfl, rfl, rfl, rfl⟩⟩
theorem tok56 : TyOk Tryd.prog 56 T56 := ⟨⟨_, Tryd.underlying56, ⟨_, _, _, rfl⟩⟩, ⟨_, _, Tryd.type56, rfl, rfl, rfl, rfl, rfl, rfl, rfl⟩⟩
theorem tok57 : TyOk Tryd.prog 57 T57 := ⟨⟨_, Tryd.underlying57, ⟨_, _, _, rfl⟩⟩, ⟨_, _, Tryd.type57, rfl, rfl, rfl, rfl, rfl, rfl, rfl⟩⟩
theorem tok58 : TyOk Tryd.prog 58 T58 := ⟨⟨_, Tryd.underlying58, rfl⟩, ⟨_, _, Tryd.type58, rfl, rfl, rfl, rfl, rfl, rfl, rfl⟩⟩
theorem tok59 : TyOk Tryd.prog 59 T59 := ⟨⟨_, Tryd.underlying59, ⟨_, rfl, rfl⟩⟩, ⟨_, _, Tryd.type59, rfl, rfl, rfl, rfl, rfl, rfl, rfl⟩⟩
theorem tok60 : TyOk Tryd.prog 60 T60 := ⟨⟨_, Tryd.underlying60, ⟨_, rfl, rfl⟩⟩, ⟨_, _, Tryd.type60, rfl, rfl, rfl, rfl, rfl, rfl, rfl⟩⟩
theorem tok61 : TyOk Tryd.prog 61 T61 := ⟨⟨_, Tryd.underlying61, rfl⟩, ⟨_, _, Tryd.type61, rfl, rfl, rfl, rfl, rfl, rfl, rfl⟩⟩
theorem tok62 : TyOk Tryd.prog 62 T62 := ⟨⟨_, Tryd.underlying62, ⟨_, _, _, rfl⟩⟩, ⟨_, _, Tryd.type62, rfl, rfl, rfl, rfl, rfl, rfl, rfl⟩⟩
theorem tok64 : TyOk Tryd.prog 64 T64 := ⟨⟨_, Tryd.underlying64, ⟨_, _, _, rfl⟩⟩, ⟨_, _, Tryd.type64, rfl, rfl, rfl, rfl, rfl, rfl, rfl⟩⟩
theorem tok65 : TyOk Tryd.prog 65 T65 := ⟨⟨_, Tryd.underlying65, rfl⟩, ⟨_, _, Tryd.type65, rfl, rfl, rfl, rfl, rfl, rfl, rfl⟩⟩
theorem tok66 : TyOk Tryd.prog 66 T66 := ⟨⟨_, Tryd.underlying66, ⟨_, rfl, rfl⟩⟩, ⟨_, _, Tryd.type66, rfl, rfl, rfl, rfl, rfl, rfl, rfl⟩⟩
theorem tok67 : TyOk Tryd.prog 67 T67 := ⟨⟨_, Tryd.underlying67, ⟨_, rfl, rfl⟩⟩, ⟨_, _, Tryd.type67, rfl, rfl, rfl, rfl, rfl, rfl, rfl⟩⟩
theorem tok68 : TyOk Tryd.prog 68 T68 := ⟨⟨_, Tryd.underlying68, ⟨_, _, _, rfl⟩⟩, ⟨_, _, Tryd.type68, rfl, rfl, rfl, rfl, rfl, rfl, rfl⟩⟩
theorem tok69 : TyOk Tryd.prog 69 T69 := ⟨⟨_, Tryd.underlying69, ⟨_, _, _, rfl⟩⟩, ⟨_, _, Tryd.type69, rfl, rfl, rfl, rfl, rfl, rfl, rfl⟩⟩
theorem tok70 : TyOk Tryd.prog 70 T70 := ⟨⟨_, Tryd.underlying70, ⟨_, _, _, rfl⟩⟩, ⟨_, _, Tryd.type70, rfl, rfl, rfl, rfl, rfl, rfl, rfl⟩⟩
theorem tok71 : TyOk Tryd.prog 71 T71 := ⟨⟨_, Tryd.underlying71, ⟨_, _, _, rfl⟩⟩, ⟨_, _, Tryd.type71, rfl, rfl, rfl, rfl, rfl, rfl, rfl⟩⟩
theorem tok72 : TyOk Tryd.prog 72 T72 := ⟨⟨_, Tryd.underlying72, ⟨_, _, _, rfl⟩⟩, ⟨_, _, Tryd.type72, rfl, rfl, rfl, rfl, rfl, rfl, rfl⟩⟩
theorem tok73 : TyOk Tryd.prog 73 T73 := ⟨⟨_, Tryd.underlying73, ⟨_, _, _, rfl⟩⟩, ⟨_, _, Tryd.type73, rfl, rfl, rfl, rfl, rfl, rfl, rfl⟩⟩
theorem tok74 : TyOk Tryd.prog 74 T74 := ⟨⟨_, Tryd.underlying74, ⟨_, _, _, rfl⟩⟩, ⟨_, _, Tryd.type74, rfl, rfl, rfl, rfl, rfl, rfl, rfl⟩⟩
theorem tok75 : TyOk Tryd.prog 75 T75 := ⟨⟨_, Tryd.underlying75, ⟨_, _, _, rfl⟩⟩, ⟨_, _, Tryd.type75, rfl, rfl, rfl, rfl, rfl, rfl, rfl⟩⟩
theorem tok76 : TyOk Tryd.prog 76 T76 := ⟨⟨_, Tryd.underlying76, rfl⟩, ⟨_, _, Tryd.type76, rfl, rfl, rfl, rfl, rfl, rfl, rfl⟩⟩
theorem tok77 : TyOk Tryd.prog 77 T77 := ⟨⟨_, Tryd.underlying77, ⟨_, _, _, rfl⟩⟩, ⟨_, _, Tryd.type77, rfl, rfl, rfl, rfl, rfl, rfl, rfl⟩⟩
theorem tok78 : TyOk Tryd.prog 78 T78 := ⟨⟨_, Tryd.underlying78, ⟨_, _, _, rfl⟩⟩, ⟨_, _, Tryd.type78, rfl, rfl, rfl, rfl, rfl, rfl, rfl⟩⟩
theorem tok79 : TyOk Tryd.prog 79 T79 := ⟨⟨_, Tryd.underlying79, rfl⟩, ⟨_, _, Tryd.type79, rfl, rfl, rfl, rfl, rfl, rfl, rfl⟩⟩
theorem tok81 : TyOk Tryd.prog 81 T81 := ⟨⟨_, Tryd.underlying81, rfl⟩, ⟨_, _, Tryd.type81, rfl, rfl, rfl, rfl, rfl, rfl, rfl⟩⟩
theorem tok82 : TyOk Tryd.prog 82 T82 := ⟨⟨_, Tryd.underlying82, ⟨_, rfl, rfl⟩⟩, ⟨_, _, Tryd.type82, rfl, rfl, rfl, rfl, rfl, rfl, rfl⟩⟩
theorem tok83 : TyOk Tryd.prog 83 T83 := ⟨⟨_, Tryd.underlying83, ⟨_, rfl, rfl⟩⟩, ⟨_, _, Tryd.type83, rfl, rfl, rfl, rfl, rfl, rfl, rfl⟩⟩
theorem tok84 : TyOk Tryd.prog 84 T84 := ⟨⟨_, Tryd.underlying84, ⟨_, _, _, rfl⟩⟩, ⟨_, _, Tryd.type84, rfl, rfl, rfl, rfl, rfl, rfl, rfl⟩⟩
theorem tok85 : TyOk Tryd.prog 85 T85 := ⟨⟨_, Tryd.underlying85, ⟨_, rfl⟩⟩, ⟨_, _, Tryd.type85, rfl, rfl, rfl, rfl, rfl, rfl, rfl⟩⟩
theorem tok86 : TyOk Tryd.prog 86 T86 := ⟨⟨_, Tryd.underlying86, ⟨_, rfl⟩⟩, ⟨_, _, Tryd.type86, rfl, rfl, rfl, rfl, rfl, rfl, rfl⟩⟩
theorem tok87 : TyOk Tryd.prog 87 T87 := ⟨⟨_, Tryd.underlying87, ⟨_, _, _, rfl⟩⟩, ⟨_, _, Tryd.type87, rfl, rfl, rfl, rfl, rfl, rfl, rfl⟩⟩
theorem tok88 : TyOk Tryd.prog 88 T88 := ⟨⟨_, Tryd.underlying88, rfl⟩, ⟨_, _, Tryd.type88, rfl, rfl, rfl, rfl, rfl, rfl, rfl⟩⟩
theorem tok89 : TyOk Tryd.prog 89 T89 := ⟨⟨_, Tryd.underlying89, ⟨_, _, _, rfl⟩⟩, ⟨_, _, Tryd.type89, rfl, rfl, rfl, rfl, rfl, rfl, rfl⟩⟩
theorem tok90 : TyOk Tryd.prog 90 T90 := ⟨⟨_, Tryd.underlying90, ⟨_, _, _, rfl⟩⟩, ⟨_, _, Tryd.type90, rfl, rfl, rfl, rfl, rfl, rfl, rfl⟩⟩
theorem tok91 : TyOk Tryd.prog 91 T91 := ⟨⟨_, Tryd.underlying91, ⟨_, _, _, rfl⟩⟩, ⟨_, _, Tryd.type91, rfl, rfl, rfl, rfl, rfl, rfl, rfl⟩⟩
theorem tok92 : TyOk Tryd.prog 92 T92 := ⟨⟨_, Tryd.underlying92, ⟨_, _, _, rfl⟩⟩, ⟨_, _, Tryd.type92, rfl, rfl, rfl, rfl, rfl, rfl, rfl⟩⟩
theorem tok93 : TyOk Tryd.prog 93 T93 := ⟨⟨_, Tryd.underlying93, rfl⟩, ⟨_, _, Tryd.type93, rfl, rfl, rfl, rfl, rfl, rfl, rfl⟩⟩
theorem tok95 : TyOk Tryd.prog 95 T95 := ⟨⟨_, Tryd.underlying95, ⟨_, _, _, rfl⟩⟩, ⟨_, _, Tryd.type95, rfl, rfl, rfl, rfl, rfl, rfl, rfl⟩⟩
theorem tok96 : TyOk Tryd.prog 96 T96 := ⟨⟨_, Tryd.underlying96, ⟨_, _, _, rfl⟩⟩, ⟨_, _, Tryd.type96, rfl, rfl, rfl, rfl, rfl, rfl, rfl⟩⟩
theorem tok97 : TyOk Tryd.prog 97 T97 := ⟨⟨_, Tryd.underlying97, ⟨_, _, _, rfl⟩⟩, ⟨_, _, Tryd.type97, rfl, rfl, rfl, rfl, rfl, rfl, rfl⟩⟩
theorem tok98 : TyOk Tryd.prog 98 T98 := ⟨⟨_, Tryd.underlying98, ⟨_, _, _, rfl⟩⟩, ⟨_, _, Tryd.type98, rfl, rfl, rfl, rfl, rfl, rfl, rfl⟩⟩
theorem tok99 : TyOk Tryd.prog 99 T99 := ⟨⟨_, Tryd.underlying99, ⟨_, _, _, rfl⟩⟩, ⟨_, _, Tryd.type99, rfl, rfl, rfl, rfl, rfl, rfl, rfl⟩⟩
theorem tok100 : TyOk Tryd.prog 100 T100 := ⟨⟨_, Tryd.underlying100, rfl⟩, ⟨_, _, Tryd.type100, rfl, rfl, rfl, rfl, rfl, rfl, rfl⟩⟩
theorem tok101 : TyOk Tryd.prog 101 T101 := ⟨⟨_, Tryd.underlying101, ⟨_, _, _, rfl⟩⟩, ⟨_, _, Tryd.type101, rfl, rfl, rfl, rfl, rfl, rfl, rfl⟩⟩
theorem tok102 : TyOk Tryd.prog 102 T102 := ⟨⟨_, Tryd.underlying102, rfl⟩, ⟨_, _, Tryd.type102, rfl, rfl, rfl, rfl, rfl, rfl, rfl⟩⟩
theorem tok103 : TyOk Tryd.prog 103 T103 := ⟨⟨_, Tryd.underlying103, ⟨_, rfl, rfl⟩⟩, ⟨_, _, Tryd.type103, rfl, rfl, rfl, rfl, rfl, rfl, rfl⟩⟩
theorem tok104 : TyOk Tryd.prog 104 T104 := ⟨⟨_, Tryd.underlying104, ⟨_, rfl, rfl⟩⟩, ⟨_, _, Tryd.type104, rfl, rfl, rfl, rfl, rfl, rfl, rfl⟩⟩
theorem tok105 : TyOk Tryd.prog 105 T105 := ⟨⟨_, Tryd.underlying105, rfl⟩, ⟨_, _, Tryd.type105, rfl, rfl, rfl, rfl, rfl, rfl, rfl⟩⟩
theorem tok106 : TyOk Tryd.prog 106 T106 := ⟨⟨_, Tryd.underlying106, ⟨_, _, _, rfl⟩⟩, ⟨_, _, Tryd.type106, rfl, rfl, rfl, rfl, rfl, rfl, rfl⟩⟩
theorem tok107 : TyOk Tryd.prog 107 T107 := ⟨⟨_, Tryd.underlying107, ⟨_, _, _, rfl⟩⟩, ⟨_, _, Tryd.type107, rfl, rfl, rfl, rfl, rfl, rfl, rfl⟩⟩
theorem tok108 : TyOk Tryd.prog 108 T108 := ⟨⟨_, Tryd.underlying108, ⟨_, _, _, rfl⟩⟩, ⟨_, _, Tryd.type108, rfl, rfl, rfl, rfl, rfl, rfl, rfl⟩⟩
theorem tok109 : TyOk Tryd.prog 109 T109 := ⟨⟨_, Tryd.underlying109, ⟨_, rfl⟩⟩, ⟨_, _, Tryd.type109, rfl, rfl, rfl, rfl, rfl, rfl, rfl⟩⟩
theorem tok111 : TyOk Tryd.prog 111 T111 := ⟨⟨_, Tryd.underlying111, ⟨_, _, _, rfl⟩⟩, ⟨_, _, Tryd.type111, rfl, rfl, rfl, rfl, rfl, rfl, rfl⟩⟩
theorem tok112 : TyOk Tryd.prog 112 T112 := ⟨⟨_, Tryd.underlying112, ⟨_, rfl⟩⟩, ⟨_, _, Tryd.type112, rfl, rfl, rfl, rfl, rfl, rfl, rfl⟩⟩
theorem tok113 : TyOk Tryd.prog 113 T113 := ⟨⟨_, Tryd.underlying113, ⟨_, _, _, rfl⟩⟩, ⟨_, _, Tryd.type113, rfl, rfl, rfl, rfl, rfl, rfl, rfl⟩⟩
theorem tok114 : TyOk Tryd.prog 114 T114 := ⟨⟨_, Tryd.underlying114, ⟨_, rfl⟩⟩, ⟨_, _, Tryd.type114, rfl, rfl, rfl, rfl, rfl, rfl, rfl⟩⟩
theorem tok115 : TyOk Tryd.prog 115 T115 := ⟨⟨_, Tryd.underlying115, rfl⟩, ⟨_, _, Tryd.type115, rfl, rfl, rfl, rfl, rfl, rfl, rfl⟩⟩
theorem tok116 : TyOk Tryd.prog 116 T116 := ⟨⟨_, Tryd.underlying116, ⟨_, _, _, rfl⟩⟩, ⟨_, _, Tryd.type116, rfl, rfl, rfl, rfl, rfl, rfl, rfl⟩⟩
theorem tok117 : TyOk Tryd.prog 117 T117 := ⟨⟨_, Tryd.underlying117, rfl⟩, ⟨_, _, Tryd.type117, rfl, rfl, rfl, rfl, rfl, rfl, rfl⟩⟩
theorem tok118 : TyOk Tryd.prog 118 T118 := ⟨⟨_, Tryd.underlying118, ⟨_, _, _, rfl⟩⟩, ⟨_, _, Tryd.type118, rfl, rfl, rfl, rfl, rfl, rfl, rfl⟩⟩
theorem tok119 : TyOk Tryd.prog 119 T119 := ⟨⟨_, Tryd.underlying119, ⟨_, _, _, rfl⟩⟩, ⟨_, _, Tryd.type119, rfl, rfl, rfl, rfl, rfl, rfl, rfl⟩⟩
theorem tok120 : TyOk Tryd.prog 120 T120 := ⟨⟨_, Tryd.underlying120, ⟨_, _, _, rfl⟩⟩, ⟨_, _, Tryd.type120, rfl, rfl, rfl, rfl, rfl, rfl, rfl⟩⟩
theorem tok121 : TyOk Tryd.prog 121 T121 := ⟨⟨_, Tryd.underlying121, rfl⟩, ⟨_, _, Tryd.type121, rfl, rfl, rfl, rfl, rfl, rfl, rfl⟩⟩
theorem tok122 : TyOk Tryd.prog 122 T122 := ⟨⟨_, Tryd.underlying122, ⟨_, _, _, rfl⟩⟩, ⟨_, _, Tryd.type122, rfl, rfl, rfl, rfl, rfl, rfl, rfl⟩⟩
theorem tok123 : TyOk Tryd.prog 123 T123 := ⟨⟨_, Tryd.underlying123, rfl⟩, ⟨_, _, Tryd.type123, rfl, rfl, rfl, rfl, rfl, rfl, rfl⟩⟩
theorem tok125 : TyOk Tryd.prog 125 T125 := ⟨⟨_, Tryd.underlying125, ⟨_, _, _, rfl⟩⟩, ⟨_, _, Tryd.type125, rfl, rfl, rfl, rfl, rfl, rfl, rfl⟩⟩
theorem tok126 : TyOk Tryd.prog 126 T126 := ⟨⟨_, Tryd.underlying126, ⟨_, _, _, rfl⟩⟩, ⟨_, _, Tryd.type126, rfl, rfl, rfl, rfl, rfl, rfl, rfl⟩⟩
theorem tok127 : TyOk Tryd.prog 127 T127 := ⟨⟨_, Tryd.underlying127, ⟨_, rfl, rfl⟩⟩, ⟨_, _, Tryd.type127, rfl, rfl, rfl, rfl, rfl, rfl, rfl⟩⟩
theorem tok128 : TyOk Tryd.prog 128 T128 := ⟨⟨_, Tryd.underlying128, ⟨_, rfl, rfl⟩⟩, ⟨_, _, Tryd.type128, rfl, rfl, rfl, rfl, rfl, rfl, rfl⟩⟩
theorem tok129 : TyOk Tryd.prog 129 T129 := ⟨⟨_, Tryd.underlying129, rfl⟩, ⟨_, _, Tryd.type129, rfl, rfl, rfl, rfl, rfl, rfl, rfl⟩⟩
theorem tok130 : TyOk Tryd.prog 130 T130 := ⟨⟨_, Tryd.underlying130, ⟨_, rfl, rfl⟩⟩, ⟨_, _, Tryd.type130, rfl, rfl, rfl, rfl, rfl, rfl, rfl⟩⟩
theorem tok131 : TyOk Tryd.prog 131 T131 := ⟨⟨_, Tryd.underlying131, ⟨_, rfl, rfl⟩⟩, ⟨_, _, Tryd.type131, rfl, rfl, rfl, rfl, rfl, rfl, rfl⟩⟩
theorem tok132 : TyOk Tryd.prog 132 T132 := ⟨⟨_, Tryd.underlying132, ⟨_, _, _, rfl⟩⟩, ⟨_, _, Tryd.type132, rfl, rfl, rfl, rfl, rfl, rfl, rfl⟩⟩
theorem tok133 : TyOk Tryd.prog 133 T133 := ⟨⟨_, Tryd.underlying133, rfl⟩, ⟨_, _, Tryd.type133, rfl, rfl, rfl, rfl, rfl, rfl, rfl⟩⟩
theorem tok134 : TyOk Tryd.prog 134 T134 := ⟨⟨_, Tryd.underlying134, ⟨_, _, _, rfl⟩⟩, ⟨_, _, Tryd.type134, rfl, rfl, rfl, rfl, rfl, rfl, rfl⟩⟩
theorem tok135 : TyOk Tryd.prog 135 T135 := ⟨⟨_, Tryd.underlying135, rfl⟩, ⟨_, _, Tryd.type135, rfl, rfl, rfl, rfl, rfl, rfl, rfl⟩⟩
theorem tok136 : TyOk Tryd.prog 136 T136 := ⟨⟨_, Tryd.underlying136, rfl⟩, ⟨_, _, Tryd.type136, rfl, rfl, rfl, rfl, rfl, rfl, rfl⟩⟩
theorem tok137 : TyOk Tryd.prog 137 T137 := ⟨⟨_, Tryd.underlying137, rfl⟩, ⟨_, _, Tryd.type137, rfl, rfl, rfl, rfl, rfl, rfl, rfl⟩⟩
theorem tok138 : TyOk Tryd.prog 138 T138 := ⟨⟨_, Tryd.underlying138, ⟨_, rfl, rfl⟩⟩, ⟨_, _, Tryd.type138, rfl, rfl, rfl, rfl, rfl, rfl, rfl⟩⟩
theorem tok139 : TyOk Tryd.prog 139 T139 := ⟨⟨_, Tryd.underlying139, ⟨_, rfl, rfl⟩⟩, ⟨_, _, Tryd.type139, rfl, rfl, rfl, rfl, rfl, rfl, rfl⟩⟩
theorem tok140 : TyOk Tryd.prog 140 T140 := ⟨⟨_, Tryd.underlying140, ⟨_, _, _, rfl⟩⟩, ⟨_, _, Tryd.type140, rfl, rfl, rfl, rfl, rfl, rfl, rfl⟩⟩
theorem tok141 : TyOk Tryd.prog 141 T141 := ⟨⟨_, Tryd.underlying141, ⟨_, _, _, rfl⟩⟩, ⟨_, _, Tryd.type141, rfl, rfl, rfl, rfl, rfl, rfl, rfl⟩⟩
theorem tok142 : TyOk Tryd.prog 142 T142 := ⟨⟨_, Tryd.underlying142, ⟨_, rfl, rfl⟩⟩, ⟨_, _, Tryd.type142, rfl, rfl, rfl, rfl, rfl, rfl, rfl⟩⟩
theorem tok143 : TyOk Tryd.prog 143 T143 := ⟨⟨_, Tryd.underlying143, ⟨_, rfl, rfl⟩⟩, ⟨_, _, Tryd.type143, rfl, rfl, rfl, rfl, rfl, rfl, rfl⟩⟩
theorem tok144 : TyOk Tryd.prog 144 T144 := ⟨⟨_, Tryd.underlying144, rfl⟩, ⟨_, _, Tryd.type144, rfl, rfl, rfl, rfl, rfl, rfl, rfl⟩⟩
theorem tok145 : TyOk Tryd.prog 145 T145 := ⟨⟨_, Tryd.underlying145, ⟨_, _, _, rfl⟩⟩, ⟨_, _, Tryd.type145, rfl, rfl, rfl, rfl, rfl, rfl, rfl⟩⟩
theorem tok146 : TyOk Tryd.prog 146 T146 := ⟨⟨_, Tryd.underlying146, rfl⟩, ⟨_, _, Tryd.type146, rfl, rfl, rfl, rfl, rfl, rfl, rfl⟩⟩
theorem tok147 : TyOk Tryd.prog 147 T147 := ⟨⟨_, Tryd.underlying147, ⟨_, rfl, rfl⟩⟩, ⟨_, _, Tryd.type147, rfl, rfl, rfl, rfl, rfl, rfl, rfl⟩⟩
theorem tok148 : TyOk Tryd.prog 148 T148 := ⟨⟨_, Tryd.underlying148, ⟨_, rfl, rfl⟩⟩, ⟨_, _, Tryd.type148, rfl, rfl, rfl, rfl, rfl, rfl, rfl⟩⟩
theorem tok149 : TyOk Tryd.prog 149 T149 := ⟨⟨_, Tryd.underlying149, rfl⟩, ⟨_, _, Tryd.type149, rfl, rfl, rfl, rfl, rfl, rfl, rfl⟩⟩
theorem tok150 : TyOk Tryd.prog 150 T150 := ⟨⟨_, Tryd.underlying150, rfl⟩, ⟨_, _, Tryd.type150, rfl, rfl, rfl, rfl, rfl, rfl, rfl⟩⟩
theorem tok151 : TyOk Tryd.prog 151 T151 := ⟨⟨_, Tryd.underlying151, ⟨_, rfl, rfl⟩⟩, ⟨_, _, Tryd.type151, rfl, rfl, rfl, rfl, rfl, rfl, rfl⟩⟩
theorem tok152 : TyOk Tryd.prog 152 T152 := ⟨⟨_, Tryd.underlying152, ⟨_, rfl, rfl⟩⟩, ⟨_, _, Tryd.type152, rfl, rfl, rfl, rfl, rfl, rfl, rfl⟩⟩
theorem tok153 : TyOk Tryd.prog 153 T153 := ⟨⟨_, Tryd.underlying153, rfl⟩, ⟨_, _, Tryd.type153, rfl, rfl, rfl, rfl, rfl, rfl, rfl⟩⟩
def tyL : List (Nat × TI) := [(1, T1), (2, T2), (3, T3), (4, T4), (5, T5), (6, T6), (7, T7), (8, T8), (9, T9), (10, T10), (11, T11), (12, T12), (13, T13), (14, T14), (15, T15), (16, T16), (17, T17), (18, T18), (19, T19), (20, T20), (21, T21), (22, T22), (23, T23), (24, T24), (25, T25), (26, T26), (27, T27), (28, T28), (30, T30), (31, T31), (32, T32), (33, T33), (34, T34), (35, T35), (36, T36), (37, T37), (39, T39), (40, T40), (41, T41), (42, T42), (43, T43), (44, T44), (45, T45), (46, T46), (47, T47), (48, T48), (49, T49), (51, T51), (53, T53), (54, T54), (55, T55), (56, T56), (57, T57), (58, T58), (59, T59), (60, T60), (61, T61), (62, T62), (64, T64), (65, T65), (66, T66), (67, T67), (68, T68), (69, T69), (70, T70), (71, T71), (72, T72), (73, T73), (74, T74), (75, T75), (76, T76), (77, T77), (78, T78), (79, T79), (81, T81), (82, T82), (83, T83), (84, T84), (85, T85), (86, T86), (87, T87), (88, T88), (89, T89), (90, T90), (91, T91), (92, T92), (93, T93), (95, T95), (96, T96), (97, T97), (98, T98), (99, T99), (100, T100), (101, T101), (102, T102), (103, T103), (104, T104), (105, T105), (106, T106), (107, T107), (108, T108), (109, T109), (111, T111), (112, T112), (113, T113), (114, T114), (115, T115), (116, T116), (117, T117), (118, T118), (119, T119), (120, T120), (121, T121), (122, T122), (123, T123), (125, T125), (126, T126), (127, T127), (128, T128), (129, T129), (130, T130), (131, T131), (132, T132), (133, T133), (134, T134), (135, T135), (136, T136), (137, T137), (138, T138), (139, T139), (140, T140), (141, T141), (142, T142), (143, T143), (144, T144), (145, T145), (146, T146), (147, T147), (148, T148), (149, T149), (150, T150), (151, T151), (152, T152), (153, T153)]
theorem tyL_ok : ∀ x ∈ tyL, TyOk Tryd.prog x.1 x.2 := List.forall_mem_cons.2 ⟨tok1, List.forall_mem_cons.2 ⟨tok2, List.forall_mem_cons.2 ⟨tok3, List.forall_mem_cons.2 ⟨tok4, List.forall_mem_cons.2 ⟨tok5, List.forall_mem_cons.2 ⟨tok6, List.forall_mem_cons.2 ⟨tok7, List.forall_mem_cons.2 ⟨tok8, List.forall_mem_cons.2 ⟨tok9, List.forall_mem_cons.2 ⟨tok10, List.forall_mem_cons.2 ⟨tok11, List.forall_mem_cons.2 ⟨tok12, List.forall_mem_cons.2 ⟨tok13, List.forall_mem_cons.2 ⟨tok14, List.forall_mem_cons.2 ⟨tok15, List.forall_mem_cons.2 ⟨tok16, List.forall_mem_cons.2 ⟨tok17, List.forall_mem_cons.2 ⟨tok18, List.forall_mem_cons.2 ⟨tok19, List.forall_mem_cons.2 ⟨tok20, List.forall_mem_cons.2 ⟨tok21, List.forall_mem_cons.2 ⟨tok22, List.forall_mem_cons.2 ⟨tok23, List.forall_mem_cons.2 ⟨tok24, List.forall_mem_cons.2 ⟨tok25, List.forall_mem_cons.2 ⟨tok26, List.forall_mem_cons.2 ⟨tok27, List.forall_mem_cons.2 ⟨tok28, List.forall_mem_cons.2 ⟨tok30, List.forall_mem_cons.2 ⟨tok31, List.forall_mem_cons.2 ⟨tok32, List.forall_mem_cons.2 ⟨tok33, List.forall_mem_cons.2 ⟨tok34, List.forall_mem_cons.2 ⟨tok35, List.forall_mem_cons.2 ⟨tok36, List.forall_mem_cons.2 ⟨tok37, List.forall_mem_cons.2 ⟨tok39, List.forall_mem_cons.2 ⟨tok40, List.forall_mem_cons.2 ⟨tok41, List.forall_mem_cons.2 ⟨tok42, List.forall_mem_cons.2 ⟨tok43, List.forall_mem_cons.2 ⟨tok44, List.forall_mem_cons.2 ⟨tok45, List.forall_mem_cons.2 ⟨tok46, List.forall_mem_cons.2 ⟨tok47, List.forall_mem_cons.2 ⟨tok48, List.forall_mem_cons.2 ⟨tok49, List.forall_mem_cons.2 ⟨tok51, List.forall_mem_cons.2 ⟨tok53, List.forall_mem_cons.2 ⟨tok54, List.forall_mem_cons.2 ⟨tok55, List.forall_mem_cons.2 ⟨tok56, List.forall_mem_cons.2 ⟨tok57, List.forall_mem_cons.2 ⟨tok58, List.forall_mem_cons.2 ⟨tok59, List.forall_mem_cons.2 ⟨tok60, List.forall_mem_cons.2 ⟨tok61, List.forall_mem_cons.2 ⟨tok62, List.forall_mem_cons.2 ⟨tok64, List.forall_mem_cons.2 ⟨tok65, List.forall_mem_cons.2 ⟨tok66, List.forall_mem_cons.2 ⟨tok67, List.forall_mem_cons.2 ⟨tok68, List.forall_mem_cons.2 ⟨tok69, List.forall_mem_cons.2 ⟨tok70, List.forall_mem_cons.2 ⟨tok71, List.forall_mem_cons.2 ⟨tok72, List.forall_mem_cons.2 ⟨tok73, List.forall_mem_cons.2 ⟨tok74, List.forall_mem_cons.2 ⟨tok75, List.forall_mem_cons.2 ⟨tok76, List.forall_mem_cons.2 ⟨tok77, List.forall_mem_cons.2 ⟨tok78, List.forall_mem_cons.2 ⟨tok79, List.forall_mem_cons.2 ⟨tok81, List.forall_mem_cons.2 ⟨tok82, List.forall_mem_cons.2 ⟨tok83, List.forall_mem_cons.2 ⟨tok84, List.forall_mem_cons.2 ⟨tok85, List.forall_mem_cons.2 ⟨tok86, List.forall_mem_cons.2 ⟨tok87, List.forall_mem_cons.2 ⟨tok88, List.forall_mem_cons.2 ⟨tok89, List.forall_mem_cons.2 ⟨tok90, List.forall_mem_cons.2 ⟨tok91, List.forall_mem_cons.2 ⟨tok92, List.forall_mem_cons.2 ⟨tok93, List.forall_mem_cons.2 ⟨tok95, List.forall_mem_cons.2 ⟨tok96, List.forall_mem_cons.2 ⟨tok97, List.forall_mem_cons.2 ⟨tok98, List.forall_mem_cons.2 ⟨tok99, List.forall_mem_cons.2 ⟨tok100, List.forall_mem_cons.2 ⟨tok101, List.forall_mem_cons.2 ⟨tok102, List.forall_mem_cons.2 ⟨tok103, List.forall_mem_cons.2 ⟨tok104, List.forall_mem_cons.2 ⟨tok105, List.forall_mem_cons.2 ⟨tok106, List.forall_mem_cons.2 ⟨tok107, List.forall_mem_cons.2 ⟨tok108, List.forall_mem_cons.2 ⟨tok109, List.forall_mem_cons.2 ⟨tok111, List.forall_mem_cons.2 ⟨tok112, List.forall_mem_cons.2 ⟨tok113, List.forall_mem_cons.2 ⟨tok114, List.forall_mem_cons.2 ⟨tok115, List.forall_mem_cons.2 ⟨tok116, List.forall_mem_cons.2 ⟨tok117, List.forall_mem_cons.2 ⟨tok118, List.forall_mem_cons.2 ⟨tok119, List.forall_mem_cons.2 ⟨tok120, List.forall_mem_cons.2 ⟨tok121, List.forall_mem_cons.2 ⟨tok122, List.forall_mem_cons.2 ⟨tok123, List.forall_mem_cons.2 ⟨tok125, List.forall_mem_cons.2 ⟨tok126, List.forall_mem_cons.2 ⟨tok127, List.forall_mem_cons.2 ⟨tok128, List.forall_mem_cons.2 ⟨tok129, List.forall_mem_cons.2 ⟨tok130, List.forall_mem_cons.2 ⟨tok131, List.forall_mem_cons.2 ⟨tok132, List.forall_mem_cons.2 ⟨tok133, List.forall_mem_cons.2 ⟨tok134, List.forall_mem_cons.2 ⟨tok135, List.forall_mem_cons.2 ⟨tok136, List.forall_mem_cons.2 ⟨tok137, List.forall_mem_cons.2 ⟨tok138, List.forall_mem_cons.2 ⟨tok139, List.forall_mem_cons.2 ⟨tok140, List.forall_mem_cons.2 ⟨tok141, List.forall_mem_cons.2 ⟨tok142, List.forall_mem_cons.2 ⟨tok143, List.forall_mem_cons.2 ⟨tok144, List.forall_mem_cons.2 ⟨tok145, List.forall_mem_cons.2 ⟨tok146, List.forall_mem_cons.2 ⟨tok147, List.forall_mem_cons.2 ⟨tok148, List.forall_mem_cons.2 ⟨tok149, List.forall_mem_cons.2 ⟨tok150, List.forall_mem_cons.2 ⟨tok151, List.forall_mem_cons.2 ⟨tok152, List.forall_mem_cons.2 ⟨tok153, fun x hx => by cases hx⟩⟩⟩⟩⟩⟩⟩⟩⟩⟩⟩⟩⟩⟩⟩⟩⟩⟩⟩⟩⟩⟩⟩⟩⟩⟩⟩⟩⟩⟩⟩⟩⟩⟩⟩⟩⟩⟩⟩⟩⟩⟩⟩⟩⟩⟩⟩⟩⟩⟩⟩⟩⟩⟩⟩⟩⟩⟩⟩⟩⟩⟩⟩⟩⟩⟩⟩⟩⟩⟩⟩⟩⟩⟩⟩⟩⟩⟩⟩⟩⟩⟩⟩⟩⟩⟩⟩⟩⟩⟩⟩⟩⟩⟩⟩⟩⟩⟩⟩⟩⟩⟩⟩⟩⟩⟩⟩⟩⟩⟩⟩⟩⟩⟩⟩⟩⟩⟩⟩⟩⟩⟩⟩⟩⟩⟩⟩⟩⟩⟩⟩⟩⟩⟩⟩⟩⟩⟩⟩⟩⟩⟩⟩⟩
def extL : List (Nat × (List AV → Option AV)) := []
def keyL : List (Nat × (D → Bool)) := [(3, isIntK .i64)]
theorem keyL_ok : ∀ x ∈ keyL, KeyLaw Tryd.prog x.1 x.2 := List.forall_mem_cons.2 ⟨intKey Tryd.underlying3, fun x hx => by cases hx⟩
def glL : List (Nat × (Nat × List (List D))) := [(0, (1, [[.iface 104 (.agg [.ptr ⟨1, 27, none⟩])]]))]
noncomputable def env : Env := { P := Tryd.prog, ty := Abs.look tyL, gl := Abs.look glL, ext := Abs.look extL, key := Abs.look keyL }
theorem extL_ok : ∀ x ∈ extL, ExtOk Tryd.prog x.1 x.2 := fun x hx => by cases hx
theorem envOk : EnvOk env := envOk_of (look_all tyL_ok) (by kernel_rfl) (look_all extL_ok) (look_all keyL_ok)
theorem key3 : env.key 3 = some (isIntK .i64) := rfl
theorem gl0 : env.gl 0 = some (1, [[.iface 104 (.agg [.ptr ⟨1, 27, none⟩])]]) := rfl
theorem ty1 : env.ty 1 = some T1 := rfl
theorem ty2 : env.ty 2 = some T2 := rfl
theorem ty3 : env.ty 3 = some T3 := rfl
theorem ty4 : env.ty 4 = some T4 := rfl
theorem ty5 : env.ty 5 = some T5 := rfl
theorem ty6 : env.ty 6 = some T6 := rfl
theorem ty7 : env.ty 7 = some T7 := rfl
theorem ty8 : env.ty 8 = some T8 := rfl
theorem ty9 : env.ty 9 = some T9 := rfl
theorem ty10 : env.ty 10 = some T10 := rfl
theorem ty11 : env.ty 11 = some T11 := rfl
theorem ty12 : env.ty 12 = some T12 := rfl
theorem ty13 : env.ty 13 = some T13 := rfl
theorem ty14 : env.ty 14 = some T14 := rfl
theorem ty15 : env.ty 15 = some T15 := rfl
theorem ty16 : env.ty 16 = some T16 := rfl
theorem ty17 : env.ty 17 = some T17 := rfl
theorem ty18 : env.ty 18 = some T18 := rfl
theorem ty19 : env.ty 19 = some T19 := rfl
theorem ty20 : env.ty 20 = some T20 := rfl
theorem ty21 : env.ty 21 = some T21 := rfl
theorem ty22 : env.ty 22 = some T22 := rfl
theorem ty23 : env.ty 23 = some T23 := rfl
theorem ty24 : env.ty 24 = some T24 := rfl
theorem ty25 : env.ty 25 = some T25 := rfl
theorem ty26 : env.ty 26 = some T26 := rfl
theorem ty27 : env.ty 27 = some T27 := rfl
theorem ty28 : env.ty 28 = some T28 := rfl
theorem ty30 : env.ty 30 = some T30 := rfl
theorem ty31 : env.ty 31 = some T31 := rfl
theorem ty32 : env.ty 32 = some T32 := rfl
theorem ty33 : env.ty 33 = some T33 := rfl
theorem ty34 : env.ty 34 = some T34 := rfl
theorem ty35 : env.ty 35 = some T35 := rfl
theorem ty36 : env.ty 36 = some T36 := rfl
theorem ty37 : env.ty 37 = some T37 := rfl
theorem ty39 : env.ty 39 = some T39 := rfl
theorem ty40 : env.ty 40 = some T40 := rfl
theorem ty41 : env.ty 41 = some T41 := rfl
theorem ty42 : env.ty 42 = some T42 := rfl
theorem ty43 : env.ty 43 = some T43 := rfl
theorem ty44 : env.ty 44 = some T44 := rfl
theorem ty45 : env.ty 45 = some T45 := rfl
theorem ty46 : env.ty 46 = some T46 := rfl
theorem ty47 : env.ty 47 = some T47 := rfl
theorem ty48 : env.ty 48 = some T48 := rfl
theorem ty49 : env.ty 49 = some T49 := rfl
theorem ty51 : env.ty 51 = some T51 := rfl
theorem ty53 : env.ty 53 = some T53 := rfl
theorem ty54 : env.ty 54 = some T54 := rfl
theorem ty55 : env.ty 55 = some T55 := rfl
theorem ty56 : env.ty 56 = some T56 := rfl
theorem ty57 : env.ty 57 = some T57 := rfl
theorem ty58 : env.ty 58 = some T58 := rfl
theorem ty59 : env.ty 59 = some T59 := rfl
theorem ty60 : env.ty 60 = some T60 := rfl
theorem ty61 : env.ty 61 = some T61 := rfl
theorem ty62 : env.ty 62 = some T62 := rfl
theorem ty64 : env.ty 64 = some T64 := rfl
theorem ty65 : env.ty 65 = some T65 := rfl
theorem ty66 : env.ty 66 = some T66 := rfl
theorem ty67 : env.ty 67 = some T67 := rfl
theorem ty68 : env.ty 68 = some T68 := rfl
theorem ty69 : env.ty 69 = some T69 := rfl
theorem ty70 : env.ty 70 = some T70 := rfl
theorem ty71 : env.ty 71 = some T71 := rfl
theorem ty72 : env.ty 72 = some T72 := rfl
theorem ty73 : env.ty 73 = some T73 := rfl
theorem ty74 : env.ty 74 = some T74 := rfl
theorem ty75 : env.ty 75 = some T75 := rfl
theorem ty76 : env.ty 76 = some T76 := rfl
theorem ty77 : env.ty 77 = some T77 := rfl
theorem ty78 : env.ty 78 = some T78 := rfl
theorem ty79 : env.ty 79 = some T79 := rfl
theorem ty81 : env.ty 81 = some T81 := rfl
theorem ty82 : env.ty 82 = some T82 := rfl
theorem ty83 : env.ty 83 = some T83 := rfl
theorem ty84 : env.ty 84 = some T84 := rfl
theorem ty85 : env.ty 85 = some T85 := rfl
theorem ty86 : env.ty 86 = some T86 := rfl
theorem ty87 : env.ty 87 = some T87 := rfl
theorem ty88 : env.ty 88 = some T88 := rfl
theorem ty89 : env.ty 89 = some T89 := rfl
theorem ty90 : env.ty 90 = some T90 := rfl
theorem ty91 : env.ty 91 = some T91 := rfl
theorem ty92 : env.ty 92 = some T92 := rfl
theorem ty93 : env.ty 93 = some T93 := rfl
theorem ty95 : env.ty 95 = some T95 := rfl
theorem ty96 : env.ty 96 = some T96 := rfl
theorem ty97 : env.ty 97 = some T97 := rfl
theorem ty98 : env.ty 98 = some T98 := rfl
theorem ty99 : env.ty 99 = some T99 := rfl
theorem ty100 : env.ty 100 = some T100 := rfl
theorem ty101 : env.ty 101 = some T101 := rfl
theorem ty102 : env.ty 102 = some T102 := rfl
theorem ty103 : env.ty 103 = some T103 := rfl
theorem ty104 : env.ty 104 = some T104 := rfl
theorem ty105 : env.ty 105 = some T105 := rfl
theorem ty106 : env.ty 106 = some T106 := rfl
theorem ty107 : env.ty 107 = some T107 := rfl
theorem ty108 : env.ty 108 = some T108 := rfl
theorem ty109 : env.ty 109 = some T109 := rfl
theorem ty111 : env.ty 111 = some T111 := rfl
theorem ty112 : env.ty 112 = some T112 := rfl
theorem ty113 : env.ty 113 = some T113 := rfl
theorem ty114 : env.ty 114 = some T114 := rfl
theorem ty115 : env.ty 115 = some T115 := rfl
theorem ty116 : env.ty 116 = some T116 := rfl
theorem ty117 : env.ty 117 = some T117 := rfl
theorem ty118 : env.ty 118 = some T118 := rfl
theorem ty119 : env.ty 119 = some T119 := rfl
theorem ty120 : env.ty 120 = some T120 := rfl
theorem ty121 : env.ty 121 = some T121 := rfl
theorem ty122 : env.ty 122 = some T122 := rfl
theorem ty123 : env.ty 123 = some T123 := rfl
theorem ty125 : env.ty 125 = some T125 := rfl
theorem ty126 : env.ty 126 = some T126 := rfl
theorem ty127 : env.ty 127 = some T127 := rfl
theorem ty128 : env.ty 128 = some T128 := rfl
theorem ty129 : env.ty 129 = some T129 := rfl
theorem ty130 : env.ty 130 = some T130 := rfl
theorem ty131 : env.ty 131 = some T131 := rfl
theorem ty132 : env.ty 132 = some T132 := rfl
theorem ty133 : env.ty 133 = some T133 := rfl
theorem ty134 : env.ty 134 = some T134 := rfl
theorem ty135 : env.ty 135 = some T135 := rfl
theorem ty136 : env.ty 136 = some T136 := rfl
theorem ty137 : env.ty 137 = some T137 := rfl
theorem ty138 : env.ty 138 = some T138 := rfl
theorem ty139 : env.ty 139 = some T139 := rfl
theorem ty140 : env.ty 140 = some T140 := rfl
theorem ty141 : env.ty 141 = some T141 := rfl
theorem ty142 : env.ty 142 = some T142 := rfl
theorem ty143 : env.ty 143 = some T143 := rfl
theorem ty144 : env.ty 144 = some T144 := rfl
theorem ty145 : env.ty 145 = some T145 := rfl
theorem ty146 : env.ty 146 = some T146 := rfl
theorem ty147 : env.ty 147 = some T147 := rfl
theorem ty148 : env.ty 148 = some T148 := rfl
theorem ty149 : env.ty 149 = some T149 := rfl
theorem ty150 : env.ty 150 = some T150 := rfl
theorem ty151 : env.ty 151 = some T151 := rfl
theorem ty152 : env.ty 152 = some T152 := rfl
theorem ty153 : env.ty 153 = some T153 := rfl
theorem ext0 : env.ext 0 = none := rfl
theorem ext1 : env.ext 1 = none := rfl
theorem ext2 : env.ext 2 = none := rfl
theorem ext3 : env.ext 3 = none := rfl
theorem ext4 : env.ext 4 = none := rfl
theorem ext5 : env.ext 5 = none := rfl
theorem ext6 : env.ext 6 = none := rfl
theorem ext7 : env.ext 7 = none := rfl
theorem ext8 : env.ext 8 = none := rfl
theorem ext9 : env.ext 9 = none := rfl
theorem ext10 : env.ext 10 = none := rfl
theorem ext11 : env.ext 11 = none := rfl
theorem ext12 : env.ext 12 = none := rfl
theorem ext13 : env.ext 13 = none := rfl
theorem ext14 : env.ext 14 = none := rfl
theorem ext15 : env.ext 15 = none := rfl
theorem ext16 : env.ext 16 = none := rfl
theorem ext17 : env.ext 17 = none := rfl
theorem ext18 : env.ext 18 = none := rfl
theorem ext19 : env.ext 19 = none := rfl
theorem ext20 : env.ext 20 = none := rfl
theorem ext21 : env.ext 21 = none := rfl
theorem ext22 : env.ext 22 = none := rfl
theorem ext23 : env.ext 23 = none := rfl
theorem ext24 : env.ext 24 = none := rfl
theorem ext25 : env.ext 25 = none := rfl
theorem ext26 : env.ext 26 = none := rfl
theorem ext27 : env.ext 27 = none := rfl
theorem ext28 : env.ext 28 = none := rfl
theorem ext29 : env.ext 29 = none := rfl
theorem ext30 : env.ext 30 = none := rfl
theorem ext31 : env.ext 31 = none := rfl
theorem ext32 : env.ext 32 = none := rfl
theorem ext33 : env.ext 33 = none := rfl
theorem ext34 : env.ext 34 = none := rfl
theorem ext35 : env.ext 35 = none := rfl
theorem ext36 : env.ext 36 = none := rfl
theorem ext37 : env.ext 37 = none := rfl
theorem ext38 : env.ext 38 = none := rfl
theorem ext39 : env.ext 39 = none := rfl
theorem ext40 : env.ext 40 = none := rfl
theorem ext41 : env.ext 41 = none := rfl
theorem ext42 : env.ext 42 = none := rfl
theorem ext43 : env.ext 43 = none := rfl
theorem ext44 : env.ext 44 = none := rfl
theorem ext45 : env.ext 45 = none := rfl
theorem ext46 : env.ext 46 = none := rfl
theorem ext47 : env.ext 47 = none := rfl
theorem ext48 : env.ext 48 = none := rfl
theorem ext49 : env.ext 49 = none := rfl
theorem ext50 : env.ext 50 = none := rfl
theorem ext51 : env.ext 51 = none := rfl
theorem ext52 : env.ext 52 = none := rfl
theorem ext53 : env.ext 53 = none := rfl
theorem ext54 : env.ext 54 = none := rfl
theorem ext55 : env.ext 55 = none := rfl
theorem ext56 : env.ext 56 = none := rfl
theorem ext57 : env.ext 57 = none := rfl
theorem ext58 : env.ext 58 = none := rfl
theorem ext59 : env.ext 59 = none := rfl
theorem ext60 : env.ext 60 = none := rfl
theorem ext61 : env.ext 61 = none := rfl
theorem ext62 : env.ext 62 = none := rfl
theorem ext63 : env.ext 63 = none := rfl
theorem ext64 : env.ext 64 = none := rfl
theorem ext65 : env.ext 65 = none := rfl
theorem ext66 : env.ext 66 = none := rfl
theorem ext67 : env.ext 67 = none := rfl
theorem ext68 : env.ext 68 = none := rfl
theorem ext69 : env.ext 69 = none := rfl
theorem ext70 : env.ext 70 = none := rfl
theorem ext71 : env.ext 71 = none := rfl
theorem ext72 : env.ext 72 = none := rfl
theorem ext73 : env.ext 73 = none := rfl
theorem ext74 : env.ext 74 = none := rfl
theorem ext75 : env.ext 75 = none := rfl
theorem ext76 : env.ext 76 = none := rfl
theorem ext77 : env.ext 77 = none := rfl
theorem ext78 : env.ext 78 = none := rfl
theorem ext79 : env.ext 79 = none := rfl
theorem ext80 : env.ext 80 = none := rfl
theorem ext81 : env.ext 81 = none := rfl
theorem ext82 : env.ext 82 = none := rfl
theorem ext83 : env.ext 83 = none := rfl
theorem ext84 : env.ext 84 = none := rfl
theorem ext85 : env.ext 85 = none := rfl
theorem ext86 : env.ext 86 = none := rfl
theorem ext87 : env.ext 87 = none := rfl
theorem ext88 : env.ext 88 = none := rfl
theorem ext89 : env.ext 89 = none := rfl
theorem ext90 : env.ext 90 = none := rfl
theorem ext91 : env.ext 91 = none := rfl
theorem ext92 : env.ext 92 = none := rfl
theorem ext93 : env.ext 93 = none := rfl
theorem ext94 : env.ext 94 = none := rfl
theorem ext95 : env.ext 95 = none := rfl
theorem ext96 : env.ext 96 = none := rfl
theorem ext97 : env.ext 97 = none := rfl
theorem ext98 : env.ext 98 = none := rfl
theorem ext99 : env.ext 99 = none := rfl
theorem ext100 : env.ext 100 = none := rfl
theorem ext101 : env.ext 101 = none := rfl
theorem ext102 : env.ext 102 = none := rfl
theorem ext103 : env.ext 103 = none := rfl
theorem ext104 : env.ext 104 = none := rfl
end Go.Proofs.YtdmdjiaocbccpaaDoor
