/-
  The types of this program, as the walk uses them; what stands in for a function without a body.
-/
import Derived.Test.YtjljjakfebfpfaaDoorProg
import Derived.Test.YtjljjakfebfpfaaDoorAbsQ
import Derived.KernelRfl
set_option autoImplicit false
set_option linter.unusedVariables false
set_option maxRecDepth 100000
namespace Go.Proofs.YtjljjakfebfpfaaDoor
open Go.Abs
def T1 : TI := { k := .func, size := 1, bytes := 8, zero := [.nilf] }
def T2 : TI := { k := .int .i64, size := 1, bytes := 8, zero := [.int .i64 0] }
def T3 : TI := { k := .int .i64, size := 1, bytes := 8, zero := [.int .i64 0] }
def T4 : TI := { k := .bool, size := 1, bytes := 1, zero := [.bool false] }
def T5 : TI := { k := .int .u8, size := 1, bytes := 1, zero := [.int .u8 0] }
def T6 : TI := { k := .int .u8, size := 1, bytes := 1, zero := [.int .u8 0] }
def T7 : TI := { k := .struct [(0, 2), (1, 3), (2, 4), (3, 6)], size := 4, bytes := 24, zero := [.int .i64 0, .int .i64 0, .bool false, .int .u8 0] }
def T8 : TI := { k := .struct [(0, 2), (1, 3), (2, 4), (3, 6)], size := 4, bytes := 24, zero := [.int .i64 0, .int .i64 0, .bool false, .int .u8 0] }
def T9 : TI := { k := .string, size := 1, bytes := 16, zero := [.str ⟨#[]⟩] }
def T10 : TI := { k := .string, size := 1, bytes := 16, zero := [.str ⟨#[]⟩] }
def T11 : TI := { k := .string, size := 1, bytes := 16, zero := [.str ⟨#[]⟩] }
def T12 : TI := { k := .int .u64, size := 1, bytes := 8, zero := [.int .u64 0] }
def T13 : TI := { k := .struct [(0, 9), (1, 12)], size := 2, bytes := 24, zero := [.str ⟨#[]⟩, .int .u64 0] }
def T14 : TI := { k := .struct [(0, 9), (1, 12)], size := 2, bytes := 24, zero := [.str ⟨#[]⟩, .int .u64 0] }
def T15 : TI := { k := .ptr 183, size := 1, bytes := 8, zero := [.nilp] }
def T16 : TI := { k := .ptr 186, size := 1, bytes := 8, zero := [.nilp] }
def T17 : TI := { k := .ptr 194, size := 1, bytes := 8, zero := [.nilp] }
def T18 : TI := { k := .struct [(0, 17)], size := 1, bytes := 8, zero := [.nilp] }
def T19 : TI := { k := .struct [(0, 17)], size := 1, bytes := 8, zero := [.nilp] }
def T20 : TI := { k := .iface, size := 1, bytes := 16, zero := [.nili] }
def T21 : TI := { k := .int .i32, size := 1, bytes := 4, zero := [.int .i32 0] }
def T22 : TI := { k := .slice 30, size := 1, bytes := 24, zero := [.nils] }
def T23 : TI := { k := .ptr 72, size := 1, bytes := 8, zero := [.nilp] }
def T24 : TI := { k := .func, size := 1, bytes := 8, zero := [.nilf] }
def T25 : TI := { k := .func, size := 1, bytes := 8, zero := [.nilf] }
def T26 : TI := { k := .func, size := 1, bytes := 8, zero := [.nilf] }
def T28 : TI := { k := .func, size := 1, bytes := 8, zero := [.nilf] }
def T29 : TI := { k := .struct [(0, 3), (1, 3), (2, 4)], size := 3, bytes := 24, zero := [.int .i64 0, .int .i64 0, .bool false] }
def T30 : TI := { k := .struct [(0, 3), (1, 3), (2, 4)], size := 3, bytes := 24, zero := [.int .i64 0, .int .i64 0, .bool false] }
def T31 : TI := { k := .iface, size := 1, bytes := 16, zero := [.nili] }
def T32 : TI := { k := .iface, size := 1, bytes := 16, zero := [.nili] }
def T33 : TI := { k := .func, size := 1, bytes := 8, zero := [.nilf] }
def T34 : TI := { k := .func, size := 1, bytes := 8, zero := [.nilf] }
def T35 : TI := { k := .func, size := 1, bytes := 8, zero := [.nilf] }
def T36 : TI := { k := .func, size := 1, bytes := 8, zero := [.nilf] }
def T38 : TI := { k := .func, size := 1, bytes := 8, zero := [.nilf] }
def T39 : TI := { k := .func, size := 1, bytes := 8, zero := [.nilf] }
def T40 : TI := { k := .func, size := 1, bytes := 8, zero := [.nilf] }
def T41 : TI := { k := .func, size := 1, bytes := 8, zero := [.nilf] }
def T42 : TI := { k := .func, size := 1, bytes := 8, zero := [.nilf] }
def T43 : TI := { k := .slice 2, size := 1, bytes := 24, zero := [.nils] }
def T44 : TI := { k := .struct [(0, 3), (1, 3), (2, 3), (3, 3), (4, 4), (5, 43)], size := 6, bytes := 64, zero := [.int .i64 0, .int .i64 0, .int .i64 0, .int .i64 0, .bool false, .nils] }
def T45 : TI := { k := .struct [(0, 3), (1, 3), (2, 3), (3, 3), (4, 4), (5, 43)], size := 6, bytes := 64, zero := [.int .i64 0, .int .i64 0, .int .i64 0, .int .i64 0, .bool false, .nils] }
def T46 : TI := { k := .struct [(0, 3), (1, 3), (2, 4), (3, 3), (4, 43), (5, 3), (6, 3), (7, 3), (8, 3)], size := 9, bytes := 88, zero := [.int .i64 0, .int .i64 0, .bool false, .int .i64 0, .nils, .int .i64 0, .int .i64 0, .int .i64 0, .int .i64 0] }
def T47 : TI := { k := .struct [(0, 3), (1, 3), (2, 4), (3, 3), (4, 43), (5, 3), (6, 3), (7, 3), (8, 3)], size := 9, bytes := 88, zero := [.int .i64 0, .int .i64 0, .bool false, .int .i64 0, .nils, .int .i64 0, .int .i64 0, .int .i64 0, .int .i64 0] }
def T49 : TI := { k := .func, size := 1, bytes := 8, zero := [.nilf] }
def T50 : TI := { k := .func, size := 1, bytes := 8, zero := [.nilf] }
def T51 : TI := { k := .func, size := 1, bytes := 8, zero := [.nilf] }
def T52 : TI := { k := .func, size := 1, bytes := 8, zero := [.nilf] }
def T53 : TI := { k := .func, size := 1, bytes := 8, zero := [.nilf] }
def T54 : TI := { k := .slice 43, size := 1, bytes := 24, zero := [.nils] }
def T55 : TI := { k := .ptr 91, size := 1, bytes := 8, zero := [.nilp] }
def T56 : TI := { k := .func, size := 1, bytes := 8, zero := [.nilf] }
def T57 : TI := { k := .func, size := 1, bytes := 8, zero := [.nilf] }
def T58 : TI := { k := .struct [(0, 3), (1, 43)], size := 2, bytes := 32, zero := [.int .i64 0, .nils] }
def T59 : TI := { k := .struct [(0, 3), (1, 43)], size := 2, bytes := 32, zero := [.int .i64 0, .nils] }
def T60 : TI := { k := .func, size := 1, bytes := 8, zero := [.nilf] }
def T61 : TI := { k := .func, size := 1, bytes := 8, zero := [.nilf] }
def T62 : TI := { k := .func, size := 1, bytes := 8, zero := [.nilf] }
def T63 : TI := { k := .func, size := 1, bytes := 8, zero := [.nilf] }
def T65 : TI := { k := .func, size := 1, bytes := 8, zero := [.nilf] }
def T66 : TI := { k := .slice 3, size := 1, bytes := 24, zero := [.nils] }
def T67 : TI := { k := .func, size := 1, bytes := 8, zero := [.nilf] }
def T68 : TI := { k := .func, size := 1, bytes := 8, zero := [.nilf] }
def T69 : TI := { k := .ptr 107, size := 1, bytes := 8, zero := [.nilp] }
def T70 : TI := { k := .func, size := 1, bytes := 8, zero := [.nilf] }
def T71 : TI := { k := .struct [(0, 69)], size := 1, bytes := 8, zero := [.nilp] }
def T72 : TI := { k := .struct [(0, 69)], size := 1, bytes := 8, zero := [.nilp] }
def T73 : TI := { k := .int .i64, size := 1, bytes := 8, zero := [.int .i64 0] }
def T74 : TI := { k := .func, size := 1, bytes := 8, zero := [.nilf] }
def T75 : TI := { k := .func, size := 1, bytes := 8, zero := [.nilf] }
def T76 : TI := { k := .func, size := 1, bytes := 8, zero := [.nilf] }
def T77 : TI := { k := .ptr 73, size := 1, bytes := 8, zero := [.nilp] }
def T78 : TI := { k := .func, size := 1, bytes := 8, zero := [.nilf] }
def T80 : TI := { k := .func, size := 1, bytes := 8, zero := [.nilf] }
def T82 : TI := { k := .func, size := 1, bytes := 8, zero := [.nilf] }
def T83 : TI := { k := .func, size := 1, bytes := 8, zero := [.nilf] }
def T84 : TI := { k := .func, size := 1, bytes := 8, zero := [.nilf] }
def T85 : TI := { k := .func, size := 1, bytes := 8, zero := [.nilf] }
def T86 : TI := { k := .ptr 130, size := 1, bytes := 8, zero := [.nilp] }
def T87 : TI := { k := .func, size := 1, bytes := 8, zero := [.nilf] }
def T88 : TI := { k := .struct [(0, 59), (2, 43)], size := 3, bytes := 56, zero := [.int .i64 0, .nils, .nils] }
def T89 : TI := { k := .struct [(0, 59), (2, 43)], size := 3, bytes := 56, zero := [.int .i64 0, .nils, .nils] }
def T90 : TI := { k := .struct [(0, 3), (1, 86)], size := 2, bytes := 16, zero := [.int .i64 0, .nilp] }
def T91 : TI := { k := .struct [(0, 3), (1, 86)], size := 2, bytes := 16, zero := [.int .i64 0, .nilp] }
def T92 : TI := { k := .func, size := 1, bytes := 8, zero := [.nilf] }
def T93 : TI := { k := .func, size := 1, bytes := 8, zero := [.nilf] }
def T94 : TI := { k := .func, size := 1, bytes := 8, zero := [.nilf] }
def T95 : TI := { k := .func, size := 1, bytes := 8, zero := [.nilf] }
def T96 : TI := { k := .func, size := 1, bytes := 8, zero := [.nilf] }
def T97 : TI := { k := .func, size := 1, bytes := 8, zero := [.nilf] }
def T98 : TI := { k := .func, size := 1, bytes := 8, zero := [.nilf] }
def T99 : TI := { k := .func, size := 1, bytes := 8, zero := [.nilf] }
def T101 : TI := { k := .func, size := 1, bytes := 8, zero := [.nilf] }
def T102 : TI := { k := .func, size := 1, bytes := 8, zero := [.nilf] }
def T104 : TI := { k := .func, size := 1, bytes := 8, zero := [.nilf] }
def T105 : TI := { k := .map 3 30, size := 1, bytes := 8, zero := [.nilm] }
def T106 : TI := { k := .struct [(0, 3), (1, 105)], size := 2, bytes := 16, zero := [.int .i64 0, .nilm] }
def T107 : TI := { k := .struct [(0, 3), (1, 105)], size := 2, bytes := 16, zero := [.int .i64 0, .nilm] }
def T108 : TI := { k := .func, size := 1, bytes := 8, zero := [.nilf] }
def T110 : TI := { k := .int .u64, size := 1, bytes := 8, zero := [.int .u64 0] }
def T111 : TI := { k := .struct [(0, 17), (1, 109), (2, 110)], size := 3, bytes := 24, zero := [.nilp, .nilp, .int .u64 0] }
def T112 : TI := { k := .struct [(0, 17), (1, 109), (2, 110)], size := 3, bytes := 24, zero := [.nilp, .nilp, .int .u64 0] }
def T113 : TI := { k := .func, size := 1, bytes := 8, zero := [.nilf] }
def T114 : TI := { k := .iface, size := 1, bytes := 16, zero := [.nili] }
def T115 : TI := { k := .iface, size := 1, bytes := 16, zero := [.nili] }
def T116 : TI := { k := .func, size := 1, bytes := 8, zero := [.nilf] }
def T117 : TI := { k := .int .u8, size := 1, bytes := 1, zero := [.int .u8 0] }
def T118 : TI := { k := .func, size := 1, bytes := 8, zero := [.nilf] }
def T119 : TI := { k := .func, size := 1, bytes := 8, zero := [.nilf] }
def T120 : TI := { k := .func, size := 1, bytes := 8, zero := [.nilf] }
def T121 : TI := { k := .struct [(0, 73), (1, 3)], size := 2, bytes := 16, zero := [.int .i64 0, .int .i64 0] }
def T122 : TI := { k := .struct [(0, 73), (1, 3)], size := 2, bytes := 16, zero := [.int .i64 0, .int .i64 0] }
def T123 : TI := { k := .ptr 122, size := 1, bytes := 8, zero := [.nilp] }
def T124 : TI := { k := .func, size := 1, bytes := 8, zero := [.nilf] }
def T125 : TI := { k := .func, size := 1, bytes := 8, zero := [.nilf] }
def T126 : TI := { k := .func, size := 1, bytes := 8, zero := [.nilf] }
def T127 : TI := { k := .func, size := 1, bytes := 8, zero := [.nilf] }
def T128 : TI := { k := .map 3 89, size := 1, bytes := 8, zero := [.nilm] }
def T129 : TI := { k := .struct [(0, 3), (1, 128)], size := 2, bytes := 16, zero := [.int .i64 0, .nilm] }
def T130 : TI := { k := .struct [(0, 3), (1, 128)], size := 2, bytes := 16, zero := [.int .i64 0, .nilm] }
def T131 : TI := { k := .func, size := 1, bytes := 8, zero := [.nilf] }
def T132 : TI := { k := .func, size := 1, bytes := 8, zero := [.nilf] }
def T133 : TI := { k := .func, size := 1, bytes := 8, zero := [.nilf] }
def T134 : TI := { k := .func, size := 1, bytes := 8, zero := [.nilf] }
def T135 : TI := { k := .func, size := 1, bytes := 8, zero := [.nilf] }
def T136 : TI := { k := .func, size := 1, bytes := 8, zero := [.nilf] }
def T137 : TI := { k := .struct [(0, 17)], size := 1, bytes := 8, zero := [.nilp] }
def T138 : TI := { k := .struct [(0, 17)], size := 1, bytes := 8, zero := [.nilp] }
def T139 : TI := { k := .ptr 198, size := 1, bytes := 8, zero := [.nilp] }
def T140 : TI := { k := .func, size := 1, bytes := 8, zero := [.nilf] }
def T141 : TI := { k := .func, size := 1, bytes := 8, zero := [.nilf] }
def T142 : TI := { k := .func, size := 1, bytes := 8, zero := [.nilf] }
def T143 : TI := { k := .iface, size := 1, bytes := 16, zero := [.nili] }
def T145 : TI := { k := .func, size := 1, bytes := 8, zero := [.nilf] }
def T146 : TI := { k := .iface, size := 1, bytes := 16, zero := [.nili] }
def T147 : TI := { k := .iface, size := 1, bytes := 16, zero := [.nili] }
def T148 : TI := { k := .slice 32, size := 1, bytes := 24, zero := [.nils] }
def T149 : TI := { k := .func, size := 1, bytes := 8, zero := [.nilf] }
def T150 : TI := { k := .func, size := 1, bytes := 8, zero := [.nilf] }
def T151 : TI := { k := .func, size := 1, bytes := 8, zero := [.nilf] }
def T152 : TI := { k := .int .u64, size := 1, bytes := 8, zero := [.int .u64 0] }
def T153 : TI := { k := .func, size := 1, bytes := 8, zero := [.nilf] }
def T154 : TI := { k := .func, size := 1, bytes := 8, zero := [.nilf] }
def T156 : TI := { k := .func, size := 1, bytes := 8, zero := [.nilf] }
def T157 : TI := { k := .func, size := 1, bytes := 8, zero := [.nilf] }
def T158 : TI := { k := .int .i64, size := 1, bytes := 8, zero := [.int .i64 0] }
def T160 : TI := { k := .func, size := 1, bytes := 8, zero := [.nilf] }
def T161 : TI := { k := .func, size := 1, bytes := 8, zero := [.nilf] }
def T162 : TI := { k := .func, size := 1, bytes := 8, zero := [.nilf] }
def T163 : TI := { k := .func, size := 1, bytes := 8, zero := [.nilf] }
def T164 : TI := { k := .func, size := 1, bytes := 8, zero := [.nilf] }
def T165 : TI := { k := .func, size := 1, bytes := 8, zero := [.nilf] }
def T166 : TI := { k := .int .u32, size := 1, bytes := 4, zero := [.int .u32 0] }
def T167 : TI := { k := .func, size := 1, bytes := 8, zero := [.nilf] }
def T168 : TI := { k := .int .u64, size := 1, bytes := 8, zero := [.int .u64 0] }
def T169 : TI := { k := .func, size := 1, bytes := 8, zero := [.nilf] }
def T171 : TI := { k := .func, size := 1, bytes := 8, zero := [.nilf] }
def T172 : TI := { k := .int .u64, size := 1, bytes := 8, zero := [.int .u64 0] }
def T173 : TI := { k := .func, size := 1, bytes := 8, zero := [.nilf] }
def T174 : TI := { k := .func, size := 1, bytes := 8, zero := [.nilf] }
def T175 : TI := { k := .func, size := 1, bytes := 8, zero := [.nilf] }
def T176 : TI := { k := .ptr 3, size := 1, bytes := 8, zero := [.nilp] }
def T177 : TI := { k := .func, size := 1, bytes := 8, zero := [.nilf] }
def T178 : TI := { k := .ptr 172, size := 1, bytes := 8, zero := [.nilp] }
def T180 : TI := { k := .func, size := 1, bytes := 8, zero := [.nilf] }
def T181 : TI := { k := .func, size := 1, bytes := 8, zero := [.nilf] }
def T182 : TI := { k := .struct [(0, 17), (1, 17), (2, 17), (3, 9)], size := 4, bytes := 40, zero := [.nilp, .nilp, .nilp, .str ⟨#[]⟩] }
def T183 : TI := { k := .struct [(0, 17), (1, 17), (2, 17), (3, 9)], size := 4, bytes := 40, zero := [.nilp, .nilp, .nilp, .str ⟨#[]⟩] }
def T184 : TI := { k := .array 0 16, size := 0, bytes := 0, zero := [] }
def T185 : TI := { k := .struct [(0, 184)], size := 0, bytes := 0, zero := [] }
def T186 : TI := { k := .struct [(0, 184)], size := 0, bytes := 0, zero := [] }
def T187 : TI := { k := .func, size := 1, bytes := 8, zero := [.nilf] }
def T188 : TI := { k := .int .u8, size := 1, bytes := 1, zero := [.int .u8 0] }
def T189 : TI := { k := .func, size := 1, bytes := 8, zero := [.nilf] }
def T190 : TI := { k := .ptr 5, size := 1, bytes := 8, zero := [.nilp] }
def T191 : TI := { k := .int .i32, size := 1, bytes := 4, zero := [.int .i32 0] }
def T192 : TI := { k := .int .i32, size := 1, bytes := 4, zero := [.int .i32 0] }
def T193 : TI := { k := .struct [(0, 12), (1, 12), (2, 166), (3, 188), (4, 5), (5, 5), (6, 117), (7, 189), (8, 190), (9, 191), (10, 192)], size := 11, bytes := 48, zero := [.int .u64 0, .int .u64 0, .int .u32 0, .int .u8 0, .int .u8 0, .int .u8 0, .int .u8 0, .nilf, .nilp, .int .i32 0, .int .i32 0] }
def T194 : TI := { k := .struct [(0, 12), (1, 12), (2, 166), (3, 188), (4, 5), (5, 5), (6, 117), (7, 189), (8, 190), (9, 191), (10, 192)], size := 11, bytes := 48, zero := [.int .u64 0, .int .u64 0, .int .u32 0, .int .u8 0, .int .u8 0, .int .u8 0, .int .u8 0, .nilf, .nilp, .int .i32 0, .int .i32 0] }
def T195 : TI := { k := .func, size := 1, bytes := 8, zero := [.nilf] }
def T196 : TI := { k := .func, size := 1, bytes := 8, zero := [.nilf] }
def T197 : TI := { k := .struct [(0, 9), (1, 117)], size := 2, bytes := 24, zero := [.str ⟨#[]⟩, .int .u8 0] }
def T198 : TI := { k := .struct [(0, 9), (1, 117)], size := 2, bytes := 24, zero := [.str ⟨#[]⟩, .int .u8 0] }
def T199 : TI := { k := .ptr 203, size := 1, bytes := 8, zero := [.nilp] }
def T200 : TI := { k := .func, size := 1, bytes := 8, zero := [.nilf] }
def T201 : TI := { k := .int .u16, size := 1, bytes := 2, zero := [.int .u16 0] }
def T202 : TI := { k := .struct [(0, 191), (1, 201), (2, 201), (3, 166), (4, 166)], size := 5, bytes := 16, zero := [.int .i32 0, .int .u16 0, .int .u16 0, .int .u32 0, .int .u32 0] }
def T203 : TI := { k := .struct [(0, 191), (1, 201), (2, 201), (3, 166), (4, 166)], size := 5, bytes := 16, zero := [.int .i32 0, .int .u16 0, .int .u16 0, .int .u32 0, .int .u32 0] }
def T204 : TI := { k := .slice 207, size := 1, bytes := 24, zero := [.nils] }
def T205 : TI := { k := .int .i32, size := 1, bytes := 4, zero := [.int .i32 0] }
def T206 : TI := { k := .struct [(0, 191), (1, 192), (2, 205), (3, 205)], size := 4, bytes := 16, zero := [.int .i32 0, .int .i32 0, .int .i32 0, .int .i32 0] }
def T207 : TI := { k := .struct [(0, 191), (1, 192), (2, 205), (3, 205)], size := 4, bytes := 16, zero := [.int .i32 0, .int .i32 0, .int .i32 0, .int .i32 0] }
def T208 : TI := { k := .ptr 32, size := 1, bytes := 8, zero := [.nilp] }
theorem tok1 : TyOk Tryd.prog 1 T1 := ⟨⟨_, Tryd.underlying1, ⟨_, _, _, rfl⟩⟩, ⟨_, _, Tryd.type1, rfl, rfl, rfl, rfl, rfl, rfl, rfl⟩⟩
theorem tok2 : TyOk Tryd.prog 2 T2 := ⟨⟨_, Tryd.underlying2, rfl⟩, ⟨_, _, Tryd.type2, rfl, rfl, rfl, rfl, rfl, rfl, rfl⟩⟩
theorem tok3 : TyOk Tryd.prog 3 T3 := ⟨⟨_, Tryd.underlying3, rfl⟩, ⟨_, _, Tryd.type3, rfl, rfl, rfl, rfl, rfl, rfl, rfl⟩⟩
theorem tok4 : TyOk Tryd.prog 4 T4 := ⟨⟨_, Tryd.underlying4, rfl⟩, ⟨_, _, Tryd.type4, rfl, rfl, rfl, rfl, rfl, rfl, rfl⟩⟩
theorem tok5 : TyOk Tryd.prog 5 T5 := ⟨⟨_, Tryd.underlying5, rfl⟩, ⟨_, _, Tryd.type5, rfl, rfl, rfl, rfl, rfl, rfl, rfl⟩⟩
theorem tok6 : TyOk Tryd.prog 6 T6 := ⟨⟨_, Tryd.underlying6, rfl⟩, ⟨_, _, Tryd.type6, rfl, rfl, rfl, rfl, rfl, rfl, rfl⟩⟩
theorem tok7 : TyOk Tryd.prog 7 T7 := ⟨⟨_, Tryd.underlying7, ⟨_, rfl, rfl⟩⟩, ⟨_, _, Tryd.type7, rfl, rfl, rfl, rfl, rfl, rfl, rfl⟩⟩
theorem tok8 : TyOk Tryd.prog 8 T8 := ⟨⟨_, Tryd.underlying8, ⟨_, rfl, rfl⟩⟩, ⟨_, _, Tryd.type8, rfl, rfl, rfl, rfl, rfl, rfl, rfl⟩⟩
theorem tok9 : TyOk Tryd.prog 9 T9 := ⟨⟨_, Tryd.underlying9, rfl⟩, ⟨_, _, Tryd.type9, rfl, rfl, rfl, rfl, rfl, rfl, rfl⟩⟩
theorem tok10 : TyOk Tryd.prog 10 T10 := ⟨⟨_, Tryd.underlying10, rfl⟩, ⟨_, _, Tryd.type10, rfl, rfl, rfl, rfl, rfl, rfl, rfl⟩⟩
theorem tok11 : TyOk Tryd.prog 11 T11 := ⟨⟨_, Tryd.underlying11, rfl⟩, ⟨_, _, Tryd.type11, rfl, rfl, rfl, rfl, rfl, rfl, rfl⟩⟩
theorem tok12 : TyOk Tryd.prog 12 T12 := ⟨⟨_, Tryd.underlying12, rfl⟩, ⟨_, _, Tryd.type12, rfl, rfl, rfl, rfl, rfl, rfl, rfl⟩⟩
theorem tok13 : TyOk Tryd.prog 13 T13 := ⟨⟨_, Tryd.underlying13, ⟨_, rfl, rfl⟩⟩, ⟨_, _, Tryd.type13, rfl, rfl, rfl, rfl, rfl, rfl, rfl⟩⟩
theorem tok14 : TyOk Tryd.prog 14 T14 := ⟨⟨_, Tryd.underlying14, ⟨_, rfl, rfl⟩⟩, ⟨_, _, Tryd.type14, rfl, rfl, rfl, rfl, rfl, rfl, rfl⟩⟩
theorem tok15 : TyOk Tryd.prog 15 T15 := ⟨⟨_, Tryd.underlying15, rfl⟩, ⟨_, _, Tryd.type15, rfl, rfl, rfl, rfl, rfl, rfl, rfl⟩⟩
theorem tok16 : TyOk Tryd.prog 16 T16 := ⟨⟨_, Tryd.underlying16, rfl⟩, ⟨_, _, Tryd.type16, rfl, rfl, rfl, rfl, rfl, rfl, rfl⟩⟩
theorem tok17 : TyOk Tryd.prog 17 T17 := ⟨⟨_, Tryd.underlying17, rfl⟩, ⟨_, _, Tryd.type17, rfl, rfl, rfl, rfl, rfl, rfl, rfl⟩⟩
theorem tok18 : TyOk Tryd.prog 18 T18 := ⟨⟨_, Tryd.underlying18, ⟨_, rfl, rfl⟩⟩, ⟨_, _, Tryd.type18, rfl, rfl, rfl, rfl, rfl, rfl, rfl⟩⟩
theorem tok19 : TyOk Tryd.prog 19 T19 := ⟨⟨_, Tryd.underlying19, ⟨_, rfl, rfl⟩⟩, ⟨_, _, Tryd.type19, rfl, rfl, rfl, rfl, rfl, rfl, rfl⟩⟩
theorem tok20 : TyOk Tryd.prog 20 T20 := ⟨⟨_, Tryd.underlying20, ⟨_, rfl⟩⟩, ⟨_, _, Tryd.type20, rfl, rfl, rfl, rfl, rfl, rfl, rfl⟩⟩
theorem tok21 : TyOk Tryd.prog 21 T21 := ⟨⟨_, Tryd.underlying21, rfl⟩, ⟨_, _, Tryd.type21, rfl, rfl, rfl, rfl, rfl, rfl, rfl⟩⟩
theorem tok22 : TyOk Tryd.prog 22 T22 := ⟨⟨_, Tryd.underlying22, rfl⟩, ⟨_, _, Tryd.type22, rfl, rfl, rfl, rfl, rfl, rfl, rfl⟩⟩
theorem tok23 : TyOk Tryd.prog 23 T23 := ⟨⟨_, Tryd.underlying23, rfl⟩, ⟨_, _, Tryd.type23, rfl, rfl, rfl, rfl, rfl, rfl, rfl⟩⟩
theorem tok24 : TyOk Tryd.prog 24 T24 := ⟨⟨_, Tryd.underlying24, ⟨_, _, _, rfl⟩⟩, ⟨_, _, Tryd.type24, rfl, rfl, rfl, rfl, rfl, rfl, rfl⟩⟩
theorem tok25 : TyOk Tryd.prog 25 T25 := ⟨⟨_, Tryd.underlying25, ⟨_, _, _, rfl⟩⟩, ⟨_, _, Tryd.type25, rfl, rfl, rfl, rfl, rfl, rfl, rfl⟩⟩
theorem tok26 : TyOk Tryd.prog 26 T26 := ⟨⟨_, Tryd.underlying26, ⟨_, _, _, rfl⟩⟩, ⟨_, _, Tryd.type26, rfl, rfl, rfl, rfl, rfl, rfl, rfl⟩⟩
theorem tok28 : TyOk Tryd.prog 28 T28 := ⟨⟨_, Tryd.underlying28, ⟨_, _, _, rfl⟩⟩, ⟨_, _, Tryd.type28, rfl, rfl, rfl, rfl, rfl, rfl, rfl⟩⟩
theorem tok29 : TyOk Tryd.prog 29 T29 := ⟨⟨_, Tryd.underlying29, ⟨_, rfl, rfl⟩⟩, ⟨_, _, Tryd.type29, rfl, rfl, rfl, rfl, rfl, rfl, rfl⟩⟩
theorem tok30 : TyOk Tryd.prog 30 T30 := ⟨⟨_, Tryd.underlying30, ⟨_, rfl, rfl⟩⟩, ⟨_, _, Tryd.type30, rfl, rfl, rfl, rfl, rfl, rfl, rfl⟩⟩
theorem tok31 : TyOk Tryd.prog 31 T31 := ⟨⟨_, Tryd.underlying31, ⟨_, rfl⟩⟩, ⟨_, _, Tryd.type31, rfl, rfl, rfl, rfl, rfl, rfl, rfl⟩⟩
theorem tok32 : TyOk Tryd.prog 32 T32 := ⟨⟨_, Tryd.underlying32, ⟨_, rfl⟩⟩, ⟨_, _, Tryd.type32, rfl, rfl, rfl, rfl, rfl, rfl, rfl⟩⟩
theorem tok33 : TyOk Tryd.prog 33 T33 := ⟨⟨_, Tryd.underlying33, ⟨_, _, _, rfl⟩⟩, ⟨_, _, Tryd.type33, rfl, rfl, rfl, rfl, rfl, rfl, rfl⟩⟩
theorem tok34 : TyOk Tryd.prog 34 T34 := ⟨⟨_, Tryd.underlying34, ⟨_, _, _, rfl⟩⟩, ⟨_, _, Tryd.type34, rfl, rfl, rfl, rfl, rfl, rfl, rfl⟩⟩
theorem tok35 : TyOk Tryd.prog 35 T35 := ⟨⟨_, Tryd.underlying35, ⟨_, _, _, rfl⟩⟩, ⟨_, _, Tryd.type35, rfl, rfl, rfl, rfl, rfl, rfl, rfl⟩⟩
theorem tok36 : TyOk Tryd.prog 36 T36 := ⟨⟨_, Tryd.underlying36, ⟨_, _, _, rfl⟩⟩, ⟨_, _, Tryd.type36, rfl, rfl, rfl, rfl, rfl, rfl, rfl⟩⟩
theorem tok38 : TyOk Tryd.prog 38 T38 := ⟨⟨_, Tryd.underlying38, ⟨_, _, _, rfl⟩⟩, ⟨_, _, Tryd.type38, rfl, rfl, rfl, rfl, rfl, rfl, rfl⟩⟩
theorem tok39 : TyOk Tryd.prog 39 T39 := ⟨⟨_, Tryd.underlying39, ⟨_, _, _, rfl⟩⟩, ⟨_, _, Tryd.type39, rfl, rfl, rfl, rfl, rfl, rfl, rfl⟩⟩
theorem tok40 : TyOk Tryd.prog 40 T40 := ⟨⟨_, Tryd.underlying40, ⟨_, _, _, rfl⟩⟩, ⟨_, _, Tryd.type40, rfl, rfl, rfl, rfl, rfl, rfl, rfl⟩⟩
theorem tok41 : TyOk Tryd.prog 41 T41 := ⟨⟨_, Tryd.underlying41, ⟨_, _, _, rfl⟩⟩, ⟨_, _, Tryd.type41, rfl, rfl, rfl, rfl, rfl, rfl, rfl⟩⟩
theorem tok42 : TyOk Tryd.prog 42 T42 := ⟨⟨_, Tryd.underlying42, ⟨_, _, _, rfl⟩⟩, ⟨_, _, Tryd.type42, rfl, rfl, rfl, rfl, rfl, rfl, rfl⟩⟩
theorem tok43 : TyOk Tryd.prog 43 T43 := ⟨⟨_, Tryd.underlying43, rfl⟩, ⟨_, _, Tryd.type43, rfl, rfl, rfl, rfl, rfl, rfl, rfl⟩⟩
theorem tok44 : TyOk Tryd.prog 44 T44 := ⟨⟨_, Tryd.underlying44, ⟨_, rfl, rfl⟩⟩, ⟨_, _, Tryd.type44, rfl, rfl, rfl, rfl, rfl, rfl, rfl⟩⟩
theorem tok45 : TyOk Tryd.prog 45 T45 := ⟨⟨_, Tryd.underlying45, ⟨_, rfl, rfl⟩⟩, ⟨_, _, Tryd.type45, rfl, rfl, rfl, rfl, rfl, rfl, rfl⟩⟩
theorem tok46 : TyOk Tryd.prog 46 T46 := ⟨⟨_, Tryd.underlying46, ⟨_, rfl, rfl⟩⟩, ⟨_, _, Tryd.type46, rfl, rfl, rfl, rfl, rfl, rfl, rfl⟩⟩
theorem tok47 : TyOk Tryd.prog 47 T47 := ⟨⟨_, Tryd.underlying47, ⟨_, rfl, rfl⟩⟩, ⟨_, _, Tryd.type47, rfl, rfl, rfl, rfl, rfl, rfl, rfl⟩⟩
theorem tok49 : TyOk Tryd.prog 49 T49 := ⟨⟨_, Tryd.underlying49, ⟨_, _, _, rfl⟩⟩, ⟨_, _, Tryd.type49, rfl, rfl, rfl, rfl, rfl, rfl, rfl⟩⟩
theorem tok50 : TyOk Tryd.prog 50 T50 := ⟨⟨_, Tryd.underlying50, ⟨_, _, _, rfl⟩⟩, ⟨_, _, Tryd.type50, rfl, rfl, rfl, rfl, rfl, rfl, rfl⟩⟩
theorem tok51 : TyOk Tryd.prog 51 T51 := ⟨⟨_, Tryd.underlying51, ⟨_, _, _, rfl⟩⟩, ⟨_, _, Tryd.type51, rfl, rfl, rfl, rfl, rfl, rfl, rfl⟩⟩
theorem tok52 : TyOk Tryd.prog 52 T52 := ⟨⟨_, Tryd.underlying52, ⟨_, _, _, rfl⟩⟩, ⟨_, _, Tryd.type52, rfl, rfl, rfl, rfl, rfl, rfl, rfl⟩⟩
theorem tok53 : TyOk Tryd.prog 53 T53 := ⟨⟨_, Tryd.underlying53, ⟨_, _, _, rfl⟩⟩, ⟨_, _, Tryd.type53, rfl, rfl, rfl, rfl, rfl, rfl, rfl⟩⟩
theorem tok54 : TyOk Tryd.prog 54 T54 := ⟨⟨_, Tryd.underlying54, rfl⟩, ⟨_, _, Tryd.type54, rfl, rfl, rfl, rfl, rfl, rfl, rfl⟩⟩
theorem tok55 : TyOk Tryd.prog 55 T55 := ⟨⟨_, Tryd.underlying55, rfl⟩, ⟨_, _, Tryd.type55, rfl, rfl, rfl, rfl, rfl, rfl, rfl⟩⟩
theorem tok56 : TyOk Tryd.prog 56 T56 := ⟨⟨_, Tryd.underlying56, ⟨_, _, _, rfl⟩⟩, ⟨_, _, Tryd.type56, rfl, rfl, rfl, rfl, rfl, rfl, rfl⟩⟩
theorem tok57 : TyOk Tryd.prog 57 T57 := ⟨⟨_, Tryd.underlying57, ⟨_, _, _, rfl⟩⟩, ⟨_, _, Tryd.type57, rfl, rfl, rfl, rfl, rfl, rfl, rfl⟩⟩
theorem tok58 : TyOk Tryd.prog 58 T58 := ⟨⟨_, Tryd.underlying58, ⟨_, rfl, rfl⟩⟩, ⟨_, _, Tryd.type58, rfl, rfl, rfl, rfl, rfl, rfl, rfl⟩⟩
theorem tok59 : TyOk Tryd.prog 59 T59 := ⟨⟨_, Tryd.underlying59, ⟨_, rfl, rfl⟩⟩, ⟨_, _, Tryd.type59, rfl, rfl, rfl, rfl, rfl, rfl, rfl⟩⟩
theorem tok60 : TyOk Tryd.prog 60 T60 := ⟨⟨_, Tryd.underlying60, ⟨_, _, _, rfl⟩⟩, ⟨_, _, Tryd.type60, rfl, rfl, rfl, rfl, rfl, rfl, rfl⟩⟩
theorem tok61 : TyOk Tryd.prog 61 T61 := ⟨⟨_, Tryd.underlying61, ⟨_, _, _, rfl⟩⟩, ⟨_, _, Tryd.type61, rfl, rfl, rfl, rfl, rfl, rfl, rfl⟩⟩
theorem tok62 : TyOk Tryd.prog 62 T62 := ⟨⟨_, Tryd.underlying62, ⟨_, _, _, rfl⟩⟩, ⟨_, _, Tryd.type62, rfl, rfl, rfl, rfl, rfl, rfl, rfl⟩⟩
theorem tok63 : TyOk Tryd.prog 63 T63 := ⟨⟨_, Tryd.underlying63, ⟨_, _, _, rfl⟩⟩, ⟨_, _, Tryd.type63, rfl, rfl, rfl, rfl, rfl, rfl, rfl⟩⟩
theorem tok65 : TyOk Tryd.prog 65 T65 := ⟨⟨_, Tryd.underlying65, ⟨_, _, _, rfl⟩⟩, ⟨_, _, Tryd.type65, rfl, rfl, rfl, rfl, rfl, rfl, rfl⟩⟩
theorem tok66 : TyOk Tryd.prog 66 T66 := ⟨⟨_, Tryd.underlying66, rfl⟩, ⟨_, _, Tryd.type66, rfl, rfl, rfl, rfl, rfl, rfl, rfl⟩⟩
theorem tok67 : TyOk Tryd.prog 67 T67 := ⟨⟨_, Tryd.underlying67, ⟨_, _, _, rfl⟩⟩, ⟨_, _, Tryd.type67, rfl, rfl, rfl, rfl, rfl, rfl, rfl⟩⟩
theorem tok68 : TyOk Tryd.prog 68 T68 := ⟨⟨_, Tryd.underlying68, ⟨_, _, _, rfl⟩⟩, ⟨_, _, Tryd.type68, rfl, rfl, rfl, rfl, rfl, rfl, rfl⟩⟩
theorem tok69 : TyOk Tryd.prog 69 T69 := ⟨⟨_, Tryd.underlying69, rfl⟩, ⟨_, _, Tryd.type69, rfl, rfl, rfl, rfl, rfl, rfl, rfl⟩⟩
theorem tok70 : TyOk Tryd.prog 70 T70 := ⟨⟨_, Tryd.underlying70, ⟨_, _, _, rfl⟩⟩, ⟨_, _, Tryd.type70, rfl, rfl, rfl, rfl, rfl, rfl, rfl⟩⟩
theorem tok71 : TyOk Tryd.prog 71 T71 := ⟨⟨_, Tryd.underlying71, ⟨_, rfl, rfl⟩⟩, ⟨_, _, Tryd.type71, rfl, rfl, rfl, rfl, rfl, rfl, rfl⟩⟩
theorem tok72 : TyOk Tryd.prog 72 T72 := ⟨⟨_, Tryd.underlying72, ⟨_, rfl, rfl⟩⟩, ⟨_, _, Tryd.type72, rfl, rfl, rfl, rfl, rfl, rfl, rfl⟩⟩
theorem tok73 : TyOk Tryd.prog 73 T73 := ⟨⟨_, Tryd.underlying73, rfl⟩, ⟨_, _, Tryd.type73, rfl, rfl, rfl, rfl, rfl, rfl, rfl⟩⟩
theorem tok74 : TyOk Tryd.prog 74 T74 := ⟨⟨_, Tryd.underlying74, ⟨_, _, _, rfl⟩⟩, ⟨_, _, Tryd.type74, rfl, rfl, rfl, rfl, rfl, rfl, rfl⟩⟩
theorem tok75 : TyOk Tryd.prog 75 T75 := ⟨⟨_, Tryd.underlying75, ⟨_, _, _, rfl⟩⟩, ⟨_, _, Tryd.type75, rfl, rfl, rfl, rfl, rfl, rfl, rfl⟩⟩
theorem tok76 : TyOk Tryd.prog 76 T76 := ⟨⟨_, Tryd.underlying76, ⟨_, _, _, rfl⟩⟩, ⟨_, _, Tryd.type76, rfl, rfl, rfl, rfl, rfl, rfl, rfl⟩⟩
theorem tok77 : TyOk Tryd.prog 77 T77 := ⟨⟨_, Tryd.underlying77, rfl⟩, ⟨_, _, Tryd.type77, rfl, rfl, rfl, rfl, rfl, rfl, rfl⟩⟩
theorem tok78 : TyOk Tryd.prog 78 T78 := ⟨⟨_, Tryd.underlying78, ⟨_, _, _, rfl⟩⟩, ⟨_, _, Tryd.type78, rfl, rfl, rfl, rfl, rfl, rfl, rfl⟩⟩
theorem tok80 : TyOk Tryd.prog 80 T80 := ⟨⟨_, Tryd.underlying80, ⟨_, _, _, rfl⟩⟩, ⟨_, _, Tryd.type80, rfl, rfl, rfl, rfl, rfl, rfl, rfl⟩⟩
theorem tok82 : TyOk Tryd.prog 82 T82 := ⟨⟨_, Tryd.underlying82, ⟨_, _, _, rfl⟩⟩, ⟨_, _, Tryd.type82, rfl, rfl, rfl, rfl, rfl, rfl, rfl⟩⟩
theorem tok83 : TyOk Tryd.prog 83 T83 := ⟨⟨_, Tryd.underlying83, ⟨_, _, _, rfl⟩⟩, ⟨_, _, Tryd.type83, rfl, rfl, rfl, rfl, rfl, rfl, rfl⟩⟩
theorem tok84 : TyOk Tryd.prog 84 T84 := ⟨⟨_, Tryd.underlying84, ⟨_, _, _, rfl⟩⟩, ⟨_, _, Tryd.type84, rfl, rfl, rfl, rfl, rfl, rfl, rfl⟩⟩
theorem tok85 : TyOk Tryd.prog 85 T85 := ⟨⟨_, Tryd.underlying85, ⟨_, _, _, rfl⟩⟩, ⟨_, _, Tryd.type85, rfl, rfl, rfl, rfl, rfl, rfl, rfl⟩⟩
theorem tok86 : TyOk Tryd.prog 86 T86 := ⟨⟨_, Tryd.underlying86, rfl⟩, ⟨_, _, Tryd.type86, rfl, rfl, rfl, rfl, rfl, rfl, rfl⟩⟩
theorem tok87 : TyOk Tryd.prog 87 T87 := ⟨⟨_, Tryd.underlying87, ⟨_, _, _, rfl⟩⟩, ⟨_, _, Tryd.type87, rfl, rfl, rfl, rfl, rfl, rfl, rfl⟩⟩
theorem tok88 : TyOk Tryd.prog 88 T88 := ⟨⟨_, Tryd.underlying88, ⟨_, rfl, rfl⟩⟩, ⟨_, _, Tryd.type88, rfl, rfl, rfl, rfl, rfl, rfl, rfl⟩⟩
theorem tok89 : TyOk Tryd.prog 89 T89 := ⟨⟨_, Tryd.underlying89, ⟨_, rfl, rfl⟩⟩, ⟨_, _, Tryd.type89, rfl, rfl, rfl, rfl, rfl, rfl, rfl⟩⟩
theorem tok90 : TyOk Tryd.prog 90 T90 := ⟨⟨_, Tryd.underlying90, ⟨_, rfl, rfl⟩⟩, ⟨_, _, Tryd.type90, rfl, rfl, rfl, rfl, rfl, rfl, rfl⟩⟩
theorem tok91 : TyOk Tryd.prog 91 T91 := ⟨⟨_, Tryd.underlying91, ⟨_, rfl, rfl⟩⟩, ⟨_, _, Tryd.type91, rfl, rfl, rfl, rfl, rfl, rfl, rfl⟩⟩
theorem tok92 : TyOk Tryd.prog 92 T92 := ⟨⟨_, Tryd.underlying92, ⟨_, _, _, rfl⟩⟩, ⟨_, _, Tryd.type92, rfl, rfl, rfl, rfl, rfl, rfl, rfl⟩⟩
theorem tok93 : TyOk Tryd.prog 93 T93 := ⟨⟨_, Tryd.underlying93, ⟨_, _, _, rfl⟩⟩, ⟨_, _, Tryd.type93, rfl, rfl, rfl, rfl, rfl, rfl, rfl⟩⟩
theorem tok94 : TyOk Tryd.prog 94 T94 := ⟨⟨_, Tryd.underlying94, ⟨_, _, _, rfl⟩⟩, ⟨_, _, Tryd.type94, rfl, rfl, rfl, rfl, rfl, rfl, rfl⟩⟩
theorem tok95 : TyOk Tryd.prog 95 T95 := ⟨⟨_, Tryd.underlying95, ⟨_, _, _, rfl⟩⟩, ⟨_, _, Tryd.type95, rfl, rfl, rfl, rfl, rfl, rfl, rfl⟩⟩
theorem tok96 : TyOk Tryd.prog 96 T96 := ⟨⟨_, Tryd.underlying96, ⟨_, _, _, rfl⟩⟩, ⟨_, _, Tryd.type96, rfl, rfl, rfl, rfl, rfl, rfl, rfl⟩⟩
theorem tok97 : TyOk Tryd.prog 97 T97 := ⟨⟨_, Tryd.underlying97, ⟨_, _, _, rfl⟩⟩, ⟨_, _, Tryd.type97, rfl, rfl, rfl, rfl, rfl, rfl, rfl⟩⟩
theorem tok98 : TyOk Tryd.prog 98 T98 := ⟨⟨_, Tryd.underlying98, ⟨_, _, _, rfl⟩⟩, ⟨_, _, Tryd.type98, rfl, rfl, rfl, rfl, rfl, rfl, rfl⟩⟩
theorem tok99 : TyOk Tryd.prog 99 T99 := ⟨⟨_, Tryd.underlying99, ⟨_, _, _, rfl⟩⟩, ⟨_, _, Tryd.type99, rfl, rfl, rfl, rfl, rfl, rfl, rfl⟩⟩
theorem tok101 : TyOk Tryd.prog 101 T101 := ⟨⟨_, Tryd.underlying101, ⟨_, _, _, rfl⟩⟩, ⟨_, _, Tryd.type101, rfl, rfl, rfl, rfl, rfl, rfl, rfl⟩⟩
theorem tok102 : TyOk Tryd.prog 102 T102 := ⟨⟨_, Tryd.underlying102, ⟨_, _, _, rfl⟩⟩, ⟨_, _, Tryd.type102, rfl, rfl, rfl, rfl, rfl, rfl, rfl⟩⟩
theorem tok104 : TyOk Tryd.prog 104 T104 := ⟨⟨_, Tryd.underlying104, ⟨_, _, _, rfl⟩⟩, ⟨_, _, Tryd.type104, rfl, rfl, rfl, rfl, rfl, rfl, rfl⟩⟩
theorem tok105 : TyOk Tryd.prog 105 T105 := ⟨⟨_, Tryd.underlying105, rfl⟩, ⟨_, _, Tryd.type105, rfl, rfl, rfl, rfl, rfl, rfl, rfl⟩⟩
theorem tok106 : TyOk Tryd.prog 106 T106 := ⟨⟨_, Tryd.underlying106, ⟨_, rfl, rfl⟩⟩, ⟨_, _, Tryd.type106, rfl, rfl, rfl, rfl, rfl, rfl, rfl⟩⟩
theorem tok107 : TyOk Tryd.prog 107 T107 := ⟨⟨_, Tryd.underlying107, ⟨_, rfl, rfl⟩⟩, ⟨_, _, Tryd.type107, rfl, rfl, rfl, rfl, rfl, rfl, rfl⟩⟩
theorem tok108 : TyOk Tryd.prog 108 T108 := ⟨⟨_, Tryd.underlying108, ⟨_, _, _, rfl⟩⟩, ⟨_, _, Tryd.type108, rfl, rfl, rfl, rfl, rfl, rfl, rfl⟩⟩
theorem tok110 : TyOk Tryd.prog 110 T110 := ⟨⟨_, Tryd.underlying110, rfl⟩, ⟨_, _, Tryd.type110, rfl, rfl, rfl, rfl, rfl, rfl, rfl⟩⟩
theorem tok111 : TyOk Tryd.prog 111 T111 := ⟨⟨_, Tryd.underlying111, ⟨_, rfl, rfl⟩⟩, ⟨_, _, Tryd.type111, rfl, rfl, rfl, rfl, rfl, rfl, rfl⟩⟩
theorem tok112 : TyOk Tryd.prog 112 T112 := ⟨⟨_, Tryd.underlying112, ⟨_, rfl, rfl⟩⟩, ⟨_, _, Tryd.type112, rfl, rfl, rfl, rfl, rfl, rfl, rfl⟩⟩
theorem tok113 : TyOk Tryd.prog 113 T113 := ⟨⟨_, Tryd.underlying113, ⟨_, _, _, rfl⟩⟩, ⟨_, _, Tryd.type113, rfl, rfl, rfl, rfl, rfl, rfl, rfl⟩⟩
theorem tok114 : TyOk Tryd.prog 114 T114 := ⟨⟨_, Tryd.underlying114, ⟨_, rfl⟩⟩, ⟨_, _, Tryd.type114, rfl, rfl, rfl, rfl, rfl, rfl, rfl⟩⟩
theorem tok115 : TyOk Tryd.prog 115 T115 := ⟨⟨_, Tryd.underlying115, ⟨_, rfl⟩⟩, ⟨_, _, Tryd.type115, rfl, rfl, rfl, rfl, rfl, rfl, rfl⟩⟩
theorem tok116 : TyOk Tryd.prog 116 T116 := ⟨⟨_, Tryd.underlying116, ⟨_, _, _, rfl⟩⟩, ⟨_, _, Tryd.type116, rfl, rfl, rfl, rfl, rfl, rfl, rfl⟩⟩
theorem tok117 : TyOk Tryd.prog 117 T117 := ⟨⟨_, Tryd.underlying117, rfl⟩, ⟨_, _, Tryd.type117, rfl, rfl, rfl, rfl, rfl, rfl, rfl⟩⟩
theorem tok118 : TyOk Tryd.prog 118 T118 := ⟨⟨_, Tryd.underlying118, ⟨_, _, _, rfl⟩⟩, ⟨_, _, Tryd.type118, rfl, rfl, rfl, rfl, rfl, rfl, rfl⟩⟩
theorem tok119 : TyOk Tryd.prog 119 T119 := ⟨⟨_, Tryd.underlying119, ⟨_, _, _, rfl⟩⟩, ⟨_, _, Tryd.type119, rfl, rfl, rfl, rfl, rfl, rfl, rfl⟩⟩
theorem tok120 : TyOk Tryd.prog 120 T120 := ⟨⟨_, Tryd.underlying120, ⟨_, _, _, rfl⟩⟩, ⟨_, _, Tryd.type120, rfl, rfl, rfl, rfl, rfl, rfl, rfl⟩⟩
theorem tok121 : TyOk Tryd.prog 121 T121 := ⟨⟨_, Tryd.underlying121, ⟨_, rfl, rfl⟩⟩, ⟨_, _, Tryd.type121, rfl, rfl, rfl, rfl, rfl, rfl, rfl⟩⟩
theorem tok122 : TyOk Tryd.prog 122 T122 := ⟨⟨_, Tryd.underlying122, ⟨_, rfl, rfl⟩⟩, ⟨_, _, Tryd.type122, rfl, rfl, rfl, rfl, rfl, rfl, rfl⟩⟩
theorem tok123 : TyOk Tryd.prog 123 T123 := ⟨⟨_, Tryd.underlying123, rfl⟩, ⟨_, _, Tryd.type123, rfl, rfl, rfl, rfl, rfl, rfl, rfl⟩⟩
theorem tok124 : TyOk Tryd.prog 124 T124 := ⟨⟨_, Tryd.underlying124, ⟨_, _, _, rfl⟩⟩, ⟨_, _, Tryd.type124, rfl, rfl, rfl, rfl, rfl, rfl, rfl⟩⟩
theorem tok125 : TyOk Tryd.prog 125 T125 := ⟨⟨_, Tryd.underlying125, ⟨_, _, _, rfl⟩⟩, ⟨_, _, Tryd.type125, rfl, rfl, rfl, rfl, rfl, rfl, rfl⟩⟩
theorem tok126 : TyOk Tryd.prog 126 T126 := ⟨⟨_, Tryd.underlying126, ⟨_, _, _, rfl⟩⟩, ⟨_, _, Tryd.type126, rfl, rfl, rfl, rfl, rfl, rfl, rfl⟩⟩
theorem tok127 : TyOk Tryd.prog 127 T127 := ⟨⟨_, Tryd.underlying127, ⟨_, _, _, rfl⟩⟩, ⟨_, _, Tryd.type127, rfl, rfl, rfl, rfl, rfl, rfl, rfl⟩⟩
theorem tok128 : TyOk Tryd.prog 128 T128 := ⟨⟨_, Tryd.underlying128, rfl⟩, ⟨_, _, Tryd.type128, rfl, rfl, rfl, rfl, rfl, rfl, rfl⟩⟩
theorem tok129 : TyOk Tryd.prog 129 T129 := ⟨⟨_, Tryd.underlying129, ⟨_, rfl, rfl⟩⟩, ⟨_, _, Tryd.type129, rfl, rfl, rfl, rfl, rfl, rfl, rfl⟩⟩
theorem tok130 : TyOk Tryd.prog 130 T130 := ⟨⟨_, Tryd.underlying130, ⟨_, rfl, rfl⟩⟩, ⟨_, _, Tryd.type130, rfl, rfl, rfl, rfl, rfl, rfl, rfl⟩⟩
theorem tok131 : TyOk Tryd.prog 131 T131 := ⟨⟨_, Tryd.underlying131, ⟨_, _, _, rfl⟩⟩, ⟨_, _, Tryd.type131, rfl, rfl, rfl, rfl, rfl, rfl, rfl⟩⟩
theorem tok132 : TyOk Tryd.prog 132 T132 := ⟨⟨_, Tryd.underlying132, ⟨_, _, _, rfl⟩⟩, ⟨_, _, Tryd.type132, rfl, rfl, rfl, rfl, rfl, rfl, rfl⟩⟩
theorem tok133 : TyOk Tryd.prog 133 T133 := ⟨⟨_, Tryd.underlying133, ⟨_, _, _, rfl⟩⟩, ⟨_, _, Tryd.type133, rfl, rfl, rfl, rfl, rfl, rfl, rfl⟩⟩
theorem tok134 : TyOk Tryd.prog 134 T134 := ⟨⟨_, Tryd.underlying134, ⟨_, _, _, rfl⟩⟩, ⟨_, _, Tryd.type134, rfl, rfl, rfl, rfl, rfl, rfl, rfl⟩⟩
theorem tok135 : TyOk Tryd.prog 135 T135 := ⟨⟨_, Tryd.underlying135, ⟨_, _, _, rfl⟩⟩, ⟨_, _, Tryd.type135, rfl, rfl, rfl, rfl, rfl, rfl, rfl⟩⟩
theorem tok136 : TyOk Tryd.prog 136 T136 := ⟨⟨_, Tryd.underlying136, ⟨_, _, _, rfl⟩⟩, ⟨_, _, Tryd.type136, rfl, rfl, rfl, rfl, rfl, rfl, rfl⟩⟩
theorem tok137 : TyOk Tryd.prog 137 T137 := ⟨⟨_, Tryd.underlying137, ⟨_, rfl, rfl⟩⟩, ⟨_, _, Tryd.type137, rfl, rfl, rfl, rfl, rfl, rfl, rfl⟩⟩
theorem tok138 : TyOk Tryd.prog 138 T138 := ⟨⟨_, Tryd.underlying138, ⟨_, rfl, rfl⟩⟩, ⟨_, _, Tryd.type138, rfl, rfl, rfl, rfl, rfl, rfl, rfl⟩⟩
theorem tok139 : TyOk Tryd.prog 139 T139 := ⟨⟨_, Tryd.underlying139, rfl⟩, ⟨_, _, Tryd.type139, rfl, rfl, rfl, rfl, rfl, rfl, rfl⟩⟩
theorem tok140 : TyOk Tryd.prog 140 T140 := ⟨⟨_, Tryd.underlying140, ⟨_, _, _, rfl⟩⟩, ⟨_, _, Tryd.type140, rfl, rfl, rfl, rfl, rfl, rfl, rfl⟩⟩
theorem tok141 : TyOk Tryd.prog 141 T141 := ⟨⟨_, Tryd.underlying141, ⟨_, _, _, rfl⟩⟩, ⟨_, _, Tryd.type141, rfl, rfl, rfl, rfl, rfl, rfl, rfl⟩⟩
theorem tok142 : TyOk Tryd.prog 142 T142 := ⟨⟨_, Tryd.underlying142, ⟨_, _, _, rfl⟩⟩, ⟨_, _, Tryd.type142, rfl, rfl, rfl, rfl, rfl, rfl, rfl⟩⟩
theorem tok143 : TyOk Tryd.prog 143 T143 := ⟨⟨_, Tryd.underlying143, ⟨_, rfl⟩⟩, ⟨_, _, Tryd.type143, rfl, rfl, rfl, rfl, rfl, rfl, rfl⟩⟩
theorem tok145 : TyOk Tryd.prog 145 T145 := ⟨⟨_, Tryd.underlying145, ⟨_, _, _, rfl⟩⟩, ⟨_, _, Tryd.type145, rfl, rfl, rfl, rfl, rfl, rfl, rfl⟩⟩
theorem tok146 : TyOk Tryd.prog 146 T146 := ⟨⟨_, Tryd.underlying146, ⟨_, rfl⟩⟩, ⟨_, _, Tryd.type146, rfl, rfl, rfl, rfl, rfl, rfl, rfl⟩⟩
theorem tok147 : TyOk Tryd.prog 147 T147 := ⟨⟨_, Tryd.underlying147, ⟨_, rfl⟩⟩, ⟨_, _, Tryd.type147, rfl, rfl, rfl, rfl, rfl, rfl, rfl⟩⟩
theorem tok148 : TyOk Tryd.prog 148 T148 := ⟨⟨_, Tryd.underlying148, rfl⟩, ⟨_, _, Tryd.type148, rfl, rfl, rfl, rfl, rfl, rfl, rfl⟩⟩
theorem tok149 : TyOk Tryd.prog 149 T149 := ⟨⟨_, Tryd.underlying149, ⟨_, _, _, rfl⟩⟩, ⟨_, _, Tryd.type149, rfl, rfl, rfl, rfl, rfl, rfl, rfl⟩⟩
theorem tok150 : TyOk Tryd.prog 150 T150 := ⟨⟨_, Tryd.underlying150, ⟨_, _, _, rfl⟩⟩, ⟨_, _, Tryd.type150, rfl, rfl, rfl, rfl, rfl, rfl, rfl⟩⟩
theorem tok151 : TyOk Tryd.prog 151 T151 := ⟨⟨_, Tryd.underlying151, ⟨_, _, _, rfl⟩⟩, ⟨_, _, Tryd.type151, rfl, rfl, rfl, rfl, rfl, rfl, rfl⟩⟩
theorem tok152 : TyOk Tryd.prog 152 T152 := ⟨⟨_, Tryd.underlying152, rfl⟩, ⟨_, _, Tryd.type152, rfl, rfl, rfl, rfl, rfl, rfl, rfl⟩⟩
theorem tok153 : TyOk Tryd.prog 153 T153 := ⟨⟨_, Tryd.underlying153, ⟨_, _, _, rfl⟩⟩, ⟨_, _, Tryd.type153, rfl, rfl, rfl, rfl, rfl, rfl, rfl⟩⟩
theorem tok154 : TyOk Tryd.prog 154 T154 := ⟨⟨_, Tryd.underlying154, ⟨_, _, _, rfl⟩⟩, ⟨_, _, Tryd.type154, rfl, rfl, rfl, rfl, rfl, rfl, rfl⟩⟩
theorem tok156 : TyOk Tryd.prog 156 T156 := ⟨⟨_, Tryd.underlying156, ⟨_, _, _, rfl⟩⟩, ⟨_, _, Tryd.type156, rfl, rfl, rfl, rfl, rfl, rfl, rfl⟩⟩
theorem tok157 : TyOk Tryd.prog 157 T157 := ⟨⟨_, Tryd.underlying157, ⟨_, _, _, rfl⟩⟩, ⟨_, _, Tryd.type157, rfl, rfl, rfl, rfl, rfl, rfl, rfl⟩⟩
theorem tok158 : TyOk Tryd.prog 158 T158 := ⟨⟨_, Tryd.underlying158, rfl⟩, ⟨_, _, Tryd.type158, rfl, rfl, rfl, rfl, rfl, rfl, rfl⟩⟩
theorem tok160 : TyOk Tryd.prog 160 T160 := ⟨⟨_, Tryd.underlying160, ⟨_, _, _, rfl⟩⟩, ⟨_, _, Tryd.type160, rfl, rfl, rfl, rfl, rfl, rfl, rfl⟩⟩
theorem tok161 : TyOk Tryd.prog 161 T161 := ⟨⟨_, Tryd.underlying161, ⟨_, _, _, rfl⟩⟩, ⟨_, _, Tryd.type161, rfl, rfl, rfl, rfl, rfl, rfl, rfl⟩⟩
theorem tok162 : TyOk Tryd.prog 162 T162 := ⟨⟨_, Tryd.underlying162, ⟨_, _, _, rfl⟩⟩, ⟨_, _, Tryd.type162, rfl, rfl, rfl, rfl, rfl, rfl, rfl⟩⟩
theorem tok163 : TyOk Tryd.prog 163 T163 := ⟨⟨_, Tryd.underlying163, ⟨_, _, _, rfl⟩⟩, ⟨_, _, Tryd.type163, rfl, rfl, rfl, rfl, rfl, rfl, rfl⟩⟩
theorem tok164 : TyOk Tryd.prog 164 T164 := ⟨⟨_, Tryd.underlying164, ⟨_, _, _, rfl⟩⟩, ⟨_, _, Tryd.type164, rfl, rfl, rfl, rfl, rfl, rfl, rfl⟩⟩
theorem tok165 : TyOk Tryd.prog 165 T165 := ⟨⟨_, Tryd.underlying165, ⟨_, _, _, rfl⟩⟩, ⟨_, _, Tryd.type165, rfl, rfl, rfl, rfl, rfl, rfl, rfl⟩⟩
theorem tok166 : TyOk Tryd.prog 166 T166 := ⟨⟨_, Tryd.underlying166, rfl⟩, ⟨_, _, Tryd.type166, rfl, rfl, rfl, rfl, rfl, rfl, rfl⟩⟩
theorem tok167 : TyOk Tryd.prog 167 T167 := ⟨⟨_, Tryd.underlying167, ⟨_, _, _, rfl⟩⟩, ⟨_, _, Tryd.type167, rfl, rfl, rfl, rfl, rfl, rfl, rfl⟩⟩
theorem tok168 : TyOk Tryd.prog 168 T168 := ⟨⟨_, Tryd.underlying168, rfl⟩, ⟨_, _, Tryd.type168, rfl, rfl, rfl, rfl, rfl, rfl, rfl⟩⟩
theorem tok169 : TyOk Tryd.prog 169 T169 := ⟨⟨_, Tryd.underlying169, ⟨_, _, _, rfl⟩⟩, ⟨_, _, Tryd.type169, rfl, rfl, rfl, rfl, rfl, rfl, rfl⟩⟩
theorem tok171 : TyOk Tryd.prog 171 T171 := ⟨⟨_, Tryd.underlying171, ⟨_, _, _, rfl⟩⟩, ⟨_, _, Tryd.type171, rfl, rfl, rfl, rfl, rfl, rfl, rfl⟩⟩
theorem tok172 : TyOk Tryd.prog 172 T172 := ⟨⟨_, Tryd.underlying172, rfl⟩, ⟨_, _, Tryd.type172, rfl, rfl, rfl, rfl, rfl, rfl, rfl⟩⟩
theorem tok173 : TyOk Tryd.prog 173 T173 := ⟨⟨_, Tryd.underlying173, ⟨_, _, _, rfl⟩⟩, ⟨_, _, Tryd.type173, rfl, rfl, rfl, rfl, rfl, rfl, rfl⟩⟩
theorem tok174 : TyOk Tryd.prog 174 T174 := ⟨⟨_, Tryd.underlying174, ⟨_, _, _, rfl⟩⟩, ⟨_, _, Tryd.type174, rfl, rfl, rfl, rfl, rfl, rfl, rfl⟩⟩
theorem tok175 : TyOk Tryd.prog 175 T175 := ⟨⟨_, Tryd.underlying175, ⟨_, _, _, rfl⟩⟩, ⟨_, _, Tryd.type175, rfl, rfl, rfl, rfl, rfl, rfl, rfl⟩⟩
theorem tok176 : TyOk Tryd.prog 176 T176 := ⟨⟨_, Tryd.underlying176, rfl⟩, ⟨_, _, Tryd.type176, rfl, rfl, rfl, rfl, rfl, rfl, rfl⟩⟩
theorem tok177 : TyOk Tryd.prog 177 T177 := ⟨⟨_, Tryd.underlying177, ⟨_, _, _, rfl⟩⟩, ⟨_, _, Tryd.type177, rfl, rfl, rfl, rfl, rfl, rfl, rfl⟩⟩
theorem tok178 : TyOk Tryd.prog 178 T178 := ⟨⟨_, Tryd.underlying178, rfl⟩, ⟨_, _, Tryd.type178, rfl, rfl, rfl, rfl, rfl, rfl, rfl⟩⟩
theorem tok180 : TyOk Tryd.prog 180 T180 := ⟨⟨_, Tryd.underlying180, ⟨_, _, _, rfl⟩⟩, ⟨_, _, Tryd.type180, rfl, rfl, rfl, rfl, rfl, rfl, rfl⟩⟩
theorem tok181 : TyOk Tryd.prog 181 T181 := ⟨⟨_, Tryd.underlying181, ⟨_, _, _, rfl⟩⟩, ⟨_, _, Tryd.type181, rfl, rfl, rfl, rfl, rfl, rfl, rfl⟩⟩
theorem tok182 : TyOk Tryd.prog 182 T182 := ⟨⟨_, Tryd.underlying182, ⟨_, rfl, rfl⟩⟩, ⟨_, _, Tryd.type182, rfl, rfl, rfl, rfl, rfl, rfl, rfl⟩⟩
theorem tok183 : TyOk Tryd.prog 183 T183 := ⟨⟨_, Tryd.underlying183, ⟨_, rfl, rfl⟩⟩, ⟨_, _, Tryd.type183, rfl, rfl, rfl, rfl, rfl, rfl, rfl⟩⟩
theorem tok184 : TyOk Tryd.prog 184 T184 := ⟨⟨_, Tryd.underlying184, rfl⟩, ⟨_, _, Tryd.type184, rfl, rfl, rfl, rfl, rfl, rfl, rfl⟩⟩
theorem tok185 : TyOk Tryd.prog 185 T185 := ⟨⟨_, Tryd.underlying185, ⟨_, rfl, rfl⟩⟩, ⟨_, _, Tryd.type185, rfl, rfl, rfl, rfl, rfl, rfl, rfl⟩⟩
theorem tok186 : TyOk Tryd.prog 186 T186 := ⟨⟨_, Tryd.underlying186, ⟨_, rfl, rfl⟩⟩, ⟨_, _, Tryd.type186, rfl, rfl, rfl, rfl, rfl, rfl, rfl⟩⟩
theorem tok187 : TyOk Tryd.prog 187 T187 := ⟨⟨_, Tryd.underlying187, ⟨_, _, _, rfl⟩⟩, ⟨_, _, Tryd.type187, rfl, rfl, rfl, rfl, rfl, rfl, rfl⟩⟩
theorem tok188 : TyOk Tryd.prog 188 T188 := ⟨⟨_, Tryd.underlying188, rfl⟩, ⟨_, _, Tryd.type188, rfl, rfl, rfl, rfl, rfl, rfl, rfl⟩⟩
theorem tok189 : TyOk Tryd.prog 189 T189 := ⟨⟨_, Tryd.underlying189, ⟨_, _, _, rfl⟩⟩, ⟨_, _, Tryd.type189, rfl, rfl, rfl, rfl, rfl, rfl, rfl⟩⟩
theorem tok190 : TyOk Tryd.prog 190 T190 := ⟨⟨_, Tryd.underlying190, rfl⟩, ⟨_, _, Tryd.type190, rfl, rfl, rfl, rfl, rfl, rfl, rfl⟩⟩
theorem tok191 : TyOk Tryd.prog 191 T191 := ⟨⟨_, Tryd.underlying191, rfl⟩, ⟨_, _, Tryd.type191, rfl, rfl, rfl, rfl, rfl, rfl, rfl⟩⟩
theorem tok192 : TyOk Tryd.prog 192 T192 := ⟨⟨_, Tryd.underlying192, rfl⟩, ⟨_, _, Tryd.type192, rfl, rfl, rfl, rfl, rfl, rfl, rfl⟩⟩
theorem tok193 : TyOk Tryd.prog 193 T193 := ⟨⟨_, Tryd.underlying193, ⟨_, rfl, rfl⟩⟩, ⟨_, _, Tryd.type193, rfl, rfl, rfl, rfl, rfl, rfl, rfl⟩⟩
theorem tok194 : TyOk Tryd.prog 194 T194 := ⟨⟨_, Tryd.underlying194, ⟨_, rfl, rfl⟩⟩, ⟨_, _, Tryd.type194, rfl, rfl, rfl, rfl, rfl, rfl, rfl⟩⟩
theorem tok195 : TyOk Tryd.prog 195 T195 := ⟨⟨_, Tryd.underlying195, ⟨_, _, _, rfl⟩⟩, ⟨_, _, Tryd.type195, rfl, rfl, rfl, rfl, rfl, rfl, rfl⟩⟩
theorem tok196 : TyOk Tryd.prog 196 T196 := ⟨⟨_, Tryd.underlying196, ⟨_, _, _, rfl⟩⟩, ⟨_, _, Tryd.type196, rfl, rfl, rfl, rfl, rfl, rfl, rfl⟩⟩
theorem tok197 : TyOk Tryd.prog 197 T197 := ⟨⟨_, Tryd.underlying197, ⟨_, rfl, rfl⟩⟩, ⟨_, _, Tryd.type197, rfl, rfl, rfl, rfl, rfl, rfl, rfl⟩⟩
theorem tok198 : TyOk Tryd.prog 198 T198 := ⟨⟨_, Tryd.underlying198, ⟨_, rfl, rfl⟩⟩, ⟨_, _, Tryd.type198, rfl, rfl, rfl, rfl, rfl, rfl, rfl⟩⟩
theorem tok199 : TyOk Tryd.prog 199 T199 := ⟨⟨_, Tryd.underlying199, rfl⟩, ⟨_, _, Tryd.type199, rfl, rfl, rfl, rfl, rfl, rfl, rfl⟩⟩
theorem tok200 : TyOk Tryd.prog 200 T200 := ⟨⟨_, Tryd.underlying200, ⟨_, _, _, rfl⟩⟩, ⟨_, _, Tryd.type200, rfl, rfl, rfl, rfl, rfl, rfl, rfl⟩⟩
theorem tok201 : TyOk Tryd.prog 201 T201 := ⟨⟨_, Tryd.underlying201, rfl⟩, ⟨_, _, Tryd.type201, rfl, rfl, rfl, rfl, rfl, rfl, rfl⟩⟩
theorem tok202 : TyOk Tryd.prog 202 T202 := ⟨⟨_, Tryd.underlying202, ⟨_, rfl, rfl⟩⟩, ⟨_, _, Tryd.type202, rfl, rfl, rfl, rfl, rfl, rfl, rfl⟩⟩
theorem tok203 : TyOk Tryd.prog 203 T203 := ⟨⟨_, Tryd.underlying203, ⟨_, rfl, rfl⟩⟩, ⟨_, _, Tryd.type203, rfl, rfl, rfl, rfl, rfl, rfl, rfl⟩⟩
theorem tok204 : TyOk Tryd.prog 204 T204 := ⟨⟨_, Tryd.underlying204, rfl⟩, ⟨_, _, Tryd.type204, rfl, rfl, rfl, rfl, rfl, rfl, rfl⟩⟩
theorem tok205 : TyOk Tryd.prog 205 T205 := ⟨⟨_, Tryd.underlying205, rfl⟩, ⟨_, _, Tryd.type205, rfl, rfl, rfl, rfl, rfl, rfl, rfl⟩⟩
theorem tok206 : TyOk Tryd.prog 206 T206 := ⟨⟨_, Tryd.underlying206, ⟨_, rfl, rfl⟩⟩, ⟨_, _, Tryd.type206, rfl, rfl, rfl, rfl, rfl, rfl, rfl⟩⟩
theorem tok207 : TyOk Tryd.prog 207 T207 := ⟨⟨_, Tryd.underlying207, ⟨_, rfl, rfl⟩⟩, ⟨_, _, Tryd.type207, rfl, rfl, rfl, rfl, rfl, rfl, rfl⟩⟩
theorem tok208 : TyOk Tryd.prog 208 T208 := ⟨⟨_, Tryd.underlying208, rfl⟩, ⟨_, _, Tryd.type208, rfl, rfl, rfl, rfl, rfl, rfl, rfl⟩⟩
def tyL : List (Nat × TI) := [(1, T1), (2, T2), (3, T3), (4, T4), (5, T5), (6, T6), (7, T7), (8, T8), (9, T9), (10, T10), (11, T11), (12, T12), (13, T13), (14, T14), (15, T15), (16, T16), (17, T17), (18, T18), (19, T19), (20, T20), (21, T21), (22, T22), (23, T23), (24, T24), (25, T25), (26, T26), (28, T28), (29, T29), (30, T30), (31, T31), (32, T32), (33, T33), (34, T34), (35, T35), (36, T36), (38, T38), (39, T39), (40, T40), (41, T41), (42, T42), (43, T43), (44, T44), (45, T45), (46, T46), (47, T47), (49, T49), (50, T50), (51, T51), (52, T52), (53, T53), (54, T54), (55, T55), (56, T56), (57, T57), (58, T58), (59, T59), (60, T60), (61, T61), (62, T62), (63, T63), (65, T65), (66, T66), (67, T67), (68, T68), (69, T69), (70, T70), (71, T71), (72, T72), (73, T73), (74, T74), (75, T75), (76, T76), (77, T77), (78, T78), (80, T80), (82, T82), (83, T83), (84, T84), (85, T85), (86, T86), (87, T87), (88, T88), (89, T89), (90, T90), (91, T91), (92, T92), (93, T93), (94, T94), (95, T95), (96, T96), (97, T97), (98, T98), (99, T99), (101, T101), (102, T102), (104, T104), (105, T105), (106, T106), (107, T107), (108, T108), (110, T110), (111, T111), (112, T112), (113, T113), (114, T114), (115, T115), (116, T116), (117, T117), (118, T118), (119, T119), (120, T120), (121, T121), (122, T122), (123, T123), (124, T124), (125, T125), (126, T126), (127, T127), (128, T128), (129, T129), (130, T130), (131, T131), (132, T132), (133, T133), (134, T134), (135, T135), (136, T136), (137, T137), (138, T138), (139, T139), (140, T140), (141, T141), (142, T142), (143, T143), (145, T145), (146, T146), (147, T147), (148, T148), (149, T149), (150, T150), (151, T151), (152, T152), (153, T153), (154, T154), (156, T156), (157, T157), (158, T158), (160, T160), (161, T161), (162, T162), (163, T163), (164, T164), (165, T165), (166, T166), (167, T167), (168, T168), (169, T169), (171, T171), (172, T172), (173, T173), (174, T174), (175, T175), (176, T176), (177, T177), (178, T178), (180, T180), (181, T181), (182, T182), (183, T183), (184, T184), (185, T185), (186, T186), (187, T187), (188, T188), (189, T189), (190, T190), (191, T191), (192, T192), (193, T193), (194, T194), (195, T195), (196, T196), (197, T197), (198, T198), (199, T199), (200, T200), (201, T201), (202, T202), (203, T203), (204, T204), (205, T205), (206, T206), (207, T207), (208, T208)]
theorem tyL_ok : ∀ x ∈ tyL, TyOk Tryd.prog x.1 x.2 := List.forall_mem_cons.2 ⟨tok1, List.forall_mem_cons.2 ⟨tok2, List.forall_mem_cons.2 ⟨tok3, List.forall_mem_cons.2 ⟨tok4, List.forall_mem_cons.2 ⟨tok5, List.forall_mem_cons.2 ⟨tok6, List.forall_mem_cons.2 ⟨tok7, List.forall_mem_cons.2 ⟨tok8, List.forall_mem_cons.2 ⟨tok9, List.forall_mem_cons.2 ⟨tok10, List.forall_mem_cons.2 ⟨tok11, List.forall_mem_cons.2 ⟨tok12, List.forall_mem_cons.2 ⟨tok13, List.forall_mem_cons.2 ⟨tok14, List.forall_mem_cons.2 ⟨tok15, List.forall_mem_cons.2 ⟨tok16, List.forall_mem_cons.2 ⟨tok17, List.forall_mem_cons.2 ⟨tok18, List.forall_mem_cons.2 ⟨tok19, List.forall_mem_cons.2 ⟨tok20, List.forall_mem_cons.2 ⟨tok21, List.forall_mem_cons.2 ⟨tok22, List.forall_mem_cons.2 ⟨tok23, List.forall_mem_cons.2 ⟨tok24, List.forall_mem_cons.2 ⟨tok25, List.forall_mem_cons.2 ⟨tok26, List.forall_mem_cons.2 ⟨tok28, List.forall_mem_cons.2 ⟨tok29, List.forall_mem_cons.2 ⟨tok30, List.forall_mem_cons.2 ⟨tok31, List.forall_mem_cons.2 ⟨tok32, List.forall_mem_cons.2 ⟨tok33, List.forall_mem_cons.2 ⟨tok34, List.forall_mem_cons.2 ⟨tok35, List.forall_mem_cons.2 ⟨tok36, List.forall_mem_cons.2 ⟨tok38, List.forall_mem_cons.2 ⟨tok39, List.forall_mem_cons.2 ⟨tok40, List.forall_mem_cons.2 ⟨tok41, List.forall_mem_cons.2 ⟨tok42, List.forall_mem_cons.2 ⟨tok43, List.forall_mem_cons.2 ⟨tok44, List.forall_mem_cons.2 ⟨tok45, List.forall_mem_cons.2 ⟨tok46, List.forall_mem_cons.2 ⟨tok47, List.forall_mem_cons.2 ⟨tok49, List.forall_mem_cons.2 ⟨tok50, List.forall_mem_cons.2 ⟨tok51, List.forall_mem_cons.2 ⟨tok52, List.forall_mem_cons.2 ⟨tok53, List.forall_mem_cons.2 ⟨tok54, List.forall_mem_cons.2 ⟨tok55, List.forall_mem_cons.2 ⟨tok56, List.forall_mem_cons.2 ⟨tok57, List.forall_mem_cons.2 ⟨tok58, List.forall_mem_cons.2 ⟨tok59, List.forall_mem_cons.2 ⟨tok60, List.forall_mem_cons.2 ⟨tok61, List.forall_mem_cons.2 ⟨tok62, List.forall_mem_cons.2 ⟨tok63, List.forall_mem_cons.2 ⟨tok65, List.forall_mem_cons.2 ⟨tok66, List.forall_mem_cons.2 ⟨tok67, List.forall_mem_cons.2 ⟨tok68, List.forall_mem_cons.2 ⟨tok69, List.forall_mem_cons.2 ⟨tok70, List.forall_mem_cons.2 ⟨tok71, List.forall_mem_cons.2 ⟨tok72, List.forall_mem_cons.2 ⟨tok73, List.forall_mem_cons.2 ⟨tok74, List.forall_mem_cons.2 ⟨tok75, List.forall_mem_cons.2 ⟨tok76, List.forall_mem_cons.2 ⟨tok77, List.forall_mem_cons.2 ⟨tok78, List.forall_mem_cons.2 ⟨tok80, List.forall_mem_cons.2 ⟨tok82, List.forall_mem_cons.2 ⟨tok83, List.forall_mem_cons.2 ⟨tok84, List.forall_mem_cons.2 ⟨tok85, List.forall_mem_cons.2 ⟨tok86, List.forall_mem_cons.2 ⟨tok87, List.forall_mem_cons.2 ⟨tok88, List.forall_mem_cons.2 ⟨tok89, List.forall_mem_cons.2 ⟨tok90, List.forall_mem_cons.2 ⟨tok91, List.forall_mem_cons.2 ⟨tok92, List.forall_mem_cons.2 ⟨tok93, List.forall_mem_cons.2 ⟨tok94, List.forall_mem_cons.2 ⟨tok95, List.forall_mem_cons.2 ⟨tok96, List.forall_mem_cons.2 ⟨tok97, List.forall_mem_cons.2 ⟨tok98, List.forall_mem_cons.2 ⟨tok99, List.forall_mem_cons.2 ⟨tok101, List.forall_mem_cons.2 ⟨tok102, List.forall_mem_cons.2 ⟨tok104, List.forall_mem_cons.2 ⟨tok105, List.forall_mem_cons.2 ⟨tok106, List.forall_mem_cons.2 ⟨tok107, List.forall_mem_cons.2 ⟨tok108, List.forall_mem_cons.2 ⟨tok110, List.forall_mem_cons.2 ⟨tok111, List.forall_mem_cons.2 ⟨tok112, List.forall_mem_cons.2 ⟨tok113, List.forall_mem_cons.2 ⟨tok114, List.forall_mem_cons.2 ⟨tok115, List.forall_mem_cons.2 ⟨tok116, List.forall_mem_cons.2 ⟨tok117, List.forall_mem_cons.2 ⟨tok118, List.forall_mem_cons.2 ⟨tok119, List.forall_mem_cons.2 ⟨tok120, List.forall_mem_cons.2 ⟨tok121, List.forall_mem_cons.2 ⟨tok122, List.forall_mem_cons.2 ⟨tok123, List.forall_mem_cons.2 ⟨tok124, List.forall_mem_cons.2 ⟨tok125, List.forall_mem_cons.2 ⟨tok126, List.forall_mem_cons.2 ⟨tok127, List.forall_mem_cons.2 ⟨tok128, List.forall_mem_cons.2 ⟨tok129, List.forall_mem_cons.2 ⟨tok130, List.forall_mem_cons.2 ⟨tok131, List.forall_mem_cons.2 ⟨tok132, List.forall_mem_cons.2 ⟨tok133, List.forall_mem_cons.2 ⟨tok134, List.forall_mem_cons.2 ⟨tok135, List.forall_mem_cons.2 ⟨tok136, List.forall_mem_cons.2 ⟨tok137, List.forall_mem_cons.2 ⟨tok138, List.forall_mem_cons.2 ⟨tok139, List.forall_mem_cons.2 ⟨tok140, List.forall_mem_cons.2 ⟨tok141, List.forall_mem_cons.2 ⟨tok142, List.forall_mem_cons.2 ⟨tok143, List.forall_mem_cons.2 ⟨tok145, List.forall_mem_cons.2 ⟨tok146, List.forall_mem_cons.2 ⟨tok147, List.forall_mem_cons.2 ⟨tok148, List.forall_mem_cons.2 ⟨tok149, List.forall_mem_cons.2 ⟨tok150, List.forall_mem_cons.2 ⟨tok151, List.forall_mem_cons.2 ⟨tok152, List.forall_mem_cons.2 ⟨tok153, List.forall_mem_cons.2 ⟨tok154, List.forall_mem_cons.2 ⟨tok156, List.forall_mem_cons.2 ⟨tok157, List.forall_mem_cons.2 ⟨tok158, List.forall_mem_cons.2 ⟨tok160, List.forall_mem_cons.2 ⟨tok161, List.forall_mem_cons.2 ⟨tok162, List.forall_mem_cons.2 ⟨tok163, List.forall_mem_cons.2 ⟨tok164, List.forall_mem_cons.2 ⟨tok165, List.forall_mem_cons.2 ⟨tok166, List.forall_mem_cons.2 ⟨tok167, List.forall_mem_cons.2 ⟨tok168, List.forall_mem_cons.2 ⟨tok169, List.forall_mem_cons.2 ⟨tok171, List.forall_mem_cons.2 ⟨tok172, List.forall_mem_cons.2 ⟨tok173, List.forall_mem_cons.2 ⟨tok174, List.forall_mem_cons.2 ⟨tok175, List.forall_mem_cons.2 ⟨tok176, List.forall_mem_cons.2 ⟨tok177, List.forall_mem_cons.2 ⟨tok178, List.forall_mem_cons.2 ⟨tok180, List.forall_mem_cons.2 ⟨tok181, List.forall_mem_cons.2 ⟨tok182, List.forall_mem_cons.2 ⟨tok183, List.forall_mem_cons.2 ⟨tok184, List.forall_mem_cons.2 ⟨tok185, List.forall_mem_cons.2 ⟨tok186, List.forall_mem_cons.2 ⟨tok187, List.forall_mem_cons.2 ⟨tok188, List.forall_mem_cons.2 ⟨tok189, List.forall_mem_cons.2 ⟨tok190, List.forall_mem_cons.2 ⟨tok191, List.forall_mem_cons.2 ⟨tok192, List.forall_mem_cons.2 ⟨tok193, List.forall_mem_cons.2 ⟨tok194, List.forall_mem_cons.2 ⟨tok195, List.forall_mem_cons.2 ⟨tok196, List.forall_mem_cons.2 ⟨tok197, List.forall_mem_cons.2 ⟨tok198, List.forall_mem_cons.2 ⟨tok199, List.forall_mem_cons.2 ⟨tok200, List.forall_mem_cons.2 ⟨tok201, List.forall_mem_cons.2 ⟨tok202, List.forall_mem_cons.2 ⟨tok203, List.forall_mem_cons.2 ⟨tok204, List.forall_mem_cons.2 ⟨tok205, List.forall_mem_cons.2 ⟨tok206, List.forall_mem_cons.2 ⟨tok207, List.forall_mem_cons.2 ⟨tok208, fun x hx => by cases hx⟩⟩⟩⟩⟩⟩⟩⟩⟩⟩⟩⟩⟩⟩⟩⟩⟩⟩⟩⟩⟩⟩⟩⟩⟩⟩⟩⟩⟩⟩⟩⟩⟩⟩⟩⟩⟩⟩⟩⟩⟩⟩⟩⟩⟩⟩⟩⟩⟩⟩⟩⟩⟩⟩⟩⟩⟩⟩⟩⟩⟩⟩⟩⟩⟩⟩⟩⟩⟩⟩⟩⟩⟩⟩⟩⟩⟩⟩⟩⟩⟩⟩⟩⟩⟩⟩⟩⟩⟩⟩⟩⟩⟩⟩⟩⟩⟩⟩⟩⟩⟩⟩⟩⟩⟩⟩⟩⟩⟩⟩⟩⟩⟩⟩⟩⟩⟩⟩⟩⟩⟩⟩⟩⟩⟩⟩⟩⟩⟩⟩⟩⟩⟩⟩⟩⟩⟩⟩⟩⟩⟩⟩⟩⟩⟩⟩⟩⟩⟩⟩⟩⟩⟩⟩⟩⟩⟩⟩⟩⟩⟩⟩⟩⟩⟩⟩⟩⟩⟩⟩⟩⟩⟩⟩⟩⟩⟩⟩⟩⟩⟩⟩⟩⟩⟩⟩⟩⟩⟩⟩⟩⟩⟩⟩
def extL : List (Nat × (List AV → Option AV)) := [(103, add64A)]
def keyL : List (Nat × (D → Bool)) := [(3, isIntK .i64)]
theorem keyL_ok : ∀ x ∈ keyL, KeyLaw Tryd.prog x.1 x.2 := List.forall_mem_cons.2 ⟨intKey Tryd.underlying3, fun x hx => by cases hx⟩
theorem cmpl30 : CmpLaw Tryd.prog 30 (isAggK [.int .i64, .int .i64, .bool]) := cmpLaw_of Tryd.underlying30 (by kernel_rfl) (by kernel_rfl) ⟨by decide, rfl, Tryd.underlying3, ⟨by decide, rfl, Tryd.underlying3, ⟨by decide, rfl, Tryd.underlying4, trivial⟩⟩⟩
def cmpL : List (Nat × (D → Bool)) := [(30, isAggK [.int .i64, .int .i64, .bool])]
theorem cmpL_ok : ∀ x ∈ cmpL, CmpLaw Tryd.prog x.1 x.2 := List.forall_mem_cons.2 ⟨cmpl30, fun x hx => by cases hx⟩
def glL : List (Nat × (Nat × List (List D))) := [(0, (1, [[.iface 138 (.agg [.ptr ⟨1, 32, none⟩])]]))]
noncomputable def env : Env := { P := Tryd.prog, ty := Abs.look tyL, gl := Abs.look glL, ext := Abs.look extL, key := Abs.look keyL, cmp := Abs.look cmpL }
theorem extL_ok : ∀ x ∈ extL, ExtOk Tryd.prog x.1 x.2 := List.forall_mem_cons.2 ⟨add64_ok Tryd.func103 (by kernel_rfl) (by kernel_rfl) (by kernel_rfl) (by kernel_rfl), fun x hx => by cases hx⟩
theorem envOk : EnvOk env := envOk_of (look_all tyL_ok) (by kernel_rfl) (look_all extL_ok) (look_all keyL_ok) (look_all cmpL_ok)
theorem cmp30 : env.cmp 30 = some (isAggK [.int .i64, .int .i64, .bool]) := rfl
theorem key3 : env.key 3 = some (isIntK .i64) := rfl
theorem gl0 : env.gl 0 = some (1, [[.iface 138 (.agg [.ptr ⟨1, 32, none⟩])]]) := rfl
theorem ty1 : env.ty 1 = some T1 := rfl
theorem ty2 : env.ty 2 = some T2 := rfl
theorem ty3 : env.ty 3 = some T3 := rfl
theorem ty4 : env.ty 4 = some T4 := rfl
theorem ty5 : env.ty 5 = some T5 := rfl
theorem ty6 : env.ty 6 = some T6 := rfl
theorem ty7 : env.ty 7 = some T7 := rfl
theorem ty8 : env.ty 8 = some T8 := rfl
theorem ty9 : env.ty 9 = some T9 := rfl
theorem ty10 : env.ty 10 = some T10 := rfl
theorem ty11 : env.ty 11 = some T11 := rfl
theorem ty12 : env.ty 12 = some T12 := rfl
theorem ty13 : env.ty 13 = some T13 := rfl
theorem ty14 : env.ty 14 = some T14 := rfl
theorem ty15 : env.ty 15 = some T15 := rfl
theorem ty16 : env.ty 16 = some T16 := rfl
theorem ty17 : env.ty 17 = some T17 := rfl
theorem ty18 : env.ty 18 = some T18 := rfl
theorem ty19 : env.ty 19 = some T19 := rfl
theorem ty20 : env.ty 20 = some T20 := rfl
theorem ty21 : env.ty 21 = some T21 := rfl
theorem ty22 : env.ty 22 = some T22 := rfl
theorem ty23 : env.ty 23 = some T23 := rfl
theorem ty24 : env.ty 24 = some T24 := rfl
theorem ty25 : env.ty 25 = some T25 := rfl
theorem ty26 : env.ty 26 = some T26 := rfl
theorem ty28 : env.ty 28 = some T28 := rfl
theorem ty29 : env.ty 29 = some T29 := rfl
theorem ty30 : env.ty 30 = some T30 := rfl
theorem ty31 : env.ty 31 = some T31 := rfl
theorem ty32 : env.ty 32 = some T32 := rfl
theorem ty33 : env.ty 33 = some T33 := rfl
theorem ty34 : env.ty 34 = some T34 := rfl
theorem ty35 : env.ty 35 = some T35 := rfl
theorem ty36 : env.ty 36 = some T36 := rfl
theorem ty38 : env.ty 38 = some T38 := rfl
theorem ty39 : env.ty 39 = some T39 := rfl
theorem ty40 : env.ty 40 = some T40 := rfl
theorem ty41 : env.ty 41 = some T41 := rfl
theorem ty42 : env.ty 42 = some T42 := rfl
theorem ty43 : env.ty 43 = some T43 := rfl
theorem ty44 : env.ty 44 = some T44 := rfl
theorem ty45 : env.ty 45 = some T45 := rfl
theorem ty46 : env.ty 46 = some T46 := rfl
theorem ty47 : env.ty 47 = some T47 := rfl
theorem ty49 : env.ty 49 = some T49 := rfl
theorem ty50 : env.ty 50 = some T50 := rfl
theorem ty51 : env.ty 51 = some T51 := rfl
theorem ty52 : env.ty 52 = some T52 := rfl
theorem ty53 : env.ty 53 = some T53 := rfl
theorem ty54 : env.ty 54 = some T54 := rfl
theorem ty55 : env.ty 55 = some T55 := rfl
theorem ty56 : env.ty 56 = some T56 := rfl
theorem ty57 : env.ty 57 = some T57 := rfl
theorem ty58 : env.ty 58 = some T58 := rfl
theorem ty59 : env.ty 59 = some T59 := rfl
theorem ty60 : env.ty 60 = some T60 := rfl
theorem ty61 : env.ty 61 = some T61 := rfl
theorem ty62 : env.ty 62 = some T62 := rfl
theorem ty63 : env.ty 63 = some T63 := rfl
theorem ty65 : env.ty 65 = some T65 := rfl
theorem ty66 : env.ty 66 = some T66 := rfl
theorem ty67 : env.ty 67 = some T67 := rfl
theorem ty68 : env.ty 68 = some T68 := rfl
theorem ty69 : env.ty 69 = some T69 := rfl
theorem ty70 : env.ty 70 = some T70 := rfl
theorem ty71 : env.ty 71 = some T71 := rfl
theorem ty72 : env.ty 72 = some T72 := rfl
theorem ty73 : env.ty 73 = some T73 := rfl
theorem ty74 : env.ty 74 = some T74 := rfl
theorem ty75 : env.ty 75 = some T75 := rfl
theorem ty76 : env.ty 76 = some T76 := rfl
theorem ty77 : env.ty 77 = some T77 := rfl
theorem ty78 : env.ty 78 = some T78 := rfl
theorem ty80 : env.ty 80 = some T80 := rfl
theorem ty82 : env.ty 82 = some T82 := rfl
theorem ty83 : env.ty 83 = some T83 := rfl
theorem ty84 : env.ty 84 = some T84 := rfl
theorem ty85 : env.ty 85 = some T85 := rfl
theorem ty86 : env.ty 86 = some T86 := rfl
theorem ty87 : env.ty 87 = some T87 := rfl
theorem ty88 : env.ty 88 = some T88 := rfl
theorem ty89 : env.ty 89 = some T89 := rfl
theorem ty90 : env.ty 90 = some T90 := rfl
theorem ty91 : env.ty 91 = some T91 := rfl
theorem ty92 : env.ty 92 = some T92 := rfl
theorem ty93 : env.ty 93 = some T93 := rfl
theorem ty94 : env.ty 94 = some T94 := rfl
theorem ty95 : env.ty 95 = some T95 := rfl
theorem ty96 : env.ty 96 = some T96 := rfl
theorem ty97 : env.ty 97 = some T97 := rfl
theorem ty98 : env.ty 98 = some T98 := rfl
theorem ty99 : env.ty 99 = some T99 := rfl
theorem ty101 : env.ty 101 = some T101 := rfl
theorem ty102 : env.ty 102 = some T102 := rfl
theorem ty104 : env.ty 104 = some T104 := rfl
theorem ty105 : env.ty 105 = some T105 := rfl
theorem ty106 : env.ty 106 = some T106 := rfl
theorem ty107 : env.ty 107 = some T107 := rfl
theorem ty108 : env.ty 108 = some T108 := rfl
theorem ty110 : env.ty 110 = some T110 := rfl
theorem ty111 : env.ty 111 = some T111 := rfl
theorem ty112 : env.ty 112 = some T112 := rfl
theorem ty113 : env.ty 113 = some T113 := rfl
theorem ty114 : env.ty 114 = some T114 := rfl
theorem ty115 : env.ty 115 = some T115 := rfl
theorem ty116 : env.ty 116 = some T116 := rfl
theorem ty117 : env.ty 117 = some T117 := rfl
theorem ty118 : env.ty 118 = some T118 := rfl
theorem ty119 : env.ty 119 = some T119 := rfl
theorem ty120 : env.ty 120 = some T120 := rfl
theorem ty121 : env.ty 121 = some T121 := rfl
theorem ty122 : env.ty 122 = some T122 := rfl
theorem ty123 : env.ty 123 = some T123 := rfl
theorem ty124 : env.ty 124 = some T124 := rfl
theorem ty125 : env.ty 125 = some T125 := rfl
theorem ty126 : env.ty 126 = some T126 := rfl
theorem ty127 : env.ty 127 = some T127 := rfl
theorem ty128 : env.ty 128 = some T128 := rfl
theorem ty129 : env.ty 129 = some T129 := rfl
theorem ty130 : env.ty 130 = some T130 := rfl
theorem ty131 : env.ty 131 = some T131 := rfl
theorem ty132 : env.ty 132 = some T132 := rfl
theorem ty133 : env.ty 133 = some T133 := rfl
theorem ty134 : env.ty 134 = some T134 := rfl
theorem ty135 : env.ty 135 = some T135 := rfl
theorem ty136 : env.ty 136 = some T136 := rfl
theorem ty137 : env.ty 137 = some T137 := rfl
theorem ty138 : env.ty 138 = some T138 := rfl
theorem ty139 : env.ty 139 = some T139 := rfl
theorem ty140 : env.ty 140 = some T140 := rfl
theorem ty141 : env.ty 141 = some T141 := rfl
theorem ty142 : env.ty 142 = some T142 := rfl
theorem ty143 : env.ty 143 = some T143 := rfl
theorem ty145 : env.ty 145 = some T145 := rfl
theorem ty146 : env.ty 146 = some T146 := rfl
theorem ty147 : env.ty 147 = some T147 := rfl
theorem ty148 : env.ty 148 = some T148 := rfl
theorem ty149 : env.ty 149 = some T149 := rfl
theorem ty150 : env.ty 150 = some T150 := rfl
theorem ty151 : env.ty 151 = some T151 := rfl
theorem ty152 : env.ty 152 = some T152 := rfl
theorem ty153 : env.ty 153 = some T153 := rfl
theorem ty154 : env.ty 154 = some T154 := rfl
theorem ty156 : env.ty 156 = some T156 := rfl
theorem ty157 : env.ty 157 = some T157 := rfl
theorem ty158 : env.ty 158 = some T158 := rfl
theorem ty160 : env.ty 160 = some T160 := rfl
theorem ty161 : env.ty 161 = some T161 := rfl
theorem ty162 : env.ty 162 = some T162 := rfl
theorem ty163 : env.ty 163 = some T163 := rfl
theorem ty164 : env.ty 164 = some T164 := rfl
theorem ty165 : env.ty 165 = some T165 := rfl
theorem ty166 : env.ty 166 = some T166 := rfl
theorem ty167 : env.ty 167 = some T167 := rfl
theorem ty168 : env.ty 168 = some T168 := rfl
theorem ty169 : env.ty 169 = some T169 := rfl
theorem ty171 : env.ty 171 = some T171 := rfl
theorem ty172 : env.ty 172 = some T172 := rfl
theorem ty173 : env.ty 173 = some T173 := rfl
theorem ty174 : env.ty 174 = some T174 := rfl
theorem ty175 : env.ty 175 = some T175 := rfl
theorem ty176 : env.ty 176 = some T176 := rfl
theorem ty177 : env.ty 177 = some T177 := rfl
theorem ty178 : env.ty 178 = some T178 := rfl
theorem ty180 : env.ty 180 = some T180 := rfl
theorem ty181 : env.ty 181 = some T181 := rfl
theorem ty182 : env.ty 182 = some T182 := rfl
theorem ty183 : env.ty 183 = some T183 := rfl
theorem ty184 : env.ty 184 = some T184 := rfl
theorem ty185 : env.ty 185 = some T185 := rfl
theorem ty186 : env.ty 186 = some T186 := rfl
theorem ty187 : env.ty 187 = some T187 := rfl
theorem ty188 : env.ty 188 = some T188 := rfl
theorem ty189 : env.ty 189 = some T189 := rfl
theorem ty190 : env.ty 190 = some T190 := rfl
theorem ty191 : env.ty 191 = some T191 := rfl
theorem ty192 : env.ty 192 = some T192 := rfl
theorem ty193 : env.ty 193 = some T193 := rfl
theorem ty194 : env.ty 194 = some T194 := rfl
theorem ty195 : env.ty 195 = some T195 := rfl
theorem ty196 : env.ty 196 = some T196 := rfl
theorem ty197 : env.ty 197 = some T197 := rfl
theorem ty198 : env.ty 198 = some T198 := rfl
theorem ty199 : env.ty 199 = some T199 := rfl
theorem ty200 : env.ty 200 = some T200 := rfl
theorem ty201 : env.ty 201 = some T201 := rfl
theorem ty202 : env.ty 202 = some T202 := rfl
theorem ty203 : env.ty 203 = some T203 := rfl
theorem ty204 : env.ty 204 = some T204 := rfl
theorem ty205 : env.ty 205 = some T205 := rfl
theorem ty206 : env.ty 206 = some T206 := rfl
theorem ty207 : env.ty 207 = some T207 := rfl
theorem ty208 : env.ty 208 = some T208 := rfl
theorem ext0 : env.ext 0 = none := rfl
theorem ext1 : env.ext 1 = none := rfl
theorem ext2 : env.ext 2 = none := rfl
theorem ext3 : env.ext 3 = none := rfl
theorem ext4 : env.ext 4 = none := rfl
theorem ext5 : env.ext 5 = none := rfl
theorem ext6 : env.ext 6 = none := rfl
theorem ext7 : env.ext 7 = none := rfl
theorem ext8 : env.ext 8 = none := rfl
theorem ext9 : env.ext 9 = none := rfl
theorem ext10 : env.ext 10 = none := rfl
theorem ext11 : env.ext 11 = none := rfl
theorem ext12 : env.ext 12 = none := rfl
theorem ext13 : env.ext 13 = none := rfl
theorem ext14 : env.ext 14 = none := rfl
theorem ext15 : env.ext 15 = none := rfl
theorem ext16 : env.ext 16 = none := rfl
theorem ext17 : env.ext 17 = none := rfl
theorem ext18 : env.ext 18 = none := rfl
theorem ext19 : env.ext 19 = none := rfl
theorem ext20 : env.ext 20 = none := rfl
theorem ext21 : env.ext 21 = none := rfl
theorem ext22 : env.ext 22 = none := rfl
theorem ext23 : env.ext 23 = none := rfl
theorem ext24 : env.ext 24 = none := rfl
theorem ext25 : env.ext 25 = none := rfl
theorem ext26 : env.ext 26 = none := rfl
theorem ext27 : env.ext 27 = none := rfl
theorem ext28 : env.ext 28 = none := rfl
theorem ext29 : env.ext 29 = none := rfl
theorem ext30 : env.ext 30 = none := rfl
theorem ext31 : env.ext 31 = none := rfl
theorem ext32 : env.ext 32 = none := rfl
theorem ext33 : env.ext 33 = none := rfl
theorem ext34 : env.ext 34 = none := rfl
theorem ext35 : env.ext 35 = none := rfl
theorem ext36 : env.ext 36 = none := rfl
theorem ext37 : env.ext 37 = none := rfl
theorem ext38 : env.ext 38 = none := rfl
theorem ext39 : env.ext 39 = none := rfl
theorem ext40 : env.ext 40 = none := rfl
theorem ext41 : env.ext 41 = none := rfl
theorem ext42 : env.ext 42 = none := rfl
theorem ext43 : env.ext 43 = none := rfl
theorem ext44 : env.ext 44 = none := rfl
theorem ext45 : env.ext 45 = none := rfl
theorem ext46 : env.ext 46 = none := rfl
theorem ext47 : env.ext 47 = none := rfl
theorem ext48 : env.ext 48 = none := rfl
theorem ext49 : env.ext 49 = none := rfl
theorem ext50 : env.ext 50 = none := rfl
theorem ext51 : env.ext 51 = none := rfl
theorem ext52 : env.ext 52 = none := rfl
theorem ext53 : env.ext 53 = none := rfl
theorem ext54 : env.ext 54 = none := rfl
theorem ext55 : env.ext 55 = none := rfl
theorem ext56 : env.ext 56 = none := rfl
theorem ext57 : env.ext 57 = none := rfl
theorem ext58 : env.ext 58 = none := rfl
theorem ext59 : env.ext 59 = none := rfl
theorem ext60 : env.ext 60 = none := rfl
theorem ext61 : env.ext 61 = none := rfl
theorem ext62 : env.ext 62 = none := rfl
theorem ext63 : env.ext 63 = none := rfl
theorem ext64 : env.ext 64 = none := rfl
theorem ext65 : env.ext 65 = none := rfl
theorem ext66 : env.ext 66 = none := rfl
theorem ext67 : env.ext 67 = none := rfl
theorem ext68 : env.ext 68 = none := rfl
theorem ext69 : env.ext 69 = none := rfl
theorem ext70 : env.ext 70 = none := rfl
theorem ext71 : env.ext 71 = none := rfl
theorem ext72 : env.ext 72 = none := rfl
theorem ext73 : env.ext 73 = none := rfl
theorem ext74 : env.ext 74 = none := rfl
theorem ext75 : env.ext 75 = none := rfl
theorem ext76 : env.ext 76 = none := rfl
theorem ext77 : env.ext 77 = none := rfl
theorem ext78 : env.ext 78 = none := rfl
theorem ext79 : env.ext 79 = none := rfl
theorem ext80 : env.ext 80 = none := rfl
theorem ext81 : env.ext 81 = none := rfl
theorem ext82 : env.ext 82 = none := rfl
theorem ext83 : env.ext 83 = none := rfl
theorem ext84 : env.ext 84 = none := rfl
theorem ext85 : env.ext 85 = none := rfl
theorem ext86 : env.ext 86 = none := rfl
theorem ext87 : env.ext 87 = none := rfl
theorem ext88 : env.ext 88 = none := rfl
theorem ext89 : env.ext 89 = none := rfl
theorem ext90 : env.ext 90 = none := rfl
theorem ext91 : env.ext 91 = none := rfl
theorem ext92 : env.ext 92 = none := rfl
theorem ext93 : env.ext 93 = none := rfl
theorem ext94 : env.ext 94 = none := rfl
theorem ext95 : env.ext 95 = none := rfl
theorem ext96 : env.ext 96 = none := rfl
theorem ext97 : env.ext 97 = none := rfl
theorem ext98 : env.ext 98 = none := rfl
theorem ext99 : env.ext 99 = none := rfl
theorem ext100 : env.ext 100 = none := rfl
theorem ext101 : env.ext 101 = none := rfl
theorem ext102 : env.ext 102 = none := rfl
theorem ext103 : env.ext 103 = some add64A := rfl
theorem ext104 : env.ext 104 = none := rfl
theorem ext105 : env.ext 105 = none := rfl
theorem ext106 : env.ext 106 = none := rfl
theorem ext107 : env.ext 107 = none := rfl
theorem ext108 : env.ext 108 = none := rfl
theorem ext109 : env.ext 109 = none := rfl
theorem ext110 : env.ext 110 = none := rfl
theorem ext111 : env.ext 111 = none := rfl
theorem ext112 : env.ext 112 = none := rfl
theorem ext113 : env.ext 113 = none := rfl
theorem ext114 : env.ext 114 = none := rfl
theorem ext115 : env.ext 115 = none := rfl
theorem ext116 : env.ext 116 = none := rfl
theorem ext117 : env.ext 117 = none := rfl
theorem ext118 : env.ext 118 = none := rfl
theorem ext119 : env.ext 119 = none := rfl
theorem ext120 : env.ext 120 = none := rfl
theorem ext121 : env.ext 121 = none := rfl
theorem ext122 : env.ext 122 = none := rfl
theorem ext123 : env.ext 123 = none := rfl
theorem ext124 : env.ext 124 = none := rfl
theorem ext125 : env.ext 125 = none := rfl
theorem ext126 : env.ext 126 = none := rfl
theorem ext127 : env.ext 127 = none := rfl
theorem ext128 : env.ext 128 = none := rfl
theorem ext129 : env.ext 129 = none := rfl
theorem ext130 : env.ext 130 = none := rfl
theorem ext131 : env.ext 131 = none := rfl
theorem ext132 : env.ext 132 = none := rfl
theorem ext133 : env.ext 133 = none := rfl
theorem ext134 : env.ext 134 = none := rfl
theorem ext135 : env.ext 135 = none := rfl
theorem ext136 : env.ext 136 = none := rfl
theorem ext137 : env.ext 137 = none := rfl
theorem ext138 : env.ext 138 = none := rfl
theorem ext139 : env.ext 139 = none := rfl
theorem ext140 : env.ext 140 = none := rfl
theorem ext141 : env.ext 141 = none := rfl
theorem ext142 : env.ext 142 = none := rfl
theorem ext143 : env.ext 143 = none := rfl
theorem ext144 : env.ext 144 = none := rfl
theorem ext145 : env.ext 145 = none := rfl
theorem ext146 : env.ext 146 = none := rfl
theorem ext147 : env.ext 147 = none := rfl
theorem ext148 : env.ext 148 = none := rfl
theorem ext149 : env.ext 149 = none := rfl
theorem ext150 : env.ext 150 = none := rfl
theorem ext151 : env.ext 151 = none := rfl
theorem ext152 : env.ext 152 = none := rfl
end Go.Proofs.YtjljjakfebfpfaaDoor
