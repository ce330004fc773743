/-
  The types of this program, as the walk uses them; what stands in for a function without a body.
  The library's contract of slices.Sort at whole numbers, laid over this program: a table of numbers, and the program's facts.
  What tables are, by value: errors, entries, what adding, setting and removing make of them.
  Nodes, by value.
  Pods, by value; the phases after events.
  The reference's comparisons of vectors.
  The walks of the package vec: what each function computes.
  The sum of vectors.
  The reference's sums, differences and checks of vectors.
  Faults, and copies of vectors.
-/
import Derived.Test.YtcmhdpbmcgglmaaGreatDoorProg
import Derived.Test.YtcmhdpbmcgglmaaGreatDoorA4
import Derived.KernelRfl
import Derived.Shelf.SortG.Plain
section
set_option autoImplicit false
set_option linter.unusedVariables false
set_option maxRecDepth 100000
namespace Go.Proofs.YtcmhdpbmcgglmaaGreatDoor
open Go.Abs
def T1 : TI := { k := .func, size := 1, bytes := 8, zero := [.nilf] }
def T2 : TI := { k := .int .i64, size := 1, bytes := 8, zero := [.int .i64 0] }
def T3 : TI := { k := .int .i64, size := 1, bytes := 8, zero := [.int .i64 0] }
def T4 : TI := { k := .bool, size := 1, bytes := 1, zero := [.bool false] }
def T5 : TI := { k := .int .u8, size := 1, bytes := 1, zero := [.int .u8 0] }
def T6 : TI := { k := .int .u8, size := 1, bytes := 1, zero := [.int .u8 0] }
def T7 : TI := { k := .struct [(0, 2), (1, 3), (2, 4), (3, 6)], size := 4, bytes := 24, zero := [.int .i64 0, .int .i64 0, .bool false, .int .u8 0] }
def T8 : TI := { k := .struct [(0, 2), (1, 3), (2, 4), (3, 6)], size := 4, bytes := 24, zero := [.int .i64 0, .int .i64 0, .bool false, .int .u8 0] }
def T9 : TI := { k := .string, size := 1, bytes := 16, zero := [.str ⟨#[]⟩] }
def T10 : TI := { k := .string, size := 1, bytes := 16, zero := [.str ⟨#[]⟩] }
def T11 : TI := { k := .string, size := 1, bytes := 16, zero := [.str ⟨#[]⟩] }
def T12 : TI := { k := .int .u64, size := 1, bytes := 8, zero := [.int .u64 0] }
def T13 : TI := { k := .struct [(0, 9), (1, 12)], size := 2, bytes := 24, zero := [.str ⟨#[]⟩, .int .u64 0] }
def T14 : TI := { k := .struct [(0, 9), (1, 12)], size := 2, bytes := 24, zero := [.str ⟨#[]⟩, .int .u64 0] }
def T15 : TI := { k := .ptr 265, size := 1, bytes := 8, zero := [.nilp] }
def T16 : TI := { k := .ptr 268, size := 1, bytes := 8, zero := [.nilp] }
def T17 : TI := { k := .ptr 276, size := 1, bytes := 8, zero := [.nilp] }
def T18 : TI := { k := .struct [(0, 17)], size := 1, bytes := 8, zero := [.nilp] }
def T19 : TI := { k := .struct [(0, 17)], size := 1, bytes := 8, zero := [.nilp] }
def T20 : TI := { k := .iface, size := 1, bytes := 16, zero := [.nili] }
def T21 : TI := { k := .int .i32, size := 1, bytes := 4, zero := [.int .i32 0] }
def T22 : TI := { k := .slice 37, size := 1, bytes := 24, zero := [.nils] }
def T23 : TI := { k := .ptr 94, size := 1, bytes := 8, zero := [.nilp] }
def T24 : TI := { k := .func, size := 1, bytes := 8, zero := [.nilf] }
def T25 : TI := { k := .func, size := 1, bytes := 8, zero := [.nilf] }
def T26 : TI := { k := .func, size := 1, bytes := 8, zero := [.nilf] }
def T27 : TI := { k := .slice 43, size := 1, bytes := 24, zero := [.nils] }
def T28 : TI := { k := .slice 35, size := 1, bytes := 24, zero := [.nils] }
def T29 : TI := { k := .struct [(0, 3), (1, 27), (2, 28)], size := 3, bytes := 56, zero := [.int .i64 0, .nils, .nils] }
def T30 : TI := { k := .struct [(0, 3), (1, 27), (2, 28)], size := 3, bytes := 56, zero := [.int .i64 0, .nils, .nils] }
def T32 : TI := { k := .func, size := 1, bytes := 8, zero := [.nilf] }
def T33 : TI := { k := .slice 2, size := 1, bytes := 24, zero := [.nils] }
def T34 : TI := { k := .struct [(0, 3), (1, 3), (2, 4), (3, 3), (4, 33), (5, 3), (6, 3), (7, 3), (8, 3)], size := 9, bytes := 88, zero := [.int .i64 0, .int .i64 0, .bool false, .int .i64 0, .nils, .int .i64 0, .int .i64 0, .int .i64 0, .int .i64 0] }
def T35 : TI := { k := .struct [(0, 3), (1, 3), (2, 4), (3, 3), (4, 33), (5, 3), (6, 3), (7, 3), (8, 3)], size := 9, bytes := 88, zero := [.int .i64 0, .int .i64 0, .bool false, .int .i64 0, .nils, .int .i64 0, .int .i64 0, .int .i64 0, .int .i64 0] }
def T36 : TI := { k := .struct [(0, 3), (1, 35), (10, 3), (11, 3), (12, 33)], size := 13, bytes := 136, zero := [.int .i64 0, .int .i64 0, .int .i64 0, .bool false, .int .i64 0, .nils, .int .i64 0, .int .i64 0, .int .i64 0, .int .i64 0, .int .i64 0, .int .i64 0, .nils] }
def T37 : TI := { k := .struct [(0, 3), (1, 35), (10, 3), (11, 3), (12, 33)], size := 13, bytes := 136, zero := [.int .i64 0, .int .i64 0, .int .i64 0, .bool false, .int .i64 0, .nils, .int .i64 0, .int .i64 0, .int .i64 0, .int .i64 0, .int .i64 0, .int .i64 0, .nils] }
def T38 : TI := { k := .func, size := 1, bytes := 8, zero := [.nilf] }
def T39 : TI := { k := .func, size := 1, bytes := 8, zero := [.nilf] }
def T40 : TI := { k := .func, size := 1, bytes := 8, zero := [.nilf] }
def T41 : TI := { k := .func, size := 1, bytes := 8, zero := [.nilf] }
def T42 : TI := { k := .struct [(0, 3), (1, 33)], size := 2, bytes := 32, zero := [.int .i64 0, .nils] }
def T43 : TI := { k := .struct [(0, 3), (1, 33)], size := 2, bytes := 32, zero := [.int .i64 0, .nils] }
def T44 : TI := { k := .func, size := 1, bytes := 8, zero := [.nilf] }
def T45 : TI := { k := .iface, size := 1, bytes := 16, zero := [.nili] }
def T46 : TI := { k := .iface, size := 1, bytes := 16, zero := [.nili] }
def T48 : TI := { k := .func, size := 1, bytes := 8, zero := [.nilf] }
def T49 : TI := { k := .func, size := 1, bytes := 8, zero := [.nilf] }
def T50 : TI := { k := .func, size := 1, bytes := 8, zero := [.nilf] }
def T51 : TI := { k := .func, size := 1, bytes := 8, zero := [.nilf] }
def T52 : TI := { k := .func, size := 1, bytes := 8, zero := [.nilf] }
def T54 : TI := { k := .func, size := 1, bytes := 8, zero := [.nilf] }
def T55 : TI := { k := .func, size := 1, bytes := 8, zero := [.nilf] }
def T56 : TI := { k := .func, size := 1, bytes := 8, zero := [.nilf] }
def T57 : TI := { k := .func, size := 1, bytes := 8, zero := [.nilf] }
def T58 : TI := { k := .func, size := 1, bytes := 8, zero := [.nilf] }
def T59 : TI := { k := .func, size := 1, bytes := 8, zero := [.nilf] }
def T60 : TI := { k := .func, size := 1, bytes := 8, zero := [.nilf] }
def T62 : TI := { k := .func, size := 1, bytes := 8, zero := [.nilf] }
def T64 : TI := { k := .func, size := 1, bytes := 8, zero := [.nilf] }
def T65 : TI := { k := .func, size := 1, bytes := 8, zero := [.nilf] }
def T66 : TI := { k := .func, size := 1, bytes := 8, zero := [.nilf] }
def T67 : TI := { k := .func, size := 1, bytes := 8, zero := [.nilf] }
def T68 : TI := { k := .slice 123, size := 1, bytes := 24, zero := [.nils] }
def T70 : TI := { k := .func, size := 1, bytes := 8, zero := [.nilf] }
def T71 : TI := { k := .func, size := 1, bytes := 8, zero := [.nilf] }
def T72 : TI := { k := .func, size := 1, bytes := 8, zero := [.nilf] }
def T73 : TI := { k := .slice 3, size := 1, bytes := 24, zero := [.nils] }
def T74 : TI := { k := .func, size := 1, bytes := 8, zero := [.nilf] }
def T75 : TI := { k := .slice 78, size := 1, bytes := 24, zero := [.nils] }
def T76 : TI := { k := .func, size := 1, bytes := 8, zero := [.nilf] }
def T77 : TI := { k := .func, size := 1, bytes := 8, zero := [.nilf] }
def T78 : TI := { k := .array 2 3, size := 2, bytes := 16, zero := [.int .i64 0, .int .i64 0] }
def T79 : TI := { k := .func, size := 1, bytes := 8, zero := [.nilf] }
def T80 : TI := { k := .func, size := 1, bytes := 8, zero := [.nilf] }
def T81 : TI := { k := .func, size := 1, bytes := 8, zero := [.nilf] }
def T82 : TI := { k := .func, size := 1, bytes := 8, zero := [.nilf] }
def T83 : TI := { k := .func, size := 1, bytes := 8, zero := [.nilf] }
def T84 : TI := { k := .func, size := 1, bytes := 8, zero := [.nilf] }
def T86 : TI := { k := .func, size := 1, bytes := 8, zero := [.nilf] }
def T87 : TI := { k := .ptr 135, size := 1, bytes := 8, zero := [.nilp] }
def T88 : TI := { k := .func, size := 1, bytes := 8, zero := [.nilf] }
def T89 : TI := { k := .ptr 141, size := 1, bytes := 8, zero := [.nilp] }
def T90 : TI := { k := .func, size := 1, bytes := 8, zero := [.nilf] }
def T91 : TI := { k := .struct [(0, 87), (1, 89)], size := 2, bytes := 16, zero := [.nilp, .nilp] }
def T92 : TI := { k := .struct [(0, 87), (1, 89)], size := 2, bytes := 16, zero := [.nilp, .nilp] }
def T93 : TI := { k := .struct [(0, 92)], size := 2, bytes := 16, zero := [.nilp, .nilp] }
def T94 : TI := { k := .struct [(0, 92)], size := 2, bytes := 16, zero := [.nilp, .nilp] }
def T95 : TI := { k := .func, size := 1, bytes := 8, zero := [.nilf] }
def T97 : TI := { k := .func, size := 1, bytes := 8, zero := [.nilf] }
def T98 : TI := { k := .func, size := 1, bytes := 8, zero := [.nilf] }
def T100 : TI := { k := .func, size := 1, bytes := 8, zero := [.nilf] }
def T101 : TI := { k := .func, size := 1, bytes := 8, zero := [.nilf] }
def T102 : TI := { k := .func, size := 1, bytes := 8, zero := [.nilf] }
def T103 : TI := { k := .func, size := 1, bytes := 8, zero := [.nilf] }
def T104 : TI := { k := .func, size := 1, bytes := 8, zero := [.nilf] }
def T105 : TI := { k := .func, size := 1, bytes := 8, zero := [.nilf] }
def T106 : TI := { k := .func, size := 1, bytes := 8, zero := [.nilf] }
def T107 : TI := { k := .func, size := 1, bytes := 8, zero := [.nilf] }
def T108 : TI := { k := .int .i64, size := 1, bytes := 8, zero := [.int .i64 0] }
def T109 : TI := { k := .func, size := 1, bytes := 8, zero := [.nilf] }
def T110 : TI := { k := .func, size := 1, bytes := 8, zero := [.nilf] }
def T111 : TI := { k := .func, size := 1, bytes := 8, zero := [.nilf] }
def T113 : TI := { k := .func, size := 1, bytes := 8, zero := [.nilf] }
def T114 : TI := { k := .func, size := 1, bytes := 8, zero := [.nilf] }
def T115 : TI := { k := .func, size := 1, bytes := 8, zero := [.nilf] }
def T117 : TI := { k := .func, size := 1, bytes := 8, zero := [.nilf] }
def T118 : TI := { k := .slice 33, size := 1, bytes := 24, zero := [.nils] }
def T119 : TI := { k := .func, size := 1, bytes := 8, zero := [.nilf] }
def T121 : TI := { k := .func, size := 1, bytes := 8, zero := [.nilf] }
def T122 : TI := { k := .struct [(0, 35), (9, 3), (10, 73)], size := 11, bytes := 120, zero := [.int .i64 0, .int .i64 0, .bool false, .int .i64 0, .nils, .int .i64 0, .int .i64 0, .int .i64 0, .int .i64 0, .int .i64 0, .nils] }
def T123 : TI := { k := .struct [(0, 35), (9, 3), (10, 73)], size := 11, bytes := 120, zero := [.int .i64 0, .int .i64 0, .bool false, .int .i64 0, .nils, .int .i64 0, .int .i64 0, .int .i64 0, .int .i64 0, .int .i64 0, .nils] }
def T124 : TI := { k := .func, size := 1, bytes := 8, zero := [.nilf] }
def T125 : TI := { k := .func, size := 1, bytes := 8, zero := [.nilf] }
def T126 : TI := { k := .func, size := 1, bytes := 8, zero := [.nilf] }
def T127 : TI := { k := .func, size := 1, bytes := 8, zero := [.nilf] }
def T128 : TI := { k := .func, size := 1, bytes := 8, zero := [.nilf] }
def T129 : TI := { k := .func, size := 1, bytes := 8, zero := [.nilf] }
def T130 : TI := { k := .func, size := 1, bytes := 8, zero := [.nilf] }
def T131 : TI := { k := .func, size := 1, bytes := 8, zero := [.nilf] }
def T132 : TI := { k := .ptr 182, size := 1, bytes := 8, zero := [.nilp] }
def T133 : TI := { k := .func, size := 1, bytes := 8, zero := [.nilf] }
def T134 : TI := { k := .struct [(0, 132), (1, 73)], size := 2, bytes := 32, zero := [.nilp, .nils] }
def T135 : TI := { k := .struct [(0, 132), (1, 73)], size := 2, bytes := 32, zero := [.nilp, .nils] }
def T136 : TI := { k := .ptr 185, size := 1, bytes := 8, zero := [.nilp] }
def T137 : TI := { k := .func, size := 1, bytes := 8, zero := [.nilf] }
def T138 : TI := { k := .struct [(0, 43), (2, 33)], size := 3, bytes := 56, zero := [.int .i64 0, .nils, .nils] }
def T139 : TI := { k := .struct [(0, 43), (2, 33)], size := 3, bytes := 56, zero := [.int .i64 0, .nils, .nils] }
def T140 : TI := { k := .struct [(0, 3), (1, 136)], size := 2, bytes := 16, zero := [.int .i64 0, .nilp] }
def T141 : TI := { k := .struct [(0, 3), (1, 136)], size := 2, bytes := 16, zero := [.int .i64 0, .nilp] }
def T143 : TI := { k := .func, size := 1, bytes := 8, zero := [.nilf] }
def T144 : TI := { k := .func, size := 1, bytes := 8, zero := [.nilf] }
def T145 : TI := { k := .func, size := 1, bytes := 8, zero := [.nilf] }
def T146 : TI := { k := .func, size := 1, bytes := 8, zero := [.nilf] }
def T147 : TI := { k := .func, size := 1, bytes := 8, zero := [.nilf] }
def T148 : TI := { k := .func, size := 1, bytes := 8, zero := [.nilf] }
def T150 : TI := { k := .func, size := 1, bytes := 8, zero := [.nilf] }
def T151 : TI := { k := .func, size := 1, bytes := 8, zero := [.nilf] }
def T152 : TI := { k := .func, size := 1, bytes := 8, zero := [.nilf] }
def T153 : TI := { k := .func, size := 1, bytes := 8, zero := [.nilf] }
def T154 : TI := { k := .func, size := 1, bytes := 8, zero := [.nilf] }
def T155 : TI := { k := .struct [(0, 108), (1, 3)], size := 2, bytes := 16, zero := [.int .i64 0, .int .i64 0] }
def T156 : TI := { k := .struct [(0, 108), (1, 3)], size := 2, bytes := 16, zero := [.int .i64 0, .int .i64 0] }
def T157 : TI := { k := .func, size := 1, bytes := 8, zero := [.nilf] }
def T158 : TI := { k := .func, size := 1, bytes := 8, zero := [.nilf] }
def T159 : TI := { k := .func, size := 1, bytes := 8, zero := [.nilf] }
def T160 : TI := { k := .func, size := 1, bytes := 8, zero := [.nilf] }
def T161 : TI := { k := .func, size := 1, bytes := 8, zero := [.nilf] }
def T162 : TI := { k := .ptr 108, size := 1, bytes := 8, zero := [.nilp] }
def T163 : TI := { k := .ptr 156, size := 1, bytes := 8, zero := [.nilp] }
def T164 : TI := { k := .struct [(0, 2), (1, 2)], size := 2, bytes := 16, zero := [.int .i64 0, .int .i64 0] }
def T165 : TI := { k := .struct [(0, 2), (1, 2)], size := 2, bytes := 16, zero := [.int .i64 0, .int .i64 0] }
def T166 : TI := { k := .func, size := 1, bytes := 8, zero := [.nilf] }
def T167 : TI := { k := .func, size := 1, bytes := 8, zero := [.nilf] }
def T169 : TI := { k := .func, size := 1, bytes := 8, zero := [.nilf] }
def T170 : TI := { k := .func, size := 1, bytes := 8, zero := [.nilf] }
def T171 : TI := { k := .func, size := 1, bytes := 8, zero := [.nilf] }
def T172 : TI := { k := .func, size := 1, bytes := 8, zero := [.nilf] }
def T173 : TI := { k := .func, size := 1, bytes := 8, zero := [.nilf] }
def T174 : TI := { k := .func, size := 1, bytes := 8, zero := [.nilf] }
def T175 : TI := { k := .func, size := 1, bytes := 8, zero := [.nilf] }
def T176 : TI := { k := .func, size := 1, bytes := 8, zero := [.nilf] }
def T177 : TI := { k := .func, size := 1, bytes := 8, zero := [.nilf] }
def T178 : TI := { k := .func, size := 1, bytes := 8, zero := [.nilf] }
def T179 : TI := { k := .func, size := 1, bytes := 8, zero := [.nilf] }
def T180 : TI := { k := .map 3 35, size := 1, bytes := 8, zero := [.nilm] }
def T181 : TI := { k := .struct [(0, 3), (1, 180)], size := 2, bytes := 16, zero := [.int .i64 0, .nilm] }
def T182 : TI := { k := .struct [(0, 3), (1, 180)], size := 2, bytes := 16, zero := [.int .i64 0, .nilm] }
def T183 : TI := { k := .map 3 139, size := 1, bytes := 8, zero := [.nilm] }
def T184 : TI := { k := .struct [(0, 3), (1, 183)], size := 2, bytes := 16, zero := [.int .i64 0, .nilm] }
def T185 : TI := { k := .struct [(0, 3), (1, 183)], size := 2, bytes := 16, zero := [.int .i64 0, .nilm] }
def T186 : TI := { k := .func, size := 1, bytes := 8, zero := [.nilf] }
def T187 : TI := { k := .func, size := 1, bytes := 8, zero := [.nilf] }
def T188 : TI := { k := .func, size := 1, bytes := 8, zero := [.nilf] }
def T189 : TI := { k := .func, size := 1, bytes := 8, zero := [.nilf] }
def T190 : TI := { k := .func, size := 1, bytes := 8, zero := [.nilf] }
def T191 : TI := { k := .map 194 3, size := 1, bytes := 8, zero := [.nilm] }
def T192 : TI := { k := .func, size := 1, bytes := 8, zero := [.nilf] }
def T193 : TI := { k := .struct [(0, 3), (1, 3)], size := 2, bytes := 16, zero := [.int .i64 0, .int .i64 0] }
def T194 : TI := { k := .struct [(0, 3), (1, 3)], size := 2, bytes := 16, zero := [.int .i64 0, .int .i64 0] }
def T195 : TI := { k := .iface, size := 1, bytes := 16, zero := [.nili] }
def T196 : TI := { k := .iface, size := 1, bytes := 16, zero := [.nili] }
def T197 : TI := { k := .func, size := 1, bytes := 8, zero := [.nilf] }
def T198 : TI := { k := .func, size := 1, bytes := 8, zero := [.nilf] }
def T200 : TI := { k := .int .u64, size := 1, bytes := 8, zero := [.int .u64 0] }
def T201 : TI := { k := .struct [(0, 17), (1, 199), (2, 200)], size := 3, bytes := 24, zero := [.nilp, .nilp, .int .u64 0] }
def T202 : TI := { k := .struct [(0, 17), (1, 199), (2, 200)], size := 3, bytes := 24, zero := [.nilp, .nilp, .int .u64 0] }
def T203 : TI := { k := .func, size := 1, bytes := 8, zero := [.nilf] }
def T204 : TI := { k := .func, size := 1, bytes := 8, zero := [.nilf] }
def T205 : TI := { k := .int .u8, size := 1, bytes := 1, zero := [.int .u8 0] }
def T206 : TI := { k := .func, size := 1, bytes := 8, zero := [.nilf] }
def T207 : TI := { k := .func, size := 1, bytes := 8, zero := [.nilf] }
def T208 : TI := { k := .func, size := 1, bytes := 8, zero := [.nilf] }
def T209 : TI := { k := .int .u64, size := 1, bytes := 8, zero := [.int .u64 0] }
def T211 : TI := { k := .func, size := 1, bytes := 8, zero := [.nilf] }
def T212 : TI := { k := .func, size := 1, bytes := 8, zero := [.nilf] }
def T213 : TI := { k := .func, size := 1, bytes := 8, zero := [.nilf] }
def T214 : TI := { k := .func, size := 1, bytes := 8, zero := [.nilf] }
def T215 : TI := { k := .struct [(0, 17)], size := 1, bytes := 8, zero := [.nilp] }
def T216 : TI := { k := .struct [(0, 17)], size := 1, bytes := 8, zero := [.nilp] }
def T217 : TI := { k := .ptr 280, size := 1, bytes := 8, zero := [.nilp] }
def T218 : TI := { k := .iface, size := 1, bytes := 16, zero := [.nili] }
def T220 : TI := { k := .func, size := 1, bytes := 8, zero := [.nilf] }
def T221 : TI := { k := .iface, size := 1, bytes := 16, zero := [.nili] }
def T222 : TI := { k := .iface, size := 1, bytes := 16, zero := [.nili] }
def T223 : TI := { k := .slice 46, size := 1, bytes := 24, zero := [.nils] }
def T224 : TI := { k := .func, size := 1, bytes := 8, zero := [.nilf] }
def T225 : TI := { k := .func, size := 1, bytes := 8, zero := [.nilf] }
def T226 : TI := { k := .func, size := 1, bytes := 8, zero := [.nilf] }
def T227 : TI := { k := .iface, size := 1, bytes := 16, zero := [.nili] }
def T229 : TI := { k := .func, size := 1, bytes := 8, zero := [.nilf] }
def T230 : TI := { k := .func, size := 1, bytes := 8, zero := [.nilf] }
def T231 : TI := { k := .func, size := 1, bytes := 8, zero := [.nilf] }
def T232 : TI := { k := .int .i64, size := 1, bytes := 8, zero := [.int .i64 0] }
def T234 : TI := { k := .func, size := 1, bytes := 8, zero := [.nilf] }
def T235 : TI := { k := .func, size := 1, bytes := 8, zero := [.nilf] }
def T236 : TI := { k := .func, size := 1, bytes := 8, zero := [.nilf] }
def T237 : TI := { k := .func, size := 1, bytes := 8, zero := [.nilf] }
def T238 : TI := { k := .func, size := 1, bytes := 8, zero := [.nilf] }
def T239 : TI := { k := .func, size := 1, bytes := 8, zero := [.nilf] }
def T240 : TI := { k := .int .u32, size := 1, bytes := 4, zero := [.int .u32 0] }
def T241 : TI := { k := .func, size := 1, bytes := 8, zero := [.nilf] }
def T242 : TI := { k := .int .u64, size := 1, bytes := 8, zero := [.int .u64 0] }
def T243 : TI := { k := .func, size := 1, bytes := 8, zero := [.nilf] }
def T244 : TI := { k := .func, size := 1, bytes := 8, zero := [.nilf] }
def T245 : TI := { k := .func, size := 1, bytes := 8, zero := [.nilf] }
def T246 : TI := { k := .func, size := 1, bytes := 8, zero := [.nilf] }
def T247 : TI := { k := .int .u64, size := 1, bytes := 8, zero := [.int .u64 0] }
def T248 : TI := { k := .func, size := 1, bytes := 8, zero := [.nilf] }
def T249 : TI := { k := .func, size := 1, bytes := 8, zero := [.nilf] }
def T250 : TI := { k := .func, size := 1, bytes := 8, zero := [.nilf] }
def T251 : TI := { k := .ptr 3, size := 1, bytes := 8, zero := [.nilp] }
def T252 : TI := { k := .func, size := 1, bytes := 8, zero := [.nilf] }
def T253 : TI := { k := .func, size := 1, bytes := 8, zero := [.nilf] }
def T255 : TI := { k := .func, size := 1, bytes := 8, zero := [.nilf] }
def T256 : TI := { k := .func, size := 1, bytes := 8, zero := [.nilf] }
def T257 : TI := { k := .ptr 247, size := 1, bytes := 8, zero := [.nilp] }
def T259 : TI := { k := .func, size := 1, bytes := 8, zero := [.nilf] }
def T260 : TI := { k := .func, size := 1, bytes := 8, zero := [.nilf] }
def T261 : TI := { k := .func, size := 1, bytes := 8, zero := [.nilf] }
def T262 : TI := { k := .func, size := 1, bytes := 8, zero := [.nilf] }
def T263 : TI := { k := .func, size := 1, bytes := 8, zero := [.nilf] }
def T264 : TI := { k := .struct [(0, 17), (1, 17), (2, 17), (3, 9)], size := 4, bytes := 40, zero := [.nilp, .nilp, .nilp, .str ⟨#[]⟩] }
def T265 : TI := { k := .struct [(0, 17), (1, 17), (2, 17), (3, 9)], size := 4, bytes := 40, zero := [.nilp, .nilp, .nilp, .str ⟨#[]⟩] }
def T266 : TI := { k := .array 0 16, size := 0, bytes := 0, zero := [] }
def T267 : TI := { k := .struct [(0, 266)], size := 0, bytes := 0, zero := [] }
def T268 : TI := { k := .struct [(0, 266)], size := 0, bytes := 0, zero := [] }
def T269 : TI := { k := .func, size := 1, bytes := 8, zero := [.nilf] }
def T270 : TI := { k := .int .u8, size := 1, bytes := 1, zero := [.int .u8 0] }
def T271 : TI := { k := .func, size := 1, bytes := 8, zero := [.nilf] }
def T272 : TI := { k := .ptr 5, size := 1, bytes := 8, zero := [.nilp] }
def T273 : TI := { k := .int .i32, size := 1, bytes := 4, zero := [.int .i32 0] }
def T274 : TI := { k := .int .i32, size := 1, bytes := 4, zero := [.int .i32 0] }
def T275 : TI := { k := .struct [(0, 12), (1, 12), (2, 240), (3, 270), (4, 5), (5, 5), (6, 205), (7, 271), (8, 272), (9, 273), (10, 274)], size := 11, bytes := 48, zero := [.int .u64 0, .int .u64 0, .int .u32 0, .int .u8 0, .int .u8 0, .int .u8 0, .int .u8 0, .nilf, .nilp, .int .i32 0, .int .i32 0] }
def T276 : TI := { k := .struct [(0, 12), (1, 12), (2, 240), (3, 270), (4, 5), (5, 5), (6, 205), (7, 271), (8, 272), (9, 273), (10, 274)], size := 11, bytes := 48, zero := [.int .u64 0, .int .u64 0, .int .u32 0, .int .u8 0, .int .u8 0, .int .u8 0, .int .u8 0, .nilf, .nilp, .int .i32 0, .int .i32 0] }
def T277 : TI := { k := .func, size := 1, bytes := 8, zero := [.nilf] }
def T278 : TI := { k := .func, size := 1, bytes := 8, zero := [.nilf] }
def T279 : TI := { k := .struct [(0, 9), (1, 205)], size := 2, bytes := 24, zero := [.str ⟨#[]⟩, .int .u8 0] }
def T280 : TI := { k := .struct [(0, 9), (1, 205)], size := 2, bytes := 24, zero := [.str ⟨#[]⟩, .int .u8 0] }
def T281 : TI := { k := .ptr 285, size := 1, bytes := 8, zero := [.nilp] }
def T282 : TI := { k := .func, size := 1, bytes := 8, zero := [.nilf] }
def T283 : TI := { k := .int .u16, size := 1, bytes := 2, zero := [.int .u16 0] }
def T284 : TI := { k := .struct [(0, 273), (1, 283), (2, 283), (3, 240), (4, 240)], size := 5, bytes := 16, zero := [.int .i32 0, .int .u16 0, .int .u16 0, .int .u32 0, .int .u32 0] }
def T285 : TI := { k := .struct [(0, 273), (1, 283), (2, 283), (3, 240), (4, 240)], size := 5, bytes := 16, zero := [.int .i32 0, .int .u16 0, .int .u16 0, .int .u32 0, .int .u32 0] }
def T286 : TI := { k := .slice 289, size := 1, bytes := 24, zero := [.nils] }
def T287 : TI := { k := .int .i32, size := 1, bytes := 4, zero := [.int .i32 0] }
def T288 : TI := { k := .struct [(0, 273), (1, 274), (2, 287), (3, 287)], size := 4, bytes := 16, zero := [.int .i32 0, .int .i32 0, .int .i32 0, .int .i32 0] }
def T289 : TI := { k := .struct [(0, 273), (1, 274), (2, 287), (3, 287)], size := 4, bytes := 16, zero := [.int .i32 0, .int .i32 0, .int .i32 0, .int .i32 0] }
def T290 : TI := { k := .ptr 46, size := 1, bytes := 8, zero := [.nilp] }
theorem tok1 : TyOk Tryz.prog 1 T1 := ⟨⟨_, Tryz.underlying1, ⟨_, _, _, rfl⟩⟩, ⟨_, _, Tryz.type1, rfl, rfl, rfl, rfl, rfl, rfl, rfl⟩⟩
theorem tok2 : TyOk Tryz.prog 2 T2 := ⟨⟨_, Tryz.underlying2, rfl⟩, ⟨_, _, Tryz.type2, rfl, rfl, rfl, rfl, rfl, rfl, rfl⟩⟩
theorem tok3 : TyOk Tryz.prog 3 T3 := ⟨⟨_, Tryz.underlying3, rfl⟩, ⟨_, _, Tryz.type3, rfl, rfl, rfl, rfl, rfl, rfl, rfl⟩⟩
theorem tok4 : TyOk Tryz.prog 4 T4 := ⟨⟨_, Tryz.underlying4, rfl⟩, ⟨_, _, Tryz.type4, rfl, rfl, rfl, rfl, rfl, rfl, rfl⟩⟩
theorem tok5 : TyOk Tryz.prog 5 T5 := ⟨⟨_, Tryz.underlying5, rfl⟩, ⟨_, _, Tryz.type5, rfl, rfl, rfl, rfl, rfl, rfl, rfl⟩⟩
theorem tok6 : TyOk Tryz.prog 6 T6 := ⟨⟨_, Tryz.underlying6, rfl⟩, ⟨_, _, Tryz.type6, rfl, rfl, rfl, rfl, rfl, rfl, rfl⟩⟩
theorem tok7 : TyOk Tryz.prog 7 T7 := ⟨⟨_, Tryz.underlying7, ⟨_, rfl, rfl⟩⟩, ⟨_, _, Tryz.type7, rfl, rfl, rfl, rfl, rfl, rfl, rfl⟩⟩
theorem tok8 : TyOk Tryz.prog 8 T8 := ⟨⟨_, Tryz.underlying8, ⟨_, rfl, rfl⟩⟩, ⟨_, _, Tryz.type8, rfl, rfl, rfl, rfl, rfl, rfl, rfl⟩⟩
theorem tok9 : TyOk Tryz.prog 9 T9 := ⟨⟨_, Tryz.underlying9, rfl⟩, ⟨_, _, Tryz.type9, rfl, rfl, rfl, rfl, rfl, rfl, rfl⟩⟩
theorem tok10 : TyOk Tryz.prog 10 T10 := ⟨⟨_, Tryz.underlying10, rfl⟩, ⟨_, _, Tryz.type10, rfl, rfl, rfl, rfl, rfl, rfl, rfl⟩⟩
theorem tok11 : TyOk Tryz.prog 11 T11 := ⟨⟨_, Tryz.underlying11, rfl⟩, ⟨_, _, Tryz.type11, rfl, rfl, rfl, rfl, rfl, rfl, rfl⟩⟩
theorem tok12 : TyOk Tryz.prog 12 T12 := ⟨⟨_, Tryz.underlying12, rfl⟩, ⟨_, _, Tryz.type12, rfl, rfl, rfl, rfl, rfl, rfl, rfl⟩⟩
theorem tok13 : TyOk Tryz.prog 13 T13 := ⟨⟨_, Tryz.underlying13, ⟨_, rfl, rfl⟩⟩, ⟨_, _, Tryz.type13, rfl, rfl, rfl, rfl, rfl, rfl, rfl⟩⟩
theorem tok14 : TyOk Tryz.prog 14 T14 := ⟨⟨_, Tryz.underlying14, ⟨_, rfl, rfl⟩⟩, ⟨_, _, Tryz.type14, rfl, rfl, rfl, rfl, rfl, rfl, rfl⟩⟩
theorem tok15 : TyOk Tryz.prog 15 T15 := ⟨⟨_, Tryz.underlying15, rfl⟩, ⟨_, _, Tryz.type15, rfl, rfl, rfl, rfl, rfl, rfl, rfl⟩⟩
theorem tok16 : TyOk Tryz.prog 16 T16 := ⟨⟨_, Tryz.underlying16, rfl⟩, ⟨_, _, Tryz.type16, rfl, rfl, rfl, rfl, rfl, rfl, rfl⟩⟩
theorem tok17 : TyOk Tryz.prog 17 T17 := ⟨⟨_, Tryz.underlying17, rfl⟩, ⟨_, _, Tryz.type17, rfl, rfl, rfl, rfl, rfl, rfl, rfl⟩⟩
theorem tok18 : TyOk Tryz.prog 18 T18 := ⟨⟨_, Tryz.underlying18, ⟨_, rfl, rfl⟩⟩, ⟨_, _, Tryz.type18, rfl, rfl, rfl, rfl, rfl, rfl, rfl⟩⟩
theorem tok19 : TyOk Tryz.prog 19 T19 := ⟨⟨_, Tryz.underlying19, ⟨_, rfl, rfl⟩⟩, ⟨_, _, Tryz.type19, rfl, rfl, rfl, rfl, rfl, rfl, rfl⟩⟩
theorem tok20 : TyOk Tryz.prog 20 T20 := ⟨⟨_, Tryz.underlying20, ⟨_, rfl⟩⟩, ⟨_, _, Tryz.type20, rfl, rfl, rfl, rfl, rfl, rfl, rfl⟩⟩
theorem tok21 : TyOk Tryz.prog 21 T21 := ⟨⟨_, Tryz.underlying21, rfl⟩, ⟨_, _, Tryz.type21, rfl, rfl, rfl, rfl, rfl, rfl, rfl⟩⟩
theorem tok22 : TyOk Tryz.prog 22 T22 := ⟨⟨_, Tryz.underlying22, rfl⟩, ⟨_, _, Tryz.type22, rfl, rfl, rfl, rfl, rfl, rfl, rfl⟩⟩
theorem tok23 : TyOk Tryz.prog 23 T23 := ⟨⟨_, Tryz.underlying23, rfl⟩, ⟨_, _, Tryz.type23, rfl, rfl, rfl, rfl, rfl, rfl, rfl⟩⟩
theorem tok24 : TyOk Tryz.prog 24 T24 := ⟨⟨_, Tryz.underlying24, ⟨_, _, _, rfl⟩⟩, ⟨_, _, Tryz.type24, rfl, rfl, rfl, rfl, rfl, rfl, rfl⟩⟩
theorem tok25 : TyOk Tryz.prog 25 T25 := ⟨⟨_, Tryz.underlying25, ⟨_, _, _, rfl⟩⟩, ⟨_, _, Tryz.type25, rfl, rfl, rfl, rfl, rfl, rfl, rfl⟩⟩
theorem tok26 : TyOk Tryz.prog 26 T26 := ⟨⟨_, Tryz.underlying26, ⟨_, _, _, rfl⟩⟩, ⟨_, _, Tryz.type26, rfl, rfl, rfl, rfl, rfl, rfl, rfl⟩⟩
theorem tok27 : TyOk Tryz.prog 27 T27 := ⟨⟨_, Tryz.underlying27, rfl⟩, ⟨_, _, Tryz.type27, rfl, rfl, rfl, rfl, rfl, rfl, rfl⟩⟩
theorem tok28 : TyOk Tryz.prog 28 T28 := ⟨⟨_, Tryz.underlying28, rfl⟩, ⟨_, _, Tryz.type28, rfl, rfl, rfl, rfl, rfl, rfl, rfl⟩⟩
theorem tok29 : TyOk Tryz.prog 29 T29 := ⟨⟨_, Tryz.underlying29, ⟨_, rfl, rfl⟩⟩, ⟨_, _, Tryz.type29, rfl, rfl, rfl, rfl, rfl, rfl, rfl⟩⟩
theorem tok30 : TyOk Tryz.prog 30 T30 := ⟨⟨_, Tryz.underlying30, ⟨_, rfl, rfl⟩⟩, ⟨_, _, Tryz.type30, rfl, rfl, rfl, rfl, rfl, rfl, rfl⟩⟩
theorem tok32 : TyOk Tryz.prog 32 T32 := ⟨⟨_, Tryz.underlying32, ⟨_, _, _, rfl⟩⟩, ⟨_, _, Tryz.type32, rfl, rfl, rfl, rfl, rfl, rfl, rfl⟩⟩
theorem tok33 : TyOk Tryz.prog 33 T33 := ⟨⟨_, Tryz.underlying33, rfl⟩, ⟨_, _, Tryz.type33, rfl, rfl, rfl, rfl, rfl, rfl, rfl⟩⟩
theorem tok34 : TyOk Tryz.prog 34 T34 := ⟨⟨_, Tryz.underlying34, ⟨_, rfl, rfl⟩⟩, ⟨_, _, Tryz.type34, rfl, rfl, rfl, rfl, rfl, rfl, rfl⟩⟩
theorem tok35 : TyOk Tryz.prog 35 T35 := ⟨⟨_, Tryz.underlying35, ⟨_, rfl, rfl⟩⟩, ⟨_, _, Tryz.type35, rfl, rfl, rfl, rfl, rfl, rfl, rfl⟩⟩
theorem tok36 : TyOk Tryz.prog 36 T36 := ⟨⟨_, Tryz.underlying36, ⟨_, rfl, rfl⟩⟩, ⟨_, _, Tryz.type36, rfl, rfl, rfl, rfl, rfl, rfl, rfl⟩⟩
theorem tok37 : TyOk Tryz.prog 37 T37 := ⟨⟨_, Tryz.underlying37, ⟨_, rfl, rfl⟩⟩, ⟨_, _, Tryz.type37, rfl, rfl, rfl, rfl, rfl, rfl, rfl⟩⟩
theorem tok38 : TyOk Tryz.prog 38 T38 := ⟨⟨_, Tryz.underlying38, ⟨_, _, _, rfl⟩⟩, ⟨_, _, Tryz.type38, rfl, rfl, rfl, rfl, rfl, rfl, rfl⟩⟩
theorem tok39 : TyOk Tryz.prog 39 T39 := ⟨⟨_, Tryz.underlying39, ⟨_, _, _, rfl⟩⟩, ⟨_, _, Tryz.type39, rfl, rfl, rfl, rfl, rfl, rfl, rfl⟩⟩
theorem tok40 : TyOk Tryz.prog 40 T40 := ⟨⟨_, Tryz.underlying40, ⟨_, _, _, rfl⟩⟩, ⟨_, _, Tryz.type40, rfl, rfl, rfl, rfl, rfl, rfl, rfl⟩⟩
theorem tok41 : TyOk Tryz.prog 41 T41 := ⟨⟨_, Tryz.underlying41, ⟨_, _, _, rfl⟩⟩, ⟨_, _, Tryz.type41, rfl, rfl, rfl, rfl, rfl, rfl, rfl⟩⟩
theorem tok42 : TyOk Tryz.prog 42 T42 := ⟨⟨_, Tryz.underlying42, ⟨_, rfl, rfl⟩⟩, ⟨_, _, Tryz.type42, rfl, rfl, rfl, rfl, rfl, rfl, rfl⟩⟩
theorem tok43 : TyOk Tryz.prog 43 T43 := ⟨⟨_, Tryz.underlying43, ⟨_, rfl, rfl⟩⟩, ⟨_, _, Tryz.type43, rfl, rfl, rfl, rfl, rfl, rfl, rfl⟩⟩
theorem tok44 : TyOk Tryz.prog 44 T44 := ⟨⟨_, Tryz.underlying44, ⟨_, _, _, rfl⟩⟩, ⟨_, _, Tryz.type44, rfl, rfl, rfl, rfl, rfl, rfl, rfl⟩⟩
theorem tok45 : TyOk Tryz.prog 45 T45 := ⟨⟨_, Tryz.underlying45, ⟨_, rfl⟩⟩, ⟨_, _, Tryz.type45, rfl, rfl, rfl, rfl, rfl, rfl, rfl⟩⟩
theorem tok46 : TyOk Tryz.prog 46 T46 := ⟨⟨_, Tryz.underlying46, ⟨_, rfl⟩⟩, ⟨_, _, Tryz.type46, rfl, rfl, rfl, rfl, rfl, rfl, rfl⟩⟩
theorem tok48 : TyOk Tryz.prog 48 T48 := ⟨⟨_, Tryz.underlying48, ⟨_, _, _, rfl⟩⟩, ⟨_, _, Tryz.type48, rfl, rfl, rfl, rfl, rfl, rfl, rfl⟩⟩
theorem tok49 : TyOk Tryz.prog 49 T49 := ⟨⟨_, Tryz.underlying49, ⟨_, _, _, rfl⟩⟩, ⟨_, _, Tryz.type49, rfl, rfl, rfl, rfl, rfl, rfl, rfl⟩⟩
theorem tok50 : TyOk Tryz.prog 50 T50 := ⟨⟨_, Tryz.underlying50, ⟨_, _, _, rfl⟩⟩, ⟨_, _, Tryz.type50, rfl, rfl, rfl, rfl, rfl, rfl, rfl⟩⟩
theorem tok51 : TyOk Tryz.prog 51 T51 := ⟨⟨_, Tryz.underlying51, ⟨_, _, _, rfl⟩⟩, ⟨_, _, Tryz.type51, rfl, rfl, rfl, rfl, rfl, rfl, rfl⟩⟩
theorem tok52 : TyOk Tryz.prog 52 T52 := ⟨⟨_, Tryz.underlying52, ⟨_, _, _, rfl⟩⟩, ⟨_, _, Tryz.type52, rfl, rfl, rfl, rfl, rfl, rfl, rfl⟩⟩
theorem tok54 : TyOk Tryz.prog 54 T54 := ⟨⟨_, Tryz.underlying54, ⟨_, _, _, rfl⟩⟩, ⟨_, _, Tryz.type54, rfl, rfl, rfl, rfl, rfl, rfl, rfl⟩⟩
theorem tok55 : TyOk Tryz.prog 55 T55 := ⟨⟨_, Tryz.underlying55, ⟨_, _, _, rfl⟩⟩, ⟨_, _, Tryz.type55, rfl, rfl, rfl, rfl, rfl, rfl, rfl⟩⟩
theorem tok56 : TyOk Tryz.prog 56 T56 := ⟨⟨_, Tryz.underlying56, ⟨_, _, _, rfl⟩⟩, ⟨_, _, Tryz.type56, rfl, rfl, rfl, rfl, rfl, rfl, rfl⟩⟩
theorem tok57 : TyOk Tryz.prog 57 T57 := ⟨⟨_, Tryz.underlying57, ⟨_, _, _, rfl⟩⟩, ⟨_, _, Tryz.type57, rfl, rfl, rfl, rfl, rfl, rfl, rfl⟩⟩
theorem tok58 : TyOk Tryz.prog 58 T58 := ⟨⟨_, Tryz.underlying58, ⟨_, _, _, rfl⟩⟩, ⟨_, _, Tryz.type58, rfl, rfl, rfl, rfl, rfl, rfl, rfl⟩⟩
theorem tok59 : TyOk Tryz.prog 59 T59 := ⟨⟨_, Tryz.underlying59, ⟨_, _, _, rfl⟩⟩, ⟨_, _, Tryz.type59, rfl, rfl, rfl, rfl, rfl, rfl, rfl⟩⟩
theorem tok60 : TyOk Tryz.prog 60 T60 := ⟨⟨_, Tryz.underlying60, ⟨_, _, _, rfl⟩⟩, ⟨_, _, Tryz.type60, rfl, rfl, rfl, rfl, rfl, rfl, rfl⟩⟩
theorem tok62 : TyOk Tryz.prog 62 T62 := ⟨⟨_, Tryz.underlying62, ⟨_, _, _, rfl⟩⟩, ⟨_, _, Tryz.type62, rfl, rfl, rfl, rfl, rfl, rfl, rfl⟩⟩
theorem tok64 : TyOk Tryz.prog 64 T64 := ⟨⟨_, Tryz.underlying64, ⟨_, _, _, rfl⟩⟩, ⟨_, _, Tryz.type64, rfl, rfl, rfl, rfl, rfl, rfl, rfl⟩⟩
theorem tok65 : TyOk Tryz.prog 65 T65 := ⟨⟨_, Tryz.underlying65, ⟨_, _, _, rfl⟩⟩, ⟨_, _, Tryz.type65, rfl, rfl, rfl, rfl, rfl, rfl, rfl⟩⟩
theorem tok66 : TyOk Tryz.prog 66 T66 := ⟨⟨_, Tryz.underlying66, ⟨_, _, _, rfl⟩⟩, ⟨_, _, Tryz.type66, rfl, rfl, rfl, rfl, rfl, rfl, rfl⟩⟩
theorem tok67 : TyOk Tryz.prog 67 T67 := ⟨⟨_, Tryz.underlying67, ⟨_, _, _, rfl⟩⟩, ⟨_, _, Tryz.type67, rfl, rfl, rfl, rfl, rfl, rfl, rfl⟩⟩
theorem tok68 : TyOk Tryz.prog 68 T68 := ⟨⟨_, Tryz.underlying68, rfl⟩, ⟨_, _, Tryz.type68, rfl, rfl, rfl, rfl, rfl, rfl, rfl⟩⟩
theorem tok70 : TyOk Tryz.prog 70 T70 := ⟨⟨_, Tryz.underlying70, ⟨_, _, _, rfl⟩⟩, ⟨_, _, Tryz.type70, rfl, rfl, rfl, rfl, rfl, rfl, rfl⟩⟩
theorem tok71 : TyOk Tryz.prog 71 T71 := ⟨⟨_, Tryz.underlying71, ⟨_, _, _, rfl⟩⟩, ⟨_, _, Tryz.type71, rfl, rfl, rfl, rfl, rfl, rfl, rfl⟩⟩
theorem tok72 : TyOk Tryz.prog 72 T72 := ⟨⟨_, Tryz.underlying72, ⟨_, _, _, rfl⟩⟩, ⟨_, _, Tryz.type72, rfl, rfl, rfl, rfl, rfl, rfl, rfl⟩⟩
theorem tok73 : TyOk Tryz.prog 73 T73 := ⟨⟨_, Tryz.underlying73, rfl⟩, ⟨_, _, Tryz.type73, rfl, rfl, rfl, rfl, rfl, rfl, rfl⟩⟩
theorem tok74 : TyOk Tryz.prog 74 T74 := ⟨⟨_, Tryz.underlying74, ⟨_, _, _, rfl⟩⟩, ⟨_, _, Tryz.type74, rfl, rfl, rfl, rfl, rfl, rfl, rfl⟩⟩
theorem tok75 : TyOk Tryz.prog 75 T75 := ⟨⟨_, Tryz.underlying75, rfl⟩, ⟨_, _, Tryz.type75, rfl, rfl, rfl, rfl, rfl, rfl, rfl⟩⟩
theorem tok76 : TyOk Tryz.prog 76 T76 := ⟨⟨_, Tryz.underlying76, ⟨_, _, _, rfl⟩⟩, ⟨_, _, Tryz.type76, rfl, rfl, rfl, rfl, rfl, rfl, rfl⟩⟩
theorem tok77 : TyOk Tryz.prog 77 T77 := ⟨⟨_, Tryz.underlying77, ⟨_, _, _, rfl⟩⟩, ⟨_, _, Tryz.type77, rfl, rfl, rfl, rfl, rfl, rfl, rfl⟩⟩
theorem tok78 : TyOk Tryz.prog 78 T78 := ⟨⟨_, Tryz.underlying78, rfl⟩, ⟨_, _, Tryz.type78, rfl, rfl, rfl, rfl, rfl, rfl, rfl⟩⟩
theorem tok79 : TyOk Tryz.prog 79 T79 := ⟨⟨_, Tryz.underlying79, ⟨_, _, _, rfl⟩⟩, ⟨_, _, Tryz.type79, rfl, rfl, rfl, rfl, rfl, rfl, rfl⟩⟩
theorem tok80 : TyOk Tryz.prog 80 T80 := ⟨⟨_, Tryz.underlying80, ⟨_, _, _, rfl⟩⟩, ⟨_, _, Tryz.type80, rfl, rfl, rfl, rfl, rfl, rfl, rfl⟩⟩
theorem tok81 : TyOk Tryz.prog 81 T81 := ⟨⟨_, Tryz.underlying81, ⟨_, _, _, rfl⟩⟩, ⟨_, _, Tryz.type81, rfl, rfl, rfl, rfl, rfl, rfl, rfl⟩⟩
theorem tok82 : TyOk Tryz.prog 82 T82 := ⟨⟨_, Tryz.underlying82, ⟨_, _, _, rfl⟩⟩, ⟨_, _, Tryz.type82, rfl, rfl, rfl, rfl, rfl, rfl, rfl⟩⟩
theorem tok83 : TyOk Tryz.prog 83 T83 := ⟨⟨_, Tryz.underlying83, ⟨_, _, _, rfl⟩⟩, ⟨_, _, Tryz.type83, rfl, rfl, rfl, rfl, rfl, rfl, rfl⟩⟩
theorem tok84 : TyOk Tryz.prog 84 T84 := ⟨⟨_, Tryz.underlying84, ⟨_, _, _, rfl⟩⟩, ⟨_, _, Tryz.type84, rfl, rfl, rfl, rfl, rfl, rfl, rfl⟩⟩
theorem tok86 : TyOk Tryz.prog 86 T86 := ⟨⟨_, Tryz.underlying86, ⟨_, _, _, rfl⟩⟩, ⟨_, _, Tryz.type86, rfl, rfl, rfl, rfl, rfl, rfl, rfl⟩⟩
theorem tok87 : TyOk Tryz.prog 87 T87 := ⟨⟨_, Tryz.underlying87, rfl⟩, ⟨_, _, Tryz.type87, rfl, rfl, rfl, rfl, rfl, rfl, rfl⟩⟩
theorem tok88 : TyOk Tryz.prog 88 T88 := ⟨⟨_, Tryz.underlying88, ⟨_, _, _, rfl⟩⟩, ⟨_, _, Tryz.type88, rfl, rfl, rfl, rfl, rfl, rfl, rfl⟩⟩
theorem tok89 : TyOk Tryz.prog 89 T89 := ⟨⟨_, Tryz.underlying89, rfl⟩, ⟨_, _, Tryz.type89, rfl, rfl, rfl, rfl, rfl, rfl, rfl⟩⟩
theorem tok90 : TyOk Tryz.prog 90 T90 := ⟨⟨_, Tryz.underlying90, ⟨_, _, _, rfl⟩⟩, ⟨_, _, Tryz.type90, rfl, rfl, rfl, rfl, rfl, rfl, rfl⟩⟩
theorem tok91 : TyOk Tryz.prog 91 T91 := ⟨⟨_, Tryz.underlying91, ⟨_, rfl, rfl⟩⟩, ⟨_, _, Tryz.type91, rfl, rfl, rfl, rfl, rfl, rfl, rfl⟩⟩
theorem tok92 : TyOk Tryz.prog 92 T92 := ⟨⟨_, Tryz.underlying92, ⟨_, rfl, rfl⟩⟩, ⟨_, _, Tryz.type92, rfl, rfl, rfl, rfl, rfl, rfl, rfl⟩⟩
theorem tok93 : TyOk Tryz.prog 93 T93 := ⟨⟨_, Tryz.underlying93, ⟨_, rfl, rfl⟩⟩, ⟨_, _, Tryz.type93, rfl, rfl, rfl, rfl, rfl, rfl, rfl⟩⟩
theorem tok94 : TyOk Tryz.prog 94 T94 := ⟨⟨_, Tryz.underlying94, ⟨_, rfl, rfl⟩⟩, ⟨_, _, Tryz.type94, rfl, rfl, rfl, rfl, rfl, rfl, rfl⟩⟩
theorem tok95 : TyOk Tryz.prog 95 T95 := ⟨⟨_, Tryz.underlying95, ⟨_, _, _, rfl⟩⟩, ⟨_, _, Tryz.type95, rfl, rfl, rfl, rfl, rfl, rfl, rfl⟩⟩
theorem tok97 : TyOk Tryz.prog 97 T97 := ⟨⟨_, Tryz.underlying97, ⟨_, _, _, rfl⟩⟩, ⟨_, _, Tryz.type97, rfl, rfl, rfl, rfl, rfl, rfl, rfl⟩⟩
theorem tok98 : TyOk Tryz.prog 98 T98 := ⟨⟨_, Tryz.underlying98, ⟨_, _, _, rfl⟩⟩, ⟨_, _, Tryz.type98, rfl, rfl, rfl, rfl, rfl, rfl, rfl⟩⟩
theorem tok100 : TyOk Tryz.prog 100 T100 := ⟨⟨_, Tryz.underlying100, ⟨_, _, _, rfl⟩⟩, ⟨_, _, Tryz.type100, rfl, rfl, rfl, rfl, rfl, rfl, rfl⟩⟩
theorem tok101 : TyOk Tryz.prog 101 T101 := ⟨⟨_, Tryz.underlying101, ⟨_, _, _, rfl⟩⟩, ⟨_, _, Tryz.type101, rfl, rfl, rfl, rfl, rfl, rfl, rfl⟩⟩
theorem tok102 : TyOk Tryz.prog 102 T102 := ⟨⟨_, Tryz.underlying102, ⟨_, _, _, rfl⟩⟩, ⟨_, _, Tryz.type102, rfl, rfl, rfl, rfl, rfl, rfl, rfl⟩⟩
theorem tok103 : TyOk Tryz.prog 103 T103 := ⟨⟨_, Tryz.underlying103, ⟨_, _, _, rfl⟩⟩, ⟨_, _, Tryz.type103, rfl, rfl, rfl, rfl, rfl, rfl, rfl⟩⟩
theorem tok104 : TyOk Tryz.prog 104 T104 := ⟨⟨_, Tryz.underlying104, ⟨_, _, _, rfl⟩⟩, ⟨_, _, Tryz.type104, rfl, rfl, rfl, rfl, rfl, rfl, rfl⟩⟩
theorem tok105 : TyOk Tryz.prog 105 T105 := ⟨⟨_, Tryz.underlying105, ⟨_, _, _, rfl⟩⟩, ⟨_, _, Tryz.type105, rfl, rfl, rfl, rfl, rfl, rfl, rfl⟩⟩
theorem tok106 : TyOk Tryz.prog 106 T106 := ⟨⟨_, Tryz.underlying106, ⟨_, _, _, rfl⟩⟩, ⟨_, _, Tryz.type106, rfl, rfl, rfl, rfl, rfl, rfl, rfl⟩⟩
theorem tok107 : TyOk Tryz.prog 107 T107 := ⟨⟨_, Tryz.underlying107, ⟨_, _, _, rfl⟩⟩, ⟨_, _, Tryz.type107, rfl, rfl, rfl, rfl, rfl, rfl, rfl⟩⟩
theorem tok108 : TyOk Tryz.prog 108 T108 := ⟨⟨_, Tryz.underlying108, rfl⟩, ⟨_, _, Tryz.type108, rfl, rfl, rfl, rfl, rfl, rfl, rfl⟩⟩
theorem tok109 : TyOk Tryz.prog 109 T109 := ⟨⟨_, Tryz.underlying109, ⟨_, _, _, rfl⟩⟩, ⟨_, _, Tryz.type109, rfl, rfl, rfl, rfl, rfl, rfl, rfl⟩⟩
theorem tok110 : TyOk Tryz.prog 110 T110 := ⟨⟨_, Tryz.underlying110, ⟨_, _, _, rfl⟩⟩, ⟨_, _, Tryz.type110, rfl, rfl, rfl, rfl, rfl, rfl, rfl⟩⟩
theorem tok111 : TyOk Tryz.prog 111 T111 := ⟨⟨_, Tryz.underlying111, ⟨_, _, _, rfl⟩⟩, ⟨_, _, Tryz.type111, rfl, rfl, rfl, rfl, rfl, rfl, rfl⟩⟩
theorem tok113 : TyOk Tryz.prog 113 T113 := ⟨⟨_, Tryz.underlying113, ⟨_, _, _, rfl⟩⟩, ⟨_, _, Tryz.type113, rfl, rfl, rfl, rfl, rfl, rfl, rfl⟩⟩
theorem tok114 : TyOk Tryz.prog 114 T114 := ⟨⟨_, Tryz.underlying114, ⟨_, _, _, rfl⟩⟩, ⟨_, _, Tryz.type114, rfl, rfl, rfl, rfl, rfl, rfl, rfl⟩⟩
theorem tok115 : TyOk Tryz.prog 115 T115 := ⟨⟨_, Tryz.underlying115, ⟨_, _, _, rfl⟩⟩, ⟨_, _, Tryz.type115, rfl, rfl, rfl, rfl, rfl, rfl, rfl⟩⟩
theorem tok117 : TyOk Tryz.prog 117 T117 := ⟨⟨_, Tryz.underlying117, ⟨_, _, _, rfl⟩⟩, ⟨_, _, Tryz.type117, rfl, rfl, rfl, rfl, rfl, rfl, rfl⟩⟩
theorem tok118 : TyOk Tryz.prog 118 T118 := ⟨⟨_, Tryz.underlying118, rfl⟩, ⟨_, _, Tryz.type118, rfl, rfl, rfl, rfl, rfl, rfl, rfl⟩⟩
theorem tok119 : TyOk Tryz.prog 119 T119 := ⟨⟨_, Tryz.underlying119, ⟨_, _, _, rfl⟩⟩, ⟨_, _, Tryz.type119, rfl, rfl, rfl, rfl, rfl, rfl, rfl⟩⟩
theorem tok121 : TyOk Tryz.prog 121 T121 := ⟨⟨_, Tryz.underlying121, ⟨_, _, _, rfl⟩⟩, ⟨_, _, Tryz.type121, rfl, rfl, rfl, rfl, rfl, rfl, rfl⟩⟩
theorem tok122 : TyOk Tryz.prog 122 T122 := ⟨⟨_, Tryz.underlying122, ⟨_, rfl, rfl⟩⟩, ⟨_, _, Tryz.type122, rfl, rfl, rfl, rfl, rfl, rfl, rfl⟩⟩
theorem tok123 : TyOk Tryz.prog 123 T123 := ⟨⟨_, Tryz.underlying123, ⟨_, rfl, rfl⟩⟩, ⟨_, _, Tryz.type123, rfl, rfl, rfl, rfl, rfl, rfl, rfl⟩⟩
theorem tok124 : TyOk Tryz.prog 124 T124 := ⟨⟨_, Tryz.underlying124, ⟨_, _, _, rfl⟩⟩, ⟨_, _, Tryz.type124, rfl, rfl, rfl, rfl, rfl, rfl, rfl⟩⟩
theorem tok125 : TyOk Tryz.prog 125 T125 := ⟨⟨_, Tryz.underlying125, ⟨_, _, _, rfl⟩⟩, ⟨_, _, Tryz.type125, rfl, rfl, rfl, rfl, rfl, rfl, rfl⟩⟩
theorem tok126 : TyOk Tryz.prog 126 T126 := ⟨⟨_, Tryz.underlying126, ⟨_, _, _, rfl⟩⟩, ⟨_, _, Tryz.type126, rfl, rfl, rfl, rfl, rfl, rfl, rfl⟩⟩
theorem tok127 : TyOk Tryz.prog 127 T127 := ⟨⟨_, Tryz.underlying127, ⟨_, _, _, rfl⟩⟩, ⟨_, _, Tryz.type127, rfl, rfl, rfl, rfl, rfl, rfl, rfl⟩⟩
theorem tok128 : TyOk Tryz.prog 128 T128 := ⟨⟨_, Tryz.underlying128, ⟨_, _, _, rfl⟩⟩, ⟨_, _, Tryz.type128, rfl, rfl, rfl, rfl, rfl, rfl, rfl⟩⟩
theorem tok129 : TyOk Tryz.prog 129 T129 := ⟨⟨_, Tryz.underlying129, ⟨_, _, _, rfl⟩⟩, ⟨_, _, Tryz.type129, rfl, rfl, rfl, rfl, rfl, rfl, rfl⟩⟩
theorem tok130 : TyOk Tryz.prog 130 T130 := ⟨⟨_, Tryz.underlying130, ⟨_, _, _, rfl⟩⟩, ⟨_, _, Tryz.type130, rfl, rfl, rfl, rfl, rfl, rfl, rfl⟩⟩
theorem tok131 : TyOk Tryz.prog 131 T131 := ⟨⟨_, Tryz.underlying131, ⟨_, _, _, rfl⟩⟩, ⟨_, _, Tryz.type131, rfl, rfl, rfl, rfl, rfl, rfl, rfl⟩⟩
theorem tok132 : TyOk Tryz.prog 132 T132 := ⟨⟨_, Tryz.underlying132, rfl⟩, ⟨_, _, Tryz.type132, rfl, rfl, rfl, rfl, rfl, rfl, rfl⟩⟩
theorem tok133 : TyOk Tryz.prog 133 T133 := ⟨⟨_, Tryz.underlying133, ⟨_, _, _, rfl⟩⟩, ⟨_, _, Tryz.type133, rfl, rfl, rfl, rfl, rfl, rfl, rfl⟩⟩
theorem tok134 : TyOk Tryz.prog 134 T134 := ⟨⟨_, Tryz.underlying134, ⟨_, rfl, rfl⟩⟩, ⟨_, _, Tryz.type134, rfl, rfl, rfl, rfl, rfl, rfl, rfl⟩⟩
theorem tok135 : TyOk Tryz.prog 135 T135 := ⟨⟨_, Tryz.underlying135, ⟨_, rfl, rfl⟩⟩, ⟨_, _, Tryz.type135, rfl, rfl, rfl, rfl, rfl, rfl, rfl⟩⟩
theorem tok136 : TyOk Tryz.prog 136 T136 := ⟨⟨_, Tryz.underlying136, rfl⟩, ⟨_, _, Tryz.type136, rfl, rfl, rfl, rfl, rfl, rfl, rfl⟩⟩
theorem tok137 : TyOk Tryz.prog 137 T137 := ⟨⟨_, Tryz.underlying137, ⟨_, _, _, rfl⟩⟩, ⟨_, _, Tryz.type137, rfl, rfl, rfl, rfl, rfl, rfl, rfl⟩⟩
theorem tok138 : TyOk Tryz.prog 138 T138 := ⟨⟨_, Tryz.underlying138, ⟨_, rfl, rfl⟩⟩, ⟨_, _, Tryz.type138, rfl, rfl, rfl, rfl, rfl, rfl, rfl⟩⟩
theorem tok139 : TyOk Tryz.prog 139 T139 := ⟨⟨_, Tryz.underlying139, ⟨_, rfl, rfl⟩⟩, ⟨_, _, Tryz.type139, rfl, rfl, rfl, rfl, rfl, rfl, rfl⟩⟩
theorem tok140 : TyOk Tryz.prog 140 T140 := ⟨⟨_, Tryz.underlying140, ⟨_, rfl, rfl⟩⟩, ⟨_, _, Tryz.type140, rfl, rfl, rfl, rfl, rfl, rfl, rfl⟩⟩
theorem tok141 : TyOk Tryz.prog 141 T141 := ⟨⟨_, Tryz.underlying141, ⟨_, rfl, rfl⟩⟩, ⟨_, _, Tryz.type141, rfl, rfl, rfl, rfl, rfl, rfl, rfl⟩⟩
theorem tok143 : TyOk Tryz.prog 143 T143 := ⟨⟨_, Tryz.underlying143, ⟨_, _, _, rfl⟩⟩, ⟨_, _, Tryz.type143, rfl, rfl, rfl, rfl, rfl, rfl, rfl⟩⟩
theorem tok144 : TyOk Tryz.prog 144 T144 := ⟨⟨_, Tryz.underlying144, ⟨_, _, _, rfl⟩⟩, ⟨_, _, Tryz.type144, rfl, rfl, rfl, rfl, rfl, rfl, rfl⟩⟩
theorem tok145 : TyOk Tryz.prog 145 T145 := ⟨⟨_, Tryz.underlying145, ⟨_, _, _, rfl⟩⟩, ⟨_, _, Tryz.type145, rfl, rfl, rfl, rfl, rfl, rfl, rfl⟩⟩
theorem tok146 : TyOk Tryz.prog 146 T146 := ⟨⟨_, Tryz.underlying146, ⟨_, _, _, rfl⟩⟩, ⟨_, _, Tryz.type146, rfl, rfl, rfl, rfl, rfl, rfl, rfl⟩⟩
theorem tok147 : TyOk Tryz.prog 147 T147 := ⟨⟨_, Tryz.underlying147, ⟨_, _, _, rfl⟩⟩, ⟨_, _, Tryz.type147, rfl, rfl, rfl, rfl, rfl, rfl, rfl⟩⟩
theorem tok148 : TyOk Tryz.prog 148 T148 := ⟨⟨_, Tryz.underlying148, ⟨_, _, _, rfl⟩⟩, ⟨_, _, Tryz.type148, rfl, rfl, rfl, rfl, rfl, rfl, rfl⟩⟩
theorem tok150 : TyOk Tryz.prog 150 T150 := ⟨⟨_, Tryz.underlying150, ⟨_, _, _, rfl⟩⟩, ⟨_, _, Tryz.type150, rfl, rfl, rfl, rfl, rfl, rfl, rfl⟩⟩
theorem tok151 : TyOk Tryz.prog 151 T151 := ⟨⟨_, Tryz.underlying151, ⟨_, _, _, rfl⟩⟩, ⟨_, _, Tryz.type151, rfl, rfl, rfl, rfl, rfl, rfl, rfl⟩⟩
theorem tok152 : TyOk Tryz.prog 152 T152 := ⟨⟨_, Tryz.underlying152, ⟨_, _, _, rfl⟩⟩, ⟨_, _, Tryz.type152, rfl, rfl, rfl, rfl, rfl, rfl, rfl⟩⟩
theorem tok153 : TyOk Tryz.prog 153 T153 := ⟨⟨_, Tryz.underlying153, ⟨_, _, _, rfl⟩⟩, ⟨_, _, Tryz.type153, rfl, rfl, rfl, rfl, rfl, rfl, rfl⟩⟩
theorem tok154 : TyOk Tryz.prog 154 T154 := ⟨⟨_, Tryz.underlying154, ⟨_, _, _, rfl⟩⟩, ⟨_, _, Tryz.type154, rfl, rfl, rfl, rfl, rfl, rfl, rfl⟩⟩
theorem tok155 : TyOk Tryz.prog 155 T155 := ⟨⟨_, Tryz.underlying155, ⟨_, rfl, rfl⟩⟩, ⟨_, _, Tryz.type155, rfl, rfl, rfl, rfl, rfl, rfl, rfl⟩⟩
theorem tok156 : TyOk Tryz.prog 156 T156 := ⟨⟨_, Tryz.underlying156, ⟨_, rfl, rfl⟩⟩, ⟨_, _, Tryz.type156, rfl, rfl, rfl, rfl, rfl, rfl, rfl⟩⟩
theorem tok157 : TyOk Tryz.prog 157 T157 := ⟨⟨_, Tryz.underlying157, ⟨_, _, _, rfl⟩⟩, ⟨_, _, Tryz.type157, rfl, rfl, rfl, rfl, rfl, rfl, rfl⟩⟩
theorem tok158 : TyOk Tryz.prog 158 T158 := ⟨⟨_, Tryz.underlying158, ⟨_, _, _, rfl⟩⟩, ⟨_, _, Tryz.type158, rfl, rfl, rfl, rfl, rfl, rfl, rfl⟩⟩
theorem tok159 : TyOk Tryz.prog 159 T159 := ⟨⟨_, Tryz.underlying159, ⟨_, _, _, rfl⟩⟩, ⟨_, _, Tryz.type159, rfl, rfl, rfl, rfl, rfl, rfl, rfl⟩⟩
theorem tok160 : TyOk Tryz.prog 160 T160 := ⟨⟨_, Tryz.underlying160, ⟨_, _, _, rfl⟩⟩, ⟨_, _, Tryz.type160, rfl, rfl, rfl, rfl, rfl, rfl, rfl⟩⟩
theorem tok161 : TyOk Tryz.prog 161 T161 := ⟨⟨_, Tryz.underlying161, ⟨_, _, _, rfl⟩⟩, ⟨_, _, Tryz.type161, rfl, rfl, rfl, rfl, rfl, rfl, rfl⟩⟩
theorem tok162 : TyOk Tryz.prog 162 T162 := ⟨⟨_, Tryz.underlying162, rfl⟩, ⟨_, _, Tryz.type162, rfl, rfl, rfl, rfl, rfl, rfl, rfl⟩⟩
theorem tok163 : TyOk Tryz.prog 163 T163 := ⟨⟨_, Tryz.underlying163, rfl⟩, ⟨_, _, Tryz.type163, rfl, rfl, rfl, rfl, rfl, rfl, rfl⟩⟩
theorem tok164 : TyOk Tryz.prog 164 T164 := ⟨⟨_, Tryz.underlying164, ⟨_, rfl, rfl⟩⟩, ⟨_, _, Tryz.type164, rfl, rfl, rfl, rfl, rfl, rfl, rfl⟩⟩
theorem tok165 : TyOk Tryz.prog 165 T165 := ⟨⟨_, Tryz.underlying165, ⟨_, rfl, rfl⟩⟩, ⟨_, _, Tryz.type165, rfl, rfl, rfl, rfl, rfl, rfl, rfl⟩⟩
theorem tok166 : TyOk Tryz.prog 166 T166 := ⟨⟨_, Tryz.underlying166, ⟨_, _, _, rfl⟩⟩, ⟨_, _, Tryz.type166, rfl, rfl, rfl, rfl, rfl, rfl, rfl⟩⟩
theorem tok167 : TyOk Tryz.prog 167 T167 := ⟨⟨_, Tryz.underlying167, ⟨_, _, _, rfl⟩⟩, ⟨_, _, Tryz.type167, rfl, rfl, rfl, rfl, rfl, rfl, rfl⟩⟩
theorem tok169 : TyOk Tryz.prog 169 T169 := ⟨⟨_, Tryz.underlying169, ⟨_, _, _, rfl⟩⟩, ⟨_, _, Tryz.type169, rfl, rfl, rfl, rfl, rfl, rfl, rfl⟩⟩
theorem tok170 : TyOk Tryz.prog 170 T170 := ⟨⟨_, Tryz.underlying170, ⟨_, _, _, rfl⟩⟩, ⟨_, _, Tryz.type170, rfl, rfl, rfl, rfl, rfl, rfl, rfl⟩⟩
theorem tok171 : TyOk Tryz.prog 171 T171 := ⟨⟨_, Tryz.underlying171, ⟨_, _, _, rfl⟩⟩, ⟨_, _, Tryz.type171, rfl, rfl, rfl, rfl, rfl, rfl, rfl⟩⟩
theorem tok172 : TyOk Tryz.prog 172 T172 := ⟨⟨_, Tryz.underlying172, ⟨_, _, _, rfl⟩⟩, ⟨_, _, Tryz.type172, rfl, rfl, rfl, rfl, rfl, rfl, rfl⟩⟩
theorem tok173 : TyOk Tryz.prog 173 T173 := ⟨⟨_, Tryz.underlying173, ⟨_, _, _, rfl⟩⟩, ⟨_, _, Tryz.type173, rfl, rfl, rfl, rfl, rfl, rfl, rfl⟩⟩
theorem tok174 : TyOk Tryz.prog 174 T174 := ⟨⟨_, Tryz.underlying174, ⟨_, _, _, rfl⟩⟩, ⟨_, _, Tryz.type174, rfl, rfl, rfl, rfl, rfl, rfl, rfl⟩⟩
theorem tok175 : TyOk Tryz.prog 175 T175 := ⟨⟨_, Tryz.underlying175, ⟨_, _, _, rfl⟩⟩, ⟨_, _, Tryz.type175, rfl, rfl, rfl, rfl, rfl, rfl, rfl⟩⟩
theorem tok176 : TyOk Tryz.prog 176 T176 := ⟨⟨_, Tryz.underlying176, ⟨_, _, _, rfl⟩⟩, ⟨_, _, Tryz.type176, rfl, rfl, rfl, rfl, rfl, rfl, rfl⟩⟩
theorem tok177 : TyOk Tryz.prog 177 T177 := ⟨⟨_, Tryz.underlying177, ⟨_, _, _, rfl⟩⟩, ⟨_, _, Tryz.type177, rfl, rfl, rfl, rfl, rfl, rfl, rfl⟩⟩
theorem tok178 : TyOk Tryz.prog 178 T178 := ⟨⟨_, Tryz.underlying178, ⟨_, _, _, rfl⟩⟩, ⟨_, _, Tryz.type178, rfl, rfl, rfl, rfl, rfl, rfl, rfl⟩⟩
theorem tok179 : TyOk Tryz.prog 179 T179 := ⟨⟨_, Tryz.underlying179, ⟨_, _, _, rfl⟩⟩, ⟨_, _, Tryz.type179, rfl, rfl, rfl, rfl, rfl, rfl, rfl⟩⟩
theorem tok180 : TyOk Tryz.prog 180 T180 := ⟨⟨_, Tryz.underlying180, rfl⟩, ⟨_, _, Tryz.type180, rfl, rfl, rfl, rfl, rfl, rfl, rfl⟩⟩
theorem tok181 : TyOk Tryz.prog 181 T181 := ⟨⟨_, Tryz.underlying181, ⟨_, rfl, rfl⟩⟩, ⟨_, _, Tryz.type181, rfl, rfl, rfl, rfl, rfl, rfl, rfl⟩⟩
theorem tok182 : TyOk Tryz.prog 182 T182 := ⟨⟨_, Tryz.underlying182, ⟨_, rfl, rfl⟩⟩, ⟨_, _, Tryz.type182, rfl, rfl, rfl, rfl, rfl, rfl, rfl⟩⟩
theorem tok183 : TyOk Tryz.prog 183 T183 := ⟨⟨_, Tryz.underlying183, rfl⟩, ⟨_, _, Tryz.type183, rfl, rfl, rfl, rfl, rfl, rfl, rfl⟩⟩
theorem tok184 : TyOk Tryz.prog 184 T184 := ⟨⟨_, Tryz.underlying184, ⟨_, rfl, rfl⟩⟩, ⟨_, _, Tryz.type184, rfl, rfl, rfl, rfl, rfl, rfl, rfl⟩⟩
theorem tok185 : TyOk Tryz.prog 185 T185 := ⟨⟨_, Tryz.underlying185, ⟨_, rfl, rfl⟩⟩, ⟨_, _, Tryz.type185, rfl, rfl, rfl, rfl, rfl, rfl, rfl⟩⟩
theorem tok186 : TyOk Tryz.prog 186 T186 := ⟨⟨_, Tryz.underlying186, ⟨_, _, _, rfl⟩⟩, ⟨_, _, Tryz.type186, rfl, rfl, rfl, rfl, rfl, rfl, rfl⟩⟩
theorem tok187 : TyOk Tryz.prog 187 T187 := ⟨⟨_, Tryz.underlying187, ⟨_, _, _, rfl⟩⟩, ⟨_, _, Tryz.type187, rfl, rfl, rfl, rfl, rfl, rfl, rfl⟩⟩
theorem tok188 : TyOk Tryz.prog 188 T188 := ⟨⟨_, Tryz.underlying188, ⟨_, _, _, rfl⟩⟩, ⟨_, _, Tryz.type188, rfl, rfl, rfl, rfl, rfl, rfl, rfl⟩⟩
theorem tok189 : TyOk Tryz.prog 189 T189 := ⟨⟨_, Tryz.underlying189, ⟨_, _, _, rfl⟩⟩, ⟨_, _, Tryz.type189, rfl, rfl, rfl, rfl, rfl, rfl, rfl⟩⟩
theorem tok190 : TyOk Tryz.prog 190 T190 := ⟨⟨_, Tryz.underlying190, ⟨_, _, _, rfl⟩⟩, ⟨_, _, Tryz.type190, rfl, rfl, rfl, rfl, rfl, rfl, rfl⟩⟩
theorem tok191 : TyOk Tryz.prog 191 T191 := ⟨⟨_, Tryz.underlying191, rfl⟩, ⟨_, _, Tryz.type191, rfl, rfl, rfl, rfl, rfl, rfl, rfl⟩⟩
theorem tok192 : TyOk Tryz.prog 192 T192 := ⟨⟨_, Tryz.underlying192, ⟨_, _, _, rfl⟩⟩, ⟨_, _, Tryz.type192, rfl, rfl, rfl, rfl, rfl, rfl, rfl⟩⟩
theorem tok193 : TyOk Tryz.prog 193 T193 := ⟨⟨_, Tryz.underlying193, ⟨_, rfl, rfl⟩⟩, ⟨_, _, Tryz.type193, rfl, rfl, rfl, rfl, rfl, rfl, rfl⟩⟩
theorem tok194 : TyOk Tryz.prog 194 T194 := ⟨⟨_, Tryz.underlying194, ⟨_, rfl, rfl⟩⟩, ⟨_, _, Tryz.type194, rfl, rfl, rfl, rfl, rfl, rfl, rfl⟩⟩
theorem tok195 : TyOk Tryz.prog 195 T195 := ⟨⟨_, Tryz.underlying195, ⟨_, rfl⟩⟩, ⟨_, _, Tryz.type195, rfl, rfl, rfl, rfl, rfl, rfl, rfl⟩⟩
theorem tok196 : TyOk Tryz.prog 196 T196 := ⟨⟨_, Tryz.underlying196, ⟨_, rfl⟩⟩, ⟨_, _, Tryz.type196, rfl, rfl, rfl, rfl, rfl, rfl, rfl⟩⟩
theorem tok197 : TyOk Tryz.prog 197 T197 := ⟨⟨_, Tryz.underlying197, ⟨_, _, _, rfl⟩⟩, ⟨_, _, Tryz.type197, rfl, rfl, rfl, rfl, rfl, rfl, rfl⟩⟩
theorem tok198 : TyOk Tryz.prog 198 T198 := ⟨⟨_, Tryz.underlying198, ⟨_, _, _, rfl⟩⟩, ⟨_, _, Tryz.type198, rfl, rfl, rfl, rfl, rfl, rfl, rfl⟩⟩
theorem tok200 : TyOk Tryz.prog 200 T200 := ⟨⟨_, Tryz.underlying200, rfl⟩, ⟨_, _, Tryz.type200, rfl, rfl, rfl, rfl, rfl, rfl, rfl⟩⟩
theorem tok201 : TyOk Tryz.prog 201 T201 := ⟨⟨_, Tryz.underlying201, ⟨_, rfl, rfl⟩⟩, ⟨_, _, Tryz.type201, rfl, rfl, rfl, rfl, rfl, rfl, rfl⟩⟩
theorem tok202 : TyOk Tryz.prog 202 T202 := ⟨⟨_, Tryz.underlying202, ⟨_, rfl, rfl⟩⟩, ⟨_, _, Tryz.type202, rfl, rfl, rfl, rfl, rfl, rfl, rfl⟩⟩
theorem tok203 : TyOk Tryz.prog 203 T203 := ⟨⟨_, Tryz.underlying203, ⟨_, _, _, rfl⟩⟩, ⟨_, _, Tryz.type203, rfl, rfl, rfl, rfl, rfl, rfl, rfl⟩⟩
theorem tok204 : TyOk Tryz.prog 204 T204 := ⟨⟨_, Tryz.underlying204, ⟨_, _, _, rfl⟩⟩, ⟨_, _, Tryz.type204, rfl, rfl, rfl, rfl, rfl, rfl, rfl⟩⟩
theorem tok205 : TyOk Tryz.prog 205 T205 := ⟨⟨_, Tryz.underlying205, rfl⟩, ⟨_, _, Tryz.type205, rfl, rfl, rfl, rfl, rfl, rfl, rfl⟩⟩
theorem tok206 : TyOk Tryz.prog 206 T206 := ⟨⟨_, Tryz.underlying206, ⟨_, _, _, rfl⟩⟩, ⟨_, _, Tryz.type206, rfl, rfl, rfl, rfl, rfl, rfl, rfl⟩⟩
theorem tok207 : TyOk Tryz.prog 207 T207 := ⟨⟨_, Tryz.underlying207, ⟨_, _, _, rfl⟩⟩, ⟨_, _, Tryz.type207, rfl, rfl, rfl, rfl, rfl, rfl, rfl⟩⟩
theorem tok208 : TyOk Tryz.prog 208 T208 := ⟨⟨_, Tryz.underlying208, ⟨_, _, _, rfl⟩⟩, ⟨_, _, Tryz.type208, rfl, rfl, rfl, rfl, rfl, rfl, rfl⟩⟩
theorem tok209 : TyOk Tryz.prog 209 T209 := ⟨⟨_, Tryz.underlying209, rfl⟩, ⟨_, _, Tryz.type209, rfl, rfl, rfl, rfl, rfl, rfl, rfl⟩⟩
theorem tok211 : TyOk Tryz.prog 211 T211 := ⟨⟨_, Tryz.underlying211, ⟨_, _, _, rfl⟩⟩, ⟨_, _, Tryz.type211, rfl, rfl, rfl, rfl, rfl, rfl, rfl⟩⟩
theorem tok212 : TyOk Tryz.prog 212 T212 := ⟨⟨_, Tryz.underlying212, ⟨_, _, _, rfl⟩⟩, ⟨_, _, Tryz.type212, rfl, rfl, rfl, rfl, rfl, rfl, rfl⟩⟩
theorem tok213 : TyOk Tryz.prog 213 T213 := ⟨⟨_, Tryz.underlying213, ⟨_, _, _, rfl⟩⟩, ⟨_, _, Tryz.type213, rfl, rfl, rfl, rfl, rfl, rfl, rfl⟩⟩
theorem tok214 : TyOk Tryz.prog 214 T214 := ⟨⟨_, Tryz.underlying214, ⟨_, _, _, rfl⟩⟩, ⟨_, _, Tryz.type214, rfl, rfl, rfl, rfl, rfl, rfl, rfl⟩⟩
theorem tok215 : TyOk Tryz.prog 215 T215 := ⟨⟨_, Tryz.underlying215, ⟨_, rfl, rfl⟩⟩, ⟨_, _, Tryz.type215, rfl, rfl, rfl, rfl, rfl, rfl, rfl⟩⟩
theorem tok216 : TyOk Tryz.prog 216 T216 := ⟨⟨_, Tryz.underlying216, ⟨_, rfl, rfl⟩⟩, ⟨_, _, Tryz.type216, rfl, rfl, rfl, rfl, rfl, rfl, rfl⟩⟩
theorem tok217 : TyOk Tryz.prog 217 T217 := ⟨⟨_, Tryz.underlying217, rfl⟩, ⟨_, _, Tryz.type217, rfl, rfl, rfl, rfl, rfl, rfl, rfl⟩⟩
theorem tok218 : TyOk Tryz.prog 218 T218 := ⟨⟨_, Tryz.underlying218, ⟨_, rfl⟩⟩, ⟨_, _, Tryz.type218, rfl, rfl, rfl, rfl, rfl, rfl, rfl⟩⟩
theorem tok220 : TyOk Tryz.prog 220 T220 := ⟨⟨_, Tryz.underlying220, ⟨_, _, _, rfl⟩⟩, ⟨_, _, Tryz.type220, rfl, rfl, rfl, rfl, rfl, rfl, rfl⟩⟩
theorem tok221 : TyOk Tryz.prog 221 T221 := ⟨⟨_, Tryz.underlying221, ⟨_, rfl⟩⟩, ⟨_, _, Tryz.type221, rfl, rfl, rfl, rfl, rfl, rfl, rfl⟩⟩
theorem tok222 : TyOk Tryz.prog 222 T222 := ⟨⟨_, Tryz.underlying222, ⟨_, rfl⟩⟩, ⟨_, _, Tryz.type222, rfl, rfl, rfl, rfl, rfl, rfl, rfl⟩⟩
theorem tok223 : TyOk Tryz.prog 223 T223 := ⟨⟨_, Tryz.underlying223, rfl⟩, ⟨_, _, Tryz.type223, rfl, rfl, rfl, rfl, rfl, rfl, rfl⟩⟩
theorem tok224 : TyOk Tryz.prog 224 T224 := ⟨⟨_, Tryz.underlying224, ⟨_, _, _, rfl⟩⟩, ⟨_, _, Tryz.type224, rfl, rfl, rfl, rfl, rfl, rfl, rfl⟩⟩
theorem tok225 : TyOk Tryz.prog 225 T225 := ⟨⟨_, Tryz.underlying225, ⟨_, _, _, rfl⟩⟩, ⟨_, _, Tryz.type225, rfl, rfl, rfl, rfl, rfl, rfl, rfl⟩⟩
theorem tok226 : TyOk Tryz.prog 226 T226 := ⟨⟨_, Tryz.underlying226, ⟨_, _, _, rfl⟩⟩, ⟨_, _, Tryz.type226, rfl, rfl, rfl, rfl, rfl, rfl, rfl⟩⟩
theorem tok227 : TyOk Tryz.prog 227 T227 := ⟨⟨_, Tryz.underlying227, ⟨_, rfl⟩⟩, ⟨_, _, Tryz.type227, rfl, rfl, rfl, rfl, rfl, rfl, rfl⟩⟩
theorem tok229 : TyOk Tryz.prog 229 T229 := ⟨⟨_, Tryz.underlying229, ⟨_, _, _, rfl⟩⟩, ⟨_, _, Tryz.type229, rfl, rfl, rfl, rfl, rfl, rfl, rfl⟩⟩
theorem tok230 : TyOk Tryz.prog 230 T230 := ⟨⟨_, Tryz.underlying230, ⟨_, _, _, rfl⟩⟩, ⟨_, _, Tryz.type230, rfl, rfl, rfl, rfl, rfl, rfl, rfl⟩⟩
theorem tok231 : TyOk Tryz.prog 231 T231 := ⟨⟨_, Tryz.underlying231, ⟨_, _, _, rfl⟩⟩, ⟨_, _, Tryz.type231, rfl, rfl, rfl, rfl, rfl, rfl, rfl⟩⟩
theorem tok232 : TyOk Tryz.prog 232 T232 := ⟨⟨_, Tryz.underlying232, rfl⟩, ⟨_, _, Tryz.type232, rfl, rfl, rfl, rfl, rfl, rfl, rfl⟩⟩
theorem tok234 : TyOk Tryz.prog 234 T234 := ⟨⟨_, Tryz.underlying234, ⟨_, _, _, rfl⟩⟩, ⟨_, _, Tryz.type234, rfl, rfl, rfl, rfl, rfl, rfl, rfl⟩⟩
theorem tok235 : TyOk Tryz.prog 235 T235 := ⟨⟨_, Tryz.underlying235, ⟨_, _, _, rfl⟩⟩, ⟨_, _, Tryz.type235, rfl, rfl, rfl, rfl, rfl, rfl, rfl⟩⟩
theorem tok236 : TyOk Tryz.prog 236 T236 := ⟨⟨_, Tryz.underlying236, ⟨_, _, _, rfl⟩⟩, ⟨_, _, Tryz.type236, rfl, rfl, rfl, rfl, rfl, rfl, rfl⟩⟩
theorem tok237 : TyOk Tryz.prog 237 T237 := ⟨⟨_, Tryz.underlying237, ⟨_, _, _, rfl⟩⟩, ⟨_, _, Tryz.type237, rfl, rfl, rfl, rfl, rfl, rfl, rfl⟩⟩
theorem tok238 : TyOk Tryz.prog 238 T238 := ⟨⟨_, Tryz.underlying238, ⟨_, _, _, rfl⟩⟩, ⟨_, _, Tryz.type238, rfl, rfl, rfl, rfl, rfl, rfl, rfl⟩⟩
theorem tok239 : TyOk Tryz.prog 239 T239 := ⟨⟨_, Tryz.underlying239, ⟨_, _, _, rfl⟩⟩, ⟨_, _, Tryz.type239, rfl, rfl, rfl, rfl, rfl, rfl, rfl⟩⟩
theorem tok240 : TyOk Tryz.prog 240 T240 := ⟨⟨_, Tryz.underlying240, rfl⟩, ⟨_, _, Tryz.type240, rfl, rfl, rfl, rfl, rfl, rfl, rfl⟩⟩
theorem tok241 : TyOk Tryz.prog 241 T241 := ⟨⟨_, Tryz.underlying241, ⟨_, _, _, rfl⟩⟩, ⟨_, _, Tryz.type241, rfl, rfl, rfl, rfl, rfl, rfl, rfl⟩⟩
theorem tok242 : TyOk Tryz.prog 242 T242 := ⟨⟨_, Tryz.underlying242, rfl⟩, ⟨_, _, Tryz.type242, rfl, rfl, rfl, rfl, rfl, rfl, rfl⟩⟩
theorem tok243 : TyOk Tryz.prog 243 T243 := ⟨⟨_, Tryz.underlying243, ⟨_, _, _, rfl⟩⟩, ⟨_, _, Tryz.type243, rfl, rfl, rfl, rfl, rfl, rfl, rfl⟩⟩
theorem tok244 : TyOk Tryz.prog 244 T244 := ⟨⟨_, Tryz.underlying244, ⟨_, _, _, rfl⟩⟩, ⟨_, _, Tryz.type244, rfl, rfl, rfl, rfl, rfl, rfl, rfl⟩⟩
theorem tok245 : TyOk Tryz.prog 245 T245 := ⟨⟨_, Tryz.underlying245, ⟨_, _, _, rfl⟩⟩, ⟨_, _, Tryz.type245, rfl, rfl, rfl, rfl, rfl, rfl, rfl⟩⟩
theorem tok246 : TyOk Tryz.prog 246 T246 := ⟨⟨_, Tryz.underlying246, ⟨_, _, _, rfl⟩⟩, ⟨_, _, Tryz.type246, rfl, rfl, rfl, rfl, rfl, rfl, rfl⟩⟩
theorem tok247 : TyOk Tryz.prog 247 T247 := ⟨⟨_, Tryz.underlying247, rfl⟩, ⟨_, _, Tryz.type247, rfl, rfl, rfl, rfl, rfl, rfl, rfl⟩⟩
theorem tok248 : TyOk Tryz.prog 248 T248 := ⟨⟨_, Tryz.underlying248, ⟨_, _, _, rfl⟩⟩, ⟨_, _, Tryz.type248, rfl, rfl, rfl, rfl, rfl, rfl, rfl⟩⟩
theorem tok249 : TyOk Tryz.prog 249 T249 := ⟨⟨_, Tryz.underlying249, ⟨_, _, _, rfl⟩⟩, ⟨_, _, Tryz.type249, rfl, rfl, rfl, rfl, rfl, rfl, rfl⟩⟩
theorem tok250 : TyOk Tryz.prog 250 T250 := ⟨⟨_, Tryz.underlying250, ⟨_, _, _, rfl⟩⟩, ⟨_, _, Tryz.type250, rfl, rfl, rfl, rfl, rfl, rfl, rfl⟩⟩
theorem tok251 : TyOk Tryz.prog 251 T251 := ⟨⟨_, Tryz.underlying251, rfl⟩, ⟨_, _, Tryz.type251, rfl, rfl, rfl, rfl, rfl, rfl, rfl⟩⟩
theorem tok252 : TyOk Tryz.prog 252 T252 := ⟨⟨_, Tryz.underlying252, ⟨_, _, _, rfl⟩⟩, ⟨_, _, Tryz.type252, rfl, rfl, rfl, rfl, rfl, rfl, rfl⟩⟩
theorem tok253 : TyOk Tryz.prog 253 T253 := ⟨⟨_, Tryz.underlying253, ⟨_, _, _, rfl⟩⟩, ⟨_, _, Tryz.type253, rfl, rfl, rfl, rfl, rfl, rfl, rfl⟩⟩
theorem tok255 : TyOk Tryz.prog 255 T255 := ⟨⟨_, Tryz.underlying255, ⟨_, _, _, rfl⟩⟩, ⟨_, _, Tryz.type255, rfl, rfl, rfl, rfl, rfl, rfl, rfl⟩⟩
theorem tok256 : TyOk Tryz.prog 256 T256 := ⟨⟨_, Tryz.underlying256, ⟨_, _, _, rfl⟩⟩, ⟨_, _, Tryz.type256, rfl, rfl, rfl, rfl, rfl, rfl, rfl⟩⟩
theorem tok257 : TyOk Tryz.prog 257 T257 := ⟨⟨_, Tryz.underlying257, rfl⟩, ⟨_, _, Tryz.type257, rfl, rfl, rfl, rfl, rfl, rfl, rfl⟩⟩
theorem tok259 : TyOk Tryz.prog 259 T259 := ⟨⟨_, Tryz.underlying259, ⟨_, _, _, rfl⟩⟩, ⟨_, _, Tryz.type259, rfl, rfl, rfl, rfl, rfl, rfl, rfl⟩⟩
theorem tok260 : TyOk Tryz.prog 260 T260 := ⟨⟨_, Tryz.underlying260, ⟨_, _, _, rfl⟩⟩, ⟨_, _, Tryz.type260, rfl, rfl, rfl, rfl, rfl, rfl, rfl⟩⟩
theorem tok261 : TyOk Tryz.prog 261 T261 := ⟨⟨_, Tryz.underlying261, ⟨_, _, _, rfl⟩⟩, ⟨_, _, Tryz.type261, rfl, rfl, rfl, rfl, rfl, rfl, rfl⟩⟩
theorem tok262 : TyOk Tryz.prog 262 T262 := ⟨⟨_, Tryz.underlying262, ⟨_, _, _, rfl⟩⟩, ⟨_, _, Tryz.type262, rfl, rfl, rfl, rfl, rfl, rfl, rfl⟩⟩
theorem tok263 : TyOk Tryz.prog 263 T263 := ⟨⟨_, Tryz.underlying263, ⟨_, _, _, rfl⟩⟩, ⟨_, _, Tryz.type263, rfl, rfl, rfl, rfl, rfl, rfl, rfl⟩⟩
theorem tok264 : TyOk Tryz.prog 264 T264 := ⟨⟨_, Tryz.underlying264, ⟨_, rfl, rfl⟩⟩, ⟨_, _, Tryz.type264, rfl, rfl, rfl, rfl, rfl, rfl, rfl⟩⟩
theorem tok265 : TyOk Tryz.prog 265 T265 := ⟨⟨_, Tryz.underlying265, ⟨_, rfl, rfl⟩⟩, ⟨_, _, Tryz.type265, rfl, rfl, rfl, rfl, rfl, rfl, rfl⟩⟩
theorem tok266 : TyOk Tryz.prog 266 T266 := ⟨⟨_, Tryz.underlying266, rfl⟩, ⟨_, _, Tryz.type266, rfl, rfl, rfl, rfl, rfl, rfl, rfl⟩⟩
theorem tok267 : TyOk Tryz.prog 267 T267 := ⟨⟨_, Tryz.underlying267, ⟨_, rfl, rfl⟩⟩, ⟨_, _, Tryz.type267, rfl, rfl, rfl, rfl, rfl, rfl, rfl⟩⟩
theorem tok268 : TyOk Tryz.prog 268 T268 := ⟨⟨_, Tryz.underlying268, ⟨_, rfl, rfl⟩⟩, ⟨_, _, Tryz.type268, rfl, rfl, rfl, rfl, rfl, rfl, rfl⟩⟩
theorem tok269 : TyOk Tryz.prog 269 T269 := ⟨⟨_, Tryz.underlying269, ⟨_, _, _, rfl⟩⟩, ⟨_, _, Tryz.type269, rfl, rfl, rfl, rfl, rfl, rfl, rfl⟩⟩
theorem tok270 : TyOk Tryz.prog 270 T270 := ⟨⟨_, Tryz.underlying270, rfl⟩, ⟨_, _, Tryz.type270, rfl, rfl, rfl, rfl, rfl, rfl, rfl⟩⟩
theorem tok271 : TyOk Tryz.prog 271 T271 := ⟨⟨_, Tryz.underlying271, ⟨_, _, _, rfl⟩⟩, ⟨_, _, Tryz.type271, rfl, rfl, rfl, rfl, rfl, rfl, rfl⟩⟩
theorem tok272 : TyOk Tryz.prog 272 T272 := ⟨⟨_, Tryz.underlying272, rfl⟩, ⟨_, _, Tryz.type272, rfl, rfl, rfl, rfl, rfl, rfl, rfl⟩⟩
theorem tok273 : TyOk Tryz.prog 273 T273 := ⟨⟨_, Tryz.underlying273, rfl⟩, ⟨_, _, Tryz.type273, rfl, rfl, rfl, rfl, rfl, rfl, rfl⟩⟩
theorem tok274 : TyOk Tryz.prog 274 T274 := ⟨⟨_, Tryz.underlying274, rfl⟩, ⟨_, _, Tryz.type274, rfl, rfl, rfl, rfl, rfl, rfl, rfl⟩⟩
theorem tok275 : TyOk Tryz.prog 275 T275 := ⟨⟨_, Tryz.underlying275, ⟨_, rfl, rfl⟩⟩, ⟨_, _, Tryz.type275, rfl, rfl, rfl, rfl, rfl, rfl, rfl⟩⟩
theorem tok276 : TyOk Tryz.prog 276 T276 := ⟨⟨_, Tryz.underlying276, ⟨_, rfl, rfl⟩⟩, ⟨_, _, Tryz.type276, rfl, rfl, rfl, rfl, rfl, rfl, rfl⟩⟩
theorem tok277 : TyOk Tryz.prog 277 T277 := ⟨⟨_, Tryz.underlying277, ⟨_, _, _, rfl⟩⟩, ⟨_, _, Tryz.type277, rfl, rfl, rfl, rfl, rfl, rfl, rfl⟩⟩
theorem tok278 : TyOk Tryz.prog 278 T278 := ⟨⟨_, Tryz.underlying278, ⟨_, _, _, rfl⟩⟩, ⟨_, _, Tryz.type278, rfl, rfl, rfl, rfl, rfl, rfl, rfl⟩⟩
theorem tok279 : TyOk Tryz.prog 279 T279 := ⟨⟨_, Tryz.underlying279, ⟨_, rfl, rfl⟩⟩, ⟨_, _, Tryz.type279, rfl, rfl, rfl, rfl, rfl, rfl, rfl⟩⟩
theorem tok280 : TyOk Tryz.prog 280 T280 := ⟨⟨_, Tryz.underlying280, ⟨_, rfl, rfl⟩⟩, ⟨_, _, Tryz.type280, rfl, rfl, rfl, rfl, rfl, rfl, rfl⟩⟩
theorem tok281 : TyOk Tryz.prog 281 T281 := ⟨⟨_, Tryz.underlying281, rfl⟩, ⟨_, _, Tryz.type281, rfl, rfl, rfl, rfl, rfl, rfl, rfl⟩⟩
theorem tok282 : TyOk Tryz.prog 282 T282 := ⟨⟨_, Tryz.underlying282, ⟨_, _, _, rfl⟩⟩, ⟨_, _, Tryz.type282, rfl, rfl, rfl, rfl, rfl, rfl, rfl⟩⟩
theorem tok283 : TyOk Tryz.prog 283 T283 := ⟨⟨_, Tryz.underlying283, rfl⟩, ⟨_, _, Tryz.type283, rfl, rfl, rfl, rfl, rfl, rfl, rfl⟩⟩
theorem tok284 : TyOk Tryz.prog 284 T284 := ⟨⟨_, Tryz.underlying284, ⟨_, rfl, rfl⟩⟩, ⟨_, _, Tryz.type284, rfl, rfl, rfl, rfl, rfl, rfl, rfl⟩⟩
theorem tok285 : TyOk Tryz.prog 285 T285 := ⟨⟨_, Tryz.underlying285, ⟨_, rfl, rfl⟩⟩, ⟨_, _, Tryz.type285, rfl, rfl, rfl, rfl, rfl, rfl, rfl⟩⟩
theorem tok286 : TyOk Tryz.prog 286 T286 := ⟨⟨_, Tryz.underlying286, rfl⟩, ⟨_, _, Tryz.type286, rfl, rfl, rfl, rfl, rfl, rfl, rfl⟩⟩
theorem tok287 : TyOk Tryz.prog 287 T287 := ⟨⟨_, Tryz.underlying287, rfl⟩, ⟨_, _, Tryz.type287, rfl, rfl, rfl, rfl, rfl, rfl, rfl⟩⟩
theorem tok288 : TyOk Tryz.prog 288 T288 := ⟨⟨_, Tryz.underlying288, ⟨_, rfl, rfl⟩⟩, ⟨_, _, Tryz.type288, rfl, rfl, rfl, rfl, rfl, rfl, rfl⟩⟩
theorem tok289 : TyOk Tryz.prog 289 T289 := ⟨⟨_, Tryz.underlying289, ⟨_, rfl, rfl⟩⟩, ⟨_, _, Tryz.type289, rfl, rfl, rfl, rfl, rfl, rfl, rfl⟩⟩
theorem tok290 : TyOk Tryz.prog 290 T290 := ⟨⟨_, Tryz.underlying290, rfl⟩, ⟨_, _, Tryz.type290, rfl, rfl, rfl, rfl, rfl, rfl, rfl⟩⟩
def tyL : List (Nat × TI) := [(1, T1), (2, T2), (3, T3), (4, T4), (5, T5), (6, T6), (7, T7), (8, T8), (9, T9), (10, T10), (11, T11), (12, T12), (13, T13), (14, T14), (15, T15), (16, T16), (17, T17), (18, T18), (19, T19), (20, T20), (21, T21), (22, T22), (23, T23), (24, T24), (25, T25), (26, T26), (27, T27), (28, T28), (29, T29), (30, T30), (32, T32), (33, T33), (34, T34), (35, T35), (36, T36), (37, T37), (38, T38), (39, T39), (40, T40), (41, T41), (42, T42), (43, T43), (44, T44), (45, T45), (46, T46), (48, T48), (49, T49), (50, T50), (51, T51), (52, T52), (54, T54), (55, T55), (56, T56), (57, T57), (58, T58), (59, T59), (60, T60), (62, T62), (64, T64), (65, T65), (66, T66), (67, T67), (68, T68), (70, T70), (71, T71), (72, T72), (73, T73), (74, T74), (75, T75), (76, T76), (77, T77), (78, T78), (79, T79), (80, T80), (81, T81), (82, T82), (83, T83), (84, T84), (86, T86), (87, T87), (88, T88), (89, T89), (90, T90), (91, T91), (92, T92), (93, T93), (94, T94), (95, T95), (97, T97), (98, T98), (100, T100), (101, T101), (102, T102), (103, T103), (104, T104), (105, T105), (106, T106), (107, T107), (108, T108), (109, T109), (110, T110), (111, T111), (113, T113), (114, T114), (115, T115), (117, T117), (118, T118), (119, T119), (121, T121), (122, T122), (123, T123), (124, T124), (125, T125), (126, T126), (127, T127), (128, T128), (129, T129), (130, T130), (131, T131), (132, T132), (133, T133), (134, T134), (135, T135), (136, T136), (137, T137), (138, T138), (139, T139), (140, T140), (141, T141), (143, T143), (144, T144), (145, T145), (146, T146), (147, T147), (148, T148), (150, T150), (151, T151), (152, T152), (153, T153), (154, T154), (155, T155), (156, T156), (157, T157), (158, T158), (159, T159), (160, T160), (161, T161), (162, T162), (163, T163), (164, T164), (165, T165), (166, T166), (167, T167), (169, T169), (170, T170), (171, T171), (172, T172), (173, T173), (174, T174), (175, T175), (176, T176), (177, T177), (178, T178), (179, T179), (180, T180), (181, T181), (182, T182), (183, T183), (184, T184), (185, T185), (186, T186), (187, T187), (188, T188), (189, T189), (190, T190), (191, T191), (192, T192), (193, T193), (194, T194), (195, T195), (196, T196), (197, T197), (198, T198), (200, T200), (201, T201), (202, T202), (203, T203), (204, T204), (205, T205), (206, T206), (207, T207), (208, T208), (209, T209), (211, T211), (212, T212), (213, T213), (214, T214), (215, T215), (216, T216), (217, T217), (218, T218), (220, T220), (221, T221), (222, T222), (223, T223), (224, T224), (225, T225), (226, T226), (227, T227), (229, T229), (230, T230), (231, T231), (232, T232), (234, T234), (235, T235), (236, T236), (237, T237), (238, T238), (239, T239), (240, T240), (241, T241), (242, T242), (243, T243), (244, T244), (245, T245), (246, T246), (247, T247), (248, T248), (249, T249), (250, T250), (251, T251), (252, T252), (253, T253), (255, T255), (256, T256), (257, T257), (259, T259), (260, T260), (261, T261), (262, T262), (263, T263), (264, T264), (265, T265), (266, T266), (267, T267), (268, T268), (269, T269), (270, T270), (271, T271), (272, T272), (273, T273), (274, T274), (275, T275), (276, T276), (277, T277), (278, T278), (279, T279), (280, T280), (281, T281), (282, T282), (283, T283), (284, T284), (285, T285), (286, T286), (287, T287), (288, T288), (289, T289), (290, T290)]
theorem tyL_ok : ∀ x ∈ tyL, TyOk Tryz.prog x.1 x.2 := List.forall_mem_cons.2 ⟨tok1, List.forall_mem_cons.2 ⟨tok2, List.forall_mem_cons.2 ⟨tok3, List.forall_mem_cons.2 ⟨tok4, List.forall_mem_cons.2 ⟨tok5, List.forall_mem_cons.2 ⟨tok6, List.forall_mem_cons.2 ⟨tok7, List.forall_mem_cons.2 ⟨tok8, List.forall_mem_cons.2 ⟨tok9, List.forall_mem_cons.2 ⟨tok10, List.forall_mem_cons.2 ⟨tok11, List.forall_mem_cons.2 ⟨tok12, List.forall_mem_cons.2 ⟨tok13, List.forall_mem_cons.2 ⟨tok14, List.forall_mem_cons.2 ⟨tok15, List.forall_mem_cons.2 ⟨tok16, List.forall_mem_cons.2 ⟨tok17, List.forall_mem_cons.2 ⟨tok18, List.forall_mem_cons.2 ⟨tok19, List.forall_mem_cons.2 ⟨tok20, List.forall_mem_cons.2 ⟨tok21, List.forall_mem_cons.2 ⟨tok22, List.forall_mem_cons.2 ⟨tok23, List.forall_mem_cons.2 ⟨tok24, List.forall_mem_cons.2 ⟨tok25, List.forall_mem_cons.2 ⟨tok26, List.forall_mem_cons.2 ⟨tok27, List.forall_mem_cons.2 ⟨tok28, List.forall_mem_cons.2 ⟨tok29, List.forall_mem_cons.2 ⟨tok30, List.forall_mem_cons.2 ⟨tok32, List.forall_mem_cons.2 ⟨tok33, List.forall_mem_cons.2 ⟨tok34, List.forall_mem_cons.2 ⟨tok35, List.forall_mem_cons.2 ⟨tok36, List.forall_mem_cons.2 ⟨tok37, List.forall_mem_cons.2 ⟨tok38, List.forall_mem_cons.2 ⟨tok39, List.forall_mem_cons.2 ⟨tok40, List.forall_mem_cons.2 ⟨tok41, List.forall_mem_cons.2 ⟨tok42, List.forall_mem_cons.2 ⟨tok43, List.forall_mem_cons.2 ⟨tok44, List.forall_mem_cons.2 ⟨tok45, List.forall_mem_cons.2 ⟨tok46, List.forall_mem_cons.2 ⟨tok48, List.forall_mem_cons.2 ⟨tok49, List.forall_mem_cons.2 ⟨tok50, List.forall_mem_cons.2 ⟨tok51, List.forall_mem_cons.2 ⟨tok52, List.forall_mem_cons.2 ⟨tok54, List.forall_mem_cons.2 ⟨tok55, List.forall_mem_cons.2 ⟨tok56, List.forall_mem_cons.2 ⟨tok57, List.forall_mem_cons.2 ⟨tok58, List.forall_mem_cons.2 ⟨tok59, List.forall_mem_cons.2 ⟨tok60, List.forall_mem_cons.2 ⟨tok62, List.forall_mem_cons.2 ⟨tok64, List.forall_mem_cons.2 ⟨tok65, List.forall_mem_cons.2 ⟨tok66, List.forall_mem_cons.2 ⟨tok67, List.forall_mem_cons.2 ⟨tok68, List.forall_mem_cons.2 ⟨tok70, List.forall_mem_cons.2 ⟨tok71, List.forall_mem_cons.2 ⟨tok72, List.forall_mem_cons.2 ⟨tok73, List.forall_mem_cons.2 ⟨tok74, List.forall_mem_cons.2 ⟨tok75, List.forall_mem_cons.2 ⟨tok76, List.forall_mem_cons.2 ⟨tok77, List.forall_mem_cons.2 ⟨tok78, List.forall_mem_cons.2 ⟨tok79, List.forall_mem_cons.2 ⟨tok80, List.forall_mem_cons.2 ⟨tok81, List.forall_mem_cons.2 ⟨tok82, List.forall_mem_cons.2 ⟨tok83, List.forall_mem_cons.2 ⟨tok84, List.forall_mem_cons.2 ⟨tok86, List.forall_mem_cons.2 ⟨tok87, List.forall_mem_cons.2 ⟨tok88, List.forall_mem_cons.2 ⟨tok89, List.forall_mem_cons.2 ⟨tok90, List.forall_mem_cons.2 ⟨tok91, List.forall_mem_cons.2 ⟨tok92, List.forall_mem_cons.2 ⟨tok93, List.forall_mem_cons.2 ⟨tok94, List.forall_mem_cons.2 ⟨tok95, List.forall_mem_cons.2 ⟨tok97, List.forall_mem_cons.2 ⟨tok98, List.forall_mem_cons.2 ⟨tok100, List.forall_mem_cons.2 ⟨tok101, List.forall_mem_cons.2 ⟨tok102, List.forall_mem_cons.2 ⟨tok103, List.forall_mem_cons.2 ⟨tok104, List.forall_mem_cons.2 ⟨tok105, List.forall_mem_cons.2 ⟨tok106, List.forall_mem_cons.2 ⟨tok107, List.forall_mem_cons.2 ⟨tok108, List.forall_mem_cons.2 ⟨tok109, List.forall_mem_cons.2 ⟨tok110, List.forall_mem_cons.2 ⟨tok111, List.forall_mem_cons.2 ⟨tok113, List.forall_mem_cons.2 ⟨tok114, List.forall_mem_cons.2 ⟨tok115, List.forall_mem_cons.2 ⟨tok117, List.forall_mem_cons.2 ⟨tok118, List.forall_mem_cons.2 ⟨tok119, List.forall_mem_cons.2 ⟨tok121, List.forall_mem_cons.2 ⟨tok122, List.forall_mem_cons.2 ⟨tok123, List.forall_mem_cons.2 ⟨tok124, List.forall_mem_cons.2 ⟨tok125, List.forall_mem_cons.2 ⟨tok126, List.forall_mem_cons.2 ⟨tok127, List.forall_mem_cons.2 ⟨tok128, List.forall_mem_cons.2 ⟨tok129, List.forall_mem_cons.2 ⟨tok130, List.forall_mem_cons.2 ⟨tok131, List.forall_mem_cons.2 ⟨tok132, List.forall_mem_cons.2 ⟨tok133, List.forall_mem_cons.2 ⟨tok134, List.forall_mem_cons.2 ⟨tok135, List.forall_mem_cons.2 ⟨tok136, List.forall_mem_cons.2 ⟨tok137, List.forall_mem_cons.2 ⟨tok138, List.forall_mem_cons.2 ⟨tok139, List.forall_mem_cons.2 ⟨tok140, List.forall_mem_cons.2 ⟨tok141, List.forall_mem_cons.2 ⟨tok143, List.forall_mem_cons.2 ⟨tok144, List.forall_mem_cons.2 ⟨tok145, List.forall_mem_cons.2 ⟨tok146, List.forall_mem_cons.2 ⟨tok147, List.forall_mem_cons.2 ⟨tok148, List.forall_mem_cons.2 ⟨tok150, List.forall_mem_cons.2 ⟨tok151, List.forall_mem_cons.2 ⟨tok152, List.forall_mem_cons.2 ⟨tok153, List.forall_mem_cons.2 ⟨tok154, List.forall_mem_cons.2 ⟨tok155, List.forall_mem_cons.2 ⟨tok156, List.forall_mem_cons.2 ⟨tok157, List.forall_mem_cons.2 ⟨tok158, List.forall_mem_cons.2 ⟨tok159, List.forall_mem_cons.2 ⟨tok160, List.forall_mem_cons.2 ⟨tok161, List.forall_mem_cons.2 ⟨tok162, List.forall_mem_cons.2 ⟨tok163, List.forall_mem_cons.2 ⟨tok164, List.forall_mem_cons.2 ⟨tok165, List.forall_mem_cons.2 ⟨tok166, List.forall_mem_cons.2 ⟨tok167, List.forall_mem_cons.2 ⟨tok169, List.forall_mem_cons.2 ⟨tok170, List.forall_mem_cons.2 ⟨tok171, List.forall_mem_cons.2 ⟨tok172, List.forall_mem_cons.2 ⟨tok173, List.forall_mem_cons.2 ⟨tok174, List.forall_mem_cons.2 ⟨tok175, List.forall_mem_cons.2 ⟨tok176, List.forall_mem_cons.2 ⟨tok177, List.forall_mem_cons.2 ⟨tok178, List.forall_mem_cons.2 ⟨tok179, List.forall_mem_cons.2 ⟨tok180, List.forall_mem_cons.2 ⟨tok181, List.forall_mem_cons.2 ⟨tok182, List.forall_mem_cons.2 ⟨tok183, List.forall_mem_cons.2 ⟨tok184, List.forall_mem_cons.2 ⟨tok185, List.forall_mem_cons.2 ⟨tok186, List.forall_mem_cons.2 ⟨tok187, List.forall_mem_cons.2 ⟨tok188, List.forall_mem_cons.2 ⟨tok189, List.forall_mem_cons.2 ⟨tok190, List.forall_mem_cons.2 ⟨tok191, List.forall_mem_cons.2 ⟨tok192, List.forall_mem_cons.2 ⟨tok193, List.forall_mem_cons.2 ⟨tok194, List.forall_mem_cons.2 ⟨tok195, List.forall_mem_cons.2 ⟨tok196, List.forall_mem_cons.2 ⟨tok197, List.forall_mem_cons.2 ⟨tok198, List.forall_mem_cons.2 ⟨tok200, List.forall_mem_cons.2 ⟨tok201, List.forall_mem_cons.2 ⟨tok202, List.forall_mem_cons.2 ⟨tok203, List.forall_mem_cons.2 ⟨tok204, List.forall_mem_cons.2 ⟨tok205, List.forall_mem_cons.2 ⟨tok206, List.forall_mem_cons.2 ⟨tok207, List.forall_mem_cons.2 ⟨tok208, List.forall_mem_cons.2 ⟨tok209, List.forall_mem_cons.2 ⟨tok211, List.forall_mem_cons.2 ⟨tok212, List.forall_mem_cons.2 ⟨tok213, List.forall_mem_cons.2 ⟨tok214, List.forall_mem_cons.2 ⟨tok215, List.forall_mem_cons.2 ⟨tok216, List.forall_mem_cons.2 ⟨tok217, List.forall_mem_cons.2 ⟨tok218, List.forall_mem_cons.2 ⟨tok220, List.forall_mem_cons.2 ⟨tok221, List.forall_mem_cons.2 ⟨tok222, List.forall_mem_cons.2 ⟨tok223, List.forall_mem_cons.2 ⟨tok224, List.forall_mem_cons.2 ⟨tok225, List.forall_mem_cons.2 ⟨tok226, List.forall_mem_cons.2 ⟨tok227, List.forall_mem_cons.2 ⟨tok229, List.forall_mem_cons.2 ⟨tok230, List.forall_mem_cons.2 ⟨tok231, List.forall_mem_cons.2 ⟨tok232, List.forall_mem_cons.2 ⟨tok234, List.forall_mem_cons.2 ⟨tok235, List.forall_mem_cons.2 ⟨tok236, List.forall_mem_cons.2 ⟨tok237, List.forall_mem_cons.2 ⟨tok238, List.forall_mem_cons.2 ⟨tok239, List.forall_mem_cons.2 ⟨tok240, List.forall_mem_cons.2 ⟨tok241, List.forall_mem_cons.2 ⟨tok242, List.forall_mem_cons.2 ⟨tok243, List.forall_mem_cons.2 ⟨tok244, List.forall_mem_cons.2 ⟨tok245, List.forall_mem_cons.2 ⟨tok246, List.forall_mem_cons.2 ⟨tok247, List.forall_mem_cons.2 ⟨tok248, List.forall_mem_cons.2 ⟨tok249, List.forall_mem_cons.2 ⟨tok250, List.forall_mem_cons.2 ⟨tok251, List.forall_mem_cons.2 ⟨tok252, List.forall_mem_cons.2 ⟨tok253, List.forall_mem_cons.2 ⟨tok255, List.forall_mem_cons.2 ⟨tok256, List.forall_mem_cons.2 ⟨tok257, List.forall_mem_cons.2 ⟨tok259, List.forall_mem_cons.2 ⟨tok260, List.forall_mem_cons.2 ⟨tok261, List.forall_mem_cons.2 ⟨tok262, List.forall_mem_cons.2 ⟨tok263, List.forall_mem_cons.2 ⟨tok264, List.forall_mem_cons.2 ⟨tok265, List.forall_mem_cons.2 ⟨tok266, List.forall_mem_cons.2 ⟨tok267, List.forall_mem_cons.2 ⟨tok268, List.forall_mem_cons.2 ⟨tok269, List.forall_mem_cons.2 ⟨tok270, List.forall_mem_cons.2 ⟨tok271, List.forall_mem_cons.2 ⟨tok272, List.forall_mem_cons.2 ⟨tok273, List.forall_mem_cons.2 ⟨tok274, List.forall_mem_cons.2 ⟨tok275, List.forall_mem_cons.2 ⟨tok276, List.forall_mem_cons.2 ⟨tok277, List.forall_mem_cons.2 ⟨tok278, List.forall_mem_cons.2 ⟨tok279, List.forall_mem_cons.2 ⟨tok280, List.forall_mem_cons.2 ⟨tok281, List.forall_mem_cons.2 ⟨tok282, List.forall_mem_cons.2 ⟨tok283, List.forall_mem_cons.2 ⟨tok284, List.forall_mem_cons.2 ⟨tok285, List.forall_mem_cons.2 ⟨tok286, List.forall_mem_cons.2 ⟨tok287, List.forall_mem_cons.2 ⟨tok288, List.forall_mem_cons.2 ⟨tok289, List.forall_mem_cons.2 ⟨tok290, fun x hx => by cases hx⟩⟩⟩⟩⟩⟩⟩⟩⟩⟩⟩⟩⟩⟩⟩⟩⟩⟩⟩⟩⟩⟩⟩⟩⟩⟩⟩⟩⟩⟩⟩⟩⟩⟩⟩⟩⟩⟩⟩⟩⟩⟩⟩⟩⟩⟩⟩⟩⟩⟩⟩⟩⟩⟩⟩⟩⟩⟩⟩⟩⟩⟩⟩⟩⟩⟩⟩⟩⟩⟩⟩⟩⟩⟩⟩⟩⟩⟩⟩⟩⟩⟩⟩⟩⟩⟩⟩⟩⟩⟩⟩⟩⟩⟩⟩⟩⟩⟩⟩⟩⟩⟩⟩⟩⟩⟩⟩⟩⟩⟩⟩⟩⟩⟩⟩⟩⟩⟩⟩⟩⟩⟩⟩⟩⟩⟩⟩⟩⟩⟩⟩⟩⟩⟩⟩⟩⟩⟩⟩⟩⟩⟩⟩⟩⟩⟩⟩⟩⟩⟩⟩⟩⟩⟩⟩⟩⟩⟩⟩⟩⟩⟩⟩⟩⟩⟩⟩⟩⟩⟩⟩⟩⟩⟩⟩⟩⟩⟩⟩⟩⟩⟩⟩⟩⟩⟩⟩⟩⟩⟩⟩⟩⟩⟩⟩⟩⟩⟩⟩⟩⟩⟩⟩⟩⟩⟩⟩⟩⟩⟩⟩⟩⟩⟩⟩⟩⟩⟩⟩⟩⟩⟩⟩⟩⟩⟩⟩⟩⟩⟩⟩⟩⟩⟩⟩⟩⟩⟩⟩⟩⟩⟩⟩⟩⟩⟩⟩⟩⟩⟩⟩⟩⟩⟩⟩⟩⟩⟩⟩⟩⟩⟩⟩⟩⟩⟩⟩⟩
def extL : List (Nat × (List AV → Option AV)) := [(182, add64A)]
theorem skey194 : KeyLaw Tryz.prog 194 (isAggK [.int .i64, .int .i64]) := structKey Tryz.underlying194 (by kernel_rfl) (by kernel_rfl) ⟨by decide, rfl, Tryz.underlying3, ⟨by decide, rfl, Tryz.underlying3, trivial⟩⟩
def keyL : List (Nat × (D → Bool)) := [(3, isIntK .i64), (194, isAggK [.int .i64, .int .i64])]
theorem keyL_ok : ∀ x ∈ keyL, KeyLaw Tryz.prog x.1 x.2 := List.forall_mem_cons.2 ⟨intKey Tryz.underlying3, List.forall_mem_cons.2 ⟨skey194, fun x hx => by cases hx⟩⟩
def glL : List (Nat × (Nat × List (List D))) := [(0, (1, [[.iface 216 (.agg [.ptr ⟨1, 46, none⟩])]]))]
theorem cmpl78 : CmpLaw Tryz.prog 78 (isAggK [.int .i64, .int .i64]) := cmpLaw_two (i := Tryz.t3) Tryz.underlying78 rfl (by kernel_rfl) Tryz.underlying3 (by kernel_rfl)
def cmpL : List (Nat × (D → Bool)) := [(78, isAggK [.int .i64, .int .i64])]
theorem cmpL_ok : ∀ x ∈ cmpL, CmpLaw Tryz.prog x.1 x.2 := List.forall_mem_cons.2 ⟨cmpl78, fun x hx => by cases hx⟩
noncomputable def env : Env := { P := Tryz.prog, ty := Abs.look tyL, gl := Abs.look glL, ext := Abs.look extL, key := Abs.look keyL, cmp := Abs.look cmpL }
theorem extL_ok : ∀ x ∈ extL, ExtOk Tryz.prog x.1 x.2 := List.forall_mem_cons.2 ⟨add64_ok Tryz.func182 (by kernel_rfl) (by kernel_rfl) (by kernel_rfl) (by kernel_rfl), fun x hx => by cases hx⟩
theorem envOk : EnvOk env := envOk_of (look_all tyL_ok) (by kernel_rfl) (look_all extL_ok) (look_all keyL_ok) (look_all cmpL_ok)
theorem key3 : env.key 3 = some (isIntK .i64) := rfl
theorem key194 : env.key 194 = some (isAggK [.int .i64, .int .i64]) := rfl
theorem cmp78 : env.cmp 78 = some (isAggK [.int .i64, .int .i64]) := rfl
theorem gl0 : env.gl 0 = some (1, [[.iface 216 (.agg [.ptr ⟨1, 46, none⟩])]]) := rfl
theorem ty1 : env.ty 1 = some T1 := rfl
theorem ty2 : env.ty 2 = some T2 := rfl
theorem ty3 : env.ty 3 = some T3 := rfl
theorem ty4 : env.ty 4 = some T4 := rfl
theorem ty5 : env.ty 5 = some T5 := rfl
theorem ty6 : env.ty 6 = some T6 := rfl
theorem ty7 : env.ty 7 = some T7 := rfl
theorem ty8 : env.ty 8 = some T8 := rfl
theorem ty9 : env.ty 9 = some T9 := rfl
theorem ty10 : env.ty 10 = some T10 := rfl
theorem ty11 : env.ty 11 = some T11 := rfl
theorem ty12 : env.ty 12 = some T12 := rfl
theorem ty13 : env.ty 13 = some T13 := rfl
theorem ty14 : env.ty 14 = some T14 := rfl
theorem ty15 : env.ty 15 = some T15 := rfl
theorem ty16 : env.ty 16 = some T16 := rfl
theorem ty17 : env.ty 17 = some T17 := rfl
theorem ty18 : env.ty 18 = some T18 := rfl
theorem ty19 : env.ty 19 = some T19 := rfl
theorem ty20 : env.ty 20 = some T20 := rfl
theorem ty21 : env.ty 21 = some T21 := rfl
theorem ty22 : env.ty 22 = some T22 := rfl
theorem ty23 : env.ty 23 = some T23 := rfl
theorem ty24 : env.ty 24 = some T24 := rfl
theorem ty25 : env.ty 25 = some T25 := rfl
theorem ty26 : env.ty 26 = some T26 := rfl
theorem ty27 : env.ty 27 = some T27 := rfl
theorem ty28 : env.ty 28 = some T28 := rfl
theorem ty29 : env.ty 29 = some T29 := rfl
theorem ty30 : env.ty 30 = some T30 := rfl
theorem ty32 : env.ty 32 = some T32 := rfl
theorem ty33 : env.ty 33 = some T33 := rfl
theorem ty34 : env.ty 34 = some T34 := rfl
theorem ty35 : env.ty 35 = some T35 := rfl
theorem ty36 : env.ty 36 = some T36 := rfl
theorem ty37 : env.ty 37 = some T37 := rfl
theorem ty38 : env.ty 38 = some T38 := rfl
theorem ty39 : env.ty 39 = some T39 := rfl
theorem ty40 : env.ty 40 = some T40 := rfl
theorem ty41 : env.ty 41 = some T41 := rfl
theorem ty42 : env.ty 42 = some T42 := rfl
theorem ty43 : env.ty 43 = some T43 := rfl
theorem ty44 : env.ty 44 = some T44 := rfl
theorem ty45 : env.ty 45 = some T45 := rfl
theorem ty46 : env.ty 46 = some T46 := rfl
theorem ty48 : env.ty 48 = some T48 := rfl
theorem ty49 : env.ty 49 = some T49 := rfl
theorem ty50 : env.ty 50 = some T50 := rfl
theorem ty51 : env.ty 51 = some T51 := rfl
theorem ty52 : env.ty 52 = some T52 := rfl
theorem ty54 : env.ty 54 = some T54 := rfl
theorem ty55 : env.ty 55 = some T55 := rfl
theorem ty56 : env.ty 56 = some T56 := rfl
theorem ty57 : env.ty 57 = some T57 := rfl
theorem ty58 : env.ty 58 = some T58 := rfl
theorem ty59 : env.ty 59 = some T59 := rfl
theorem ty60 : env.ty 60 = some T60 := rfl
theorem ty62 : env.ty 62 = some T62 := rfl
theorem ty64 : env.ty 64 = some T64 := rfl
theorem ty65 : env.ty 65 = some T65 := rfl
theorem ty66 : env.ty 66 = some T66 := rfl
theorem ty67 : env.ty 67 = some T67 := rfl
theorem ty68 : env.ty 68 = some T68 := rfl
theorem ty70 : env.ty 70 = some T70 := rfl
theorem ty71 : env.ty 71 = some T71 := rfl
theorem ty72 : env.ty 72 = some T72 := rfl
theorem ty73 : env.ty 73 = some T73 := rfl
theorem ty74 : env.ty 74 = some T74 := rfl
theorem ty75 : env.ty 75 = some T75 := rfl
theorem ty76 : env.ty 76 = some T76 := rfl
theorem ty77 : env.ty 77 = some T77 := rfl
theorem ty78 : env.ty 78 = some T78 := rfl
theorem ty79 : env.ty 79 = some T79 := rfl
theorem ty80 : env.ty 80 = some T80 := rfl
theorem ty81 : env.ty 81 = some T81 := rfl
theorem ty82 : env.ty 82 = some T82 := rfl
theorem ty83 : env.ty 83 = some T83 := rfl
theorem ty84 : env.ty 84 = some T84 := rfl
theorem ty86 : env.ty 86 = some T86 := rfl
theorem ty87 : env.ty 87 = some T87 := rfl
theorem ty88 : env.ty 88 = some T88 := rfl
theorem ty89 : env.ty 89 = some T89 := rfl
theorem ty90 : env.ty 90 = some T90 := rfl
theorem ty91 : env.ty 91 = some T91 := rfl
theorem ty92 : env.ty 92 = some T92 := rfl
theorem ty93 : env.ty 93 = some T93 := rfl
theorem ty94 : env.ty 94 = some T94 := rfl
theorem ty95 : env.ty 95 = some T95 := rfl
theorem ty97 : env.ty 97 = some T97 := rfl
theorem ty98 : env.ty 98 = some T98 := rfl
theorem ty100 : env.ty 100 = some T100 := rfl
theorem ty101 : env.ty 101 = some T101 := rfl
theorem ty102 : env.ty 102 = some T102 := rfl
theorem ty103 : env.ty 103 = some T103 := rfl
theorem ty104 : env.ty 104 = some T104 := rfl
theorem ty105 : env.ty 105 = some T105 := rfl
theorem ty106 : env.ty 106 = some T106 := rfl
theorem ty107 : env.ty 107 = some T107 := rfl
theorem ty108 : env.ty 108 = some T108 := rfl
theorem ty109 : env.ty 109 = some T109 := rfl
theorem ty110 : env.ty 110 = some T110 := rfl
theorem ty111 : env.ty 111 = some T111 := rfl
theorem ty113 : env.ty 113 = some T113 := rfl
theorem ty114 : env.ty 114 = some T114 := rfl
theorem ty115 : env.ty 115 = some T115 := rfl
theorem ty117 : env.ty 117 = some T117 := rfl
theorem ty118 : env.ty 118 = some T118 := rfl
theorem ty119 : env.ty 119 = some T119 := rfl
theorem ty121 : env.ty 121 = some T121 := rfl
theorem ty122 : env.ty 122 = some T122 := rfl
theorem ty123 : env.ty 123 = some T123 := rfl
theorem ty124 : env.ty 124 = some T124 := rfl
theorem ty125 : env.ty 125 = some T125 := rfl
theorem ty126 : env.ty 126 = some T126 := rfl
theorem ty127 : env.ty 127 = some T127 := rfl
theorem ty128 : env.ty 128 = some T128 := rfl
theorem ty129 : env.ty 129 = some T129 := rfl
theorem ty130 : env.ty 130 = some T130 := rfl
theorem ty131 : env.ty 131 = some T131 := rfl
theorem ty132 : env.ty 132 = some T132 := rfl
theorem ty133 : env.ty 133 = some T133 := rfl
theorem ty134 : env.ty 134 = some T134 := rfl
theorem ty135 : env.ty 135 = some T135 := rfl
theorem ty136 : env.ty 136 = some T136 := rfl
theorem ty137 : env.ty 137 = some T137 := rfl
theorem ty138 : env.ty 138 = some T138 := rfl
theorem ty139 : env.ty 139 = some T139 := rfl
theorem ty140 : env.ty 140 = some T140 := rfl
theorem ty141 : env.ty 141 = some T141 := rfl
theorem ty143 : env.ty 143 = some T143 := rfl
theorem ty144 : env.ty 144 = some T144 := rfl
theorem ty145 : env.ty 145 = some T145 := rfl
theorem ty146 : env.ty 146 = some T146 := rfl
theorem ty147 : env.ty 147 = some T147 := rfl
theorem ty148 : env.ty 148 = some T148 := rfl
theorem ty150 : env.ty 150 = some T150 := rfl
theorem ty151 : env.ty 151 = some T151 := rfl
theorem ty152 : env.ty 152 = some T152 := rfl
theorem ty153 : env.ty 153 = some T153 := rfl
theorem ty154 : env.ty 154 = some T154 := rfl
theorem ty155 : env.ty 155 = some T155 := rfl
theorem ty156 : env.ty 156 = some T156 := rfl
theorem ty157 : env.ty 157 = some T157 := rfl
theorem ty158 : env.ty 158 = some T158 := rfl
theorem ty159 : env.ty 159 = some T159 := rfl
theorem ty160 : env.ty 160 = some T160 := rfl
theorem ty161 : env.ty 161 = some T161 := rfl
theorem ty162 : env.ty 162 = some T162 := rfl
theorem ty163 : env.ty 163 = some T163 := rfl
theorem ty164 : env.ty 164 = some T164 := rfl
theorem ty165 : env.ty 165 = some T165 := rfl
theorem ty166 : env.ty 166 = some T166 := rfl
theorem ty167 : env.ty 167 = some T167 := rfl
theorem ty169 : env.ty 169 = some T169 := rfl
theorem ty170 : env.ty 170 = some T170 := rfl
theorem ty171 : env.ty 171 = some T171 := rfl
theorem ty172 : env.ty 172 = some T172 := rfl
theorem ty173 : env.ty 173 = some T173 := rfl
theorem ty174 : env.ty 174 = some T174 := rfl
theorem ty175 : env.ty 175 = some T175 := rfl
theorem ty176 : env.ty 176 = some T176 := rfl
theorem ty177 : env.ty 177 = some T177 := rfl
theorem ty178 : env.ty 178 = some T178 := rfl
theorem ty179 : env.ty 179 = some T179 := rfl
theorem ty180 : env.ty 180 = some T180 := rfl
theorem ty181 : env.ty 181 = some T181 := rfl
theorem ty182 : env.ty 182 = some T182 := rfl
theorem ty183 : env.ty 183 = some T183 := rfl
theorem ty184 : env.ty 184 = some T184 := rfl
theorem ty185 : env.ty 185 = some T185 := rfl
theorem ty186 : env.ty 186 = some T186 := rfl
theorem ty187 : env.ty 187 = some T187 := rfl
theorem ty188 : env.ty 188 = some T188 := rfl
theorem ty189 : env.ty 189 = some T189 := rfl
theorem ty190 : env.ty 190 = some T190 := rfl
theorem ty191 : env.ty 191 = some T191 := rfl
theorem ty192 : env.ty 192 = some T192 := rfl
theorem ty193 : env.ty 193 = some T193 := rfl
theorem ty194 : env.ty 194 = some T194 := rfl
theorem ty195 : env.ty 195 = some T195 := rfl
theorem ty196 : env.ty 196 = some T196 := rfl
theorem ty197 : env.ty 197 = some T197 := rfl
theorem ty198 : env.ty 198 = some T198 := rfl
theorem ty200 : env.ty 200 = some T200 := rfl
theorem ty201 : env.ty 201 = some T201 := rfl
theorem ty202 : env.ty 202 = some T202 := rfl
theorem ty203 : env.ty 203 = some T203 := rfl
theorem ty204 : env.ty 204 = some T204 := rfl
theorem ty205 : env.ty 205 = some T205 := rfl
theorem ty206 : env.ty 206 = some T206 := rfl
theorem ty207 : env.ty 207 = some T207 := rfl
theorem ty208 : env.ty 208 = some T208 := rfl
theorem ty209 : env.ty 209 = some T209 := rfl
theorem ty211 : env.ty 211 = some T211 := rfl
theorem ty212 : env.ty 212 = some T212 := rfl
theorem ty213 : env.ty 213 = some T213 := rfl
theorem ty214 : env.ty 214 = some T214 := rfl
theorem ty215 : env.ty 215 = some T215 := rfl
theorem ty216 : env.ty 216 = some T216 := rfl
theorem ty217 : env.ty 217 = some T217 := rfl
theorem ty218 : env.ty 218 = some T218 := rfl
theorem ty220 : env.ty 220 = some T220 := rfl
theorem ty221 : env.ty 221 = some T221 := rfl
theorem ty222 : env.ty 222 = some T222 := rfl
theorem ty223 : env.ty 223 = some T223 := rfl
theorem ty224 : env.ty 224 = some T224 := rfl
theorem ty225 : env.ty 225 = some T225 := rfl
theorem ty226 : env.ty 226 = some T226 := rfl
theorem ty227 : env.ty 227 = some T227 := rfl
theorem ty229 : env.ty 229 = some T229 := rfl
theorem ty230 : env.ty 230 = some T230 := rfl
theorem ty231 : env.ty 231 = some T231 := rfl
theorem ty232 : env.ty 232 = some T232 := rfl
theorem ty234 : env.ty 234 = some T234 := rfl
theorem ty235 : env.ty 235 = some T235 := rfl
theorem ty236 : env.ty 236 = some T236 := rfl
theorem ty237 : env.ty 237 = some T237 := rfl
theorem ty238 : env.ty 238 = some T238 := rfl
theorem ty239 : env.ty 239 = some T239 := rfl
theorem ty240 : env.ty 240 = some T240 := rfl
theorem ty241 : env.ty 241 = some T241 := rfl
theorem ty242 : env.ty 242 = some T242 := rfl
theorem ty243 : env.ty 243 = some T243 := rfl
theorem ty244 : env.ty 244 = some T244 := rfl
theorem ty245 : env.ty 245 = some T245 := rfl
theorem ty246 : env.ty 246 = some T246 := rfl
theorem ty247 : env.ty 247 = some T247 := rfl
theorem ty248 : env.ty 248 = some T248 := rfl
theorem ty249 : env.ty 249 = some T249 := rfl
theorem ty250 : env.ty 250 = some T250 := rfl
theorem ty251 : env.ty 251 = some T251 := rfl
theorem ty252 : env.ty 252 = some T252 := rfl
theorem ty253 : env.ty 253 = some T253 := rfl
theorem ty255 : env.ty 255 = some T255 := rfl
theorem ty256 : env.ty 256 = some T256 := rfl
theorem ty257 : env.ty 257 = some T257 := rfl
theorem ty259 : env.ty 259 = some T259 := rfl
theorem ty260 : env.ty 260 = some T260 := rfl
theorem ty261 : env.ty 261 = some T261 := rfl
theorem ty262 : env.ty 262 = some T262 := rfl
theorem ty263 : env.ty 263 = some T263 := rfl
theorem ty264 : env.ty 264 = some T264 := rfl
theorem ty265 : env.ty 265 = some T265 := rfl
theorem ty266 : env.ty 266 = some T266 := rfl
theorem ty267 : env.ty 267 = some T267 := rfl
theorem ty268 : env.ty 268 = some T268 := rfl
theorem ty269 : env.ty 269 = some T269 := rfl
theorem ty270 : env.ty 270 = some T270 := rfl
theorem ty271 : env.ty 271 = some T271 := rfl
theorem ty272 : env.ty 272 = some T272 := rfl
theorem ty273 : env.ty 273 = some T273 := rfl
theorem ty274 : env.ty 274 = some T274 := rfl
theorem ty275 : env.ty 275 = some T275 := rfl
theorem ty276 : env.ty 276 = some T276 := rfl
theorem ty277 : env.ty 277 = some T277 := rfl
theorem ty278 : env.ty 278 = some T278 := rfl
theorem ty279 : env.ty 279 = some T279 := rfl
theorem ty280 : env.ty 280 = some T280 := rfl
theorem ty281 : env.ty 281 = some T281 := rfl
theorem ty282 : env.ty 282 = some T282 := rfl
theorem ty283 : env.ty 283 = some T283 := rfl
theorem ty284 : env.ty 284 = some T284 := rfl
theorem ty285 : env.ty 285 = some T285 := rfl
theorem ty286 : env.ty 286 = some T286 := rfl
theorem ty287 : env.ty 287 = some T287 := rfl
theorem ty288 : env.ty 288 = some T288 := rfl
theorem ty289 : env.ty 289 = some T289 := rfl
theorem ty290 : env.ty 290 = some T290 := rfl
theorem ext0 : env.ext 0 = none := rfl
theorem ext1 : env.ext 1 = none := rfl
theorem ext2 : env.ext 2 = none := rfl
theorem ext3 : env.ext 3 = none := rfl
theorem ext4 : env.ext 4 = none := rfl
theorem ext5 : env.ext 5 = none := rfl
theorem ext6 : env.ext 6 = none := rfl
theorem ext7 : env.ext 7 = none := rfl
theorem ext8 : env.ext 8 = none := rfl
theorem ext9 : env.ext 9 = none := rfl
theorem ext10 : env.ext 10 = none := rfl
theorem ext11 : env.ext 11 = none := rfl
theorem ext12 : env.ext 12 = none := rfl
theorem ext13 : env.ext 13 = none := rfl
theorem ext14 : env.ext 14 = none := rfl
theorem ext15 : env.ext 15 = none := rfl
theorem ext16 : env.ext 16 = none := rfl
theorem ext17 : env.ext 17 = none := rfl
theorem ext18 : env.ext 18 = none := rfl
theorem ext19 : env.ext 19 = none := rfl
theorem ext20 : env.ext 20 = none := rfl
theorem ext21 : env.ext 21 = none := rfl
theorem ext22 : env.ext 22 = none := rfl
theorem ext23 : env.ext 23 = none := rfl
theorem ext24 : env.ext 24 = none := rfl
theorem ext25 : env.ext 25 = none := rfl
theorem ext26 : env.ext 26 = none := rfl
theorem ext27 : env.ext 27 = none := rfl
theorem ext28 : env.ext 28 = none := rfl
theorem ext29 : env.ext 29 = none := rfl
theorem ext30 : env.ext 30 = none := rfl
theorem ext31 : env.ext 31 = none := rfl
theorem ext32 : env.ext 32 = none := rfl
theorem ext33 : env.ext 33 = none := rfl
theorem ext34 : env.ext 34 = none := rfl
theorem ext35 : env.ext 35 = none := rfl
theorem ext36 : env.ext 36 = none := rfl
theorem ext37 : env.ext 37 = none := rfl
theorem ext38 : env.ext 38 = none := rfl
theorem ext39 : env.ext 39 = none := rfl
theorem ext40 : env.ext 40 = none := rfl
theorem ext41 : env.ext 41 = none := rfl
theorem ext42 : env.ext 42 = none := rfl
theorem ext43 : env.ext 43 = none := rfl
theorem ext44 : env.ext 44 = none := rfl
theorem ext45 : env.ext 45 = none := rfl
theorem ext46 : env.ext 46 = none := rfl
theorem ext47 : env.ext 47 = none := rfl
theorem ext48 : env.ext 48 = none := rfl
theorem ext49 : env.ext 49 = none := rfl
theorem ext50 : env.ext 50 = none := rfl
theorem ext51 : env.ext 51 = none := rfl
theorem ext52 : env.ext 52 = none := rfl
theorem ext53 : env.ext 53 = none := rfl
theorem ext54 : env.ext 54 = none := rfl
theorem ext55 : env.ext 55 = none := rfl
theorem ext56 : env.ext 56 = none := rfl
theorem ext57 : env.ext 57 = none := rfl
theorem ext58 : env.ext 58 = none := rfl
theorem ext59 : env.ext 59 = none := rfl
theorem ext60 : env.ext 60 = none := rfl
theorem ext61 : env.ext 61 = none := rfl
theorem ext62 : env.ext 62 = none := rfl
theorem ext63 : env.ext 63 = none := rfl
theorem ext64 : env.ext 64 = none := rfl
theorem ext65 : env.ext 65 = none := rfl
theorem ext66 : env.ext 66 = none := rfl
theorem ext67 : env.ext 67 = none := rfl
theorem ext68 : env.ext 68 = none := rfl
theorem ext69 : env.ext 69 = none := rfl
theorem ext70 : env.ext 70 = none := rfl
theorem ext71 : env.ext 71 = none := rfl
theorem ext72 : env.ext 72 = none := rfl
theorem ext73 : env.ext 73 = none := rfl
theorem ext74 : env.ext 74 = none := rfl
theorem ext75 : env.ext 75 = none := rfl
theorem ext76 : env.ext 76 = none := rfl
theorem ext77 : env.ext 77 = none := rfl
theorem ext78 : env.ext 78 = none := rfl
theorem ext79 : env.ext 79 = none := rfl
theorem ext80 : env.ext 80 = none := rfl
theorem ext81 : env.ext 81 = none := rfl
theorem ext82 : env.ext 82 = none := rfl
theorem ext83 : env.ext 83 = none := rfl
theorem ext84 : env.ext 84 = none := rfl
theorem ext85 : env.ext 85 = none := rfl
theorem ext86 : env.ext 86 = none := rfl
theorem ext87 : env.ext 87 = none := rfl
theorem ext88 : env.ext 88 = none := rfl
theorem ext89 : env.ext 89 = none := rfl
theorem ext90 : env.ext 90 = none := rfl
theorem ext91 : env.ext 91 = none := rfl
theorem ext92 : env.ext 92 = none := rfl
theorem ext93 : env.ext 93 = none := rfl
theorem ext94 : env.ext 94 = none := rfl
theorem ext95 : env.ext 95 = none := rfl
theorem ext96 : env.ext 96 = none := rfl
theorem ext97 : env.ext 97 = none := rfl
theorem ext98 : env.ext 98 = none := rfl
theorem ext99 : env.ext 99 = none := rfl
theorem ext100 : env.ext 100 = none := rfl
theorem ext101 : env.ext 101 = none := rfl
theorem ext102 : env.ext 102 = none := rfl
theorem ext103 : env.ext 103 = none := rfl
theorem ext104 : env.ext 104 = none := rfl
theorem ext105 : env.ext 105 = none := rfl
theorem ext106 : env.ext 106 = none := rfl
theorem ext107 : env.ext 107 = none := rfl
theorem ext108 : env.ext 108 = none := rfl
theorem ext109 : env.ext 109 = none := rfl
theorem ext110 : env.ext 110 = none := rfl
theorem ext111 : env.ext 111 = none := rfl
theorem ext112 : env.ext 112 = none := rfl
theorem ext113 : env.ext 113 = none := rfl
theorem ext114 : env.ext 114 = none := rfl
theorem ext115 : env.ext 115 = none := rfl
theorem ext116 : env.ext 116 = none := rfl
theorem ext117 : env.ext 117 = none := rfl
theorem ext118 : env.ext 118 = none := rfl
theorem ext119 : env.ext 119 = none := rfl
theorem ext120 : env.ext 120 = none := rfl
theorem ext121 : env.ext 121 = none := rfl
theorem ext122 : env.ext 122 = none := rfl
theorem ext123 : env.ext 123 = none := rfl
theorem ext124 : env.ext 124 = none := rfl
theorem ext125 : env.ext 125 = none := rfl
theorem ext126 : env.ext 126 = none := rfl
theorem ext127 : env.ext 127 = none := rfl
theorem ext128 : env.ext 128 = none := rfl
theorem ext129 : env.ext 129 = none := rfl
theorem ext130 : env.ext 130 = none := rfl
theorem ext131 : env.ext 131 = none := rfl
theorem ext132 : env.ext 132 = none := rfl
theorem ext133 : env.ext 133 = none := rfl
theorem ext134 : env.ext 134 = none := rfl
theorem ext135 : env.ext 135 = none := rfl
theorem ext136 : env.ext 136 = none := rfl
theorem ext137 : env.ext 137 = none := rfl
theorem ext138 : env.ext 138 = none := rfl
theorem ext139 : env.ext 139 = none := rfl
theorem ext140 : env.ext 140 = none := rfl
theorem ext141 : env.ext 141 = none := rfl
theorem ext142 : env.ext 142 = none := rfl
theorem ext143 : env.ext 143 = none := rfl
theorem ext144 : env.ext 144 = none := rfl
theorem ext145 : env.ext 145 = none := rfl
theorem ext146 : env.ext 146 = none := rfl
theorem ext147 : env.ext 147 = none := rfl
theorem ext148 : env.ext 148 = none := rfl
theorem ext149 : env.ext 149 = none := rfl
theorem ext150 : env.ext 150 = none := rfl
theorem ext151 : env.ext 151 = none := rfl
theorem ext152 : env.ext 152 = none := rfl
theorem ext153 : env.ext 153 = none := rfl
theorem ext154 : env.ext 154 = none := rfl
theorem ext155 : env.ext 155 = none := rfl
theorem ext156 : env.ext 156 = none := rfl
theorem ext157 : env.ext 157 = none := rfl
theorem ext158 : env.ext 158 = none := rfl
theorem ext159 : env.ext 159 = none := rfl
theorem ext160 : env.ext 160 = none := rfl
theorem ext161 : env.ext 161 = none := rfl
theorem ext162 : env.ext 162 = none := rfl
theorem ext163 : env.ext 163 = none := rfl
theorem ext164 : env.ext 164 = none := rfl
theorem ext165 : env.ext 165 = none := rfl
theorem ext166 : env.ext 166 = none := rfl
theorem ext167 : env.ext 167 = none := rfl
theorem ext168 : env.ext 168 = none := rfl
theorem ext169 : env.ext 169 = none := rfl
theorem ext170 : env.ext 170 = none := rfl
theorem ext171 : env.ext 171 = none := rfl
theorem ext172 : env.ext 172 = none := rfl
theorem ext173 : env.ext 173 = none := rfl
theorem ext174 : env.ext 174 = none := rfl
theorem ext175 : env.ext 175 = none := rfl
theorem ext176 : env.ext 176 = none := rfl
theorem ext177 : env.ext 177 = none := rfl
theorem ext178 : env.ext 178 = none := rfl
theorem ext179 : env.ext 179 = none := rfl
theorem ext180 : env.ext 180 = none := rfl
theorem ext181 : env.ext 181 = none := rfl
theorem ext182 : env.ext 182 = some add64A := rfl
theorem ext183 : env.ext 183 = none := rfl
theorem ext184 : env.ext 184 = none := rfl
theorem ext185 : env.ext 185 = none := rfl
theorem ext186 : env.ext 186 = none := rfl
theorem ext187 : env.ext 187 = none := rfl
theorem ext188 : env.ext 188 = none := rfl
theorem ext189 : env.ext 189 = none := rfl
theorem ext190 : env.ext 190 = none := rfl
theorem ext191 : env.ext 191 = none := rfl
theorem ext192 : env.ext 192 = none := rfl
theorem ext193 : env.ext 193 = none := rfl
theorem ext194 : env.ext 194 = none := rfl
theorem ext195 : env.ext 195 = none := rfl
theorem ext196 : env.ext 196 = none := rfl
theorem ext197 : env.ext 197 = none := rfl
theorem ext198 : env.ext 198 = none := rfl
theorem ext199 : env.ext 199 = none := rfl
theorem ext200 : env.ext 200 = none := rfl
theorem ext201 : env.ext 201 = none := rfl
theorem ext202 : env.ext 202 = none := rfl
theorem ext203 : env.ext 203 = none := rfl
theorem ext204 : env.ext 204 = none := rfl
theorem ext205 : env.ext 205 = none := rfl
theorem ext206 : env.ext 206 = none := rfl
theorem ext207 : env.ext 207 = none := rfl
theorem ext208 : env.ext 208 = none := rfl
theorem ext209 : env.ext 209 = none := rfl
theorem ext210 : env.ext 210 = none := rfl
theorem ext211 : env.ext 211 = none := rfl
theorem ext212 : env.ext 212 = none := rfl
theorem ext213 : env.ext 213 = none := rfl
theorem ext214 : env.ext 214 = none := rfl
theorem ext215 : env.ext 215 = none := rfl
theorem ext216 : env.ext 216 = none := rfl
theorem ext217 : env.ext 217 = none := rfl
theorem ext218 : env.ext 218 = none := rfl
theorem ext219 : env.ext 219 = none := rfl
theorem ext220 : env.ext 220 = none := rfl
theorem ext221 : env.ext 221 = none := rfl
theorem ext222 : env.ext 222 = none := rfl
theorem ext223 : env.ext 223 = none := rfl
theorem ext224 : env.ext 224 = none := rfl
theorem ext225 : env.ext 225 = none := rfl
theorem ext226 : env.ext 226 = none := rfl
theorem ext227 : env.ext 227 = none := rfl
theorem ext228 : env.ext 228 = none := rfl
theorem ext229 : env.ext 229 = none := rfl
theorem ext230 : env.ext 230 = none := rfl
theorem ext231 : env.ext 231 = none := rfl
theorem ext232 : env.ext 232 = none := rfl
attribute [push_cast] ty1 ty2 ty3 ty4 ty5 ty6 ty7 ty8 ty9 ty10 ty11 ty12 ty13 ty14 ty15 ty16 ty17 ty18 ty19 ty20 ty21 ty22 ty23 ty24 ty25 ty26 ty27 ty28 ty29 ty30
  ty32 ty33 ty34 ty35 ty36 ty37 ty38 ty39 ty40 ty41 ty42 ty43 ty44 ty45 ty46 ty48 ty49 ty50 ty51 ty52 ty54 ty55 ty56 ty57 ty58 ty59 ty60 ty62
  ty64 ty65 ty66 ty67 ty68 ty70 ty71 ty72 ty73 ty74 ty75 ty76 ty77 ty78 ty79 ty80 ty81 ty82 ty83 ty84 ty86 ty87 ty88 ty89 ty90 ty91 ty92 ty93
  ty94 ty95 ty97 ty98 ty100 ty101 ty102 ty103 ty104 ty105 ty106 ty107 ty108 ty109 ty110 ty111 ty113 ty114 ty115 ty117 ty118 ty119 ty121 ty122
  ty123 ty124 ty125 ty126 ty127 ty128 ty129 ty130 ty131 ty132 ty133 ty134 ty135 ty136 ty137 ty138 ty139 ty140 ty141 ty143 ty144 ty145 ty146
  ty147 ty148 ty150 ty151 ty152 ty153 ty154 ty155 ty156 ty157 ty158 ty159 ty160 ty161 ty162 ty163 ty164 ty165 ty166 ty167 ty169 ty170 ty171
  ty172 ty173 ty174 ty175 ty176 ty177 ty178 ty179 ty180 ty181 ty182 ty183 ty184 ty185 ty186 ty187 ty188 ty189 ty190 ty191 ty192 ty193 ty194
  ty195 ty196 ty197 ty198 ty200 ty201 ty202 ty203 ty204 ty205 ty206 ty207 ty208 ty209 ty211 ty212 ty213 ty214 ty215 ty216 ty217 ty218 ty220
  ty221 ty222 ty223 ty224 ty225 ty226 ty227 ty229 ty230 ty231 ty232 ty234 ty235 ty236 ty237 ty238 ty239 ty240 ty241 ty242 ty243 ty244 ty245
  ty246 ty247 ty248 ty249 ty250 ty251 ty252 ty253 ty255 ty256 ty257 ty259 ty260 ty261 ty262 ty263 ty264 ty265 ty266 ty267 ty268 ty269 ty270
  ty271 ty272 ty273 ty274 ty275 ty276 ty277 ty278 ty279 ty280 ty281 ty282 ty283 ty284 ty285 ty286 ty287 ty288 ty289 ty290 T1 T2 T3 T4 T5 T6 T7
  T8 T9 T10 T11 T12 T13 T14 T15 T16 T17 T18 T19 T20 T21 T22 T23 T24 T25 T26 T27 T28 T29 T30 T32 T33 T34 T35 T36 T37 T38 T39 T40 T41 T42 T43 T44
  T45 T46 T48 T49 T50 T51 T52 T54 T55 T56 T57 T58 T59 T60 T62 T64 T65 T66 T67 T68 T70 T71 T72 T73 T74 T75 T76 T77 T78 T79 T80 T81 T82 T83 T84
  T86 T87 T88 T89 T90 T91 T92 T93 T94 T95 T97 T98 T100 T101 T102 T103 T104 T105 T106 T107 T108 T109 T110 T111 T113 T114 T115 T117 T118 T119
  T121 T122 T123 T124 T125 T126 T127 T128 T129 T130 T131 T132 T133 T134 T135 T136 T137 T138 T139 T140 T141 T143 T144 T145 T146 T147 T148 T150
  T151 T152 T153 T154 T155 T156 T157 T158 T159 T160 T161 T162 T163 T164 T165 T166 T167 T169 T170 T171 T172 T173 T174 T175 T176 T177 T178 T179
  T180 T181 T182 T183 T184 T185 T186 T187 T188 T189 T190 T191 T192 T193 T194 T195 T196 T197 T198 T200 T201 T202 T203 T204 T205 T206 T207 T208
  T209 T211 T212 T213 T214 T215 T216 T217 T218 T220 T221 T222 T223 T224 T225 T226 T227 T229 T230 T231 T232 T234 T235 T236 T237 T238 T239 T240
  T241 T242 T243 T244 T245 T246 T247 T248 T249 T250 T251 T252 T253 T255 T256 T257 T259 T260 T261 T262 T263 T264 T265 T266 T267 T268 T269 T270
  T271 T272 T273 T274 T275 T276 T277 T278 T279 T280 T281 T282 T283 T284 T285 T286 T287 T288 T289 T290 ext0 ext1 ext2 ext3 ext4 ext5 ext6 ext7
  ext8 ext9 ext10 ext11 ext12 ext13 ext14 ext15 ext16 ext17 ext18 ext19 ext20 ext21 ext22 ext23 ext24 ext25 ext26 ext27 ext28 ext29 ext30 ext31
  ext32 ext33 ext34 ext35 ext36 ext37 ext38 ext39 ext40 ext41 ext42 ext43 ext44 ext45 ext46 ext47 ext48 ext49 ext50 ext51 ext52 ext53 ext54
  ext55 ext56 ext57 ext58 ext59 ext60 ext61 ext62 ext63 ext64 ext65 ext66 ext67 ext68 ext69 ext70 ext71 ext72 ext73 ext74 ext75 ext76 ext77
  ext78 ext79 ext80 ext81 ext82 ext83 ext84 ext85 ext86 ext87 ext88 ext89 ext90 ext91 ext92 ext93 ext94 ext95 ext96 ext97 ext98 ext99 ext100
  ext101 ext102 ext103 ext104 ext105 ext106 ext107 ext108 ext109 ext110 ext111 ext112 ext113 ext114 ext115 ext116 ext117 ext118 ext119 ext120
  ext121 ext122 ext123 ext124 ext125 ext126 ext127 ext128 ext129 ext130 ext131 ext132 ext133 ext134 ext135 ext136 ext137 ext138 ext139 ext140
  ext141 ext142 ext143 ext144 ext145 ext146 ext147 ext148 ext149 ext150 ext151 ext152 ext153 ext154 ext155 ext156 ext157 ext158 ext159 ext160
  ext161 ext162 ext163 ext164 ext165 ext166 ext167 ext168 ext169 ext170 ext171 ext172 ext173 ext174 ext175 ext176 ext177 ext178 ext179 ext180
  ext181 ext182 ext183 ext184 ext185 ext186 ext187 ext188 ext189 ext190 ext191 ext192 ext193 ext194 ext195 ext196 ext197 ext198 ext199 ext200
  ext201 ext202 ext203 ext204 ext205 ext206 ext207 ext208 ext209 ext210 ext211 ext212 ext213 ext214 ext215 ext216 ext217 ext218 ext219 ext220
  ext221 ext222 ext223 ext224 ext225 ext226 ext227 ext228 ext229 ext230 ext231 ext232 cmp78 Tryz.results0 Tryz.results1 Tryz.results2
  Tryz.results3 Tryz.results4 Tryz.results5 Tryz.results6 Tryz.results7 Tryz.results8 Tryz.results9 Tryz.results10 Tryz.results11
  Tryz.results12 Tryz.results13 Tryz.results14 Tryz.results15 Tryz.results16 Tryz.results17 Tryz.results18 Tryz.results19 Tryz.results20
  Tryz.results21 Tryz.results22 Tryz.results23 Tryz.results24 Tryz.results25 Tryz.results26 Tryz.results27 Tryz.results28 Tryz.results29
  Tryz.results30 Tryz.results31 Tryz.results32 Tryz.results33 Tryz.results34 Tryz.results35 Tryz.results36 Tryz.results37 Tryz.results38
  Tryz.results39 Tryz.results40 Tryz.results41 Tryz.results42 Tryz.results43 Tryz.results44 Tryz.results45 Tryz.results46 Tryz.results47
  Tryz.results48 Tryz.results49 Tryz.results50 Tryz.results51 Tryz.results52 Tryz.results53 Tryz.results54 Tryz.results55 Tryz.results56
  Tryz.results57 Tryz.results58 Tryz.results59 Tryz.results60 Tryz.results61 Tryz.results62 Tryz.results63 Tryz.results64 Tryz.results65
  Tryz.results66 Tryz.results67 Tryz.results68 Tryz.results69 Tryz.results70 Tryz.results71 Tryz.results72 Tryz.results73 Tryz.results74
  Tryz.results75 Tryz.results76 Tryz.results77 Tryz.results78 Tryz.results79 Tryz.results80 Tryz.results81 Tryz.results82 Tryz.results83
  Tryz.results84 Tryz.results85 Tryz.results86 Tryz.results87 Tryz.results88 Tryz.results89 Tryz.results90 Tryz.results91 Tryz.results92
  Tryz.results93 Tryz.results94 Tryz.results95 Tryz.results96 Tryz.results97 Tryz.results98 Tryz.results99 Tryz.results100 Tryz.results101
  Tryz.results102 Tryz.results103 Tryz.results104 Tryz.results105 Tryz.results106 Tryz.results107 Tryz.results108 Tryz.results109
  Tryz.results110 Tryz.results111 Tryz.results112 Tryz.results113 Tryz.results114 Tryz.results115 Tryz.results116 Tryz.results117
  Tryz.results118 Tryz.results119 Tryz.results120 Tryz.results121 Tryz.results122 Tryz.results123 Tryz.results124 Tryz.results125
  Tryz.results126 Tryz.results127 Tryz.results128 Tryz.results129 Tryz.results130 Tryz.results131 Tryz.results132 Tryz.results133
  Tryz.results134 Tryz.results135 Tryz.results136 Tryz.results137 Tryz.results138 Tryz.results139 Tryz.results140 Tryz.results141
  Tryz.results142 Tryz.results143 Tryz.results144 Tryz.results145 Tryz.results146 Tryz.results147 Tryz.results148 Tryz.results149
  Tryz.results150 Tryz.results151 Tryz.results152 Tryz.results153 Tryz.results154 Tryz.results155 Tryz.results156 Tryz.results157
  Tryz.results158 Tryz.results159 Tryz.results160 Tryz.results161 Tryz.results162 Tryz.results163 Tryz.results164 Tryz.results165
  Tryz.results166 Tryz.results167 Tryz.results168 Tryz.results169 Tryz.results170 Tryz.results171 Tryz.results172 Tryz.results173
  Tryz.results174 Tryz.results175 Tryz.results176 Tryz.results177 Tryz.results178 Tryz.results179 Tryz.results180 Tryz.results181
  Tryz.results182 Tryz.results183 Tryz.results184 Tryz.results185 Tryz.results186 Tryz.results187 Tryz.results188 Tryz.results189
  Tryz.results190 Tryz.results191 Tryz.results192 Tryz.results193 Tryz.results194 Tryz.results195 Tryz.results196 Tryz.results197
  Tryz.results198 Tryz.results199 Tryz.results200 Tryz.results201 Tryz.results202 Tryz.results203 Tryz.results204 Tryz.results205
  Tryz.results206 Tryz.results207 Tryz.results208 Tryz.results209 Tryz.results210 Tryz.results211 Tryz.results212 Tryz.results213
  Tryz.results214 Tryz.results215 Tryz.results216 Tryz.results217 Tryz.results218 Tryz.results219 Tryz.results220 Tryz.results221
  Tryz.results222 Tryz.results223 Tryz.results224 Tryz.results225 Tryz.results226 Tryz.results227 Tryz.results228 Tryz.results229
  Tryz.results230 Tryz.results231 Tryz.results232
end Go.Proofs.YtcmhdpbmcgglmaaGreatDoor
end
section
namespace Go.Proofs
open Go.Shelf
def Tryz.sortInt_ren : Go.Shelf.Ren := ⟨fun | 53 => 132 | 64 => 152 | 63 => 151 | 78 => 168 | 79 => 169 | 70 => 159 | 71 => 160 | 72 => 161 | 73 => 162 | 74 => 163 | 75 => 164 | 59 => 165 | 76 => 166 | 77 => 167 | 88 => 175 | 89 => 176 | 90 => 177 | 91 => 178 | 92 => 179 | 68 => 180 | 96 => 184 | n => n, fun | 22 => 73 | 23 => 3 | 3 => 3 | 51 => 209 | 0 => 0 | 67 => 240 | 69 => 242 | 4 => 4 | 61 => 233 | 60 => 232 | 44 => 85 | 5 => 5 | 9 => 9 | 75 => 247 | 79 => 251 | 83 => 257 | 84 => 258 | n => n, fun | n => n⟩
theorem Tryz.sortInt : Go.Proofs.SlLaysN.n53 Tryz.prog Tryz.sortInt_ren := {
  mixed := by kernel_rfl
  f53 := ⟨Tryz.f132.name, by decide, Tryz.func132.trans (congrArg some (by kernel_rfl))⟩
  f59 := ⟨Tryz.f165.name, by decide, Tryz.func165.trans (congrArg some (by kernel_rfl))⟩
  f63 := ⟨Tryz.f151.name, by decide, Tryz.func151.trans (congrArg some (by kernel_rfl))⟩
  f64 := Tryz.func152.trans (congrArg some (by kernel_rfl))
  f68 := ⟨Tryz.f180.name, by decide, Tryz.func180.trans (congrArg some (by kernel_rfl))⟩
  f70 := ⟨Tryz.f159.name, by decide, Tryz.func159.trans (congrArg some (by kernel_rfl))⟩
  f71 := ⟨Tryz.f160.name, by decide, Tryz.func160.trans (congrArg some (by kernel_rfl))⟩
  f72 := ⟨Tryz.f161.name, by decide, Tryz.func161.trans (congrArg some (by kernel_rfl))⟩
  f73 := ⟨Tryz.f162.name, by decide, Tryz.func162.trans (congrArg some (by kernel_rfl))⟩
  f74 := ⟨Tryz.f163.name, by decide, Tryz.func163.trans (congrArg some (by kernel_rfl))⟩
  f75 := ⟨Tryz.f164.name, by decide, Tryz.func164.trans (congrArg some (by kernel_rfl))⟩
  f76 := ⟨Tryz.f166.name, by decide, Tryz.func166.trans (congrArg some (by kernel_rfl))⟩
  f77 := ⟨Tryz.f167.name, by decide, Tryz.func167.trans (congrArg some (by kernel_rfl))⟩
  f78 := Tryz.func168.trans (congrArg some (by kernel_rfl))
  f79 := Tryz.func169.trans (congrArg some (by kernel_rfl))
  f88 := ⟨Tryz.f175.name, by decide, Tryz.func175.trans (congrArg some (by kernel_rfl))⟩
  f89 := Tryz.func176.trans (congrArg some (by kernel_rfl))
  f90 := Tryz.func177.trans (congrArg some (by kernel_rfl))
  f91 := ⟨Tryz.f178.name, by decide, Tryz.func178.trans (congrArg some (by kernel_rfl))⟩
  f92 := ⟨Tryz.f179.name, by decide, Tryz.func179.trans (congrArg some (by kernel_rfl))⟩
  f96 := ⟨Tryz.f184.name, by decide, Tryz.func184.trans (congrArg some (by kernel_rfl))⟩
  t0 := Tryz.underlying0
  a0 := Tryz.isAgg0
  z0 := Tryz.sizeOf0
  v0 := Tryz.zeroValue0
  t3 := Tryz.underlying3
  a3 := Tryz.isAgg3
  z3 := Tryz.sizeOf3
  v3 := Tryz.zeroValue3
  t4 := Tryz.underlying4
  a4 := Tryz.isAgg4
  z4 := Tryz.sizeOf4
  v4 := Tryz.zeroValue4
  t5 := Tryz.underlying5
  a5 := Tryz.isAgg5
  z5 := Tryz.sizeOf5
  v5 := Tryz.zeroValue5
  t9 := Tryz.underlying9
  a9 := Tryz.isAgg9
  z9 := Tryz.sizeOf9
  v9 := Tryz.zeroValue9
  t22 := Tryz.underlying73
  a22 := Tryz.isAgg73
  z22 := Tryz.sizeOf73
  v22 := Tryz.zeroValue73
  t23 := Tryz.underlying3
  a23 := Tryz.isAgg3
  z23 := Tryz.sizeOf3
  v23 := Tryz.zeroValue3
  t44 := Tryz.underlying85
  a44 := Tryz.isAgg85
  z44 := Tryz.sizeOf85
  v44 := Tryz.zeroValue85
  t51 := Tryz.underlying209
  a51 := Tryz.isAgg209
  z51 := Tryz.sizeOf209
  v51 := Tryz.zeroValue209
  t60 := Tryz.underlying232
  a60 := Tryz.isAgg232
  z60 := Tryz.sizeOf232
  v60 := Tryz.zeroValue232
  t61 := Tryz.underlying233
  a61 := Tryz.isAgg233
  z61 := Tryz.sizeOf233
  v61 := Tryz.zeroValue233
  t67 := Tryz.underlying240
  a67 := Tryz.isAgg240
  z67 := Tryz.sizeOf240
  v67 := Tryz.zeroValue240
  t69 := Tryz.underlying242
  a69 := Tryz.isAgg242
  z69 := Tryz.sizeOf242
  v69 := Tryz.zeroValue242
  t75 := Tryz.underlying247
  a75 := Tryz.isAgg247
  z75 := Tryz.sizeOf247
  v75 := Tryz.zeroValue247
  t79 := Tryz.underlying251
  a79 := Tryz.isAgg251
  z79 := Tryz.sizeOf251
  v79 := Tryz.zeroValue251
  t83 := Tryz.underlying257
  a83 := Tryz.isAgg257
  z83 := Tryz.sizeOf257
  v83 := Tryz.zeroValue257
  t84 := Tryz.underlying258
  a84 := Tryz.isAgg258
  z84 := Tryz.sizeOf258
  v84 := Tryz.zeroValue258 }
end Go.Proofs
end
section
set_option autoImplicit false
set_option linter.unusedVariables false
set_option linter.unusedSimpArgs false
namespace Go.Proofs.YtcmhdpbmcgglmaaGreatDoor
open Go.Abs
def errD : Option Int → D
  | none => .nili
  | some c => .iface 108 (.int .i64 c)
def Tb {α : Type} (f : α → D) (sz : Int) (L : List (Int × α)) : List AObj := [.map (entE f L), .var [.d (.int .i64 sz), .mapo 0]]
end Go.Proofs.YtcmhdpbmcgglmaaGreatDoor
end
section
set_option autoImplicit false
set_option linter.unusedVariables false
set_option linter.unusedSimpArgs false
namespace Go.Proofs.YtcmhdpbmcgglmaaGreatDoor
open Go.Abs
abbrev Ent := Int × List Int × List Int
def fE (e : Ent) : D := .agg [.int .i64 e.1, .slice 1 (ints e.2.1), .slice 1 (ints e.2.2)]
def e0 : Ent := (0, [], [])
end Go.Proofs.YtcmhdpbmcgglmaaGreatDoor
end
section
set_option autoImplicit false
set_option linter.unusedVariables false
set_option linter.unusedSimpArgs false
namespace Go.Proofs.YtcmhdpbmcgglmaaGreatDoor
open Go.Abs
structure Pd where
  id : Int
  pr : Int
  pre : Bool
  gr : Int
  ar : Int
  ph : Int
  nd : Int
  dl : Int
def pod0 : Pd := ⟨0, 0, false, 0, 0, 0, 0, 0⟩
abbrev Pod := Pd × List Int
def pz : Pod := (pod0, [])
def pL (p : Pod) : List D := [.int .i64 p.1.id, .int .i64 p.1.pr, .bool p.1.pre, .int .i64 p.1.gr, .slice 1 (ints p.2), .int .i64 p.1.ar, .int .i64 p.1.ph, .int .i64 p.1.nd, .int .i64 p.1.dl]
def fP (p : Pod) : D := .agg (pL p)
def zP : D := .agg [.int .i64 0, .int .i64 0, .bool false, .int .i64 0, .nils, .int .i64 0, .int .i64 0, .int .i64 0, .int .i64 0]
def pods (l : List Pod) : List (List D) := l.map pL
theorem pods_length (l : List Pod) : (pods l).length = l.length := by simp [pods]
theorem pods_get {l : List Pod} {i : Nat} (h : i < l.length) : (pods l).getD i [] = pL (l.getD i pz) := by simp [pods, List.getD_eq_getElem?_getD, h]
theorem seg_pods {l : List Pod} {i : Nat} (h : i < l.length) : seg (pods l) i 0 9 = pL (l.getD i pz) := by unfold seg; rw [pods_get h]; rfl
theorem cel_pods {l : List Pod} {i : Nat} (h : i < l.length) (k : Nat) : cel (pods l) i k = (pL (l.getD i pz)).getD k .nilp := by unfold cel; rw [pods_get h]
theorem pods_snoc (x : List Pod) (p : Pod) : pods x ++ [pL p] = pods (x ++ [p]) := by simp [pods]
def nextP (p e : Int) : Option Int :=
  if e = 1 then (if p = 1 ∨ p = 2 then some 3 else none)
  else if e = 2 then (if p = 1 ∨ p = 2 then some 2 else none)
  else if e = 3 then (if p = 2 then some 1 else none)
  else if e = 4 then (if p = 3 then some 4 else none)
  else if e = 5 then (if 1 ≤ p ∧ p ≤ 4 then some 5 else none)
  else none
def applyP (p : Pod) (e to node dl : Int) : Pod :=
  ({ p.1 with ph := to, dl := if e = 4 then dl else -1, nd := if e = 1 ∨ e = 2 then node else if e = 4 then p.1.nd else -1 }, p.2)
def submitP (p : Pod) (n : Int) : Pod := ({ p.1 with ph := 1, nd := -1, dl := -1, ar := n }, p.2)
end Go.Proofs.YtcmhdpbmcgglmaaGreatDoor
end
section
set_option autoImplicit false
set_option linter.unusedVariables false
set_option linter.unusedSimpArgs false
namespace Go.Proofs.YtcmhdpbmcgglmaaGreatDoor
open Go.Abs
def FitsP (a b : List Int) : Prop := a.length = b.length ∧ ∀ k, k < a.length → a.getD k 0 ≤ b.getD k 0
theorem rfits_ok (a b : List Int) (ha : Sz a) : PCall env 18 [sl a, sl b] (.bool (B (FitsP a b))) := by
  refine acalls_of envOk Tryz.func18 rfl (by kernel_rfl) (m := 30) rfl ?_
  simp only [push_cast, simprocAttr]
  refine ALoop.mk (fun k t H ds => ∃ i : Nat, k = a.length - i ∧ i ≤ a.length ∧ i ≤ b.length ∧ (∀ j, j < i → a.getD j 0 ≤ b.getD j 0) ∧ t = [.d (.slice 1 (ints a)), .d (.slice 1 (ints b)), .dead, .dead, .d (.bool false), .d (.int .i64 (i : Nat)), .dead, .dead, .dead, .dead, .dead, .dead, .dead, .dead, .dead, .dead, .dead, .dead, .dead, .dead, .dead, .dead, .dead, .dead, .dead, .dead, .dead, .dead, .dead, .dead, .dead, .dead] ∧ H = [] ∧ ds = []) a.length
    (WK.fgt (t' := [.d (.slice 1 (ints a)), .d (.slice 1 (ints b)), .dead, .dead, .d (.bool false), .d (.int .i64 (0 : Nat)), .dead, .dead, .dead, .dead, .dead, .dead, .dead, .dead, .dead, .dead, .dead, .dead, .dead, .dead, .dead, .dead, .dead, .dead, .dead, .dead, .dead, .dead, .dead, .dead, .dead, .dead]) (by simp [fgt, ints_length, intss_length]) (WK.now ⟨0, by omega, by omega, by omega, by omega, rfl, rfl, rfl⟩)) ?_
  rintro k t H ds ⟨i, rfl, hi, hi2, hp, rfl, rfl, rfl⟩
  simp only [push_cast, simprocAttr]
  have fin : ¬ (i < a.length ∧ i < b.length) → B (a.length = b.length) = B (FitsP a b) := fun hn => by
    by_cases h : a.length = b.length
    · rw [B_true h, B_true ⟨h, fun k hk => hp k (by omega)⟩]
    · rw [B_false h, B_false (fun h' => h h'.1)]
  refine Kbr.mk (fun c => ?_) (fun c => ?_)
  · have c2 : i < a.length := by simpa using c
    simp only [push_cast, simprocAttr]
    refine Kbr.mk (fun c => ?_) (fun c => ?_)
    · have c3 : i < b.length := by simpa using c
      simp only [c2, c3, cel_ints, push_cast, simprocAttr]
      refine DRegL.one (by unfold DrawOK; kernel_rfl) ?_
      simp only [c2, c3, cel_ints, push_cast, simprocAttr]
      refine Kbr.mk (fun c => ?_) (fun c => ?_)
      · have c4 : a.getD i 0 > b.getD i 0 := by simpa using c
        simp only [push_cast, simprocAttr]
        refine WK.now ?_
        simp only [push_cast, simprocAttr]
        rw [B_false (fun h => by have := h.2 i c2; omega)]
      · have c4 : ¬ a.getD i 0 > b.getD i 0 := by simpa using c
        simp only [succ64 c2 (Nat.le_trans ha (by omega)), push_cast, simprocAttr]
        refine ⟨a.length - (i + 1), by omega, WK.fgt (t' := [.d (.slice 1 (ints a)), .d (.slice 1 (ints b)), .dead, .dead, .d (.bool false), .d (.int .i64 (i + 1 : Nat)), .dead, .dead, .dead, .dead, .dead, .dead, .dead, .dead, .dead, .dead, .dead, .dead, .dead, .dead, .dead, .dead, .dead, .dead, .dead, .dead, .dead, .dead, .dead, .dead, .dead, .dead]) (by simp [fgt, ints_length, intss_length]) (WK.now ⟨i + 1, rfl, by omega, by omega, fun j hj => ?_, rfl, rfl, rfl⟩)⟩
        rcases Nat.lt_succ_iff_lt_or_eq.1 hj with hj | rfl
        · exact hp j hj
        · omega
    · have c3 : ¬ i < b.length := by simpa using c
      simp only [push_cast, simprocAttr]
      refine WK.now ?_
      simp only [push_cast, simprocAttr]
      rw [← fin (by omega), beq_nat]
  · have c2 : ¬ i < a.length := by simpa using c
    simp only [push_cast, simprocAttr]
    refine WK.now ?_
    simp only [push_cast, simprocAttr]
    rw [← fin (by omega), beq_nat]
theorem rsame_ok (a b : List Int) (ha : Sz a) (hb : Sz b) : PCall env 22 [sl a, sl b] (.bool (B (a = b))) := by
  refine acalls_of envOk Tryz.func22 rfl (by kernel_rfl) (m := 11) rfl ?_
  simp only [push_cast, simprocAttr]
  refine (rfits_ok a b ha).go (by first | exact ⟨.inl rfl, trivial⟩ | exact ⟨.inl rfl, .inl rfl, trivial⟩ | exact ⟨.inl rfl, .inl rfl, .inl rfl, trivial⟩ | simp [argsOk, argOk, sl, sll]) (WK.now ?_)
  have e : B (a = b) = (B (FitsP a b) && B (FitsP b a)) := by
    by_cases h : a = b
    · subst h
      rw [B_true rfl, B_true (show FitsP a a from ⟨rfl, fun k _ => Int.le_refl _⟩)]
      rfl
    · rw [B_false h]
      by_cases h1 : FitsP a b
      · rw [B_true h1, B_false]; rfl
        intro h2
        refine h (List.ext_getElem h1.1 fun j g1 g2 => ?_)
        have k1 := h1.2 j g1
        have k2 := h2.2 j g2
        simp [List.getD_eq_getElem?_getD, g1, g2] at k1 k2
        omega
      · rw [B_false h1]; rfl
  rw [e]
  cases hf : B (FitsP a b) with
  | false =>
    simp only [push_cast, simprocAttr]
    refine WK.now ?_
    simp only [push_cast, simprocAttr]
  | true =>
    simp only [push_cast, simprocAttr]
    refine (rfits_ok b a hb).go (by first | exact ⟨.inl rfl, trivial⟩ | exact ⟨.inl rfl, .inl rfl, trivial⟩ | exact ⟨.inl rfl, .inl rfl, .inl rfl, trivial⟩ | simp [argsOk, argOk, sl, sll]) (WK.now ?_)
    simp only [push_cast, simprocAttr]
    refine WK.now ?_
    simp only [push_cast, simprocAttr]
end Go.Proofs.YtcmhdpbmcgglmaaGreatDoor
end
section
set_option autoImplicit false
set_option linter.unusedVariables false
set_option linter.unusedSimpArgs false
namespace Go.Proofs.YtcmhdpbmcgglmaaGreatDoor
open Go.Abs
theorem succW {i n : Nat} (h : i < n) (hn : n ≤ 9223372036854775807) : IntKind.wrap .i64 ((i : Int) + 1) = ((i + 1 : Nat) : Int) := by
  rw [wrapi (by omega) (by omega)]; rfl
def I64 (n : Int) : Prop := -9223372036854775808 ≤ n ∧ n ≤ 9223372036854775807
theorem wrong1_ok (n : Int) : PCall env 129 [.int .i64 n] (.bool (decide (n < 0 ∨ n > 1099511627776))) := by
  refine acalls_of envOk Tryz.func129 rfl (by kernel_rfl) (m := 8) rfl ?_
  simp only [push_cast, simprocAttr]
  refine Kbr.mk (fun c => ?_) (fun c => ?_)
  · have c1 : ¬ n < 0 := by simpa using c
    simp only [push_cast, simprocAttr]
    refine WK.now ?_
    simp only [push_cast, simprocAttr]
    simp [c1]
  · have c1 : n < 0 := by simpa using c
    simp only [push_cast, simprocAttr]
    refine WK.now ?_
    simp only [push_cast, simprocAttr]
    simp [c1]
theorem sub1_ok (a b : Int) (h1 : I64 a) (h2 : I64 b) : PCall env 134 [.int .i64 a, .int .i64 b] (.tup [.int .i64 (IntKind.wrap .i64 (a - b)), .bool (decide (b ≤ a ∧ a - b ≤ 9223372036854775807))]) := by
  refine acalls_of envOk Tryz.func134 rfl (by kernel_rfl) (m := 16) rfl ?_
  simp only [push_cast, simprocAttr]
  obtain ⟨h3, h4⟩ := h1
  obtain ⟨h5, h6⟩ := h2
  refine Kbr.mk (fun c => ?_) (fun c => ?_)
  · have c1 : a ≥ b := by simpa using c
    simp only [push_cast, simprocAttr]
    refine WK.now ?_
    simp only [push_cast, simprocAttr]
    have : decide (IntKind.wrap .i64 (a - b) ≥ 0) = decide (b ≤ a ∧ a - b ≤ 9223372036854775807) := by
      rw [wrap_eq]
      by_cases hle : a - b ≤ 9223372036854775807
      · rw [decide_eq_true (by omega), decide_eq_true (by omega)]
      · rw [decide_eq_false (by omega), decide_eq_false (by omega)]
    rw [this]
  · have c1 : ¬ a ≥ b := by simpa using c
    simp only [push_cast, simprocAttr]
    refine WK.now ?_
    simp only [push_cast, simprocAttr]
    rw [decide_eq_false (show ¬ (b ≤ a ∧ a - b ≤ 9223372036854775807) by omega)]
theorem fits1_ok (a b : Int) : PCall env 128 [.int .i64 a, .int .i64 b] (.tup [.int .i64 0, .bool (decide (a ≤ b))]) := by
  refine acalls_of envOk Tryz.func128 rfl (by kernel_rfl) (m := 7) rfl ?_
  simp only [push_cast, simprocAttr]
  refine WK.now ?_
  simp only [push_cast, simprocAttr]
theorem zero_ok (n : Int) (h : n ≤ 1000000) : PCall env 119 [.int .i64 n] (sl (List.replicate (max n 0).toNat 0)) := by
  refine acalls_of envOk Tryz.func119 rfl (by kernel_rfl) (m := 5) rfl ?_
  simp only [push_cast, simprocAttr]
  refine ⟨by omega, room_of (by omega) (by omega), WK.frz 0 rfl (WK.now ?_)⟩
  simp only [push_cast, simprocAttr]
  rw [rep_ints]
def resS : Option (List Int) → D
  | some xs => .tup [sl xs, .bool true]
  | none => .tup [.nils, .bool false]
noncomputable def bothS (fn : Int → Int → Int) (fo : Int → Int → Bool) (a b : List Int) : Option (List Int) :=
  bif B (a.length = b.length ∧ ∀ k, k < a.length → fo (a.getD k 0) (b.getD k 0) = true) then some (List.zipWith fn a b) else none
def InR (a : List Int) : Prop := ∀ k, I64 (a.getD k 0)
theorem both_ok (g : FuncId) (hx : env.ext g = none) (fn : Int → Int → Int) (fo : Int → Int → Bool) (hg : ∀ x y, I64 x → I64 y → PCall env g [.int .i64 x, .int .i64 y] (.tup [.int .i64 (fn x y), .bool (fo x y)]))
    (a b : List Int) (ha : Sz a) (ra : InR a) (rb : InR b) : PCall env 127 [sl a, sl b, .func g []] (resS (bothS fn fo a b)) := by
  refine acalls_of envOk Tryz.func127 rfl (by kernel_rfl) (m := 43) rfl ?_
  simp only [push_cast, simprocAttr]
  refine Kbr.mk (fun c => ?_) (fun c => ?_)
  · have c1 : a.length ≠ b.length := by simpa [Int.ofNat_inj] using c
    simp only [push_cast, simprocAttr]
    refine WK.now ?_
    simp only [push_cast, simprocAttr]
    rw [bothS, B_false (fun h => c1 h.1)]
    rfl
  · have c1 : a.length = b.length := by simpa [Int.ofNat_inj] using c
    simp only [push_cast, simprocAttr]
    refine ⟨room_of (Nat.le_trans ha (by omega)) (by omega), ?_⟩
    rw [rep_ints]
    refine ALoop.mk (fun k t H ds => ∃ (i : Nat) (out : List Int), k = a.length - i ∧ i ≤ a.length ∧ out.length = a.length ∧ (∀ j, j < i → fo (a.getD j 0) (b.getD j 0) = true ∧ out.getD j 0 = fn (a.getD j 0) (b.getD j 0)) ∧ t = [.d (.slice 1 (ints a)), .d (.slice 1 (ints b)), .d (.func g []), .dead, .dead, .dead, .d .nils, .d (.bool false), .sfull 0, .dead, .dead, .dead, .dead, .dead, .dead, .dead, .dead, .dead, .dead, .dead, .dead, .d (.int .i64 a.length), .d (.int .i64 (i : Nat)), .dead, .dead, .dead, .dead, .dead, .dead, .dead, .dead, .dead, .dead, .dead, .dead, .dead, .dead, .dead, .dead, .dead, .dead, .dead, .dead, .dead, .dead, .dead] ∧ H = [.arr 2 1 (ints out)] ∧ ds = []) a.length
      (WK.fgt (t' := [.d (.slice 1 (ints a)), .d (.slice 1 (ints b)), .d (.func g []), .dead, .dead, .dead, .d .nils, .d (.bool false), .sfull 0, .dead, .dead, .dead, .dead, .dead, .dead, .dead, .dead, .dead, .dead, .dead, .dead, .d (.int .i64 a.length), .d (.int .i64 (0 : Nat)), .dead, .dead, .dead, .dead, .dead, .dead, .dead, .dead, .dead, .dead, .dead, .dead, .dead, .dead, .dead, .dead, .dead, .dead, .dead, .dead, .dead, .dead, .dead]) (by simp [fgt, ints_length, intss_length]) (WK.now ⟨0, _, by omega, by omega, by simp, by omega, rfl, rfl, rfl⟩)) ?_
    rintro k t H ds ⟨i, out, rfl, hi, ho, hp, rfl, rfl, rfl⟩
    simp only [push_cast, simprocAttr]
    refine Kbr.mk (fun c => ?_) (fun c => ?_)
    · have c2 : i < a.length := by simpa using c
      have c3 : i < b.length := by omega
      simp only [c2, c3, cel_ints, hx, push_cast, simprocAttr]
      refine DRegL.one (by unfold DrawOK; kernel_rfl) ?_
      simp only [c2, c3, cel_ints, hx, push_cast, simprocAttr]
      refine (hg _ _ (ra i) (rb i)).quiet' (by first | exact ⟨.inl rfl, trivial⟩ | exact ⟨.inl rfl, .inl rfl, trivial⟩ | exact ⟨.inl rfl, .inl rfl, .inl rfl, trivial⟩ | simp [argsOk, argOk, sl, sll]) ?_
      simp only [push_cast, simprocAttr]
      refine Kbr.mk (fun c => ?_) (fun c => ?_)
      · have c4 : fo (a.getD i 0) (b.getD i 0) = false := by simpa using c
        simp only [push_cast, simprocAttr]
        refine WK.now ?_
        simp only [push_cast, simprocAttr]
        rw [bothS, B_false (fun h => by have := h.2 i c2; rw [c4] at this; cases this)]
        rfl
      · have c4 : fo (a.getD i 0) (b.getD i 0) = true := by simpa using c
        simp only [ho, c2, upd_ints, succ64 c2 (Nat.le_trans ha (by omega)), push_cast, simprocAttr]
        refine ⟨a.length - (i + 1), by omega, WK.fgt (t' := [.d (.slice 1 (ints a)), .d (.slice 1 (ints b)), .d (.func g []), .dead, .dead, .dead, .d .nils, .d (.bool false), .sfull 0, .dead, .dead, .dead, .dead, .dead, .dead, .dead, .dead, .dead, .dead, .dead, .dead, .d (.int .i64 a.length), .d (.int .i64 (i + 1 : Nat)), .dead, .dead, .dead, .dead, .dead, .dead, .dead, .dead, .dead, .dead, .dead, .dead, .dead, .dead, .dead, .dead, .dead, .dead, .dead, .dead, .dead, .dead, .dead]) (by simp [fgt, ints_length, intss_length]) (WK.now ⟨i + 1, _, rfl, by omega, by simp [ho], fun j hj => ?_, rfl, rfl, rfl⟩)⟩
        rcases Nat.lt_succ_iff_lt_or_eq.1 hj with hj | rfl
        · have hne : i ≠ j := by omega
          simpa [List.getD_eq_getElem?_getD, List.getElem?_set_ne hne] using hp j hj
        · exact ⟨c4, by simp [List.getD_eq_getElem?_getD, ho, c2]⟩
    · have c2 : ¬ i < a.length := by simpa using c
      simp only [push_cast, simprocAttr]
      refine WK.frz 0 rfl (WK.now ?_)
      simp only [push_cast, simprocAttr]
      have e : out = List.zipWith fn a b := List.ext_getElem (by simp [ho, c1]) fun j h1 h2 => by
        have := (hp j (by omega)).2
        simpa [List.getD_eq_getElem?_getD, h1, show j < a.length by omega, show j < b.length by omega] using this
      rw [bothS, B_true ⟨c1, fun k hk => (hp k (by omega)).1⟩, e]
      rfl
def subOk (x y : Int) : Bool := decide (y ≤ x ∧ x - y ≤ 9223372036854775807)
noncomputable def subS (a b : List Int) : Option (List Int) := bothS (fun x y => IntKind.wrap .i64 (x - y)) subOk a b
theorem vsub_ok (a b : List Int) (ha : Sz a) (ra : InR a) (rb : InR b) : PCall env 99 [sl a, sl b] (resS (subS a b)) := by
  refine acalls_of envOk Tryz.func99 rfl (by kernel_rfl) (m := 9) rfl ?_
  simp only [push_cast, simprocAttr]
  refine (both_ok 134 rfl (fun x y => IntKind.wrap .i64 (x - y)) subOk (fun x y hx hy => sub1_ok x y hx hy) a b ha ra rb).go (by first | exact ⟨.inl rfl, trivial⟩ | exact ⟨.inl rfl, .inl rfl, trivial⟩ | exact ⟨.inl rfl, .inl rfl, .inl rfl, trivial⟩ | simp [argsOk, argOk, sl, sll]) (WK.now ?_)
  unfold subS
  generalize bothS _ _ a b = r
  cases r with
  | none => simp only [resS, push_cast, simprocAttr]; refine WK.now ?_; simp only [push_cast, simprocAttr]
  | some xs => simp only [resS, push_cast, simprocAttr]; refine WK.now ?_; simp only [push_cast, simprocAttr]
theorem vfits_ok (a b : List Int) (ha : Sz a) (ra : InR a) (rb : InR b) : PCall env 85 [sl a, sl b] (.bool (B (FitsP a b))) := by
  refine acalls_of envOk Tryz.func85 rfl (by kernel_rfl) (m := 12) rfl ?_
  simp only [push_cast, simprocAttr]
  refine (both_ok 128 rfl _ _ (fun x y hx hy => fits1_ok x y) a b ha ra rb).go (by first | exact ⟨.inl rfl, trivial⟩ | exact ⟨.inl rfl, .inl rfl, trivial⟩ | exact ⟨.inl rfl, .inl rfl, .inl rfl, trivial⟩ | simp [argsOk, argOk, sl, sll]) (WK.now ?_)
  have e : B (a.length = b.length ∧ ∀ k, k < a.length → decide (a.getD k 0 ≤ b.getD k 0) = true) = B (FitsP a b) := by
    congr 1
    simp [FitsP]
  rw [bothS, e]
  cases hb : B (FitsP a b) with
  | false => simp only [resS, cond_false, push_cast, simprocAttr]; refine WK.now ?_; simp only [push_cast, simprocAttr]
  | true => simp only [resS, cond_true, push_cast, simprocAttr]; refine WK.now ?_; simp only [push_cast, simprocAttr]
def idx (p : Int → Bool) (a : List Int) : Int := if a.findIdx p < a.length then (a.findIdx p : Nat) else -1
theorem index_ok (g : FuncId) (hx : env.ext g = none) (p : Int → Bool) (hg : ∀ x, PCall env g [.int .i64 x] (.bool (p x))) (a : List Int) (ha : a.length ≤ 9223372036854775807) : PCall env 120 [sl a, .func g []] (.int .i64 (idx p a)) := by
  refine acalls_of envOk Tryz.func120 rfl (by kernel_rfl) (m := 17) rfl ?_
  simp only [push_cast, simprocAttr]
  refine ALoop.mk (fun k t H ds => ∃ i : Nat, k = a.length - i ∧ i ≤ a.length ∧ (∀ j, j < i → p (a.getD j 0) = false) ∧ t = [.d (.slice 1 (ints a)), .d (.func g []), .dead, .dead, .d (.int .i64 0), .dead, .dead, .d (.int .i64 a.length), .d (.int .i64 (i : Nat)), .dead, .dead, .dead, .dead, .dead, .dead, .dead, .dead, .dead, .dead] ∧ H = [] ∧ ds = []) a.length
    (WK.fgt (t' := [.d (.slice 1 (ints a)), .d (.func g []), .dead, .dead, .d (.int .i64 0), .dead, .dead, .d (.int .i64 a.length), .d (.int .i64 (0 : Nat)), .dead, .dead, .dead, .dead, .dead, .dead, .dead, .dead, .dead, .dead]) (by simp [fgt, ints_length, intss_length]) (WK.now ⟨0, by omega, by omega, by omega, rfl, rfl, rfl⟩)) ?_
  rintro k t H ds ⟨i, rfl, hi, hp, rfl, rfl, rfl⟩
  simp only [push_cast, simprocAttr]
  refine Kbr.mk (fun c => ?_) (fun c => ?_)
  · have c2 : i < a.length := by simpa using c
    simp only [c2, cel_ints, hx, push_cast, simprocAttr]
    refine (hg _).go (by first | exact ⟨.inl rfl, trivial⟩ | exact ⟨.inl rfl, .inl rfl, trivial⟩ | exact ⟨.inl rfl, .inl rfl, .inl rfl, trivial⟩ | simp [argsOk, argOk, sl, sll]) (WK.now ?_)
    simp only [push_cast, simprocAttr]
    refine Kbr.mk (fun c => ?_) (fun c => ?_)
    · simp only [push_cast, simprocAttr]
      refine WK.now ?_
      simp only [push_cast, simprocAttr]
      have e : a.findIdx p = i := (List.findIdx_eq c2).2 ⟨by simpa [List.getD_eq_getElem?_getD, c2] using c, fun j hj => by simpa [List.getD_eq_getElem?_getD, show j < a.length by omega] using hp j hj⟩
      simp [idx, e, c2]
    · simp only [succW c2 ha, push_cast, simprocAttr]
      refine ⟨a.length - (i + 1), by omega, WK.fgt (t' := [.d (.slice 1 (ints a)), .d (.func g []), .dead, .dead, .d (.int .i64 0), .dead, .dead, .d (.int .i64 a.length), .d (.int .i64 (i + 1 : Nat)), .dead, .dead, .dead, .dead, .dead, .dead, .dead, .dead, .dead, .dead]) (by simp [fgt, ints_length, intss_length]) (WK.now ⟨i + 1, rfl, by omega, fun j hj => ?_, rfl, rfl, rfl⟩)⟩
      rcases Nat.lt_succ_iff_lt_or_eq.1 hj with hj | rfl
      · exact hp j hj
      · exact c
  · have c2 : ¬ i < a.length := by simpa using c
    simp only [push_cast, simprocAttr]
    refine WK.now ?_
    simp only [push_cast, simprocAttr]
    have e : ¬ a.findIdx p < a.length := by
      rw [List.findIdx_lt_length]
      rintro ⟨x, hx, hpx⟩
      obtain ⟨j, hj, rfl⟩ := List.getElem_of_mem hx
      have := hp j (by omega)
      simp [List.getD_eq_getElem?_getD, hj, hpx] at this
    simp [idx, e]
def wrongP (n : Int) : Bool := decide (n < 0 ∨ n > 1099511627776)
def wrongS (a : List Int) (d : Int) : Int := if 0 ≤ idx wrongP a then idx wrongP a else if (a.length : Int) = d then -1 else max (min d a.length) 0
theorem vwrong_ok (a : List Int) (d : Int) (ha : a.length ≤ 9223372036854775807) : PCall env 86 [sl a, .int .i64 d] (.int .i64 (wrongS a d)) := by
  refine acalls_of envOk Tryz.func86 rfl (by kernel_rfl) (m := 20) rfl ?_
  simp only [push_cast, simprocAttr]
  refine (index_ok 129 rfl wrongP (fun x => wrong1_ok x) a ha).go (by first | exact ⟨.inl rfl, trivial⟩ | exact ⟨.inl rfl, .inl rfl, trivial⟩ | exact ⟨.inl rfl, .inl rfl, .inl rfl, trivial⟩ | simp [argsOk, argOk, sl, sll]) (WK.now ?_)
  simp only [push_cast, simprocAttr]
  refine Kbr.mk (fun c => ?_) (fun c => ?_)
  · have c1 : ¬ 0 ≤ idx wrongP a := by simpa using c
    simp only [push_cast, simprocAttr]
    refine Kbr.mk (fun c => ?_) (fun c => ?_)
    · have c2 : (a.length : Int) = d := by simpa using c
      simp only [push_cast, simprocAttr]
      refine WK.now ?_
      simp only [push_cast, simprocAttr]
      have : idx wrongP a = -1 := by unfold idx at *; split <;> simp_all
      simp [wrongS, c1, c2, this]
    · have c2 : ¬ (a.length : Int) = d := by simpa using c
      simp only [push_cast, simprocAttr]
      refine WK.now ?_
      simp only [push_cast, simprocAttr]
      simp only [wrongS, if_neg c1, if_neg c2]
  · have c1 : 0 ≤ idx wrongP a := by simpa using c
    simp only [push_cast, simprocAttr]
    refine WK.now ?_
    simp only [push_cast, simprocAttr]
    simp [wrongS, c1]
end Go.Proofs.YtcmhdpbmcgglmaaGreatDoor
end
section
set_option autoImplicit false
set_option linter.unusedVariables false
set_option linter.unusedSimpArgs false
namespace Go.Proofs.YtcmhdpbmcgglmaaGreatDoor
open Go.Abs
/-! A row of rows -/
theorem wide_ok (l : List (List Int)) (h0 : 0 < l.length) (v : List Int) :
    ACalls env 171 [.d (sl v), .pvar 0 0] [.var [.d (sll l)]] fun r H' => r = .d (.bool (B (v.length ≠ (l.getD 0 []).length))) ∧ H' = [.var [.d (sll l)]] := by
  refine acalls_of envOk Tryz.func171 rfl (by kernel_rfl) (m := 9) rfl ?_
  simp only [push_cast, simprocAttr, -Int.reducePow]
  refine ⟨by omega, ?_⟩
  simp only [h0, cel_intss, push_cast, simprocAttr, -Int.reducePow]
  refine WK.now ?_
  simp only [push_cast, simprocAttr, -Int.reducePow]
  rw [bne_nat]
theorem indexL_ok (l : List (List Int)) (h0 : 0 < l.length) (hl : Sz l) :
    ACalls env 181 [.d (sll l), .func 171 [.pvar 0 0]] [.var [.d (sll l)]] fun r H' => (∃ n : Int, r = .d (.int .i64 n) ∧ (0 ≤ n ↔ ∃ j, j < l.length ∧ (l.getD j []).length ≠ (l.getD 0 []).length)) ∧ H' = [.var [.d (sll l)]] := by
  refine acalls_of envOk Tryz.func181 rfl (by kernel_rfl) (m := 17) rfl ?_
  simp only [push_cast, simprocAttr, -Int.reducePow]
  refine ALoop.mk (fun k t H ds => ∃ i : Nat, k = l.length - i ∧ i ≤ l.length ∧ (∀ j, j < i → (l.getD j []).length = (l.getD 0 []).length) ∧ t = [.d (.slice 1 (intss l)), .func 171 [.pvar 0 0], .dead, .dead, .d (.int .i64 0), .dead, .dead, .d (.int .i64 l.length), .d (.int .i64 (i : Nat)), .dead, .dead, .dead, .dead, .dead, .dead, .dead, .dead, .dead, .dead] ∧ H = [.var [.d (sll l)]] ∧ ds = []) l.length
    (WK.fgt (t' := [.d (.slice 1 (intss l)), .func 171 [.pvar 0 0], .dead, .dead, .d (.int .i64 0), .dead, .dead, .d (.int .i64 l.length), .d (.int .i64 (0 : Nat)), .dead, .dead, .dead, .dead, .dead, .dead, .dead, .dead, .dead, .dead]) (by simp [fgt, ints_length, intss_length]) (WK.now ⟨0, by omega, by omega, by omega, rfl, rfl, rfl⟩)) ?_
  rintro k t H ds ⟨i, rfl, hi, hp, rfl, rfl, rfl⟩
  simp only [push_cast, simprocAttr, -Int.reducePow]
  refine Kbr.mk (fun c => ?_) (fun c => ?_)
  · have c2 : i < l.length := by simpa using c
    simp only [c2, cel_intss, push_cast, simprocAttr, -Int.reducePow]
    refine (wide_ok l h0 (l.getD i [])).thus (WK.now ?_)
    simp only [push_cast, simprocAttr, -Int.reducePow]
    refine Kbr.mk (fun c => ?_) (fun c => ?_)
    · have c3 := B_iff.1 c
      simp only [push_cast, simprocAttr, -Int.reducePow]
      refine WK.now ?_
      simp only [push_cast, simprocAttr, -Int.reducePow]
      exact ⟨_, rfl, ⟨fun _ => ⟨i, c2, c3⟩, fun _ => by omega⟩⟩
    · have c3 := B_not.1 c
      simp only [succ64 c2 (Nat.le_trans hl (by omega)), push_cast, simprocAttr, -Int.reducePow]
      refine ⟨l.length - (i + 1), by omega, WK.fgt (t' := [.d (.slice 1 (intss l)), .func 171 [.pvar 0 0], .dead, .dead, .d (.int .i64 0), .dead, .dead, .d (.int .i64 l.length), .d (.int .i64 (i + 1 : Nat)), .dead, .dead, .dead, .dead, .dead, .dead, .dead, .dead, .dead, .dead]) (by simp [fgt, ints_length, intss_length]) (WK.now ⟨i + 1, rfl, by omega, fun j hj => ?_, rfl, rfl, rfl⟩)⟩
      rcases Nat.lt_succ_iff_lt_or_eq.1 hj with hj | rfl
      · exact hp j hj
      · omega
  · have c2 : ¬ i < l.length := by simpa using c
    simp only [push_cast, simprocAttr, -Int.reducePow]
    refine WK.now ?_
    simp only [push_cast, simprocAttr, -Int.reducePow]
    refine ⟨_, rfl, ⟨fun h => absurd h (by omega), fun ⟨j, hj, hne⟩ => absurd (hp j (by omega)) hne⟩⟩
theorem contains_ok (l : List (List Int)) (h0 : 0 < l.length) (hl : Sz l) :
    ACalls env 170 [.d (sll l), .func 171 [.pvar 0 0]] [.var [.d (sll l)]] fun r H' => r = .d (.bool (B (∃ j, j < l.length ∧ (l.getD j []).length ≠ (l.getD 0 []).length))) ∧ H' = [.var [.d (sll l)]] := by
  refine acalls_of envOk Tryz.func170 rfl (by kernel_rfl) (m := 7) rfl ?_
  simp only [push_cast, simprocAttr, -Int.reducePow]
  refine (indexL_ok l h0 hl).mono ?_
  rintro r H' ⟨⟨n, rfl, hn⟩, rfl⟩
  refine WK.now ?_
  simp only [push_cast, simprocAttr, -Int.reducePow]
  refine WK.now ?_
  simp only [push_cast, simprocAttr, -Int.reducePow]
  rw [B_dec]
  exact congrArg (fun p => AV.d (D.bool (B p))) (propext hn)
theorem add64_go {x y c : Int} (h : 0 ≤ x ∧ 0 ≤ y ∧ 0 ≤ c ∧ c ≤ 1) : add64A [.d (.int .u64 x), .d (.int .u64 y), .d (.int .u64 c)] =
    some (.d (.tup [.int .u64 ((x + y + c) % 18446744073709551616), .int .u64 ((x + y + c) / 18446744073709551616)])) := by simp [add64A, h]
def psum (f : Nat → Int) : Nat → Int
  | 0 => 0
  | n + 1 => psum f n + f n
def at2 (l : List (List Int)) (k j : Nat) : Int := (l.getD j []).getD k 0
def colS (l : List (List Int)) (k : Nat) : Int := psum (at2 l k) l.length
theorem psum_bound (f : Nat → Int) (hf : ∀ j, I64 (f j)) : ∀ n : Nat, -(9223372036854775808 * (n : Int)) ≤ psum f n ∧ psum f n ≤ 9223372036854775808 * (n : Int)
  | 0 => by simp [psum]
  | n + 1 => by
    have := psum_bound f hf n
    have h := hf n
    unfold I64 at h
    simp only [psum]
    omega
def InRs (l : List (List Int)) : Prop := ∀ j, InR (l.getD j [])
theorem sum_ok (l : List (List Int)) (k : Nat) (hl : Sz l) (rl : InRs l) (hk : ∀ j, j < l.length → k < (l.getD j []).length) :
    PCall env 172 [sll l, .int .i64 (k : Nat)] (.tup [.int .i64 (IntKind.wrap .i64 (colS l k)), .bool (B (I64 (colS l k)))]) := by
  refine acalls_of envOk Tryz.func172 rfl (by kernel_rfl) (m := 47) rfl ?_
  simp only [push_cast, simprocAttr, -Int.reducePow]
  refine ALoop.mk (fun m t H ds => ∃ (i : Nat) (hi lo : Int), m = l.length - i ∧ i ≤ l.length ∧ lo = psum (at2 l k) i % 18446744073709551616 ∧ hi = (psum (at2 l k) i / 18446744073709551616) % 18446744073709551616 ∧ t = [.d (.slice 1 (intss l)), .d (.int .i64 (k : Nat)), .dead, .dead, .d (.int .i64 0), .d (.bool false), .d (.int .u64 hi), .d (.int .u64 lo), .dead, .dead, .dead, .dead, .d (.slice 1 (intss l)), .d (.int .i64 l.length), .d (.int .i64 (i : Nat)), .dead, .dead, .dead, .dead, .dead, .dead, .dead, .dead, .dead, .dead, .dead, .dead, .dead, .dead, .dead, .dead, .dead, .dead, .dead, .dead, .dead, .dead, .dead, .dead, .dead, .dead, .dead, .dead, .dead, .dead, .dead, .dead, .dead, .dead] ∧ H = [] ∧ ds = []) l.length
    (WK.fgt (t' := [.d (.slice 1 (intss l)), .d (.int .i64 (k : Nat)), .dead, .dead, .d (.int .i64 0), .d (.bool false), .d (.int .u64 0), .d (.int .u64 0), .dead, .dead, .dead, .dead, .d (.slice 1 (intss l)), .d (.int .i64 l.length), .d (.int .i64 (0 : Nat)), .dead, .dead, .dead, .dead, .dead, .dead, .dead, .dead, .dead, .dead, .dead, .dead, .dead, .dead, .dead, .dead, .dead, .dead, .dead, .dead, .dead, .dead, .dead, .dead, .dead, .dead, .dead, .dead, .dead, .dead, .dead, .dead, .dead, .dead]) (by simp [fgt, ints_length, intss_length]) (WK.now ⟨0, 0, 0, by omega, by omega, by simp [psum], by simp [psum], rfl, rfl, rfl⟩)) ?_
  rintro m t H ds ⟨i, hi, lo, rfl, hil, hlo, hhi, rfl, rfl, rfl⟩
  simp only [push_cast, simprocAttr, -Int.reducePow]
  refine Kbr.mk (fun c => ?_) (fun c => ?_)
  · have c2 : i < l.length := by simpa using c
    have hki := hk i c2
    have hv : I64 (at2 l k i) := rl i k
    obtain ⟨lo1, c1, h1, e1, e2⟩ : ∃ lo1 c1 : Int, add64A [.d (.int .u64 lo), .d (.int .u64 (IntKind.wrap .u64 (at2 l k i))), .d (.int .u64 0)] = some (.d (.tup [.int .u64 lo1, .int .u64 c1])) ∧ lo1 = (lo + at2 l k i % 18446744073709551616) % 18446744073709551616 ∧ c1 = (lo + at2 l k i % 18446744073709551616) / 18446744073709551616 :=
      ⟨_, _, add64_go (by rw [wrapu_eq]; omega), by rw [wrapu_eq]; omega, by rw [wrapu_eq]; omega⟩
    obtain ⟨hi1, c3, h2, e3, e4⟩ : ∃ hi1 c3 : Int, add64A [.d (.int .u64 hi), .d (.int .u64 (IntKind.wrap .u64 ((at2 l k i).fdiv (2 ^ 63)))), .d (.int .u64 c1)] = some (.d (.tup [.int .u64 hi1, .int .u64 c3])) ∧ hi1 = (hi + (at2 l k i / 9223372036854775808) % 18446744073709551616 + c1) % 18446744073709551616 ∧ c3 = c3 :=
      ⟨_, _, add64_go (by rw [wrapu_eq]; omega), by rw [fdiv63, wrapu_eq], rfl⟩
    have e0 : (l.getD i []).getD k 0 = at2 l k i := rfl
    simp only [c2, hki, cel_intss, cel_ints, e0, h1, h2, succ64 c2 (Nat.le_trans hl (by omega)), push_cast, simprocAttr, -Int.reducePow]
    unfold I64 at hv
    refine ⟨l.length - (i + 1), by omega, WK.fgt (t' := [.d (.slice 1 (intss l)), .d (.int .i64 (k : Nat)), .dead, .dead, .d (.int .i64 0), .d (.bool false), .d (.int .u64 hi1), .d (.int .u64 lo1), .dead, .dead, .dead, .dead, .d (.slice 1 (intss l)), .d (.int .i64 l.length), .d (.int .i64 (i + 1 : Nat)), .dead, .dead, .dead, .dead, .dead, .dead, .dead, .dead, .dead, .dead, .dead, .dead, .dead, .dead, .dead, .dead, .dead, .dead, .dead, .dead, .dead, .dead, .dead, .dead, .dead, .dead, .dead, .dead, .dead, .dead, .dead, .dead, .dead, .dead]) (by simp [fgt, ints_length, intss_length]) (WK.now ⟨i + 1, hi1, lo1, rfl, by omega, ?_, ?_, rfl, rfl, rfl⟩)⟩
    · simp only [psum]
      omega
    · simp only [psum]
      omega
  · have c2 : ¬ i < l.length := by simpa using c
    have hil' : i = l.length := by omega
    subst hil'
    simp only [push_cast, simprocAttr, -Int.reducePow]
    refine WK.now ?_
    simp only [push_cast, simprocAttr, -Int.reducePow]
    have hb := psum_bound (at2 l k) (fun j => rl j k) l.length
    unfold Sz at hl
    have e1 : IntKind.wrap .i64 lo = IntKind.wrap .i64 (colS l k) := by
      rw [wrap_eq, wrap_eq, hlo]; unfold colS; omega
    rw [e1]
    have e2 : (hi == IntKind.wrap .u64 ((IntKind.wrap .i64 (colS l k)).fdiv (2 ^ 63))) = B (I64 (colS l k)) := by
      rw [Bool.eq_iff_iff, B_iff, beq_iff_eq, fdiv63, wrapu_eq, wrap_eq, hhi]
      unfold colS I64
      omega
    rw [e2]
def AddP (l : List (List Int)) : Prop := 0 < l.length ∧ (∀ j, j < l.length → (l.getD j []).length = (l.getD 0 []).length) ∧ ∀ k, k < (l.getD 0 []).length → I64 (colS l k)
noncomputable def addS (l : List (List Int)) : Option (List Int) := bif B (AddP l) then some ((List.range (l.getD 0 []).length).map (colS l)) else none
theorem addS_no {l : List (List Int)} (h : ¬ AddP l) : resS (addS l) = .tup [.nils, .bool false] := by rw [addS, B_false h]; rfl
theorem addS_yes {l : List (List Int)} (h : AddP l) : resS (addS l) = .tup [sl ((List.range (l.getD 0 []).length).map (colS l)), .bool true] := by rw [addS, B_true h]; rfl
theorem vadd_ok (l : List (List Int)) (hl : Sz l) (hs : ∀ j, Sz (l.getD j [])) (rl : InRs l) : PCall env 154 [sll l] (resS (addS l)) := by
  refine acalls_of envOk Tryz.func154 rfl (by kernel_rfl) (m := 39) rfl ?_
  simp only [push_cast, simprocAttr, -Int.reducePow]
  refine Kbr.mk (fun c => ?_) (fun c => ?_)
  · have hn : l.length ≠ 0 := by simpa using c
    have h0 : 0 < l.length := by omega
    have hz : (0 : Int) < (l.length : Int) := by omega
    simp only [push_cast, simprocAttr, -Int.reducePow]
    refine (contains_ok l h0 hl).thus (WK.now ?_)
    simp only [push_cast, simprocAttr, -Int.reducePow]
    refine Kbr.mk (fun c => ?_) (fun c => ?_)
    · obtain ⟨j, hj, hne⟩ := B_iff.1 c
      simp only [push_cast, simprocAttr, -Int.reducePow]
      refine WK.now ?_
      simp only [push_cast, simprocAttr, -Int.reducePow]
      rw [addS_no (fun h => hne (h.2.1 j hj))]
    · have hu : ∀ j, j < l.length → (l.getD j []).length = (l.getD 0 []).length := fun j hj => by
        have := B_not.1 c
        exact Classical.byContradiction fun h => this ⟨j, hj, h⟩
      have hs0 := hs 0
      simp only [hz, h0, cel_intss, push_cast, simprocAttr, -Int.reducePow]
      refine ⟨room_of (Nat.le_trans hs0 (by omega)) (by omega), ?_⟩
      rw [rep_ints]
      refine ALoop.mk (fun k t H ds => ∃ (i : Nat) (out : List Int), k = (l.getD 0 []).length - i ∧ i ≤ (l.getD 0 []).length ∧ out.length = (l.getD 0 []).length ∧ (∀ j, j < i → I64 (colS l j) ∧ out.getD j 0 = colS l j) ∧ t = [.d (.slice 1 (intss l)), .pvar 0 0, .d .nils, .d (.bool false), .sfull 1, .dead, .dead, .dead, .dead, .dead, .dead, .dead, .dead, .dead, .dead, .dead, .dead, .dead, .dead, .dead, .dead, .dead, .d (.int .i64 (l.getD 0 []).length), .d (.int .i64 (i : Nat)), .dead, .dead, .dead, .dead, .dead, .dead, .dead, .dead, .dead, .dead, .dead, .dead, .dead, .dead, .dead, .dead] ∧ H = [.var [.d (.slice 1 (intss l))], .arr 2 1 (ints out)] ∧ ds = []) (l.getD 0 []).length
        (WK.fgt (t' := [.d (.slice 1 (intss l)), .pvar 0 0, .d .nils, .d (.bool false), .sfull 1, .dead, .dead, .dead, .dead, .dead, .dead, .dead, .dead, .dead, .dead, .dead, .dead, .dead, .dead, .dead, .dead, .dead, .d (.int .i64 (l.getD 0 []).length), .d (.int .i64 (0 : Nat)), .dead, .dead, .dead, .dead, .dead, .dead, .dead, .dead, .dead, .dead, .dead, .dead, .dead, .dead, .dead, .dead]) (by simp [fgt, ints_length, intss_length]) (WK.now ⟨0, _, by omega, by omega, by simp, by omega, rfl, rfl, rfl⟩)) ?_
      rintro k t H ds ⟨i, out, rfl, hi, ho, hp, rfl, rfl, rfl⟩
      simp only [push_cast, simprocAttr, -Int.reducePow]
      refine Kbr.mk (fun c => ?_) (fun c => ?_)
      · have c2 : i < (l.getD 0 []).length := by simpa using c
        simp only [push_cast, simprocAttr, -Int.reducePow]
        refine (sum_ok l i hl rl (fun j hj => by rw [hu j hj]; exact c2)).go (by first | exact ⟨.inl rfl, trivial⟩ | exact ⟨.inl rfl, .inl rfl, trivial⟩ | exact ⟨.inl rfl, .inl rfl, .inl rfl, trivial⟩ | simp [argsOk, argOk, sl, sll]) (WK.now ?_)
        simp only [push_cast, simprocAttr, -Int.reducePow]
        refine Kbr.mk (fun c => ?_) (fun c => ?_)
        · have c4 : ¬ I64 (colS l i) := B_not.1 (by simpa using c)
          simp only [push_cast, simprocAttr, -Int.reducePow]
          refine WK.now ?_
          simp only [push_cast, simprocAttr, -Int.reducePow]
          rw [addS_no (fun h => c4 (h.2.2 i c2))]
        · have c4 : I64 (colS l i) := B_iff.1 (by simpa using c)
          have e4 := wrapi c4.1 c4.2
          simp only [e4, ho, c2, upd_ints, succ64 c2 (Nat.le_trans hs0 (by omega)), push_cast, simprocAttr, -Int.reducePow]
          refine ⟨(l.getD 0 []).length - (i + 1), by omega, WK.fgt (t' := [.d (.slice 1 (intss l)), .pvar 0 0, .d .nils, .d (.bool false), .sfull 1, .dead, .dead, .dead, .dead, .dead, .dead, .dead, .dead, .dead, .dead, .dead, .dead, .dead, .dead, .dead, .dead, .dead, .d (.int .i64 (l.getD 0 []).length), .d (.int .i64 (i + 1 : Nat)), .dead, .dead, .dead, .dead, .dead, .dead, .dead, .dead, .dead, .dead, .dead, .dead, .dead, .dead, .dead, .dead]) (by simp [fgt, ints_length, intss_length]) (WK.now ⟨i + 1, _, rfl, by omega, by simp [ho], fun j hj => ?_, rfl, rfl, rfl⟩)⟩
          rcases Nat.lt_succ_iff_lt_or_eq.1 hj with hj | rfl
          · have hne : i ≠ j := by omega
            simpa [List.getD_eq_getElem?_getD, List.getElem?_set_ne hne] using hp j hj
          · refine ⟨c4, ?_⟩
            rw [List.getD_eq_getElem?_getD, List.getElem?_set_self (by omega)]; rfl
      · have c2 : ¬ i < (l.getD 0 []).length := by simpa using c
        simp only [push_cast, simprocAttr, -Int.reducePow]
        refine WK.frz 1 rfl (WK.now ?_)
        simp only [push_cast, simprocAttr, -Int.reducePow]
        have e : out = (List.range (l.getD 0 []).length).map (colS l) := List.ext_getElem (by simp [ho]) fun j h1 h2 => by
          have := (hp j (by omega)).2
          simpa [List.getD_eq_getElem?_getD, h1] using this
        rw [addS_yes ⟨h0, hu, fun k hk => (hp k (by omega)).1⟩, e]
        rfl
  · have hn : l.length = 0 := by simpa using c
    simp only [push_cast, simprocAttr, -Int.reducePow]
    refine WK.now ?_
    simp only [push_cast, simprocAttr, -Int.reducePow]
    rw [addS_no (fun h => by have := h.1; omega)]
end Go.Proofs.YtcmhdpbmcgglmaaGreatDoor
end
section
set_option autoImplicit false
set_option linter.unusedVariables false
set_option linter.unusedSimpArgs false
namespace Go.Proofs.YtcmhdpbmcgglmaaGreatDoor
open Go.Abs
def num (h l : Int) : D := .agg [.int .i64 h, .int .i64 l]
theorem of_ok (n : Int) : PCall env 111 [.int .i64 n] (num (n / 4294967296) (n % 4294967296)) := by
  refine acalls_of envOk Tryz.func111 rfl (by kernel_rfl) (m := 7) rfl ?_
  simp only [push_cast, simprocAttr, -Int.reducePow]
  refine WK.now ?_
  simp only [push_cast, simprocAttr, -Int.reducePow]
  simp only [num, and32, fdiv32]
theorem plus_ok (h l h' l' : Int) (b1 : I64 (h + h')) (b2 : I64 (l + l')) (b3 : I64 (h + h' + (l + l') / 4294967296)) :
    PCall env 112 [num h l, num h' l'] (num (h + h' + (l + l') / 4294967296) ((l + l') % 4294967296)) := by
  refine acalls_of envOk Tryz.func112 rfl (by kernel_rfl) (m := 20) rfl ?_
  simp only [num, push_cast, simprocAttr, -Int.reducePow]
  refine WK.now ?_
  simp only [push_cast, simprocAttr, -Int.reducePow]
  simp only [num, and32, fdiv32]
  rw [wrapi b1.1 b1.2, wrapi b2.1 b2.2, wrapi b3.1 b3.2]
def ifOk (c : Bool) (n : Int) : D := .tup [.int .i64 (if c then n else 0), .bool c]
theorem value_ok (h l : Int) (b1 : 0 ≤ l) (b2 : l < 4294967296) :
    PCall env 113 [num h l] (ifOk (decide (-2147483648 ≤ h ∧ h ≤ 2147483647)) (h * 4294967296 + l)) := by
  refine acalls_of envOk Tryz.func113 rfl (by kernel_rfl) (m := 17) rfl ?_
  simp only [num, push_cast, simprocAttr, -Int.reducePow]
  refine Kbr.mk (fun c => ?_) (fun c => ?_)
  · have c1 : ¬ h < -2147483648 := by simpa using c
    simp only [push_cast, simprocAttr, -Int.reducePow]
    refine Kbr.mk (fun c => ?_) (fun c => ?_)
    · have c2 : h > 2147483647 := by simpa using c
      simp only [push_cast, simprocAttr, -Int.reducePow]
      refine WK.now ?_
      simp only [push_cast, simprocAttr, -Int.reducePow]
      have : decide (-2147483648 ≤ h ∧ h ≤ 2147483647) = false := by simp; omega
      simp [ifOk, this]
    · have c2 : ¬ h > 2147483647 := by simpa using c
      simp only [push_cast, simprocAttr, -Int.reducePow]
      refine WK.now ?_
      simp only [push_cast, simprocAttr, -Int.reducePow]
      have : decide (-2147483648 ≤ h ∧ h ≤ 2147483647) = true := by simp; omega
      simp only [ifOk, this]
      rw [wrapi (n := h * 4294967296) (by omega) (by omega), wrapi (by omega) (by omega)]
      simp
  · have c1 : h < -2147483648 := by simpa using c
    simp only [push_cast, simprocAttr, -Int.reducePow]
    refine WK.now ?_
    simp only [push_cast, simprocAttr, -Int.reducePow]
    have : decide (-2147483648 ≤ h ∧ h ≤ 2147483647) = false := by simp; omega
    simp [ifOk, this]
theorem rwrong_ok (a : List Int) (d : Int) (ha : a.length ≤ 9223372036854775807) : PCall env 38 [sl a, .int .i64 d] (.int .i64 (wrongS a d)) := by
  refine acalls_of envOk Tryz.func38 rfl (by kernel_rfl) (m := 36) rfl ?_
  simp only [push_cast, simprocAttr, -Int.reducePow]
  refine ALoop.mk (fun k t H ds => ∃ i : Nat, k = a.length - i ∧ i ≤ a.length ∧ (∀ j, j < i → wrongP (a.getD j 0) = false) ∧ t = [.d (.slice 1 (ints a)), .d (.int .i64 d), .dead, .dead, .d (.int .i64 0), .d (.int .i64 (i : Nat)), .dead, .dead, .dead, .dead, .dead, .dead, .dead, .dead, .dead, .dead, .dead, .dead, .dead, .dead, .dead, .dead, .dead, .dead, .dead, .dead, .dead, .dead, .dead, .dead, .dead, .dead, .dead, .dead, .dead, .dead, .dead, .dead] ∧ H = [] ∧ ds = []) a.length
    (WK.fgt (t' := [.d (.slice 1 (ints a)), .d (.int .i64 d), .dead, .dead, .d (.int .i64 0), .d (.int .i64 (0 : Nat)), .dead, .dead, .dead, .dead, .dead, .dead, .dead, .dead, .dead, .dead, .dead, .dead, .dead, .dead, .dead, .dead, .dead, .dead, .dead, .dead, .dead, .dead, .dead, .dead, .dead, .dead, .dead, .dead, .dead, .dead, .dead, .dead]) (by simp [fgt, ints_length, intss_length]) (WK.now ⟨0, by omega, by omega, by omega, rfl, rfl, rfl⟩)) ?_
  rintro k t H ds ⟨i, rfl, hi, hp, rfl, rfl, rfl⟩
  simp only [push_cast, simprocAttr, -Int.reducePow]
  refine Kbr.mk (fun c => ?_) (fun c => ?_)
  · have c2 : i < a.length := by simpa using c
    simp only [c2, cel_ints, push_cast, simprocAttr, -Int.reducePow]
    have found : wrongP (a.getD i 0) = true → (i : Int) = wrongS a d := fun hw => by
      have e : a.findIdx wrongP = i := (List.findIdx_eq c2).2 ⟨by simpa [List.getD_eq_getElem?_getD, c2] using hw, fun j hj => by simpa [List.getD_eq_getElem?_getD, show j < a.length by omega] using hp j hj⟩
      simp [wrongS, idx, e, c2]
    refine Kbr.mk (fun c => ?_) (fun c => ?_)
    · have c3 : ¬ a.getD i 0 < 0 := by simpa using c
      simp only [c2, cel_ints, push_cast, simprocAttr, -Int.reducePow]
      refine Kbr.mk (fun c => ?_) (fun c => ?_)
      · have c4 : a.getD i 0 > 1099511627776 := by simpa using c
        simp only [push_cast, simprocAttr, -Int.reducePow]
        refine WK.now ?_
        simp only [push_cast, simprocAttr, -Int.reducePow]
        rw [found (by simp [wrongP]; right; simpa using c4)]
      · have c4 : ¬ a.getD i 0 > 1099511627776 := by simpa using c
        simp only [succW c2 ha, push_cast, simprocAttr, -Int.reducePow]
        refine ⟨a.length - (i + 1), by omega, WK.fgt (t' := [.d (.slice 1 (ints a)), .d (.int .i64 d), .dead, .dead, .d (.int .i64 0), .d (.int .i64 (i + 1 : Nat)), .dead, .dead, .dead, .dead, .dead, .dead, .dead, .dead, .dead, .dead, .dead, .dead, .dead, .dead, .dead, .dead, .dead, .dead, .dead, .dead, .dead, .dead, .dead, .dead, .dead, .dead, .dead, .dead, .dead, .dead, .dead, .dead]) (by simp [fgt, ints_length, intss_length]) (WK.now ⟨i + 1, rfl, by omega, fun j hj => ?_, rfl, rfl, rfl⟩)⟩
        rcases Nat.lt_succ_iff_lt_or_eq.1 hj with hj | rfl
        · exact hp j hj
        · unfold wrongP; rw [decide_eq_false (by omega)]
    · have c3 : a.getD i 0 < 0 := by simpa using c
      simp only [push_cast, simprocAttr, -Int.reducePow]
      refine WK.now ?_
      simp only [push_cast, simprocAttr, -Int.reducePow]
      rw [found (by unfold wrongP; rw [decide_eq_true (by omega)])]
  · have c2 : ¬ i < a.length := by simpa using c
    simp only [push_cast, simprocAttr, -Int.reducePow]
    have e : ¬ a.findIdx wrongP < a.length := by
      rw [List.findIdx_lt_length]
      rintro ⟨x, hx, hpx⟩
      obtain ⟨j, hj, rfl⟩ := List.getElem_of_mem hx
      have := hp j (by omega)
      simp [List.getD_eq_getElem?_getD, hj, hpx] at this
    have e' : wrongS a d = if (a.length : Int) = d then -1 else max (min d a.length) 0 := by simp [wrongS, idx, e]
    rw [e']
    refine Kbr.mk (fun c => ?_) (fun c => ?_)
    · have c3 : (a.length : Int) = d := by simpa using c
      simp only [push_cast, simprocAttr, -Int.reducePow]
      refine WK.now ?_
      simp only [push_cast, simprocAttr, -Int.reducePow]
      rw [if_pos c3]
    · have c3 : ¬ (a.length : Int) = d := by simpa using c
      rw [if_neg c3]
      simp only [push_cast, simprocAttr, -Int.reducePow]
      refine Kbr.mk (fun c => ?_) (fun c => ?_)
      · have c4 : d < 0 := by simpa using c
        simp only [push_cast, simprocAttr, -Int.reducePow]
        refine WK.now ?_
        simp only [push_cast, simprocAttr, -Int.reducePow]
        rw [show max (min d a.length) 0 = 0 by omega]
      · have c4 : ¬ d < 0 := by simpa using c
        simp only [push_cast, simprocAttr, -Int.reducePow]
        refine Kbr.mk (fun c => ?_) (fun c => ?_)
        · have c5 : d < a.length := by simpa using c
          simp only [push_cast, simprocAttr, -Int.reducePow]
          refine WK.now ?_
          simp only [push_cast, simprocAttr, -Int.reducePow]
          rw [show max (min d a.length) 0 = d by omega]
        · have c5 : ¬ d < a.length := by simpa using c
          simp only [push_cast, simprocAttr, -Int.reducePow]
          refine WK.now ?_
          simp only [push_cast, simprocAttr, -Int.reducePow]
          rw [show max (min d a.length) 0 = a.length by omega]
theorem radd_ok (l : List (List Int)) (hl : Sz l) (hs : ∀ j, Sz (l.getD j [])) (rl : InRs l) : PCall env 72 [sll l] (resS (addS l)) := by
  refine acalls_of envOk Tryz.func72 rfl (by kernel_rfl) (m := 66) rfl ?_
  simp only [push_cast, simprocAttr, -Int.reducePow]
  refine Kbr.mk (fun c => ?_) (fun c => ?_)
  · have hn : l.length = 0 := by simpa using c
    simp only [push_cast, simprocAttr, -Int.reducePow]
    refine WK.now ?_
    simp only [push_cast, simprocAttr, -Int.reducePow]
    rw [addS_no (fun h => by have := h.1; omega)]
  · have hn : l.length ≠ 0 := by simpa using c
    have h0 : 0 < l.length := by omega
    have hz : (0 : Int) < (l.length : Int) := by omega
    have hs0 := hs 0
    simp only [push_cast, simprocAttr, -Int.reducePow]
    refine ALoop.mk (fun k t H ds => ∃ i : Nat, k = l.length - i ∧ i ≤ l.length ∧ (∀ j, j < i → (l.getD j []).length = (l.getD 0 []).length) ∧ t = [.d (.slice 1 (intss l)), .dead, .d .nils, .d (.bool false), .d (.int .i64 (i : Nat)), .dead, .dead, .dead, .dead, .dead, .dead, .dead, .dead, .dead, .dead, .dead, .dead, .dead, .dead, .dead, .dead, .dead, .dead, .dead, .dead, .dead, .dead, .dead, .dead, .dead, .dead, .dead, .dead, .dead, .dead, .dead, .dead, .dead, .dead, .dead, .dead, .dead, .dead, .dead, .dead, .dead, .dead, .dead, .dead, .dead, .dead, .dead, .dead, .dead, .dead, .dead, .dead, .dead, .dead, .dead, .dead, .dead, .dead, .dead, .dead, .dead, .dead] ∧ H = [] ∧ ds = []) l.length
      (WK.fgt (t' := [.d (.slice 1 (intss l)), .dead, .d .nils, .d (.bool false), .d (.int .i64 (0 : Nat)), .dead, .dead, .dead, .dead, .dead, .dead, .dead, .dead, .dead, .dead, .dead, .dead, .dead, .dead, .dead, .dead, .dead, .dead, .dead, .dead, .dead, .dead, .dead, .dead, .dead, .dead, .dead, .dead, .dead, .dead, .dead, .dead, .dead, .dead, .dead, .dead, .dead, .dead, .dead, .dead, .dead, .dead, .dead, .dead, .dead, .dead, .dead, .dead, .dead, .dead, .dead, .dead, .dead, .dead, .dead, .dead, .dead, .dead, .dead, .dead, .dead, .dead]) (by simp [fgt, ints_length, intss_length]) (WK.now ⟨0, by omega, by omega, by omega, rfl, rfl, rfl⟩)) ?_
    rintro k t H ds ⟨i, rfl, hi, hu, rfl, rfl, rfl⟩
    simp only [push_cast, simprocAttr, -Int.reducePow]
    refine Kbr.mk (fun c => ?_) (fun c => ?_)
    · have c2 : i < l.length := by simpa using c
      simp only [c2, h0, hz, cel_intss, push_cast, simprocAttr, -Int.reducePow]
      refine DRegL.one (by unfold DrawOK; kernel_rfl) ?_
      simp only [c2, h0, hz, cel_intss, push_cast, simprocAttr, -Int.reducePow]
      refine Kbr.mk (fun c => ?_) (fun c => ?_)
      · have c3 : (l.getD i []).length ≠ (l.getD 0 []).length := by rw [bne_nat] at c; exact B_iff.1 c
        simp only [push_cast, simprocAttr, -Int.reducePow]
        refine WK.now ?_
        simp only [push_cast, simprocAttr, -Int.reducePow]
        rw [addS_no (fun h => c3 (h.2.1 i c2))]
      · have c3 : (l.getD i []).length = (l.getD 0 []).length := by rw [bne_nat] at c; have := B_not.1 c; omega
        simp only [succ64 c2 (Nat.le_trans hl (by omega)), push_cast, simprocAttr, -Int.reducePow]
        refine ⟨l.length - (i + 1), by omega, WK.fgt (t' := [.d (.slice 1 (intss l)), .dead, .d .nils, .d (.bool false), .d (.int .i64 (i + 1 : Nat)), .dead, .dead, .dead, .dead, .dead, .dead, .dead, .dead, .dead, .dead, .dead, .dead, .dead, .dead, .dead, .dead, .dead, .dead, .dead, .dead, .dead, .dead, .dead, .dead, .dead, .dead, .dead, .dead, .dead, .dead, .dead, .dead, .dead, .dead, .dead, .dead, .dead, .dead, .dead, .dead, .dead, .dead, .dead, .dead, .dead, .dead, .dead, .dead, .dead, .dead, .dead, .dead, .dead, .dead, .dead, .dead, .dead, .dead, .dead, .dead, .dead, .dead]) (by simp [fgt, ints_length, intss_length]) (WK.now ⟨i + 1, rfl, by omega, fun j hj => ?_, rfl, rfl, rfl⟩)⟩
        rcases Nat.lt_succ_iff_lt_or_eq.1 hj with hj | rfl
        · exact hu j hj
        · exact c3
    · have c2 : ¬ i < l.length := by simpa using c
      have hil : i = l.length := by omega
      subst hil
      simp only [push_cast, simprocAttr, -Int.reducePow]
      refine ALoop.mk (fun m t H ds => ∃ (k : Nat) (out : List Int), m = (l.getD 0 []).length - k ∧ k ≤ (l.getD 0 []).length ∧ out.length = k ∧ (∀ j, j < k → I64 (colS l j) ∧ out.getD j 0 = colS l j) ∧ t = [.d (.slice 1 (intss l)), .dead, .d .nils, .d (.bool false), .dead, .sfull 0, .d (.int .i64 (k : Nat)), .dead, .dead, .dead, .dead, .dead, .dead, .dead, .dead, .dead, .dead, .dead, .dead, .dead, .dead, .dead, .dead, .dead, .dead, .dead, .dead, .dead, .dead, .dead, .dead, .dead, .dead, .dead, .dead, .dead, .dead, .dead, .dead, .dead, .dead, .dead, .dead, .dead, .dead, .dead, .dead, .dead, .dead, .dead, .dead, .dead, .dead, .dead, .dead, .dead, .dead, .dead, .dead, .dead, .dead, .dead, .dead, .dead, .dead, .dead, .dead] ∧ H = [.arr 2 1 (ints out)] ∧ ds = []) (l.getD 0 []).length
        (WK.nil 5 2 1 rfl (WK.fgt (t' := [.d (.slice 1 (intss l)), .dead, .d .nils, .d (.bool false), .dead, .sfull 0, .d (.int .i64 (0 : Nat)), .dead, .dead, .dead, .dead, .dead, .dead, .dead, .dead, .dead, .dead, .dead, .dead, .dead, .dead, .dead, .dead, .dead, .dead, .dead, .dead, .dead, .dead, .dead, .dead, .dead, .dead, .dead, .dead, .dead, .dead, .dead, .dead, .dead, .dead, .dead, .dead, .dead, .dead, .dead, .dead, .dead, .dead, .dead, .dead, .dead, .dead, .dead, .dead, .dead, .dead, .dead, .dead, .dead, .dead, .dead, .dead, .dead, .dead, .dead, .dead]) (by simp [fgt, ints_length, intss_length]) (WK.now ⟨0, [], by omega, by omega, rfl, by omega, rfl, rfl, rfl⟩))) ?_
      rintro m t H ds ⟨k, out, rfl, hk, ho, hp, rfl, rfl, rfl⟩
      simp only [h0, hz, cel_intss, push_cast, simprocAttr, -Int.reducePow]
      refine Kbr.mk (fun c => ?_) (fun c => ?_)
      · have c2 : k < (l.getD 0 []).length := by simpa using c
        simp only [push_cast, simprocAttr, -Int.reducePow]
        refine (show PCall env 111 [.int .i64 0] (num 0 0) from of_ok 0).go (by first | exact ⟨.inl rfl, trivial⟩ | exact ⟨.inl rfl, .inl rfl, trivial⟩ | exact ⟨.inl rfl, .inl rfl, .inl rfl, trivial⟩ | simp [argsOk, argOk, sl, sll]) (WK.now ?_)
        simp only [num, push_cast, simprocAttr, -Int.reducePow]
        refine ALoop.mk (fun m t H ds => ∃ i : Nat, m = l.length - i ∧ i ≤ l.length ∧ t = [.d (.slice 1 (intss l)), .dead, .d .nils, .d (.bool false), .dead, .sfull 0, .d (.int .i64 (k : Nat)), .pvar 1 0, .d (.int .i64 (i : Nat)), .dead, .dead, .dead, .dead, .dead, .dead, .dead, .dead, .dead, .dead, .dead, .dead, .dead, .dead, .dead, .dead, .dead, .dead, .dead, .dead, .dead, .dead, .dead, .dead, .dead, .dead, .dead, .dead, .dead, .dead, .dead, .dead, .dead, .dead, .dead, .dead, .dead, .dead, .dead, .dead, .dead, .dead, .dead, .dead, .dead, .dead, .dead, .dead, .dead, .dead, .dead, .dead, .dead, .dead, .dead, .dead, .dead, .dead] ∧ H = [.arr 2 1 (ints out), .var [.d (.int .i64 (psum (at2 l k) i / 4294967296)), .d (.int .i64 (psum (at2 l k) i % 4294967296))]] ∧ ds = []) l.length
          (WK.fgt (t' := [.d (.slice 1 (intss l)), .dead, .d .nils, .d (.bool false), .dead, .sfull 0, .d (.int .i64 (k : Nat)), .pvar 1 0, .d (.int .i64 (0 : Nat)), .dead, .dead, .dead, .dead, .dead, .dead, .dead, .dead, .dead, .dead, .dead, .dead, .dead, .dead, .dead, .dead, .dead, .dead, .dead, .dead, .dead, .dead, .dead, .dead, .dead, .dead, .dead, .dead, .dead, .dead, .dead, .dead, .dead, .dead, .dead, .dead, .dead, .dead, .dead, .dead, .dead, .dead, .dead, .dead, .dead, .dead, .dead, .dead, .dead, .dead, .dead, .dead, .dead, .dead, .dead, .dead, .dead, .dead]) (by simp [fgt, ints_length, intss_length]) (WK.now ⟨0, by omega, by omega, rfl, rfl, rfl⟩)) ?_
        rintro m t H ds ⟨i, rfl, hi, rfl, rfl, rfl⟩
        simp only [push_cast, simprocAttr, -Int.reducePow]
        refine Kbr.mk (fun c => ?_) (fun c => ?_)
        · have c3 : i < l.length := by simpa using c
          have c4 : k < (l.getD i []).length := by rw [hu i c3]; exact c2
          have hb := psum_bound (at2 l k) (fun j => rl j k) i
          have hv : I64 (at2 l k i) := rl i k
          have e0 : (l.getD i []).getD k 0 = at2 l k i := rfl
          unfold Sz at hl
          unfold I64 at hv
          simp only [c3, c4, cel_intss, cel_ints, e0, push_cast, simprocAttr, -Int.reducePow]
          refine DRegL.one (by unfold DrawOK; kernel_rfl) ?_
          simp only [c3, c4, cel_intss, cel_ints, e0, push_cast, simprocAttr, -Int.reducePow]
          refine (of_ok (at2 l k i)).quiet' (by first | exact ⟨.inl rfl, trivial⟩ | exact ⟨.inl rfl, .inl rfl, trivial⟩ | exact ⟨.inl rfl, .inl rfl, .inl rfl, trivial⟩ | simp [argsOk, argOk, sl, sll]) ?_
          simp only [num, push_cast, simprocAttr, -Int.reducePow]
          refine (plus_ok (psum (at2 l k) i / 4294967296) (psum (at2 l k) i % 4294967296) (at2 l k i / 4294967296) (at2 l k i % 4294967296) (by unfold I64; omega) (by unfold I64; omega) (by unfold I64; omega)).quiet' (by simp [argsOk, argOk, num]) ?_
          simp only [num, succ64 c3 (Nat.le_trans hl (by omega)), push_cast, simprocAttr, -Int.reducePow]
          have e1 : psum (at2 l k) i / 4294967296 + at2 l k i / 4294967296 + (psum (at2 l k) i % 4294967296 + at2 l k i % 4294967296) / 4294967296 = psum (at2 l k) (i + 1) / 4294967296 := by simp only [psum]; omega
          have e2 : (psum (at2 l k) i % 4294967296 + at2 l k i % 4294967296) % 4294967296 = psum (at2 l k) (i + 1) % 4294967296 := by simp only [psum]; omega
          rw [e1, e2]
          exact ⟨l.length - (i + 1), by omega, WK.fgt (t' := [.d (.slice 1 (intss l)), .dead, .d .nils, .d (.bool false), .dead, .sfull 0, .d (.int .i64 (k : Nat)), .pvar 1 0, .d (.int .i64 (i + 1 : Nat)), .dead, .dead, .dead, .dead, .dead, .dead, .dead, .dead, .dead, .dead, .dead, .dead, .dead, .dead, .dead, .dead, .dead, .dead, .dead, .dead, .dead, .dead, .dead, .dead, .dead, .dead, .dead, .dead, .dead, .dead, .dead, .dead, .dead, .dead, .dead, .dead, .dead, .dead, .dead, .dead, .dead, .dead, .dead, .dead, .dead, .dead, .dead, .dead, .dead, .dead, .dead, .dead, .dead, .dead, .dead, .dead, .dead, .dead]) (by simp [fgt, ints_length, intss_length]) (WK.now ⟨i + 1, rfl, by omega, rfl, rfl, rfl⟩)⟩
        · have c3 : ¬ i < l.length := by simpa using c
          have hil : i = l.length := by omega
          subst hil
          have hb := psum_bound (at2 l k) (fun j => rl j k) l.length
          unfold Sz at hl hs0
          simp only [push_cast, simprocAttr, -Int.reducePow]
          refine (value_ok (psum (at2 l k) l.length / 4294967296) (psum (at2 l k) l.length % 4294967296) (by omega) (by omega)).go (by simp [argsOk, argOk, num]) (WK.now ?_)
          have e1 : psum (at2 l k) l.length / 4294967296 * 4294967296 + psum (at2 l k) l.length % 4294967296 = colS l k := by unfold colS; omega
          have e2 : decide (-2147483648 ≤ psum (at2 l k) l.length / 4294967296 ∧ psum (at2 l k) l.length / 4294967296 ≤ 2147483647) = B (I64 (colS l k)) := by
            rw [B_dec]
            congr 1
            unfold I64 colS
            apply propext
            omega
          rw [e1, e2]
          simp only [ifOk, push_cast, simprocAttr, -Int.reducePow]
          refine Kbr.mk (fun c => ?_) (fun c => ?_)
          · have c4 : ¬ I64 (colS l k) := B_not.1 (by simpa using c)
            simp only [push_cast, simprocAttr, -Int.reducePow]
            refine WK.now ?_
            simp only [push_cast, simprocAttr, -Int.reducePow]
            rw [addS_no (fun h => c4 (h.2.2 k c2))]
          · have c4 : I64 (colS l k) := B_iff.1 (by simpa using c)
            have c4' := B_true c4
            simp only [c4', succ64 c2 (Nat.le_trans hs0 (by omega)), push_cast, simprocAttr, -Int.reducePow]
            refine ⟨room_of (by omega) (by omega), (l.getD 0 []).length - (k + 1), by omega, WK.pick [2] (t' := [.d (.slice 1 (intss l)), .dead, .d .nils, .d (.bool false), .dead, .sfull 0, .d (.int .i64 (k + 1 : Nat)), .dead, .dead, .dead, .dead, .dead, .dead, .dead, .dead, .dead, .dead, .dead, .dead, .dead, .dead, .dead, .dead, .dead, .dead, .dead, .dead, .dead, .dead, .dead, .dead, .dead, .dead, .dead, .dead, .dead, .dead, .dead, .dead, .dead, .dead, .dead, .dead, .dead, .dead, .dead, .dead, .dead, .dead, .dead, .dead, .dead, .dead, .dead, .dead, .dead, .dead, .dead, .dead, .dead, .dead, .dead, .dead, .dead, .dead, .dead, .dead]) (H' := [.arr 2 1 (ints (out ++ [colS l k]))]) (by simp [ints, intss, sbl, ren_none, ren_var, ren_arr, ren_map, ren_mapb, ren_iter, ren_loop, ren_defr, bel_none, bel_var, bel_arr, bel_map, bel_mapb, bel_iter, bel_loop, bel_defr, AV.renL, AV.ren, AV.belL, AV.bel, rn]) (by simp) (by simp) (by simp [tellL, AV.ren, AV.renL, AV.bel, AV.belL, rn]) (fun id h => absurd h (by omega)) (WK.now ⟨k + 1, _, rfl, by omega, by simp [ho], fun j hj => ?_, rfl, rfl, rfl⟩)⟩
            rcases Nat.lt_succ_iff_lt_or_eq.1 hj with hj | rfl
            · simpa [List.getD_eq_getElem?_getD, List.getElem?_append_left (show j < out.length by omega)] using hp j hj
            · refine ⟨c4, ?_⟩
              simp [List.getD_eq_getElem?_getD, ← ho]
      · have c2 : ¬ k < (l.getD 0 []).length := by simpa using c
        simp only [push_cast, simprocAttr, -Int.reducePow]
        refine WK.frz 0 rfl (WK.now ?_)
        simp only [push_cast, simprocAttr, -Int.reducePow]
        have e : out = (List.range (l.getD 0 []).length).map (colS l) := List.ext_getElem (by rw [List.length_map, List.length_range]; omega) fun j h1 h2 => by
          have := (hp j (by omega)).2
          simpa [List.getD_eq_getElem?_getD, h1] using this
        rw [addS_yes ⟨h0, hu, fun k hk => (hp k (by omega)).1⟩, e]
        rfl
end Go.Proofs.YtcmhdpbmcgglmaaGreatDoor
end
section
set_option autoImplicit false
set_option linter.unusedVariables false
set_option linter.unusedSimpArgs false
namespace Go.Proofs.YtcmhdpbmcgglmaaGreatDoor
open Go.Abs
def errF : Option (Int × Int) → D
  | none => .nili
  | some p => .iface 156 (.agg [.int .i64 p.1, .int .i64 p.2])
theorem fnew_ok (c a : Int) : PCall env 65 [.int .i64 c, .int .i64 a] (errF (some (c, a))) := by
  refine acalls_of envOk Tryz.func65 rfl (by kernel_rfl) (m := 7) rfl ?_
  simp only [push_cast, simprocAttr, errF]
  refine WK.now ?_
  simp only [push_cast, simprocAttr, errF]
theorem clone_ok (a : List Int) (ha : Sz a) : ACalls env 114 [.d (.slice 1 (ints a))] [] fun r H' => r = .sfull 0 ∧ H' = [.arr 2 1 (ints a)] := by
  have hr : room a.length 8 := room_of (by unfold Sz at ha; omega) (by omega)
  refine acalls_of envOk Tryz.func114 rfl (by kernel_rfl) (m := 7) rfl ?_
  simp only [push_cast, simprocAttr, errF]
  refine ⟨⟨.inr trivial, hr, WK.now ?_⟩, fun h0 => ?_⟩
  · simp only [push_cast, simprocAttr, errF]
  · refine WK.nil 2 2 1 rfl (WK.now ?_)
    simp only [← h0, push_cast, simprocAttr, errF]
theorem cloneD_ok (a : List Int) (ha : Sz a) : PCall env 114 [sl a] (sl a) :=
  (clone_ok a ha).retell (by
    rintro r H' ⟨rfl, rfl⟩
    refine WK.frz 0 rfl ?_
    simp only [AV.frzL, AV.frz, AObj.frz, List.set_cons_zero, List.map_cons, List.map_nil, if_true]
    exact WK.now ⟨_, rfl, rfl⟩)
end Go.Proofs.YtcmhdpbmcgglmaaGreatDoor
end
