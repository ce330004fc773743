/-
  The types of this program, as the walk uses them; what stands in for a function without a body.
  The library's contract of slices.Sort at whole numbers, laid over this program: a table of numbers, and the program's facts.
  What tables are, by value: errors, entries, what adding, setting and removing make of them.
  Nodes, by value.
  Pods, by value; the phases after events.
  The reference's comparisons of vectors.
  The walks of the package vec: what each function computes.
  The sum of vectors.
  The reference's sums, differences and checks of vectors.
  Faults, and copies of vectors.
-/
import Derived.Test.YtmeicgbddgeeoaaGreatDoorProg
import Derived.Test.YtmeicgbddgeeoaaGreatDoorA4
import Derived.KernelRfl
import Derived.Shelf.SortG.Plain
section
set_option autoImplicit false
set_option linter.unusedVariables false
set_option maxRecDepth 100000
namespace Go.Proofs.YtmeicgbddgeeoaaGreatDoor
open Go.Abs
abbrev _root_.Go.Abs.AV.x : AV := .dead
abbrev _root_.Go.Abs.xs1 : List AV := [.x]
abbrev _root_.Go.Abs.xs2 : List AV := .x :: xs1
abbrev _root_.Go.Abs.xs3 : List AV := .x :: xs2
abbrev _root_.Go.Abs.xs4 : List AV := .x :: xs3
abbrev _root_.Go.Abs.xs5 : List AV := .x :: xs4
abbrev _root_.Go.Abs.xs6 : List AV := .x :: xs5
abbrev _root_.Go.Abs.xs7 : List AV := .x :: xs6
abbrev _root_.Go.Abs.xs8 : List AV := .x :: xs7
abbrev _root_.Go.Abs.xs9 : List AV := .x :: xs8
abbrev _root_.Go.Abs.xs10 : List AV := .x :: xs9
abbrev _root_.Go.Abs.xs11 : List AV := .x :: xs10
abbrev _root_.Go.Abs.xs12 : List AV := .x :: xs11
abbrev _root_.Go.Abs.xs13 : List AV := .x :: xs12
abbrev _root_.Go.Abs.xs14 : List AV := .x :: xs13
abbrev _root_.Go.Abs.xs15 : List AV := .x :: xs14
abbrev _root_.Go.Abs.xs16 : List AV := .x :: xs15
abbrev _root_.Go.Abs.xs17 : List AV := .x :: xs16
abbrev _root_.Go.Abs.xs18 : List AV := .x :: xs17
abbrev _root_.Go.Abs.xs19 : List AV := .x :: xs18
abbrev _root_.Go.Abs.xs20 : List AV := .x :: xs19
abbrev _root_.Go.Abs.xs21 : List AV := .x :: xs20
abbrev _root_.Go.Abs.xs22 : List AV := .x :: xs21
abbrev _root_.Go.Abs.xs23 : List AV := .x :: xs22
abbrev _root_.Go.Abs.xs24 : List AV := .x :: xs23
abbrev _root_.Go.Abs.xs25 : List AV := .x :: xs24
abbrev _root_.Go.Abs.xs26 : List AV := .x :: xs25
abbrev _root_.Go.Abs.xs27 : List AV := .x :: xs26
abbrev _root_.Go.Abs.xs28 : List AV := .x :: xs27
abbrev _root_.Go.Abs.xs29 : List AV := .x :: xs28
abbrev _root_.Go.Abs.xs30 : List AV := .x :: xs29
abbrev _root_.Go.Abs.xs31 : List AV := .x :: xs30
abbrev _root_.Go.Abs.xs32 : List AV := .x :: xs31
abbrev _root_.Go.Abs.xs33 : List AV := .x :: xs32
abbrev _root_.Go.Abs.xs34 : List AV := .x :: xs33
abbrev _root_.Go.Abs.xs35 : List AV := .x :: xs34
abbrev _root_.Go.Abs.xs36 : List AV := .x :: xs35
abbrev _root_.Go.Abs.xs37 : List AV := .x :: xs36
abbrev _root_.Go.Abs.xs38 : List AV := .x :: xs37
abbrev _root_.Go.Abs.xs39 : List AV := .x :: xs38
abbrev _root_.Go.Abs.xs40 : List AV := .x :: xs39
abbrev _root_.Go.Abs.xs41 : List AV := .x :: xs40
abbrev _root_.Go.Abs.xs42 : List AV := .x :: xs41
abbrev _root_.Go.Abs.xs43 : List AV := .x :: xs42
abbrev _root_.Go.Abs.xs44 : List AV := .x :: xs43
abbrev _root_.Go.Abs.xs45 : List AV := .x :: xs44
abbrev _root_.Go.Abs.xs46 : List AV := .x :: xs45
abbrev _root_.Go.Abs.xs47 : List AV := .x :: xs46
abbrev _root_.Go.Abs.xs48 : List AV := .x :: xs47
abbrev _root_.Go.Abs.xs49 : List AV := .x :: xs48
abbrev _root_.Go.Abs.xs50 : List AV := .x :: xs49
abbrev _root_.Go.Abs.xs51 : List AV := .x :: xs50
abbrev _root_.Go.Abs.xs52 : List AV := .x :: xs51
abbrev _root_.Go.Abs.xs53 : List AV := .x :: xs52
abbrev _root_.Go.Abs.xs54 : List AV := .x :: xs53
abbrev _root_.Go.Abs.xs55 : List AV := .x :: xs54
abbrev _root_.Go.Abs.xs56 : List AV := .x :: xs55
abbrev _root_.Go.Abs.xs57 : List AV := .x :: xs56
abbrev _root_.Go.Abs.xs58 : List AV := .x :: xs57
abbrev _root_.Go.Abs.xs59 : List AV := .x :: xs58
abbrev _root_.Go.Abs.xs60 : List AV := .x :: xs59
abbrev _root_.Go.Abs.xs61 : List AV := .x :: xs60
abbrev _root_.Go.Abs.xs62 : List AV := .x :: xs61
abbrev _root_.Go.Abs.xs63 : List AV := .x :: xs62
abbrev _root_.Go.Abs.xs64 : List AV := .x :: xs63
abbrev _root_.Go.Abs.xs65 : List AV := .x :: xs64
abbrev _root_.Go.Abs.xs66 : List AV := .x :: xs65
abbrev _root_.Go.Abs.xs67 : List AV := .x :: xs66
abbrev _root_.Go.Abs.xs68 : List AV := .x :: xs67
abbrev _root_.Go.Abs.xs69 : List AV := .x :: xs68
abbrev _root_.Go.Abs.xs70 : List AV := .x :: xs69
abbrev _root_.Go.Abs.xs71 : List AV := .x :: xs70
abbrev _root_.Go.Abs.xs72 : List AV := .x :: xs71
abbrev _root_.Go.Abs.xs73 : List AV := .x :: xs72
abbrev _root_.Go.Abs.xs74 : List AV := .x :: xs73
abbrev _root_.Go.Abs.xs75 : List AV := .x :: xs74
abbrev _root_.Go.Abs.xs76 : List AV := .x :: xs75
abbrev _root_.Go.Abs.xs77 : List AV := .x :: xs76
abbrev _root_.Go.Abs.xs78 : List AV := .x :: xs77
abbrev _root_.Go.Abs.xs79 : List AV := .x :: xs78
abbrev _root_.Go.Abs.xs80 : List AV := .x :: xs79
abbrev _root_.Go.Abs.xs81 : List AV := .x :: xs80
abbrev _root_.Go.Abs.xs82 : List AV := .x :: xs81
abbrev _root_.Go.Abs.xs83 : List AV := .x :: xs82
abbrev _root_.Go.Abs.xs84 : List AV := .x :: xs83
abbrev _root_.Go.Abs.xs85 : List AV := .x :: xs84
abbrev _root_.Go.Abs.xs86 : List AV := .x :: xs85
abbrev _root_.Go.Abs.xs87 : List AV := .x :: xs86
abbrev _root_.Go.Abs.xs88 : List AV := .x :: xs87
abbrev _root_.Go.Abs.xs89 : List AV := .x :: xs88
abbrev _root_.Go.Abs.xs90 : List AV := .x :: xs89
abbrev _root_.Go.Abs.xs91 : List AV := .x :: xs90
abbrev _root_.Go.Abs.xs92 : List AV := .x :: xs91
abbrev _root_.Go.Abs.xs93 : List AV := .x :: xs92
abbrev _root_.Go.Abs.xs94 : List AV := .x :: xs93
abbrev _root_.Go.Abs.xs95 : List AV := .x :: xs94
abbrev _root_.Go.Abs.xs96 : List AV := .x :: xs95
abbrev _root_.Go.Abs.xs97 : List AV := .x :: xs96
abbrev _root_.Go.Abs.xs98 : List AV := .x :: xs97
abbrev _root_.Go.Abs.xs99 : List AV := .x :: xs98
abbrev _root_.Go.Abs.xs100 : List AV := .x :: xs99
abbrev _root_.Go.Abs.xs101 : List AV := .x :: xs100
abbrev _root_.Go.Abs.xs102 : List AV := .x :: xs101
abbrev _root_.Go.Abs.xs103 : List AV := .x :: xs102
abbrev _root_.Go.Abs.xs104 : List AV := .x :: xs103
abbrev _root_.Go.Abs.xs105 : List AV := .x :: xs104
abbrev _root_.Go.Abs.xs106 : List AV := .x :: xs105
abbrev _root_.Go.Abs.xs107 : List AV := .x :: xs106
abbrev _root_.Go.Abs.xs108 : List AV := .x :: xs107
abbrev _root_.Go.Abs.xs109 : List AV := .x :: xs108
def T1 : TI := { k := .func, size := 1, bytes := 8, zero := [.nilf] }
def T2 : TI := { k := .int .i64, size := 1, bytes := 8, zero := [.int .i64 0] }
def T3 : TI := { k := .int .i64, size := 1, bytes := 8, zero := [.int .i64 0] }
def T4 : TI := { k := .bool, size := 1, bytes := 1, zero := [.bool false] }
def T5 : TI := { k := .int .u8, size := 1, bytes := 1, zero := [.int .u8 0] }
def T6 : TI := { k := .int .u8, size := 1, bytes := 1, zero := [.int .u8 0] }
def T7 : TI := { k := .struct [(0, 2), (1, 3), (2, 4), (3, 6)], size := 4, bytes := 24, zero := [.int .i64 0, .int .i64 0, .bool false, .int .u8 0] }
def T8 : TI := { k := .struct [(0, 2), (1, 3), (2, 4), (3, 6)], size := 4, bytes := 24, zero := [.int .i64 0, .int .i64 0, .bool false, .int .u8 0] }
def T9 : TI := { k := .string, size := 1, bytes := 16, zero := [.str ⟨#[]⟩] }
def T10 : TI := { k := .string, size := 1, bytes := 16, zero := [.str ⟨#[]⟩] }
def T11 : TI := { k := .string, size := 1, bytes := 16, zero := [.str ⟨#[]⟩] }
def T12 : TI := { k := .int .u64, size := 1, bytes := 8, zero := [.int .u64 0] }
def T13 : TI := { k := .struct [(0, 9), (1, 12)], size := 2, bytes := 24, zero := [.str ⟨#[]⟩, .int .u64 0] }
def T14 : TI := { k := .struct [(0, 9), (1, 12)], size := 2, bytes := 24, zero := [.str ⟨#[]⟩, .int .u64 0] }
def T15 : TI := { k := .ptr 273, size := 1, bytes := 8, zero := [.nilp] }
def T16 : TI := { k := .ptr 276, size := 1, bytes := 8, zero := [.nilp] }
def T17 : TI := { k := .ptr 284, size := 1, bytes := 8, zero := [.nilp] }
def T18 : TI := { k := .struct [(0, 17)], size := 1, bytes := 8, zero := [.nilp] }
def T19 : TI := { k := .struct [(0, 17)], size := 1, bytes := 8, zero := [.nilp] }
def T20 : TI := { k := .iface, size := 1, bytes := 16, zero := [.nili] }
def T21 : TI := { k := .int .i32, size := 1, bytes := 4, zero := [.int .i32 0] }
def T22 : TI := { k := .slice 70, size := 1, bytes := 24, zero := [.nils] }
def T23 : TI := { k := .slice 77, size := 1, bytes := 24, zero := [.nils] }
def T24 : TI := { k := .slice 2, size := 1, bytes := 24, zero := [.nils] }
def T25 : TI := { k := .struct [(0, 3), (1, 3), (2, 4), (3, 3), (4, 24), (5, 3), (6, 3), (7, 3), (8, 3)], size := 9, bytes := 88, zero := [.int .i64 0, .int .i64 0, .bool false, .int .i64 0, .nils, .int .i64 0, .int .i64 0, .int .i64 0, .int .i64 0] }
def T26 : TI := { k := .struct [(0, 3), (1, 3), (2, 4), (3, 3), (4, 24), (5, 3), (6, 3), (7, 3), (8, 3)], size := 9, bytes := 88, zero := [.int .i64 0, .int .i64 0, .bool false, .int .i64 0, .nils, .int .i64 0, .int .i64 0, .int .i64 0, .int .i64 0] }
def T27 : TI := { k := .ptr 115, size := 1, bytes := 8, zero := [.nilp] }
def T28 : TI := { k := .slice 26, size := 1, bytes := 24, zero := [.nils] }
def T29 : TI := { k := .struct [(0, 3), (1, 22), (2, 28)], size := 3, bytes := 56, zero := [.int .i64 0, .nils, .nils] }
def T30 : TI := { k := .struct [(0, 3), (1, 22), (2, 28)], size := 3, bytes := 56, zero := [.int .i64 0, .nils, .nils] }
def T32 : TI := { k := .func, size := 1, bytes := 8, zero := [.nilf] }
def T33 : TI := { k := .func, size := 1, bytes := 8, zero := [.nilf] }
def T34 : TI := { k := .func, size := 1, bytes := 8, zero := [.nilf] }
def T36 : TI := { k := .func, size := 1, bytes := 8, zero := [.nilf] }
def T37 : TI := { k := .func, size := 1, bytes := 8, zero := [.nilf] }
def T38 : TI := { k := .func, size := 1, bytes := 8, zero := [.nilf] }
def T39 : TI := { k := .func, size := 1, bytes := 8, zero := [.nilf] }
def T40 : TI := { k := .func, size := 1, bytes := 8, zero := [.nilf] }
def T41 : TI := { k := .func, size := 1, bytes := 8, zero := [.nilf] }
def T42 : TI := { k := .func, size := 1, bytes := 8, zero := [.nilf] }
def T43 : TI := { k := .slice 3, size := 1, bytes := 24, zero := [.nils] }
def T44 : TI := { k := .func, size := 1, bytes := 8, zero := [.nilf] }
def T45 : TI := { k := .func, size := 1, bytes := 8, zero := [.nilf] }
def T46 : TI := { k := .func, size := 1, bytes := 8, zero := [.nilf] }
def T47 : TI := { k := .func, size := 1, bytes := 8, zero := [.nilf] }
def T48 : TI := { k := .func, size := 1, bytes := 8, zero := [.nilf] }
def T49 : TI := { k := .int .u16, size := 1, bytes := 2, zero := [.int .u16 0] }
def T50 : TI := { k := .int .u64, size := 1, bytes := 8, zero := [.int .u64 0] }
def T52 : TI := { k := .func, size := 1, bytes := 8, zero := [.nilf] }
def T53 : TI := { k := .func, size := 1, bytes := 8, zero := [.nilf] }
def T54 : TI := { k := .slice 61, size := 1, bytes := 24, zero := [.nils] }
def T55 : TI := { k := .func, size := 1, bytes := 8, zero := [.nilf] }
def T56 : TI := { k := .slice 62, size := 1, bytes := 24, zero := [.nils] }
def T57 : TI := { k := .func, size := 1, bytes := 8, zero := [.nilf] }
def T58 : TI := { k := .func, size := 1, bytes := 8, zero := [.nilf] }
def T59 : TI := { k := .func, size := 1, bytes := 8, zero := [.nilf] }
def T61 : TI := { k := .struct [(0, 3), (1, 28)], size := 2, bytes := 32, zero := [.int .i64 0, .nils] }
def T62 : TI := { k := .struct [(0, 3), (1, 28)], size := 2, bytes := 32, zero := [.int .i64 0, .nils] }
def T64 : TI := { k := .func, size := 1, bytes := 8, zero := [.nilf] }
def T65 : TI := { k := .func, size := 1, bytes := 8, zero := [.nilf] }
def T66 : TI := { k := .func, size := 1, bytes := 8, zero := [.nilf] }
def T67 : TI := { k := .func, size := 1, bytes := 8, zero := [.nilf] }
def T70 : TI := { k := .struct [(0, 3), (1, 24)], size := 2, bytes := 32, zero := [.int .i64 0, .nils] }
def T72 : TI := { k := .func, size := 1, bytes := 8, zero := [.nilf] }
def T74 : TI := { k := .iface, size := 1, bytes := 16, zero := [.nili] }
def T76 : TI := { k := .struct [(0, 26), (9, 3), (10, 43)], size := 11, bytes := 120, zero := [.int .i64 0, .int .i64 0, .bool false, .int .i64 0, .nils, .int .i64 0, .int .i64 0, .int .i64 0, .int .i64 0, .int .i64 0, .nils] }
def T77 : TI := { k := .struct [(0, 26), (9, 3), (10, 43)], size := 11, bytes := 120, zero := [.int .i64 0, .int .i64 0, .bool false, .int .i64 0, .nils, .int .i64 0, .int .i64 0, .int .i64 0, .int .i64 0, .int .i64 0, .nils] }
def T78 : TI := { k := .func, size := 1, bytes := 8, zero := [.nilf] }
def T84 : TI := { k := .func, size := 1, bytes := 8, zero := [.nilf] }
def T85 : TI := { k := .func, size := 1, bytes := 8, zero := [.nilf] }
def T90 : TI := { k := .slice 4, size := 1, bytes := 24, zero := [.nils] }
def T92 : TI := { k := .func, size := 1, bytes := 8, zero := [.nilf] }
def T97 : TI := { k := .slice 24, size := 1, bytes := 24, zero := [.nils] }
def T98 : TI := { k := .func, size := 1, bytes := 8, zero := [.nilf] }
def T100 : TI := { k := .func, size := 1, bytes := 8, zero := [.nilf] }
def T101 : TI := { k := .func, size := 1, bytes := 8, zero := [.nilf] }
def T102 : TI := { k := .func, size := 1, bytes := 8, zero := [.nilf] }
def T103 : TI := { k := .array 4 3, size := 4, bytes := 32, zero := [.int .i64 0, .int .i64 0, .int .i64 0, .int .i64 0] }
def T105 : TI := { k := .func, size := 1, bytes := 8, zero := [.nilf] }
def T108 : TI := { k := .ptr 152, size := 1, bytes := 8, zero := [.nilp] }
def T109 : TI := { k := .func, size := 1, bytes := 8, zero := [.nilf] }
def T110 : TI := { k := .ptr 158, size := 1, bytes := 8, zero := [.nilp] }
def T111 : TI := { k := .func, size := 1, bytes := 8, zero := [.nilf] }
def T112 : TI := { k := .struct [(0, 108), (1, 110)], size := 2, bytes := 16, zero := [.nilp, .nilp] }
def T113 : TI := { k := .struct [(0, 108), (1, 110)], size := 2, bytes := 16, zero := [.nilp, .nilp] }
def T114 : TI := { k := .struct [(0, 113)], size := 2, bytes := 16, zero := [.nilp, .nilp] }
def T115 : TI := { k := .struct [(0, 113)], size := 2, bytes := 16, zero := [.nilp, .nilp] }
def T116 : TI := { k := .func, size := 1, bytes := 8, zero := [.nilf] }
def T118 : TI := { k := .func, size := 1, bytes := 8, zero := [.nilf] }
def T122 : TI := { k := .int .i64, size := 1, bytes := 8, zero := [.int .i64 0] }
def T127 : TI := { k := .func, size := 1, bytes := 8, zero := [.nilf] }
def T130 : TI := { k := .struct [(0, 2), (1, 2)], size := 2, bytes := 16, zero := [.int .i64 0, .int .i64 0] }
def T134 : TI := { k := .func, size := 1, bytes := 8, zero := [.nilf] }
def T142 : TI := { k := .func, size := 1, bytes := 8, zero := [.nilf] }
def T148 : TI := { k := .func, size := 1, bytes := 8, zero := [.nilf] }
def T149 : TI := { k := .ptr 193, size := 1, bytes := 8, zero := [.nilp] }
def T152 : TI := { k := .struct [(0, 149), (1, 43)], size := 2, bytes := 32, zero := [.nilp, .nils] }
def T153 : TI := { k := .ptr 196, size := 1, bytes := 8, zero := [.nilp] }
def T156 : TI := { k := .struct [(0, 70), (2, 24)], size := 3, bytes := 56, zero := [.int .i64 0, .nils, .nils] }
def T158 : TI := { k := .struct [(0, 3), (1, 153)], size := 2, bytes := 16, zero := [.int .i64 0, .nilp] }
def T164 : TI := { k := .ptr 122, size := 1, bytes := 8, zero := [.nilp] }
def T167 : TI := { k := .func, size := 1, bytes := 8, zero := [.nilf] }
def T168 : TI := { k := .struct [(0, 122), (1, 3)], size := 2, bytes := 16, zero := [.int .i64 0, .int .i64 0] }
def T169 : TI := { k := .struct [(0, 122), (1, 3)], size := 2, bytes := 16, zero := [.int .i64 0, .int .i64 0] }
def T180 : TI := { k := .slice 28, size := 1, bytes := 24, zero := [.nils] }
def T184 : TI := { k := .slice 43, size := 1, bytes := 24, zero := [.nils] }
def T186 : TI := { k := .func, size := 1, bytes := 8, zero := [.nilf] }
def T189 : TI := { k := .func, size := 1, bytes := 8, zero := [.nilf] }
def T191 : TI := { k := .map 3 26, size := 1, bytes := 8, zero := [.nilm] }
def T193 : TI := { k := .struct [(0, 3), (1, 191)], size := 2, bytes := 16, zero := [.int .i64 0, .nilm] }
def T194 : TI := { k := .map 3 156, size := 1, bytes := 8, zero := [.nilm] }
def T196 : TI := { k := .struct [(0, 3), (1, 194)], size := 2, bytes := 16, zero := [.int .i64 0, .nilm] }
def T198 : TI := { k := .int .u64, size := 1, bytes := 8, zero := [.int .u64 0] }
def T200 : TI := { k := .struct [(0, 17), (1, 197), (2, 198)], size := 3, bytes := 24, zero := [.nilp, .nilp, .int .u64 0] }
def T203 : TI := { k := .iface, size := 1, bytes := 16, zero := [.nili] }
def T205 : TI := { k := .int .u8, size := 1, bytes := 1, zero := [.int .u8 0] }
def T210 : TI := { k := .func, size := 1, bytes := 8, zero := [.nilf] }
def T214 : TI := { k := .map 217 3, size := 1, bytes := 8, zero := [.nilm] }
def T217 : TI := { k := .struct [(0, 3), (1, 3)], size := 2, bytes := 16, zero := [.int .i64 0, .int .i64 0] }
def T220 : TI := { k := .func, size := 1, bytes := 8, zero := [.nilf] }
def T221 : TI := { k := .func, size := 1, bytes := 8, zero := [.nilf] }
def T227 : TI := { k := .int .u64, size := 1, bytes := 8, zero := [.int .u64 0] }
def T230 : TI := { k := .func, size := 1, bytes := 8, zero := [.nilf] }
def T231 : TI := { k := .func, size := 1, bytes := 8, zero := [.nilf] }
def T235 : TI := { k := .struct [(0, 17)], size := 1, bytes := 8, zero := [.nilp] }
def T253 : TI := { k := .int .i64, size := 1, bytes := 8, zero := [.int .i64 0] }
def T256 : TI := { k := .func, size := 1, bytes := 8, zero := [.nilf] }
def T261 : TI := { k := .int .u32, size := 1, bytes := 4, zero := [.int .u32 0] }
def T263 : TI := { k := .int .u64, size := 1, bytes := 8, zero := [.int .u64 0] }
def T267 : TI := { k := .ptr 3, size := 1, bytes := 8, zero := [.nilp] }
def T269 : TI := { k := .ptr 263, size := 1, bytes := 8, zero := [.nilp] }
def T273 : TI := { k := .struct [(0, 17), (1, 17), (2, 17), (3, 9)], size := 4, bytes := 40, zero := [.nilp, .nilp, .nilp, .str ⟨#[]⟩] }
def T274 : TI := { k := .array 0 16, size := 0, bytes := 0, zero := [] }
def T276 : TI := { k := .struct [(0, 274)], size := 0, bytes := 0, zero := [] }
def T278 : TI := { k := .int .u8, size := 1, bytes := 1, zero := [.int .u8 0] }
def T279 : TI := { k := .func, size := 1, bytes := 8, zero := [.nilf] }
def T280 : TI := { k := .ptr 5, size := 1, bytes := 8, zero := [.nilp] }
def T281 : TI := { k := .int .i32, size := 1, bytes := 4, zero := [.int .i32 0] }
def T282 : TI := { k := .int .i32, size := 1, bytes := 4, zero := [.int .i32 0] }
def T284 : TI := { k := .struct [(0, 12), (1, 12), (2, 261), (3, 278), (4, 5), (5, 5), (6, 205), (7, 279), (8, 280), (9, 281), (10, 282)], size := 11, bytes := 48, zero := [.int .u64 0, .int .u64 0, .int .u32 0, .int .u8 0, .int .u8 0, .int .u8 0, .int .u8 0, .nilf, .nilp, .int .i32 0, .int .i32 0] }
theorem tok1 : TyOk Tryz.prog 1 T1 := ⟨⟨_, Tryz.underlying1, ⟨_, _, _, rfl⟩⟩, ⟨_, _, Tryz.type1, rfl, rfl, rfl, rfl, rfl, rfl, rfl⟩⟩
theorem tok2 : TyOk Tryz.prog 2 T2 := ⟨⟨_, Tryz.underlying2, rfl⟩, ⟨_, _, Tryz.type2, rfl, rfl, rfl, rfl, rfl, rfl, rfl⟩⟩
theorem tok3 : TyOk Tryz.prog 3 T3 := ⟨⟨_, Tryz.underlying3, rfl⟩, ⟨_, _, Tryz.type3, rfl, rfl, rfl, rfl, rfl, rfl, rfl⟩⟩
theorem tok4 : TyOk Tryz.prog 4 T4 := ⟨⟨_, Tryz.underlying4, rfl⟩, ⟨_, _, Tryz.type4, rfl, rfl, rfl, rfl, rfl, rfl, rfl⟩⟩
theorem tok5 : TyOk Tryz.prog 5 T5 := ⟨⟨_, Tryz.underlying5, rfl⟩, ⟨_, _, Tryz.type5, rfl, rfl, rfl, rfl, rfl, rfl, rfl⟩⟩
theorem tok6 : TyOk Tryz.prog 6 T6 := ⟨⟨_, Tryz.underlying6, rfl⟩, ⟨_, _, Tryz.type6, rfl, rfl, rfl, rfl, rfl, rfl, rfl⟩⟩
theorem tok7 : TyOk Tryz.prog 7 T7 := ⟨⟨_, Tryz.underlying7, ⟨_, rfl, rfl⟩⟩, ⟨_, _, Tryz.type7, rfl, rfl, rfl, rfl, rfl, rfl, rfl⟩⟩
theorem tok8 : TyOk Tryz.prog 8 T8 := ⟨⟨_, Tryz.underlying8, ⟨_, rfl, rfl⟩⟩, ⟨_, _, Tryz.type8, rfl, rfl, rfl, rfl, rfl, rfl, rfl⟩⟩
theorem tok9 : TyOk Tryz.prog 9 T9 := ⟨⟨_, Tryz.underlying9, rfl⟩, ⟨_, _, Tryz.type9, rfl, rfl, rfl, rfl, rfl, rfl, rfl⟩⟩
theorem tok10 : TyOk Tryz.prog 10 T10 := ⟨⟨_, Tryz.underlying10, rfl⟩, ⟨_, _, Tryz.type10, rfl, rfl, rfl, rfl, rfl, rfl, rfl⟩⟩
theorem tok11 : TyOk Tryz.prog 11 T11 := ⟨⟨_, Tryz.underlying11, rfl⟩, ⟨_, _, Tryz.type11, rfl, rfl, rfl, rfl, rfl, rfl, rfl⟩⟩
theorem tok12 : TyOk Tryz.prog 12 T12 := ⟨⟨_, Tryz.underlying12, rfl⟩, ⟨_, _, Tryz.type12, rfl, rfl, rfl, rfl, rfl, rfl, rfl⟩⟩
theorem tok13 : TyOk Tryz.prog 13 T13 := ⟨⟨_, Tryz.underlying13, ⟨_, rfl, rfl⟩⟩, ⟨_, _, Tryz.type13, rfl, rfl, rfl, rfl, rfl, rfl, rfl⟩⟩
theorem tok14 : TyOk Tryz.prog 14 T14 := ⟨⟨_, Tryz.underlying14, ⟨_, rfl, rfl⟩⟩, ⟨_, _, Tryz.type14, rfl, rfl, rfl, rfl, rfl, rfl, rfl⟩⟩
theorem tok15 : TyOk Tryz.prog 15 T15 := ⟨⟨_, Tryz.underlying15, rfl⟩, ⟨_, _, Tryz.type15, rfl, rfl, rfl, rfl, rfl, rfl, rfl⟩⟩
theorem tok16 : TyOk Tryz.prog 16 T16 := ⟨⟨_, Tryz.underlying16, rfl⟩, ⟨_, _, Tryz.type16, rfl, rfl, rfl, rfl, rfl, rfl, rfl⟩⟩
theorem tok17 : TyOk Tryz.prog 17 T17 := ⟨⟨_, Tryz.underlying17, rfl⟩, ⟨_, _, Tryz.type17, rfl, rfl, rfl, rfl, rfl, rfl, rfl⟩⟩
theorem tok18 : TyOk Tryz.prog 18 T18 := ⟨⟨_, Tryz.underlying18, ⟨_, rfl, rfl⟩⟩, ⟨_, _, Tryz.type18, rfl, rfl, rfl, rfl, rfl, rfl, rfl⟩⟩
theorem tok19 : TyOk Tryz.prog 19 T19 := ⟨⟨_, Tryz.underlying19, ⟨_, rfl, rfl⟩⟩, ⟨_, _, Tryz.type19, rfl, rfl, rfl, rfl, rfl, rfl, rfl⟩⟩
theorem tok20 : TyOk Tryz.prog 20 T20 := ⟨⟨_, Tryz.underlying20, ⟨_, rfl⟩⟩, ⟨_, _, Tryz.type20, rfl, rfl, rfl, rfl, rfl, rfl, rfl⟩⟩
theorem tok21 : TyOk Tryz.prog 21 T21 := ⟨⟨_, Tryz.underlying21, rfl⟩, ⟨_, _, Tryz.type21, rfl, rfl, rfl, rfl, rfl, rfl, rfl⟩⟩
theorem tok22 : TyOk Tryz.prog 22 T22 := ⟨⟨_, Tryz.underlying22, rfl⟩, ⟨_, _, Tryz.type22, rfl, rfl, rfl, rfl, rfl, rfl, rfl⟩⟩
theorem tok23 : TyOk Tryz.prog 23 T23 := ⟨⟨_, Tryz.underlying23, rfl⟩, ⟨_, _, Tryz.type23, rfl, rfl, rfl, rfl, rfl, rfl, rfl⟩⟩
theorem tok24 : TyOk Tryz.prog 24 T24 := ⟨⟨_, Tryz.underlying24, rfl⟩, ⟨_, _, Tryz.type24, rfl, rfl, rfl, rfl, rfl, rfl, rfl⟩⟩
theorem tok25 : TyOk Tryz.prog 25 T25 := ⟨⟨_, Tryz.underlying25, ⟨_, rfl, rfl⟩⟩, ⟨_, _, Tryz.type25, rfl, rfl, rfl, rfl, rfl, rfl, rfl⟩⟩
theorem tok26 : TyOk Tryz.prog 26 T26 := ⟨⟨_, Tryz.underlying26, ⟨_, rfl, rfl⟩⟩, ⟨_, _, Tryz.type26, rfl, rfl, rfl, rfl, rfl, rfl, rfl⟩⟩
theorem tok27 : TyOk Tryz.prog 27 T27 := ⟨⟨_, Tryz.underlying27, rfl⟩, ⟨_, _, Tryz.type27, rfl, rfl, rfl, rfl, rfl, rfl, rfl⟩⟩
theorem tok28 : TyOk Tryz.prog 28 T28 := ⟨⟨_, Tryz.underlying28, rfl⟩, ⟨_, _, Tryz.type28, rfl, rfl, rfl, rfl, rfl, rfl, rfl⟩⟩
theorem tok29 : TyOk Tryz.prog 29 T29 := ⟨⟨_, Tryz.underlying29, ⟨_, rfl, rfl⟩⟩, ⟨_, _, Tryz.type29, rfl, rfl, rfl, rfl, rfl, rfl, rfl⟩⟩
theorem tok30 : TyOk Tryz.prog 30 T30 := ⟨⟨_, Tryz.underlying30, ⟨_, rfl, rfl⟩⟩, ⟨_, _, Tryz.type30, rfl, rfl, rfl, rfl, rfl, rfl, rfl⟩⟩
theorem tok32 : TyOk Tryz.prog 32 T32 := ⟨⟨_, Tryz.underlying32, ⟨_, _, _, rfl⟩⟩, ⟨_, _, Tryz.type32, rfl, rfl, rfl, rfl, rfl, rfl, rfl⟩⟩
theorem tok33 : TyOk Tryz.prog 33 T33 := ⟨⟨_, Tryz.underlying33, ⟨_, _, _, rfl⟩⟩, ⟨_, _, Tryz.type33, rfl, rfl, rfl, rfl, rfl, rfl, rfl⟩⟩
theorem tok34 : TyOk Tryz.prog 34 T34 := ⟨⟨_, Tryz.underlying34, ⟨_, _, _, rfl⟩⟩, ⟨_, _, Tryz.type34, rfl, rfl, rfl, rfl, rfl, rfl, rfl⟩⟩
theorem tok36 : TyOk Tryz.prog 36 T36 := ⟨⟨_, Tryz.underlying36, ⟨_, _, _, rfl⟩⟩, ⟨_, _, Tryz.type36, rfl, rfl, rfl, rfl, rfl, rfl, rfl⟩⟩
theorem tok37 : TyOk Tryz.prog 37 T37 := ⟨⟨_, Tryz.underlying37, ⟨_, _, _, rfl⟩⟩, ⟨_, _, Tryz.type37, rfl, rfl, rfl, rfl, rfl, rfl, rfl⟩⟩
theorem tok38 : TyOk Tryz.prog 38 T38 := ⟨⟨_, Tryz.underlying38, ⟨_, _, _, rfl⟩⟩, ⟨_, _, Tryz.type38, rfl, rfl, rfl, rfl, rfl, rfl, rfl⟩⟩
theorem tok39 : TyOk Tryz.prog 39 T39 := ⟨⟨_, Tryz.underlying39, ⟨_, _, _, rfl⟩⟩, ⟨_, _, Tryz.type39, rfl, rfl, rfl, rfl, rfl, rfl, rfl⟩⟩
theorem tok40 : TyOk Tryz.prog 40 T40 := ⟨⟨_, Tryz.underlying40, ⟨_, _, _, rfl⟩⟩, ⟨_, _, Tryz.type40, rfl, rfl, rfl, rfl, rfl, rfl, rfl⟩⟩
theorem tok41 : TyOk Tryz.prog 41 T41 := ⟨⟨_, Tryz.underlying41, ⟨_, _, _, rfl⟩⟩, ⟨_, _, Tryz.type41, rfl, rfl, rfl, rfl, rfl, rfl, rfl⟩⟩
theorem tok42 : TyOk Tryz.prog 42 T42 := ⟨⟨_, Tryz.underlying42, ⟨_, _, _, rfl⟩⟩, ⟨_, _, Tryz.type42, rfl, rfl, rfl, rfl, rfl, rfl, rfl⟩⟩
theorem tok43 : TyOk Tryz.prog 43 T43 := ⟨⟨_, Tryz.underlying43, rfl⟩, ⟨_, _, Tryz.type43, rfl, rfl, rfl, rfl, rfl, rfl, rfl⟩⟩
theorem tok44 : TyOk Tryz.prog 44 T44 := ⟨⟨_, Tryz.underlying44, ⟨_, _, _, rfl⟩⟩, ⟨_, _, Tryz.type44, rfl, rfl, rfl, rfl, rfl, rfl, rfl⟩⟩
theorem tok45 : TyOk Tryz.prog 45 T45 := ⟨⟨_, Tryz.underlying45, ⟨_, _, _, rfl⟩⟩, ⟨_, _, Tryz.type45, rfl, rfl, rfl, rfl, rfl, rfl, rfl⟩⟩
theorem tok46 : TyOk Tryz.prog 46 T46 := ⟨⟨_, Tryz.underlying46, ⟨_, _, _, rfl⟩⟩, ⟨_, _, Tryz.type46, rfl, rfl, rfl, rfl, rfl, rfl, rfl⟩⟩
theorem tok47 : TyOk Tryz.prog 47 T47 := ⟨⟨_, Tryz.underlying47, ⟨_, _, _, rfl⟩⟩, ⟨_, _, Tryz.type47, rfl, rfl, rfl, rfl, rfl, rfl, rfl⟩⟩
theorem tok48 : TyOk Tryz.prog 48 T48 := ⟨⟨_, Tryz.underlying48, ⟨_, _, _, rfl⟩⟩, ⟨_, _, Tryz.type48, rfl, rfl, rfl, rfl, rfl, rfl, rfl⟩⟩
theorem tok49 : TyOk Tryz.prog 49 T49 := ⟨⟨_, Tryz.underlying49, rfl⟩, ⟨_, _, Tryz.type49, rfl, rfl, rfl, rfl, rfl, rfl, rfl⟩⟩
theorem tok50 : TyOk Tryz.prog 50 T50 := ⟨⟨_, Tryz.underlying50, rfl⟩, ⟨_, _, Tryz.type50, rfl, rfl, rfl, rfl, rfl, rfl, rfl⟩⟩
theorem tok52 : TyOk Tryz.prog 52 T52 := ⟨⟨_, Tryz.underlying52, ⟨_, _, _, rfl⟩⟩, ⟨_, _, Tryz.type52, rfl, rfl, rfl, rfl, rfl, rfl, rfl⟩⟩
theorem tok53 : TyOk Tryz.prog 53 T53 := ⟨⟨_, Tryz.underlying53, ⟨_, _, _, rfl⟩⟩, ⟨_, _, Tryz.type53, rfl, rfl, rfl, rfl, rfl, rfl, rfl⟩⟩
theorem tok54 : TyOk Tryz.prog 54 T54 := ⟨⟨_, Tryz.underlying54, rfl⟩, ⟨_, _, Tryz.type54, rfl, rfl, rfl, rfl, rfl, rfl, rfl⟩⟩
theorem tok55 : TyOk Tryz.prog 55 T55 := ⟨⟨_, Tryz.underlying55, ⟨_, _, _, rfl⟩⟩, ⟨_, _, Tryz.type55, rfl, rfl, rfl, rfl, rfl, rfl, rfl⟩⟩
theorem tok56 : TyOk Tryz.prog 56 T56 := ⟨⟨_, Tryz.underlying56, rfl⟩, ⟨_, _, Tryz.type56, rfl, rfl, rfl, rfl, rfl, rfl, rfl⟩⟩
theorem tok57 : TyOk Tryz.prog 57 T57 := ⟨⟨_, Tryz.underlying57, ⟨_, _, _, rfl⟩⟩, ⟨_, _, Tryz.type57, rfl, rfl, rfl, rfl, rfl, rfl, rfl⟩⟩
theorem tok58 : TyOk Tryz.prog 58 T58 := ⟨⟨_, Tryz.underlying58, ⟨_, _, _, rfl⟩⟩, ⟨_, _, Tryz.type58, rfl, rfl, rfl, rfl, rfl, rfl, rfl⟩⟩
theorem tok59 : TyOk Tryz.prog 59 T59 := ⟨⟨_, Tryz.underlying59, ⟨_, _, _, rfl⟩⟩, ⟨_, _, Tryz.type59, rfl, rfl, rfl, rfl, rfl, rfl, rfl⟩⟩
theorem tok61 : TyOk Tryz.prog 61 T61 := ⟨⟨_, Tryz.underlying61, ⟨_, rfl, rfl⟩⟩, ⟨_, _, Tryz.type61, rfl, rfl, rfl, rfl, rfl, rfl, rfl⟩⟩
theorem tok62 : TyOk Tryz.prog 62 T62 := ⟨⟨_, Tryz.underlying62, ⟨_, rfl, rfl⟩⟩, ⟨_, _, Tryz.type62, rfl, rfl, rfl, rfl, rfl, rfl, rfl⟩⟩
theorem tok64 : TyOk Tryz.prog 64 T64 := ⟨⟨_, Tryz.underlying64, ⟨_, _, _, rfl⟩⟩, ⟨_, _, Tryz.type64, rfl, rfl, rfl, rfl, rfl, rfl, rfl⟩⟩
theorem tok65 : TyOk Tryz.prog 65 T65 := ⟨⟨_, Tryz.underlying65, ⟨_, _, _, rfl⟩⟩, ⟨_, _, Tryz.type65, rfl, rfl, rfl, rfl, rfl, rfl, rfl⟩⟩
theorem tok66 : TyOk Tryz.prog 66 T66 := ⟨⟨_, Tryz.underlying66, ⟨_, _, _, rfl⟩⟩, ⟨_, _, Tryz.type66, rfl, rfl, rfl, rfl, rfl, rfl, rfl⟩⟩
theorem tok67 : TyOk Tryz.prog 67 T67 := ⟨⟨_, Tryz.underlying67, ⟨_, _, _, rfl⟩⟩, ⟨_, _, Tryz.type67, rfl, rfl, rfl, rfl, rfl, rfl, rfl⟩⟩
theorem tok70 : TyOk Tryz.prog 70 T70 := ⟨⟨_, Tryz.underlying70, ⟨_, rfl, rfl⟩⟩, ⟨_, _, Tryz.type70, rfl, rfl, rfl, rfl, rfl, rfl, rfl⟩⟩
theorem tok72 : TyOk Tryz.prog 72 T72 := ⟨⟨_, Tryz.underlying72, ⟨_, _, _, rfl⟩⟩, ⟨_, _, Tryz.type72, rfl, rfl, rfl, rfl, rfl, rfl, rfl⟩⟩
theorem tok74 : TyOk Tryz.prog 74 T74 := ⟨⟨_, Tryz.underlying74, ⟨_, rfl⟩⟩, ⟨_, _, Tryz.type74, rfl, rfl, rfl, rfl, rfl, rfl, rfl⟩⟩
theorem tok76 : TyOk Tryz.prog 76 T76 := ⟨⟨_, Tryz.underlying76, ⟨_, rfl, rfl⟩⟩, ⟨_, _, Tryz.type76, rfl, rfl, rfl, rfl, rfl, rfl, rfl⟩⟩
theorem tok77 : TyOk Tryz.prog 77 T77 := ⟨⟨_, Tryz.underlying77, ⟨_, rfl, rfl⟩⟩, ⟨_, _, Tryz.type77, rfl, rfl, rfl, rfl, rfl, rfl, rfl⟩⟩
theorem tok78 : TyOk Tryz.prog 78 T78 := ⟨⟨_, Tryz.underlying78, ⟨_, _, _, rfl⟩⟩, ⟨_, _, Tryz.type78, rfl, rfl, rfl, rfl, rfl, rfl, rfl⟩⟩
theorem tok84 : TyOk Tryz.prog 84 T84 := ⟨⟨_, Tryz.underlying84, ⟨_, _, _, rfl⟩⟩, ⟨_, _, Tryz.type84, rfl, rfl, rfl, rfl, rfl, rfl, rfl⟩⟩
theorem tok85 : TyOk Tryz.prog 85 T85 := ⟨⟨_, Tryz.underlying85, ⟨_, _, _, rfl⟩⟩, ⟨_, _, Tryz.type85, rfl, rfl, rfl, rfl, rfl, rfl, rfl⟩⟩
theorem tok90 : TyOk Tryz.prog 90 T90 := ⟨⟨_, Tryz.underlying90, rfl⟩, ⟨_, _, Tryz.type90, rfl, rfl, rfl, rfl, rfl, rfl, rfl⟩⟩
theorem tok92 : TyOk Tryz.prog 92 T92 := ⟨⟨_, Tryz.underlying92, ⟨_, _, _, rfl⟩⟩, ⟨_, _, Tryz.type92, rfl, rfl, rfl, rfl, rfl, rfl, rfl⟩⟩
theorem tok97 : TyOk Tryz.prog 97 T97 := ⟨⟨_, Tryz.underlying97, rfl⟩, ⟨_, _, Tryz.type97, rfl, rfl, rfl, rfl, rfl, rfl, rfl⟩⟩
theorem tok98 : TyOk Tryz.prog 98 T98 := ⟨⟨_, Tryz.underlying98, ⟨_, _, _, rfl⟩⟩, ⟨_, _, Tryz.type98, rfl, rfl, rfl, rfl, rfl, rfl, rfl⟩⟩
theorem tok100 : TyOk Tryz.prog 100 T100 := ⟨⟨_, Tryz.underlying100, ⟨_, _, _, rfl⟩⟩, ⟨_, _, Tryz.type100, rfl, rfl, rfl, rfl, rfl, rfl, rfl⟩⟩
theorem tok101 : TyOk Tryz.prog 101 T101 := ⟨⟨_, Tryz.underlying101, ⟨_, _, _, rfl⟩⟩, ⟨_, _, Tryz.type101, rfl, rfl, rfl, rfl, rfl, rfl, rfl⟩⟩
theorem tok102 : TyOk Tryz.prog 102 T102 := ⟨⟨_, Tryz.underlying102, ⟨_, _, _, rfl⟩⟩, ⟨_, _, Tryz.type102, rfl, rfl, rfl, rfl, rfl, rfl, rfl⟩⟩
theorem tok103 : TyOk Tryz.prog 103 T103 := ⟨⟨_, Tryz.underlying103, rfl⟩, ⟨_, _, Tryz.type103, rfl, rfl, rfl, rfl, rfl, rfl, rfl⟩⟩
theorem tok105 : TyOk Tryz.prog 105 T105 := ⟨⟨_, Tryz.underlying105, ⟨_, _, _, rfl⟩⟩, ⟨_, _, Tryz.type105, rfl, rfl, rfl, rfl, rfl, rfl, rfl⟩⟩
theorem tok108 : TyOk Tryz.prog 108 T108 := ⟨⟨_, Tryz.underlying108, rfl⟩, ⟨_, _, Tryz.type108, rfl, rfl, rfl, rfl, rfl, rfl, rfl⟩⟩
theorem tok109 : TyOk Tryz.prog 109 T109 := ⟨⟨_, Tryz.underlying109, ⟨_, _, _, rfl⟩⟩, ⟨_, _, Tryz.type109, rfl, rfl, rfl, rfl, rfl, rfl, rfl⟩⟩
theorem tok110 : TyOk Tryz.prog 110 T110 := ⟨⟨_, Tryz.underlying110, rfl⟩, ⟨_, _, Tryz.type110, rfl, rfl, rfl, rfl, rfl, rfl, rfl⟩⟩
theorem tok111 : TyOk Tryz.prog 111 T111 := ⟨⟨_, Tryz.underlying111, ⟨_, _, _, rfl⟩⟩, ⟨_, _, Tryz.type111, rfl, rfl, rfl, rfl, rfl, rfl, rfl⟩⟩
theorem tok112 : TyOk Tryz.prog 112 T112 := ⟨⟨_, Tryz.underlying112, ⟨_, rfl, rfl⟩⟩, ⟨_, _, Tryz.type112, rfl, rfl, rfl, rfl, rfl, rfl, rfl⟩⟩
theorem tok113 : TyOk Tryz.prog 113 T113 := ⟨⟨_, Tryz.underlying113, ⟨_, rfl, rfl⟩⟩, ⟨_, _, Tryz.type113, rfl, rfl, rfl, rfl, rfl, rfl, rfl⟩⟩
theorem tok114 : TyOk Tryz.prog 114 T114 := ⟨⟨_, Tryz.underlying114, ⟨_, rfl, rfl⟩⟩, ⟨_, _, Tryz.type114, rfl, rfl, rfl, rfl, rfl, rfl, rfl⟩⟩
theorem tok115 : TyOk Tryz.prog 115 T115 := ⟨⟨_, Tryz.underlying115, ⟨_, rfl, rfl⟩⟩, ⟨_, _, Tryz.type115, rfl, rfl, rfl, rfl, rfl, rfl, rfl⟩⟩
theorem tok116 : TyOk Tryz.prog 116 T116 := ⟨⟨_, Tryz.underlying116, ⟨_, _, _, rfl⟩⟩, ⟨_, _, Tryz.type116, rfl, rfl, rfl, rfl, rfl, rfl, rfl⟩⟩
theorem tok118 : TyOk Tryz.prog 118 T118 := ⟨⟨_, Tryz.underlying118, ⟨_, _, _, rfl⟩⟩, ⟨_, _, Tryz.type118, rfl, rfl, rfl, rfl, rfl, rfl, rfl⟩⟩
theorem tok122 : TyOk Tryz.prog 122 T122 := ⟨⟨_, Tryz.underlying122, rfl⟩, ⟨_, _, Tryz.type122, rfl, rfl, rfl, rfl, rfl, rfl, rfl⟩⟩
theorem tok127 : TyOk Tryz.prog 127 T127 := ⟨⟨_, Tryz.underlying127, ⟨_, _, _, rfl⟩⟩, ⟨_, _, Tryz.type127, rfl, rfl, rfl, rfl, rfl, rfl, rfl⟩⟩
theorem tok130 : TyOk Tryz.prog 130 T130 := ⟨⟨_, Tryz.underlying130, ⟨_, rfl, rfl⟩⟩, ⟨_, _, Tryz.type130, rfl, rfl, rfl, rfl, rfl, rfl, rfl⟩⟩
theorem tok134 : TyOk Tryz.prog 134 T134 := ⟨⟨_, Tryz.underlying134, ⟨_, _, _, rfl⟩⟩, ⟨_, _, Tryz.type134, rfl, rfl, rfl, rfl, rfl, rfl, rfl⟩⟩
theorem tok142 : TyOk Tryz.prog 142 T142 := ⟨⟨_, Tryz.underlying142, ⟨_, _, _, rfl⟩⟩, ⟨_, _, Tryz.type142, rfl, rfl, rfl, rfl, rfl, rfl, rfl⟩⟩
theorem tok148 : TyOk Tryz.prog 148 T148 := ⟨⟨_, Tryz.underlying148, ⟨_, _, _, rfl⟩⟩, ⟨_, _, Tryz.type148, rfl, rfl, rfl, rfl, rfl, rfl, rfl⟩⟩
theorem tok149 : TyOk Tryz.prog 149 T149 := ⟨⟨_, Tryz.underlying149, rfl⟩, ⟨_, _, Tryz.type149, rfl, rfl, rfl, rfl, rfl, rfl, rfl⟩⟩
theorem tok152 : TyOk Tryz.prog 152 T152 := ⟨⟨_, Tryz.underlying152, ⟨_, rfl, rfl⟩⟩, ⟨_, _, Tryz.type152, rfl, rfl, rfl, rfl, rfl, rfl, rfl⟩⟩
theorem tok153 : TyOk Tryz.prog 153 T153 := ⟨⟨_, Tryz.underlying153, rfl⟩, ⟨_, _, Tryz.type153, rfl, rfl, rfl, rfl, rfl, rfl, rfl⟩⟩
theorem tok156 : TyOk Tryz.prog 156 T156 := ⟨⟨_, Tryz.underlying156, ⟨_, rfl, rfl⟩⟩, ⟨_, _, Tryz.type156, rfl, rfl, rfl, rfl, rfl, rfl, rfl⟩⟩
theorem tok158 : TyOk Tryz.prog 158 T158 := ⟨⟨_, Tryz.underlying158, ⟨_, rfl, rfl⟩⟩, ⟨_, _, Tryz.type158, rfl, rfl, rfl, rfl, rfl, rfl, rfl⟩⟩
theorem tok164 : TyOk Tryz.prog 164 T164 := ⟨⟨_, Tryz.underlying164, rfl⟩, ⟨_, _, Tryz.type164, rfl, rfl, rfl, rfl, rfl, rfl, rfl⟩⟩
theorem tok167 : TyOk Tryz.prog 167 T167 := ⟨⟨_, Tryz.underlying167, ⟨_, _, _, rfl⟩⟩, ⟨_, _, Tryz.type167, rfl, rfl, rfl, rfl, rfl, rfl, rfl⟩⟩
theorem tok168 : TyOk Tryz.prog 168 T168 := ⟨⟨_, Tryz.underlying168, ⟨_, rfl, rfl⟩⟩, ⟨_, _, Tryz.type168, rfl, rfl, rfl, rfl, rfl, rfl, rfl⟩⟩
theorem tok169 : TyOk Tryz.prog 169 T169 := ⟨⟨_, Tryz.underlying169, ⟨_, rfl, rfl⟩⟩, ⟨_, _, Tryz.type169, rfl, rfl, rfl, rfl, rfl, rfl, rfl⟩⟩
theorem tok180 : TyOk Tryz.prog 180 T180 := ⟨⟨_, Tryz.underlying180, rfl⟩, ⟨_, _, Tryz.type180, rfl, rfl, rfl, rfl, rfl, rfl, rfl⟩⟩
theorem tok184 : TyOk Tryz.prog 184 T184 := ⟨⟨_, Tryz.underlying184, rfl⟩, ⟨_, _, Tryz.type184, rfl, rfl, rfl, rfl, rfl, rfl, rfl⟩⟩
theorem tok186 : TyOk Tryz.prog 186 T186 := ⟨⟨_, Tryz.underlying186, ⟨_, _, _, rfl⟩⟩, ⟨_, _, Tryz.type186, rfl, rfl, rfl, rfl, rfl, rfl, rfl⟩⟩
theorem tok189 : TyOk Tryz.prog 189 T189 := ⟨⟨_, Tryz.underlying189, ⟨_, _, _, rfl⟩⟩, ⟨_, _, Tryz.type189, rfl, rfl, rfl, rfl, rfl, rfl, rfl⟩⟩
theorem tok191 : TyOk Tryz.prog 191 T191 := ⟨⟨_, Tryz.underlying191, rfl⟩, ⟨_, _, Tryz.type191, rfl, rfl, rfl, rfl, rfl, rfl, rfl⟩⟩
theorem tok193 : TyOk Tryz.prog 193 T193 := ⟨⟨_, Tryz.underlying193, ⟨_, rfl, rfl⟩⟩, ⟨_, _, Tryz.type193, rfl, rfl, rfl, rfl, rfl, rfl, rfl⟩⟩
theorem tok194 : TyOk Tryz.prog 194 T194 := ⟨⟨_, Tryz.underlying194, rfl⟩, ⟨_, _, Tryz.type194, rfl, rfl, rfl, rfl, rfl, rfl, rfl⟩⟩
theorem tok196 : TyOk Tryz.prog 196 T196 := ⟨⟨_, Tryz.underlying196, ⟨_, rfl, rfl⟩⟩, ⟨_, _, Tryz.type196, rfl, rfl, rfl, rfl, rfl, rfl, rfl⟩⟩
theorem tok198 : TyOk Tryz.prog 198 T198 := ⟨⟨_, Tryz.underlying198, rfl⟩, ⟨_, _, Tryz.type198, rfl, rfl, rfl, rfl, rfl, rfl, rfl⟩⟩
theorem tok200 : TyOk Tryz.prog 200 T200 := ⟨⟨_, Tryz.underlying200, ⟨_, rfl, rfl⟩⟩, ⟨_, _, Tryz.type200, rfl, rfl, rfl, rfl, rfl, rfl, rfl⟩⟩
theorem tok203 : TyOk Tryz.prog 203 T203 := ⟨⟨_, Tryz.underlying203, ⟨_, rfl⟩⟩, ⟨_, _, Tryz.type203, rfl, rfl, rfl, rfl, rfl, rfl, rfl⟩⟩
theorem tok205 : TyOk Tryz.prog 205 T205 := ⟨⟨_, Tryz.underlying205, rfl⟩, ⟨_, _, Tryz.type205, rfl, rfl, rfl, rfl, rfl, rfl, rfl⟩⟩
theorem tok210 : TyOk Tryz.prog 210 T210 := ⟨⟨_, Tryz.underlying210, ⟨_, _, _, rfl⟩⟩, ⟨_, _, Tryz.type210, rfl, rfl, rfl, rfl, rfl, rfl, rfl⟩⟩
theorem tok214 : TyOk Tryz.prog 214 T214 := ⟨⟨_, Tryz.underlying214, rfl⟩, ⟨_, _, Tryz.type214, rfl, rfl, rfl, rfl, rfl, rfl, rfl⟩⟩
theorem tok217 : TyOk Tryz.prog 217 T217 := ⟨⟨_, Tryz.underlying217, ⟨_, rfl, rfl⟩⟩, ⟨_, _, Tryz.type217, rfl, rfl, rfl, rfl, rfl, rfl, rfl⟩⟩
theorem tok220 : TyOk Tryz.prog 220 T220 := ⟨⟨_, Tryz.underlying220, ⟨_, _, _, rfl⟩⟩, ⟨_, _, Tryz.type220, rfl, rfl, rfl, rfl, rfl, rfl, rfl⟩⟩
theorem tok221 : TyOk Tryz.prog 221 T221 := ⟨⟨_, Tryz.underlying221, ⟨_, _, _, rfl⟩⟩, ⟨_, _, Tryz.type221, rfl, rfl, rfl, rfl, rfl, rfl, rfl⟩⟩
theorem tok227 : TyOk Tryz.prog 227 T227 := ⟨⟨_, Tryz.underlying227, rfl⟩, ⟨_, _, Tryz.type227, rfl, rfl, rfl, rfl, rfl, rfl, rfl⟩⟩
theorem tok230 : TyOk Tryz.prog 230 T230 := ⟨⟨_, Tryz.underlying230, ⟨_, _, _, rfl⟩⟩, ⟨_, _, Tryz.type230, rfl, rfl, rfl, rfl, rfl, rfl, rfl⟩⟩
theorem tok231 : TyOk Tryz.prog 231 T231 := ⟨⟨_, Tryz.underlying231, ⟨_, _, _, rfl⟩⟩, ⟨_, _, Tryz.type231, rfl, rfl, rfl, rfl, rfl, rfl, rfl⟩⟩
theorem tok235 : TyOk Tryz.prog 235 T235 := ⟨⟨_, Tryz.underlying235, ⟨_, rfl, rfl⟩⟩, ⟨_, _, Tryz.type235, rfl, rfl, rfl, rfl, rfl, rfl, rfl⟩⟩
theorem tok253 : TyOk Tryz.prog 253 T253 := ⟨⟨_, Tryz.underlying253, rfl⟩, ⟨_, _, Tryz.type253, rfl, rfl, rfl, rfl, rfl, rfl, rfl⟩⟩
theorem tok256 : TyOk Tryz.prog 256 T256 := ⟨⟨_, Tryz.underlying256, ⟨_, _, _, rfl⟩⟩, ⟨_, _, Tryz.type256, rfl, rfl, rfl, rfl, rfl, rfl, rfl⟩⟩
theorem tok261 : TyOk Tryz.prog 261 T261 := ⟨⟨_, Tryz.underlying261, rfl⟩, ⟨_, _, Tryz.type261, rfl, rfl, rfl, rfl, rfl, rfl, rfl⟩⟩
theorem tok263 : TyOk Tryz.prog 263 T263 := ⟨⟨_, Tryz.underlying263, rfl⟩, ⟨_, _, Tryz.type263, rfl, rfl, rfl, rfl, rfl, rfl, rfl⟩⟩
theorem tok267 : TyOk Tryz.prog 267 T267 := ⟨⟨_, Tryz.underlying267, rfl⟩, ⟨_, _, Tryz.type267, rfl, rfl, rfl, rfl, rfl, rfl, rfl⟩⟩
theorem tok269 : TyOk Tryz.prog 269 T269 := ⟨⟨_, Tryz.underlying269, rfl⟩, ⟨_, _, Tryz.type269, rfl, rfl, rfl, rfl, rfl, rfl, rfl⟩⟩
theorem tok273 : TyOk Tryz.prog 273 T273 := ⟨⟨_, Tryz.underlying273, ⟨_, rfl, rfl⟩⟩, ⟨_, _, Tryz.type273, rfl, rfl, rfl, rfl, rfl, rfl, rfl⟩⟩
theorem tok274 : TyOk Tryz.prog 274 T274 := ⟨⟨_, Tryz.underlying274, rfl⟩, ⟨_, _, Tryz.type274, rfl, rfl, rfl, rfl, rfl, rfl, rfl⟩⟩
theorem tok276 : TyOk Tryz.prog 276 T276 := ⟨⟨_, Tryz.underlying276, ⟨_, rfl, rfl⟩⟩, ⟨_, _, Tryz.type276, rfl, rfl, rfl, rfl, rfl, rfl, rfl⟩⟩
theorem tok278 : TyOk Tryz.prog 278 T278 := ⟨⟨_, Tryz.underlying278, rfl⟩, ⟨_, _, Tryz.type278, rfl, rfl, rfl, rfl, rfl, rfl, rfl⟩⟩
theorem tok279 : TyOk Tryz.prog 279 T279 := ⟨⟨_, Tryz.underlying279, ⟨_, _, _, rfl⟩⟩, ⟨_, _, Tryz.type279, rfl, rfl, rfl, rfl, rfl, rfl, rfl⟩⟩
theorem tok280 : TyOk Tryz.prog 280 T280 := ⟨⟨_, Tryz.underlying280, rfl⟩, ⟨_, _, Tryz.type280, rfl, rfl, rfl, rfl, rfl, rfl, rfl⟩⟩
theorem tok281 : TyOk Tryz.prog 281 T281 := ⟨⟨_, Tryz.underlying281, rfl⟩, ⟨_, _, Tryz.type281, rfl, rfl, rfl, rfl, rfl, rfl, rfl⟩⟩
theorem tok282 : TyOk Tryz.prog 282 T282 := ⟨⟨_, Tryz.underlying282, rfl⟩, ⟨_, _, Tryz.type282, rfl, rfl, rfl, rfl, rfl, rfl, rfl⟩⟩
theorem tok284 : TyOk Tryz.prog 284 T284 := ⟨⟨_, Tryz.underlying284, ⟨_, rfl, rfl⟩⟩, ⟨_, _, Tryz.type284, rfl, rfl, rfl, rfl, rfl, rfl, rfl⟩⟩
def tyL : List (Nat × TI) := [(1, T1), (2, T2), (3, T3), (4, T4), (5, T5), (6, T6), (7, T7), (8, T8), (9, T9), (10, T10), (11, T11), (12, T12), (13, T13), (14, T14), (15, T15), (16, T16), (17, T17), (18, T18), (19, T19), (20, T20), (21, T21), (22, T22), (23, T23), (24, T24), (25, T25), (26, T26), (27, T27), (28, T28), (29, T29), (30, T30), (32, T32), (33, T33), (34, T34), (36, T36), (37, T37), (38, T38), (39, T39), (40, T40), (41, T41), (42, T42), (43, T43), (44, T44), (45, T45), (46, T46), (47, T47), (48, T48), (49, T49), (50, T50), (52, T52), (53, T53), (54, T54), (55, T55), (56, T56), (57, T57), (58, T58), (59, T59), (61, T61), (62, T62), (64, T64), (65, T65), (66, T66), (67, T67), (70, T70), (72, T72), (74, T74), (76, T76), (77, T77), (78, T78), (84, T84), (85, T85), (90, T90), (92, T92), (97, T97), (98, T98), (100, T100), (101, T101), (102, T102), (103, T103), (105, T105), (108, T108), (109, T109), (110, T110), (111, T111), (112, T112), (113, T113), (114, T114), (115, T115), (116, T116), (118, T118), (122, T122), (127, T127), (130, T130), (134, T134), (142, T142), (148, T148), (149, T149), (152, T152), (153, T153), (156, T156), (158, T158), (164, T164), (167, T167), (168, T168), (169, T169), (180, T180), (184, T184), (186, T186), (189, T189), (191, T191), (193, T193), (194, T194), (196, T196), (198, T198), (200, T200), (203, T203), (205, T205), (210, T210), (214, T214), (217, T217), (220, T220), (221, T221), (227, T227), (230, T230), (231, T231), (235, T235), (253, T253), (256, T256), (261, T261), (263, T263), (267, T267), (269, T269), (273, T273), (274, T274), (276, T276), (278, T278), (279, T279), (280, T280), (281, T281), (282, T282), (284, T284)]
theorem tyL_ok : ∀ x ∈ tyL, TyOk Tryz.prog x.1 x.2 := List.forall_mem_cons.2 ⟨tok1, List.forall_mem_cons.2 ⟨tok2, List.forall_mem_cons.2 ⟨tok3, List.forall_mem_cons.2 ⟨tok4, List.forall_mem_cons.2 ⟨tok5, List.forall_mem_cons.2 ⟨tok6, List.forall_mem_cons.2 ⟨tok7, List.forall_mem_cons.2 ⟨tok8, List.forall_mem_cons.2 ⟨tok9, List.forall_mem_cons.2 ⟨tok10, List.forall_mem_cons.2 ⟨tok11, List.forall_mem_cons.2 ⟨tok12, List.forall_mem_cons.2 ⟨tok13, List.forall_mem_cons.2 ⟨tok14, List.forall_mem_cons.2 ⟨tok15, List.forall_mem_cons.2 ⟨tok16, List.forall_mem_cons.2 ⟨tok17, List.forall_mem_cons.2 ⟨tok18, List.forall_mem_cons.2 ⟨tok19, List.forall_mem_cons.2 ⟨tok20, List.forall_mem_cons.2 ⟨tok21, List.forall_mem_cons.2 ⟨tok22, List.forall_mem_cons.2 ⟨tok23, List.forall_mem_cons.2 ⟨tok24, List.forall_mem_cons.2 ⟨tok25, List.forall_mem_cons.2 ⟨tok26, List.forall_mem_cons.2 ⟨tok27, List.forall_mem_cons.2 ⟨tok28, List.forall_mem_cons.2 ⟨tok29, List.forall_mem_cons.2 ⟨tok30, List.forall_mem_cons.2 ⟨tok32, List.forall_mem_cons.2 ⟨tok33, List.forall_mem_cons.2 ⟨tok34, List.forall_mem_cons.2 ⟨tok36, List.forall_mem_cons.2 ⟨tok37, List.forall_mem_cons.2 ⟨tok38, List.forall_mem_cons.2 ⟨tok39, List.forall_mem_cons.2 ⟨tok40, List.forall_mem_cons.2 ⟨tok41, List.forall_mem_cons.2 ⟨tok42, List.forall_mem_cons.2 ⟨tok43, List.forall_mem_cons.2 ⟨tok44, List.forall_mem_cons.2 ⟨tok45, List.forall_mem_cons.2 ⟨tok46, List.forall_mem_cons.2 ⟨tok47, List.forall_mem_cons.2 ⟨tok48, List.forall_mem_cons.2 ⟨tok49, List.forall_mem_cons.2 ⟨tok50, List.forall_mem_cons.2 ⟨tok52, List.forall_mem_cons.2 ⟨tok53, List.forall_mem_cons.2 ⟨tok54, List.forall_mem_cons.2 ⟨tok55, List.forall_mem_cons.2 ⟨tok56, List.forall_mem_cons.2 ⟨tok57, List.forall_mem_cons.2 ⟨tok58, List.forall_mem_cons.2 ⟨tok59, List.forall_mem_cons.2 ⟨tok61, List.forall_mem_cons.2 ⟨tok62, List.forall_mem_cons.2 ⟨tok64, List.forall_mem_cons.2 ⟨tok65, List.forall_mem_cons.2 ⟨tok66, List.forall_mem_cons.2 ⟨tok67, List.forall_mem_cons.2 ⟨tok70, List.forall_mem_cons.2 ⟨tok72, List.forall_mem_cons.2 ⟨tok74, List.forall_mem_cons.2 ⟨tok76, List.forall_mem_cons.2 ⟨tok77, List.forall_mem_cons.2 ⟨tok78, List.forall_mem_cons.2 ⟨tok84, List.forall_mem_cons.2 ⟨tok85, List.forall_mem_cons.2 ⟨tok90, List.forall_mem_cons.2 ⟨tok92, List.forall_mem_cons.2 ⟨tok97, List.forall_mem_cons.2 ⟨tok98, List.forall_mem_cons.2 ⟨tok100, List.forall_mem_cons.2 ⟨tok101, List.forall_mem_cons.2 ⟨tok102, List.forall_mem_cons.2 ⟨tok103, List.forall_mem_cons.2 ⟨tok105, List.forall_mem_cons.2 ⟨tok108, List.forall_mem_cons.2 ⟨tok109, List.forall_mem_cons.2 ⟨tok110, List.forall_mem_cons.2 ⟨tok111, List.forall_mem_cons.2 ⟨tok112, List.forall_mem_cons.2 ⟨tok113, List.forall_mem_cons.2 ⟨tok114, List.forall_mem_cons.2 ⟨tok115, List.forall_mem_cons.2 ⟨tok116, List.forall_mem_cons.2 ⟨tok118, List.forall_mem_cons.2 ⟨tok122, List.forall_mem_cons.2 ⟨tok127, List.forall_mem_cons.2 ⟨tok130, List.forall_mem_cons.2 ⟨tok134, List.forall_mem_cons.2 ⟨tok142, List.forall_mem_cons.2 ⟨tok148, List.forall_mem_cons.2 ⟨tok149, List.forall_mem_cons.2 ⟨tok152, List.forall_mem_cons.2 ⟨tok153, List.forall_mem_cons.2 ⟨tok156, List.forall_mem_cons.2 ⟨tok158, List.forall_mem_cons.2 ⟨tok164, List.forall_mem_cons.2 ⟨tok167, List.forall_mem_cons.2 ⟨tok168, List.forall_mem_cons.2 ⟨tok169, List.forall_mem_cons.2 ⟨tok180, List.forall_mem_cons.2 ⟨tok184, List.forall_mem_cons.2 ⟨tok186, List.forall_mem_cons.2 ⟨tok189, List.forall_mem_cons.2 ⟨tok191, List.forall_mem_cons.2 ⟨tok193, List.forall_mem_cons.2 ⟨tok194, List.forall_mem_cons.2 ⟨tok196, List.forall_mem_cons.2 ⟨tok198, List.forall_mem_cons.2 ⟨tok200, List.forall_mem_cons.2 ⟨tok203, List.forall_mem_cons.2 ⟨tok205, List.forall_mem_cons.2 ⟨tok210, List.forall_mem_cons.2 ⟨tok214, List.forall_mem_cons.2 ⟨tok217, List.forall_mem_cons.2 ⟨tok220, List.forall_mem_cons.2 ⟨tok221, List.forall_mem_cons.2 ⟨tok227, List.forall_mem_cons.2 ⟨tok230, List.forall_mem_cons.2 ⟨tok231, List.forall_mem_cons.2 ⟨tok235, List.forall_mem_cons.2 ⟨tok253, List.forall_mem_cons.2 ⟨tok256, List.forall_mem_cons.2 ⟨tok261, List.forall_mem_cons.2 ⟨tok263, List.forall_mem_cons.2 ⟨tok267, List.forall_mem_cons.2 ⟨tok269, List.forall_mem_cons.2 ⟨tok273, List.forall_mem_cons.2 ⟨tok274, List.forall_mem_cons.2 ⟨tok276, List.forall_mem_cons.2 ⟨tok278, List.forall_mem_cons.2 ⟨tok279, List.forall_mem_cons.2 ⟨tok280, List.forall_mem_cons.2 ⟨tok281, List.forall_mem_cons.2 ⟨tok282, List.forall_mem_cons.2 ⟨tok284, fun x hx => by cases hx⟩⟩⟩⟩⟩⟩⟩⟩⟩⟩⟩⟩⟩⟩⟩⟩⟩⟩⟩⟩⟩⟩⟩⟩⟩⟩⟩⟩⟩⟩⟩⟩⟩⟩⟩⟩⟩⟩⟩⟩⟩⟩⟩⟩⟩⟩⟩⟩⟩⟩⟩⟩⟩⟩⟩⟩⟩⟩⟩⟩⟩⟩⟩⟩⟩⟩⟩⟩⟩⟩⟩⟩⟩⟩⟩⟩⟩⟩⟩⟩⟩⟩⟩⟩⟩⟩⟩⟩⟩⟩⟩⟩⟩⟩⟩⟩⟩⟩⟩⟩⟩⟩⟩⟩⟩⟩⟩⟩⟩⟩⟩⟩⟩⟩⟩⟩⟩⟩⟩⟩⟩⟩⟩⟩⟩⟩⟩⟩⟩⟩⟩⟩⟩⟩⟩⟩⟩⟩⟩⟩
def extL : List (Nat × (List AV → Option AV)) := [(175, add64A)]
theorem skey217 : KeyLaw Tryz.prog 217 (isAggK [.int .i64, .int .i64]) := structKey Tryz.underlying217 (by kernel_rfl) (by kernel_rfl) ⟨by decide, rfl, Tryz.underlying3, ⟨by decide, rfl, Tryz.underlying3, trivial⟩⟩
def keyL : List (Nat × (D → Bool)) := [(3, isIntK .i64), (217, isAggK [.int .i64, .int .i64])]
theorem keyL_ok : ∀ x ∈ keyL, KeyLaw Tryz.prog x.1 x.2 := List.forall_mem_cons.2 ⟨intKey Tryz.underlying3, List.forall_mem_cons.2 ⟨skey217, fun x hx => by cases hx⟩⟩
def glL : List (Nat × (Nat × List (List D))) := [(0, (1, [[.iface 235 (.agg [.ptr ⟨1, 74, none⟩])]]))]
noncomputable def env : Env := { P := Tryz.prog, ty := Abs.look tyL, gl := Abs.look glL, ext := Abs.look extL, key := Abs.look keyL }
theorem extL_ok : ∀ x ∈ extL, ExtOk Tryz.prog x.1 x.2 := List.forall_mem_cons.2 ⟨add64_ok Tryz.func175 (by kernel_rfl) (by kernel_rfl) (by kernel_rfl) (by kernel_rfl), fun x hx => by cases hx⟩
theorem envOk : EnvOk env := envOk_of (look_all tyL_ok) (by kernel_rfl) (look_all extL_ok) (look_all keyL_ok)
theorem key3 : env.key 3 = some (isIntK .i64) := rfl
theorem key217 : env.key 217 = some (isAggK [.int .i64, .int .i64]) := rfl
theorem gl0 : env.gl 0 = some (1, [[.iface 235 (.agg [.ptr ⟨1, 74, none⟩])]]) := rfl
theorem ty1 : env.ty 1 = some T1 := rfl
theorem ty2 : env.ty 2 = some T2 := rfl
theorem ty3 : env.ty 3 = some T3 := rfl
theorem ty4 : env.ty 4 = some T4 := rfl
theorem ty5 : env.ty 5 = some T5 := rfl
theorem ty6 : env.ty 6 = some T6 := rfl
theorem ty7 : env.ty 7 = some T7 := rfl
theorem ty8 : env.ty 8 = some T8 := rfl
theorem ty9 : env.ty 9 = some T9 := rfl
theorem ty10 : env.ty 10 = some T10 := rfl
theorem ty11 : env.ty 11 = some T11 := rfl
theorem ty12 : env.ty 12 = some T12 := rfl
theorem ty13 : env.ty 13 = some T13 := rfl
theorem ty14 : env.ty 14 = some T14 := rfl
theorem ty15 : env.ty 15 = some T15 := rfl
theorem ty16 : env.ty 16 = some T16 := rfl
theorem ty17 : env.ty 17 = some T17 := rfl
theorem ty18 : env.ty 18 = some T18 := rfl
theorem ty19 : env.ty 19 = some T19 := rfl
theorem ty20 : env.ty 20 = some T20 := rfl
theorem ty21 : env.ty 21 = some T21 := rfl
theorem ty22 : env.ty 22 = some T22 := rfl
theorem ty23 : env.ty 23 = some T23 := rfl
theorem ty24 : env.ty 24 = some T24 := rfl
theorem ty25 : env.ty 25 = some T25 := rfl
theorem ty26 : env.ty 26 = some T26 := rfl
theorem ty27 : env.ty 27 = some T27 := rfl
theorem ty28 : env.ty 28 = some T28 := rfl
theorem ty29 : env.ty 29 = some T29 := rfl
theorem ty30 : env.ty 30 = some T30 := rfl
theorem ty32 : env.ty 32 = some T32 := rfl
theorem ty33 : env.ty 33 = some T33 := rfl
theorem ty34 : env.ty 34 = some T34 := rfl
theorem ty36 : env.ty 36 = some T36 := rfl
theorem ty37 : env.ty 37 = some T37 := rfl
theorem ty38 : env.ty 38 = some T38 := rfl
theorem ty39 : env.ty 39 = some T39 := rfl
theorem ty40 : env.ty 40 = some T40 := rfl
theorem ty41 : env.ty 41 = some T41 := rfl
theorem ty42 : env.ty 42 = some T42 := rfl
theorem ty43 : env.ty 43 = some T43 := rfl
theorem ty44 : env.ty 44 = some T44 := rfl
theorem ty45 : env.ty 45 = some T45 := rfl
theorem ty46 : env.ty 46 = some T46 := rfl
theorem ty47 : env.ty 47 = some T47 := rfl
theorem ty48 : env.ty 48 = some T48 := rfl
theorem ty49 : env.ty 49 = some T49 := rfl
theorem ty50 : env.ty 50 = some T50 := rfl
theorem ty52 : env.ty 52 = some T52 := rfl
theorem ty53 : env.ty 53 = some T53 := rfl
theorem ty54 : env.ty 54 = some T54 := rfl
theorem ty55 : env.ty 55 = some T55 := rfl
theorem ty56 : env.ty 56 = some T56 := rfl
theorem ty57 : env.ty 57 = some T57 := rfl
theorem ty58 : env.ty 58 = some T58 := rfl
theorem ty59 : env.ty 59 = some T59 := rfl
theorem ty61 : env.ty 61 = some T61 := rfl
theorem ty62 : env.ty 62 = some T62 := rfl
theorem ty64 : env.ty 64 = some T64 := rfl
theorem ty65 : env.ty 65 = some T65 := rfl
theorem ty66 : env.ty 66 = some T66 := rfl
theorem ty67 : env.ty 67 = some T67 := rfl
theorem ty70 : env.ty 70 = some T70 := rfl
theorem ty72 : env.ty 72 = some T72 := rfl
theorem ty74 : env.ty 74 = some T74 := rfl
theorem ty76 : env.ty 76 = some T76 := rfl
theorem ty77 : env.ty 77 = some T77 := rfl
theorem ty78 : env.ty 78 = some T78 := rfl
theorem ty84 : env.ty 84 = some T84 := rfl
theorem ty85 : env.ty 85 = some T85 := rfl
theorem ty90 : env.ty 90 = some T90 := rfl
theorem ty92 : env.ty 92 = some T92 := rfl
theorem ty97 : env.ty 97 = some T97 := rfl
theorem ty98 : env.ty 98 = some T98 := rfl
theorem ty100 : env.ty 100 = some T100 := rfl
theorem ty101 : env.ty 101 = some T101 := rfl
theorem ty102 : env.ty 102 = some T102 := rfl
theorem ty103 : env.ty 103 = some T103 := rfl
theorem ty105 : env.ty 105 = some T105 := rfl
theorem ty108 : env.ty 108 = some T108 := rfl
theorem ty109 : env.ty 109 = some T109 := rfl
theorem ty110 : env.ty 110 = some T110 := rfl
theorem ty111 : env.ty 111 = some T111 := rfl
theorem ty112 : env.ty 112 = some T112 := rfl
theorem ty113 : env.ty 113 = some T113 := rfl
theorem ty114 : env.ty 114 = some T114 := rfl
theorem ty115 : env.ty 115 = some T115 := rfl
theorem ty116 : env.ty 116 = some T116 := rfl
theorem ty118 : env.ty 118 = some T118 := rfl
theorem ty122 : env.ty 122 = some T122 := rfl
theorem ty127 : env.ty 127 = some T127 := rfl
theorem ty130 : env.ty 130 = some T130 := rfl
theorem ty134 : env.ty 134 = some T134 := rfl
theorem ty142 : env.ty 142 = some T142 := rfl
theorem ty148 : env.ty 148 = some T148 := rfl
theorem ty149 : env.ty 149 = some T149 := rfl
theorem ty152 : env.ty 152 = some T152 := rfl
theorem ty153 : env.ty 153 = some T153 := rfl
theorem ty156 : env.ty 156 = some T156 := rfl
theorem ty158 : env.ty 158 = some T158 := rfl
theorem ty164 : env.ty 164 = some T164 := rfl
theorem ty167 : env.ty 167 = some T167 := rfl
theorem ty168 : env.ty 168 = some T168 := rfl
theorem ty169 : env.ty 169 = some T169 := rfl
theorem ty180 : env.ty 180 = some T180 := rfl
theorem ty184 : env.ty 184 = some T184 := rfl
theorem ty186 : env.ty 186 = some T186 := rfl
theorem ty189 : env.ty 189 = some T189 := rfl
theorem ty191 : env.ty 191 = some T191 := rfl
theorem ty193 : env.ty 193 = some T193 := rfl
theorem ty194 : env.ty 194 = some T194 := rfl
theorem ty196 : env.ty 196 = some T196 := rfl
theorem ty198 : env.ty 198 = some T198 := rfl
theorem ty200 : env.ty 200 = some T200 := rfl
theorem ty203 : env.ty 203 = some T203 := rfl
theorem ty205 : env.ty 205 = some T205 := rfl
theorem ty210 : env.ty 210 = some T210 := rfl
theorem ty214 : env.ty 214 = some T214 := rfl
theorem ty217 : env.ty 217 = some T217 := rfl
theorem ty220 : env.ty 220 = some T220 := rfl
theorem ty221 : env.ty 221 = some T221 := rfl
theorem ty227 : env.ty 227 = some T227 := rfl
theorem ty230 : env.ty 230 = some T230 := rfl
theorem ty231 : env.ty 231 = some T231 := rfl
theorem ty235 : env.ty 235 = some T235 := rfl
theorem ty253 : env.ty 253 = some T253 := rfl
theorem ty256 : env.ty 256 = some T256 := rfl
theorem ty261 : env.ty 261 = some T261 := rfl
theorem ty263 : env.ty 263 = some T263 := rfl
theorem ty267 : env.ty 267 = some T267 := rfl
theorem ty269 : env.ty 269 = some T269 := rfl
theorem ty273 : env.ty 273 = some T273 := rfl
theorem ty274 : env.ty 274 = some T274 := rfl
theorem ty276 : env.ty 276 = some T276 := rfl
theorem ty278 : env.ty 278 = some T278 := rfl
theorem ty279 : env.ty 279 = some T279 := rfl
theorem ty280 : env.ty 280 = some T280 := rfl
theorem ty281 : env.ty 281 = some T281 := rfl
theorem ty282 : env.ty 282 = some T282 := rfl
theorem ty284 : env.ty 284 = some T284 := rfl
theorem ext3 : env.ext 3 = none := rfl
theorem ext4 : env.ext 4 = none := rfl
theorem ext5 : env.ext 5 = none := rfl
theorem ext11 : env.ext 11 = none := rfl
theorem ext12 : env.ext 12 = none := rfl
theorem ext13 : env.ext 13 = none := rfl
theorem ext14 : env.ext 14 = none := rfl
theorem ext15 : env.ext 15 = none := rfl
theorem ext16 : env.ext 16 = none := rfl
theorem ext17 : env.ext 17 = none := rfl
theorem ext18 : env.ext 18 = none := rfl
theorem ext19 : env.ext 19 = none := rfl
theorem ext20 : env.ext 20 = none := rfl
theorem ext21 : env.ext 21 = none := rfl
theorem ext22 : env.ext 22 = none := rfl
theorem ext23 : env.ext 23 = none := rfl
theorem ext24 : env.ext 24 = none := rfl
theorem ext25 : env.ext 25 = none := rfl
theorem ext26 : env.ext 26 = none := rfl
theorem ext27 : env.ext 27 = none := rfl
theorem ext28 : env.ext 28 = none := rfl
theorem ext38 : env.ext 38 = none := rfl
theorem ext39 : env.ext 39 = none := rfl
theorem ext40 : env.ext 40 = none := rfl
theorem ext41 : env.ext 41 = none := rfl
theorem ext42 : env.ext 42 = none := rfl
theorem ext43 : env.ext 43 = none := rfl
theorem ext44 : env.ext 44 = none := rfl
theorem ext45 : env.ext 45 = none := rfl
theorem ext46 : env.ext 46 = none := rfl
theorem ext47 : env.ext 47 = none := rfl
theorem ext48 : env.ext 48 = none := rfl
theorem ext49 : env.ext 49 = none := rfl
theorem ext50 : env.ext 50 = none := rfl
theorem ext51 : env.ext 51 = none := rfl
theorem ext52 : env.ext 52 = none := rfl
theorem ext53 : env.ext 53 = none := rfl
theorem ext54 : env.ext 54 = none := rfl
theorem ext55 : env.ext 55 = none := rfl
theorem ext56 : env.ext 56 = none := rfl
theorem ext57 : env.ext 57 = none := rfl
theorem ext58 : env.ext 58 = none := rfl
theorem ext59 : env.ext 59 = none := rfl
theorem ext60 : env.ext 60 = none := rfl
theorem ext61 : env.ext 61 = none := rfl
theorem ext62 : env.ext 62 = none := rfl
theorem ext63 : env.ext 63 = none := rfl
theorem ext64 : env.ext 64 = none := rfl
theorem ext65 : env.ext 65 = none := rfl
theorem ext66 : env.ext 66 = none := rfl
theorem ext67 : env.ext 67 = none := rfl
theorem ext71 : env.ext 71 = none := rfl
theorem ext73 : env.ext 73 = none := rfl
theorem ext74 : env.ext 74 = none := rfl
theorem ext75 : env.ext 75 = none := rfl
theorem ext76 : env.ext 76 = none := rfl
theorem ext77 : env.ext 77 = none := rfl
theorem ext78 : env.ext 78 = none := rfl
theorem ext79 : env.ext 79 = none := rfl
theorem ext80 : env.ext 80 = none := rfl
theorem ext81 : env.ext 81 = none := rfl
theorem ext82 : env.ext 82 = none := rfl
theorem ext83 : env.ext 83 = none := rfl
theorem ext84 : env.ext 84 = none := rfl
theorem ext85 : env.ext 85 = none := rfl
theorem ext86 : env.ext 86 = none := rfl
theorem ext87 : env.ext 87 = none := rfl
theorem ext88 : env.ext 88 = none := rfl
theorem ext89 : env.ext 89 = none := rfl
theorem ext90 : env.ext 90 = none := rfl
theorem ext91 : env.ext 91 = none := rfl
theorem ext92 : env.ext 92 = none := rfl
theorem ext93 : env.ext 93 = none := rfl
theorem ext94 : env.ext 94 = none := rfl
theorem ext95 : env.ext 95 = none := rfl
theorem ext96 : env.ext 96 = none := rfl
theorem ext97 : env.ext 97 = none := rfl
theorem ext98 : env.ext 98 = none := rfl
theorem ext99 : env.ext 99 = none := rfl
theorem ext100 : env.ext 100 = none := rfl
theorem ext101 : env.ext 101 = none := rfl
theorem ext102 : env.ext 102 = none := rfl
theorem ext103 : env.ext 103 = none := rfl
theorem ext104 : env.ext 104 = none := rfl
theorem ext105 : env.ext 105 = none := rfl
theorem ext106 : env.ext 106 = none := rfl
theorem ext107 : env.ext 107 = none := rfl
theorem ext111 : env.ext 111 = none := rfl
theorem ext112 : env.ext 112 = none := rfl
theorem ext114 : env.ext 114 = none := rfl
theorem ext115 : env.ext 115 = none := rfl
theorem ext116 : env.ext 116 = none := rfl
theorem ext117 : env.ext 117 = none := rfl
theorem ext118 : env.ext 118 = none := rfl
theorem ext119 : env.ext 119 = none := rfl
theorem ext120 : env.ext 120 = none := rfl
theorem ext121 : env.ext 121 = none := rfl
theorem ext122 : env.ext 122 = none := rfl
theorem ext123 : env.ext 123 = none := rfl
theorem ext124 : env.ext 124 = none := rfl
theorem ext125 : env.ext 125 = none := rfl
theorem ext126 : env.ext 126 = none := rfl
theorem ext127 : env.ext 127 = none := rfl
theorem ext128 : env.ext 128 = none := rfl
theorem ext129 : env.ext 129 = none := rfl
theorem ext130 : env.ext 130 = none := rfl
theorem ext131 : env.ext 131 = none := rfl
theorem ext132 : env.ext 132 = none := rfl
theorem ext133 : env.ext 133 = none := rfl
theorem ext134 : env.ext 134 = none := rfl
theorem ext135 : env.ext 135 = none := rfl
theorem ext136 : env.ext 136 = none := rfl
theorem ext137 : env.ext 137 = none := rfl
theorem ext138 : env.ext 138 = none := rfl
theorem ext139 : env.ext 139 = none := rfl
theorem ext140 : env.ext 140 = none := rfl
theorem ext141 : env.ext 141 = none := rfl
theorem ext142 : env.ext 142 = none := rfl
theorem ext143 : env.ext 143 = none := rfl
theorem ext144 : env.ext 144 = none := rfl
theorem ext145 : env.ext 145 = none := rfl
theorem ext146 : env.ext 146 = none := rfl
theorem ext147 : env.ext 147 = none := rfl
theorem ext148 : env.ext 148 = none := rfl
theorem ext149 : env.ext 149 = none := rfl
theorem ext150 : env.ext 150 = none := rfl
theorem ext151 : env.ext 151 = none := rfl
theorem ext152 : env.ext 152 = none := rfl
theorem ext153 : env.ext 153 = none := rfl
theorem ext154 : env.ext 154 = none := rfl
theorem ext155 : env.ext 155 = none := rfl
theorem ext156 : env.ext 156 = none := rfl
theorem ext157 : env.ext 157 = none := rfl
theorem ext158 : env.ext 158 = none := rfl
theorem ext159 : env.ext 159 = none := rfl
theorem ext160 : env.ext 160 = none := rfl
theorem ext161 : env.ext 161 = none := rfl
theorem ext162 : env.ext 162 = none := rfl
theorem ext163 : env.ext 163 = none := rfl
theorem ext164 : env.ext 164 = none := rfl
theorem ext165 : env.ext 165 = none := rfl
theorem ext166 : env.ext 166 = none := rfl
theorem ext167 : env.ext 167 = none := rfl
theorem ext168 : env.ext 168 = none := rfl
theorem ext169 : env.ext 169 = none := rfl
theorem ext170 : env.ext 170 = none := rfl
theorem ext171 : env.ext 171 = none := rfl
theorem ext172 : env.ext 172 = none := rfl
theorem ext173 : env.ext 173 = none := rfl
theorem ext174 : env.ext 174 = none := rfl
theorem ext175 : env.ext 175 = some add64A := rfl
theorem ext176 : env.ext 176 = none := rfl
theorem ext177 : env.ext 177 = none := rfl
theorem ext178 : env.ext 178 = none := rfl
theorem ext179 : env.ext 179 = none := rfl
theorem ext180 : env.ext 180 = none := rfl
theorem ext181 : env.ext 181 = none := rfl
theorem ext182 : env.ext 182 = none := rfl
theorem ext183 : env.ext 183 = none := rfl
theorem ext184 : env.ext 184 = none := rfl
theorem ext185 : env.ext 185 = none := rfl
theorem ext186 : env.ext 186 = none := rfl
theorem ext187 : env.ext 187 = none := rfl
theorem ext188 : env.ext 188 = none := rfl
theorem ext189 : env.ext 189 = none := rfl
theorem ext190 : env.ext 190 = none := rfl
theorem ext191 : env.ext 191 = none := rfl
theorem ext192 : env.ext 192 = none := rfl
theorem ext193 : env.ext 193 = none := rfl
theorem ext194 : env.ext 194 = none := rfl
theorem ext195 : env.ext 195 = none := rfl
theorem ext196 : env.ext 196 = none := rfl
theorem ext197 : env.ext 197 = none := rfl
theorem ext198 : env.ext 198 = none := rfl
theorem ext199 : env.ext 199 = none := rfl
theorem ext200 : env.ext 200 = none := rfl
theorem ext201 : env.ext 201 = none := rfl
theorem ext202 : env.ext 202 = none := rfl
theorem ext203 : env.ext 203 = none := rfl
theorem ext204 : env.ext 204 = none := rfl
theorem ext205 : env.ext 205 = none := rfl
theorem ext206 : env.ext 206 = none := rfl
theorem ext207 : env.ext 207 = none := rfl
theorem ext208 : env.ext 208 = none := rfl
theorem ext223 : env.ext 223 = none := rfl
theorem ext237 : env.ext 237 = none := rfl
theorem ext238 : env.ext 238 = none := rfl
theorem ext239 : env.ext 239 = none := rfl
theorem ext240 : env.ext 240 = none := rfl
attribute [push_cast] ty1 ty2 ty3 ty4 ty5 ty6 ty7 ty8 ty9 ty10 ty11 ty12 ty13 ty14 ty15 ty16 ty17 ty18 ty19 ty20 ty21 ty22 ty23 ty24 ty25 ty26 ty27 ty28 ty29 ty30
 ty32 ty33 ty34 ty36 ty37 ty38 ty39 ty40 ty41 ty42 ty43 ty44 ty45 ty46 ty47 ty48 ty49 ty50 ty52 ty53 ty54 ty55 ty56 ty57 ty58 ty59 ty61 ty62
 ty64 ty65 ty66 ty67 ty70 ty72 ty74 ty76 ty77 ty78 ty84 ty85 ty90 ty92 ty97 ty98 ty100 ty101 ty102 ty103 ty105 ty108 ty109 ty110 ty111 ty112
 ty113 ty114 ty115 ty116 ty118 ty122 ty127 ty130 ty134 ty142 ty148 ty149 ty152 ty153 ty156 ty158 ty164 ty167 ty168 ty169 ty180 ty184 ty186
 ty189 ty191 ty193 ty194 ty196 ty198 ty200 ty203 ty205 ty210 ty214 ty217 ty220 ty221 ty227 ty230 ty231 ty235 ty253 ty256 ty261 ty263 ty267
 ty269 ty273 ty274 ty276 ty278 ty279 ty280 ty281 ty282 ty284 T1 T2 T3 T4 T5 T6 T7 T8 T9 T10 T11 T12 T13 T14 T15 T16 T17 T18 T19 T20 T21 T22
 T23 T24 T25 T26 T27 T28 T29 T30 T32 T33 T34 T36 T37 T38 T39 T40 T41 T42 T43 T44 T45 T46 T47 T48 T49 T50 T52 T53 T54 T55 T56 T57 T58 T59 T61
 T62 T64 T65 T66 T67 T70 T72 T74 T76 T77 T78 T84 T85 T90 T92 T97 T98 T100 T101 T102 T103 T105 T108 T109 T110 T111 T112 T113 T114 T115 T116
 T118 T122 T127 T130 T134 T142 T148 T149 T152 T153 T156 T158 T164 T167 T168 T169 T180 T184 T186 T189 T191 T193 T194 T196 T198 T200 T203 T205
 T210 T214 T217 T220 T221 T227 T230 T231 T235 T253 T256 T261 T263 T267 T269 T273 T274 T276 T278 T279 T280 T281 T282 T284 ext3 ext4 ext5 ext11
 ext12 ext13 ext14 ext15 ext16 ext17 ext18 ext19 ext20 ext21 ext22 ext23 ext24 ext25 ext26 ext27 ext28 ext38 ext39 ext40 ext41 ext42 ext43
 ext44 ext45 ext46 ext47 ext48 ext49 ext50 ext51 ext52 ext53 ext54 ext55 ext56 ext57 ext58 ext59 ext60 ext61 ext62 ext63 ext64 ext65 ext66
 ext67 ext71 ext73 ext74 ext75 ext76 ext77 ext78 ext79 ext80 ext81 ext82 ext83 ext84 ext85 ext86 ext87 ext88 ext89 ext90 ext91 ext92 ext93
 ext94 ext95 ext96 ext97 ext98 ext99 ext100 ext101 ext102 ext103 ext104 ext105 ext106 ext107 ext111 ext112 ext114 ext115 ext116 ext117 ext118
 ext119 ext120 ext121 ext122 ext123 ext124 ext125 ext126 ext127 ext128 ext129 ext130 ext131 ext132 ext133 ext134 ext135 ext136 ext137 ext138
 ext139 ext140 ext141 ext142 ext143 ext144 ext145 ext146 ext147 ext148 ext149 ext150 ext151 ext152 ext153 ext154 ext155 ext156 ext157 ext158
 ext159 ext160 ext161 ext162 ext163 ext164 ext165 ext166 ext167 ext168 ext169 ext170 ext171 ext172 ext173 ext174 ext175 ext176 ext177 ext178
 ext179 ext180 ext181 ext182 ext183 ext184 ext185 ext186 ext187 ext188 ext189 ext190 ext191 ext192 ext193 ext194 ext195 ext196 ext197 ext198
 ext199 ext200 ext201 ext202 ext203 ext204 ext205 ext206 ext207 ext208 ext223 ext237 ext238 ext239 ext240 Tryz.results3 Tryz.results4
 Tryz.results5 Tryz.results11 Tryz.results12 Tryz.results13 Tryz.results14 Tryz.results15 Tryz.results16 Tryz.results17 Tryz.results18
 Tryz.results19 Tryz.results20 Tryz.results21 Tryz.results22 Tryz.results23 Tryz.results24 Tryz.results25 Tryz.results26 Tryz.results27
 Tryz.results28 Tryz.results38 Tryz.results39 Tryz.results40 Tryz.results41 Tryz.results42 Tryz.results43 Tryz.results44 Tryz.results45
 Tryz.results46 Tryz.results47 Tryz.results48 Tryz.results49 Tryz.results50 Tryz.results51 Tryz.results52 Tryz.results53 Tryz.results54
 Tryz.results55 Tryz.results56 Tryz.results57 Tryz.results58 Tryz.results59 Tryz.results60 Tryz.results61 Tryz.results62 Tryz.results63
 Tryz.results64 Tryz.results65 Tryz.results66 Tryz.results67 Tryz.results71 Tryz.results73 Tryz.results74 Tryz.results75 Tryz.results76
 Tryz.results77 Tryz.results78 Tryz.results79 Tryz.results80 Tryz.results81 Tryz.results82 Tryz.results83 Tryz.results84 Tryz.results85
 Tryz.results86 Tryz.results87 Tryz.results88 Tryz.results89 Tryz.results90 Tryz.results91 Tryz.results92 Tryz.results93 Tryz.results94
 Tryz.results95 Tryz.results96 Tryz.results97 Tryz.results98 Tryz.results99 Tryz.results100 Tryz.results101 Tryz.results102 Tryz.results103
 Tryz.results104 Tryz.results105 Tryz.results106 Tryz.results107 Tryz.results111 Tryz.results112 Tryz.results114 Tryz.results115
 Tryz.results116 Tryz.results117 Tryz.results118 Tryz.results119 Tryz.results120 Tryz.results121 Tryz.results122 Tryz.results123
 Tryz.results124 Tryz.results125 Tryz.results126 Tryz.results127 Tryz.results128 Tryz.results129 Tryz.results130 Tryz.results131
 Tryz.results132 Tryz.results133 Tryz.results134 Tryz.results135 Tryz.results136 Tryz.results137 Tryz.results138 Tryz.results139
 Tryz.results140 Tryz.results141 Tryz.results142 Tryz.results143 Tryz.results144 Tryz.results145 Tryz.results146 Tryz.results147
 Tryz.results148 Tryz.results149 Tryz.results150 Tryz.results151 Tryz.results152 Tryz.results153 Tryz.results154 Tryz.results155
 Tryz.results156 Tryz.results158 Tryz.results159 Tryz.results160 Tryz.results161 Tryz.results162 Tryz.results163 Tryz.results164
 Tryz.results165 Tryz.results166 Tryz.results167 Tryz.results168 Tryz.results170 Tryz.results171 Tryz.results172 Tryz.results173
 Tryz.results174 Tryz.results176 Tryz.results177 Tryz.results178 Tryz.results179 Tryz.results180 Tryz.results181 Tryz.results182
 Tryz.results183 Tryz.results184 Tryz.results185 Tryz.results186 Tryz.results187 Tryz.results188 Tryz.results189 Tryz.results190
 Tryz.results191 Tryz.results192 Tryz.results193 Tryz.results194 Tryz.results195 Tryz.results196 Tryz.results197 Tryz.results198
 Tryz.results199 Tryz.results200 Tryz.results201 Tryz.results202 Tryz.results203 Tryz.results204 Tryz.results205 Tryz.results206
 Tryz.results207 Tryz.results208 Tryz.results223 Tryz.results237 Tryz.results238 Tryz.results239 Tryz.results240
end Go.Proofs.YtmeicgbddgeeoaaGreatDoor
end
section
namespace Go.Proofs
open Go.Shelf
end Go.Proofs
end
section
set_option autoImplicit false
set_option linter.unusedVariables false
set_option linter.unusedSimpArgs false
namespace Go.Proofs.YtmeicgbddgeeoaaGreatDoor
open Go.Abs
def errD : Option Int → D
 | none => .nili
 | some c => .iface 122 (.int .i64 c)
def Tb {α : Type} (f : α → D) (sz : Int) (L : List (Int × α)) : List AObj := [.map (entE f L), .var [.d (.int .i64 sz), .mapo 0]]
end Go.Proofs.YtmeicgbddgeeoaaGreatDoor
end
section
set_option autoImplicit false
set_option linter.unusedVariables false
set_option linter.unusedSimpArgs false
namespace Go.Proofs.YtmeicgbddgeeoaaGreatDoor
open Go.Abs
abbrev Ent := Int × List Int × List Int
def fE (e : Ent) : D := .agg [.int .i64 e.1, .slice 1 (ints e.2.1), .slice 1 (ints e.2.2)]
def e0 : Ent := (0, [], [])
end Go.Proofs.YtmeicgbddgeeoaaGreatDoor
end
section
set_option autoImplicit false
set_option linter.unusedVariables false
set_option linter.unusedSimpArgs false
namespace Go.Proofs.YtmeicgbddgeeoaaGreatDoor
open Go.Abs
structure Pd where
 id : Int
 pr : Int
 pre : Bool
 gr : Int
 ar : Int
 ph : Int
 nd : Int
 dl : Int
def pod0 : Pd := ⟨0, 0, false, 0, 0, 0, 0, 0⟩
abbrev Pod := Pd × List Int
def pz : Pod := (pod0, [])
def pL (p : Pod) : List D := [.int .i64 p.1.id, .int .i64 p.1.pr, .bool p.1.pre, .int .i64 p.1.gr, .slice 1 (ints p.2), .int .i64 p.1.ar, .int .i64 p.1.ph, .int .i64 p.1.nd, .int .i64 p.1.dl]
def fP (p : Pod) : D := .agg (pL p)
def zP : D := .agg [.int .i64 0, .int .i64 0, .bool false, .int .i64 0, .nils, .int .i64 0, .int .i64 0, .int .i64 0, .int .i64 0]
def pods (l : List Pod) : List (List D) := l.map pL
theorem pods_length (l : List Pod) : (pods l).length = l.length := by simp [pods]
attribute [push_cast] pods_length
theorem pods_get {l : List Pod} {i : Nat} (h : i < l.length) : (pods l).getD i [] = pL (l.getD i pz) := by simp [pods, List.getD_eq_getElem?_getD, h]
theorem seg_pods {l : List Pod} {i : Nat} (h : i < l.length) : seg (pods l) i 0 9 = pL (l.getD i pz) := by unfold seg; rw [pods_get h]; rfl
theorem cel_pods {l : List Pod} {i : Nat} (h : i < l.length) (k : Nat) : cel (pods l) i k = (pL (l.getD i pz)).getD k .nilp := by unfold cel; rw [pods_get h]
theorem pods_snoc (x : List Pod) (p : Pod) : pods x ++ [pL p] = pods (x ++ [p]) := by simp [pods]
def nextP (p e : Int) : Option Int :=
 if e = 1 then (if p = 1 ∨ p = 2 then some 3 else none)
 else if e = 2 then (if p = 1 ∨ p = 2 then some 2 else none)
 else if e = 3 then (if p = 2 then some 1 else none)
 else if e = 4 then (if p = 3 then some 4 else none)
 else if e = 5 then (if 1 ≤ p ∧ p ≤ 4 then some 5 else none)
 else none
def applyP (p : Pod) (e to node dl : Int) : Pod :=
 ({ p.1 with ph := to, dl := if e = 4 then dl else -1, nd := if e = 1 ∨ e = 2 then node else if e = 4 then p.1.nd else -1 }, p.2)
def submitP (p : Pod) (n : Int) : Pod := ({ p.1 with ph := 1, nd := -1, dl := -1, ar := n }, p.2)
end Go.Proofs.YtmeicgbddgeeoaaGreatDoor
end
section
set_option autoImplicit false
set_option linter.unusedVariables false
set_option linter.unusedSimpArgs false
namespace Go.Proofs.YtmeicgbddgeeoaaGreatDoor
open Go.Abs
def FitsP (a b : List Int) : Prop := a.length = b.length ∧ ∀ k, k < a.length → a.getD k 0 ≤ b.getD k 0
theorem rfits_ok (a b : List Int) (ha : Sz a) : PCall env 64 [sl a, sl b] (.bool (B (FitsP a b))) := by
 refine acalls_of envOk Tryz.func64 rfl (by kernel_rfl) (m := 30) rfl ?_
 simp only [push_cast, simprocAttr]
 refine ALoop.mk (fun k t H ds => ∃ i : Nat, k = a.length - i ∧ i ≤ a.length ∧ i ≤ b.length ∧ (∀ j, j < i → a.getD j 0 ≤ b.getD j 0) ∧ t = (.d (.slice 1 (ints a)) :: .d (.slice 1 (ints b)) :: .x :: .x :: .d (.bool false) :: .d (.int .i64 (i : Nat)) :: xs26) ∧ H = [] ∧ ds = []) a.length
  (WK.fgt (t' := (.d (.slice 1 (ints a)) :: .d (.slice 1 (ints b)) :: .x :: .x :: .d (.bool false) :: .d (.int .i64 (0 : Nat)) :: xs26)) (by simp [fgt, ints_length, intss_length]) (WK.now ⟨0, by omega, by omega, by omega, by omega, rfl, rfl, rfl⟩)) ?_
 rintro k t H ds ⟨i, rfl, hi, hi2, hp, rfl, rfl, rfl⟩
 simp only [push_cast, simprocAttr]
 have fin : ¬ (i < a.length ∧ i < b.length) → B (a.length = b.length) = B (FitsP a b) := fun hn => by
  by_cases h : a.length = b.length
  ·rw [B_true h, B_true ⟨h, fun k hk => hp k (by omega)⟩]
  ·rw [B_false h, B_false (fun h' => h h'.1)]
 refine Kbr.mk (fun c => ?_) (fun c => ?_)
 ·have c2 : i < a.length := by simpa using c
  simp only [push_cast, simprocAttr]
  refine Kbr.mk (fun c => ?_) (fun c => ?_)
  ·have c3 : i < b.length := by simpa using c
   simp only [c2, c3, cel_ints, push_cast, simprocAttr]
   refine DRegL.one (by unfold DrawOK; kernel_rfl) ?_
   simp only [c2, c3, cel_ints, push_cast, simprocAttr]
   refine Kbr.mk (fun c => ?_) (fun c => ?_)
   ·have c4 : a.getD i 0 > b.getD i 0 := by simpa using c
    simp only [push_cast, simprocAttr]
    refine WK.now ?_
    simp only [push_cast, simprocAttr]
    rw [B_false (fun h => by have := h.2 i c2; omega)]
   ·have c4 : ¬ a.getD i 0 > b.getD i 0 := by simpa using c
    simp only [succ64 c2 (Nat.le_trans ha (by omega)), push_cast, simprocAttr]
    refine ⟨a.length - (i + 1), by omega, WK.fgt (t' := (.d (.slice 1 (ints a)) :: .d (.slice 1 (ints b)) :: .x :: .x :: .d (.bool false) :: .d (.int .i64 (i + 1 : Nat)) :: xs26)) (by simp [fgt, ints_length, intss_length]) (WK.now ⟨i + 1, rfl, by omega, by omega, fun j hj => ?_, rfl, rfl, rfl⟩)⟩
    rcases Nat.lt_succ_iff_lt_or_eq.1 hj with hj | rfl
    ·exact hp j hj
    ·omega
  ·have c3 : ¬ i < b.length := by simpa using c
   simp only [push_cast, simprocAttr]
   refine WK.now ?_
   simp only [push_cast, simprocAttr]
   rw [← fin (by omega), beq_nat]
 ·have c2 : ¬ i < a.length := by simpa using c
  simp only [push_cast, simprocAttr]
  refine WK.now ?_
  simp only [push_cast, simprocAttr]
  rw [← fin (by omega), beq_nat]
end Go.Proofs.YtmeicgbddgeeoaaGreatDoor
end
section
set_option autoImplicit false
set_option linter.unusedVariables false
set_option linter.unusedSimpArgs false
namespace Go.Proofs.YtmeicgbddgeeoaaGreatDoor
open Go.Abs
theorem succW {i n : Nat} (h : i < n) (hn : n ≤ 9223372036854775807) : IntKind.wrap .i64 ((i : Int) + 1) = ((i + 1 : Nat) : Int) := by
 rw [wrapi (by omega) (by omega)]; rfl
def I64 (n : Int) : Prop := -9223372036854775808 ≤ n ∧ n ≤ 9223372036854775807
theorem wrong1_ok (n : Int) : PCall env 123 [.int .i64 n] (.bool (decide (n < 0 ∨ n > 1099511627776))) := by
 refine acalls_of envOk Tryz.func123 rfl (by kernel_rfl) (m := 8) rfl ?_
 simp only [push_cast, simprocAttr]
 refine Kbr.mk (fun c => ?_) (fun c => ?_)
 ·have c1 : ¬ n < 0 := by simpa using c
  simp only [push_cast, simprocAttr]
  refine WK.now ?_
  simp only [push_cast, simprocAttr]
  simp [c1]
 ·have c1 : n < 0 := by simpa using c
  simp only [push_cast, simprocAttr]
  refine WK.now ?_
  simp only [push_cast, simprocAttr]
  simp [c1]
theorem sub1_ok (a b : Int) (h1 : I64 a) (h2 : I64 b) : PCall env 190 [.int .i64 a, .int .i64 b] (.tup [.int .i64 (IntKind.wrap .i64 (a - b)), .bool (decide (b ≤ a ∧ a - b ≤ 9223372036854775807))]) := by
 refine acalls_of envOk Tryz.func190 rfl (by kernel_rfl) (m := 16) rfl ?_
 simp only [push_cast, simprocAttr]
 obtain ⟨h3, h4⟩ := h1
 obtain ⟨h5, h6⟩ := h2
 refine Kbr.mk (fun c => ?_) (fun c => ?_)
 ·have c1 : a ≥ b := by simpa using c
  simp only [push_cast, simprocAttr]
  refine WK.now ?_
  simp only [push_cast, simprocAttr]
  have : decide (IntKind.wrap .i64 (a - b) ≥ 0) = decide (b ≤ a ∧ a - b ≤ 9223372036854775807) := by
   rw [wrap_eq]
   by_cases hle : a - b ≤ 9223372036854775807
   ·rw [decide_eq_true (by omega), decide_eq_true (by omega)]
   ·rw [decide_eq_false (by omega), decide_eq_false (by omega)]
  rw [this]
 ·have c1 : ¬ a ≥ b := by simpa using c
  simp only [push_cast, simprocAttr]
  refine WK.now ?_
  simp only [push_cast, simprocAttr]
  rw [decide_eq_false (show ¬ (b ≤ a ∧ a - b ≤ 9223372036854775807) by omega)]
theorem fits1_ok (a b : Int) : PCall env 107 [.int .i64 a, .int .i64 b] (.tup [.int .i64 0, .bool (decide (a ≤ b))]) := by
 refine acalls_of envOk Tryz.func107 rfl (by kernel_rfl) (m := 7) rfl ?_
 simp only [push_cast, simprocAttr]
 refine WK.now ?_
 simp only [push_cast, simprocAttr]
theorem zero_ok (n : Int) (h : n ≤ 1000000) : PCall env 119 [.int .i64 n] (sl (List.replicate (max n 0).toNat 0)) := by
 refine acalls_of envOk Tryz.func119 rfl (by kernel_rfl) (m := 5) rfl ?_
 simp only [push_cast, simprocAttr]
 refine ⟨by omega, room_of (by omega) (by omega), WK.frz 0 rfl (WK.now ?_)⟩
 simp only [push_cast, simprocAttr]
 rw [rep_ints]
def resS : Option (List Int) → D
 | some xs => .tup [sl xs, .bool true]
 | none => .tup [.nils, .bool false]
noncomputable def bothS (fn : Int → Int → Int) (fo : Int → Int → Bool) (a b : List Int) : Option (List Int) :=
 bif B (a.length = b.length ∧ ∀ k, k < a.length → fo (a.getD k 0) (b.getD k 0) = true) then some (List.zipWith fn a b) else none
def InR (a : List Int) : Prop := ∀ k, I64 (a.getD k 0)
theorem both_ok (g : FuncId) (hx : env.ext g = none) (fn : Int → Int → Int) (fo : Int → Int → Bool) (hg : ∀ x y, I64 x → I64 y → PCall env g [.int .i64 x, .int .i64 y] (.tup [.int .i64 (fn x y), .bool (fo x y)]))
  (a b : List Int) (ha : Sz a) (ra : InR a) (rb : InR b) : PCall env 106 [sl a, sl b, .func g []] (resS (bothS fn fo a b)) := by
 refine acalls_of envOk Tryz.func106 rfl (by kernel_rfl) (m := 43) rfl ?_
 simp only [push_cast, simprocAttr]
 refine Kbr.mk (fun c => ?_) (fun c => ?_)
 ·have c1 : a.length ≠ b.length := by simpa [Int.ofNat_inj] using c
  simp only [push_cast, simprocAttr]
  refine WK.now ?_
  simp only [push_cast, simprocAttr]
  rw [bothS, B_false (fun h => c1 h.1)]
  rfl
 ·have c1 : a.length = b.length := by simpa [Int.ofNat_inj] using c
  simp only [push_cast, simprocAttr]
  refine ⟨room_of (Nat.le_trans ha (by omega)) (by omega), ?_⟩
  rw [rep_ints]
  refine ALoop.mk (fun k t H ds => ∃ (i : Nat) (out : List Int), k = a.length - i ∧ i ≤ a.length ∧ out.length = a.length ∧ (∀ j, j < i → fo (a.getD j 0) (b.getD j 0) = true ∧ out.getD j 0 = fn (a.getD j 0) (b.getD j 0)) ∧ t = (.d (.slice 1 (ints a)) :: .d (.slice 1 (ints b)) :: .d (.func g []) :: .x :: .x :: .x :: .d .nils :: .d (.bool false) :: .sfull 0 :: .x :: .x :: .x :: .x :: .x :: .x :: .x :: .x :: .x :: .x :: .x :: .x :: .d (.int .i64 a.length) :: .d (.int .i64 (i : Nat)) :: xs23) ∧ H = [.arr 2 1 (ints out)] ∧ ds = []) a.length
   (WK.fgt (t' := (.d (.slice 1 (ints a)) :: .d (.slice 1 (ints b)) :: .d (.func g []) :: .x :: .x :: .x :: .d .nils :: .d (.bool false) :: .sfull 0 :: .x :: .x :: .x :: .x :: .x :: .x :: .x :: .x :: .x :: .x :: .x :: .x :: .d (.int .i64 a.length) :: .d (.int .i64 (0 : Nat)) :: xs23)) (by simp [fgt, ints_length, intss_length]) (WK.now ⟨0, _, by omega, by omega, by simp, by omega, rfl, rfl, rfl⟩)) ?_
  rintro k t H ds ⟨i, out, rfl, hi, ho, hp, rfl, rfl, rfl⟩
  simp only [push_cast, simprocAttr]
  refine Kbr.mk (fun c => ?_) (fun c => ?_)
  ·have c2 : i < a.length := by simpa using c
   have c3 : i < b.length := by omega
   simp only [c2, c3, cel_ints, hx, push_cast, simprocAttr]
   refine DRegL.one (by unfold DrawOK; kernel_rfl) ?_
   simp only [c2, c3, cel_ints, hx, push_cast, simprocAttr]
   refine (hg _ _ (ra i) (rb i)).quiet' (by first | exact ⟨.inl rfl, trivial⟩ | exact ⟨.inl rfl, .inl rfl, trivial⟩ | exact ⟨.inl rfl, .inl rfl, .inl rfl, trivial⟩ | simp [argsOk, argOk, sl, sll]) ?_
   simp only [push_cast, simprocAttr]
   refine Kbr.mk (fun c => ?_) (fun c => ?_)
   ·have c4 : fo (a.getD i 0) (b.getD i 0) = false := by simpa using c
    simp only [push_cast, simprocAttr]
    refine WK.now ?_
    simp only [push_cast, simprocAttr]
    rw [bothS, B_false (fun h => by have := h.2 i c2; rw [c4] at this; cases this)]
    rfl
   ·have c4 : fo (a.getD i 0) (b.getD i 0) = true := by simpa using c
    simp only [ho, c2, upd_ints, succ64 c2 (Nat.le_trans ha (by omega)), push_cast, simprocAttr]
    refine ⟨a.length - (i + 1), by omega, WK.fgt (t' := (.d (.slice 1 (ints a)) :: .d (.slice 1 (ints b)) :: .d (.func g []) :: .x :: .x :: .x :: .d .nils :: .d (.bool false) :: .sfull 0 :: .x :: .x :: .x :: .x :: .x :: .x :: .x :: .x :: .x :: .x :: .x :: .x :: .d (.int .i64 a.length) :: .d (.int .i64 (i + 1 : Nat)) :: xs23)) (by simp [fgt, ints_length, intss_length]) (WK.now ⟨i + 1, _, rfl, by omega, by simp [ho], fun j hj => ?_, rfl, rfl, rfl⟩)⟩
    rcases Nat.lt_succ_iff_lt_or_eq.1 hj with hj | rfl
    ·have hne : i ≠ j := by omega
     simpa [List.getD_eq_getElem?_getD, List.getElem?_set_ne hne] using hp j hj
    ·exact ⟨c4, by simp [List.getD_eq_getElem?_getD, ho, c2]⟩
  ·have c2 : ¬ i < a.length := by simpa using c
   simp only [push_cast, simprocAttr]
   refine WK.frz 0 rfl (WK.now ?_)
   simp only [push_cast, simprocAttr]
   have e : out = List.zipWith fn a b := List.ext_getElem (by simp [ho, c1]) fun j h1 h2 => by
    have := (hp j (by omega)).2
    simpa [List.getD_eq_getElem?_getD, h1, show j < a.length by omega, show j < b.length by omega] using this
   rw [bothS, B_true ⟨c1, fun k hk => (hp k (by omega)).1⟩, e]
   rfl
def subOk (x y : Int) : Bool := decide (y ≤ x ∧ x - y ≤ 9223372036854775807)
noncomputable def subS (a b : List Int) : Option (List Int) := bothS (fun x y => IntKind.wrap .i64 (x - y)) subOk a b
theorem vsub_ok (a b : List Int) (ha : Sz a) (ra : InR a) (rb : InR b) : PCall env 182 [sl a, sl b] (resS (subS a b)) := by
 refine acalls_of envOk Tryz.func182 rfl (by kernel_rfl) (m := 9) rfl ?_
 simp only [push_cast, simprocAttr]
 refine (both_ok 190 rfl (fun x y => IntKind.wrap .i64 (x - y)) subOk (fun x y hx hy => sub1_ok x y hx hy) a b ha ra rb).go (by first | exact ⟨.inl rfl, trivial⟩ | exact ⟨.inl rfl, .inl rfl, trivial⟩ | exact ⟨.inl rfl, .inl rfl, .inl rfl, trivial⟩ | simp [argsOk, argOk, sl, sll]) (WK.now ?_)
 unfold subS
 generalize bothS _ _ a b = r
 cases r with
 | none => simp only [resS, push_cast, simprocAttr]; refine WK.now ?_; simp only [push_cast, simprocAttr]
 | some xs => simp only [resS, push_cast, simprocAttr]; refine WK.now ?_; simp only [push_cast, simprocAttr]
theorem vfits_ok (a b : List Int) (ha : Sz a) (ra : InR a) (rb : InR b) : PCall env 66 [sl a, sl b] (.bool (B (FitsP a b))) := by
 refine acalls_of envOk Tryz.func66 rfl (by kernel_rfl) (m := 12) rfl ?_
 simp only [push_cast, simprocAttr]
 refine (both_ok 107 rfl _ _ (fun x y hx hy => fits1_ok x y) a b ha ra rb).go (by first | exact ⟨.inl rfl, trivial⟩ | exact ⟨.inl rfl, .inl rfl, trivial⟩ | exact ⟨.inl rfl, .inl rfl, .inl rfl, trivial⟩ | simp [argsOk, argOk, sl, sll]) (WK.now ?_)
 have e : B (a.length = b.length ∧ ∀ k, k < a.length → decide (a.getD k 0 ≤ b.getD k 0) = true) = B (FitsP a b) := by
  congr 1
  simp [FitsP]
 rw [bothS, e]
 cases hb : B (FitsP a b) with
 | false => simp only [resS, cond_false, push_cast, simprocAttr]; refine WK.now ?_; simp only [push_cast, simprocAttr]
 | true => simp only [resS, cond_true, push_cast, simprocAttr]; refine WK.now ?_; simp only [push_cast, simprocAttr]
def idx (p : Int → Bool) (a : List Int) : Int := if a.findIdx p < a.length then (a.findIdx p : Nat) else -1
theorem index_ok (g : FuncId) (hx : env.ext g = none) (p : Int → Bool) (hg : ∀ x, PCall env g [.int .i64 x] (.bool (p x))) (a : List Int) (ha : a.length ≤ 9223372036854775807) : PCall env 122 [sl a, .func g []] (.int .i64 (idx p a)) := by
 refine acalls_of envOk Tryz.func122 rfl (by kernel_rfl) (m := 17) rfl ?_
 simp only [push_cast, simprocAttr]
 refine ALoop.mk (fun k t H ds => ∃ i : Nat, k = a.length - i ∧ i ≤ a.length ∧ (∀ j, j < i → p (a.getD j 0) = false) ∧ t = (.d (.slice 1 (ints a)) :: .d (.func g []) :: .x :: .x :: .d (.int .i64 0) :: .x :: .x :: .d (.int .i64 a.length) :: .d (.int .i64 (i : Nat)) :: xs10) ∧ H = [] ∧ ds = []) a.length
  (WK.fgt (t' := (.d (.slice 1 (ints a)) :: .d (.func g []) :: .x :: .x :: .d (.int .i64 0) :: .x :: .x :: .d (.int .i64 a.length) :: .d (.int .i64 (0 : Nat)) :: xs10)) (by simp [fgt, ints_length, intss_length]) (WK.now ⟨0, by omega, by omega, by omega, rfl, rfl, rfl⟩)) ?_
 rintro k t H ds ⟨i, rfl, hi, hp, rfl, rfl, rfl⟩
 simp only [push_cast, simprocAttr]
 refine Kbr.mk (fun c => ?_) (fun c => ?_)
 ·have c2 : i < a.length := by simpa using c
  simp only [c2, cel_ints, hx, push_cast, simprocAttr]
  refine (hg _).go (by first | exact ⟨.inl rfl, trivial⟩ | exact ⟨.inl rfl, .inl rfl, trivial⟩ | exact ⟨.inl rfl, .inl rfl, .inl rfl, trivial⟩ | simp [argsOk, argOk, sl, sll]) (WK.now ?_)
  simp only [push_cast, simprocAttr]
  refine Kbr.mk (fun c => ?_) (fun c => ?_)
  ·simp only [push_cast, simprocAttr]
   refine WK.now ?_
   simp only [push_cast, simprocAttr]
   have e : a.findIdx p = i := (List.findIdx_eq c2).2 ⟨by simpa [List.getD_eq_getElem?_getD, c2] using c, fun j hj => by simpa [List.getD_eq_getElem?_getD, show j < a.length by omega] using hp j hj⟩
   simp [idx, e, c2]
  ·simp only [succW c2 ha, push_cast, simprocAttr]
   refine ⟨a.length - (i + 1), by omega, WK.fgt (t' := (.d (.slice 1 (ints a)) :: .d (.func g []) :: .x :: .x :: .d (.int .i64 0) :: .x :: .x :: .d (.int .i64 a.length) :: .d (.int .i64 (i + 1 : Nat)) :: xs10)) (by simp [fgt, ints_length, intss_length]) (WK.now ⟨i + 1, rfl, by omega, fun j hj => ?_, rfl, rfl, rfl⟩)⟩
   rcases Nat.lt_succ_iff_lt_or_eq.1 hj with hj | rfl
   ·exact hp j hj
   ·exact c
 ·have c2 : ¬ i < a.length := by simpa using c
  simp only [push_cast, simprocAttr]
  refine WK.now ?_
  simp only [push_cast, simprocAttr]
  have e : ¬ a.findIdx p < a.length := by
   rw [List.findIdx_lt_length]
   rintro ⟨x, hx, hpx⟩
   obtain ⟨j, hj, rfl⟩ := List.getElem_of_mem hx
   have := hp j (by omega)
   simp [List.getD_eq_getElem?_getD, hj, hpx] at this
  simp [idx, e]
def wrongP (n : Int) : Bool := decide (n < 0 ∨ n > 1099511627776)
def wrongS (a : List Int) (d : Int) : Int := if 0 ≤ idx wrongP a then idx wrongP a else if (a.length : Int) = d then -1 else max (min d a.length) 0
theorem vwrong_ok (a : List Int) (d : Int) (ha : a.length ≤ 9223372036854775807) : PCall env 79 [sl a, .int .i64 d] (.int .i64 (wrongS a d)) := by
 refine acalls_of envOk Tryz.func79 rfl (by kernel_rfl) (m := 20) rfl ?_
 simp only [push_cast, simprocAttr]
 refine (index_ok 123 rfl wrongP (fun x => wrong1_ok x) a ha).go (by first | exact ⟨.inl rfl, trivial⟩ | exact ⟨.inl rfl, .inl rfl, trivial⟩ | exact ⟨.inl rfl, .inl rfl, .inl rfl, trivial⟩ | simp [argsOk, argOk, sl, sll]) (WK.now ?_)
 simp only [push_cast, simprocAttr]
 refine Kbr.mk (fun c => ?_) (fun c => ?_)
 ·have c1 : ¬ 0 ≤ idx wrongP a := by simpa using c
  simp only [push_cast, simprocAttr]
  refine Kbr.mk (fun c => ?_) (fun c => ?_)
  ·have c2 : (a.length : Int) = d := by simpa using c
   simp only [push_cast, simprocAttr]
   refine WK.now ?_
   simp only [push_cast, simprocAttr]
   have : idx wrongP a = -1 := by unfold idx at *; split <;> simp_all
   simp [wrongS, c1, c2, this]
  ·have c2 : ¬ (a.length : Int) = d := by simpa using c
   simp only [push_cast, simprocAttr]
   refine WK.now ?_
   simp only [push_cast, simprocAttr]
   simp only [wrongS, if_neg c1, if_neg c2]
 ·have c1 : 0 ≤ idx wrongP a := by simpa using c
  simp only [push_cast, simprocAttr]
  refine WK.now ?_
  simp only [push_cast, simprocAttr]
  simp [wrongS, c1]
end Go.Proofs.YtmeicgbddgeeoaaGreatDoor
end
section
set_option autoImplicit false
set_option linter.unusedVariables false
set_option linter.unusedSimpArgs false
namespace Go.Proofs.YtmeicgbddgeeoaaGreatDoor
open Go.Abs
/-! A row of rows -/
theorem wide_ok (l : List (List Int)) (h0 : 0 < l.length) (v : List Int) :
  ACalls env 146 [.d (sl v), .pvar 0 0] [.var [.d (sll l)]] fun r H' => r = .d (.bool (B (v.length ≠ (l.getD 0 []).length))) ∧ H' = [.var [.d (sll l)]] := by
 refine acalls_of envOk Tryz.func146 rfl (by kernel_rfl) (m := 9) rfl ?_
 simp only [push_cast, simprocAttr, -Int.reducePow]
 refine ⟨by omega, ?_⟩
 simp only [h0, cel_intss, push_cast, simprocAttr, -Int.reducePow]
 refine WK.now ?_
 simp only [push_cast, simprocAttr, -Int.reducePow]
 rw [bne_nat]
theorem indexL_ok (l : List (List Int)) (h0 : 0 < l.length) (hl : Sz l) :
  ACalls env 174 [.d (sll l), .func 146 [.pvar 0 0]] [.var [.d (sll l)]] fun r H' => (∃ n : Int, r = .d (.int .i64 n) ∧ (0 ≤ n ↔ ∃ j, j < l.length ∧ (l.getD j []).length ≠ (l.getD 0 []).length)) ∧ H' = [.var [.d (sll l)]] := by
 refine acalls_of envOk Tryz.func174 rfl (by kernel_rfl) (m := 17) rfl ?_
 simp only [push_cast, simprocAttr, -Int.reducePow]
 refine ALoop.mk (fun k t H ds => ∃ i : Nat, k = l.length - i ∧ i ≤ l.length ∧ (∀ j, j < i → (l.getD j []).length = (l.getD 0 []).length) ∧ t = (.d (.slice 1 (intss l)) :: .func 146 [.pvar 0 0] :: .x :: .x :: .d (.int .i64 0) :: .x :: .x :: .d (.int .i64 l.length) :: .d (.int .i64 (i : Nat)) :: xs10) ∧ H = [.var [.d (sll l)]] ∧ ds = []) l.length
  (WK.fgt (t' := (.d (.slice 1 (intss l)) :: .func 146 [.pvar 0 0] :: .x :: .x :: .d (.int .i64 0) :: .x :: .x :: .d (.int .i64 l.length) :: .d (.int .i64 (0 : Nat)) :: xs10)) (by simp [fgt, ints_length, intss_length]) (WK.now ⟨0, by omega, by omega, by omega, rfl, rfl, rfl⟩)) ?_
 rintro k t H ds ⟨i, rfl, hi, hp, rfl, rfl, rfl⟩
 simp only [push_cast, simprocAttr, -Int.reducePow]
 refine Kbr.mk (fun c => ?_) (fun c => ?_)
 ·have c2 : i < l.length := by simpa using c
  simp only [c2, cel_intss, push_cast, simprocAttr, -Int.reducePow]
  refine (wide_ok l h0 (l.getD i [])).thus (WK.now ?_)
  simp only [push_cast, simprocAttr, -Int.reducePow]
  refine Kbr.mk (fun c => ?_) (fun c => ?_)
  ·have c3 := B_iff.1 c
   simp only [push_cast, simprocAttr, -Int.reducePow]
   refine WK.now ?_
   simp only [push_cast, simprocAttr, -Int.reducePow]
   exact ⟨_, rfl, ⟨fun _ => ⟨i, c2, c3⟩, fun _ => by omega⟩⟩
  ·have c3 := B_not.1 c
   simp only [succ64 c2 (Nat.le_trans hl (by omega)), push_cast, simprocAttr, -Int.reducePow]
   refine ⟨l.length - (i + 1), by omega, WK.fgt (t' := (.d (.slice 1 (intss l)) :: .func 146 [.pvar 0 0] :: .x :: .x :: .d (.int .i64 0) :: .x :: .x :: .d (.int .i64 l.length) :: .d (.int .i64 (i + 1 : Nat)) :: xs10)) (by simp [fgt, ints_length, intss_length]) (WK.now ⟨i + 1, rfl, by omega, fun j hj => ?_, rfl, rfl, rfl⟩)⟩
   rcases Nat.lt_succ_iff_lt_or_eq.1 hj with hj | rfl
   ·exact hp j hj
   ·omega
 ·have c2 : ¬ i < l.length := by simpa using c
  simp only [push_cast, simprocAttr, -Int.reducePow]
  refine WK.now ?_
  simp only [push_cast, simprocAttr, -Int.reducePow]
  refine ⟨_, rfl, ⟨fun h => absurd h (by omega), fun ⟨j, hj, hne⟩ => absurd (hp j (by omega)) hne⟩⟩
theorem contains_ok (l : List (List Int)) (h0 : 0 < l.length) (hl : Sz l) :
  ACalls env 145 [.d (sll l), .func 146 [.pvar 0 0]] [.var [.d (sll l)]] fun r H' => r = .d (.bool (B (∃ j, j < l.length ∧ (l.getD j []).length ≠ (l.getD 0 []).length))) ∧ H' = [.var [.d (sll l)]] := by
 refine acalls_of envOk Tryz.func145 rfl (by kernel_rfl) (m := 7) rfl ?_
 simp only [push_cast, simprocAttr, -Int.reducePow]
 refine (indexL_ok l h0 hl).mono ?_
 rintro r H' ⟨⟨n, rfl, hn⟩, rfl⟩
 refine WK.now ?_
 simp only [push_cast, simprocAttr, -Int.reducePow]
 refine WK.now ?_
 simp only [push_cast, simprocAttr, -Int.reducePow]
 rw [B_dec]
 exact congrArg (fun p => AV.d (D.bool (B p))) (propext hn)
theorem add64_go {x y c : Int} (h : 0 ≤ x ∧ 0 ≤ y ∧ 0 ≤ c ∧ c ≤ 1) : add64A [.d (.int .u64 x), .d (.int .u64 y), .d (.int .u64 c)] =
  some (.d (.tup [.int .u64 ((x + y + c) % 18446744073709551616), .int .u64 ((x + y + c) / 18446744073709551616)])) := by simp [add64A, h]
def psum (f : Nat → Int) : Nat → Int
 | 0 => 0
 | n + 1 => psum f n + f n
def at2 (l : List (List Int)) (k j : Nat) : Int := (l.getD j []).getD k 0
def colS (l : List (List Int)) (k : Nat) : Int := psum (at2 l k) l.length
theorem psum_bound (f : Nat → Int) (hf : ∀ j, I64 (f j)) : ∀ n : Nat, -(9223372036854775808 * (n : Int)) ≤ psum f n ∧ psum f n ≤ 9223372036854775808 * (n : Int)
 | 0 => by simp [psum]
 | n + 1 => by
  have := psum_bound f hf n
  have h := hf n
  unfold I64 at h
  simp only [psum]
  omega
def InRs (l : List (List Int)) : Prop := ∀ j, InR (l.getD j [])
theorem sum_ok (l : List (List Int)) (k : Nat) (hl : Sz l) (rl : InRs l) (hk : ∀ j, j < l.length → k < (l.getD j []).length) :
  PCall env 147 [sll l, .int .i64 (k : Nat)] (.tup [.int .i64 (IntKind.wrap .i64 (colS l k)), .bool (B (I64 (colS l k)))]) := by
 refine acalls_of envOk Tryz.func147 rfl (by kernel_rfl) (m := 47) rfl ?_
 simp only [push_cast, simprocAttr, -Int.reducePow]
 refine ALoop.mk (fun m t H ds => ∃ (i : Nat) (hi lo : Int), m = l.length - i ∧ i ≤ l.length ∧ lo = psum (at2 l k) i % 18446744073709551616 ∧ hi = (psum (at2 l k) i / 18446744073709551616) % 18446744073709551616 ∧ t = (.d (.slice 1 (intss l)) :: .d (.int .i64 (k : Nat)) :: .x :: .x :: .d (.int .i64 0) :: .d (.bool false) :: .d (.int .u64 hi) :: .d (.int .u64 lo) :: .x :: .x :: .x :: .x :: .d (.slice 1 (intss l)) :: .d (.int .i64 l.length) :: .d (.int .i64 (i : Nat)) :: xs34) ∧ H = [] ∧ ds = []) l.length
  (WK.fgt (t' := (.d (.slice 1 (intss l)) :: .d (.int .i64 (k : Nat)) :: .x :: .x :: .d (.int .i64 0) :: .d (.bool false) :: .d (.int .u64 0) :: .d (.int .u64 0) :: .x :: .x :: .x :: .x :: .d (.slice 1 (intss l)) :: .d (.int .i64 l.length) :: .d (.int .i64 (0 : Nat)) :: xs34)) (by simp [fgt, ints_length, intss_length]) (WK.now ⟨0, 0, 0, by omega, by omega, by simp [psum], by simp [psum], rfl, rfl, rfl⟩)) ?_
 rintro m t H ds ⟨i, hi, lo, rfl, hil, hlo, hhi, rfl, rfl, rfl⟩
 simp only [push_cast, simprocAttr, -Int.reducePow]
 refine Kbr.mk (fun c => ?_) (fun c => ?_)
 ·have c2 : i < l.length := by simpa using c
  have hki := hk i c2
  have hv : I64 (at2 l k i) := rl i k
  obtain ⟨lo1, c1, h1, e1, e2⟩ : ∃ lo1 c1 : Int, add64A [.d (.int .u64 lo), .d (.int .u64 (IntKind.wrap .u64 (at2 l k i))), .d (.int .u64 0)] = some (.d (.tup [.int .u64 lo1, .int .u64 c1])) ∧ lo1 = (lo + at2 l k i % 18446744073709551616) % 18446744073709551616 ∧ c1 = (lo + at2 l k i % 18446744073709551616) / 18446744073709551616 :=
   ⟨_, _, add64_go (by rw [wrapu_eq]; omega), by rw [wrapu_eq]; omega, by rw [wrapu_eq]; omega⟩
  obtain ⟨hi1, c3, h2, e3, e4⟩ : ∃ hi1 c3 : Int, add64A [.d (.int .u64 hi), .d (.int .u64 (IntKind.wrap .u64 ((at2 l k i).fdiv (2 ^ 63)))), .d (.int .u64 c1)] = some (.d (.tup [.int .u64 hi1, .int .u64 c3])) ∧ hi1 = (hi + (at2 l k i / 9223372036854775808) % 18446744073709551616 + c1) % 18446744073709551616 ∧ c3 = c3 :=
   ⟨_, _, add64_go (by rw [wrapu_eq]; omega), by rw [fdiv63, wrapu_eq], rfl⟩
  have e0 : (l.getD i []).getD k 0 = at2 l k i := rfl
  simp only [c2, hki, cel_intss, cel_ints, e0, h1, h2, succ64 c2 (Nat.le_trans hl (by omega)), push_cast, simprocAttr, -Int.reducePow]
  unfold I64 at hv
  refine ⟨l.length - (i + 1), by omega, WK.fgt (t' := (.d (.slice 1 (intss l)) :: .d (.int .i64 (k : Nat)) :: .x :: .x :: .d (.int .i64 0) :: .d (.bool false) :: .d (.int .u64 hi1) :: .d (.int .u64 lo1) :: .x :: .x :: .x :: .x :: .d (.slice 1 (intss l)) :: .d (.int .i64 l.length) :: .d (.int .i64 (i + 1 : Nat)) :: xs34)) (by simp [fgt, ints_length, intss_length]) (WK.now ⟨i + 1, hi1, lo1, rfl, by omega, ?_, ?_, rfl, rfl, rfl⟩)⟩
  ·simp only [psum]
   omega
  ·simp only [psum]
   omega
 ·have c2 : ¬ i < l.length := by simpa using c
  have hil' : i = l.length := by omega
  subst hil'
  simp only [push_cast, simprocAttr, -Int.reducePow]
  refine WK.now ?_
  simp only [push_cast, simprocAttr, -Int.reducePow]
  have hb := psum_bound (at2 l k) (fun j => rl j k) l.length
  unfold Sz at hl
  have e1 : IntKind.wrap .i64 lo = IntKind.wrap .i64 (colS l k) := by
   rw [wrap_eq, wrap_eq, hlo]; unfold colS; omega
  rw [e1]
  have e2 : (hi == IntKind.wrap .u64 ((IntKind.wrap .i64 (colS l k)).fdiv (2 ^ 63))) = B (I64 (colS l k)) := by
   rw [Bool.eq_iff_iff, B_iff, beq_iff_eq, fdiv63, wrapu_eq, wrap_eq, hhi]
   unfold colS I64
   omega
  rw [e2]
def AddP (l : List (List Int)) : Prop := 0 < l.length ∧ (∀ j, j < l.length → (l.getD j []).length = (l.getD 0 []).length) ∧ ∀ k, k < (l.getD 0 []).length → I64 (colS l k)
noncomputable def addS (l : List (List Int)) : Option (List Int) := bif B (AddP l) then some ((List.range (l.getD 0 []).length).map (colS l)) else none
theorem addS_no {l : List (List Int)} (h : ¬ AddP l) : resS (addS l) = .tup [.nils, .bool false] := by rw [addS, B_false h]; rfl
theorem addS_yes {l : List (List Int)} (h : AddP l) : resS (addS l) = .tup [sl ((List.range (l.getD 0 []).length).map (colS l)), .bool true] := by rw [addS, B_true h]; rfl
theorem vadd_ok (l : List (List Int)) (hl : Sz l) (hs : ∀ j, Sz (l.getD j [])) (rl : InRs l) : PCall env 104 [sll l] (resS (addS l)) := by
 refine acalls_of envOk Tryz.func104 rfl (by kernel_rfl) (m := 39) rfl ?_
 simp only [push_cast, simprocAttr, -Int.reducePow]
 refine Kbr.mk (fun c => ?_) (fun c => ?_)
 ·have hn : l.length ≠ 0 := by simpa using c
  have h0 : 0 < l.length := by omega
  have hz : (0 : Int) < (l.length : Int) := by omega
  simp only [push_cast, simprocAttr, -Int.reducePow]
  refine (contains_ok l h0 hl).thus (WK.now ?_)
  simp only [push_cast, simprocAttr, -Int.reducePow]
  refine Kbr.mk (fun c => ?_) (fun c => ?_)
  ·obtain ⟨j, hj, hne⟩ := B_iff.1 c
   simp only [push_cast, simprocAttr, -Int.reducePow]
   refine WK.now ?_
   simp only [push_cast, simprocAttr, -Int.reducePow]
   rw [addS_no (fun h => hne (h.2.1 j hj))]
  ·have hu : ∀ j, j < l.length → (l.getD j []).length = (l.getD 0 []).length := fun j hj => by
    have := B_not.1 c
    exact Classical.byContradiction fun h => this ⟨j, hj, h⟩
   have hs0 := hs 0
   simp only [hz, h0, cel_intss, push_cast, simprocAttr, -Int.reducePow]
   refine ⟨room_of (Nat.le_trans hs0 (by omega)) (by omega), ?_⟩
   rw [rep_ints]
   refine ALoop.mk (fun k t H ds => ∃ (i : Nat) (out : List Int), k = (l.getD 0 []).length - i ∧ i ≤ (l.getD 0 []).length ∧ out.length = (l.getD 0 []).length ∧ (∀ j, j < i → I64 (colS l j) ∧ out.getD j 0 = colS l j) ∧ t = (.d (.slice 1 (intss l)) :: .pvar 0 0 :: .d .nils :: .d (.bool false) :: .sfull 1 :: .x :: .x :: .x :: .x :: .x :: .x :: .x :: .x :: .x :: .x :: .x :: .x :: .x :: .x :: .x :: .x :: .x :: .d (.int .i64 (l.getD 0 []).length) :: .d (.int .i64 (i : Nat)) :: xs16) ∧ H = [.var [.d (.slice 1 (intss l))], .arr 2 1 (ints out)] ∧ ds = []) (l.getD 0 []).length
    (WK.fgt (t' := (.d (.slice 1 (intss l)) :: .pvar 0 0 :: .d .nils :: .d (.bool false) :: .sfull 1 :: .x :: .x :: .x :: .x :: .x :: .x :: .x :: .x :: .x :: .x :: .x :: .x :: .x :: .x :: .x :: .x :: .x :: .d (.int .i64 (l.getD 0 []).length) :: .d (.int .i64 (0 : Nat)) :: xs16)) (by simp [fgt, ints_length, intss_length]) (WK.now ⟨0, _, by omega, by omega, by simp, by omega, rfl, rfl, rfl⟩)) ?_
   rintro k t H ds ⟨i, out, rfl, hi, ho, hp, rfl, rfl, rfl⟩
   simp only [push_cast, simprocAttr, -Int.reducePow]
   refine Kbr.mk (fun c => ?_) (fun c => ?_)
   ·have c2 : i < (l.getD 0 []).length := by simpa using c
    simp only [push_cast, simprocAttr, -Int.reducePow]
    refine (sum_ok l i hl rl (fun j hj => by rw [hu j hj]; exact c2)).go (by first | exact ⟨.inl rfl, trivial⟩ | exact ⟨.inl rfl, .inl rfl, trivial⟩ | exact ⟨.inl rfl, .inl rfl, .inl rfl, trivial⟩ | simp [argsOk, argOk, sl, sll]) (WK.now ?_)
    simp only [push_cast, simprocAttr, -Int.reducePow]
    refine Kbr.mk (fun c => ?_) (fun c => ?_)
    ·have c4 : ¬ I64 (colS l i) := B_not.1 (by simpa using c)
     simp only [push_cast, simprocAttr, -Int.reducePow]
     refine WK.now ?_
     simp only [push_cast, simprocAttr, -Int.reducePow]
     rw [addS_no (fun h => c4 (h.2.2 i c2))]
    ·have c4 : I64 (colS l i) := B_iff.1 (by simpa using c)
     have e4 := wrapi c4.1 c4.2
     simp only [e4, ho, c2, upd_ints, succ64 c2 (Nat.le_trans hs0 (by omega)), push_cast, simprocAttr, -Int.reducePow]
     refine ⟨(l.getD 0 []).length - (i + 1), by omega, WK.fgt (t' := (.d (.slice 1 (intss l)) :: .pvar 0 0 :: .d .nils :: .d (.bool false) :: .sfull 1 :: .x :: .x :: .x :: .x :: .x :: .x :: .x :: .x :: .x :: .x :: .x :: .x :: .x :: .x :: .x :: .x :: .x :: .d (.int .i64 (l.getD 0 []).length) :: .d (.int .i64 (i + 1 : Nat)) :: xs16)) (by simp [fgt, ints_length, intss_length]) (WK.now ⟨i + 1, _, rfl, by omega, by simp [ho], fun j hj => ?_, rfl, rfl, rfl⟩)⟩
     rcases Nat.lt_succ_iff_lt_or_eq.1 hj with hj | rfl
     ·have hne : i ≠ j := by omega
      simpa [List.getD_eq_getElem?_getD, List.getElem?_set_ne hne] using hp j hj
     ·refine ⟨c4, ?_⟩
      rw [List.getD_eq_getElem?_getD, List.getElem?_set_self (by omega)]; rfl
   ·have c2 : ¬ i < (l.getD 0 []).length := by simpa using c
    simp only [push_cast, simprocAttr, -Int.reducePow]
    refine WK.frz 1 rfl (WK.now ?_)
    simp only [push_cast, simprocAttr, -Int.reducePow]
    have e : out = (List.range (l.getD 0 []).length).map (colS l) := List.ext_getElem (by simp [ho]) fun j h1 h2 => by
     have := (hp j (by omega)).2
     simpa [List.getD_eq_getElem?_getD, h1] using this
    rw [addS_yes ⟨h0, hu, fun k hk => (hp k (by omega)).1⟩, e]
    rfl
 ·have hn : l.length = 0 := by simpa using c
  simp only [push_cast, simprocAttr, -Int.reducePow]
  refine WK.now ?_
  simp only [push_cast, simprocAttr, -Int.reducePow]
  rw [addS_no (fun h => by have := h.1; omega)]
end Go.Proofs.YtmeicgbddgeeoaaGreatDoor
end
section
set_option autoImplicit false
set_option linter.unusedVariables false
set_option linter.unusedSimpArgs false
namespace Go.Proofs.YtmeicgbddgeeoaaGreatDoor
open Go.Abs
def num (h l : Int) : D := .agg [.int .i64 h, .int .i64 l]
theorem of_ok (n : Int) : PCall env 97 [.int .i64 n] (num (n / 4294967296) (n % 4294967296)) := by
 refine acalls_of envOk Tryz.func97 rfl (by kernel_rfl) (m := 7) rfl ?_
 simp only [push_cast, simprocAttr, -Int.reducePow]
 refine WK.now ?_
 simp only [push_cast, simprocAttr, -Int.reducePow]
 simp only [num, and32, fdiv32]
theorem plus_ok (h l h' l' : Int) (b1 : I64 (h + h')) (b2 : I64 (l + l')) (b3 : I64 (h + h' + (l + l') / 4294967296)) :
  PCall env 98 [num h l, num h' l'] (num (h + h' + (l + l') / 4294967296) ((l + l') % 4294967296)) := by
 refine acalls_of envOk Tryz.func98 rfl (by kernel_rfl) (m := 20) rfl ?_
 simp only [num, push_cast, simprocAttr, -Int.reducePow]
 refine WK.now ?_
 simp only [push_cast, simprocAttr, -Int.reducePow]
 simp only [num, and32, fdiv32]
 rw [wrapi b1.1 b1.2, wrapi b2.1 b2.2, wrapi b3.1 b3.2]
def ifOk (c : Bool) (n : Int) : D := .tup [.int .i64 (if c then n else 0), .bool c]
theorem value_ok (h l : Int) (b1 : 0 ≤ l) (b2 : l < 4294967296) :
  PCall env 99 [num h l] (ifOk (decide (-2147483648 ≤ h ∧ h ≤ 2147483647)) (h * 4294967296 + l)) := by
 refine acalls_of envOk Tryz.func99 rfl (by kernel_rfl) (m := 17) rfl ?_
 simp only [num, push_cast, simprocAttr, -Int.reducePow]
 refine Kbr.mk (fun c => ?_) (fun c => ?_)
 ·have c1 : ¬ h < -2147483648 := by simpa using c
  simp only [push_cast, simprocAttr, -Int.reducePow]
  refine Kbr.mk (fun c => ?_) (fun c => ?_)
  ·have c2 : h > 2147483647 := by simpa using c
   simp only [push_cast, simprocAttr, -Int.reducePow]
   refine WK.now ?_
   simp only [push_cast, simprocAttr, -Int.reducePow]
   have : decide (-2147483648 ≤ h ∧ h ≤ 2147483647) = false := by simp; omega
   simp [ifOk, this]
  ·have c2 : ¬ h > 2147483647 := by simpa using c
   simp only [push_cast, simprocAttr, -Int.reducePow]
   refine WK.now ?_
   simp only [push_cast, simprocAttr, -Int.reducePow]
   have : decide (-2147483648 ≤ h ∧ h ≤ 2147483647) = true := by simp; omega
   simp only [ifOk, this]
   rw [wrapi (n := h * 4294967296) (by omega) (by omega), wrapi (by omega) (by omega)]
   simp
 ·have c1 : h < -2147483648 := by simpa using c
  simp only [push_cast, simprocAttr, -Int.reducePow]
  refine WK.now ?_
  simp only [push_cast, simprocAttr, -Int.reducePow]
  have : decide (-2147483648 ≤ h ∧ h ≤ 2147483647) = false := by simp; omega
  simp [ifOk, this]
theorem rwrong_ok (a : List Int) (d : Int) (ha : a.length ≤ 9223372036854775807) : PCall env 61 [sl a, .int .i64 d] (.int .i64 (wrongS a d)) := by
 refine acalls_of envOk Tryz.func61 rfl (by kernel_rfl) (m := 36) rfl ?_
 simp only [push_cast, simprocAttr, -Int.reducePow]
 refine ALoop.mk (fun k t H ds => ∃ i : Nat, k = a.length - i ∧ i ≤ a.length ∧ (∀ j, j < i → wrongP (a.getD j 0) = false) ∧ t = (.d (.slice 1 (ints a)) :: .d (.int .i64 d) :: .x :: .x :: .d (.int .i64 0) :: .d (.int .i64 (i : Nat)) :: xs32) ∧ H = [] ∧ ds = []) a.length
  (WK.fgt (t' := (.d (.slice 1 (ints a)) :: .d (.int .i64 d) :: .x :: .x :: .d (.int .i64 0) :: .d (.int .i64 (0 : Nat)) :: xs32)) (by simp [fgt, ints_length, intss_length]) (WK.now ⟨0, by omega, by omega, by omega, rfl, rfl, rfl⟩)) ?_
 rintro k t H ds ⟨i, rfl, hi, hp, rfl, rfl, rfl⟩
 simp only [push_cast, simprocAttr, -Int.reducePow]
 refine Kbr.mk (fun c => ?_) (fun c => ?_)
 ·have c2 : i < a.length := by simpa using c
  simp only [c2, cel_ints, push_cast, simprocAttr, -Int.reducePow]
  have found : wrongP (a.getD i 0) = true → (i : Int) = wrongS a d := fun hw => by
   have e : a.findIdx wrongP = i := (List.findIdx_eq c2).2 ⟨by simpa [List.getD_eq_getElem?_getD, c2] using hw, fun j hj => by simpa [List.getD_eq_getElem?_getD, show j < a.length by omega] using hp j hj⟩
   simp [wrongS, idx, e, c2]
  refine Kbr.mk (fun c => ?_) (fun c => ?_)
  ·have c3 : ¬ a.getD i 0 < 0 := by simpa using c
   simp only [c2, cel_ints, push_cast, simprocAttr, -Int.reducePow]
   refine Kbr.mk (fun c => ?_) (fun c => ?_)
   ·have c4 : a.getD i 0 > 1099511627776 := by simpa using c
    simp only [push_cast, simprocAttr, -Int.reducePow]
    refine WK.now ?_
    simp only [push_cast, simprocAttr, -Int.reducePow]
    rw [found (by simp [wrongP]; right; simpa using c4)]
   ·have c4 : ¬ a.getD i 0 > 1099511627776 := by simpa using c
    simp only [succW c2 ha, push_cast, simprocAttr, -Int.reducePow]
    refine ⟨a.length - (i + 1), by omega, WK.fgt (t' := (.d (.slice 1 (ints a)) :: .d (.int .i64 d) :: .x :: .x :: .d (.int .i64 0) :: .d (.int .i64 (i + 1 : Nat)) :: xs32)) (by simp [fgt, ints_length, intss_length]) (WK.now ⟨i + 1, rfl, by omega, fun j hj => ?_, rfl, rfl, rfl⟩)⟩
    rcases Nat.lt_succ_iff_lt_or_eq.1 hj with hj | rfl
    ·exact hp j hj
    ·unfold wrongP; rw [decide_eq_false (by omega)]
  ·have c3 : a.getD i 0 < 0 := by simpa using c
   simp only [push_cast, simprocAttr, -Int.reducePow]
   refine WK.now ?_
   simp only [push_cast, simprocAttr, -Int.reducePow]
   rw [found (by unfold wrongP; rw [decide_eq_true (by omega)])]
 ·have c2 : ¬ i < a.length := by simpa using c
  simp only [push_cast, simprocAttr, -Int.reducePow]
  have e : ¬ a.findIdx wrongP < a.length := by
   rw [List.findIdx_lt_length]
   rintro ⟨x, hx, hpx⟩
   obtain ⟨j, hj, rfl⟩ := List.getElem_of_mem hx
   have := hp j (by omega)
   simp [List.getD_eq_getElem?_getD, hj, hpx] at this
  have e' : wrongS a d = if (a.length : Int) = d then -1 else max (min d a.length) 0 := by simp [wrongS, idx, e]
  rw [e']
  refine Kbr.mk (fun c => ?_) (fun c => ?_)
  ·have c3 : (a.length : Int) = d := by simpa using c
   simp only [push_cast, simprocAttr, -Int.reducePow]
   refine WK.now ?_
   simp only [push_cast, simprocAttr, -Int.reducePow]
   rw [if_pos c3]
  ·have c3 : ¬ (a.length : Int) = d := by simpa using c
   rw [if_neg c3]
   simp only [push_cast, simprocAttr, -Int.reducePow]
   refine Kbr.mk (fun c => ?_) (fun c => ?_)
   ·have c4 : d < 0 := by simpa using c
    simp only [push_cast, simprocAttr, -Int.reducePow]
    refine WK.now ?_
    simp only [push_cast, simprocAttr, -Int.reducePow]
    rw [show max (min d a.length) 0 = 0 by omega]
   ·have c4 : ¬ d < 0 := by simpa using c
    simp only [push_cast, simprocAttr, -Int.reducePow]
    refine Kbr.mk (fun c => ?_) (fun c => ?_)
    ·have c5 : d < a.length := by simpa using c
     simp only [push_cast, simprocAttr, -Int.reducePow]
     refine WK.now ?_
     simp only [push_cast, simprocAttr, -Int.reducePow]
     rw [show max (min d a.length) 0 = d by omega]
    ·have c5 : ¬ d < a.length := by simpa using c
     simp only [push_cast, simprocAttr, -Int.reducePow]
     refine WK.now ?_
     simp only [push_cast, simprocAttr, -Int.reducePow]
     rw [show max (min d a.length) 0 = a.length by omega]
theorem radd_ok (l : List (List Int)) (hl : Sz l) (hs : ∀ j, Sz (l.getD j [])) (rl : InRs l) : PCall env 62 [sll l] (resS (addS l)) := by
 refine acalls_of envOk Tryz.func62 rfl (by kernel_rfl) (m := 66) rfl ?_
 simp only [push_cast, simprocAttr, -Int.reducePow]
 refine Kbr.mk (fun c => ?_) (fun c => ?_)
 ·have hn : l.length = 0 := by simpa using c
  simp only [push_cast, simprocAttr, -Int.reducePow]
  refine WK.now ?_
  simp only [push_cast, simprocAttr, -Int.reducePow]
  rw [addS_no (fun h => by have := h.1; omega)]
 ·have hn : l.length ≠ 0 := by simpa using c
  have h0 : 0 < l.length := by omega
  have hz : (0 : Int) < (l.length : Int) := by omega
  have hs0 := hs 0
  simp only [push_cast, simprocAttr, -Int.reducePow]
  refine ALoop.mk (fun k t H ds => ∃ i : Nat, k = l.length - i ∧ i ≤ l.length ∧ (∀ j, j < i → (l.getD j []).length = (l.getD 0 []).length) ∧ t = (.d (.slice 1 (intss l)) :: .x :: .d .nils :: .d (.bool false) :: .d (.int .i64 (i : Nat)) :: xs62) ∧ H = [] ∧ ds = []) l.length
   (WK.fgt (t' := (.d (.slice 1 (intss l)) :: .x :: .d .nils :: .d (.bool false) :: .d (.int .i64 (0 : Nat)) :: xs62)) (by simp [fgt, ints_length, intss_length]) (WK.now ⟨0, by omega, by omega, by omega, rfl, rfl, rfl⟩)) ?_
  rintro k t H ds ⟨i, rfl, hi, hu, rfl, rfl, rfl⟩
  simp only [push_cast, simprocAttr, -Int.reducePow]
  refine Kbr.mk (fun c => ?_) (fun c => ?_)
  ·have c2 : i < l.length := by simpa using c
   simp only [c2, h0, hz, cel_intss, push_cast, simprocAttr, -Int.reducePow]
   refine DRegL.one (by unfold DrawOK; kernel_rfl) ?_
   simp only [c2, h0, hz, cel_intss, push_cast, simprocAttr, -Int.reducePow]
   refine Kbr.mk (fun c => ?_) (fun c => ?_)
   ·have c3 : (l.getD i []).length ≠ (l.getD 0 []).length := by rw [bne_nat] at c; exact B_iff.1 c
    simp only [push_cast, simprocAttr, -Int.reducePow]
    refine WK.now ?_
    simp only [push_cast, simprocAttr, -Int.reducePow]
    rw [addS_no (fun h => c3 (h.2.1 i c2))]
   ·have c3 : (l.getD i []).length = (l.getD 0 []).length := by rw [bne_nat] at c; have := B_not.1 c; omega
    simp only [succ64 c2 (Nat.le_trans hl (by omega)), push_cast, simprocAttr, -Int.reducePow]
    refine ⟨l.length - (i + 1), by omega, WK.fgt (t' := (.d (.slice 1 (intss l)) :: .x :: .d .nils :: .d (.bool false) :: .d (.int .i64 (i + 1 : Nat)) :: xs62)) (by simp [fgt, ints_length, intss_length]) (WK.now ⟨i + 1, rfl, by omega, fun j hj => ?_, rfl, rfl, rfl⟩)⟩
    rcases Nat.lt_succ_iff_lt_or_eq.1 hj with hj | rfl
    ·exact hu j hj
    ·exact c3
  ·have c2 : ¬ i < l.length := by simpa using c
   have hil : i = l.length := by omega
   subst hil
   simp only [push_cast, simprocAttr, -Int.reducePow]
   refine ALoop.mk (fun m t H ds => ∃ (k : Nat) (out : List Int), m = (l.getD 0 []).length - k ∧ k ≤ (l.getD 0 []).length ∧ out.length = k ∧ (∀ j, j < k → I64 (colS l j) ∧ out.getD j 0 = colS l j) ∧ t = (.d (.slice 1 (intss l)) :: .x :: .d .nils :: .d (.bool false) :: .x :: .sfull 0 :: .d (.int .i64 (k : Nat)) :: xs60) ∧ H = [.arr 2 1 (ints out)] ∧ ds = []) (l.getD 0 []).length
    (WK.nil 5 2 1 rfl (WK.fgt (t' := (.d (.slice 1 (intss l)) :: .x :: .d .nils :: .d (.bool false) :: .x :: .sfull 0 :: .d (.int .i64 (0 : Nat)) :: xs60)) (by simp [fgt, ints_length, intss_length]) (WK.now ⟨0, [], by omega, by omega, rfl, by omega, rfl, rfl, rfl⟩))) ?_
   rintro m t H ds ⟨k, out, rfl, hk, ho, hp, rfl, rfl, rfl⟩
   simp only [h0, hz, cel_intss, push_cast, simprocAttr, -Int.reducePow]
   refine Kbr.mk (fun c => ?_) (fun c => ?_)
   ·have c2 : k < (l.getD 0 []).length := by simpa using c
    simp only [push_cast, simprocAttr, -Int.reducePow]
    refine (show PCall env 97 [.int .i64 0] (num 0 0) from of_ok 0).go (by first | exact ⟨.inl rfl, trivial⟩ | exact ⟨.inl rfl, .inl rfl, trivial⟩ | exact ⟨.inl rfl, .inl rfl, .inl rfl, trivial⟩ | simp [argsOk, argOk, sl, sll]) (WK.now ?_)
    simp only [num, push_cast, simprocAttr, -Int.reducePow]
    refine ALoop.mk (fun m t H ds => ∃ i : Nat, m = l.length - i ∧ i ≤ l.length ∧ t = (.d (.slice 1 (intss l)) :: .x :: .d .nils :: .d (.bool false) :: .x :: .sfull 0 :: .d (.int .i64 (k : Nat)) :: .pvar 1 0 :: .d (.int .i64 (i : Nat)) :: xs58) ∧ H = [.arr 2 1 (ints out), .var [.d (.int .i64 (psum (at2 l k) i / 4294967296)), .d (.int .i64 (psum (at2 l k) i % 4294967296))]] ∧ ds = []) l.length
     (WK.fgt (t' := (.d (.slice 1 (intss l)) :: .x :: .d .nils :: .d (.bool false) :: .x :: .sfull 0 :: .d (.int .i64 (k : Nat)) :: .pvar 1 0 :: .d (.int .i64 (0 : Nat)) :: xs58)) (by simp [fgt, ints_length, intss_length]) (WK.now ⟨0, by omega, by omega, rfl, rfl, rfl⟩)) ?_
    rintro m t H ds ⟨i, rfl, hi, rfl, rfl, rfl⟩
    simp only [push_cast, simprocAttr, -Int.reducePow]
    refine Kbr.mk (fun c => ?_) (fun c => ?_)
    ·have c3 : i < l.length := by simpa using c
     have c4 : k < (l.getD i []).length := by rw [hu i c3]; exact c2
     have hb := psum_bound (at2 l k) (fun j => rl j k) i
     have hv : I64 (at2 l k i) := rl i k
     have e0 : (l.getD i []).getD k 0 = at2 l k i := rfl
     unfold Sz at hl
     unfold I64 at hv
     simp only [c3, c4, cel_intss, cel_ints, e0, push_cast, simprocAttr, -Int.reducePow]
     refine DRegL.one (by unfold DrawOK; kernel_rfl) ?_
     simp only [c3, c4, cel_intss, cel_ints, e0, push_cast, simprocAttr, -Int.reducePow]
     refine (of_ok (at2 l k i)).quiet' (by first | exact ⟨.inl rfl, trivial⟩ | exact ⟨.inl rfl, .inl rfl, trivial⟩ | exact ⟨.inl rfl, .inl rfl, .inl rfl, trivial⟩ | simp [argsOk, argOk, sl, sll]) ?_
     simp only [num, push_cast, simprocAttr, -Int.reducePow]
     refine (plus_ok (psum (at2 l k) i / 4294967296) (psum (at2 l k) i % 4294967296) (at2 l k i / 4294967296) (at2 l k i % 4294967296) (by unfold I64; omega) (by unfold I64; omega) (by unfold I64; omega)).quiet' (by simp [argsOk, argOk, num]) ?_
     simp only [num, succ64 c3 (Nat.le_trans hl (by omega)), push_cast, simprocAttr, -Int.reducePow]
     have e1 : psum (at2 l k) i / 4294967296 + at2 l k i / 4294967296 + (psum (at2 l k) i % 4294967296 + at2 l k i % 4294967296) / 4294967296 = psum (at2 l k) (i + 1) / 4294967296 := by simp only [psum]; omega
     have e2 : (psum (at2 l k) i % 4294967296 + at2 l k i % 4294967296) % 4294967296 = psum (at2 l k) (i + 1) % 4294967296 := by simp only [psum]; omega
     rw [e1, e2]
     exact ⟨l.length - (i + 1), by omega, WK.fgt (t' := (.d (.slice 1 (intss l)) :: .x :: .d .nils :: .d (.bool false) :: .x :: .sfull 0 :: .d (.int .i64 (k : Nat)) :: .pvar 1 0 :: .d (.int .i64 (i + 1 : Nat)) :: xs58)) (by simp [fgt, ints_length, intss_length]) (WK.now ⟨i + 1, rfl, by omega, rfl, rfl, rfl⟩)⟩
    ·have c3 : ¬ i < l.length := by simpa using c
     have hil : i = l.length := by omega
     subst hil
     have hb := psum_bound (at2 l k) (fun j => rl j k) l.length
     unfold Sz at hl hs0
     simp only [push_cast, simprocAttr, -Int.reducePow]
     refine (value_ok (psum (at2 l k) l.length / 4294967296) (psum (at2 l k) l.length % 4294967296) (by omega) (by omega)).go (by simp [argsOk, argOk, num]) (WK.now ?_)
     have e1 : psum (at2 l k) l.length / 4294967296 * 4294967296 + psum (at2 l k) l.length % 4294967296 = colS l k := by unfold colS; omega
     have e2 : decide (-2147483648 ≤ psum (at2 l k) l.length / 4294967296 ∧ psum (at2 l k) l.length / 4294967296 ≤ 2147483647) = B (I64 (colS l k)) := by
      rw [B_dec]
      congr 1
      unfold I64 colS
      apply propext
      omega
     rw [e1, e2]
     simp only [ifOk, push_cast, simprocAttr, -Int.reducePow]
     refine Kbr.mk (fun c => ?_) (fun c => ?_)
     ·have c4 : ¬ I64 (colS l k) := B_not.1 (by simpa using c)
      simp only [push_cast, simprocAttr, -Int.reducePow]
      refine WK.now ?_
      simp only [push_cast, simprocAttr, -Int.reducePow]
      rw [addS_no (fun h => c4 (h.2.2 k c2))]
     ·have c4 : I64 (colS l k) := B_iff.1 (by simpa using c)
      have c4' := B_true c4
      simp only [c4', succ64 c2 (Nat.le_trans hs0 (by omega)), push_cast, simprocAttr, -Int.reducePow]
      refine ⟨room_of (by omega) (by omega), (l.getD 0 []).length - (k + 1), by omega, WK.pick [2] (t' := (.d (.slice 1 (intss l)) :: .x :: .d .nils :: .d (.bool false) :: .x :: .sfull 0 :: .d (.int .i64 (k + 1 : Nat)) :: xs60)) (H' := [.arr 2 1 (ints (out ++ [colS l k]))]) (by simp [ints, intss, sbl, ren_none, ren_var, ren_arr, ren_map, ren_mapb, ren_iter, ren_loop, ren_defr, bel_none, bel_var, bel_arr, bel_map, bel_mapb, bel_iter, bel_loop, bel_defr, AV.renL, AV.ren, AV.belL, AV.bel, rn]) (by simp) (by simp) (by simp [tellL, AV.ren, AV.renL, AV.bel, AV.belL, rn]) (fun id h => absurd h (by omega)) (WK.now ⟨k + 1, _, rfl, by omega, by simp [ho], fun j hj => ?_, rfl, rfl, rfl⟩)⟩
      rcases Nat.lt_succ_iff_lt_or_eq.1 hj with hj | rfl
      ·simpa [List.getD_eq_getElem?_getD, List.getElem?_append_left (show j < out.length by omega)] using hp j hj
      ·refine ⟨c4, ?_⟩
       simp [List.getD_eq_getElem?_getD, ← ho]
   ·have c2 : ¬ k < (l.getD 0 []).length := by simpa using c
    simp only [push_cast, simprocAttr, -Int.reducePow]
    refine WK.frz 0 rfl (WK.now ?_)
    simp only [push_cast, simprocAttr, -Int.reducePow]
    have e : out = (List.range (l.getD 0 []).length).map (colS l) := List.ext_getElem (by rw [List.length_map, List.length_range]; omega) fun j h1 h2 => by
     have := (hp j (by omega)).2
     simpa [List.getD_eq_getElem?_getD, h1] using this
    rw [addS_yes ⟨h0, hu, fun k hk => (hp k (by omega)).1⟩, e]
    rfl
end Go.Proofs.YtmeicgbddgeeoaaGreatDoor
end
section
set_option autoImplicit false
set_option linter.unusedVariables false
set_option linter.unusedSimpArgs false
namespace Go.Proofs.YtmeicgbddgeeoaaGreatDoor
open Go.Abs
def errF : Option (Int × Int) → D
 | none => .nili
 | some p => .iface 169 (.agg [.int .i64 p.1, .int .i64 p.2])
theorem fnew_ok (c a : Int) : PCall env 81 [.int .i64 c, .int .i64 a] (errF (some (c, a))) := by
 refine acalls_of envOk Tryz.func81 rfl (by kernel_rfl) (m := 7) rfl ?_
 simp only [push_cast, simprocAttr, errF]
 refine WK.now ?_
 simp only [push_cast, simprocAttr, errF]
theorem clone_ok (a : List Int) (ha : Sz a) : ACalls env 117 [.d (.slice 1 (ints a))] [] fun r H' => r = .sfull 0 ∧ H' = [.arr 2 1 (ints a)] := by
 have hr : room a.length 8 := room_of (by unfold Sz at ha; omega) (by omega)
 refine acalls_of envOk Tryz.func117 rfl (by kernel_rfl) (m := 7) rfl ?_
 simp only [push_cast, simprocAttr, errF]
 refine ⟨⟨.inr trivial, hr, WK.now ?_⟩, fun h0 => ?_⟩
 ·simp only [push_cast, simprocAttr, errF]
 ·refine WK.nil 2 2 1 rfl (WK.now ?_)
  simp only [← h0, push_cast, simprocAttr, errF]
theorem cloneD_ok (a : List Int) (ha : Sz a) : PCall env 117 [sl a] (sl a) :=
 (clone_ok a ha).retell (by
  rintro r H' ⟨rfl, rfl⟩
  refine WK.frz 0 rfl ?_
  simp only [AV.frzL, AV.frz, AObj.frz, List.set_cons_zero, List.map_cons, List.map_nil, if_true]
  exact WK.now ⟨_, rfl, rfl⟩)
end Go.Proofs.YtmeicgbddgeeoaaGreatDoor
end
