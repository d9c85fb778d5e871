/- A part of the proof. -/
import Derived.Test.YtmhboloicpieeaaGreatDoorProg
import Derived.Test.YtmhboloicpieeaaGreatDoorRAbCk
import Derived.KernelRfl
set_option linter.all false
namespace Go.Proofs.YtmhboloicpieeaaGreatDoor.Tys
open Go.Ab Go.Proofs
theorem ti3 : ti Tryz.prog 3 = some ⟨1, false, 8, [.int .i64 0]⟩ := by kernel_rfl
theorem kyt3 : keyT Tryz.prog 3 = some (false, [.int .i64]) := by kernel_rfl
theorem ti4 : ti Tryz.prog 4 = some ⟨1, false, 1, [.bool false]⟩ := by kernel_rfl
theorem ti9 : ti Tryz.prog 9 = some ⟨1, false, 16, [.string ByteArray.empty]⟩ := by kernel_rfl
theorem kyt9 : keyT Tryz.prog 9 = some (false, [.str]) := by kernel_rfl
theorem ti22 : ti Tryz.prog 22 = some ⟨1, false, 24, [.slice none 0 0]⟩ := by kernel_rfl
theorem elt22 : elt Tryz.prog 22 = some 62 := by kernel_rfl
theorem ti23 : ti Tryz.prog 23 = some ⟨1, false, 24, [.slice none 0 0]⟩ := by kernel_rfl
theorem elt23 : elt Tryz.prog 23 = some 82 := by kernel_rfl
theorem ti27 : ti Tryz.prog 27 = some ⟨1, false, 24, [.slice none 0 0]⟩ := by kernel_rfl
theorem elt27 : elt Tryz.prog 27 = some 46 := by kernel_rfl
theorem ti28 : ti Tryz.prog 28 = some ⟨1, false, 24, [.slice none 0 0]⟩ := by kernel_rfl
theorem elt28 : elt Tryz.prog 28 = some 76 := by kernel_rfl
theorem ti30 : ti Tryz.prog 30 = some ⟨2, true, 48, [.slice none 0 0, .slice none 0 0]⟩ := by kernel_rfl
theorem fld30_0 : fld Tryz.prog 30 0 = some (0, 27) := by kernel_rfl
theorem fld30_1 : fld Tryz.prog 30 1 = some (1, 28) := by kernel_rfl
theorem bld30 : bldOK Tryz.prog 30 = true := by kernel_rfl
theorem ti32 : ti Tryz.prog 32 = some ⟨1, false, 24, [.slice none 0 0]⟩ := by kernel_rfl
theorem elt32 : elt Tryz.prog 32 = some 39 := by kernel_rfl
theorem ti37 : ti Tryz.prog 37 = some ⟨2, true, 24, [.string ByteArray.empty, .int .i64 0]⟩ := by kernel_rfl
theorem fld37_0 : fld Tryz.prog 37 0 = some (0, 9) := by kernel_rfl
theorem fld37_1 : fld Tryz.prog 37 1 = some (1, 3) := by kernel_rfl
theorem bld37 : bldOK Tryz.prog 37 = true := by kernel_rfl
theorem eqt37 : eqT Tryz.prog 37 = some [.str, .int .i64] := by kernel_rfl
theorem kyt37 : keyT Tryz.prog 37 = some (true, [.str, .int .i64]) := by kernel_rfl
theorem ti39 : ti Tryz.prog 39 = some ⟨11, true, 128, [.int .i64 0, .string ByteArray.empty, .int .i64 0, .string ByteArray.empty, .int .i64 0, .int .i64 0, .string ByteArray.empty, .int .i64 0, .string ByteArray.empty, .int .i64 0, .string ByteArray.empty]⟩ := by kernel_rfl
theorem fld39_0 : fld Tryz.prog 39 0 = some (0, 3) := by kernel_rfl
theorem fld39_1 : fld Tryz.prog 39 1 = some (1, 37) := by kernel_rfl
theorem fld39_2 : fld Tryz.prog 39 2 = some (3, 9) := by kernel_rfl
theorem fld39_3 : fld Tryz.prog 39 3 = some (4, 3) := by kernel_rfl
theorem fld39_4 : fld Tryz.prog 39 4 = some (5, 3) := by kernel_rfl
theorem fld39_5 : fld Tryz.prog 39 5 = some (6, 9) := by kernel_rfl
theorem fld39_6 : fld Tryz.prog 39 6 = some (7, 3) := by kernel_rfl
theorem fld39_7 : fld Tryz.prog 39 7 = some (8, 37) := by kernel_rfl
theorem fld39_8 : fld Tryz.prog 39 8 = some (10, 9) := by kernel_rfl
theorem bld39 : bldOK Tryz.prog 39 = true := by kernel_rfl
theorem ti41 : ti Tryz.prog 41 = some ⟨4, true, 16, [.int .i64 0, .bool false, .bool false, .bool false]⟩ := by kernel_rfl
theorem fld41_0 : fld Tryz.prog 41 0 = some (0, 3) := by kernel_rfl
theorem fld41_1 : fld Tryz.prog 41 1 = some (1, 4) := by kernel_rfl
theorem fld41_3 : fld Tryz.prog 41 3 = some (3, 4) := by kernel_rfl
theorem bld41 : bldOK Tryz.prog 41 = true := by kernel_rfl
theorem eqt41 : eqT Tryz.prog 41 = some [.int .i64, .bool, .bool, .bool] := by kernel_rfl
theorem ti44 : ti Tryz.prog 44 = some ⟨2, true, 16, [.int .u64 0, .int .i64 0]⟩ := by kernel_rfl
theorem fld44_1 : fld Tryz.prog 44 1 = some (1, 3) := by kernel_rfl
theorem bld44 : bldOK Tryz.prog 44 = true := by kernel_rfl
theorem eqt44 : eqT Tryz.prog 44 = some [.int .u64, .int .i64] := by kernel_rfl
theorem ti46 : ti Tryz.prog 46 = some ⟨12, true, 96, [.string ByteArray.empty, .int .i64 0, .int .i64 0, .int .i64 0, .int .i64 0, .bool false, .bool false, .bool false, .int .u64 0, .int .i64 0, .string ByteArray.empty, .int .i64 0]⟩ := by kernel_rfl
theorem fld46_0 : fld Tryz.prog 46 0 = some (0, 9) := by kernel_rfl
theorem fld46_1 : fld Tryz.prog 46 1 = some (1, 3) := by kernel_rfl
theorem fld46_2 : fld Tryz.prog 46 2 = some (2, 3) := by kernel_rfl
theorem fld46_3 : fld Tryz.prog 46 3 = some (3, 3) := by kernel_rfl
theorem fld46_4 : fld Tryz.prog 46 4 = some (4, 41) := by kernel_rfl
theorem fld46_5 : fld Tryz.prog 46 5 = some (8, 44) := by kernel_rfl
theorem fld46_6 : fld Tryz.prog 46 6 = some (10, 9) := by kernel_rfl
theorem fld46_7 : fld Tryz.prog 46 7 = some (11, 3) := by kernel_rfl
theorem bld46 : bldOK Tryz.prog 46 = true := by kernel_rfl
theorem eqt46 : eqT Tryz.prog 46 = some [.str, .int .i64, .int .i64, .int .i64, .int .i64, .bool, .bool, .bool, .int .u64, .int .i64, .str, .int .i64] := by kernel_rfl
theorem ti50 : ti Tryz.prog 50 = some ⟨1, false, 24, [.slice none 0 0]⟩ := by kernel_rfl
theorem elt50 : elt Tryz.prog 50 = some 56 := by kernel_rfl
theorem ti54 : ti Tryz.prog 54 = some ⟨7, true, 40, [.int .i64 0, .bool false, .bool false, .bool false, .int .u64 0, .int .i64 0, .bool false]⟩ := by kernel_rfl
theorem fld54_0 : fld Tryz.prog 54 0 = some (0, 41) := by kernel_rfl
theorem fld54_1 : fld Tryz.prog 54 1 = some (4, 44) := by kernel_rfl
theorem fld54_2 : fld Tryz.prog 54 2 = some (6, 4) := by kernel_rfl
theorem bld54 : bldOK Tryz.prog 54 = true := by kernel_rfl
theorem ti56 : ti Tryz.prog 56 = some ⟨12, true, 96, [.string ByteArray.empty, .int .i64 0, .int .i64 0, .bool false, .bool false, .bool false, .int .u64 0, .int .i64 0, .int .i64 0, .string ByteArray.empty, .int .i64 0, .int .i64 0]⟩ := by kernel_rfl
theorem fld56_0 : fld Tryz.prog 56 0 = some (0, 9) := by kernel_rfl
theorem fld56_1 : fld Tryz.prog 56 1 = some (1, 3) := by kernel_rfl
theorem fld56_2 : fld Tryz.prog 56 2 = some (2, 41) := by kernel_rfl
theorem fld56_3 : fld Tryz.prog 56 3 = some (6, 44) := by kernel_rfl
theorem fld56_4 : fld Tryz.prog 56 4 = some (8, 3) := by kernel_rfl
theorem fld56_5 : fld Tryz.prog 56 5 = some (9, 9) := by kernel_rfl
theorem fld56_6 : fld Tryz.prog 56 6 = some (10, 3) := by kernel_rfl
theorem bld56 : bldOK Tryz.prog 56 = true := by kernel_rfl
theorem ti62 : ti Tryz.prog 62 = some ⟨5, true, 88, [.int .i64 0, .string ByteArray.empty, .string ByteArray.empty, .slice none 0 0, .slice none 0 0]⟩ := by kernel_rfl
theorem fld62_0 : fld Tryz.prog 62 0 = some (0, 3) := by kernel_rfl
theorem fld62_3 : fld Tryz.prog 62 3 = some (3, 50) := by kernel_rfl
theorem fld62_4 : fld Tryz.prog 62 4 = some (4, 28) := by kernel_rfl
theorem bld62 : bldOK Tryz.prog 62 = true := by kernel_rfl
theorem ti63 : ti Tryz.prog 63 = some ⟨1, false, 24, [.slice none 0 0]⟩ := by kernel_rfl
theorem elt63 : elt Tryz.prog 63 = some 3 := by kernel_rfl
theorem ti70 : ti Tryz.prog 70 = some ⟨1, false, 24, [.slice none 0 0]⟩ := by kernel_rfl
theorem elt70 : elt Tryz.prog 70 = some 37 := by kernel_rfl
theorem ti76 : ti Tryz.prog 76 = some ⟨6, true, 64, [.string ByteArray.empty, .int .i64 0, .int .i64 0, .string ByteArray.empty, .int .i64 0, .int .i64 0]⟩ := by kernel_rfl
theorem fld76_0 : fld Tryz.prog 76 0 = some (0, 9) := by kernel_rfl
theorem fld76_1 : fld Tryz.prog 76 1 = some (1, 3) := by kernel_rfl
theorem fld76_2 : fld Tryz.prog 76 2 = some (2, 3) := by kernel_rfl
theorem fld76_3 : fld Tryz.prog 76 3 = some (3, 9) := by kernel_rfl
theorem fld76_4 : fld Tryz.prog 76 4 = some (4, 3) := by kernel_rfl
theorem fld76_5 : fld Tryz.prog 76 5 = some (5, 3) := by kernel_rfl
theorem bld76 : bldOK Tryz.prog 76 = true := by kernel_rfl
theorem ti77 : ti Tryz.prog 77 = some ⟨1, false, 24, [.slice none 0 0]⟩ := by kernel_rfl
theorem elt77 : elt Tryz.prog 77 = some 9 := by kernel_rfl
theorem ti79 : ti Tryz.prog 79 = some ⟨2, true, 32, [.slice none 0 0, .bool false]⟩ := by kernel_rfl
theorem fld79_0 : fld Tryz.prog 79 0 = some (0, 77) := by kernel_rfl
theorem fld79_1 : fld Tryz.prog 79 1 = some (1, 4) := by kernel_rfl
theorem bld79 : bldOK Tryz.prog 79 = true := by kernel_rfl
theorem ti80 : ti Tryz.prog 80 = some ⟨1, false, 24, [.slice none 0 0]⟩ := by kernel_rfl
theorem elt80 : elt Tryz.prog 80 = some 79 := by kernel_rfl
theorem ti82 : ti Tryz.prog 82 = some ⟨5, true, 88, [.slice none 0 0, .bool false, .slice none 0 0, .bool false, .slice none 0 0]⟩ := by kernel_rfl
theorem fld82_0 : fld Tryz.prog 82 0 = some (0, 79) := by kernel_rfl
theorem fld82_1 : fld Tryz.prog 82 1 = some (2, 79) := by kernel_rfl
theorem fld82_2 : fld Tryz.prog 82 2 = some (4, 80) := by kernel_rfl
theorem bld82 : bldOK Tryz.prog 82 = true := by kernel_rfl
theorem ti85 : ti Tryz.prog 85 = some ⟨1, false, 8, [.map none]⟩ := by kernel_rfl
theorem mpt85 : mapT Tryz.prog 85 = some (37, 159) := by kernel_rfl
theorem ti100 : ti Tryz.prog 100 = some ⟨37, true, 368, [.slice none 0 0, .slice none 0 0, .int .i64 0, .string ByteArray.empty, .int .i64 0, .string ByteArray.empty, .int .i64 0, .int .i64 0, .string ByteArray.empty, .int .i64 0, .string ByteArray.empty, .int .i64 0, .string ByteArray.empty, .string ByteArray.empty, .int .i64 0, .int .i64 0, .int .i64 0, .int .i64 0, .bool false, .bool false, .bool false, .int .u64 0, .int .i64 0, .string ByteArray.empty, .int .i64 0, .string ByteArray.empty, .int .i64 0, .int .i64 0, .int .i64 0, .int .i64 0, .bool false, .bool false, .bool false, .int .u64 0, .int .i64 0, .string ByteArray.empty, .int .i64 0]⟩ := by kernel_rfl
theorem fld100_0 : fld Tryz.prog 100 0 = some (0, 30) := by kernel_rfl
theorem fld100_1 : fld Tryz.prog 100 1 = some (2, 39) := by kernel_rfl
theorem fld100_2 : fld Tryz.prog 100 2 = some (13, 46) := by kernel_rfl
theorem fld100_3 : fld Tryz.prog 100 3 = some (25, 46) := by kernel_rfl
theorem bld100 : bldOK Tryz.prog 100 = true := by kernel_rfl
theorem ti103 : ti Tryz.prog 103 = some ⟨1, false, 8, [.nilFunc]⟩ := by kernel_rfl
theorem ti105 : ti Tryz.prog 105 = some ⟨3, true, 24, [.int .i64 0, .int .i64 0, .nilFunc]⟩ := by kernel_rfl
theorem fld105_0 : fld Tryz.prog 105 0 = some (0, 3) := by kernel_rfl
theorem fld105_1 : fld Tryz.prog 105 1 = some (1, 3) := by kernel_rfl
theorem fld105_2 : fld Tryz.prog 105 2 = some (2, 103) := by kernel_rfl
theorem bld105 : bldOK Tryz.prog 105 = true := by kernel_rfl
theorem ti107 : ti Tryz.prog 107 = some ⟨1, false, 8, [.map none]⟩ := by kernel_rfl
theorem mpt107 : mapT Tryz.prog 107 = some (3, 105) := by kernel_rfl
theorem ti114 : ti Tryz.prog 114 = some ⟨1, false, 24, [.slice none 0 0]⟩ := by kernel_rfl
theorem elt114 : elt Tryz.prog 114 = some 116 := by kernel_rfl
theorem ti116 : ti Tryz.prog 116 = some ⟨1, false, 8, [.nilFunc]⟩ := by kernel_rfl
theorem ti130 : ti Tryz.prog 130 = some ⟨1, false, 8, [.map none]⟩ := by kernel_rfl
theorem mpt130 : mapT Tryz.prog 130 = some (9, 3) := by kernel_rfl
theorem ti147 : ti Tryz.prog 147 = some ⟨5, true, 72, [.bool false, .slice none 0 0, .bool false, .slice none 0 0, .bool false]⟩ := by kernel_rfl
theorem fld147_1 : fld Tryz.prog 147 1 = some (1, 79) := by kernel_rfl
theorem fld147_2 : fld Tryz.prog 147 2 = some (3, 79) := by kernel_rfl
theorem bld147 : bldOK Tryz.prog 147 = true := by kernel_rfl
theorem ti151 : ti Tryz.prog 151 = some ⟨3, true, 56, [.slice none 0 0, .bool false, .slice none 0 0]⟩ := by kernel_rfl
theorem fld151_0 : fld Tryz.prog 151 0 = some (0, 79) := by kernel_rfl
theorem fld151_1 : fld Tryz.prog 151 1 = some (2, 80) := by kernel_rfl
theorem bld151 : bldOK Tryz.prog 151 = true := by kernel_rfl
theorem ti156 : ti Tryz.prog 156 = some ⟨1, false, 8, [.map none]⟩ := by kernel_rfl
theorem mpt156 : mapT Tryz.prog 156 = some (37, 4) := by kernel_rfl
theorem ti157 : ti Tryz.prog 157 = some ⟨1, false, 8, [.map none]⟩ := by kernel_rfl
theorem mpt157 : mapT Tryz.prog 157 = some (37, 4) := by kernel_rfl
theorem ti159 : ti Tryz.prog 159 = some ⟨4, true, 32, [.bool false, .map none, .map none, .map none]⟩ := by kernel_rfl
theorem fld159_0 : fld Tryz.prog 159 0 = some (0, 4) := by kernel_rfl
theorem fld159_1 : fld Tryz.prog 159 1 = some (1, 157) := by kernel_rfl
theorem fld159_2 : fld Tryz.prog 159 2 = some (2, 157) := by kernel_rfl
theorem fld159_3 : fld Tryz.prog 159 3 = some (3, 157) := by kernel_rfl
theorem bld159 : bldOK Tryz.prog 159 = true := by kernel_rfl
theorem ti162 : ti Tryz.prog 162 = some ⟨1, false, 8, [.map none]⟩ := by kernel_rfl
theorem mpt162 : mapT Tryz.prog 162 = some (9, 4) := by kernel_rfl
theorem ti175 : ti Tryz.prog 175 = some ⟨1, false, 8, [.map none]⟩ := by kernel_rfl
theorem mpt175 : mapT Tryz.prog 175 = some (9, 46) := by kernel_rfl
theorem ti176 : ti Tryz.prog 176 = some ⟨1, false, 8, [.map none]⟩ := by kernel_rfl
theorem mpt176 : mapT Tryz.prog 176 = some (9, 56) := by kernel_rfl
theorem ti177 : ti Tryz.prog 177 = some ⟨1, false, 8, [.map none]⟩ := by kernel_rfl
theorem mpt177 : mapT Tryz.prog 177 = some (37, 37) := by kernel_rfl
theorem ti179 : ti Tryz.prog 179 = some ⟨10, true, 160, [.slice none 0 0, .slice none 0 0, .int .i64 0, .string ByteArray.empty, .string ByteArray.empty, .slice none 0 0, .slice none 0 0, .map none, .map none, .map none]⟩ := by kernel_rfl
theorem fld179_0 : fld Tryz.prog 179 0 = some (0, 30) := by kernel_rfl
theorem fld179_1 : fld Tryz.prog 179 1 = some (2, 62) := by kernel_rfl
theorem fld179_2 : fld Tryz.prog 179 2 = some (7, 175) := by kernel_rfl
theorem fld179_3 : fld Tryz.prog 179 3 = some (8, 176) := by kernel_rfl
theorem fld179_4 : fld Tryz.prog 179 4 = some (9, 177) := by kernel_rfl
theorem bld179 : bldOK Tryz.prog 179 = true := by kernel_rfl
theorem ti180 : ti Tryz.prog 180 = some ⟨1, false, 24, [.slice none 0 0]⟩ := by kernel_rfl
theorem elt180 : elt Tryz.prog 180 = some 28 := by kernel_rfl
theorem ti187 : ti Tryz.prog 187 = some ⟨1, false, 8, [.int .u64 0]⟩ := by kernel_rfl
theorem ti257 : ti Tryz.prog 257 = some ⟨1, false, 24, [.slice none 0 0]⟩ := by kernel_rfl
theorem elt257 : elt Tryz.prog 257 = some 306 := by kernel_rfl
theorem ti306 : ti Tryz.prog 306 = some ⟨2, true, 32, [.slice none 0 0, .bool false]⟩ := by kernel_rfl
theorem fld306_0 : fld Tryz.prog 306 0 = some (0, 77) := by kernel_rfl
theorem fld306_1 : fld Tryz.prog 306 1 = some (1, 4) := by kernel_rfl
theorem bld306 : bldOK Tryz.prog 306 = true := by kernel_rfl
end Go.Proofs.YtmhboloicpieeaaGreatDoor.Tys
namespace Go.Proofs.YtmhboloicpieeaaGreatDoor
open Go.Ab
structure Rev where
 path : ByteArray
 num : Int
 chg : Int
 act : Int
 base : Int
 kw : Bool
 ex : Bool
 xe : Bool
 sum : Int
 size : Int
 frm : ByteArray
 fnum : Int
 deriving DecidableEq
structure Rcd where
 frm : ByteArray
 first : Int
 last : Int
 to : ByteArray
 num : Int
 how : Int
 deriving DecidableEq
structure Edt where
 path : ByteArray
 act : Int
 base : Int
 kw : Bool
 ex : Bool
 xe : Bool
 sum : Int
 size : Int
 prev : Int
 frm : ByteArray
 fnum : Int
 fence : Int
 deriving DecidableEq
structure Chg where
 num : Int
 client : ByteArray
 text : ByteArray
 edits : List Edt
 recs : List Rcd
 deriving DecidableEq
structure Fil where
 path : ByteArray
 num : Int
 deriving DecidableEq
structure Dep where
 revs : List Rev
 recs : List Rcd
 deriving DecidableEq
@[reducible] def encRev (r : Rev) : List D := [.v (.string r.path), .v (.int .i64 r.num), .v (.int .i64 r.chg), .v (.int .i64 r.act), .v (.int .i64 r.base), .v (.bool r.kw), .v (.bool r.ex), .v (.bool r.xe), .v (.int .u64 r.sum), .v (.int .i64 r.size), .v (.string r.frm), .v (.int .i64 r.fnum)]
@[reducible] def encRcd (r : Rcd) : List D := [.v (.string r.frm), .v (.int .i64 r.first), .v (.int .i64 r.last), .v (.string r.to), .v (.int .i64 r.num), .v (.int .i64 r.how)]
@[reducible] def encEdt (e : Edt) : List D := [.v (.string e.path), .v (.int .i64 e.act), .v (.int .i64 e.base), .v (.bool e.kw), .v (.bool e.ex), .v (.bool e.xe), .v (.int .u64 e.sum), .v (.int .i64 e.size), .v (.int .i64 e.prev), .v (.string e.frm), .v (.int .i64 e.fnum), .v (.int .i64 e.fence)]
@[reducible] def encFil (f : Fil) : List D := [.v (.string f.path), .v (.int .i64 f.num)]
@[reducible] def encChg (c : Chg) : List D := [.v (.int .i64 c.num), .v (.string c.client), .v (.string c.text), .ps 12 (c.edits.map encEdt), .ps 6 (c.recs.map encRcd)]
@[reducible] def encDep (d : Dep) : List D := [.ps 12 (d.revs.map encRev), .ps 6 (d.recs.map encRcd)]
@[reducible] def aRev (r : Rev) : AV := .agg ((encRev r).map C.d)
@[reducible] def aRcd (r : Rcd) : AV := .agg ((encRcd r).map C.d)
@[reducible] def aEdt (r : Edt) : AV := .agg ((encEdt r).map C.d)
@[reducible] def aFil (r : Fil) : AV := .agg ((encFil r).map C.d)
@[reducible] def aChg (r : Chg) : AV := .agg ((encChg r).map C.d)
@[reducible] def aDep (r : Dep) : AV := .agg ((encDep r).map C.d)
@[reducible] def aRevs (l : List Rev) : AV := .c (.d (.ps 12 (l.map encRev)))
@[reducible] def aFils (l : List Fil) : AV := .c (.d (.ps 2 (l.map encFil)))
@[reducible] def pRev (r : Rev) : Bool × List C := (true, (encRev r).map C.d)
@[reducible] def pB (b : Bool) : Bool × List C := (false, [.d (.v (.bool b))])
@[reducible] def pI (n : Int) : Bool × List C := (false, [.d (.v (.int .i64 n))])
def zRev : Rev := ⟨ByteArray.empty, 0, 0, 0, 0, false, false, false, 0, 0, ByteArray.empty, 0⟩
def zFil : Fil := ⟨ByteArray.empty, 0⟩
def zDep : Dep := ⟨[], []⟩
def wr (n : Int) : Int := IntKind.i64.wrap n
def gone (v : Rev) : Bool := decide (v.act = 3) || decide (v.act = 5)
def fileOf (v : Rev) : Fil := ⟨v.path, v.num⟩
def made (c : Chg) (x : Edt) : Rev := ⟨x.path, wr (x.prev + 1), c.num, x.act, x.base, x.kw, x.ex, x.xe, x.sum, x.size, x.frm, x.fnum⟩
def log (d : Dep) (p : ByteArray) : List Rev := d.revs.filter fun v => decide (v.path = p)
def last? (d : Dep) (p : ByteArray) : Option Rev := (log d p).getLast?
def get? (d : Dep) (p : ByteArray) (n : Int) : Option Rev := (log d p).find? fun v => decide (v.num = n)
def live (d : Dep) (p : ByteArray) : Bool := match last? d p with | some v => !gone v | none => false
def lastNum (d : Dep) (p : ByteArray) : Int := ((last? d p).getD zRev).num
def prev? (d : Dep) (v : Rev) : Option Rev :=
 if v.act = 1 then none else if v.act = 4 then get? d v.frm v.fnum else get? d v.path (wr (v.num - 1))
theorem ren_up (ρ : Nat → Nat) (ys : List (List D)) : (ys.map fun l => l.map C.d).map (fun l => l.map (renC ρ)) = ys.map fun l => l.map C.d := by
 rw [List.map_map]; exact List.map_congr_left fun l _ => by simp [renC]
theorem flat_up (ys : List (List D)) : (ys.map fun l => l.map C.d).flatten = ys.flatten.map C.d := by rw [List.map_flatten]
theorem ren_arr (ρ : Nat → Nat) (sz : Nat) (ys : List (List D)) : renAO ρ (.arr sz (ys.map fun l => l.map C.d)) = .arr sz (ys.map fun l => l.map C.d) := by
 simp only [renAO, ren_up]
theorem cl_arr (dom : Nat → Bool) (sz : Nat) (ys : List (List D)) : clAO dom (.arr sz (ys.map fun l => l.map C.d)) = True := by
 simp only [clAO, flat_up, clCs_d]
@[reducible] def dArr (sz : Nat) (ys : List (List D)) : AO := .arr sz (ys.map fun l => l.map C.d)
theorem getD_enc {α : Type} (e : α → List D) (l : List α) (k : Nat) (z : α) (h : k < l.length) : (l.map e).getD k [] = e (l.getD k z) := by simp [List.getD, h]
theorem take_get {α : Type} (l : List α) (k : Nat) (z : α) (h : k < l.length) : l.take (k + 1) = l.take k ++ [l.getD k z] := by
 rw [List.take_add_one, List.getElem?_eq_getElem h]; simp [List.getD, h]
theorem filter_take_le {α : Type} (p : α → Bool) (l : List α) (k : Nat) : ((l.take k).filter p).length ≤ l.length :=
 Nat.le_trans (List.length_filter_le ..) (by simp; omega)
theorem round {α : Type} (e : α → List D) (l : List α) (k : Nat) (z : α) (h : k < l.length) : ∃ v, l[k]? = some v ∧ (l.map e).getD k [] = e v ∧ l.take (k + 1) = l.take k ++ [v] :=
 ⟨l.getD k z, by simp [List.getD, h], getD_enc e l k z h, take_get l k z h⟩
def small (n : Nat) : Prop := n ≤ 1000000
theorem keepI {x : X} {st0 st' : List (Nat × AO)} (hx : ∀ id, x.d0 id → domOf st0 id = true) (h : ∀ p ∈ st0, domOf st' p.1 = true) : ∀ id, x.d0 id → domOf st' id = true ∧ id = id := by
 intro id hid
 refine ⟨?_, rfl⟩
 have h0 := hx id hid
 unfold domOf at h0
 cases hg : Ab.get st0 id with
 | none => rw [hg] at h0; cases h0
 | some o => exact h (id, o) (get_mem hg)
theorem RetQ_norm {P : Program} {rs : List ResultVar} {x : X} {R : AV → List (Nat × AO) → Prop} {s : S} {r : AV} {obl : List Prop} (h : retV P rs s = some (r, obl)) (ho : All obl)
  (st' : List (Nat × AO)) (hsub : Sub x (fun i => i) s.st st') (hcl : clAV (domOf st') r) (hR : R r st') : RetQ P rs x R .normal s := ⟨.inr rfl, r, obl, h, ho, st', hsub, hcl, hR⟩
theorem cl_up (dom : Nat → Bool) (m : List D) : clCs dom (m.map C.d) := by rw [clCs_d]; trivial
theorem cl_f0 (dom : Nat → Bool) (es : List EntD) : clPs dom ((es.map upE).map (·.1)) = True := by
 refine eq_true ?_
 induction es with
 | nil => trivial
 | cons e es ih => exact ⟨cl_up _ _, ih⟩
theorem cl_s0 (dom : Nat → Bool) (es : List EntD) : clPs dom ((es.map upE).map (·.2)) = True := by
 refine eq_true ?_
 induction es with
 | nil => trivial
 | cons e es ih => exact ⟨cl_up _ _, ih⟩
theorem cl_f1 {α : Type} (dom : Nat → Bool) (g : α → EntD) (l : List α) : clPs dom (List.map ((fun x => x.fst) ∘ upE ∘ g) l) = True := by
 have := cl_f0 dom (l.map g)
 simpa using this
theorem cl_s1 {α : Type} (dom : Nat → Bool) (g : α → EntD) (l : List α) : clPs dom (List.map ((fun x => x.snd) ∘ upE ∘ g) l) = True := by
 have := cl_s0 dom (l.map g)
 simpa using this
theorem cl_f2 (dom : Nat → Bool) (l : List EntD) : clPs dom (List.map ((fun x => x.fst) ∘ upE) l) = True := by
 have := cl_f0 dom l
 simpa using this
theorem cl_s2 (dom : Nat → Bool) (l : List EntD) : clPs dom (List.map ((fun x => x.snd) ∘ upE) l) = True := by
 have := cl_s0 dom l
 simpa using this
theorem cl_a1 {α : Type} (dom : Nat → Bool) (e : α → List D) (l : List α) : clCs dom (List.map ((fun l => List.map C.d l) ∘ e) l).flatten = True := by
 refine eq_true ?_
 induction l with
 | nil => trivial
 | cons a l ih =>
   simp only [List.map_cons, List.flatten_cons, Function.comp]
   rw [clCs_append]
   exact ⟨cl_up _ _, ih⟩
theorem keepR {x : X} {ρ : Nat → Nat} {st0 st' : List (Nat × AO)} (hx : ∀ id, x.d0 id → domOf st0 id = true) (h : ∀ p ∈ st0, domOf st' p.1 = true ∧ ρ p.1 = p.1) : ∀ id, x.d0 id → domOf st' id = true ∧ ρ id = id := by
 intro id hid
 have h0 := hx id hid
 unfold domOf at h0
 cases hg : Ab.get st0 id with
 | none => rw [hg] at h0; cases h0
 | some o => exact h (id, o) (get_mem hg)
theorem ren_up1 (ρ : Nat → Nat) (e : EntD) : (renP ρ (upE e).fst, renP ρ (upE e).snd) = upE e := by simp [upE, upD, renP, renC]
theorem ren_map (ρ : Nat → Nat) (l : List EntD) : renAO ρ (.map (l.map upE)) = .map (l.map upE) := by
 simp only [renAO, List.map_map]
 congr 1
 apply List.map_congr_left
 intro e _
 simp [upE, upD, renP, renC]
def kO := And.intro @All.eq_1 <| And.intro @All.eq_2 <| And.intro @List.cons_append.{0} <| And.intro @List.nil_append.{0} <| And.intro @InR.eq_def <| And.intro @and_true <| And.intro @true_and <| And.intro @List.length_map.{0, 0} <| And.intro @List.length_cons.{0} @List.length_nil.{0}
def kE := And.intro @List.mem_cons.{0} <| And.intro @cl_f0 <| And.intro @cl_s0 <| And.intro @List.not_mem_nil.{0} <| And.intro @or_false <| And.intro @forall_eq_or_imp.{1} <| And.intro @forall_eq.{1} <| And.intro @cl_arr <| And.intro @flat_up <| And.intro @clAO.eq_def <| And.intro @clCs.eq_1 <| And.intro @clCs.eq_2 <| And.intro @clC.eq_def <| And.intro @clPs.eq_1 <| And.intro @clPs.eq_2 <| And.intro @clCs_d <| And.intro @domOf.eq_def <| And.intro @Ab.get.eq_1 <| And.intro @Ab.get.eq_2 <| And.intro @true_and <| And.intro @and_true <| And.intro @Option.isSome.eq_def.{0} <| And.intro @List.map_cons.{0, 0} <| And.intro @List.map_nil.{0, 0} <| And.intro @List.flatten.eq_1.{0} <| And.intro @List.flatten.eq_2.{0} @List.append_nil.{0}
def kV := And.intro @evAll.eq_1 <| And.intro @evAll.eq_2 <| And.intro @ev.eq_def <| And.intro @Ab.get.eq_1 <| And.intro @Ab.get.eq_2 <| And.intro @Value.oneCell'.eq_def <| @if_true.{1}
def kR := And.intro @retV.eq_def <| And.intro @resAll.eq_1 <| And.intro @resAll.eq_2 <| And.intro @resV.eq_def <| And.intro @toP.eq_def <| And.intro @retn.eq_def <| And.intro @Option.map_some.{0, 0} <| And.intro @Option.bind_some.{0, 0} <| And.intro @Ab.get.eq_1 <| And.intro @Ab.get.eq_2 <| And.intro @List.append_nil.{0} @List.nil_append.{0}
def kP := And.intro @putD.eq_def <| And.intro @putAll.eq_1 <| And.intro @putAll.eq_2 <| And.intro @Ab.put.eq_1 @Ab.put.eq_2
def kD := And.intro @runD.eq_1 <| And.intro @runD.eq_2 <| And.intro @stepO.eq_def <| And.intro @stepO.evsAll.eq_1 <| And.intro @stepO.evsAll.eq_2 <| And.intro @callO.eq_def <| And.intro @evAll.eq_1 @evAll.eq_2
def kB := And.intro @Ab.run1.eq_def <| And.intro @Ab.run.eq_1 <| And.intro @Ab.run.eq_2 <| And.intro @Ab.run.eq_3 <| And.intro @dstOK.eq_def <| And.intro @step1.eq_def <| And.intro @ev.eq_def <| And.intro @eff.eq_def <| And.intro @retn.eq_def <| And.intro @Ab.get.eq_1 <| And.intro @Ab.get.eq_2 <| And.intro @Ab.put.eq_1 <| And.intro @Ab.put.eq_2 <| And.intro @putD.eq_def <| And.intro @putAll.eq_1 <| And.intro @putAll.eq_2 <| And.intro @Option.bind_some.{0, 0} <| And.intro @Option.map_some.{0, 0} <| And.intro @Option.getD_some.{0} <| And.intro @Option.getD_none.{0} <| And.intro @Value.oneCell'.eq_def <| And.intro @Int.toNat_natCast <| And.intro @Nat.zero_add <| And.intro @Nat.add_zero <| And.intro @decide_true <| And.intro @decide_false <| And.intro @Bool.false_eq_true <| And.intro @List.append.eq_1.{0} <| And.intro @List.append.eq_2.{0} <| And.intro @List.cons_append.{0} <| And.intro @List.nil_append.{0} <| And.intro @List.append_nil.{0} <| And.intro @effBox.eq_def <| And.intro @cellsOf.eq_def <| And.intro @List.map.eq_1.{0, 0} <| And.intro @List.map.eq_2.{0, 0} <| And.intro @List.length_cons.{0} <| And.intro @List.length_nil.{0} <| And.intro @List.getD_cons_zero.{0} <| And.intro @List.getD_cons_succ.{0} <| And.intro @List.getD_nil.{0} <| And.intro @List.drop.eq_1.{0} <| And.intro @List.drop.eq_2.{0} <| And.intro @List.drop.eq_3.{0} <| And.intro @List.take.eq_1.{0} <| And.intro @List.take.eq_2.{0} <| And.intro @List.take.eq_3.{0} <| And.intro @splice.eq_def <| And.intro @effAlloc.eq_def <| And.intro @effLoad.eq_def <| And.intro @effStore.eq_def <| And.intro @List.set.eq_1.{0} <| And.intro @List.set.eq_2.{0} <| And.intro @List.set.eq_3.{0} <| And.intro @effField.eq_def <| And.intro @effPart.eq_def <| And.intro @effIndexAddr.eq_def <| And.intro @effIndex.eq_def <| And.intro @isAr.eq_def <| And.intro @binAll.eq_def <| And.intro @effBin.eq_def <| And.intro @effBinW.eq_def <| And.intro @effBoolEq.eq_def <| And.intro @Bool.true_and <| And.intro @Bool.and_true <| And.intro @Bool.false_and <| And.intro @Bool.and_false <| And.intro @effEq.eq_def <| And.intro @eqC.eq_1 <| And.intro @eqC.eq_2 <| And.intro @eqC.eq_3 <| And.intro @eqC.eq_4 <| And.intro @eqC.eq_5 <| And.intro @effConvert.eq_def <| And.intro @effMinMax.eq_def <| And.intro @effNot.eq_def <| And.intro @Bool.not_true <| And.intro @Bool.not_false <| And.intro @effNil.eq_def <| And.intro @effExtract.eq_def <| And.intro @List.getElem?_cons_zero.{0} <| And.intro @List.getElem?_cons_succ.{0} <| And.intro @List.getElem?_nil.{0} <| And.intro @effLen.eq_def <| @List.length_map.{0, 0}
def kS := And.intro @effBuild.eq_def <| And.intro @fillC.eq_1 <| And.intro @fillC.eq_2 <| And.intro @evParts.eq_1 <| And.intro @evParts.eq_2 <| And.intro @cellsOf.eq_def <| And.intro @List.map.eq_1.{0, 0} <| And.intro @List.map.eq_2.{0, 0} <| And.intro @List.length_cons.{0} <| And.intro @List.length_nil.{0} <| And.intro @List.getD_cons_zero.{0} <| And.intro @List.getD_cons_succ.{0} <| And.intro @List.getD_nil.{0} <| And.intro @List.drop.eq_1.{0} <| And.intro @List.drop.eq_2.{0} <| And.intro @List.drop.eq_3.{0} <| And.intro @List.take.eq_1.{0} <| And.intro @List.take.eq_2.{0} <| And.intro @List.take.eq_3.{0} <| And.intro @splice.eq_def <| And.intro @effBuildSlice.eq_def <| And.intro @elemsC.eq_1 <| And.intro @elemsC.eq_2 <| And.intro @List.replicate.eq_1.{0} <| And.intro @List.replicate.eq_2.{0} <| And.intro @List.set.eq_1.{0} <| And.intro @List.set.eq_2.{0} <| And.intro @List.set.eq_3.{0} <| And.intro @effMakeSlice.eq_def <| And.intro @effAppend.eq_def <| And.intro @elemsOf.eq_def <| And.intro @List.length_map.{0, 0} <| @effSlice.eq_def
def kM := And.intro @effLookup.eq_def <| And.intro @keyP.eq_def <| And.intro @ofP.eq_def <| And.intro @entsOf.eq_def <| And.intro @List.length_map.{0, 0} <| And.intro @cellsOf.eq_def <| And.intro @List.map.eq_1.{0, 0} <| And.intro @List.map.eq_2.{0, 0} <| And.intro @List.length_cons.{0} <| And.intro @List.length_nil.{0} <| And.intro @List.getD_cons_zero.{0} <| And.intro @List.getD_cons_succ.{0} <| And.intro @List.getD_nil.{0} <| And.intro @List.drop.eq_1.{0} <| And.intro @List.drop.eq_2.{0} <| And.intro @List.drop.eq_3.{0} <| And.intro @List.take.eq_1.{0} <| And.intro @List.take.eq_2.{0} <| And.intro @List.take.eq_3.{0} <| And.intro @splice.eq_def <| And.intro @effMapUpdate.eq_def <| And.intro @effMakeMap.eq_def <| And.intro @mkMapHint.eq_def <| And.intro @effRange.eq_def <| @effEntry.eq_def
def kG := And.intro @pickV.eq_def <| And.intro @strip.eq_1 <| And.intro @strip.eq_2 <| And.intro @conj.eq_1 <| And.intro @conj.eq_2 <| And.intro @Bool.true_and <| And.intro @Bool.and_true <| And.intro @Bool.false_and <| And.intro @Bool.and_false <| And.intro @Bool.true_or <| And.intro @Bool.or_true <| And.intro @Bool.or_false <| And.intro @Bool.false_or <| And.intro @Bool.not_true <| And.intro @Bool.not_false <| And.intro @evs.eq_def <| And.intro @gval.eq_def <| And.intro @obls.eq_1 <| And.intro @obls.eq_2 <| And.intro @Op.operands.eq_def <| And.intro @Call.operands.eq_def <| And.intro @Array.toList_append.{0} <| And.intro @List.toList_toArray.{0} <| And.intro @List.map.eq_1.{0, 0} <| And.intro @List.map.eq_2.{0, 0} <| And.intro @List.getElem?_cons_zero.{0} <| And.intro @List.getElem?_cons_succ.{0} <| @List.getElem?_nil.{0}
def kFn := And.intro @evCaps.eq_1 <| And.intro @evCaps.eq_2 <| And.intro @toCap.eq_def <| And.intro @fnOf.eq_def <| @Cap.toC.eq_def
abbrev na := @T_seq
abbrev nb := @T_block
abbrev nc := @T_region
abbrev nd := @T_skip
abbrev ne := @T_exit
abbrev nf := @T_ret
abbrev ng := @then_normal
abbrev nh := @then_exit
abbrev ni := @then_ret
abbrev nj := @inB_same
abbrev nk := @inB_normal
abbrev nl := @inB_ret
abbrev nm := @inB_other
abbrev nn := @TO_nil
end Go.Proofs.YtmhboloicpieeaaGreatDoor
