/- A part of the proof. -/
import Derived.Test.YtcpgicfphakdaaaGreatDoorProg
import Derived.Test.YtcpgicfphakdaaaGreatDoorRAbCk
import Derived.KernelRfl
set_option linter.all false
namespace Go.Proofs.YtcpgicfphakdaaaGreatDoor.Tys
open Go.Ab Go.Proofs
theorem mG:ti Tryz.prog 3=some ⟨1,false,8,[.int .i64 0]⟩:=by kernel_rfl
theorem J7:ER Tryz.prog 3=some (false,[.int .i64]):=by kernel_rfl
theorem IP:ti Tryz.prog 4=some ⟨1,false,1,[.bool false]⟩:=by kernel_rfl
theorem jB:ti Tryz.prog 9=some ⟨1,false,16,[.string ByteArray.empty]⟩:=by kernel_rfl
theorem EY:ER Tryz.prog 9=some (false,[.str]):=by kernel_rfl
theorem ahb:ti Tryz.prog 22=some ⟨1,false,24,[.slice none 0 0]⟩:=by kernel_rfl
theorem afD:Ia Tryz.prog 22=some 67:=by kernel_rfl
theorem aeb:ti Tryz.prog 23=some ⟨1,false,24,[.slice none 0 0]⟩:=by kernel_rfl
theorem adg:Ia Tryz.prog 23=some 79:=by kernel_rfl
theorem qU:ti Tryz.prog 27=some ⟨1,false,24,[.slice none 0 0]⟩:=by kernel_rfl
theorem jQ:Ia Tryz.prog 27=some 51:=by kernel_rfl
theorem wu:ti Tryz.prog 28=some ⟨1,false,24,[.slice none 0 0]⟩:=by kernel_rfl
theorem pW:Ia Tryz.prog 28=some 70:=by kernel_rfl
theorem ny:ti Tryz.prog 30=some ⟨2,true,48,[.slice none 0 0, .slice none 0 0]⟩:=by kernel_rfl
theorem kW:jk Tryz.prog 30 0=some (0,27):=by kernel_rfl
theorem DW:jk Tryz.prog 30 1=some (1,28):=by kernel_rfl
theorem iH:lF Tryz.prog 30=true:=by kernel_rfl
theorem aew:ti Tryz.prog 32=some ⟨1,false,24,[.slice none 0 0]⟩:=by kernel_rfl
theorem UZ:Ia Tryz.prog 32=some 39:=by kernel_rfl
theorem xK:ti Tryz.prog 37=some ⟨2,true,24,[.string ByteArray.empty, .int .i64 0]⟩:=by kernel_rfl
theorem kQ:jk Tryz.prog 37 0=some (0,9):=by kernel_rfl
theorem kT:jk Tryz.prog 37 1=some (1,3):=by kernel_rfl
theorem oG:lF Tryz.prog 37=true:=by kernel_rfl
theorem ach:eqT Tryz.prog 37=some [.str, .int .i64]:=by kernel_rfl
theorem yV:ER Tryz.prog 37=some (true,[.str, .int .i64]):=by kernel_rfl
theorem FB:ti Tryz.prog 39=some ⟨11,true,128,[.int .i64 0, .string ByteArray.empty, .int .i64 0, .string ByteArray.empty, .int .i64 0, .int .i64 0, .string ByteArray.empty, .int .i64 0, .string ByteArray.empty, .int .i64 0, .string ByteArray.empty]⟩:=by kernel_rfl
theorem sH:jk Tryz.prog 39 0=some (0,3):=by kernel_rfl
theorem Ez:jk Tryz.prog 39 1=some (1,37):=by kernel_rfl
theorem Bq:jk Tryz.prog 39 2=some (3,9):=by kernel_rfl
theorem BB:jk Tryz.prog 39 3=some (4,3):=by kernel_rfl
theorem Bh:jk Tryz.prog 39 4=some (5,3):=by kernel_rfl
theorem sK:jk Tryz.prog 39 5=some (6,9):=by kernel_rfl
theorem Es:jk Tryz.prog 39 6=some (7,3):=by kernel_rfl
theorem aeU:jk Tryz.prog 39 7=some (8,37):=by kernel_rfl
theorem xO:jk Tryz.prog 39 8=some (10,9):=by kernel_rfl
theorem wM:lF Tryz.prog 39=true:=by kernel_rfl
theorem ahg:ti Tryz.prog 43=some ⟨1,false,24,[.slice none 0 0]⟩:=by kernel_rfl
theorem afM:Ia Tryz.prog 43=some 37:=by kernel_rfl
theorem Au:ti Tryz.prog 46=some ⟨4,true,16,[.int .i64 0, .bool false, .bool false, .bool false]⟩:=by kernel_rfl
theorem Qs:jk Tryz.prog 46 0=some (0,3):=by kernel_rfl
theorem Yt:jk Tryz.prog 46 1=some (1,4):=by kernel_rfl
theorem Ym:jk Tryz.prog 46 3=some (3,4):=by kernel_rfl
theorem qM:lF Tryz.prog 46=true:=by kernel_rfl
theorem UJ:eqT Tryz.prog 46=some [.int .i64, .bool, .bool, .bool]:=by kernel_rfl
theorem Gh:ti Tryz.prog 49=some ⟨2,true,16,[.int .u64 0, .int .i64 0]⟩:=by kernel_rfl
theorem Qo:jk Tryz.prog 49 1=some (1,3):=by kernel_rfl
theorem wY:lF Tryz.prog 49=true:=by kernel_rfl
theorem TR:eqT Tryz.prog 49=some [.int .u64, .int .i64]:=by kernel_rfl
theorem iq:ti Tryz.prog 51=some ⟨12,true,96,[.string ByteArray.empty, .int .i64 0, .int .i64 0, .int .i64 0, .int .i64 0, .bool false, .bool false, .bool false, .int .u64 0, .int .i64 0, .string ByteArray.empty, .int .i64 0]⟩:=by kernel_rfl
theorem jg:jk Tryz.prog 51 0=some (0,9):=by kernel_rfl
theorem fK:jk Tryz.prog 51 1=some (1,3):=by kernel_rfl
theorem yB:jk Tryz.prog 51 2=some (2,3):=by kernel_rfl
theorem iF:jk Tryz.prog 51 3=some (3,3):=by kernel_rfl
theorem nH:jk Tryz.prog 51 4=some (4,46):=by kernel_rfl
theorem xP:jk Tryz.prog 51 5=some (8,49):=by kernel_rfl
theorem Bj:jk Tryz.prog 51 6=some (10,9):=by kernel_rfl
theorem AP:jk Tryz.prog 51 7=some (11,3):=by kernel_rfl
theorem dM:lF Tryz.prog 51=true:=by kernel_rfl
theorem DU:ti Tryz.prog 55=some ⟨1,false,24,[.slice none 0 0]⟩:=by kernel_rfl
theorem uf:Ia Tryz.prog 55=some 3:=by kernel_rfl
theorem QG:ti Tryz.prog 57=some ⟨7,true,40,[.int .i64 0, .bool false, .bool false, .bool false, .int .u64 0, .int .i64 0, .bool false]⟩:=by kernel_rfl
theorem Xt:jk Tryz.prog 57 0=some (0,46):=by kernel_rfl
theorem Xw:jk Tryz.prog 57 1=some (4,49):=by kernel_rfl
theorem Ya:jk Tryz.prog 57 2=some (6,4):=by kernel_rfl
theorem Ea:lF Tryz.prog 57=true:=by kernel_rfl
theorem BP:ti Tryz.prog 60=some ⟨1,false,24,[.slice none 0 0]⟩:=by kernel_rfl
theorem vT:Ia Tryz.prog 60=some 73:=by kernel_rfl
theorem y7:ti Tryz.prog 67=some ⟨5,true,88,[.int .i64 0, .string ByteArray.empty, .string ByteArray.empty, .slice none 0 0, .slice none 0 0]⟩:=by kernel_rfl
theorem A7:jk Tryz.prog 67 0=some (0,3):=by kernel_rfl
theorem lQ:jk Tryz.prog 67 3=some (3,60):=by kernel_rfl
theorem qx:jk Tryz.prog 67 4=some (4,28):=by kernel_rfl
theorem pY:lF Tryz.prog 67=true:=by kernel_rfl
theorem sD:ti Tryz.prog 70=some ⟨6,true,64,[.string ByteArray.empty, .int .i64 0, .int .i64 0, .string ByteArray.empty, .int .i64 0, .int .i64 0]⟩:=by kernel_rfl
theorem uY:jk Tryz.prog 70 0=some (0,9):=by kernel_rfl
theorem BC:jk Tryz.prog 70 1=some (1,3):=by kernel_rfl
theorem D9:jk Tryz.prog 70 2=some (2,3):=by kernel_rfl
theorem rQ:jk Tryz.prog 70 3=some (3,9):=by kernel_rfl
theorem xY:jk Tryz.prog 70 4=some (4,3):=by kernel_rfl
theorem BA:jk Tryz.prog 70 5=some (5,3):=by kernel_rfl
theorem lq:lF Tryz.prog 70=true:=by kernel_rfl
theorem wo:ti Tryz.prog 73=some ⟨12,true,96,[.string ByteArray.empty, .int .i64 0, .int .i64 0, .bool false, .bool false, .bool false, .int .u64 0, .int .i64 0, .int .i64 0, .string ByteArray.empty, .int .i64 0, .int .i64 0]⟩:=by kernel_rfl
theorem nR:jk Tryz.prog 73 0=some (0,9):=by kernel_rfl
theorem nM:jk Tryz.prog 73 1=some (1,3):=by kernel_rfl
theorem sN:jk Tryz.prog 73 2=some (2,46):=by kernel_rfl
theorem vC:jk Tryz.prog 73 3=some (6,49):=by kernel_rfl
theorem yE:jk Tryz.prog 73 4=some (8,3):=by kernel_rfl
theorem uP:jk Tryz.prog 73 5=some (9,9):=by kernel_rfl
theorem EU:jk Tryz.prog 73 6=some (10,3):=by kernel_rfl
theorem mJ:lF Tryz.prog 73=true:=by kernel_rfl
theorem rZ:ti Tryz.prog 74=some ⟨1,false,24,[.slice none 0 0]⟩:=by kernel_rfl
theorem jy:Ia Tryz.prog 74=some 9:=by kernel_rfl
theorem nU:ti Tryz.prog 76=some ⟨2,true,32,[.slice none 0 0, .bool false]⟩:=by kernel_rfl
theorem lU:jk Tryz.prog 76 0=some (0,74):=by kernel_rfl
theorem sG:jk Tryz.prog 76 1=some (1,4):=by kernel_rfl
theorem iW:lF Tryz.prog 76=true:=by kernel_rfl
theorem Pj:ti Tryz.prog 77=some ⟨1,false,24,[.slice none 0 0]⟩:=by kernel_rfl
theorem Pe:Ia Tryz.prog 77=some 76:=by kernel_rfl
theorem WZ:ti Tryz.prog 79=some ⟨5,true,88,[.slice none 0 0, .bool false, .slice none 0 0, .bool false, .slice none 0 0]⟩:=by kernel_rfl
theorem Iu:jk Tryz.prog 79 0=some (0,76):=by kernel_rfl
theorem IV:jk Tryz.prog 79 1=some (2,76):=by kernel_rfl
theorem Ir:jk Tryz.prog 79 2=some (4,77):=by kernel_rfl
theorem KG:lF Tryz.prog 79=true:=by kernel_rfl
theorem aeI:ti Tryz.prog 82=some ⟨1,false,8,[.pointer none]⟩:=by kernel_rfl
theorem abG:ti Tryz.prog 86=some ⟨2,true,32,[.pointer none, .slice none 0 0]⟩:=by kernel_rfl
theorem IG:jk Tryz.prog 86 0=some (0,82):=by kernel_rfl
theorem Yw:jk Tryz.prog 86 1=some (1,23):=by kernel_rfl
theorem Tu:lF Tryz.prog 86=true:=by kernel_rfl
theorem Y3:ti Tryz.prog 88=some ⟨1,false,8,[.map none]⟩:=by kernel_rfl
theorem Om:zf Tryz.prog 88=some (37,3):=by kernel_rfl
theorem Va:ti Tryz.prog 89=some ⟨1,false,8,[.map none]⟩:=by kernel_rfl
theorem KW:zf Tryz.prog 89=some (9,3):=by kernel_rfl
theorem afg:ti Tryz.prog 90=some ⟨1,false,8,[.map none]⟩:=by kernel_rfl
theorem YF:zf Tryz.prog 90=some (3,55):=by kernel_rfl
theorem aaJ:ti Tryz.prog 91=some ⟨1,false,24,[.slice none 0 0]⟩:=by kernel_rfl
theorem QX:Ia Tryz.prog 91=some 192:=by kernel_rfl
theorem Em:ti Tryz.prog 93=some ⟨9,true,168,[.slice none 0 0, .map none, .map none, .slice none 0 0, .slice none 0 0, .map none, .slice none 0 0, .slice none 0 0, .slice none 0 0]⟩:=by kernel_rfl
theorem vS:jk Tryz.prog 93 0=some (0,27):=by kernel_rfl
theorem BJ:jk Tryz.prog 93 1=some (1,88):=by kernel_rfl
theorem Bz:jk Tryz.prog 93 2=some (2,89):=by kernel_rfl
theorem Bd:jk Tryz.prog 93 3=some (3,55):=by kernel_rfl
theorem vP:jk Tryz.prog 93 4=some (4,55):=by kernel_rfl
theorem I8:jk Tryz.prog 93 5=some (5,90):=by kernel_rfl
theorem X7:jk Tryz.prog 93 6=some (6,91):=by kernel_rfl
theorem I7:jk Tryz.prog 93 7=some (7,91):=by kernel_rfl
theorem PN:jk Tryz.prog 93 8=some (8,91):=by kernel_rfl
theorem vG:lF Tryz.prog 93=true:=by kernel_rfl
theorem Yb:ti Tryz.prog 114=some ⟨1,false,24,[.slice none 0 0]⟩:=by kernel_rfl
theorem PH:Ia Tryz.prog 114=some 4:=by kernel_rfl
theorem GH:ti Tryz.prog 118=some ⟨37,true,368,[.slice none 0 0, .slice none 0 0, .int .i64 0, .string ByteArray.empty, .int .i64 0, .string ByteArray.empty, .int .i64 0, .int .i64 0, .string ByteArray.empty, .int .i64 0, .string ByteArray.empty, .int .i64 0, .string ByteArray.empty, .string ByteArray.empty, .int .i64 0, .int .i64 0, .int .i64 0, .int .i64 0, .bool false, .bool false, .bool false, .int .u64 0, .int .i64 0, .string ByteArray.empty, .int .i64 0, .string ByteArray.empty, .int .i64 0, .int .i64 0, .int .i64 0, .int .i64 0, .bool false, .bool false, .bool false, .int .u64 0, .int .i64 0, .string ByteArray.empty, .int .i64 0]⟩:=by kernel_rfl
theorem Rn:jk Tryz.prog 118 0=some (0,30):=by kernel_rfl
theorem Ua:jk Tryz.prog 118 1=some (2,39):=by kernel_rfl
theorem SY:jk Tryz.prog 118 2=some (13,51):=by kernel_rfl
theorem EM:jk Tryz.prog 118 3=some (25,51):=by kernel_rfl
theorem zB:lF Tryz.prog 118=true:=by kernel_rfl
theorem acM:ti Tryz.prog 121=some ⟨1,false,8,[.map none]⟩:=by kernel_rfl
theorem VI:zf Tryz.prog 121=some (3,126):=by kernel_rfl
theorem afG:ti Tryz.prog 124=some ⟨1,false,8,[.nilFunc]⟩:=by kernel_rfl
theorem adG:ti Tryz.prog 126=some ⟨3,true,24,[.int .i64 0, .int .i64 0, .nilFunc]⟩:=by kernel_rfl
theorem UB:jk Tryz.prog 126 0=some (0,3):=by kernel_rfl
theorem Rf:jk Tryz.prog 126 1=some (1,3):=by kernel_rfl
theorem RH:jk Tryz.prog 126 2=some (2,124):=by kernel_rfl
theorem Wp:lF Tryz.prog 126=true:=by kernel_rfl
theorem afE:ti Tryz.prog 133=some ⟨1,false,24,[.slice none 0 0]⟩:=by kernel_rfl
theorem abd:Ia Tryz.prog 133=some 135:=by kernel_rfl
theorem afy:ti Tryz.prog 135=some ⟨1,false,8,[.nilFunc]⟩:=by kernel_rfl
theorem ag9:ti Tryz.prog 145=some ⟨1,false,24,[.slice none 0 0]⟩:=by kernel_rfl
theorem agR:Ia Tryz.prog 145=some 147:=by kernel_rfl
theorem QT:ti Tryz.prog 147=some ⟨3,true,56,[.slice none 0 0, .bool false, .slice none 0 0]⟩:=by kernel_rfl
theorem Eh:jk Tryz.prog 147 0=some (0,76):=by kernel_rfl
theorem DZ:jk Tryz.prog 147 1=some (2,77):=by kernel_rfl
theorem Jb:lF Tryz.prog 147=true:=by kernel_rfl
theorem ahd:ti Tryz.prog 152=some ⟨1,false,8,[.map none]⟩:=by kernel_rfl
theorem WW:zf Tryz.prog 152=some (37,28):=by kernel_rfl
theorem NC:ti Tryz.prog 161=some ⟨5,true,72,[.bool false, .slice none 0 0, .bool false, .slice none 0 0, .bool false]⟩:=by kernel_rfl
theorem Af:jk Tryz.prog 161 1=some (1,76):=by kernel_rfl
theorem xN:jk Tryz.prog 161 2=some (3,76):=by kernel_rfl
theorem FH:lF Tryz.prog 161=true:=by kernel_rfl
theorem abz:ti Tryz.prog 167=some ⟨3,true,40,[.int .i64 0, .string ByteArray.empty, .string ByteArray.empty]⟩:=by kernel_rfl
theorem LC:jk Tryz.prog 167 0=some (0,3):=by kernel_rfl
theorem Rk:jk Tryz.prog 167 1=some (1,9):=by kernel_rfl
theorem SH:jk Tryz.prog 167 2=some (2,9):=by kernel_rfl
theorem VY:lF Tryz.prog 167=true:=by kernel_rfl
theorem ahA:ti Tryz.prog 179=some ⟨1,false,8,[.map none]⟩:=by kernel_rfl
theorem age:zf Tryz.prog 179=some (37,4):=by kernel_rfl
theorem agX:ti Tryz.prog 185=some ⟨1,false,8,[.map none]⟩:=by kernel_rfl
theorem agy:zf Tryz.prog 185=some (9,4):=by kernel_rfl
theorem KD:ti Tryz.prog 192=some ⟨1,false,8,[.map none]⟩:=by kernel_rfl
theorem Qm:zf Tryz.prog 192=some (3,4):=by kernel_rfl
theorem afL:ti Tryz.prog 199=some ⟨1,false,8,[.int .u64 0]⟩:=by kernel_rfl
theorem XK:ti Tryz.prog 201=some ⟨1,false,8,[.map none]⟩:=by kernel_rfl
theorem Pm:zf Tryz.prog 201=some (9,51):=by kernel_rfl
theorem Q4:ti Tryz.prog 202=some ⟨1,false,8,[.map none]⟩:=by kernel_rfl
theorem L6:zf Tryz.prog 202=some (9,73):=by kernel_rfl
theorem aaT:ti Tryz.prog 203=some ⟨1,false,8,[.map none]⟩:=by kernel_rfl
theorem Vf:zf Tryz.prog 203=some (37,37):=by kernel_rfl
theorem yR:ti Tryz.prog 205=some ⟨10,true,160,[.slice none 0 0, .slice none 0 0, .int .i64 0, .string ByteArray.empty, .string ByteArray.empty, .slice none 0 0, .slice none 0 0, .map none, .map none, .map none]⟩:=by kernel_rfl
theorem DV:jk Tryz.prog 205 0=some (0,30):=by kernel_rfl
theorem uB:jk Tryz.prog 205 1=some (2,67):=by kernel_rfl
theorem D8:jk Tryz.prog 205 2=some (7,201):=by kernel_rfl
theorem Ac:jk Tryz.prog 205 3=some (8,202):=by kernel_rfl
theorem JE:jk Tryz.prog 205 4=some (9,203):=by kernel_rfl
theorem rE:lF Tryz.prog 205=true:=by kernel_rfl
theorem afp:ti Tryz.prog 206=some ⟨1,false,24,[.slice none 0 0]⟩:=by kernel_rfl
theorem adl:Ia Tryz.prog 206=some 28:=by kernel_rfl
theorem afx:ti Tryz.prog 264=some ⟨1,false,24,[.slice none 0 0]⟩:=by kernel_rfl
theorem ack:Ia Tryz.prog 264=some 77:=by kernel_rfl
theorem afS:ti Tryz.prog 286=some ⟨1,false,24,[.slice none 0 0]⟩:=by kernel_rfl
theorem acg:Ia Tryz.prog 286=some 312:=by kernel_rfl
theorem abB:ti Tryz.prog 312=some ⟨2,true,32,[.slice none 0 0, .bool false]⟩:=by kernel_rfl
theorem JK:jk Tryz.prog 312 0=some (0,74):=by kernel_rfl
theorem JO:jk Tryz.prog 312 1=some (1,4):=by kernel_rfl
theorem We:lF Tryz.prog 312=true:=by kernel_rfl
end Go.Proofs.YtcpgicfphakdaaaGreatDoor.Tys
namespace Go.Proofs.YtcpgicfphakdaaaGreatDoor
open Go.Ab
structure Rev where
 path:akK
 num:Int
 chg:Int
 act:Int
 base:Int
 kw:Bool
 ex:Bool
 xe:Bool
 sum:Int
 size:Int
 frm:akK
 fnum:Int
 deriving DecidableEq
structure dZ where
 frm:akK
 first:Int
 last:Int
 to:akK
 num:Int
 how:Int
 deriving DecidableEq
structure ou where
 path:akK
 act:Int
 base:Int
 kw:Bool
 ex:Bool
 xe:Bool
 sum:Int
 size:Int
 prev:Int
 frm:akK
 fnum:Int
 fence:Int
 deriving DecidableEq
structure iZ where
 num:Int
 client:akK
 text:akK
 edits:List ou
 recs:List dZ
 deriving DecidableEq
structure bJ where
 path:akK
 num:Int
 deriving DecidableEq
structure aW where
 revs:List Rev
 recs:List dZ
 deriving DecidableEq
@[reducible] def aA (r:Rev):List D:=[.v (.string r.path), .v (.int .i64 r.num), .v (.int .i64 r.chg), .v (.int .i64 r.act), .v (.int .i64 r.base), .v (.bool r.kw), .v (.bool r.ex), .v (.bool r.xe), .v (.int .u64 r.sum), .v (.int .i64 r.size), .v (.string r.frm), .v (.int .i64 r.fnum)]
@[reducible] def af (r:dZ):List D:=[.v (.string r.frm), .v (.int .i64 r.first), .v (.int .i64 r.last), .v (.string r.to), .v (.int .i64 r.num), .v (.int .i64 r.how)]
@[reducible] def bK (e:ou):List D:=[.v (.string e.path), .v (.int .i64 e.act), .v (.int .i64 e.base), .v (.bool e.kw), .v (.bool e.ex), .v (.bool e.xe), .v (.int .u64 e.sum), .v (.int .i64 e.size), .v (.int .i64 e.prev), .v (.string e.frm), .v (.int .i64 e.fnum), .v (.int .i64 e.fence)]
@[reducible] def iR (f:bJ):List D:=[.v (.string f.path), .v (.int .i64 f.num)]
@[reducible] def gm (c:iZ):List D:=[.v (.int .i64 c.num), .v (.string c.client), .v (.string c.text), .ps 12 (c.edits.map bK), .ps 6 (c.recs.map af)]
@[reducible] def iY (d:aW):List D:=[.ps 12 (d.revs.map aA), .ps 6 (d.recs.map af)]
@[reducible] def BL (r:Rev):AV:= .agg ((aA r).map C.d)
@[reducible] def ab5 (r:dZ):AV:= .agg ((af r).map C.d)
@[reducible] def Z7 (r:ou):AV:= .agg ((bK r).map C.d)
@[reducible] def BO (r:bJ):AV:= .agg ((iR r).map C.d)
@[reducible] def Px (r:iZ):AV:= .agg ((gm r).map C.d)
@[reducible] def lT (r:aW):AV:= .agg ((iY r).map C.d)
@[reducible] def qI (l:List Rev):AV:= .c (.d (.ps 12 (l.map aA)))
@[reducible] def ag6 (l:List bJ):AV:= .c (.d (.ps 2 (l.map iR)))
@[reducible] def CY (r:Rev):Bool×List C:=(true,(aA r).map C.d)
@[reducible] def pB (b:Bool):Bool×List C:=(false,[.d (.v (.bool b))])
@[reducible] def pI (n:Int):Bool×List C:=(false,[.d (.v (.int .i64 n))])
def ag:Rev:=⟨ByteArray.empty,0,0,0,0,false,false,false,0,0,ByteArray.empty,0⟩
def uI:bJ:=⟨ByteArray.empty,0⟩
def Ee:aW:=⟨[],[]⟩
def wr (n:Int):Int:=IntKind.i64.wrap n
def gone (v:Rev):Bool:=decide (v.act=3)||decide (v.act=5)
def fileOf (v:Rev):bJ:=⟨v.path,v.num⟩
def made (c:iZ) (x:ou):Rev:=⟨x.path,wr (x.prev+1),c.num,x.act,x.base,x.kw,x.ex,x.xe,x.sum,x.size,x.frm,x.fnum⟩
def log (d:aW) (p:akK):List Rev:=d.revs.filter fun v=>decide (v.path=p)
def aU (d:aW) (p:akK):Option Rev:=(log d p).getLast?
def iE (d:aW) (p:akK) (n:Int):Option Rev:=(log d p).find? fun v=>decide (v.num=n)
def live (d:aW) (p:akK):Bool:=match aU d p with|some v=>!gone v|none=>false
def bf (d:aW) (p:akK):Int:=((aU d p).getD ag).num
def gB (d:aW) (v:Rev):Option Rev:=
 if v.act=1 then none else if v.act=4 then iE d v.frm v.fnum else iE d v.path (wr (v.num-1))
theorem iP (ρ:Nat→Nat) (ys:List (List D)):(ys.map fun l=>l.map C.d).map (fun l=>l.map (gK ρ))=ys.map fun l=>l.map C.d:=by
 rw[ajM];exact ajZ fun l _=>by simp[gK]
theorem ah (ys:List (List D)):(ys.map fun l=>l.map C.d).flatten=ys.flatten.map C.d:=by rw[List.map_flatten]
theorem pz (ρ:Nat→Nat) (sz:Nat) (ys:List (List D)):eU ρ (.arr sz (ys.map fun l=>l.map C.d))= .arr sz (ys.map fun l=>l.map C.d):=by
 simp only[eU,iP]
theorem jT (dom:Nat→Bool) (sz:Nat) (ys:List (List D)):bF dom (.arr sz (ys.map fun l=>l.map C.d))=True:=by
 simp only[bF,ah,FZ]
@[reducible] def ay (sz:Nat) (ys:List (List D)):AO:= .arr sz (ys.map fun l=>l.map C.d)
theorem bH {α:Type} (e:α→List D) (l:List α) (k:Nat) (z:α) (h:k<l.length):(l.map e).getD k []=e (l.getD k z):=by simp[List.getD,h]
theorem ace {α:Type} (l:List α) (k:Nat) (z:α) (h:k<l.length):l.take (k+1)=l.take k++[l.getD k z]:=by
 rw[ajC,adH h];simp[List.getD,h]
theorem tq {α:Type} (p:α→Bool) (l:List α) (k:Nat):((l.take k).filter p).length≤l.length:=
 ajo (ajy ..) (by simp;omega)
theorem round {α:Type} (e:α→List D) (l:List α) (k:Nat) (z:α) (h:k<l.length):∃v,l[k]? =some v∧(l.map e).getD k []=e v∧l.take (k+1)=l.take k++[v]:=
 ⟨l.getD k z,by simp[List.getD,h],bH e l k z h,ace l k z h⟩
def small (n:Nat):Prop:=n≤1000000
theorem bW {x:X} {st0 st':List (Nat×AO)} (hx:∀id,x.d0 id→ae st0 id=true) (h:∀p∈st0,ae st' p.1=true):∀id,x.d0 id→ae st' id=true∧id=id:=by
 intro id hid
 refine⟨?_,rfl⟩
 have h0:=hx id hid
 unfold ae at h0
 cases hg:Ab.get st0 id with
 |none=>rw[hg] at h0;cases h0
 |some o=>exact h (id,o) (get_mem hg)
theorem RX (dom:Nat→Bool) (m:List D):aB dom (m.map C.d):=by rw[FZ];trivial
theorem Xo (dom:Nat→Bool) (es:List jq):bM dom ((es.map dJ).map (·.1))=True:=by
 refine eq_true ?_
 induction es with
 |nil=>trivial
 |cons e es ih=>exact⟨RX _ _,ih⟩
theorem Yi (dom:Nat→Bool) (es:List jq):bM dom ((es.map dJ).map (·.2))=True:=by
 refine eq_true ?_
 induction es with
 |nil=>trivial
 |cons e es ih=>exact⟨RX _ _,ih⟩
theorem aS {α:Type} (dom:Nat→Bool) (g:α→jq) (l:List α):bM dom (List.map ((fun x=>x.fst)∘dJ∘g) l)=True:=by
 have:=Xo dom (l.map g)
 simpa using this
theorem aO {α:Type} (dom:Nat→Bool) (g:α→jq) (l:List α):bM dom (List.map ((fun x=>x.snd)∘dJ∘g) l)=True:=by
 have:=Yi dom (l.map g)
 simpa using this
theorem aQ (dom:Nat→Bool) (l:List jq):bM dom (List.map ((fun x=>x.fst)∘dJ) l)=True:=by
 have:=Xo dom l
 simpa using this
theorem aT (dom:Nat→Bool) (l:List jq):bM dom (List.map ((fun x=>x.snd)∘dJ) l)=True:=by
 have:=Yi dom l
 simpa using this
theorem aP {α:Type} (dom:Nat→Bool) (e:α→List D) (l:List α):aB dom (List.map ((fun l=>List.map C.d l)∘e) l).flatten=True:=by
 refine eq_true ?_
 induction l with
 |nil=>trivial
 |cons a l ih=>
  simp only[agV,List.flatten_cons,Function.comp]
  rw[aI]
  exact⟨RX _ _,ih⟩
theorem keepR {x:X} {ρ:Nat→Nat} {st0 st':List (Nat×AO)} (hx:∀id,x.d0 id→ae st0 id=true) (h:∀p∈st0,ae st' p.1=true∧ρ p.1=p.1):∀id,x.d0 id→ae st' id=true∧ρ id=id:=by
 intro id hid
 have h0:=hx id hid
 unfold ae at h0
 cases hg:Ab.get st0 id with
 |none=>rw[hg] at h0;cases h0
 |some o=>exact h (id,o) (get_mem hg)
theorem jD (ρ:Nat→Nat) (e:jq):(D7 ρ (dJ e).fst,D7 ρ (dJ e).snd)=dJ e:=by simp[dJ,jY,D7,gK]
theorem o9 (ρ:Nat→Nat) (l:List jq):eU ρ (.map (l.map dJ))= .map (l.map dJ):=by
 simp only[eU,ajM]
 congr 1
 apply ajZ
 intro e _
 simp[dJ,jY,D7,gK]
def kO:=And.intro @All.eq_1<|And.intro @All.eq_2<|And.intro @List.cons_append.{0}<|And.intro @List.nil_append.{0}<|And.intro @dB.eq_def<|And.intro @ahu<|And.intro @ajG<|And.intro @List.length_map.{0,0}<|And.intro @List.length_cons.{0} @List.length_nil.{0}
def kE:=And.intro @List.mem_cons.{0}<|And.intro @Xo<|And.intro @Yi<|And.intro @List.not_mem_nil.{0}<|And.intro @ajr<|And.intro @forall_eq_or_imp.{1}<|And.intro @forall_eq.{1}<|And.intro @jT<|And.intro @ah<|And.intro @bF.eq_def<|And.intro @aB.eq_1<|And.intro @aB.eq_2<|And.intro @cZ.eq_def<|And.intro @bM.eq_1<|And.intro @bM.eq_2<|And.intro @FZ<|And.intro @ae.eq_def<|And.intro @Ab.get.eq_1<|And.intro @Ab.get.eq_2<|And.intro @ajG<|And.intro @ahu<|And.intro @Option.isSome.eq_def.{0}<|And.intro @List.map_cons.{0,0}<|And.intro @List.map_nil.{0,0}<|And.intro @List.flatten.eq_1.{0}<|And.intro @List.flatten.eq_2.{0} @List.append_nil.{0}
def kV:=And.intro @jv.eq_1<|And.intro @jv.eq_2<|And.intro @ev.eq_def<|And.intro @Ab.get.eq_1<|And.intro @Ab.get.eq_2<|And.intro @Value.oneCell'.eq_def<| @if_true.{1}
def kR:=And.intro @Pq.eq_def<|And.intro @zV.eq_1<|And.intro @zV.eq_2<|And.intro @resV.eq_def<|And.intro @toP.eq_def<|And.intro @RP.eq_def<|And.intro @Option.map_some.{0,0}<|And.intro @Option.bind_some.{0,0}<|And.intro @Ab.get.eq_1<|And.intro @Ab.get.eq_2<|And.intro @List.append_nil.{0} @List.nil_append.{0}
def kP:=And.intro @fZ.eq_def<|And.intro @aN.eq_1<|And.intro @aN.eq_2<|And.intro @Ab.put.eq_1 @Ab.put.eq_2
def kD:=And.intro @Qz.eq_1<|And.intro @Qz.eq_2<|And.intro @lM.eq_def<|And.intro @lM.evsAll.eq_1<|And.intro @lM.evsAll.eq_2<|And.intro @Xa.eq_def<|And.intro @jv.eq_1 @jv.eq_2
def kB:=And.intro @Ab.Uc.eq_def<|And.intro @Ab.run.eq_1<|And.intro @Ab.run.eq_2<|And.intro @Ab.run.eq_3<|And.intro @pO.eq_def<|And.intro @step1.eq_def<|And.intro @ev.eq_def<|And.intro @eff.eq_def<|And.intro @RP.eq_def<|And.intro @Ab.get.eq_1<|And.intro @Ab.get.eq_2<|And.intro @Ab.put.eq_1<|And.intro @Ab.put.eq_2<|And.intro @fZ.eq_def<|And.intro @aN.eq_1<|And.intro @aN.eq_2<|And.intro @Option.bind_some.{0,0}<|And.intro @Option.map_some.{0,0}<|And.intro @Option.getD_some.{0}<|And.intro @Option.getD_none.{0}<|And.intro @Value.oneCell'.eq_def<|And.intro @Int.toNat_natCast<|And.intro @ajR<|And.intro @Nat.add_zero<|And.intro @akJ<|And.intro @akd<|And.intro @agF<|And.intro @List.append.eq_1.{0}<|And.intro @List.append.eq_2.{0}<|And.intro @List.cons_append.{0}<|And.intro @List.nil_append.{0}<|And.intro @List.append_nil.{0}<|And.intro @LM.eq_def<|And.intro @cellsOf.eq_def<|And.intro @List.map.eq_1.{0,0}<|And.intro @List.map.eq_2.{0,0}<|And.intro @List.length_cons.{0}<|And.intro @List.length_nil.{0}<|And.intro @List.getD_cons_zero.{0}<|And.intro @List.getD_cons_succ.{0}<|And.intro @List.getD_nil.{0}<|And.intro @List.drop.eq_1.{0}<|And.intro @List.drop.eq_2.{0}<|And.intro @List.drop.eq_3.{0}<|And.intro @List.take.eq_1.{0}<|And.intro @List.take.eq_2.{0}<|And.intro @List.take.eq_3.{0}<|And.intro @splice.eq_def<|And.intro @zQ.eq_def<|And.intro @qE.eq_def<|And.intro @tC.eq_def<|And.intro @List.set.eq_1.{0}<|And.intro @List.set.eq_2.{0}<|And.intro @List.set.eq_3.{0}<|And.intro @En.eq_def<|And.intro @IX.eq_def<|And.intro @sF.eq_def<|And.intro @DN.eq_def<|And.intro @ahG.eq_def<|And.intro @VT.eq_def<|And.intro @QP.eq_def<|And.intro @I5.eq_def<|And.intro @AQ.eq_def<|And.intro @ajq<|And.intro @akt<|And.intro @aka<|And.intro @Bool.and_false<|And.intro @Xx.eq_def<|And.intro @DD.eq_1<|And.intro @DD.eq_2<|And.intro @DD.eq_3<|And.intro @DD.eq_4<|And.intro @DD.eq_5<|And.intro @yu.eq_def<|And.intro @qw.eq_def<|And.intro @Qi.eq_def<|And.intro @Bool.not_true<|And.intro @aj6<|And.intro @Ql.eq_def<|And.intro @x8.eq_def<|And.intro @List.getElem?_cons_zero.{0}<|And.intro @List.getElem?_cons_succ.{0}<|And.intro @List.getElem?_nil.{0}<|And.intro @CX.eq_def<| @List.length_map.{0,0}
def kS:=And.intro @Et.eq_def<|And.intro @Nj.eq_1<|And.intro @Nj.eq_2<|And.intro @qB.eq_1<|And.intro @qB.eq_2<|And.intro @cellsOf.eq_def<|And.intro @List.map.eq_1.{0,0}<|And.intro @List.map.eq_2.{0,0}<|And.intro @List.length_cons.{0}<|And.intro @List.length_nil.{0}<|And.intro @List.getD_cons_zero.{0}<|And.intro @List.getD_cons_succ.{0}<|And.intro @List.getD_nil.{0}<|And.intro @List.drop.eq_1.{0}<|And.intro @List.drop.eq_2.{0}<|And.intro @List.drop.eq_3.{0}<|And.intro @List.take.eq_1.{0}<|And.intro @List.take.eq_2.{0}<|And.intro @List.take.eq_3.{0}<|And.intro @splice.eq_def<|And.intro @mV.eq_def<|And.intro @FD.eq_1<|And.intro @FD.eq_2<|And.intro @List.replicate.eq_1.{0}<|And.intro @List.replicate.eq_2.{0}<|And.intro @List.set.eq_1.{0}<|And.intro @List.set.eq_2.{0}<|And.intro @List.set.eq_3.{0}<|And.intro @pK.eq_def<|And.intro @qc.eq_def<|And.intro @elemsOf.eq_def<|And.intro @List.length_map.{0,0}<|And.intro @xJ.eq_def<| @AX.eq_def
def kM:=And.intro @qi.eq_def<|And.intro @WR.eq_def<|And.intro @ofP.eq_def<|And.intro @C9.eq_def<|And.intro @List.length_map.{0,0}<|And.intro @cellsOf.eq_def<|And.intro @List.map.eq_1.{0,0}<|And.intro @List.map.eq_2.{0,0}<|And.intro @List.length_cons.{0}<|And.intro @List.length_nil.{0}<|And.intro @List.getD_cons_zero.{0}<|And.intro @List.getD_cons_succ.{0}<|And.intro @List.getD_nil.{0}<|And.intro @List.drop.eq_1.{0}<|And.intro @List.drop.eq_2.{0}<|And.intro @List.drop.eq_3.{0}<|And.intro @List.take.eq_1.{0}<|And.intro @List.take.eq_2.{0}<|And.intro @List.take.eq_3.{0}<|And.intro @splice.eq_def<|And.intro @ji.eq_def<|And.intro @oC.eq_def<|And.intro @Bl.eq_def<|And.intro @zZ.eq_def<| @tK.eq_def
def kG:=And.intro @Gs.eq_def<|And.intro @strip.eq_1<|And.intro @strip.eq_2<|And.intro @dU.eq_1<|And.intro @dU.eq_2<|And.intro @ajq<|And.intro @akt<|And.intro @aka<|And.intro @Bool.and_false<|And.intro @Bool.true_or<|And.intro @Bool.or_true<|And.intro @Bool.or_false<|And.intro @aks<|And.intro @Bool.not_true<|And.intro @aj6<|And.intro @evs.eq_def<|And.intro @Hy.eq_def<|And.intro @rW.eq_1<|And.intro @rW.eq_2<|And.intro @Op.operands.eq_def<|And.intro @Call.operands.eq_def<|And.intro @Array.toList_append.{0}<|And.intro @List.toList_toArray.{0}<|And.intro @List.map.eq_1.{0,0}<|And.intro @List.map.eq_2.{0,0}<|And.intro @List.getElem?_cons_zero.{0}<|And.intro @List.getElem?_cons_succ.{0}<| @List.getElem?_nil.{0}
def WL:=And.intro @vX.eq_1<|And.intro @vX.eq_2<|And.intro @ac8.eq_def<|And.intro @Vu.eq_def<| @Cap.toC.eq_def
abbrev na:= @afK
abbrev nb:= @adO
abbrev nc:= @abk
abbrev nd:= @af9
abbrev ne:= @af5
abbrev nf:= @ahh
abbrev ng:= @vw
abbrev nh:= @ZT
abbrev ni:= @aaO
abbrev nj:= @abU
abbrev nk:= @VN
abbrev nl:= @aeX
abbrev nm:= @Zi
abbrev nn:= @Gj
end Go.Proofs.YtcpgicfphakdaaaGreatDoor
