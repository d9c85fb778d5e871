/- A part of the proof. -/
import Derived.Test.YtcpgicfphakdaaaGreatDoorProg
import Derived.Test.YtcpgicfphakdaaaGreatDoorRAbCk
import Derived.KernelRfl
set_option linter.all false
namespace Go.Proofs.YtcpgicfphakdaaaGreatDoor.Tys
open Go.Ab Go.Proofs
theorem uK:ti Tryz.prog 3=some ⟨1,false,8,[.int .i64 0]⟩:=by kernel_rfl
theorem Ph:Dp Tryz.prog 3=some (false,[.int .i64]):=by kernel_rfl
theorem yR:ti Tryz.prog 4=some ⟨1,false,1,[.bool false]⟩:=by kernel_rfl
theorem jy:ti Tryz.prog 9=some ⟨1,false,16,[.string ByteArray.empty]⟩:=by kernel_rfl
theorem Ru:Dp Tryz.prog 9=some (false,[.str]):=by kernel_rfl
theorem adF:ti Tryz.prog 22=some ⟨1,false,24,[.slice none 0 0]⟩:=by kernel_rfl
theorem ab5:Jb Tryz.prog 22=some 67:=by kernel_rfl
theorem VC:ti Tryz.prog 23=some ⟨1,false,24,[.slice none 0 0]⟩:=by kernel_rfl
theorem PV:Jb Tryz.prog 23=some 79:=by kernel_rfl
theorem uO:ti Tryz.prog 27=some ⟨1,false,24,[.slice none 0 0]⟩:=by kernel_rfl
theorem mf:Jb Tryz.prog 27=some 51:=by kernel_rfl
theorem Ib:ti Tryz.prog 28=some ⟨1,false,24,[.slice none 0 0]⟩:=by kernel_rfl
theorem Dq:Jb Tryz.prog 28=some 70:=by kernel_rfl
theorem rJ:ti Tryz.prog 30=some ⟨2,true,48,[.slice none 0 0, .slice none 0 0]⟩:=by kernel_rfl
theorem sU:ku Tryz.prog 30 0=some (0,27):=by kernel_rfl
theorem Dh:ku Tryz.prog 30 1=some (1,28):=by kernel_rfl
theorem kZ:nH Tryz.prog 30=true:=by kernel_rfl
theorem aa9:ti Tryz.prog 32=some ⟨1,false,24,[.slice none 0 0]⟩:=by kernel_rfl
theorem PH:Jb Tryz.prog 32=some 39:=by kernel_rfl
theorem sK:ti Tryz.prog 37=some ⟨2,true,24,[.string ByteArray.empty, .int .i64 0]⟩:=by kernel_rfl
theorem nZ:ku Tryz.prog 37 0=some (0,9):=by kernel_rfl
theorem oI:ku Tryz.prog 37 1=some (1,3):=by kernel_rfl
theorem lL:nH Tryz.prog 37=true:=by kernel_rfl
theorem U7:eqT Tryz.prog 37=some [.str, .int .i64]:=by kernel_rfl
theorem xA:Dp Tryz.prog 37=some (true,[.str, .int .i64]):=by kernel_rfl
theorem aaf:ti Tryz.prog 39=some ⟨11,true,128,[.int .i64 0, .string ByteArray.empty, .int .i64 0, .string ByteArray.empty, .int .i64 0, .int .i64 0, .string ByteArray.empty, .int .i64 0, .string ByteArray.empty, .int .i64 0, .string ByteArray.empty]⟩:=by kernel_rfl
theorem NG:ku Tryz.prog 39 0=some (0,3):=by kernel_rfl
theorem Nq:ku Tryz.prog 39 1=some (1,37):=by kernel_rfl
theorem NZ:ku Tryz.prog 39 2=some (3,9):=by kernel_rfl
theorem Oi:ku Tryz.prog 39 3=some (4,3):=by kernel_rfl
theorem NV:ku Tryz.prog 39 4=some (5,3):=by kernel_rfl
theorem NM:ku Tryz.prog 39 5=some (6,9):=by kernel_rfl
theorem Nl:ku Tryz.prog 39 6=some (7,3):=by kernel_rfl
theorem Uz:ku Tryz.prog 39 7=some (8,37):=by kernel_rfl
theorem Us:ku Tryz.prog 39 8=some (10,9):=by kernel_rfl
theorem O6:nH Tryz.prog 39=true:=by kernel_rfl
theorem adB:eqT Tryz.prog 39=some [.int .i64, .str, .int .i64, .str, .int .i64, .int .i64, .str, .int .i64, .str, .int .i64, .str]:=by kernel_rfl
theorem abH:ti Tryz.prog 43=some ⟨1,false,24,[.slice none 0 0]⟩:=by kernel_rfl
theorem QK:Jb Tryz.prog 43=some 37:=by kernel_rfl
theorem YD:ti Tryz.prog 46=some ⟨4,true,16,[.int .i64 0, .bool false, .bool false, .bool false]⟩:=by kernel_rfl
theorem Ur:ku Tryz.prog 46 0=some (0,3):=by kernel_rfl
theorem aaF:ku Tryz.prog 46 1=some (1,4):=by kernel_rfl
theorem abt:ku Tryz.prog 46 3=some (3,4):=by kernel_rfl
theorem Qz:nH Tryz.prog 46=true:=by kernel_rfl
theorem abM:eqT Tryz.prog 46=some [.int .i64, .bool, .bool, .bool]:=by kernel_rfl
theorem acG:ti Tryz.prog 49=some ⟨2,true,16,[.int .u64 0, .int .i64 0]⟩:=by kernel_rfl
theorem abm:ku Tryz.prog 49 1=some (1,3):=by kernel_rfl
theorem Za:nH Tryz.prog 49=true:=by kernel_rfl
theorem abZ:eqT Tryz.prog 49=some [.int .u64, .int .i64]:=by kernel_rfl
theorem ny:ti Tryz.prog 51=some ⟨12,true,96,[.string ByteArray.empty, .int .i64 0, .int .i64 0, .int .i64 0, .int .i64 0, .bool false, .bool false, .bool false, .int .u64 0, .int .i64 0, .string ByteArray.empty, .int .i64 0]⟩:=by kernel_rfl
theorem jD:ku Tryz.prog 51 0=some (0,9):=by kernel_rfl
theorem jf:ku Tryz.prog 51 1=some (1,3):=by kernel_rfl
theorem BD:ku Tryz.prog 51 2=some (2,3):=by kernel_rfl
theorem jA:ku Tryz.prog 51 3=some (3,3):=by kernel_rfl
theorem Gp:ku Tryz.prog 51 4=some (4,46):=by kernel_rfl
theorem Ve:ku Tryz.prog 51 5=some (8,49):=by kernel_rfl
theorem NF:ku Tryz.prog 51 6=some (10,9):=by kernel_rfl
theorem MO:ku Tryz.prog 51 7=some (11,3):=by kernel_rfl
theorem iI:nH Tryz.prog 51=true:=by kernel_rfl
theorem adt:eqT Tryz.prog 51=some [.str, .int .i64, .int .i64, .int .i64, .int .i64, .bool, .bool, .bool, .int .u64, .int .i64, .str, .int .i64]:=by kernel_rfl
theorem Ji:ti Tryz.prog 55=some ⟨1,false,24,[.slice none 0 0]⟩:=by kernel_rfl
theorem Aj:Jb Tryz.prog 55=some 3:=by kernel_rfl
theorem WC:ti Tryz.prog 60=some ⟨1,false,24,[.slice none 0 0]⟩:=by kernel_rfl
theorem J8:Jb Tryz.prog 60=some 73:=by kernel_rfl
theorem P7:ti Tryz.prog 67=some ⟨5,true,88,[.int .i64 0, .string ByteArray.empty, .string ByteArray.empty, .slice none 0 0, .slice none 0 0]⟩:=by kernel_rfl
theorem Vd:ku Tryz.prog 67 0=some (0,3):=by kernel_rfl
theorem zI:ku Tryz.prog 67 3=some (3,60):=by kernel_rfl
theorem FY:ku Tryz.prog 67 4=some (4,28):=by kernel_rfl
theorem EC:nH Tryz.prog 67=true:=by kernel_rfl
theorem Il:ti Tryz.prog 70=some ⟨6,true,64,[.string ByteArray.empty, .int .i64 0, .int .i64 0, .string ByteArray.empty, .int .i64 0, .int .i64 0]⟩:=by kernel_rfl
theorem xh:ku Tryz.prog 70 0=some (0,9):=by kernel_rfl
theorem BZ:ku Tryz.prog 70 1=some (1,3):=by kernel_rfl
theorem BX:ku Tryz.prog 70 2=some (2,3):=by kernel_rfl
theorem zx:ku Tryz.prog 70 3=some (3,9):=by kernel_rfl
theorem Du:ku Tryz.prog 70 4=some (4,3):=by kernel_rfl
theorem FO:ku Tryz.prog 70 5=some (5,3):=by kernel_rfl
theorem yU:nH Tryz.prog 70=true:=by kernel_rfl
theorem SQ:ti Tryz.prog 73=some ⟨12,true,96,[.string ByteArray.empty, .int .i64 0, .int .i64 0, .bool false, .bool false, .bool false, .int .u64 0, .int .i64 0, .int .i64 0, .string ByteArray.empty, .int .i64 0, .int .i64 0]⟩:=by kernel_rfl
theorem Cf:ku Tryz.prog 73 0=some (0,9):=by kernel_rfl
theorem F7:ku Tryz.prog 73 1=some (1,3):=by kernel_rfl
theorem Mc:ku Tryz.prog 73 2=some (2,46):=by kernel_rfl
theorem NU:ku Tryz.prog 73 3=some (6,49):=by kernel_rfl
theorem LU:ku Tryz.prog 73 4=some (8,3):=by kernel_rfl
theorem F9:ku Tryz.prog 73 5=some (9,9):=by kernel_rfl
theorem Uk:ku Tryz.prog 73 6=some (10,3):=by kernel_rfl
theorem IL:nH Tryz.prog 73=true:=by kernel_rfl
theorem jO:ti Tryz.prog 74=some ⟨1,false,24,[.slice none 0 0]⟩:=by kernel_rfl
theorem eH:Jb Tryz.prog 74=some 9:=by kernel_rfl
theorem fM:ti Tryz.prog 76=some ⟨2,true,32,[.slice none 0 0, .bool false]⟩:=by kernel_rfl
theorem dW:ku Tryz.prog 76 0=some (0,74):=by kernel_rfl
theorem gV:ku Tryz.prog 76 1=some (1,4):=by kernel_rfl
theorem df:nH Tryz.prog 76=true:=by kernel_rfl
theorem xI:ti Tryz.prog 77=some ⟨1,false,24,[.slice none 0 0]⟩:=by kernel_rfl
theorem vU:Jb Tryz.prog 77=some 76:=by kernel_rfl
theorem Fg:ti Tryz.prog 79=some ⟨5,true,88,[.slice none 0 0, .bool false, .slice none 0 0, .bool false, .slice none 0 0]⟩:=by kernel_rfl
theorem wz:ku Tryz.prog 79 0=some (0,76):=by kernel_rfl
theorem xx:ku Tryz.prog 79 1=some (2,76):=by kernel_rfl
theorem xg:ku Tryz.prog 79 2=some (4,77):=by kernel_rfl
theorem xH:nH Tryz.prog 79=true:=by kernel_rfl
theorem abo:ti Tryz.prog 82=some ⟨1,false,8,[.pointer none]⟩:=by kernel_rfl
theorem Yq:ti Tryz.prog 86=some ⟨2,true,32,[.pointer none, .slice none 0 0]⟩:=by kernel_rfl
theorem FX:ku Tryz.prog 86 0=some (0,82):=by kernel_rfl
theorem UG:ku Tryz.prog 86 1=some (1,23):=by kernel_rfl
theorem Qx:nH Tryz.prog 86=true:=by kernel_rfl
theorem VI:ti Tryz.prog 88=some ⟨1,false,8,[.map none]⟩:=by kernel_rfl
theorem KJ:Bd Tryz.prog 88=some (37,3):=by kernel_rfl
theorem Wu:ti Tryz.prog 89=some ⟨1,false,8,[.map none]⟩:=by kernel_rfl
theorem JV:Bd Tryz.prog 89=some (9,3):=by kernel_rfl
theorem aas:ti Tryz.prog 90=some ⟨1,false,8,[.map none]⟩:=by kernel_rfl
theorem Vs:Bd Tryz.prog 90=some (3,55):=by kernel_rfl
theorem ZY:ti Tryz.prog 91=some ⟨1,false,24,[.slice none 0 0]⟩:=by kernel_rfl
theorem Pj:Jb Tryz.prog 91=some 192:=by kernel_rfl
theorem CJ:ti Tryz.prog 93=some ⟨9,true,168,[.slice none 0 0, .map none, .map none, .slice none 0 0, .slice none 0 0, .map none, .slice none 0 0, .slice none 0 0, .slice none 0 0]⟩:=by kernel_rfl
theorem tC:ku Tryz.prog 93 0=some (0,27):=by kernel_rfl
theorem zn:ku Tryz.prog 93 1=some (1,88):=by kernel_rfl
theorem zM:ku Tryz.prog 93 2=some (2,89):=by kernel_rfl
theorem zA:ku Tryz.prog 93 3=some (3,55):=by kernel_rfl
theorem uq:ku Tryz.prog 93 4=some (4,55):=by kernel_rfl
theorem Gn:ku Tryz.prog 93 5=some (5,90):=by kernel_rfl
theorem Vh:ku Tryz.prog 93 6=some (6,91):=by kernel_rfl
theorem Gm:ku Tryz.prog 93 7=some (7,91):=by kernel_rfl
theorem MP:ku Tryz.prog 93 8=some (8,91):=by kernel_rfl
theorem sV:nH Tryz.prog 93=true:=by kernel_rfl
theorem adb:ti Tryz.prog 97=some ⟨1,false,8,[.map none]⟩:=by kernel_rfl
theorem abL:Bd Tryz.prog 97=some (37,182):=by kernel_rfl
theorem UN:ti Tryz.prog 114=some ⟨1,false,24,[.slice none 0 0]⟩:=by kernel_rfl
theorem MV:Jb Tryz.prog 114=some 4:=by kernel_rfl
theorem ado:ti Tryz.prog 145=some ⟨1,false,24,[.slice none 0 0]⟩:=by kernel_rfl
theorem acp:Jb Tryz.prog 145=some 147:=by kernel_rfl
theorem rY:ti Tryz.prog 147=some ⟨3,true,56,[.slice none 0 0, .bool false, .slice none 0 0]⟩:=by kernel_rfl
theorem kz:ku Tryz.prog 147 0=some (0,76):=by kernel_rfl
theorem jX:ku Tryz.prog 147 1=some (2,77):=by kernel_rfl
theorem mQ:nH Tryz.prog 147=true:=by kernel_rfl
theorem adl:ti Tryz.prog 152=some ⟨1,false,8,[.map none]⟩:=by kernel_rfl
theorem Tt:Bd Tryz.prog 152=some (37,28):=by kernel_rfl
theorem xy:ti Tryz.prog 161=some ⟨5,true,72,[.bool false, .slice none 0 0, .bool false, .slice none 0 0, .bool false]⟩:=by kernel_rfl
theorem mG:ku Tryz.prog 161 1=some (1,76):=by kernel_rfl
theorem jY:ku Tryz.prog 161 2=some (3,76):=by kernel_rfl
theorem qo:nH Tryz.prog 161=true:=by kernel_rfl
theorem XR:ti Tryz.prog 167=some ⟨3,true,40,[.int .i64 0, .string ByteArray.empty, .string ByteArray.empty]⟩:=by kernel_rfl
theorem Hq:ku Tryz.prog 167 0=some (0,3):=by kernel_rfl
theorem O8:ku Tryz.prog 167 1=some (1,9):=by kernel_rfl
theorem Oz:ku Tryz.prog 167 2=some (2,9):=by kernel_rfl
theorem TA:nH Tryz.prog 167=true:=by kernel_rfl
theorem Uc:ti Tryz.prog 180=some ⟨1,false,8,[.map none]⟩:=by kernel_rfl
theorem Rf:Bd Tryz.prog 180=some (37,4):=by kernel_rfl
theorem ab2:ti Tryz.prog 182=some ⟨4,true,32,[.bool false, .map none, .map none, .map none]⟩:=by kernel_rfl
theorem Y5:ku Tryz.prog 182 0=some (0,4):=by kernel_rfl
theorem Yo:ku Tryz.prog 182 1=some (1,180):=by kernel_rfl
theorem Qr:ku Tryz.prog 182 2=some (2,180):=by kernel_rfl
theorem OG:ku Tryz.prog 182 3=some (3,180):=by kernel_rfl
theorem YQ:nH Tryz.prog 182=true:=by kernel_rfl
theorem ac6:ti Tryz.prog 185=some ⟨1,false,8,[.map none]⟩:=by kernel_rfl
theorem acj:Bd Tryz.prog 185=some (9,4):=by kernel_rfl
theorem GY:ti Tryz.prog 192=some ⟨1,false,8,[.map none]⟩:=by kernel_rfl
theorem MN:Bd Tryz.prog 192=some (3,4):=by kernel_rfl
theorem ada:ti Tryz.prog 199=some ⟨1,false,8,[.int .u64 0]⟩:=by kernel_rfl
theorem abN:ti Tryz.prog 264=some ⟨1,false,24,[.slice none 0 0]⟩:=by kernel_rfl
theorem YR:Jb Tryz.prog 264=some 77:=by kernel_rfl
theorem UO:ti Tryz.prog 286=some ⟨1,false,24,[.slice none 0 0]⟩:=by kernel_rfl
theorem NH:Jb Tryz.prog 286=some 312:=by kernel_rfl
theorem Qn:ti Tryz.prog 312=some ⟨2,true,32,[.slice none 0 0, .bool false]⟩:=by kernel_rfl
theorem yw:ku Tryz.prog 312 0=some (0,74):=by kernel_rfl
theorem yl:ku Tryz.prog 312 1=some (1,4):=by kernel_rfl
theorem Hf:nH Tryz.prog 312=true:=by kernel_rfl
end Go.Proofs.YtcpgicfphakdaaaGreatDoor.Tys
namespace Go.Proofs.YtcpgicfphakdaaaGreatDoor
open Go.Ab
structure Rev where
 path:ByteArray
 num:Int
 chg:Int
 act:Int
 base:Int
 kw:Bool
 ex:Bool
 xe:Bool
 sum:Int
 size:Int
 frm:ByteArray
 fnum:Int
 deriving DecidableEq
structure jk where
 frm:ByteArray
 first:Int
 last:Int
 to:ByteArray
 num:Int
 how:Int
 deriving DecidableEq
structure Oo where
 path:ByteArray
 act:Int
 base:Int
 kw:Bool
 ex:Bool
 xe:Bool
 sum:Int
 size:Int
 prev:Int
 frm:ByteArray
 fnum:Int
 fence:Int
 deriving DecidableEq
structure o6 where
 num:Int
 client:ByteArray
 text:ByteArray
 edits:List Oo
 recs:List jk
 deriving DecidableEq
structure bP where
 path:ByteArray
 num:Int
 deriving DecidableEq
structure bK where
 revs:List Rev
 recs:List jk
 deriving DecidableEq
@[reducible] def ax (r:Rev):List D:=[.v (.string r.path), .v (.int .i64 r.num), .v (.int .i64 r.chg), .v (.int .i64 r.act), .v (.int .i64 r.base), .v (.bool r.kw), .v (.bool r.ex), .v (.bool r.xe), .v (.int .u64 r.sum), .v (.int .i64 r.size), .v (.string r.frm), .v (.int .i64 r.fnum)]
@[reducible] def bg (r:jk):List D:=[.v (.string r.frm), .v (.int .i64 r.first), .v (.int .i64 r.last), .v (.string r.to), .v (.int .i64 r.num), .v (.int .i64 r.how)]
@[reducible] def iC (e:Oo):List D:=[.v (.string e.path), .v (.int .i64 e.act), .v (.int .i64 e.base), .v (.bool e.kw), .v (.bool e.ex), .v (.bool e.xe), .v (.int .u64 e.sum), .v (.int .i64 e.size), .v (.int .i64 e.prev), .v (.string e.frm), .v (.int .i64 e.fnum), .v (.int .i64 e.fence)]
@[reducible] def fJ (f:bP):List D:=[.v (.string f.path), .v (.int .i64 f.num)]
@[reducible] def iw (c:o6):List D:=[.v (.int .i64 c.num), .v (.string c.client), .v (.string c.text), .ps 12 (c.edits.map iC), .ps 6 (c.recs.map bg)]
@[reducible] def fD (d:bK):List D:=[.ps 12 (d.revs.map ax), .ps 6 (d.recs.map bg)]
@[reducible] def MS (r:Rev):AV:= .agg ((ax r).map C.d)
@[reducible] def acR (r:jk):AV:= .agg ((bg r).map C.d)
@[reducible] def adp (r:Oo):AV:= .agg ((iC r).map C.d)
@[reducible] def uI (r:bP):AV:= .agg ((fJ r).map C.d)
@[reducible] def VR (r:o6):AV:= .agg ((iw r).map C.d)
@[reducible] def sH (r:bK):AV:= .agg ((fD r).map C.d)
@[reducible] def ja (l:List Rev):AV:= .c (.d (.ps 12 (l.map ax)))
@[reducible] def Io (l:List bP):AV:= .c (.d (.ps 2 (l.map fJ)))
@[reducible] def Cc (r:Rev):Bool×List C:=(true,(ax r).map C.d)
@[reducible] def pB (b:Bool):Bool×List C:=(false,[.d (.v (.bool b))])
@[reducible] def pI (n:Int):Bool×List C:=(false,[.d (.v (.int .i64 n))])
def ai:Rev:=⟨ByteArray.empty,0,0,0,0,false,false,false,0,0,ByteArray.empty,0⟩
def Em:bP:=⟨ByteArray.empty,0⟩
def Jp:bK:=⟨[],[]⟩
def wr (n:Int):Int:=IntKind.i64.wrap n
def gone (v:Rev):Bool:=decide (v.act=3)||decide (v.act=5)
def fileOf (v:Rev):bP:=⟨v.path,v.num⟩
def made (c:o6) (x:Oo):Rev:=⟨x.path,wr (x.prev+1),c.num,x.act,x.base,x.kw,x.ex,x.xe,x.sum,x.size,x.frm,x.fnum⟩
def log (d:bK) (p:ByteArray):List Rev:=d.revs.filter fun v=>decide (v.path=p)
def eQ (d:bK) (p:ByteArray):Option Rev:=(log d p).getLast?
def oQ (d:bK) (p:ByteArray) (n:Int):Option Rev:=(log d p).find? fun v=>decide (v.num=n)
def live (d:bK) (p:ByteArray):Bool:=match eQ d p with|some v=>!gone v|none=>false
def dh (d:bK) (p:ByteArray):Int:=((eQ d p).getD ai).num
def jQ (d:bK) (v:Rev):Option Rev:=
 if v.act=1 then none else if v.act=4 then oQ d v.frm v.fnum else oQ d v.path (wr (v.num-1))
theorem iM (ρ:Nat→Nat) (ys:List (List D)):(ys.map fun l=>l.map C.d).map (fun l=>l.map (gX ρ))=ys.map fun l=>l.map C.d:=by
 rw[List.map_map];exact List.map_congr_left fun l _=>by simp[gX]
theorem aA (ys:List (List D)):(ys.map fun l=>l.map C.d).flatten=ys.flatten.map C.d:=by rw[List.map_flatten]
theorem oN (ρ:Nat→Nat) (sz:Nat) (ys:List (List D)):eX ρ (.arr sz (ys.map fun l=>l.map C.d))= .arr sz (ys.map fun l=>l.map C.d):=by
 simp only[eX,iM]
theorem jo (dom:Nat→Bool) (sz:Nat) (ys:List (List D)):bY dom (.arr sz (ys.map fun l=>l.map C.d))=True:=by
 simp only[bY,aA,DX]
@[reducible] def aQ (sz:Nat) (ys:List (List D)):AO:= .arr sz (ys.map fun l=>l.map C.d)
theorem bi {α:Type} (e:α→List D) (l:List α) (k:Nat) (z:α) (h:k<l.length):(l.map e).getD k []=e (l.getD k z):=by simp[List.getD,h]
theorem Yw {α:Type} (l:List α) (k:Nat) (z:α) (h:k<l.length):l.take (k+1)=l.take k++[l.getD k z]:=by
 rw[List.take_add_one,List.getElem?_eq_getElem h];simp[List.getD,h]
theorem lg {α:Type} (p:α→Bool) (l:List α) (k:Nat):((l.take k).filter p).length≤l.length:=
 Nat.le_trans (List.length_filter_le ..) (by simp;omega)
theorem round {α:Type} (e:α→List D) (l:List α) (k:Nat) (z:α) (h:k<l.length):∃v,l[k]? =some v∧(l.map e).getD k []=e v∧l.take (k+1)=l.take k++[v]:=
 ⟨l.getD k z,by simp[List.getD,h],bi e l k z h,Yw l k z h⟩
def small (n:Nat):Prop:=n≤1000000
theorem gu {x:X} {st0 st':List (Nat×AO)} (hx:∀id,x.d0 id→ae st0 id=true) (h:∀p∈st0,ae st' p.1=true):∀id,x.d0 id→ae st' id=true∧id=id:=by
 intro id hid
 refine⟨?_,rfl⟩
 have h0:=hx id hid
 unfold ae at h0
 cases hg:Ab.get st0 id with
 |none=>rw[hg] at h0;cases h0
 |some o=>exact h (id,o) (get_mem hg)
theorem JH {P:Program} {rs:List ResultVar} {x:X} {R:AV→List (Nat×AO)→Prop} {s:S} {r:AV} {obl:List Prop} (h:Jt P rs s=some (r,obl)) (ho:All obl)
 (st':List (Nat×AO)) (hsub:Sub x (fun i=>i) s.st st') (hcl:aZ (ae st') r) (hR:R r st'):MK P rs x R .normal s:=⟨.inr rfl,r,obl,h,ho,st',hsub,hcl,hR⟩
theorem Pz (dom:Nat→Bool) (m:List D):aN dom (m.map C.d):=by rw[DX];trivial
theorem Vl (dom:Nat→Bool) (es:List iT):cu dom ((es.map fA).map (·.1))=True:=by
 refine eq_true ?_
 induction es with
 |nil=>trivial
 |cons e es ih=>exact⟨Pz _ _,ih⟩
theorem Uy (dom:Nat→Bool) (es:List iT):cu dom ((es.map fA).map (·.2))=True:=by
 refine eq_true ?_
 induction es with
 |nil=>trivial
 |cons e es ih=>exact⟨Pz _ _,ih⟩
theorem bG {α:Type} (dom:Nat→Bool) (g:α→iT) (l:List α):cu dom (List.map ((fun x=>x.fst)∘fA∘g) l)=True:=by
 have:=Vl dom (l.map g)
 simpa using this
theorem bH {α:Type} (dom:Nat→Bool) (g:α→iT) (l:List α):cu dom (List.map ((fun x=>x.snd)∘fA∘g) l)=True:=by
 have:=Uy dom (l.map g)
 simpa using this
theorem bD (dom:Nat→Bool) (l:List iT):cu dom (List.map ((fun x=>x.fst)∘fA) l)=True:=by
 have:=Vl dom l
 simpa using this
theorem bI (dom:Nat→Bool) (l:List iT):cu dom (List.map ((fun x=>x.snd)∘fA) l)=True:=by
 have:=Uy dom l
 simpa using this
theorem bC {α:Type} (dom:Nat→Bool) (e:α→List D) (l:List α):aN dom (List.map ((fun l=>List.map C.d l)∘e) l).flatten=True:=by
 refine eq_true ?_
 induction l with
 |nil=>trivial
 |cons a l ih=>
  simp only[List.map_cons,List.flatten_cons,Function.comp]
  rw[ay]
  exact⟨Pz _ _,ih⟩
theorem keepR {x:X} {ρ:Nat→Nat} {st0 st':List (Nat×AO)} (hx:∀id,x.d0 id→ae st0 id=true) (h:∀p∈st0,ae st' p.1=true∧ρ p.1=p.1):∀id,x.d0 id→ae st' id=true∧ρ id=id:=by
 intro id hid
 have h0:=hx id hid
 unfold ae at h0
 cases hg:Ab.get st0 id with
 |none=>rw[hg] at h0;cases h0
 |some o=>exact h (id,o) (get_mem hg)
theorem jB (ρ:Nat→Nat) (e:iT):(BM ρ (fA e).fst,BM ρ (fA e).snd)=fA e:=by simp[fA,kC,BM,gX]
theorem oh (ρ:Nat→Nat) (l:List iT):eX ρ (.map (l.map fA))= .map (l.map fA):=by
 simp only[eX,List.map_map]
 congr 1
 apply List.map_congr_left
 intro e _
 simp[fA,kC,BM,gX]
def kO:=And.intro @All.eq_1<|And.intro @All.eq_2<|And.intro @List.cons_append.{0}<|And.intro @List.nil_append.{0}<|And.intro @dI.eq_def<|And.intro @and_true<|And.intro @true_and<|And.intro @List.length_map.{0,0}<|And.intro @List.length_cons.{0} @List.length_nil.{0}
def kE:=And.intro @List.mem_cons.{0}<|And.intro @Vl<|And.intro @Uy<|And.intro @List.not_mem_nil.{0}<|And.intro @or_false<|And.intro @forall_eq_or_imp.{1}<|And.intro @forall_eq.{1}<|And.intro @jo<|And.intro @aA<|And.intro @bY.eq_def<|And.intro @aN.eq_1<|And.intro @aN.eq_2<|And.intro @dH.eq_def<|And.intro @cu.eq_1<|And.intro @cu.eq_2<|And.intro @DX<|And.intro @ae.eq_def<|And.intro @Ab.get.eq_1<|And.intro @Ab.get.eq_2<|And.intro @true_and<|And.intro @and_true<|And.intro @Option.isSome.eq_def.{0}<|And.intro @List.map_cons.{0,0}<|And.intro @List.map_nil.{0,0}<|And.intro @List.flatten.eq_1.{0}<|And.intro @List.flatten.eq_2.{0} @List.append_nil.{0}
def kV:=And.intro @iV.eq_1<|And.intro @iV.eq_2<|And.intro @ev.eq_def<|And.intro @Ab.get.eq_1<|And.intro @Ab.get.eq_2<|And.intro @Value.oneCell'.eq_def<| @if_true.{1}
def kR:=And.intro @Jt.eq_def<|And.intro @yQ.eq_1<|And.intro @yQ.eq_2<|And.intro @resV.eq_def<|And.intro @toP.eq_def<|And.intro @Qp.eq_def<|And.intro @Option.map_some.{0,0}<|And.intro @Option.bind_some.{0,0}<|And.intro @Ab.get.eq_1<|And.intro @Ab.get.eq_2<|And.intro @List.append_nil.{0} @List.nil_append.{0}
def kP:=And.intro @iy.eq_def<|And.intro @aK.eq_1<|And.intro @aK.eq_2<|And.intro @Ab.put.eq_1 @Ab.put.eq_2
def kD:=And.intro @Fz.eq_1<|And.intro @Fz.eq_2<|And.intro @lN.eq_def<|And.intro @lN.evsAll.eq_1<|And.intro @lN.evsAll.eq_2<|And.intro @Vr.eq_def<|And.intro @iV.eq_1 @iV.eq_2
def kB:=And.intro @Ab.QL.eq_def<|And.intro @Ab.run.eq_1<|And.intro @Ab.run.eq_2<|And.intro @Ab.run.eq_3<|And.intro @qG.eq_def<|And.intro @step1.eq_def<|And.intro @ev.eq_def<|And.intro @eff.eq_def<|And.intro @Qp.eq_def<|And.intro @Ab.get.eq_1<|And.intro @Ab.get.eq_2<|And.intro @Ab.put.eq_1<|And.intro @Ab.put.eq_2<|And.intro @iy.eq_def<|And.intro @aK.eq_1<|And.intro @aK.eq_2<|And.intro @Option.bind_some.{0,0}<|And.intro @Option.map_some.{0,0}<|And.intro @Option.getD_some.{0}<|And.intro @Option.getD_none.{0}<|And.intro @Value.oneCell'.eq_def<|And.intro @Int.toNat_natCast<|And.intro @Nat.zero_add<|And.intro @Nat.add_zero<|And.intro @decide_true<|And.intro @decide_false<|And.intro @Bool.false_eq_true<|And.intro @List.append.eq_1.{0}<|And.intro @List.append.eq_2.{0}<|And.intro @List.cons_append.{0}<|And.intro @List.nil_append.{0}<|And.intro @List.append_nil.{0}<|And.intro @Hm.eq_def<|And.intro @cellsOf.eq_def<|And.intro @List.map.eq_1.{0,0}<|And.intro @List.map.eq_2.{0,0}<|And.intro @List.length_cons.{0}<|And.intro @List.length_nil.{0}<|And.intro @List.getD_cons_zero.{0}<|And.intro @List.getD_cons_succ.{0}<|And.intro @List.getD_nil.{0}<|And.intro @List.drop.eq_1.{0}<|And.intro @List.drop.eq_2.{0}<|And.intro @List.drop.eq_3.{0}<|And.intro @List.take.eq_1.{0}<|And.intro @List.take.eq_2.{0}<|And.intro @List.take.eq_3.{0}<|And.intro @splice.eq_def<|And.intro @yu.eq_def<|And.intro @qN.eq_def<|And.intro @rU.eq_def<|And.intro @List.set.eq_1.{0}<|And.intro @List.set.eq_2.{0}<|And.intro @List.set.eq_3.{0}<|And.intro @Dw.eq_def<|And.intro @Gg.eq_def<|And.intro @qW.eq_def<|And.intro @Dx.eq_def<|And.intro @adh.eq_def<|And.intro @Tz.eq_def<|And.intro @Oe.eq_def<|And.intro @FQ.eq_def<|And.intro @zH.eq_def<|And.intro @Bool.true_and<|And.intro @Bool.and_true<|And.intro @Bool.false_and<|And.intro @Bool.and_false<|And.intro @UH.eq_def<|And.intro @Hy.eq_1<|And.intro @Hy.eq_2<|And.intro @Hy.eq_3<|And.intro @Hy.eq_4<|And.intro @Hy.eq_5<|And.intro @wS.eq_def<|And.intro @o9.eq_def<|And.intro @Na.eq_def<|And.intro @Bool.not_true<|And.intro @Bool.not_false<|And.intro @ML.eq_def<|And.intro @wB.eq_def<|And.intro @List.getElem?_cons_zero.{0}<|And.intro @List.getElem?_cons_succ.{0}<|And.intro @List.getElem?_nil.{0}<|And.intro @AZ.eq_def<| @List.length_map.{0,0}
def kS:=And.intro @BK.eq_def<|And.intro @Lj.eq_1<|And.intro @Lj.eq_2<|And.intro @pU.eq_1<|And.intro @pU.eq_2<|And.intro @cellsOf.eq_def<|And.intro @List.map.eq_1.{0,0}<|And.intro @List.map.eq_2.{0,0}<|And.intro @List.length_cons.{0}<|And.intro @List.length_nil.{0}<|And.intro @List.getD_cons_zero.{0}<|And.intro @List.getD_cons_succ.{0}<|And.intro @List.getD_nil.{0}<|And.intro @List.drop.eq_1.{0}<|And.intro @List.drop.eq_2.{0}<|And.intro @List.drop.eq_3.{0}<|And.intro @List.take.eq_1.{0}<|And.intro @List.take.eq_2.{0}<|And.intro @List.take.eq_3.{0}<|And.intro @splice.eq_def<|And.intro @mi.eq_def<|And.intro @Ei.eq_1<|And.intro @Ei.eq_2<|And.intro @List.replicate.eq_1.{0}<|And.intro @List.replicate.eq_2.{0}<|And.intro @List.set.eq_1.{0}<|And.intro @List.set.eq_2.{0}<|And.intro @List.set.eq_3.{0}<|And.intro @nX.eq_def<|And.intro @pq.eq_def<|And.intro @elemsOf.eq_def<|And.intro @List.length_map.{0,0}<|And.intro @vH.eq_def<| @zi.eq_def
def kM:=And.intro @oP.eq_def<|And.intro @Rl.eq_def<|And.intro @ofP.eq_def<|And.intro @AQ.eq_def<|And.intro @List.length_map.{0,0}<|And.intro @cellsOf.eq_def<|And.intro @List.map.eq_1.{0,0}<|And.intro @List.map.eq_2.{0,0}<|And.intro @List.length_cons.{0}<|And.intro @List.length_nil.{0}<|And.intro @List.getD_cons_zero.{0}<|And.intro @List.getD_cons_succ.{0}<|And.intro @List.getD_nil.{0}<|And.intro @List.drop.eq_1.{0}<|And.intro @List.drop.eq_2.{0}<|And.intro @List.drop.eq_3.{0}<|And.intro @List.take.eq_1.{0}<|And.intro @List.take.eq_2.{0}<|And.intro @List.take.eq_3.{0}<|And.intro @splice.eq_def<|And.intro @iW.eq_def<|And.intro @nC.eq_def<|And.intro @zL.eq_def<|And.intro @yt.eq_def<| @rF.eq_def
def kG:=And.intro @EL.eq_def<|And.intro @strip.eq_1<|And.intro @strip.eq_2<|And.intro @dD.eq_1<|And.intro @dD.eq_2<|And.intro @Bool.true_and<|And.intro @Bool.and_true<|And.intro @Bool.false_and<|And.intro @Bool.and_false<|And.intro @Bool.true_or<|And.intro @Bool.or_true<|And.intro @Bool.or_false<|And.intro @Bool.false_or<|And.intro @Bool.not_true<|And.intro @Bool.not_false<|And.intro @evs.eq_def<|And.intro @Cj.eq_def<|And.intro @qB.eq_1<|And.intro @qB.eq_2<|And.intro @Op.operands.eq_def<|And.intro @Call.operands.eq_def<|And.intro @Array.toList_append.{0}<|And.intro @List.toList_toArray.{0}<|And.intro @List.map.eq_1.{0,0}<|And.intro @List.map.eq_2.{0,0}<|And.intro @List.getElem?_cons_zero.{0}<|And.intro @List.getElem?_cons_succ.{0}<| @List.getElem?_nil.{0}
def kFn:=And.intro @uD.eq_1<|And.intro @uD.eq_2<|And.intro @Z8.eq_def<|And.intro @Tf.eq_def<| @Cap.toC.eq_def
abbrev na:= @abW
abbrev nb:= @abf
abbrev nc:= @Zn
abbrev nd:= @acB
abbrev ne:= @acg
abbrev nf:= @adA
abbrev ng:= @yf
abbrev nh:= @Xj
abbrev ni:= @ZL
abbrev nj:= @ZP
abbrev nk:= @Tn
abbrev nl:= @aaP
abbrev nm:= @Xl
abbrev nn:= @DI
end Go.Proofs.YtcpgicfphakdaaaGreatDoor
