/- A part of the proof. -/
import Derived.Test.YtcpgicfphakdaaaGreatDoorProg
import Derived.Test.YtcpgicfphakdaaaGreatDoorRAbCk
import Derived.KernelRfl
set_option linter.all false
namespace Go.Proofs.YtcpgicfphakdaaaGreatDoor.Tys
open Go.Ab Go.Proofs
theorem uz:ti Tryz.prog 3=some ⟨1,false,8,[.int .i64 0]⟩:=by kernel_rfl
theorem PN:dF Tryz.prog 3=some (false,[.int .i64]):=by kernel_rfl
theorem MH:ti Tryz.prog 4=some ⟨1,false,1,[.bool false]⟩:=by kernel_rfl
theorem kC:ti Tryz.prog 9=some ⟨1,false,16,[.string ByteArray.empty]⟩:=by kernel_rfl
theorem UQ:dF Tryz.prog 9=some (false,[.str]):=by kernel_rfl
theorem acM:ti Tryz.prog 22=some ⟨1,false,24,[.slice none 0 0]⟩:=by kernel_rfl
theorem abp:FT Tryz.prog 22=some 67:=by kernel_rfl
theorem abd:ti Tryz.prog 23=some ⟨1,false,24,[.slice none 0 0]⟩:=by kernel_rfl
theorem Yh:FT Tryz.prog 23=some 79:=by kernel_rfl
theorem x8:ti Tryz.prog 27=some ⟨1,false,24,[.slice none 0 0]⟩:=by kernel_rfl
theorem nI:FT Tryz.prog 27=some 51:=by kernel_rfl
theorem IW:ti Tryz.prog 28=some ⟨1,false,24,[.slice none 0 0]⟩:=by kernel_rfl
theorem DD:FT Tryz.prog 28=some 70:=by kernel_rfl
theorem uB:ti Tryz.prog 30=some ⟨2,true,48,[.slice none 0 0, .slice none 0 0]⟩:=by kernel_rfl
theorem uM:jC Tryz.prog 30 0=some (0,27):=by kernel_rfl
theorem Eu:jC Tryz.prog 30 1=some (1,28):=by kernel_rfl
theorem ny:mi Tryz.prog 30=true:=by kernel_rfl
theorem acb:ti Tryz.prog 32=some ⟨1,false,24,[.slice none 0 0]⟩:=by kernel_rfl
theorem TW:FT Tryz.prog 32=some 39:=by kernel_rfl
theorem vT:ti Tryz.prog 37=some ⟨2,true,24,[.string ByteArray.empty, .int .i64 0]⟩:=by kernel_rfl
theorem oC:jC Tryz.prog 37 0=some (0,9):=by kernel_rfl
theorem oI:jC Tryz.prog 37 1=some (1,3):=by kernel_rfl
theorem pM:mi Tryz.prog 37=true:=by kernel_rfl
theorem abB:eqT Tryz.prog 37=some [.str, .int .i64]:=by kernel_rfl
theorem DT:dF Tryz.prog 37=some (true,[.str, .int .i64]):=by kernel_rfl
theorem aaw:ti Tryz.prog 39=some ⟨11,true,128,[.int .i64 0, .string ByteArray.empty, .int .i64 0, .string ByteArray.empty, .int .i64 0, .int .i64 0, .string ByteArray.empty, .int .i64 0, .string ByteArray.empty, .int .i64 0, .string ByteArray.empty]⟩:=by kernel_rfl
theorem L9:jC Tryz.prog 39 0=some (0,3):=by kernel_rfl
theorem LD:jC Tryz.prog 39 1=some (1,37):=by kernel_rfl
theorem Mc:jC Tryz.prog 39 2=some (3,9):=by kernel_rfl
theorem MC:jC Tryz.prog 39 3=some (4,3):=by kernel_rfl
theorem Lt:jC Tryz.prog 39 4=some (5,3):=by kernel_rfl
theorem MS:jC Tryz.prog 39 5=some (6,9):=by kernel_rfl
theorem Nb:jC Tryz.prog 39 6=some (7,3):=by kernel_rfl
theorem aaP:jC Tryz.prog 39 7=some (8,37):=by kernel_rfl
theorem aa9:jC Tryz.prog 39 8=some (10,9):=by kernel_rfl
theorem Us:mi Tryz.prog 39=true:=by kernel_rfl
theorem aee:ti Tryz.prog 41=some ⟨1,false,8,[.map none]⟩:=by kernel_rfl
theorem Zq:BU Tryz.prog 41=some (42,43):=by kernel_rfl
theorem ac1:ti Tryz.prog 42=some ⟨4,true,48,[.string ByteArray.empty, .int .i64 0, .string ByteArray.empty, .int .i64 0]⟩:=by kernel_rfl
theorem Xr:dF Tryz.prog 42=some (true,[.str, .int .i64, .str, .int .i64]):=by kernel_rfl
theorem Vy:ti Tryz.prog 43=some ⟨1,false,24,[.slice none 0 0]⟩:=by kernel_rfl
theorem Ua:FT Tryz.prog 43=some 37:=by kernel_rfl
theorem X9:ti Tryz.prog 46=some ⟨4,true,16,[.int .i64 0, .bool false, .bool false, .bool false]⟩:=by kernel_rfl
theorem Uw:jC Tryz.prog 46 0=some (0,3):=by kernel_rfl
theorem ZZ:jC Tryz.prog 46 1=some (1,4):=by kernel_rfl
theorem Z7:jC Tryz.prog 46 3=some (3,4):=by kernel_rfl
theorem OH:mi Tryz.prog 46=true:=by kernel_rfl
theorem abx:eqT Tryz.prog 46=some [.int .i64, .bool, .bool, .bool]:=by kernel_rfl
theorem ab7:ti Tryz.prog 49=some ⟨2,true,16,[.int .u64 0, .int .i64 0]⟩:=by kernel_rfl
theorem aaU:jC Tryz.prog 49 1=some (1,3):=by kernel_rfl
theorem Zz:mi Tryz.prog 49=true:=by kernel_rfl
theorem abk:eqT Tryz.prog 49=some [.int .u64, .int .i64]:=by kernel_rfl
theorem nT:ti Tryz.prog 51=some ⟨12,true,96,[.string ByteArray.empty, .int .i64 0, .int .i64 0, .int .i64 0, .int .i64 0, .bool false, .bool false, .bool false, .int .u64 0, .int .i64 0, .string ByteArray.empty, .int .i64 0]⟩:=by kernel_rfl
theorem jq:jC Tryz.prog 51 0=some (0,9):=by kernel_rfl
theorem gU:jC Tryz.prog 51 1=some (1,3):=by kernel_rfl
theorem ED:jC Tryz.prog 51 2=some (2,3):=by kernel_rfl
theorem kW:jC Tryz.prog 51 3=some (3,3):=by kernel_rfl
theorem EY:jC Tryz.prog 51 4=some (4,46):=by kernel_rfl
theorem Ul:jC Tryz.prog 51 5=some (8,49):=by kernel_rfl
theorem EO:jC Tryz.prog 51 6=some (10,9):=by kernel_rfl
theorem EN:jC Tryz.prog 51 7=some (11,3):=by kernel_rfl
theorem iK:mi Tryz.prog 51=true:=by kernel_rfl
theorem IR:ti Tryz.prog 55=some ⟨1,false,24,[.slice none 0 0]⟩:=by kernel_rfl
theorem zt:FT Tryz.prog 55=some 3:=by kernel_rfl
theorem We:ti Tryz.prog 60=some ⟨1,false,24,[.slice none 0 0]⟩:=by kernel_rfl
theorem Kv:FT Tryz.prog 60=some 73:=by kernel_rfl
theorem PE:ti Tryz.prog 67=some ⟨5,true,88,[.int .i64 0, .string ByteArray.empty, .string ByteArray.empty, .slice none 0 0, .slice none 0 0]⟩:=by kernel_rfl
theorem SY:jC Tryz.prog 67 0=some (0,3):=by kernel_rfl
theorem yJ:jC Tryz.prog 67 3=some (3,60):=by kernel_rfl
theorem EP:jC Tryz.prog 67 4=some (4,28):=by kernel_rfl
theorem Du:mi Tryz.prog 67=true:=by kernel_rfl
theorem IY:ti Tryz.prog 70=some ⟨6,true,64,[.string ByteArray.empty, .int .i64 0, .int .i64 0, .string ByteArray.empty, .int .i64 0, .int .i64 0]⟩:=by kernel_rfl
theorem yK:jC Tryz.prog 70 0=some (0,9):=by kernel_rfl
theorem EI:jC Tryz.prog 70 1=some (1,3):=by kernel_rfl
theorem Fe:jC Tryz.prog 70 2=some (2,3):=by kernel_rfl
theorem Bo:jC Tryz.prog 70 3=some (3,9):=by kernel_rfl
theorem EC:jC Tryz.prog 70 4=some (4,3):=by kernel_rfl
theorem MR:jC Tryz.prog 70 5=some (5,3):=by kernel_rfl
theorem zk:mi Tryz.prog 70=true:=by kernel_rfl
theorem Qz:ti Tryz.prog 73=some ⟨12,true,96,[.string ByteArray.empty, .int .i64 0, .int .i64 0, .bool false, .bool false, .bool false, .int .u64 0, .int .i64 0, .int .i64 0, .string ByteArray.empty, .int .i64 0, .int .i64 0]⟩:=by kernel_rfl
theorem Ak:jC Tryz.prog 73 0=some (0,9):=by kernel_rfl
theorem EW:jC Tryz.prog 73 1=some (1,3):=by kernel_rfl
theorem Lr:jC Tryz.prog 73 2=some (2,46):=by kernel_rfl
theorem MO:jC Tryz.prog 73 3=some (6,49):=by kernel_rfl
theorem KQ:jC Tryz.prog 73 4=some (8,3):=by kernel_rfl
theorem EE:jC Tryz.prog 73 5=some (9,9):=by kernel_rfl
theorem Uy:jC Tryz.prog 73 6=some (10,3):=by kernel_rfl
theorem FC:mi Tryz.prog 73=true:=by kernel_rfl
theorem pX:ti Tryz.prog 74=some ⟨1,false,24,[.slice none 0 0]⟩:=by kernel_rfl
theorem iC:FT Tryz.prog 74=some 9:=by kernel_rfl
theorem lI:ti Tryz.prog 76=some ⟨2,true,32,[.slice none 0 0, .bool false]⟩:=by kernel_rfl
theorem jR:jC Tryz.prog 76 0=some (0,74):=by kernel_rfl
theorem pV:jC Tryz.prog 76 1=some (1,4):=by kernel_rfl
theorem gG:mi Tryz.prog 76=true:=by kernel_rfl
theorem Lc:ti Tryz.prog 77=some ⟨1,false,24,[.slice none 0 0]⟩:=by kernel_rfl
theorem Jr:FT Tryz.prog 77=some 76:=by kernel_rfl
theorem Qy:ti Tryz.prog 79=some ⟨5,true,88,[.slice none 0 0, .bool false, .slice none 0 0, .bool false, .slice none 0 0]⟩:=by kernel_rfl
theorem ES:jC Tryz.prog 79 0=some (0,76):=by kernel_rfl
theorem E8:jC Tryz.prog 79 1=some (2,76):=by kernel_rfl
theorem Fb:jC Tryz.prog 79 2=some (4,77):=by kernel_rfl
theorem Ht:mi Tryz.prog 79=true:=by kernel_rfl
theorem aap:ti Tryz.prog 82=some ⟨1,false,8,[.pointer none]⟩:=by kernel_rfl
theorem Za:ti Tryz.prog 86=some ⟨2,true,32,[.pointer none, .slice none 0 0]⟩:=by kernel_rfl
theorem Ez:jC Tryz.prog 86 0=some (0,82):=by kernel_rfl
theorem TE:jC Tryz.prog 86 1=some (1,23):=by kernel_rfl
theorem Qh:mi Tryz.prog 86=true:=by kernel_rfl
theorem WP:ti Tryz.prog 88=some ⟨1,false,8,[.map none]⟩:=by kernel_rfl
theorem Jp:BU Tryz.prog 88=some (37,3):=by kernel_rfl
theorem VF:ti Tryz.prog 89=some ⟨1,false,8,[.map none]⟩:=by kernel_rfl
theorem J4:BU Tryz.prog 89=some (9,3):=by kernel_rfl
theorem aa0:ti Tryz.prog 90=some ⟨1,false,8,[.map none]⟩:=by kernel_rfl
theorem Un:BU Tryz.prog 90=some (3,55):=by kernel_rfl
theorem WX:ti Tryz.prog 91=some ⟨1,false,24,[.slice none 0 0]⟩:=by kernel_rfl
theorem NE:FT Tryz.prog 91=some 192:=by kernel_rfl
theorem AX:ti Tryz.prog 93=some ⟨9,true,168,[.slice none 0 0, .map none, .map none, .slice none 0 0, .slice none 0 0, .map none, .slice none 0 0, .slice none 0 0, .slice none 0 0]⟩:=by kernel_rfl
theorem qU:jC Tryz.prog 93 0=some (0,27):=by kernel_rfl
theorem yI:jC Tryz.prog 93 1=some (1,88):=by kernel_rfl
theorem yN:jC Tryz.prog 93 2=some (2,89):=by kernel_rfl
theorem yE:jC Tryz.prog 93 3=some (3,55):=by kernel_rfl
theorem qR:jC Tryz.prog 93 4=some (4,55):=by kernel_rfl
theorem EQ:jC Tryz.prog 93 5=some (5,90):=by kernel_rfl
theorem Tz:jC Tryz.prog 93 6=some (6,91):=by kernel_rfl
theorem Ff:jC Tryz.prog 93 7=some (7,91):=by kernel_rfl
theorem MJ:jC Tryz.prog 93 8=some (8,91):=by kernel_rfl
theorem qW:mi Tryz.prog 93=true:=by kernel_rfl
theorem TB:ti Tryz.prog 114=some ⟨1,false,24,[.slice none 0 0]⟩:=by kernel_rfl
theorem Lm:FT Tryz.prog 114=some 4:=by kernel_rfl
theorem acR:ti Tryz.prog 145=some ⟨1,false,24,[.slice none 0 0]⟩:=by kernel_rfl
theorem acu:FT Tryz.prog 145=some 147:=by kernel_rfl
theorem NJ:ti Tryz.prog 147=some ⟨3,true,56,[.slice none 0 0, .bool false, .slice none 0 0]⟩:=by kernel_rfl
theorem Bz:jC Tryz.prog 147 0=some (0,76):=by kernel_rfl
theorem BN:jC Tryz.prog 147 1=some (2,77):=by kernel_rfl
theorem GR:mi Tryz.prog 147=true:=by kernel_rfl
theorem acO:ti Tryz.prog 152=some ⟨1,false,8,[.map none]⟩:=by kernel_rfl
theorem Q5:BU Tryz.prog 152=some (37,28):=by kernel_rfl
theorem JU:ti Tryz.prog 161=some ⟨5,true,72,[.bool false, .slice none 0 0, .bool false, .slice none 0 0, .bool false]⟩:=by kernel_rfl
theorem wX:jC Tryz.prog 161 1=some (1,76):=by kernel_rfl
theorem uw:jC Tryz.prog 161 2=some (3,76):=by kernel_rfl
theorem CW:mi Tryz.prog 161=true:=by kernel_rfl
theorem YA:ti Tryz.prog 167=some ⟨3,true,40,[.int .i64 0, .string ByteArray.empty, .string ByteArray.empty]⟩:=by kernel_rfl
theorem Gi:jC Tryz.prog 167 0=some (0,3):=by kernel_rfl
theorem NV:jC Tryz.prog 167 1=some (1,9):=by kernel_rfl
theorem Qa:jC Tryz.prog 167 2=some (2,9):=by kernel_rfl
theorem Rf:mi Tryz.prog 167=true:=by kernel_rfl
theorem GV:ti Tryz.prog 192=some ⟨1,false,8,[.map none]⟩:=by kernel_rfl
theorem KP:BU Tryz.prog 192=some (3,4):=by kernel_rfl
theorem acW:ti Tryz.prog 199=some ⟨1,false,8,[.int .u64 0]⟩:=by kernel_rfl
theorem abI:ti Tryz.prog 264=some ⟨1,false,24,[.slice none 0 0]⟩:=by kernel_rfl
theorem Xv:FT Tryz.prog 264=some 77:=by kernel_rfl
theorem abn:ti Tryz.prog 286=some ⟨1,false,24,[.slice none 0 0]⟩:=by kernel_rfl
theorem Zd:FT Tryz.prog 286=some 312:=by kernel_rfl
theorem X3:ti Tryz.prog 312=some ⟨2,true,32,[.slice none 0 0, .bool false]⟩:=by kernel_rfl
theorem H7:jC Tryz.prog 312 0=some (0,74):=by kernel_rfl
theorem H8:jC Tryz.prog 312 1=some (1,4):=by kernel_rfl
theorem Rl:mi Tryz.prog 312=true:=by kernel_rfl
end Go.Proofs.YtcpgicfphakdaaaGreatDoor.Tys
namespace Go.Proofs.YtcpgicfphakdaaaGreatDoor
open Go.Ab
structure Rev where
 path:ByteArray
 num:Int
 chg:Int
 act:Int
 base:Int
 kw:Bool
 ex:Bool
 xe:Bool
 sum:Int
 size:Int
 frm:ByteArray
 fnum:Int
 deriving DecidableEq
structure iD where
 frm:ByteArray
 first:Int
 last:Int
 to:ByteArray
 num:Int
 how:Int
 deriving DecidableEq
structure Nq where
 path:ByteArray
 act:Int
 base:Int
 kw:Bool
 ex:Bool
 xe:Bool
 sum:Int
 size:Int
 prev:Int
 frm:ByteArray
 fnum:Int
 fence:Int
 deriving DecidableEq
structure oD where
 num:Int
 client:ByteArray
 text:ByteArray
 edits:List Nq
 recs:List iD
 deriving DecidableEq
structure bf where
 path:ByteArray
 num:Int
 deriving DecidableEq
structure bJ where
 revs:List Rev
 recs:List iD
 deriving DecidableEq
@[reducible] def aI (r:Rev):List D:=[.v (.string r.path), .v (.int .i64 r.num), .v (.int .i64 r.chg), .v (.int .i64 r.act), .v (.int .i64 r.base), .v (.bool r.kw), .v (.bool r.ex), .v (.bool r.xe), .v (.int .u64 r.sum), .v (.int .i64 r.size), .v (.string r.frm), .v (.int .i64 r.fnum)]
@[reducible] def bi (r:iD):List D:=[.v (.string r.frm), .v (.int .i64 r.first), .v (.int .i64 r.last), .v (.string r.to), .v (.int .i64 r.num), .v (.int .i64 r.how)]
@[reducible] def fM (e:Nq):List D:=[.v (.string e.path), .v (.int .i64 e.act), .v (.int .i64 e.base), .v (.bool e.kw), .v (.bool e.ex), .v (.bool e.xe), .v (.int .u64 e.sum), .v (.int .i64 e.size), .v (.int .i64 e.prev), .v (.string e.frm), .v (.int .i64 e.fnum), .v (.int .i64 e.fence)]
@[reducible] def dW (f:bf):List D:=[.v (.string f.path), .v (.int .i64 f.num)]
@[reducible] def fJ (c:oD):List D:=[.v (.int .i64 c.num), .v (.string c.client), .v (.string c.text), .ps 12 (c.edits.map fM), .ps 6 (c.recs.map bi)]
@[reducible] def lL (d:bJ):List D:=[.ps 12 (d.revs.map aI), .ps 6 (d.recs.map bi)]
@[reducible] def LG (r:Rev):AV:= .agg ((aI r).map C.d)
@[reducible] def ab8 (r:iD):AV:= .agg ((bi r).map C.d)
@[reducible] def acN (r:Nq):AV:= .agg ((fM r).map C.d)
@[reducible] def D9 (r:bf):AV:= .agg ((dW r).map C.d)
@[reducible] def Vb (r:oD):AV:= .agg ((fJ r).map C.d)
@[reducible] def uY (r:bJ):AV:= .agg ((lL r).map C.d)
@[reducible] def wW (l:List Rev):AV:= .c (.d (.ps 12 (l.map aI)))
@[reducible] def JG (l:List bf):AV:= .c (.d (.ps 2 (l.map dW)))
@[reducible] def PQ (r:Rev):Bool×List C:=(true,(aI r).map C.d)
@[reducible] def pB (b:Bool):Bool×List C:=(false,[.d (.v (.bool b))])
@[reducible] def pI (n:Int):Bool×List C:=(false,[.d (.v (.int .i64 n))])
def af:Rev:=⟨ByteArray.empty,0,0,0,0,false,false,false,0,0,ByteArray.empty,0⟩
def xH:bf:=⟨ByteArray.empty,0⟩
def IP:bJ:=⟨[],[]⟩
def wr (n:Int):Int:=IntKind.i64.wrap n
def gone (v:Rev):Bool:=decide (v.act=3)||decide (v.act=5)
def fileOf (v:Rev):bf:=⟨v.path,v.num⟩
def made (c:oD) (x:Nq):Rev:=⟨x.path,wr (x.prev+1),c.num,x.act,x.base,x.kw,x.ex,x.xe,x.sum,x.size,x.frm,x.fnum⟩
def log (d:bJ) (p:ByteArray):List Rev:=d.revs.filter fun v=>decide (v.path=p)
def dD (d:bJ) (p:ByteArray):Option Rev:=(log d p).getLast?
def lF (d:bJ) (p:ByteArray) (n:Int):Option Rev:=(log d p).find? fun v=>decide (v.num=n)
def live (d:bJ) (p:ByteArray):Bool:=match dD d p with|some v=>!gone v|none=>false
def dh (d:bJ) (p:ByteArray):Int:=((dD d p).getD af).num
def jG (d:bJ) (v:Rev):Option Rev:=
 if v.act=1 then none else if v.act=4 then lF d v.frm v.fnum else lF d v.path (wr (v.num-1))
theorem dY (ρ:Nat→Nat) (ys:List (List D)):(ys.map fun l=>l.map C.d).map (fun l=>l.map (dX ρ))=ys.map fun l=>l.map C.d:=by
 rw[List.map_map];exact List.map_congr_left fun l _=>by simp[dX]
theorem ag (ys:List (List D)):(ys.map fun l=>l.map C.d).flatten=ys.flatten.map C.d:=by rw[List.map_flatten]
theorem jv (ρ:Nat→Nat) (sz:Nat) (ys:List (List D)):dK ρ (.arr sz (ys.map fun l=>l.map C.d))= .arr sz (ys.map fun l=>l.map C.d):=by
 simp only[dK,dY]
theorem iZ (dom:Nat→Bool) (sz:Nat) (ys:List (List D)):bD dom (.arr sz (ys.map fun l=>l.map C.d))=True:=by
 simp only[bD,ag,CQ]
@[reducible] def aK (sz:Nat) (ys:List (List D)):AO:= .arr sz (ys.map fun l=>l.map C.d)
theorem bg {α:Type} (e:α→List D) (l:List α) (k:Nat) (z:α) (h:k<l.length):(l.map e).getD k []=e (l.getD k z):=by simp[List.getD,h]
theorem YK {α:Type} (l:List α) (k:Nat) (z:α) (h:k<l.length):l.take (k+1)=l.take k++[l.getD k z]:=by
 rw[List.take_add_one,List.getElem?_eq_getElem h];simp[List.getD,h]
theorem qE {α:Type} (p:α→Bool) (l:List α) (k:Nat):((l.take k).filter p).length≤l.length:=
 Nat.le_trans (List.length_filter_le ..) (by simp;omega)
theorem round {α:Type} (e:α→List D) (l:List α) (k:Nat) (z:α) (h:k<l.length):∃v,l[k]? =some v∧(l.map e).getD k []=e v∧l.take (k+1)=l.take k++[v]:=
 ⟨l.getD k z,by simp[List.getD,h],bg e l k z h,YK l k z h⟩
def small (n:Nat):Prop:=n≤1000000
theorem di {x:X} {st0 st':List (Nat×AO)} (hx:∀id,x.d0 id→ae st0 id=true) (h:∀p∈st0,ae st' p.1=true):∀id,x.d0 id→ae st' id=true∧id=id:=by
 intro id hid
 refine⟨?_,rfl⟩
 have h0:=hx id hid
 unfold ae at h0
 cases hg:Ab.get st0 id with
 |none=>rw[hg] at h0;cases h0
 |some o=>exact h (id,o) (get_mem hg)
theorem OA (dom:Nat→Bool) (m:List D):aB dom (m.map C.d):=by rw[CQ];trivial
theorem Ug (dom:Nat→Bool) (es:List iV):bP dom ((es.map fC).map (·.1))=True:=by
 refine eq_true ?_
 induction es with
 |nil=>trivial
 |cons e es ih=>exact⟨OA _ _,ih⟩
theorem Uc (dom:Nat→Bool) (es:List iV):bP dom ((es.map fC).map (·.2))=True:=by
 refine eq_true ?_
 induction es with
 |nil=>trivial
 |cons e es ih=>exact⟨OA _ _,ih⟩
theorem aS {α:Type} (dom:Nat→Bool) (g:α→iV) (l:List α):bP dom (List.map ((fun x=>x.fst)∘fC∘g) l)=True:=by
 have:=Ug dom (l.map g)
 simpa using this
theorem aQ {α:Type} (dom:Nat→Bool) (g:α→iV) (l:List α):bP dom (List.map ((fun x=>x.snd)∘fC∘g) l)=True:=by
 have:=Uc dom (l.map g)
 simpa using this
theorem aU (dom:Nat→Bool) (l:List iV):bP dom (List.map ((fun x=>x.fst)∘fC) l)=True:=by
 have:=Ug dom l
 simpa using this
theorem aP (dom:Nat→Bool) (l:List iV):bP dom (List.map ((fun x=>x.snd)∘fC) l)=True:=by
 have:=Uc dom l
 simpa using this
theorem aT {α:Type} (dom:Nat→Bool) (e:α→List D) (l:List α):aB dom (List.map ((fun l=>List.map C.d l)∘e) l).flatten=True:=by
 refine eq_true ?_
 induction l with
 |nil=>trivial
 |cons a l ih=>
  simp only[List.map_cons,List.flatten_cons,Function.comp]
  rw[ah]
  exact⟨OA _ _,ih⟩
theorem keepR {x:X} {ρ:Nat→Nat} {st0 st':List (Nat×AO)} (hx:∀id,x.d0 id→ae st0 id=true) (h:∀p∈st0,ae st' p.1=true∧ρ p.1=p.1):∀id,x.d0 id→ae st' id=true∧ρ id=id:=by
 intro id hid
 have h0:=hx id hid
 unfold ae at h0
 cases hg:Ab.get st0 id with
 |none=>rw[hg] at h0;cases h0
 |some o=>exact h (id,o) (get_mem hg)
theorem eU (ρ:Nat→Nat) (e:iV):(Bi ρ (fC e).fst,Bi ρ (fC e).snd)=fC e:=by simp[fC,jV,Bi,dX]
theorem jy (ρ:Nat→Nat) (l:List iV):dK ρ (.map (l.map fC))= .map (l.map fC):=by
 simp only[dK,List.map_map]
 congr 1
 apply List.map_congr_left
 intro e _
 simp[fC,jV,Bi,dX]
def kO:=And.intro @All.eq_1<|And.intro @All.eq_2<|And.intro @List.cons_append.{0}<|And.intro @List.nil_append.{0}<|And.intro @dG.eq_def<|And.intro @and_true<|And.intro @true_and<|And.intro @List.length_map.{0,0}<|And.intro @List.length_cons.{0} @List.length_nil.{0}
def kE:=And.intro @List.mem_cons.{0}<|And.intro @Ug<|And.intro @Uc<|And.intro @List.not_mem_nil.{0}<|And.intro @or_false<|And.intro @forall_eq_or_imp.{1}<|And.intro @forall_eq.{1}<|And.intro @iZ<|And.intro @ag<|And.intro @bD.eq_def<|And.intro @aB.eq_1<|And.intro @aB.eq_2<|And.intro @cu.eq_def<|And.intro @bP.eq_1<|And.intro @bP.eq_2<|And.intro @CQ<|And.intro @ae.eq_def<|And.intro @Ab.get.eq_1<|And.intro @Ab.get.eq_2<|And.intro @true_and<|And.intro @and_true<|And.intro @Option.isSome.eq_def.{0}<|And.intro @List.map_cons.{0,0}<|And.intro @List.map_nil.{0,0}<|And.intro @List.flatten.eq_1.{0}<|And.intro @List.flatten.eq_2.{0} @List.append_nil.{0}
def kV:=And.intro @iH.eq_1<|And.intro @iH.eq_2<|And.intro @ev.eq_def<|And.intro @Ab.get.eq_1<|And.intro @Ab.get.eq_2<|And.intro @Value.oneCell'.eq_def<| @if_true.{1}
def kR:=And.intro @LY.eq_def<|And.intro @xB.eq_1<|And.intro @xB.eq_2<|And.intro @resV.eq_def<|And.intro @toP.eq_def<|And.intro @NL.eq_def<|And.intro @Option.map_some.{0,0}<|And.intro @Option.bind_some.{0,0}<|And.intro @Ab.get.eq_1<|And.intro @Ab.get.eq_2<|And.intro @List.append_nil.{0} @List.nil_append.{0}
def kP:=And.intro @fO.eq_def<|And.intro @aF.eq_1<|And.intro @aF.eq_2<|And.intro @Ab.put.eq_1 @Ab.put.eq_2
def kD:=And.intro @ML.eq_1<|And.intro @ML.eq_2<|And.intro @jT.eq_def<|And.intro @jT.evsAll.eq_1<|And.intro @jT.evsAll.eq_2<|And.intro @SN.eq_def<|And.intro @iH.eq_1 @iH.eq_2
def kB:=And.intro @Ab.OX.eq_def<|And.intro @Ab.run.eq_1<|And.intro @Ab.run.eq_2<|And.intro @Ab.run.eq_3<|And.intro @pJ.eq_def<|And.intro @step1.eq_def<|And.intro @ev.eq_def<|And.intro @eff.eq_def<|And.intro @NL.eq_def<|And.intro @Ab.get.eq_1<|And.intro @Ab.get.eq_2<|And.intro @Ab.put.eq_1<|And.intro @Ab.put.eq_2<|And.intro @fO.eq_def<|And.intro @aF.eq_1<|And.intro @aF.eq_2<|And.intro @Option.bind_some.{0,0}<|And.intro @Option.map_some.{0,0}<|And.intro @Option.getD_some.{0}<|And.intro @Option.getD_none.{0}<|And.intro @Value.oneCell'.eq_def<|And.intro @Int.toNat_natCast<|And.intro @Nat.zero_add<|And.intro @Nat.add_zero<|And.intro @decide_true<|And.intro @decide_false<|And.intro @Bool.false_eq_true<|And.intro @List.append.eq_1.{0}<|And.intro @List.append.eq_2.{0}<|And.intro @List.cons_append.{0}<|And.intro @List.nil_append.{0}<|And.intro @List.append_nil.{0}<|And.intro @Hy.eq_def<|And.intro @cellsOf.eq_def<|And.intro @List.map.eq_1.{0,0}<|And.intro @List.map.eq_2.{0,0}<|And.intro @List.length_cons.{0}<|And.intro @List.length_nil.{0}<|And.intro @List.getD_cons_zero.{0}<|And.intro @List.getD_cons_succ.{0}<|And.intro @List.getD_nil.{0}<|And.intro @List.drop.eq_1.{0}<|And.intro @List.drop.eq_2.{0}<|And.intro @List.drop.eq_3.{0}<|And.intro @List.take.eq_1.{0}<|And.intro @List.take.eq_2.{0}<|And.intro @List.take.eq_3.{0}<|And.intro @splice.eq_def<|And.intro @wJ.eq_def<|And.intro @qf.eq_def<|And.intro @qy.eq_def<|And.intro @List.set.eq_1.{0}<|And.intro @List.set.eq_2.{0}<|And.intro @List.set.eq_3.{0}<|And.intro @AZ.eq_def<|And.intro @Et.eq_def<|And.intro @pY.eq_def<|And.intro @Aw.eq_def<|And.intro @acJ.eq_def<|And.intro @QW.eq_def<|And.intro @Lp.eq_def<|And.intro @ET.eq_def<|And.intro @yg.eq_def<|And.intro @Bool.true_and<|And.intro @Bool.and_true<|And.intro @Bool.false_and<|And.intro @Bool.and_false<|And.intro @SI.eq_def<|And.intro @Dy.eq_1<|And.intro @Dy.eq_2<|And.intro @Dy.eq_3<|And.intro @Dy.eq_4<|And.intro @Dy.eq_5<|And.intro @uX.eq_def<|And.intro @nY.eq_def<|And.intro @Nh.eq_def<|And.intro @Bool.not_true<|And.intro @Bool.not_false<|And.intro @Le.eq_def<|And.intro @uA.eq_def<|And.intro @List.getElem?_cons_zero.{0}<|And.intro @List.getElem?_cons_succ.{0}<|And.intro @List.getElem?_nil.{0}<|And.intro @zI.eq_def<| @List.length_map.{0,0}
def kS:=And.intro @AP.eq_def<|And.intro @Jy.eq_1<|And.intro @Jy.eq_2<|And.intro @ou.eq_1<|And.intro @ou.eq_2<|And.intro @cellsOf.eq_def<|And.intro @List.map.eq_1.{0,0}<|And.intro @List.map.eq_2.{0,0}<|And.intro @List.length_cons.{0}<|And.intro @List.length_nil.{0}<|And.intro @List.getD_cons_zero.{0}<|And.intro @List.getD_cons_succ.{0}<|And.intro @List.getD_nil.{0}<|And.intro @List.drop.eq_1.{0}<|And.intro @List.drop.eq_2.{0}<|And.intro @List.drop.eq_3.{0}<|And.intro @List.take.eq_1.{0}<|And.intro @List.take.eq_2.{0}<|And.intro @List.take.eq_3.{0}<|And.intro @splice.eq_def<|And.intro @kQ.eq_def<|And.intro @CY.eq_1<|And.intro @CY.eq_2<|And.intro @List.replicate.eq_1.{0}<|And.intro @List.replicate.eq_2.{0}<|And.intro @List.set.eq_1.{0}<|And.intro @List.set.eq_2.{0}<|And.intro @List.set.eq_3.{0}<|And.intro @mQ.eq_def<|And.intro @nS.eq_def<|And.intro @elemsOf.eq_def<|And.intro @List.length_map.{0,0}<|And.intro @tZ.eq_def<| @yG.eq_def
def kM:=And.intro @nU.eq_def<|And.intro @QN.eq_def<|And.intro @ofP.eq_def<|And.intro @zL.eq_def<|And.intro @List.length_map.{0,0}<|And.intro @cellsOf.eq_def<|And.intro @List.map.eq_1.{0,0}<|And.intro @List.map.eq_2.{0,0}<|And.intro @List.length_cons.{0}<|And.intro @List.length_nil.{0}<|And.intro @List.getD_cons_zero.{0}<|And.intro @List.getD_cons_succ.{0}<|And.intro @List.getD_nil.{0}<|And.intro @List.drop.eq_1.{0}<|And.intro @List.drop.eq_2.{0}<|And.intro @List.drop.eq_3.{0}<|And.intro @List.take.eq_1.{0}<|And.intro @List.take.eq_2.{0}<|And.intro @List.take.eq_3.{0}<|And.intro @splice.eq_def<|And.intro @gV.eq_def<|And.intro @lG.eq_def<|And.intro @yL.eq_def<|And.intro @xJ.eq_def<| @qO.eq_def
def kG:=And.intro @Dt.eq_def<|And.intro @strip.eq_1<|And.intro @strip.eq_2<|And.intro @dN.eq_1<|And.intro @dN.eq_2<|And.intro @Bool.true_and<|And.intro @Bool.and_true<|And.intro @Bool.false_and<|And.intro @Bool.and_false<|And.intro @Bool.true_or<|And.intro @Bool.or_true<|And.intro @Bool.or_false<|And.intro @Bool.false_or<|And.intro @Bool.not_true<|And.intro @Bool.not_false<|And.intro @evs.eq_def<|And.intro @En.eq_def<|And.intro @qJ.eq_1<|And.intro @qJ.eq_2<|And.intro @Op.operands.eq_def<|And.intro @Call.operands.eq_def<|And.intro @Array.toList_append.{0}<|And.intro @List.toList_toArray.{0}<|And.intro @List.map.eq_1.{0,0}<|And.intro @List.map.eq_2.{0,0}<|And.intro @List.getElem?_cons_zero.{0}<|And.intro @List.getElem?_cons_succ.{0}<| @List.getElem?_nil.{0}
def kFn:=And.intro @su.eq_1<|And.intro @su.eq_2<|And.intro @Zg.eq_def<|And.intro @Rw.eq_def<| @Cap.toC.eq_def
abbrev na:= @abu
abbrev nb:= @abh
abbrev nc:= @Xq
abbrev nd:= @acp
abbrev ne:= @acl
abbrev nf:= @ac2
abbrev ng:= @wI
abbrev nh:= @WA
abbrev ni:= @Xz
abbrev nj:= @Yx
abbrev nk:= @RV
abbrev nl:= @aak
abbrev nm:= @Vz
abbrev nn:= @CZ
end Go.Proofs.YtcpgicfphakdaaaGreatDoor
