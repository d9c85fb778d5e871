/- A part of the proof. -/
import Derived.Test.YtpoodoknkbojgaaGreatDoorProg
import Derived.Test.YtpoodoknkbojgaaGreatDoorRAbCk
import Derived.KernelRfl
set_option linter.all false
namespace Go.Proofs.YtpoodoknkbojgaaGreatDoor.Tys
open Go.Ab Go.Proofs
theorem Z4:ti Tryz.prog 1=some ⟨1,false,8,[.nilFunc]⟩:=by kernel_rfl
theorem Z8:ti Tryz.prog 2=some ⟨1,false,8,[.int .i64 0]⟩:=by kernel_rfl
theorem pg:ti Tryz.prog 3=some ⟨1,false,8,[.int .i64 0]⟩:=by kernel_rfl
theorem WL:wR Tryz.prog 3=some (false,[.int .i64]):=by kernel_rfl
theorem vO:ti Tryz.prog 4=some ⟨1,false,1,[.bool false]⟩:=by kernel_rfl
theorem Jp:ti Tryz.prog 5=some ⟨1,false,1,[.int .u8 0]⟩:=by kernel_rfl
theorem sQ:ti Tryz.prog 9=some ⟨1,false,16,[.string ByteArray.empty]⟩:=by kernel_rfl
theorem Zu:wR Tryz.prog 9=some (false,[.str]):=by kernel_rfl
theorem JK:ti Tryz.prog 22=some ⟨1,false,24,[.slice none 0 0]⟩:=by kernel_rfl
theorem Hw:xg Tryz.prog 22=some 59:=by kernel_rfl
theorem Fq:ti Tryz.prog 24=some ⟨3,true,56,[.string ByteArray.empty, .string ByteArray.empty, .slice none 0 0]⟩:=by kernel_rfl
theorem ww:ji Tryz.prog 24 0=some (0,9):=by kernel_rfl
theorem uT:ji Tryz.prog 24 1=some (1,9):=by kernel_rfl
theorem uY:ji Tryz.prog 24 2=some (2,22):=by kernel_rfl
theorem uJ:kC Tryz.prog 24=true:=by kernel_rfl
theorem G5:ti Tryz.prog 25=some ⟨1,false,24,[.slice none 0 0]⟩:=by kernel_rfl
theorem Js:xg Tryz.prog 25=some 57:=by kernel_rfl
theorem FX:ti Tryz.prog 26=some ⟨1,false,24,[.slice none 0 0]⟩:=by kernel_rfl
theorem Ir:xg Tryz.prog 26=some 49:=by kernel_rfl
theorem FP:ti Tryz.prog 27=some ⟨1,false,24,[.slice none 0 0]⟩:=by kernel_rfl
theorem Ia:xg Tryz.prog 27=some 51:=by kernel_rfl
theorem BI:ti Tryz.prog 29=some ⟨14,true,224,[.int .i64 0, .string ByteArray.empty, .string ByteArray.empty, .string ByteArray.empty, .int .i64 0, .int .i64 0, .int .i64 0, .string ByteArray.empty, .string ByteArray.empty, .string ByteArray.empty, .slice none 0 0, .slice none 0 0, .slice none 0 0, .slice none 0 0]⟩:=by kernel_rfl
theorem wz:ji Tryz.prog 29 0=some (0,3):=by kernel_rfl
theorem rX:ji Tryz.prog 29 1=some (1,9):=by kernel_rfl
theorem nZ:ji Tryz.prog 29 2=some (2,9):=by kernel_rfl
theorem qQ:ji Tryz.prog 29 3=some (3,9):=by kernel_rfl
theorem zK:ji Tryz.prog 29 4=some (4,3):=by kernel_rfl
theorem zS:ji Tryz.prog 29 5=some (5,3):=by kernel_rfl
theorem zY:ji Tryz.prog 29 6=some (6,3):=by kernel_rfl
theorem qU:ji Tryz.prog 29 7=some (7,9):=by kernel_rfl
theorem rW:ji Tryz.prog 29 8=some (8,24):=by kernel_rfl
theorem qV:ji Tryz.prog 29 9=some (11,25):=by kernel_rfl
theorem nD:ji Tryz.prog 29 10=some (12,26):=by kernel_rfl
theorem nK:ji Tryz.prog 29 11=some (13,27):=by kernel_rfl
theorem qI:kC Tryz.prog 29=true:=by kernel_rfl
theorem TU:ti Tryz.prog 31=some ⟨1,false,24,[.slice none 0 0]⟩:=by kernel_rfl
theorem Nl:xg Tryz.prog 31=some 29:=by kernel_rfl
theorem oh:ti Tryz.prog 33=some ⟨1,false,24,[.slice none 0 0]⟩:=by kernel_rfl
theorem jJ:xg Tryz.prog 33=some 5:=by kernel_rfl
theorem Vy:ti Tryz.prog 44=some ⟨4,true,16,[.int .i64 0, .bool false, .bool false, .bool false]⟩:=by kernel_rfl
theorem Ns:ji Tryz.prog 44 0=some (0,3):=by kernel_rfl
theorem LW:ji Tryz.prog 44 1=some (1,4):=by kernel_rfl
theorem L6:ji Tryz.prog 44 2=some (2,4):=by kernel_rfl
theorem NR:ji Tryz.prog 44 3=some (3,4):=by kernel_rfl
theorem Oq:kC Tryz.prog 44=true:=by kernel_rfl
theorem RS:ti Tryz.prog 45=some ⟨1,false,8,[.int .u64 0]⟩:=by kernel_rfl
theorem Yl:ti Tryz.prog 47=some ⟨2,true,16,[.int .u64 0, .int .i64 0]⟩:=by kernel_rfl
theorem N9:ji Tryz.prog 47 0=some (0,45):=by kernel_rfl
theorem Oj:ji Tryz.prog 47 1=some (1,3):=by kernel_rfl
theorem V3:kC Tryz.prog 47=true:=by kernel_rfl
theorem Ll:ti Tryz.prog 49=some ⟨12,true,96,[.string ByteArray.empty, .int .i64 0, .int .i64 0, .bool false, .bool false, .bool false, .int .u64 0, .int .i64 0, .int .i64 0, .string ByteArray.empty, .int .i64 0, .int .i64 0]⟩:=by kernel_rfl
theorem zV:ji Tryz.prog 49 0=some (0,9):=by kernel_rfl
theorem Nj:ji Tryz.prog 49 1=some (1,3):=by kernel_rfl
theorem NS:ji Tryz.prog 49 2=some (2,44):=by kernel_rfl
theorem Nq:ji Tryz.prog 49 3=some (6,47):=by kernel_rfl
theorem Na:ji Tryz.prog 49 4=some (8,3):=by kernel_rfl
theorem zL:ji Tryz.prog 49 5=some (9,9):=by kernel_rfl
theorem NW:ji Tryz.prog 49 6=some (10,3):=by kernel_rfl
theorem LV:ji Tryz.prog 49 7=some (11,3):=by kernel_rfl
theorem Bq:kC Tryz.prog 49=true:=by kernel_rfl
theorem XX:Xr Tryz.prog 49=some [.str, .int .i64, .int .i64, .bool, .bool, .bool, .int .u64, .int .i64, .int .i64, .str, .int .i64, .int .i64]:=by kernel_rfl
theorem KR:ti Tryz.prog 51=some ⟨6,true,64,[.string ByteArray.empty, .int .i64 0, .int .i64 0, .string ByteArray.empty, .int .i64 0, .int .i64 0]⟩:=by kernel_rfl
theorem zH:ji Tryz.prog 51 0=some (0,9):=by kernel_rfl
theorem ML:ji Tryz.prog 51 1=some (1,3):=by kernel_rfl
theorem Np:ji Tryz.prog 51 2=some (2,3):=by kernel_rfl
theorem zM:ji Tryz.prog 51 3=some (3,9):=by kernel_rfl
theorem NE:ji Tryz.prog 51 4=some (4,3):=by kernel_rfl
theorem Ol:ji Tryz.prog 51 5=some (5,3):=by kernel_rfl
theorem BL:kC Tryz.prog 51=true:=by kernel_rfl
theorem XI:Xr Tryz.prog 51=some [.str, .int .i64, .int .i64, .str, .int .i64, .int .i64]:=by kernel_rfl
theorem X4:ti Tryz.prog 52=some ⟨1,false,24,[.slice none 0 0]⟩:=by kernel_rfl
theorem VM:xg Tryz.prog 52=some 55:=by kernel_rfl
theorem CO:ti Tryz.prog 53=some ⟨1,false,24,[.slice none 0 0]⟩:=by kernel_rfl
theorem uA:xg Tryz.prog 53=some 9:=by kernel_rfl
theorem lS:ti Tryz.prog 55=some ⟨2,true,32,[.slice none 0 0, .bool false]⟩:=by kernel_rfl
theorem jF:ji Tryz.prog 55 0=some (0,53):=by kernel_rfl
theorem oJ:ji Tryz.prog 55 1=some (1,4):=by kernel_rfl
theorem iF:kC Tryz.prog 55=true:=by kernel_rfl
theorem KG:ti Tryz.prog 57=some ⟨5,true,72,[.bool false, .slice none 0 0, .bool false, .slice none 0 0, .bool false]⟩:=by kernel_rfl
theorem FD:ji Tryz.prog 57 0=some (0,4):=by kernel_rfl
theorem wu:ji Tryz.prog 57 1=some (1,55):=by kernel_rfl
theorem uX:ji Tryz.prog 57 2=some (3,55):=by kernel_rfl
theorem Ae:kC Tryz.prog 57=true:=by kernel_rfl
theorem KP:ti Tryz.prog 59=some ⟨5,true,72,[.int .i64 0, .slice none 0 0, .bool false, .slice none 0 0, .bool false]⟩:=by kernel_rfl
theorem Fp:ji Tryz.prog 59 0=some (0,3):=by kernel_rfl
theorem vJ:ji Tryz.prog 59 1=some (1,55):=by kernel_rfl
theorem uU:ji Tryz.prog 59 2=some (3,55):=by kernel_rfl
theorem BK:kC Tryz.prog 59=true:=by kernel_rfl
theorem Y8:ti Tryz.prog 74=some ⟨1,false,24,[.slice none 0 0]⟩:=by kernel_rfl
theorem XH:xg Tryz.prog 74=some 161:=by kernel_rfl
theorem Xe:ti Tryz.prog 78=some ⟨1,false,24,[.slice none 0 0]⟩:=by kernel_rfl
theorem Rf:xg Tryz.prog 78=some 3:=by kernel_rfl
theorem Zo:ti Tryz.prog 79=some ⟨1,false,8,[.nilFunc]⟩:=by kernel_rfl
theorem Wy:ti Tryz.prog 81=some ⟨2,true,32,[.slice none 0 0, .nilFunc]⟩:=by kernel_rfl
theorem Gz:ji Tryz.prog 81 0=some (0,78):=by kernel_rfl
theorem UL:ji Tryz.prog 81 1=some (1,79):=by kernel_rfl
theorem Rq:kC Tryz.prog 81=true:=by kernel_rfl
theorem WR:ti Tryz.prog 83=some ⟨1,false,8,[.map none]⟩:=by kernel_rfl
theorem Tj:BF Tryz.prog 83=some (3,81):=by kernel_rfl
theorem DL:ti Tryz.prog 87=some ⟨2,true,32,[.slice none 0 0, .bool false]⟩:=by kernel_rfl
theorem wG:ji Tryz.prog 87 0=some (0,33):=by kernel_rfl
theorem oZ:ji Tryz.prog 87 1=some (1,4):=by kernel_rfl
theorem rZ:kC Tryz.prog 87=true:=by kernel_rfl
theorem tC:ti Tryz.prog 95=some ⟨3,true,40,[.slice none 0 0, .int .i64 0, .bool false]⟩:=by kernel_rfl
theorem rF:ji Tryz.prog 95 0=some (0,33):=by kernel_rfl
theorem kL:ji Tryz.prog 95 1=some (1,3):=by kernel_rfl
theorem jG:ji Tryz.prog 95 2=some (2,4):=by kernel_rfl
theorem lK:kC Tryz.prog 95=true:=by kernel_rfl
theorem XW:ti Tryz.prog 134=some ⟨1,false,8,[.map none]⟩:=by kernel_rfl
theorem Ws:BF Tryz.prog 134=some (9,161):=by kernel_rfl
theorem VZ:ti Tryz.prog 161=some ⟨5,true,56,[.string ByteArray.empty, .string ByteArray.empty, .int .i64 0, .int .i64 0, .int .i64 0]⟩:=by kernel_rfl
theorem Qk:kC Tryz.prog 161=true:=by kernel_rfl
end Go.Proofs.YtpoodoknkbojgaaGreatDoor.Tys
namespace Go.Proofs.YtpoodoknkbojgaaGreatDoor
open Go.Ab
structure Rev where
 path:abW
 num:Int
 chg:Int
 act:Int
 base:Int
 kw:Bool
 ex:Bool
 xe:Bool
 sum:Int
 size:Int
 frm:abW
 fnum:Int
 deriving DecidableEq
structure iI where
 frm:abW
 first:Int
 last:Int
 to:abW
 num:Int
 how:Int
 deriving DecidableEq
structure mV where
 path:abW
 act:Int
 base:Int
 kw:Bool
 ex:Bool
 xe:Bool
 sum:Int
 size:Int
 prev:Int
 frm:abW
 fnum:Int
 fence:Int
 deriving DecidableEq
structure xY where
 num:Int
 client:abW
 text:abW
 edits:List mV
 recs:List iI
 deriving DecidableEq
structure Dw where
 path:abW
 num:Int
 deriving DecidableEq
structure gI where
 revs:List Rev
 recs:List iI
 deriving DecidableEq
@[reducible] def dM (r:iI):List D:=[.v (.string r.frm), .v (.int .i64 r.first), .v (.int .i64 r.last), .v (.string r.to), .v (.int .i64 r.num), .v (.int .i64 r.how)]
@[reducible] def eu (e:mV):List D:=[.v (.string e.path), .v (.int .i64 e.act), .v (.int .i64 e.base), .v (.bool e.kw), .v (.bool e.ex), .v (.bool e.xe), .v (.int .u64 e.sum), .v (.int .i64 e.size), .v (.int .i64 e.prev), .v (.string e.frm), .v (.int .i64 e.fnum), .v (.int .i64 e.fence)]
@[reducible] def X5 (r:iI):AV:= .agg ((dM r).map C.d)
@[reducible] def Yj (r:mV):AV:= .agg ((eu r).map C.d)
@[reducible] def pB (b:Bool):Bool×List C:=(false,[.d (.v (.bool b))])
@[reducible] def pI (n:Int):Bool×List C:=(false,[.d (.v (.int .i64 n))])
def Ox:Rev:=⟨ByteArray.empty,0,0,0,0,false,false,false,0,0,ByteArray.empty,0⟩
def Vd:Dw:=⟨ByteArray.empty,0⟩
def Tz:gI:=⟨[],[]⟩
def wr (n:Int):Int:=IntKind.i64.wrap n
def gone (v:Rev):Bool:=decide (v.act=3)||decide (v.act=5)
def fileOf (v:Rev):Dw:=⟨v.path,v.num⟩
def made (c:xY) (x:mV):Rev:=⟨x.path,wr (x.prev+1),c.num,x.act,x.base,x.kw,x.ex,x.xe,x.sum,x.size,x.frm,x.fnum⟩
def log (d:gI) (p:abW):List Rev:=d.revs.filter fun v=>decide (v.path=p)
def yB (d:gI) (p:abW):Option Rev:=(log d p).getLast?
def zi (d:gI) (p:abW) (n:Int):Option Rev:=(log d p).find? fun v=>decide (v.num=n)
def live (d:gI) (p:abW):Bool:=match yB d p with|some v=>!gone v|none=>false
def dU (d:gI) (p:abW):Int:=((yB d p).getD Ox).num
def yj (d:gI) (v:Rev):Option Rev:=
 if v.act=1 then none else if v.act=4 then zi d v.frm v.fnum else zi d v.path (wr (v.num-1))
theorem dD (ρ:Nat→Nat) (ys:List (List D)):(ys.map fun l=>l.map C.d).map (fun l=>l.map (bP ρ))=ys.map fun l=>l.map C.d:=by
 rw[abl];exact abn fun l _=>by simp[bP]
theorem ag (ys:List (List D)):(ys.map fun l=>l.map C.d).flatten=ys.flatten.map C.d:=by rw[List.map_flatten]
theorem iQ (ρ:Nat→Nat) (sz:Nat) (ys:List (List D)):aX ρ (.arr sz (ys.map fun l=>l.map C.d))= .arr sz (ys.map fun l=>l.map C.d):=by
 simp only[aX,dD]
theorem fJ (dom:Nat→Bool) (sz:Nat) (ys:List (List D)):aN dom (.arr sz (ys.map fun l=>l.map C.d))=True:=by
 simp only[aN,ag,FZ]
@[reducible] def aC (sz:Nat) (ys:List (List D)):AO:= .arr sz (ys.map fun l=>l.map C.d)
theorem Tf {α:Type} (e:α→List D) (l:List α) (k:Nat) (z:α) (h:k<l.length):(l.map e).getD k []=e (l.getD k z):=by simp[List.getD,h]
theorem Q9 {α:Type} (l:List α) (k:Nat) (z:α) (h:k<l.length):l.take (k+1)=l.take k++[l.getD k z]:=by
 rw[abM,aab h];simp[List.getD,h]
theorem round {α:Type} (e:α→List D) (l:List α) (k:Nat) (z:α) (h:k<l.length):∃v,l[k]? =some v∧(l.map e).getD k []=e v∧l.take (k+1)=l.take k++[v]:=
 ⟨l.getD k z,by simp[List.getD,h],Tf e l k z h,Q9 l k z h⟩
def small (n:Nat):Prop:=n≤1000000
theorem dK {x:X} {st0 st':List (Nat×AO)} (hx:∀id,x.d0 id→ae st0 id=true) (h:∀p∈st0,ae st' p.1=true):∀id,x.d0 id→ae st' id=true∧id=id:=by
 intro id hid
 refine⟨?_,rfl⟩
 have h0:=hx id hid
 unfold ae at h0
 cases hg:Ab.get st0 id with
 |none=>rw[hg] at h0;cases h0
 |some o=>exact h (id,o) (get_mem hg)
theorem Qw (dom:Nat→Bool) (m:List D):ax dom (m.map C.d):=by rw[FZ];trivial
theorem Qm (dom:Nat→Bool) (es:List pG):bC dom ((es.map D7).map (·.1))=True:=by
 refine eq_true ?_
 induction es with
 |nil=>trivial
 |cons e es ih=>exact⟨Qw _ _,ih⟩
theorem SI (dom:Nat→Bool) (es:List pG):bC dom ((es.map D7).map (·.2))=True:=by
 refine eq_true ?_
 induction es with
 |nil=>trivial
 |cons e es ih=>exact⟨Qw _ _,ih⟩
theorem aF {α:Type} (dom:Nat→Bool) (g:α→pG) (l:List α):bC dom (List.map ((fun x=>x.fst)∘D7∘g) l)=True:=by
 have:=Qm dom (l.map g)
 simpa using this
theorem aI {α:Type} (dom:Nat→Bool) (g:α→pG) (l:List α):bC dom (List.map ((fun x=>x.snd)∘D7∘g) l)=True:=by
 have:=SI dom (l.map g)
 simpa using this
theorem aG (dom:Nat→Bool) (l:List pG):bC dom (List.map ((fun x=>x.fst)∘D7) l)=True:=by
 have:=Qm dom l
 simpa using this
theorem aJ (dom:Nat→Bool) (l:List pG):bC dom (List.map ((fun x=>x.snd)∘D7) l)=True:=by
 have:=SI dom l
 simpa using this
theorem aH {α:Type} (dom:Nat→Bool) (e:α→List D) (l:List α):ax dom (List.map ((fun l=>List.map C.d l)∘e) l).flatten=True:=by
 refine eq_true ?_
 induction l with
 |nil=>trivial
 |cons a l ih=>
  simp only[aax,List.flatten_cons,Function.comp]
  rw[au]
  exact⟨Qw _ _,ih⟩
theorem keepR {x:X} {ρ:Nat→Nat} {st0 st':List (Nat×AO)} (hx:∀id,x.d0 id→ae st0 id=true) (h:∀p∈st0,ae st' p.1=true∧ρ p.1=p.1):∀id,x.d0 id→ae st' id=true∧ρ id=id:=by
 intro id hid
 have h0:=hx id hid
 unfold ae at h0
 cases hg:Ab.get st0 id with
 |none=>rw[hg] at h0;cases h0
 |some o=>exact h (id,o) (get_mem hg)
theorem eP (ρ:Nat→Nat) (e:pG):(wo ρ (D7 e).fst,wo ρ (D7 e).snd)=D7 e:=by simp[D7,L9,wo,bP]
theorem iO (ρ:Nat→Nat) (l:List pG):aX ρ (.map (l.map D7))= .map (l.map D7):=by
 simp only[aX,abl]
 congr 1
 apply abn
 intro e _
 simp[D7,L9,wo,bP]
def kO:=And.intro @All.eq_1<|And.intro @All.eq_2<|And.intro @List.cons_append.{0}<|And.intro @List.nil_append.{0}<|And.intro @aV.eq_def<|And.intro @aao<|And.intro @aaS<|And.intro @List.length_map.{0,0}<|And.intro @List.length_cons.{0} @List.length_nil.{0}
def kE:=And.intro @List.mem_cons.{0}<|And.intro @Qm<|And.intro @SI<|And.intro @List.not_mem_nil.{0}<|And.intro @aaw<|And.intro @forall_eq_or_imp.{1}<|And.intro @forall_eq.{1}<|And.intro @fJ<|And.intro @ag<|And.intro @aN.eq_def<|And.intro @ax.eq_1<|And.intro @ax.eq_2<|And.intro @bi.eq_def<|And.intro @bC.eq_1<|And.intro @bC.eq_2<|And.intro @FZ<|And.intro @ae.eq_def<|And.intro @Ab.get.eq_1<|And.intro @Ab.get.eq_2<|And.intro @aaS<|And.intro @aao<|And.intro @Option.isSome.eq_def.{0}<|And.intro @List.map_cons.{0,0}<|And.intro @List.map_nil.{0,0}<|And.intro @List.flatten.eq_1.{0}<|And.intro @List.flatten.eq_2.{0} @List.append_nil.{0}
def kV:=And.intro @gz.eq_1<|And.intro @gz.eq_2<|And.intro @ev.eq_def<|And.intro @Ab.get.eq_1<|And.intro @Ab.get.eq_2<|And.intro @Value.oneCell'.eq_def<| @if_true.{1}
def kR:=And.intro @zx.eq_def<|And.intro @mJ.eq_1<|And.intro @mJ.eq_2<|And.intro @resV.eq_def<|And.intro @toP.eq_def<|And.intro @CJ.eq_def<|And.intro @Option.map_some.{0,0}<|And.intro @Option.bind_some.{0,0}<|And.intro @Ab.get.eq_1<|And.intro @Ab.get.eq_2<|And.intro @List.append_nil.{0} @List.nil_append.{0}
def kP:=And.intro @dB.eq_def<|And.intro @ah.eq_1<|And.intro @ah.eq_2<|And.intro @Ab.put.eq_1 @Ab.put.eq_2
def kD:=And.intro @GY.eq_1<|And.intro @GY.eq_2<|And.intro @iy.eq_def<|And.intro @iy.evsAll.eq_1<|And.intro @iy.evsAll.eq_2<|And.intro @NZ.eq_def<|And.intro @gz.eq_1 @gz.eq_2
def kB:=And.intro @Ab.OJ.eq_def<|And.intro @Ab.run.eq_1<|And.intro @Ab.run.eq_2<|And.intro @Ab.run.eq_3<|And.intro @jP.eq_def<|And.intro @step1.eq_def<|And.intro @ev.eq_def<|And.intro @eff.eq_def<|And.intro @CJ.eq_def<|And.intro @Ab.get.eq_1<|And.intro @Ab.get.eq_2<|And.intro @Ab.put.eq_1<|And.intro @Ab.put.eq_2<|And.intro @dB.eq_def<|And.intro @ah.eq_1<|And.intro @ah.eq_2<|And.intro @Option.bind_some.{0,0}<|And.intro @Option.map_some.{0,0}<|And.intro @Option.getD_some.{0}<|And.intro @Option.getD_none.{0}<|And.intro @Value.oneCell'.eq_def<|And.intro @Int.toNat_natCast<|And.intro @abt<|And.intro @Nat.add_zero<|And.intro @decide_true<|And.intro @abP<|And.intro @aak<|And.intro @List.append.eq_1.{0}<|And.intro @List.append.eq_2.{0}<|And.intro @List.cons_append.{0}<|And.intro @List.nil_append.{0}<|And.intro @List.append_nil.{0}<|And.intro @wZ.eq_def<|And.intro @cellsOf.eq_def<|And.intro @List.map.eq_1.{0,0}<|And.intro @List.map.eq_2.{0,0}<|And.intro @List.length_cons.{0}<|And.intro @List.length_nil.{0}<|And.intro @List.getD_cons_zero.{0}<|And.intro @List.getD_cons_succ.{0}<|And.intro @List.getD_nil.{0}<|And.intro @List.drop.eq_1.{0}<|And.intro @List.drop.eq_2.{0}<|And.intro @List.drop.eq_3.{0}<|And.intro @List.take.eq_1.{0}<|And.intro @List.take.eq_2.{0}<|And.intro @List.take.eq_3.{0}<|And.intro @splice.eq_def<|And.intro @nC.eq_def<|And.intro @iM.eq_def<|And.intro @je.eq_def<|And.intro @List.set.eq_1.{0}<|And.intro @List.set.eq_2.{0}<|And.intro @List.set.eq_3.{0}<|And.intro @qc.eq_def<|And.intro @rH.eq_def<|And.intro @ig.eq_def<|And.intro @nN.eq_def<|And.intro @Xj.eq_def<|And.intro @CU.eq_def<|And.intro @xm.eq_def<|And.intro @qP.eq_def<|And.intro @nT.eq_def<|And.intro @abg<|And.intro @Bool.and_true<|And.intro @abR<|And.intro @Bool.and_false<|And.intro @Fe.eq_def<|And.intro @Fj.eq_1<|And.intro @Fj.eq_2<|And.intro @Fj.eq_3<|And.intro @Fj.eq_4<|And.intro @Fj.eq_5<|And.intro @jv.eq_def<|And.intro @gY.eq_def<|And.intro @Dq.eq_def<|And.intro @Bool.not_true<|And.intro @abC<|And.intro @Am.eq_def<|And.intro @lC.eq_def<|And.intro @List.getElem?_cons_zero.{0}<|And.intro @List.getElem?_cons_succ.{0}<|And.intro @List.getElem?_nil.{0}<|And.intro @qH.eq_def<| @List.length_map.{0,0}
def kS:=And.intro @nM.eq_def<|And.intro @yU.eq_1<|And.intro @yU.eq_2<|And.intro @iP.eq_1<|And.intro @iP.eq_2<|And.intro @cellsOf.eq_def<|And.intro @List.map.eq_1.{0,0}<|And.intro @List.map.eq_2.{0,0}<|And.intro @List.length_cons.{0}<|And.intro @List.length_nil.{0}<|And.intro @List.getD_cons_zero.{0}<|And.intro @List.getD_cons_succ.{0}<|And.intro @List.getD_nil.{0}<|And.intro @List.drop.eq_1.{0}<|And.intro @List.drop.eq_2.{0}<|And.intro @List.drop.eq_3.{0}<|And.intro @List.take.eq_1.{0}<|And.intro @List.take.eq_2.{0}<|And.intro @List.take.eq_3.{0}<|And.intro @splice.eq_def<|And.intro @dY.eq_def<|And.intro @ql.eq_1<|And.intro @ql.eq_2<|And.intro @List.replicate.eq_1.{0}<|And.intro @List.replicate.eq_2.{0}<|And.intro @List.set.eq_1.{0}<|And.intro @List.set.eq_2.{0}<|And.intro @List.set.eq_3.{0}<|And.intro @fO.eq_def<|And.intro @dS.eq_def<|And.intro @elemsOf.eq_def<|And.intro @List.length_map.{0,0}<|And.intro @jK.eq_def<| @rC.eq_def
def kM:=And.intro @iw.eq_def<|And.intro @JX.eq_def<|And.intro @Yq.eq_def<|And.intro @qo.eq_def<|And.intro @List.length_map.{0,0}<|And.intro @cellsOf.eq_def<|And.intro @List.map.eq_1.{0,0}<|And.intro @List.map.eq_2.{0,0}<|And.intro @List.length_cons.{0}<|And.intro @List.length_nil.{0}<|And.intro @List.getD_cons_zero.{0}<|And.intro @List.getD_cons_succ.{0}<|And.intro @List.getD_nil.{0}<|And.intro @List.drop.eq_1.{0}<|And.intro @List.drop.eq_2.{0}<|And.intro @List.drop.eq_3.{0}<|And.intro @List.take.eq_1.{0}<|And.intro @List.take.eq_2.{0}<|And.intro @List.take.eq_3.{0}<|And.intro @splice.eq_def<|And.intro @dA.eq_def<|And.intro @fH.eq_def<|And.intro @nV.eq_def<|And.intro @jR.eq_def<| @jI.eq_def
def kG:=And.intro @yZ.eq_def<|And.intro @strip.eq_1<|And.intro @strip.eq_2<|And.intro @bG.eq_1<|And.intro @bG.eq_2<|And.intro @abg<|And.intro @Bool.and_true<|And.intro @abR<|And.intro @Bool.and_false<|And.intro @Bool.true_or<|And.intro @Bool.or_true<|And.intro @Bool.or_false<|And.intro @Bool.false_or<|And.intro @Bool.not_true<|And.intro @abC<|And.intro @evs.eq_def<|And.intro @qL.eq_def<|And.intro @kJ.eq_1<|And.intro @kJ.eq_2<|And.intro @Op.operands.eq_def<|And.intro @Call.operands.eq_def<|And.intro @Array.toList_append.{0}<|And.intro @List.toList_toArray.{0}<|And.intro @List.map.eq_1.{0,0}<|And.intro @List.map.eq_2.{0,0}<|And.intro @List.getElem?_cons_zero.{0}<|And.intro @List.getElem?_cons_succ.{0}<| @List.getElem?_nil.{0}
def G6:=And.intro @mQ.eq_1<|And.intro @mQ.eq_2<|And.intro @QL.eq_def<|And.intro @IY.eq_def<| @Cap.toC.eq_def
abbrev na:= @LX
abbrev nb:= @zO
abbrev nc:= @Jg
abbrev nd:= @Kr
abbrev ne:= @Qe
abbrev nf:= @We
abbrev ng:= @yA
abbrev nh:= @PG
abbrev ni:= @P9
abbrev nj:= @IV
abbrev nk:= @LU
abbrev nl:= @UJ
abbrev nm:= @Eo
abbrev nn:= @QI
end Go.Proofs.YtpoodoknkbojgaaGreatDoor
