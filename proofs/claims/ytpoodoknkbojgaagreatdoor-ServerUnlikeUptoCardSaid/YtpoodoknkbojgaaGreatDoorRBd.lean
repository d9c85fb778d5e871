/- A part of the proof. -/
import Derived.Test.YtpoodoknkbojgaaGreatDoorProg
import Derived.Test.YtpoodoknkbojgaaGreatDoorRAbCk
import Derived.KernelRfl
set_option linter.all false
namespace Go.Proofs.YtpoodoknkbojgaaGreatDoor.Tys
open Go.Ab Go.Proofs
theorem TQ:ti Tryz.prog 1=some ⟨1,false,8,[.nilFunc]⟩:=by kernel_rfl
theorem TP:ti Tryz.prog 2=some ⟨1,false,8,[.int .i64 0]⟩:=by kernel_rfl
theorem ED:ti Tryz.prog 3=some ⟨1,false,8,[.int .i64 0]⟩:=by kernel_rfl
theorem Ro:sG Tryz.prog 3=some (false,[.int .i64]):=by kernel_rfl
theorem Gu:ti Tryz.prog 4=some ⟨1,false,1,[.bool false]⟩:=by kernel_rfl
theorem KQ:ti Tryz.prog 5=some ⟨1,false,1,[.int .u8 0]⟩:=by kernel_rfl
theorem Ej:ti Tryz.prog 9=some ⟨1,false,16,[.string ByteArray.empty]⟩:=by kernel_rfl
theorem Sr:sG Tryz.prog 9=some (false,[.str]):=by kernel_rfl
theorem Ob:ti Tryz.prog 22=some ⟨1,false,24,[.slice none 0 0]⟩:=by kernel_rfl
theorem Kq:sQ Tryz.prog 22=some 59:=by kernel_rfl
theorem Je:ti Tryz.prog 24=some ⟨3,true,56,[.string ByteArray.empty, .string ByteArray.empty, .slice none 0 0]⟩:=by kernel_rfl
theorem BH:gY Tryz.prog 24 0=some (0,9):=by kernel_rfl
theorem BU:gY Tryz.prog 24 1=some (1,9):=by kernel_rfl
theorem AB:gY Tryz.prog 24 2=some (2,22):=by kernel_rfl
theorem zh:jC Tryz.prog 24=true:=by kernel_rfl
theorem IX:ti Tryz.prog 25=some ⟨1,false,24,[.slice none 0 0]⟩:=by kernel_rfl
theorem MI:sQ Tryz.prog 25=some 57:=by kernel_rfl
theorem Ji:ti Tryz.prog 26=some ⟨1,false,24,[.slice none 0 0]⟩:=by kernel_rfl
theorem JZ:sQ Tryz.prog 26=some 49:=by kernel_rfl
theorem Jp:ti Tryz.prog 27=some ⟨1,false,24,[.slice none 0 0]⟩:=by kernel_rfl
theorem KG:sQ Tryz.prog 27=some 51:=by kernel_rfl
theorem Iw:ti Tryz.prog 29=some ⟨14,true,224,[.int .i64 0, .string ByteArray.empty, .string ByteArray.empty, .string ByteArray.empty, .int .i64 0, .int .i64 0, .int .i64 0, .string ByteArray.empty, .string ByteArray.empty, .string ByteArray.empty, .slice none 0 0, .slice none 0 0, .slice none 0 0, .slice none 0 0]⟩:=by kernel_rfl
theorem Ce:gY Tryz.prog 29 0=some (0,3):=by kernel_rfl
theorem uU:gY Tryz.prog 29 1=some (1,9):=by kernel_rfl
theorem vS:gY Tryz.prog 29 2=some (2,9):=by kernel_rfl
theorem vK:gY Tryz.prog 29 3=some (3,9):=by kernel_rfl
theorem BL:gY Tryz.prog 29 4=some (4,3):=by kernel_rfl
theorem BI:gY Tryz.prog 29 5=some (5,3):=by kernel_rfl
theorem Bl:gY Tryz.prog 29 6=some (6,3):=by kernel_rfl
theorem vO:gY Tryz.prog 29 7=some (7,9):=by kernel_rfl
theorem vw:gY Tryz.prog 29 8=some (8,24):=by kernel_rfl
theorem vN:gY Tryz.prog 29 9=some (11,25):=by kernel_rfl
theorem qx:gY Tryz.prog 29 10=some (12,26):=by kernel_rfl
theorem ql:gY Tryz.prog 29 11=some (13,27):=by kernel_rfl
theorem zH:jC Tryz.prog 29=true:=by kernel_rfl
theorem Rj:ti Tryz.prog 31=some ⟨1,false,24,[.slice none 0 0]⟩:=by kernel_rfl
theorem Pm:sQ Tryz.prog 31=some 29:=by kernel_rfl
theorem AQ:ti Tryz.prog 33=some ⟨1,false,24,[.slice none 0 0]⟩:=by kernel_rfl
theorem nD:sQ Tryz.prog 33=some 5:=by kernel_rfl
theorem Ru:ti Tryz.prog 44=some ⟨4,true,16,[.int .i64 0, .bool false, .bool false, .bool false]⟩:=by kernel_rfl
theorem N8:gY Tryz.prog 44 0=some (0,3):=by kernel_rfl
theorem Oe:gY Tryz.prog 44 1=some (1,4):=by kernel_rfl
theorem OD:gY Tryz.prog 44 2=some (2,4):=by kernel_rfl
theorem Ov:gY Tryz.prog 44 3=some (3,4):=by kernel_rfl
theorem O8:jC Tryz.prog 44=true:=by kernel_rfl
theorem QW:ti Tryz.prog 45=some ⟨1,false,8,[.int .u64 0]⟩:=by kernel_rfl
theorem Tn:ti Tryz.prog 47=some ⟨2,true,16,[.int .u64 0, .int .i64 0]⟩:=by kernel_rfl
theorem OI:gY Tryz.prog 47 0=some (0,45):=by kernel_rfl
theorem Oo:gY Tryz.prog 47 1=some (1,3):=by kernel_rfl
theorem Rn:jC Tryz.prog 47=true:=by kernel_rfl
theorem NV:ti Tryz.prog 49=some ⟨12,true,96,[.string ByteArray.empty, .int .i64 0, .int .i64 0, .bool false, .bool false, .bool false, .int .u64 0, .int .i64 0, .int .i64 0, .string ByteArray.empty, .int .i64 0, .int .i64 0]⟩:=by kernel_rfl
theorem Gh:gY Tryz.prog 49 0=some (0,9):=by kernel_rfl
theorem OV:gY Tryz.prog 49 1=some (1,3):=by kernel_rfl
theorem N9:gY Tryz.prog 49 2=some (2,44):=by kernel_rfl
theorem N7:gY Tryz.prog 49 3=some (6,47):=by kernel_rfl
theorem OA:gY Tryz.prog 49 4=some (8,3):=by kernel_rfl
theorem Hf:gY Tryz.prog 49 5=some (9,9):=by kernel_rfl
theorem NR:gY Tryz.prog 49 6=some (10,3):=by kernel_rfl
theorem OE:gY Tryz.prog 49 7=some (11,3):=by kernel_rfl
theorem Hr:jC Tryz.prog 49=true:=by kernel_rfl
theorem Ri:Qw Tryz.prog 49=some [.str, .int .i64, .int .i64, .bool, .bool, .bool, .int .u64, .int .i64, .int .i64, .str, .int .i64, .int .i64]:=by kernel_rfl
theorem NW:ti Tryz.prog 51=some ⟨6,true,64,[.string ByteArray.empty, .int .i64 0, .int .i64 0, .string ByteArray.empty, .int .i64 0, .int .i64 0]⟩:=by kernel_rfl
theorem Hw:gY Tryz.prog 51 0=some (0,9):=by kernel_rfl
theorem Nv:gY Tryz.prog 51 1=some (1,3):=by kernel_rfl
theorem Ox:gY Tryz.prog 51 2=some (2,3):=by kernel_rfl
theorem Hg:gY Tryz.prog 51 3=some (3,9):=by kernel_rfl
theorem NP:gY Tryz.prog 51 4=some (4,3):=by kernel_rfl
theorem Nc:gY Tryz.prog 51 5=some (5,3):=by kernel_rfl
theorem Gp:jC Tryz.prog 51=true:=by kernel_rfl
theorem QX:Qw Tryz.prog 51=some [.str, .int .i64, .int .i64, .str, .int .i64, .int .i64]:=by kernel_rfl
theorem Su:ti Tryz.prog 52=some ⟨1,false,24,[.slice none 0 0]⟩:=by kernel_rfl
theorem Rh:sQ Tryz.prog 52=some 55:=by kernel_rfl
theorem FQ:ti Tryz.prog 53=some ⟨1,false,24,[.slice none 0 0]⟩:=by kernel_rfl
theorem zB:sQ Tryz.prog 53=some 9:=by kernel_rfl
theorem qP:ti Tryz.prog 55=some ⟨2,true,32,[.slice none 0 0, .bool false]⟩:=by kernel_rfl
theorem lI:gY Tryz.prog 55 0=some (0,53):=by kernel_rfl
theorem uP:gY Tryz.prog 55 1=some (1,4):=by kernel_rfl
theorem jW:jC Tryz.prog 55=true:=by kernel_rfl
theorem Oa:ti Tryz.prog 57=some ⟨5,true,72,[.bool false, .slice none 0 0, .bool false, .slice none 0 0, .bool false]⟩:=by kernel_rfl
theorem HY:gY Tryz.prog 57 0=some (0,4):=by kernel_rfl
theorem Bh:gY Tryz.prog 57 1=some (1,55):=by kernel_rfl
theorem Bd:gY Tryz.prog 57 2=some (3,55):=by kernel_rfl
theorem Ii:jC Tryz.prog 57=true:=by kernel_rfl
theorem Ou:ti Tryz.prog 59=some ⟨5,true,72,[.int .i64 0, .slice none 0 0, .bool false, .slice none 0 0, .bool false]⟩:=by kernel_rfl
theorem G6:gY Tryz.prog 59 0=some (0,3):=by kernel_rfl
theorem AZ:gY Tryz.prog 59 1=some (1,55):=by kernel_rfl
theorem AU:gY Tryz.prog 59 2=some (3,55):=by kernel_rfl
theorem H8:jC Tryz.prog 59=true:=by kernel_rfl
theorem Ti:ti Tryz.prog 74=some ⟨1,false,24,[.slice none 0 0]⟩:=by kernel_rfl
theorem Rf:sQ Tryz.prog 74=some 161:=by kernel_rfl
theorem Q8:ti Tryz.prog 78=some ⟨1,false,24,[.slice none 0 0]⟩:=by kernel_rfl
theorem O3:sQ Tryz.prog 78=some 3:=by kernel_rfl
theorem SQ:ti Tryz.prog 79=some ⟨1,false,8,[.nilFunc]⟩:=by kernel_rfl
theorem Rq:ti Tryz.prog 81=some ⟨2,true,32,[.slice none 0 0, .nilFunc]⟩:=by kernel_rfl
theorem Ho:gY Tryz.prog 81 0=some (0,78):=by kernel_rfl
theorem NU:gY Tryz.prog 81 1=some (1,79):=by kernel_rfl
theorem Pj:jC Tryz.prog 81=true:=by kernel_rfl
theorem Q6:ti Tryz.prog 83=some ⟨1,false,8,[.map none]⟩:=by kernel_rfl
theorem O5:vY Tryz.prog 83=some (3,81):=by kernel_rfl
theorem yJ:ti Tryz.prog 87=some ⟨2,true,32,[.slice none 0 0, .bool false]⟩:=by kernel_rfl
theorem qR:gY Tryz.prog 87 0=some (0,33):=by kernel_rfl
theorem lH:gY Tryz.prog 87 1=some (1,4):=by kernel_rfl
theorem oV:jC Tryz.prog 87=true:=by kernel_rfl
theorem QQ:ti Tryz.prog 134=some ⟨1,false,8,[.map none]⟩:=by kernel_rfl
theorem PQ:vY Tryz.prog 134=some (9,161):=by kernel_rfl
theorem PK:ti Tryz.prog 161=some ⟨5,true,56,[.string ByteArray.empty, .string ByteArray.empty, .int .i64 0, .int .i64 0, .int .i64 0]⟩:=by kernel_rfl
theorem KT:jC Tryz.prog 161=true:=by kernel_rfl
end Go.Proofs.YtpoodoknkbojgaaGreatDoor.Tys
namespace Go.Proofs.YtpoodoknkbojgaaGreatDoor
open Go.Ab
structure Rev where
 path:VJ
 num:Int
 chg:Int
 act:Int
 base:Int
 kw:Bool
 ex:Bool
 xe:Bool
 sum:Int
 size:Int
 frm:VJ
 fnum:Int
 deriving DecidableEq
structure iR where
 frm:VJ
 first:Int
 last:Int
 to:VJ
 num:Int
 how:Int
 deriving DecidableEq
structure mg where
 path:VJ
 act:Int
 base:Int
 kw:Bool
 ex:Bool
 xe:Bool
 sum:Int
 size:Int
 prev:Int
 frm:VJ
 fnum:Int
 fence:Int
 deriving DecidableEq
structure uA where
 num:Int
 client:VJ
 text:VJ
 edits:List mg
 recs:List iR
 deriving DecidableEq
structure yG where
 path:VJ
 num:Int
 deriving DecidableEq
structure eQ where
 revs:List Rev
 recs:List iR
 deriving DecidableEq
@[reducible] def dX (r:iR):List D:=[.v (.string r.frm), .v (.int .i64 r.first), .v (.int .i64 r.last), .v (.string r.to), .v (.int .i64 r.num), .v (.int .i64 r.how)]
@[reducible] def fK (e:mg):List D:=[.v (.string e.path), .v (.int .i64 e.act), .v (.int .i64 e.base), .v (.bool e.kw), .v (.bool e.ex), .v (.bool e.xe), .v (.int .u64 e.sum), .v (.int .i64 e.size), .v (.int .i64 e.prev), .v (.string e.frm), .v (.int .i64 e.fnum), .v (.int .i64 e.fence)]
@[reducible] def Tt (r:iR):AV:= .agg ((dX r).map C.d)
@[reducible] def Tp (r:mg):AV:= .agg ((fK r).map C.d)
@[reducible] def pI (n:Int):Bool×List C:=(false,[.d (.v (.int .i64 n))])
def Js:Rev:=⟨ByteArray.empty,0,0,0,0,false,false,false,0,0,ByteArray.empty,0⟩
def OT:yG:=⟨ByteArray.empty,0⟩
def KA:eQ:=⟨[],[]⟩
def wr (n:Int):Int:=IntKind.i64.wrap n
def gone (v:Rev):Bool:=decide (v.act=3)||decide (v.act=5)
def fileOf (v:Rev):yG:=⟨v.path,v.num⟩
def made (c:uA) (x:mg):Rev:=⟨x.path,wr (x.prev+1),c.num,x.act,x.base,x.kw,x.ex,x.xe,x.sum,x.size,x.frm,x.fnum⟩
def log (d:eQ) (p:VJ):List Rev:=d.revs.filter fun v=>decide (v.path=p)
def sW (d:eQ) (p:VJ):Option Rev:=(log d p).getLast?
def uN (d:eQ) (p:VJ) (n:Int):Option Rev:=(log d p).find? fun v=>decide (v.num=n)
def live (d:eQ) (p:VJ):Bool:=match sW d p with|some v=>!gone v|none=>false
def dn (d:eQ) (p:VJ):Int:=((sW d p).getD Js).num
def uu (d:eQ) (v:Rev):Option Rev:=
 if v.act=1 then none else if v.act=4 then uN d v.frm v.fnum else uN d v.path (wr (v.num-1))
theorem bY (ρ:Nat→Nat) (ys:List (List D)):(ys.map fun l=>l.map C.d).map (fun l=>l.map (bG ρ))=ys.map fun l=>l.map C.d:=by
 rw[Vj];exact Vu fun l _=>by simp[bG]
theorem aj (ys:List (List D)):(ys.map fun l=>l.map C.d).flatten=ys.flatten.map C.d:=by rw[List.map_flatten]
theorem gK (ρ:Nat→Nat) (sz:Nat) (ys:List (List D)):aS ρ (.arr sz (ys.map fun l=>l.map C.d))= .arr sz (ys.map fun l=>l.map C.d):=by
 simp only[aS,bY]
theorem dS (dom:Nat→Bool) (sz:Nat) (ys:List (List D)):aH dom (.arr sz (ys.map fun l=>l.map C.d))=True:=by
 simp only[aH,aj,AP]
@[reducible] def aC (sz:Nat) (ys:List (List D)):AO:= .arr sz (ys.map fun l=>l.map C.d)
theorem Le {α:Type} (e:α→List D) (l:List α) (k:Nat) (z:α) (h:k<l.length):(l.map e).getD k []=e (l.getD k z):=by simp[List.getD,h]
theorem J4 {α:Type} (l:List α) (k:Nat) (z:α) (h:k<l.length):l.take (k+1)=l.take k++[l.getD k z]:=by
 rw[VF,TT h];simp[List.getD,h]
theorem round {α:Type} (e:α→List D) (l:List α) (k:Nat) (z:α) (h:k<l.length):∃v,l[k]? =some v∧(l.map e).getD k []=e v∧l.take (k+1)=l.take k++[v]:=
 ⟨l.getD k z,by simp[List.getD,h],Le e l k z h,J4 l k z h⟩
def small (n:Nat):Prop:=n≤1000000
theorem eU {x:X} {st0 st':List (Nat×AO)} (hx:∀id,x.d0 id→ae st0 id=true) (h:∀p∈st0,ae st' p.1=true):∀id,x.d0 id→ae st' id=true∧id=id:=by
 intro id hid
 refine⟨?_,rfl⟩
 have h0:=hx id hid
 unfold ae at h0
 cases hg:Ab.get st0 id with
 |none=>rw[hg] at h0;cases h0
 |some o=>exact h (id,o) (get_mem hg)
theorem JB (dom:Nat→Bool) (m:List D):ay dom (m.map C.d):=by rw[AP];trivial
theorem Jz (dom:Nat→Bool) (es:List mF):bf dom ((es.map yP).map (·.1))=True:=by
 refine eq_true ?_
 induction es with
 |nil=>trivial
 |cons e es ih=>exact⟨JB _ _,ih⟩
theorem Ku (dom:Nat→Bool) (es:List mF):bf dom ((es.map yP).map (·.2))=True:=by
 refine eq_true ?_
 induction es with
 |nil=>trivial
 |cons e es ih=>exact⟨JB _ _,ih⟩
theorem aN {α:Type} (dom:Nat→Bool) (g:α→mF) (l:List α):bf dom (List.map ((fun x=>x.fst)∘yP∘g) l)=True:=by
 have:=Jz dom (l.map g)
 simpa using this
theorem aO {α:Type} (dom:Nat→Bool) (g:α→mF) (l:List α):bf dom (List.map ((fun x=>x.snd)∘yP∘g) l)=True:=by
 have:=Ku dom (l.map g)
 simpa using this
theorem aI (dom:Nat→Bool) (l:List mF):bf dom (List.map ((fun x=>x.fst)∘yP) l)=True:=by
 have:=Jz dom l
 simpa using this
theorem aK (dom:Nat→Bool) (l:List mF):bf dom (List.map ((fun x=>x.snd)∘yP) l)=True:=by
 have:=Ku dom l
 simpa using this
theorem aJ {α:Type} (dom:Nat→Bool) (e:α→List D) (l:List α):ay dom (List.map ((fun l=>List.map C.d l)∘e) l).flatten=True:=by
 refine eq_true ?_
 induction l with
 |nil=>trivial
 |cons a l ih=>
  simp only[Un,List.flatten_cons,Function.comp]
  rw[ak]
  exact⟨JB _ _,ih⟩
theorem keepR {x:X} {ρ:Nat→Nat} {st0 st':List (Nat×AO)} (hx:∀id,x.d0 id→ae st0 id=true) (h:∀p∈st0,ae st' p.1=true∧ρ p.1=p.1):∀id,x.d0 id→ae st' id=true∧ρ id=id:=by
 intro id hid
 have h0:=hx id hid
 unfold ae at h0
 cases hg:Ab.get st0 id with
 |none=>rw[hg] at h0;cases h0
 |some o=>exact h (id,o) (get_mem hg)
theorem dB (ρ:Nat→Nat) (e:mF):(qh ρ (yP e).fst,qh ρ (yP e).snd)=yP e:=by simp[yP,Ib,qh,bG]
theorem gm (ρ:Nat→Nat) (l:List mF):aS ρ (.map (l.map yP))= .map (l.map yP):=by
 simp only[aS,Vj]
 congr 1
 apply Vu
 intro e _
 simp[yP,Ib,qh,bG]
def kO:=And.intro @All.eq_1<|And.intro @All.eq_2<|And.intro @List.cons_append.{0}<|And.intro @List.nil_append.{0}<|And.intro @aZ.eq_def<|And.intro @Ug<|And.intro @UH<|And.intro @List.length_map.{0,0}<|And.intro @List.length_cons.{0} @List.length_nil.{0}
def kE:=And.intro @List.mem_cons.{0}<|And.intro @Jz<|And.intro @Ku<|And.intro @List.not_mem_nil.{0}<|And.intro @Uk<|And.intro @forall_eq_or_imp.{1}<|And.intro @forall_eq.{1}<|And.intro @dS<|And.intro @aj<|And.intro @aH.eq_def<|And.intro @ay.eq_1<|And.intro @ay.eq_2<|And.intro @bC.eq_def<|And.intro @bf.eq_1<|And.intro @bf.eq_2<|And.intro @AP<|And.intro @ae.eq_def<|And.intro @Ab.get.eq_1<|And.intro @Ab.get.eq_2<|And.intro @UH<|And.intro @Ug<|And.intro @Option.isSome.eq_def.{0}<|And.intro @List.map_cons.{0,0}<|And.intro @List.map_nil.{0,0}<|And.intro @List.flatten.eq_1.{0}<|And.intro @List.flatten.eq_2.{0} @List.append_nil.{0}
def kV:=And.intro @fA.eq_1<|And.intro @fA.eq_2<|And.intro @ev.eq_def<|And.intro @Ab.get.eq_1<|And.intro @Ab.get.eq_2<|And.intro @Value.oneCell'.eq_def<| @if_true.{1}
def kR:=And.intro @xm.eq_def<|And.intro @kF.eq_1<|And.intro @kF.eq_2<|And.intro @resV.eq_def<|And.intro @toP.eq_def<|And.intro @xO.eq_def<|And.intro @Option.map_some.{0,0}<|And.intro @Option.bind_some.{0,0}<|And.intro @Ab.get.eq_1<|And.intro @Ab.get.eq_2<|And.intro @List.append_nil.{0} @List.nil_append.{0}
def kP:=And.intro @cZ.eq_def<|And.intro @ag.eq_1<|And.intro @ag.eq_2<|And.intro @Ab.put.eq_1 @Ab.put.eq_2
def kD:=And.intro @AA.eq_1<|And.intro @AA.eq_2<|And.intro @eY.eq_def<|And.intro @eY.evsAll.eq_1<|And.intro @eY.evsAll.eq_2<|And.intro @H7.eq_def<|And.intro @fA.eq_1 @fA.eq_2
def kB:=And.intro @Ab.IW.eq_def<|And.intro @Ab.run.eq_1<|And.intro @Ab.run.eq_2<|And.intro @Ab.run.eq_3<|And.intro @iV.eq_def<|And.intro @step1.eq_def<|And.intro @ev.eq_def<|And.intro @eff.eq_def<|And.intro @xO.eq_def<|And.intro @Ab.get.eq_1<|And.intro @Ab.get.eq_2<|And.intro @Ab.put.eq_1<|And.intro @Ab.put.eq_2<|And.intro @cZ.eq_def<|And.intro @ag.eq_1<|And.intro @ag.eq_2<|And.intro @Option.bind_some.{0,0}<|And.intro @Option.map_some.{0,0}<|And.intro @Option.getD_some.{0}<|And.intro @Option.getD_none.{0}<|And.intro @Value.oneCell'.eq_def<|And.intro @Int.toNat_natCast<|And.intro @Vp<|And.intro @Nat.add_zero<|And.intro @decide_true<|And.intro @VI<|And.intro @Um<|And.intro @List.append.eq_1.{0}<|And.intro @List.append.eq_2.{0}<|And.intro @List.cons_append.{0}<|And.intro @List.nil_append.{0}<|And.intro @List.append_nil.{0}<|And.intro @rC.eq_def<|And.intro @cellsOf.eq_def<|And.intro @List.map.eq_1.{0,0}<|And.intro @List.map.eq_2.{0,0}<|And.intro @List.length_cons.{0}<|And.intro @List.length_nil.{0}<|And.intro @List.getD_cons_zero.{0}<|And.intro @List.getD_cons_succ.{0}<|And.intro @List.getD_nil.{0}<|And.intro @List.drop.eq_1.{0}<|And.intro @List.drop.eq_2.{0}<|And.intro @List.drop.eq_3.{0}<|And.intro @List.take.eq_1.{0}<|And.intro @List.take.eq_2.{0}<|And.intro @List.take.eq_3.{0}<|And.intro @splice.eq_def<|And.intro @kY.eq_def<|And.intro @fG.eq_def<|And.intro @gu.eq_def<|And.intro @List.set.eq_1.{0}<|And.intro @List.set.eq_2.{0}<|And.intro @List.set.eq_3.{0}<|And.intro @nO.eq_def<|And.intro @oG.eq_def<|And.intro @eF.eq_def<|And.intro @kZ.eq_def<|And.intro @Qb.eq_def<|And.intro @xG.eq_def<|And.intro @rF.eq_def<|And.intro @oN.eq_def<|And.intro @lm.eq_def<|And.intro @Vs<|And.intro @Bool.and_true<|And.intro @Bool.false_and<|And.intro @Bool.and_false<|And.intro @zT.eq_def<|And.intro @zW.eq_1<|And.intro @zW.eq_2<|And.intro @zW.eq_3<|And.intro @zW.eq_4<|And.intro @zW.eq_5<|And.intro @iE.eq_def<|And.intro @eP.eq_def<|And.intro @yz.eq_def<|And.intro @Bool.not_true<|And.intro @Vz<|And.intro @wu.eq_def<|And.intro @jo.eq_def<|And.intro @List.getElem?_cons_zero.{0}<|And.intro @List.getElem?_cons_succ.{0}<|And.intro @List.getElem?_nil.{0}<|And.intro @nT.eq_def<| @List.length_map.{0,0}
def kS:=And.intro @lh.eq_def<|And.intro @uj.eq_1<|And.intro @uj.eq_2<|And.intro @fF.eq_1<|And.intro @fF.eq_2<|And.intro @cellsOf.eq_def<|And.intro @List.map.eq_1.{0,0}<|And.intro @List.map.eq_2.{0,0}<|And.intro @List.length_cons.{0}<|And.intro @List.length_nil.{0}<|And.intro @List.getD_cons_zero.{0}<|And.intro @List.getD_cons_succ.{0}<|And.intro @List.getD_nil.{0}<|And.intro @List.drop.eq_1.{0}<|And.intro @List.drop.eq_2.{0}<|And.intro @List.drop.eq_3.{0}<|And.intro @List.take.eq_1.{0}<|And.intro @List.take.eq_2.{0}<|And.intro @List.take.eq_3.{0}<|And.intro @splice.eq_def<|And.intro @dw.eq_def<|And.intro @nJ.eq_1<|And.intro @nJ.eq_2<|And.intro @List.replicate.eq_1.{0}<|And.intro @List.replicate.eq_2.{0}<|And.intro @List.set.eq_1.{0}<|And.intro @List.set.eq_2.{0}<|And.intro @List.set.eq_3.{0}<|And.intro @dL.eq_def<|And.intro @di.eq_def<|And.intro @elemsOf.eq_def<|And.intro @List.length_map.{0,0}<|And.intro @iM.eq_def<| @oK.eq_def
def kM:=And.intro @eu.eq_def<|And.intro @FC.eq_def<|And.intro @Ry.eq_def<|And.intro @nV.eq_def<|And.intro @List.length_map.{0,0}<|And.intro @cellsOf.eq_def<|And.intro @List.map.eq_1.{0,0}<|And.intro @List.map.eq_2.{0,0}<|And.intro @List.length_cons.{0}<|And.intro @List.length_nil.{0}<|And.intro @List.getD_cons_zero.{0}<|And.intro @List.getD_cons_succ.{0}<|And.intro @List.getD_nil.{0}<|And.intro @List.drop.eq_1.{0}<|And.intro @List.drop.eq_2.{0}<|And.intro @List.drop.eq_3.{0}<|And.intro @List.take.eq_1.{0}<|And.intro @List.take.eq_2.{0}<|And.intro @List.take.eq_3.{0}<|And.intro @splice.eq_def<|And.intro @bK.eq_def<|And.intro @dI.eq_def<|And.intro @kK.eq_def<|And.intro @iK.eq_def<| @iP.eq_def
def kG:=And.intro @ut.eq_def<|And.intro @strip.eq_1<|And.intro @strip.eq_2<|And.intro @aY.eq_1<|And.intro @aY.eq_2<|And.intro @Vs<|And.intro @Bool.and_true<|And.intro @Bool.false_and<|And.intro @Bool.and_false<|And.intro @Bool.true_or<|And.intro @Bool.or_true<|And.intro @Bool.or_false<|And.intro @Bool.false_or<|And.intro @Bool.not_true<|And.intro @Vz<|And.intro @evs.eq_def<|And.intro @oQ.eq_def<|And.intro @jA.eq_1<|And.intro @jA.eq_2<|And.intro @Op.operands.eq_def<|And.intro @Call.operands.eq_def<|And.intro @Array.toList_append.{0}<|And.intro @List.toList_toArray.{0}<|And.intro @List.map.eq_1.{0,0}<|And.intro @List.map.eq_2.{0,0}<|And.intro @List.getElem?_cons_zero.{0}<|And.intro @List.getElem?_cons_succ.{0}<| @List.getElem?_nil.{0}
def MO:=And.intro @ku.eq_1<|And.intro @ku.eq_2<|And.intro @KR.eq_def<|And.intro @Dx.eq_def<| @Cap.toC.eq_def
abbrev na:= @KP
abbrev nb:= @uV
abbrev nc:= @CG
abbrev nd:= @KI
abbrev ne:= @J7
abbrev nf:= @PG
abbrev ng:= @D6
abbrev nh:= @IM
abbrev ni:= @LM
abbrev nj:= @Eh
abbrev nk:= @EO
abbrev nl:= @OL
abbrev nm:= @Ac
abbrev nn:= @Md
end Go.Proofs.YtpoodoknkbojgaaGreatDoor
