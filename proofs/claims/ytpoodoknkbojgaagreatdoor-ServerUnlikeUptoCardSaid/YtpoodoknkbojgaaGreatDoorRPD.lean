/- A part of the proof. -/
import Derived.Test.YtpoodoknkbojgaaGreatDoorRBd
import Derived.Test.YtpoodoknkbojgaaGreatDoorRAbDl
set_option linter.all false
namespace Go.Proofs.YtpoodoknkbojgaaGreatDoor
open Go.Ab Tys
def cnt (d:eQ) (c:Int):Nat:=(d.revs.filter fun u=>decide (u.chg<c)).length
def Lj (d:eQ):Nat→Rev→yG
 |0,v=>fileOf v
 |n+1,v=>
  match uu d v with
  |none=>fileOf v
  |some u=>if v.chg≤u.chg then fileOf v else Lj d n u
def first (d:eQ) (v:Rev):yG:=Lj d (cnt d v.chg) v
theorem qN {d:eQ} {p:VJ} {n:Int} {u:Rev} (h:uN d p n=some u):u∈d.revs∧u.path=p∧u.num=n:=by
 have h1:=List.mem_of_find?_eq_some h
 have h2:=List.find?_some h
 simp only[log,UD] at h1
 exact⟨h1.1,by simpa using h1.2,by simpa using h2⟩
theorem Qz {d:eQ} {v u:Rev} (h:uu d v=some u):u∈d.revs:=by
 unfold uu at h
 split at h
 ·cases h
 ·split at h
  ·exact(qN h).1
  ·exact(qN h).1
def hasPrefix (s p:VJ):Bool:=decide (p.size≤s.size)&&decide (s.extract 0 p.size=p)
@[reducible] def slash:VJ:={data:= #[47]}
def Qv (s:VJ):Nat:=Lib.countByte s.data.toList 47
def Qp (s:VJ):Int:=Lib.indexByte s.data.toList 47
theorem OX (s:VJ):Qv s≤s.size:=by
 unfold Qv Lib.countByte
 have:=List.count_le_length (a:=(47:UInt8)) (l:=s.data.toList)
 simpa using this
def splitN:Nat→VJ→List VJ
 |0,s=>[s]
 |n+1,s=>if Qp s<0 then [s] else s.extract 0 (Qp s).toNat::splitN n (s.extract ((Qp s).toNat+1) s.size)
def split (s:VJ):List VJ:=splitN (Qv s) s
@[reducible] def encS (b:VJ):List D:=[.v (.string b)]
@[reducible] def Ec (l:List VJ):AV:= .c (.d (.ps 1 (l.map encS)))
theorem xn:∀(n:Nat) (s:VJ),(splitN n s).length≤n+1
 |0,s=>by simp[splitN]
 |n+1,s=>by
  simp only[splitN]
  split
  ·simp
  ·simpa using xn n _
@[reducible] def letters:VJ:={data:=([65,66,67,68,69,70,71,72,73,74,75,76,77,78,79,80,81,82,83,84,85,86,87,88,89,90,97,98,99,100,101,102,103].append [104,105,106,107,108,109,110,111,112,113,114,115,116,117,118,119,120,121,122,48,49,50,51,52,53,54,55,56,57,95,46,43,45]).toArray}
def okB (b:Int):Bool:=decide (0≤Lib.indexByte letters.data.toList b.toNat.toUInt8)
@[reducible] def byteAt (s:VJ) (k:Nat):Int:=((s.data.getD k 0).toNat:Int)
def comp (s:VJ):Bool:=!(decide (s={data:= #[]})||decide (byteAt s 0=46))&&(List.range s.size).all fun k=>okB (byteAt s k)
theorem oP (n k:Nat) (p:Nat→Bool) (hk:k<n) (h:(List.range n).all p=true):p k=true:=by
 rw[UG] at h;exact h k (UZ.2 hk)
theorem lM {s:VJ} (h:s≠{data:= #[]}):0<s.size:=by
 rcases Nat.eq_zero_or_pos s.size with e|e
 ·exfalso;apply h;cases s with|mk d=>have:d.size=0:=e
                                     rw[Array.eq_empty_of_size_eq_zero this]
 ·exact e
@[reducible] def Fa:VJ:={data:= #[47,47]}
def JH (p:VJ):Option (List VJ):=if hasPrefix p Fa then(if(split (p.extract 2 p.size)).all comp then some (split (p.extract 2 p.size)) else none) else none
theorem Jm (s:VJ):(split s).length≤s.size+1:=Ur (xn _ _) (by have:=OX s;omega)
def gZ (p:VJ):Option (List VJ):=match JH p with|some l=>if l.length<2 then none else some l|none=>none
def cb (a b:VJ):Int:=Lib.compareBytes a.data.toList b.data.toList
def cmpL:List VJ→List VJ→Int
 |[],[]=>0
 |[],_::_=> -1
 |_::_,[]=>1
 |a::l,b::m=>if cb a b=0 then cmpL l m else cb a b
def ord (p q:VJ):Int:=
 match gZ p,gZ q with
 |none,none=>cb p q
 |none,some _=> -1
 |some _,none=>1
 |some a,some b=>cmpL a b
theorem QA {p:VJ} {l:List VJ} (h:gZ p=some l):l.length≤p.size+1:=by
 unfold gZ at h
 split at h
 ·rename_i l' hl
  split at h
  ·cases h
  ·cases h
   unfold JH at hl
   split at hl
   ·split at hl
    ·cases hl
     have:=Jm (p.extract 2 p.size)
     simp at this;omega
    ·cases hl
   ·cases hl
 ·cases h
def before (a b:iR):Bool:=
 if ord a.to b.to≠0 then decide (ord a.to b.to<0) else if a.num≠b.num then decide (a.num<b.num) else if ord a.frm b.frm≠0 then decide (ord a.frm b.frm<0) else decide (a.first<b.first)
def TA (r:iR):Prop:=r.frm.size≤100000∧r.to.size≤100000
def rM:iR:=⟨ByteArray.empty,0,0,ByteArray.empty,0,0⟩
def tZ:Nat→List iR→List iR
 |0,l=>l
 |k+1,l=>if before (l.getD (k+1) rM) (l.getD k rM) then tZ k ((l.set (k+1) (l.getD k rM)).set k (l.getD (k+1) rM)) else l
def zY (l:List iR):Nat→List iR
 |0=>l
 |k+1=>tZ k (zY l k)
def Gl (l:List iR):List iR:=zY l l.length
theorem JS {l:List iR} {i j:Nat} {v w:iR} (hv:v∈l) (hw:w∈l) {P:iR→Prop} (h:∀r∈l,P r):∀r∈(l.set i w).set j v,P r:=by
 intro r hr
 rcases Vf hr with hr|rfl
 ·rcases Vf hr with hr|rfl
  ·exact h r hr
  ·exact h _ hw
 ·exact h _ hv
def Qa (base:Int) (kw xe:Bool):Bool:=decide (base<1)||decide (3<base)||(kw&&!decide (base=1))||(xe&&decide (base=3))
def Eu (x y:mg):Bool:=(decide (x.act=5)&&decide (y.act=4)&&decide (y.frm=x.path))||(decide (x.act=4)&&decide (y.act=5)&&decide (y.path=x.frm))
def KJ (c:uA) (x:mg):Nat:=(c.edits.filter (Eu x)).length
def FM (c:uA) (x:mg):Bool:=decide ((KJ c x:Int)=1)||(!decide (x.act=5)&&!decide (x.act=4))
def dh:mg:=⟨ByteArray.empty,0,0,false,false,false,0,0,0,ByteArray.empty,0,0⟩
def TJ (e:mg):Prop:=e.path.size≤100000
structure ET (d:eQ) (c:uA) (i:Nat) (e:mg):Prop where
 okPath:(gZ e.path).isSome=true
 okOrder:0<i→ord (c.edits.getD (i-1) dh).path e.path<0
 okLo:1≤e.act
 okHi:e.act≤5
 okLive:(e.act=1∨e.act=4)↔live d e.path=false
 okPrev:e.prev=dn d e.path
 okFrm:e.act=4→live d e.frm=true∧dn d e.frm=e.fnum∧e.frm≠e.path
 okGone:e.act=3∨e.act=5→e.sum=0∧e.size=0
 okTyp:Qa e.base e.kw e.xe=false∧0≤e.size
@[reducible] def Ik (d:eQ) (p:VJ) (n:Int):Rev:=(uN d p n).getD Js
def SL (r:iR) (e:mg):Prop:=e.path=r.to∧wr (e.prev+1)=r.num∧¬e.act=5
structure QM (d:eQ) (c:uA) (r:iR):Prop where
 okHow:1≤r.how∧r.how≤4
 okLo:1≤r.first
 okLe:r.first≤r.last
 okHi:r.last≤(log d r.frm).length
 okLine:∀n,r.first≤n→n≤r.last→¬(Ik d r.frm n).act=5∧first d (Ik d r.frm n)=first d (Ik d r.frm r.last)
 okTgt:∃e∈c.edits,SL r e∧(¬e.act=1→¬first d ((uu d (made c e)).getD Js)=first d (Ik d r.frm r.last))
structure vZ (d:eQ) (c:uA):Prop where
 len1:1≤c.edits.length
 len2:c.edits.length≤64
 len3:c.recs.length≤64
 num:1≤c.num∧c.num≤1073741824
 old:∀v∈d.revs,v.chg<c.num
 edit:∀i,i<c.edits.length→ET d c i (c.edits.getD i dh)
 move:∀e∈c.edits,FM c e=true
 recd:∀i,i<c.recs.length→QM d c (c.recs.getD i rM)
 tot1:d.revs.length+c.edits.length≤512
 tot2:d.recs.length+c.recs.length≤512
theorem zG:∀(k:Nat) (l:List iR),(tZ k l).length=l.length
 |0,l=>rfl
 |k+1,l=>by
  simp only[tZ]
  split
  ·rw[zG k];simp
  ·rfl
theorem zI {P:iR→Prop}:∀(k:Nat) (l:List iR),k<l.length→(∀r∈l,P r)→∀r∈tZ k l,P r
 |0,l,_,h=>h
 |k+1,l,hk,h=>by
  simp only[tZ]
  split
  ·refine zI k _ (by simp;omega) (JS ?_ ?_ h)
   ·rw[Uc,TT hk];simp
   ·rw[Uc,TT (by omega:k<l.length)];simp
  ·exact h
theorem oO (l:List iR):∀k,(zY l k).length=l.length
 |0=>rfl
 |k+1=>by rw[zY,zG,oO l k]
theorem Ap {P:iR→Prop} {l:List iR} (h:∀r∈l,P r):∀k,k≤l.length→∀r∈zY l k,P r
 |0,_=>h
 |k+1,hk=>zI k _ (by rw[oO];omega) (Ap h k (by omega))
theorem IZ (l:List iR):(Gl l).length=l.length:=oO l _
theorem IY {P:iR→Prop} {l:List iR} (h:∀r∈l,P r):∀r∈Gl l,P r:=Ap h _ (Ui _)
def gV (d:eQ) (c:uA):eQ:=⟨d.revs++c.edits.map (made c),Gl (d.recs++c.recs)⟩
def TN (c:uA):Prop:=(∀e∈c.edits,TJ e)∧(∀r∈c.recs,TA r)∧c.edits.length≤100000∧c.recs.length≤100000
inductive jk:List uA→eQ→Prop
 |nil:jk [] KA
 |skip {l:List uA} {d:eQ} (c:uA) (h:jk l d):jk (l++[c]) d
 |app {l:List uA} {d:eQ} {c:uA} (h:jk l d) (hc:TN c) (hk:vZ d c):jk (l++[c]) (gV d c)
theorem jk.ok {l:List uA} {d:eQ} (h:jk l d):d.revs.length≤512∧d.recs.length≤512∧∀r∈d.recs,TA r:=by
 induction h with
 |nil=>simp[KA]
 |skip c h ih=>exact ih
 |app h hc hk ih=>
  refine⟨?_,?_,?_⟩
  ·have:=hk.tot1;simp[gV];omega
  ·have:=hk.tot2;simp[gV,IZ];omega
  ·exact IY fun r hr=>by rcases Uw.1 hr with hr|hr;exact ih.2.2 r hr;exact hc.2.1 r hr
def Ci (d:eQ) (p:VJ) (n:Int):Option Rev:=match uN d p n with|some v=>if v.act=5 then none else some v|none=>none
def PL (d:eQ) (f:yG) (v:Rev):Bool:=!decide (v.act=5)&&decide (first d v=f)
def line (d:eQ) (f:yG):List Rev:=d.revs.filter (PL d f)
end Go.Proofs.YtpoodoknkbojgaaGreatDoor
namespace Go.Proofs.YtpoodoknkbojgaaGreatDoor.Tys
open Go.Ab Go.Proofs
end Go.Proofs.YtpoodoknkbojgaaGreatDoor.Tys
set_option linter.all false
namespace Go.Proofs.YtpoodoknkbojgaaGreatDoor
open Go.Ab Tys
theorem p2 {A B:Prop} (a:A) (b:B):A∧B:=⟨a,b⟩
theorem p3 {A B C:Prop} (a:A) (b:B) (c:C):A∧B∧C:=⟨a,b,c⟩
theorem p4 {A B C D:Prop} (a:A) (b:B) (c:C) (d:D):A∧B∧C∧D:=⟨a,b,c,d⟩
theorem p5 {A B C D E:Prop} (a:A) (b:B) (c:C) (d:D) (e:E):A∧B∧C∧D∧E:=⟨a,b,c,d,e⟩
theorem p6 {A B C D E F:Prop} (a:A) (b:B) (c:C) (d:D) (e:E) (f:F):A∧B∧C∧D∧E∧F:=⟨a,b,c,d,e,f⟩
theorem p7 {A B C D E F G:Prop} (a:A) (b:B) (c:C) (d:D) (e:E) (f:F) (g:G):A∧B∧C∧D∧E∧F∧G:=⟨a,b,c,d,e,f,g⟩
theorem p8 {A B C D E F G H:Prop} (a:A) (b:B) (c:C) (d:D) (e:E) (f:F) (g:G) (h:H):A∧B∧C∧D∧E∧F∧G∧H:=⟨a,b,c,d,e,f,g,h⟩
theorem p9 {A B C D E F G H I:Prop} (a:A) (b:B) (c:C) (d:D) (e:E) (f:F) (g:G) (h:H) (i:I):A∧B∧C∧D∧E∧F∧G∧H∧I:=⟨a,b,c,d,e,f,g,h,i⟩
theorem p10 {A B C D E F G H I J:Prop} (a:A) (b:B) (c:C) (d:D) (e:E) (f:F) (g:G) (h:H) (i:I) (j:J):A∧B∧C∧D∧E∧F∧G∧H∧I∧J:=⟨a,b,c,d,e,f,g,h,i,j⟩
theorem p11 {A B C D E F G H I J K:Prop} (a:A) (b:B) (c:C) (d:D) (e:E) (f:F) (g:G) (h:H) (i:I) (j:J) (k:K):A∧B∧C∧D∧E∧F∧G∧H∧I∧J∧K:=⟨a,b,c,d,e,f,g,h,i,j,k⟩
theorem p12 {A B C D E F G H I J K L:Prop} (a:A) (b:B) (c:C) (d:D) (e:E) (f:F) (g:G) (h:H) (i:I) (j:J) (k:K) (l:L):A∧B∧C∧D∧E∧F∧G∧H∧I∧J∧K∧L:=⟨a,b,c,d,e,f,g,h,i,j,k,l⟩
theorem p13 {A B C D E F G H I J K L M:Prop} (a:A) (b:B) (c:C) (d:D) (e:E) (f:F) (g:G) (h:H) (i:I) (j:J) (k:K) (l:L) (m:M):A∧B∧C∧D∧E∧F∧G∧H∧I∧J∧K∧L∧M:=⟨a,b,c,d,e,f,g,h,i,j,k,l,m⟩
theorem Sz {A B C D E F G H I J K L M N:Prop} (a:A) (b:B) (c:C) (d:D) (e:E) (f:F) (g:G) (h:H) (i:I) (j:J) (k:K) (l:L) (m:M) (n:N):A∧B∧C∧D∧E∧F∧G∧H∧I∧J∧K∧L∧M∧N:=⟨a,b,c,d,e,f,g,h,i,j,k,l,m,n⟩
theorem p16 {A B C D E F G H I J K L M N O P:Prop} (a:A) (b:B) (c:C) (d:D) (e:E) (f:F) (g:G) (h:H) (i:I) (j:J) (k:K) (l:L) (m:M) (n:N) (o:O) (p:P):A∧B∧C∧D∧E∧F∧G∧H∧I∧J∧K∧L∧M∧N∧O∧P:=⟨a,b,c,d,e,f,g,h,i,j,k,l,m,n,o,p⟩
section
variable [Dr] {P:Program} {x:X} {s s':S} {Q:Exit→S→Prop} {ops l l':List Oper} {G G':Prop}
structure Hid (G:Prop):Prop where
 out:G
theorem mW (g:G') (h:G'→G:=by intro h9;(repeat (with_reducible first|refine na ?_|refine nb ?_|refine nc ?_|refine nd ?_|refine ne ?_|refine nf ?_|refine ng ?_|refine nh ?_|refine ni ?_|refine nj ?_|refine nk ?_|refine nl ?_|refine nm (by decide) ?_|refine nn ?_));exact h9):G:=h g
theorem RN (g:G') (h:G'→G:=by intro h9;(with_reducible first|refine na ?_|refine nb ?_|refine nc ?_|refine nd ?_|refine ne ?_|refine nf ?_|refine ng ?_|refine nh ?_|refine ni ?_|refine nj ?_|refine nk ?_|refine nl ?_|refine nm (by decide) ?_|refine nn ?_);(repeat (with_reducible first|refine na ?_|refine nb ?_|refine nc ?_|refine nd ?_|refine ne ?_|refine nf ?_|refine ng ?_|refine nh ?_|refine ni ?_|refine nj ?_|refine nk ?_|refine nl ?_|refine nm (by decide) ?_|refine nn ?_));exact h9):G:=h g
theorem jF (g:G') (h:G'→G:=by intro h9;simp only[Ab.put,Nat.reduceEqDiff, ↓reduceIte,reduceCtorEq,if_false,if_true];exact h9):G:=h g
theorem RP {wr:Bool} {ps:List Prop} (h:IW P wr ops 400 l s=some (s',ps,l')) (hk:TO P x ops l' s' Q) (ho:All ps:=by first|exact trivial|(simp only[kO];omega)|(simp[All,aZ];first|done|omega)|(simp+contextual [All,aZ];first|done|grind)):TO P x ops l s Q:=bI 400 h ho hk
theorem nv (g:G') (h:Hid G'→G:=by intro h9;(first|refine RN ?_|refine RP (wr:=false) (by simp only[kk,Nat.reduceAdd,Nat.reduceLT,Nat.reduceEqDiff, ↓reduceIte,reduceCtorEq];first|done|rfl) ?_);(repeat (first|refine RN ?_|refine RP (wr:=false) (by simp only[kk,Nat.reduceAdd,Nat.reduceLT,Nat.reduceEqDiff, ↓reduceIte,reduceCtorEq];first|done|rfl) ?_));exact h9.out):G:=h ⟨g⟩
theorem nx {E:Prop} (e:E) (g:G') (h:E→Hid G'→G:=by intro e9 h9;(first|refine RN ?_|refine RP (wr:=false) (by simp only[kk,Nat.reduceAdd,Nat.reduceLT,Nat.reduceEqDiff, ↓reduceIte,reduceCtorEq,e9];first|done|rfl) ?_);(repeat (first|refine RN ?_|refine RP (wr:=false) (by simp only[kk,Nat.reduceAdd,Nat.reduceLT,Nat.reduceEqDiff, ↓reduceIte,reduceCtorEq,e9];first|done|rfl) ?_));exact h9.out):G:=h e ⟨g⟩
theorem gg {ps:List Prop} (hk:TO P x ops l' s' Q) (h:IW P false ops 400 l s=some (s',ps,l'):=by simp only[kk,Nat.reduceAdd,Nat.reduceLT,Nat.reduceEqDiff, ↓reduceIte,reduceCtorEq];first|done|rfl) (ho:All ps:=by first|exact trivial|(simp only[kO];omega)|(simp[All,aZ];first|done|omega)|(simp+contextual [All,aZ];first|done|grind)):TO P x ops l s Q:=bI 400 h ho hk
theorem gq {ps:List Prop} (ho:All ps) (hk:TO P x ops l' s' Q) (h:IW P false ops 400 l s=some (s',ps,l'):=by simp only[kk,Nat.reduceAdd,Nat.reduceLT,Nat.reduceEqDiff, ↓reduceIte,reduceCtorEq];first|done|rfl):TO P x ops l s Q:=bI 400 h ho hk
theorem bV {c:Operand} {d d':Code} {b:Bool} (h1:b=true→T P x d s Q) (h2:b=false→T P x d' s Q) (hc:ev s c=some (B b):=by simp only[kV, ↓reduceIte,Nat.reduceEqDiff,reduceCtorEq];first|done|rfl):T P x (.cond c d d') s Q:=EU hc h1 h2
theorem jG (hn:s'.n=s.n:=by rfl) (he:∀p∈s'.env,get s.env p.1=some (bg (fun i=>i) p.2)∧ax (ae s'.st) p.2:=by first|(simp only[kE,aC,bf,aX,au,aF, ↓reduceIte,Nat.reduceEqDiff,reduceCtorEq];done)|simp[aQ,aG,aj,Ab.get,ax,bC,ay,bf,aX,au,aF,aH,ak,aN,aO,aI,aK,aJ,ae,List.flatten]) (h1:∀p∈s'.st,get s.st ((fun i=>i) p.1)=some (aS (fun i=>i) p.2):=by first|(simp only[kE,aC,bf,aX,au,aF, ↓reduceIte,Nat.reduceEqDiff,reduceCtorEq];done)|simp[aQ,aG,aj,Ab.get,ax,bC,ay,bf,aX,au,aF,aH,ak,aN,aO,aI,aK,aJ,ae,List.flatten]) (h2:(s'.st.map fun p=>(fun i=>i) p.1).Nodup:=by first|(simp only[kE,aC,bf,aX,au,aF, ↓reduceIte,Nat.reduceEqDiff,reduceCtorEq];done)|simp[aQ,aG,aj,Ab.get,ax,bC,ay,bf,aX,au,aF,aH,ak,aN,aO,aI,aK,aJ,ae,List.flatten]) (h3:∀p∈s'.st,aH (ae s'.st) p.2:=by first|(simp only[kE,aC,bf,aX,au,aF, ↓reduceIte,Nat.reduceEqDiff,reduceCtorEq];done)|simp[aQ,aG,aj,Ab.get,ax,bC,ay,bf,aX,au,aF,aH,ak,aN,aO,aI,aK,aJ,ae,List.flatten]) (h4:∀id,x.d0 id→ae s'.st id=true∧id=id:=by exact eU (by assumption) (by simp[ae,Ab.get])):qc x s s':=bD (fun i=>i) hn he ⟨h1,h2,h3,h4⟩
theorem RH {E:Prop} (e:E) (hn:s'.n=s.n:=by rfl) (he:E→∀p∈s'.env,get s.env p.1=some (bg (fun i=>i) p.2)∧ax (ae s'.st) p.2:=by intro e9;first|(simp only[kE,aC,bf,aX,au,aF, ↓reduceIte,Nat.reduceEqDiff,reduceCtorEq,e9];done)|simp[aQ,aG,aj,Ab.get,ax,bC,ay,bf,aX,au,aF,aH,ak,aN,aO,aI,aK,aJ,ae,List.flatten,e9]) (h1:E→∀p∈s'.st,get s.st ((fun i=>i) p.1)=some (aS (fun i=>i) p.2):=by intro e9;first|(simp only[kE,aC,bf,aX,au,aF, ↓reduceIte,Nat.reduceEqDiff,reduceCtorEq,e9];done)|simp[aQ,aG,aj,Ab.get,ax,bC,ay,bf,aX,au,aF,aH,ak,aN,aO,aI,aK,aJ,ae,List.flatten,e9]) (h2:E→(s'.st.map fun p=>(fun i=>i) p.1).Nodup:=by intro e9;first|(simp only[kE,aC,bf,aX,au,aF, ↓reduceIte,Nat.reduceEqDiff,reduceCtorEq,e9];done)|simp[aQ,aG,aj,Ab.get,ax,bC,ay,bf,aX,au,aF,aH,ak,aN,aO,aI,aK,aJ,ae,List.flatten,e9]) (h3:E→∀p∈s'.st,aH (ae s'.st) p.2:=by intro e9;first|(simp only[kE,aC,bf,aX,au,aF, ↓reduceIte,Nat.reduceEqDiff,reduceCtorEq,e9];done)|simp[aQ,aG,aj,Ab.get,ax,bC,ay,bf,aX,au,aF,aH,ak,aN,aO,aI,aK,aJ,ae,List.flatten,e9]) (h4:∀id,x.d0 id→ae s'.st id=true∧id=id:=by exact eU (by assumption) (by simp[ae,Ab.get])):qc x s s':=bD (fun i=>i) hn (he e) ⟨h1 e,h2 e,h3 e,h4⟩
theorem OU (ρ:Nat→Nat) (hn:s'.n=s.n:=by rfl) (he:∀p∈s'.env,get s.env p.1=some (bg ρ p.2)∧ax (ae s'.st) p.2:=by first|(simp only[kE,aC, ↓reduceIte,Nat.reduceEqDiff,reduceCtorEq];done)|(simp only[aC,gK,gm,TS,TV,Uk,forall_eq_or_imp,forall_eq];simp[bg,bG,aS,bY,aj,Ab.get,ax,bC,ay,bf,aX,au,aF,ak,dB,aH,aN,aO,aI,aK,aJ,ae,List.flatten];done)|simp[bg,bG,aS,bY,aj,Ab.get,ax,bC,ay,bf,aX,au,aF,ak,dB,aH,aN,aO,aI,aK,aJ,ae,List.flatten]) (h1:∀p∈s'.st,get s.st (ρ p.1)=some (aS ρ p.2):=by first|(simp only[kE,aC, ↓reduceIte,Nat.reduceEqDiff,reduceCtorEq];done)|(simp only[aC,gK,gm,TS,TV,Uk,forall_eq_or_imp,forall_eq];simp[bg,bG,aS,bY,aj,Ab.get,ax,bC,ay,bf,aX,au,aF,ak,dB,aH,aN,aO,aI,aK,aJ,ae,List.flatten];done)|simp[bg,bG,aS,bY,aj,Ab.get,ax,bC,ay,bf,aX,au,aF,ak,dB,aH,aN,aO,aI,aK,aJ,ae,List.flatten]) (h2:(s'.st.map fun p=>ρ p.1).Nodup:=by first|(simp only[kE,aC, ↓reduceIte,Nat.reduceEqDiff,reduceCtorEq];done)|(simp only[aC,gK,gm,TS,TV,Uk,forall_eq_or_imp,forall_eq];simp[bg,bG,aS,bY,aj,Ab.get,ax,bC,ay,bf,aX,au,aF,ak,dB,aH,aN,aO,aI,aK,aJ,ae,List.flatten];done)|simp[bg,bG,aS,bY,aj,Ab.get,ax,bC,ay,bf,aX,au,aF,ak,dB,aH,aN,aO,aI,aK,aJ,ae,List.flatten]) (h3:∀p∈s'.st,aH (ae s'.st) p.2:=by first|(simp only[kE,aC, ↓reduceIte,Nat.reduceEqDiff,reduceCtorEq];done)|(simp only[aC,gK,gm,TS,TV,Uk,forall_eq_or_imp,forall_eq];simp[bg,bG,aS,bY,aj,Ab.get,ax,bC,ay,bf,aX,au,aF,ak,dB,aH,aN,aO,aI,aK,aJ,ae,List.flatten];done)|simp[bg,bG,aS,bY,aj,Ab.get,ax,bC,ay,bf,aX,au,aF,ak,dB,aH,aN,aO,aI,aK,aJ,ae,List.flatten]) (h4:∀id,x.d0 id→ae s'.st id=true∧ρ id=id:=by exact keepR (by assumption) (by simp[ae,Ab.get])):qc x s s':=bD ρ hn he ⟨h1,h2,h3,h4⟩
theorem Jv {E:Prop} (e:E) (ρ:Nat→Nat) (hn:s'.n=s.n:=by rfl) (he:E→∀p∈s'.env,get s.env p.1=some (bg ρ p.2)∧ax (ae s'.st) p.2:=by intro e9;first|(simp only[kE,aC, ↓reduceIte,Nat.reduceEqDiff,reduceCtorEq];done)|(simp only[aC,gK,gm,TS,TV,Uk,forall_eq_or_imp,forall_eq];simp[bg,bG,aS,bY,aj,Ab.get,ax,bC,ay,bf,aX,au,aF,ak,dB,aH,aN,aO,aI,aK,aJ,ae,List.flatten,e9];done)|simp[bg,bG,aS,bY,aj,Ab.get,ax,bC,ay,bf,aX,au,aF,ak,dB,aH,aN,aO,aI,aK,aJ,ae,List.flatten,e9]) (h1:E→∀p∈s'.st,get s.st (ρ p.1)=some (aS ρ p.2):=by intro e9;first|(simp only[kE,aC, ↓reduceIte,Nat.reduceEqDiff,reduceCtorEq];done)|(simp only[aC,gK,gm,TS,TV,Uk,forall_eq_or_imp,forall_eq];simp[bg,bG,aS,bY,aj,Ab.get,ax,bC,ay,bf,aX,au,aF,ak,dB,aH,aN,aO,aI,aK,aJ,ae,List.flatten,e9];done)|simp[bg,bG,aS,bY,aj,Ab.get,ax,bC,ay,bf,aX,au,aF,ak,dB,aH,aN,aO,aI,aK,aJ,ae,List.flatten,e9]) (h2:E→(s'.st.map fun p=>ρ p.1).Nodup:=by intro e9;first|(simp only[kE,aC, ↓reduceIte,Nat.reduceEqDiff,reduceCtorEq];done)|(simp only[aC,gK,gm,TS,TV,Uk,forall_eq_or_imp,forall_eq];simp[bg,bG,aS,bY,aj,Ab.get,ax,bC,ay,bf,aX,au,aF,ak,dB,aH,aN,aO,aI,aK,aJ,ae,List.flatten,e9];done)|simp[bg,bG,aS,bY,aj,Ab.get,ax,bC,ay,bf,aX,au,aF,ak,dB,aH,aN,aO,aI,aK,aJ,ae,List.flatten,e9]) (h3:E→∀p∈s'.st,aH (ae s'.st) p.2:=by intro e9;first|(simp only[kE,aC, ↓reduceIte,Nat.reduceEqDiff,reduceCtorEq];done)|(simp only[aC,gK,gm,TS,TV,Uk,forall_eq_or_imp,forall_eq];simp[bg,bG,aS,bY,aj,Ab.get,ax,bC,ay,bf,aX,au,aF,ak,dB,aH,aN,aO,aI,aK,aJ,ae,List.flatten,e9];done)|simp[bg,bG,aS,bY,aj,Ab.get,ax,bC,ay,bf,aX,au,aF,ak,dB,aH,aN,aO,aI,aK,aJ,ae,List.flatten,e9]) (h4:∀id,x.d0 id→ae s'.st id=true∧ρ id=id:=by exact keepR (by assumption) (by simp[ae,Ab.get])):qc x s s':=bD ρ hn (he e) ⟨h1 e,h2 e,h3 e,h4⟩
theorem gU {A:Prop} (g:G') (ha:A:=by simp[jP,ae,Ab.get]) (h:G'→G:=by intro h9;(try simp only[kP,Nat.reduceEqDiff, ↓reduceIte,reduceCtorEq,List.cons_append,List.nil_append]);exact h9):A∧G:=⟨ha,h g⟩
theorem gQ {dst:Option Tmp} {f:FuncId} {bs:List Operand} {ats:Array TypeId} {ty:TypeId} {pos:String} {after:Array Edge} {args:List AV} (st0:List (Nat×AO)) {R:AV→List (Nat×AO)→Prop} (hc:AC P f args st0 R)
 (hk:∀r st',R r st'→jP s st0 st'∧TO P x ops l ⟨s.n,cZ s.env dst r,ag s.st st'⟩ Q) (hd:∀i,dst=some i→i<s.n:=by simp) (he:fA s bs=some args:=by simp only[kV, ↓reduceIte,Nat.reduceEqDiff,reduceCtorEq];first|done|rfl)
 (l1:∀p∈st0,get s.st p.1=some p.2:=by simp[Ab.get]) (l2:∀p∈st0,aH (ae st0) p.2:=by simp[aH,aN,aO,aI,aK,aJ,aj,bf,aX,au,aF,ay,bC,ae,Ab.get]) (l3:∀a∈args,ax (ae st0) a:=by simp[ax,bC,ay,au,aF,ae,Ab.get]):
 TO P x ops (⟨dst, .call {callee:= .value (.func f),args:=bs.toArray,argTypes:=ats},ty,pos,after,none⟩::l) s Q:=Gv st0 hd he ⟨l1,l2,l3⟩ hc hk
theorem cf {dst:Option Tmp} {f:FuncId} {bs:List Operand} {ats:Array TypeId} {ty:TypeId} {pos:String} {after:Array Edge} {args:List AV} {R0:AV} (hc:AC P f args [] (fun r st=>r=R0∧st=[])) (g:G')
 (hk:G'→TO P x ops l ⟨s.n,cZ s.env dst R0,ag s.st []⟩ Q:=by intro h9;(try simp only[kP,Nat.reduceEqDiff, ↓reduceIte,reduceCtorEq,List.cons_append,List.nil_append]);exact h9) (hd:∀i,dst=some i→i<s.n:=by simp) (he:fA s bs=some args:=by simp only[kV, ↓reduceIte,Nat.reduceEqDiff,reduceCtorEq];first|done|rfl)
 (l3:∀a∈args,ax (ae []) a:=by simp[ax,bC,ay,au,aF,ae,Ab.get]):
 TO P x ops (⟨dst, .call {callee:= .value (.func f),args:=bs.toArray,argTypes:=ats},ty,pos,after,none⟩::l) s Q:=Gv [] hd he ⟨by simp,by simp,l3⟩ hc (by rintro r st' ⟨rfl,rfl⟩;exact⟨by simp[jP],hk g⟩)
theorem O1 (h:G:=by simp only[All,List.cons_append,List.nil_append,aZ,TS,TV,Uk,forall_eq_or_imp,forall_eq,ax,ay,bC,au,aF,Ug,UH,implies_true,Ub,List.length_cons,List.length_nil,aC,dS,bi];repeat' (first|exact trivial|refine And.intro ?_ ?_|intro _|assumption|rfl|omega|(rw[Uh];assumption)|(simp;done)|(simp only[TW] at*;omega)|(simp_all;done))):G:=h
theorem Pz {F0:Prop} (f0:F0) (h:F0→G:=by intro f0;simp only[All,List.cons_append,List.nil_append,aZ,TS,TV,Uk,forall_eq_or_imp,forall_eq,ax,ay,bC,au,aF,Ug,UH,implies_true,Ub,List.length_cons,List.length_nil,aC,dS,bi];repeat' (first|exact trivial|exact f0|exact f0 _|exact f0 (by assumption)|refine And.intro ?_ ?_|intro _|assumption|rfl|omega|(rw[Uh];assumption)|(simp;done)|(simp only[TW] at*;omega)|(simp_all;done))):G:=h f0
theorem RU {F0 F1:Prop} (f0:F0) (f1:F1) (h:F0→F1→G:=by intro f0 f1;simp only[All,List.cons_append,List.nil_append,aZ,TS,TV,Uk,forall_eq_or_imp,forall_eq,ax,ay,bC,au,aF,Ug,UH,implies_true,Ub,List.length_cons,List.length_nil,aC,dS,bi];repeat' (first|exact trivial|exact f0|exact f0 _|exact f0 (by assumption)|exact f1|exact f1 _|exact f1 (by assumption)|refine And.intro ?_ ?_|intro _|assumption|rfl|omega|(rw[Uh];assumption)|(simp;done)|(simp only[TW] at*;omega)|(simp_all;done))):G:=h f0 f1
theorem TC {wr:Bool} {id:Nat} {s1:S} (cs:List (Nat×AV)) {As:List A1} {ps:List Prop} (h:AA P wr l cs l s=some (As,ps,s1)) (ho:All ps) (hk:Q .normal s1) (hm:P.follows .mixedOrders=true:=by kernel_rfl) (hc:lU l As=true:=by kernel_rfl):
 T P x (.region id l.toArray true) s Q:=Fj cs hm h ho hc hk
theorem dr {id:Nat} {s1:S} (cs:List (Nat×AV)) {As:List A1} {ps:List Prop} (ho:All ps) (hk:Q .normal s1) (h:AA P false l cs l s=some (As,ps,s1):=by simp only[kD,kk,Nat.reduceAdd,Nat.reduceLT,Nat.reduceEqDiff, ↓reduceIte,reduceCtorEq];first|done|rfl) (hm:P.follows .mixedOrders=true:=by kernel_rfl) (hc:lU l As=true:=by kernel_rfl):
 T P x (.region id l.toArray true) s Q:=Fj cs hm h ho hc hk
theorem dx {id:Nat} {s1:S} (cs:List (Nat×AV)) {E:Prop} (e:E) {As:List A1} {ps:List Prop} (ho:All ps) (hk:Q .normal s1) (h:E→AA P false l cs l s=some (As,ps,s1):=by intro e9;simp only[kD,kk,Nat.reduceAdd,Nat.reduceLT,Nat.reduceEqDiff, ↓reduceIte,reduceCtorEq,e9];first|done|rfl) (hm:P.follows .mixedOrders=true:=by kernel_rfl) (hc:lU l As=true:=by kernel_rfl):
 T P x (.region id l.toArray true) s Q:=Fj cs hm (h e) ho hc hk
theorem so {o:Oper} (cs:List (Nat×AV)) {out:Out} (ho:All out.obl) (g:G') (hk:G'→TO P x ops l ⟨s.n,cZ s.env o.dst out.v,ag s.st out.upd⟩ Q:=by intro h9;simp only[kP,Nat.reduceEqDiff, ↓reduceIte,reduceCtorEq];exact h9) (hd:iV o s.n=true:=by rfl) (h:eY P false ops cs o s=some out:=by simp only[kD,kk,Nat.reduceAdd,Nat.reduceLT,Nat.reduceEqDiff, ↓reduceIte,reduceCtorEq];first|done|rfl):TO P x ops (o::l) s Q:=KD cs hd h ho (hk g)
theorem rA {rs:List ResultVar} {R:AV→List (Nat×AO)→Prop} {r:AV} {obl:List Prop} (st':List (Nat×AO)) (hR:R r st') (h:xm P rs s=some (r,obl):=by simp only[kR,kk, ↓reduceIte,Nat.reduceEqDiff,reduceCtorEq];first|done|rfl) (ho:All obl:=by first|exact trivial|(simp only[kO];omega)|(simp[All,aZ];first|done|omega)|(simp+contextual [All,aZ];first|done|grind)) (h1:∀p∈st',get s.st ((fun i=>i) p.1)=some (aS (fun i=>i) p.2):=by simp[Ab.get,aG]) (h2:(st'.map fun p=>(fun i=>i) p.1).Nodup:=by simp) (h3:∀p∈st',aH (ae st') p.2:=by simp[Ab.get,aH,ax,aN,aO,aI,aK,aJ,aj,ak,bf,aX,au,aF,ay,bC,ae]) (h4:∀id,x.d0 id→ae st' id=true∧id=id:=by exact eU (by assumption) (by simp[ae,Ab.get])) (hcl:ax (ae st') r:=by simp[Ab.get,aH,ax,aN,aO,aI,aK,aJ,aj,ak,bf,aX,au,aF,ay,bC,ae]):LQ P rs x R .ret s:=⟨.inl rfl,r,obl,h,ho,st',⟨h1,h2,h3,h4⟩,hcl,hR⟩
theorem rN {rs:List ResultVar} {R:AV→List (Nat×AO)→Prop} {r:AV} {obl:List Prop} (st':List (Nat×AO)) (hR:R r st') (h:xm P rs s=some (r,obl):=by simp only[kR,kk, ↓reduceIte,Nat.reduceEqDiff,reduceCtorEq];first|done|rfl) (ho:All obl:=by first|exact trivial|(simp only[kO];omega)|(simp[All,aZ];first|done|omega)|(simp+contextual [All,aZ];first|done|grind)) (h1:∀p∈st',get s.st ((fun i=>i) p.1)=some (aS (fun i=>i) p.2):=by simp[Ab.get,aG]) (h2:(st'.map fun p=>(fun i=>i) p.1).Nodup:=by simp) (h3:∀p∈st',aH (ae st') p.2:=by simp[Ab.get,aH,ax,aN,aO,aI,aK,aJ,aj,ak,bf,aX,au,aF,ay,bC,ae]) (h4:∀id,x.d0 id→ae st' id=true∧id=id:=by exact eU (by assumption) (by simp[ae,Ab.get])) (hcl:ax (ae st') r:=by simp[Ab.get,aH,ax,aN,aO,aI,aK,aJ,aj,ak,bf,aX,au,aF,ay,bC,ae]):LQ P rs x R .normal s:=⟨.inr rfl,r,obl,h,ho,st',⟨h1,h2,h3,h4⟩,hcl,hR⟩
theorem rV {rs:List ResultVar} {R:AV→List (Nat×AO)→Prop} {r:AV} {obl:List Prop} {e:Exit} (st':List (Nat×AO)) (hR:R r st') (he:e= .ret∨e= .normal:=by first|exact .inl rfl|exact .inr rfl) (h:xm P rs s=some (r,obl):=by simp only[kR,kk, ↓reduceIte,Nat.reduceEqDiff,reduceCtorEq];first|done|rfl) (ho:All obl:=by first|exact trivial|(simp only[kO];omega)|(simp[All,aZ];first|done|omega)|(simp+contextual [All,aZ];first|done|grind)) (h1:∀p∈st',get s.st ((fun i=>i) p.1)=some (aS (fun i=>i) p.2):=by simp[Ab.get,aG]) (h2:(st'.map fun p=>(fun i=>i) p.1).Nodup:=by simp) (h3:∀p∈st',aH (ae st') p.2:=by simp[Ab.get,aH,ax,aN,aO,aI,aK,aJ,aj,ak,bf,aX,au,aF,ay,bC,ae]) (h4:∀id,x.d0 id→ae st' id=true∧id=id:=by exact eU (by assumption) (by simp[ae,Ab.get])) (hcl:ax (ae st') r:=by simp[Ab.get,aH,ax,aN,aO,aI,aK,aJ,aj,ak,bf,aX,au,aF,ay,bC,ae]):LQ P rs x R e s:=⟨he,r,obl,h,ho,st',⟨h1,h2,h3,h4⟩,hcl,hR⟩
theorem jH {f:FuncId} {fn:Func} {c:Code} {args:List AV} {st:List (Nat×AO)} {R:AV→List (Nat×AO)→Prop} {n:Nat} {env:List (Nat×AV)} (hf:P.funcs[f]? =some fn) (hn:fn.ntmps=n) (h:∀x:X,(∀id,x.d0 id→ae st id=true)→T P x c ⟨n,env,st⟩ (LQ P fn.results.toList x R)) (hb:fn.body=some c:=by rfl) (hname:(fn.name=="runtime.NumGoroutine")=false:=by rfl)
 (he:(List.range args.length).zip args=env:=by simp only[List.range,List.range.loop,List.length,List.zip,List.zipWith];first|done|rfl) (hl:args.length≤n:=by simp only[List.length];omega):AC P f args st R:=CV hf hb hname (by rw[hn];exact hl) (by rw[hn,he];exact h)
end
end Go.Proofs.YtpoodoknkbojgaaGreatDoor
