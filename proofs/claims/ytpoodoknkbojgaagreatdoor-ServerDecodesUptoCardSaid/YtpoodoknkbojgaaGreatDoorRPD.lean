/- A part of the proof. -/
import Derived.Test.YtpoodoknkbojgaaGreatDoorRBd
import Derived.Test.YtpoodoknkbojgaaGreatDoorRAbDl
set_option linter.all false
namespace Go.Proofs.YtpoodoknkbojgaaGreatDoor
open Go.Ab Tys
def cnt (d:gI) (c:Int):Nat:=(d.revs.filter fun u=>decide (u.chg<c)).length
def SK (d:gI):Nat→Rev→Dw
 |0,v=>fileOf v
 |n+1,v=>
  match yj d v with
  |none=>fileOf v
  |some u=>if v.chg≤u.chg then fileOf v else SK d n u
def first (d:gI) (v:Rev):Dw:=SK d (cnt d v.chg) v
theorem uF {d:gI} {p:abW} {n:Int} {u:Rev} (h:zi d p n=some u):u∈d.revs∧u.path=p∧u.num=n:=by
 have h1:=List.mem_of_find?_eq_some h
 have h2:=List.find?_some h
 simp only[log,aaU] at h1
 exact⟨h1.1,by simpa using h1.2,by simpa using h2⟩
theorem Xq {d:gI} {v u:Rev} (h:yj d v=some u):u∈d.revs:=by
 unfold yj at h
 split at h
 ·cases h
 ·split at h
  ·exact(uF h).1
  ·exact(uF h).1
def hasPrefix (s p:abW):Bool:=decide (p.size≤s.size)&&decide (s.extract 0 p.size=p)
@[reducible] def slash:abW:={data:= #[47]}
theorem jE:slash.size=1:=rfl
theorem JL:((#[47]:Array UInt8).getD 0 0).toNat.toUInt8=47:=by decide
theorem indexByte_lt (l:List UInt8) (c:UInt8):Lib.indexByte l c<l.length:=by
 induction l with
 |nil=>simp[Lib.indexByte]
 |cons b l ih=>
  unfold Lib.indexByte
  split
  ·simp
  ·split
   ·simp;omega
   ·simp;omega
def jg (s:abW):Nat:=Lib.countByte s.data.toList 47
def lU (s:abW):Int:=Lib.indexByte s.data.toList 47
theorem Nk (s:abW):jg s≤s.size:=by
 unfold jg Lib.countByte
 have:=List.count_le_length (a:=(47:UInt8)) (l:=s.data.toList)
 simpa using this
theorem Vo (s:abW):lU s<s.size:=by
 have:=indexByte_lt s.data.toList 47
 simpa[lU] using this
theorem U7 (s:abW): -1≤lU s:=Lib.indexByte_ge _ _
def splitN:Nat→abW→List abW
 |0,s=>[s]
 |n+1,s=>if lU s<0 then [s] else s.extract 0 (lU s).toNat::splitN n (s.extract ((lU s).toNat+1) s.size)
def split (s:abW):List abW:=splitN (jg s) s
@[reducible] def encS (b:abW):List D:=[.v (.string b)]
@[reducible] def yw (l:List abW):AV:= .c (.d (.ps 1 (l.map encS)))
theorem Ad:∀(n:Nat) (s:abW),(splitN n s).length≤n+1
 |0,s=>by simp[splitN]
 |n+1,s=>by
  simp only[splitN]
  split
  ·simp
  ·simpa using Ad n _
theorem Vu {α:Type} (e:α→List D) (l:List α) (i:Nat) (v:α) (n:Nat) (hn:∀a,(e a).length=n):
 ((l.map e).map fun l=>l.map C.d).set i ((e v).map C.d++List.drop n (((l.map e).map fun l=>l.map C.d).getD i []))=((l.set i v).map e).map fun l=>l.map C.d:=by
 by_cases h:i<l.length
 ·have:(((l.map e).map fun l=>l.map C.d).getD i []).length=n:=by simp[List.getD,h,hn]
  rw[abo (by omega),aaM];simp[List.map_set]
 ·rw[List.set_eq_of_length_le (by simp;omega),List.set_eq_of_length_le (by omega)]
theorem TB (l:List abW) (i:Nat) (v:abW):((l.map encS).map fun l=>l.map C.d).set i (C.d (.v (.string v))::List.drop 1 (((l.map encS).map fun l=>l.map C.d).getD i []))=((l.set i v).map encS).map fun l=>l.map C.d:=
 Vu encS l i v 1 (fun _=>rfl)
theorem Aa {n:Nat} {s:abW} (h:lU s<0):splitN n s=[s]:=by
 cases n with
 |zero=>rfl
 |succ n=>simp[splitN,h]
theorem ED (done:List abW) (k:Nat) (e v:abW):(done++List.replicate (k+1) e).set done.length v=(done++[v])++List.replicate k e:=by
 rw[List.set_append,if_neg (by omega)];simp[List.replicate_succ]
theorem Ie (done:List abW) (k:Nat) (rest:abW) (h:0<k):((done++List.replicate k ByteArray.empty).set done.length rest).take (done.length+1)=done++[rest]:=by
 obtain⟨j,rfl⟩:∃j,k=j+1:=⟨k-1,by omega⟩
 rw[ED,List.take_append_of_le_length (by simp),aaP (by simp)]
@[reducible] def letters:abW:={data:=([65,66,67,68,69,70,71,72,73,74,75,76,77,78,79,80,81,82,83,84,85,86,87,88,89,90,97,98,99,100,101,102,103].append [104,105,106,107,108,109,110,111,112,113,114,115,116,117,118,119,120,121,122,48,49,50,51,52,53,54,55,56,57,95,46,43,45]).toArray}
def okB (b:Int):Bool:=decide (0≤Lib.indexByte letters.data.toList b.toNat.toUInt8)
@[reducible] def byteAt (s:abW) (k:Nat):Int:=((s.data.getD k 0).toNat:Int)
def comp (s:abW):Bool:=!(decide (s={data:= #[]})||decide (byteAt s 0=46))&&(List.range s.size).all fun k=>okB (byteAt s k)
theorem nP (n k:Nat) (p:Nat→Bool) (hk:k<n) (h:(List.range n).all p=true):p k=true:=by
 rw[aaC] at h;exact h k (aa3.2 hk)
theorem iR {s:abW} (h:s≠{data:= #[]}):0<s.size:=by
 rcases Nat.eq_zero_or_pos s.size with e|e
 ·exfalso;apply h;cases s with|mk d=>have:d.size=0:=e
                                     rw[Array.eq_empty_of_size_eq_zero this]
 ·exact e
@[reducible] def fA:abW:={data:= #[47,47]}
theorem pO:∀(n:Nat) (s x:abW),x∈splitN n s→x.size≤s.size
 |0,s,x,h=>by simp[splitN] at h;rw[h];omega
 |n+1,s,x,h=>by
  simp only[splitN] at h
  split at h
  ·simp at h;rw[h];omega
  ·rcases Z9.1 h with rfl|h
   ·simp;omega
   ·have:=pO n _ x h;simp at this;omega
def QF (p:abW):Option (List abW):=if hasPrefix p fA then(if(split (p.extract 2 p.size)).all comp then some (split (p.extract 2 p.size)) else none) else none
theorem xH (s:abW):(split s).length≤s.size+1:=aav (Ad _ _) (by have:=Nk s;omega)
def iE (p:abW):Option (List abW):=match QF p with|some l=>if l.length<2 then none else some l|none=>none
def cb (a b:abW):Int:=Lib.compareBytes a.data.toList b.data.toList
def cmpL:List abW→List abW→Int
 |[],[]=>0
 |[],_::_=> -1
 |_::_,[]=>1
 |a::l,b::m=>if cb a b=0 then cmpL l m else cb a b
def ord (p q:abW):Int:=
 match iE p,iE q with
 |none,none=>cb p q
 |none,some _=> -1
 |some _,none=>1
 |some a,some b=>cmpL a b
theorem Xt {p:abW} {l:List abW} (h:iE p=some l):l.length≤p.size+1:=by
 unfold iE at h
 split at h
 ·rename_i l' hl
  split at h
  ·cases h
  ·cases h
   unfold QF at hl
   split at hl
   ·split at hl
    ·cases hl
     have:=xH (p.extract 2 p.size)
     simp at this;omega
    ·cases hl
   ·cases hl
 ·cases h
def before (a b:iI):Bool:=
 if ord a.to b.to≠0 then decide (ord a.to b.to<0) else if a.num≠b.num then decide (a.num<b.num) else if ord a.frm b.frm≠0 then decide (ord a.frm b.frm<0) else decide (a.first<b.first)
def ZM (r:iI):Prop:=r.frm.size≤100000∧r.to.size≤100000
def vT:iI:=⟨ByteArray.empty,0,0,ByteArray.empty,0,0⟩
def yh:Nat→List iI→List iI
 |0,l=>l
 |k+1,l=>if before (l.getD (k+1) vT) (l.getD k vT) then yh k ((l.set (k+1) (l.getD k vT)).set k (l.getD (k+1) vT)) else l
def D8 (l:List iI):Nat→List iI
 |0=>l
 |k+1=>yh k (D8 l k)
def LY (l:List iI):List iI:=D8 l l.length
theorem RU {l:List iI} {i j:Nat} {v w:iI} (hv:v∈l) (hw:w∈l) {P:iI→Prop} (h:∀r∈l,P r):∀r∈(l.set i w).set j v,P r:=by
 intro r hr
 rcases abr hr with hr|rfl
 ·rcases abr hr with hr|rfl
  ·exact h r hr
  ·exact h _ hw
 ·exact h _ hv
def WG (base:Int) (kw xe:Bool):Bool:=decide (base<1)||decide (3<base)||(kw&&!decide (base=1))||(xe&&decide (base=3))
def Ip (x y:mV):Bool:=(decide (x.act=5)&&decide (y.act=4)&&decide (y.frm=x.path))||(decide (x.act=4)&&decide (y.act=5)&&decide (y.path=x.frm))
def RI (c:xY) (x:mV):Nat:=(c.edits.filter (Ip x)).length
def Lr (c:xY) (x:mV):Bool:=decide ((RI c x:Int)=1)||(!decide (x.act=5)&&!decide (x.act=4))
def dP:mV:=⟨ByteArray.empty,0,0,false,false,false,0,0,0,ByteArray.empty,0,0⟩
def ZT (e:mV):Prop:=e.path.size≤100000
structure La (d:gI) (c:xY) (i:Nat) (e:mV):Prop where
 okPath:(iE e.path).isSome=true
 okOrder:0<i→ord (c.edits.getD (i-1) dP).path e.path<0
 okLo:1≤e.act
 okHi:e.act≤5
 okLive:(e.act=1∨e.act=4)↔live d e.path=false
 okPrev:e.prev=dU d e.path
 okFrm:e.act=4→live d e.frm=true∧dU d e.frm=e.fnum∧e.frm≠e.path
 okGone:e.act=3∨e.act=5→e.sum=0∧e.size=0
 okTyp:WG e.base e.kw e.xe=false∧0≤e.size
@[reducible] def O4 (d:gI) (p:abW) (n:Int):Rev:=(zi d p n).getD Ox
def Y1 (r:iI) (e:mV):Prop:=e.path=r.to∧wr (e.prev+1)=r.num∧¬e.act=5
structure XV (d:gI) (c:xY) (r:iI):Prop where
 okHow:1≤r.how∧r.how≤4
 okLo:1≤r.first
 okLe:r.first≤r.last
 okHi:r.last≤(log d r.frm).length
 okLine:∀n,r.first≤n→n≤r.last→¬(O4 d r.frm n).act=5∧first d (O4 d r.frm n)=first d (O4 d r.frm r.last)
 okTgt:∃e∈c.edits,Y1 r e∧(¬e.act=1→¬first d ((yj d (made c e)).getD Ox)=first d (O4 d r.frm r.last))
structure Aw (d:gI) (c:xY):Prop where
 len1:1≤c.edits.length
 len2:c.edits.length≤64
 len3:c.recs.length≤64
 num:1≤c.num∧c.num≤1073741824
 old:∀v∈d.revs,v.chg<c.num
 edit:∀i,i<c.edits.length→La d c i (c.edits.getD i dP)
 move:∀e∈c.edits,Lr c e=true
 recd:∀i,i<c.recs.length→XV d c (c.recs.getD i vT)
 tot1:d.revs.length+c.edits.length≤512
 tot2:d.recs.length+c.recs.length≤512
theorem E8:∀(k:Nat) (l:List iI),(yh k l).length=l.length
 |0,l=>rfl
 |k+1,l=>by
  simp only[yh]
  split
  ·rw[E8 k];simp
  ·rfl
theorem EK {P:iI→Prop}:∀(k:Nat) (l:List iI),k<l.length→(∀r∈l,P r)→∀r∈yh k l,P r
 |0,l,_,h=>h
 |k+1,l,hk,h=>by
  simp only[yh]
  split
  ·refine EK k _ (by simp;omega) (RU ?_ ?_ h)
   ·rw[aam,aab hk];simp
   ·rw[aam,aab (by omega:k<l.length)];simp
  ·exact h
theorem ry (l:List iI):∀k,(D8 l k).length=l.length
 |0=>rfl
 |k+1=>by rw[D8,E8,ry l k]
theorem EU {P:iI→Prop} {l:List iI} (h:∀r∈l,P r):∀k,k≤l.length→∀r∈D8 l k,P r
 |0,_=>h
 |k+1,hk=>EK k _ (by rw[ry];omega) (EU h k (by omega))
theorem PT (l:List iI):(LY l).length=l.length:=ry l _
theorem O9 {P:iI→Prop} {l:List iI} (h:∀r∈l,P r):∀r∈LY l,P r:=EU h _ (aat _)
def jm (d:gI) (c:xY):gI:=⟨d.revs++c.edits.map (made c),LY (d.recs++c.recs)⟩
def Z7 (c:xY):Prop:=(∀e∈c.edits,ZT e)∧(∀r∈c.recs,ZM r)∧c.edits.length≤100000∧c.recs.length≤100000
inductive lI:List xY→gI→Prop
 |nil:lI [] Tz
 |skip {l:List xY} {d:gI} (c:xY) (h:lI l d):lI (l++[c]) d
 |app {l:List xY} {d:gI} {c:xY} (h:lI l d) (hc:Z7 c) (hk:Aw d c):lI (l++[c]) (jm d c)
theorem lI.ok {l:List xY} {d:gI} (h:lI l d):d.revs.length≤512∧d.recs.length≤512∧∀r∈d.recs,ZM r:=by
 induction h with
 |nil=>simp[Tz]
 |skip c h ih=>exact ih
 |app h hc hk ih=>
  refine⟨?_,?_,?_⟩
  ·have:=hk.tot1;simp[jm];omega
  ·have:=hk.tot2;simp[jm,PT];omega
  ·exact O9 fun r hr=>by rcases aay.1 hr with hr|hr;exact ih.2.2 r hr;exact hc.2.1 r hr
def GN (d:gI) (p:abW) (n:Int):Option Rev:=match zi d p n with|some v=>if v.act=5 then none else some v|none=>none
def Xf (d:gI) (f:Dw) (v:Rev):Bool:=!decide (v.act=5)&&decide (first d v=f)
def line (d:gI) (f:Dw):List Rev:=d.revs.filter (Xf d f)
end Go.Proofs.YtpoodoknkbojgaaGreatDoor
namespace Go.Proofs.YtpoodoknkbojgaaGreatDoor.Tys
open Go.Ab Go.Proofs
end Go.Proofs.YtpoodoknkbojgaaGreatDoor.Tys
set_option linter.all false
namespace Go.Proofs.YtpoodoknkbojgaaGreatDoor
open Go.Ab Tys
theorem p2 {A B:Prop} (a:A) (b:B):A∧B:=⟨a,b⟩
theorem p3 {A B C:Prop} (a:A) (b:B) (c:C):A∧B∧C:=⟨a,b,c⟩
theorem p4 {A B C D:Prop} (a:A) (b:B) (c:C) (d:D):A∧B∧C∧D:=⟨a,b,c,d⟩
theorem p5 {A B C D E:Prop} (a:A) (b:B) (c:C) (d:D) (e:E):A∧B∧C∧D∧E:=⟨a,b,c,d,e⟩
theorem p6 {A B C D E F:Prop} (a:A) (b:B) (c:C) (d:D) (e:E) (f:F):A∧B∧C∧D∧E∧F:=⟨a,b,c,d,e,f⟩
theorem p7 {A B C D E F G:Prop} (a:A) (b:B) (c:C) (d:D) (e:E) (f:F) (g:G):A∧B∧C∧D∧E∧F∧G:=⟨a,b,c,d,e,f,g⟩
theorem p8 {A B C D E F G H:Prop} (a:A) (b:B) (c:C) (d:D) (e:E) (f:F) (g:G) (h:H):A∧B∧C∧D∧E∧F∧G∧H:=⟨a,b,c,d,e,f,g,h⟩
theorem p9 {A B C D E F G H I:Prop} (a:A) (b:B) (c:C) (d:D) (e:E) (f:F) (g:G) (h:H) (i:I):A∧B∧C∧D∧E∧F∧G∧H∧I:=⟨a,b,c,d,e,f,g,h,i⟩
theorem p10 {A B C D E F G H I J:Prop} (a:A) (b:B) (c:C) (d:D) (e:E) (f:F) (g:G) (h:H) (i:I) (j:J):A∧B∧C∧D∧E∧F∧G∧H∧I∧J:=⟨a,b,c,d,e,f,g,h,i,j⟩
theorem p11 {A B C D E F G H I J K:Prop} (a:A) (b:B) (c:C) (d:D) (e:E) (f:F) (g:G) (h:H) (i:I) (j:J) (k:K):A∧B∧C∧D∧E∧F∧G∧H∧I∧J∧K:=⟨a,b,c,d,e,f,g,h,i,j,k⟩
theorem p12 {A B C D E F G H I J K L:Prop} (a:A) (b:B) (c:C) (d:D) (e:E) (f:F) (g:G) (h:H) (i:I) (j:J) (k:K) (l:L):A∧B∧C∧D∧E∧F∧G∧H∧I∧J∧K∧L:=⟨a,b,c,d,e,f,g,h,i,j,k,l⟩
theorem p13 {A B C D E F G H I J K L M:Prop} (a:A) (b:B) (c:C) (d:D) (e:E) (f:F) (g:G) (h:H) (i:I) (j:J) (k:K) (l:L) (m:M):A∧B∧C∧D∧E∧F∧G∧H∧I∧J∧K∧L∧M:=⟨a,b,c,d,e,f,g,h,i,j,k,l,m⟩
theorem X6 {A B C D E F G H I J K L M N:Prop} (a:A) (b:B) (c:C) (d:D) (e:E) (f:F) (g:G) (h:H) (i:I) (j:J) (k:K) (l:L) (m:M) (n:N):A∧B∧C∧D∧E∧F∧G∧H∧I∧J∧K∧L∧M∧N:=⟨a,b,c,d,e,f,g,h,i,j,k,l,m,n⟩
theorem ZO {A B C D E F G H I J K L M N O:Prop} (a:A) (b:B) (c:C) (d:D) (e:E) (f:F) (g:G) (h:H) (i:I) (j:J) (k:K) (l:L) (m:M) (n:N) (o:O):A∧B∧C∧D∧E∧F∧G∧H∧I∧J∧K∧L∧M∧N∧O:=⟨a,b,c,d,e,f,g,h,i,j,k,l,m,n,o⟩
theorem p16 {A B C D E F G H I J K L M N O P:Prop} (a:A) (b:B) (c:C) (d:D) (e:E) (f:F) (g:G) (h:H) (i:I) (j:J) (k:K) (l:L) (m:M) (n:N) (o:O) (p:P):A∧B∧C∧D∧E∧F∧G∧H∧I∧J∧K∧L∧M∧N∧O∧P:=⟨a,b,c,d,e,f,g,h,i,j,k,l,m,n,o,p⟩
section
variable [Dr] {P:Program} {x:X} {s s':S} {Q:Exit→S→Prop} {ops l l':List Oper} {G G':Prop}
structure Hid (G:Prop):Prop where
 out:G
theorem jk (g:G') (h:G'→G:=by intro h9;(repeat (with_reducible first|refine na ?_|refine nb ?_|refine nc ?_|refine nd ?_|refine ne ?_|refine nf ?_|refine ng ?_|refine nh ?_|refine ni ?_|refine nj ?_|refine nk ?_|refine nl ?_|refine nm (by decide) ?_|refine nn ?_));exact h9):G:=h g
theorem Ym (g:G') (h:G'→G:=by intro h9;(with_reducible first|refine na ?_|refine nb ?_|refine nc ?_|refine nd ?_|refine ne ?_|refine nf ?_|refine ng ?_|refine nh ?_|refine ni ?_|refine nj ?_|refine nk ?_|refine nl ?_|refine nm (by decide) ?_|refine nn ?_);(repeat (with_reducible first|refine na ?_|refine nb ?_|refine nc ?_|refine nd ?_|refine ne ?_|refine nf ?_|refine ng ?_|refine nh ?_|refine ni ?_|refine nj ?_|refine nk ?_|refine nl ?_|refine nm (by decide) ?_|refine nn ?_));exact h9):G:=h g
theorem dQ (g:G') (h:G'→G:=by intro h9;simp only[Ab.put,Nat.reduceEqDiff, ↓reduceIte,reduceCtorEq,if_false,if_true];exact h9):G:=h g
theorem XO {wr:Bool} {ps:List Prop} (h:OJ P wr ops 400 l s=some (s',ps,l')) (hk:TO P x ops l' s' Q) (ho:All ps:=by first|exact trivial|(simp only[kO];omega)|(simp[All,aV];first|done|omega)|(simp+contextual [All,aV];first|done|grind)):TO P x ops l s Q:=bu 400 h ho hk
theorem nv (g:G') (h:Hid G'→G:=by intro h9;(first|refine Ym ?_|refine XO (wr:=false) (by simp only[kk,Nat.reduceAdd,Nat.reduceLT,Nat.reduceEqDiff, ↓reduceIte,reduceCtorEq];first|done|rfl) ?_);(repeat (first|refine Ym ?_|refine XO (wr:=false) (by simp only[kk,Nat.reduceAdd,Nat.reduceLT,Nat.reduceEqDiff, ↓reduceIte,reduceCtorEq];first|done|rfl) ?_));exact h9.out):G:=h ⟨g⟩
theorem nx {E:Prop} (e:E) (g:G') (h:E→Hid G'→G:=by intro e9 h9;(first|refine Ym ?_|refine XO (wr:=false) (by simp only[kk,Nat.reduceAdd,Nat.reduceLT,Nat.reduceEqDiff, ↓reduceIte,reduceCtorEq,e9];first|done|rfl) ?_);(repeat (first|refine Ym ?_|refine XO (wr:=false) (by simp only[kk,Nat.reduceAdd,Nat.reduceLT,Nat.reduceEqDiff, ↓reduceIte,reduceCtorEq,e9];first|done|rfl) ?_));exact h9.out):G:=h e ⟨g⟩
theorem gg {ps:List Prop} (hk:TO P x ops l' s' Q) (h:OJ P false ops 400 l s=some (s',ps,l'):=by simp only[kk,Nat.reduceAdd,Nat.reduceLT,Nat.reduceEqDiff, ↓reduceIte,reduceCtorEq];first|done|rfl) (ho:All ps:=by first|exact trivial|(simp only[kO];omega)|(simp[All,aV];first|done|omega)|(simp+contextual [All,aV];first|done|grind)):TO P x ops l s Q:=bu 400 h ho hk
theorem gq {ps:List Prop} (ho:All ps) (hk:TO P x ops l' s' Q) (h:OJ P false ops 400 l s=some (s',ps,l'):=by simp only[kk,Nat.reduceAdd,Nat.reduceLT,Nat.reduceEqDiff, ↓reduceIte,reduceCtorEq];first|done|rfl):TO P x ops l s Q:=bu 400 h ho hk
theorem aU {c:Operand} {d d':Code} {b:Bool} (h1:b=true→T P x d s Q) (h2:b=false→T P x d' s Q) (hc:ev s c=some (B b):=by simp only[kV, ↓reduceIte,Nat.reduceEqDiff,reduceCtorEq];first|done|rfl):T P x (.cond c d d') s Q:=xJ hc h1 h2
theorem fM (hn:s'.n=s.n:=by rfl) (he:∀p∈s'.env,get s.env p.1=some (bF (fun i=>i) p.2)∧aA (ae s'.st) p.2:=by first|(simp only[kE,aC,bC,bz,ak,aK, ↓reduceIte,Nat.reduceEqDiff,reduceCtorEq];done)|simp[aO,aB,ag,Ab.get,aA,bi,ax,bC,bz,ak,aK,aN,au,aF,aI,aG,aJ,aH,ae,List.flatten]) (h1:∀p∈s'.st,get s.st ((fun i=>i) p.1)=some (aX (fun i=>i) p.2):=by first|(simp only[kE,aC,bC,bz,ak,aK, ↓reduceIte,Nat.reduceEqDiff,reduceCtorEq];done)|simp[aO,aB,ag,Ab.get,aA,bi,ax,bC,bz,ak,aK,aN,au,aF,aI,aG,aJ,aH,ae,List.flatten]) (h2:(s'.st.map fun p=>(fun i=>i) p.1).Nodup:=by first|(simp only[kE,aC,bC,bz,ak,aK, ↓reduceIte,Nat.reduceEqDiff,reduceCtorEq];done)|simp[aO,aB,ag,Ab.get,aA,bi,ax,bC,bz,ak,aK,aN,au,aF,aI,aG,aJ,aH,ae,List.flatten]) (h3:∀p∈s'.st,aN (ae s'.st) p.2:=by first|(simp only[kE,aC,bC,bz,ak,aK, ↓reduceIte,Nat.reduceEqDiff,reduceCtorEq];done)|simp[aO,aB,ag,Ab.get,aA,bi,ax,bC,bz,ak,aK,aN,au,aF,aI,aG,aJ,aH,ae,List.flatten]) (h4:∀id,x.d0 id→ae s'.st id=true∧id=id:=by exact dK (by assumption) (by simp[ae,Ab.get])):mZ x s s':=aY (fun i=>i) hn he ⟨h1,h2,h3,h4⟩
theorem WF {E:Prop} (e:E) (hn:s'.n=s.n:=by rfl) (he:E→∀p∈s'.env,get s.env p.1=some (bF (fun i=>i) p.2)∧aA (ae s'.st) p.2:=by intro e9;first|(simp only[kE,aC,bC,bz,ak,aK, ↓reduceIte,Nat.reduceEqDiff,reduceCtorEq,e9];done)|simp[aO,aB,ag,Ab.get,aA,bi,ax,bC,bz,ak,aK,aN,au,aF,aI,aG,aJ,aH,ae,List.flatten,e9]) (h1:E→∀p∈s'.st,get s.st ((fun i=>i) p.1)=some (aX (fun i=>i) p.2):=by intro e9;first|(simp only[kE,aC,bC,bz,ak,aK, ↓reduceIte,Nat.reduceEqDiff,reduceCtorEq,e9];done)|simp[aO,aB,ag,Ab.get,aA,bi,ax,bC,bz,ak,aK,aN,au,aF,aI,aG,aJ,aH,ae,List.flatten,e9]) (h2:E→(s'.st.map fun p=>(fun i=>i) p.1).Nodup:=by intro e9;first|(simp only[kE,aC,bC,bz,ak,aK, ↓reduceIte,Nat.reduceEqDiff,reduceCtorEq,e9];done)|simp[aO,aB,ag,Ab.get,aA,bi,ax,bC,bz,ak,aK,aN,au,aF,aI,aG,aJ,aH,ae,List.flatten,e9]) (h3:E→∀p∈s'.st,aN (ae s'.st) p.2:=by intro e9;first|(simp only[kE,aC,bC,bz,ak,aK, ↓reduceIte,Nat.reduceEqDiff,reduceCtorEq,e9];done)|simp[aO,aB,ag,Ab.get,aA,bi,ax,bC,bz,ak,aK,aN,au,aF,aI,aG,aJ,aH,ae,List.flatten,e9]) (h4:∀id,x.d0 id→ae s'.st id=true∧id=id:=by exact dK (by assumption) (by simp[ae,Ab.get])):mZ x s s':=aY (fun i=>i) hn (he e) ⟨h1 e,h2 e,h3 e,h4⟩
theorem Ro (ρ:Nat→Nat) (hn:s'.n=s.n:=by rfl) (he:∀p∈s'.env,get s.env p.1=some (bF ρ p.2)∧aA (ae s'.st) p.2:=by first|(simp only[kE,aC, ↓reduceIte,Nat.reduceEqDiff,reduceCtorEq];done)|(simp only[aC,iQ,iO,Z9,aad,aaw,forall_eq_or_imp,forall_eq];simp[bF,bP,aX,dD,ag,Ab.get,aA,bi,ax,bC,bz,ak,aK,au,eP,aN,aF,aI,aG,aJ,aH,ae,List.flatten];done)|simp[bF,bP,aX,dD,ag,Ab.get,aA,bi,ax,bC,bz,ak,aK,au,eP,aN,aF,aI,aG,aJ,aH,ae,List.flatten]) (h1:∀p∈s'.st,get s.st (ρ p.1)=some (aX ρ p.2):=by first|(simp only[kE,aC, ↓reduceIte,Nat.reduceEqDiff,reduceCtorEq];done)|(simp only[aC,iQ,iO,Z9,aad,aaw,forall_eq_or_imp,forall_eq];simp[bF,bP,aX,dD,ag,Ab.get,aA,bi,ax,bC,bz,ak,aK,au,eP,aN,aF,aI,aG,aJ,aH,ae,List.flatten];done)|simp[bF,bP,aX,dD,ag,Ab.get,aA,bi,ax,bC,bz,ak,aK,au,eP,aN,aF,aI,aG,aJ,aH,ae,List.flatten]) (h2:(s'.st.map fun p=>ρ p.1).Nodup:=by first|(simp only[kE,aC, ↓reduceIte,Nat.reduceEqDiff,reduceCtorEq];done)|(simp only[aC,iQ,iO,Z9,aad,aaw,forall_eq_or_imp,forall_eq];simp[bF,bP,aX,dD,ag,Ab.get,aA,bi,ax,bC,bz,ak,aK,au,eP,aN,aF,aI,aG,aJ,aH,ae,List.flatten];done)|simp[bF,bP,aX,dD,ag,Ab.get,aA,bi,ax,bC,bz,ak,aK,au,eP,aN,aF,aI,aG,aJ,aH,ae,List.flatten]) (h3:∀p∈s'.st,aN (ae s'.st) p.2:=by first|(simp only[kE,aC, ↓reduceIte,Nat.reduceEqDiff,reduceCtorEq];done)|(simp only[aC,iQ,iO,Z9,aad,aaw,forall_eq_or_imp,forall_eq];simp[bF,bP,aX,dD,ag,Ab.get,aA,bi,ax,bC,bz,ak,aK,au,eP,aN,aF,aI,aG,aJ,aH,ae,List.flatten];done)|simp[bF,bP,aX,dD,ag,Ab.get,aA,bi,ax,bC,bz,ak,aK,au,eP,aN,aF,aI,aG,aJ,aH,ae,List.flatten]) (h4:∀id,x.d0 id→ae s'.st id=true∧ρ id=id:=by exact keepR (by assumption) (by simp[ae,Ab.get])):mZ x s s':=aY ρ hn he ⟨h1,h2,h3,h4⟩
theorem DZ {E:Prop} (e:E) (ρ:Nat→Nat) (hn:s'.n=s.n:=by rfl) (he:E→∀p∈s'.env,get s.env p.1=some (bF ρ p.2)∧aA (ae s'.st) p.2:=by intro e9;first|(simp only[kE,aC, ↓reduceIte,Nat.reduceEqDiff,reduceCtorEq];done)|(simp only[aC,iQ,iO,Z9,aad,aaw,forall_eq_or_imp,forall_eq];simp[bF,bP,aX,dD,ag,Ab.get,aA,bi,ax,bC,bz,ak,aK,au,eP,aN,aF,aI,aG,aJ,aH,ae,List.flatten,e9];done)|simp[bF,bP,aX,dD,ag,Ab.get,aA,bi,ax,bC,bz,ak,aK,au,eP,aN,aF,aI,aG,aJ,aH,ae,List.flatten,e9]) (h1:E→∀p∈s'.st,get s.st (ρ p.1)=some (aX ρ p.2):=by intro e9;first|(simp only[kE,aC, ↓reduceIte,Nat.reduceEqDiff,reduceCtorEq];done)|(simp only[aC,iQ,iO,Z9,aad,aaw,forall_eq_or_imp,forall_eq];simp[bF,bP,aX,dD,ag,Ab.get,aA,bi,ax,bC,bz,ak,aK,au,eP,aN,aF,aI,aG,aJ,aH,ae,List.flatten,e9];done)|simp[bF,bP,aX,dD,ag,Ab.get,aA,bi,ax,bC,bz,ak,aK,au,eP,aN,aF,aI,aG,aJ,aH,ae,List.flatten,e9]) (h2:E→(s'.st.map fun p=>ρ p.1).Nodup:=by intro e9;first|(simp only[kE,aC, ↓reduceIte,Nat.reduceEqDiff,reduceCtorEq];done)|(simp only[aC,iQ,iO,Z9,aad,aaw,forall_eq_or_imp,forall_eq];simp[bF,bP,aX,dD,ag,Ab.get,aA,bi,ax,bC,bz,ak,aK,au,eP,aN,aF,aI,aG,aJ,aH,ae,List.flatten,e9];done)|simp[bF,bP,aX,dD,ag,Ab.get,aA,bi,ax,bC,bz,ak,aK,au,eP,aN,aF,aI,aG,aJ,aH,ae,List.flatten,e9]) (h3:E→∀p∈s'.st,aN (ae s'.st) p.2:=by intro e9;first|(simp only[kE,aC, ↓reduceIte,Nat.reduceEqDiff,reduceCtorEq];done)|(simp only[aC,iQ,iO,Z9,aad,aaw,forall_eq_or_imp,forall_eq];simp[bF,bP,aX,dD,ag,Ab.get,aA,bi,ax,bC,bz,ak,aK,au,eP,aN,aF,aI,aG,aJ,aH,ae,List.flatten,e9];done)|simp[bF,bP,aX,dD,ag,Ab.get,aA,bi,ax,bC,bz,ak,aK,au,eP,aN,aF,aI,aG,aJ,aH,ae,List.flatten,e9]) (h4:∀id,x.d0 id→ae s'.st id=true∧ρ id=id:=by exact keepR (by assumption) (by simp[ae,Ab.get])):mZ x s s':=aY ρ hn (he e) ⟨h1 e,h2 e,h3 e,h4⟩
theorem di {A:Prop} (g:G') (ha:A:=by simp[jl,ae,Ab.get]) (h:G'→G:=by intro h9;(try simp only[kP,Nat.reduceEqDiff, ↓reduceIte,reduceCtorEq,List.cons_append,List.nil_append]);exact h9):A∧G:=⟨ha,h g⟩
theorem dh {dst:Option Tmp} {f:FuncId} {bs:List Operand} {ats:Array TypeId} {ty:TypeId} {pos:String} {after:Array Edge} {args:List AV} (st0:List (Nat×AO)) {R:AV→List (Nat×AO)→Prop} (hc:AC P f args st0 R)
 (hk:∀r st',R r st'→jl s st0 st'∧TO P x ops l ⟨s.n,dB s.env dst r,ah s.st st'⟩ Q) (hd:∀i,dst=some i→i<s.n:=by simp) (he:gz s bs=some args:=by simp only[kV, ↓reduceIte,Nat.reduceEqDiff,reduceCtorEq];first|done|rfl)
 (l1:∀p∈st0,get s.st p.1=some p.2:=by simp[Ab.get]) (l2:∀p∈st0,aN (ae st0) p.2:=by simp[aN,aF,aI,aG,aJ,aH,ag,bC,bz,ak,aK,ax,bi,ae,Ab.get]) (l3:∀a∈args,aA (ae st0) a:=by simp[aA,bi,ax,ak,aK,ae,Ab.get]):
 TO P x ops (⟨dst, .call {callee:= .value (.func f),args:=bs.toArray,argTypes:=ats},ty,pos,after,none⟩::l) s Q:=Gv st0 hd he ⟨l1,l2,l3⟩ hc hk
theorem cf {dst:Option Tmp} {f:FuncId} {bs:List Operand} {ats:Array TypeId} {ty:TypeId} {pos:String} {after:Array Edge} {args:List AV} {R0:AV} (hc:AC P f args [] (fun r st=>r=R0∧st=[])) (g:G')
 (hk:G'→TO P x ops l ⟨s.n,dB s.env dst R0,ah s.st []⟩ Q:=by intro h9;(try simp only[kP,Nat.reduceEqDiff, ↓reduceIte,reduceCtorEq,List.cons_append,List.nil_append]);exact h9) (hd:∀i,dst=some i→i<s.n:=by simp) (he:gz s bs=some args:=by simp only[kV, ↓reduceIte,Nat.reduceEqDiff,reduceCtorEq];first|done|rfl)
 (l3:∀a∈args,aA (ae []) a:=by simp[aA,bi,ax,ak,aK,ae,Ab.get]):
 TO P x ops (⟨dst, .call {callee:= .value (.func f),args:=bs.toArray,argTypes:=ats},ty,pos,after,none⟩::l) s Q:=Gv [] hd he ⟨by simp,by simp,l3⟩ hc (by rintro r st' ⟨rfl,rfl⟩;exact⟨by simp[jl],hk g⟩)
theorem Ub (h:G:=by simp only[All,List.cons_append,List.nil_append,aV,Z9,aad,aaw,forall_eq_or_imp,forall_eq,aA,ax,bi,ak,aK,aao,aaS,implies_true,aai,List.length_cons,List.length_nil,aC,fJ,bI];repeat' (first|exact trivial|refine And.intro ?_ ?_|intro _|assumption|rfl|omega|(rw[aar];assumption)|(simp;done)|(simp only[aae] at*;omega)|(simp_all;done))):G:=h
theorem Fa {F0:Prop} (f0:F0) (h:F0→G:=by intro f0;simp only[All,List.cons_append,List.nil_append,aV,Z9,aad,aaw,forall_eq_or_imp,forall_eq,aA,ax,bi,ak,aK,aao,aaS,implies_true,aai,List.length_cons,List.length_nil,aC,fJ,bI];repeat' (first|exact trivial|exact f0|exact f0 _|exact f0 (by assumption)|refine And.intro ?_ ?_|intro _|assumption|rfl|omega|(rw[aar];assumption)|(simp;done)|(simp only[aae] at*;omega)|(simp_all;done))):G:=h f0
theorem Xg {F0 F1:Prop} (f0:F0) (f1:F1) (h:F0→F1→G:=by intro f0 f1;simp only[All,List.cons_append,List.nil_append,aV,Z9,aad,aaw,forall_eq_or_imp,forall_eq,aA,ax,bi,ak,aK,aao,aaS,implies_true,aai,List.length_cons,List.length_nil,aC,fJ,bI];repeat' (first|exact trivial|exact f0|exact f0 _|exact f0 (by assumption)|exact f1|exact f1 _|exact f1 (by assumption)|refine And.intro ?_ ?_|intro _|assumption|rfl|omega|(rw[aar];assumption)|(simp;done)|(simp only[aae] at*;omega)|(simp_all;done))):G:=h f0 f1
theorem ZN {F0 F1 F2:Prop} (f0:F0) (f1:F1) (f2:F2) (h:F0→F1→F2→G:=by intro f0 f1 f2;simp only[All,List.cons_append,List.nil_append,aV,Z9,aad,aaw,forall_eq_or_imp,forall_eq,aA,ax,bi,ak,aK,aao,aaS,implies_true,aai,List.length_cons,List.length_nil,aC,fJ,bI];repeat' (first|exact trivial|exact f0|exact f0 _|exact f0 (by assumption)|exact f1|exact f1 _|exact f1 (by assumption)|exact f2|exact f2 _|exact f2 (by assumption)|refine And.intro ?_ ?_|intro _|assumption|rfl|omega|(rw[aar];assumption)|(simp;done)|(simp only[aae] at*;omega)|(simp_all;done))):G:=h f0 f1 f2
theorem Xo {wr:Bool} {id:Nat} {s1:S} (cs:List (Nat×AV)) {As:List A1} {ps:List Prop} (h:GY P wr l cs l s=some (As,ps,s1)) (ho:All ps) (hk:Q .normal s1) (hm:P.follows .mixedOrders=true:=by kernel_rfl) (hc:oM l As=true:=by kernel_rfl):
 T P x (.region id l.toArray true) s Q:=JO cs hm h ho hc hk
theorem dr {id:Nat} {s1:S} (cs:List (Nat×AV)) {As:List A1} {ps:List Prop} (ho:All ps) (hk:Q .normal s1) (h:GY P false l cs l s=some (As,ps,s1):=by simp only[kD,kk,Nat.reduceAdd,Nat.reduceLT,Nat.reduceEqDiff, ↓reduceIte,reduceCtorEq];first|done|rfl) (hm:P.follows .mixedOrders=true:=by kernel_rfl) (hc:oM l As=true:=by kernel_rfl):
 T P x (.region id l.toArray true) s Q:=JO cs hm h ho hc hk
theorem dx {id:Nat} {s1:S} (cs:List (Nat×AV)) {E:Prop} (e:E) {As:List A1} {ps:List Prop} (ho:All ps) (hk:Q .normal s1) (h:E→GY P false l cs l s=some (As,ps,s1):=by intro e9;simp only[kD,kk,Nat.reduceAdd,Nat.reduceLT,Nat.reduceEqDiff, ↓reduceIte,reduceCtorEq,e9];first|done|rfl) (hm:P.follows .mixedOrders=true:=by kernel_rfl) (hc:oM l As=true:=by kernel_rfl):
 T P x (.region id l.toArray true) s Q:=JO cs hm (h e) ho hc hk
theorem so {o:Oper} (cs:List (Nat×AV)) {out:Out} (ho:All out.obl) (g:G') (hk:G'→TO P x ops l ⟨s.n,dB s.env o.dst out.v,ah s.st out.upd⟩ Q:=by intro h9;simp only[kP,Nat.reduceEqDiff, ↓reduceIte,reduceCtorEq];exact h9) (hd:jP o s.n=true:=by rfl) (h:iy P false ops cs o s=some out:=by simp only[kD,kk,Nat.reduceAdd,Nat.reduceLT,Nat.reduceEqDiff, ↓reduceIte,reduceCtorEq];first|done|rfl):TO P x ops (o::l) s Q:=Jl cs hd h ho (hk g)
theorem rA {rs:List ResultVar} {R:AV→List (Nat×AO)→Prop} {r:AV} {obl:List Prop} (st':List (Nat×AO)) (hR:R r st') (h:zx P rs s=some (r,obl):=by simp only[kR,kk, ↓reduceIte,Nat.reduceEqDiff,reduceCtorEq];first|done|rfl) (ho:All obl:=by first|exact trivial|(simp only[kO];omega)|(simp[All,aV];first|done|omega)|(simp+contextual [All,aV];first|done|grind)) (h1:∀p∈st',get s.st ((fun i=>i) p.1)=some (aX (fun i=>i) p.2):=by simp[Ab.get,aB]) (h2:(st'.map fun p=>(fun i=>i) p.1).Nodup:=by simp) (h3:∀p∈st',aN (ae st') p.2:=by simp[Ab.get,aN,aA,aF,aI,aG,aJ,aH,ag,au,bC,bz,ak,aK,ax,bi,ae]) (h4:∀id,x.d0 id→ae st' id=true∧id=id:=by exact dK (by assumption) (by simp[ae,Ab.get])) (hcl:aA (ae st') r:=by simp[Ab.get,aN,aA,aF,aI,aG,aJ,aH,ag,au,bC,bz,ak,aK,ax,bi,ae]):O8 P rs x R .ret s:=⟨.inl rfl,r,obl,h,ho,st',⟨h1,h2,h3,h4⟩,hcl,hR⟩
theorem rN {rs:List ResultVar} {R:AV→List (Nat×AO)→Prop} {r:AV} {obl:List Prop} (st':List (Nat×AO)) (hR:R r st') (h:zx P rs s=some (r,obl):=by simp only[kR,kk, ↓reduceIte,Nat.reduceEqDiff,reduceCtorEq];first|done|rfl) (ho:All obl:=by first|exact trivial|(simp only[kO];omega)|(simp[All,aV];first|done|omega)|(simp+contextual [All,aV];first|done|grind)) (h1:∀p∈st',get s.st ((fun i=>i) p.1)=some (aX (fun i=>i) p.2):=by simp[Ab.get,aB]) (h2:(st'.map fun p=>(fun i=>i) p.1).Nodup:=by simp) (h3:∀p∈st',aN (ae st') p.2:=by simp[Ab.get,aN,aA,aF,aI,aG,aJ,aH,ag,au,bC,bz,ak,aK,ax,bi,ae]) (h4:∀id,x.d0 id→ae st' id=true∧id=id:=by exact dK (by assumption) (by simp[ae,Ab.get])) (hcl:aA (ae st') r:=by simp[Ab.get,aN,aA,aF,aI,aG,aJ,aH,ag,au,bC,bz,ak,aK,ax,bi,ae]):O8 P rs x R .normal s:=⟨.inr rfl,r,obl,h,ho,st',⟨h1,h2,h3,h4⟩,hcl,hR⟩
theorem rV {rs:List ResultVar} {R:AV→List (Nat×AO)→Prop} {r:AV} {obl:List Prop} {e:Exit} (st':List (Nat×AO)) (hR:R r st') (he:e= .ret∨e= .normal:=by first|exact .inl rfl|exact .inr rfl) (h:zx P rs s=some (r,obl):=by simp only[kR,kk, ↓reduceIte,Nat.reduceEqDiff,reduceCtorEq];first|done|rfl) (ho:All obl:=by first|exact trivial|(simp only[kO];omega)|(simp[All,aV];first|done|omega)|(simp+contextual [All,aV];first|done|grind)) (h1:∀p∈st',get s.st ((fun i=>i) p.1)=some (aX (fun i=>i) p.2):=by simp[Ab.get,aB]) (h2:(st'.map fun p=>(fun i=>i) p.1).Nodup:=by simp) (h3:∀p∈st',aN (ae st') p.2:=by simp[Ab.get,aN,aA,aF,aI,aG,aJ,aH,ag,au,bC,bz,ak,aK,ax,bi,ae]) (h4:∀id,x.d0 id→ae st' id=true∧id=id:=by exact dK (by assumption) (by simp[ae,Ab.get])) (hcl:aA (ae st') r:=by simp[Ab.get,aN,aA,aF,aI,aG,aJ,aH,ag,au,bC,bz,ak,aK,ax,bi,ae]):O8 P rs x R e s:=⟨he,r,obl,h,ho,st',⟨h1,h2,h3,h4⟩,hcl,hR⟩
theorem dI {f:FuncId} {fn:Func} {c:Code} {args:List AV} {st:List (Nat×AO)} {R:AV→List (Nat×AO)→Prop} {n:Nat} {env:List (Nat×AV)} (hf:P.funcs[f]? =some fn) (hn:fn.ntmps=n) (h:∀x:X,(∀id,x.d0 id→ae st id=true)→T P x c ⟨n,env,st⟩ (O8 P fn.results.toList x R)) (hb:fn.body=some c:=by rfl) (hname:(fn.name=="runtime.NumGoroutine")=false:=by rfl)
 (he:(List.range args.length).zip args=env:=by simp only[List.range,List.range.loop,List.length,List.zip,List.zipWith];first|done|rfl) (hl:args.length≤n:=by simp only[List.length];omega):AC P f args st R:=AA hf hb hname (by rw[hn];exact hl) (by rw[hn,he];exact h)
end
end Go.Proofs.YtpoodoknkbojgaaGreatDoor
