/- A part of the proof. -/
import Derived.Test.YtcpgicfphakdaaaGreatDoorRT7a
import Derived.Test.YtcpgicfphakdaaaGreatDoorRAbJn
import Derived.Scope
set_option maxRecDepth 100000
set_option maxHeartbeats 4000000
set_option linter.all false
namespace Go.Proofs.YtcpgicfphakdaaaGreatDoor
open Go.Ab
def ZV (d:bK):Prop:=∀r∈d.recs,∃v∈d.revs,fileOf v=⟨r.to,r.num⟩
theorem Zy {d:bK} {c:o6} (h:ZV d) (hk:Am d c):ZV (lX d c):=by
 intro r hr
 simp only[lX,DU,List.mem_append] at hr
 rcases hr with hr|hr
 ·obtain⟨v,h1,h2⟩:=h r hr
  exact⟨v,by simp[lX,h1],h2⟩
 ·obtain⟨j,hj,er⟩:=List.mem_iff_getElem.1 hr
  have h0:=hk.recd j hj
  rw[show c.recs.getD j mr=r by simp[List.getD,hj,er]] at h0
  obtain⟨x,hx,⟨t1,t2,t3⟩,_⟩:=h0.okTgt
  exact⟨made c x,by simp only[lX,List.mem_append,List.mem_map];exact .inr ⟨x,hx,rfl⟩,by simp only[fileOf,made,t1,t2]⟩
theorem kQ.to {l:List o6} {d:bK} (h:kQ l d):ZV d:=by
 induction h with
 |nil=>intro r hr;simp[Jp] at hr
 |skip c h ih=>exact ih
 |app h hc hk ih=>exact Zy ih hk
section
variable {d:bK} {c:o6} (hg:Good d.revs) (hN:d.revs.length≤512) (hk:Am d c)
include hg hN hk
theorem NY (ht:ZV d) {a:Nat} (ha:a<c.edits.length) (r:jk):r∈jE (lX d c) (fileOf (made c (c.edits.getD a fF)))↔r∈c.recs∧(⟨r.to,r.num⟩:bP)=fileOf (made c (c.edits.getD a fF)):=by
 simp only[jE,List.mem_filter,lX,DU,List.mem_append,decide_eq_true_eq]
 constructor
 ·rintro⟨h|h,e⟩
  ·exfalso
   obtain⟨v,h1,h2⟩:=ht r h
   obtain⟨i,hi⟩:=List.getElem?_of_mem h1
   exact YX hg hN hk hi ha (h2.trans e)
  ·exact⟨h,e⟩
 ·rintro⟨h,e⟩;exact⟨.inr h,e⟩
end
structure Fv where
 kind:Int
 lpath:ByteArray
 lnum:Int
 frm:ByteArray
 first:Int
 last:Int
 to:ByteArray
 head:Int
 bpath:ByteArray
 bnum:Int
 move:ByteArray
@[reducible] def ik (t:Fv):List D:=[.v (.int .i64 t.kind), .v (.string t.lpath), .v (.int .i64 t.lnum), .v (.string t.frm), .v (.int .i64 t.first), .v (.int .i64 t.last), .v (.string t.to), .v (.int .i64 t.head), .v (.string t.bpath), .v (.int .i64 t.bnum), .v (.string t.move)]
def Fv.line (t:Fv):bP:=⟨t.lpath,t.lnum⟩
@[reducible] def noS:ByteArray:={data:= #[]}
def BF (p:ByteArray):Bool:=(aV p).isSome&&decide (p.size≤200)
def idn (d:bK) (p:ByteArray) (n:Int):Option bP:=(iE d p n).map (first d)
def acb (d:bK) (t:Fv):Prop:=∀n:Int,t.first≤n→n≤t.last→idn d t.frm n=some t.line
def aby (d:bK) (t:Fv):Rev:=(oQ d t.frm t.last).getD ai
def Yf (d:bK) (t:Fv):Bool:=decide ((aby d t).act=3)
def aci (d:bK) (t:Fv):Bool:=decide (t.move=noS)||(BF t.move&&!live d t.move&&!decide (t.move=t.to))
def Yz (d:bK) (t:Fv):Bool:=if t.kind=1 then !live d t.to&&!Yf d t&&decide (t.move=noS) else live d t.to&&!decide (idn d t.to t.head=some t.line)&&(Yf d t==decide (t.kind=3))&&aci d t
structure Fits (d:bK) (t:Fv):Prop where
 kind:1≤t.kind∧t.kind≤3
 lo:1≤t.first
 le:t.first≤t.last
 run:acb d t
 use:BF t.to=true
 head:dh d t.to=t.head
 rest:Yz d t=true
def ED (d:bK):Prop:=∀v∈d.revs,v.num≤(log d v.path).length
theorem ED.last {d:bK} (h:ED d) (p:ByteArray):dh d p≤(log d p).length:=by
 unfold dh
 cases hl:eQ d p with
 |none=>simp[ai]
 |some v=>
  obtain⟨j,h1,h2,_⟩:=lJ hl
  have:=h v (List.mem_of_getElem? h1)
  rw[h2] at this;exact this
theorem Wy {d:bK} {c:o6} (hg:Good d.revs) (hN:d.revs.length≤512) (h:ED d) (hk:Am d c):ED (lX d c):=by
 intro v hv
 have hlog:(log (lX d c) v.path).length=(log d v.path).length+((c.edits.map (made c)).filter fun u=>decide (u.path=v.path)).length:=by
  simp only[log,lX,List.filter_append,List.length_append]
 simp only[lX,List.mem_append] at hv
 rcases hv with hv|hv
 ·have:=h v hv;rw[hlog];omega
 ·have hpos:0<((c.edits.map (made c)).filter fun u=>decide (u.path=v.path)).length:=List.length_pos_of_mem (List.mem_filter.2 ⟨hv,by simp⟩)
  obtain⟨e,he,rfl⟩:=List.mem_map.1 hv
  obtain⟨i,hi,e2⟩:=List.mem_iff_getElem.1 he
  have hE:=hk.edit i hi
  rw[show c.edits.getD i fF=e by simp[List.getD,hi,e2]] at hE
  have h1:=hE.okPrev
  have h2:=Bv hg e.path
  have h3:=h.last e.path
  have hw:wr (e.prev+1)=e.prev+1:=Ug (by omega) (by omega)
  rw[hlog]
  simp only[made] at hpos⊢
  rw[hw]
  omega
theorem kQ.ac5 {l:List o6} {d:bK} (h:kQ l d):ED d:=by
 induction h with
 |nil=>intro r hr;simp[Jp] at hr
 |skip c h ih=>exact ih
 |app h hc hk ih=>exact Wy h.good h.ok.1 ih hk
theorem MJ {l:List Rev} (h:l.Pairwise fun u v=>u.num<v.num):∀{j i:Nat} {u v:Rev},i≤j→l[i]? =some u→l[j]? =some v→u.num+((j:Int)-i)≤v.num
 |0,i,u,v,hij,hu,hv=>by
  have:i=0:=by omega
  subst this;rw[hu] at hv;cases hv;omega
 |j+1,i,u,v,hij,hu,hv=>by
  by_cases e:i=j+1
  ·subst e;rw[hu] at hv;cases hv;omega
  ·obtain⟨hj,ev⟩:=List.getElem?_eq_some_iff.1 hv
   have hw:l[j]? =some l[j]:=List.getElem?_eq_getElem (by omega)
   have ih:=MJ h (j:=j) (by omega) hu hw
   have:=(List.pairwise_iff_getElem.1 h) j (j+1) (by omega) hj (by omega)
   rw[ev] at this
   omega
theorem YU {d:bK} (hg:Good d.revs) (p:ByteArray):(log d p).Pairwise fun u v=>u.num<v.num:=by
 have h0:d.revs.Pairwise fun u v=>u.path=v.path→u.num<v.num:=
  List.pairwise_iff_getElem.2 fun i j hi hj hij e=>(hg.path i j _ _ hij (List.getElem?_eq_getElem hi) (List.getElem?_eq_getElem hj) e).2
 refine(h0.filter (fun v=>decide (v.path=p))).imp_of_mem ?_
 intro u v hu hv h
 have h1:=(List.mem_filter.1 hu).2
 have h2:=(List.mem_filter.1 hv).2
 simp only[decide_eq_true_eq] at h1 h2
 exact h (by rw[h1,h2])
theorem aa1 {d:bK} (hg:Good d.revs) (hn:ED d) (p:ByteArray) {i:Nat} {v:Rev} (hv:(log d p)[i]? =some v):v.num=(i:Int)+1:=by
 have hp:=YU hg p
 have hi:=(List.getElem?_eq_some_iff.1 hv).1
 have mem:∀{k:Nat} {u:Rev},(log d p)[k]? =some u→1≤u.num∧u.num≤(log d p).length:=by
  intro k u hu
  have hm:=List.mem_of_getElem? hu
  obtain⟨h1,h2⟩:=List.mem_filter.1 hm
  simp only[decide_eq_true_eq] at h2
  obtain⟨j,hj⟩:=List.getElem?_of_mem h1
  have:=hg.num j u hj
  have h3:=hn u h1
  rw[h2] at h3
  omega
 have h0:(log d p)[0]? =some (log d p)[0]:=List.getElem?_eq_getElem (by omega)
 have hl:(log d p)[(log d p).length-1]? =some (log d p)[(log d p).length-1]:=List.getElem?_eq_getElem (by omega)
 have a:=MJ hp (by omega) h0 hv
 have b:=MJ hp (by omega) hv hl
 have c:=mem h0
 have e:=mem hl
 omega
theorem VX {d:bK} (hg:Good d.revs) (hn:ED d) {p:ByteArray} {n:Int} (h1:1≤n) (h2:n≤(log d p).length):∃v,oQ d p n=some v:=by
 have hi:(n-1).toNat<(log d p).length:=by omega
 have hv:(log d p)[(n-1).toNat]? =some (log d p)[(n-1).toNat]:=List.getElem?_eq_getElem hi
 have:=aa1 hg hn p hv
 cases hf:oQ d p n with
 |some v=>exact⟨v,rfl⟩
 |none=>
  exfalso
  have h3:=List.find?_eq_none.1 hf _ (List.mem_of_getElem? hv)
  simp only[decide_eq_true_eq] at h3
  omega
def UB (d:bK):Prop:=∀(k:Nat) (v:Rev),d.revs[k]? =some v→∀r∈jE d (fileOf v),1≤r.first∧r.first≤r.last∧1≤r.how∧r.how≤4∧
 ∀n,r.first≤n→n≤r.last→∃(j:Nat) (u:Rev),j<k∧d.revs[j]? =some u∧fileOf u=⟨r.frm,n⟩∧¬u.act=5
theorem Vw {d:bK} {c:o6} (hg:Good d.revs) (hN:d.revs.length≤512) (ht:ZV d) (hn:ED d) (h:UB d) (hk:Am d c):UB (lX d c):=by
 intro k v hv r hr
 rcases Nat.lt_or_ge k d.revs.length with hlt|hge
 ·rw[FZ hg hN hk hlt] at hv
  obtain⟨a1,a2,a3,a4,a5⟩:=h k v hv r ((Y7 hg hN hk hv r).1 hr)
  refine⟨a1,a2,a3,a4,fun n n1 n2=>?_⟩
  obtain⟨j,u,j1,j2,j3,j4⟩:=a5 n n1 n2
  exact⟨j,u,j1,by rw[FZ hg hN hk (by omega)];exact j2,j3,j4⟩
 ·obtain⟨a,rfl⟩:∃a,k=d.revs.length+a:=⟨k-d.revs.length,by omega⟩
  have ha:a<c.edits.length:=by
   have:=(List.getElem?_eq_some_iff.1 hv).1
   simp only[lX,List.length_append,List.length_map] at this;omega
  rw[U5 hg hN hk ha] at hv
  cases hv
  obtain⟨hr1,_⟩:=(NY hg hN hk ht ha r).1 hr
  obtain⟨j,hj,er⟩:=List.mem_iff_getElem.1 hr1
  have h0:=hk.recd j hj
  rw[show c.recs.getD j mr=r by simp[List.getD,hj,er]] at h0
  refine⟨h0.okLo,h0.okLe,h0.okHow.1,h0.okHow.2,fun n n1 n2=>?_⟩
  have hlo:=h0.okLo
  have hhi:=h0.okHi
  obtain⟨u,hu⟩:=VX hg hn (p:=r.frm) (n:=n) (by omega) (by omega)
  obtain⟨i,hi,ei⟩:=(iY hg).1 hu
  have hil:=(List.getElem?_eq_some_iff.1 hi).1
  refine⟨i,u,by omega,by rw[FZ hg hN hk hil];exact hi,ei,?_⟩
  have:=(h0.okLine n n1 n2).1
  rwa [show uz d r.frm n=u by simp[uz,hu]] at this
theorem kQ.src {l:List o6} {d:bK} (h:kQ l d):UB d:=by
 induction h with
 |nil=>intro k v hv;simp[Jp] at hv
 |skip c h ih=>exact ih
 |app h hc hk ih=>exact Vw h.good h.ok.1 h.to h.ac5 ih hk
section
variable {d:bK} (hg:Good d.revs) (hS:UB d)
include hg hS
end
structure adm (d:bK) (x:Fv):Prop where
 lo:1≤x.first
 le:x.first≤x.last
 run:acb d x
 head:dh d x.to=x.head
 kind:(x.kind=1∧live d x.to=false∧¬(aby d x).act=3∧x.move=noS)∨
  (x.kind=(if(aby d x).act=3 then 3 else 2)∧live d x.to=true∧¬idn d x.to x.head=some x.line∧(x.move=noS∨(aV x.move).isSome=true∧live d x.move=false∧¬x.move=x.to))
 to:(aV x.to).isSome=true
theorem adm.fits {d:bK} {x:Fv} (h:adm d x) (ht:x.to.size≤200) (hm:x.move.size≤200):Fits d x:=by
 have hu:BF x.to=true:=by simp[BF,h.to,ht]
 rcases h.kind with⟨k,l,s,m⟩|⟨k,l,i,m⟩
 ·refine⟨by omega,h.lo,h.le,h.run,hu,h.head,?_⟩
  simp[Yz,k,l,Yf,s,m]
 ·have hk:x.kind=2∨x.kind=3:=by rw[k];split<;>simp
  have hd:(Yf d x==decide (x.kind=3))=true:=by
   rw[k]
   unfold Yf
   by_cases e:(aby d x).act=3<;>simp[e]
  refine⟨by omega,h.lo,h.le,h.run,hu,h.head,?_⟩
  have k1:¬x.kind=1:=by omega
  simp only[Yz,if_neg k1,l,Bool.true_and,i,decide_false,Bool.not_false,hd]
  rcases m with m|⟨m1,m2,m3⟩
  ·simp[aci,m]
  ·simp[aci,BF,m1,hm,m2,m3]
structure aX where
 parts:List ByteArray
 rest:Bool
 deriving DecidableEq
structure Gs where
 excl:Bool
 left:aX
 right:aX
structure DC where
 base:aX
 holes:List aX
structure dU where
 left:aX
 right:aX
 holes:List aX
@[reducible] def au (p:aX):List D:=[.ps 1 (p.parts.map encS), .v (.bool p.rest)]
@[reducible] def ZO (r:Gs):List D:=[.v (.bool r.excl), .ps 1 (r.left.parts.map encS), .v (.bool r.left.rest), .ps 1 (r.right.parts.map encS), .v (.bool r.right.rest)]
@[reducible] def rP (g:DC):List D:=[.ps 1 (g.base.parts.map encS), .v (.bool g.base.rest), .ps 2 (g.holes.map au)]
@[reducible] def dK (x:dU):List D:=[.ps 1 (x.left.parts.map encS), .v (.bool x.left.rest), .ps 1 (x.right.parts.map encS), .v (.bool x.right.rest), .ps 2 (x.holes.map au)]
@[reducible] def aPat (p:aX):AV:= .agg ((au p).map C.d)
@[reducible] def zY (r:Gs):AV:= .agg ((ZO r).map C.d)
@[reducible] def xJ (g:DC):AV:= .agg ((rP g).map C.d)
@[reducible] def TR (x:dU):AV:= .agg ((dK x).map C.d)
@[reducible] def eU (l:List aX):AV:= .c (.d (.ps 2 (l.map au)))
@[reducible] def dZ (l:List dU):AV:= .c (.d (.ps 5 (l.map dK)))
@[reducible] def pS (s:ByteArray):Bool×List C:=(false,[.d (.v (.string s))])
@[reducible] def adr (p:aX):Bool×List C:=(true,(au p).map C.d)
@[reducible] def YB (r:Gs):Bool×List C:=(true,(ZO r).map C.d)
@[reducible] def aeU (g:DC):Bool×List C:=(true,(rP g).map C.d)
def bz:aX:=⟨[],false⟩
def FI:Gs:=⟨false,bz,bz⟩
def acJ:DC:=⟨bz,[]⟩
def D7:dU:=⟨bz,bz,[]⟩
def aP (x:ByteArray):Bool:=!(decide (x=noS)||!decide (byteAt x 0=42))&&(List.range x.size).all fun k=>decide (k=0)||okB (byteAt x k)
def jq (x:ByteArray):ByteArray:=if aP x then x.extract 1 x.size else noS
def dE (x:ByteArray):Bool:=aP x||comp x
def aS (p:aX):Int:=
 if p.parts.length=0∨(p.parts.length=1∧p.rest=false)∨comp (p.parts.getD 0 noS)=false then 30
 else if(p.parts.drop 1).all dE then(if 12<p.parts.length then 31 else 0) else 30
def fG (p:aX):Bool:=decide (aS p=0)
def dV (s t:ByteArray):Bool:=decide (t.size≤s.size)&&decide (s.extract (s.size-t.size) s.size=t)
def lY (x c:ByteArray):ByteArray×Bool:=
 if aP x then(if dV c (jq x) then(c.extract 0 (c.size-(jq x).size),comp (c.extract 0 (c.size-(jq x).size))) else(noS,false)) else(noS,decide (x=c))
def aj (l:List ByteArray):Nat:=(l.filter aP).length
def jS (p:aX):Nat:=aj p.parts+(if p.rest then 1 else 0)
def fU (ps ls:List ByteArray):Nat→List ByteArray
 |0=>[]
 |k+1=>fU ps ls k++(if aP (ps.getD k noS) then [(lY (ps.getD k noS) (ls.getD k noS)).1] else [])
def qy (ps ls:List ByteArray) (k:Nat):Bool:=(List.range k).all fun i=>(lY (ps.getD i noS) (ls.getD i noS)).2
def pX (p:aX) (l:List ByteArray):Bool:=fG p&&!(decide (l.length<p.parts.length)||(!p.rest&&decide (p.parts.length<l.length))||(p.rest&&decide (l.length=p.parts.length)))
def dC (p:aX) (s:ByteArray):Option (List ByteArray):=
 match aV s with
 |none=>none
 |some l=>if pX p l&&qy p.parts l p.parts.length then some (fU p.parts l p.parts.length++(if p.rest then [fE (l.drop p.parts.length) slash] else [])) else none
def yC (p:aX):ByteArray:=if p.rest then(iJ++fE p.parts slash)++{data:= #[47,46,46,46]} else iJ++fE p.parts slash
def fQ (ps cs:List ByteArray):Nat→List ByteArray
 |0=>[]
 |k+1=>fQ ps cs k++[if aP (ps.getD k noS) then cs.getD (aj (ps.take k)) noS++jq (ps.getD k noS) else ps.getD k noS]
def rO (ps cs:List ByteArray) (k:Nat):Bool:=(List.range k).all fun i=>!aP (ps.getD i noS)||comp (cs.getD (aj (ps.take i)) noS)
def lQ (p:aX) (cs:List ByteArray):ByteArray×Int:=
 if fG p then
  if cs.length=jS p then
   if rO p.parts cs p.parts.length then
    if p.rest then
     if(split (cs.getD (aj p.parts) noS)).all comp then(iJ++fE (fQ p.parts cs p.parts.length++split (cs.getD (aj p.parts) noS)) slash,0) else(noS,32)
    else(iJ++fE (fQ p.parts cs p.parts.length) slash,0)
   else(noS,32)
  else(noS,32)
 else(noS,aS p)
def aF (x y:ByteArray):Bool:=if aP y then(if aP x then dV (jq x) (jq y) else(lY y x).2) else decide (x=y)
def dG (p q:aX):Bool:=
 fG p&&fG q&&decide (q.parts.length≤p.parts.length)&&(q.rest||(!p.rest&&decide (p.parts.length≤q.parts.length)))&&!(q.rest&&decide (p.parts.length=q.parts.length)&&!p.rest)
  &&(List.range q.parts.length).all fun i=>aF (p.parts.getD i noS) (q.parts.getD i noS)
def ug (p q:aX) (i:Nat):Bool:=decide (q.parts.length≤i)||aF (p.parts.getD i noS) (q.parts.getD i noS)||aF (q.parts.getD i noS) (p.parts.getD i noS)
def gW (p q:aX):Nat→List ByteArray
 |0=>[]
 |k+1=>gW p q k++[if decide (q.parts.length≤k)||aF (p.parts.getD k noS) (q.parts.getD k noS) then p.parts.getD k noS else q.parts.getD k noS]
def sD (p q:aX):Option aX:=
 if(q.parts.length<p.parts.length∧q.rest=false)∨(p.parts.length=q.parts.length∧p.rest≠q.rest) then none
 else if(List.range p.parts.length).all (ug p q) then some ⟨gW p q p.parts.length,p.rest⟩ else none
def gz (p q:aX):Option aX:=if fG p&&fG q then(if p.parts.length<q.parts.length then sD q p else sD p q) else none
def uo (p q:aX):Nat→List aX
 |0=>[]
 |k+1=>uo p q k++(if aP (p.parts.getD k noS) then [⟨[(q.parts.getD k noS).extract 0 ((q.parts.getD k noS).size-(jq (p.parts.getD k noS)).size)],false⟩] else [])
def jd (p q:aX):Option (List aX):=
 if dG q p then some (uo p q p.parts.length++(if p.rest then [⟨q.parts.drop p.parts.length,q.rest⟩] else [])) else none
def jl (ps:List ByteArray) (l:List aX):Nat→List ByteArray
 |0=>[]
 |k+1=>jl ps l k++[if aP (ps.getD k noS) then((l.getD (aj (ps.take k)) bz).parts.getD 0 noS)++jq (ps.getD k noS) else ps.getD k noS]
def rH (b:aX):Bool:=decide (b.parts.length=1)&&!b.rest&&dE (b.parts.getD 0 noS)
def yg (ps:List ByteArray) (l:List aX) (k:Nat):Bool:=(List.range k).all fun i=>!aP (ps.getD i noS)||rH (l.getD (aj (ps.take i)) bz)
def Cs (p:aX):aX×Int:=if 12<p.parts.length then(bz,31) else(p,0)
def fC (p:aX) (l:List aX):aX×Int:=
 if fG p then
  if l.length=jS p then
   if yg p.parts l p.parts.length then
    if p.rest then
     if(!(l.getD (aj p.parts) bz).parts.isEmpty||(l.getD (aj p.parts) bz).rest)&&(l.getD (aj p.parts) bz).parts.all dE then
      Cs ⟨jl p.parts l p.parts.length++(l.getD (aj p.parts) bz).parts,(l.getD (aj p.parts) bz).rest⟩
     else(bz,33)
    else Cs ⟨jl p.parts l p.parts.length,false⟩
   else(bz,33)
  else(bz,33)
 else(bz,aS p)
def dN (r:Gs):Int:=if fG r.left then(if fG r.right then(if aj r.left.parts=aj r.right.parts∧r.left.rest=r.right.rest then 0 else 42) else 41) else 40
def okR (r:Gs):Bool:=decide (dN r=0)
def O7 (r:Gs) (s:ByteArray):ByteArray×Bool:=
 if okR r then(match dC r.left s with|none=>(noS,false)|some l=>((lQ r.right l).1,decide ((lQ r.right l).2=0))) else(noS,false)
def lT (r:Gs) (p:aX):Gs×Bool×Int:=
 if okR r then
  if fG p then
   match gz r.left p with
   |none=>(FI,false,0)
   |some m=>if(fC r.right ((jd r.left m).getD [])).2=0 then(⟨false,m,(fC r.right ((jd r.left m).getD [])).1⟩,true,0) else(FI,false,43)
  else(FI,false,aS p)
 else(FI,false,dN r)
def iK (g:DC):Int:=if fG g.base then(if g.holes.all fG then(if 64<g.holes.length then 52 else 0) else 51) else 50
def D5 (g:DC) (s:ByteArray):Bool:=(dC g.base s).isSome&&!g.holes.any fun h=>(dC h s).isSome
def uM:Nat→List aX→List aX
 |0,l=>l
 |k+1,l=>if cb (yC (l.getD (k+1) bz)) (yC (l.getD k bz))<0 then uM k ((l.set (k+1) (l.getD k bz)).set k (l.getD (k+1) bz)) else l
def uS (l:List aX):Nat→List aX
 |0=>l
 |k+1=>uM k (uS l k)
def jJ (l:List aX) (i j:Nat):Bool:=!decide (i=j)&&dG (l.getD i bz) (l.getD j bz)&&(decide (j<i)||!decide (l.getD i bz=l.getD j bz))
def lM (l:List aX):Nat→List aX
 |0=>[]
 |k+1=>lM l k++(if(List.range l.length).any (jJ l k) then [] else [l.getD k bz])
def AB (b:aX) (hs:List aX):List aX:=hs.filterMap (gz b)
def sQ (b:aX) (hs:List aX):DC:=⟨b,lM (uS (AB b hs) (AB b hs).length) (AB b hs).length⟩
@[reducible] def qi:ByteArray:={data:= #[42]}
def oD (p:aX) (i:Nat):ByteArray:=if i<p.parts.length then p.parts.getD i noS else qi
def je (p:aX) (n:Nat):Bool:=if p.rest then decide (p.parts.length<n) else decide (n=p.parts.length)
def jC (b h:aX) (n:Nat):Bool:=je h n&&(List.range (min n h.parts.length)).all fun i=>aF (oD b i) (h.parts.getD i noS)
def jP (g:DC) (n:Nat):Bool:=g.holes.any fun h=>jC g.base h n
def lH:List aX→Nat→Nat
 |[],m=>m
 |h::l,m=>lH l (max m h.parts.length)
def yK (g:DC):Nat:=
 if g.base.rest then(match(List.range (lH g.holes g.base.parts.length+1-g.base.parts.length)).find? (fun j=>!jP g (g.base.parts.length+1+j)) with|some j=>g.base.parts.length+1+j|none=>0)
 else if jP g g.base.parts.length then 0 else g.base.parts.length
def dU.line (x:dU):Gs:=⟨false,x.left,x.right⟩
def dU.qR (x:dU):DC:=⟨x.left,x.holes⟩
def lm (x:dU):List aX→Option (List aX)
 |[]=>some []
 |h::l=>if(lT x.line h).2.2=0 then(lm x l).map (fun t=>if(lT x.line h).2.1 then(lT x.line h).1.right::t else t) else none
def oK (x:dU):Option DC:=(lm x x.holes).map (sQ x.right)
def iD (a b:DC):Bool:=match gz a.base b.base with|none=>false|some m=>decide (0<yK ⟨m,a.holes++b.holes⟩)
def EW (x:dU):Bool:=okR x.line&&decide (iK x.qR=0)
def nP (m:List dU) (s:ByteArray):ByteArray×Bool:=match m.find? (fun x=>D5 x.qR s) with|none=>(noS,false)|some x=>O7 x.line s
end Go.Proofs.YtcpgicfphakdaaaGreatDoor
namespace Go.Proofs.YtcpgicfphakdaaaGreatDoor
open Go.Ab Tys
variable [Dr]
def aeA.kk:=p2 (p9 kB kG Tryz.ntmps122 Tryz.underlying60 EC IL J8 zI Cf) (p8 F7 F9 uK WC P7 SQ jy Tryz.results122)
open aeA in
theorem XJ (c:o6) (z:Oo) (hc:c.edits.length≤1000000):AC Tryz.prog 122 [VR c,adp z] [] (fun r st=>r=B (BA c z)∧st=[]):=by
 refine bV Tryz.func122 Tryz.ntmps122 fun x hx=>?_
 try refine nv ?_
 refine ag (ι:=Nat) (I:=fun k=>⟨62,[(3, .c (.ptr 3 0)),(5,I .i64 ((c.edits.take k).filter (Dc z)).length),(9, .c (.d (.ps 12 (c.edits.map iC)))),(10,I .i64 c.edits.length),(11,I .i64 k)],[(3, .box ((iC z).map C.d))]⟩)
  (Inv:=fun k=>k≤c.edits.length) (μ:=fun k=>c.edits.length-k) 0 (by omega) ?_ ?_
 ·exact aW
 ·intro k hk
  have hF:=lg (Dc z) c.edits k
  try refine nv ?_
  refine af ?_ ?_
  ·intro hlt
   have hlt':k<c.edits.length:=by simpa using hlt
   obtain⟨y,hy,he,htk⟩:=round iC c.edits k fF hlt'
   try refine nx @he ?_
   refine af ?_ ?_
   ·intro h
    have h':Dc z y=true:=by
     rw[←h];simp only[Dc];cases decide (z.act=5)<;>cases decide (y.act=4)<;>cases decide (y.frm=z.path)<;>cases decide (z.act=4)<;>cases decide (y.act=5)<;>cases decide (y.path=z.frm)<;>rfl
    try refine nv ?_
    refine⟨k+1,by omega,by omega,?_⟩
    (refine fZ (fun i=>i) rfl ?_ ⟨?_,?_,?_,gu hx (by simp[ae,Ab.get])⟩<;>first|(simp only[kE,aQ, ↓reduceIte,Nat.reduceEqDiff,reduceCtorEq,htk,h',List.filter_append];done)|simp[di,bf,aA,Ab.get,aZ,dH,aN,bY,bG,bH,bD,bI,bC,ae,List.flatten,htk,h',List.filter_append])
   ·intro h
    have h':Dc z y=false:=by
     rw[←h];simp only[Dc];cases decide (z.act=5)<;>cases decide (y.act=4)<;>cases decide (y.frm=z.path)<;>cases decide (z.act=4)<;>cases decide (y.act=5)<;>cases decide (y.path=z.frm)<;>rfl
    try refine nv ?_
    refine⟨k+1,by omega,by omega,?_⟩
    (refine fZ (fun i=>i) rfl ?_ ⟨?_,?_,?_,gu hx (by simp[ae,Ab.get])⟩<;>first|(simp only[kE,aQ, ↓reduceIte,Nat.reduceEqDiff,reduceCtorEq,htk,h',List.filter_append];done)|simp[di,bf,aA,Ab.get,aZ,dH,aN,bY,bG,bH,bD,bI,bC,ae,List.flatten,htk,h',List.filter_append])
  ·intro hge
   have hge':k=c.edits.length:=by have:¬k<c.edits.length:=by simpa using hge
                                  omega
   try refine nv ?_
   refine rA [] ?_
   refine⟨?_,rfl⟩
   rw[hge',List.take_length]
   simp[BA,Ut,Bool.cond_true_left,Bool.cond_false_right];first|rfl|(congr 2;done)
end Go.Proofs.YtcpgicfphakdaaaGreatDoor
namespace Go.Proofs.YtcpgicfphakdaaaGreatDoor
open Go.Ab
def cO:List UInt8→List (List UInt8)
 |[]=>[[]]
 |a::l=>if a=47 then []::cO l else match cO l with|[]=>[[a]]|h::t=>(a::h)::t
theorem jR:∀l,∃h t,cO l=h::t
 |[]=>⟨[],[],rfl⟩
 |a::l=>by
  obtain⟨h,t,e⟩:=jR l
  simp only[cO]
  split
  ·exact⟨_,_,rfl⟩
  ·rw[e];exact⟨_,_,rfl⟩
def xK:List UInt8→List UInt8→Int
 |[],[]=>0
 |[],_::_=> -1
 |_::_,[]=>1
 |a::l,b::m=>if a=b then xK l m else if a=47 then-1 else if b=47 then 1 else if a<b then-1 else 1
def sS:List (List UInt8)→List (List UInt8)→Int
 |[],[]=>0
 |[],_::_=> -1
 |_::_,[]=>1
 |a::l,b::m=>if Lib.compareBytes a b=0 then sS l m else Lib.compareBytes a b
theorem IR:∀l m:List UInt8,xK l m=sS (cO l) (cO m)
 |[],[]=>by simp[xK,cO,sS,Lib.compareBytes]
 |[],b::m=>by
  obtain⟨h,t,e⟩:=jR m
  simp only[xK,cO]
  split
  ·rw[e];simp[sS,Lib.compareBytes]
  ·rw[e];simp[sS,Lib.compareBytes]
 |a::l,[]=>by
  obtain⟨h,t,e⟩:=jR l
  simp only[xK,cO]
  split
  ·rw[e];simp[sS,Lib.compareBytes]
  ·rw[e];simp[sS,Lib.compareBytes]
 |a::l,b::m=>by
  obtain⟨h1,t1,e1⟩:=jR l
  obtain⟨h2,t2,e2⟩:=jR m
  have ih:=IR l m
  simp only[xK,cO]
  by_cases hab:a=b
  ·subst hab
   rw[if_pos rfl,ih]
   by_cases ha:a=47
   ·rw[if_pos ha,if_pos ha];simp[sS,Lib.compareBytes]
   ·have:¬a<a:=by simp
    rw[if_neg ha,if_neg ha,e1,e2]
    simp only[sS]
    rw[show Lib.compareBytes (a::h1) (a::h2)=Lib.compareBytes h1 h2 by rw[Lib.compareBytes,if_neg this,if_neg this]]
  ·rw[if_neg hab]
   by_cases ha:a=47
   ·have hb:¬b=47:=by rintro rfl;exact hab ha
    rw[if_pos ha,if_pos ha,if_neg hb,e2];simp[sS,Lib.compareBytes]
   ·rw[if_neg ha,if_neg ha]
    by_cases hb:b=47
    ·rw[if_pos hb,if_pos hb,e1];simp[sS,Lib.compareBytes]
    ·rw[if_neg hb,if_neg hb,e1,e2]
     simp only[sS]
     by_cases hl:a<b
     ·rw[if_pos hl,Lib.compareBytes,if_pos hl];simp
     ·have hg:b<a:=by
       simp only[UInt8.lt_iff_toNat_lt] at hl⊢
       have:a.toNat≠b.toNat:=fun h=>hab (UInt8.toNat_inj.1 h)
       omega
      rw[if_neg hl,Lib.compareBytes,if_neg hl,if_pos hg];simp
def EF (l:List UInt8):ByteArray:=⟨l.toArray⟩
theorem Df (l:List UInt8):(EF l).data.toList=l:=rfl
theorem Z4 (s:ByteArray):EF s.data.toList=s:=rfl
theorem vG:∀{pre:List UInt8},(∀x∈pre,x≠47)→cO pre=[pre]
 |[],_=>rfl
 |a::l,h=>by
  rw[cO,if_neg (h a (by simp)),vG fun x hx=>h x (by simp[hx])]
theorem vW:∀{pre post:List UInt8},(∀x∈pre,x≠47)→cO (pre++47::post)=pre::cO post
 |[],_,_=>by simp[cO]
 |a::l,post,h=>by
  rw[List.cons_append,cO,if_neg (h a (by simp)),vW fun x hx=>h x (by simp[hx])]
theorem P8:∀l:List UInt8,(Lib.indexByte l 47<0∧∀x∈l,x≠47)∨∃pre post,l=pre++47::post∧Lib.indexByte l 47=pre.length∧∀x∈pre,x≠47
 |[]=> .inl ⟨by simp[Lib.indexByte],by simp⟩
 |a::l=>by
  by_cases ha:a=47
  ·subst ha;exact .inr ⟨[],l,rfl,by simp[Lib.indexByte],by simp⟩
  ·rcases P8 l with⟨h1,h2⟩|⟨pre,post,h1,h2,h3⟩
   ·refine .inl ⟨?_,?_⟩
    ·have:=Lib.indexByte_ge l 47
     have e:Lib.indexByte l 47= -1:=by omega
     simp[Lib.indexByte,ha,e]
    ·intro x hx
     rcases List.mem_cons.1 hx with rfl|hx
     ·exact ha
     ·exact h2 x hx
   ·refine .inr ⟨a::pre,post,by rw[h1];rfl,?_,?_⟩
    ·have:¬(pre.length:Int)= -1:=by omega
     simp[Lib.indexByte,ha,h2,this]
    ·intro x hx
     rcases List.mem_cons.1 hx with rfl|hx
     ·exact ha
     ·exact h3 x hx
theorem Pe:∀(n:Nat) (l:List UInt8),Lib.countByte l 47≤n→splitN n (EF l)=(cO l).map EF
 |0,l,h=>by
  have:∀x∈l,x≠47:=by
   intro x hx e
   subst e
   have:=List.count_pos_iff.2 hx
   simp only[Lib.countByte] at h;omega
  rw[vG this];rfl
 |n+1,l,h=>by
  rcases P8 l with⟨h1,h2⟩|⟨pre,post,h1,h2,h3⟩
  ·rw[vG h2,Ho (by simpa[sO,Df] using h1)];rfl
  ·have hi:sO (EF l)=pre.length:=h2
   have hnn:¬sO (EF l)<0:=by omega
   subst h1
   rw[vW h3,splitN,if_neg hnn,hi,List.map_cons]
   have hc:Lib.countByte post 47≤n:=by
    simp only[Lib.countByte] at h⊢
    rw[List.count_append,List.count_cons_self] at h;omega
   rw[←Pe n post hc]
   congr 1
   ·apply ByteArray.ext;rw[ByteArray.data_extract];simp[EF]
   ·congr 1
    apply ByteArray.ext;rw[ByteArray.data_extract];simp[EF,ByteArray.size];exact List.take_of_length_le (by omega)
theorem zC (s:ByteArray):split s=(cO s.data.toList).map EF:=Pe _ _ (Nat.le_refl _)
theorem YL:∀a b:List (List UInt8),cmpL (a.map EF) (b.map EF)=sS a b
 |[],[]=>rfl
 |[],_::_=>rfl
 |_::_,[]=>rfl
 |a::l,b::m=>by
  simp only[List.map_cons,cmpL,sS,cb,Df,YL l m]
theorem lD {p:ByteArray} {k:Nat} (hk:k<p.size):∃x,p.data.toList[k]? =some x∧byteAt p k=(x.toNat:Int):=by
 have h:k<p.data.size:=hk
 exact⟨p.data[k],by simp[h],by simp[byteAt,Array.getD,h,hk]⟩
theorem uP {p:ByteArray} {k:Nat} {x:UInt8} (hx:p.data.toList[k]? =some x):byteAt p k=47↔x=47:=by
 have hk:k<p.size:=by have:=(List.getElem?_eq_some_iff.1 hx).1;simpa using this
 obtain⟨y,h1,h2⟩:=lD hk
 rw[hx] at h1;cases h1
 rw[h2]
 constructor
 ·intro h;exact UInt8.toNat_inj.1 (by simpa using(by omega:x.toNat=47))
 ·rintro rfl;rfl
theorem Gh (p:ByteArray) (b i:Nat):EF ((p.data.toList.drop b).take (i-b))=p.extract b i:=by
 apply ByteArray.ext
 rw[ByteArray.data_extract]
 simp only[EF]
 apply Array.ext'
 simp[List.extract,List.drop_take]
def vB (p:ByteArray) (c b:Nat):Bool:=if b≤p.size then(cO (p.data.toList.drop b)).all (fun x=>comp (EF x))&&decide (2≤c+(cO (p.data.toList.drop b)).length) else decide (2≤c)
theorem aaV {p:ByteArray} {c b i:Nat} (hb:b≤i) (hi:i≤p.size) (hno:∀k,b≤k→k<i→byteAt p k≠47) (hst:i=p.size∨(i<p.size∧byteAt p i=47)):
 vB p c b=(comp (p.extract b i)&&vB p (c+1) (i+1)):=by
 have hn:∀x∈(p.data.toList.drop b).take (i-b),x≠47:=by
  intro x hx e
  obtain⟨k,hk⟩:=List.getElem?_of_mem hx
  have hkl:=(List.getElem?_eq_some_iff.1 hk).1
  simp at hkl
  rw[List.getElem?_take,if_pos (by omega),List.getElem?_drop] at hk
  exact hno (b+k) (by omega) (by omega) ((uP hk).2 e)
 rw[←Gh]
 unfold vB
 rw[if_pos (by omega)]
 rcases hst with h|⟨h,h47⟩
 ·have hall:(p.data.toList.drop b).take (i-b)=p.data.toList.drop b:=List.take_of_length_le (by have:p.data.size=p.size:=rfl;simp;omega)
  rw[hall] at hn⊢
  rw[vG hn,if_neg (by omega)]
  simp
 ·obtain⟨x,hx,_⟩:=lD h
  have hx47:=(uP hx).1 h47
  subst hx47
  have e:p.data.toList.drop b=(p.data.toList.drop b).take (i-b)++47::p.data.toList.drop (i+1):=by
   have h1:(p.data.toList.drop b).drop (i-b)=47::p.data.toList.drop (i+1):=by
    rw[List.drop_drop,show b+(i-b)=i by omega,List.drop_eq_getElem?_toList_append,hx];rfl
   conv=>lhs;rw[←List.take_append_drop (i-b) (p.data.toList.drop b),h1]
  have e2:cO (p.data.toList.drop b)=(p.data.toList.drop b).take (i-b)::cO (p.data.toList.drop (i+1)):=by
   conv=>lhs;rw[e]
   exact vW hn
  rw[e2,if_pos (by omega),List.all_cons,List.length_cons,Bool.and_assoc,show c+1+(cO (p.data.toList.drop (i+1))).length=c+((cO (p.data.toList.drop (i+1))).length+1) by omega]
theorem aad {p:ByteArray} (h:hasPrefix p iJ=true):(aV p).isSome=vB p 0 2:=by
 have h2:2≤p.size:=by
  exact of_decide_eq_true (Bool.and_eq_true_iff.1 h).1
 have hb:(p.extract 2 p.size).data.toList=p.data.toList.drop 2:=by
  rw[←Gh,Df]
  exact List.take_of_length_le (by simp)
 have hs:split (p.extract 2 p.size)=(cO (p.data.toList.drop 2)).map EF:=by rw[zC,hb]
 unfold aV jK vB
 rw[if_pos h,if_pos h2,hs,List.all_map]
 cases ha:(cO (p.data.toList.drop 2)).all fun x=>comp (EF x) with
 |true=>
  rw[if_pos (by simpa[Function.comp] using ha)]
  simp only[List.length_map,Bool.true_and,Nat.zero_add]
  by_cases hl:(cO (p.data.toList.drop 2)).length<2
  ·rw[if_pos hl];symm;simp;omega
  ·rw[if_neg hl];symm;simp;omega
 |false=>
  rw[if_neg (by simpa[Function.comp] using ha)]
  simp
theorem Ag {p:ByteArray} (h:hasPrefix p iJ=false):(aV p).isSome=false:=by
 simp[aV,jK,h]
theorem Yi {p q:ByteArray} (hp:(aV p).isSome=true) (hq:(aV q).isSome=true):xK p.data.toList q.data.toList=ord p q:=by
 have key:∀{p:ByteArray},(aV p).isSome=true→∃l,p.data.toList=47::47::l∧aV p=some ((cO l).map EF):=by
  intro p hp
  have hpre:hasPrefix p iJ=true:=by
   cases h:hasPrefix p iJ with
   |true=>rfl
   |false=>rw[Ag h] at hp;cases hp
  have h2:2≤p.size:=by
   exact of_decide_eq_true (Bool.and_eq_true_iff.1 hpre).1
  have hext:p.extract 0 2=iJ:=by
   have:=(Bool.and_eq_true_iff.1 hpre).2
   exact of_decide_eq_true this
  have hb:(p.extract 2 p.size).data.toList=p.data.toList.drop 2:=by
   rw[←Gh,Df]
   exact List.take_of_length_le (by simp)
  refine⟨p.data.toList.drop 2,?_,?_⟩
  ·have:(p.data.toList.drop 0).take (2-0)=[47,47]:=by
    have:=Gh p 0 2
    rw[hext] at this
    have:=congrArg (fun b:ByteArray=>b.data.toList) this
    simpa[EF] using this
   conv=>lhs;rw[←List.take_append_drop 2 p.data.toList]
   rw[show p.data.toList.take 2=[47,47] by simpa using this];rfl
  ·have hs:split (p.extract 2 p.size)=(cO (p.data.toList.drop 2)).map EF:=by rw[zC,hb]
   unfold aV jK at hp⊢
   rw[if_pos hpre,hs] at hp⊢
   by_cases ha:((cO (p.data.toList.drop 2)).map EF).all comp=true
   ·rw[if_pos ha] at hp⊢
    simp only at hp⊢
    split
    ·rename_i hl;rw[if_pos hl] at hp;cases hp
    ·rfl
   ·rw[if_neg ha] at hp;cases hp
 obtain⟨l,e1,p1⟩:=key hp
 obtain⟨m,e2,p2⟩:=key hq
 rw[e1,e2]
 have:xK (47::47::l) (47::47::m)=xK l m:=by simp[xK]
 rw[this,IR]
 unfold ord
 rw[p1,p2]
 exact(YL _ _).symm
theorem ace:okB 47=false:=by kernel_rfl
theorem rM {s:ByteArray} (h:comp s=true):∀k,k<s.size→okB (byteAt s k)=true:=by
 intro k hk
 simp only[comp,Bool.and_eq_true] at h
 exact gB _ k (fun k=>okB (byteAt s k)) hk h.2
theorem abB {s:ByteArray} (h:∀k,k<s.size→okB (byteAt s k)=true):∀x∈s.data.toList,x≠47:=by
 intro x hx e
 subst e
 obtain⟨k,hk⟩:=List.getElem?_of_mem hx
 have hl:=(List.getElem?_eq_some_iff.1 hk).1
 have hk2:k<s.size:=by simpa using hl
 have:=h k hk2
 rw[(uP hk).2 rfl,ace] at this
 cases this
theorem Fa:∀Ls:List (List UInt8),Ls≠[]→(∀l∈Ls,∀x∈l,x≠47)→cO (Lib.join Ls [47])=Ls
 |[],h,_=>absurd rfl h
 |[l],_,h=>by rw[Lib.join_one,vG (h l (by simp))]
 |l::m::r,_,h=>by
  have e:Lib.join (l::m::r) [47]=l++47::Lib.join (m::r) [47]:=by
   rw[Lib.join_cons,Lib.join_cons]
   simp[Lib.joinTail]
  rw[e,vW (h l (by simp)),Fa (m::r) (by simp) fun l hl=>h l (List.mem_cons_of_mem _ hl)]
theorem UM (L:List ByteArray):(L.map (·.data.toList)).map EF=L:=by
 rw[List.map_map]
 conv=>rhs;rw[←List.map_id L]
 exact List.map_congr_left fun _ _=>rfl
theorem Tm (a b:ByteArray):(a++b).extract a.size (a++b).size=b:=ByteArray.extract_append_eq_right rfl ByteArray.size_append
theorem gY {x:ByteArray} (h:aP x=true):1≤x.size∧∀k,1≤k→k<x.size→okB (byteAt x k)=true:=by
 simp only[aP,Bool.and_eq_true,Bool.not_eq_true',Bool.or_eq_false_iff,decide_eq_false_iff_not] at h
 refine⟨nG h.1.1,fun k h1 hk=>?_⟩
 have:=gB _ k (fun k=>decide (k=0)||okB (byteAt x k)) hk h.2
 simpa[show ¬k=0 by omega] using this
theorem uj {a b:ByteArray} {k:Nat} (h:k<a.size):byteAt (a++b) k=byteAt a k:=by
 have h1:(a++b).data=a.data++b.data:=ByteArray.data_append
 have h2:k<a.data.size:=h
 simp only[byteAt,h1,Array.getD_eq_getD_getElem?,Array.getElem?_append,if_pos h2]
theorem EZ {a b:ByteArray} {k:Nat} (h:a.size≤k):byteAt (a++b) k=byteAt b (k-a.size):=by
 have h1:(a++b).data=a.data++b.data:=ByteArray.data_append
 have h2:¬k<a.data.size:=by have:a.data.size=a.size:=rfl;omega
 simp only[byteAt,h1,Array.getD_eq_getD_getElem?,Array.getElem?_append,if_neg h2];rfl
theorem Je {a:ByteArray} {i k:Nat} (h:i+k<a.size):byteAt (a.extract i a.size) k=byteAt a (i+k):=by
 have h2:i+k<a.data.size:=h
 simp only[byteAt,ByteArray.data_extract,Array.getD_eq_getD_getElem?,Array.getElem?_extract]
 rw[if_pos (by have e:a.data.size=a.size:=rfl;omega)]
theorem PS {x:ByteArray} (h:aP x=true):(jq x).size=x.size-1:=by
 simp only[jq,if_pos h,ByteArray.size_extract];omega
theorem BU {s:ByteArray} (h:comp s=true):1≤s.size∧¬byteAt s 0=46:=by
 simp only[comp,Bool.and_eq_true,Bool.not_eq_true',Bool.or_eq_false_iff,decide_eq_false_iff_not] at h
 exact⟨nG h.1.1,h.1.2⟩
theorem Vk {s:ByteArray} (h1:1≤s.size) (h2:¬byteAt s 0=46) (h3:∀k,k<s.size→okB (byteAt s k)=true):comp s=true:=by
 simp only[comp,Bool.and_eq_true,Bool.not_eq_true',Bool.or_eq_false_iff,decide_eq_false_iff_not]
 refine⟨⟨?_,h2⟩,?_⟩
 ·rintro rfl;simp[ByteArray.size] at h1
 ·rw[List.all_eq_true];intro k hk;exact h3 k (List.mem_range.1 hk)
theorem X6 {c x:ByteArray} (hc:comp c=true) (hx:aP x=true):comp (c++jq x)=true:=by
 obtain⟨c1,c2⟩:=BU hc
 obtain⟨x1,x2⟩:=gY hx
 refine Vk (by rw[ByteArray.size_append];omega) (by rw[uj (by omega)];exact c2) ?_
 intro k hk
 rw[ByteArray.size_append,PS hx] at hk
 by_cases h:k<c.size
 ·rw[uj h];exact rM hc k h
 ·rw[EZ (by omega),jq,if_pos hx,Je (by omega)]
  exact x2 _ (by omega) (by omega)
theorem sW {p:aX}:fG p=true↔(1≤p.parts.length∧(p.rest=false→2≤p.parts.length)∧comp (p.parts.getD 0 noS)=true∧(p.parts.drop 1).all dE=true∧p.parts.length≤12):=by
 unfold fG aS
 rw[decide_eq_true_eq]
 split
 ·rename_i h
  constructor
  ·intro h;omega
  ·rintro⟨h1,h2,h3,_⟩
   rcases h with h|⟨h,h'⟩|h
   ·omega
   ·have:=h2 h';omega
   ·rw[h] at h3;cases h3
 ·rename_i h
  simp only[not_or,not_and] at h
  split
  ·rename_i ha
   split
   ·constructor
    ·intro h;omega
    ·intro h;omega
   ·refine⟨fun _=>⟨by omega,?_,by simpa using h.2.2,ha,by omega⟩,fun _=>rfl⟩
    intro hr
    have:=h.2.1
    by_cases h1:p.parts.length=1
    ·exact absurd hr (this h1)
    ·omega
  ·rename_i ha
   constructor
   ·intro h;omega
   ·rintro⟨_,_,_,h4,_⟩;exact absurd h4 ha
theorem XT {p:aX} (h:fG p=true) {i:Nat} (hi:i<p.parts.length) (hs:aP (p.parts.getD i noS)=false):comp (p.parts.getD i noS)=true:=by
 obtain⟨h1,_,h3,h4,_⟩:=sW.1 h
 cases i with
 |zero=>exact h3
 |succ i=>
  have hm:p.parts.getD (i+1) noS∈p.parts.drop 1:=by
   rw[List.getD_eq_getElem?_getD,List.getElem?_eq_getElem hi,Option.getD_some,List.mem_iff_getElem]
   exact⟨i,by simp;omega,by simp[Nat.add_comm]⟩
  have:=List.all_eq_true.1 h4 _ hm
  rw[dE,hs] at this
  exact this
end Go.Proofs.YtcpgicfphakdaaaGreatDoor
namespace Go.Proofs.YtcpgicfphakdaaaGreatDoor
open Go.Ab Tys
variable [Dr]
def isB (b:Int):Bool:=(decide (65≤b)&&decide (b≤90))||(decide (97≤b)&&decide (b≤122))||(decide (48≤b)&&decide (b≤57))||decide (b=95)||decide (b=46)||decide (b=43)||decide (b=45)
theorem aaY:((List.range 256).all fun n=>okB n==isB n)=true:=by kernel_rfl
theorem acf {b:Int} (h0:0≤b) (h1:b<256):okB b=isB b:=by
 have:=List.all_eq_true.1 aaY b.toNat (List.mem_range.2 (by omega))
 rw[show((b.toNat:Nat):Int)=b by omega] at this
 simpa using this
def aes.kk:=p4 kB kG Tryz.ntmps241 Tryz.results241
open aes in
theorem JC (b:Int) (h0:0≤b) (h1:b<256):AC Tryz.prog 241 [I .u8 b] [] (fun r st=>r=B (okB b)∧st=[]):=by
 rw[acf h0 h1]
 refine bV Tryz.func241 Tryz.ntmps241 fun x hx=>?_
 try refine nv ?_
 refine lW ⟨36,[(0,I .u8 b),(2,B false),(3,B ((decide (65≤b)&&decide (b≤90))||(decide (97≤b)&&decide (b≤122))||(decide (48≤b)&&decide (b≤57))))],[]⟩ ?_ ?_
 ·refine af ?_ ?_
  ·intro h
   have h':(decide (65≤b)&&decide (b≤90))=true:=by rw[←h];cases decide (65≤b)<;>rfl
   refine aJ ?_
   refine⟨rfl,?_⟩
   exact tK (p2 @h' @h)
  ·intro h
   have h':(decide (65≤b)&&decide (b≤90))=false:=by rw[←h];cases decide (65≤b)<;>rfl
   try refine nv ?_
   refine af ?_ ?_
   ·intro h2
    have h2':(decide (97≤b)&&decide (b≤122))=true:=by rw[←h2];cases decide (97≤b)<;>rfl
    refine aJ ?_
    refine⟨rfl,?_⟩
    exact tK (p4 @h' @h @h2' @h2)
   ·intro h2
    have h2':(decide (97≤b)&&decide (b≤122))=false:=by rw[←h2];cases decide (97≤b)<;>rfl
    try refine nv ?_
    refine⟨rfl,?_⟩
    have h3:(bif decide (48≤b) then decide (b≤57) else false)=(decide (48≤b)&&decide (b≤57)):=by cases decide (48≤b)<;>rfl
    exact tK (p5 @h' @h @h2' @h2 @h3)
 refine aJ ?_
 refine af ?_ ?_
 ·intro h
  try refine nv ?_
  refine rA [] ?_
  refine⟨?_,rfl⟩
  simp only[isB,h,Bool.true_or]
 ·intro h
  try refine nv ?_
  refine rA [] ?_
  refine⟨?_,rfl⟩
  simp only[isB,h,Bool.false_or]
  cases decide (b=95)<;>cases decide (b=46)<;>cases decide (b=43)<;>rfl
def ae3.kk:=p6 kB kG Tryz.ntmps195 Tryz.underlying9 jy Tryz.results195
open ae3 in
theorem oL (s:ByteArray) (hs:s.size≤1000000):AC Tryz.prog 195 [Str s] [] (fun r st=>r=B (comp s)∧st=[]):=by
 refine bV Tryz.func195 Tryz.ntmps195 fun x hx=>?_
 refine aJ ?_
 refine gg ?_
 refine aJ ?_
 refine gq ?_ ?_
 ·simp only[All,List.cons_append,List.nil_append,and_true,true_and,implies_true,forall_const,Bool.not_eq_true',decide_eq_false_iff_not,cond_eq_ite]
  repeat' (first|exact trivial|refine And.intro ?_ ?_|intro _|omega|(rename_i h;exact_mod_cast nG (by simpa using h))|(simp_all;done))
 refine aJ ?_
 refine af ?_ ?_
 ·intro h
  try refine nv ?_
  refine rA [] ?_
  refine⟨?_,rfl⟩
  have h2:(decide (s={data:= #[]})||decide (byteAt s 0=46))=true:=by rw[←h];cases decide (s={data:= #[]})<;>rfl
  simp[comp,h2]
 ·intro h
  have h2:(decide (s={data:= #[]})||decide (byteAt s 0=46))=false:=by rw[←h];cases decide (s={data:= #[]})<;>rfl
  try refine nv ?_
  refine ag (ι:=Nat) (I:=fun k=>⟨22,[(0,Str s),(12,I .i64 s.size),(13,I .i64 k)],[]⟩) (Inv:=fun k=>k≤s.size∧∀j,j<k→okB (byteAt s j)=true) (μ:=fun k=>s.size-k) 0 ⟨by omega,by omega⟩ ?_ ?_
  ·exact aW
  ·rintro k ⟨hk,hall⟩
   try refine nv ?_
   refine af ?_ ?_
   ·intro hlt
    have hlt':k<s.size:=by simpa using hlt
    have hb0:=lD hlt'
    (repeat (first|refine nv ?_|refine cf (JC (byteAt s k) (by simp[byteAt]) (by simp only[byteAt];have:=(s.data.getD k 0).toNat_lt;omega)) ?_))
    refine af ?_ ?_
    ·intro hb
     try refine nv ?_
     refine rA [] ?_
     refine⟨?_,rfl⟩
     have hb':okB (byteAt s k)=false:=by simpa using hb
     have:((List.range s.size).all fun k=>okB (byteAt s k))=false:=by
      cases e:(List.range s.size).all fun k=>okB (byteAt s k)
      ·rfl
      ·have:=gB _ k _ hlt' e
       rw[hb'] at this;cases this
     simp only[comp,this,Bool.and_false]
    ·intro hb
     try refine nv ?_
     refine⟨k+1,⟨by omega,?_⟩,by omega,?_⟩
     ·intro j hj
      rcases Nat.lt_succ_iff_lt_or_eq.1 hj with hj|rfl
      ·exact hall j hj
      ·simpa using hb
     ·exact aW
   ·intro hge
    try refine nv ?_
    refine rA [] ?_
    refine⟨?_,rfl⟩
    have hk':k=s.size:=by have:¬k<s.size:=by simpa using hge
                          omega
    have:((List.range s.size).all fun k=>okB (byteAt s k))=true:=by
     rw[List.all_eq_true];intro j hj;exact hall j (by rw[hk'];exact List.mem_range.1 hj)
    simp only[comp,this,h2];rfl
end Go.Proofs.YtcpgicfphakdaaaGreatDoor
namespace Go.Proofs.YtcpgicfphakdaaaGreatDoor
open Go.Ab
def pC (p q:ByteArray):Int:=cmpL ((aV p).getD []) ((aV q).getD [])
theorem iq:Cmp pC:=Y3.on fun p=>(aV p).getD []
theorem Yr {p q:ByteArray} (hp:(aV p).isSome=true) (hq:(aV q).isSome=true):pC p q=ord p q:=by
 obtain⟨a,b,h1,h2,h3⟩:=yZ hp hq
 rw[pC,h1,h2,h3];rfl
def VS (l:List ByteArray):Prop:=∀s∈l,(aV s).isSome=true∧s.size≤100000
theorem VS.get {l:List ByteArray} (h:VS l) {i:Nat} (hi:i<l.length):(aV (l.getD i noS)).isSome=true∧(l.getD i noS).size≤100000:=by
 refine h _ ?_
 rw[List.getD_eq_getElem?_getD,List.getElem?_eq_getElem hi]
 exact List.getElem_mem hi
section
variable {c:ByteArray→ByteArray→Int} (hc:Cmp c)
include hc
theorem Cmp.Ox {p q r:ByteArray} (h1:Jj c p q) (h2:c q r<0):c p r<0:=by
 apply Classical.byContradiction
 intro h3
 exact(hc.le_trans (x:=r) (y:=p) (z:=q) h3 h1) h2
theorem jT {y:List ByteArray} (hs:aT c y) {i j:Nat} (hij:i≤j) (hj:j<y.length):Jj c (y.getD i noS) (y.getD j noS):=by
 rw[List.getD_eq_getElem?_getD,List.getD_eq_getElem?_getD,List.getElem?_eq_getElem hj,List.getElem?_eq_getElem (by omega:i<y.length)]
 simp only[Option.getD_some]
 rcases Nat.lt_or_eq_of_le hij with h|h
 ·exact List.pairwise_iff_getElem.1 hs i j (by omega) hj h
 ·subst h;exact hc.le_refl _
theorem YE {x0:ByteArray} {y1 y2:List ByteArray} (hy:aT c (y1++y2)) (h1:∀q∈y1,c q x0<0) (h2:∀q∈y2,¬c q x0<0):(y1++x0::y2).Perm ([x0]++(y1++y2))∧aT c (y1++x0::y2):=by
 refine⟨List.perm_middle,?_⟩
 rw[aT,List.pairwise_append] at hy⊢
 refine⟨hy.1,List.pairwise_cons.2 ⟨fun q hq=>h2 q hq,hy.2.1⟩,?_⟩
 intro p hp q hq
 rcases List.mem_cons.1 hq with rfl|hq
 ·exact hc.le_of_lt (h1 p hp)
 ·exact hy.2.2 p hp q hq
theorem KY {y0:ByteArray} {x1 x2:List ByteArray} (hx:aT c (x1++x2)) (h1:∀q∈x1,¬c y0 q<0) (h2:∀q∈x2,c y0 q<0):(x1++y0::x2).Perm ((x1++x2)++[y0])∧aT c (x1++y0::x2):=by
 refine⟨List.perm_middle.trans (List.perm_append_singleton _ _).symm,?_⟩
 rw[aT,List.pairwise_append] at hx⊢
 refine⟨hx.1,List.pairwise_cons.2 ⟨fun q hq=>hc.le_of_lt (h2 q hq),hx.2.1⟩,?_⟩
 intro p hp q hq
 rcases List.mem_cons.1 hq with rfl|hq
 ·exact h1 p hp
 ·exact hx.2.2 p hp q hq
end
theorem yE {y:List ByteArray} {n:Nat} {q:ByteArray} (h:q∈y.take n):∃i,i<n∧i<y.length∧y.getD i noS=q:=by
 obtain⟨i,hi,rfl⟩:=List.mem_iff_getElem.1 h
 simp only[List.length_take] at hi
 exact⟨i,by omega,by omega,by rw[List.getD_eq_getElem?_getD,List.getElem?_eq_getElem (by omega)];simp⟩
theorem y7 {y:List ByteArray} {n:Nat} {q:ByteArray} (h:q∈y.drop n):∃i,n≤i∧i<y.length∧y.getD i noS=q:=by
 obtain⟨i,hi,rfl⟩:=List.mem_iff_getElem.1 h
 simp only[List.length_drop] at hi
 exact⟨n+i,by omega,by omega,by rw[List.getD_eq_getElem?_getD,List.getElem?_eq_getElem (by omega)];simp⟩
theorem aaG {P x y S l:List ByteArray} (hl:P++(x++(y++S))=l) {a m b:Nat} (ha:a=P.length) (hm:m=a+x.length) (hb:b=m+y.length):
 (∀h,a≤h→h<m→l.getD h noS=x.getD (h-a) noS)∧∀h,m≤h→h<b→l.getD h noS=y.getD (h-m) noS:=by
 subst hl
 refine⟨fun h h1 h2=>?_,fun h h1 h2=>?_⟩
 ·simp only[List.getD_eq_getElem?_getD]
  rw[List.getElem?_append_right (by omega),List.getElem?_append_left (by omega),ha]
 ·simp only[List.getD_eq_getElem?_getD]
  rw[List.getElem?_append_right (by omega),List.getElem?_append_right (by omega),List.getElem?_append_left (by omega)]
  rw[show h-P.length-x.length=h-m by omega]
theorem ach {P y S:List ByteArray} {x0:ByteArray} {k i:Nat} (hk:k<y.length) (hi:i=P.length+k) (z:ByteArray):
 (P++(y.take k++x0::(y.drop k++S))).getD i z=x0∧(P++(y.take k++x0::(y.drop k++S))).getD (i+1) z=y.getD k z∧
 ((P++(y.take k++x0::(y.drop k++S))).set i (y.getD k z)).set (i+1) x0=P++(y.take (k+1)++x0::(y.drop (k+1)++S)):=by
 have ed:y.drop k=y.getD k z::y.drop (k+1):=by rw[List.drop_eq_getElem_cons hk];simp[List.getD_eq_getElem?_getD,List.getElem?_eq_getElem hk]
 have et:y.take (k+1)=y.take k++[y.getD k z]:=by rw[List.take_add_one,List.getElem?_eq_getElem hk];simp[List.getD_eq_getElem?_getD,List.getElem?_eq_getElem hk]
 have lt:(y.take k).length=k:=by simp;omega
 generalize y.getD k z=w at ed et
 rw[ed,et]
 generalize y.take k=A at lt et
 generalize y.drop (k+1)=B at ed
 have e0:P++(A++x0::(w::B++S))=(P++A)++x0::(w::(B++S)):=by simp
 have e1:P++(A++x0::(w::B++S))=(P++A++[x0])++w::(B++S):=by simp
 refine⟨?_,?_,?_⟩
 ·rw[e0];exact qJ (by simp[lt,hi])
 ·rw[e1];exact qJ (by simp[lt,hi];omega)
 ·rw[e0,tV (by simp[lt,hi])]
  have e2:(P++A)++w::(w::(B++S))=(P++A++[w])++w::(B++S):=by simp
  rw[e2,tV (by simp[lt,hi];omega)]
  simp
theorem Um {P x S:List ByteArray} {y0:ByteArray} {j k:Nat} (hj:0<j) (hx:j≤x.length) (hk:k=P.length+j) (z:ByteArray):
 (P++(x.take j++y0::(x.drop j++S))).getD k z=y0∧(P++(x.take j++y0::(x.drop j++S))).getD (k-1) z=x.getD (j-1) z∧
 ((P++(x.take j++y0::(x.drop j++S))).set k (x.getD (j-1) z)).set (k-1) y0=P++(x.take (j-1)++y0::(x.drop (j-1)++S)):=by
 obtain⟨i,rfl⟩:∃i,j=i+1:=⟨j-1,by omega⟩
 have hx':i<x.length:=by omega
 have ed:x.drop i=x.getD i z::x.drop (i+1):=by rw[List.drop_eq_getElem_cons hx'];simp[List.getD_eq_getElem?_getD,List.getElem?_eq_getElem hx']
 have et:x.take (i+1)=x.take i++[x.getD i z]:=by rw[List.take_add_one,List.getElem?_eq_getElem hx'];simp[List.getD_eq_getElem?_getD,List.getElem?_eq_getElem hx']
 have lt:(x.take i).length=i:=by simp;omega
 simp only[Nat.add_sub_cancel]
 generalize x.getD i z=w at ed et
 rw[ed,et]
 generalize x.take i=A at lt et
 generalize x.drop (i+1)=B at ed
 have e0:P++(A++[w]++y0::(B++S))=(P++A++[w])++y0::(B++S):=by simp
 have e1:P++(A++[w]++y0::(B++S))=(P++A)++w::(y0::(B++S)):=by simp
 refine⟨?_,?_,?_⟩
 ·rw[e0];exact qJ (by simp[lt,hk]<;>omega)
 ·rw[e1];exact qJ (by simp[lt,hk]<;>omega)
 ·rw[e0,tV (by simp[lt,hk]<;>omega)]
  have e2:(P++A++[w])++w::(B++S)=(P++A)++w::(w::(B++S)):=by simp
  rw[e2,tV (by simp[lt,hk]<;>omega)]
  simp
end Go.Proofs.YtcpgicfphakdaaaGreatDoor
namespace Go.Ab
variable [Dr]
section
variable {P:Program} {x:X}
theorem F5 {Q:Exit→S→Prop} {s:S} {ops l:List Oper} {d:Tmp} {T T':TypeId} {y:Operand} {ty:TypeId} {pos:String} {after:Array Edge} {k:IntKind} {n:Nat} (hd:d<s.n)
 (hy:ev s y=some (I k n)) (hn:dI k (((n/2:Nat):Int)))
 (hk:TO P x ops l ⟨s.n,put s.env d (I k ((n/2:Nat):Int)),s.st⟩ Q):TO P x ops (⟨some d, .binOp .shr T y (.const (.int .u64 1)) T',ty,pos,after,none⟩::l) s Q:=by
 rintro a w ⟨bl,cap,hs,henv,hdf,hsz⟩
 have h1:a.eval y= .int k n:=nK (fV henv hy)
 refine wpList_plain rfl fun K hK=>?_
 unfold Oper.wp
 have hrun:(execOp a.eval ⟨some d, .binOp .shr T y (.const (.int .u64 1)) T',ty,pos,after,none⟩).run P w= .ok (.value (.int k ((n/2:Nat):Int))) w:=by
  have e:Int.fdiv (n:Int) 2=((n/2:Nat):Int):=by rw[Int.fdiv_eq_ediv_of_nonneg _ (by omega)];simp
  have h2:a.eval (.const (.int .u64 1))= .int .u64 1:=rfl
  have h3:min (1:Int).toNat k.bits=1:=by cases k<;>rfl
  have h4:binOp .shr T (.int k n) (.int .u64 1)=pure (.int k ((n/2:Nat):Int)):=by
   rw[←e]
   simp[binOp,Op.shift,h3]
   cases k<;>rfl
  simp[execOp,h1,h2,eqGuard,h4]
 rw[hrun]
 exact hK _ _ (hk _ _ ⟨bl,cap,hs,henv.put (by rw[hsz];exact hd) (.v _ rfl),by rw[Act.put_defers];exact hdf,by rw[Act.iL];exact hsz⟩)
end
end Go.Ab
namespace Go.Proofs.YtcpgicfphakdaaaGreatDoor
open Go.Ab
def vZ (l:List ByteArray) (i n:Nat):List ByteArray:=(l.drop i).take n
theorem qO {l:List ByteArray} {i n:Nat}:(vZ l i n).length=min n (l.length-i):=by simp[vZ]
def rep (l:List ByteArray) (a e:Nat) (z:List ByteArray):List ByteArray:=l.take a++(z++l.drop e)
theorem Hz {l:List ByteArray} {a e:Nat} (h:a≤e):l.take a++(vZ l a (e-a)++l.drop e)=l:=by
 have h2:vZ l a (e-a)++l.drop e=l.drop a:=by
  have:=List.take_append_drop (e-a) (l.drop a)
  rw[List.drop_drop,show a+(e-a)=e by omega] at this
  exact this
 rw[h2,List.take_append_drop]
section
variable {l z:List ByteArray} {a e:Nat} (hae:a≤e) (he:e≤l.length) (hz:z.length=e-a)
include hae he hz
theorem Uj:(rep l a e z).length=l.length:=by
 simp only[rep,List.length_append,List.length_take,List.length_drop];omega
theorem xm {i n:Nat} (h:i+n≤a):vZ (rep l a e z) i n=vZ l i n:=by
 unfold vZ rep
 rw[List.drop_append_of_le_length (by simp;omega),List.take_append_of_le_length (by simp;omega),List.drop_take,List.take_take]
 congr 1
 omega
theorem Vu {i n:Nat} (h:e≤i):vZ (rep l a e z) i n=vZ l i n:=by
 unfold vZ rep
 have h1:(l.take a++z).length=e:=by simp;omega
 rw[←List.append_assoc,List.drop_append,List.drop_of_length_le (by omega),List.nil_append,h1,List.drop_drop]
 congr 2
 omega
theorem LM {n:Nat} (h:n=e-a∨(e=l.length∧e-a≤n)):vZ (rep l a e z) a n=z:=by
 unfold vZ rep
 have h1:(l.take a).length=a:=by simp;omega
 rw[List.drop_append,List.drop_of_length_le (by omega),List.nil_append,h1,Nat.sub_self,List.drop_zero]
 rcases h with h|⟨h,h2⟩
 ·rw[List.take_append_of_le_length (by omega),List.take_of_length_le (by omega)]
 ·rw[h,List.drop_length,List.append_nil,List.take_of_length_le (by omega)]
omit he hz in
theorem BP (hp:z.Perm (vZ l a (e-a))):(rep l a e z).Perm l:=by
 have:=Hz (l:=l) hae
 conv=>rhs;rw[←this]
 exact List.Perm.append_left _ (List.Perm.append_right _ hp)
end
def Blk (bs:Nat) (l:List ByteArray):Prop:=∀k,aT pC (vZ l (k*bs) bs)
theorem Blk.whole {bs:Nat} {l:List ByteArray} (h:Blk bs l) (hb:l.length≤bs):aT pC l:=by
 have:=h 0
 rw[Nat.zero_mul] at this
 simpa[vZ,List.take_of_length_le hb] using this
theorem VS.perm {l m:List ByteArray} (h:VS l) (p:m.Perm l):VS m:=fun s hs=>h s (p.mem_iff.1 hs)
theorem N8 {l:List ByteArray} {i n:Nat} (h:l.length≤i):vZ l i n=[]:=by simp[vZ,List.drop_of_length_le h]
theorem acF {P A B:List ByteArray} {e0 z:ByteArray} {i:Nat} (h:i=P.length+A.length):(P++(A++e0::B)).getD i z=e0:=by
 rw[show P++(A++e0::B)=(P++A)++e0::B by simp]
 exact qJ (by simp[h])
section
variable {d:bK} (hg:Good d.revs) (hN:d.revs.length≤512)
include hg hN
theorem GV {f:bP} {iv:Nat} {v:Rev} (hv:d.revs[iv]? =some v) (hf:fileOf v=f):∀(n i:Nat) (u:Rev),i<n→d.revs[i]? =some u→¬u.act=5→first d u=f→iv≤i
 |0,i,u,h,_,_,_=>by omega
 |n+1,i,u,h,hu,u5,e=>by
  by_cases u1:u.act=1
  ·have e1:fileOf u=fileOf v:=by rw[ji (kH u1)] at e;rw[e,hf]
   have:=cZ hg hu hv e1
   omega
  ·obtain⟨j,w,hj,hw,ew,w5⟩:=Q8 hg hN hu u1
   have:=GV hv hf n j w (by omega) hw w5 (by rw[←(wL hg hN hu hw u5 u1 ew).1];exact e)
   omega
theorem ZW (f:bP):Jh d f=d.revs.filter fun u=>decide (¬u.act=5∧first d u=f):=by
 have hmem:=fun u=>UV hg hN (f:=f) (u:=u)
 have hnil:Jh d f=[]→d.revs.filter (fun u=>decide (¬u.act=5∧first d u=f))=[]:=by
  intro h
  rw[List.filter_eq_nil_iff]
  intro u hu hp
  simp only[decide_eq_true_eq] at hp
  have:=(hmem u).2 ⟨hu,hp.1,hp.2⟩
  rw[h] at this;cases this
 cases hgt:oQ d f.path f.num with
 |none=>
  have:Jh d f=[]:=by simp[Jh,hgt]
  rw[this,hnil this]
 |some v=>
  by_cases v1:v.act=1
  ·obtain⟨iv,hv,ev⟩:=(iY hg).1 hgt
   have hvl:=(List.getElem?_eq_some_iff.1 hv).1
   have ht:=F6 hg hN hv ev v1 d.revs.length (Nat.le_refl _)
   rw[List.take_length] at ht
   have hl:Jh d f=v::d.revs.filter (oW d f):=by simp only[Jh,hgt,v1,if_true];exact ht
   have hsplit:d.revs=d.revs.take iv++v::d.revs.drop (iv+1):=by
    conv=>lhs;rw[←List.take_append_drop iv d.revs]
    congr 1
    rw[List.drop_eq_getElem_cons hvl]
    congr 1
    exact(List.getElem?_eq_some_iff.1 hv).2
   have hbef:∀u∈d.revs.take iv,¬(¬u.act=5∧first d u=f):=by
    rintro u hu ⟨u5,e⟩
    obtain⟨i,hi⟩:=List.getElem?_of_mem hu
    have hil:i<iv:=by have:=(List.getElem?_eq_some_iff.1 hi).1;simp at this;omega
    rw[List.getElem?_take,if_pos hil] at hi
    have:=GV hg hN hv ev (i+1) i u (by omega) hi u5 e
    omega
   have hself:¬v.act=5∧first d v=f:=⟨by omega,by rw[ji (kH v1)];exact ev⟩
   rw[hl]
   rw[hsplit,List.filter_append,List.filter_append,List.filter_cons,List.filter_cons]
   have f1:(d.revs.take iv).filter (oW d f)=[]:=by
    rw[List.filter_eq_nil_iff]
    intro u hu h
    simp only[oW,decide_eq_true_eq] at h
    exact hbef u hu ⟨h.1,h.2.2⟩
   have f2:(d.revs.take iv).filter (fun u=>decide (¬u.act=5∧first d u=f))=[]:=by
    rw[List.filter_eq_nil_iff]
    intro u hu h
    simp only[decide_eq_true_eq] at h
    exact hbef u hu h
   have f3:oW d f v=false:=by simp[oW,v1]
   have f4:decide (¬v.act=5∧first d v=f)=true:=decide_eq_true hself
   have f5:(d.revs.drop (iv+1)).filter (oW d f)=(d.revs.drop (iv+1)).filter fun u=>decide (¬u.act=5∧first d u=f):=by
    apply List.filter_congr
    intro u hu
    obtain⟨i,hi⟩:=List.getElem?_of_mem hu
    rw[List.getElem?_drop] at hi
    rw[Bool.eq_iff_iff]
    simp only[oW,decide_eq_true_eq]
    refine⟨fun h=>⟨h.1,h.2.2⟩,fun h=>⟨h.1,fun u1=>?_,h.2⟩⟩
    have e1:fileOf u=fileOf v:=by have:=h.2;rw[ji (kH u1)] at this;rw[this,ev]
    have:=cZ hg hi hv e1
    omega
   rw[f1,f2,f3,f4,f5]
   simp
  ·have:Jh d f=[]:=by simp[Jh,hgt,v1]
   rw[this,hnil this]
end
def ET (d:bK):Prop:=∀v∈d.revs,v.act=4→¬v.frm=v.path
theorem VQ {d:bK} {c:o6} (h:ET d) (hk:Am d c):ET (lX d c):=by
 intro v hv ha
 simp only[lX,List.mem_append] at hv
 rcases hv with hv|hv
 ·exact h v hv ha
 ·obtain⟨e,he,rfl⟩:=List.mem_map.1 hv
  obtain⟨i,hi,e2⟩:=List.mem_iff_getElem.1 he
  have hE:=hk.edit i hi
  rw[show c.edits.getD i fF=e by simp[List.getD,hi,e2]] at hE
  exact(hE.okFrm ha).2.2
theorem kQ.ady {l:List o6} {d:bK} (h:kQ l d):ET d:=by
 induction h with
 |nil=>intro r hr;simp[Jp] at hr
 |skip c h ih=>exact ih
 |app h hc hk ih=>exact VQ ih hk
def Qy (d:bK):Prop:=∀v∈d.revs,(aV v.path).isSome=true∧v.path.size≤100000
theorem kQ.adq {l:List o6} {d:bK} (h:kQ l d):Qy d:=by
 induction h with
 |nil=>intro r hr;simp[Jp] at hr
 |skip c h ih=>exact ih
 | @app l d c h hc hk ih=>
   intro v hv
   simp only[lX,List.mem_append,List.mem_map] at hv
   rcases hv with hv|⟨e,he,rfl⟩
   ·exact ih v hv
   ·obtain⟨i,hi,rfl⟩:=List.mem_iff_getElem.1 he
    have h0:=(hk.edit i hi).okPath
    rw[show c.edits.getD i fF=c.edits[i] by simp[List.getD,hi]] at h0
    exact⟨h0,hc.1 _ he⟩
def Ch (l:List Rev):Prop:=∀(i:Nat) (b r:Rev),l[i]? =some b→l[i+1]? =some r→Qb b r=true
theorem Vj {acc:List Rev} {r:Rev} (h:Ch acc) (h0:acc≠[]):Ch (vY acc r)∧vY acc r≠[]:=by
 unfold vY
 split
 ·rename_i hn
  refine⟨?_,by simp⟩
  intro i b r' hb hr
  have hl:=(List.getElem?_eq_some_iff.1 hr).1
  simp only[List.length_append,List.length_cons,List.length_nil] at hl
  by_cases hi:i+1<acc.length
  ·rw[List.getElem?_append_left (by omega)] at hb
   rw[List.getElem?_append_left hi] at hr
   exact h i b r' hb hr
  ·have e:i+1=acc.length:=by omega
   rw[List.getElem?_append_left (by omega)] at hb
   rw[List.getElem?_append_right (by omega),e,Nat.sub_self,List.getElem?_cons_zero,Option.some.injEq] at hr
   subst hr
   have:acc.getLast? =some b:=by rw[List.getLast?_eq_getElem?,show acc.length-1=i by omega,hb]
   rw[this] at hn
   exact hn
 ·exact⟨h,h0⟩
theorem Ul:∀(l acc:List Rev),Ch acc→acc≠[]→Ch (l.foldl vY acc)
 |[],_,h,_=>h
 |r::l,acc,h,h0=>Ul l _ (Vj (r:=r) h h0).1 (Vj (r:=r) h h0).2
theorem ZI (d:bK) (f:bP):Ch (Jh d f):=by
 unfold Jh
 split
 ·split
  ·refine Ul _ _ ?_ (by simp)
   intro i b r hb hr
   simp at hr
  ·intro i b r hb;simp at hb
 ·intro i b r hb;simp at hb
section
variable {d:bK} (hg:Good d.revs) (hN:d.revs.length≤512)
include hg hN
theorem Xi (hf:ET d) {f:bP} {i:Nat} {b r:Rev} (hb:(Jh d f)[i]? =some b) (hr:(Jh d f)[i+1]? =some r) (hp:r.path=b.path):r.num=b.num+1:=by
 have hn:=ZI d f i b r hb hr
 obtain⟨hm,_,_⟩:=(UV hg hN).1 (List.mem_of_getElem? hr)
 obtain⟨k,hk⟩:=List.getElem?_of_mem hm
 obtain⟨_,h1,hbf⟩:=(D6 hg hN hk).1 hn
 unfold bW at hbf
 rw[if_neg h1] at hbf
 split at hbf
 ·rename_i h4
  have e:r.frm=b.path:=congrArg bP.path hbf
  exact absurd (by rw[e,hp]) (hf r hm h4)
 ·have e:r.num-1=b.num:=congrArg bP.num hbf
  omega
theorem WM {f:bP} {u:Rev} (h:(Jh d f)[0]? =some u):fileOf u=f:=by
 have hc:∀(l acc:List Rev) (v:Rev),acc[0]? =some v→(l.foldl vY acc)[0]? =some v:=by
  intro l
  induction l with
  |nil=>intro acc v h;exact h
  |cons r l ih=>
   intro acc v h
   refine ih _ v ?_
   unfold vY
   split
   ·have:=(List.getElem?_eq_some_iff.1 h).1
    rw[List.getElem?_append_left this];exact h
   ·exact h
 unfold Jh at h
 cases hgt:oQ d f.path f.num with
 |none=>rw[hgt] at h;simp at h
 |some v=>
  rw[hgt] at h
  simp only at h
  split at h
  ·rw[hc _ [v] v rfl] at h
   cases h
   obtain⟨j,_,e⟩:=(iY hg).1 hgt
   exact e
  ·simp at h
end
def pz (l:List Rev):List ByteArray:=l.foldl (fun acc v=>lq acc v.path) []
theorem Lh (l:List Rev) (v:Rev):pz (l++[v])=lq (pz l) v.path:=by simp[pz,List.foldl_append]
theorem Yn {κ:Type} [DecidableEq κ] {l:List κ} {k x:κ} (h:x∈lq l k):x∈l∨x=k:=by
 unfold lq at h
 split at h
 ·exact .inl h
 ·simpa using h
theorem Zc {κ:Type} [DecidableEq κ] (l:List κ) (k:κ):(lq l k).length≤l.length+1:=by
 unfold lq;split<;>simp
theorem Ou:∀(l:List Rev) (acc:List ByteArray) (p:ByteArray),p∈l.foldl (fun acc v=>lq acc v.path) acc→p∈acc∨∃v∈l,v.path=p
 |[],_,_,h=> .inl h
 |v::l,acc,p,h=>by
  rcases Ou l _ p h with h|⟨u,h1,h2⟩
  ·rcases Yn h with h|h
   ·exact .inl h
   ·exact .inr ⟨v,by simp,h.symm⟩
  ·exact .inr ⟨u,by simp[h1],h2⟩
theorem G6 {l:List Rev} {p:ByteArray} (h:p∈pz l):∃v∈l,v.path=p:=by
 rcases Ou l [] p h with h|h
 ·cases h
 ·exact h
theorem Px:∀(l:List Rev) (acc:List ByteArray),(l.foldl (fun acc v=>lq acc v.path) acc).length≤acc.length+l.length
 |[],_=>Nat.le_refl _
 |v::l,acc=>by
  have h1:=Px l (lq acc v.path)
  have h2:=Zc acc v.path
  simp only[List.foldl_cons,List.length_cons] at h1⊢;omega
theorem IQ (l:List Rev):(pz l).length≤l.length:=by have:=Px l [];simpa[pz] using this
def yT:Nat→List ByteArray→List ByteArray
 |0,l=>l
 |k+1,l=>if ord (l.getD (k+1) noS) (l.getD k noS)<0 then yT k ((l.set (k+1) (l.getD k noS)).set k (l.getD (k+1) noS)) else l
def xZ (l:List ByteArray):Nat→List ByteArray
 |0=>l
 |k+1=>yT k (xZ l k)
def jm (d:bK):List ByteArray:=xZ (pz d.revs) (pz d.revs).length
theorem abP {P:ByteArray→Prop} {t:List ByteArray} {v w:ByteArray} {i j:Nat} (hv:P v) (hw:P w) (h:∀r∈t,P r):∀r∈(t.set j w).set i v,P r:=by
 intro r hr
 rcases List.mem_or_eq_of_mem_set hr with hr|rfl
 ·rcases List.mem_or_eq_of_mem_set hr with hr|rfl
  ·exact h r hr
  ·exact hw
 ·exact hv
theorem JE:∀(k:Nat) (l:List ByteArray),(yT k l).length=l.length
 |0,l=>rfl
 |k+1,l=>by
  simp only[yT]
  split
  ·rw[JE k];simp
  ·rfl
theorem En (l:List ByteArray):∀k,(xZ l k).length=l.length
 |0=>rfl
 |k+1=>by rw[xZ,JE,En l k]
theorem Lu {P:ByteArray→Prop}:∀(k:Nat) (l:List ByteArray),k<l.length→(∀r∈l,P r)→∀r∈yT k l,P r
 |0,l,_,h=>h
 |k+1,l,hk,h=>by
  simp only[yT]
  have g:∀i,i<l.length→P (l.getD i noS):=fun i hi=>by rw[List.getD_eq_getElem?_getD,List.getElem?_eq_getElem hi];exact h _ (List.getElem_mem hi)
  split
  ·exact Lu k _ (by simp;omega) (abP (g (k+1) hk) (g k (by omega)) h)
  ·exact h
theorem J7 {P:ByteArray→Prop} {l:List ByteArray} (h:∀r∈l,P r):∀k,k≤l.length→∀r∈xZ l k,P r
 |0,_=>h
 |k+1,hk=>Lu k _ (by rw[En];omega) (J7 h k (by omega))
theorem Ia {d:bK} {p:ByteArray} (h:p∈jm d):∃v∈d.revs,v.path=p:=
 J7 (P:=fun p=>∃v∈d.revs,v.path=p) (fun _ hr=>G6 hr) _ (Nat.le_refl _) p h
theorem Bj (d:bK):(jm d).length≤d.revs.length:=by unfold jm;rw[En];exact IQ _
theorem yJ:∀t:List UInt8,Lib.join (cO t) [47]=t
 |[]=>by simp[cO,Lib.join_one]
 |a::l=>by
  have ih:=yJ l
  simp only[cO]
  obtain⟨h,t,e⟩:=jR l
  split
  ·rename_i ha
   subst ha
   rw[e] at ih⊢
   rw[Lib.join_cons]
   simp only[Lib.joinTail,List.nil_append]
   rw[Lib.join_cons] at ih
   cases t with
   |nil=>simpa[Lib.joinTail] using ih
   |cons b t=>simpa[Lib.joinTail] using ih
  ·rw[e] at ih⊢
   simp only
   rw[Lib.join_cons] at ih⊢
   rw[←ih];rfl
theorem ZF {x y:ByteArray} {l:List ByteArray} (hx:aV x=some l) (hy:aV y=some l):x=y:=by
 have key:∀s:ByteArray,aV s=some l→s=iJ++s.extract 2 s.size∧l=split (s.extract 2 s.size):=by
  intro s h
  unfold aV at h
  split at h
  ·rename_i l' hp
   split at h
   ·cases h
   ·cases h
    unfold jK at hp
    split at hp
    ·rename_i hd
     split at hp
     ·cases hp
      simp only[hasPrefix,Bool.and_eq_true,decide_eq_true_eq] at hd
      refine⟨?_,rfl⟩
      have h2:s.extract 0 2=iJ:=hd.2
      conv=>rhs;arg 1;rw[←h2]
      rw[ByteArray.extract_append_extract]
      simp
     ·cases hp
    ·cases hp
  ·cases h
 obtain⟨a1,a2⟩:=key x hx
 obtain⟨b1,b2⟩:=key y hy
 have e:x.extract 2 x.size=y.extract 2 y.size:=by
  rw[zC] at a2 b2
  rw[a2] at b2
  have h1:=congrArg (List.map fun b:ByteArray=>b.data.toList) b2
  rw[List.map_map,List.map_map] at h1
  have h2:∀L:List (List UInt8),L.map ((fun b:ByteArray=>b.data.toList)∘EF)=L:=fun L=>by
   conv=>rhs;rw[←List.map_id L]
   exact List.map_congr_left fun _ _=>rfl
  rw[h2,h2] at h1
  have h3:=congrArg (fun L=>Lib.join L [47]) h1
  simp only[yJ] at h3
  exact ByteArray.ext (Array.ext' h3)
 rw[a1,b1,e]
theorem abq {x y:ByteArray} (hx:(aV x).isSome=true) (hy:(aV y).isSome=true) (h1:Jj pC x y) (h2:Jj pC y x):x=y:=by
 obtain⟨a,ha⟩:=Option.isSome_iff_exists.1 hx
 obtain⟨b,hb⟩:=Option.isSome_iff_exists.1 hy
 have h0:pC x y=0:=by
  unfold Jj at h1 h2
  by_cases h:0<pC x y
  ·exact absurd (iq.pos x y h) h1
  ·omega
 rw[pC,ha,hb] at h0
 simp only[Option.getD_some] at h0
 have:=cmpL_eq a b h0
 subst this
 exact ZF ha hb
theorem SN {l m:List ByteArray} (hV:VS m) (p:l.Perm m) (hl:aT pC l) (hm:aT pC m):l=m:=
 p.eq_of_pairwise (fun a b ha hb h1 h2=>abq (hV a (p.mem_iff.1 ha)).1 (hV b hb).1 h1 h2) hl hm
theorem ES:∀(k:Nat) (w:List ByteArray) (e0:ByteArray) (S:List ByteArray),w.length=k→VS (w++[e0])→aT pC w→∃z,z.Perm (w++[e0])∧aT pC z∧yT k (w++e0::S)=z++S
 |0,w,e0,S,hw,_,_=>by
  have:w=[]:=List.length_eq_zero_iff.1 hw
  subst this
  exact⟨[e0],List.Perm.refl _,by simp,rfl⟩
 |k+1,w,e0,S,hw,hV,hs=>by
  obtain⟨w',y,rfl⟩:∃w' y,w=w'++[y]:=by
   refine⟨w.take k,w.getD k noS,?_⟩
   have:w.take (k+1)=w:=List.take_of_length_le (by omega)
   conv=>lhs;rw[←this]
   rw[List.take_add_one,List.getElem?_eq_getElem (by omega)]
   simp[List.getD_eq_getElem?_getD,List.getElem?_eq_getElem (by omega:k<w.length)]
  have hw':w'.length=k:=by simpa using hw
  have he:(aV e0).isSome=true:=(hV e0 (by simp)).1
  have hy:(aV y).isSome=true:=(hV y (by simp)).1
  have g1:(w'++[y]++e0::S).getD (k+1) noS=e0:=qJ (by simp[hw'])
  have g2:(w'++[y]++e0::S).getD k noS=y:=by
   rw[show w'++[y]++e0::S=w'++y::(e0::S) by simp]
   exact qJ hw'.symm
  rw[aT,List.pairwise_append] at hs
  simp only[yT,g1,g2]
  rw[←Yr he hy]
  split
  ·rename_i hlt
   have e1:((w'++[y]++e0::S).set (k+1) y).set k e0=w'++e0::(y::S):=by
    rw[tV (by simp[hw'])]
    rw[show w'++[y]++y::S=w'++y::(y::S) by simp]
    exact tV hw'.symm
   rw[e1]
   obtain⟨z,z1,z2,z3⟩:=ES k w' e0 (y::S) hw' (fun s hs=>hV s (by simp only[List.mem_append] at hs⊢;rcases hs with h|h;exact .inl (.inl h);exact .inr h)) hs.1
   rw[z3]
   refine⟨z++[y],?_,?_,by simp⟩
   ·refine(List.Perm.append_right _ z1).trans ?_
    rw[List.append_assoc,List.append_assoc]
    exact List.Perm.append_left _ List.perm_append_comm
   ·rw[aT,List.pairwise_append]
    refine⟨z2,by simp,?_⟩
    intro p hp q hq
    simp only[List.mem_singleton] at hq
    subst hq
    rcases List.mem_append.1 (z1.mem_iff.1 hp) with h|h
    ·exact hs.2.2 p h q (by simp)
    ·simp only[List.mem_singleton] at h
     subst h
     exact iq.le_of_lt hlt
  ·rename_i hlt
   refine⟨w'++[y]++[e0],List.Perm.refl _,?_,by simp⟩
   rw[aT,List.pairwise_append]
   refine⟨by rw[List.pairwise_append];exact hs,by simp,?_⟩
   intro p hp q hq
   simp only[List.mem_singleton] at hq
   subst hq
   rcases List.mem_append.1 hp with h|h
   ·exact iq.le_trans (hs.2.2 p h y (by simp)) hlt
   ·simp only[List.mem_singleton] at h
    subst h
    exact hlt
theorem EP {l:List ByteArray} (hV:VS l):∀k,k≤l.length→∃z,z.Perm (l.take k)∧aT pC z∧xZ l k=z++l.drop k
 |0,_=>⟨[],by simp,List.Pairwise.nil,by simp[xZ]⟩
 |k+1,hk=>by
  obtain⟨z,z1,z2,z3⟩:=EP hV k (by omega)
  have hlz:z.length=k:=by rw[z1.length_eq];simp;omega
  rw[xZ,z3,List.drop_eq_getElem_cons (by omega:k<l.length)]
  obtain⟨y,y1,y2,y3⟩:=ES k z l[k] (l.drop (k+1)) hlz (fun s hs=>by
   rcases List.mem_append.1 hs with h|h
   ·exact hV s (List.mem_of_mem_take (z1.mem_iff.1 h))
   ·simp only[List.mem_singleton] at h
    subst h
    exact hV _ (List.getElem_mem _)) z2
  refine⟨y,?_,y2,y3⟩
  rw[List.take_add_one,List.getElem?_eq_getElem (by omega)]
  exact y1.trans (List.Perm.append_right _ z1)
theorem L8 {d:bK} (hV:VS (pz d.revs)):(jm d).Perm (pz d.revs)∧aT pC (jm d):=by
 obtain⟨z,z1,z2,z3⟩:=EP hV (pz d.revs).length (Nat.le_refl _)
 rw[List.take_length] at z1
 rw[List.drop_length,List.append_nil] at z3
 unfold jm
 rw[z3]
 exact⟨z1,z2⟩
theorem Xw {d:bK} (hV:VS (pz d.revs)) {l:List ByteArray} (p:l.Perm (pz d.revs)) (hl:aT pC l):l=jm d:=by
 obtain⟨h1,h2⟩:=L8 hV
 exact SN (hV.perm h1) (p.trans h1.symm) hl h2
structure wW (d:bK) (k:Nat) (la:List (ByteArray×Int)):Prop where
 keys:la.map (·.1)=pz (d.revs.take k)
 look:∀p i,aB la p=some i→∃(j:Nat) (v:Rev),i=(j:Int)∧j<k∧d.revs[j]? =some v∧v.path=p∧∀(m:Nat) (u:Rev),m<k→d.revs[m]? =some u→u.path=p→m≤j
theorem GR {κ ν:Type} [DecidableEq κ]:∀{m:List (κ×ν)} {k:κ},aB m k=none↔¬k∈m.map (·.1)
 |[],k=>by simp[aB]
 |(a,b)::m,k=>by
  simp only[aB,List.map_cons,List.mem_cons,not_or]
  by_cases h:k=a
  ·subst h;simp
  ·rw[if_neg h,GR];simp[h]
theorem Lm {κ ν:Type} [DecidableEq κ]:∀(m:List (κ×ν)) (k:κ) (v:ν),(jg m k v).map (·.1)=lq (m.map (·.1)) k
 |[],k,v=>by simp[jg,lq]
 |(a,b)::m,k,v=>by
  have ih:=Lm m k v
  simp only[jg,lq] at ih⊢
  by_cases h:k=a
  ·subst h;simp
  ·rw[if_neg h]
   simp only[List.map_cons,List.mem_cons,h,false_or]
   rw[ih]
   split<;>simp
theorem wW.zero (d:bK):wW d 0 []:=⟨rfl,fun p i h=>by simp[aB] at h⟩
theorem wW.step {d:bK} {k:Nat} {la:List (ByteArray×Int)} {v:Rev} (h:wW d k la) (hv:d.revs[k]? =some v):wW d (k+1) (jg la v.path k):=by
 constructor
 ·rw[Lm,h.keys,List.take_add_one,hv]
  exact(Lh _ v).symm
 ·intro p i hi
  rw[jh] at hi
  split at hi
  ·rename_i e
   cases hi
   exact⟨k,v,rfl,by omega,hv,e.symm,fun m u hm _ _=>by omega⟩
  ·rename_i e
   obtain⟨j,w,h1,h2,h3,h4,h5⟩:=h.look p i hi
   refine⟨j,w,h1,by omega,h3,h4,fun m u hm hu hp=>?_⟩
   by_cases e2:m=k
   ·subst e2;rw[hv] at hu;cases hu;exact absurd hp.symm e
   ·exact h5 m u (by omega) hu hp
theorem wW.bd {d:bK} {k:Nat} {la:List (ByteArray×Int)} (h:wW d k la) {p:ByteArray} {i:Int} (hi:aB la p=some i):0≤i∧i<(d.revs.length:Int):=by
 obtain⟨j,v,rfl,_,h3,_⟩:=h.look p i hi
 have:=(List.getElem?_eq_some_iff.1 h3).1
 omega
theorem wW.num {d:bK} (hg:Good d.revs) {k:Nat} {la:List (ByteArray×Int)} {v:Rev} (h:wW d k la) (hv:d.revs[k]? =some v) {i:Int} (hi:aB la v.path=some i):(d.revs.getD i.toNat ai).num<v.num:=by
 obtain⟨j,w,rfl,h2,h3,h4,_⟩:=h.look v.path i hi
 rw[Int.toNat_natCast,List.getD_eq_getElem?_getD,h3]
 exact(hg.path j k w v h2 h3 hv h4).2
theorem PW:∀(l:List Rev) (acc:List ByteArray) (p:ByteArray),(p∈acc∨∃v∈l,v.path=p)→p∈l.foldl (fun acc v=>lq acc v.path) acc
 |[],acc,p,h=>by rcases h with h|⟨_,h,_⟩;exact h;cases h
 |v::l,acc,p,h=>by
  refine PW l _ p ?_
  rw[mD]
  rcases h with h|⟨u,h1,h2⟩
  ·exact .inl (.inl h)
  ·rcases List.mem_cons.1 h1 with rfl|h1
   ·exact .inl (.inr h2.symm)
   ·exact .inr ⟨u,h1,h2⟩
theorem wW.last {d:bK} {la:List (ByteArray×Int)} (h:wW d d.revs.length la) (p:ByteArray):
 (aB la p=none∧eQ d p=none)∨∃(j:Nat) (v:Rev),aB la p=some (j:Int)∧d.revs[j]? =some v∧eQ d p=some v:=by
 cases ha:aB la p with
 |none=>
  refine .inl ⟨rfl,?_⟩
  have:=GR.1 ha
  rw[h.keys,List.take_length] at this
  cases hl:eQ d p with
  |none=>rfl
  |some v=>
   obtain⟨j,h1,h2,_⟩:=lJ hl
   exact absurd (PW d.revs [] p (.inr ⟨v,List.mem_of_getElem? h1,h2⟩)) this
 |some i=>
  obtain⟨j,v,rfl,h2,h3,h4,h5⟩:=h.look p i ha
  refine .inr ⟨j,v,rfl,h3,?_⟩
  cases hl:eQ d p with
  |none=>exact absurd h4 (last_none hl v (List.mem_of_getElem? h3))
  |some w=>
   obtain⟨m,m1,m2,m3⟩:=lJ hl
   have a:=m3 j v h3 h4
   have b:=h5 m w (List.getElem?_eq_some_iff.1 m1).1 m1 m2
   have:j=m:=by omega
   subst this
   rw[h3] at m1;cases m1;rfl
end Go.Proofs.YtcpgicfphakdaaaGreatDoor
namespace Go.Ab
variable [Dr] {P:Program} {x:X} {s:S} {Q:Exit→S→Prop} {c:Code}
theorem aaU (hQ:∀l s,Q (.goto l) s→False) (h:T P x c s Q):T P x (.scope c) s Q:=fun a w hs=>
 wp_scope_straight (wp_mono (h a w hs) fun e a w hq=>by
  cases e with
  |goto l=>obtain⟨s',h1,_⟩:=hq;exact hQ _ _ h1
  |_=>exact hq)
theorem aay {l:Nat} (h:Q .normal s):T P x (.label l) s Q:=fun a w hs=>wp_label ⟨s,h,hs⟩
omit [Dr] in
theorem Wj {rs:List ResultVar} {R:AV→List (Nat×AO)→Prop}:∀l s,MK P rs x R (.goto l) s→False:=fun l s h=>by
 rcases h.1 with h|h<;>cases h
end Go.Ab
namespace Go.Proofs.YtcpgicfphakdaaaGreatDoor
open Go.Ab Tys
theorem SG (l:List (Option (List Int))) (i:Nat) (v:List Int):((l.map jM).map fun l=>l.map C.d).set i (C.d (.pm (dn kN v))::List.drop 1 (((l.map jM).map fun l=>l.map C.d).getD i []))=((l.set i (some v)).map jM).map fun l=>l.map C.d:=
 CE jM l i (some v) 1 (fun _=>rfl)
end Go.Proofs.YtcpgicfphakdaaaGreatDoor
namespace Go.Proofs.YtcpgicfphakdaaaGreatDoor
open Go.Ab
theorem IK {d:bK} (hg:Good d.revs) (hN:d.revs.length≤512) (f:bP):line d f=Jh d f:=by
 rw[ZW hg hN,line]
 refine List.filter_congr fun u _=>?_
 rw[Bool.eq_iff_iff]
 simp[lU]
theorem V7 {d:bK} (hg:Good d.revs) {p:ByteArray} {u w:Rev} (hu:eQ d p=some u) (h5:u.act=5) (hw:oQ d p (u.num-1)=some w):w∈d.revs∧¬w.act=5:=by
 obtain⟨i,hi,ep,_⟩:=lJ hu
 obtain⟨j,x,_,hj,xp,xn,_,x5,_⟩:=hg.prv i u hi (by omega) (by omega)
 obtain⟨k,hk,ek⟩:=(iY hg).1 hw
 have e:fileOf x=fileOf w:=by rw[ek];simp only[fileOf];rw[xp,xn,ep]
 have:=cZ hg hj hk e
 subst this
 rw[hj] at hk;cases hk
 exact⟨List.mem_of_getElem? hj,x5⟩
theorem CS {d:bK} {p:ByteArray} {u:Rev} (hu:eQ d p=some u):u∈d.revs∧u.path=p:=by
 obtain⟨i,hi,ep,_⟩:=lJ hu
 exact⟨List.mem_of_getElem? hi,ep⟩
theorem MI {d:bK} {u:Rev} (hu:u∈d.revs):∃v,eQ d u.path=some v:=by
 cases h:eQ d u.path with
 |some v=>exact⟨v,rfl⟩
 |none=>
  have:=(Oy (fun v:Rev=>decide (v.path=u.path)) d.revs).2 h u hu
  simp at this
theorem zt {d:bK} {f:bP} {u:Rev}:u∈line d f↔u∈d.revs∧¬u.act=5∧first d u=f:=by
 simp[line,lU]
theorem LQ {d:bK} {u:Rev} (hu:u∈d.revs) (h5:¬u.act=5):0<(line d (first d u)).length:=
 List.length_pos_iff.2 fun h=>by have:=zt.2 ⟨hu,h5,rfl⟩;rw[h] at this;cases this
def Om (d:bK) (t:ByteArray):Option Rev:=match eQ d t with|none=>none|some u=>if u.act=5 then oQ d t (u.num-1) else some u
theorem NS {d:bK} (hg:Good d.revs) {t:ByteArray} {u:Rev} (h:Om d t=some u):u∈d.revs∧¬u.act=5:=by
 unfold Om at h
 cases hl:eQ d t with
 |none=>rw[hl] at h;cases h
 |some v=>
  rw[hl] at h
  simp only at h
  by_cases h5:v.act=5
  ·rw[if_pos h5] at h;exact V7 hg hl h5 h
  ·rw[if_neg h5] at h;cases h;exact⟨(CS hl).1,h5⟩
def iZ (d:bK) (u:Rev):Rev:=(line d (first d u)).getD ((line d (first d u)).length-1) ai
theorem VN {d:bK} {u:Rev} (hu:u∈d.revs) (h5:¬u.act=5):iZ d u∈d.revs∧¬(iZ d u).act=5∧first d (iZ d u)=first d u:=by
 have h:=LQ hu h5
 have hm:iZ d u∈line d (first d u):=by
  unfold iZ
  rw[List.getD_eq_getElem?_getD,List.getElem?_eq_getElem (by omega)]
  exact List.getElem_mem _
 exact zt.1 hm
def yA (d:bK) (m:List dU) (self:bP) (q:ByteArray):Option Rev:=
 if(nP m q).2=true then
  match Om d (nP m q).1 with
  |none=>none
  |some u=>if ¬first d u=self∧(eQ d (iZ d u).path).getD ai=iZ d u then some (iZ d u) else none
 else none
def qM (d:bK) (m:List dU) (ln:List Rev):Nat→Option (Rev×ByteArray)
 |0=>none
 |k+1=>
  if k+1<ln.length∧(ln.getD (k+1) ai).path=(ln.getD k ai).path then qM d m ln k
  else match yA d m (fileOf (ln.getD 0 ai)) (ln.getD k ai).path with
   |some w=>some (w,(ln.getD k ai).path)
   |none=>qM d m ln k
def sN (d:bK) (m:List dU) (ln:List Rev):Option (Rev×ByteArray):=qM d m ln ln.length
@[reducible] def adf:Option (Rev×ByteArray)→AV
 |some (w,q)=> .tup [Cc w,pS q,pB true]
 |none=> .tup [Cc ai,pS noS,pB false]
theorem Ep {d:bK} {m:List dU} {ln:List Rev} {w:Rev} {q:ByteArray}:∀{k:Nat},k≤ln.length→qM d m ln k=some (w,q)→∃v∈ln,v.path=q
 |k+1,hk,h=>by
  rw[qM] at h
  split at h
  ·exact Ep (by omega) h
  ·cases ht:yA d m (fileOf (ln.getD 0 ai)) (ln.getD k ai).path with
   |none=>rw[ht] at h;exact Ep (by omega) h
   |some x=>
    rw[ht] at h
    simp only[Option.some.injEq,Prod.mk.injEq] at h
    refine⟨_,?_,h.2⟩
    rw[List.getD_eq_getElem?_getD,List.getElem?_eq_getElem (by omega)]
    exact List.getElem_mem _
section
variable {d:bK} (hg:Good d.revs) (hN:d.revs.length≤512)
include hg hN
end
theorem getD_at {α:Type} {l:List α} {i:Nat} {z:α} (h:i<l.length):l[i]? =some (l.getD i z):=by
 rw[List.getD_eq_getElem?_getD,List.getElem?_eq_getElem h];rfl
def Ld (p:ByteArray) (ln:List Rev):Nat→Int→Int
 |0,fs=>fs
 |k+1,fs=>if(ln.getD k ai).path=p∧fs-1≤(ln.getD k ai).num then Ld p ln k (ln.getD k ai).num else fs
def Ql (rest:List bP) (ln:List Rev) (p:ByteArray):Nat→Nat→Nat
 |0,i=>i
 |n+1,i=>if i+1<ln.length∧fileOf (ln.getD (i+1) ai)∈rest∧(ln.getD (i+1) ai).path=p then Ql rest ln p n (i+1) else i
theorem H7 (rest:List bP) (ln:List Rev) (p:ByteArray) (n i:Nat):Ql rest ln p (n+1) i=if i+1<ln.length∧fileOf (ln.getD (i+1) ai)∈rest∧(ln.getD (i+1) ai).path=p then Ql rest ln p n (i+1) else i:=rfl
theorem Nv (rest:List bP) (ln:List Rev) (p:ByteArray):∀n i,i≤Ql rest ln p n i
 |0,_=>Nat.le_refl _
 |n+1,i=>by
  rw[Ql];split
  ·exact Nat.le_trans (by omega) (Nv rest ln p n (i+1))
  ·exact Nat.le_refl _
theorem EG (rest:List bP) (ln:List Rev) (p:ByteArray):∀n i,ln.length≤n+i→Ql rest ln p (n+1) i=Ql rest ln p n i
 |0,i,h=>by rw[H7,if_neg (by omega)];rfl
 |n+1,i,h=>by
  rw[H7 _ _ _ (n+1) i,H7 _ _ _ n i]
  split
  ·exact EG rest ln p n (i+1) (by omega)
  ·rfl
def qp (rest:List bP) (ln:List Rev) (p:ByteArray) (i:Nat):Nat:=Ql rest ln p ln.length i
theorem KZ {rest:List bP} {ln:List Rev} {p:ByteArray} {i:Nat} (h:i+1<ln.length∧fileOf (ln.getD (i+1) ai)∈rest∧(ln.getD (i+1) ai).path=p):qp rest ln p i=qp rest ln p (i+1):=by
 unfold qp
 have e:ln.length=(ln.length-1)+1:=by omega
 conv=>lhs;rw[e,H7,if_pos h]
 rw[←EG rest ln p (ln.length-1) (i+1) (by omega),←e]
theorem DT {rest:List bP} {ln:List Rev} {p:ByteArray} {i:Nat} (h:¬(i+1<ln.length∧fileOf (ln.getD (i+1) ai)∈rest∧(ln.getD (i+1) ai).path=p)):qp rest ln p i=i:=by
 unfold qp
 cases hl:ln.length with
 |zero=>rfl
 |succ n=>rw[H7,if_neg h]
def runT (f:bP) (ln:List Rev) (w:Rev) (mv:ByteArray) (i j:Nat):Fv:=
 ⟨if(ln.getD j ai).act=3 then 3 else 2,f.path,f.num,(ln.getD i ai).path,(ln.getD i ai).num,(ln.getD j ai).num,w.path,w.num,if 0<i then(ln.getD (i-1) ai).path else noS,if 0<i then(ln.getD (i-1) ai).num else 0,mv⟩
def IA (f:bP) (rest:List bP) (ln:List Rev) (w:Rev) (mv:ByteArray):Nat→Nat→List Fv
 |0,_=>[]
 |n+1,i=>
  if i<ln.length then
   if fileOf (ln.getD i ai)∈rest then runT f ln w mv i (qp rest ln (ln.getD i ai).path i)::IA f rest ln w mv n (qp rest ln (ln.getD i ai).path i+1)
   else IA f rest ln w mv n (i+1)
  else []
theorem Eg (f:bP) (rest:List bP) (ln:List Rev) (w:Rev) (mv:ByteArray) (n i:Nat):IA f rest ln w mv (n+1) i=if i<ln.length then
 if fileOf (ln.getD i ai)∈rest then runT f ln w mv i (qp rest ln (ln.getD i ai).path i)::IA f rest ln w mv n (qp rest ln (ln.getD i ai).path i+1)
 else IA f rest ln w mv n (i+1)
 else []:=rfl
theorem tX (f:bP) (rest:List bP) (ln:List Rev) (w:Rev) (mv:ByteArray):∀n i,ln.length≤n+i→IA f rest ln w mv (n+1) i=IA f rest ln w mv n i
 |0,i,h=>by rw[Eg,if_neg (by omega)];rfl
 |n+1,i,h=>by
  rw[Eg _ _ _ _ _ (n+1) i,Eg _ _ _ _ _ n i]
  have he:=Nv rest ln (ln.getD i ai).path ln.length i
  rw[tX f rest ln w mv n (qp rest ln (ln.getD i ai).path i+1) (by unfold qp;omega),tX f rest ln w mv n (i+1) (by omega)]
def xM (f:bP) (rest:List bP) (ln:List Rev) (w:Rev) (mv:ByteArray) (i:Nat):List Fv:=IA f rest ln w mv ln.length i
theorem Qj {f:bP} {rest:List bP} {ln:List Rev} {w:Rev} {mv:ByteArray} {i:Nat} (h:ln.length≤i):xM f rest ln w mv i=[]:=by
 unfold xM
 cases hl:ln.length with
 |zero=>rfl
 |succ n=>rw[Eg,if_neg (by omega)]
theorem JF {f:bP} {rest:List bP} {ln:List Rev} {w:Rev} {mv:ByteArray} {i:Nat} (h:i<ln.length) (hn:¬fileOf (ln.getD i ai)∈rest):xM f rest ln w mv i=xM f rest ln w mv (i+1):=by
 unfold xM
 have e:ln.length=(ln.length-1)+1:=by omega
 conv=>lhs;rw[e,Eg,if_pos h,if_neg hn]
 rw[←tX f rest ln w mv (ln.length-1) (i+1) (by omega),←e]
theorem OB {f:bP} {rest:List bP} {ln:List Rev} {w:Rev} {mv:ByteArray} {i:Nat} (h:i<ln.length) (hn:fileOf (ln.getD i ai)∈rest):xM f rest ln w mv i=runT f ln w mv i (qp rest ln (ln.getD i ai).path i)::xM f rest ln w mv (qp rest ln (ln.getD i ai).path i+1):=by
 unfold xM
 have e:ln.length=(ln.length-1)+1:=by omega
 have he:=Nv rest ln (ln.getD i ai).path ln.length i
 conv=>lhs;rw[e,Eg,if_pos h,if_pos hn]
 rw[←tX f rest ln w mv (ln.length-1) (qp rest ln (ln.getD i ai).path i+1) (by unfold qp;omega),←e]
noncomputable def yP (d:bK) (s:bP):Option (Rev×ByteArray)→List bP
 |some (w,_)=>(l7 d s (fileOf w)).getD []
 |none=>[]
def RN (d:bK) (m:List dU) (p t:ByteArray) (w:Rev) (q:ByteArray):ByteArray:=
 if ¬q=p∧(nP m q).1=w.path∧¬t=w.path∧live d t=false then t else noS
def brT (d:bK) (p t:ByteArray) (v:Rev):Fv:=
 ⟨1,(first d v).path,(first d v).num,p,Ld p (line d (first d v)) (line d (first d v)).length v.num,v.num,t,dh d t,noS,0,noS⟩
noncomputable def oO (d:bK) (m:List dU) (p:ByteArray):List Fv:=
 let v:=(eQ d p).getD ai
 let t:=(nP m p).1
 if(nP m p).2=false∨v.act=5 then []
 else
  let tg:=sN d m (line d (first d v))
  let rest:=yP d (fileOf v) tg
  match tg with
  |none=>if v.act=3∨live d t=true then [] else [brT d p t v]
  |some (w,q)=>
   if w.act=3 then(if v.act=3∨live d t=true∨rest=[] then [] else [brT d p t v])
   else xM (first d v) rest (line d (first d v)) w (RN d m p t w q) 0
noncomputable def QR (d:bK) (m:List dU):List Fv:=(jm d).flatMap (oO d m)
section
variable {d:bK} (hg:Good d.revs) (hN:d.revs.length≤512) (hf:ET d) (hpt:Qy d)
include hg hN hf hpt
end
def atR (d:bK) (j:Nat):Rev:=d.revs.getD j ai
theorem O4 {d:bK} {j:Nat} {u:Rev} (h:d.revs[j]? =some u):atR d j=u:=by rw[atR,List.getD_eq_getElem?_getD,h];rfl
theorem jU {d:bK} {j:Nat} (h:j<d.revs.length):d.revs[j]? =some (atR d j):=by rw[atR,List.getD_eq_getElem?_getD,List.getElem?_eq_getElem h];rfl
structure QF (d:bK) (L:jv) (me:List (Int×List Int)) (f:bP) (key:Int) (is:List Nat):Prop where
 ln:line d f=is.map (atR d)
 lt:∀j∈is,j<d.revs.length
 len:is.length≤512
 me:aB me key=some (is.map fun j:Nat=>(j:Int))
 act:∀j∈is,¬(atR d j).act=5
 fir:∀j∈is,first d (atR d j)=f
 fst:∀j∈is,L.fst.getD j 0=key
 ord:is.Pairwise (· <·)
 key:0≤key
 abS:∀j,is[0]? =some j→L.prev.getD j 0= -1
 prevS:∀(k j i:Nat),is[k]? =some j→is[k+1]? =some i→L.prev.getD i 0=(j:Int)
section
variable {d:bK} (hg:Good d.revs) (hN:d.revs.length≤512) {L:jv} {me:List (Int×List Int)} (hI:mX d d.revs.length L me)
include hg hN hI
theorem ab1 {i:Nat} {v:Rev} (hv:d.revs[i]? =some v) (v5:¬v.act=5):∃is,QF d L me (first d v) (L.fst.getD i 0) is∧i∈is:=by
 have hi:=(List.getElem?_eq_some_iff.1 hv).1
 have h0:=(hI.fm i v hi hv v5).1
 have hmem:∀j,j∈(List.range d.revs.length).filter (fun j=>decide (L.fst.getD j 0=L.fst.getD i 0))→j<d.revs.length∧¬(atR d j).act=5∧first d (atR d j)=first d v∧L.fst.getD j 0=L.fst.getD i 0:=by
  intro j hj
  rw[List.mem_filter,List.mem_range,decide_eq_true_eq] at hj
  obtain⟨h1,h2⟩:=hj
  have hu:=jU h1
  have h5:¬(atR d j).act=5:=by
   intro h5
   rw[(hI.f5 j _ h1 hu h5).1] at h2
   omega
  exact⟨h1,h5,(ww hg hN hI hu hv h5 v5).1 h2,h2⟩
 have hln:line d (first d v)=((List.range d.revs.length).filter fun j=>decide (L.fst.getD j 0=L.fst.getD i 0)).map (atR d):=by
  unfold line
  conv=>lhs;rw[LJ d.revs ai]
  rw[List.filter_map]
  show((List.range d.revs.length).filter (lU d (first d v)∘atR d)).map (atR d)=_
  congr 1
  refine List.filter_congr fun j hj=>?_
  have hj:=List.mem_range.1 hj
  have hu:=jU hj
  simp only[Function.comp,lU]
  rw[Bool.eq_iff_iff]
  simp only[Bool.and_eq_true,Bool.not_eq_true',decide_eq_false_iff_not,decide_eq_true_eq]
  constructor
  ·rintro⟨h5,hf⟩;exact(ww hg hN hI hu hv h5 v5).2 hf
  ·intro h
   have:=hmem j (List.mem_filter.2 ⟨List.mem_range.2 hj,by simpa using h⟩)
   exact⟨this.2.1,this.2.2.1⟩
 have hord:((List.range d.revs.length).filter fun j=>decide (L.fst.getD j 0=L.fst.getD i 0)).Pairwise (· <·):=List.Pairwise.filter _ List.pairwise_lt_range
 have hin:i∈(List.range d.revs.length).filter fun j=>decide (L.fst.getD j 0=L.fst.getD i 0):=List.mem_filter.2 ⟨List.mem_range.2 hi,by simp⟩
 have hlen:((List.range d.revs.length).filter fun j=>decide (L.fst.getD j 0=L.fst.getD i 0)).length≤512:=Nat.le_trans (List.length_filter_le ..) (by simpa using hN)
 have hm:=hI.mem (L.fst.getD i 0) h0
 have hin2:∀j,j<d.revs.length→L.fst.getD j 0=L.fst.getD i 0→j∈(List.range d.revs.length).filter fun j=>decide (L.fst.getD j 0=L.fst.getD i 0):=fun j h1 h2=>List.mem_filter.2 ⟨List.mem_range.2 h1,by simpa using h2⟩
 generalize (List.range d.revs.length).filter (fun j=>decide (L.fst.getD j 0=L.fst.getD i 0))=is at hmem hln hord hin hm hlen hin2
 refine⟨is,⟨hln,fun j hj=>(hmem j hj).1,hlen,?_,fun j hj=>(hmem j hj).2.1,fun j hj=>(hmem j hj).2.2.1,fun j hj=>(hmem j hj).2.2.2,hord,h0,?_,?_⟩,hin⟩
 ·cases ha:aB me (L.fst.getD i 0) with
  |some l=>rw[ha] at hm;exact congrArg some hm
  |none=>
   rw[ha] at hm
   have:is=[]:=List.map_eq_nil_iff.1 hm.symm
   rw[this] at hin;cases hin
 ·intro j hj
  have hjm:=List.mem_of_getElem? hj
  obtain⟨h1,h2,h3,h4⟩:=hmem j hjm
  rcases hI.pm j _ h1 (jU h1) h2 with⟨u,w,a1,a2,a3,a4,a5,a6,a7,a8⟩|⟨_,a2,_⟩
  ·exfalso
   have hu:=hin2 u (by omega) (by rw[←a8];exact h4)
   obtain⟨k,hk⟩:=List.getElem?_of_mem hu
   obtain⟨k1,k2⟩:=List.getElem?_eq_some_iff.1 hk
   obtain⟨z1,z2⟩:=List.getElem?_eq_some_iff.1 hj
   rcases Nat.eq_zero_or_pos k with rfl|hp
   ·rw[hj] at hk;cases hk;omega
   ·have:=List.pairwise_iff_getElem.1 hord 0 k z1 k1 hp
    omega
  ·exact a2
 ·intro k j i' hj hi'
  have hjm:=List.mem_of_getElem? hj
  have him:=List.mem_of_getElem? hi'
  obtain⟨h1,h2,h3,h4⟩:=hmem j hjm
  obtain⟨g1,g2,g3,g4⟩:=hmem i' him
  have e:=IK hg hN (first d v)
  have c1:(Jh d (first d v))[k]? =some (atR d j):=by rw[←e,hln,List.getElem?_map,hj];rfl
  have c2:(Jh d (first d v))[k+1]? =some (atR d i'):=by rw[←e,hln,List.getElem?_map,hi'];rfl
  have hnx:=ZI d (first d v) k _ _ c1 c2
  obtain⟨_,n1,nb⟩:=(D6 hg hN (jU g1)).1 hnx
  rcases hI.pm i' _ g1 (jU g1) g2 with⟨u,w,a1,a2,a3,a4,a5,a6,a7,a8⟩|⟨a1,_,_⟩
  ·have:=cZ hg a3 (jU h1) (by rw[a5,nb])
   rw[a1,this]
  ·exact absurd a1 n1
theorem aa2 {i:Nat} {v:Rev} (hv:d.revs[i]? =some v) (v5:¬v.act=5) (hl:eQ d v.path=some v) {is:List Nat} (h:QF d L me (first d v) (L.fst.getD i 0) is) (hin:i∈is):0<is.length∧is[is.length-1]? =some i:=by
 obtain⟨j,j1,j2,j3⟩:=lJ hl
 have ej:j=i:=cZ hg j1 hv rfl
 subst ej
 obtain⟨k,hk⟩:=List.getElem?_of_mem hin
 have hkl:=(List.getElem?_eq_some_iff.1 hk).1
 refine⟨by omega,?_⟩
 by_cases e:k=is.length-1
 ·rw[←e];exact hk
 ·exfalso
  have hk1:k+1<is.length:=by omega
  have hx:is[k+1]? =some is[k+1]:=List.getElem?_eq_getElem hk1
  generalize is[k+1]=x at hx
  have hxm:=List.mem_of_getElem? hx
  have hpv:=h.prevS k j x hk hx
  have g1:=h.lt x hxm
  have g2:=h.act x hxm
  have hlt:j<x:=by
   obtain⟨z1,z2⟩:=List.getElem?_eq_some_iff.1 hk
   obtain⟨y1,y2⟩:=List.getElem?_eq_some_iff.1 hx
   have:=List.pairwise_iff_getElem.1 h.ord k (k+1) z1 y1 (by omega)
   omega
  rcases hI.pm x _ g1 (jU g1) g2 with⟨u,w,a1,a2,a3,a4,a5,a6,a7,a8⟩|⟨_,a1,_⟩
  ·rw[hpv] at a1
   have e:u=j:=by omega
   subst e
   rw[hv] at a3;cases a3
   by_cases h4:(atR d x).act=4
   ·obtain⟨y,w,b1,b2,b3,b4⟩:=hg.away x _ (jU g1) h4
    have hb:bW (atR d x)=⟨(atR d x).frm,(atR d x).fnum⟩:=by simp[bW,h4]
    rw[hb] at a5
    simp only[fileOf,bP.mk.injEq] at a5
    have hyu:=j3 y w b1 (by rw[b2];exact a5.1.symm)
    rcases Nat.lt_or_ge y u with hh|hh
    ·have:=(hg.path y u w v hh b1 hv (by rw[b2];exact a5.1.symm)).2
     omega
    ·have:y=u:=by omega
     subst this
     rw[hv] at b1;cases b1;exact v5 b4
   ·have hb:bW (atR d x)=⟨(atR d x).path,(atR d x).num-1⟩:=by simp[bW,h4,a6]
    rw[hb] at a5
    simp only[fileOf,bP.mk.injEq] at a5
    have:=j3 x _ (jU g1) a5.1.symm
    omega
  ·rw[hpv] at a1;omega
end
def sJ (d:bK) (m:List dU) (ln:List Rev):Nat→Option (Rev×ByteArray)
 |0=>none
 |k+1=>
  if 0<k∧(ln.getD (k-1) ai).path=(ln.getD k ai).path then sJ d m ln k
  else match yA d m (fileOf (ln.getD 0 ai)) (ln.getD k ai).path with
   |some w=>some (w,(ln.getD k ai).path)
   |none=>sJ d m ln k
def orT (d:bK) (m:List dU) (f:bP) (q:ByteArray) (X:Option (Rev×ByteArray)):Option (Rev×ByteArray):=match yA d m f q with|some w=>some (w,q)|none=>X
theorem UY (d:bK) (m:List dU) (ln:List Rev) (k:Nat):qM d m ln (k+1)=if k+1<ln.length∧(ln.getD (k+1) ai).path=(ln.getD k ai).path then qM d m ln k else orT d m (fileOf (ln.getD 0 ai)) (ln.getD k ai).path (qM d m ln k):=by
 rw[qM,orT]<;>(split<;>first|rfl|(cases yA d m (fileOf (ln.getD 0 ai)) (ln.getD k ai).path<;>rfl))
theorem abG (d:bK) (m:List dU) (ln:List Rev) (k:Nat):sJ d m ln (k+1)=if 0<k∧(ln.getD (k-1) ai).path=(ln.getD k ai).path then sJ d m ln k else orT d m (fileOf (ln.getD 0 ai)) (ln.getD k ai).path (sJ d m ln k):=by
 rw[sJ,orT]
theorem abJ (d:bK) (m:List dU) (ln:List Rev):∀k,k≤ln.length→
 (¬(k<ln.length∧0<k∧(ln.getD (k-1) ai).path=(ln.getD k ai).path)→qM d m ln k=sJ d m ln k)∧
 ((k<ln.length∧0<k∧(ln.getD (k-1) ai).path=(ln.getD k ai).path)→orT d m (fileOf (ln.getD 0 ai)) (ln.getD (k-1) ai).path (qM d m ln k)=sJ d m ln k)
 |0,_=>⟨fun _=>rfl,fun h=>by omega⟩
 |k+1,hk=>by
  obtain⟨ih1,ih2⟩:=abJ d m ln k (by omega)
  have hkl:k<ln.length:=by omega
  simp only[Nat.add_sub_cancel]
  have hL:=abG d m ln k
  have hs2:(0<k∧(ln.getD (k-1) ai).path=(ln.getD k ai).path)→orT d m (fileOf (ln.getD 0 ai)) (ln.getD k ai).path (qM d m ln k)=sJ d m ln (k+1):=fun hs=>by
   rw[hL,if_pos hs,←ih2 ⟨hkl,hs⟩,hs.2]
  have hs3:¬(0<k∧(ln.getD (k-1) ai).path=(ln.getD k ai).path)→orT d m (fileOf (ln.getD 0 ai)) (ln.getD k ai).path (qM d m ln k)=sJ d m ln (k+1):=fun hs=>by
   rw[hL,if_neg hs,ih1 (fun h=>hs h.2)]
  have hb:orT d m (fileOf (ln.getD 0 ai)) (ln.getD k ai).path (qM d m ln k)=sJ d m ln (k+1):=by
   by_cases hs:0<k∧(ln.getD (k-1) ai).path=(ln.getD k ai).path
   ·exact hs2 hs
   ·exact hs3 hs
  constructor
  ·intro h
   rw[UY,if_neg (by rintro⟨a,b⟩;exact h ⟨a,by omega,b.symm⟩)]
   exact hb
  ·rintro⟨a,_,b⟩
   rw[UY,if_pos ⟨a,b.symm⟩]
   exact hb
theorem acy (d:bK) (m:List dU) (ln:List Rev):sJ d m ln ln.length=sN d m ln:=((abJ d m ln ln.length (Nat.le_refl _)).1 (fun h=>by omega)).symm
theorem Xt {d:bK} {m:List dU} {ln:List Rev} {k:Nat} (h:0<k) (he:(ln.getD (k-1) ai).path=(ln.getD k ai).path):sJ d m ln (k+1)=sJ d m ln k:=by
 rw[sJ,if_pos ⟨h,he⟩]
theorem Xo {d:bK} {m:List dU} {ln:List Rev} {k:Nat} (h:¬(0<k∧(ln.getD (k-1) ai).path=(ln.getD k ai).path)) (ht:yA d m (fileOf (ln.getD 0 ai)) (ln.getD k ai).path=none):sJ d m ln (k+1)=sJ d m ln k:=by
 rw[sJ,if_neg h,ht]
theorem Q9 {d:bK} {m:List dU} {ln:List Rev} {k:Nat} {w:Rev} (h:¬(0<k∧(ln.getD (k-1) ai).path=(ln.getD k ai).path)) (ht:yA d m (fileOf (ln.getD 0 ai)) (ln.getD k ai).path=some w):sJ d m ln (k+1)=some (w,(ln.getD k ai).path):=by
 rw[sJ,if_neg h,ht]
def stF (ln:List Rev) (p:ByteArray):Nat→Nat
 |0=>0
 |k+1=>if(ln.getD k ai).path=p then stF ln p k else k+1
theorem XN {d:bK} (hg:Good d.revs) (hN:d.revs.length≤512) (hf:ET d) {f:bP} {p:ByteArray}:∀k,k<(line d f).length→((line d f).getD k ai).path=p→Ld p (line d f) k ((line d f).getD k ai).num=((line d f).getD (stF (line d f) p k) ai).num
 |0,_,_=>rfl
 |k+1,hk,hp=>by
  have ih:=XN hg hN hf (f:=f) (p:=p) k (by omega)
  rw[Ld,stF]
  by_cases hq:((line d f).getD k ai).path=p
  ·have e:=IK hg hN f
   have b1:(Jh d f)[k]? =some ((line d f).getD k ai):=by rw[←e];exact getD_at (by omega)
   have b2:(Jh d f)[k+1]? =some ((line d f).getD (k+1) ai):=by rw[←e];exact getD_at hk
   have hn:=Xi hg hN hf b1 b2 (by rw[hp,hq])
   rw[if_pos hq,if_pos ⟨hq,by omega⟩,ih hq]
  ·rw[if_neg hq,if_neg (fun h=>hq h.1)]
theorem X3 {p:ByteArray} {ln:List Rev} {k:Nat} (hk:ln.length=k+1) (hp:(ln.getD k ai).path=p):Ld p ln ln.length (ln.getD k ai).num=Ld p ln k (ln.getD k ai).num:=by
 rw[hk,Ld,if_pos ⟨hp,by omega⟩]
section
variable {d:bK} (hg:Good d.revs) (hN:d.revs.length≤512) {L:jv} {me:List (Int×List Int)} (hI:mX d d.revs.length L me) {la:List (ByteArray×Int)} (hla:wW d d.revs.length la)
include hg hN hI hla
theorem aep (t:ByteArray):(aB la t=none∧Om d t=none)∨∃(j:Nat) (v:Rev),aB la t=some (j:Int)∧d.revs[j]? =some v∧eQ d t=some v∧
 ((¬v.act=5∧Om d t=some v)∨(v.act=5∧((aB L.index ⟨t,v.num-1⟩=none∧Om d t=none)∨∃(i:Nat) (u:Rev),aB L.index ⟨t,v.num-1⟩=some (i:Int)∧d.revs[i]? =some u∧¬u.act=5∧Om d t=some u))):=by
 rcases hla.last t with⟨h1,h2⟩|⟨j,v,h1,h2,h3⟩
 ·exact .inl ⟨h1,by unfold Om;rw[h2]⟩
 ·refine .inr ⟨j,v,h1,h2,h3,?_⟩
  by_cases h5:v.act=5
  ·refine .inr ⟨h5,?_⟩
   have hu:Om d t=oQ d t (v.num-1):=by unfold Om;rw[h3];simp only;rw[if_pos h5]
   cases hk:aB L.index ⟨t,v.num-1⟩ with
   |none=>
    refine .inl ⟨rfl,?_⟩
    rw[hu]
    cases hc:oQ d t (v.num-1) with
    |none=>rfl
    |some w=>
     obtain⟨i,i1,i2⟩:=(iY hg).1 hc
     rw[(hI.ix _ (i:Int)).2 ⟨i,w,rfl,(List.getElem?_eq_some_iff.1 i1).1,i1,i2⟩] at hk
     cases hk
   |some x=>
    obtain⟨i,u,rfl,i1,i2,i3⟩:=(hI.ix _ _).1 hk
    have hc:Om d t=some u:=by rw[hu];exact(iY hg).2 ⟨i,i2,i3⟩
    exact .inr ⟨i,u,rfl,i2,(NS hg hc).2,hc⟩
  ·exact .inl ⟨h5,by unfold Om;rw[h3];simp only;rw[if_neg h5]⟩
theorem ad7 {i:Nat} {u:Rev} (hu:d.revs[i]? =some u) (u5:¬u.act=5):∃is,QF d L me (first d u) (L.fst.getD i 0) is∧0<is.length∧∃(w:Nat) (j:Nat),is[is.length-1]? =some w∧atR d w=iZ d u∧w<d.revs.length∧aB la (iZ d u).path=some (j:Int)∧j<d.revs.length∧
 (j=w↔(eQ d (iZ d u).path).getD ai=iZ d u):=by
 obtain⟨is,h,hin⟩:=ab1 hg hN hI hu u5
 have hp:0<is.length:=List.length_pos_of_mem hin
 have hw:is[is.length-1]? =some (is[is.length-1]):=List.getElem?_eq_getElem (by omega)
 generalize is[is.length-1]=w at hw
 have hwm:=List.mem_of_getElem? hw
 have hwl:=h.lt w hwm
 have hlw:atR d w=iZ d u:=by
  unfold iZ
  rw[h.ln,List.length_map,List.getD_eq_getElem?_getD,List.getElem?_map,hw];rfl
 refine⟨is,h,hp,w,?_⟩
 have hr:=jU hwl
 rw[hlw] at hr
 rcases hla.last (iZ d u).path with⟨_,h2⟩|⟨j,v,h1,h2,h3⟩
 ·exact absurd rfl (last_none h2 _ (List.mem_of_getElem? hr))
 ·refine⟨j,hw,hlw,hwl,h1,(List.getElem?_eq_some_iff.1 h2).1,?_⟩
  rw[h3,Option.getD_some]
  constructor
  ·rintro rfl
   rw[hr] at h2;cases h2;rfl
  ·intro e
   exact cZ hg h2 hr (by rw[e])
end
end Go.Proofs.YtcpgicfphakdaaaGreatDoor
