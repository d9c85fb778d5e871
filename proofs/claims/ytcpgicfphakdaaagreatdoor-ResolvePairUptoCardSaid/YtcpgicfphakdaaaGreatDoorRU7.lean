/- A part of the proof. -/
import Derived.Test.YtcpgicfphakdaaaGreatDoorRAbRm
import Derived.Test.YtcpgicfphakdaaaGreatDoorRAbJn
import Derived.Test.YtcpgicfphakdaaaGreatDoorRG3
import Derived.Shelf.Spec.SlicesGrow
import Derived.Test.YtcpgicfphakdaaaGreatDoorRR1
import Derived.Test.YtcpgicfphakdaaaGreatDoorRU2
set_option maxRecDepth 100000
set_option maxHeartbeats 4000000
set_option linter.all false
namespace Go.Proofs.YtcpgicfphakdaaaGreatDoor
section
open Go.Ab
structure RU (d:aW) (x:jo):Prop where
 lo:1≤x.first
 le:x.first≤x.last
 run:OE d x
 head:bf d x.to=x.head
 kind:(x.kind=1∧live d x.to=false∧¬(fH d x).act=3∧x.move=noS)∨
  (x.kind=(if(fH d x).act=3 then 3 else 2)∧live d x.to=true∧¬yf d x.to x.head=some x.line∧(x.move=noS∨(aG x.move).isSome=true∧live d x.move=false∧¬x.move=x.to))
 to:(aG x.to).isSome=true
theorem RU.fits {d:aW} {x:jo} (h:RU d x) (ht:x.to.size≤200) (hm:x.move.size≤200):Fits d x:=by
 have hu:eX x.to=true:=by simp[eX,h.to,ht]
 rcases h.kind with⟨k,l,s,m⟩|⟨k,l,i,m⟩
 ·refine⟨by omega,h.lo,h.le,h.run,hu,h.head,?_⟩
  simp[zt,k,l,MF,s,m]
 ·have hk:x.kind=2∨x.kind=3:=by rw[k];split<;>simp
  have hd:(MF d x==decide (x.kind=3))=true:=by
   rw[k]
   unfold MF
   by_cases e:(fH d x).act=3<;>simp[e]
  refine⟨by omega,h.lo,h.le,h.run,hu,h.head,?_⟩
  have k1:¬x.kind=1:=by omega
  simp only[zt,if_neg k1,l,ajq,i,akd,aj6,hd]
  rcases m with m|⟨m1,m2,m3⟩
  ·simp[V5,m]
  ·simp[V5,eX,m1,hm,m2,m3]
def X4 (d:aW):Prop:=∀v∈d.revs,v.act=3→v.sum=0∧v.size=0
theorem Np {d:aW} {c:iZ} (h:X4 d) (hk:pG d c):X4 (eG d c):=by
 intro v hv ha
 simp only[eG,afs] at hv
 rcases hv with hv|hv
 ·exact h v hv ha
 ·obtain⟨e,he,rfl⟩:=agh.1 hv
  obtain⟨i,hi,e2⟩:=ahN.1 he
  have hE:=hk.edit i hi
  rw[show c.edits.getD i bZ=e by simp[List.getD,hi,e2]] at hE
  exact hE.okGone (.inl ha)
theorem gY.ahm {l:List iZ} {d:aW} (h:gY l d):X4 d:=by
 induction h with
 |nil=>intro r hr;simp[Ee] at hr
 |skip c h ih=>exact ih
 |app h hc hk ih=>exact Np ih hk
structure bV where
 parts:List akK
 rest:Bool
 deriving DecidableEq
structure MB where
 excl:Bool
 left:bV
 right:bV
structure Mc where
 base:bV
 holes:List bV
structure fA where
 left:bV
 right:bV
 holes:List bV
@[reducible] def bU (p:bV):List D:=[.ps 1 (p.parts.map encS), .v (.bool p.rest)]
@[reducible] def abP (r:MB):List D:=[.v (.bool r.excl), .ps 1 (r.left.parts.map encS), .v (.bool r.left.rest), .ps 1 (r.right.parts.map encS), .v (.bool r.right.rest)]
@[reducible] def FU (g:Mc):List D:=[.ps 1 (g.base.parts.map encS), .v (.bool g.base.rest), .ps 2 (g.holes.map bU)]
@[reducible] def fV (x:fA):List D:=[.ps 1 (x.left.parts.map encS), .v (.bool x.left.rest), .ps 1 (x.right.parts.map encS), .v (.bool x.right.rest), .ps 2 (x.holes.map bU)]
@[reducible] def aPat (p:bV):AV:= .agg ((bU p).map C.d)
@[reducible] def QY (r:MB):AV:= .agg ((abP r).map C.d)
@[reducible] def WN (g:Mc):AV:= .agg ((FU g).map C.d)
@[reducible] def adQ (x:fA):AV:= .agg ((fV x).map C.d)
@[reducible] def jR (l:List bV):AV:= .c (.d (.ps 2 (l.map bU)))
@[reducible] def iV (l:List fA):AV:= .c (.d (.ps 5 (l.map fV)))
@[reducible] def pS (s:akK):Bool×List C:=(false,[.d (.v (.string s))])
@[reducible] def ahj (p:bV):Bool×List C:=(true,(bU p).map C.d)
@[reducible] def af8 (r:MB):Bool×List C:=(true,(abP r).map C.d)
@[reducible] def ah8 (g:Mc):Bool×List C:=(true,(FU g).map C.d)
def dG:bV:=⟨[],false⟩
def RY:MB:=⟨false,dG,dG⟩
def agO:Mc:=⟨dG,[]⟩
def Un:fA:=⟨dG,dG,[]⟩
def bG (x:akK):Bool:=!(decide (x=noS)||!decide (byteAt x 0=42))&&(List.range x.size).all fun k=>decide (k=0)||okB (byteAt x k)
def l9 (x:akK):akK:=if bG x then x.extract 1 x.size else noS
def fP (x:akK):Bool:=bG x||comp x
def dm (p:bV):Int:=
 if p.parts.length=0∨(p.parts.length=1∧p.rest=false)∨comp (p.parts.getD 0 noS)=false then 30
 else if(p.parts.drop 1).all fP then(if 12<p.parts.length then 31 else 0) else 30
def iU (p:bV):Bool:=decide (dm p=0)
def dX (s t:akK):Bool:=decide (t.size≤s.size)&&decide (s.extract (s.size-t.size) s.size=t)
def uA (x c:akK):akK×Bool:=
 if bG x then(if dX c (l9 x) then(c.extract 0 (c.size-(l9 x).size),comp (c.extract 0 (c.size-(l9 x).size))) else(noS,false)) else(noS,decide (x=c))
def aK (l:List akK):Nat:=(l.filter bG).length
def tH (p:bV):Nat:=aK p.parts+(if p.rest then 1 else 0)
def jG (ps ls:List akK):Nat→List akK
 |0=>[]
 |k+1=>jG ps ls k++(if bG (ps.getD k noS) then [(uA (ps.getD k noS) (ls.getD k noS)).1] else [])
def wF (ps ls:List akK) (k:Nat):Bool:=(List.range k).all fun i=>(uA (ps.getD i noS) (ls.getD i noS)).2
def Ah (p:bV) (l:List akK):Bool:=iU p&&!(decide (l.length<p.parts.length)||(!p.rest&&decide (p.parts.length<l.length))||(p.rest&&decide (l.length=p.parts.length)))
def fQ (p:bV) (s:akK):Option (List akK):=
 match aG s with
 |none=>none
 |some l=>if Ah p l&&wF p.parts l p.parts.length then some (jG p.parts l p.parts.length++(if p.rest then [dR (l.drop p.parts.length) slash] else [])) else none
def afz (p:bV):akK:=if p.rest then(fD++dR p.parts slash)++{data:= #[47,46,46,46]} else fD++dR p.parts slash
def jX (ps cs:List akK):Nat→List akK
 |0=>[]
 |k+1=>jX ps cs k++[if bG (ps.getD k noS) then cs.getD (aK (ps.take k)) noS++l9 (ps.getD k noS) else ps.getD k noS]
def qQ (ps cs:List akK) (k:Nat):Bool:=(List.range k).all fun i=>!bG (ps.getD i noS)||comp (cs.getD (aK (ps.take i)) noS)
def rF (p:bV) (cs:List akK):akK×Int:=
 if iU p then
  if cs.length=tH p then
   if qQ p.parts cs p.parts.length then
    if p.rest then
     if(split (cs.getD (aK p.parts) noS)).all comp then(fD++dR (jX p.parts cs p.parts.length++split (cs.getD (aK p.parts) noS)) slash,0) else(noS,32)
    else(fD++dR (jX p.parts cs p.parts.length) slash,0)
   else(noS,32)
  else(noS,32)
 else(noS,dm p)
def bI (x y:akK):Bool:=if bG y then(if bG x then dX (l9 x) (l9 y) else(uA y x).2) else decide (x=y)
def iC (p q:bV):Bool:=
 iU p&&iU q&&decide (q.parts.length≤p.parts.length)&&(q.rest||(!p.rest&&decide (p.parts.length≤q.parts.length)))&&!(q.rest&&decide (p.parts.length=q.parts.length)&&!p.rest)
  &&(List.range q.parts.length).all fun i=>bI (p.parts.getD i noS) (q.parts.getD i noS)
def zH (p q:bV) (i:Nat):Bool:=decide (q.parts.length≤i)||bI (p.parts.getD i noS) (q.parts.getD i noS)||bI (q.parts.getD i noS) (p.parts.getD i noS)
def jM (p q:bV):Nat→List akK
 |0=>[]
 |k+1=>jM p q k++[if decide (q.parts.length≤k)||bI (p.parts.getD k noS) (q.parts.getD k noS) then p.parts.getD k noS else q.parts.getD k noS]
def zh (p q:bV):Option bV:=
 if(q.parts.length<p.parts.length∧q.rest=false)∨(p.parts.length=q.parts.length∧p.rest≠q.rest) then none
 else if(List.range p.parts.length).all (zH p q) then some ⟨jM p q p.parts.length,p.rest⟩ else none
def lK (p q:bV):Option bV:=if iU p&&iU q then(if p.parts.length<q.parts.length then zh q p else zh p q) else none
def EK (p q:bV):Nat→List bV
 |0=>[]
 |k+1=>EK p q k++(if bG (p.parts.getD k noS) then [⟨[(q.parts.getD k noS).extract 0 ((q.parts.getD k noS).size-(l9 (p.parts.getD k noS)).size)],false⟩] else [])
def l7 (p q:bV):Option (List bV):=
 if iC q p then some (EK p q p.parts.length++(if p.rest then [⟨q.parts.drop p.parts.length,q.rest⟩] else [])) else none
def qH (ps:List akK) (l:List bV):Nat→List akK
 |0=>[]
 |k+1=>qH ps l k++[if bG (ps.getD k noS) then((l.getD (aK (ps.take k)) dG).parts.getD 0 noS)++l9 (ps.getD k noS) else ps.getD k noS]
def JL (b:bV):Bool:=decide (b.parts.length=1)&&!b.rest&&fP (b.parts.getD 0 noS)
def Sv (ps:List akK) (l:List bV) (k:Nat):Bool:=(List.range k).all fun i=>!bG (ps.getD i noS)||JL (l.getD (aK (ps.take i)) dG)
def Me (p:bV):bV×Int:=if 12<p.parts.length then(dG,31) else(p,0)
def jL (p:bV) (l:List bV):bV×Int:=
 if iU p then
  if l.length=tH p then
   if Sv p.parts l p.parts.length then
    if p.rest then
     if(!(l.getD (aK p.parts) dG).parts.isEmpty||(l.getD (aK p.parts) dG).rest)&&(l.getD (aK p.parts) dG).parts.all fP then
      Me ⟨qH p.parts l p.parts.length++(l.getD (aK p.parts) dG).parts,(l.getD (aK p.parts) dG).rest⟩
     else(dG,33)
    else Me ⟨qH p.parts l p.parts.length,false⟩
   else(dG,33)
  else(dG,33)
 else(dG,dm p)
def iQ (r:MB):Int:=if iU r.left then(if iU r.right then(if aK r.left.parts=aK r.right.parts∧r.left.rest=r.right.rest then 0 else 42) else 41) else 40
def okR (r:MB):Bool:=decide (iQ r=0)
def XA (r:MB) (s:akK):akK×Bool:=
 if okR r then(match fQ r.left s with|none=>(noS,false)|some l=>((rF r.right l).1,decide ((rF r.right l).2=0))) else(noS,false)
def qX (r:MB) (p:bV):MB×Bool×Int:=
 if okR r then
  if iU p then
   match lK r.left p with
   |none=>(RY,false,0)
   |some m=>if(jL r.right ((l7 r.left m).getD [])).2=0 then(⟨false,m,(jL r.right ((l7 r.left m).getD [])).1⟩,true,0) else(RY,false,43)
  else(RY,false,dm p)
 else(RY,false,iQ r)
def nS (g:Mc):Int:=if iU g.base then(if g.holes.all iU then(if 64<g.holes.length then 52 else 0) else 51) else 50
def abh (g:Mc) (s:akK):Bool:=(fQ g.base s).isSome&&!g.holes.any fun h=>(fQ h s).isSome
def NU:Nat→List bV→List bV
 |0,l=>l
 |k+1,l=>if cb (afz (l.getD (k+1) dG)) (afz (l.getD k dG))<0 then NU k ((l.set (k+1) (l.getD k dG)).set k (l.getD (k+1) dG)) else l
def KN (l:List bV):Nat→List bV
 |0=>l
 |k+1=>NU k (KN l k)
def pX (l:List bV) (i j:Nat):Bool:=!decide (i=j)&&iC (l.getD i dG) (l.getD j dG)&&(decide (j<i)||!decide (l.getD i dG=l.getD j dG))
def Hg (l:List bV):Nat→List bV
 |0=>[]
 |k+1=>Hg l k++(if(List.range l.length).any (pX l k) then [] else [l.getD k dG])
def aa3 (b:bV) (hs:List bV):List bV:=hs.filterMap (lK b)
def Gu (b:bV) (hs:List bV):Mc:=⟨b,Hg (KN (aa3 b hs) (aa3 b hs).length) (aa3 b hs).length⟩
@[reducible] def rG:akK:={data:= #[42]}
def yU (p:bV) (i:Nat):akK:=if i<p.parts.length then p.parts.getD i noS else rG
def nN (p:bV) (n:Nat):Bool:=if p.rest then decide (p.parts.length<n) else decide (n=p.parts.length)
def o8 (b h:bV) (n:Nat):Bool:=nN h n&&(List.range (min n h.parts.length)).all fun i=>bI (yU b i) (h.parts.getD i noS)
def oK (g:Mc) (n:Nat):Bool:=g.holes.any fun h=>o8 g.base h n
def qm:List bV→Nat→Nat
 |[],m=>m
 |h::l,m=>qm l (max m h.parts.length)
def Hz (g:Mc):Nat:=
 if g.base.rest then(match(List.range (qm g.holes g.base.parts.length+1-g.base.parts.length)).find? (fun j=>!oK g (g.base.parts.length+1+j)) with|some j=>g.base.parts.length+1+j|none=>0)
 else if oK g g.base.parts.length then 0 else g.base.parts.length
def fA.line (x:fA):MB:=⟨false,x.left,x.right⟩
def fA.F7 (x:fA):Mc:=⟨x.left,x.holes⟩
def mi (x:fA):List bV→Option (List bV)
 |[]=>some []
 |h::l=>if(qX x.line h).2.2=0 then(mi x l).map (fun t=>if(qX x.line h).2.1 then(qX x.line h).1.right::t else t) else none
def F8 (x:fA):Option Mc:=(mi x x.holes).map (Gu x.right)
def nI (a b:Mc):Bool:=match lK a.base b.base with|none=>false|some m=>decide (0<Hz ⟨m,a.holes++b.holes⟩)
def Gt (x:fA):Bool:=okR x.line&&decide (nS x.F7=0)
def nG (m:List fA) (s:akK):akK×Bool:=match m.find? (fun x=>abh x.F7 s) with|none=>(noS,false)|some x=>XA x.line s
end
section
open Go.Ab Tys
variable [Dr]
theorem Ru {x:akK} {k:Nat} (h1:1≤k) (hk:k<x.size) (h:okB (byteAt x k)=false):bG x=false:=by
 cases e:bG x
 ·rfl
 ·simp only[bG,afA] at e
  have:=kC _ k (fun k=>decide (k=0)||okB (byteAt x k)) hk e.2
  simp[show ¬k=0 by omega,h] at this
def ah0.kk:=p7 kB kG kS Tryz.ntmps260 Tryz.underlying9 jB Tryz.results260
open ah0 in
theorem Aj (s t:akK) (hs:s.size≤1000000) (ht:t.size≤1000000):AC Tryz.prog 260 [Str s,Str t] [] (fun r st=>r=B (dX s t)∧st=[]):=by
 refine df Tryz.func260 Tryz.ntmps260 fun x hx=>?_
 refine aZ ?_
 refine gg ?_
 refine aZ ?_
 refine gq ?_ ?_
 ·simp only[All,List.cons_append,List.nil_append,ahu,ajG,implies_true,forall_const,aeB,dB]
  repeat' (first|exact trivial|refine And.intro ?_ ?_|intro _|omega|(simp_all;done))
 refine aZ ?_
 refine rA [] ?_
 refine⟨?_,rfl⟩
 have e:((s.size:Int)-t.size).toNat=s.size-t.size:=by omega
 cases h:decide (t.size≤s.size)<;>simp_all[dX]
def aik.kk:=p3 kB Tryz.ntmps247 Tryz.results247
open aik in
theorem ZY (s t:akK) (hs:s.size≤1000000) (ht:t.size≤1000000):AC Tryz.prog 247 [Str s,Str t] [] (fun r st=>r=B (dX s t)∧st=[]):=by
 refine df Tryz.func247 Tryz.ntmps247 fun x hx=>?_
 (repeat (first|refine nv ?_|refine cf (Aj s t hs ht) ?_))
 refine rA [] ?_
 refine⟨?_,rfl⟩
 rfl
theorem zI (a:akK):(l9 a).size≤a.size:=by
 unfold l9
 split
 ·rw[aj3];omega
 ·show 0≤_;omega
theorem OL {s t:akK} (h:dX s t=true):t.size≤s.size:=by
 simp only[dX,afA,aeB] at h;exact h.1
def PB (n:Nat) (p:bV):Prop:=p.parts.length≤n∧∀s∈p.parts,s.size≤n
theorem PB.get {n:Nat} {p:bV} (h:PB n p) (i:Nat):(p.parts.getD i noS).size≤n:=by
 rw[adI]
 cases e:p.parts[i]? with
 |none=>exact aj8 _
 |some s=>exact h.2 s (aem e)
theorem PB.mono {n m:Nat} {p:bV} (h:PB n p) (hm:n≤m):PB m p:=⟨ajo h.1 hm,fun s hs=>ajo (h.2 s hs) hm⟩
theorem xy:aK []=0:=rfl
end
section
open Go.Ab
theorem agQ:okB 47=false:=by kernel_rfl
theorem qg {s:akK} (h:comp s=true):∀k,k<s.size→okB (byteAt s k)=true:=by
 intro k hk
 simp only[comp,afA] at h
 exact kC _ k (fun k=>okB (byteAt s k)) hk h.2
theorem YC {s:akK} (h:∀k,k<s.size→okB (byteAt s k)=true):∀x∈s.data.toList,x≠47:=by
 intro x hx e
 subst e
 obtain⟨k,hk⟩:=af7 hx
 have hl:=(adK.1 hk).1
 have hk2:k<s.size:=by simpa using hl
 have:=h k hk2
 rw[(wR hk).2 rfl,agQ] at this
 cases this
theorem zl:∀Ls:List (List UInt8),Ls≠[]→(∀l∈Ls,∀x∈l,x≠47)→dn (Lib.join Ls [47])=Ls
 |[],h,_=>absurd rfl h
 |[l],_,h=>by rw[Lib.join_one,wL (h l (by simp))]
 |l::m::r,_,h=>by
  have e:Lib.join (l::m::r) [47]=l++47::Lib.join (m::r) [47]:=by
   rw[Lib.join_cons,Lib.join_cons]
   simp[Lib.joinTail]
  rw[e,yO (h l (by simp)),zl (m::r) (by simp) fun l hl=>h l (ajl _ hl)]
theorem Pz (L:List akK):(L.map (·.data.toList)).map Hl=L:=by
 rw[ajM]
 conv=>rhs;rw[←List.map_id L]
 exact ajZ fun _ _=>rfl
theorem LP (a b:akK):(a++b).extract a.size (a++b).size=b:=ByteArray.extract_append_eq_right rfl ajH
theorem VK (a b:akK):(a++b).extract 0 a.size=a:=ByteArray.extract_append_eq_left rfl
theorem Og {L:List akK} (h2:2≤L.length) (hc:L.all comp=true):aG (fD++dR L slash)=some L:=by
 have hd:fD.size=2:=rfl
 have hp:hasPrefix (fD++dR L slash) fD=true:=by
  have:=VK fD (dR L slash)
  rw[hd] at this
  simp only[hasPrefix,hd,this,akJ,akt,aeB]
  simp[ajH,hd]
 have he:(fD++dR L slash).extract 2 (fD++dR L slash).size=dR L slash:=LP fD _
 have hs:split (dR L slash)=L:=by
  rw[vU]
  have:(dR L slash).data.toList=Lib.join (L.map (·.data.toList)) [47]:=by simp[dR,slash]
  rw[this,zl _ (by intro h;rw[List.map_eq_nil_iff] at h;subst h;simp at h2) ?_,Pz]
  intro l hl x hx
  obtain⟨s,hs,rfl⟩:=agh.1 hl
  exact YC (qg (agr.1 hc s hs)) x hx
 unfold aG jm
 rw[if_pos hp,he,hs,if_pos hc]
 simp only
 rw[if_neg (by omega)]
theorem gV {x:akK} (h:bG x=true):1≤x.size∧∀k,1≤k→k<x.size→okB (byteAt x k)=true:=by
 simp only[bG,afA,afU,ajQ,agZ] at h
 refine⟨tN h.1.1,fun k h1 hk=>?_⟩
 have:=kC _ k (fun k=>decide (k=0)||okB (byteAt x k)) hk h.2
 simpa[show ¬k=0 by omega] using this
theorem uO {a b:akK} {k:Nat} (h:k<a.size):byteAt (a++b) k=byteAt a k:=by
 have h1:(a++b).data=a.data++b.data:=ByteArray.data_append
 have h2:k<a.data.size:=h
 simp only[byteAt,h1,ahP,Array.getElem?_append,if_pos h2]
theorem GN {a b:akK} {k:Nat} (h:a.size≤k):byteAt (a++b) k=byteAt b (k-a.size):=by
 have h1:(a++b).data=a.data++b.data:=ByteArray.data_append
 have h2:¬k<a.data.size:=by have:a.data.size=a.size:=rfl;omega
 simp only[byteAt,h1,ahP,Array.getElem?_append,if_neg h2];rfl
theorem L9 {a:akK} {i k:Nat} (h:i+k<a.size):byteAt (a.extract i a.size) k=byteAt a (i+k):=by
 have h2:i+k<a.data.size:=h
 simp only[byteAt,aj7,ahP,Array.getElem?_extract]
 rw[if_pos (by have e:a.data.size=a.size:=rfl;omega)]
theorem UL {x:akK} (h:bG x=true):(l9 x).size=x.size-1:=by
 simp only[l9,if_pos h,aj3];omega
theorem EO {s:akK} (h:comp s=true):1≤s.size∧¬byteAt s 0=46:=by
 simp only[comp,afA,afU,ajQ,agZ] at h
 exact⟨tN h.1.1,h.1.2⟩
theorem Yz {s:akK} (h1:1≤s.size) (h2:¬byteAt s 0=46) (h3:∀k,k<s.size→okB (byteAt s k)=true):comp s=true:=by
 simp only[comp,afA,afU,ajQ,agZ]
 refine⟨⟨?_,h2⟩,?_⟩
 ·rintro rfl;simp[ByteArray.size] at h1
 ·rw[agr];intro k hk;exact h3 k (aht.1 hk)
theorem Rt {c x:akK} (hc:comp c=true) (hx:bG x=true):comp (c++l9 x)=true:=by
 obtain⟨c1,c2⟩:=EO hc
 obtain⟨x1,x2⟩:=gV hx
 refine Yz (by rw[ajH];omega) (by rw[uO (by omega)];exact c2) ?_
 intro k hk
 rw[ajH,UL hx] at hk
 by_cases h:k<c.size
 ·rw[uO h];exact qg hc k h
 ·rw[GN (by omega),l9,if_pos hx,L9 (by omega)]
  exact x2 _ (by omega) (by omega)
theorem qA {p:bV}:iU p=true↔(1≤p.parts.length∧(p.rest=false→2≤p.parts.length)∧comp (p.parts.getD 0 noS)=true∧(p.parts.drop 1).all fP=true∧p.parts.length≤12):=by
 unfold iU dm
 rw[aeB]
 split
 ·rename_i h
  constructor
  ·intro h;omega
  ·rintro⟨h1,h2,h3,_⟩
   rcases h with h|⟨h,h'⟩|h
   ·omega
   ·have:=h2 h';omega
   ·rw[h] at h3;cases h3
 ·rename_i h
  simp only[not_or,not_and] at h
  split
  ·rename_i ha
   split
   ·constructor
    ·intro h;omega
    ·intro h;omega
   ·refine⟨fun _=>⟨by omega,?_,by simpa using h.2.2,ha,by omega⟩,fun _=>rfl⟩
    intro hr
    have:=h.2.1
    by_cases h1:p.parts.length=1
    ·exact absurd hr (this h1)
    ·omega
  ·rename_i ha
   constructor
   ·intro h;omega
   ·rintro⟨_,_,_,h4,_⟩;exact absurd h4 ha
theorem Fa (ps cs:List akK):∀k,(jX ps cs k).length=k
 |0=>rfl
 |k+1=>by simp[jX,Fa ps cs k]
theorem TV {p:bV} (h:iU p=true) {i:Nat} (hi:i<p.parts.length) (hs:bG (p.parts.getD i noS)=false):comp (p.parts.getD i noS)=true:=by
 obtain⟨h1,_,h3,h4,_⟩:=qA.1 h
 cases i with
 |zero=>exact h3
 |succ i=>
  have hm:p.parts.getD (i+1) noS∈p.parts.drop 1:=by
   rw[adI,adH hi,Option.getD_some,ahN]
   exact⟨i,by simp;omega,by simp[Nat.add_comm]⟩
  have:=agr.1 h4 _ hm
  rw[fP,hs] at this
  exact this
theorem Oo {p:bV} (h:iU p=true) {cs:List akK}:∀{k:Nat},k≤p.parts.length→qQ p.parts cs k=true→(jX p.parts cs k).all comp=true
 |0,_,_=>rfl
 |k+1,hk,hf=>by
  simp only[qQ,List.range_succ,ajY,List.all_cons,List.all_nil,akt,afA] at hf
  simp only[jX,ajY,List.all_cons,List.all_nil,akt,afA]
  refine⟨Oo h (by omega) hf.1,?_⟩
  cases hs:bG (p.parts.getD k noS) with
  |true=>
   have:=hf.2
   rw[hs] at this
   exact Rt (by simpa using this) hs
  |false=>simpa using TV h (by omega) hs
theorem YY (s:akK):1≤(split s).length:=by
 obtain⟨h,t,e⟩:=je s.data.toList
 rw[vU,e];simp
theorem ZQ {p:bV} {cs:List akK} (h:(rF p cs).2=0):(aG (rF p cs).1).isSome=true:=by
 unfold rF at h⊢
 by_cases h1:iU p=true
 ·rw[if_pos h1] at h⊢
  split at h
  ·rename_i h2
   rw[if_pos h2]
   split at h
   ·rename_i h3
    rw[if_pos h3]
    have ha:=Oo h1 (afJ _) h3
    split at h
    ·rename_i h4
     rw[if_pos h4]
     split at h
     ·rename_i h5
      rw[if_pos h5]
      simp only
      rw[Og (by rw[afI,Fa];have:=(qA.1 h1).1;have:=YY (cs.getD (aK p.parts) noS);omega) (by rw[ajY,ha,h5];rfl)]
      rfl
     ·simp at h
    ·rename_i h4
     rw[if_neg h4]
     simp only
     rw[Og (by rw[Fa];exact(qA.1 h1).2.1 (by simpa using h4)) ha]
     rfl
   ·simp at h
  ·simp at h
 ·rw[if_neg h1] at h
  simp only at h
  exact absurd (ajk h) h1
theorem adn {r:MB} {s:akK} (h:(XA r s).2=true):(aG (XA r s).1).isSome=true:=by
 unfold XA at h⊢
 split at h
 ·rename_i h1
  rw[if_pos h1]
  cases hm:fQ r.left s with
  |none=>rw[hm] at h;cases h
  |some l=>
   rw[hm] at h
   exact ZQ (agw h)
 ·cases h
theorem aeV {m:List fA} {s:akK} (h:(nG m s).2=true):(aG (nG m s).1).isSome=true:=by
 unfold nG at h⊢
 cases hf:m.find? (fun x=>abh x.F7 s) with
 |none=>rw[hf] at h;cases h
 |some x=>rw[hf] at h;exact adn h
end
end Go.Proofs.YtcpgicfphakdaaaGreatDoor
namespace Go.Ab
open Go.Shelf Go.Proofs Go.RowKit
theorem ab9 [Dr] {P:Program} {f:FuncId} (hc:wX P f) {ρ:Ren} (hf:ρ.f 4=f) (L:Lays8.n4 P ρ) (id sz:Nat) (hs0:0<sz):
 AC P f [.c (.d (.v (.slice none 0 0))),I .i64 (0:Nat)] [] (fun r st=>r= .c (.ms id sz 0 0)∧st=[(id, .arr sz [])]):=by
 refine⟨hc,?_⟩
 intro bl cap F w us hs hargs
 cases hargs with
 |cons hv ht=>
 cases ht with
 |cons hv2 ht=>
 cases ht
 have hv2':cO _ _ _ _:=hv2
 cases hv2'
 have hv':cO _ _ _ _:=hv
 cases hv'
 subst hf
 refine(Any8.slices_Grow_room L none 0 0 0 w (by omega) (by omega) (by omega) (by omega)).mono fun e w' ⟨he,hw⟩=>?_
 subst hw
 obtain⟨bl',cap',a1,a2,a3⟩:=xH (x:=X.start bl cap F [] w') (id:=id) (sz:=sz) none hs (by simp[Ab.get]) hs0
 exact⟨_,_,bl',cap',_,he,⟨rfl,rfl⟩,by simp,a1,a3⟩
theorem afi [Dr] {P:Program} {f:FuncId} (hc:wX P f) {ρ:Ren} (hf:ρ.f 4=f) (L:Lays8.n4 P ρ) (i0:TypeInfo) (z:Value) (hi0:P.info? (ρ.t 25)=some i0) (hz0:i0.zero=some z) (hs0:0<i0.size) (hzs:z.cells.size=i0.size)
 (id n:Nat) (hn:0<n) (hbig:n*i0.bytes≤140737488355328) (h63:n≤4611686018427387904):
 AC P f [.c (.d (.v (.slice none 0 0))),I .i64 n] [] (fun r st=>r= .c (.ms id i0.size 0 0)∧st=[(id, .arr i0.size [])]):=by
 refine⟨hc,?_⟩
 intro bl cap F w us hs hargs
 cases hargs with
 |cons hv ht=>
 cases ht with
 |cons hv2 ht=>
 cases ht
 have hv2':cO _ _ _ _:=hv2
 cases hv2'
 have hv':cO _ _ _ _:=hv
 cases hv'
 subst hf
 refine(Any8.slices_Grow_grow L i0 z hi0 hz0 hs0 none 0 0 n [] w (by omega) (by omega) (by rw[ajR];exact hbig) (by omega) (by simp) (fun _=>rfl) (fun a h=>by cases h)).mono fun e w' ⟨he,hw⟩=>?_
 subst hw
 obtain⟨bl',cap',a1,a2,a3⟩:=wQ (x:=X.start bl cap F [] w) (id:=id) (sz:=i0.size) (n:=grownCap w (0+n) 0 (ρ.t 25)) (T:=ρ.t 25) (xs:=[]) (st:=[]) hs (by simp[Ab.get])
  (w':={w with heap:=w.heap.push (.cells (([]:List Value).toArray++Builtin.zeroCells z.cells (0+n-0)++Builtin.zeroCells z.cells (grownCap w (0+n) 0 (ρ.t 25)-(0+n))) (ρ.t 25) (0,0)),drawn:=w.drawn+1})
  (OT _ _ (Nat.le_succ _)) ajX (by show _<(w.heap.push _).size;rw[Array.size_push];omega) hs0 (by simp) (by simp)
  (by
    have:=grownCap_ge w (0+n) 0 (ρ.t 25)
    simp only[Array.size_append,ako,List.length_nil,size_zeroCells,hzs]
    rw[ajR,←akg];congr 1;omega)
  (by simp;exact .nil)
 exact⟨_,_,bl',cap',_,he,⟨rfl,rfl⟩,by simp,a1,a3⟩
theorem SQ [Dr] {P:Program} {f:FuncId} (hc:wX P f) {ρ:Ren} (hf:ρ.f 4=f) (L:Lays8.n4 P ρ) (i0:TypeInfo) (z:Value) (hi0:P.info? (ρ.t 25)=some i0) (hz0:i0.zero=some z) (hs0:0<i0.size) (hzs:z.cells.size=i0.size)
 (id n:Nat) (hbig:n*i0.bytes≤140737488355328) (h63:n≤4611686018427387904):
 AC P f [.c (.d (.v (.slice none 0 0))),I .i64 n] [] (fun r st=>r= .c (.ms id i0.size 0 0)∧st=[(id, .arr i0.size [])]):=by
 rcases Nat.eq_zero_or_pos n with rfl|h
 ·exact ab9 hc hf L id _ hs0
 ·exact afi hc hf L i0 z hi0 hz0 hs0 hzs id n h hbig h63
end Go.Ab
namespace Go.Proofs.YtcpgicfphakdaaaGreatDoor
open Go.Ab Tys
variable [Dr]
def z98.kk:=p5 kB kG Tryz.ntmps98 Tryz.underlying9 Tryz.results98
open z98 in
theorem NR (p:akK) (hs:p.size≤100000):AC Tryz.prog 98 [Str p] [] (fun r st=>r=B (eX p)∧st=[]):=by
 have hv:=Eb p hs
 refine df Tryz.func98 Tryz.ntmps98 fun x hx=>?_
 try refine nv ?_
 refine so ([(8,B (aG p).isSome)]) ?_ ?_
 ·exact eQ @hv
 try refine nv ?_
 refine rA [] ?_
 refine⟨?_,rfl⟩
 simp only[eX]
 by_cases h:p.size≤200
 ·have:(p.size:Int)≤200:=by omega
  simp[h,this]
 ·have:¬(p.size:Int)≤200:=by omega
  simp[h,this]
def aiU.kk:=p8 kB kG Tryz.ntmps100 dM iF mG iq Tryz.results100
open aiU in
theorem Ri (v:Rev) (f:Bool):AC Tryz.prog 100 [BL v,B f] [] (fun r st=>r=B (f&&!gone v)∧st=[]):=by
 refine df Tryz.func100 Tryz.ntmps100 fun x hx=>?_
 try refine nv ?_
 refine rA [] ?_
 refine⟨?_,rfl⟩
 cases f<;>simp[gone]<;>(by_cases h3:v.act=3<;>by_cases h5:v.act=5<;>simp[h3,h5])
def z99.kk:=p11 kB kG Tryz.ntmps99 wM dM sH iF mG FB iq Tryz.results99
open z99 in
theorem Ul (t:jo) (s:Rev) (lv on:Bool):AC Tryz.prog 99 [Z8 t,BL s,B lv,B on] [] (fun r st=>r=B (mD t.kind s lv on)∧st=[]):=by
 refine df Tryz.func99 Tryz.ntmps99 fun x hx=>?_
 try refine nv ?_
 refine aj ?_ ?_
 ·intro h
  simp only[aeB] at h
  try refine nv ?_
  refine rA [] ?_
  refine⟨?_,rfl⟩
  simp only[mD,h,if_true]
  cases lv<;>rfl
 intro h
 simp only[agZ] at h
 try refine nv ?_
 refine aj ?_ ?_
 ·intro h2
  simp only[aeB] at h2
  try refine nv ?_
  refine rA [] ?_
  refine⟨?_,rfl⟩
  simp only[mD,h2,if_true]
  cases lv<;>cases on<;>rfl
 intro h2
 simp only[agZ] at h2
 try refine nv ?_
 refine aj ?_ ?_
 ·intro h3
  simp only[aeB] at h3
  try refine nv ?_
  refine rA [] ?_
  refine⟨?_,rfl⟩
  simp only[mD,h3,if_true]
  cases lv<;>cases on<;>rfl
 intro h3
 simp only[agZ] at h3
 try refine nv ?_
 refine rA [] ?_
 refine⟨?_,rfl⟩
 simp only[mD,h,h2,h3,if_false]
def aip.kk:=p11 kB kG Tryz.ntmps108 qM Qs Yt Ym mG IP Au Tryz.results108
open aip in
theorem Tv (base:Int) (kw ex xe:Bool):AC Tryz.prog 108 [.agg [.d (.v (.int .i64 base)), .d (.v (.bool kw)), .d (.v (.bool ex)), .d (.v (.bool xe))]] [] (fun r st=>r=I .i64 (if gQ base kw xe then 90 else 0)∧st=[]):=by
 refine df Tryz.func108 Tryz.ntmps108 fun x hx=>?_
 try refine nv ?_
 refine aj ?_ ?_
 ·intro h
  simp only[aeB] at h
  try refine nv ?_
  refine rA [] ?_
  refine⟨?_,rfl⟩
  subst h
  simp[gQ]
 intro h
 simp only[agZ] at h
 try refine nv ?_
 refine aj ?_ ?_
 ·intro h2
  simp only[aeB] at h2
  subst h2
  try refine nv ?_
  refine aj ?_ ?_
  ·intro h3
   have:kw=false:=by simpa using h3
   subst this
   try refine nv ?_
   refine rA [] ?_
   refine⟨?_,rfl⟩
   simp[gQ]
  ·intro h3
   have:kw=true:=by simpa using h3
   subst this
   try refine nv ?_
   refine rA [] ?_
   refine⟨?_,rfl⟩
   simp[gQ]
 intro h2
 simp only[agZ] at h2
 try refine nv ?_
 refine aj ?_ ?_
 ·intro h3
  simp only[aeB] at h3
  subst h3
  try refine nv ?_
  refine aj ?_ ?_
  ·intro h4
   try refine nv ?_
   refine rA [] ?_
   refine⟨?_,rfl⟩
   cases kw<;>cases xe<;>simp_all[gQ]
  ·intro h4
   try refine nv ?_
   refine rA [] ?_
   refine⟨?_,rfl⟩
   cases kw<;>cases xe<;>simp_all[gQ]
 intro h3
 simp only[agZ] at h3
 try refine nv ?_
 refine rA [] ?_
 refine⟨?_,rfl⟩
 have:gQ base kw xe=true:=by
  simp only[gQ]
  by_cases h5:base<1
  ·simp[h5]
  ·have:3<base:=by omega
   simp[this]
 simp[this]
end Go.Proofs.YtcpgicfphakdaaaGreatDoor
namespace Go.Ab
variable [Dr]
def tZ (P:Program) (f:FuncId) (args:List AV) (r:AV) (st0:List (Nat×AO)) (st1:Option (List (Nat×AO))) (ob:Nat→Option AO):Option Out:=
 some ⟨r,st1.getD [],[∀p∈st0,ob p.1=some p.2,∀p∈st0,bF (ae st0) p.2,∀a∈args,aJ (ae st0) a,AC P f args st0 (fun r' st'=>r'=r∧st'=st1.getD st0),∀p∈st1.getD [],ae st0 p.1=true∨ob p.1=none]⟩
omit [Dr] in
theorem aaA {l:List (Nat×AO)} {i:Nat} {a:AO} (h:get l i=some a):put l i a=l:=by
 induction l with
 |nil=>simp[Ab.get] at h
 |cons p l ih=>
  obtain⟨j,y⟩:=p
  simp only[Ab.get] at h
  simp only[Ab.put]
  by_cases e:j=i
  ·subst e;simp at h;subst h;simp
  ·rw[if_neg e] at h⊢
   rw[ih h]
omit [Dr] in
theorem zA {st:List (Nat×AO)}:∀{l:List (Nat×AO)},(∀p∈l,get st p.1=some p.2)→aN st l=st
 |[],_=>rfl
 |p::l,h=>by
  have e:aN st (p::l)=aN (put st p.1 p.2) l:=rfl
  rw[e,aaA (h p aj2)]
  exact zA fun q hq=>h q (ajl _ hq)
omit [Dr] in
theorem Qr {l:List (Nat×AO)} {q:Nat×AO} (h:q∈l):ae l q.1=true:=by
 induction l with
 |nil=>cases h
 |cons p l ih=>
  obtain⟨j,y⟩:=p
  simp only[ae,Ab.get]
  by_cases e:j=q.1
  ·rw[if_pos e];rfl
  ·rw[if_neg e]
   rcases afr.1 h with rfl|h
   ·exact absurd rfl e
   ·exact ih h
abbrev Lns:=List (Nat×(List (Nat×AO)×Option (List (Nat×AO))))
def H8 (ls:Lns) (o:Oper):Option (List (Nat×AO)×Option (List (Nat×AO))):=match o.dst with|some d=>get ls d|none=>none
def uQ (P:Program) (wr:Bool) (ops:List Oper) (cs:List (Nat×AV)) (ls:Lns) (o:Oper) (s:S):Option Out:=
 match H8 ls o with
 |some p=>
  match o.guard,o.op with
  |none, .call {callee:= .value (.func f),args:=⟨asq⟩,argTypes:=_}=>
   match jv s asq,get cs (o.dst.getD 0) with
   |some args,some r=>tZ P f args r p.1 p.2 (get s.st)
   |_,_=>none
  |some (j,want), .call {callee:= .value (.func f),args:=⟨asq⟩,argTypes:=_}=>
   match Hy ops s j,lM.evsAll s asq,get cs (o.dst.getD 0) with
   |some (bs,b),some args,some r=>
    match tZ P f args r p.1 p.2 (get s.st) with
    |some out=>some ⟨out.v,out.upd,(dU bs (if want then b else !b)=true)::(rW s asq++out.obl)⟩
    |none=>none
   |_,_,_=>none
  |some (j,want), .buildSlice _ _ _=>
   match Hy ops s j with
   |some (bs,b)=>some ⟨.cond (dU bs (if want then b else !b)) (.c (.d (.v (.int .i64 0)))),[],[dU bs (if want then b else !b)=false]⟩
   |none=>none
  |_,_=>none
 |none=>lM P wr ops cs o s
def FX (ops:List Oper) (ls:Lns) (o:Oper) (s:S):List (Ik×Option Ct):=
 readsOf ops o s++(match H8 ls o with|some p=>(p.1++p.2.getD []).map fun q=>((false,q.1),look s (false,q.1))|none=>[])
def a1L (ops:List Oper) (ls:Lns) (o:Oper) (s:S) (out:Out):A1:=⟨FX ops ls o s,o.dst.map fun d=>(d,out.v),out.upd⟩
def wZ (P:Program) (wr:Bool) (ops:List Oper) (cs:List (Nat×AV)) (ls:Lns):List Oper→S→Option (List A1×List Prop×S)
 |[],s=>some ([],[],s)
 |o::l,s=>
  if pO o s.n then
   match uQ P wr ops cs ls o s with
   |some out=>
    match wZ P wr ops cs ls l ⟨s.n,fZ s.env o.dst out.v,aN s.st out.upd⟩ with
    |some (As,ps,s')=>some (a1L ops ls o s out::As,out.obl++ps,s')
    |none=>none
   |none=>none
  else none
omit [Dr] in
theorem XW {ops:List Oper} {ls:Lns} {o:Oper} {s s':S} {out:Out} (hn:s'.n=s.n):(a1L ops ls o s out).app s'=⟨s.n,fZ s'.env o.dst out.v,aN s'.st out.upd⟩:=by
 simp only[A1.app,a1L,hn]
 cases o.dst<;>rfl
section
variable {P:Program} {x:X} {ops:List Oper} {ls:Lns} {o:Oper} {s s':S} {wr:Bool} {cs:List (Nat×AV)}
omit [Dr] in
theorem ZH (h:∀p∈FX ops ls o s,look s' p.1=p.2):∀p∈readsOf ops o s,look s' p.1=p.2:=fun p hp=>h p (akC _ hp)
theorem Uw (h:∀p∈FX ops ls o s,look s' p.1=p.2):uQ P wr ops cs ls o s'=uQ P wr ops cs ls o s:=by
 have h0:=ZH h
 unfold uQ
 cases hl:H8 ls o with
 |none=>exact uS h0
 |some p=>
  have hob:∀q∈p.1++p.2.getD [],get s'.st q.1=get s.st q.1:=by
   intro q hq
   refine IK (h ((false,q.1),look s (false,q.1)) ?_)
   unfold FX
   rw[hl]
   exact aky _ (agh.2 ⟨q,hq,rfl⟩)
  have hcall:∀f args r,tZ P f args r p.1 p.2 (get s'.st)=tZ P f args r p.1 p.2 (get s.st):=by
   intro f args r
   unfold tZ
   have e1:(∀q∈p.1,get s'.st q.1=some q.2)=(∀q∈p.1,get s.st q.1=some q.2):=
    propext ⟨fun g q hq=>by rw[←hob q (akC _ hq)];exact g q hq,fun g q hq=>by rw[hob q (akC _ hq)];exact g q hq⟩
   have e2:(∀q∈p.2.getD [],ae p.1 q.1=true∨get s'.st q.1=none)=(∀q∈p.2.getD [],ae p.1 q.1=true∨get s.st q.1=none):=
    propext ⟨fun g q hq=>by rw[←hob q (aky _ hq)];exact g q hq,fun g q hq=>by rw[hob q (aky _ hq)];exact g q hq⟩
   rw[e1,e2]
  simp only
  split
  ·rename_i f asq ats hg hop
   rw[oJ h0 fun y hy=>by rw[hop];simp[Op.operands,Call.operands,hy]]
   split
   ·exact hcall _ _ _
   ·rfl
  ·rename_i j want f asq ats hg hop
   rw[AA h0 hg,rY h0 fun y hy=>by rw[hop];simp[Op.operands,Call.operands,hy],qh h0 (l:=asq) fun y hy=>by rw[hop];simp[Op.operands,Call.operands,hy]]
   split
   ·rw[hcall]
   ·rfl
  ·rename_i j want _ _ _ hg hop
   rw[AA h0 hg]
  ·rfl
theorem Ur {out:Out} (h:uQ P wr ops cs ls o s=some out) (ho:All out.obl) (hdst:pO o s.n=true) {a:Act} {w:World} (hsat:Sat x s a w)
 {K:Act→World→Prop} {Q:Exit→Act→World→Prop} (hK:∀a w,Sat x ⟨s.n,fZ s.env o.dst out.v,aN s.st out.upd⟩ a w→K a w):
 if Region.wanted o (yielded ops.toArray a.tmps) then o.wp P a w K Q else K (a.put o.dst undef) w:=by
 have hd:∀i,o.dst=some i→i<s.n:=fun i hi=>by simpa[pO,hi] using hdst
 unfold uQ at h
 cases hl:H8 ls o with
 |none=>rw[hl] at h;exact qG h ho hdst hsat hK
 |some p=>
  rw[hl] at h
  simp only at h
  split at h
  ·rename_i f asq ats hg hop
   rw[if_pos (by simp[Region.wanted,hg])]
   obtain⟨bl,cap,hs,henv,hdf,hsz⟩:=hsat
   split at h
   ·rename_i args r hargs hr
    unfold tZ at h
    cases h
    simp only[All] at ho
    obtain⟨o1,o2,o3,o4,o5, -⟩:=ho
    refine vK (st0:=p.1) hop hd ⟨o1,o2,o3⟩ o4 hs henv hdf hsz (jH henv hargs) ?_
    rintro r' st' ⟨rfl,rfl⟩
    obtain⟨st0,st1⟩:=p
    cases st1 with
    |some st1=>exact⟨o5,fun a w h=>hK a w h⟩
    |none=>
     simp only[Option.getD] at o1 hK⊢
     refine⟨fun q hq=> .inl ?_,fun a w h=>hK a w ?_⟩
     ·exact Qr hq
     ·rw[zA o1] at h;exact h
   ·cases h
  ·rename_i j want f asq ats hg hop
   obtain⟨bl,cap,hs,henv,hdf,hsz⟩:=hsat
   split at h
   ·rename_i bs b args r hgv hargs hr
    unfold tZ at h
    simp only at h
    cases h
    simp only[All] at ho
    obtain⟨hG,ho⟩:=ho
    obtain⟨hob,ho⟩:=All.append ho
    simp only[All] at ho
    obtain⟨o1,o2,o3,o4,o5, -⟩:=ho
    rw[Dh henv hg hgv,hG,if_pos rfl]
    refine vK (st0:=p.1) hop hd ⟨o1,o2,o3⟩ o4 hs henv hdf hsz (yt henv hargs hob) ?_
    rintro r' st' ⟨rfl,rfl⟩
    obtain⟨st0,st1⟩:=p
    cases st1 with
    |some st1=>exact⟨o5,fun a w h=>hK a w h⟩
    |none=>
     simp only[Option.getD] at o1 hK⊢
     refine⟨fun q hq=> .inl ?_,fun a w h=>hK a w ?_⟩
     ·exact Qr hq
     ·rw[zA o1] at h;exact h
   ·cases h
  ·rename_i j want _ _ _ hg hop
   obtain⟨bl,cap,hs,henv,hdf,hsz⟩:=hsat
   split at h
   ·rename_i bs b hgv
    cases h
    simp only[All] at ho
    have hG:=ho.1
    rw[Dh henv hg hgv,hG,if_neg (by simp)]
    refine hK _ _ ⟨bl,cap,hs,henv.fZ (fun i hi=>by rw[hsz];exact hd i hi) (And.intro (fun h'=>by rw[hG] at h';cases h') (fun _=>rfl)),by rw[Act.put_defers];exact hdf,by rw[Act.iL];exact hsz⟩
   ·cases h
  ·cases h
omit [Dr] in
theorem RI {q:Ik×Option Ct} (h:q∈FX ops ls o s):q.2=look s q.1:=by
 unfold FX at h
 rcases afs.1 h with h|h
 ·exact Ef.reads_self h
 ·split at h
  ·obtain⟨y,_,rfl⟩:=agh.1 h;rfl
  ·cases h
theorem Xk:∀{l:List Oper} {s s':S} {As:List A1} {ps:List Prop},wZ P wr ops cs ls l s=some (As,ps,s')→All ps→
 As.length=l.length∧lh As s l.length=s'∧(∀(i:Nat) (A:A1),As[i]? =some A→A.Fits (lh As s i))∧∀(i:Nat) (o:Oper) (A:A1),l[i]? =some o→As[i]? =some A→A.Jt P x s.n ops.toArray o
 |[],s,s',As,ps,h,_=>by cases h;exact⟨rfl,rfl,by simp,by simp⟩
 |o::l,s,s',As,ps,h,hp=>by
  simp only[wZ] at h
  split at h
  ·rename_i hd
   split at h
   ·rename_i out hout
    split at h
    ·rename_i As' ps' s'' hrec
     cases h
     obtain⟨p1,p2⟩:=All.append hp
     obtain⟨i1,i2,i3,i4⟩:=Xk hrec p2
     have shift:∀i,lh (a1L ops ls o s out::As') s (i+1)=lh As' ⟨s.n,fZ s.env o.dst out.v,aN s.st out.upd⟩ i:=by
      intro i
      induction i with
      |zero=>simp only[lh,List.getElem?_cons_zero];exact XW rfl
      |succ i ih=>
       rw[lh,ih]
       simp only[List.getElem?_cons_succ]
       rfl
     refine⟨by simp[i1],by rw[List.length_cons,shift];exact i2,?_,?_⟩
     ·intro i A hA
      cases i with
      |zero=>simp at hA;subst hA;intro p hp;exact(RI hp).symm
      |succ i=>rw[shift];exact i3 i A (by simpa using hA)
     ·intro i o' A ho' hA
      cases i with
      |zero=>
       simp at ho' hA;subst ho';subst hA
       intro s1 a w hnn hs1 hf K Q hk
       have hloc:=Uw (P:=P) (wr:=wr) (cs:=cs) (ls:=ls) (ops:=ops) (o:=o) (s:=s) (s':=s1) hf
       rw[hout] at hloc
       refine Ur hloc p1 (by rw[hnn];exact hd) hs1 fun a w h=>hk a w ?_
       rw[XW hnn,←hnn];exact h
      |succ i=>exact i4 i o' A (by simpa using ho') (by simpa using hA)
    ·cases h
   ·cases h
  ·cases h
theorem uN {id:Nat} {l:List Oper} {s s':S} {Q:Exit→S→Prop} (cs:List (Nat×AV)) (ls:Lns) {As:List A1} {ps:List Prop} (hm:P.follows .mixedOrders=true)
 (h:wZ P wr l cs ls l s=some (As,ps,s')) (ho:All ps) (hc:ww l As=true) (hQ:Q .normal s'):T P x (.region id l.toArray true) s Q:=by
 obtain⟨h1,h2,h3,h4⟩:=Xk (x:=x) h ho
 have hord:=EL h1 h3 hc
 intro a w hs
 refine wp_region_any hm ?_
 refine SI hord (fun i o A hi hA=>h4 i o A (by simpa using hi) hA) (by simpa[h2] using hQ) _ _ s a _ (by simp) ?_ rfl ?_ ?_ (hs.drew _ (by first|exact Nat.le_succ _|exact Nat.le_add_right _ _|(simp;done)|omega))
 ·intro i o e hi hL he hb
  have hlt:i<l.length:=by simpa using(aku.1 hi).1
  rw[getD_in (by simpa using hlt) true false] at hL
  simp[Array.getD,hlt] at hL
 ·intro r
  have hz:∀i,(Array.replicate l.toArray.size false).getD i false=false:=by
   intro i;simp[Array.getD]
  have:cont As s (fun i=>(Array.replicate l.toArray.size false).getD i false) r l.toArray.size=cont As s (fun i=>(Array.replicate l.toArray.size false).getD i false) r 0:=
   lW (aj8 _) (fun i _ _ _=>hz i)
  rw[this];rfl
 ·exact yx
end
end Go.Ab
namespace Go.Proofs.YtcpgicfphakdaaaGreatDoor
section
open Go.Ab
def zq (d:aW):Prop:=∀v∈d.revs,v.act=4→¬v.frm=v.path
theorem Oz {d:aW} {c:iZ} (h:zq d) (hk:pG d c):zq (eG d c):=by
 intro v hv ha
 simp only[eG,afs] at hv
 rcases hv with hv|hv
 ·exact h v hv ha
 ·obtain⟨e,he,rfl⟩:=agh.1 hv
  obtain⟨i,hi,e2⟩:=ahN.1 he
  have hE:=hk.edit i hi
  rw[show c.edits.getD i bZ=e by simp[List.getD,hi,e2]] at hE
  exact(hE.okFrm ha).2.2
theorem gY.ag8 {l:List iZ} {d:aW} (h:gY l d):zq d:=by
 induction h with
 |nil=>intro r hr;simp[Ee] at hr
 |skip c h ih=>exact ih
 |app h hc hk ih=>exact Oz ih hk
def Jw (d:aW):Prop:=∀v∈d.revs,(aG v.path).isSome=true∧v.path.size≤100000
theorem gY.aiY {l:List iZ} {d:aW} (h:gY l d):Jw d:=by
 induction h with
 |nil=>intro r hr;simp[Ee] at hr
 |skip c h ih=>exact ih
 | @app l d c h hc hk ih=>
   intro v hv
   simp only[eG,afs,agh] at hv
   rcases hv with hv|⟨e,he,rfl⟩
   ·exact ih v hv
   ·obtain⟨i,hi,rfl⟩:=ahN.1 he
    have h0:=(hk.edit i hi).okPath
    rw[show c.edits.getD i bZ=c.edits[i] by simp[List.getD,hi]] at h0
    exact⟨h0,hc.1 _ he⟩
def Ch (l:List Rev):Prop:=∀(i:Nat) (b r:Rev),l[i]? =some b→l[i+1]? =some r→rO b r=true
theorem XP {acc:List Rev} {r:Rev} (h:Ch acc) (h0:acc≠[]):Ch (jW acc r)∧jW acc r≠[]:=by
 unfold jW
 split
 ·rename_i hn
  refine⟨?_,by simp⟩
  intro i b r' hb hr
  have hl:=(adK.1 hr).1
  simp only[afI,List.length_cons,List.length_nil] at hl
  by_cases hi:i+1<acc.length
  ·rw[ah5 (by omega)] at hb
   rw[ah5 hi] at hr
   exact h i b r' hb hr
  ·have e:i+1=acc.length:=by omega
   rw[ah5 (by omega)] at hb
   rw[ajm (by omega),e,akq,List.getElem?_cons_zero,akF] at hr
   subst hr
   have:acc.getLast? =some b:=by rw[List.getLast?_eq_getElem?,show acc.length-1=i by omega,hb]
   rw[this] at hn
   exact hn
 ·exact⟨h,h0⟩
theorem XX:∀(l acc:List Rev),Ch acc→acc≠[]→Ch (l.foldl jW acc)
 |[],_,h,_=>h
 |r::l,acc,h,h0=>XX l _ (XP (r:=r) h h0).1 (XP (r:=r) h h0).2
theorem WA (d:aW) (f:bJ):Ch (lZ d f):=by
 unfold lZ
 split
 ·split
  ·refine XX _ _ ?_ (by simp)
   intro i b r hb hr
   simp at hr
  ·intro i b r hb;simp at hb
 ·intro i b r hb;simp at hb
section
variable {d:aW} (hg:Good d.revs) (hN:d.revs.length≤512)
include hg hN
theorem O0 (hf:zq d) {f:bJ} {i:Nat} {b r:Rev} (hb:(lZ d f)[i]? =some b) (hr:(lZ d f)[i+1]? =some r) (hp:r.path=b.path):r.num=b.num+1:=by
 have hn:=WA d f i b r hb hr
 obtain⟨hm,_,_⟩:=(yG hg hN).1 (aem hr)
 obtain⟨k,hk⟩:=af7 hm
 obtain⟨_,h1,hbf⟩:=(BK hg hN hk).1 hn
 unfold di at hbf
 rw[if_neg h1] at hbf
 split at hbf
 ·rename_i h4
  have e:r.frm=b.path:=congrArg bJ.path hbf
  exact absurd (by rw[e,hp]) (hf r hm h4)
 ·have e:r.num-1=b.num:=congrArg bJ.num hbf
  omega
theorem Ll (hf:zq d) {f:bJ} {i:Nat} {b:Rev} (hb:(lZ d f)[i]? =some b):∀(n:Nat) (r:Rev),(lZ d f)[i+n]? =some r→
 (∀(k:Nat) (u:Rev),k≤n→(lZ d f)[i+k]? =some u→u.path=b.path)→r.num=b.num+n
 |0,r,hr,_=>by rw[Nat.add_zero] at hr;rw[hb] at hr;cases hr;omega
 |n+1,r,hr,h=>by
  have hl:=(adK.1 hr).1
  have hu:(lZ d f)[i+n]? =some (lZ d f)[i+n]:=adH (by omega)
  have ih:=Ll hf hb n _ hu fun k u hk=>h k u (by omega)
  have:=O0 hg hN hf hu (r:=r) (by rw[show i+n+1=i+(n+1) by omega];exact hr) (by rw[h (n+1) r (afJ _) hr,h n _ (by omega) hu])
  rw[this,ih];omega
theorem abv {f:bJ} {u:Rev} (h:u∈lZ d f):yf d u.path u.num=some f:=
 (Lm hg hN).2 (agh.2 ⟨u,h,rfl⟩)
theorem XG {u:Rev} (h:u∈d.revs):iE d u.path u.num=some u:=by
 obtain⟨j,hj⟩:=af7 h
 exact(dL hg).2 ⟨j,hj,rfl⟩
theorem xG {f:bJ} {u:Rev} (h:(lZ d f)[0]? =some u):fileOf u=f:=by
 have hc:∀(l acc:List Rev) (v:Rev),acc[0]? =some v→(l.foldl jW acc)[0]? =some v:=by
  intro l
  induction l with
  |nil=>intro acc v h;exact h
  |cons r l ih=>
   intro acc v h
   refine ih _ v ?_
   unfold jW
   split
   ·have:=(adK.1 h).1
    rw[ah5 this];exact h
   ·exact h
 unfold lZ at h
 cases hgt:iE d f.path f.num with
 |none=>rw[hgt] at h;simp at h
 |some v=>
  rw[hgt] at h
  simp only at h
  split at h
  ·rw[hc _ [v] v rfl] at h
   cases h
   obtain⟨j,_,e⟩:=(dL hg).1 hgt
   exact e
  ·simp at h
theorem Vy (hf:zq d) (hpt:Jw d) {f:bJ} {i j:Nat} {a b w:Rev} (hij:i≤j) (ha:(lZ d f)[i]? =some a) (hb:(lZ d f)[j]? =some b)
 (hP:∀(k:Nat) (u:Rev),i≤k→k≤j→(lZ d f)[k]? =some u→u.path=a.path) (hw:aU d w.path=some w) (w3:¬w.act=3) (w5:¬w.act=5) (hwl:¬first d w=f)
 {mv:akK} (hm:mv=noS∨(aG mv).isSome=true∧live d mv=false∧¬mv=w.path) (bp:akK) (bn:Int) {k:Int} (hk:k=if b.act=3 then 3 else 2):
 RU d ⟨k,f.path,f.num,a.path,a.num,b.num,w.path,w.num,bp,bn,mv⟩:=by
 have hma:=aem ha
 have hmb:=aem hb
 obtain⟨ma,_,_⟩:=(yG hg hN).1 hma
 obtain⟨mb,_,_⟩:=(yG hg hN).1 hmb
 have hpb:b.path=a.path:=hP j b hij (afJ _) hb
 have hnb:b.num=a.num+(j-i:Nat):=Ll hg hN hf ha (j-i) b (by rw[show i+(j-i)=j by omega];exact hb) fun k u hk hu=>hP (i+k) u (by omega) (by omega) hu
 obtain⟨ja,hja⟩:=af7 ma
 have hna:=hg.num ja a hja
 have hsrc:fH d ⟨k,f.path,f.num,a.path,a.num,b.num,w.path,w.num,bp,bn,mv⟩=b:=by
  unfold fH
  simp only
  rw[←hpb,XG hg hN mb];rfl
 have hlw:live d w.path=true:=by simp[live,hw,gone,w3,w5]
 have hwm:w∈d.revs:=by obtain⟨jw,h1,_⟩:=gZ hw;exact aem h1
 have hiw:yf d w.path w.num=some (first d w):=by
  obtain⟨jw,hjw⟩:=af7 hwm
  exact(lY hg).2 ⟨jw,w,hjw,rfl,w5,rfl⟩
 refine⟨by simp only;omega,by simp only;omega,?_,by simp[bf,hw], .inr ⟨by rw[hsrc];exact hk,hlw,?_,hm⟩,(hpt w hwm).1⟩
 ·intro n h1 h2
  simp only at h1 h2⊢
  obtain⟨m,hm⟩:∃m:Nat,n=a.num+m:=⟨(n-a.num).toNat,by omega⟩
  have hlt:=(adK.1 hb).1
  have hu:(lZ d f)[i+m]? =some (lZ d f)[i+m]:=adH (by omega)
  have hpu:=hP (i+m) _ (by omega) (by omega) hu
  have hnu:=Ll hg hN hf ha m _ hu fun k u hk hu=>hP (i+k) u (by omega) (by omega) hu
  have:=abv hg hN (aem hu)
  rw[hpu,hnu,←hm] at this
  exact this
 ·simp only
  rw[hiw]
  simpa[jo.line] using hwl
theorem UU {p t:akK} {v:Rev} (hv:aU d p=some v) (v3:¬v.act=3) (v5:¬v.act=5) (hl:live d t=false) (ht:(aG t).isSome=true) {fs:Int} (h1:1≤fs) (h2:fs≤v.num)
 (hr:∀n:Int,fs≤n→n≤v.num→yf d p n=some (first d v)):RU d ⟨1,(first d v).path,(first d v).num,p,fs,v.num,t,bf d t,noS,0,noS⟩:=by
 obtain⟨j,hj,e,_⟩:=gZ hv
 have hsrc:iE d p v.num=some v:=by rw[←e];exact XG hg hN (aem hj)
 refine⟨h1,h2,?_,rfl, .inl ⟨rfl,hl,?_,rfl⟩,ht⟩
 ·intro n a b;exact hr n a b
 ·simp only[fH,hsrc,Option.getD_some];exact v3
end
def BQ (l:List Rev):List akK:=l.foldl (fun acc v=>qO acc v.path) []
theorem ZN (l:List Rev) (v:Rev):BQ (l++[v])=qO (BQ l) v.path:=by simp[BQ,aj9]
theorem aa5 {κ:Type} [DecidableEq κ] {l:List κ} {k x:κ} (h:x∈qO l k):x∈l∨x=k:=by
 unfold qO at h
 split at h
 ·exact .inl h
 ·simpa using h
theorem aaK {κ:Type} [DecidableEq κ] (l:List κ) (k:κ):(qO l k).length≤l.length+1:=by
 unfold qO;split<;>simp
theorem Ut:∀(l:List Rev) (acc:List akK) (p:akK),p∈l.foldl (fun acc v=>qO acc v.path) acc→p∈acc∨∃v∈l,v.path=p
 |[],_,_,h=> .inl h
 |v::l,acc,p,h=>by
  rcases Ut l _ p h with h|⟨u,h1,h2⟩
  ·rcases aa5 h with h|h
   ·exact .inl h
   ·exact .inr ⟨v,by simp,h.symm⟩
  ·exact .inr ⟨u,by simp[h1],h2⟩
theorem Rh {l:List Rev} {p:akK} (h:p∈BQ l):∃v∈l,v.path=p:=by
 rcases Ut l [] p h with h|h
 ·cases h
 ·exact h
theorem QW:∀(l:List Rev) (acc:List akK),(l.foldl (fun acc v=>qO acc v.path) acc).length≤acc.length+l.length
 |[],_=>afJ _
 |v::l,acc=>by
  have h1:=QW l (qO acc v.path)
  have h2:=aaK acc v.path
  simp only[List.foldl_cons,List.length_cons] at h1⊢;omega
theorem RF (l:List Rev):(BQ l).length≤l.length:=by have:=QW l [];simpa[BQ] using this
def GX:Nat→List akK→List akK
 |0,l=>l
 |k+1,l=>if ord (l.getD (k+1) noS) (l.getD k noS)<0 then GX k ((l.set (k+1) (l.getD k noS)).set k (l.getD (k+1) noS)) else l
def GV (l:List akK):Nat→List akK
 |0=>l
 |k+1=>GX k (GV l k)
def oz (d:aW):List akK:=GV (BQ d.revs) (BQ d.revs).length
theorem ahB {P:akK→Prop} {t:List akK} {v w:akK} {i j:Nat} (hv:P v) (hw:P w) (h:∀r∈t,P r):∀r∈(t.set j w).set i v,P r:=by
 intro r hr
 rcases ajN hr with hr|rfl
 ·rcases ajN hr with hr|rfl
  ·exact h r hr
  ·exact hw
 ·exact hv
theorem Nr:∀(k:Nat) (l:List akK),(GX k l).length=l.length
 |0,l=>rfl
 |k+1,l=>by
  simp only[GX]
  split
  ·rw[Nr k];simp
  ·rfl
theorem Gm (l:List akK):∀k,(GV l k).length=l.length
 |0=>rfl
 |k+1=>by rw[GV,Nr,Gm l k]
theorem Na {P:akK→Prop}:∀(k:Nat) (l:List akK),k<l.length→(∀r∈l,P r)→∀r∈GX k l,P r
 |0,l,_,h=>h
 |k+1,l,hk,h=>by
  simp only[GX]
  have g:∀i,i<l.length→P (l.getD i noS):=fun i hi=>by rw[adI,adH hi];exact h _ (ajI hi)
  split
  ·exact Na k _ (by simp;omega) (ahB (g (k+1) hk) (g k (by omega)) h)
  ·exact h
theorem MZ {P:akK→Prop} {l:List akK} (h:∀r∈l,P r):∀k,k≤l.length→∀r∈GV l k,P r
 |0,_=>h
 |k+1,hk=>Na k _ (by rw[Gm];omega) (MZ h k (by omega))
theorem CZ {d:aW} {p:akK} (h:p∈oz d):∃v∈d.revs,v.path=p:=
 MZ (P:=fun p=>∃v∈d.revs,v.path=p) (fun _ hr=>Rh hr) _ (afJ _) p h
theorem J9 (d:aW):(oz d).length≤d.revs.length:=by unfold oz;rw[Gm];exact RF _
theorem mY {d:aW} (hg:Good d.revs) (hN:d.revs.length≤512) (f:bJ):line d f=lZ d f:=by
 rw[Kq hg hN,line]
 refine aki fun u _=>?_
 rw[ajx]
 simp[o7]
theorem YX {d:aW} (hg:Good d.revs) {p:akK} {u w:Rev} (hu:aU d p=some u) (h5:u.act=5) (hw:iE d p (u.num-1)=some w):w∈d.revs∧¬w.act=5:=by
 obtain⟨i,hi,ep,_⟩:=gZ hu
 obtain⟨j,x,_,hj,xp,xn,_,x5,_⟩:=hg.prv i u hi (by omega) (by omega)
 obtain⟨k,hk,ek⟩:=(dL hg).1 hw
 have e:fileOf x=fileOf w:=by rw[ek];simp only[fileOf];rw[xp,xn,ep]
 have:=bP hg hj hk e
 subst this
 rw[hj] at hk;cases hk
 exact⟨aem hj,x5⟩
theorem lJ {d:aW} {p:akK} {u:Rev} (hu:aU d p=some u):u∈d.revs∧u.path=p:=by
 obtain⟨i,hi,ep,_⟩:=gZ hu
 exact⟨aem hi,ep⟩
theorem DJ {d:aW} {u:Rev} (hu:u∈d.revs):∃v,aU d u.path=some v:=by
 cases h:aU d u.path with
 |some v=>exact⟨v,rfl⟩
 |none=>
  have:=(Ky (fun v:Rev=>decide (v.path=u.path)) d.revs).2 h u hu
  simp at this
theorem lV {d:aW} {f:bJ} {u:Rev}:u∈line d f↔u∈d.revs∧¬u.act=5∧first d u=f:=by
 simp[line,o7]
theorem EZ {d:aW} {u:Rev} (hu:u∈d.revs) (h5:¬u.act=5):0<(line d (first d u)).length:=
 akj.2 fun h=>by have:=lV.2 ⟨hu,h5,rfl⟩;rw[h] at this;cases this
def Hf (d:aW) (t:akK):Option Rev:=match aU d t with|none=>none|some u=>if u.act=5 then iE d t (u.num-1) else some u
theorem IY {d:aW} (hg:Good d.revs) {t:akK} {u:Rev} (h:Hf d t=some u):u∈d.revs∧¬u.act=5:=by
 unfold Hf at h
 cases hl:aU d t with
 |none=>rw[hl] at h;cases h
 |some v=>
  rw[hl] at h
  simp only at h
  by_cases h5:v.act=5
  ·rw[if_pos h5] at h;exact YX hg hl h5 h
  ·rw[if_neg h5] at h;cases h;exact⟨(lJ hl).1,h5⟩
def iG (d:aW) (u:Rev):Rev:=(line d (first d u)).getD ((line d (first d u)).length-1) ag
theorem FK {d:aW} {u:Rev} (hu:u∈d.revs) (h5:¬u.act=5):iG d u∈d.revs∧¬(iG d u).act=5∧first d (iG d u)=first d u:=by
 have h:=EZ hu h5
 have hm:iG d u∈line d (first d u):=by
  unfold iG
  rw[adI,adH (by omega)]
  exact ajI _
 exact lV.1 hm
def rH (d:aW) (m:List fA) (self:bJ) (q:akK):Option Rev:=
 if(nG m q).2=true then
  match Hf d (nG m q).1 with
  |none=>none
  |some u=>if ¬first d u=self∧(aU d (iG d u).path).getD ag=iG d u then some (iG d u) else none
 else none
def xh (d:aW) (m:List fA) (ln:List Rev):Nat→Option (Rev×akK)
 |0=>none
 |k+1=>
  if k+1<ln.length∧(ln.getD (k+1) ag).path=(ln.getD k ag).path then xh d m ln k
  else match rH d m (fileOf (ln.getD 0 ag)) (ln.getD k ag).path with
   |some w=>some (w,(ln.getD k ag).path)
   |none=>xh d m ln k
def oV (d:aW) (m:List fA) (ln:List Rev):Option (Rev×akK):=xh d m ln ln.length
theorem Wu {d:aW} (hg:Good d.revs) {m:List fA} {self:bJ} {q:akK} {w:Rev} (h:rH d m self q=some w):aU d w.path=some w∧¬w.act=5∧¬first d w=self:=by
 unfold rH at h
 split at h
 ·cases hu:Hf d (nG m q).1 with
  |none=>rw[hu] at h;cases h
  |some u=>
   rw[hu] at h
   simp only at h
   split at h
   ·rename_i hc
    cases h
    obtain⟨u1,u2⟩:=IY hg hu
    obtain⟨m1,m2,m3⟩:=FK u1 u2
    refine⟨?_,m2,by rw[m3];exact hc.1⟩
    obtain⟨v,hv⟩:=DJ m1
    have:=hc.2
    rw[hv] at this⊢
    exact congrArg some this
   ·cases h
 ·cases h
theorem xu {d:aW} (hg:Good d.revs) {m:List fA} {ln:List Rev} {w:Rev} {q:akK}:∀{k:Nat},xh d m ln k=some (w,q)→aU d w.path=some w∧¬w.act=5∧¬first d w=fileOf (ln.getD 0 ag)
 |k+1,h=>by
  rw[xh] at h
  split at h
  ·exact xu hg h
  ·cases ht:rH d m (fileOf (ln.getD 0 ag)) (ln.getD k ag).path with
   |none=>rw[ht] at h;exact xu hg h
   |some x=>
    rw[ht] at h
    simp only[akF,akr] at h
    obtain⟨rfl,_⟩:=h
    exact Wu hg ht
structure BrI (d:aW) (p:akK) (v:Rev) (fs:Int):Prop where
 lo:1≤fs
 le:fs≤v.num
 run:∀n:Int,fs≤n→n≤v.num→yf d p n=some (first d v)
section
variable {d:aW} (hg:Good d.revs) (hN:d.revs.length≤512)
include hg hN
theorem YU {p:akK} {v:Rev} (hv:aU d p=some v) (v5:¬v.act=5):BrI d p v v.num:=by
 obtain⟨i,hi,ep,_⟩:=gZ hv
 refine⟨(hg.num i v hi).1,akA _,fun n h1 h2=>?_⟩
 have e:n=v.num:=by omega
 subst e
 rw[←ep]
 exact(lY hg).2 ⟨i,v,hi,rfl,v5,rfl⟩
theorem adt {p:akK} {v u:Rev} {fs:Int} (hv:aU d p=some v) (h:BrI d p v fs) (hu:u∈line d (first d v)) (hp:u.path=p) (hn:fs-1≤u.num):BrI d p v u.num:=by
 obtain⟨i,hi,ep,hmax⟩:=gZ hv
 obtain⟨m1,m2,m3⟩:=lV.1 hu
 obtain⟨j,hj⟩:=af7 m1
 have hle:u.num≤v.num:=by
  have hji:=hmax j u hj hp
  rcases ajE j i with h|h
  ·have:=(hg.path j i u v h hj hi (by rw[hp,ep])).2;omega
  ·have:j=i:=by omega
   subst this;rw[hj] at hi;cases hi;omega
 refine⟨(hg.num j u hj).1,hle,fun n h1 h2=>?_⟩
 by_cases h3:fs≤n
 ·exact h.run n h3 h2
 ·have e:n=u.num:=by omega
  subst e
  rw[←hp]
  exact(lY hg).2 ⟨j,u,hj,rfl,m2,m3⟩
end
theorem getD_at {α:Type} {l:List α} {i:Nat} {z:α} (h:i<l.length):l[i]? =some (l.getD i z):=by
 rw[adI,adH h];rfl
def ZK (p:akK) (ln:List Rev):Nat→Int→Int
 |0,fs=>fs
 |k+1,fs=>if(ln.getD k ag).path=p∧fs-1≤(ln.getD k ag).num then ZK p ln k (ln.getD k ag).num else fs
theorem afn {d:aW} (hg:Good d.revs) (hN:d.revs.length≤512) {p:akK} {v:Rev} (hv:aU d p=some v):∀(k:Nat) (fs:Int),k≤(line d (first d v)).length→BrI d p v fs→BrI d p v (ZK p (line d (first d v)) k fs)
 |0,_,_,h=>h
 |k+1,fs,hk,h=>by
  rw[ZK]
  split
  ·rename_i hc
   refine afn hg hN hv k _ (by omega) (adt hg hN hv h ?_ hc.1 hc.2)
   rw[adI,adH (by omega)]
   exact ajI _
  ·exact h
def FV (rest:List bJ) (ln:List Rev) (p:akK):Nat→Nat→Nat
 |0,i=>i
 |n+1,i=>if i+1<ln.length∧fileOf (ln.getD (i+1) ag)∈rest∧(ln.getD (i+1) ag).path=p then FV rest ln p n (i+1) else i
theorem KU (rest:List bJ) (ln:List Rev) (p:akK) (n i:Nat):FV rest ln p (n+1) i=if i+1<ln.length∧fileOf (ln.getD (i+1) ag)∈rest∧(ln.getD (i+1) ag).path=p then FV rest ln p n (i+1) else i:=rfl
theorem IL (rest:List bJ) (ln:List Rev) (p:akK):∀n i,i≤FV rest ln p n i
 |0,_=>afJ _
 |n+1,i=>by
  rw[FV];split
  ·exact ajo (by omega) (IL rest ln p n (i+1))
  ·exact afJ _
theorem PV (rest:List bJ) (ln:List Rev) (p:akK):∀n i,i<ln.length→FV rest ln p n i<ln.length
 |0,_,h=>h
 |n+1,i,h=>by
  rw[FV];split
  ·rename_i hc;exact PV rest ln p n (i+1) hc.1
  ·exact h
theorem Nk (rest:List bJ) (ln:List Rev) (p:akK):∀n i,(ln.getD i ag).path=p→∀k,i≤k→k≤FV rest ln p n i→(ln.getD k ag).path=p
 |0,i,h,k,h1,h2=>by rw[FV] at h2;rw[show k=i by omega];exact h
 |n+1,i,h,k,h1,h2=>by
  rw[FV] at h2
  split at h2
  ·rename_i hc
   by_cases e:k=i
   ·rw[e];exact h
   ·exact Nk rest ln p n (i+1) hc.2.2 k (by omega) h2
  ·rw[show k=i by omega];exact h
theorem Gy (rest:List bJ) (ln:List Rev) (p:akK):∀n i,ln.length≤n+i→FV rest ln p (n+1) i=FV rest ln p n i
 |0,i,h=>by rw[KU,if_neg (by omega)];rfl
 |n+1,i,h=>by
  rw[KU _ _ _ (n+1) i,KU _ _ _ n i]
  split
  ·exact Gy rest ln p n (i+1) (by omega)
  ·rfl
def uD (rest:List bJ) (ln:List Rev) (p:akK) (i:Nat):Nat:=FV rest ln p ln.length i
theorem YV {rest:List bJ} {ln:List Rev} {p:akK} {i:Nat} (h:i+1<ln.length∧fileOf (ln.getD (i+1) ag)∈rest∧(ln.getD (i+1) ag).path=p):uD rest ln p i=uD rest ln p (i+1):=by
 unfold uD
 have e:ln.length=(ln.length-1)+1:=by omega
 conv=>lhs;rw[e,KU,if_pos h]
 rw[←Gy rest ln p (ln.length-1) (i+1) (by omega),←e]
theorem Zr {rest:List bJ} {ln:List Rev} {p:akK} {i:Nat} (h:¬(i+1<ln.length∧fileOf (ln.getD (i+1) ag)∈rest∧(ln.getD (i+1) ag).path=p)):uD rest ln p i=i:=by
 unfold uD
 cases hl:ln.length with
 |zero=>rfl
 |succ n=>rw[KU,if_neg h]
def runT (f:bJ) (ln:List Rev) (w:Rev) (mv:akK) (i j:Nat):jo:=
 ⟨if(ln.getD j ag).act=3 then 3 else 2,f.path,f.num,(ln.getD i ag).path,(ln.getD i ag).num,(ln.getD j ag).num,w.path,w.num,if 0<i then(ln.getD (i-1) ag).path else noS,if 0<i then(ln.getD (i-1) ag).num else 0,mv⟩
def CW (f:bJ) (rest:List bJ) (ln:List Rev) (w:Rev) (mv:akK):Nat→Nat→List jo
 |0,_=>[]
 |n+1,i=>
  if i<ln.length then
   if fileOf (ln.getD i ag)∈rest then runT f ln w mv i (uD rest ln (ln.getD i ag).path i)::CW f rest ln w mv n (uD rest ln (ln.getD i ag).path i+1)
   else CW f rest ln w mv n (i+1)
  else []
theorem Fv (f:bJ) (rest:List bJ) (ln:List Rev) (w:Rev) (mv:akK) (n i:Nat):CW f rest ln w mv (n+1) i=if i<ln.length then
 if fileOf (ln.getD i ag)∈rest then runT f ln w mv i (uD rest ln (ln.getD i ag).path i)::CW f rest ln w mv n (uD rest ln (ln.getD i ag).path i+1)
 else CW f rest ln w mv n (i+1)
 else []:=rfl
theorem vN (f:bJ) (rest:List bJ) (ln:List Rev) (w:Rev) (mv:akK):∀n i,ln.length≤n+i→CW f rest ln w mv (n+1) i=CW f rest ln w mv n i
 |0,i,h=>by rw[Fv,if_neg (by omega)];rfl
 |n+1,i,h=>by
  rw[Fv _ _ _ _ _ (n+1) i,Fv _ _ _ _ _ n i]
  have he:=IL rest ln (ln.getD i ag).path ln.length i
  rw[vN f rest ln w mv n (uD rest ln (ln.getD i ag).path i+1) (by unfold uD;omega),vN f rest ln w mv n (i+1) (by omega)]
def zF (f:bJ) (rest:List bJ) (ln:List Rev) (w:Rev) (mv:akK) (i:Nat):List jo:=CW f rest ln w mv ln.length i
theorem adC {f:bJ} {rest:List bJ} {ln:List Rev} {w:Rev} {mv:akK} {i:Nat} (h:ln.length≤i):zF f rest ln w mv i=[]:=by
 unfold zF
 cases hl:ln.length with
 |zero=>rfl
 |succ n=>rw[Fv,if_neg (by omega)]
theorem Zf {f:bJ} {rest:List bJ} {ln:List Rev} {w:Rev} {mv:akK} {i:Nat} (h:i<ln.length) (hn:¬fileOf (ln.getD i ag)∈rest):zF f rest ln w mv i=zF f rest ln w mv (i+1):=by
 unfold zF
 have e:ln.length=(ln.length-1)+1:=by omega
 conv=>lhs;rw[e,Fv,if_pos h,if_neg hn]
 rw[←vN f rest ln w mv (ln.length-1) (i+1) (by omega),←e]
theorem aaI {f:bJ} {rest:List bJ} {ln:List Rev} {w:Rev} {mv:akK} {i:Nat} (h:i<ln.length) (hn:fileOf (ln.getD i ag)∈rest):zF f rest ln w mv i=runT f ln w mv i (uD rest ln (ln.getD i ag).path i)::zF f rest ln w mv (uD rest ln (ln.getD i ag).path i+1):=by
 unfold zF
 have e:ln.length=(ln.length-1)+1:=by omega
 have he:=IL rest ln (ln.getD i ag).path ln.length i
 conv=>lhs;rw[e,Fv,if_pos h,if_pos hn]
 rw[←vN f rest ln w mv (ln.length-1) (uD rest ln (ln.getD i ag).path i+1) (by unfold uD;omega),←e]
noncomputable def zS (d:aW) (s:bJ):Option (Rev×akK)→List bJ
 |some (w,_)=>(mF d s (fileOf w)).getD []
 |none=>[]
def S9 (d:aW) (m:List fA) (p t:akK) (w:Rev) (q:akK):akK:=
 if ¬q=p∧(nG m q).1=w.path∧¬t=w.path∧live d t=false then t else noS
def brT (d:aW) (p t:akK) (v:Rev):jo:=
 ⟨1,(first d v).path,(first d v).num,p,ZK p (line d (first d v)) (line d (first d v)).length v.num,v.num,t,bf d t,noS,0,noS⟩
noncomputable def rC (d:aW) (m:List fA) (p:akK):List jo:=
 let v:=(aU d p).getD ag
 let t:=(nG m p).1
 if(nG m p).2=false∨v.act=5 then []
 else
  let tg:=oV d m (line d (first d v))
  let rest:=zS d (fileOf v) tg
  match tg with
  |none=>if v.act=3∨live d t=true then [] else [brT d p t v]
  |some (w,q)=>
   if w.act=3 then(if v.act=3∨live d t=true∨rest=[] then [] else [brT d p t v])
   else zF (first d v) rest (line d (first d v)) w (S9 d m p t w q) 0
noncomputable def xw (d:aW) (m:List fA):List jo:=(oz d).flatMap (rC d m)
section
variable {d:aW} (hg:Good d.revs) (hN:d.revs.length≤512) (hf:zq d) (hpt:Jw d)
include hg hN hf hpt
theorem Wx {f:bJ} {rest:List bJ} {w:Rev} {mv:akK} (hw:aU d w.path=some w) (w3:¬w.act=3) (w5:¬w.act=5) (hwl:¬first d w=f)
 (hm:mv=noS∨(aG mv).isSome=true∧live d mv=false∧¬mv=w.path):∀(n i:Nat),∀x∈CW f rest (lZ d f) w mv n i,RU d x
 |0,i,x,h=>by cases h
 |n+1,i,x,h=>by
  rw[CW] at h
  split at h
  ·rename_i hi
   split at h
   ·rcases afr.1 h with rfl|h
    ·have hj:=PV rest (lZ d f) ((lZ d f).getD i ag).path (lZ d f).length i hi
     have ha:(lZ d f)[i]? =some ((lZ d f).getD i ag):=by exact getD_at hi
     have hb:(lZ d f)[uD rest (lZ d f) ((lZ d f).getD i ag).path i]? =some ((lZ d f).getD (uD rest (lZ d f) ((lZ d f).getD i ag).path i) ag):=by
      exact getD_at hj
     refine Vy hg hN hf hpt (IL rest _ _ _ _) ha hb ?_ hw w3 w5 hwl hm _ _ rfl
     intro k u h1 h2 hu
     have:=Nk rest (lZ d f) ((lZ d f).getD i ag).path (lZ d f).length i rfl k h1 h2
     rw[adI,hu] at this
     exact this
    ·exact Wx hw w3 w5 hwl hm n _ x h
   ·exact Wx hw w3 w5 hwl hm n _ x h
  ·cases h
theorem agi {m:List fA} {p:akK} (hp:∃v∈d.revs,v.path=p):∀x∈rC d m p,RU d x:=by
 intro x hx
 obtain⟨v0,hv0,rfl⟩:=hp
 obtain⟨v,hv⟩:=DJ hv0
 obtain⟨vm,vp⟩:=lJ hv
 unfold rC at hx
 rw[hv] at hx
 simp only[Option.getD_some] at hx
 split at hx
 ·cases hx
 rename_i hc
 rw[not_or] at hc
 obtain⟨hc1,v5⟩:=hc
 have hby:(aG (nG m v0.path).1).isSome=true:=by
  refine aeV ?_
  cases hb:(nG m v0.path).2 with
  |true=>rfl
  |false=>exact absurd hb hc1
 have hbr:¬v.act=3→¬live d (nG m v0.path).1=true→RU d (brT d v0.path (nG m v0.path).1 v):=by
  intro v3 hl
  have hI:=afn hg hN hv _ _ (afJ _) (YU hg hN hv v5)
  exact UU hg hN hv v3 v5 (by simpa using hl) hby hI.lo hI.le hI.run
 split at hx
 ·split at hx
  ·cases hx
  ·rename_i h
   rw[not_or] at h
   simp only[aft] at hx
   subst hx
   exact hbr h.1 h.2
 ·rename_i w q htg
  split at hx
  ·split at hx
   ·cases hx
   ·rename_i h
    rw[not_or,not_or] at h
    simp only[aft] at hx
    subst hx
    exact hbr h.1 h.2.1
  ·rename_i w3
   obtain⟨t1,t2,t3⟩:=xu hg htg
   have hln:=mY hg hN (first d v)
   have h0:fileOf ((line d (first d v)).getD 0 ag)=first d v:=by
    have:=EZ vm v5
    have h1:(lZ d (first d v))[0]? =some ((line d (first d v)).getD 0 ag):=by
     rw[←hln,adI,adH this];rfl
    exact xG hg hN h1
   rw[h0] at t3
   unfold zF at hx
   rw[hln] at hx
   refine Wx hg hN hf hpt t1 w3 t2 t3 ?_ _ _ x hx
   unfold S9
   split
   ·rename_i hc
    exact .inr ⟨hby,hc.2.2.2,hc.2.2.1⟩
   ·exact .inl rfl
theorem Vb (m:List fA):∀x∈xw d m,RU d x:=by
 intro x hx
 obtain⟨p,hp,hx⟩:=akm.1 hx
 exact agi hg hN hf hpt (CZ hp) x hx
end
def pC (p q:akK):Int:=cmpL ((aG p).getD []) ((aG q).getD [])
theorem iw:Cmp pC:=Um.on fun p=>(aG p).getD []
theorem ab8 {p q:akK} (hp:(aG p).isSome=true) (hq:(aG q).isSome=true):pC p q=ord p q:=by
 obtain⟨a,b,h1,h2,h3⟩:=uz hp hq
 rw[pC,h1,h2,h3];rfl
def VS (l:List akK):Prop:=∀s∈l,(aG s).isSome=true∧s.size≤100000
theorem VS.get {l:List akK} (h:VS l) {i:Nat} (hi:i<l.length):(aG (l.getD i noS)).isSome=true∧(l.getD i noS).size≤100000:=by
 refine h _ ?_
 rw[adI,adH hi]
 exact ajI hi
section
variable {c:akK→akK→Int} (hc:Cmp c)
include hc
theorem Cmp.QR {p q r:akK} (h1:MO c p q) (h2:c q r<0):c p r<0:=by
 apply akl
 intro h3
 exact(hc.le_trans (x:=r) (y:=p) (z:=q) h3 h1) h2
theorem jS {y:List akK} (hs:bg c y) {i j:Nat} (hij:i≤j) (hj:j<y.length):MO c (y.getD i noS) (y.getD j noS):=by
 rw[adI,adI,adH hj,adH (by omega:i<y.length)]
 simp only[Option.getD_some]
 rcases Nat.lt_or_eq_of_le hij with h|h
 ·exact ajV.1 hs i j (by omega) hj h
 ·subst h;exact hc.le_refl _
theorem adz {x0:akK} {y1 y2:List akK} (hy:bg c (y1++y2)) (h1:∀q∈y1,c q x0<0) (h2:∀q∈y2,¬c q x0<0):(y1++x0::y2).Perm ([x0]++(y1++y2))∧bg c (y1++x0::y2):=by
 refine⟨List.perm_middle,?_⟩
 rw[bg,ajP] at hy⊢
 refine⟨hy.1,List.pairwise_cons.2 ⟨fun q hq=>h2 q hq,hy.2.1⟩,?_⟩
 intro p hp q hq
 rcases afr.1 hq with rfl|hq
 ·exact hc.le_of_lt (h1 p hp)
 ·exact hy.2.2 p hp q hq
theorem Ny {y0:akK} {x1 x2:List akK} (hx:bg c (x1++x2)) (h1:∀q∈x1,¬c y0 q<0) (h2:∀q∈x2,c y0 q<0):(x1++y0::x2).Perm ((x1++x2)++[y0])∧bg c (x1++y0::x2):=by
 refine⟨List.perm_middle.trans (List.perm_append_singleton _ _).symm,?_⟩
 rw[bg,ajP] at hx⊢
 refine⟨hx.1,List.pairwise_cons.2 ⟨fun q hq=>hc.le_of_lt (h2 q hq),hx.2.1⟩,?_⟩
 intro p hp q hq
 rcases afr.1 hq with rfl|hq
 ·exact h1 p hp
 ·exact hx.2.2 p hp q hq
end
theorem zN {y:List akK} {n:Nat} {q:akK} (h:q∈y.take n):∃i,i<n∧i<y.length∧y.getD i noS=q:=by
 obtain⟨i,hi,rfl⟩:=ahN.1 h
 simp only[ajD] at hi
 exact⟨i,by omega,by omega,by rw[adI,adH (by omega)];simp⟩
theorem zX {y:List akK} {n:Nat} {q:akK} (h:q∈y.drop n):∃i,n≤i∧i<y.length∧y.getD i noS=q:=by
 obtain⟨i,hi,rfl⟩:=ahN.1 h
 simp only[ajz] at hi
 exact⟨n+i,by omega,by omega,by rw[adI,adH (by omega)];simp⟩
theorem aeT {P x y S l:List akK} (hl:P++(x++(y++S))=l) {a m b:Nat} (ha:a=P.length) (hm:m=a+x.length) (hb:b=m+y.length):
 (∀h,a≤h→h<m→l.getD h noS=x.getD (h-a) noS)∧∀h,m≤h→h<b→l.getD h noS=y.getD (h-m) noS:=by
 subst hl
 refine⟨fun h h1 h2=>?_,fun h h1 h2=>?_⟩
 ·simp only[adI]
  rw[ajm (by omega),ah5 (by omega),ha]
 ·simp only[adI]
  rw[ajm (by omega),ajm (by omega),ah5 (by omega)]
  rw[show h-P.length-x.length=h-m by omega]
theorem agD {P y S:List akK} {x0:akK} {k i:Nat} (hk:k<y.length) (hi:i=P.length+k) (z:akK):
 (P++(y.take k++x0::(y.drop k++S))).getD i z=x0∧(P++(y.take k++x0::(y.drop k++S))).getD (i+1) z=y.getD k z∧
 ((P++(y.take k++x0::(y.drop k++S))).set i (y.getD k z)).set (i+1) x0=P++(y.take (k+1)++x0::(y.drop (k+1)++S)):=by
 have ed:y.drop k=y.getD k z::y.drop (k+1):=by rw[aiu hk];simp[adI,adH hk]
 have et:y.take (k+1)=y.take k++[y.getD k z]:=by rw[ajC,adH hk];simp[adI,adH hk]
 have lt:(y.take k).length=k:=by simp;omega
 generalize y.getD k z=w at ed et
 rw[ed,et]
 generalize y.take k=A at lt et
 generalize y.drop (k+1)=B at ed
 have e0:P++(A++x0::(w::B++S))=(P++A)++x0::(w::(B++S)):=by simp
 have e1:P++(A++x0::(w::B++S))=(P++A++[x0])++w::(B++S):=by simp
 refine⟨?_,?_,?_⟩
 ·rw[e0];exact su (by simp[lt,hi])
 ·rw[e1];exact su (by simp[lt,hi];omega)
 ·rw[e0,vJ (by simp[lt,hi])]
  have e2:(P++A)++w::(w::(B++S))=(P++A++[w])++w::(B++S):=by simp
  rw[e2,vJ (by simp[lt,hi];omega)]
  simp
theorem XF {P x S:List akK} {y0:akK} {j k:Nat} (hj:0<j) (hx:j≤x.length) (hk:k=P.length+j) (z:akK):
 (P++(x.take j++y0::(x.drop j++S))).getD k z=y0∧(P++(x.take j++y0::(x.drop j++S))).getD (k-1) z=x.getD (j-1) z∧
 ((P++(x.take j++y0::(x.drop j++S))).set k (x.getD (j-1) z)).set (k-1) y0=P++(x.take (j-1)++y0::(x.drop (j-1)++S)):=by
 obtain⟨i,rfl⟩:∃i,j=i+1:=⟨j-1,by omega⟩
 have hx':i<x.length:=by omega
 have ed:x.drop i=x.getD i z::x.drop (i+1):=by rw[aiu hx'];simp[adI,adH hx']
 have et:x.take (i+1)=x.take i++[x.getD i z]:=by rw[ajC,adH hx'];simp[adI,adH hx']
 have lt:(x.take i).length=i:=by simp;omega
 simp only[akb]
 generalize x.getD i z=w at ed et
 rw[ed,et]
 generalize x.take i=A at lt et
 generalize x.drop (i+1)=B at ed
 have e0:P++(A++[w]++y0::(B++S))=(P++A++[w])++y0::(B++S):=by simp
 have e1:P++(A++[w]++y0::(B++S))=(P++A)++w::(y0::(B++S)):=by simp
 refine⟨?_,?_,?_⟩
 ·rw[e0];exact su (by simp[lt,hk]<;>omega)
 ·rw[e1];exact su (by simp[lt,hk]<;>omega)
 ·rw[e0,vJ (by simp[lt,hk]<;>omega)]
  have e2:(P++A++[w])++w::(B++S)=(P++A)++w::(w::(B++S)):=by simp
  rw[e2,vJ (by simp[lt,hk]<;>omega)]
  simp
theorem oh {s t:akK}:dX s t=true↔∃r,s=r++t:=by
 simp only[dX,afA,aeB]
 constructor
 ·rintro⟨h1,h2⟩
  refine⟨s.extract 0 (s.size-t.size),?_⟩
  conv=>rhs;arg 2;rw[←h2]
  rw[akw]
  simp
 ·rintro⟨r,rfl⟩
  refine⟨by rw[ajH];omega,?_⟩
  have:(r++t).size-t.size=r.size:=by rw[ajH];omega
  rw[this]
  exact LP r t
theorem Tz (s:akK):dX s s=true:=oh.2 ⟨ByteArray.empty,by simp⟩
theorem yF {a b c:akK} (h1:dX a b=true) (h2:dX b c=true):dX a c=true:=by
 obtain⟨r,rfl⟩:=oh.1 h1
 obtain⟨q,rfl⟩:=oh.1 h2
 exact oh.2 ⟨r++q,by rw[ByteArray.append_assoc]⟩
theorem qN {s t:akK} (h:dX s t=true):t.size≤s.size:=by
 simp only[dX,afA,aeB] at h;exact h.1
theorem TM {s t:akK} (h1:dX s t=true) (h2:dX t s=true):s=t:=by
 have a:=qN h1
 have b:=qN h2
 simp only[dX,afA,aeB] at h1
 rw[←h1.2,show s.size-t.size=0 by omega]
 simp
theorem Dt {a:akK} {n k:Nat} (h:k<n) (hn:n≤a.size):byteAt (a.extract 0 n) k=byteAt a k:=by
 have h2:k<a.data.size:=by have:a.data.size=a.size:=rfl;omega
 simp only[byteAt,aj7,ahP,Array.getElem?_extract]
 rw[if_pos (by have e:a.data.size=a.size:=rfl;omega)]
 simp
theorem ade {c:akK} (hc:comp c=true) {n:Nat} (hn:n≤c.size):comp (c.extract 0 n)=decide (0<n):=by
 by_cases h:0<n
 ·rw[ajk h]
  obtain⟨c1,c2⟩:=EO hc
  have hs:(c.extract 0 n).size=n:=by rw[aj3];omega
  refine Yz (by omega) (by rw[Dt h hn];exact c2) ?_
  intro k hk
  rw[Dt (by omega) hn]
  exact qg hc k (by omega)
 ·have:n=0:=by omega
  subst this
  have e:c.extract 0 0=ByteArray.empty:=by simp
  rw[e]
  decide
theorem NK {x:akK} (hx:comp x=true):bG x=false:=by
 cases h:bG x with
 |false=>rfl
 |true=>
  simp only[bG,afA,afU,ajQ,agZ] at h
  have h0:=h.1.2
  simp at h0
  have:=qg hx 0 (by have:=(EO hx).1;omega)
  rw[h0] at this
  have e:okB 42=false:=by kernel_rfl
  rw[e] at this;cases this
theorem BD {x c:akK} (hx:bG x=true) (hc:comp c=true):(uA x c).2=(dX c (l9 x)&&decide ((l9 x).size<c.size)):=by
 simp only[uA,if_pos hx]
 cases h:dX c (l9 x) with
 |false=>simp
 |true=>
  have:=qN h
  rw[if_pos rfl,ade hc (by omega)]
  simp
  omega
theorem qJ {x:akK} (h:fP x=true):(bG x=true)∨(bG x=false∧comp x=true):=by
 unfold fP at h
 cases hs:bG x with
 |true=>exact .inl rfl
 |false=>rw[hs] at h;exact .inr ⟨rfl,h⟩
theorem abR {x y:akK} (hx:bG x=true) (hy:bG y=true) (h:l9 x=l9 y):x=y:=by
 have e:∀z:akK,bG z=true→z=rG++l9 z:=by
  intro z hz
  have h1:=(gV hz).1
  simp only[bG,afA,afU,ajQ,agZ] at hz
  have h0:=hz.1.2
  simp at h0
  have hz2:bG z=true:=by simp only[bG,afA,afU,ajQ,agZ];exact hz
  have:z.extract 0 1=rG:=by
   apply ByteArray.ext
   simp only[rG,aj7]
   have hsz:0<z.data.size:=h1
   apply Array.ext
   ·simp;omega
   ·intro i h1 h2
    have:i=0:=by simp at h2;omega
    subst this
    simp only[byteAt,ahP,aj1 hsz] at h0
    have h0':z.data[0].toNat=42:=by
     have h1:((z.data[0].toNat:Nat):Int)=42:=by simpa using h0
     omega
    simp only[Array.getElem_extract,ajR,List.getElem_toArray,List.getElem_cons_zero]
    exact UInt8.toNat_inj.1 h0'
  rw[l9,if_pos hz2]
  conv=>rhs;arg 1;rw[←this]
  rw[akw]
  simp
 rw[e x hx,e y hy,h]
theorem zu {x:akK} (hx:fP x=true):bI x x=true:=by
 rcases qJ hx with h|⟨h,_⟩
 ·simp[bI,h,Tz]
 ·simp[bI,h]
theorem EQ {x y z:akK} (hx:fP x=true) (h1:bI x y=true) (h2:bI y z=true):bI x z=true:=by
 cases hz:bG z with
 |false=>
  simp[bI,hz] at h2
  subst h2;exact h1
 |true=>
  cases hy:bG y with
  |false=>
   simp[bI,hy] at h1
   subst h1;exact h2
  |true=>
   have h3:dX (l9 y) (l9 z)=true:=by simpa[bI,hy,hz] using h2
   rcases qJ hx with h|⟨h,hc⟩
   ·have h4:dX (l9 x) (l9 y)=true:=by simpa[bI,hy,h] using h1
    simpa[bI,h,hz] using yF h4 h3
   ·have h4:(uA y x).2=true:=by simpa[bI,hy,h] using h1
    rw[BD hy hc] at h4
    simp only[afA,aeB] at h4
    have h5:=qN h3
    have:(uA z x).2=true:=by
     rw[BD hz hc]
     simp only[afA,aeB]
     exact⟨yF h4.1 h3,by omega⟩
    simpa[bI,h,hz] using this
theorem Gv {x y:akK} (h1:bI x y=true) (h2:bI y x=true):x=y:=by
 cases hy:bG y with
 |false=>simpa[bI,hy] using h1
 |true=>
  cases hx:bG x with
  |false=>exact(by simpa[bI,hx] using h2:y=x).symm
  |true=>exact abR hx hy (TM (by simpa[bI,hx,hy] using h1) (by simpa[bI,hx,hy] using h2))
def dN (p:bV):Prop:=∀i,i<p.parts.length→fP (p.parts.getD i noS)=true
theorem dO {p:bV} (h:iU p=true):dN p:=by
 intro i hi
 unfold fP
 cases hs:bG (p.parts.getD i noS) with
 |true=>rfl
 |false=>exact TV h hi hs
theorem Vl:fP rG=true:=by decide
theorem U0 {p:bV} (h:dN p) (i:Nat):fP (yU p i)=true:=by
 unfold yU
 split
 ·rename_i hi;exact h i hi
 ·exact Vl
structure yX (p q:bV):Prop where
 len:q.parts.length≤p.parts.length
 fix:q.rest=false→p.rest=false∧p.parts.length=q.parts.length
 rst:q.rest=true→p.parts.length=q.parts.length→p.rest=true
 ins:∀i,i<q.parts.length→bI (p.parts.getD i noS) (q.parts.getD i noS)=true
theorem within_iff {p q:bV} (hp:iU p=true) (hq:iU q=true):iC p q=true↔yX p q:=by
 simp only[iC,hp,hq,ajq,afA,aeB,ajK,afU,agr,aht,Bool.and_eq_false_iff]
 constructor
 ·rintro⟨⟨⟨h1,h2⟩,h3⟩,h4⟩
  refine⟨h1,?_,?_,h4⟩
  ·intro hr
   rcases h2 with h2|⟨h2,h5⟩
   ·rw[hr] at h2;cases h2
   ·exact⟨h2,by omega⟩
  ·intro hr hl
   rcases h3 with(h3|h3)|h3
   ·rw[hr] at h3;cases h3
   ·exact absurd hl (by simpa using h3)
   ·simpa using h3
 ·rintro⟨h1,h2,h3,h4⟩
  refine⟨⟨⟨h1,?_⟩,?_⟩,h4⟩
  ·cases hr:q.rest with
   |true=>exact .inl rfl
   |false=>exact .inr ⟨(h2 hr).1,by have:=(h2 hr).2;omega⟩
  ·cases hr:q.rest with
   |false=>exact .inl (.inl rfl)
   |true=>
    by_cases hl:p.parts.length=q.parts.length
    ·exact .inr (by rw[h3 hr hl];rfl)
    ·exact .inl (.inr (by simpa using hl))
theorem yX.refl {p:bV} (h:dN p):yX p p:=⟨afJ _,fun h=>⟨h,rfl⟩,fun h _=>h,fun i hi=>zu (h i hi)⟩
theorem yX.trans {p q r:bV} (hp:dN p) (h1:yX p q) (h2:yX q r):yX p r:=by
 refine⟨ajo h2.len h1.len,?_,?_,?_⟩
 ·intro hr
  obtain⟨a,b⟩:=h2.fix hr
  obtain⟨c,e⟩:=h1.fix a
  exact⟨c,by omega⟩
 ·intro hr hl
  have a:=h1.len
  have b:=h2.len
  exact h1.rst (h2.rst hr (by omega)) (by omega)
 ·intro i hi
  have b:=h2.len
  have a:=h1.len
  exact EQ (hp i (by omega)) (h1.ins i (by omega)) (h2.ins i hi)
theorem yX.ahq {p q:bV} (h1:yX p q) (h2:yX q p):p=q:=by
 have hl:p.parts.length=q.parts.length:=Nat.le_antisymm h2.len h1.len
 obtain⟨ps,pr⟩:=p
 obtain⟨qs,qr⟩:=q
 simp only at hl
 have hr:pr=qr:=by
  cases qr with
  |true=>exact h1.rst rfl hl
  |false=>exact(h1.fix rfl).1
 subst hr
 have:ps=qs:=by
  apply List.ext_getElem hl
  intro i a b
  have e1:=h1.ins i b
  have e2:=h2.ins i a
  simp only[adI,adH a,adH b,Option.getD_some] at e1 e2
  exact Gv e1 e2
 rw[this]
theorem Le {b h:bV} {n:Nat}:o8 b h n=true↔nN h n=true∧∀i,i<n→i<h.parts.length→bI (yU b i) (h.parts.getD i noS)=true:=by
 simp only[o8,afA,agr,aht]
 constructor
 ·rintro⟨h1,h2⟩;exact⟨h1,fun i a b=>h2 i (by omega)⟩
 ·rintro⟨h1,h2⟩;exact⟨h1,fun i a=>h2 i (by omega) (by omega)⟩
theorem counts_iff {h:bV} {n:Nat}:nN h n=true↔(h.rest=true∧h.parts.length<n)∨(h.rest=false∧n=h.parts.length):=by
 unfold nN
 cases h.rest<;>simp
theorem Gp {b h k:bV} (hb:dN b) (hw:yX h k) {n:Nat} (hc:o8 b h n=true):o8 b k n=true:=by
 rw[Le] at hc⊢
 obtain⟨h1,h2⟩:=hc
 have hl:=hw.len
 refine⟨?_,?_⟩
 ·rw[counts_iff] at h1⊢
  cases hr:k.rest with
  |false=>
   obtain⟨a,e⟩:=hw.fix hr
   rcases h1 with⟨h1,_⟩|⟨_,h1⟩
   ·rw[a] at h1;cases h1
   ·exact .inr ⟨rfl,by omega⟩
  |true=>
   refine .inl ⟨rfl,?_⟩
   rcases h1 with⟨_,h1⟩|⟨h0,h1⟩
   ·omega
   ·by_cases e:h.parts.length=k.parts.length
    ·rw[hw.rst hr e] at h0;cases h0
    ·omega
 ·intro i hi hk
  exact EQ (U0 hb i) (h2 i hi (by omega)) (hw.ins i hk)
theorem KO {g:Mc} {n:Nat}:oK g n=true↔∃h∈g.holes,o8 g.base h n=true:=by simp[oK]
theorem LV:∀(l:List bV) (m:Nat),m≤qm l m∧∀h∈l,h.parts.length≤qm l m
 |[],m=>⟨afJ _,fun h hh=>by cases hh⟩
 |k::l,m=>by
  obtain⟨h1,h2⟩:=LV l (max m k.parts.length)
  simp only[qm]
  refine⟨by omega,?_⟩
  intro h hh
  rcases afr.1 hh with rfl|hh
  ·omega
  ·exact h2 h hh
theorem acG {g:Mc} {n m:Nat} (hn:qm g.holes g.base.parts.length<n) (hm:n≤m) (h:oK g n=true):oK g m=true:=by
 rw[KO] at h⊢
 obtain⟨k,hk,hc⟩:=h
 have hl:=(LV g.holes g.base.parts.length).2 k hk
 refine⟨k,hk,?_⟩
 rw[Le] at hc⊢
 rw[counts_iff] at hc⊢
 refine⟨?_,fun i a b=>hc.2 i (by omega) b⟩
 rcases hc.1 with⟨a,b⟩|⟨a,b⟩
 ·exact .inl ⟨a,by omega⟩
 ·omega
theorem Rw {g:Mc} (hb:1≤g.base.parts.length):0<Hz g↔∃n,nN g.base n=true∧oK g n=false:=by
 unfold Hz
 cases hr:g.base.rest with
 |false=>
  rw[if_neg (by simp)]
  have e:∀n,nN g.base n=true↔n=g.base.parts.length:=fun n=>by rw[counts_iff,hr];simp
  cases hf:oK g g.base.parts.length with
  |true=>
   rw[if_pos rfl]
   refine⟨fun h=>by omega,?_⟩
   rintro⟨n,h1,h2⟩
   rw[(e n).1 h1,hf] at h2;cases h2
  |false=>
   rw[if_neg (by simp)]
   exact⟨fun _=>⟨_,(e _).2 rfl,hf⟩,fun _=>by omega⟩
 |true=>
  rw[if_pos rfl]
  have e:∀n,nN g.base n=true↔g.base.parts.length<n:=fun n=>by rw[counts_iff,hr];simp
  have hm:=(LV g.holes g.base.parts.length).1
  split
  ·rename_i j hj
   have:=List.find?_some hj
   refine⟨fun _=>⟨g.base.parts.length+1+j,(e _).2 (by omega),by simpa using this⟩,fun _=>by omega⟩
  ·rename_i hj
   rw[List.find?_eq_none] at hj
   refine⟨fun h=>by omega,?_⟩
   rintro⟨n,h1,h2⟩
   have h1:=(e n).1 h1
   exfalso
   by_cases hn:n≤qm g.holes g.base.parts.length+1
   ·have:=hj (n-(g.base.parts.length+1)) (aht.2 (by omega))
    rw[show g.base.parts.length+1+(n-(g.base.parts.length+1))=n by omega] at this
    rw[h2] at this;exact this rfl
   ·have:=hj (qm g.holes g.base.parts.length-g.base.parts.length) (aht.2 (by omega))
    rw[show g.base.parts.length+1+(qm g.holes g.base.parts.length-g.base.parts.length)=qm g.holes g.base.parts.length+1 by omega] at this
    have h3:oK g (qm g.holes g.base.parts.length+1)=true:=by
     cases h:oK g (qm g.holes g.base.parts.length+1) with
     |true=>rfl
     |false=>rw[h] at this;exact absurd rfl this
    rw[acG (by omega) (by omega:_≤n) h3] at h2
    cases h2
end
section
open Go.Ab Tys
theorem WE (l:List (Option (List Int))) (i:Nat) (v:List Int):((l.map jP).map fun l=>l.map C.d).set i (C.d (.pm (fG kN v))::List.drop 1 (((l.map jP).map fun l=>l.map C.d).getD i []))=((l.set i (some v)).map jP).map fun l=>l.map C.d:=
 IQ jP l i (some v) 1 (fun _=>rfl)
end
section
open Go.Ab Tys
variable [Dr]
theorem JV {d:aW} {t:jo} (h:¬Fits d t):mf d t=false:=by simp[mf,h]
end
end Go.Proofs.YtcpgicfphakdaaaGreatDoor
