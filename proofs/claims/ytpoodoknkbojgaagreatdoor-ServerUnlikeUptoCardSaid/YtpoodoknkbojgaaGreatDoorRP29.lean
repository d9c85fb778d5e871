/- A part of the proof. -/
import Derived.Test.YtpoodoknkbojgaaGreatDoorRAbLb
import Derived.Test.YtpoodoknkbojgaaGreatDoorRAbJn
set_option linter.all false
namespace Go.Proofs.YtpoodoknkbojgaaGreatDoor
open Go.Ab
structure fJ where
 parts:List VJ
 rest:Bool
 deriving DecidableEq
structure yH where
 excl:Bool
 left:fJ
 right:fJ
structure TD where
 left:fJ
 right:fJ
 holes:List fJ
@[reducible] def kz (p:fJ):List D:=[.ps 1 (p.parts.map encS), .v (.bool p.rest)]
@[reducible] def fH (r:yH):List D:=[.v (.bool r.excl), .ps 1 (r.left.parts.map encS), .v (.bool r.left.rest), .ps 1 (r.right.parts.map encS), .v (.bool r.right.rest)]
@[reducible] def aPat (p:fJ):AV:= .agg ((kz p).map C.d)
@[reducible] def RX (r:yH):AV:= .agg ((fH r).map C.d)
@[reducible] def QZ (l:List fJ):AV:= .c (.d (.ps 2 (l.map kz)))
@[reducible] def pS (s:VJ):Bool×List C:=(false,[.d (.v (.string s))])
def lQ:fJ:=⟨[],false⟩
def Oj:yH:=⟨false,lQ,lQ⟩
def dP (x:VJ):Bool:=!(decide (x=noS)||!decide (byteAt x 0=42))&&(List.range x.size).all fun k=>decide (k=0)||okB (byteAt x k)
def Jw (x:VJ):VJ:=if dP x then x.extract 1 x.size else noS
def jL (x:VJ):Bool:=dP x||comp x
def ik (p:fJ):Int:=
 if p.parts.length=0∨(p.parts.length=1∧p.rest=false)∨comp (p.parts.getD 0 noS)=false then 30
 else if(p.parts.drop 1).all jL then(if 12<p.parts.length then 31 else 0) else 30
def Ef (p:fJ):Bool:=decide (ik p=0)
def gz (s t:VJ):Bool:=decide (t.size≤s.size)&&decide (s.extract (s.size-t.size) s.size=t)
def ML (x c:VJ):VJ×Bool:=
 if dP x then(if gz c (Jw x) then(c.extract 0 (c.size-(Jw x).size),comp (c.extract 0 (c.size-(Jw x).size))) else(noS,false)) else(noS,decide (x=c))
def gG (p:fJ):VJ:=if p.rest then(Fa++jQ p.parts slash)++{data:= #[47,46,46,46]} else Fa++jQ p.parts slash
def dU (x y:VJ):Bool:=if dP y then(if dP x then gz (Jw x) (Jw y) else(ML y x).2) else decide (x=y)
@[reducible] def Aj:VJ:={data:= #[42]}
def TD.line (x:TD):yH:=⟨false,x.left,x.right⟩
theorem MJ:okB 47=false:=by kernel_rfl
theorem yf {s:VJ} (h:comp s=true):∀k,k<s.size→okB (byteAt s k)=true:=by
 intro k hk
 simp only[comp,Uf] at h
 exact oP _ k (fun k=>okB (byteAt s k)) hk h.2
theorem Nw {s:VJ} (h:∀k,k<s.size→okB (byteAt s k)=true):∀x∈s.data.toList,x≠47:=by
 intro x hx e
 subst e
 obtain⟨k,hk⟩:=UO hx
 have hl:=(Ue.1 hk).1
 have hk2:k<s.size:=by simpa using hl
 have:=h k hk2
 rw[(zZ hk).2 rfl,MJ] at this
 cases this
theorem ny:∀Ls:List (List UInt8),Ls≠[]→(∀l∈Ls,∀x∈l,x≠47)→kH (Lib.join Ls [47])=Ls
 |[],h,_=>absurd rfl h
 |[l],_,h=>by rw[Lib.join_one,zN (h l (by simp))]
 |l::m::r,_,h=>by
  have e:Lib.join (l::m::r) [47]=l++47::Lib.join (m::r) [47]:=by
   rw[Lib.join_cons,Lib.join_cons]
   simp[Lib.joinTail]
  rw[e,wX (h l (by simp)),ny (m::r) (by simp) fun l hl=>h l (U0 _ hl)]
theorem EY (a b:VJ):(a++b).extract a.size (a++b).size=b:=ByteArray.extract_append_eq_right rfl Vo
theorem CO {x:VJ} (h:dP x=true):1≤x.size∧∀k,1≤k→k<x.size→okB (byteAt x k)=true:=by
 simp only[dP,Uf,Uh,Vg,UN] at h
 refine⟨lM h.1.1,fun k h1 hk=>?_⟩
 have:=oP _ k (fun k=>decide (k=0)||okB (byteAt x k)) hk h.2
 simpa[show ¬k=0 by omega] using this
theorem KO {s:VJ} (h:comp s=true):1≤s.size∧¬byteAt s 0=46:=by
 simp only[comp,Uf,Uh,Vg,UN] at h
 exact⟨lM h.1.1,h.1.2⟩
theorem OM {s:VJ} (h1:1≤s.size) (h2:¬byteAt s 0=46) (h3:∀k,k<s.size→okB (byteAt s k)=true):comp s=true:=by
 simp only[comp,Uf,Uh,Vg,UN]
 refine⟨⟨?_,h2⟩,?_⟩
 ·rintro rfl;simp[ByteArray.size] at h1
 ·rw[UG];intro k hk;exact h3 k (UZ.1 hk)
theorem oI {p:fJ}:Ef p=true↔(1≤p.parts.length∧(p.rest=false→2≤p.parts.length)∧comp (p.parts.getD 0 noS)=true∧(p.parts.drop 1).all jL=true∧p.parts.length≤12):=by
 unfold Ef ik
 rw[TW]
 split
 ·rename_i h
  constructor
  ·intro h;omega
  ·rintro⟨h1,h2,h3,_⟩
   rcases h with h|⟨h,h'⟩|h
   ·omega
   ·have:=h2 h';omega
   ·rw[h] at h3;cases h3
 ·rename_i h
  simp only[not_or,not_and] at h
  split
  ·rename_i ha
   split
   ·constructor
    ·intro h;omega
    ·intro h;omega
   ·refine⟨fun _=>⟨by omega,?_,by simpa using h.2.2,ha,by omega⟩,fun _=>rfl⟩
    intro hr
    have:=h.2.1
    by_cases h1:p.parts.length=1
    ·exact absurd hr (this h1)
    ·omega
  ·rename_i ha
   constructor
   ·intro h;omega
   ·rintro⟨_,_,_,h4,_⟩;exact absurd h4 ha
theorem lD {s t:VJ}:gz s t=true↔∃r,s=r++t:=by
 simp only[gz,Uf,TW]
 constructor
 ·rintro⟨h1,h2⟩
  refine⟨s.extract 0 (s.size-t.size),?_⟩
  conv=>rhs;arg 2;rw[←h2]
  rw[ByteArray.extract_append_extract]
  simp
 ·rintro⟨r,rfl⟩
  refine⟨by rw[Vo];omega,?_⟩
  have:(r++t).size-t.size=r.size:=by rw[Vo];omega
  rw[this]
  exact EY r t
theorem DZ (s:VJ):gz s s=true:=lD.2 ⟨ByteArray.empty,by simp⟩
theorem qL {a b c:VJ} (h1:gz a b=true) (h2:gz b c=true):gz a c=true:=by
 obtain⟨r,rfl⟩:=lD.1 h1
 obtain⟨q,rfl⟩:=lD.1 h2
 exact lD.2 ⟨r++q,by rw[ByteArray.append_assoc]⟩
theorem tV {s t:VJ} (h:gz s t=true):t.size≤s.size:=by
 simp only[gz,Uf,TW] at h;exact h.1
theorem pU {a:VJ} {n k:Nat} (h:k<n) (hn:n≤a.size):byteAt (a.extract 0 n) k=byteAt a k:=by
 have h2:k<a.data.size:=by have:a.data.size=a.size:=rfl;omega
 simp only[byteAt,ByteArray.data_extract,Ux,Array.getElem?_extract]
 rw[if_pos (by have e:a.data.size=a.size:=rfl;omega)]
 simp
theorem LZ {c:VJ} (hc:comp c=true) {n:Nat} (hn:n≤c.size):comp (c.extract 0 n)=decide (0<n):=by
 by_cases h:0<n
 ·rw[Vm h]
  obtain⟨c1,c2⟩:=KO hc
  have hs:(c.extract 0 n).size=n:=by rw[ByteArray.size_extract];omega
  refine OM (by omega) (by rw[pU h hn];exact c2) ?_
  intro k hk
  rw[pU (by omega) hn]
  exact yf hc k (by omega)
 ·have:n=0:=by omega
  subst this
  have e:c.extract 0 0=ByteArray.empty:=by simp
  rw[e]
  decide
theorem Ae {x c:VJ} (hx:dP x=true) (hc:comp c=true):(ML x c).2=(gz c (Jw x)&&decide ((Jw x).size<c.size)):=by
 simp only[ML,if_pos hx]
 cases h:gz c (Jw x) with
 |false=>simp
 |true=>
  have:=tV h
  rw[if_pos rfl,LZ hc (by omega)]
  simp
  omega
theorem uw {x:VJ} (h:jL x=true):(dP x=true)∨(dP x=false∧comp x=true):=by
 unfold jL at h
 cases hs:dP x with
 |true=>exact .inl rfl
 |false=>rw[hs] at h;exact .inr ⟨rfl,h⟩
theorem DR {x:VJ} (hx:jL x=true):dU x x=true:=by
 rcases uw hx with h|⟨h,_⟩
 ·simp[dU,h,DZ]
 ·simp[dU,h]
theorem Cb {x y z:VJ} (hx:jL x=true) (h1:dU x y=true) (h2:dU y z=true):dU x z=true:=by
 cases hz:dP z with
 |false=>
  simp[dU,hz] at h2
  subst h2;exact h1
 |true=>
  cases hy:dP y with
  |false=>
   simp[dU,hy] at h1
   subst h1;exact h2
  |true=>
   have h3:gz (Jw y) (Jw z)=true:=by simpa[dU,hy,hz] using h2
   rcases uw hx with h|⟨h,hc⟩
   ·have h4:gz (Jw x) (Jw y)=true:=by simpa[dU,hy,h] using h1
    simpa[dU,h,hz] using qL h4 h3
   ·have h4:(ML y x).2=true:=by simpa[dU,hy,h] using h1
    rw[Ae hy hc] at h4
    simp only[Uf,TW] at h4
    have h5:=tV h3
    have:(ML z x).2=true:=by
     rw[Ae hz hc]
     simp only[Uf,TW]
     exact⟨qL h4.1 h3,by omega⟩
    simpa[dU,h,hz] using this
def Gj (p:fJ):Prop:=∀i,i<p.parts.length→jL (p.parts.getD i noS)=true
structure QD (p q:fJ):Prop where
 len:q.parts.length≤p.parts.length
 fix:q.rest=false→p.rest=false∧p.parts.length=q.parts.length
 rst:q.rest=true→p.parts.length=q.parts.length→p.rest=true
 ins:∀i,i<q.parts.length→dU (p.parts.getD i noS) (q.parts.getD i noS)=true
theorem QD.refl {p:fJ} (h:Gj p):QD p p:=⟨Ui _,fun h=>⟨h,rfl⟩,fun h _=>h,fun i hi=>DR (h i hi)⟩
theorem QD.trans {p q r:fJ} (hp:Gj p) (h1:QD p q) (h2:QD q r):QD p r:=by
 refine⟨Ur h2.len h1.len,?_,?_,?_⟩
 ·intro hr
  obtain⟨a,b⟩:=h2.fix hr
  obtain⟨c,e⟩:=h1.fix a
  exact⟨c,by omega⟩
 ·intro hr hl
  have a:=h1.len
  have b:=h2.len
  exact h1.rst (h2.rst hr (by omega)) (by omega)
 ·intro i hi
  have b:=h2.len
  have a:=h1.len
  exact Cb (hp i (by omega)) (h1.ins i (by omega)) (h2.ins i hi)
end Go.Proofs.YtpoodoknkbojgaaGreatDoor
