/- A part of the proof. -/
import Derived.Test.YtpoodoknkbojgaaGreatDoorRE17
import Derived.Test.YtpoodoknkbojgaaGreatDoorRX3
set_option maxRecDepth 100000
set_option maxHeartbeats 8000000
set_option linter.all false
namespace Go.Proofs.YtpoodoknkbojgaaGreatDoor
section
open Go.Ab Tys
variable [Dr]
def bL:List UInt8→Option (Bool×List UInt8)
 |[]=>none
 |c::l=>if 1<c.toNat then none else some (decide (c.toNat=1),l)
def bE:List UInt8→Int
 |[]=>11
 |_=>12
def UQ (l:List UInt8) (n:Nat):List (Bool×List C):=
 match bL (l.drop n) with
 |some q=>[pB q.1,pI ((l.length-q.2.length:Nat):Int),pI 0]
 |none=>[pB false,pI 0,pI (bE (l.drop n))]
def YT.kk:=p8 kB kG Tryz.ntmps176 Tryz.underlying33 jJ oh Jp Tryz.results176
open YT in
theorem U3 (l:List UInt8) (n:Nat) (hn:n≤l.length) (hl:l.length≤1000000000):AC Tryz.prog 176 [.c (.d (.ps 1 (l.map bU))),I .i64 n] [] (fun r st=>r= .tup (UQ l n)∧st=[]):=by
 unfold UQ
 refine dI Tryz.func176 Tryz.ntmps176 fun x hx=>?_
 try refine nv ?_
 refine aU ?_ ?_
 ·intro h
  exfalso
  rw[aaE (by omega:¬((n:Int)<0)),aaE (by omega:¬((l.length:Int)<n))] at h
  cases h
 intro _
 try refine nv ?_
 refine aU ?_ ?_
 ·intro h
  have hk:n=l.length:=by have:(n:Int)=l.length:=(by simpa using h);omega
  rw[show l.drop n=[] by rw[hk,abU]]
  try refine nv ?_
  refine rA [] ?_
  refine⟨?_,rfl⟩
  rfl
 intro h
 have hlt:n<l.length:=by have:¬(n:Int)=l.length:=(by simpa using h);omega
 obtain⟨c,hc,he,_⟩:=round bU l n 0 hlt
 have hcb:=UInt8.toNat_lt c
 have hdr:l.drop n=c::l.drop (n+1):=by
  obtain⟨h6,h7⟩:=aal.1 hc
  rw[List.drop_eq_getElem_cons h6,h7]
 rw[hdr]
 simp only[bL,bE]
 try refine nx @he ?_
 refine aU ?_ ?_
 ·intro h
  rw[if_pos (by have:(1:Int)<c.toNat:=(by simpa using h);omega)]
  try refine nv ?_
  refine rA [] ?_
  refine⟨?_,rfl⟩
  rfl
 intro h
 rw[if_neg (by have:¬(1:Int)<c.toNat:=(by simpa using h);omega)]
 have hend:((l.length-(l.drop (n+1)).length:Nat):Int)=(n:Int)+1:=by rw[aaQ];omega
 try refine nx @he ?_
 refine rA [] ?_
 refine⟨?_,rfl⟩
 simp only[hend]
 rw[show decide ((c.toNat:Int)=1)=decide (c.toNat=1) from abO.2 (by omega)]
@[reducible] def oW (l:List UInt8) (p:Int) (b:Bool):AO:= .box [.d (.ps 1 (l.map bU)), .d (.v (.int .i64 p)), .d (.v (.bool b))]
@[reducible] def bH (l:List UInt8) (s:Ds):List (Nat×AO):=[(3000,oW l s.1 s.2)]
def Dy {α:Type} (z v:α) (nx:Nat) (e:Int) (s:Ds):α×Ds:=if s.2=true∨e≠0 then(z,s.1,true) else(v,nx,false)
def Xv {α:Type} (l:List UInt8) (q:Option (α×List UInt8)) (v:α) (nx:Nat) (e:Int):Prop:=
 match q with
 |some u=>v=u.1∧nx=l.length-u.2.length∧e=0
 |none=>e≠0
omit [Dr] in
theorem FO {α:Type} {z v:α} {nx:Nat} {e:Int} {s:Ds} {l:List UInt8} {q:Option (α×List UInt8)} (h:Xv l q v nx e):takeD z q l s=Dy z v nx e s:=by
 obtain⟨p,b⟩:=s
 unfold takeD Dy
 unfold Xv at h
 cases b
 ·cases q with
  |none=>
   simp only at h
   simp[h]
  |some u=>
   obtain⟨rfl,rfl,rfl⟩:=h
   simp
 ·simp
theorem VP (l:List UInt8) (i:Nat):uE l i≠0:=by rcases I9 l i with h|h<;>rw[h]<;>decide
omit [Dr] in
theorem XJ (l:List UInt8):bE l≠0:=by cases l<;>simp[bE]
def z59.kk:=p10 kB kG Tryz.ntmps59 lK kL jG pg vO tC Tryz.results59
open z59 in
theorem Ry (l:List UInt8) (s:Ds) (v:Int) (nx:Nat) (e:Int):AC Tryz.prog 59 [.c (.ptr 3000 0),I .i64 v,I .i64 nx,I .i64 e] (bH l s)
 (fun r st=>r=I .i64 (Dy 0 v nx e s).1∧st=bH l (Dy 0 v nx e s).2):=by
 obtain⟨p,b⟩:=s
 unfold Dy
 simp only
 refine dI Tryz.func59 Tryz.ntmps59 fun x hx=>?_
 try refine nv ?_
 refine aU ?_ ?_
 ·intro h
  have hc:b=true∨e≠0:=by
   cases b
   ·simp at h;exact .inr h
   ·exact .inl rfl
  rw[if_pos hc]
  try refine nv ?_
  refine rA ((bH l (p,true))) ?_
  refine⟨?_,rfl⟩
  rfl
 intro h
 have hb:b=false:=by
  cases b
  ·rfl
  ·simp at h
 subst hb
 have he:e=0:=by simpa using h
 subst he
 rw[if_neg (by simp)]
 try refine nv ?_
 refine rA ((bH l (nx,false))) ?_
 refine⟨?_,rfl⟩
 rfl
def YO.kk:=p10 kB kG Tryz.ntmps122 lK kL jG pg vO tC Tryz.results122
open YO in
theorem QA (l:List UInt8) (s:Ds) (v:abW) (nx:Nat) (e:Int):AC Tryz.prog 122 [.c (.ptr 3000 0),Str v,I .i64 nx,I .i64 e] (bH l s)
 (fun r st=>r=Str (Dy noS v nx e s).1∧st=bH l (Dy noS v nx e s).2):=by
 obtain⟨p,b⟩:=s
 unfold Dy
 simp only
 refine dI Tryz.func122 Tryz.ntmps122 fun x hx=>?_
 try refine nv ?_
 refine aU ?_ ?_
 ·intro h
  have hc:b=true∨e≠0:=by
   cases b
   ·simp at h;exact .inr h
   ·exact .inl rfl
  rw[if_pos hc]
  try refine nv ?_
  refine rA ((bH l (p,true))) ?_
  refine⟨?_,rfl⟩
  rfl
 intro h
 have hb:b=false:=by
  cases b
  ·rfl
  ·simp at h
 subst hb
 have he:e=0:=by simpa using h
 subst he
 rw[if_neg (by simp)]
 try refine nv ?_
 refine rA ((bH l (nx,false))) ?_
 refine⟨?_,rfl⟩
 rfl
def z175.kk:=p10 kB kG Tryz.ntmps175 lK kL jG pg vO tC Tryz.results175
open z175 in
theorem PW (l:List UInt8) (s:Ds) (v:Int) (nx:Nat) (e:Int):AC Tryz.prog 175 [.c (.ptr 3000 0),I .u64 v,I .i64 nx,I .i64 e] (bH l s)
 (fun r st=>r=I .u64 (Dy 0 v nx e s).1∧st=bH l (Dy 0 v nx e s).2):=by
 obtain⟨p,b⟩:=s
 unfold Dy
 simp only
 refine dI Tryz.func175 Tryz.ntmps175 fun x hx=>?_
 try refine nv ?_
 refine aU ?_ ?_
 ·intro h
  have hc:b=true∨e≠0:=by
   cases b
   ·simp at h;exact .inr h
   ·exact .inl rfl
  rw[if_pos hc]
  try refine nv ?_
  refine rA ((bH l (p,true))) ?_
  refine⟨?_,rfl⟩
  rfl
 intro h
 have hb:b=false:=by
  cases b
  ·rfl
  ·simp at h
 subst hb
 have he:e=0:=by simpa using h
 subst he
 rw[if_neg (by simp)]
 try refine nv ?_
 refine rA ((bH l (nx,false))) ?_
 refine⟨?_,rfl⟩
 rfl
def YG.kk:=p10 kB kG Tryz.ntmps177 lK kL jG pg vO tC Tryz.results177
open YG in
theorem RP (l:List UInt8) (s:Ds) (v:Bool) (nx:Nat) (e:Int):AC Tryz.prog 177 [.c (.ptr 3000 0),B v,I .i64 nx,I .i64 e] (bH l s)
 (fun r st=>r=B (Dy false v nx e s).1∧st=bH l (Dy false v nx e s).2):=by
 obtain⟨p,b⟩:=s
 unfold Dy
 simp only
 refine dI Tryz.func177 Tryz.ntmps177 fun x hx=>?_
 try refine nv ?_
 refine aU ?_ ?_
 ·intro h
  have hc:b=true∨e≠0:=by
   cases b
   ·simp at h;exact .inr h
   ·exact .inl rfl
  rw[if_pos hc]
  try refine nv ?_
  refine rA ((bH l (p,true))) ?_
  refine⟨?_,rfl⟩
  rfl
 intro h
 have hb:b=false:=by
  cases b
  ·rfl
  ·simp at h
 subst hb
 have he:e=0:=by simpa using h
 subst he
 rw[if_neg (by simp)]
 try refine nv ?_
 refine rA ((bH l (nx,false))) ?_
 refine⟨?_,rfl⟩
 rfl
end
section
open Go.Ab Tys
variable [wJ]
end
section
open Go.Ab Tys
variable [wJ]
end
section
open Go.Ab Tys
variable [wJ]
end
section
open Go.Ab
@[reducible] def yt:abW:={data:= #[47,46,46,46]}
def En (b:abW):fZ:=if dF b yt then⟨split (b.extract 0 (b.size-4)),true⟩ else⟨split b,false⟩
def su (s:abW):fZ:=En (s.extract 2 s.size)
def jW (s:abW):Int:=if hasPrefix s fA then dR (su s) else 30
def gW (s:abW):fZ:=if jW s=0 then su s else jM
theorem yS:∀(t:List UInt8),∀l∈dn t,∀x∈l,x≠47
 |[],l,hl,x,hx=>by
  simp only[dn,aag] at hl
  subst hl;cases hx
 |a::t,l,hl,x,hx=>by
  have ih:=yS t
  simp only[dn] at hl
  split at hl
  ·rcases Z9.1 hl with rfl|hl
   ·cases hx
   ·exact ih l hl x hx
  ·rename_i ha
   obtain⟨h,r,e⟩:=jV t
   rw[e] at hl ih
   simp only at hl
   rcases Z9.1 hl with rfl|hl
   ·rcases Z9.1 hx with rfl|hx
    ·exact ha
    ·exact ih h (by simp) x hx
   ·exact ih l (by simp[hl]) x hx
theorem Oz (t:List UInt8):dn t≠[]:=by
 obtain⟨h,r,e⟩:=jV t
 rw[e];simp
theorem IZ (a:List UInt8):dn (a++47::dots)=dn a++[dots]:=by
 have h1:=wQ dots (dn a) (Oz a)
 rw[qF] at h1
 rw[←h1,lW _ (by simp)]
 intro l hl x hx
 rcases aay.1 hl with hl|hl
 ·exact yS a l hl x hx
 ·rw[aag] at hl;subst hl
  intro e;subst e
  revert hx;decide
theorem vZ (s:abW):eX (split s) slash=s:=by
 have h:=JF [] s
 rw[List.nil_append,List.nil_append] at h
 rw[h]
 apply UY
 rw[jS,aax,aa5,Lib.join_one]
theorem KY {b t:abW} (h:dF b t=true):b.extract 0 (b.size-t.size)++t=b:=by
 simp only[dF,aaj,aae] at h
 conv=>lhs;arg 2;rw[←h.2]
 rw[abu]
 simp
theorem BX {s:abW} (h:hasPrefix s fA=true):fA++s.extract 2 s.size=s:=by
 simp only[hasPrefix,aaj,aae] at h
 have h2:s.extract 0 2=fA:=h.2
 conv=>lhs;arg 1;rw[←h2]
 rw[abu]
 simp
theorem Lm {s:abW} (h:hasPrefix s fA=true):eF (su s)=s:=by
 unfold su En
 split
 ·rename_i h2
  have e4:yt.size=4:=rfl
  have h3:=KY h2
  rw[e4] at h3
  simp only[eF,if_true]
  rw[vZ,ByteArray.append_assoc]
  rw[show({data:= #[47,46,46,46]}:abW)=yt from rfl,h3,BX h]
 ·simp only[eF,aak,if_false]
  rw[vZ,BX h]
theorem Bg (b:abW):hasPrefix (fA++b) fA=true∧(fA++b).extract 2 (fA++b).size=b:=by
 have e2:fA.size=2:=rfl
 have h1:(fA++b).extract 0 2=fA:=by
  rw[←e2,ByteArray.extract_append_eq_left rfl]
 refine⟨?_,?_⟩
 ·simp only[hasPrefix,aaj,aae]
  refine⟨by rw[aa9];omega,?_⟩
  rw[e2];exact h1
 ·exact ByteArray.extract_append_eq_right e2.symm aa9
theorem Jo {L:List abW} (h0:L≠[]) (h:∀s∈L,∀c∈s.data.toList,c≠47):split (eX L slash)=L:=by
 rw[Nh,jS,lW _ (by intro h;rw[List.map_eq_nil_iff] at h;exact h0 h) ?_,Un]
 intro l hl x hx
 obtain⟨s,hs,rfl⟩:=aaD.1 hl
 exact h s hs x hx
theorem Ky {p:fZ} (h:G7 p=true):hasPrefix (eF p) fA=true∧su (eF p)=p:=by
 have p0:p.parts≠[]:=by obtain⟨h1,_⟩:=oC.1 h;intro e;rw[e] at h1;simp at h1
 have h47:∀s∈p.parts,∀c∈s.data.toList,c≠47:=fun s hs=>JR (Dc h s hs)
 have hsp:=Jo p0 h47
 have hd:=fun s hs=>OI (Dc h s hs)
 obtain⟨ps,rs⟩:=p
 simp only at p0 h47 hsp hd
 cases rs with
 |true=>
  simp only[eF,if_true]
  rw[ByteArray.append_assoc]
  obtain⟨a1,a2⟩:=Bg (eX ps slash++{data:= #[47,46,46,46]})
  refine⟨a1,?_⟩
  unfold su
  rw[a2]
  unfold En
  rw[if_pos (jy.2 ⟨_,rfl⟩)]
  have e4:(eX ps slash++({data:= #[47,46,46,46]}:abW)).size-4=(eX ps slash).size:=by
   rw[aa9]
   have:ByteArray.size {data:= #[47,46,46,46]}=4:=rfl
   omega
  rw[e4,ByteArray.extract_append_eq_left rfl,hsp]
 |false=>
  simp only[eF,aak,if_false]
  obtain⟨a1,a2⟩:=Bg (eX ps slash)
  refine⟨a1,?_⟩
  unfold su
  rw[a2]
  unfold En
  rw[if_neg,hsp]
  intro hs
  obtain⟨r,hr⟩:=jy.1 hs
  have e1:(eX ps slash).data.toList=r.data.toList++47::dots:=by
   rw[hr,zF];rfl
  have e2:=congrArg dn e1
  rw[IZ,jS,lW _ (by simpa using p0) (by
   intro l hl x hx
   obtain⟨s,hs,rfl⟩:=aaD.1 hl
   exact h47 s hs x hx)] at e2
  have hm:dots∈ps.map (·.data.toList):=by rw[e2];simp
  obtain⟨s,hs,e⟩:=aaD.1 hm
  exact hd s hs e
theorem CZ {s:abW} (h:jW s=0):G7 (gW s)=true∧eF (gW s)=s:=by
 unfold gW
 rw[if_pos h]
 unfold jW at h
 split at h
 ·rename_i hp
  exact⟨by simp[G7,h],Lm hp⟩
 ·cases h
theorem LG {p:fZ} (h:G7 p=true):jW (eF p)=0∧gW (eF p)=p:=by
 obtain⟨h1,h2⟩:=Ky h
 have e:jW (eF p)=0:=by
  unfold jW
  rw[if_pos h1,h2]
  simpa[G7] using h
 refine⟨e,?_⟩
 unfold gW
 rw[if_pos e,h2]
def eH (t:abW) (s:Ds):fZ×Ds:=if s.2=true∨jW t≠0∨gQ (gW t)=false then(jM,s.1,true) else(gW t,s)
def pD:Dm fZ:=fun l s=>eH (tD l s).1 (tD l s).2
def sD:Dm fZ:=fun l s=>if(tD l s).1=noS then(jM,(tD l s).2) else eH (tD l s).1 (tD l s).2
theorem BR (t:abW) (s:Ds):(eH t s).2.1=s.1:=by
 unfold eH;split<;>rfl
theorem Ak {t:abW} {s:Ds} (h:(eH t s).2.2=false):s.2=false∧jW t=0∧gQ (gW t)=true∧eH t s=(gW t,s):=by
 unfold eH at h⊢
 split at h
 ·cases h
 ·rename_i hc
  rw[if_neg hc]
  simp only[not_or,Bool.not_eq_true,ne_eq,Decidable.not_not,Bool.not_eq_false] at hc
  exact⟨hc.1,hc.2.1,hc.2.2,rfl⟩
theorem uM {p:fZ} (h:kQ p) (n:Nat):eH (eF p) (n,false)=(p,n,false):=by
 obtain⟨e1,e2⟩:=LG h.1
 unfold eH
 rw[if_neg,e2]
 rw[e1,e2,h.2]
 simp
theorem Ff:Rd pD kQ CE where
 good l p a r hl ha e:=by
  have g:=bQ.good l p (eF a) r hl (oP ha.1 ha.2) e
  unfold pD
  rw[g]
  exact uM ha _
 inv l p hl hf:=by
  unfold pD at hf⊢
  obtain⟨h1,h2,h3,h4⟩:=Ak hf
  rw[h4]
  obtain⟨a1,a2⟩:=bQ.inv l p hl h1
  obtain⟨b1,b2⟩:=CZ h2
  refine⟨⟨b1,h3⟩,?_⟩
  simp only[CE,b2]
  exact a2
 stick l p:=by
  unfold pD eH
  rw[if_pos (.inl (bQ.stick l p))]
 le l s hl:=by
  unfold pD
  rw[BR]
  exact bQ.le l s hl
theorem oV:lG noS:=by unfold lG;decide
theorem V5:Rd sD GI o9 where
 good l p a r hl ha e:=by
  rw[xy ha] at e
  unfold sD
  by_cases h0:a=jM
  ·rw[if_pos h0] at e
   rw[bQ.good l p noS r hl oV e]
   simp only[if_true]
   rw[h0]
  ·rw[if_neg h0] at e
   have hp:=ha.resolve_left h0
   rw[bQ.good l p (eF a) r hl (oP hp.1 hp.2) e]
   simp only
   rw[if_neg (OH hp.1)]
   exact uM hp _
 inv l p hl hf:=by
  unfold sD at hf⊢
  split at hf
  ·rename_i hn
   rw[if_pos hn]
   obtain⟨a1,a2⟩:=bQ.inv l p hl hf
   refine⟨.inl rfl,?_⟩
   rw[xy (.inl rfl),if_pos rfl,←hn]
   exact a2
  ·rename_i hn
   rw[if_neg hn]
   obtain⟨h1,h2,h3,h4⟩:=Ak hf
   rw[h4]
   obtain⟨a1,a2⟩:=bQ.inv l p hl h1
   obtain⟨b1,b2⟩:=CZ h2
   have ho:kQ (gW (tD l (p,false)).1):=⟨b1,h3⟩
   refine⟨.inr ho,?_⟩
   rw[xy (.inr ho),if_neg,b2]
   ·exact a2
   ·intro e
    exact Ou (e▸ho)
 stick l p:=by
  unfold sD eH
  split
  ·exact bQ.stick l p
  ·rw[if_pos (.inl (bQ.stick l p))]
 le l s hl:=by
  unfold sD
  split
  ·exact bQ.le l s hl
  ·rw[BR]
   exact bQ.le l s hl
def yD:Dm (Int×Bool×Bool×Bool):=Hq iD (Hq bD (Hq bD bD))
theorem V7:Rd yD (fun p=>aV .i64 p.1∧True∧True∧True) (fun p=>encI p.1++(iC p.2.1++(iC p.2.2.1++iC p.2.2.2))):=bW.seq (yC.seq (yC.seq yC))
def eD:Dm mV:=fun l s0=>
 let t:=tD l s0;let a:=iD l t.2;let y:=yD l a.2
 let c:=wD l y.2;let z:=iD l c.2;let p:=iD l z.2;let f:=tD l p.2;let n:=iD l f.2;let g:=iD l n.2
 (⟨t.1,a.1,y.1.1,y.1.2.1,y.1.2.2.1,y.1.2.2.2,c.1,z.1,p.1,f.1,n.1,g.1⟩,g.2)
def rD:Dm iI:=fun l s0=>
 let f:=tD l s0;let a:=iD l f.2;let b:=iD l a.2;let t:=tD l b.2;let n:=iD l t.2;let h:=iD l n.2
 (⟨f.1,a.1,b.1,t.1,n.1,h.1⟩,h.2)
def Lt:Dm yX:=fun l s0=>let b:=bD l s0;let p:=pD l b.2;let q:=pD l p.2;(⟨b.1,p.1,q.1⟩,q.2)
def Om:Dm DT:=fun l s0=>let k:=iD l s0;let p:=pD l k.2;let q:=sD l p.2;(⟨k.1,p.1,q.1⟩,q.2)
def VN:Dm Dx:=fun l s0=>let n:=tD l s0;let p:=tD l n.2;let q:=lD 12 Om l p.2;(⟨n.1,p.1,q.1⟩,q.2)
theorem Vz:Rd eD (fun e=>G8 e∧lG e.path∧lG e.frm) uO:=by
 have h:=((bQ.seq (bW.seq (V7.seq (VO.seq (bW.seq (bW.seq (bQ.seq (bW.seq bW)))))))).map
  (fun q=>(⟨q.1,q.2.1,q.2.2.1.1,q.2.2.1.2.1,q.2.2.1.2.2.1,q.2.2.1.2.2.2,q.2.2.2.1,q.2.2.2.2.1,q.2.2.2.2.2.1,q.2.2.2.2.2.2.1,q.2.2.2.2.2.2.2.1,q.2.2.2.2.2.2.2.2⟩:mV))
  (fun e=>(e.path,e.act,(e.base,e.kw,e.ex,e.xe),e.sum,e.size,e.prev,e.frm,e.fnum,e.fence)) (fun _=>rfl) fun _=>rfl)
 refine Rd.iff (m:=eD) h (fun e=>?_) (fun e=>?_)
 ·constructor
  ·rintro⟨h1,h2,⟨h3, -, -, -⟩,h7,h8,h9,h10,h11,h12⟩
   exact⟨⟨h2,h3,h7,h8,h9,h11,h12⟩,h1,h10⟩
  ·rintro⟨⟨h2,h3,h7,h8,h9,h11,h12⟩,h1,h10⟩
   exact⟨h1,h2,⟨h3,trivial,trivial,trivial⟩,h7,h8,h9,h10,h11,h12⟩
 ·simp only[uO,Tn,aas]
theorem VG:Rd rD (fun e=>LH e∧lG e.frm∧lG e.to) uZ:=by
 have h:=((bQ.seq (bW.seq (bW.seq (bQ.seq (bW.seq bW))))).map
  (fun q=>(⟨q.1,q.2.1,q.2.2.1,q.2.2.2.1,q.2.2.2.2.1,q.2.2.2.2.2⟩:iI)) (fun e=>(e.frm,e.first,e.last,e.to,e.num,e.how)) (fun _=>rfl) fun _=>rfl)
 refine Rd.iff (m:=rD) h (fun e=>?_) (fun e=>?_)
 ·constructor
  ·rintro⟨h1,h2,h3,h4,h5,h6⟩
   exact⟨⟨h2,h3,h5,h6⟩,h1,h4⟩
  ·rintro⟨⟨h2,h3,h5,h6⟩,h1,h4⟩
   exact⟨h1,h2,h3,h4,h5,h6⟩
 ·simp only[uZ,aas]
theorem Qr:Rd Lt (fun e=>kQ e.left∧kQ e.right) vV:=by
 have h:=((yC.seq (Ff.seq Ff)).map (fun q=>(⟨q.1,q.2.1,q.2.2⟩:yX)) (fun e=>(e.excl,e.left,e.right)) (fun _=>rfl) fun _=>rfl)
 refine Rd.iff (m:=Lt) h (fun e=>?_) (fun e=>?_)
 ·exact⟨fun h=>h.2,fun h=>⟨trivial,h⟩⟩
 ·simp only[vV,aas]
theorem J9:Rd Om (fun e=>aV .i64 e.kind∧kQ e.path∧GI e.frm) vC:=by
 have h:=((bW.seq (Ff.seq V5)).map (fun q=>(⟨q.1,q.2.1,q.2.2⟩:DT)) (fun e=>(e.kind,e.path,e.frm)) (fun _=>rfl) fun _=>rfl)
 refine Rd.iff (m:=Om) h (fun e=>Iff.rfl) (fun e=>?_)
 simp only[vC,aas]
theorem F7:Rd VN (fun s=>(∀x∈s.paths,aV .i64 x.kind)∧MK s) zD:=by
 have h:=((bQ.seq (bQ.seq (JD J9 12 (by omega)))).map (fun q=>(⟨q.1,q.2.1,q.2.2⟩:Dx)) (fun e=>(e.name,e.parent,e.paths)) (fun _=>rfl) fun _=>rfl)
 refine Rd.iff (m:=VN) h (fun e=>?_) (fun e=>?_)
 ·constructor
  ·rintro⟨h1,h2,h3,h4⟩
   exact⟨fun x hx=>(h4 x hx).1,h1,h2,h3,fun x hx=>(h4 x hx).2⟩
  ·rintro⟨h0,h1,h2,h3,h4⟩
   exact⟨h1,h2,h3,fun x hx=>⟨h0 x hx,h4 x hx⟩⟩
 ·simp only[zD,aas]
def BO:Nat→cO→cO→cO
 |0,d,c=>{d with client:=c.client}
 |1,d,c=>{d with name:=c.name}
 |2,d,c=>{d with path:=c.path}
 |3,d,c=>{d with number:=c.number}
 |4,d,c=>{d with fence:=c.fence}
 |5,d,c=>{d with ticks:=c.ticks}
 |6,d,c=>{d with text:=c.text}
 |7,d,c=>{d with stream:=c.stream}
 |8,d,c=>{d with rules:=c.rules}
 |9,d,c=>{d with edits:=c.edits}
 |10,d,c=>{d with recs:=c.recs}
 |_,d,_=>d
def fD:Nat→List UInt8→cO→Ds→cO×Ds
 |0,l,d,s=>({d with client:=(tD l s).1},(tD l s).2)
 |1,l,d,s=>({d with name:=(tD l s).1},(tD l s).2)
 |2,l,d,s=>({d with path:=(tD l s).1},(tD l s).2)
 |3,l,d,s=>({d with number:=(iD l s).1},(iD l s).2)
 |4,l,d,s=>({d with fence:=(iD l s).1},(iD l s).2)
 |5,l,d,s=>({d with ticks:=(iD l s).1},(iD l s).2)
 |6,l,d,s=>({d with text:=(tD l s).1},(tD l s).2)
 |7,l,d,s=>({d with stream:=(VN l s).1},(VN l s).2)
 |8,l,d,s=>({d with rules:=(lD 16 Lt l s).1},(lD 16 Lt l s).2)
 |9,l,d,s=>({d with edits:=(lD 64 eD l s).1},(lD 64 eD l s).2)
 |10,l,d,s=>({d with recs:=(lD 64 rD l s).1},(lD 64 rD l s).2)
 |_,_,d,s=>(d,s)
def A7 (l:List UInt8) (fs:List Nat) (u:cO×Ds):cO×Ds:=fs.foldl (fun u f=>fD f l u.1 u.2) u
def kz (k:Int):cO:={df with kind:=k}
def Je (l:List UInt8):cO×Ds:=A7 l ((nz (iD l (0,false)).1).getD []) (kz (iD l (0,false)).1,(iD l (0,false)).2)
def LP (l:List UInt8):Option cO:=if(nz (iD l (0,false)).1).isSome=true∧(Je l).2.2=false∧(Je l).2.1=l.length then some (Je l).1 else none
theorem zG:Rd (lD 16 Lt) (fun l=>l.length≤16∧∀e∈l,kQ e.left∧kQ e.right) (xk vV):=JD Qr 16 (by omega)
theorem zI:Rd (lD 64 eD) (fun l=>l.length≤64∧∀e∈l,G8 e∧lG e.path∧lG e.frm) (xk uO):=JD Vz 64 (by omega)
theorem zA:Rd (lD 64 rD) (fun l=>l.length≤64∧∀e∈l,LH e∧lG e.frm∧lG e.to) (xk uZ):=JD VG 64 (by omega)
theorem VI (l:List UInt8) (d:cO) (s:Ds) (hs:s.1≤l.length):∀f,(fD f l d s).2.1≤l.length
 |0=>bQ.le l s hs
 |1=>bQ.le l s hs
 |2=>bQ.le l s hs
 |3=>bW.le l s hs
 |4=>bW.le l s hs
 |5=>bW.le l s hs
 |6=>bQ.le l s hs
 |7=>F7.le l s hs
 |8=>zG.le l s hs
 |9=>zI.le l s hs
 |10=>zA.le l s hs
 |_+11=>hs
theorem U8 (l:List UInt8) (d:cO) (p:Nat):∀f,(fD f l d (p,true)).2.2=true
 |0=>bQ.stick l p
 |1=>bQ.stick l p
 |2=>bQ.stick l p
 |3=>bW.stick l p
 |4=>bW.stick l p
 |5=>bW.stick l p
 |6=>bQ.stick l p
 |7=>F7.stick l p
 |8=>zG.stick l p
 |9=>zI.stick l p
 |10=>zA.stick l p
 |_+11=>rfl
theorem U5 (l:List UInt8) (d:cO) (s:Ds):∀f,(fD f l d s).1.kind=d.kind
 |0|1|2|3|4|5|6|7|8|9|10=>rfl
 |_+11=>rfl
theorem Bi (l:List UInt8):∀(fs:List Nat) (u:cO×Ds),(A7 l fs u).1.kind=u.1.kind
 |[],_=>rfl
 |f::fs,u=>by
  show(A7 l fs (fD f l u.1 u.2)).1.kind=_
  rw[Bi l fs,U5]
theorem BN (l:List UInt8):∀(fs:List Nat) (u:cO×Ds),u.2.2=true→(A7 l fs u).2.2=true
 |[],_,h=>h
 |f::fs,u,h=>by
  refine BN l fs (fD f l u.1 u.2) ?_
  have:=U8 l u.1 u.2.1 f
  rw[←jh h] at this
  exact this
theorem Qy (l:List UInt8):∀(fs:List Nat) (u:cO×Ds),u.2.1≤l.length→(A7 l fs u).2.1≤l.length
 |[],_,h=>h
 |f::fs,u,h=>Qy l fs (fD f l u.1 u.2) (VI l _ _ h f)
theorem pr {α:Type} {m:cO×Ds} {q:α×Ds} {g:α→cO} {a:α} {s:Ds} (h:m=(g q.1,q.2)) (e:q=(a,s)):m=(g a,s):=by rw[h,e]
theorem Uy {c d:cO} (hc:DX c) {l r:List UInt8} {p:Nat} (hl:p≤l.length):∀f,okF f c→l.drop p=codeF f c++r→fD f l d (p,false)=(BO f d c,l.length-r.length,false)
 |0,h,e=>pr (g:=fun a=>{d with client:=a}) rfl (bQ.good l p _ r hl h e)
 |1,h,e=>pr (g:=fun a=>{d with name:=a}) rfl (bQ.good l p _ r hl h e)
 |2,h,e=>pr (g:=fun a=>{d with path:=a}) rfl (bQ.good l p _ r hl h e)
 |3,_,e=>pr (g:=fun a=>{d with number:=a}) rfl (bW.good l p _ r hl hc.number e)
 |4,_,e=>pr (g:=fun a=>{d with fence:=a}) rfl (bW.good l p _ r hl hc.fence e)
 |5,_,e=>pr (g:=fun a=>{d with ticks:=a}) rfl (bW.good l p _ r hl hc.ticks e)
 |6,h,e=>pr (g:=fun a=>{d with text:=a}) rfl (bQ.good l p _ r hl h e)
 |7,h,e=>pr (g:=fun a=>{d with stream:=a}) rfl (F7.good l p _ r hl ⟨hc.paths,h⟩ e)
 |8,h,e=>pr (g:=fun a=>{d with rules:=a}) rfl (zG.good l p _ r hl h e)
 |9,h,e=>pr (g:=fun a=>{d with edits:=a}) rfl (zI.good l p _ r hl ⟨h.1,fun z hz=>⟨hc.edits z hz,h.2 z hz⟩⟩ e)
 |10,h,e=>pr (g:=fun a=>{d with recs:=a}) rfl (zA.good l p _ r hl ⟨h.1,fun z hz=>⟨hc.recs z hz,h.2 z hz⟩⟩ e)
 |n+11,_,e=>by
  have:=congrArg List.length e
  simp only[codeF,List.nil_append,aaQ] at this
  show(d,p,false)=(d,l.length-r.length,false)
  rw[show l.length-r.length=p by omega]
theorem xZ (f:Nat) (fs:List Nat) (c:cO):iT (f::fs) c=codeF f c++iT fs c:=by simp only[iT,List.flatMap_cons]
theorem Hm {c:cO} (hc:DX c) {l:List UInt8}:∀(fs:List Nat) (d:cO) (p:Nat) (r:List UInt8),p≤l.length→(∀f∈fs,okF f c)→l.drop p=iT fs c++r→A7 l fs (d,p,false)=(fs.foldl (fun d f=>BO f d c) d,l.length-r.length,false)
 |[],d,p,r,hl,_,e=>by
  have:=congrArg List.length e
  simp only[iT,List.flatMap_nil,List.nil_append,aaQ] at this
  show(d,p,false)=(d,l.length-r.length,false)
  rw[show l.length-r.length=p by omega]
 |f::fs,d,p,r,hl,h,e=>by
  rw[xZ,aas] at e
  have g:=Uy (d:=d) hc hl f (h f (by simp)) e
  show A7 l fs (fD f l d (p,false))=_
  rw[g,Hm hc fs _ _ r (Nat.sub_le _ _) (fun g hg=>h g (by simp[hg])) (jr e)]
  rfl
theorem GR {c:cO} {fs:List Nat} (hk:nz c.kind=some fs):fs.foldl (fun d f=>BO f d c) (kz c.kind)=dG c:=by
 have hm:=mD hk
 simp only[BP,Z9,aa1,aad,aaw] at hm
 unfold dG
 rcases hm with⟨h,rfl⟩|⟨h,rfl⟩|⟨h,rfl⟩|⟨h,rfl⟩|⟨h,rfl⟩|⟨h,rfl⟩|⟨h,rfl⟩|⟨h,rfl⟩|⟨h,rfl⟩|⟨h,rfl⟩|⟨h,rfl⟩|⟨h,rfl⟩|⟨h,rfl⟩|⟨h,rfl⟩<;>
  simp[h,BO,kz,df]
theorem SV {c:cO} (hc:DX c) {l:List UInt8} (h:zl c=some l):LP l=some (dG c):=by
 obtain⟨fs,hk,ho,e⟩:=mW.1 h
 have g:=bW.good l 0 c.kind (iT fs c) (aaA _) hc.kind (by rw[abS];exact e)
 have e2:=jr (l:=l) (p:=0) (by rw[abS];exact e)
 have hr:Je l=(dG c,l.length,false):=by
  unfold Je
  rw[g]
  simp only
  rw[hk,Option.getD_some,Hm hc fs _ _ [] (Nat.sub_le _ _) ho (by rw[e2,aaM]),GR hk]
  rfl
 unfold LP
 rw[hr,g]
 simp only
 rw[hk]
 simp
theorem Ii (c:cO):∀f,eqF f c c
 |0|1|2|3|4|5|6|7|8|9|10=>rfl
 |_+11=>trivial
theorem wX {a b c:cO}:∀f,eqF f a b→eqF f b c→eqF f a c
 |0,h1,h2=>Eq.trans h1 h2
 |1,h1,h2=>Eq.trans h1 h2
 |2,h1,h2=>Eq.trans h1 h2
 |3,h1,h2=>Eq.trans h1 h2
 |4,h1,h2=>Eq.trans h1 h2
 |5,h1,h2=>Eq.trans h1 h2
 |6,h1,h2=>Eq.trans h1 h2
 |7,h1,h2=>Eq.trans h1 h2
 |8,h1,h2=>Eq.trans h1 h2
 |9,h1,h2=>Eq.trans h1 h2
 |10,h1,h2=>Eq.trans h1 h2
 |_+11,_,_=>trivial
theorem QH {c d:cO} {f:Nat} (h:eqF f c d):codeF f c=codeF f d:=by
 have:=EF [f] (fun g hg=>by rw[aag] at hg;subst hg;exact h)
 simpa[iT] using this
theorem GH {c d:cO} {f:Nat} (h:eqF f c d) (ho:okF f c):okF f d:=by
 revert h ho
 rcases f with _|_|_|_|_|_|_|_|_|_|_|f<;>intro h ho<;>simp only[eqF] at h<;>simp only[okF] at ho⊢ <;>first|trivial|(rw[←h];exact ho)
theorem TA (l:List UInt8) (d:cO) (s:Ds) (f g:Nat) (h:f≠g):eqF f d (fD g l d s).1:=by
 rcases f with _|_|_|_|_|_|_|_|_|_|_|f<;>rcases g with _|_|_|_|_|_|_|_|_|_|_|g<;>
  first|exact absurd rfl h|exact trivial|rfl
theorem MF (l:List UInt8) (f:Nat):∀(fs:List Nat) (u:cO×Ds),f∉fs→eqF f u.1 (A7 l fs u).1
 |[],u,_=>Ii _ f
 |g::fs,u,h=>wX f (TA l u.1 u.2 f g fun e=>h (by simp[e])) (MF l f fs (fD g l u.1 u.2) fun h2=>h (by simp[h2]))
structure yI (c:cO):Prop where
 i:DX c
 ok:∀f,okF f c
theorem WY {d:cO} (hd:yI d) {l:List UInt8} {p:Nat} (hl:p≤l.length):∀f,(fD f l d (p,false)).2.2=false→yI (fD f l d (p,false)).1∧l.drop p=codeF f (fD f l d (p,false)).1++l.drop (fD f l d (p,false)).2.1:=by
 have key:∀f,(okF f (fD f l d (p,false)).1)→∀g,okF g (fD f l d (p,false)).1:=by
  intro f h g
  by_cases e:g=f
  ·rw[e];exact h
  ·exact GH (TA l d (p,false) g f e) (hd.ok g)
 obtain⟨i0,i1,i2,i3,i4,i5,i6⟩:=hd.i
 intro f
 match f with
 |0=>intro h;obtain⟨a,e⟩:=bQ.inv l p hl h;exact⟨⟨⟨i0,i1,i2,i3,i4,i5,i6⟩,key 0 a⟩,e⟩
 |1=>intro h;obtain⟨a,e⟩:=bQ.inv l p hl h;exact⟨⟨⟨i0,i1,i2,i3,i4,i5,i6⟩,key 1 a⟩,e⟩
 |2=>intro h;obtain⟨a,e⟩:=bQ.inv l p hl h;exact⟨⟨⟨i0,i1,i2,i3,i4,i5,i6⟩,key 2 a⟩,e⟩
 |3=>intro h;obtain⟨a,e⟩:=bW.inv l p hl h;exact⟨⟨⟨i0,a,i2,i3,i4,i5,i6⟩,key 3 trivial⟩,e⟩
 |4=>intro h;obtain⟨a,e⟩:=bW.inv l p hl h;exact⟨⟨⟨i0,i1,a,i3,i4,i5,i6⟩,key 4 trivial⟩,e⟩
 |5=>intro h;obtain⟨a,e⟩:=bW.inv l p hl h;exact⟨⟨⟨i0,i1,i2,a,i4,i5,i6⟩,key 5 trivial⟩,e⟩
 |6=>intro h;obtain⟨a,e⟩:=bQ.inv l p hl h;exact⟨⟨⟨i0,i1,i2,i3,i4,i5,i6⟩,key 6 a⟩,e⟩
 |7=>intro h;obtain⟨a,e⟩:=F7.inv l p hl h;exact⟨⟨⟨i0,i1,i2,i3,a.1,i5,i6⟩,key 7 a.2⟩,e⟩
 |8=>intro h;obtain⟨a,e⟩:=zG.inv l p hl h;exact⟨⟨⟨i0,i1,i2,i3,i4,i5,i6⟩,key 8 a⟩,e⟩
 |9=>intro h;obtain⟨a,e⟩:=zI.inv l p hl h;exact⟨⟨⟨i0,i1,i2,i3,i4,fun z hz=>(a.2 z hz).1,i6⟩,key 9 ⟨a.1,fun z hz=>(a.2 z hz).2⟩⟩,e⟩
 |10=>intro h;obtain⟨a,e⟩:=zA.inv l p hl h;exact⟨⟨⟨i0,i1,i2,i3,i4,i5,fun z hz=>(a.2 z hz).1⟩,key 10 ⟨a.1,fun z hz=>(a.2 z hz).2⟩⟩,e⟩
 |n+11=>intro _;exact⟨hd,rfl⟩
theorem WZ (l:List UInt8) (d:cO) (s:Ds):∀(f:Nat) (c:cO),eqF f (fD f l d s).1 c→BO f d c=(fD f l d s).1
 |0,c,h|1,c,h|2,c,h|3,c,h|4,c,h|5,c,h|6,c,h|7,c,h|8,c,h|9,c,h|10,c,h=>by
  simp only[eqF,fD] at h
  simp only[BO,fD,h]
 |_+11,_,_=>rfl
theorem MO {l:List UInt8}:∀(fs:List Nat) (d:cO) (p:Nat),fs.Nodup→yI d→p≤l.length→(A7 l fs (d,p,false)).2.2=false→
 yI (A7 l fs (d,p,false)).1∧l.drop p=iT fs (A7 l fs (d,p,false)).1++l.drop (A7 l fs (d,p,false)).2.1∧fs.foldl (fun a f=>BO f a (A7 l fs (d,p,false)).1) d=(A7 l fs (d,p,false)).1
 |[],d,p,_,hd,_,_=>⟨hd,rfl,rfl⟩
 |f::fs,d,p,hn,hd,hl,h=>by
  have e0:A7 l (f::fs) (d,p,false)=A7 l fs (fD f l d (p,false)):=rfl
  rw[e0] at h⊢
  cases e:(fD f l d (p,false)).2.2 with
  |true=>rw[BN l fs _ e] at h;cases h
  |false=>
   obtain⟨h1,h2⟩:=WY hd hl f e
   have hl2:=VI l d (p,false) hl f
   have hq:=MF l f fs (fD f l d (p,false)) (List.nodup_cons.1 hn).1
   have hs:=WZ l d (p,false) f _ hq
   rw[QH hq] at h2
   rw[List.foldl_cons,hs]
   generalize fD f l d (p,false)=u at*
   obtain⟨d1,p1,b1⟩:=u
   simp only at e
   subst e
   obtain⟨a1,a2,a3⟩:=MO fs d1 p1 (List.nodup_cons.1 hn).2 h1 hl2 h
   refine⟨a1,?_,a3⟩
   rw[xZ,aas,h2,a2]
theorem PX {k:Int} (h:aV .i64 k):yI (kz k):=by
 have i0:aV .i64 0:=by simp[aV,IntKind.bits]
 refine⟨⟨h,i0,i0,i0,(fun x hx=>by cases hx),(fun x hx=>by cases hx),(fun x hx=>by cases hx)⟩,fun f=>?_⟩
 rcases f with _|_|_|_|_|_|_|_|_|_|_|f
 ·exact oV
 ·exact oV
 ·exact oV
 ·exact trivial
 ·exact trivial
 ·exact trivial
 ·exact oV
 ·exact⟨oV,oV,aaA _,fun e he=>by cases he⟩
 ·exact⟨aaA _,fun e he=>by cases he⟩
 ·exact⟨aaA _,fun e he=>by cases he⟩
 ·exact⟨aaA _,fun e he=>by cases he⟩
 ·exact trivial
theorem uz {k:Int} {fs:List Nat} (h:nz k=some fs):fs.Nodup:=by
 have hm:=mD h
 have:∀e∈BP,e.2.Nodup:=by decide
 exact this _ hm
theorem Sj {l:List UInt8} {d:cO} (h:LP l=some d):zl d=some l∧dG d=d∧yI d:=by
 unfold LP at h
 split at h
 ·rename_i hc
  cases h
  obtain⟨h1,h2,h3⟩:=hc
  obtain⟨fs,hk⟩:=aaq.1 h1
  have hr:Je l=A7 l fs (kz (iD l (0,false)).1,(iD l (0,false)).2):=by
   unfold Je;rw[hk];rfl
  rw[hr] at h2 h3⊢
  have hl0:=bW.le l (0,false) (aaA _)
  cases e:(iD l (0,false)).2.2 with
  |true=>rw[BN l fs _ e] at h2;cases h2
  |false=>
   obtain⟨b1,b2⟩:=bW.inv l 0 (aaA _) e
   generalize iD l (0,false)=u at*
   obtain⟨k,p,b⟩:=u
   simp only at e b1 b2 hk hl0
   subst e
   obtain⟨a1,a2,a3⟩:=MO fs (kz k) p (uz hk) (PX b1) hl0 h2
   have hkd:(A7 l fs (kz k,p,false)).1.kind=k:=Bi l fs _
   generalize A7 l fs (kz k,p,false)=v at*
   refine⟨?_,?_,a1⟩
   ·refine mW.2 ⟨fs,by rw[hkd];exact hk,fun f _=>a1.ok f,?_⟩
    rw[hkd]
    rw[abS] at b2
    rw[h3,abU,aaM] at a2
    rw[b2,a2]
   ·rw[←GR (fs:=fs) (by rw[hkd];exact hk),hkd]
    exact a3
 ·cases h
def JH (l:List mV):List abW:=l.flatMap fun e=>[e.path,e.frm]
def LQ (l:List iI):List abW:=l.flatMap fun e=>[e.frm,e.to]
def J7 (l:List yX):List fZ:=l.flatMap fun e=>[e.left,e.right]
def Az (p:fZ):Bool:=decide (0<p.parts.length)||p.rest
def JG (l:List DT):List fZ:=l.flatMap fun x=>if Az x.frm then [x.path,x.frm] else [x.path]
def Lj (u:cO):List abW:=[u.client,u.name,u.path,u.text,u.stream.name,u.stream.parent]
def Xx (u:cO):List abW:=(Lj u++JH u.edits)++LQ u.recs
def Xi (u:cO):List fZ:=J7 u.rules++JG u.stream.paths
def Il (s:abW):Bool:=decide (s.size≤1024)
def Gj (p:fZ):Bool:=G7 p&&gQ p
def XM (u:cO):Bool:=decide (u.edits.length≤64)&&decide (u.recs.length≤64)&&decide (u.rules.length≤16)&&decide (u.stream.paths.length≤12)
def H5 (u:cO):Bool:=(Xx u).all Il&&(Xi u).all Gj&&XM u
theorem QU {s:abW}:Il s=true↔lG s:=by simp[Il,lG]
theorem qh {p:fZ}:Gj p=true↔kQ p:=by simp[Gj,kQ]
theorem NT {p:fZ}:Az p=false↔p=jM:=by
 rw[←pM]
 simp only[Az,abm,aaN,Nat.not_lt,Nat.le_zero]
theorem OZ {u:cO}:H5 u=true↔∀f,okF f u:=by
 have h1:(Xx u).all Il=true↔(lG u.client∧lG u.name∧lG u.path∧lG u.text∧lG u.stream.name∧lG u.stream.parent)∧(∀e∈u.edits,lG e.path∧lG e.frm)∧∀e∈u.recs,lG e.frm∧lG e.to:=by
  simp only[Xx,Lj,JH,LQ,abV,List.all_flatMap,aaj,aaC,Z9,aad,aaw,forall_eq_or_imp,forall_eq,QU,and_assoc]
 have h2:(Xi u).all Gj=true↔(∀e∈u.rules,kQ e.left∧kQ e.right)∧∀x∈u.stream.paths,kQ x.path∧GI x.frm:=by
  simp only[Xi,J7,JG,abV,List.all_flatMap,aaj,aaC,Z9,aad,aaw,forall_eq_or_imp,forall_eq,qh]
  refine and_congr Iff.rfl ⟨fun h x hx=>?_,fun h x hx=>?_⟩
  ·have h3:=h x hx
   cases e:Az x.frm with
   |true=>
    rw[e] at h3
    simp only[if_true,Z9,aad,aaw,forall_eq_or_imp,forall_eq,qh] at h3
    exact⟨h3.1, .inr h3.2⟩
   |false=>
    rw[e] at h3
    simp only[aak,if_false,aag,forall_eq,qh] at h3
    exact⟨h3, .inl (NT.1 e)⟩
  ·obtain⟨h3,h4⟩:=h x hx
   cases e:Az x.frm with
   |true=>
    simp only[if_true,Z9,aad,aaw,forall_eq_or_imp,forall_eq,qh]
    refine⟨h3,h4.resolve_left fun h5=>?_⟩
    rw[NT.2 h5] at e;cases e
   |false=>
    simp only[aak,if_false,aag,forall_eq,qh]
    exact h3
 have h3:XM u=true↔u.edits.length≤64∧u.recs.length≤64∧u.rules.length≤16∧u.stream.paths.length≤12:=by
  simp[XM,and_assoc]
 unfold H5
 rw[aaj,aaj,h1,h2,h3]
 constructor
 ·rintro⟨⟨⟨⟨a0,a1,a2,a6,a7,a8⟩,a9,a10⟩,b1,b2⟩,c1,c2,c3,c4⟩ f
  rcases f with _|_|_|_|_|_|_|_|_|_|_|f
  ·exact a0
  ·exact a1
  ·exact a2
  ·exact trivial
  ·exact trivial
  ·exact trivial
  ·exact a6
  ·exact⟨a7,a8,c4,b2⟩
  ·exact⟨c3,b1⟩
  ·exact⟨c1,a9⟩
  ·exact⟨c2,a10⟩
  ·exact trivial
 ·intro h
  obtain⟨s1,s2,s3,s4⟩:=h 7
  exact⟨⟨⟨⟨h 0,h 1,h 2,h 6,s1,s2⟩,(h 9).2,(h 10).2⟩,(h 8).2,s4⟩,(h 9).1,(h 10).1,(h 8).1,s3⟩
theorem Ql {a b:cO}:∀f,eqF f a b→eqF f b a
 |0,h=>Eq.symm h
 |1,h=>Eq.symm h
 |2,h=>Eq.symm h
 |3,h=>Eq.symm h
 |4,h=>Eq.symm h
 |5,h=>Eq.symm h
 |6,h=>Eq.symm h
 |7,h=>Eq.symm h
 |8,h=>Eq.symm h
 |9,h=>Eq.symm h
 |10,h=>Eq.symm h
 |_+11,_=>trivial
theorem SC (d c:cO) (f g:Nat) (h:f≠g):eqF f d (BO g d c):=by
 rcases f with _|_|_|_|_|_|_|_|_|_|_|f<;>rcases g with _|_|_|_|_|_|_|_|_|_|_|g<;>
  first|exact absurd rfl h|exact trivial|rfl
theorem PZ (d c:cO):∀f,eqF f c (BO f d c)
 |0|1|2|3|4|5|6|7|8|9|10=>rfl
 |_+11=>trivial
theorem FN (c:cO) (f:Nat):∀(fs:List Nat) (d:cO),f∉fs→eqF f d (fs.foldl (fun d f=>BO f d c) d)
 |[],d,_=>Ii d f
 |g::fs,d,h=>wX f (SC d c f g fun e=>h (by simp[e])) (FN c f fs _ fun h2=>h (by simp[h2]))
theorem Lc (c:cO) (f:Nat):∀(fs:List Nat) (d:cO),fs.Nodup→f∈fs→eqF f c (fs.foldl (fun d f=>BO f d c) d)
 |g::fs,d,hn,h=>by
  rw[List.foldl_cons]
  rcases Z9.1 h with rfl|h
  ·exact wX _ (PZ d c _) (FN c _ fs _ (List.nodup_cons.1 hn).1)
  ·exact Lc c f fs _ (List.nodup_cons.1 hn).2 h
theorem Hy {c:cO} {fs:List Nat} (hi:aV .i64 c.kind) (hk:nz c.kind=some fs):(∀f,okF f (dG c))↔∀f∈fs,okF f c:=by
 rw[←GR hk]
 constructor
 ·intro h f hf
  exact GH (Ql f (Lc c f fs (kz c.kind) (uz hk) hf)) (h f)
 ·intro h f
  by_cases hf:f∈fs
  ·exact GH (Lc c f fs (kz c.kind) (uz hk) hf) (h f hf)
  ·exact GH (FN c f fs (kz c.kind) hf) ((PX hi).ok f)
theorem Q4 (k:Int):(nz k).isSome=true↔1≤k∧k≤14:=by
 constructor
 ·intro h
  obtain⟨fs,h⟩:=aaq.1 h
  have hm:=mD h
  have:∀e∈BP,1≤e.1∧e.1≤14:=by decide
  exact this _ hm
 ·rintro⟨h1,h2⟩
  obtain rfl|rfl|rfl|rfl|rfl|rfl|rfl|rfl|rfl|rfl|rfl|rfl|rfl|rfl:k=1∨k=2∨k=3∨k=4∨k=5∨k=6∨k=7∨k=8∨k=9∨k=10∨k=11∨k=12∨k=13∨k=14:=by omega
  all_goals rfl
def Dp (c:cO):Bool:=decide (1≤c.kind∧c.kind≤14)&&H5 (dG c)
theorem QJ {c:cO} (hi:aV .i64 c.kind):Dp c=(zl c).isSome:=by
 rw[abk]
 unfold Dp
 rw[aaj,aae,←Q4,OZ]
 constructor
 ·rintro⟨h1,h2⟩
  obtain⟨fs,hk⟩:=aaq.1 h1
  rw[aaq]
  exact⟨_,mW.2 ⟨fs,hk,(Hy hi hk).1 h2,rfl⟩⟩
 ·intro h
  obtain⟨l,h⟩:=aaq.1 h
  obtain⟨fs,hk,ho,_⟩:=mW.1 h
  exact⟨by rw[hk];rfl,(Hy hi hk).2 ho⟩
end
end Go.Proofs.YtpoodoknkbojgaaGreatDoor
