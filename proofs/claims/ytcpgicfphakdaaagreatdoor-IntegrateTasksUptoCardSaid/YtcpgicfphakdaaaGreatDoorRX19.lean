/- A part of the proof. -/
import Derived.Test.YtcpgicfphakdaaaGreatDoorRK18
import Derived.Test.YtcpgicfphakdaaaGreatDoorRX15
import Derived.Test.YtcpgicfphakdaaaGreatDoorRR3
set_option linter.all false
namespace Go.Proofs.YtcpgicfphakdaaaGreatDoor
open Go.Ab Tys
def tgW (tg:Option (Rev×ByteArray)):Rev:=(tg.map (·.1)).getD ai
def tgQ (tg:Option (Rev×ByteArray)):ByteArray:=(tg.map (·.2)).getD noS
theorem aan (tg:Option (Rev×ByteArray)):adf tg= .tup [Cc (tgW tg),pS (tgQ tg),pB tg.isSome]:=by
 cases tg with
 |none=>rfl
 |some x=>rfl
@[reducible] def UC (l:List Fv):AV:= .c (.d (.ps 11 (l.map ik)))
@[reducible] def Lc (l:List Fv):Bool×List C:=(false,[.d (.ps 11 (l.map ik))])
section
variable {d:bK} {m:List dU} {p:ByteArray} {v:Rev} (hv:eQ d p=some v)
include hv
theorem Pg (h:(nP m p).2=false∨v.act=5):oO d m p=[]:=by
 unfold oO;rw[hv];simp only[Option.getD_some];rw[if_pos h]
theorem UQ (h:¬((nP m p).2=false∨v.act=5)):oO d m p=
 match sN d m (line d (first d v)) with
 |none=>if v.act=3∨live d (nP m p).1=true then [] else [brT d p (nP m p).1 v]
 |some (w,q)=>
  if w.act=3 then(if v.act=3∨live d (nP m p).1=true∨yP d (fileOf v) (sN d m (line d (first d v)))=[] then [] else [brT d p (nP m p).1 v])
  else xM (first d v) (yP d (fileOf v) (sN d m (line d (first d v)))) (line d (first d v)) w (RN d m p (nP m p).1 w q) 0:=by
 unfold oO;rw[hv];simp only[Option.getD_some];rw[if_neg h]
 cases sN d m (line d (first d v))<;>rfl
theorem Vb (h:¬((nP m p).2=false∨v.act=5)) (hb:(sN d m (line d (first d v))).isSome=false∨(tgW (sN d m (line d (first d v)))).act=3):
 oO d m p=if v.act=3∨live d (nP m p).1=true∨((sN d m (line d (first d v))).isSome=true∧yP d (fileOf v) (sN d m (line d (first d v)))=[]) then [] else [brT d p (nP m p).1 v]:=by
 rw[UQ hv h]
 cases htg:sN d m (line d (first d v)) with
 |none=>simp
 |some x=>
  obtain⟨w,q⟩:=x
  rw[htg] at hb
  have h3:w.act=3:=by simpa[tgW] using hb
  simp[h3]
theorem Qu (h:¬((nP m p).2=false∨v.act=5)) {w:Rev} {q:ByteArray} (htg:sN d m (line d (first d v))=some (w,q)) (w3:¬w.act=3):
 oO d m p=xM (first d v) (yP d (fileOf v) (some (w,q))) (line d (first d v)) w (RN d m p (nP m p).1 w q) 0:=by
 rw[UQ hv h,htg]
 simp only
 rw[if_neg w3]
end
theorem Dn (f:bP) (rest:List bP) (ln:List Rev) (w:Rev) (mv:ByteArray):∀n i,(IA f rest ln w mv n i).length≤n
 |0,_=>by simp[IA]
 |n+1,i=>by
  rw[IA]
  split
  ·split
   ·have:=Dn f rest ln w mv n (qp rest ln (ln.getD i ai).path i+1);simp only[List.length_cons];omega
   ·have:=Dn f rest ln w mv n (i+1);omega
  ·simp
theorem Ir {d:bK} (hN:d.revs.length≤512) (m:List dU) (p:ByteArray):(oO d m p).length≤512:=by
 have hl:=fun f=>Nat.le_trans (List.length_filter_le (lU d f) d.revs) hN
 unfold oO
 simp only
 split
 ·simp
 ·split
  ·split<;>simp
  ·split
   ·split<;>simp
   ·exact Nat.le_trans (Dn ..) (hl _)
theorem CW {d:bK} (hN:d.revs.length≤512) (m:List dU):∀l:List ByteArray,(l.flatMap (oO d m)).length≤l.length*512
 |[]=>by simp
 |p::l=>by
  have h1:=Ir hN m p
  have h2:=CW hN m l
  simp only[List.flatMap_cons,List.length_append,List.length_cons];omega
theorem Ll {d:bK} (m:List dU) (l:List ByteArray) (p:ByteArray):(l++[p]).flatMap (oO d m)=l.flatMap (oO d m)++oO d m p:=by simp[List.flatMap_append]
theorem Y0 {d:bK} (hN:d.revs.length≤512) (s t:bP):((l7 d s t).getD []).length≤512:=by
 unfold l7
 split
 ·simp only[Option.getD_some,Jl,List.length_map]
  exact Nat.le_trans (List.length_filter_le ..) hN
 ·simp
@[reducible] def brX (f:bP) (p:ByteArray) (fs ls:Int) (t:ByteArray) (h:Int):Fv:=⟨1,f.path,f.num,p,fs,ls,t,h,noS,0,noS⟩
theorem emptyS:ByteArray.empty=noS:=rfl
theorem aeM (l:List Rev) (i:Nat):(List.drop 1 ((l.map ax).getD i [])).getD 0 (D.v (.int .i64 0))=D.v (.int .i64 (l.getD i ai).num):=by
 simp only[List.getD_eq_getElem?_getD,List.getElem?_map]
 cases l[i]?<;>rfl
def Rn (ln:List Rev) (i:Nat):ByteArray:=if 0<i then(ln.getD (i-1) ai).path else noS
def Rw (ln:List Rev) (i:Nat):Int:=if 0<i then(ln.getD (i-1) ai).num else 0
variable [zG]
def z12.kk:=p3 (p13 kB kG kS Tryz.ntmps12 Tryz.underlying27 Tryz.underlying32 Tryz.underlying43 Tryz.underlying74 kZ lL O6 iI mf) (p13 PH QK eH NG Nq NZ Oi NV NM Nl Uz Us jD) (p12 jf jA uO uK rJ aa9 sK aaf ny jO jy Tryz.results12)
set_option maxRecDepth 100000 in
set_option maxHeartbeats 32000000 in
open z12 in
theorem X9 (d:bK) (hg:Good d.revs) (hN:d.revs.length≤512) (hrn:d.recs.length≤512) (hrc:S9 d.recs) (hpt:∀v∈d.revs,v.path.size≤100000) (m:List dU) (hm:m.length≤10000) (hb:∀e∈m,EB1 e):
 AC Tryz.prog 12 [sH d,dZ m] [] (fun r st=>((uN m∧r= .tup [Lc (QR d m),pI 0])∨(¬uN m∧r= .tup [Lc [],pI 151]))∧st=[]):=by
 have hP:=ZQ d hN hpt
 have hPm:∀p∈jm d,p.size≤100000∧∃v,eQ d p=some v:=by
  intro p hp
  obtain⟨v,h1,h2⟩:=Ia hp
  rw[←h2]
  exact⟨hpt v h1,MI h1⟩
 have hPl:=Bj d
 have hF:QR d m=(jm d).flatMap (oO d m):=rfl
 have hck:=Xz m hm hb
 have hfl:=fun l=>CW hN m l
 have hsn:=fun l p=> @Ll d m l p
 generalize jm d=P at hP hPm hPl hF
 generalize QR d m=R at hF
 refine bV Tryz.func12 Tryz.ntmps12 fun x hx=>?_
 try refine nv ?_
 refine qQ [] (hck) ?_
 rintro r st' ⟨⟨ci,ce,rfl,hM⟩,rfl⟩<;>refine qU ?_
 try refine nv ?_
 refine af ?_ ?_
 ·intro hc
  have hc':¬uN m:=by rw[←hM];simpa using hc
  refine aJ ?_
  refine gg ?_
  refine aG (fO (i:=4) 11 rfl) ?_
  refine dM ?_
  try refine nv ?_
  refine rA [] ?_
  refine⟨?_,rfl⟩
  exact .inr ⟨hc',rfl⟩
 intro hc
 have hMO:uN m:=by rw[←hM];simpa using hc
 have hbE:∀e∈m,EB 100000 e:=fun e he=>((hb e he).eb (hMO.ent e he).2).mono (by omega)
 try refine nv ?_
 refine qQ [] (acD d hg hN hrn hrc) ?_
 rintro r st' ⟨⟨A,hA,hD,rfl⟩,rfl⟩<;>refine qU ?_
 (repeat (first|refine nv ?_|refine cf (hP) ?_))
 refine mg (eG (i:=9) (id:=100) (sz:=11) rfl rfl (by omega)) ?_
 refine dM ?_
 refine ag (ι:=Nat) (I:=fun k=>⟨281,[(1,dZ m),(2, .c (.ptr 2 0)),(8, .c (.d (.pm (bJ kF Gf A)))),(9, .c (.ms 100 11 0 ((P.take k).flatMap (oO d m)).length)),(43,dJ P),(44,I .i64 P.length),(45,I .i64 k)],
  [(2, .box ((fD d).map C.d)),(100,aQ 11 (((P.take k).flatMap (oO d m)).map ik))]⟩)
  (Inv:=fun k=>k≤P.length) (μ:=fun k=>P.length-k) 0 (by omega) ?_ ?_
 ·exact aW
 intro k hk
 have hfk:=hfl (P.take k)
 have hfk2:(P.take k).length≤512:=by simp;omega
 try refine nv ?_
 refine af ?_ ?_
 rotate_left
 ·intro hge
  have hk':k=P.length:=by have:¬k<P.length:=by simpa using hge
                          omega
  rw[hk',List.take_length,←hF]
  rw[hk',List.take_length,←hF] at hfk
  refine aJ ?_
  refine gg ?_
  refine aG (aI (i:=4) (id:=100) (ys:=R.map ik) rfl rfl (by simp)) ?_
  refine dM ?_
  try refine nv ?_
  refine rA [] ?_
  refine⟨?_,rfl⟩
  exact .inl ⟨hMO,rfl⟩
 intro hlt
 have hlt':k<P.length:=by simpa using hlt
 obtain⟨p,hp,he,htk⟩:=round encS P k noS hlt'
 obtain⟨hps,v,hv⟩:=hPm p (List.mem_of_getElem? hp)
 have hsn:=hsn (P.take k) p
 rw[←htk] at hsn
 generalize hO1:(P.take (k+1)).flatMap (oO d m)=O1 at hsn
 generalize (P.take k).flatMap (oO d m)=O at hsn hfk
 have hla:=zk d p (by omega)
 rw[hv] at hla
 simp only[Option.getD,Option.isSome] at hla
 have hby:=ZB m (by omega) hbE p (by omega)
 (repeat (first|refine nx @he ?_|refine cf (hla) ?_|refine cf (hby) ?_))
 have hcd:(bif !(nP m p).2 then true else decide (v.act=5))=decide ((nP m p).2=false∨v.act=5):=by
  cases(nP m p).2<;>simp
 refine af ?_ ?_
 ·intro hc
  have hc':(nP m p).2=false∨v.act=5:=by
   cases h:(nP m p).2 with
   |false=>exact .inl rfl
   |true=>rw[h] at hc;exact .inr (by simpa using hc)
  rw[Pg hv hc',List.append_nil] at hsn
  try refine nv ?_
  refine⟨k+1,by omega,by omega,?_⟩
  rw[hO1,hsn]
  exact aW
 intro hc
 have hc':¬((nP m p).2=false∨v.act=5):=by
  rintro(h|h)
  ·rw[h] at hc;simp at hc
  ·simp[h] at hc
 have v5:¬v.act=5:=fun h=>hc' (.inr h)
 obtain⟨vm,vp⟩:=CS hv
 have hL0:=LQ vm v5
 have hLl:(line d (first d v)).length≤512:=Nat.le_trans (List.length_filter_le ..) hN
 have hLm:∀u∈line d (first d v),u∈d.revs:=fun u hu=>(zt.1 hu).1
 have htgt:=VZ d hg hN m (by omega) hbE (line d (first d v)) hL0 hLl (fun u hu=>hpt u (hLm u hu))
 rw[aan] at htgt
 have hbr:=fun h=>Vb hv hc' h
 have hmg:=fun w q h1 h2=>Qu (w:=w) (q:=q) hv hc' h1 h2
 have hfi:=rW d v (by omega)
 have hli:=MG d (first d v) (by omega)
 have hTl:=Ir hN m p
 have hbrT:brT d p (nP m p).1 v=brX (first d v) p (Ld p (line d (first d v)) (line d (first d v)).length v.num) v.num (nP m p).1 (dh d (nP m p).1):=rfl
 have htq:∀w q,sN d m (line d (first d v))=some (w,q)→q.size≤100000:=by
  intro w q h
  obtain⟨u,hu,e⟩:=Ep (Nat.le_refl _) h
  rw[←e];exact hpt u (hLm u hu)
 generalize sN d m (line d (first d v))=tg at htgt hbr hmg htq
 generalize hrest:yP d (fileOf v) tg=rest at hbr
 have hrl:rest.length≤512:=by
  rw[←hrest]
  cases tg with
  |none=>simp[yP]
  |some x=>exact Y0 hN _ _
 generalize oO d m p=TP at hsn hbr hmg hTl
 have hLb:∀u∈line d (first d v),1≤u.num∧u.num≤512:=fun u hu=>by
  obtain⟨j,hj⟩:=List.getElem?_of_mem (hLm u hu)
  have:=hg.num j u hj
  have:=(List.getElem?_eq_some_iff.1 hj).1
  omega
 have hvb:1≤v.num∧v.num≤512:=hLb v (zt.2 ⟨vm,v5,rfl⟩)
 generalize hLd:line d (first d v)=L at*
 generalize hfd:first d v=f at*
 generalize (nP m p).1=t at*
 (repeat (first|refine nv ?_|refine cf (hfi) ?_|refine cf (hli) ?_|refine cf (htgt) ?_))
 have hrm:=fun w=>NJ d hg hN A hA hD (fileOf v) (fileOf w)
 refine mg (fO (i:=21) 2 rfl) ?_
 refine dM ?_
 refine lW ⟨281,[(1,dZ m),(2, .c (.ptr 2 0)),(8, .c (.d (.pm (bJ kF Gf A)))),(9, .c (.ms 100 11 0 O.length)),(11,Str p),(12, .c (.ptr 12 0)),(14,Str t),(16, .c (.ptr 16 0)),(17,ja L),(18, .c (.ptr 18 0)),(19,Str (tgQ tg)),(20,B tg.isSome),(21,Io rest),(43,dJ P),(44,I .i64 P.length),(45,I .i64 k)],
  [(2, .box ((fD d).map C.d)),(12, .box ((ax v).map C.d)),(16, .box ((fJ f).map C.d)),(18, .box ((ax (tgW tg)).map C.d)),(100,aQ 11 (O.map ik))]⟩ ?_ ?_
 ·cases tg with
  |none=>
   have hr0:rest=[]:=by rw[←hrest];rfl
   subst hr0
   simp only[Option.isSome,tgW,tgQ,Option.map_none,Option.getD_none]
   refine af ?_ ?_
   ·intro h;cases h
   intro _
   refine aJ ?_
   refine⟨rfl,?_⟩
   (refine fZ (fun i=>i) rfl ?_ ⟨?_,?_,?_,gu hx (by simp[ae,Ab.get])⟩<;>first|(simp only[kE,aQ, ↓reduceIte,Nat.reduceEqDiff,reduceCtorEq,ai];done)|simp[di,bf,aA,Ab.get,aZ,dH,aN,bY,bG,bH,bD,bI,bC,ae,List.flatten,ai])
  |some x=>
   obtain⟨w,q⟩:=x
   have hr0:rest=(l7 d (fileOf v) (fileOf w)).getD []:=by rw[←hrest];rfl
   simp only[Option.isSome,tgW,tgQ,Option.map_some,Option.getD_some]
   have hrm:=hrm w
   unfold RZ at hrm
   rw[←hr0] at hrm
   generalize (if(l7 d (fileOf v) (fileOf w)).isSome=true then(0:Int) else 150)=re at hrm
   refine af ?_ ?_
   rotate_left
   ·intro h;cases h
   intro _
   refine aJ ?_
   refine dr ([(87,uI (fileOf v)),(89,uI (fileOf w)),(90, .tup [Uf rest,pI re])]) ?_ ?_
   ·exact ob3 (wQ v) (wQ w) @hrm
   refine aJ ?_
   refine⟨rfl,?_⟩
   exact aW
 have hlv:=Md d t (by omega)
 try refine nv ?_
 refine af ?_ ?_
 ·intro hc
  have hbb:tg.isSome=false∨(tgW tg).act=3:=by
   cases h:tg.isSome with
   |false=>exact .inl rfl
   |true=>rw[h] at hc;exact .inr (by simpa using hc)
  have hbr:=hbr hbb
  rw[hbrT] at hbr
  generalize dh d t=hd at hlv hbr
  generalize live d t=lv at hlv hbr
  generalize tg.isSome=fb at hbr
  (repeat (first|refine nv ?_|refine cf (hlv) ?_))
  refine af ?_ ?_
  ·intro hc2
   have hoff:v.act=3∨lv=true∨(fb=true∧rest=[]):=by
    by_cases a:v.act=3
    ·exact .inl a
    ·cases lv with
     |true=>exact .inr (.inl rfl)
     |false=>
      cases fb with
      |false=>simp[a] at hc2
      |true=>simp[a] at hc2;exact .inr (.inr ⟨rfl,by simpa using hc2⟩)
   rw[if_pos hoff] at hbr
   rw[hbr,List.append_nil] at hsn
   try refine nv ?_
   refine⟨k+1,by omega,by omega,?_⟩
   rw[hO1,hsn]
   exact aW
  intro hc2
  have hon:¬(v.act=3∨lv=true∨(fb=true∧rest=[])):=by
   rintro(a|a|⟨a,b⟩)
   ·simp[a] at hc2
   ·simp[a] at hc2
   ·subst a b;simp at hc2
  rw[if_neg hon] at hbr
  try refine nv ?_
  refine ag (ι:=Nat×Int) (I:=fun i=>⟨281,[(1,dZ m),(2, .c (.ptr 2 0)),(8, .c (.d (.pm (bJ kF Gf A)))),(9, .c (.ms 100 11 0 O.length)),(11,Str p),(17,ja L),(24, .c (.ptr 24 0)),(25,I .i64 ((i.1:Int)-1)),(43,dJ P),(44,I .i64 P.length),(45,I .i64 k)],
   [(2, .box ((fD d).map C.d)),(24, .box ((ik (brX f p i.2 v.num t hd)).map C.d)),(100,aQ 11 (O.map ik))]⟩)
   (Inv:=fun i=>i.1≤L.length∧1≤i.2∧i.2≤512∧Ld p L i.1 i.2=Ld p L L.length v.num) (μ:=fun i=>i.1) (L.length,v.num) ⟨Nat.le_refl _,hvb.1,hvb.2,rfl⟩ ?_ ?_
  ·exact tK @emptyS
  rintro⟨j,fs⟩ ⟨g1,g2,g3,g4⟩
  simp only at g1 g2 g3 g4⊢
  have hfin:Ld p L j fs=fs→Ld p L L.length v.num=fs:=fun h=>by rw[←g4,h]
  have hend:Ld p L L.length v.num=fs→TP=[brX f p fs v.num t hd]:=fun h=>by rw[hbr,h]
  cases j with
  |zero=>
   have hz:=hend (hfin rfl)
   subst hz
   refine aJ ?_
   refine dx ([]) (p2 (JG L) (aeM L)) ?_ ?_
   ·exact rC
   refine aJ ?_
   refine af ?_ ?_
   ·intro h;simp at h
   intro _
   refine aJ ?_
   refine gq ?_ ?_
   ·exact rC
   try refine nv ?_
   refine⟨k+1,by omega,by omega,?_⟩
   rw[hO1,hsn]
   exact uY (fun i=>if i=100 then 165 else i)
  |succ j=>
   have ej:(((j+1:Nat)):Int)-1=(j:Int):=by omega
   simp only[ej]
   obtain⟨u,hu,hue,_⟩:=round ax L j ai (by omega)
   have hub:=hLb u (List.mem_of_getElem? hu)
   have hst:Ld p L (j+1) fs=if u.path=p∧fs-1≤u.num then Ld p L j u.num else fs:=by rw[Ld,gK hu]
   refine aJ ?_
   refine dx ([]) @hue ?_ ?_
   ·exact rC
   refine aJ ?_
   refine af ?_ ?_
   ·intro h
    have h':u.path=p∧fs-1≤u.num:=by
     by_cases a:u.path=p
     ·exact⟨a,by simpa[a] using h⟩
     ·simp[a] at h
    rw[if_pos h'] at hst
    try refine nx @hue ?_
    refine⟨(j,u.num),⟨by simp;omega,hub.1,hub.2,by rw[←g4,hst]⟩,by simp,?_⟩
    exact aW
   intro h
   have h':¬(u.path=p∧fs-1≤u.num):=by
    rintro⟨a,b⟩
    simp[a,b] at h
   rw[if_neg h'] at hst
   have hz:=hend (hfin hst)
   subst hz
   refine aJ ?_
   refine gq ?_ ?_
   ·exact rC
   try refine nv ?_
   refine⟨k+1,by omega,by omega,?_⟩
   rw[hO1,hsn]
   exact uY (fun i=>if i=100 then 165 else i)
 intro hc
 obtain⟨w,q,rfl,w3⟩:∃w q,tg=some (w,q)∧¬w.act=3:=by
  cases tg with
  |none=>simp at hc
  |some x=>exact⟨x.1,x.2,rfl,of_decide_eq_false hc⟩
 have hmg:=hmg w q rfl w3
 rw[hrest] at hmg
 have hq:=htq w q rfl
 clear hbr hrm htgt hrest
 simp only[tgW,tgQ,Option.map_some,Option.getD_some]
 have hbyq:=ZB m (by omega) hbE q (by omega)
 have hmd:RN d m p t w q=if ¬q=p∧(nP m q).1=w.path∧¬t=w.path∧live d t=false then t else noS:=rfl
 generalize RN d m p t w q=mv at hmd hmg
 generalize (nP m q).1=t2 at hbyq hmd
 generalize (nP m q).2=b2 at hbyq
 generalize dh d t=hd at hlv
 generalize live d t=lv at hlv hmd
 (repeat (first|refine nv ?_|refine cf (hbyq) ?_))
 refine lW ⟨281,[(1,dZ m),(2, .c (.ptr 2 0)),(8, .c (.d (.pm (bJ kF Gf A)))),(9, .c (.ms 100 11 0 O.length)),(16, .c (.ptr 16 0)),(17,ja L),(18, .c (.ptr 18 0)),(21,Io rest),(26,Str mv),(43,dJ P),(44,I .i64 P.length),(45,I .i64 k)],
  [(2, .box ((fD d).map C.d)),(16, .box ((fJ f).map C.d)),(18, .box ((ax w).map C.d)),(100,aQ 11 (O.map ik))]⟩ ?_ ?_
 ·refine af ?_ ?_
  ·intro h
   have h':¬q=p∧t2=w.path∧¬t=w.path:=by
    by_cases a:q=p<;>by_cases b:t2=w.path<;>by_cases c:t=w.path<;>simp_all
   (repeat (first|refine nv ?_|refine cf (hlv) ?_))
   refine af ?_ ?_
   ·intro h2
    have h2':lv=false:=by simpa using h2
    have hmv:mv=t:=by rw[hmd,if_pos ⟨h'.1,h'.2.1,h'.2.2,h2'⟩]
    subst hmv
    refine aJ ?_
    refine gg ?_
    refine aJ ?_
    refine⟨rfl,?_⟩
    exact aW
   ·intro h2
    have h2':lv=true:=by simpa using h2
    have hmv:mv=noS:=by rw[hmd,if_neg (by rw[h2'];simp)]
    subst hmv
    refine aJ ?_
    refine⟨rfl,?_⟩
    exact aW
  ·intro h
   have h':¬(¬q=p∧t2=w.path∧¬t=w.path∧lv=false):=by
    rintro⟨a,b,c,_⟩
    simp_all
   have hmv:mv=noS:=by rw[hmd,if_neg h']
   subst hmv
   refine aJ ?_
   refine⟨rfl,?_⟩
   exact aW
 have hin:=fun u=>acL rest (by omega) u
 have hskip:=fun i=> @JF f rest L w mv i
 have hrun:=fun i=> @OB f rest L w mv i
 have hstop:=fun i=> @Qj f rest L w mv i
 try refine nv ?_
 refine ag (ι:=Nat×List Fv) (I:=fun i=>⟨281,[(1,dZ m),(2, .c (.ptr 2 0)),(8, .c (.d (.pm (bJ kF Gf A)))),(9, .c (.ms 100 11 0 i.2.length)),(16, .c (.ptr 16 0)),(17,ja L),(18, .c (.ptr 18 0)),(21,Io rest),(26,Str mv),(31,I .i64 i.1),(43,dJ P),(44,I .i64 P.length),(45,I .i64 k)],
  [(2, .box ((fD d).map C.d)),(16, .box ((fJ f).map C.d)),(18, .box ((ax w).map C.d)),(100,aQ 11 (i.2.map ik))]⟩)
  (Inv:=fun i=>i.1≤L.length∧i.2++xM f rest L w mv i.1=O1) (μ:=fun i=>L.length-i.1) (0,O) ⟨by simp,by rw[hsn,hmg]⟩ ?_ ?_
 ·exact aW
 rintro⟨i,Q⟩ ⟨q1,q2⟩
 simp only at q1 q2⊢
 have hQl:Q.length≤1000000:=by
  have h1:Q.length≤O1.length:=by rw[←q2];simp
  have h2:O1.length≤O.length+512:=by rw[hsn];simp;omega
  omega
 try refine nv ?_
 refine af ?_ ?_
 rotate_left
 ·intro hge
  have hi:i=L.length:=by have:¬i<L.length:=by simpa using hge
                         omega
  rw[hi,hstop L.length (Nat.le_refl _),List.append_nil] at q2
  try refine nv ?_
  refine⟨k+1,by omega,by omega,?_⟩
  rw[hO1,←q2]
  exact aW
 intro hlt2
 have hi:i<L.length:=by simpa using hlt2
 obtain⟨u,hu,hue,_⟩:=round ax L i ai hi
 have hgu:L.getD i ai=u:=gK hu
 have hinu:=hin u
 have hskip:=hskip i hi
 have hrun:=hrun i hi
 rw[hgu] at hskip hrun
 generalize hib:decide (fileOf u∈rest)=ib at hinu
 (repeat (first|refine nx @hue ?_|refine cf (hinu) ?_))
 refine af ?_ ?_
 ·intro h
  have h':ib=false:=by simpa using h
  rw[hskip (by rw[h'] at hib;simpa using hib)] at q2
  try refine nv ?_
  refine⟨(i+1,Q),⟨by simp;omega,q2⟩,by simp;omega,?_⟩
  exact aW
 intro h
 have h':ib=true:=by simpa using h
 have hrun:=hrun (by rw[h'] at hib;simpa using hib)
 rw[hrun] at q2
 have hbs:∀j,runT f L w mv i j=⟨if(L.getD j ai).act=3 then 3 else 2,f.path,f.num,u.path,u.num,(L.getD j ai).num,w.path,w.num,Rn L i,Rw L i,mv⟩:=fun j=>by
  unfold runT Rn Rw;rw[hgu]
 refine aJ ?_
 refine dx ([]) @hue ?_ ?_
 ·exact rC
 try refine nv ?_
 refine lW ⟨281,[(1,dZ m),(2, .c (.ptr 2 0)),(8, .c (.d (.pm (bJ kF Gf A)))),(9, .c (.ms 100 11 0 Q.length)),(16, .c (.ptr 16 0)),(17,ja L),(18, .c (.ptr 18 0)),(21,Io rest),(26,Str mv),(31,I .i64 i),(32, .c (.ptr 32 0)),(43,dJ P),(44,I .i64 P.length),(45,I .i64 k)],
  [(2, .box ((fD d).map C.d)),(16, .box ((fJ f).map C.d)),(18, .box ((ax w).map C.d)),(32, .box ((ik ⟨2,f.path,f.num,u.path,u.num,0,w.path,w.num,Rn L i,Rw L i,mv⟩).map C.d)),(100,aQ 11 (Q.map ik))]⟩ ?_ ?_
 ·refine af ?_ ?_
  ·intro h0
   have h0':0<i:=by simpa using h0
   obtain⟨y,hy,hye,_⟩:=round ax L (i-1) ai (by omega)
   have hy1:(((i:Nat):Int)-1).toNat=i-1:=by omega
   have hbp:Rn L i=y.path:=by rw[Rn,if_pos h0',gK hy]
   have hbn:Rw L i=y.num:=by rw[Rw,if_pos h0',gK hy]
   (repeat (first|refine nx (p2 @hy1 @hye) ?_|refine cf (wQ y) ?_))
   refine⟨rfl,?_⟩
   (refine fZ (fun i=>i) rfl ?_ ⟨?_,?_,?_,gu hx (by simp[ae,Ab.get])⟩<;>first|(simp only[kE,aQ, ↓reduceIte,Nat.reduceEqDiff,reduceCtorEq,hbp,hbn,fileOf];done)|simp[di,bf,aA,Ab.get,aZ,dH,aN,bY,bG,bH,bD,bI,bC,ae,List.flatten,hbp,hbn,fileOf])
  ·intro h0
   have h0':¬0<i:=by simpa using h0
   have hbp:Rn L i=noS:=by rw[Rn,if_neg h0']
   have hbn:Rw L i=0:=by rw[Rw,if_neg h0']
   refine aJ ?_
   refine⟨rfl,?_⟩
   exact tK (p3 @hbp @hbn @emptyS)
 generalize Rn L i=bp at hbs
 generalize Rw L i=bn at hbs
 refine aJ ?_
 refine ag (ι:=Nat) (I:=fun j=>⟨281,[(1,dZ m),(2, .c (.ptr 2 0)),(8, .c (.d (.pm (bJ kF Gf A)))),(9, .c (.ms 100 11 0 Q.length)),(16, .c (.ptr 16 0)),(17,ja L),(18, .c (.ptr 18 0)),(21,Io rest),(26,Str mv),(31,I .i64 j),(32, .c (.ptr 32 0)),(43,dJ P),(44,I .i64 P.length),(45,I .i64 k)],
  [(2, .box ((fD d).map C.d)),(16, .box ((fJ f).map C.d)),(18, .box ((ax w).map C.d)),(32, .box ((ik ⟨2,f.path,f.num,u.path,u.num,0,w.path,w.num,bp,bn,mv⟩).map C.d)),(100,aQ 11 (Q.map ik))]⟩)
  (Inv:=fun j=>i≤j∧j<L.length∧qp rest L u.path j=qp rest L u.path i) (μ:=fun j=>L.length-j) i ⟨Nat.le_refl _,hi,rfl⟩ ?_ ?_
 ·exact aW
 rintro j ⟨j1,j2,j3⟩
 have ej1:(((j:Nat):Int)+1).toNat=j+1:=by omega
 have hdone:qp rest L u.path j=j→qp rest L u.path i=j:=fun h=>by rw[←j3,h]
 obtain⟨x,hx,hxe,_⟩:=round ax L j ai j2
 have hgx:L.getD j ai=x:=gK hx
 have hfinal:qp rest L u.path i=j→Q++(⟨if x.act=3 then 3 else 2,f.path,f.num,u.path,u.num,x.num,w.path,w.num,bp,bn,mv⟩:Fv)::xM f rest L w mv (j+1)=O1:=fun h=>by
  rw[h,hbs,hgx] at q2;exact q2
 by_cases hn:j+1<L.length
 ·obtain⟨y,hy,hye,_⟩:=round ax L (j+1) ai hn
  have hnI:decide (((j:Nat):Int)+1<((L.length:Nat):Int))=true:=decide_eq_true (by omega)
  have hny:=hin y
  generalize hyb:decide (fileOf y∈rest)=yb at hny
  refine aJ ?_
  refine dx ([(247,B yb)]) (p3 @ej1 @hye @hnI) ?_ ?_
  ·exact gI @hny
  refine aJ ?_
  refine af ?_ ?_
  ·intro hc
   have hc':yb=true∧y.path=u.path:=by
    cases yb with
    |false=>simp at hc
    |true=>exact⟨rfl,by simpa using hc⟩
   have hc2:j+1<L.length∧fileOf (L.getD (j+1) ai)∈rest∧(L.getD (j+1) ai).path=u.path:=by
    rw[gK hy];exact⟨hn,by rw[hc'.1] at hyb;simpa using hyb,hc'.2⟩
   try refine nv ?_
   refine⟨j+1,⟨by omega,hn,by rw[←j3];exact(KZ hc2).symm⟩,by omega,?_⟩
   exact aW
  intro hc
  have hc2:¬(j+1<L.length∧fileOf (L.getD (j+1) ai)∈rest∧(L.getD (j+1) ai).path=u.path):=by
   rintro⟨_,a,b⟩
   rw[gK hy] at a b
   have:yb=true:=by rw[←hyb];simpa using a
   subst this
   simp[b] at hc
  have hz:=hfinal (hdone (DT hc2))
  try refine nx @hxe ?_
  refine af ?_ ?_
  ·intro h3
   have h3':x.act=3:=by simpa using h3
   rw[if_pos h3'] at hz
   try refine nv ?_
   refine⟨(j+1,Q++[⟨3,f.path,f.num,u.path,u.num,x.num,w.path,w.num,bp,bn,mv⟩]),⟨by simp;omega,by rw[←hz,List.append_assoc];rfl⟩,by simp;omega,?_⟩
   exact uY (fun i=>if i=100 then 278 else i)
  ·intro h3
   have h3':¬x.act=3:=by simpa using h3
   rw[if_neg h3'] at hz
   try refine nv ?_
   refine⟨(j+1,Q++[⟨2,f.path,f.num,u.path,u.num,x.num,w.path,w.num,bp,bn,mv⟩]),⟨by simp;omega,by rw[←hz,List.append_assoc];rfl⟩,by simp;omega,?_⟩
   exact uY (fun i=>if i=100 then 278 else i)
 ·have hnI:decide (((j:Nat):Int)+1<((L.length:Nat):Int))=false:=decide_eq_false (by omega)
  refine aJ ?_
  refine dx ([(247,B false)]) (p2 (JG L) @hnI) ?_ ?_
  ·exact rC
  refine aJ ?_
  refine af ?_ ?_
  ·intro h;simp at h
  intro _
  have hz:=hfinal (hdone (DT (fun h=>hn h.1)))
  try refine nx @hxe ?_
  refine af ?_ ?_
  ·intro h3
   have h3':x.act=3:=by simpa using h3
   rw[if_pos h3'] at hz
   try refine nv ?_
   refine⟨(j+1,Q++[⟨3,f.path,f.num,u.path,u.num,x.num,w.path,w.num,bp,bn,mv⟩]),⟨by simp;omega,by rw[←hz,List.append_assoc];rfl⟩,by simp;omega,?_⟩
   exact uY (fun i=>if i=100 then 278 else i)
  ·intro h3
   have h3':¬x.act=3:=by simpa using h3
   rw[if_neg h3'] at hz
   try refine nv ?_
   refine⟨(j+1,Q++[⟨2,f.path,f.num,u.path,u.num,x.num,w.path,w.num,bp,bn,mv⟩]),⟨by simp;omega,by rw[←hz,List.append_assoc];rfl⟩,by simp;omega,?_⟩
   exact uY (fun i=>if i=100 then 278 else i)
end Go.Proofs.YtcpgicfphakdaaaGreatDoor
