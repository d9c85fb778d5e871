/- A part of the proof. -/
import Derived.Test.YtcpgicfphakdaaaGreatDoorRX10
import Derived.Test.YtcpgicfphakdaaaGreatDoorRR1
set_option maxRecDepth 100000
set_option maxHeartbeats 16000000
set_option linter.all false
namespace Go.Proofs.YtcpgicfphakdaaaGreatDoor
open Go.Ab Tys
variable [Dr]
def aeT.kk:=p6 kB kS Tryz.ntmps270 Tryz.underlying9 jy Tryz.results270
open aeT in
theorem WJ (s t:ByteArray) (hs:s.size≤1000000) (ht:t.size≤1000000):AC Tryz.prog 270 [Str s,Str t] [] (fun r st=>r=Str (trimS s t)∧st=[]):=by
 refine bV Tryz.func270 Tryz.ntmps270 fun x hx=>?_
 (repeat (first|refine nv ?_|refine cf (yB s t hs ht) ?_))
 refine af ?_ ?_
 ·intro h
  have h':dV s t=true:=by simpa using h
  have hl:=uQ h'
  have e:((s.size:Int)-t.size).toNat=s.size-t.size:=by omega
  try refine nx @e ?_
  refine rA [] ?_
  refine⟨?_,rfl⟩
  simp only[trimS,h',if_true]
 ·intro h
  have h':dV s t=false:=by simpa using h
  try refine nv ?_
  refine rA [] ?_
  refine⟨?_,rfl⟩
  simp only[trimS,h',if_false,Bool.false_eq_true]
def ad8.kk:=p3 kB Tryz.ntmps254 Tryz.results254
open ad8 in
theorem abu (s t:ByteArray) (hs:s.size≤1000000) (ht:t.size≤1000000):AC Tryz.prog 254 [Str s,Str t] [] (fun r st=>r=Str (trimS s t)∧st=[]):=by
 refine bV Tryz.func254 Tryz.ntmps254 fun x hx=>?_
 (repeat (first|refine nv ?_|refine cf (WJ s t hs ht) ?_))
 refine rA [] ?_
 refine⟨?_,rfl⟩
 rfl
theorem abv (s:ByteArray):decide (xG s=0)=!dE s:=by
 unfold xG dE
 cases comp s<;>cases aP s<;>rfl
def aed.kk:=p13 kB kG Tryz.ntmps255 Tryz.underlying74 Hf eH yw yl Qn yR jO jy Tryz.results255
open aed in
theorem MF (b:aX) (rest:Bool) (hb:PB 1000000 b):AC Tryz.prog 255 [aPat b,B rest] [] (fun r st=>r=B (DZ b rest)∧st=[]):=by
 have hR:DZ b rest=(!((!rest&&(!decide (b.parts.length=1)||b.rest))||(decide (b.parts.length=0)&&!b.rest))&&b.parts.all dE):=rfl
 generalize DZ b rest=R at hR
 have hb1:=hb.1
 have hb2:=hb.2
 obtain⟨ps,rp⟩:=b
 simp only at hR hb1 hb2
 refine bV Tryz.func255 Tryz.ntmps255 fun x hx=>?_
 try refine nv ?_
 refine af ?_ ?_
 ·intro h
  have h':((!rest&&(!decide (ps.length=1)||rp))||(decide (ps.length=0)&&!rp))=true:=by
   have e1:decide ((ps.length:Int)=1)=decide (ps.length=1):=decide_eq_decide.2 (by omega)
   have e2:decide ((ps.length:Int)=0)=decide (ps.length=0):=decide_eq_decide.2 (by omega)
   rw[e1,e2] at h
   revert h
   cases rest<;>cases rp<;>cases decide (ps.length=1)<;>cases decide (ps.length=0)<;>simp
  rw[h'] at hR
  try refine nv ?_
  refine rA [] ?_
  refine⟨?_,rfl⟩
  rw[hR];rfl
 intro h
 have h':((!rest&&(!decide (ps.length=1)||rp))||(decide (ps.length=0)&&!rp))=false:=by
  have e1:decide ((ps.length:Int)=1)=decide (ps.length=1):=decide_eq_decide.2 (by omega)
  have e2:decide ((ps.length:Int)=0)=decide (ps.length=0):=decide_eq_decide.2 (by omega)
  rw[e1,e2] at h
  revert h
  cases rest<;>cases rp<;>cases decide (ps.length=1)<;>cases decide (ps.length=0)<;>simp
 rw[h',Bool.not_false,Bool.true_and] at hR
 try refine nv ?_
 refine ag (ι:=Nat) (I:=fun k=>⟨41,[(31,dJ ps),(32,I .i64 ps.length),(33,I .i64 k)],[]⟩)
  (Inv:=fun k=>k≤ps.length∧(ps.take k).all dE=true) (μ:=fun k=>ps.length-k) 0 ⟨by omega,rfl⟩ ?_ ?_
 ·exact aW
 rintro k ⟨hk,hall⟩
 try refine nv ?_
 refine af ?_ ?_
 ·intro hlt
  have hlt':k<ps.length:=by simpa using hlt
  obtain⟨u,hu,he,htk⟩:=round encS ps k noS hlt'
  have hum:=List.mem_of_getElem? hu
  have hf:=Jz u (hb2 u hum)
  have h0:=abv u
  generalize xG u=fm at hf h0
  (repeat (first|refine nx @he ?_|refine cf (hf) ?_))
  refine af ?_ ?_
  ·intro hc
   rw[hc] at h0
   have hR2:R=false:=by
    rw[hR,Bool.eq_false_iff]
    intro e
    rw[List.all_eq_true.1 e u hum] at h0;cases h0
   try refine nv ?_
   refine rA [] ?_
   refine⟨?_,rfl⟩
   rw[hR2]
  ·intro hc
   rw[hc] at h0
   try refine nv ?_
   refine⟨k+1,⟨by omega,?_⟩,by omega,?_⟩
   ·rw[htk,List.all_append,hall]
    simp only[List.all_cons,List.all_nil,Bool.and_true,Bool.true_and]
    cases hp:dE u
    ·rw[hp] at h0;cases h0
    ·rfl
   ·exact aW
 intro hge
 have hk':k=ps.length:=by have:¬k<ps.length:=by simpa using hge
                          omega
 rw[hk',List.take_length] at hall
 try refine nv ?_
 refine rA [] ?_
 refine⟨?_,rfl⟩
 rw[hR,hall]
end Go.Proofs.YtcpgicfphakdaaaGreatDoor
namespace Go.Proofs.YtcpgicfphakdaaaGreatDoor
open Go.Ab Tys
theorem VY {d:bK} {m:List dU} {ln:List Rev} {k:Nat} (h:k+1<ln.length) (he:(ln.getD (k+1) ai).path=(ln.getD k ai).path):qM d m ln (k+1)=qM d m ln k:=by
 rw[qM,if_pos ⟨h,he⟩]
theorem Xg {d:bK} {m:List dU} {ln:List Rev} {k:Nat} (h:¬(k+1<ln.length∧(ln.getD (k+1) ai).path=(ln.getD k ai).path)) (ht:yA d m (fileOf (ln.getD 0 ai)) (ln.getD k ai).path=none):qM d m ln (k+1)=qM d m ln k:=by
 rw[qM,if_neg h,ht]
theorem Tq {d:bK} {m:List dU} {ln:List Rev} {k:Nat} {w:Rev} (h:¬(k+1<ln.length∧(ln.getD (k+1) ai).path=(ln.getD k ai).path)) (ht:yA d m (fileOf (ln.getD 0 ai)) (ln.getD k ai).path=some w):qM d m ln (k+1)=some (w,(ln.getD k ai).path):=by
 rw[qM,if_neg h,ht]
theorem gK {α:Type} {l:List α} {k:Nat} {v z:α} (h:l[k]? =some v):l.getD k z=v:=by rw[List.getD_eq_getElem?_getD,h];rfl
theorem aaW {x w:Rev} (h1:x.path=w.path) (h2:x.num=w.num) (h3:x.chg=w.chg) (h4:x.act=w.act) (h5:x.base=w.base) (h6:x.kw=w.kw) (h7:x.ex=w.ex) (h8:x.xe=w.xe) (h9:x.sum=w.sum) (h10:x.size=w.size) (h11:x.frm=w.frm) (h12:x.fnum=w.fnum):x=w:=by
 cases x;cases w;simp_all
theorem JG (l:List Rev) (i:Nat):((l.map ax).getD i []).getD 0 (D.v (.string ByteArray.empty))=D.v (.string (l.getD i ai).path):=by
 simp only[List.getD_eq_getElem?_getD,List.getElem?_map]
 cases l[i]?<;>rfl
variable [zG]
def z35.kk:=p2 (p11 kB kG kS Tryz.ntmps35 Tryz.underlying27 kZ lL iI mf U7 adt) (p10 jD jf jA uO uK rJ sK ny jy Tryz.results35)
open z35 in
theorem VZ (d:bK) (hg:Good d.revs) (hN:d.revs.length≤512) (m:List dU) (hm:m.length≤1000000) (hb:∀e∈m,EB 100000 e) (ln:List Rev) (h0:0<ln.length) (hl:ln.length≤512) (hpt:∀v∈ln,v.path.size≤100000):
 AC Tryz.prog 35 [sH d,dZ m,ja ln] [] (fun r st=>r=adf (sN d m ln)∧st=[]):=by
 obtain⟨v0,hv0,he0,_⟩:=round ax ln 0 ai h0
 have hg0:ln.getD 0 ai=v0:=gK hv0
 have hfile:=wQ v0
 have hself:fileOf (ln.getD 0 ai)=fileOf v0:=by rw[hg0]
 have hskip:=fun k=> @VY d m ln k
 have hnone:=fun k=> @Xg d m ln k
 have hfound:=fun k w=> @Tq d m ln k w
 rw[hself] at hnone hfound
 have hF:sN d m ln=qM d m ln ln.length:=rfl
 generalize sN d m ln=R at hF
 generalize hsf:fileOf v0=self at hfile hnone hfound
 refine bV Tryz.func35 Tryz.ntmps35 fun x hx=>?_
 have e00:Int.toNat 0=0:=rfl
 (repeat (first|refine nx (p2 @e00 @he0) ?_|refine cf (hfile) ?_))
 refine ag (ι:=Nat) (I:=fun k=>⟨112,[(1,dZ m),(2,ja ln),(3, .c (.ptr 3 0)),(6, .c (.ptr 6 0)),(9, .c (.ptr 9 0)),(10,I .i64 ((k:Int)-1))],[(3, .box ((fD d).map C.d)),(6, .box ((ax ai).map C.d)),(9, .box ((fJ self).map C.d))]⟩)
  (Inv:=fun k=>k≤ln.length∧R=qM d m ln k) (μ:=fun k=>k) ln.length ⟨Nat.le_refl _,hF⟩ ?_ ?_
 ·(refine fZ (fun i=>i) rfl ?_ ⟨?_,?_,?_,gu hx (by simp[ae,Ab.get])⟩<;>first|(simp only[kE,aQ, ↓reduceIte,Nat.reduceEqDiff,reduceCtorEq,ai];done)|simp[di,bf,aA,Ab.get,aZ,dH,aN,bY,bG,bH,bD,bI,bC,ae,List.flatten,ai])
 rintro k ⟨hk,hK⟩
 try refine nv ?_
 refine af ?_ ?_
 ·intro hge
  obtain⟨j,rfl⟩:∃j,k=j+1:=by
   cases k with
   |zero=>simp at hge
   |succ j=>exact⟨j,rfl⟩
  have hj:j<ln.length:=by omega
  have ej:(((j+1:Nat)):Int)-1=(j:Int):=by omega
  simp only[ej]
  obtain⟨v,hv,he,_⟩:=round ax ln j ai hj
  have hgv:ln.getD j ai=v:=gK hv
  have hpv:=hpt v (List.mem_of_getElem? hv)
  have hnone:=hnone j
  have hfound:=hfound j
  have hskip:=hskip j
  rw[hgv] at hnone hfound hskip
  have e1:(((j:Nat):Int)+1).toNat=j+1:=by omega
  try refine nx (p3 @he @e1 (JG ln)) ?_
  refine af ?_ ?_
  ·intro hc
   have hc':j+1<ln.length∧(ln.getD (j+1) ai).path=v.path:=by
    by_cases hn:j+1<ln.length
    ·have:((j:Nat):Int)+1<((ln.length:Nat):Int):=by omega
     exact⟨hn,by simpa[this] using hc⟩
    ·have:¬((j:Nat):Int)+1<((ln.length:Nat):Int):=by omega
     simp[this] at hc
   try refine nv ?_
   refine⟨j,⟨by omega,by rw[hK,hskip hc'.1 hc'.2]⟩,by omega,?_⟩
   exact aW
  intro hc
  have hc':¬(j+1<ln.length∧(ln.getD (j+1) ai).path=v.path):=by
   rintro⟨hn,hp⟩
   have:((j:Nat):Int)+1<((ln.length:Nat):Int):=by omega
   rw[hp] at hc
   simp[this] at hc
  have hnone:=hnone hc'
  have hfound:=fun w=>hfound w hc'
  have hby:=ZB m hm hb v.path (by omega)
  have htd:yA d m self v.path=if(nP m v.path).2=true then(match Om d (nP m v.path).1 with
   |none=>none
   |some u=>if ¬first d u=self∧(eQ d (iZ d u).path).getD ai=iZ d u then some (iZ d u) else none) else none:=rfl
  generalize (nP m v.path).1=t at hby htd
  generalize (nP m v.path).2=b at hby htd
  (repeat (first|refine nv ?_|refine cf (hby) ?_))
  refine af ?_ ?_
  ·intro hb0
   have hb':b=false:=by simpa using hb0
   rw[hb'] at htd
   try refine nv ?_
   refine⟨j,⟨by omega,by rw[hK,hnone htd]⟩,by omega,?_⟩
   exact aW
  intro hb0
  have hb':b=true:=by simpa using hb0
  rw[hb',if_pos rfl] at htd
  have hla:=zk d t (by omega)
  (repeat (first|refine nv ?_|refine cf (hla) ?_))
  refine mJ (ι:=Option Rev) (fun o=>⟨112,[(1,dZ m),(2,ja ln),(3, .c (.ptr 3 0)),(6, .c (.ptr 6 0)),(9, .c (.ptr 9 0)),(10,I .i64 (j:Int)),(11,Str v.path),(13,B o.isSome),(14, .c (.ptr 14 0))],
   [(3, .box ((fD d).map C.d)),(6, .box ((ax ai).map C.d)),(9, .box ((fJ self).map C.d)),(14, .box ((ax (o.getD ai)).map C.d))]⟩) (fun o=>o=Om d t) ?_ ?_
  ·unfold Om
   cases hlt2:eQ d t with
   |none=>
    simp only[Option.isSome_some,Option.getD_some,Option.isSome_none,Option.getD_none]
    refine af ?_ ?_
    ·intro h;simp at h
    intro _
    refine aJ ?_
    refine⟨rfl,none,rfl,?_⟩
    (refine fZ (fun i=>i) rfl ?_ ⟨?_,?_,?_,gu hx (by simp[ae,Ab.get])⟩<;>first|(simp only[kE,aQ, ↓reduceIte,Nat.reduceEqDiff,reduceCtorEq,ai];done)|simp[di,bf,aA,Ab.get,aZ,dH,aN,bY,bG,bH,bD,bI,bC,ae,List.flatten,ai])
   |some u=>
    simp only[Option.isSome_some,Option.getD_some,Option.isSome_none,Option.getD_none]
    refine af ?_ ?_
    ·intro h5
     have h5':u.act=5:=by simpa using h5
     have hub:1≤u.num∧u.num≤512:=by
      obtain⟨i,hi⟩:=List.getElem?_of_mem (CS hlt2).1
      have:=hg.num i u hi
      have:=(List.getElem?_eq_some_iff.1 hi).1
      omega
     (repeat (first|refine nv ?_|refine cf (uF d t (u.num-1) (by omega)) ?_))
     refine⟨rfl,oQ d t (u.num-1),by rw[if_pos h5'],?_⟩
     exact aW
    ·intro h5
     have h5':¬u.act=5:=by simpa using h5
     refine aJ ?_
     refine⟨rfl,some u,by rw[if_neg h5'],?_⟩
     exact aW
  rintro o ho
  try refine nv ?_
  refine af ?_ ?_
  ·intro h
   have h':o=none:=by cases o with
    |none=>rfl
    |some _=>simp at h
   rw[←ho,h'] at htd
   try refine nv ?_
   refine⟨j,⟨by omega,by rw[hK,hnone htd]⟩,by omega,?_⟩
   exact aW
  intro h
  obtain⟨u,rfl⟩:∃u,o=some u:=by cases o with
   |none=>simp at h
   |some u=>exact⟨u,rfl⟩
  obtain⟨u1,u2⟩:=NS hg ho.symm
  rw[←ho] at htd
  simp only[Option.getD_some,Option.isSome_some] at htd⊢
  have hlm:=LQ u1 u2
  have hfi:=rW d u (by omega)
  have hli:=MG d (first d u) (by omega)
  have hlw:iZ d u=(line d (first d u)).getD ((line d (first d u)).length-1) ai:=rfl
  have hle:(line d (first d u)).length≤512:=Nat.le_trans (List.length_filter_le ..) hN
  have hel:=bi ax (line d (first d u)) ((line d (first d u)).length-1) ai (by omega)
  rw[←hlw] at hel
  have hla2:=zk d (iZ d u).path (by omega)
  generalize (eQ d (iZ d u).path).isSome=b2 at hla2
  generalize (eQ d (iZ d u).path).getD ai=x at hla2 htd
  generalize iZ d u=w at hel hla2 htd
  generalize line d (first d u)=L at hlm hli hle hel
  generalize first d u=f at hfi hli htd
  have hi:(((L.length:Nat):Int)-1).toNat=L.length-1:=by omega
  (repeat (first|refine nx (p2 @hi @hel) ?_|refine cf (hfi) ?_|refine cf (hli) ?_|refine cf (hla2) ?_))
  refine af ?_ ?_
  ·intro hc
   have hc':¬f=self∧x=w:=by
    cases hcc:!(decide (f.path=self.path)&&decide (f.num=self.num)) with
    |false=>rw[hcc] at hc;cases hc
    |true=>
     rw[hcc] at hc
     simp only[cond_true,Bool.and_eq_true,decide_eq_true_eq] at hc
     obtain⟨h1,h2,h3,h4,h5,h6,h7,h8,h9,h10,h11,h12⟩:=hc
     exact⟨fun e=>by rw[e] at hcc;simp at hcc,aaW h1 h2 h3 h4 h5 h6 h7 h8 h9 h10 h11 h12⟩
   rw[if_pos hc'] at htd
   try refine nv ?_
   refine rA [] ?_
   refine⟨?_,rfl⟩
   rw[hK,hfound w htd];rfl
  ·intro hc
   have hc':¬(¬f=self∧x=w):=by
    rintro⟨h1,rfl⟩
    obtain⟨f1,f2⟩:=f;obtain⟨s1,s2⟩:=self
    simp_all
   rw[if_neg hc'] at htd
   try refine nv ?_
   refine⟨j,⟨by omega,by rw[hK,hnone htd]⟩,by omega,?_⟩
   exact aW
 intro hlt
 have hk0:k=0:=by have:¬0≤(k:Int)-1:=by simpa using hlt
                  omega
 subst hk0
 try refine nv ?_
 refine rA [] ?_
 refine⟨?_,rfl⟩
 rw[hK];rfl
end Go.Proofs.YtcpgicfphakdaaaGreatDoor
namespace Go.Proofs.YtcpgicfphakdaaaGreatDoor
open Go.Ab Tys
variable [Dr]
theorem aeP (l:List Rev) (i:Nat):(List.drop 3 ((l.map ax).getD i [])).getD 0 (D.v (.int .i64 0))=D.v (.int .i64 (l.getD i ai).act):=by
 simp only[List.getD_eq_getElem?_getD,List.getElem?_map]
 cases l[i]?<;>rfl
theorem emS:ByteArray.empty=noS:=rfl
theorem i00:Int.toNat 0=0:=rfl
def z76.kk:=p2 (p10 kB kG kM Tryz.ntmps76 iI sV mf jA tC zM) (p9 Ru JV uO uK ny Wu jy CJ Tryz.results76)
open z76 in
theorem QE (d:bK) (h0:0<d.revs.length) (L:jv) (hL:L.revs=d.revs) (la:List (ByteArray×Int)) (me:List (Int×List Int)) (hla:wW d d.revs.length la) (p:ByteArray):
 AC Tryz.prog 76 [.c (.pp (sG L la me)),Str p] [] (fun r st=>r=B (live d p)∧st=[]):=by
 have hl0:0<L.revs.length:=by rw[hL];exact h0
 rcases hla.last p with⟨a1,a2⟩|⟨j,v,a1,a2,a3⟩
 ·have hR:live d p=false:=by unfold live;rw[a2]
  rw[hR]
  have er:=bi ax L.revs 0 ai hl0
  refine bV Tryz.func76 Tryz.ntmps76 fun x hx=>?_
  refine aJ ?_
  refine gg ?_
  refine aJ ?_
  refine dR (wr:=false) 400 (by simp only[kk,Nat.reduceAdd,Nat.reduceLT,Nat.reduceEqDiff, ↓reduceIte,reduceCtorEq,mM,a1,Option.map_none,Option.isSome,er,i00];first|done|rfl) ?_ ?_
  ·exact gI @qH
  refine aJ ?_
  refine gy (p2 @er @i00) ?_ ?_
  ·exact rC
  try refine nv ?_
  refine rA [] ?_
  refine⟨?_,rfl⟩
  rfl
 ·have hR:live d p=!gone v:=by unfold live;rw[a3]
  rw[hR]
  have hj:=(List.getElem?_eq_some_iff.1 a2).1
  have er:=bi ax L.revs j ai (by rw[hL];exact hj)
  have ev:L.revs.getD j ai=v:=by rw[hL];exact gK a2
  rw[ev] at er
  have hj2:(j:Int)<(L.revs.length:Int):=by rw[hL];omega
  refine bV Tryz.func76 Tryz.ntmps76 fun x hx=>?_
  refine aJ ?_
  refine gg ?_
  refine aJ ?_
  refine dR (wr:=false) 400 (by simp only[kk,Nat.reduceAdd,Nat.reduceLT,Nat.reduceEqDiff, ↓reduceIte,reduceCtorEq,mM,a1,Option.map_some,Option.isSome,er];first|done|rfl) ?_ ?_
  ·exact gI @qH
  refine aJ ?_
  refine gy @er ?_ ?_
  ·exact rC
  try refine nv ?_
  refine rA [] ?_
  refine⟨?_,rfl⟩
  congr 1
  by_cases c1:v.act=3<;>by_cases c2:v.act=5<;>simp[gone,c1,c2]
def z78.kk:=p2 (p9 kB kM Tryz.ntmps78 iI sV mf jf tC zM) (p9 Ru JV uO uK ny Wu jy CJ Tryz.results78)
open z78 in
theorem OV (d:bK) (h0:0<d.revs.length) (L:jv) (hL:L.revs=d.revs) (la:List (ByteArray×Int)) (me:List (Int×List Int)) (hla:wW d d.revs.length la) (p:ByteArray):
 AC Tryz.prog 78 [.c (.pp (sG L la me)),Str p] [] (fun r st=>r=I .i64 (dh d p)∧st=[]):=by
 rcases hla.last p with⟨a1,a2⟩|⟨j,v,a1,a2,a3⟩
 ·have hR:dh d p=0:=by unfold dh;rw[a2];rfl
  rw[hR]
  refine bV Tryz.func78 Tryz.ntmps78 fun x hx=>?_
  refine aJ ?_
  refine gg ?_
  refine aJ ?_
  refine dR (wr:=false) 400 (by simp only[kk,Nat.reduceAdd,Nat.reduceLT,Nat.reduceEqDiff, ↓reduceIte,reduceCtorEq,mM,a1,Option.map_none,Option.isSome];first|done|rfl) ?_ ?_
  ·exact gI @qH
  try refine nv ?_
  refine af ?_ ?_
  ·intro h;cases h
  intro _
  try refine nv ?_
  refine rA [] ?_
  refine⟨?_,rfl⟩
  rfl
 ·have hR:dh d p=v.num:=by unfold dh;rw[a3];rfl
  rw[hR]
  have hj:=(List.getElem?_eq_some_iff.1 a2).1
  have er:=bi ax L.revs j ai (by rw[hL];exact hj)
  have ev:L.revs.getD j ai=v:=by rw[hL];exact gK a2
  rw[ev] at er
  have hj2:(j:Int)<(L.revs.length:Int):=by rw[hL];omega
  refine bV Tryz.func78 Tryz.ntmps78 fun x hx=>?_
  refine aJ ?_
  refine gg ?_
  refine aJ ?_
  refine dR (wr:=false) 400 (by simp only[kk,Nat.reduceAdd,Nat.reduceLT,Nat.reduceEqDiff, ↓reduceIte,reduceCtorEq,mM,a1,Option.map_some,Option.isSome];first|done|rfl) ?_ ?_
  ·exact gI @qH
  try refine nv ?_
  refine af ?_ ?_
  rotate_left
  ·intro h;cases h
  intro _
  try refine nx @er ?_
  refine rA [] ?_
  refine⟨?_,rfl⟩
  rfl
def z146.kk:=p8 kB Tryz.ntmps146 Tryz.underlying114 Tryz.underlying4 MV UN yR Tryz.results146
open z146 in
theorem aaB (l:List Bool) (hl:l.length≤1000000):
 AC Tryz.prog 146 [.c (.d (.ps 1 (l.map eB))),B true] [] (fun x st=>(∃i:Int,x=I .i64 i∧decide (0≤i)=decide (true∈l))∧st=[]):=by
 refine bV Tryz.func146 Tryz.ntmps146 fun x hx=>?_
 try refine nv ?_
 refine ag (ι:=Nat) (I:=fun k=>⟨19,[(0, .c (.d (.ps 1 (l.map eB)))),(1,B true),(7,I .i64 l.length),(8,I .i64 k)],[]⟩)
  (Inv:=fun k=>k≤l.length∧¬true∈l.take k) (μ:=fun k=>l.length-k) 0 ⟨by omega,by simp⟩ ?_ ?_
 ·exact aW
 rintro k ⟨hk,hno⟩
 try refine nv ?_
 refine af ?_ ?_
 ·intro hlt
  have hlt':k<l.length:=by simpa using hlt
  obtain⟨v,hv,he,htk⟩:=round eB l k false hlt'
  try refine nx @he ?_
  refine af ?_ ?_
  ·intro h
   have h':v=true:=by cases v;simp at h;rfl
   have hm:true∈l:=by rw[←h'];exact List.mem_of_getElem? hv
   try refine nv ?_
   refine rA [] ?_
   exact⟨⟨k,rfl,by rw[decide_eq_true hm];simp⟩,rfl⟩
  ·intro h
   have h':v=false:=by cases v;rfl;simp at h
   try refine nv ?_
   refine⟨k+1,⟨by omega,by rw[htk,List.mem_append];rintro(h1|h1);exact hno h1;rw[h'] at h1;simp at h1⟩,by omega,?_⟩
   exact aW
 intro hge
 have hk':k=l.length:=by have:¬k<l.length:=by simpa using hge
                         omega
 rw[hk',List.take_length] at hno
 try refine nv ?_
 refine rA [] ?_
 exact⟨⟨-1,rfl,by rw[decide_eq_false hno];decide⟩,rfl⟩
def z77.kk:=p3 kB Tryz.ntmps77 Tryz.results77
open z77 in
theorem Q5 (l:List Bool) (hl:l.length≤1000000):
 AC Tryz.prog 77 [.c (.d (.ps 1 (l.map eB))),B true] [] (fun x st=>x=B (decide (true∈l))∧st=[]):=by
 refine bV Tryz.func77 Tryz.ntmps77 fun x hx=>?_
 try refine nv ?_
 refine qQ [] (aaB l hl) ?_
 rintro r st' ⟨⟨i,rfl,hi⟩,rfl⟩<;>refine qU ?_
 try refine nv ?_
 refine rA [] ?_
 refine⟨?_,rfl⟩
 rw[←hi]
end Go.Proofs.YtcpgicfphakdaaaGreatDoor
