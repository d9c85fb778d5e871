/- A part of the proof. -/
import Derived.Test.YtcpgicfphakdaaaGreatDoorRK26
set_option linter.all false
namespace Go.Proofs.YtcpgicfphakdaaaGreatDoor
open Go.Ab Tys
variable [yF]
def zTr:pz:=⟨0,noS,0,noS,0,0,noS,0,noS,0,noS⟩
def z4.kk:=p3 (RJ kB kG kS kM Tryz.ntmps4 Tryz.underlying27 Tryz.underlying32 Tryz.underlying43 ny pM Us iK nI TW) (RJ Ua oC oI L9 LD Mc MC Lt MS Nb jq gU Xr Zq) (p12 x8 uz uB acb vT aaw aee ac1 Vy nT kC Tryz.results4)
set_option maxRecDepth 100000 in
set_option maxHeartbeats 32000000 in
open z4 in
theorem CG (l:List oD) (hf:Few l) (m:List eQ) (hm:m.length≤1048576) (hb:∀e∈m,EB 1048576 e∧e.holes.length≤1000000):
 AC Tryz.prog 4 [.c (.d (.ps 5 (l.map fJ))),jW m] [] (fun r st=>r=B true∧st=[]):=by
 have haw:=XI
 have hsm:=Sv m hm (fun e he=>(hb e he).1)
 have hsz:=fun h=>Vf (m:=m) h hb
 generalize rU m=sb at hsm hsz
 refine dA Tryz.func4 Tryz.ntmps4 fun x hx=>?_
 try refine nv ?_
 refine tX [] (X6 l hf) ?_
 rintro r st' ⟨⟨b,rfl,hb1⟩,rfl⟩<;>refine uo ?_
 try refine nv ?_
 refine so ([(24,B sb)]) ?_ ?_
 ·exact iw @hsm
 try refine nv ?_
 refine aj ?_ ?_
 ·intro _
  (repeat (first|refine nv ?_|refine cf (haw) ?_))
  refine rA [] ?_
  refine⟨?_,rfl⟩
  rfl
 intro hc
 have hb2:b=true:=by cases b<;>simp_all
 have hs1:sb=true:=by cases sb<;>simp_all
 obtain⟨b1,b2,b3⟩:=hb1 hb2
 obtain⟨m1,m2⟩:=hsz hs1
 try refine nv ?_
 refine tX [] (Xb l (by omega) (acH b2 b3)) ?_
 rintro r st' ⟨⟨d,rfl,hB⟩,rfl⟩<;>refine uo ?_
 obtain⟨o1,o2,o3⟩:=hB.ok
 have hA:=WJ d hB.good o1 o2 hB.acP hB.Tc m m1 m2
 by_cases hM:FV m
 rotate_left
 ·have h1:AC Tryz.prog 11 [uY d,jW m] [] (fun r st=>r= .tup [Tf [],pI 151]∧st=[]):=hA.mono fun r st h=>⟨by rcases h.1 with h|h;exact absurd h.1 hM;exact h.2,h.2⟩
  clear hA
  (repeat (first|refine nv ?_|refine cf (h1) ?_))
  refine aj ?_ ?_
  rotate_left
  ·intro h;simp at h
  intro _
  try refine nv ?_
  refine so ([(42,B true)]) ?_ ?_
  ·exact iw @haw
  try refine nv ?_
  refine rA [] ?_
  refine⟨?_,rfl⟩
  rfl
 have h1:AC Tryz.prog 11 [uY d,jW m] [] (fun r st=>r= .tup [Tf (zu d m),pI 0]∧st=[]):=hA.mono fun r st h=>⟨by rcases h.1 with h|h;exact h.2;exact absurd hM h.1,h.2⟩
 clear hA
 have hTB:=abQ hB.good o1 hB.Tc hB.acP m
 have hLw:=fun x (hx:x∈zu d m) hk=>(NM hB.good o1 hB.Tc hx hk).2.2
 have hGl:=fun G ps=>Az.law (m:=m) (G:=G) (ps:=ps) hB.good o1 hB.Tc
 have hfl:=FO o1 m (jL d)
 have hpl:=H5 d
 have hF:zu d m=(jL d).flatMap (l7 d m):=rfl
 rw[←hF] at hfl
 clear hF
 have hnm:=hB.abC
 generalize zu d m=ts at h1 hTB hLw hGl hfl
 (repeat (first|refine nv ?_|refine cf (h1) ?_))
 refine aj ?_ ?_
 ·intro h;simp at h
 intro _
 try refine nv ?_
 refine nH (xM (id:=1011) (sz:=2) rfl (by omega)) ?_
 refine dZ ?_
 refine ax (ι:=Nat×List ((bf×bf)×(Value×List bf))×List (Value×List (List D))) (I:=fun i=>⟨130,[(5, .c (.ptr 5 0)),(8, .c (.mp 1010)),(45,UG ts),(46,I .i64 ts.length),(47,I .i64 i.1)],
  [(5, .box ((lL d).map C.d)),(1010, .map ((bM Qq vV i.2.1).map fC)),(1011, .pool 2 i.2.2)]⟩)
  (Inv:=fun i=>i.1≤ts.length∧Az (kK (ts.take i.1)) i.2.1 i.2.2) (μ:=fun i=>ts.length-i.1) (0,[],[]) ⟨by simp,by simpa[kK] using Az.zero⟩ ?_ ?_
 ·exact Af (fun i=>if i=1010 then 44 else i)
 rintro⟨k,G,ps⟩ ⟨hk,hG⟩
 simp only at hk hG⊢
 try refine nv ?_
 refine aj ?_ ?_
 ·intro hlt
  have hlt':k<ts.length:=by simpa using hlt
  obtain⟨x,hxk,he,htk⟩:=round lM ts k zTr hlt'
  have hxm:=List.mem_of_getElem? hxk
  have hxB:=hTB x hxm
  obtain⟨n1,n2,n3⟩:=XX hB.good hnm hxB.le hxB.run
  try refine nx @he ?_
  refine aj ?_ ?_
  ·intro h1
   have h1':x.kind=1:=by simpa using h1
   try refine nv ?_
   refine⟨(k+1,G,ps),⟨by simp;omega,?_⟩,by simp;omega,?_⟩
   ·simp only[Vq htk h1'];exact hG
   ·exact Af (fun i=>i)
  intro hk1
  have hk1':¬x.kind=1:=by simpa using hk1
  have hpk:=hLw x hxm hk1'
  try refine nv ?_
  refine Pi Tryz.underlying42 vT ac1 rfl (by simp) rfl rfl rfl rfl ?_
  refine dZ ?_
  try refine nv ?_
  refine ax (ι:=Nat×List ((bf×bf)×(Value×List bf))×List (Value×List (List D))) (I:=fun i=>⟨130,[(5, .c (.ptr 5 0)),(8, .c (.mp 1010)),(10, .c (.ptr 10 0)),(11, .c (.ptr 11 0)),(12,I .i64 (x.first+i.1)),(45,UG ts),(46,I .i64 ts.length),(47,I .i64 k)],
   [(5, .box ((lL d).map C.d)),(1010, .map ((bM Qq vV i.2.1).map fC)),(1011, .pool 2 i.2.2),(10, .box ((lM x).map C.d)),(11, .box (wY (dF x)))]⟩)
   (Inv:=fun i=>i.1≤(jf x).length∧Az (FN ts k x i.1) i.2.1 i.2.2) (μ:=fun i=>(jf x).length-i.1) (0,G,ps) ⟨by simp,by rw[U9];exact hG⟩ ?_ ?_
  ·(refine bI (fun i=>i) rfl ?_ ⟨?_,?_,?_,keepR hx (by simp[ae,Ab.get])⟩<;>first|(intro i hi;have h0:=hx i hi;constructor<;>(revert h0;simp only[ae,Ab.get];(repeat' split)<;>simp_all);done)|(simp only[kE,aK, ↓reduceIte,Nat.reduceEqDiff,reduceCtorEq];done)|(simp only[aK,jv,jy,List.mem_cons,List.not_mem_nil,or_false,forall_eq_or_imp,forall_eq];simp[dQ,dX,dK,dY,ag,Ab.get,aH,cu,aB,bD,aS,aQ,aU,aP,aT,ae,List.flatten,eU,ah,bP,dF,pz.line];done)|simp[dQ,dX,dK,dY,ag,Ab.get,aH,cu,aB,bD,aS,aQ,aU,aP,aT,ae,List.flatten,eU,ah,bP,dF,pz.line])
  rintro⟨j,G1,p1⟩ ⟨hj,hG1⟩
  simp only at hj hG1⊢
  have hnl:=I8 x
  by_cases hjl:j<(jf x).length
  rotate_left
  ·have hje:j=(jf x).length:=by omega
   have hle:decide (x.first+(j:Int)≤x.last)=false:=by simp;omega
   have hEe:=ND (ts:=ts) (k:=k) (x:=x) htk hk1'
   rw[←hje] at hEe
   rw[hEe] at hG1
   cases hk:ai G1 (dF x) with
   |none=>
    have hlk:=SX G1 (dF x)
    rw[hk] at hlk
    refine bC ?_
    refine dw (wr:=false) 400 (by simp only[kk,Nat.reduceAdd,Nat.reduceLT,Nat.reduceEqDiff, ↓reduceIte,reduceCtorEq,hle,hlk,Option.map_none,Option.getD];first|done|rfl) ?_ ?_
    ·exact iw (Kt G1)
    try refine nv ?_
    refine aj ?_ ?_
    ·intro h;cases h
    intro _
    try refine nv ?_
    refine⟨(k+1,G1,p1),⟨by simp;omega,hG1⟩,by simp;omega,?_⟩
    exact Af (fun i=>i)
   |some g=>
    obtain⟨v0,ys⟩:=g
    have hys:ys≠[]:=by
     have:=hG1.ne (dF x)
     rw[jk,hk] at this
     intro e;subst e;exact this rfl
    have hkk:jE (wY (dF x)) (wY (dF x))=true:=by simp[jE,Dy]
    have hfi:=wB (true,wY (dF x)) (false,[.ms 2003 2 0 ys.length]) ((bM Qq vV G1).map fC) hkk
    simp only at hfi
    refine bC ?_
    refine Ew CE dW (mid:=1010) (pid:=1011) (pid':=2001) (aid:=2003) rfl rfl hG1.perm hk rfl rfl (by decide) ?_
    intro ps' hpe
    refine dZ ?_
    rw[show jV (Qq (dF x))=(true,wY (dF x)) from rfl]
    refine dw (wr:=false) 400 (by simp only[kk,Nat.reduceAdd,Nat.reduceLT,Nat.reduceEqDiff, ↓reduceIte,reduceCtorEq,hle,hfi,Option.getD];first|done|rfl) ?_ ?_
    ·simp only[All,List.cons_append,List.nil_append,dG,List.mem_cons,List.not_mem_nil,or_false,forall_eq_or_imp,forall_eq,aH,aB,cu,aG,bG,and_true,true_and,implies_true,List.length_map,List.length_cons,List.length_nil,aK,iZ,cZ]
     repeat' (first|exact trivial|exact Aj (dF x) _ _ (Kt G1)|refine And.intro ?_ ?_|intro _|assumption|rfl|omega|(rw[Bool.not_eq_true'];assumption)|(simp;done)|(simp only[decide_eq_true_eq] at*;omega)|(simp_all;done))
    try refine nv ?_
    refine aj ?_ ?_
    ·intro h;cases h
    intro _
    refine bC ?_
    refine G7 _ (qI CE dW (mid:=1010) (pid:=2001) (pid':=2002) (aid:=2003) (G:=G1) (k:=dF x) (ys:=ys) (ps:=ps') rfl rfl (by simp[Ab.get]) rfl hys rfl) ?_
    intro v
    refine dZ ?_
    try refine nv ?_
    refine⟨(k+1,fV G1 (dF x) (v,ys),(v,ys.map dW)::ps'),⟨by simp;omega,hG1.same hk (BL dW hk hG1.perm hpe)⟩,by simp;omega,?_⟩
    exact Af (fun i=>if i=1011 then 2002 else i)
  have e1:x.first+(j:Int)+1=x.first+((j:Int)+1):=by omega
  have hle:decide (x.first+(j:Int)≤x.last)=true:=by simp;omega
  have hlen:=XE (ts:=ts) (k:=k) (x:=x) (j:=j) htk hk1'
  rw[←hG1.look (dF x)] at hlen
  have hstp:=UU (ts:=ts) (k:=k) (x:=x) (j:=j) hjl
  cases hk:ai G1 (dF x) with
  |none=>
   have hk2:ai (wK G1) (dF x)=none:=by rw[jk,hk];rfl
   have hlk:=SX G1 (dF x)
   rw[hk] at hlk
   refine bC ?_
   refine dw (wr:=false) 400 (by simp only[kk,Nat.reduceAdd,Nat.reduceLT,Nat.reduceEqDiff, ↓reduceIte,reduceCtorEq,hle,hlk,Option.map_none,Option.getD];first|done|rfl) ?_ ?_
   ·exact iw (Kt G1)
   try refine nv ?_
   refine aj ?_ ?_
   rotate_left
   ·intro h;cases h
   intro _
   try refine nv ?_
   refine qY (id:=1010) (es:=(bM Qq vV G1).map fC) (ak:= .agg (wY (dF x))) (p:=(true,wY (dF x))) (by simp) Zq Xr Vy rfl rfl rfl rfl rfl (by simp[cZ]) (Kt G1) ?_
   intro β
   simp only[hlk,Option.map_none,Option.getD]
   refine dZ ?_
   try refine nv ?_
   refine oz rfl rfl rfl rfl rfl (sK _ _ _) ?_
   rw[Ab.oP]
   refine dZ ?_
   refine bC ?_
   refine G7 _ (qI CE dW (mid:=1010) (pid:=1011) (pid':=2002) (aid:=86) (G:=G1) (k:=dF x) (ys:=[⟨x.frm,x.first+j⟩]) (ps:=p1) rfl rfl rfl rfl (by simp) rfl) ?_
   intro v
   refine dZ ?_
   try refine nv ?_
   refine⟨(j+1,fV G1 (dF x) (v,[⟨x.frm,x.first+j⟩]),(v,[(⟨x.frm,x.first+j⟩:bf)].map dW)::p1),⟨by simp;omega,?_⟩,by simp;omega,?_⟩
   ·simp only[hstp];exact hG1.step _ _ v _ (by rw[hk2];rfl) (Gw dW hk hG1.perm)
   ·(refine bI (fun i=>if i=1011 then 2002 else i) rfl ?_ ⟨?_,?_,?_,keepR hx (by simp[ae,Ab.get])⟩<;>first|(intro i hi;have h0:=hx i hi;constructor<;>(revert h0;simp only[ae,Ab.get];(repeat' split)<;>simp_all);done)|(simp only[kE,aK, ↓reduceIte,Nat.reduceEqDiff,reduceCtorEq];done)|(simp only[aK,jv,jy,List.mem_cons,List.not_mem_nil,or_false,forall_eq_or_imp,forall_eq];simp[dQ,dX,dK,dY,ag,Ab.get,aH,cu,aB,bD,aS,aQ,aU,aP,aT,ae,List.flatten,eU,ah,bP,e1];done)|simp[dQ,dX,dK,dY,ag,Ab.get,aH,cu,aB,bD,aS,aQ,aU,aP,aT,ae,List.flatten,eU,ah,bP,e1])
  |some g=>
   obtain⟨v0,ys⟩:=g
   have hk2:ai (wK G1) (dF x)=some ys:=by rw[jk,hk];rfl
   have hyl:ys.length≤512:=by rw[hk2,Option.getD_some] at hlen;omega
   have hkk:jE (wY (dF x)) (wY (dF x))=true:=by simp[jE,Dy]
   have hfi:=wB (true,wY (dF x)) (false,[.ms 2003 2 0 ys.length]) ((bM Qq vV G1).map fC) hkk
   have hii:=fun w=>EK (true,wY (dF x)) (false,[.ms 2003 2 0 ys.length]) w ((bM Qq vV G1).map fC) hkk
   simp only at hfi hii
   have hlt9:decide ((ys.length:Int)<1000)=true:=by simp;omega
   refine bC ?_
   refine Ew CE dW (mid:=1010) (pid:=1011) (pid':=2001) (aid:=2003) rfl rfl hG1.perm hk rfl rfl (by decide) ?_
   intro ps' hpe
   refine dZ ?_
   rw[show jV (Qq (dF x))=(true,wY (dF x)) from rfl]
   refine dw (wr:=false) 400 (by simp only[kk,Nat.reduceAdd,Nat.reduceLT,Nat.reduceEqDiff, ↓reduceIte,reduceCtorEq,hle,hfi,Option.getD,hlt9];first|done|rfl) ?_ ?_
   ·simp only[All,List.cons_append,List.nil_append,dG,List.mem_cons,List.not_mem_nil,or_false,forall_eq_or_imp,forall_eq,aH,aB,cu,aG,bG,and_true,true_and,implies_true,List.length_map,List.length_cons,List.length_nil,aK,iZ,cZ]
    repeat' (first|exact trivial|exact Aj (dF x) _ _ (Kt G1)|refine And.intro ?_ ?_|intro _|assumption|rfl|omega|(rw[Bool.not_eq_true'];assumption)|(simp;done)|(simp only[decide_eq_true_eq] at*;omega)|(simp_all;done))
   try refine nv ?_
   refine aj ?_ ?_
   rotate_left
   ·intro h;cases h
   intro _
   try refine nv ?_
   refine qY (id:=1010) (es:=dH (true,wY (dF x)) (false,[.ms 2003 2 0 ys.length]) ((bM Qq vV G1).map fC)) (ak:= .agg (wY (dF x))) (p:=(true,wY (dF x))) (by simp) Zq Xr Vy rfl rfl rfl rfl rfl (by simp[cZ]) (Aj _ _ _ (Kt G1)) ?_
   intro β
   simp only[hfi,Option.getD]
   refine dZ ?_
   try refine nv ?_
   refine oz rfl rfl rfl rfl rfl (sK _ _ _) ?_
   rw[Ab.oP]
   refine dZ ?_
   simp only[hii]
   refine bC ?_
   refine G7 _ (qI CE dW (mid:=1010) (pid:=2001) (pid':=2002) (aid:=86) (G:=G1) (k:=dF x) (ys:=ys++[⟨x.frm,x.first+j⟩]) (ps:=ps') rfl rfl (by simp[Ab.get]) (by simp) (by simp) rfl) ?_
   intro v
   refine dZ ?_
   try refine nv ?_
   refine⟨(j+1,fV G1 (dF x) (v,ys++[⟨x.frm,x.first+j⟩]),(v,(ys++[(⟨x.frm,x.first+j⟩:bf)]).map dW)::ps'),⟨by simp;omega,?_⟩,by simp;omega,?_⟩
   ·simp only[hstp];exact hG1.step _ _ v _ (by rw[hk2];rfl) (BL dW hk hG1.perm hpe)
   ·(refine bI (fun i=>if i=1011 then 2002 else i) rfl ?_ ⟨?_,?_,?_,keepR hx (by simp[ae,Ab.get])⟩<;>first|(intro i hi;have h0:=hx i hi;constructor<;>(revert h0;simp only[ae,Ab.get];(repeat' split)<;>simp_all);done)|(simp only[kE,aK, ↓reduceIte,Nat.reduceEqDiff,reduceCtorEq];done)|(simp only[aK,jv,jy,List.mem_cons,List.not_mem_nil,or_false,forall_eq_or_imp,forall_eq];simp[dQ,dX,dK,dY,ag,Ab.get,aH,cu,aB,bD,aS,aQ,aU,aP,aT,ae,List.flatten,eU,ah,bP,e1];done)|simp[dQ,dX,dK,dY,ag,Ab.get,aH,cu,aB,bD,aS,aQ,aU,aP,aT,ae,List.flatten,eU,ah,bP,e1])
 intro hge
 have hge':k=ts.length:=by have:¬k<ts.length:=by simpa using hge
                           omega
 rw[hge',List.take_length] at hG
 have hL:=hGl G ps hG
 obtain⟨ff1,ff2⟩:=Ho (ke:=Qq) dW 2 G
 rw[ff1]
 refine bC ?_
 refine bz (vU (i:=8) (mid:=1010) (pid:=1011) (sz:=2) rfl rfl rfl (MI dW hG.perm)) ?_
 rw[ff2]
 refine dZ ?_
 generalize wK G=M at hL
 clear ff1 ff2 hG hGl
 try refine nv ?_
 refine ax (ι:=Option iV×List ((bf×bf)×List bf)) (I:=fun i=>⟨130,[(5, .c (.ptr 5 0)),(90, .c (.ptr 90 0))],[(5, .box ((lL d).map C.d)),(90, .iter i.1 (bM Qq vFs i.2))]⟩)
  (Inv:=fun i=>∀e∈i.2,aby d e) (μ:=fun i=>i.2.length) (none,M) hL ?_ ?_
 ·exact cO
 rintro⟨cur,rest⟩ h
 simp only at h⊢
 refine bC ?_
 refine vH (id:=90) (by simp) (by simp only[kV, ↓reduceIte,Nat.reduceEqDiff,reduceCtorEq];first|done|rfl) rfl ?_ ?_
 ·intro h0
  refine dZ ?_
  try refine nv ?_
  refine aj ?_ ?_
  ·intro hh;cases hh
  intro _
  (repeat (first|refine nv ?_|refine cf (haw) ?_))
  refine rA [] ?_
  refine⟨?_,rfl⟩
  rfl
 intro l1 e l2 hsp
 obtain⟨xs,kk,y,rfl,rfl,rfl,rfl⟩:=TC hsp
 obtain⟨⟨kf,kt⟩,runs⟩:=kk
 obtain⟨r1,r2,r3⟩:=h ((kf,kt),runs) (by simp)
 simp only at r1 r2 r3
 refine dZ ?_
 (repeat (first|refine Eb ?_|refine BP (wr:=false) (by simp only[kk,Nat.reduceAdd,Nat.reduceLT,Nat.reduceEqDiff, ↓reduceIte,reduceCtorEq,jV];first|done|rfl) ?_))
 refine aj ?_ ?_
 rotate_left
 ·intro hh;cases hh
 intro _
 have hLn:=Zy d (by omega) kf
 have hR:=BF d hB.good o1 o2 (fileOf ((jD d kf).getD ((jD d kf).length-1) af)) kt
 have hsame:AC Tryz.prog 15 [JG runs,JG runs] [] (fun r st=>r=B true∧st=[]):=by
  have:=aaV runs runs (by omega)
  simpa using this
 rw[←CP r2] at hR
 have hll:(jD d kf).length≤512:=by rw[Am hB.good o1];exact Nat.le_trans (List.length_filter_le ..) o1
 generalize jD d kf=ln at hLn hR r1 hll
 have hgd:=bg aI ln (ln.length-1) af (by omega)
 have e1:((ln.length:Int)-1).toNat=ln.length-1:=by omega
 generalize ln.getD (ln.length-1) af=v at hgd hR
 (repeat (first|refine Eb ?_|refine BP (wr:=false) (by simp only[kk,Nat.reduceAdd,Nat.reduceLT,Nat.reduceEqDiff, ↓reduceIte,reduceCtorEq,jV];first|done|rfl) ?_))
 refine Gn Tryz.underlying42 vT (by simp) rfl rfl (by omega) (by omega) ?_
 refine dZ ?_
 (repeat (first|refine nv ?_|refine cf (hLn) ?_))
 refine aj ?_ ?_
 ·intro h;exfalso;apply r1;simpa using h
 intro _
 try refine nx (p2 @e1 @hgd) ?_
 refine Gn Tryz.underlying42 vT (by simp) rfl rfl (by omega) (by omega) ?_
 refine dZ ?_
 (repeat (first|refine nv ?_|refine cf (hR) ?_))
 refine so ([(126,B true)]) ?_ ?_
 ·exact iw @hsame
 try refine nv ?_
 refine aj ?_ ?_
 ·intro h;cases h
 intro _
 try refine nv ?_
 refine⟨(some (Qq (kf,kt),vFs runs),xs++y),?_,by simp,?_⟩
 ·intro e he
  refine h e ?_
  simp only[List.mem_append,List.mem_cons] at he⊢
  rcases he with he|he
  ·exact .inl he
  ·exact .inr (.inr he)
 ·exact cO
end Go.Proofs.YtcpgicfphakdaaaGreatDoor
