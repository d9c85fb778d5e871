/- A part of the proof. -/
import Derived.Test.YtcpgicfphakdaaaGreatDoorRY20
set_option linter.all false
namespace Go.Proofs.YtcpgicfphakdaaaGreatDoor
open Go.Ab Tys
variable [zg]
theorem aiG (l:List Int) (i:Nat):((l.map xW).getD i []).getD 0 (D.v (.int .i64 0))=D.v (.int .i64 (l.getD i 0)):=by
 simp only[adI,ag5]
 cases l[i]?<;>rfl
@[reducible] def aeA:jo:=⟨0,ByteArray.empty,0,ByteArray.empty,0,0,ByteArray.empty,0,ByteArray.empty,0,ByteArray.empty⟩
@[reducible] def zRs:y9:=⟨0,false,false,false,0,0,false⟩
def Il (f:bJ):List jo→jo
 |[]=>aeA
 |x::l=>if x.line=f then x else Il f l
theorem Nl {f:bJ}:∀{l:List jo},(Il f l=aeA∧∀x∈l,¬x.line=f)∨(Il f l∈l∧(Il f l).line=f)
 |[]=> .inl ⟨rfl,fun x h=>by cases h⟩
 |x::l=>by
  unfold Il
  by_cases h:x.line=f
  ·rw[if_pos h];exact .inr ⟨aj2,h⟩
  ·rw[if_neg h]
   rcases Nl (f:=f) (l:=l) with⟨h1,h2⟩|⟨h1,h2⟩
   ·refine .inl ⟨h1,fun y hy=>?_⟩
    rcases afr.1 hy with rfl|hy
    ·exact h
    ·exact h2 y hy
   ·exact .inr ⟨ajl _ h1,h2⟩
theorem aai {f:bJ} {l:List jo} {k:Nat} {x:jo} (h:l[k]? =some x):Il f (l.drop k)=if x.line=f then x else Il f (l.drop (k+1)):=by
 obtain⟨hk,e⟩:=adK.1 h
 rw[aiu hk,e,Il]
theorem ahE {t:jo} (hk:1≤t.kind∧t.kind≤3):iD t.kind ((Lc t.kind).getD 0 0)=true∧lC t ((Lc t.kind).getD 0 0) zRs=true:=by
 unfold Lc iD lC
 by_cases h1:t.kind=1
 ·simp[h1]
 ·by_cases h3:t.kind=3
  ·simp[h3]
  ·simp[h1,h3]
theorem afa {k:Int} (hk:1≤k∧k≤3) {i:Nat} (hi:i<(Lc k).length):iD k ((Lc k).getD i 0)=true:=by
 rw[←aet k _ hk,List.any_eq_true]
 exact⟨(Lc k).getD i 0,by rw[adI,adH hi];exact ajI _,by simp⟩
structure adm (m:List fA) (f:bJ) (M k:Nat) (d:aW):Prop where
 dok:Pv d
 ne:d.revs≠[]
 mu:k+Zb d m f≤M
theorem Zh {m:List fA} {f:bJ} {M k:Nat} {d n:aW} {t:jo} {ch:Int} {w:y9} (h:adm m f M k d) (ht:t∈xw d m) (hl:t.line=f) (hR:vH d t ch w) (hn:IR d≤1073741824) (ha:Yj d (dA d t ch w) n) (htot:LG d (dA d t ch w)) (hlen:n.recs.length=d.recs.length+(dA d t ch w).recs.length):adm m f M (k+1) n:=by
 have hk:=Iy h.dok hR hn htot.1 htot.2
 have hDn:=ad7 h.dok hR hk ha (by have:=htot.2;omega)
 have hs:=(mu_step h.dok hR hk ha hDn ht).1
 rw[hl] at hs
 refine⟨hDn,?_,by have:=h.mu;omega⟩
 rw[ha.revs]
 intro e
 exact h.ne (List.append_eq_nil_iff.1 e).1
def z5.kk:=p3 (MP kB kG kS Tryz.ntmps5 Tryz.underlying27 Tryz.underlying32 Tryz.underlying55 Tryz.underlying9 iH oG wM dM Ea pY) (MP jQ UZ uf ach kW sH Ez sK xO A7 lQ qx qU wu) (p12 mG ny aew xK FB iq DU QG BP y7 jB Tryz.results5)
set_option maxRecDepth 100000 in
set_option maxHeartbeats 64000000 in
open z5 in
theorem KX (l:List iZ) (hf:Few l) (m:List fA) (hm:m.length≤1048576) (hb:∀e∈m,EB 1048576 e∧e.holes.length≤1000000) (pick:Int) (cs:List Int) (w:y9):
 AC Tryz.prog 5 [.c (.d (.ps 5 (l.map gm))),iV m,I .i64 pick, .c (.d (.ps 1 (cs.map xW))),PT w] [] (fun r st=>r=B true∧st=[]):=by
 have haw:=Jv
 have hsm:=Ku m hm (fun e he=>(hb e he).1)
 have hsz:=fun h=>NW (m:=m) h hb
 generalize tX m=sb at hsm hsz
 refine df Tryz.func5 Tryz.ntmps5 fun x hx=>?_
 try refine nv ?_
 refine nJ [] (Q3 l hf) ?_
 rintro r st' ⟨⟨b,rfl,hb1⟩,rfl⟩<;>refine nP ?_
 try refine nv ?_
 refine so ([(31,B sb)]) ?_ ?_
 ·exact eQ @hsm
 try refine nv ?_
 refine aj ?_ ?_
 ·intro _
  (repeat (first|refine nv ?_|refine cf (haw) ?_))
  refine rA [] ?_
  refine⟨?_,rfl⟩
  rfl
 intro hc
 have hb2:b=true:=by cases b<;>simp_all
 have hs1:sb=true:=by cases sb<;>simp_all
 have hcl:cs.length≤40:=by
  rw[hb2,hs1] at hc
  have:(cs.length:Int)≤40:=by simpa using hc
  omega
 obtain⟨b1,b2,b3⟩:=hb1 hb2
 obtain⟨m1,m2⟩:=hsz hs1
 try refine nv ?_
 refine nJ [] (Q7 l (by omega) (afv b2 b3)) ?_
 rintro r st' ⟨⟨d0,rfl,hB⟩,rfl⟩<;>refine nP ?_
 have hD:=hB.dok
 clear hB
 have hTs:∀d,Pv d→AC Tryz.prog 11 [lT d,iV m] [] (fun r st=>((Cc m∧r= .tup [Ht (xw d m),pI 0])∨(¬Cc m∧r= .tup [Ht [],pI 151]))∧st=[]):=fun d hD=>Nu d hD.good hD.N hD.M hD.pth hD.frm m m1 m2
 have hA:=hTs d0 hD
 by_cases hM:Cc m
 rotate_left
 ·have h1:AC Tryz.prog 11 [lT d0,iV m] [] (fun r st=>r= .tup [Ht [],pI 151]∧st=[]):=hA.mono fun r st h=>⟨by rcases h.1 with h|h;exact absurd h.1 hM;exact h.2,h.2⟩
  clear hA
  (repeat (first|refine nv ?_|refine cf (h1) ?_))
  refine aj ?_ ?_
  rotate_left
  ·intro h;simp at h
  intro _
  (repeat (first|refine nv ?_|refine cf (haw) ?_))
  refine rA [] ?_
  refine⟨?_,rfl⟩
  rfl
 have hTs:∀d,Pv d→AC Tryz.prog 11 [lT d,iV m] [] (fun r st=>r= .tup [Ht (xw d m),pI 0]∧st=[]):=fun d hD=>(hTs d hD).mono fun r st h=>⟨by rcases h.1 with h|h;exact h.2;exact absurd hM h.1,h.2⟩
 clear hA
 have h1:=hTs d0 hD
 have hfl:∀d,Pv d→(xw d m).length≤1000000:=fun d hD=>by
  have h1:=JI hD.N m (oz d)
  have h2:=J9 d
  have h3:=hD.N
  have hF:xw d m=(oz d).flatMap (rC d m):=rfl
  rw[←hF] at h1;omega
 have hmu0:∀t∈xw d0 m,Zb d0 m t.line≤d0.revs.length+1:=fun t ht=>by
  obtain⟨v,hv⟩:=Xf hD ht
  have h1:=ahn hD ht hv
  have h2:(line d0 t.line).length≤d0.revs.length:=ajy ..
  omega
 generalize hts:xw d0 m=ts at h1 hmu0
 (repeat (first|refine nv ?_|refine cf (h1) ?_))
 refine aj ?_ ?_
 ·intro _
  (repeat (first|refine nv ?_|refine cf (haw) ?_))
  refine rA [] ?_
  refine⟨?_,rfl⟩
  rfl
 intro hc2
 have hpk:0≤pick∧pick<ts.length:=by
  simp at hc2;omega
 obtain⟨t0,ht,hte,_⟩:=round ik ts pick.toNat aeA (by omega)
 have htm:=aem ht
 have hmu1:=hmu0 t0 htm
 have hne:d0.revs≠[]:=by
  rw[←hts] at htm
  obtain⟨v,hv⟩:=Xf hD htm
  exact List.ne_nil_of_mem (lJ hv.last).1
 have hN0:=hD.N
 refine aZ ?_
 refine dx ([]) @hte ?_ ?_
 ·exact qP
 generalize hfl0:t0.line=f at hmu1
 try refine nv ?_
 refine au (ι:=Nat×aW) (I:=fun i=>⟨201,[(1,iV m),(3, .c (.d (.ps 1 (cs.map xW)))),(9, .c (.ptr 9 0)),(11, .c (.ptr 11 0)),(14, .c (.ptr 14 0)),(15,I .i64 i.1),(16,I .i64 (d0.revs.length+2)),(17,I .i64 i.1)],[(9, .box ((Ai w).map C.d)),(11, .box ((iY i.2).map C.d)),(14, .box ((iR f).map C.d))]⟩)
  (Inv:=fun i=>adm m f (d0.revs.length+1) i.1 i.2) (μ:=fun i=>d0.revs.length+3-i.1) (0,d0) ⟨hD,hne,by simpa using hmu1⟩ ?_ ?_
 ·subst hfl0
  (refine bi (fun i=>i) rfl ?_ ⟨?_,?_,?_,bW hx (by simp[ae,Ab.get])⟩<;>first|(simp only[kE,ay, ↓reduceIte,Nat.reduceEqDiff,reduceCtorEq,bM,jo.line];done)|simp[aH,ax,ah,Ab.get,aJ,cZ,aB,bF,aS,aO,aQ,aT,aP,ae,List.flatten,bM,jo.line])
 rintro⟨k,d⟩ hI
 simp only at hI⊢
 have hkM:=hI.mu
 have hDd:=hI.dok
 have oN:=hDd.N
 have oM:=hDd.M
 try refine nv ?_
 refine aj ?_ ?_
 rotate_left
 ·intro h;exfalso;simp at h;omega
 intro _
 have hT:=hTs d hDd
 have hTl:=hfl d hDd
 have hTB:=Vb hDd.good hDd.N hDd.frm hDd.pth m
 generalize hus:xw d m=us at hT hTl hTB
 (repeat (first|refine nv ?_|refine cf (hT) ?_))
 refine aj ?_ ?_
 ·intro h;cases h
 intro _
 try refine nv ?_
 refine au (ι:=Nat) (I:=fun j=>⟨201,[(1,iV m),(3, .c (.d (.ps 1 (cs.map xW)))),(9, .c (.ptr 9 0)),(11, .c (.ptr 11 0)),(12,aaG us),(14, .c (.ptr 14 0)),(15,I .i64 k),(16,I .i64 (d0.revs.length+2)),(17,I .i64 k),(18, .c (.ptr 18 0)),(19,I .i64 ((j:Int)-1))],[(9, .box ((Ai w).map C.d)),(11, .box ((iY d).map C.d)),(14, .box ((iR f).map C.d)),(18, .box ((ik (Il f (us.drop j))).map C.d))]⟩)
  (Inv:=fun j=>j≤us.length) (μ:=fun j=>j) us.length (by omega) ?_ ?_
 ·(refine bi (fun i=>i) rfl ?_ ⟨?_,?_,?_,bW hx (by simp[ae,Ab.get])⟩<;>first|(simp only[kE,ay, ↓reduceIte,Nat.reduceEqDiff,reduceCtorEq,bM,akv,Il];done)|simp[aH,ax,ah,Ab.get,aJ,cZ,aB,bF,aS,aO,aQ,aT,aP,ae,List.flatten,bM,akv,Il])
 intro j hj
 try refine nv ?_
 refine aj ?_ ?_
 ·intro hge
  have hj1:1≤j:=by have:0≤(j:Int)-1:=by simpa using hge
                   omega
  obtain⟨x,hxk,hxe,_⟩:=round ik us (j-1) aeA (by omega)
  have ej:((j:Int)-1).toNat=j-1:=by omega
  have hfd:=aai (f:=f) hxk
  rw[show j-1+1=j by omega] at hfd
  refine aZ ?_
  refine dx ([]) (p2 @ej @hxe) ?_ ?_
  ·exact qP
  try refine nv ?_
  refine aj ?_ ?_
  ·intro he
   have he':x.line=f:=by
    obtain⟨a,b⟩:=f
    simp at he
    simp[jo.line,he.1,he.2]
   rw[if_pos he'] at hfd
   try refine nx (p2 @ej @hxe) ?_
   refine⟨j-1,by omega,by omega,?_⟩
   rw[hfd]
   have ej2:((j-1:Nat):Int)=(j:Int)-1:=by omega
   (refine bi (fun i=>i) rfl ?_ ⟨?_,?_,?_,bW hx (by simp[ae,Ab.get])⟩<;>first|(simp only[kE,ay, ↓reduceIte,Nat.reduceEqDiff,reduceCtorEq,bM,ej2];done)|simp[aH,ax,ah,Ab.get,aJ,cZ,aB,bF,aS,aO,aQ,aT,aP,ae,List.flatten,bM,ej2])
  intro he
  have he':¬x.line=f:=by
   intro e
   subst e
   simp[jo.line] at he
  rw[if_neg he'] at hfd
  try refine nv ?_
  refine⟨j-1,by omega,by omega,?_⟩
  rw[hfd]
  have ej2:((j-1:Nat):Int)=(j:Int)-1:=by omega
  (refine bi (fun i=>i) rfl ?_ ⟨?_,?_,?_,bW hx (by simp[ae,Ab.get])⟩<;>first|(simp only[kE,ay, ↓reduceIte,Nat.reduceEqDiff,reduceCtorEq,bM,ej2];done)|simp[aH,ax,ah,Ab.get,aJ,cZ,aB,bF,aS,aO,aQ,aT,aP,ae,List.flatten,bM,ej2])
 intro hge
 have hj0:j=0:=by have:¬0≤(j:Int)-1:=by simpa using hge
                  omega
 subst hj0
 rw[akx]
 rcases Nl (f:=f) (l:=us) with⟨hno,_⟩|⟨htin,htl⟩
 ·rw[hno]
  try refine nv ?_
  refine aj ?_ ?_
  rotate_left
  ·intro h;cases h
  intro _
  (repeat (first|refine nv ?_|refine cf (haw) ?_))
  refine rA [] ?_
  refine⟨?_,rfl⟩
  rfl
 generalize Il f us=t at htin htl
 have hxB:=hTB t htin
 have htm2:t∈xw d m:=by rw[hus];exact htin
 have hkd:1≤t.kind∧t.kind≤3:=by
  rcases hxB.kind with⟨h,_⟩|⟨h,_⟩
  ·omega
  ·split at h<;>omega
 try refine nv ?_
 refine aj ?_ ?_
 ·intro h;exfalso;simp at h;omega
 intro _
 try refine nv ?_
 refine aj ?_ ?_
 ·intro _
  (repeat (first|refine nv ?_|refine cf (haw) ?_))
  refine rA [] ?_
  refine⟨?_,rfl⟩
  rfl
 intro hsz2
 have hts2:t.to.size≤200∧t.move.size≤200:=by
  simp at hsz2;omega
 have hF:Fits d t:=hxB.fits hts2.1 hts2.2
 have hfb:mf d t=true:=by simp[mf,hF]
 have hCh:=Ji d hDd.good oN hDd.num t (by omega) (by omega)
 rw[hfb] at hCh
 simp only[if_true] at hCh
 have hcp:=Xi t.kind
 have hcl4:=PP t.kind
 have hp0:=ahE hkd
 have hcm:=fun i=>afa (k:=t.kind) hkd (i:=i)
 generalize Lc t.kind=es at hCh hcp hcl4 hp0 hcm
 (repeat (first|refine nv ?_|refine cf (hCh) ?_))
 refine aj ?_ ?_
 ·intro h;exfalso
  have:es=[]:=by simpa using h
  rw[this] at hcp;simp at hcp
 intro _
 have e00:Int.toNat 0=0:=rfl
 have ge0:=bH xW es 0 0 hcp
 have ek:Int.toNat (k:Int)=k:=rfl
 try refine nx (p4 @e00 @ge0 @ek (aiG cs)) ?_
 refine kL (ι:=Int) (fun ch=>⟨201,[(1,iV m),(3, .c (.d (.ps 1 (cs.map xW)))),(9, .c (.ptr 9 0)),(11, .c (.ptr 11 0)),(14, .c (.ptr 14 0)),(15,I .i64 k),(16,I .i64 (d0.revs.length+2)),(17,I .i64 k),(18, .c (.ptr 18 0)),(20, .c (.d (.ps 1 (es.map xW)))),(22,I .i64 ch)],[(9, .box ((Ai w).map C.d)),(11, .box ((iY d).map C.d)),(14, .box ((iR f).map C.d)),(18, .box ((ik t).map C.d))]⟩) (fun ch=>iD t.kind ch=true) ?_ ?_
 ·refine aj ?_ ?_
  ·intro h28
   have h28':k<cs.length∧0≤cs.getD k 0:=by
    by_cases hkc:k<cs.length
    ·refine⟨hkc,?_⟩
     simpa[hkc] using h28
    ·simp[hkc] at h28
   obtain⟨hkc,hge0⟩:=h28'
   have hce:=bH xW cs k 0 hkc
   generalize cs.getD k 0=cv at hge0 hce
   have hel:(0:Int)<(es.length:Int):=by omega
   have hmod:0≤cv%(es.length:Int):=Int.emod_nonneg _ (by omega)
   have hmod2:cv%(es.length:Int)<(es.length:Int):=Int.emod_lt_of_pos _ hel
   have gem:=bH xW es (cv%(es.length:Int)).toNat 0 (by omega)
   try refine nx (p2 @ek @hce) ?_
   refine afW (by simp) rfl rfl hge0 hel ?_
   refine fE ?_
   try refine nx @gem ?_
   refine⟨rfl,es.getD (cv%(es.length:Int)).toNat 0,hcm _ (by omega),?_⟩
   exact bQ
  intro _
  refine aZ ?_
  refine⟨rfl,es.getD 0 0,hcm 0 hcp,?_⟩
  exact bQ
 intro ch hch
 have hRs0:=xU d hDd.good oN hDd.num t (by omega) (by omega) (es.getD 0 0) zRs
 rw[D6 hfb hp0.1 hp0.2] at hRs0
 have hRs1:=xU d hDd.good oN hDd.num t (by omega) (by omega) ch w
 obtain⟨A,B',e,hre,hcase⟩:∃(A B':D) (e:Int),Qw d t ch w= .tup [(false,[.d A]),(false,[.d B']),pI e]∧((e=0∧lC t ch w=true∧A= .ps 12 ((iy d t ch w).map bK)∧B'= .ps 6 [af (dI d t ch w)])∨e=171):=by
  by_cases hok:lC t ch w=true
  ·exact⟨_,_,0,D6 hfb hch hok, .inl ⟨rfl,hok,rfl,rfl⟩⟩
  ·exact⟨_,_,171,DK hfb (by rw[hch];simpa using hok), .inr rfl⟩
 rw[hre] at hRs1
 (repeat (first|refine nv ?_|refine cf (hRs1) ?_))
 refine kL (ι:=Int×y9) (fun i=>⟨201,[(1,iV m),(3, .c (.d (.ps 1 (cs.map xW)))),(9, .c (.ptr 9 0)),(11, .c (.ptr 11 0)),(14, .c (.ptr 14 0)),(15,I .i64 (k+1)),(16,I .i64 (d0.revs.length+2)),(17,I .i64 k),(18, .c (.ptr 18 0)),(21,I .i64 0),(23, .c (.d (.ps 12 ((iy d t i.1 i.2).map bK)))),(24, .c (.d (.ps 6 [af (dI d t i.1 i.2)])))],[(9, .box ((Ai w).map C.d)),(11, .box ((iY d).map C.d)),(14, .box ((iR f).map C.d)),(18, .box ((ik t).map C.d))]⟩) (fun i=>vH d t i.1 i.2) ?_ ?_
 ·refine aj ?_ ?_
  ·intro _
   try refine nv ?_
   refine dx ([(173, .tup [(false,[.d (.ps 12 ((iy d t (es.getD 0 0) zRs).map bK))]),(false,[.d (.ps 6 [af (dI d t (es.getD 0 0) zRs)])]),pI 0])]) (p2 @e00 @ge0) ?_ ?_
   ·exact eQ @hRs0
   try refine nv ?_
   refine⟨rfl,(es.getD 0 0,zRs),⟨hF,hp0.1,hp0.2⟩,?_⟩
   exact bQ
  intro h
  rcases hcase with⟨rfl,hok,rfl,rfl⟩|rfl
  ·refine aZ ?_
   refine⟨rfl,(ch,w),⟨hF,hch,hok⟩,?_⟩
   exact bQ
  ·cases h
 rintro⟨ch2,w2⟩ hR
 simp only at hR⊢
 have hnx:=Yc d (by omega) (fun v hv=>by have:=hDd.chg v hv;omega)
 rw[show d.revs.foldl (fun n v=>max n (v.chg+1)) 1=IR d from rfl] at hnx
 have hAp:=fun hn=>Yf hDd (XT hDd hR hn) hI.ne (fun r hr=>aa7 hDd hR hr)
 have hSt:=fun n hn (ha:Yj d (dA d t ch2 w2) n) htot hlen=>Zh (n:=n) hI htm2 htl hR hn ha htot hlen
 have hcE:dA d t ch2 w2=⟨IR d,ByteArray.empty,ByteArray.empty,iy d t ch2 w2,[dI d t ch2 w2]⟩:=rfl
 generalize iy d t ch2 w2=els at hcE⊢
 generalize dI d t ch2 w2=rc at hcE⊢
 generalize dA d t ch2 w2=c at hAp hcE hSt
 try refine nv ?_
 refine aj ?_ ?_
 ·intro h;cases h
 intro _
 (repeat (first|refine nv ?_|refine cf (hnx) ?_))
 refine aj ?_ ?_
 ·intro _
  (repeat (first|refine nv ?_|refine cf (haw) ?_))
  refine rA [] ?_
  refine⟨?_,rfl⟩
  rfl
 intro hn
 have hn:IR d≤1073741824:=by simpa using hn
 have hAp:=hAp hn
 have hAp2:AC Tryz.prog 21 [lT d, .agg [.d (.v (.int .i64 (IR d))), .d (.v (.string ByteArray.empty)), .d (.v (.string ByteArray.empty)), .d (.ps 12 (els.map bK)), .d (.ps 6 [af rc])]] [] (fun r st=>(∃x,Uu d c x∧r= .tup [(true,[.d x.1, .d x.2.1]),pI x.2.2])∧st=[]):=by
  rw[hcE] at hAp⊢;exact hAp
 refine aZ ?_
 refine YH (wr:=false) [(186,I .i64 (IR d))] [] [0,1,2,3,4,5,10] 6 190 (fun x:D×D×Int=> .tup [(true,[.d x.1, .d x.2.1]),pI x.2.2]) (Uu d c) (.v (.slice none 0 0), .v (.slice none 0 0),110) (.inr rfl) (by kernel_rfl) (fun x=>by simp only[kZ,kD,kk,Nat.reduceAdd,Nat.reduceLT,Nat.reduceEqDiff, ↓reduceIte,reduceCtorEq];first|done|rfl) ?_ (fun x=>by kernel_rfl) (by kernel_rfl) (fun _ _=>by kernel_rfl) (by kernel_rfl) (fun _ _=>by simp only[agV,aj0,List.getElem?_cons_zero,List.getElem?_cons_succ];repeat' (first|(with_reducible rfl)|refine congr (congrArg List.cons ?_) ?_|refine congrArg some ?_|kernel_rfl)) ?_
 ·intro x hx
  (simp only[All,List.cons_append,List.nil_append,dB,afr,agW,ajr,forall_eq_or_imp,forall_eq,ahu,ajG,implies_true,ae1,List.length_cons,List.length_nil];repeat' (first|exact trivial|exact hnx|exact hAp2|refine And.intro ?_ ?_|(rintro _ ⟨⟩;done)|assumption|rfl|omega|(simp[bF,aS,aO,aQ,aT,aP,ah,aB,cZ,aJ,bM,ae,Ab.get];done)))
 rintro⟨c1,c2,c3⟩ hcr
 rcases hcr with⟨n,ha,hnl,htot,hx⟩|hx
 ·cases hx
  have hI2:=hSt n hn ha htot hnl
  try refine nv ?_
  refine aj ?_ ?_
  ·intro h;cases h
  intro _
  try refine nv ?_
  refine⟨(k+1,n),hI2,by simp;omega,?_⟩
  exact bQ
 ·cases hx
  try refine nv ?_
  refine aj ?_ ?_
  rotate_left
  ·intro h;cases h
  intro _
  try refine nv ?_
  refine so ([(198,B true)]) ?_ ?_
  ·exact eQ @haw
  try refine nv ?_
  refine rA [] ?_
  refine⟨?_,rfl⟩
  rfl
end Go.Proofs.YtcpgicfphakdaaaGreatDoor
