/- A part of the proof. -/
import Derived.Test.YtcpgicfphakdaaaGreatDoorRY17
import Derived.Test.YtcpgicfphakdaaaGreatDoorRY15
import Derived.Test.YtcpgicfphakdaaaGreatDoorRK27a
import Derived.Test.YtcpgicfphakdaaaGreatDoorRK15
set_option maxRecDepth 100000
set_option maxHeartbeats 32000000
set_option linter.all false
namespace Go.Proofs.YtcpgicfphakdaaaGreatDoor
section
open Go.Ab Tys
variable [Dr]
structure NOK (d:aW) (k:Nat) (N:List (bJ×bJ)):Prop where
 has:∀(i:Nat) (v:Rev),i<k→d.revs[i]? =some v→¬v.act=5→ai N (fileOf v)=some (first d v)
 no:∀g,(∀(i:Nat) (v:Rev),i<k→d.revs[i]? =some v→¬v.act=5→¬fileOf v=g)→ai N g=none
theorem NOK.line {d:aW} (hg:Good d.revs) (hd:d.revs.length≤512) {k:Nat} {N:List (bJ×bJ)} (h:NOK d k N) {v:Rev} (hv:d.revs[k]? =some v) (v5:¬v.act=5):Cj N v=first d v:=by
 unfold Cj
 split
 ·rename_i h1
  exact(fM (iI h1)).symm
 ·rename_i h1
  obtain⟨j,u,hj,hu,eb,u5⟩:=QL hg hd hv h1
  have hf:=(ug hg hd hv hu v5 h1 eb).1
  have hl:=h.has j u hj hu u5
  rw[hf]
  split
  ·rename_i h4
   rw[show(⟨v.frm,v.fnum⟩:bJ)=fileOf u by rw[←eb];simp[di,h4],hl];rfl
  ·rename_i h4
   rw[show(⟨v.path,v.num-1⟩:bJ)=fileOf u by rw[←eb];simp[di,h4,h1],hl];rfl
theorem NOK.put {d:aW} (hg:Good d.revs) {k:Nat} {N:List (bJ×bJ)} (h:NOK d k N) {v:Rev} (hv:d.revs[k]? =some v) (v5:¬v.act=5):NOK d (k+1) (eH N (fileOf v) (first d v)):=by
 constructor
 ·intro i u hi hu u5
  rw[fJ]
  by_cases e:fileOf u=fileOf v
  ·have:=bP hg hu hv e
   subst this;rw[hu] at hv;cases hv;simp
  ·rw[if_neg e]
   refine h.has i u ?_ hu u5
   rcases ajE i k with h|h
   ·exact h
   ·exfalso
    have:i=k:=by omega
    subst this;rw[hu] at hv;cases hv;exact e rfl
 ·intro g hg'
  rw[fJ]
  have:=hg' k v (by omega) hv v5
  rw[if_neg fun e=>this e.symm]
  exact h.no g fun i u hi=>hg' i u (by omega)
theorem NOK.skip {d:aW} {k:Nat} {N:List (bJ×bJ)} (h:NOK d k N) {v:Rev} (hv:d.revs[k]? =some v) (v5:v.act=5):NOK d (k+1) N:=by
 constructor
 ·intro i u hi hu u5
  refine h.has i u ?_ hu u5
  rcases ajE i k with h|h
  ·exact h
  ·exfalso
   have:i=k:=by omega
   subst this;rw[hu] at hv;cases hv;exact u5 v5
 ·intro g hg'
  exact h.no g fun i u hi=>hg' i u (by omega)
theorem NOK.fin {d:aW} (hg:Good d.revs) {N:List (bJ×bJ)} (h:NOK d d.revs.length N) (p:akK) (n:Int):ai N ⟨p,n⟩=yf d p n:=by
 cases hi:yf d p n with
 |some f=>
  obtain⟨j,v,a,b,c,e⟩:=(lY hg).1 hi
  have:=h.has j v (adK.1 a).1 a c
  rw[b,e] at this;exact this
 |none=>
  refine h.no _ fun i v _ hv v5 e=>?_
  rw[(lY hg).2 ⟨i,v,hv,e,v5,rfl⟩] at hi;cases hi
open z50 in
theorem PW (d:aW) (c:iZ) (hg:Good d.revs) (hN:d.revs.length≤512):AC Tryz.prog 50 [lT d,Px c] [] (fun r st=>∃L N,(r= .c (.ptr 2000 0)∧(∀p,ai L p=aU d p)∧∀p n,ai N ⟨p,n⟩=yf d p n)∧st=ku d c L [] N):=by
 refine df Tryz.func50 Tryz.ntmps50 fun x hx=>?_
 try refine nv ?_
 refine au (ι:=Nat×List (akK×Rev)×List (bJ×bJ)) (I:=fun i=>⟨67,[(5, .c (.ptr 2000 0)),(18,qI d.revs),(19,I .i64 d.revs.length),(20,I .i64 i.1)],ku d c i.2.1 [] i.2.2⟩)
  (Inv:=fun i=>i.1≤d.revs.length∧(∀p,ai i.2.1 p=((d.revs.take i.1).filter fun u=>decide (u.path=p)).getLast?)∧NOK d i.1 i.2.2) (μ:=fun i=>d.revs.length-i.1) (0,[],[]) ⟨by simp,fun p=>by simp[ai],⟨fun i v h=>by omega,fun g _=>rfl⟩⟩ ?_ ?_
 ·exact uZ (fun i=>if i=2000 then 16 else if i=2001 then 12 else if i=2002 then 13 else if i=2003 then 14 else i)
 rintro⟨k,L,N⟩ ⟨hk,hL,hNo⟩
 simp only at hk hL hNo⊢
 try refine nv ?_
 refine aj ?_ ?_
 rotate_left
 ·intro hge
  have hk':k=d.revs.length:=by have:¬k<d.revs.length:=by simpa using hge
                               omega
  rw[hk',afu] at hL
  rw[hk'] at hNo
  try refine nv ?_
  refine rA ((ku d c L [] N)) ?_
  exact⟨L,N,⟨rfl,hL,fun p n=>hNo.fin hg p n⟩,rfl⟩
 intro hlt
 have hlt':k<d.revs.length:=by simpa using hlt
 obtain⟨v,hv,he,htk⟩:=round aA d.revs k ag hlt'
 have hlk:=IJ L v.path
 have hty:=Yh L
 have hvn:=hg.num k v hv
 have hpre:∀b,ai L v.path=some b→b.num<v.num:=by
  intro b hb
  rw[hL] at hb
  obtain⟨j,hj,hp,_⟩:=(Ky (fun u:Rev=>decide (u.path=v.path)) (d.revs.take k)).1 b hb
  have hjk:j<k:=by have:=(adK.1 hj).1;simp at this;omega
  rw[ag2,if_pos hjk] at hj
  exact(hg.path j k b v hjk hj hv (by simpa using hp)).2
 have hins:dF (false,[C.d (.v (.string v.path))]) (true,(aA v).map C.d) ((bz pV vRv L).map dJ)=(bz pV vRv (eH L v.path v)).map dJ:=ut (ve:=vRv) Ce L v.path v
 simp only[aA,agV,aj0] at hins
 have hL2:∀p,ai (eH L v.path v) p=((d.revs.take (k+1)).filter fun u=>decide (u.path=p)).getLast?:=by
  intro p
  rw[htk,YS,fJ,hL]
 try refine nx @he ?_
 refine kL (ι:=Option Rev) (fun o=>⟨67,[(5, .c (.ptr 2000 0)),(7, .c (.ptr 7 0)),(8, .c (.ptr 8 0)),(9,B o.isSome),(18,qI d.revs),(19,I .i64 d.revs.length),(20,I .i64 k)],ku d c L [] N++[(7, .box ((aA v).map C.d)),(8, .box ((aA (o.getD ag)).map C.d))]⟩) (fun o=>o=ai L v.path) ?_ ?_
 ·cases ho:ai L v.path with
  |none=>
   rw[ho] at hlk
   refine Bg (wr:=false) ([]:List (Nat×AV)) (by simp only[kD,kk,Nat.reduceAdd,Nat.reduceLT,Nat.reduceEqDiff, ↓reduceIte,reduceCtorEq,hlk,Option.map_none,Option.getD,Option.isSome];first|done|rfl) ?_ ?_
   ·exact eQ @hty
   refine⟨rfl,none,rfl,?_⟩
   (refine bi (fun i=>i) rfl ?_ ⟨?_,?_,?_,bW hx (by simp[ae,Ab.get])⟩<;>first|(simp only[kE,ay, ↓reduceIte,Nat.reduceEqDiff,reduceCtorEq,ag,bM];done)|simp[aH,ax,ah,Ab.get,aJ,cZ,aB,bF,aS,aO,aQ,aT,aP,ae,List.flatten,ag,bM])
  |some b=>
   rw[ho] at hlk
   refine Bg (wr:=false) ([]:List (Nat×AV)) (by simp only[kD,kk,Nat.reduceAdd,Nat.reduceLT,Nat.reduceEqDiff, ↓reduceIte,reduceCtorEq,hlk,Option.map_some,Option.getD,Option.isSome];first|done|rfl) ?_ ?_
   ·exact eQ @hty
   refine⟨rfl,some b,rfl,?_⟩
   exact bQ
 rintro o ho
 try refine nv ?_
 refine aj ?_ ?_
 rotate_left
 ·intro h
  exfalso
  cases o with
  |none=>simp at h
  |some b=>
   have:=hpre b ho.symm
   simp[this] at h
 intro _
 have hfs:=fun h5=>hNo.line hg hN hv h5
 have hput:=fun h5=>hNo.put hg hv h5
 generalize hf:Cj N v=f at hfs
 have hcl:=JW d c (eH L v.path v) [] N v (by have:=(adK.1 hv).1;omega)
 rw[hf] at hcl
 have hins3:dF (true,[C.d (.v (.string v.path)),C.d (.v (.int .i64 v.num))]) (true,(iR f).map C.d) ((bz kF Zc N).map dJ)=(bz kF Zc (eH N ⟨v.path,v.num⟩ f)).map dJ:=ut (ve:=Zc) yQ N ⟨v.path,v.num⟩ f
 simp only[iR,agV,aj0] at hins3
 have hty3:∀e∈(bz kF Zc N).map dJ,e.1.1=true∧cu [.str, .int .i64] e.1.2:=by
  intro e he
  simp only[bz,agh] at he
  obtain⟨_,⟨f,_,rfl⟩,rfl⟩:=he
  exact⟨rfl,by simp[dJ,jY,cu]⟩
 refine aZ ?_
 refine dx ([]) @hins ?_ ?_
 ·exact eQ @hty
 try refine nv ?_
 refine aj ?_ ?_
 rotate_left
 ·intro h5
  have h5':v.act=5:=by simpa using h5
  try refine nv ?_
  refine⟨(k+1,eH L v.path v,N),⟨by simp;omega,hL2,hNo.skip hv h5'⟩,by simp;omega,?_⟩
  exact bQ
 intro h5
 have h5':¬v.act=5:=by simpa using h5
 have hput:=hput h5'
 rw[←hfs h5'] at hput
 refine aZ ?_
 refine uN (wr:=false) [(64,BO f)] [(64,(ku d c (eH L v.path v) [] N,none))] (by kernel_rfl) (by simp only[wZ.eq_1,wZ.eq_2,uQ.eq_def,H8.eq_def,tZ.eq_def,Option.getD,kD,kk,Nat.reduceAdd,Nat.reduceLT,Nat.reduceEqDiff, ↓reduceIte,reduceCtorEq,hins3];first|done|rfl) ?_ (by kernel_rfl) ?_
 ·(simp only[All,List.cons_append,List.nil_append,dB,afr,agW,ajr,forall_eq_or_imp,forall_eq,ahu,ajG,implies_true,ae1,List.length_cons,List.length_nil];repeat' (first|exact trivial|exact hcl|exact hty3|refine And.intro ?_ ?_|(rintro _ ⟨⟩;done)|assumption|rfl|omega|(simp[bF,aS,aO,aQ,aT,aP,ah,aB,cZ,aJ,bM,ae,Ab.get];done)))
 try refine nv ?_
 refine⟨(k+1,eH L v.path v,eH N ⟨v.path,v.num⟩ f),⟨by simp;omega,hL2,hput⟩,by simp;omega,?_⟩
 exact bQ
def Kw (c:iZ) (k:Nat):List (akK×ou):=if k≤1 then [] else MK c.edits
section
variable {d:aW} {c:iZ} {r0:dZ} {s0:Rev} {f0:bJ}
theorem abb (hg:Good d.revs) (hd:d.revs.length≤512) (hd2:d.recs.length≤512) (hC:adX d c r0 s0 f0) (L:List (akK×Rev)) (N:List (bJ×bJ)) (hL:∀p,ai L p=aU d p) (hN:∀p n,ai N ⟨p,n⟩=yf d p n) (k:Nat) (hk:k<5):
 AC Tryz.prog (FY.getD k 0) [.c (.ptr 2000 0)] (ku d c L (Kw c k) N) (fun r st=>((r=I .i64 0∧(k=4→d.revs.length+c.edits.length≤512∧d.recs.length+c.recs.length≤512))∨r=I .i64 110)∧st=ku d c L (Kw c (k+1)) N):=by
 have hcl:c.recs.length=1:=by rw[hC.rc];rfl
 obtain⟨z,hz1,hz2,hz3⟩:=hC.rcd
 match k,hk with
 |0,_=>exact(ZW d c L [] N (by omega) hC.len (by omega) hC.num hC.old).mono fun r st ⟨h1,h2⟩=>⟨.inl ⟨h1,fun h=>by omega⟩,h2⟩
 |1,_=>exact(V7 d c L N hL hC.ed hC.ord (by have:=hC.len;omega)).mono fun r st ⟨h1,h2⟩=>⟨.inl ⟨h1,fun h=>by omega⟩,h2⟩
 |2,_=>exact(VE d c L (MK c.edits) N (by have:=hC.len;omega) hC.away hC.here).mono fun r st ⟨h1,h2⟩=>⟨.inl ⟨h1,fun h=>by omega⟩,h2⟩
 |3,_=>exact(PL d c L (MK c.edits) N hL hN hg hd r0 z s0 f0 hC.rc hz1 hz3 (hC.ed z hz2).prev).mono fun r st ⟨h1,h2⟩=>⟨.inl ⟨h1,fun h=>by omega⟩,h2⟩
 |4,_=>
  exact(aak d c L (MK c.edits) N (by omega) (by omega) (by have:=hC.len;omega) (by omega)).mono fun r st ⟨h1,h2⟩=>⟨by
   rcases h1 with⟨a,b,e⟩|h
   ·exact .inl ⟨a,fun _=>⟨b,e⟩⟩
   ·exact .inr h,h2⟩
def Ij (d:aW) (c:iZ) (k:Nat):List Rev:=d.revs++(c.edits.take k).map (Fe d c)
theorem abg {k:Nat} (hk:k≤c.edits.length):(Ij d c k).length=d.revs.length+k:=by simp[Ij];omega
def z21.kk:=p2 (U6 kB kS WL Tryz.ntmps21 Tryz.underlying133 Tryz.underlying27 Tryz.underlying60 iH dM pY mJ abd adl jQ vT) (U6 kW DW lQ qx afE afy afp qU wu ny iq BP y7 wo Tryz.results21)
open z21 in
theorem VL (hg:Good d.revs) (hd:d.revs.length≤512) (hd2:d.recs.length≤512) (hC:adX d c r0 s0 f0) (h0:d.revs≠[]) (hdr:∀r∈d.recs,IM r) (hcr:∀r∈c.recs,IM r):
 AC Tryz.prog 21 [lT d,Px c] [] (fun r st=>((∃rs:List dZ,rs.Perm (d.recs++c.recs)∧d.revs.length+c.edits.length≤512∧d.recs.length+c.recs.length≤512∧r= .tup [(true,(iY ⟨d.revs++c.edits.map (Fe d c),rs⟩).map C.d),pI 0])∨r= .tup [(true,[Fb,Fb]),pI 110])∧st=[]):=by
 have hcl:c.recs.length=1:=by rw[hC.rc];rfl
 have hel:=hC.len
 have hst:=fun L N hL hN k hk=>abb hg hd hd2 hC L N hL hN k hk
 have hpv:=fun e he=>(hC.ed e he).prev
 refine df Tryz.func21 Tryz.ntmps21 fun x hx=>?_
 try refine nv ?_
 refine nJ [] (PW d c hg (by omega)) ?_
 rintro r st' ⟨L,N,⟨rfl,hL,hN⟩,rfl⟩<;>refine nP ?_
 have hst:=fun k hk=>hst L N hL hN k hk
 try refine nv ?_
 refine nJ ((ku d c L [] N)) (acI d c L [] N) ?_
 rintro rv9 st' ⟨rfl,rfl⟩<;>refine nP ?_
 try refine nv ?_
 refine au (ι:=Nat) (I:=fun k=>⟨60,[(2, .c (.ptr 2 0)),(3, .c (.ptr 3 0)),(4, .c (.ptr 4 0)),(5,I .i64 0),(6, .c (.ptr 2000 0)),(17, .c (.ms 13 1 0 5)),(18,I .i64 5),(19,I .i64 k)],ku d c L (Kw c k) N++[(13, .arr 1 (FY.map fnC)),(2, .box ((iY d).map C.d)),(3, .box ((gm c).map C.d)),(4, .box [Fb,Fb])]⟩)
  (Inv:=fun k=>k≤5∧(k=5→d.revs.length+c.edits.length≤512∧d.recs.length+c.recs.length≤512)) (μ:=fun k=>5-k) 0 ⟨by omega,fun h=>by omega⟩ ?_ ?_
 ·rw[show Kw c 0=[] from rfl]
  exact bQ
 rintro k ⟨hk,hroom⟩
 try refine nv ?_
 refine aj ?_ ?_
 ·intro hlt
  have hlt':k<5:=by have:((k:Nat):Int)<5:=by simpa using hlt
                    omega
  have he:[fnC 111,fnC 112,fnC 113,fnC 114,fnC 115].getD k []=fnC (FY.getD k 0):=by
   match k,hlt' with
   |0,_=>rfl
   |1,_=>rfl
   |2,_=>rfl
   |3,_=>rfl
   |4,_=>rfl
  have hs:=hst k hlt'
  generalize FY.getD k 0=f at he hs
  generalize Kw c k=E at hs⊢
  generalize hE2:Kw c (k+1)=E2 at hs
  try refine nx @he ?_
  refine acm ((ku d c L E N)) (by simp) (by simp only[kV, ↓reduceIte,Nat.reduceEqDiff,reduceCtorEq];first|done|rfl) ⟨by simp[Ab.get],by simp[bF,aS,aO,aQ,aT,aP,ah,aB,cZ,ae,Ab.get],by simp[Cap.toC,aJ,cZ,aB,ae,Ab.get]⟩ (hs) ?_
  rintro rv9 st' ⟨hr,rfl⟩<;>(refine⟨by simp[lH,ae,Ab.get],?_⟩;simp only[kP,Nat.reduceEqDiff, ↓reduceIte,reduceCtorEq,List.cons_append,List.nil_append])
  rcases hr with⟨rfl,hr2⟩|rfl
  ·try refine nv ?_
   refine aj ?_ ?_
   ·intro h;cases h
   intro _
   try refine nv ?_
   refine⟨k+1,⟨by omega,fun h=>hr2 (by omega)⟩,by omega,?_⟩
   rw[hE2]
   exact bQ
  ·try refine nv ?_
   refine aj ?_ ?_
   rotate_left
   ·intro h;cases h
   intro _
   try refine nv ?_
   refine rA [] ?_
   refine⟨?_,rfl⟩
   exact .inr rfl
 intro hge
 have hk5:k=5:=by have:¬((k:Nat):Int)<5:=by simpa using hge
                  omega
 subst hk5
 obtain⟨q1,q2⟩:=hroom rfl
 have hcl2:=Y4 d.revs h0 (by omega)
 generalize Kw c 5=E
 have hcc:AC Tryz.prog 53 [.c (.ms 37 1 0 2)] [(37, .arr 1 [[.d (.ps 6 (d.recs.map af))],[.d (.ps 6 (c.recs.map af))]])] (fun r st=>r= .c (.ms 46 6 0 (d.recs++c.recs).length)∧st=[(37, .dead),(46,ay 6 ((d.recs++c.recs).map af))]):=by
  have hls:∀l∈[d.recs,c.recs],l.length≤1000:=by
   intro l hl
   simp only[afr,agW,ajr] at hl
   rcases hl with rfl|rfl<;>omega
  have:=WJ [d.recs,c.recs] (by simp) hls
  simpa[ay,GU] using this
 have hRR:∀r∈d.recs++c.recs,IM r:=fun r hr=>(afs.1 hr).elim (hdr r) (hcr r)
 have hRl:(d.recs++c.recs).length≤1000000:=by rw[afI];omega
 generalize hRd:d.recs++c.recs=R at hcc hRR hRl
 try refine nv ?_
 refine aZ ?_
 refine uN (wr:=false) [(32, .c (.ms 7 12 0 d.revs.length)),(38, .c (.ms 46 6 0 R.length))] [(32,([],some [(7,ay 12 (d.revs.map aA))])),(38,([(37, .arr 1 [[.d (.ps 6 (d.recs.map af))],[.d (.ps 6 (c.recs.map af))]])],some [(37, .dead),(46,ay 6 (R.map af))]))] (by kernel_rfl) (by simp only[wZ.eq_1,wZ.eq_2,uQ.eq_def,H8.eq_def,tZ.eq_def,Option.getD,kD,kk,Nat.reduceAdd,Nat.reduceLT,Nat.reduceEqDiff, ↓reduceIte,reduceCtorEq];first|done|rfl) ?_ (by kernel_rfl) ?_
 ·(simp only[All,List.cons_append,List.nil_append,dB,afr,agW,ajr,forall_eq_or_imp,forall_eq,ahu,ajG,implies_true,ae1,List.length_cons,List.length_nil];repeat' (first|exact trivial|exact hcl2|exact hcc|refine And.intro ?_ ?_|(rintro _ ⟨⟩;done)|assumption|rfl|omega|(simp[bF,aS,aO,aQ,aT,aP,ah,aB,cZ,aJ,bM,ae,Ab.get];done)))
 have a1:Ij d c 0=d.revs:=by simp[Ij]
 try refine nv ?_
 refine au (ι:=Nat) (I:=fun k=>⟨60,[(4, .c (.ptr 4 0)),(6, .c (.ptr 2000 0)),(10, .c (.ptr 10 0)),(41, .c (.d (.ps 12 (c.edits.map bK)))),(42,I .i64 c.edits.length),(43,I .i64 k)],ku d c L E N++[(4, .box [Fb,Fb]),(10, .box [.ms 7 12 0 (Ij d c k).length, .ms 46 6 0 R.length]),(7,ay 12 ((Ij d c k).map aA)),(46,ay 6 (R.map af))]⟩)
  (Inv:=fun k=>k≤c.edits.length) (μ:=fun k=>c.edits.length-k) 0 (by omega) ?_ ?_
 ·rw[a1]
  exact bQ
 intro k hk
 have hal:=abg (d:=d) hk
 try refine nv ?_
 refine aj ?_ ?_
 ·intro hlt
  have hlt':k<c.edits.length:=by simpa using hlt
  obtain⟨z,hz,he,htk⟩:=round bK c.edits k bZ hlt'
  have hs1:Ij d c (k+1)=Ij d c k++[Fe d c z]:=by simp only[Ij,htk,ajA,agV,aj0,ahJ]
  have hll:((ai L z.path).getD ag).num=bf d z.path:=by rw[hL];rfl
  have hln:=jV hg z.path
  have hcv:=XZ d c L E N z (by rw[hll];omega)
  rw[hll] at hcv
  generalize Ij d c k=A at hs1 hal⊢
  try refine nx @he ?_
  refine aZ ?_
  refine uN (wr:=false) [(51,BL (Fe d c z))] [(51,(ku d c L E N,none))] (by kernel_rfl) (by simp only[wZ.eq_1,wZ.eq_2,uQ.eq_def,H8.eq_def,tZ.eq_def,Option.getD,kD,kk,Nat.reduceAdd,Nat.reduceLT,Nat.reduceEqDiff, ↓reduceIte,reduceCtorEq];first|done|rfl) ?_ (by kernel_rfl) ?_
  ·(simp only[All,List.cons_append,List.nil_append,dB,afr,agW,ajr,forall_eq_or_imp,forall_eq,ahu,ajG,implies_true,ae1,List.length_cons,List.length_nil];repeat' (first|exact trivial|exact hcv|refine And.intro ?_ ?_|(rintro _ ⟨⟩;done)|assumption|rfl|omega|(simp[bF,aS,aO,aQ,aT,aP,ah,aB,cZ,aJ,bM,ae,Ab.get];done)))
  try refine nv ?_
  refine⟨k+1,by omega,by omega,?_⟩
  rw[hs1]
  exact uZ (fun i=>if i=7 then 53 else i)
 intro hge
 have hk':k=c.edits.length:=by have:¬k<c.edits.length:=by simpa using hge
                               omega
 have hfin:Ij d c k=d.revs++c.edits.map (Fe d c):=by rw[hk',Ij,afu]
 rw[hfin]
 generalize hA:d.revs++c.edits.map (Fe d c)=A
 refine aZ ?_
 refine gg ?_
 refine nJ ([(46,ay 6 (R.map af))]) (MC (l0:=R) R.length hRl R ⟨rfl, .refl _,hRR⟩) ?_
 rintro rv9 st' ⟨l',hl',rfl⟩<;>refine nP ?_
 refine bC (gW (bid:=10) (id:=7) (sz:=12) (j:=0) (ys:=A.map aA) (by decide) rfl rfl rfl (by simp)) ?_
 refine fE ?_
 refine bC (gW (bid:=10) (id:=46) (sz:=6) (j:=1) (ys:=l'.map af) (by decide) rfl rfl rfl (by rw[ae1];exact hl'.1.symm)) ?_
 refine fE ?_
 try refine nv ?_
 refine rA [] ?_
 refine⟨?_,rfl⟩
 exact .inl ⟨l',hl'.2.1,q1,q2,rfl⟩
end
end
section
open Go.Ab Tys
variable [zg]
def kJ (e:fA):Option Mc:=(mi e e.holes).map fun hs=>⟨e.right,hs⟩
def z61.kk:=p2 (p10 kB kS Tryz.ntmps61 Tryz.underlying77 Jb FH iW KG Pe Eh) (p10 DZ xN IV Ir QT NC nU Pj WZ Tryz.results61)
open z61 in
theorem ZP (e:fA) (hb:EB 10000 e):AC Tryz.prog 61 [adQ e] [] (fun r st=>r= .tup [abm (kJ e),pI (if(kJ e).isSome then 0 else 72)]∧st=[]):=by
 have hli:=UD e
 have hnr:=fun h hh=>acK e.line h hb.left hb.right (hb.holes h hh)
 have hR:kJ e=(mi e e.holes).map fun hs=>⟨e.right,hs⟩:=rfl
 rw[FM] at hR
 have hFs:=ad8 e
 have hF0:([]:List bV).filterMap (hF e)=[]:=rfl
 have hFd:∀h,hF e h=if(qX e.line h).2.1 then some (qX e.line h).1.right else none:=fun _=>rfl
 have hOd:∀h,hOK e h=decide ((qX e.line h).2.2=0):=fun _=>rfl
 have hml:∀l:List bV,(l.filterMap (hF e)).length≤l.length:=fun l=>List.length_filterMap_le ..
 have hlen:=hb.len
 generalize hme:(fun l:List bV=>l.filterMap (hF e))=mE at*
 have hmE:∀l:List bV,l.filterMap (hF e)=mE l:=fun l=>by rw[←hme]
 simp only[hmE] at hR hFs hF0 hml
 generalize hF e=hf at*
 generalize hOK e=ho at*
 generalize kJ e=R at hR
 generalize qX e.line=nl at*
 obtain⟨lf,rg,hs⟩:=e
 obtain⟨ps,rp⟩:=lf
 obtain⟨qs,rq⟩:=rg
 simp only at hR hnr hlen
 refine df Tryz.func61 Tryz.ntmps61 fun x hx=>?_
 try refine nv ?_
 refine mQ (MS (bid:=4) (j:=2) (id:=100) (sz:=2) rfl rfl rfl (by omega)) ?_
 refine fE ?_
 refine au (ι:=Nat) (I:=fun k=>⟨41,[(1, .c (.ptr 1 0)),(2, .c (.ptr 2 0)),(4, .c (.ptr 4 0)),(14,jR hs),(15,I .i64 hs.length),(16,I .i64 k)],
  [(1, .box ((fV ⟨⟨ps,rp⟩,⟨qs,rq⟩,hs⟩).map C.d)),(2, .box OH),(4, .box [.d (.ps 1 (qs.map encS)), .d (.v (.bool rq)), .ms 100 2 0 (mE (hs.take k)).length]),(100,ay 2 ((mE (hs.take k)).map bU))]⟩)
  (Inv:=fun k=>k≤hs.length∧(hs.take k).all ho=true) (μ:=fun k=>hs.length-k) 0 ⟨by omega,rfl⟩ ?_ ?_
 ·exact Dc @hF0
 rintro k ⟨hk,hall⟩
 have hlk:=hml (hs.take k)
 have hlk2:(hs.take k).length≤k:=by simp;omega
 try refine nv ?_
 refine aj ?_ ?_
 ·intro hlt
  have hlt':k<hs.length:=by simpa using hlt
  obtain⟨v,hv,he,htk⟩:=round bU hs k dG hlt'
  have hvm:=aem hv
  have hnv:=hnr v hvm
  have hsk:=hFs (hs.take k) v
  have hfv:=hFd v
  have hov:=hOd v
  rw[←htk] at hsk
  have hno:ho v=false→¬hs.all ho=true:=by
   intro h0 e
   rw[agr] at e;rw[e v hvm] at h0;cases h0
  generalize nl v=N at hnv hfv hov
  obtain⟨nr,nb,ne⟩:=N
  simp only at hfv hov
  cases nb with
  |false=>
   rw[if_neg (by simp)] at hfv
   rw[hfv,Option.toList,ajt] at hsk
   have hnv':AC Tryz.prog 128 [QY (fA.line ⟨⟨ps,rp⟩,⟨qs,rq⟩,hs⟩),aPat v] [] (fun x st=>x= .tup [(true,acv),pB false,pI ne]∧st=[]):=hnv
   try refine nx @he ?_
   refine dx ([(22,QY (fA.line ⟨⟨ps,rp⟩,⟨qs,rq⟩,hs⟩)),(24, .tup [(true,acv),pB false,pI ne])]) @he ?_ ?_
   ·exact ob2 @hli @hnv'
   try refine nv ?_
   refine aj ?_ ?_
   ·intro h
    have h':¬ne=0:=by simpa using h
    rw[ahK h'] at hov
    rw[if_neg (hno hov)] at hR
    try refine nv ?_
    refine rA [] ?_
    refine⟨?_,rfl⟩
    rw[hR];rfl
   intro h
   have h':ne=0:=by simpa using h
   rw[ajk h'] at hov
   try refine nv ?_
   refine aj ?_ ?_
   ·intro h;cases h
   intro _
   try refine nv ?_
   refine⟨k+1,⟨by omega,by rw[htk,ajY,hall];simp[hov]⟩,by omega,?_⟩
   rw[hsk]
   exact bQ
  |true=>
   rw[if_pos rfl] at hfv
   rw[hfv,Option.toList] at hsk
   have hnv':AC Tryz.prog 128 [QY (fA.line ⟨⟨ps,rp⟩,⟨qs,rq⟩,hs⟩),aPat v] [] (fun x st=>x= .tup [af8 nr,pB true,pI ne]∧st=[]):=hnv
   try refine nx @he ?_
   refine dx ([(22,QY (fA.line ⟨⟨ps,rp⟩,⟨qs,rq⟩,hs⟩)),(24, .tup [af8 nr,pB true,pI ne])]) @he ?_ ?_
   ·exact ob2 @hli @hnv'
   try refine nv ?_
   refine aj ?_ ?_
   ·intro h
    have h':¬ne=0:=by simpa using h
    rw[ahK h'] at hov
    rw[if_neg (hno hov)] at hR
    try refine nv ?_
    refine rA [] ?_
    refine⟨?_,rfl⟩
    rw[hR];rfl
   intro h
   have h':ne=0:=by simpa using h
   rw[ajk h'] at hov
   try refine nv ?_
   refine aj ?_ ?_
   rotate_left
   ·intro h;cases h
   intro _
   try refine nv ?_
   refine⟨k+1,⟨by omega,by rw[htk,ajY,hall];simp[hov]⟩,by omega,?_⟩
   rw[hsk]
   exact uZ (fun i=>if i=100 then 37 else i)
 intro hge
 have hk':k=hs.length:=by have:¬k<hs.length:=by simpa using hge
                          omega
 subst hk'
 rw[afu] at hall hlk⊢
 rw[if_pos hall] at hR
 refine aZ ?_
 refine bC (gW (bid:=4) (id:=100) (sz:=2) (j:=2) (ys:=(mE hs).map bU) (by decide) rfl rfl rfl (by simp)) ?_
 refine fE ?_
 try refine nv ?_
 refine rA [] ?_
 refine⟨?_,rfl⟩
 rw[hR];rfl
end
section
open Go.Ab Tys
variable [zg]
def UN (e:fA):Mc:=(kJ e).getD agO
def U7 (e:fA):List D:=FU (UN e)
def rT (m:List fA) (k:Nat):List (List C):=(m.take k).map (fun e=>(U7 e).map C.d)++List.replicate (m.length-k) OH
theorem agG {m:List fA} {k:Nat} (h:k≤m.length):(rT m k).length=m.length:=by
 simp only[rT,afI,ae1,ajD,List.length_replicate];omega
theorem agC {m:List fA} {k:Nat} {e:fA} (h:m[k]? =some e):(rT m k).set k ((U7 e).map C.d)=rT m (k+1):=by
 have hk:=(adK.1 h).1
 have hl:((m.take k).map fun e=>(U7 e).map C.d).length=k:=by simp;omega
 rw[rT,rT,List.set_append_right _ _ (by omega),hl,akq,ajC,h,show m.length-k=(m.length-(k+1))+1 by omega,List.replicate_succ,List.set_cons_zero]
 simp
theorem afY (m:List fA):rT m m.length=(m.map U7).map fun l=>l.map C.d:=by
 simp[rT]
theorem ae7 (m:List fA):rT m 0=List.replicate m.length OH:=by simp[rT]
theorem agp {m:List fA} {k:Nat} (h:k<m.length):(rT m k).getD k []=OH:=by
 have hl:((m.take k).map fun e=>(U7 e).map C.d).length=k:=by simp;omega
 rw[rT,adI,ajm (by omega),hl,akq,List.getElem?_replicate,if_pos (by omega)];rfl
theorem Qc {dom:Nat→Bool}:∀l:List (List C),(∀x∈l,aB dom x=True)→aB dom l.flatten=True
 |[],_=>by simp[aB]
 |x::l,h=>by simp only[List.flatten_cons,aI,h x (by simp),Qc l (fun y hy=>h y (by simp[hy])),and_self]
theorem aeW (dom:Nat→Bool) (n:Nat):aB dom (List.replicate n OH).flatten=True:=
 Qc _ fun x hx=>by rw[akD hx];simp[aB,cZ]
theorem agY (dom:Nat→Bool) (m:List fA) (k:Nat):aB dom (rT m k).flatten=True:=
 Qc _ fun x hx=>by
  rcases afs.1 hx with h|h
  ·obtain⟨e,_,rfl⟩:=agh.1 h
   simp[U7,aB,cZ]
  ·rw[akD h];simp[aB,cZ]
theorem TK (e:fA):(F8 e).isSome=(kJ e).isSome:=by
 unfold F8 kJ;cases mi e e.holes<;>rfl
theorem NH {e:fA} (hb:EB 10000 e) (hc:nS e.F7=0) (h:(kJ e).isSome=true):PB 100000 (UN e).base∧(UN e).holes.length≤1000∧∀h∈(UN e).holes,PB 100000 h∧iU h=true:=by
 have hl:=yP hc
 unfold UN kJ at*
 cases hh:mi e e.holes with
 |none=>rw[hh] at h;cases h
 |some a=>
  simp only[Option.map_some,Option.getD_some]
  have hw:=x9 e _ _ hh
  rw[FM] at hh
  split at hh
  ·cases hh
   refine⟨hb.right.mono (by omega),?_,fun k hk=>⟨?_,(hw k hk).1⟩⟩
   ·have:=List.length_filterMap_le (hF e) e.holes
    simp only[fA.F7] at hl;omega
   ·obtain⟨x,h1,h2⟩:=List.mem_filterMap.1 hk
    unfold hF at h2
    split at h2
    ·cases h2;exact(aeN (n:=10000) (by omega) hb.left hb.right (hb.holes x h1)).mono (by omega)
    ·cases h2
  ·cases hh
theorem NT {r:MB} (h:iQ r=0):iU r.right=true:=by
 unfold iQ at h
 split at h
 ·split at h
  ·assumption
  ·omega
 ·omega
theorem aho {x y:fA} (hx:iQ x.line=0) (hy:iQ y.line=0) (h1:(kJ x).isSome=true) (h2:(kJ y).isSome=true):clB x y=(nI x.F7 y.F7||nI (UN x) (UN y)):=by
 unfold clB UN F8 kJ at*
 cases ha:mi x x.holes with
 |none=>rw[ha] at h1;cases h1
 |some a=>
  cases hb:mi y y.holes with
  |none=>rw[hb] at h2;cases h2
  |some b=>
   simp only[Option.map_some,Option.getD_some]
   rw[TF (NT (r:=x.line) hx) (NT (r:=y.line) hy) ha hb]
theorem NP {g:Mc} (h:nS g=0):∀k∈g.holes,iU k=true:=by
 unfold nS at h
 split at h
 ·split at h
  ·rename_i h2;exact agr.1 h2
  ·omega
 ·omega
theorem WX {e:fA} (h:(kJ e).isSome=true):abm (kJ e)=(true,(U7 e).map C.d):=by
 unfold U7 UN
 cases hh:kJ e with
 |none=>rw[hh] at h;cases h
 |some g=>rfl
def z23.kk:=MP kB kG kS Tryz.ntmps23 Tryz.underlying23 Jb KG agR adg ag9 QT aeb WZ Tryz.results23
open z23 in
theorem WP (m:List fA) (hm:m.length≤10000) (hb:∀e∈m,EB1 e):AC Tryz.prog 23 [iV m] [] (fun r st=>(∃i e:Int,r= .tup [pI i,pI e]∧(e=0↔Cc m))∧st=[]):=by
 refine df Tryz.func23 Tryz.ntmps23 fun x hx=>?_
 try refine nv ?_
 refine au (ι:=Nat) (I:=fun k=>⟨88,[(0,iV m),(15,iV m),(16,I .i64 m.length),(17,I .i64 k)],[]⟩)
  (Inv:=fun k=>k≤m.length∧∀e∈m.take k,iQ e.line=0∧nS e.F7=0) (μ:=fun k=>m.length-k) 0 ⟨by omega,by simp⟩ ?_ ?_
 ·exact bQ
 rintro k ⟨hk,hent⟩
 try refine nv ?_
 refine aj ?_ ?_
 ·intro hlt
  have hlt':k<m.length:=by simpa using hlt
  obtain⟨v,hv,he,htk⟩:=round fV m k Un hlt'
  have hvm:=aem hv
  have hbv:=hb v hvm
  have hie:=VU v (hbv.left.mono (by omega)) (hbv.right.mono (by omega)) hbv.len (fun h hh=>(hbv.holes h hh).mono (by omega))
  have hbad:Gt v=false→¬Cc m:=fun hn hM=>by
   have:=hM.ent v hvm
   simp[Gt,okR,this.1,this.2] at hn
  have hnx:Gt v=true→∀e∈m.take (k+1),iQ e.line=0∧nS e.F7=0:=by
   intro h e he2
   rw[htk,afs] at he2
   rcases he2 with he2|he2
   ·exact hent e he2
   ·simp only[aft] at he2;subst he2;simpa[Gt,okR] using h
  generalize Gt v=eo at hie hbad hnx
  (repeat (first|refine nx @he ?_|refine cf (hie) ?_))
  refine aj ?_ ?_
  ·intro hc
   have hc':eo=false:=by simpa using hc
   try refine nv ?_
   refine rA [] ?_
   refine⟨?_,rfl⟩
   exact⟨_,_,rfl,by simp[hbad hc']⟩
  ·intro hc
   have hc':eo=true:=by simpa using hc
   try refine nv ?_
   refine⟨k+1,⟨by omega,hnx hc'⟩,by omega,?_⟩
   exact bQ
 intro hge0
 have hk':k=m.length:=by have:¬k<m.length:=by simpa using hge0
                         omega
 rw[hk',afu] at hent
 try refine nv ?_
 refine aj ?_ ?_
 ·intro hc
  have hc':¬m.length≤32:=by simp at hc;omega
  try refine nv ?_
  refine rA [] ?_
  refine⟨?_,rfl⟩
  exact⟨_,_,rfl,by constructor<;>intro h<;>first|omega|exact absurd h.len hc'⟩
 intro hlen
 have hlen':m.length≤32:=by simp at hlen;omega
 try refine nv ?_
 refine au (ι:=Nat) (I:=fun k=>⟨88,[(0,iV m),(6, .c (.ms 32 3 0 m.length)),(33,iV m),(34,I .i64 m.length),(35,I .i64 k)],[(32, .arr 3 (rT m k))]⟩)
  (Inv:=fun k=>k≤m.length∧∀e∈m.take k,(kJ e).isSome=true) (μ:=fun k=>m.length-k) 0 ⟨by omega,by simp⟩ ?_ ?_
 ·exact Dc (p2 @ae7 @aeW)
 rintro k2 ⟨hk2,hall⟩
 have hrl:=agG hk2
 try refine nv ?_
 refine aj ?_ ?_
 ·intro hlt
  have hlt':k2<m.length:=by simpa using hlt
  obtain⟨v,hv,he,htk⟩:=round fV m k2 Un hlt'
  have hvm:=aem hv
  have hbv:=(hb v hvm).eb (hent v hvm).2
  have hr:=ZP v hbv
  have hset:=agC hv
  have hso:=WX (e:=v)
  cases hrv:(kJ v).isSome with
  |false=>
   have hrn:kJ v=none:=by simpa using hrv
   rw[hrn] at hr
   simp only[abm,pB,Option.isSome,agF,if_false] at hr
   (repeat (first|refine nx @he ?_|refine cf (hr) ?_))
   refine aj ?_ ?_
   ·intro _
    try refine nv ?_
    refine rA [] ?_
    refine⟨?_,rfl⟩
    exact⟨_,_,rfl,by constructor<;>intro h<;>first|omega|(have:=h.right v hvm;rw[TK,hrv] at this;cases this)⟩
   ·intro h;cases h
  |true=>
   rw[hso hrv,hrv,if_pos rfl] at hr
   have hget:=agp hlt'
   generalize hW:(U7 v).map C.d=W at hr hset
   obtain⟨c1,c2,c3,rfl⟩:∃c1 c2 c3,W=[c1,c2,c3]:=⟨_,_,_,hW.symm⟩
   have hset2:(rT m k2).set k2 (c1::c2::c3::List.drop 3 ((rT m k2).getD k2 []))=rT m (k2+1):=by rw[hget];exact hset
   (repeat (first|refine nx @he ?_|refine cf (hr) ?_))
   refine aj ?_ ?_
   ·intro h;cases h
   intro _
   try refine nx @hset2 ?_
   refine⟨k2+1,⟨by omega,?_⟩,by omega,?_⟩
   ·intro e he2
    rw[htk,afs] at he2
    rcases he2 with he2|he2
    ·exact hall e he2
    ·simp only[aft] at he2;subst he2;exact hrv
   ·exact Dc @agY
 intro hge
 have hk2':k2=m.length:=by have:¬k2<m.length:=by simpa using hge
                           omega
 subst hk2'
 rw[afu] at hall
 rw[afY]
 refine aZ ?_
 refine bC (aY (i:=6) (id:=32) (sz:=3) (ys:=m.map U7) rfl rfl (by rw[ae1])) ?_
 refine fE ?_
 try refine nv ?_
 refine au (ι:=Nat) (I:=fun k=>⟨88,[(0,iV m),(6, .c (.d (.ps 3 (m.map U7)))),(53,iV m),(54,I .i64 m.length),(55,I .i64 k)],[]⟩)
  (Inv:=fun k=>k≤m.length∧∀(i j:Nat) (x y:fA),i<k→j<i→m[i]? =some x→m[j]? =some y→clB x y=false) (μ:=fun k=>m.length-k) 0 ⟨by omega,fun i j x y h=>by omega⟩ ?_ ?_
 ·exact bQ
 rintro k3 ⟨hk3,hap⟩
 try refine nv ?_
 refine aj ?_ ?_
 ·intro hlt
  have hlt':k3<m.length:=by simpa using hlt
  obtain⟨v,hv,he,htk⟩:=round fV m k3 Un hlt'
  obtain⟨_,hv9,hrv,_⟩:=round U7 m k3 Un hlt'
  rw[hv] at hv9;cases hv9
  have hvm:=aem hv
  have hbv:=(hb v hvm).eb (hent v hvm).2
  have hvl:=yP (hent v hvm).2
  obtain⟨g1,g2,g3⟩:=NH hbv (hent v hvm).2 (hall v hvm)
  try refine nx @he ?_
  refine au (ι:=Nat) (I:=fun j=>⟨88,[(0,iV m),(6, .c (.d (.ps 3 (m.map U7)))),(11,I .i64 k3),(12, .c (.ptr 12 0)),(53,iV m),(54,I .i64 m.length),(55,I .i64 k3),(62, .c (.d (.ps 5 ((m.map fV).take k3)))),(63,I .i64 k3),(64,I .i64 j)],
   [(12, .box ((fV v).map C.d))]⟩)
   (Inv:=fun j=>j≤k3∧∀(i:Nat) (y:fA),i<j→m[i]? =some y→clB v y=false) (μ:=fun j=>k3-j) 0 ⟨by omega,fun i y h=>by omega⟩ ?_ ?_
  ·(refine bi (fun i=>i) rfl ?_ ⟨?_,?_,?_,bW hx (by simp[ae,Ab.get])⟩<;>first|(simp only[kE,ay, ↓reduceIte,Nat.reduceEqDiff,reduceCtorEq,ajD,Nat.min_eq_left hk3];done)|simp[aH,ax,ah,Ab.get,aJ,cZ,aB,bF,aS,aO,aQ,aT,aP,ae,List.flatten,ajD,Nat.min_eq_left hk3])
  rintro j ⟨hj,hcl⟩
  try refine nv ?_
  refine aj ?_ ?_
  ·intro hlt2
   have hlt2':j<k3:=by simpa using hlt2
   obtain⟨u,hu,he2,_⟩:=round fV m j Un (by omega)
   obtain⟨_,hu9,hru,_⟩:=round U7 m j Un (by omega)
   rw[hu] at hu9;cases hu9
   have hum:=aem hu
   have hbu:=(hb u hum).eb (hent u hum).2
   have hul:=yP (hent u hum).2
   obtain⟨s1,s2,s3⟩:=NH hbu (hent u hum).2 (hall u hum)
   have he3:((m.map fV).take k3).getD j []=fV u:=by
    rw[adI,ag2,if_pos hlt2',←adI,he2]
   have hc1:=Jn (fA.F7 v) (fA.F7 u) (hbv.left.mono (by omega)) (hbu.left.mono (by omega)) (by omega) (by omega) (fun h hh=>⟨(hbv.holes h hh).mono (by omega),NP (hent v hvm).2 h hh⟩) (fun h hh=>⟨(hbu.holes h hh).mono (by omega),NP (hent u hum).2 h hh⟩)
   have hc2:=Jn (UN v) (UN u) g1 s1 g2 s2 g3 s3
   have hcB:=aho (hent v hvm).1 (hent u hum).1 (hall v hvm) (hall u hum)
   generalize nI (fA.F7 v) (fA.F7 u)=b1 at hc1 hcB
   generalize nI (UN v) (UN u)=b2 at hc2 hcB
   have hrv2:(m.map U7).getD k3 []=FU (UN v):=hrv
   have hru2:(m.map U7).getD j []=FU (UN u):=hru
   generalize UN v=G at hc2 hrv2
   generalize UN u=H at hc2 hru2
   obtain⟨⟨gp,gr⟩,gh⟩:=G
   obtain⟨⟨sp,sr⟩,sh⟩:=H
   try refine nx @he3 ?_
   refine dx ([(70,WN (fA.F7 v)),(72,WN (fA.F7 u)),(73,B b1),(83,B b2)]) (p2 @hrv2 @hru2) ?_ ?_
   ·exact ob4 (LK v) (LK u) @hc1 @hc2
   refine aZ ?_
   refine aj ?_ ?_
   ·intro hc
    have hc':clB v u=true:=by rw[hcB];cases b1<;>cases b2<;>simp_all
    try refine nv ?_
    refine rA [] ?_
    refine⟨?_,rfl⟩
    exact⟨_,_,rfl,by constructor<;>intro h<;>first|omega|(have:=h.apart k3 j v u hlt2' hv hu;rw[hc'] at this;cases this)⟩
   ·intro hc
    have hc':clB v u=false:=by rw[hcB];cases b1<;>cases b2<;>simp_all
    try refine nv ?_
    refine⟨j+1,⟨by omega,?_⟩,by omega,?_⟩
    ·intro i y h1 h2
     by_cases e:i=j
     ·subst e;rw[hu] at h2;cases h2;exact hc'
     ·exact hcl i y (by omega) h2
    ·exact bQ
  intro hge4
  have hj':j=k3:=by have:¬j<k3:=by simpa using hge4
                    omega
  try refine nv ?_
  refine⟨k3+1,⟨by omega,?_⟩,by omega,?_⟩
  ·intro i j2 x y h1 h2 h3 h4
   by_cases e:i=k3
   ·subst e;rw[hv] at h3;cases h3;exact hcl j2 y (by omega) h4
   ·exact hap i j2 x y (by omega) h2 h3 h4
  ·exact bQ
 intro hge5
 have hk3':k3=m.length:=by have:¬k3<m.length:=by simpa using hge5
                           omega
 try refine nv ?_
 refine rA [] ?_
 refine⟨?_,rfl⟩
 exact⟨_,_,rfl,fun _=>⟨hent,hlen',fun e he=>by rw[TK];exact hall e he,fun i j x y h1 h2 h3=>hap i j x y (by have:=(adK.1 h2).1;omega) h1 h2 h3⟩,fun _=>rfl⟩
end
end Go.Proofs.YtcpgicfphakdaaaGreatDoor
