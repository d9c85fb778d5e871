/- A part of the proof. -/
import Derived.Test.YtcpgicfphakdaaaGreatDoorRK17
set_option maxRecDepth 100000
set_option maxHeartbeats 16000000
set_option linter.all false
namespace Go.Proofs.YtcpgicfphakdaaaGreatDoor
open Go.Ab Tys
variable [Dr]
theorem XN (n:Int) (w:Bool×List C):∀es:List xX,(∀e∈es,e.1.1=false∧cu [.int .i64] e.1.2)→∀e∈dF (false,[C.d (.v (.int .i64 n))]) w es,e.1.1=false∧cu [.int .i64] e.1.2
 |[],_=>by intro e he;simp[dF] at he;subst he;simp[cu]
 |a::es,h=>by
  intro e he
  simp only[dF] at he
  split at he
  ·rcases afr.1 he with rfl|he
   ·simp[cu]
   ·exact h e (ajl _ he)
  ·rcases afr.1 he with rfl|he
   ·exact h _ aj2
   ·exact XN n w es (fun e he=>h e (ajl _ he)) e he
open z64 in
theorem YM (L:jA) (hL:zi L) (el em:List jq) (i:Nat) (v:Rev) (hv:L.revs[i]? =some v) (h5:¬v.act=5) (hn:1≤v.num∧v.num≤1000000) (u ln:Int) (hk:ai L.index (di v)=some u) (hu:0≤u∧u<i)
 (hln:L.fst.getD u.toNat 0=ln) (h0:0≤ln) (hty:∀e∈em.map dJ,e.1.1=false∧cu [.int .i64] e.1.2) (ys:List Int) (hys:ys.length≤1000):
 AC Tryz.prog 64 [.c (.ptr 1000 0),I .i64 i] (wC L el (dF (false,[C.d (.v (.int .i64 ln))]) (false,[.ms 2003 1 0 ys.length]) (em.map dJ))++[(2003,ay 1 (ys.map eI))])
  (fun _ st=>st=wC (bD L i v) el (dF (false,[C.d (.v (.int .i64 ln))]) (false,[.ms 115 1 0 (ys.length+1)]) (em.map dJ))++[(2003, .dead),(115,ay 1 ((ys++[(i:Int)]).map eI))]):=by
 have hil:i<L.revs.length:=(adK.1 hv).1
 have er:(L.revs.map aA).getD i []=aA v:=by rw[bH aA L.revs i ag hil,List.getD,hv];rfl
 have hN:=hL.n
 have hp:=hL.prev
 have hf:=hL.fst
 have ep:=uG eI L.prev i 0 (by omega)
 have ef:=uG eI L.fst i 0 (by omega)
 have hul:u.toNat<(L.fst.set i (i:Int)).length:=by simp;omega
 have efu:=uG eI (L.fst.set i i) u.toNat 0 hul
 have hgu:(L.fst.set i (i:Int)).getD u.toNat 0=ln:=by rw[←hln];simp[List.getD,akh,show ¬i=u.toNat by omega]
 rw[hgu] at efu
 have hkk:kK [C.d (.v (.int .i64 ln))] [C.d (.v (.int .i64 ln))]=true:=by simp[kK,DD]
 have hfi:=Jo (false,[C.d (.v (.int .i64 ln))]) (false,[.ms 2003 1 0 ys.length]) (em.map dJ) hkk
 have hii:=fun w=>Qg (false,[C.d (.v (.int .i64 ln))]) (false,[.ms 2003 1 0 ys.length]) w (em.map dJ) hkk
 have hty2:=XN ln (false,[.ms 2003 1 0 ys.length]) (em.map dJ) hty
 simp only at hfi hii
 have efi:(List.map (fun l=>List.map C.d l) (List.map eI (L.fst.set i ln))).getD i []=[C.d (.v (.int .i64 ln))]:=by rw[uG eI (L.fst.set i ln) i 0 (by simp;omega)];simp[List.getD,show i<L.fst.length by omega]
 refine df Tryz.func64 Tryz.ntmps64 fun x hx=>?_
 refine aZ ?_
 refine dx ([]) (p2 @yS @qR) ?_ ?_
 ·exact qP
 try refine nx @er ?_
 refine aj ?_ ?_
 ·intro h;exact absurd (by simpa using h) h5
 intro _
 try refine nx @er ?_
 refine aj ?_ ?_
 ·intro h
  have hb:di v=⟨ByteArray.empty,0⟩:=by simp[di,show v.act=1 by simpa using h,uI]
  rw[hb] at hk
  (repeat (first|refine Io ?_|refine Gl (wr:=false) (by simp only[kk,Nat.reduceAdd,Nat.reduceLT,Nat.reduceEqDiff, ↓reduceIte,reduceCtorEq,yS,qR,List.set_set];first|done|rfl) ?_))
  refine Bg (wr:=false) ([]:List (Nat×AV)) (by simp only[kD,kk,Nat.reduceAdd,Nat.reduceLT,Nat.reduceEqDiff, ↓reduceIte,reduceCtorEq,nY,hk,Option.isSome];first|done|rfl) ?_ ?_
  ·exact eQ @zU
  try refine nx @efu ?_
  refine aj ?_ ?_
  rotate_left
  ·intro h;exact absurd h (by simp[h0])
  intro _
  refine aZ ?_
  refine Bg (wr:=false) ([]:List (Nat×AV)) (by simp only[kD,kk,Nat.reduceAdd,Nat.reduceLT,Nat.reduceEqDiff, ↓reduceIte,reduceCtorEq,efu,yS,qR,List.set_set];first|done|rfl) ?_ ?_
  ·exact qP
  try refine nx @efi ?_
  refine Bg (wr:=false) ([]:List (Nat×AV)) (by simp only[kD,kk,Nat.reduceAdd,Nat.reduceLT,Nat.reduceEqDiff, ↓reduceIte,reduceCtorEq,hfi,hii,Option.getD];first|done|rfl) ?_ ?_
  ·exact eQ @hty2
  refine aZ ?_
  have hE:bD L i v=⟨L.revs,L.index,L.prev.set i u,L.fst.set i ln,L.car,L.con,L.cre⟩:=by simp only[bD,h5,nX,jc,uF,hb,hk,hln,h0,if_true,if_false]
  rw[hE]
  generalize L.prev.set i u=P'
  generalize L.fst.set i ln=F'
  refine wP (by first|exact .inl rfl|exact .inr rfl) (by simp only[kR,Tryz.results64, ↓reduceIte,Nat.reduceEqDiff,reduceCtorEq];first|done|rfl) (by first|exact trivial|(simp only[kO];omega)|(simp[All,dB];first|done|omega)|(simp+contextual [All,dB];first|done|grind)) (wC ⟨L.revs,L.index,P',F',L.car,L.con,L.cre⟩ el (dF (false,[C.d (.v (.int .i64 ln))]) (false,[.ms 115 1 0 (ys.length+1)]) (em.map dJ))++[(2003, .dead),(115,ay 1 ((ys++[(i:Int)]).map eI))]) ⟨by simp[Ab.get,ax,dQ,dP,aI],by simp,by simp[bF,aS,aO,aQ,aT,aP,ah,aB,cZ,ae,Ab.get,dQ,dP,aI],bW hx (by simp[ae,Ab.get,dQ,dP,aI])⟩ (by simp[aJ,bM,aB,cZ,ae,Ab.get,dQ,dP,aI]) ?_
  rfl
 intro _
 try refine nx @er ?_
 refine aj ?_ ?_
 ·intro h
  have hb:di v=⟨v.frm,v.fnum⟩:=by simp[di,show v.act=4 by simpa using h]
  rw[hb] at hk
  (repeat (first|refine Io ?_|refine Gl (wr:=false) (by simp only[kk,Nat.reduceAdd,Nat.reduceLT,Nat.reduceEqDiff, ↓reduceIte,reduceCtorEq,yS,qR,List.set_set];first|done|rfl) ?_))
  refine Bg (wr:=false) ([]:List (Nat×AV)) (by simp only[kD,kk,Nat.reduceAdd,Nat.reduceLT,Nat.reduceEqDiff, ↓reduceIte,reduceCtorEq,nY,hk,Option.isSome];first|done|rfl) ?_ ?_
  ·exact eQ @zU
  try refine nx @efu ?_
  refine aj ?_ ?_
  rotate_left
  ·intro h;exact absurd h (by simp[h0])
  intro _
  refine aZ ?_
  refine Bg (wr:=false) ([]:List (Nat×AV)) (by simp only[kD,kk,Nat.reduceAdd,Nat.reduceLT,Nat.reduceEqDiff, ↓reduceIte,reduceCtorEq,efu,yS,qR,List.set_set];first|done|rfl) ?_ ?_
  ·exact qP
  try refine nx @efi ?_
  refine Bg (wr:=false) ([]:List (Nat×AV)) (by simp only[kD,kk,Nat.reduceAdd,Nat.reduceLT,Nat.reduceEqDiff, ↓reduceIte,reduceCtorEq,hfi,hii,Option.getD];first|done|rfl) ?_ ?_
  ·exact eQ @hty2
  refine aZ ?_
  have hE:bD L i v=⟨L.revs,L.index,L.prev.set i u,L.fst.set i ln,L.car,L.con,L.cre⟩:=by simp only[bD,h5,nX,jc,uF,hb,hk,hln,h0,if_true,if_false]
  rw[hE]
  generalize L.prev.set i u=P'
  generalize L.fst.set i ln=F'
  refine wP (by first|exact .inl rfl|exact .inr rfl) (by simp only[kR,Tryz.results64, ↓reduceIte,Nat.reduceEqDiff,reduceCtorEq];first|done|rfl) (by first|exact trivial|(simp only[kO];omega)|(simp[All,dB];first|done|omega)|(simp+contextual [All,dB];first|done|grind)) (wC ⟨L.revs,L.index,P',F',L.car,L.con,L.cre⟩ el (dF (false,[C.d (.v (.int .i64 ln))]) (false,[.ms 115 1 0 (ys.length+1)]) (em.map dJ))++[(2003, .dead),(115,ay 1 ((ys++[(i:Int)]).map eI))]) ⟨by simp[Ab.get,ax,dQ,dP,aI],by simp,by simp[bF,aS,aO,aQ,aT,aP,ah,aB,cZ,ae,Ab.get,dQ,dP,aI],bW hx (by simp[ae,Ab.get,dQ,dP,aI])⟩ (by simp[aJ,bM,aB,cZ,ae,Ab.get,dQ,dP,aI]) ?_
  rfl
 ·intro h
  have hb:di v=⟨v.path,v.num-1⟩:=by simp_all[di]
  rw[hb] at hk
  (repeat (first|refine Io ?_|refine Gl (wr:=false) (by simp only[kk,Nat.reduceAdd,Nat.reduceLT,Nat.reduceEqDiff, ↓reduceIte,reduceCtorEq,yS,qR,List.set_set];first|done|rfl) ?_))
  refine Bg (wr:=false) ([]:List (Nat×AV)) (by simp only[kD,kk,Nat.reduceAdd,Nat.reduceLT,Nat.reduceEqDiff, ↓reduceIte,reduceCtorEq,nY,hk,Option.isSome];first|done|rfl) ?_ ?_
  ·exact eQ @zU
  try refine nx @efu ?_
  refine aj ?_ ?_
  rotate_left
  ·intro h;exact absurd h (by simp[h0])
  intro _
  refine aZ ?_
  refine Bg (wr:=false) ([]:List (Nat×AV)) (by simp only[kD,kk,Nat.reduceAdd,Nat.reduceLT,Nat.reduceEqDiff, ↓reduceIte,reduceCtorEq,efu,yS,qR,List.set_set];first|done|rfl) ?_ ?_
  ·exact qP
  try refine nx @efi ?_
  refine Bg (wr:=false) ([]:List (Nat×AV)) (by simp only[kD,kk,Nat.reduceAdd,Nat.reduceLT,Nat.reduceEqDiff, ↓reduceIte,reduceCtorEq,hfi,hii,Option.getD];first|done|rfl) ?_ ?_
  ·exact eQ @hty2
  refine aZ ?_
  have hE:bD L i v=⟨L.revs,L.index,L.prev.set i u,L.fst.set i ln,L.car,L.con,L.cre⟩:=by simp only[bD,h5,nX,jc,uF,hb,hk,hln,h0,if_true,if_false]
  rw[hE]
  generalize L.prev.set i u=P'
  generalize L.fst.set i ln=F'
  refine wP (by first|exact .inl rfl|exact .inr rfl) (by simp only[kR,Tryz.results64, ↓reduceIte,Nat.reduceEqDiff,reduceCtorEq];first|done|rfl) (by first|exact trivial|(simp only[kO];omega)|(simp[All,dB];first|done|omega)|(simp+contextual [All,dB];first|done|grind)) (wC ⟨L.revs,L.index,P',F',L.car,L.con,L.cre⟩ el (dF (false,[C.d (.v (.int .i64 ln))]) (false,[.ms 115 1 0 (ys.length+1)]) (em.map dJ))++[(2003, .dead),(115,ay 1 ((ys++[(i:Int)]).map eI))]) ⟨by simp[Ab.get,ax,dQ,dP,aI],by simp,by simp[bF,aS,aO,aQ,aT,aP,ah,aB,cZ,ae,Ab.get,dQ,dP,aI],bW hx (by simp[ae,Ab.get,dQ,dP,aI])⟩ (by simp[aJ,bM,aB,cZ,ae,Ab.get,dQ,dP,aI]) ?_
  rfl
def kX:=And.intro @P7.eq_1<|And.intro @P7.eq_2<|And.intro @Ep.eq_def<|And.intro @Uo.eq_def @Option.some.injEq.{0}
theorem aa8 (L:jA) (i:Nat) (rs:List dZ) (k:Nat) (hk:rs.length≤512):(Ie L i rs k).car.length≤300000∧(Ie L i rs k).ign.length≤300000:=by
 have:=Yy L (rs.take k) (H6 L i (decide ((rs.length:Int)=0)))
 have h2:(rs.take k).length≤rs.length:=by simp;omega
 simp only[H6,List.length_cons,List.length_nil] at this
 unfold Ie H6;omega
theorem Qy {P:Program} {x:X} {ι:Type} {wr:Bool} {id:Nat} {l:List Oper} {s:S} {Q:Exit→S→Prop} (ks:List Nat) (cs:List (Nat×AV)) (j d0:Nat) (ans:ι→AV) (Rel:ι→Prop) (i0:ι) (h0:Rel i0) {As:ι→List A1} {ps:ι→List Prop} {s':ι→S}
 (hm:P.follows .mixedOrders=true) (h:∀c,P7 P wr l cs d0 (ans c) (fun v=>∃c,Rel c∧v=ans c) l s=some (As c,ps c,s' c)) (ho:∀c,Rel c→All (ps c)) (hc:∀c,ww l (As c)=true)
 (hu:EI l j d0=true) (hsw:∀c c',sws j (As c)=sws j (As c')) (hks:(((List.range l.length).filter fun k=>decide (k≠j)&&!((Ic l []).getD k []).contains j).all fun k=>ks.contains k)=true)
 (hse:∀c c',ks.map (fun k=>(As c)[k]?)=ks.map (fun k=>(As c')[k]?)) (hQ:∀c,Rel c→Q .normal (s' c)):T P x (.region id l.toArray true) s Q:=
 aeD cs j d0 ans Rel i0 h0 hm h ho hc hu hsw (fun c c'=>by
  unfold sel
  apply ajZ
  intro k hk
  have:=agr.1 hks k hk
  exact List.map_inj_left.1 (hse c c') k (by simpa using this)) hQ
def z65.kk:=p3 (p13 kB kG kS kM Tryz.ntmps65 Tryz.underlying28 Tryz.underlying91 oG lq vG pW uf QX) (p13 kQ kT uY D9 BA BJ Bd X7 I7 PN J7 yV Qm) (p13 Om KD wu mG xK IP DU sD Y3 jB aaJ Em Tryz.results65)
open z65 in
theorem J8 (L:jA) (hL:zi L) (el em:List jq) (i:Nat) (hi:i<L.revs.length) (hpr:L.prev.getD i 0<L.revs.length) (rs:List dZ) (hrs:rs.length≤512):
 AC Tryz.prog 65 [.c (.ptr 1000 0),I .i64 i, .c (.d (.ps 6 (rs.map af)))] (jZ L el em) (fun _ st=>∃c k cr,ac4 L i rs c k cr∧st=jZ (Dq L i c k cr) el em):=by
 have hN:=hL.n
 have hp:=hL.prev
 have hc:=hL.car
 have hcr:=hL.cre
 have hco:=hL.con
 have ep:=uG eI L.prev i 0 (by omega)
 generalize hq:L.prev.getD i 0=q at ep hpr
 have hbe:∃o1 o2,DX L i=o1∧MI L i=o2:=⟨_,_,rfl,rfl⟩
 obtain⟨o1,o2,hb,hkn⟩:=hbe
 refine df Tryz.func65 Tryz.ntmps65 fun x hx=>?_
 try refine nx @ep ?_
 refine nZ ⟨146,[(0, .c (.ptr 1000 0)),(1,I .i64 i),(2, .c (.d (.ps 6 (rs.map af)))),(6, .c (.d (TZ kN o1))),(7, .c (.d (TZ kN o2)))],jZ L el em⟩ ?_ ?_
 ·refine aj ?_ ?_
  ·intro h
   have h':0≤q:=by simpa using h
   have e1:=uG jP L.car q.toNat none (by omega)
   have e2:=uG jP L.cre q.toNat none (by omega)
   have b1:L.car.getD q.toNat none=o1:=by rw[←hb];simp only[DX,hq,h',if_true]
   have b2:L.cre.getD q.toNat none=o2:=by rw[←hkn];simp only[MI,hq,h',if_true]
   rw[b1] at e1
   rw[b2] at e2
   refine aZ ?_
   refine dx ([]) (p2 @e1 @e2) ?_ ?_
   ·exact qP
   refine aZ ?_
   refine⟨rfl,?_⟩
   exact bQ
  ·intro h
   have h':¬0≤q:=by simpa using h
   have b1:o1=none:=by rw[←hb];simp only[DX,hq,h',if_false]
   have b2:o2=none:=by rw[←hkn];simp only[MI,hq,h',if_false]
   subst b1 b2
   refine aZ ?_
   refine⟨rfl,?_⟩
   exact bQ
 clear ep
 try refine nv ?_
 refine au (ι:=Nat×Acc) (I:=fun j=>⟨146,[(0, .c (.ptr 1000 0)),(1,I .i64 i),(6, .c (.d (TZ kN o1))),(9, .c (.ms 200 1 0 j.2.car.length)),(10, .c (.ms 201 1 0 j.2.ign.length)),(11,B j.2.orig),(46, .c (.d (.ps 6 (rs.map af)))),(47,I .i64 rs.length),(48,I .i64 j.1)],
  jZ L el em++[(200,ay 1 (j.2.car.map jP)),(201,ay 1 (j.2.ign.map jP))]⟩)
  (Inv:=fun j=>j.1≤rs.length∧j.2=Ie L i rs j.1) (μ:=fun j=>rs.length-j.1) (0,H6 L i (decide ((rs.length:Int)=0))) ⟨by simp,by simp[Ie]⟩ ?_ ?_
 ·rw[H6,hb,hkn]
  exact uZ (fun i=>if i=200 then 40 else if i=201 then 42 else i)
 rintro⟨j,ca,ig,og⟩ ⟨hj,ha⟩
 simp only at hj ha⊢
 obtain⟨l1,l2⟩:=aa8 L i rs j hrs
 rw[←ha] at l1 l2
 simp only at l1 l2
 try refine nv ?_
 refine aj ?_ ?_
 ·intro hlt
  have hlt':j<rs.length:=by simpa using hlt
  obtain⟨r,hr,he,htk⟩:=round af rs j dS hlt'
  have hst:Ie L i rs (j+1)=gG L ⟨ca,ig,og⟩ r:=by rw[Ie,htk,aj9,ha];rfl
  try refine nx @he ?_
  refine aj ?_ ?_
  ·intro h1
   have h1':r.how=1:=by simpa using h1
   cases hk:ai L.index ⟨r.frm,r.last⟩ with
   |none=>
    have hst':Ie L i rs (j+1)=⟨ca,ig,og⟩:=by rw[hst];simp only[gG,h1',if_true,hk]
    refine aZ ?_
    refine Bg (wr:=false) ([]:List (Nat×AV)) (by simp only[kD,kk,Nat.reduceAdd,Nat.reduceLT,Nat.reduceEqDiff, ↓reduceIte,reduceCtorEq,nY,hk,Option.map_none,Option.isSome];first|done|rfl) ?_ ?_
    ·exact eQ @zU
    try refine nv ?_
    refine aj ?_ ?_
    ·intro h;cases h
    intro _
    try refine nv ?_
    refine⟨(j+1,⟨ca,ig,og⟩),⟨by simp;omega,hst'.symm⟩,by simp;omega,?_⟩
    exact bQ
   |some k=>
    obtain⟨k1,k2⟩:=hL.ix _ _ hk
    have hkl:k.toNat<L.car.length:=by omega
    have ek:=uG jP L.car k.toNat none hkl
    generalize hoo:L.car.getD k.toNat none=o at ek
    have hst':Ie L i rs (j+1)=⟨ca++[o],ig,og⟩:=by rw[hst];simp only[gG,h1',if_true,hk,hoo]
    have hk2:k<(L.car.length:Int):=by omega
    refine aZ ?_
    refine Bg (wr:=false) ([]:List (Nat×AV)) (by simp only[kD,kk,Nat.reduceAdd,Nat.reduceLT,Nat.reduceEqDiff, ↓reduceIte,reduceCtorEq,nY,hk,Option.isSome];first|done|rfl) ?_ ?_
    ·exact eQ @zU
    try refine nv ?_
    refine aj ?_ ?_
    rotate_left
    ·intro h;cases h
    intro _
    try refine nx (p2 @ek @ajR) ?_
    refine⟨(j+1,⟨ca++[o],ig,og⟩),⟨by simp;omega,hst'.symm⟩,by simp;omega,?_⟩
    exact uZ (fun i=>if i=200 then 90 else i)
  intro h1
  have h1':¬r.how=1:=by simpa using h1
  have hcl:=Nc L r
  try refine nv ?_
  refine aj ?_ ?_
  ·intro h3
   have h3':r.how=3:=by simpa using h3
   have hst':Ie L i rs (j+1)=⟨ca,ig++kU L r,og⟩:=by rw[hst];simp only[gG,h1',h3',if_true,if_false];rfl
   try refine nv ?_
   refine nJ (jZ L el em) (xM L hL el em r) ?_
   rintro rv9 st' ⟨rfl,rfl⟩<;>refine nP ?_
   try refine nv ?_
   refine⟨(j+1,⟨ca,ig++kU L r,og⟩),⟨by simp;omega,hst'.symm⟩,by simp;omega,?_⟩
   exact uZ (fun i=>if i=201 then 97 else i)
  ·intro h3
   have h3':¬r.how=3:=by simpa using h3
   have hst':Ie L i rs (j+1)=⟨ca++kU L r,ig,og||decide (r.how=4)⟩:=by rw[hst];simp only[gG,h1',h3',if_false]
   try refine nv ?_
   refine nJ (jZ L el em) (xM L hL el em r) ?_
   rintro rv9 st' ⟨rfl,rfl⟩<;>refine nP ?_
   try refine nv ?_
   have hog:(bif og then true else decide (r.how=4))=(og||decide (r.how=4)):=by cases og<;>rfl
   refine⟨(j+1,⟨ca++kU L r,ig,og||decide (r.how=4)⟩),⟨by simp;omega,hst'.symm⟩,by simp;omega,?_⟩
   rw[hog]
   exact uZ (fun i=>if i=200 then 64 else i)
 intro hge
 have hge':j=rs.length:=by have:¬j<rs.length:=by simpa using hge
                           omega
 have hall:uH L i rs=⟨ca,ig,og⟩:=by rw[ha,hge',Ie,afu];rfl
 obtain⟨cf,hcf⟩:∃cf,vZ L i rs=cf:=⟨_,rfl⟩
 have hcl:cf.length≤400000:=by rw[←hcf,vZ,hall];simp only[afI];split<;>simp<;>omega
 try refine nv ?_
 refine nZ ⟨146,[(0, .c (.ptr 1000 0)),(1,I .i64 i),(6, .c (.d (TZ kN o1))),(9, .c (.ms 200 1 0 cf.length)),(10, .c (.ms 201 1 0 ig.length))],jZ L el em++[(200,ay 1 (cf.map jP)),(201,ay 1 (ig.map jP))]⟩ ?_ ?_
 ·refine aj ?_ ?_
  ·intro h
   have e:cf=ca++[some [(i:Int)]]:=by rw[←hcf,vZ,hall,h];rfl
   subst e
   refine aZ ?_
   refine dD (wr:=false) 4 (by simp only[kk,Nat.reduceAdd,Nat.reduceLT,Nat.reduceEqDiff, ↓reduceIte,reduceCtorEq,dF];first|done|rfl) ?_ ?_
   ·exact qP
   refine bC (iO (i:=103) (id:=101) (es:=fG kN [(i:Int)]) rfl rfl) ?_
   refine fE ?_
   try refine nv ?_
   refine⟨rfl,?_⟩
   exact uZ (fun i=>if i=200 then 105 else i)
  ·intro h
   have e:cf=ca:=by rw[←hcf,vZ,hall,h];simp
   subst e
   refine aZ ?_
   refine⟨rfl,?_⟩
   exact bQ
 have hU:AC Tryz.prog 133 [.c (.ms 200 1 0 cf.length)] [(200,ay 1 (cf.map jP))] (fun r st=>(∃l,Uni l cf∧r= .c (.d (.pm (fG kN l))))∧st=[(200, .dead)]):=by
  have:=V6 (id:=200) (R:=fun r=>∃l,Uni l cf∧r= .c (.d (.pm (fG kN l)))) (fun r ⟨l,_,e⟩=>by rw[e];simp[aJ,cZ]) (UQ cf (by omega))
  simpa[ay] using this
 have hli:(i:Int)<(L.car.length:Int):=by omega
 have hlk:(i:Int)<(L.con.length:Int):=by omega
 have hlc:(i:Int)<(L.cre.length:Int):=by omega
 refine aZ ?_
 refine Qy (wr:=false) [0,1,2,3,4,5,7] [] 6 112 (fun l=> .c (.d (.pm (fG kN l)))) (fun l=>Uni l cf) (cf.flatMap (fun o=>o.getD [])) (fun k=>by simp) (by kernel_rfl) (fun c=>by simp only[kX,kD,kk,Nat.reduceAdd,Nat.reduceLT,Nat.reduceEqDiff, ↓reduceIte,reduceCtorEq,WE];first|done|rfl) ?_ (fun c=>by kernel_rfl) (by kernel_rfl) (fun _ _=>by kernel_rfl) (by kernel_rfl) (fun _ _=>by simp only[agV,aj0,List.getElem?_cons_zero,List.getElem?_cons_succ];repeat' (first|(with_reducible rfl)|refine congr (congrArg List.cons ?_) ?_|refine congrArg some ?_|kernel_rfl)) ?_
 ·intro c hc2
  exact eQ @hU
 intro c hcU
 have eci:(List.map (fun l=>List.map C.d l) (List.map jP (L.car.set i (some c)))).getD i []=[C.d (.pm (fG kN c))]:=by rw[uG jP (L.car.set i (some c)) i none (by simp;omega)];simp[List.getD,show i<L.car.length by omega]
 refine aZ ?_
 refine Qy (wr:=false) [0,1,2,3,4,5,6,7,8,9,10,11,12,14] [] 13 127 (fun l=> .c (.d (.pm (fG kN l)))) (fun l=>∀x,x∈l↔x∈c∧¬x∈o1.getD []) (c.filter (fun x=>!decide (x∈o1.getD []))) (fun k=>by simp) (by kernel_rfl) (fun c=>by simp only[kX,kD,kk,Nat.reduceAdd,Nat.reduceLT,Nat.reduceEqDiff, ↓reduceIte,reduceCtorEq,WE,eci];first|done|rfl) ?_ (fun c=>by kernel_rfl) (by kernel_rfl) (fun _ _=>by kernel_rfl) (by kernel_rfl) (fun _ _=>by simp only[agV,aj0,List.getElem?_cons_zero,List.getElem?_cons_succ];repeat' (first|(with_reducible rfl)|refine congr (congrArg List.cons ?_) ?_|refine congrArg some ?_|kernel_rfl)) ?_
 ·intro m hm2
  exact eQ (Vt c o1)
 intro m hmU
 have hV:AC Tryz.prog 133 [.c (.ms 143 1 0 (ig.length+1))] [(143,ay 1 ((ig++[some c]).map jP))] (fun r st=>(∃l,Uni l (ig++[some c])∧r= .c (.d (.pm (fG kN l))))∧st=[(143, .dead)]):=by
  have:=V6 (id:=143) (R:=fun r=>∃l,Uni l (ig++[some c])∧r= .c (.d (.pm (fG kN l)))) (fun r ⟨l,_,e⟩=>by rw[e];simp[aJ,cZ]) (UQ (ig++[some c]) (by simp;omega))
  simpa[ay] using this
 have happ:List.map (fun l=>List.map C.d l) (List.map jP ig)++[[C.d (.pm (fG kN c))]]=List.map (fun l=>List.map C.d l) (List.map jP (ig++[some c])):=by simp
 refine aZ ?_
 refine Qy (wr:=false) [0,1,2,3,4,5,6,7,8,9,10,11,12,13,14,16] [] 15 144 (fun l=> .c (.d (.pm (fG kN l)))) (fun l=>Uni l (ig++[some c])) ((ig++[some c]).flatMap (fun o=>o.getD [])) (fun k=>by simp only[akm]) (by kernel_rfl) (fun c=>by simp only[kX,kD,kk,Nat.reduceAdd,Nat.reduceLT,Nat.reduceEqDiff, ↓reduceIte,reduceCtorEq,WE,eci,happ];first|done|rfl) ?_ (fun c=>by kernel_rfl) (by kernel_rfl) (fun _ _=>by kernel_rfl) (by kernel_rfl) (fun _ _=>by simp only[agV,aj0,List.getElem?_cons_zero,List.getElem?_cons_succ];repeat' (first|(with_reducible rfl)|refine congr (congrArg List.cons ?_) ?_|refine congrArg some ?_|kernel_rfl)) ?_
 ·intro cr hcr2
  exact eQ @hV
 intro cr hcrU
 refine aZ ?_
 have hS:Dq L i c m cr=⟨L.revs,L.index,L.prev,L.fst,L.car.set i (some c),L.con.set i (some m),L.cre.set i (some cr)⟩:=rfl
 have hR:ac4 L i rs c m cr:=⟨by rw[hcf];exact hcU,by rw[hb];exact hmU,by rw[hall];exact hcrU⟩
 generalize L.car.set i (some c)=A' at*
 generalize L.con.set i (some m)=B' at*
 generalize L.cre.set i (some cr)=C' at*
 refine rV ((jZ ⟨L.revs,L.index,L.prev,L.fst,A',B',C'⟩ el em)) ?_
 exact⟨c,m,cr,hR,by rw[hS]⟩
theorem ag0 {β:Type} (m:List (bJ×(Value×List β))):∀e∈(bz kF vV m).map dJ,e.1.1=true∧cu [.str, .int .i64] e.1.2:=by
 intro e he
 simp only[bz,agh] at he
 obtain⟨_,⟨f,_,rfl⟩,rfl⟩:=he
 exact⟨rfl,by simp[dJ,jY,cu]⟩
theorem af2 {β:Type} (m:List (bJ×(Value×List β))) (p:akK) (n:Int):dC [C.d (.v (.string p)),C.d (.v (.int .i64 n))] ((bz kF vV m).map dJ)=(ai m ⟨p,n⟩).map fun v=>(false,[C.d (.v v.1)]):=
 gX (ve:=vV) yQ m ⟨p,n⟩
theorem abo (dom:Nat→Bool) (n:Nat) (x:D):aB dom (List.replicate n (C.d x))=True:=by
 refine eq_true ?_
 induction n with
 |zero=>trivial
 |succ n ih=>exact⟨trivial,ih⟩
structure YG (rs:List dZ) (G:List (bJ×(Value×List dZ))) (ps:List (Value×List (List D))):Prop where
 perm:ps.Perm (mg af G)
 look:∀f,(ai (Md G) f).getD []=rs.filter fun r=>decide ((⟨r.to,r.num⟩:bJ)=f)
 ne:∀f,ai (Md G) f≠some []
theorem YG.step {rs:List dZ} {G:List (bJ×(Value×List dZ))} {ps ps':List (Value×List (List D))} (h:YG rs G ps) (r:dZ) (v:Value) (zs:List dZ) (hz:zs=(ai (Md G) ⟨r.to,r.num⟩).getD []++[r])
 (hp:ps'.Perm (mg af (eH G ⟨r.to,r.num⟩ (v,zs)))):YG (rs++[r]) (eH G ⟨r.to,r.num⟩ (v,zs)) ps':=by
 refine⟨hp,?_,?_⟩
 ·intro f
  rw[DT,fJ,ahk,←h.look f]
  by_cases e:f=⟨r.to,r.num⟩
  ·subst e;rw[if_pos rfl,hz];simp
  ·rw[if_neg e]
   have:List.filter (fun r'=>decide ((⟨r'.to,r'.num⟩:bJ)=f)) [r]=[]:=by simp;exact fun h=>e h.symm
   rw[this,ajt]
 ·intro f
  rw[DT,fJ]
  split
  ·rw[hz];simp
  ·exact h.ne f
theorem nT.ahv {d:aW} {k:Nat} {L:jA} {me:List (Int×List Int)} (h:nT d k L me):ai me (k:Int)=none:=by
 have h1:=h.mem (k:Int) (by omega)
 have h2:(List.range k).filter (fun j=>decide (L.fst.getD j 0=(k:Int)))=[]:=ajO.2 fun j hj=>by
  have hj:j<k:=by simpa using hj
  have hl:j<d.revs.length:=by have:=h.kn;omega
  have hv:=adH hl
  by_cases w5:(d.revs[j]).act=5
  ·have:=(h.f5 j _ hj hv w5).1
   simp only[aeB];omega
  ·have:=(h.fm j _ hj hv w5).2
   simp only[aeB];omega
 rw[h2] at h1
 cases hc:ai me (k:Int) with
 |none=>rfl
 |some l=>rw[hc] at h1;simp at h1;subst h1;exact absurd hc (h.mne _)
theorem nT.ac1 {d:aW} {k:Nat} {L:jA} {me:List (Int×List Int)} (h:nT d k L me) {u:Nat} (hu:u<k) (h0:0≤L.fst.getD u 0):∃ys,ai me (L.fst.getD u 0)=some ys∧ys.length≤k:=by
 have h1:=h.mem (L.fst.getD u 0) h0
 cases hc:ai me (L.fst.getD u 0) with
 |none=>
  exfalso
  rw[hc] at h1
  simp only[Option.getD] at h1
  have:u∈(List.range k).filter (fun j=>decide (L.fst.getD j 0=L.fst.getD u 0)):=by simp[hu]
  rw[List.map_eq_nil_iff.1 h1.symm] at this
  cases this
 |some l=>
  rw[hc] at h1
  simp only[Option.getD] at h1
  refine⟨l,rfl,?_⟩
  rw[h1,ae1]
  exact ajo (ajy ..) (by simp)
theorem afP (m:List (bJ×Int)) (p:akK) (n k:Int):dF (true,[C.d (.v (.string p)),C.d (.v (.int .i64 n))]) (false,[C.d (.v (.int .i64 k))]) ((bz kF vI m).map dJ)=(bz kF vI (eH m ⟨p,n⟩ k)).map dJ:=ut (ve:=vI) yQ m ⟨p,n⟩ k
theorem Qk (m:List (akK×Int)) (p:akK) (k:Int):dF (false,[C.d (.v (.string p))]) (false,[C.d (.v (.int .i64 k))]) ((bz pV vI m).map dJ)=(bz pV vI (eH m p k)).map dJ:=ut (ve:=vI) Ce m p k
theorem nO (m:List (akK×Int)) (p:akK):dC [C.d (.v (.string p))] ((bz pV vI m).map dJ)=(ai m p).map fun v=>(false,[C.d (.v (.int .i64 v))]):=gX (ve:=vI) Ce m p
theorem aaE (m:List (bJ×List dZ)) (p:akK) (n:Int):dC [C.d (.v (.string p)),C.d (.v (.int .i64 n))] ((bz kF (fun l:List dZ=>(false,[D.ps 6 (l.map af)])) m).map dJ)=(ai m ⟨p,n⟩).map fun l=>(false,[C.d (.ps 6 (l.map af))]):=
 gX (ve:=fun l:List dZ=>(false,[D.ps 6 (l.map af)])) yQ m ⟨p,n⟩
theorem ahy (m:List (bJ×List dZ)):∀e∈(bz kF (fun l:List dZ=>(false,[D.ps 6 (l.map af)])) m).map dJ,e.1.1=true∧cu [.str, .int .i64] e.1.2:=by
 intro e he
 simp only[bz,agh] at he
 obtain⟨_,⟨f,_,rfl⟩,rfl⟩:=he
 exact⟨rfl,by simp[dJ,jY,cu]⟩
theorem rJ (m:List (akK×Int)):∀e∈(bz pV vI m).map dJ,e.1.1=false∧cu [.str] e.1.2:=by
 intro e he
 simp only[bz,agh] at he
 obtain⟨_,⟨f,_,rfl⟩,rfl⟩:=he
 exact⟨rfl,by simp[dJ,jY,cu]⟩
def z24.kk:=p4 (U6 kB kG kS kM Tryz.ntmps24 Tryz.underlying27 Tryz.underlying28 iH oG dM lq vG jQ pW uf) (U6 QX kW DW kQ kT jg fK iF rQ xY vS BJ Bz Bd vP) (U6 I8 X7 I7 PN J7 yV EY WW Om KW YF ahd KD qU wu) (p13 mG ny xK iq DU sD Y3 Va jB afg aaJ Em Tryz.results24)
open z24 in
theorem Ew (d:aW) (hg:Good d.revs) (hn:d.revs.length≤512) (hm:d.recs.length≤512):
 AC Tryz.prog 24 [lT d] [] (fun r st=>(∃L la me,lG d d.revs.length L me∧yD d d.revs.length la∧r= .tup [(false,[.pp (uw L la me)]),pB true])∧st=[]):=by
 refine df Tryz.func24 Tryz.ntmps24 fun x hx=>?_
 try refine nv ?_
 refine aj ?_ ?_
 ·intro h
  exfalso
  rw[show decide (512<(d.revs.length:Int))=false by simp;omega,show decide (512<(d.recs.length:Int))=false by simp;omega] at h
  cases h
 intro _
 refine aZ ?_
 refine dx ([]) @Int.toNat_natCast ?_ ?_
 ·exact qP
 refine aZ ?_
 refine bC (s':=⟨132,[(1, .c (.ptr 1 0)),(5, .c (.ptr 1000 0))],jZ (BU d) [] []++[(1, .box [.d (.ps 12 (d.revs.map aA)), .d (.ps 6 (d.recs.map af))])]⟩) ?_ ?_
 ·(refine bi (fun i=>if i=1000 then 44 else if i=1001 then 29 else if i=1002 then 31 else if i=1003 then 33 else if i=1004 then 35 else if i=1005 then 36 else if i=1006 then 38 else if i=1007 then 40 else if i=1008 then 42 else i) rfl ?_ ⟨?_,?_,?_,keepR hx (by simp[ae,Ab.get])⟩<;>first|(intro i hi;have h0:=hx i hi;constructor<;>(revert h0;simp only[ae,Ab.get];(repeat' split)<;>simp_all);done)|(simp only[kE,ay, ↓reduceIte,Nat.reduceEqDiff,reduceCtorEq];done)|(simp only[ay,pz,o9,afr,agW,ajr,forall_eq_or_imp,forall_eq];simp[gz,gK,eU,iP,ah,Ab.get,aJ,cZ,aB,bF,aS,aO,aQ,aT,aP,ae,List.flatten,BU,abo,bM];done)|simp[gz,gK,eU,iP,ah,Ab.get,aJ,cZ,aB,bF,aS,aO,aQ,aT,aP,ae,List.flatten,BU,abo,bM])
 try refine nv ?_
 refine mQ (GL (id:=49) (sz:=6) rfl (by omega)) ?_
 refine fE ?_
 refine au (ι:=Nat×List (bJ×(Value×List dZ))×List (Value×List (List D))) (I:=fun j=>⟨132,[(1, .c (.ptr 1 0)),(5, .c (.ptr 1000 0)),(6, .c (.mp 1010)),(50, .c (.d (.ps 6 (d.recs.map af)))),(51,I .i64 d.recs.length),(52,I .i64 j.1)],
  jZ (BU d) [] []++[(1, .box [.d (.ps 12 (d.revs.map aA)), .d (.ps 6 (d.recs.map af))]),(1010, .map ((bz kF vV j.2.1).map dJ)),(1011, .pool 6 j.2.2)]⟩)
  (Inv:=fun j=>j.1≤d.recs.length∧YG (d.recs.take j.1) j.2.1 j.2.2) (μ:=fun j=>d.recs.length-j.1) (0,[],[]) ⟨by simp,by constructor<;>simp[mg,Md,ai]⟩ ?_ ?_
 ·exact uZ (fun i=>if i=1010 then 48 else if i=1011 then 49 else i)
 rintro⟨j,G,ps⟩ ⟨hj,hG⟩
 simp only at hj hG⊢
 try refine nv ?_
 refine aj ?_ ?_
 ·intro hlt
  have hlt':j<d.recs.length:=by simpa using hlt
  obtain⟨r,hr,he,htk⟩:=round af d.recs j dS hlt'
  have hFT:List.filter (fun r'=>decide ((⟨r'.to,r'.num⟩:bJ)=⟨r.to,r.num⟩)) [r]=[r]:=by simp
  cases hk:ai G ⟨r.to,r.num⟩ with
  |none=>
   have hk2:ai (Md G) ⟨r.to,r.num⟩=none:=by rw[sO,hk];rfl
   try refine nx @he ?_
   refine GY (id:=1010) (es:=(bz kF vV G).map dJ) (ak:=BO ⟨r.to,r.num⟩) (p:=(true,[C.d (.v (.string r.to)),C.d (.v (.int .i64 r.num))])) (by simp) WW yV wu rfl rfl rfl rfl rfl (by simp[cu]) (ag0 G) ?_
   intro β
   simp only[af2,hk,Option.map_none,Option.getD]
   refine fE ?_
   try refine nv ?_
   refine BZ rfl rfl rfl rfl rfl (EX _ _ _) ?_
   rw[Ab.uy]
   refine fE ?_
   refine aZ ?_
   refine Xg _ (E5 yQ af (mid:=1010) (pid:=1011) (pid':=2002) (aid:=67) (G:=G) (k:=⟨r.to,r.num⟩) (ys:=[r]) (ps:=ps) rfl rfl rfl rfl (by simp) rfl) ?_
   intro v
   refine fE ?_
   try refine nv ?_
   refine⟨(j+1,eH G ⟨r.to,r.num⟩ (v,[r]),(v,[r].map af)::ps),⟨by simp;omega,?_⟩,by simp;omega,?_⟩
   ·simp only[htk];exact hG.step r v [r] (by rw[hk2];rfl) (UA af hk hG.perm)
   ·exact uZ (fun i=>if i=1011 then 2002 else i)
  |some g=>
   obtain⟨v0,ys⟩:=g
   have hk2:ai (Md G) ⟨r.to,r.num⟩=some ys:=by rw[sO,hk];rfl
   have hyl:ys.length≤512:=by
    have h1:=hG.look ⟨r.to,r.num⟩
    rw[hk2] at h1
    have h2:=ajy (fun r':dZ=>decide ((⟨r'.to,r'.num⟩:bJ)=⟨r.to,r.num⟩)) (d.recs.take j)
    rw[←h1] at h2
    simp at h2;omega
   have hkk:kK [C.d (.v (.string r.to)),C.d (.v (.int .i64 r.num))] [C.d (.v (.string r.to)),C.d (.v (.int .i64 r.num))]=true:=by simp[kK,DD]
   have hfi:=Jo (true,[C.d (.v (.string r.to)),C.d (.v (.int .i64 r.num))]) (false,[.ms 2003 6 0 ys.length]) ((bz kF vV G).map dJ) hkk
   have hii:=fun w=>Qg (true,[C.d (.v (.string r.to)),C.d (.v (.int .i64 r.num))]) (false,[.ms 2003 6 0 ys.length]) w ((bz kF vV G).map dJ) hkk
   simp only at hfi hii
   try refine nx @he ?_
   refine X3 yQ af (mid:=1010) (pid:=1011) (pid':=2001) (aid:=2003) rfl rfl hG.perm hk rfl rfl (by decide) ?_
   intro ps' hpe
   refine fE ?_
   refine GY (id:=1010) (es:=dF (true,[C.d (.v (.string r.to)),C.d (.v (.int .i64 r.num))]) (false,[.ms 2003 6 0 ys.length]) ((bz kF vV G).map dJ)) (ak:=BO ⟨r.to,r.num⟩) (p:=(true,[C.d (.v (.string r.to)),C.d (.v (.int .i64 r.num))])) (by simp) WW yV wu rfl rfl rfl rfl rfl (by simp[cu]) (X5 _ _ _ _ (ag0 G)) ?_
   intro β
   simp only[hfi,Option.getD]
   refine fE ?_
   try refine nv ?_
   refine BZ rfl rfl rfl rfl rfl (EX _ _ _) ?_
   rw[Ab.uy]
   refine fE ?_
   simp only[hii]
   refine aZ ?_
   refine Xg _ (E5 yQ af (mid:=1010) (pid:=2001) (pid':=2002) (aid:=67) (G:=G) (k:=⟨r.to,r.num⟩) (ys:=ys++[r]) (ps:=ps') rfl rfl (by simp[Ab.get]) (by simp) (by simp) rfl) ?_
   intro v
   refine fE ?_
   try refine nv ?_
   refine⟨(j+1,eH G ⟨r.to,r.num⟩ (v,ys++[r]),(v,(ys++[r]).map af)::ps'),⟨by simp;omega,?_⟩,by simp;omega,?_⟩
   ·simp only[htk];exact hG.step r v (ys++[r]) (by rw[hk2];rfl) (Us af hk hG.perm hpe)
   ·exact uZ (fun i=>if i=1011 then 2002 else i)
 intro hge
 have hge':j=d.recs.length:=by have:¬j<d.recs.length:=by simpa using hge
                               omega
 rw[hge',afu] at hG
 obtain⟨ff1,ff2⟩:=RG (ke:=kF) af 6 G
 rw[ff1]
 refine aZ ?_
 refine bC (H9 (i:=6) (mid:=1010) (pid:=1011) (sz:=6) rfl rfl rfl (X9 af hG.perm)) ?_
 rw[ff2]
 refine fE ?_
 obtain⟨M,hM⟩:∃M,M=Md G:=⟨_,rfl⟩
 have hMl:∀f,(ai M f).getD []=jF d f:=by rw[hM];exact hG.look
 rw[←hM]
 clear ff1 ff2 hM hG
 try refine nv ?_
 refine mQ (GL (id:=1009) (sz:=1) rfl (by omega)) ?_
 refine fE ?_
 refine au (ι:=Nat×jA×List (akK×Int)×List (Int×(Value×List Int))×List (Value×List (List D)))
  (I:=fun j=>⟨132,[(5, .c (.ptr 1000 0)),(6, .c (.d (.pm (bz kF (fun l=>(false,[.ps 6 (l.map af)])) M)))),(71,qI d.revs),(72,I .i64 d.revs.length),(73,I .i64 j.1)],
    jZ j.2.1 (bz pV vI j.2.2.1) (bz kN vV j.2.2.2.1)++[(1009, .pool 1 j.2.2.2.2)]⟩)
  (Inv:=fun j=>j.1≤d.revs.length∧lG d j.1 j.2.1 (Md j.2.2.2.1)∧yD d j.1 j.2.2.1∧j.2.2.2.2.Perm (mg eI j.2.2.2.1)) (μ:=fun j=>d.revs.length-j.1)
  (0,BU d,[],[],[]) ⟨by simp,by simpa[Md] using lG.zero,yD.zero d,by simp[mg]⟩ ?_ ?_
 ·exact bQ
 rintro⟨k,L,la,G2,ps2⟩ ⟨hk,hrun,hla,hpm⟩
 simp only at hk hrun hla hpm⊢
 have hI:=hrun.inv hg
 have hL:zi L:=⟨by rw[hI.revs];exact hn,by rw[hI.lp,hI.revs],by rw[hI.lf,hI.revs],by rw[hI.lc,hI.revs],by rw[hI.lo,hI.revs],by rw[hI.lr,hI.revs],fun p i h=>by
  obtain⟨j,v,rfl,h1,h2,h3⟩:=(hI.ix p i).1 h
  rw[hI.revs];omega⟩
 try refine nv ?_
 refine aj ?_ ?_
 ·intro hlt
  have hlt':k<d.revs.length:=by simpa using hlt
  obtain⟨v,hv,he,htk⟩:=round aA d.revs k ag hlt'
  have hv':L.revs[k]? =some v:=by rw[hI.revs];exact hv
  have hnum:=hg.num k v hv
  try refine nx @he ?_
  refine oU [] (by simp) (by simp only[jv,kk,Nat.reduceAdd,Nat.reduceLT,Nat.reduceEqDiff, ↓reduceIte,reduceCtorEq];first|done|rfl) ⟨by simp,by simp,by simp[aJ,cZ,aB,aV,bT]⟩ (xC v) ?_
  rintro r st' ⟨rfl,rfl⟩
  refine⟨by simp[lH],?_⟩
  simp only[kP,Nat.reduceEqDiff, ↓reduceIte,reduceCtorEq]
  refine gg ?_
  refine Gj ?_
  refine vw ?_
  refine afK ?_
  by_cases h5:v.act=5
  ·refine aZ ?_
   refine dD (wr:=false) 1 (by simp only[kk,Nat.reduceAdd,Nat.reduceLT,Nat.reduceEqDiff, ↓reduceIte,reduceCtorEq];first|done|rfl) (by exact trivial) ?_
   refine nJ (jZ L (bz pV vI la) (bz kN vV G2)) (Zp L hL (bz pV vI la) (bz kN vV G2) k v hv' h5 (by omega)) ?_
   rintro rv9 st' rfl<;>refine nP ?_
   try refine nx @h5 ?_
   refine aj ?_ ?_
   ·intro h;cases h
   intro _
   have hrun2:lG d (k+1) (DF (bD L k v) (fileOf v) k) (Md G2):= .away hrun hv h5
   have hrv1:(bD L k v).revs=d.revs:=hI.revs
   generalize bD L k v=L1 at hrun2 hrv1⊢
   have hpp:=hpm
   generalize G2=GG at hrun2 hpp⊢
   generalize ps2=pp2 at hpp⊢
   refine aZ ?_
   refine dx ([]) @afP ?_ ?_
   ·exact eQ @zU
   refine aZ ?_
   have hl1:0<L1.revs.length:=by rw[hrv1];omega
   have hl1':(0:Int)<(L1.revs.length:Int):=by omega
   cases hla2:ai la v.path with
   |none=>
    have er0:=bH aA L1.revs 0 ag hl1
    generalize L1.revs.getD 0 ag=w0 at er0
    refine Bg (wr:=false) ([]:List (Nat×AV)) (by simp only[kD,kk,Nat.reduceAdd,Nat.reduceLT,Nat.reduceEqDiff, ↓reduceIte,reduceCtorEq,nO,hla2,Option.map_none,Option.isSome];first|done|rfl) ?_ ?_
    ·exact eQ @rJ
    refine aZ ?_
    refine dx ([]) (p2 @er0 @Int.toNat_zero) ?_ ?_
    ·exact qP
    refine aZ ?_
    refine aj ?_ ?_
    rotate_left
    ·intro h;cases h
    ·intro _
     refine aZ ?_
     refine dx ([]) @Qk ?_ ?_
     ·exact eQ @rJ
     try refine nv ?_
     refine⟨(k+1,DF L1 (fileOf v) k,eH la v.path k,GG,pp2),⟨hlt',hrun2,hla.step hv,hpp⟩,by simp;omega,?_⟩
     (refine bi (fun i=>i) rfl ?_ ⟨?_,?_,?_,bW hx (by simp[ae,Ab.get])⟩<;>first|(simp only[kE,ay, ↓reduceIte,Nat.reduceEqDiff,reduceCtorEq,bM,DF];done)|simp[aH,ax,ah,Ab.get,aJ,cZ,aB,bF,aS,aO,aQ,aT,aP,ae,List.flatten,bM,DF])
   |some z=>
    obtain⟨z1,z2⟩:=hla.bd hla2
    have hzn:=hla.num hg hv hla2
    rw[←hrv1] at hzn
    have z3:z<(L1.revs.length:Int):=by rw[hrv1];exact z2
    have erz:=bH aA L1.revs z.toNat ag (by omega)
    generalize L1.revs.getD z.toNat ag=w0 at erz hzn
    refine Bg (wr:=false) ([]:List (Nat×AV)) (by simp only[kD,kk,Nat.reduceAdd,Nat.reduceLT,Nat.reduceEqDiff, ↓reduceIte,reduceCtorEq,nO,hla2,Option.isSome];first|done|rfl) ?_ ?_
    ·exact eQ @rJ
    refine aZ ?_
    refine dx ([]) @erz ?_ ?_
    ·exact qP
    refine aZ ?_
    refine aj ?_ ?_
    ·intro _
     refine aZ ?_
     refine dx ([]) @Qk ?_ ?_
     ·exact eQ @rJ
     try refine nv ?_
     refine⟨(k+1,DF L1 (fileOf v) k,eH la v.path k,GG,pp2),⟨hlt',hrun2,hla.step hv,hpp⟩,by simp;omega,?_⟩
     (refine bi (fun i=>i) rfl ?_ ⟨?_,?_,?_,bW hx (by simp[ae,Ab.get])⟩<;>first|(simp only[kE,ay, ↓reduceIte,Nat.reduceEqDiff,reduceCtorEq,bM,DF];done)|simp[aH,ax,ah,Ab.get,aJ,cZ,aB,bF,aS,aO,aQ,aT,aP,ae,List.flatten,bM,DF])
    ·intro h
     have:¬w0.num<v.num:=by simpa using h
     exact absurd hzn this
  have hF:∀e∈(bz kN vV G2).map dJ,e.1.1=false∧cu [.int .i64] e.1.2:=by
   intro e he
   simp only[bz,agh] at he
   obtain⟨_,⟨f,_,rfl⟩,rfl⟩:=he
   exact⟨rfl,by simp[dJ,jY,cu]⟩
  refine kL (ι:=List (Int×(Value×List Int))×List (Value×List (List D)))
   (fun j=>⟨132,[(5, .c (.ptr 1000 0)),(6, .c (.d (.pm (bz kF (fun l=>(false,[.ps 6 (l.map af)])) M)))),(10,I .i64 k),(11, .c (.ptr 11 0)),(12, .c (.ptr 12 0)),(71,qI d.revs),(72,I .i64 d.revs.length),(73,I .i64 k)],
     jZ (bD L k v) (bz pV vI la) (bz kN vV j.1)++[(1009, .pool 1 j.2),(11, .box ((aA v).map C.d)),(12, .box ((iR (fileOf v)).map C.d))]⟩)
   (fun j=>Md j.1=N9 (Md G2) (jc L k v) k∧j.2.Perm (mg eI j.1)) ?_ ?_
  ·rcases hI.look hg hv h5 with⟨h1,h2,h3⟩|⟨h1,u,w,a1,a2,a3,a4,a5,a6,a7,a8,a9⟩
   ·have hln:jc L k v=k:=by simp only[jc,h3]
    have hGk:ai G2 (k:Int)=none:=by
     have:=hI.ahv
     rw[sO] at this
     cases hc:ai G2 (k:Int) with
     |none=>rfl
     |some g=>rw[hc] at this;cases this
    have hfe:dC [C.d (.v (.int .i64 k))] ((bz kN vV G2).map dJ)=none:=by
     have:=gX (ve:=vV) GK G2 (k:Int)
     rw[hGk] at this;exact this
    refine aZ ?_
    refine dD (wr:=false) 1 (by simp only[kk,Nat.reduceAdd,Nat.reduceLT,Nat.reduceEqDiff, ↓reduceIte,reduceCtorEq];first|done|rfl) (by exact trivial) ?_
    refine nJ (jZ L (bz pV vI la) (bz kN vV G2)) (Y1 L hL (bz pV vI la) (bz kN vV G2) k v hv' h5 (by omega) h2 hF hfe) ?_
    rintro rv9 st' rfl<;>refine nP ?_
    refine Xg _ (E5 GK eI (mid:=1005) (pid:=1009) (pid':=2002) (aid:=115) (G:=G2) (k:=(k:Int)) (ys:=[(k:Int)]) (ps:=ps2) rfl rfl rfl rfl (by simp) rfl) ?_
    intro vv
    refine fE ?_
    refine Gj ?_
    refine⟨rfl,(eH G2 (k:Int) (vv,[(k:Int)]),(vv,[(k:Int)].map eI)::ps2),⟨?_,UA eI hGk hpm⟩,?_⟩
    ·rw[DT,hln,N9,sO,hGk];rfl
    ·generalize bD L k v=L1
     exact uZ (fun i=>if i=1009 then 2002 else i)
   ·obtain⟨ys,hys,hyl⟩:=hI.ac1 a1 a8
    have hln:jc L k v=L.fst.getD u 0:=by simp only[jc,a7,Int.toNat_natCast]
    generalize hln':L.fst.getD u 0=ln at hys hln a8 a9
    have hG:∃v0,ai G2 ln=some (v0,ys):=by
     rw[sO] at hys
     cases hc:ai G2 ln with
     |none=>rw[hc] at hys;cases hys
     |some g=>rw[hc] at hys;obtain⟨v0,y⟩:=g;simp at hys;exact⟨v0,by rw[hys]⟩
    obtain⟨v0,hGk⟩:=hG
    refine aZ ?_
    refine X3 GK eI (mid:=1005) (pid:=1009) (pid':=2001) (aid:=2003) rfl rfl hpm hGk rfl rfl (by decide) ?_
    intro ps' hpe
    refine fE ?_
    rw[show jY (kN ln)=(false,[C.d (.v (.int .i64 ln))]) from rfl]
    generalize hem:bz kN vV G2=em2 at hF⊢
    refine dD (wr:=false) 1 (by simp only[kk,Nat.reduceAdd,Nat.reduceLT,Nat.reduceEqDiff, ↓reduceIte,reduceCtorEq];first|done|rfl) (by exact trivial) ?_
    refine oU (wC L (bz pV vI la) (dF (false,[C.d (.v (.int .i64 ln))]) (false,[.ms 2003 1 0 ys.length]) (em2.map dJ))++[(2003,ay 1 (ys.map eI))]) (by simp) (by simp only[kV, ↓reduceIte,Nat.reduceEqDiff,reduceCtorEq];first|done|rfl) ⟨by simp[Ab.get,dQ,dP],by simp[bF,aS,aO,aQ,aT,aP,ah,aB,cZ,ae,Ab.get,dQ,dP],by simp[aJ,cZ,aB,ae,Ab.get,dQ,dP]⟩ (YM L hL (bz pV vI la) em2 k v hv' h5 (by omega) u ln a6 (by omega) (by rw[Int.toNat_natCast];exact hln') a8 hF ys (by omega)) ?_
    rintro rv9 st' rfl<;>(refine⟨by simp[lH,ae,Ab.get],?_⟩;simp only[kP,Nat.reduceEqDiff, ↓reduceIte,reduceCtorEq,List.cons_append,List.nil_append])
    subst hem
    refine Xg _ (E5 GK eI (mid:=1005) (pid:=2001) (pid':=2002) (aid:=115) (G:=G2) (k:=ln) (ys:=ys++[(k:Int)]) (ps:=ps') rfl rfl rfl (by simp) (by simp) rfl) ?_
    intro vv
    refine fE ?_
    refine Gj ?_
    refine⟨rfl,(eH G2 ln (vv,ys++[(k:Int)]),(vv,(ys++[(k:Int)]).map eI)::ps'),⟨?_,Us eI hGk hpm hpe⟩,?_⟩
    ·rw[DT,hln,N9,sO,hGk];rfl
    ·generalize bD L k v=L1
     exact uZ (fun i=>if i=1009 then 2002 else i)
  rintro⟨G3,ps3⟩ ⟨hG3,hp3⟩
  simp only at hG3 hp3⊢
  try refine nv ?_
  refine aj ?_ ?_
  rotate_left
  ·intro h;exact absurd (by simpa using h) h5
  intro _
  have hL1:zi (bD L k v):=⟨hL.n,by simp[bD,hL.prev],by simp[bD,hL.fst],hL.car,hL.con,hL.cre,hL.ix⟩
  have hp1:(bD L k v).prev.getD k 0<(bD L k v).revs.length:=by
   show(L.prev.set k _).getD k 0<(L.revs.length:Int)
   rw[jI _ _ _ _ _ (by rw[hI.lp];exact hlt'),if_neg h5,if_pos rfl,hI.revs]
   rcases hI.look hg hv h5 with⟨h1,h2,h3⟩|⟨h1,u,w,a1,a2,a3,a4,a5,a6,a7,a8,a9⟩
   ·simp only[nX,h3];omega
   ·simp only[nX,a7];omega
  have hrl:(jF d (fileOf v)).length≤512:=ajo (ajy ..) hm
  refine kL (ι:=jA)
   (fun L1=>⟨132,[(5, .c (.ptr 1000 0)),(6, .c (.d (.pm (bz kF (fun l=>(false,[.ps 6 (l.map af)])) M)))),(10,I .i64 k),(11, .c (.ptr 11 0)),(12, .c (.ptr 12 0)),(71,qI d.revs),(72,I .i64 d.revs.length),(73,I .i64 k)],
     jZ L1 (bz pV vI la) (bz kN vV G3)++[(1009, .pool 1 ps3),(11, .box ((aA v).map C.d)),(12, .box ((iR (fileOf v)).map C.d))]⟩)
   (fun L1=>∃c m cr,ac4 (bD L k v) k (jF d (fileOf v)) c m cr∧L1=Dq (bD L k v) k c m cr) ?_ ?_
  ·have hMv:=hMl (fileOf v)
   refine aZ ?_
   cases hkM:ai M (fileOf v) with
   |none=>
    rw[hkM] at hMv
    simp only[Option.getD] at hMv
    have hkM':ai M ⟨(fileOf v).path,(fileOf v).num⟩=none:=hkM
    refine dD (wr:=false) 4 (by simp only[kk,Nat.reduceAdd,Nat.reduceLT,Nat.reduceEqDiff, ↓reduceIte,reduceCtorEq,aaE,hkM',Option.map_none,Option.getD];first|done|rfl) ?_ ?_
    ·exact eQ (ahy M)
    refine bC (jf (i:=90) 6 rfl) ?_
    refine fE ?_
    generalize hem:bz kN vV G3=em3
    refine nJ (jZ (bD L k v) (bz pV vI la) em3) (J8 (bD L k v) hL1 (bz pV vI la) em3 k (by show k<L.revs.length;rw[hI.revs];exact hlt') hp1 [] (by simp)) ?_
    rintro rv9 st' ⟨c,m,cr,hA,rfl⟩<;>refine nP ?_
    subst hem
    refine Gj ?_
    refine⟨rfl,Dq (bD L k v) k c m cr,⟨c,m,cr,by rw[←hMv];exact hA,rfl⟩,?_⟩
    generalize Dq (bD L k v) k c m cr=L1
    exact bQ
   |some rs=>
    rw[hkM] at hMv
    simp only[Option.getD] at hMv
    have hkM':ai M ⟨(fileOf v).path,(fileOf v).num⟩=some rs:=hkM
    refine dD (wr:=false) 4 (by simp only[kk,Nat.reduceAdd,Nat.reduceLT,Nat.reduceEqDiff, ↓reduceIte,reduceCtorEq,aaE,hkM',Option.map_some,Option.getD];first|done|rfl) ?_ ?_
    ·exact eQ (ahy M)
    generalize hem:bz kN vV G3=em3
    refine nJ (jZ (bD L k v) (bz pV vI la) em3) (J8 (bD L k v) hL1 (bz pV vI la) em3 k (by show k<L.revs.length;rw[hI.revs];exact hlt') hp1 rs (by rw[hMv];exact hrl)) ?_
    rintro rv9 st' ⟨c,m,cr,hA,rfl⟩<;>refine nP ?_
    subst hem
    refine Gj ?_
    refine⟨rfl,Dq (bD L k v) k c m cr,⟨c,m,cr,by rw[←hMv];exact hA,rfl⟩,?_⟩
    generalize Dq (bD L k v) k c m cr=L1
    exact bQ
  rintro L1 ⟨c,m,cr,hA,hS1⟩
  have hrun2:lG d (k+1) (DF L1 (fileOf v) k) (Md G3):=by rw[hS1,hG3];exact .aa4 hrun hv h5 hA
  have hrv1:L1.revs=d.revs:=by rw[hS1];exact hI.revs
  clear hA hS1
  have hpp:=hp3
  generalize G3=GG at hrun2 hpp⊢
  generalize ps3=pp2 at hpp⊢
  refine aZ ?_
  refine dx ([]) @afP ?_ ?_
  ·exact eQ @zU
  refine aZ ?_
  have hl1:0<L1.revs.length:=by rw[hrv1];omega
  have hl1':(0:Int)<(L1.revs.length:Int):=by omega
  cases hla2:ai la v.path with
  |none=>
   have er0:=bH aA L1.revs 0 ag hl1
   generalize L1.revs.getD 0 ag=w0 at er0
   refine Bg (wr:=false) ([]:List (Nat×AV)) (by simp only[kD,kk,Nat.reduceAdd,Nat.reduceLT,Nat.reduceEqDiff, ↓reduceIte,reduceCtorEq,nO,hla2,Option.map_none,Option.isSome];first|done|rfl) ?_ ?_
   ·exact eQ @rJ
   refine aZ ?_
   refine dx ([]) (p2 @er0 @Int.toNat_zero) ?_ ?_
   ·exact qP
   refine aZ ?_
   refine aj ?_ ?_
   rotate_left
   ·intro h;cases h
   ·intro _
    refine aZ ?_
    refine dx ([]) @Qk ?_ ?_
    ·exact eQ @rJ
    try refine nv ?_
    refine⟨(k+1,DF L1 (fileOf v) k,eH la v.path k,GG,pp2),⟨hlt',hrun2,hla.step hv,hpp⟩,by simp;omega,?_⟩
    (refine bi (fun i=>i) rfl ?_ ⟨?_,?_,?_,bW hx (by simp[ae,Ab.get])⟩<;>first|(simp only[kE,ay, ↓reduceIte,Nat.reduceEqDiff,reduceCtorEq,bM,DF];done)|simp[aH,ax,ah,Ab.get,aJ,cZ,aB,bF,aS,aO,aQ,aT,aP,ae,List.flatten,bM,DF])
  |some z=>
   obtain⟨z1,z2⟩:=hla.bd hla2
   have hzn:=hla.num hg hv hla2
   rw[←hrv1] at hzn
   have z3:z<(L1.revs.length:Int):=by rw[hrv1];exact z2
   have erz:=bH aA L1.revs z.toNat ag (by omega)
   generalize L1.revs.getD z.toNat ag=w0 at erz hzn
   refine Bg (wr:=false) ([]:List (Nat×AV)) (by simp only[kD,kk,Nat.reduceAdd,Nat.reduceLT,Nat.reduceEqDiff, ↓reduceIte,reduceCtorEq,nO,hla2,Option.isSome];first|done|rfl) ?_ ?_
   ·exact eQ @rJ
   refine aZ ?_
   refine dx ([]) @erz ?_ ?_
   ·exact qP
   refine aZ ?_
   refine aj ?_ ?_
   ·intro _
    refine aZ ?_
    refine dx ([]) @Qk ?_ ?_
    ·exact eQ @rJ
    try refine nv ?_
    refine⟨(k+1,DF L1 (fileOf v) k,eH la v.path k,GG,pp2),⟨hlt',hrun2,hla.step hv,hpp⟩,by simp;omega,?_⟩
    (refine bi (fun i=>i) rfl ?_ ⟨?_,?_,?_,bW hx (by simp[ae,Ab.get])⟩<;>first|(simp only[kE,ay, ↓reduceIte,Nat.reduceEqDiff,reduceCtorEq,bM,DF];done)|simp[aH,ax,ah,Ab.get,aJ,cZ,aB,bF,aS,aO,aQ,aT,aP,ae,List.flatten,bM,DF])
   ·intro h
    have:¬w0.num<v.num:=by simpa using h
    exact absurd hzn this
 intro hge
 have hge':k=d.revs.length:=by have:¬k<d.revs.length:=by simpa using hge
                               omega
 rw[hge'] at hrun hla
 have n1:=hL.prev
 have n2:=hL.fst
 have n3:=hL.car
 have n4:=hL.con
 have n5:=hL.cre
 obtain⟨ff1,ff2⟩:=RG (ke:=kN) eI 1 G2
 rw[ff1]
 refine aZ ?_
 refine bC (Ar (bid:=1000) (id:=1001) (j:=1) (es:=bz kF vI L.index) (by decide) rfl rfl rfl) ?_
 refine fE ?_
 refine bC (Ar (bid:=1000) (id:=1002) (j:=2) (es:=bz pV vI la) (by decide) rfl rfl rfl) ?_
 refine fE ?_
 refine bC (gW (bid:=1000) (id:=1003) (j:=3) (ys:=L.prev.map eI) (by decide) rfl rfl rfl (by simp[n1])) ?_
 refine fE ?_
 refine bC (gW (bid:=1000) (id:=1004) (j:=4) (ys:=L.fst.map eI) (by decide) rfl rfl rfl (by simp[n2])) ?_
 refine fE ?_
 refine bC (Hu (bid:=1000) (mid:=1005) (pid:=1009) (j:=5) (sz:=1) rfl rfl rfl rfl (X9 eI hpm)) ?_
 rw[ff2]
 refine fE ?_
 refine bC (gW (bid:=1000) (id:=1006) (j:=6) (ys:=L.car.map jP) (by decide) rfl rfl rfl (by simp[n3])) ?_
 refine fE ?_
 refine bC (gW (bid:=1000) (id:=1007) (j:=7) (ys:=L.con.map jP) (by decide) rfl rfl rfl (by simp[n4])) ?_
 refine fE ?_
 refine bC (gW (bid:=1000) (id:=1008) (j:=8) (ys:=L.cre.map jP) (by decide) rfl rfl rfl (by simp[n5])) ?_
 refine fE ?_
 refine bC (tV (i:=5) (id:=1000) (cs:=uw L la (Md G2)) rfl rfl) ?_
 refine fE ?_
 try refine nv ?_
 refine rA [] ?_
 refine⟨?_,rfl⟩
 exact⟨L,la,Md G2,hrun,hla,rfl⟩
end Go.Proofs.YtcpgicfphakdaaaGreatDoor
