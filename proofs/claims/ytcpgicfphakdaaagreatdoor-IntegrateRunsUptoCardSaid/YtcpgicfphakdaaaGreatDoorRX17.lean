/- A part of the proof. -/
import Derived.Test.YtcpgicfphakdaaaGreatDoorRK8
import Derived.Test.YtcpgicfphakdaaaGreatDoorRX15
set_option maxRecDepth 100000
set_option maxHeartbeats 8000000
set_option linter.all false
namespace Go.Proofs.YtcpgicfphakdaaaGreatDoor
open Go.Ab Tys
variable [yF]
theorem Ac (z:bH×Int):∃c e,Rt z=(true,c)∧z.2=e∧((e=0∧c=(bF z.1).map C.d)∨(¬e=0∧c=[G9, .d (.v (.bool false))])):=by
 by_cases h0:z.2=0
 ·exact⟨_,_,by simp only[Rt,h0,if_true],h0, .inl ⟨rfl,rfl⟩⟩
 ·exact⟨_,_,by simp only[Rt,h0,if_false],rfl, .inr ⟨h0,rfl⟩⟩
def adp.kk:=p6 kB kS Tryz.ntmps177 gG lI Tryz.results177
open adp in
theorem Zo (a m b:bH) (ha:PB 10000 a) (hm:PB 10000 m) (hb:PB 10000 b):AC Tryz.prog 177 [aPat a,aPat m,aPat b] [] (fun r st=>r= .tup [Rt (pg a m b),pI (pg a m b).2]∧st=[]):=by
 have h4:=Yj a m (ha.mono (by omega)) (hm.mono (by omega))
 have h5:=U7 b (hb.mono (by omega))
 have hbb:=fun l h=>Ny (n:=10000) (p:=a) (q:=m) (l:=l) (by omega) ha hm h
 have hR:pg a m b=if(iI b ((jS a m).getD [])).2=0 then((iI b ((jS a m).getD [])).1,0) else(dm,43):=rfl
 generalize pg a m b=R at hR
 generalize hM:jS a m=M at h4 hR
 generalize hsP:(fun l=>iI b l)=sP at*
 have hsP':∀l,iI b l=sP l:=fun l=>by rw[←hsP]
 simp only[hsP'] at h5 hR
 obtain⟨ps,rp⟩:=a
 obtain⟨qs,rq⟩:=m
 obtain⟨us,ru⟩:=b
 cases M with
 |none=>
  simp only[Yk,pB,Option.isSome] at h4
  simp only[Option.getD] at hR
  have h5:=h5 [] (by simp) (by simp)
  obtain⟨c,e,k1,k2,k3⟩:=Ac (sP [])
  rw[k1,k2] at h5
  rw[k2] at hR
  refine dA Tryz.func177 Tryz.ntmps177 fun x hx=>?_
  (repeat (first|refine nv ?_|refine cf (h4) ?_))
  refine bz (ik (i:=20) 2 rfl) ?_
  refine dZ ?_
  rcases k3 with⟨rfl,rfl⟩|⟨e0,rfl⟩
  ·rw[if_pos rfl] at hR
   (repeat (first|refine nv ?_|refine cf (h5) ?_))
   refine aj ?_ ?_
   ·intro h;cases h
   intro _
   try refine nv ?_
   refine rA [] ?_
   refine⟨?_,rfl⟩
   rw[hR];rfl
  ·rw[if_neg e0] at hR
   (repeat (first|refine nv ?_|refine cf (h5) ?_))
   refine aj ?_ ?_
   ·intro _
    try refine nv ?_
    refine rA [] ?_
    refine⟨?_,rfl⟩
    rw[hR];rfl
   ·intro h;simp[e0] at h
 |some l=>
  have hl9:=hbb l hM
  simp only[Yk,pB,Option.isSome] at h4
  simp only[Option.getD] at hR
  have h5:=h5 l (by omega) (fun b hb=>(hl9.2 b hb).mono (by omega))
  obtain⟨c,e,k1,k2,k3⟩:=Ac (sP l)
  rw[k1,k2] at h5
  rw[k2] at hR
  rcases k3 with⟨rfl,rfl⟩|⟨e0,rfl⟩
  ·rw[if_pos rfl] at hR
   refine dA Tryz.func177 Tryz.ntmps177 fun x hx=>?_
   (repeat (first|refine nv ?_|refine cf (h4) ?_|refine cf (h5) ?_))
   refine aj ?_ ?_
   ·intro h;cases h
   intro _
   try refine nv ?_
   refine rA [] ?_
   refine⟨?_,rfl⟩
   rw[hR];rfl
  ·rw[if_neg e0] at hR
   refine dA Tryz.func177 Tryz.ntmps177 fun x hx=>?_
   (repeat (first|refine nv ?_|refine cf (h4) ?_|refine cf (h5) ?_))
   refine aj ?_ ?_
   ·intro _
    try refine nv ?_
    refine rA [] ?_
    refine⟨?_,rfl⟩
    rw[hR];rfl
   ·intro h;simp[e0] at h
theorem Xm (a m b:bH):(pg a m b).2=0∨(pg a m b).2=43:=by
 unfold pg;split
 ·exact .inl rfl
 ·exact .inr rfl
def adr.kk:=p10 kB kS Tryz.ntmps128 CW gG wX uw JU lI Tryz.results128
open adr in
theorem YF (r:IK) (p:bH) (hl:PB 10000 r.left) (hr:PB 10000 r.right) (hp:PB 10000 p):AC Tryz.prog 128 [PL r,aPat p] [] (fun x st=>x=adJ (o9 r p)∧st=[]):=by
 have h1:=zK r (hl.mono (by omega)) (hr.mono (by omega))
 have h2:=jP p (hp.mono (by omega))
 have h3:=PY r.left p (hl.mono (by omega)) (hp.mono (by omega))
 have h4:=fun m hm=>Zo r.left m r.right hl hm hr
 have hmb:=fun m=>Hu (m:=m) hl hp
 have hR:=QE r p
 have o1:okR r=decide (gm r=0):=rfl
 have o2:gz p=decide (bV p=0):=rfl
 generalize o9 r p=R at hR
 generalize gm r=er at h1 o1 hR
 generalize bV p=ep at h2 o2 hR
 obtain⟨ex,lf,rg⟩:=r
 simp only at h1 h3 h4 hmb hR
 generalize hM:jF lf p=M at h3 hR
 obtain⟨ps,rp⟩:=lf
 obtain⟨qs,rq⟩:=rg
 obtain⟨us,ru⟩:=p
 refine dA Tryz.func128 Tryz.ntmps128 fun x hx=>?_
 (repeat (first|refine nv ?_|refine cf (h1) ?_))
 refine aj ?_ ?_
 ·intro h
  have e:¬er=0:=by simpa using h
  rw[o1,decide_eq_false e,if_neg (by simp)] at hR
  try refine nv ?_
  refine rA [] ?_
  refine⟨?_,rfl⟩
  rw[hR];rfl
 intro h
 have e:er=0:=by simpa using h
 rw[o1,decide_eq_true e,if_pos rfl] at hR
 (repeat (first|refine nv ?_|refine cf (h2) ?_))
 refine aj ?_ ?_
 ·intro h
  have e:¬ep=0:=by simpa using h
  rw[o2,decide_eq_false e,if_neg (by simp)] at hR
  try refine nv ?_
  refine rA [] ?_
  refine⟨?_,rfl⟩
  rw[hR];rfl
 intro h
 have e:ep=0:=by simpa using h
 rw[o2,decide_eq_true e,if_pos rfl] at hR
 cases M with
 |none=>
  simp only[Yd,pB,Option.isSome] at h3
  simp only at hR
  (repeat (first|refine nv ?_|refine cf (h3) ?_))
  refine aj ?_ ?_
  ·intro _
   try refine nv ?_
   refine rA [] ?_
   refine⟨?_,rfl⟩
   rw[hR];rfl
  ·intro h;cases h
 |some m=>
  have hm:=hmb m hM
  have h4:=h4 m hm
  simp only at hR
  obtain⟨c,e,k1,k2,k3⟩:=Ac (pg ⟨ps,rp⟩ m ⟨qs,rq⟩)
  have k4:=Xm ⟨ps,rp⟩ m ⟨qs,rq⟩
  rw[k2] at k4
  rw[k1,k2] at h4
  rw[k2] at hR
  generalize pg ⟨ps,rp⟩ m ⟨qs,rq⟩=cz at k3 hR
  obtain⟨ms,rm⟩:=m
  simp only[Yd,pB,Option.isSome] at h3
  (repeat (first|refine nv ?_|refine cf (h3) ?_))
  refine aj ?_ ?_
  ·intro h;cases h
  intro _
  rcases k3 with⟨rfl,rfl⟩|⟨e0,rfl⟩
  ·rw[if_pos rfl] at hR
   (repeat (first|refine nv ?_|refine cf (h4) ?_))
   refine aj ?_ ?_
   ·intro h;cases h
   intro _
   try refine nv ?_
   refine rA [] ?_
   refine⟨?_,rfl⟩
   rw[hR];rfl
  ·rw[if_neg e0] at hR
   obtain rfl:e=43:=by rcases k4 with k4|k4;exact absurd k4 e0;exact k4
   (repeat (first|refine nv ?_|refine cf (h4) ?_))
   refine aj ?_ ?_
   ·intro _
    try refine nv ?_
    refine rA [] ?_
    refine⟨?_,rfl⟩
    rw[hR];rfl
   ·intro h;cases h
end Go.Proofs.YtcpgicfphakdaaaGreatDoor
namespace Go.Proofs.YtcpgicfphakdaaaGreatDoor
open Go.Ab Tys
variable [yF]
def jo (e:eQ):Option Iz:=(kz e e.holes).map fun hs=>⟨e.right,hs⟩
def z61.kk:=p2 (p10 kB kS Tryz.ntmps61 Tryz.underlying77 GR CW gG Ht Jr Bz) (p10 BN uw E8 Fb NJ JU lI Lc Qy Tryz.results61)
open z61 in
theorem UN (e:eQ) (hb:EB 10000 e):AC Tryz.prog 61 [aaI e] [] (fun r st=>r= .tup [Yr (jo e),pI (if(jo e).isSome then 0 else 72)]∧st=[]):=by
 have hli:=Nw e
 have hnr:=fun h hh=>YF e.line h hb.left hb.right (hb.holes h hh)
 have hR:jo e=(kz e e.holes).map fun hs=>⟨e.right,hs⟩:=rfl
 rw[Dj] at hR
 have hFs:=aaK e
 have hF0:([]:List bH).filterMap (hF e)=[]:=rfl
 have hFd:∀h,hF e h=if(o9 e.line h).2.1 then some (o9 e.line h).1.right else none:=fun _=>rfl
 have hOd:∀h,hOK e h=decide ((o9 e.line h).2.2=0):=fun _=>rfl
 have hml:∀l:List bH,(l.filterMap (hF e)).length≤l.length:=fun l=>List.length_filterMap_le ..
 have hlen:=hb.len
 generalize hme:(fun l:List bH=>l.filterMap (hF e))=mE at*
 have hmE:∀l:List bH,l.filterMap (hF e)=mE l:=fun l=>by rw[←hme]
 simp only[hmE] at hR hFs hF0 hml
 generalize hF e=hf at*
 generalize hOK e=ho at*
 generalize jo e=R at hR
 generalize o9 e.line=nl at*
 obtain⟨lf,rg,hs⟩:=e
 obtain⟨ps,rp⟩:=lf
 obtain⟨qs,rq⟩:=rg
 simp only at hR hnr hlen
 refine dA Tryz.func61 Tryz.ntmps61 fun x hx=>?_
 try refine nv ?_
 refine nH (IX (bid:=4) (j:=2) (id:=100) (sz:=2) rfl rfl rfl (by omega)) ?_
 refine dZ ?_
 refine ax (ι:=Nat) (I:=fun k=>⟨41,[(1, .c (.ptr 1 0)),(2, .c (.ptr 2 0)),(4, .c (.ptr 4 0)),(14,iY hs),(15,I .i64 hs.length),(16,I .i64 k)],
  [(1, .box ((eY ⟨⟨ps,rp⟩,⟨qs,rq⟩,hs⟩).map C.d)),(2, .box I5),(4, .box [.d (.ps 1 (qs.map encS)), .d (.v (.bool rq)), .ms 100 2 0 (mE (hs.take k)).length]),(100,aK 2 ((mE (hs.take k)).map bF))]⟩)
  (Inv:=fun k=>k≤hs.length∧(hs.take k).all ho=true) (μ:=fun k=>hs.length-k) 0 ⟨by omega,rfl⟩ ?_ ?_
 ·exact EH @hF0
 rintro k ⟨hk,hall⟩
 have hlk:=hml (hs.take k)
 have hlk2:(hs.take k).length≤k:=by simp;omega
 try refine nv ?_
 refine aj ?_ ?_
 ·intro hlt
  have hlt':k<hs.length:=by simpa using hlt
  obtain⟨v,hv,he,htk⟩:=round bF hs k dm hlt'
  have hvm:=List.mem_of_getElem? hv
  have hnv:=hnr v hvm
  have hsk:=hFs (hs.take k) v
  have hfv:=hFd v
  have hov:=hOd v
  rw[←htk] at hsk
  have hno:ho v=false→¬hs.all ho=true:=by
   intro h0 e
   rw[List.all_eq_true] at e;rw[e v hvm] at h0;cases h0
  generalize nl v=N at hnv hfv hov
  obtain⟨nr,nb,ne⟩:=N
  simp only at hfv hov
  cases nb with
  |false=>
   rw[if_neg (by simp)] at hfv
   rw[hfv,Option.toList,List.append_nil] at hsk
   have hnv':AC Tryz.prog 128 [PL (eQ.line ⟨⟨ps,rp⟩,⟨qs,rq⟩,hs⟩),aPat v] [] (fun x st=>x= .tup [(true,YH),pB false,pI ne]∧st=[]):=hnv
   try refine nx @he ?_
   refine dx ([(22,PL (eQ.line ⟨⟨ps,rp⟩,⟨qs,rq⟩,hs⟩)),(24, .tup [(true,YH),pB false,pI ne])]) @he ?_ ?_
   ·exact ob2 @hli @hnv'
   try refine nv ?_
   refine aj ?_ ?_
   ·intro h
    have h':¬ne=0:=by simpa using h
    rw[decide_eq_false h'] at hov
    rw[if_neg (hno hov)] at hR
    try refine nv ?_
    refine rA [] ?_
    refine⟨?_,rfl⟩
    rw[hR];rfl
   intro h
   have h':ne=0:=by simpa using h
   rw[decide_eq_true h'] at hov
   try refine nv ?_
   refine aj ?_ ?_
   ·intro h;cases h
   intro _
   try refine nv ?_
   refine⟨k+1,⟨by omega,by rw[htk,List.all_append,hall];simp[hov]⟩,by omega,?_⟩
   rw[hsk]
   exact cO
  |true=>
   rw[if_pos rfl] at hfv
   rw[hfv,Option.toList] at hsk
   have hnv':AC Tryz.prog 128 [PL (eQ.line ⟨⟨ps,rp⟩,⟨qs,rq⟩,hs⟩),aPat v] [] (fun x st=>x= .tup [acA nr,pB true,pI ne]∧st=[]):=hnv
   try refine nx @he ?_
   refine dx ([(22,PL (eQ.line ⟨⟨ps,rp⟩,⟨qs,rq⟩,hs⟩)),(24, .tup [acA nr,pB true,pI ne])]) @he ?_ ?_
   ·exact ob2 @hli @hnv'
   try refine nv ?_
   refine aj ?_ ?_
   ·intro h
    have h':¬ne=0:=by simpa using h
    rw[decide_eq_false h'] at hov
    rw[if_neg (hno hov)] at hR
    try refine nv ?_
    refine rA [] ?_
    refine⟨?_,rfl⟩
    rw[hR];rfl
   intro h
   have h':ne=0:=by simpa using h
   rw[decide_eq_true h'] at hov
   try refine nv ?_
   refine aj ?_ ?_
   rotate_left
   ·intro h;cases h
   intro _
   try refine nv ?_
   refine⟨k+1,⟨by omega,by rw[htk,List.all_append,hall];simp[hov]⟩,by omega,?_⟩
   rw[hsk]
   exact Af (fun i=>if i=100 then 37 else i)
 intro hge
 have hk':k=hs.length:=by have:¬k<hs.length:=by simpa using hge
                          omega
 subst hk'
 rw[List.take_length] at hall hlk⊢
 rw[if_pos hall] at hR
 refine bC ?_
 refine bz (gY (bid:=4) (id:=100) (sz:=2) (j:=2) (ys:=(mE hs).map bF) (by decide) rfl rfl rfl (by simp)) ?_
 refine dZ ?_
 try refine nv ?_
 refine rA [] ?_
 refine⟨?_,rfl⟩
 rw[hR];rfl
end Go.Proofs.YtcpgicfphakdaaaGreatDoor
namespace Go.Proofs.YtcpgicfphakdaaaGreatDoor
open Go.Ab Tys
def iM (e:eQ):List bH:=e.left::e.right::e.holes
theorem xY (e:eQ):(iM e).length=2+e.holes.length:=by simp only[iM,List.length_cons];omega
theorem Jj (e:eQ):((iM e).length:Int)=2+(e.holes.length:Int):=by have:=xY e;omega
def Gq (l:List bH):Nat:=(l.map fun p=>p.parts.length).sum
def UJ (m:List eQ):Nat:=(m.map fun e=>Gq (iM e)).sum
theorem QO {α:Type} {f:α→Nat} {c:Nat}:∀{l:List α},(∀x∈l,f x≤c)→(l.map f).sum≤l.length*c
 |[],_=>by simp
 |x::l,h=>by
  have h1:=h x List.mem_cons_self
  have h2:=QO (l:=l) (f:=f) (c:=c) fun y hy=>h y (List.mem_cons_of_mem _ hy)
  simp only[List.map_cons,List.sum_cons,List.length_cons,Nat.add_mul,Nat.one_mul];omega
theorem LU {α:Type} {f:α→Nat}:∀{l:List α} {x:α},x∈l→f x≤(l.map f).sum
 |[],x,h=>by cases h
 |y::l,x,h=>by
  simp only[List.map_cons,List.sum_cons]
  rcases List.mem_cons.1 h with rfl|h
  ·omega
  ·have:=LU (f:=f) h;omega
theorem Yc (l:List bH) (p:bH):Gq (l++[p])=Gq l+p.parts.length:=by simp[Gq]
theorem X7 (l:List bH) (n:Nat):Gq (l.take n)≤Gq l:=by
 have:Gq l=Gq (l.take n)+Gq (l.drop n):=by
  conv=>lhs;rw[←List.take_append_drop n l]
  simp only[Gq,List.map_append,List.sum_append]
 omega
theorem XK (l:List eQ) (e:eQ):UJ (l++[e])=UJ l+Gq (iM e):=by simp[UJ]
def rU (m:List eQ):Bool:=(m.all fun e=>(iM e).all fun p=>p.parts.all fun s=>decide (s.size≤60))&&(decide (UJ m≤60)&&decide (m.length≤6))
theorem QT {m:List eQ} {e:eQ} {p:bH} {s:ByteArray} (he:e∈m) (hp:p∈iM e) (hs:s∈p.parts) (h:¬s.size≤60):rU m=false:=by
 cases hb:rU m with
 |false=>rfl
 |true=>
  simp only[rU,Bool.and_eq_true] at hb
  have h1:=List.all_eq_true.1 hb.1 e he
  have h2:=List.all_eq_true.1 h1 p hp
  have h3:=List.all_eq_true.1 h2 s hs
  exact absurd (of_decide_eq_true h3) h
theorem Ov {m:List eQ} (h:∀e∈m,∀p∈iM e,∀s∈p.parts,s.size≤60):rU m=(decide (UJ m≤60)&&decide (m.length≤6)):=by
 have:(m.all fun e=>(iM e).all fun p=>p.parts.all fun s=>decide (s.size≤60))=true:=
  List.all_eq_true.2 fun e he=>List.all_eq_true.2 fun p hp=>List.all_eq_true.2 fun s hs=>decide_eq_true (h e he p hp s hs)
 rw[rU,this,Bool.true_and]
theorem UZ {m:List eQ} (h:rU m=true):m.length≤6∧∀e∈m,∀p∈iM e,PB 60 p:=by
 simp only[rU,Bool.and_eq_true,decide_eq_true_eq] at h
 obtain⟨ha,h5,h6⟩:=h
 refine⟨h6,fun e he p hp=>⟨?_,fun s hs=>?_⟩⟩
 ·have h1:=LU (f:=fun p:bH=>p.parts.length) hp
  have h2:=LU (f:=fun e=>Gq (iM e)) he
  have h3:Gq (iM e)=((iM e).map fun p=>p.parts.length).sum:=rfl
  have h4:UJ m=(m.map fun e=>Gq (iM e)).sum:=rfl
  omega
 ·have h1:=List.all_eq_true.1 ha e he
  have h2:=List.all_eq_true.1 h1 p hp
  exact of_decide_eq_true (List.all_eq_true.1 h2 s hs)
variable [yF]
end Go.Proofs.YtcpgicfphakdaaaGreatDoor
