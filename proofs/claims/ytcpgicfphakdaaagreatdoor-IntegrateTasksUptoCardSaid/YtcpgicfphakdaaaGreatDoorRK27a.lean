/- A part of the proof. -/
import Derived.Test.YtcpgicfphakdaaaGreatDoorRK13
import Derived.Test.YtcpgicfphakdaaaGreatDoorRX15
set_option maxRecDepth 100000
set_option maxHeartbeats 32000000
set_option linter.all false
namespace Go.Proofs.YtcpgicfphakdaaaGreatDoor
open Go.Ab Tys
variable [zG]
def kL (e:dU):Option DC:=(lm e e.holes).map fun hs=>⟨e.right,hs⟩
def z61.kk:=p2 (p10 kB kS Tryz.ntmps61 Tryz.underlying77 mQ qo df xH vU kz) (p10 jX jY xx xg rY xy fM xI Fg Tryz.results61)
open z61 in
theorem Wn (e:dU) (hb:EB 10000 e):AC Tryz.prog 61 [TR e] [] (fun r st=>r= .tup [EJ (kL e),pI (if(kL e).isSome then 0 else 72)]∧st=[]):=by
 have hli:=Pn e
 have hnr:=fun h hh=>Zo e.line h hb.left hb.right (hb.holes h hh)
 have hR:kL e=(lm e e.holes).map fun hs=>⟨e.right,hs⟩:=rfl
 rw[vK] at hR
 have hFs:=UK e
 have hF0:([]:List aX).filterMap (hF e)=[]:=rfl
 have hFd:∀h,hF e h=if(lT e.line h).2.1 then some (lT e.line h).1.right else none:=fun _=>rfl
 have hOd:∀h,Y9 e h=decide ((lT e.line h).2.2=0):=fun _=>rfl
 have hml:∀l:List aX,(l.filterMap (hF e)).length≤l.length:=fun l=>List.length_filterMap_le ..
 have hlen:=hb.len
 generalize hme:(fun l:List aX=>l.filterMap (hF e))=mE at*
 have hmE:∀l:List aX,l.filterMap (hF e)=mE l:=fun l=>by rw[←hme]
 simp only[hmE] at hR hFs hF0 hml
 generalize hF e=hf at*
 generalize Y9 e=ho at*
 generalize kL e=R at hR
 generalize lT e.line=nl at*
 obtain⟨lf,rg,hs⟩:=e
 obtain⟨ps,rp⟩:=lf
 obtain⟨qs,rq⟩:=rg
 simp only at hR hnr hlen
 refine bV Tryz.func61 Tryz.ntmps61 fun x hx=>?_
 try refine nv ?_
 refine mg (pW (bid:=4) (j:=2) (id:=100) (sz:=2) rfl rfl rfl (by omega)) ?_
 refine dM ?_
 refine ag (ι:=Nat) (I:=fun k=>⟨41,[(1, .c (.ptr 1 0)),(2, .c (.ptr 2 0)),(4, .c (.ptr 4 0)),(14,eU hs),(15,I .i64 hs.length),(16,I .i64 k)],
  [(1, .box ((dK ⟨⟨ps,rp⟩,⟨qs,rq⟩,hs⟩).map C.d)),(2, .box IP),(4, .box [.d (.ps 1 (qs.map encS)), .d (.v (.bool rq)), .ms 100 2 0 (mE (hs.take k)).length]),(100,aQ 2 ((mE (hs.take k)).map au))]⟩)
  (Inv:=fun k=>k≤hs.length∧(hs.take k).all ho=true) (μ:=fun k=>hs.length-k) 0 ⟨by omega,rfl⟩ ?_ ?_
 ·exact tK @hF0
 rintro k ⟨hk,hall⟩
 have hlk:=hml (hs.take k)
 have hlk2:(hs.take k).length≤k:=by simp;omega
 try refine nv ?_
 refine af ?_ ?_
 ·intro hlt
  have hlt':k<hs.length:=by simpa using hlt
  obtain⟨v,hv,he,htk⟩:=round au hs k bz hlt'
  have hvm:=List.mem_of_getElem? hv
  have hnv:=hnr v hvm
  have hsk:=hFs (hs.take k) v
  have hfv:=hFd v
  have hov:=hOd v
  rw[←htk] at hsk
  have hno:ho v=false→¬hs.all ho=true:=by
   intro h0 e
   rw[List.all_eq_true] at e;rw[e v hvm] at h0;cases h0
  generalize nl v=N at hnv hfv hov
  obtain⟨nr,nb,ne⟩:=N
  simp only at hfv hov
  cases nb with
  |false=>
   rw[if_neg (by simp)] at hfv
   rw[hfv,Option.toList,List.append_nil] at hsk
   have hnv':AC Tryz.prog 128 [zY (dU.line ⟨⟨ps,rp⟩,⟨qs,rq⟩,hs⟩),aPat v] [] (fun x st=>x= .tup [(true,PZ),pB false,pI ne]∧st=[]):=hnv
   try refine nx @he ?_
   refine dx ([(22,zY (dU.line ⟨⟨ps,rp⟩,⟨qs,rq⟩,hs⟩)),(24, .tup [(true,PZ),pB false,pI ne])]) @he ?_ ?_
   ·exact ob2 @hli @hnv'
   try refine nv ?_
   refine af ?_ ?_
   ·intro h
    have h':¬ne=0:=by simpa using h
    rw[decide_eq_false h'] at hov
    rw[if_neg (hno hov)] at hR
    try refine nv ?_
    refine rA [] ?_
    refine⟨?_,rfl⟩
    rw[hR];rfl
   intro h
   have h':ne=0:=by simpa using h
   rw[decide_eq_true h'] at hov
   try refine nv ?_
   refine af ?_ ?_
   ·intro h;cases h
   intro _
   try refine nv ?_
   refine⟨k+1,⟨by omega,by rw[htk,List.all_append,hall];simp[hov]⟩,by omega,?_⟩
   rw[hsk]
   exact aW
  |true=>
   rw[if_pos rfl] at hfv
   rw[hfv,Option.toList] at hsk
   have hnv':AC Tryz.prog 128 [zY (dU.line ⟨⟨ps,rp⟩,⟨qs,rq⟩,hs⟩),aPat v] [] (fun x st=>x= .tup [YB nr,pB true,pI ne]∧st=[]):=hnv
   try refine nx @he ?_
   refine dx ([(22,zY (dU.line ⟨⟨ps,rp⟩,⟨qs,rq⟩,hs⟩)),(24, .tup [YB nr,pB true,pI ne])]) @he ?_ ?_
   ·exact ob2 @hli @hnv'
   try refine nv ?_
   refine af ?_ ?_
   ·intro h
    have h':¬ne=0:=by simpa using h
    rw[decide_eq_false h'] at hov
    rw[if_neg (hno hov)] at hR
    try refine nv ?_
    refine rA [] ?_
    refine⟨?_,rfl⟩
    rw[hR];rfl
   intro h
   have h':ne=0:=by simpa using h
   rw[decide_eq_true h'] at hov
   try refine nv ?_
   refine af ?_ ?_
   rotate_left
   ·intro h;cases h
   intro _
   try refine nv ?_
   refine⟨k+1,⟨by omega,by rw[htk,List.all_append,hall];simp[hov]⟩,by omega,?_⟩
   rw[hsk]
   exact uY (fun i=>if i=100 then 37 else i)
 intro hge
 have hk':k=hs.length:=by have:¬k<hs.length:=by simpa using hge
                          omega
 subst hk'
 rw[List.take_length] at hall hlk⊢
 rw[if_pos hall] at hR
 refine aJ ?_
 refine aG (dY (bid:=4) (id:=100) (sz:=2) (j:=2) (ys:=(mE hs).map au) (by decide) rfl rfl rfl (by simp)) ?_
 refine dM ?_
 try refine nv ?_
 refine rA [] ?_
 refine⟨?_,rfl⟩
 rw[hR];rfl
end Go.Proofs.YtcpgicfphakdaaaGreatDoor
namespace Go.Proofs.YtcpgicfphakdaaaGreatDoor
open Go.Ab Tys
variable [zG]
def Qm (e:dU):DC:=(kL e).getD acJ
def Q7 (e:dU):List D:=rP (Qm e)
def rT (m:List dU) (k:Nat):List (List C):=(m.take k).map (fun e=>(Q7 e).map C.d)++List.replicate (m.length-k) IP
theorem acA {m:List dU} {k:Nat} (h:k≤m.length):(rT m k).length=m.length:=by
 simp only[rT,List.length_append,List.length_map,List.length_take,List.length_replicate];omega
theorem ack {m:List dU} {k:Nat} {e:dU} (h:m[k]? =some e):(rT m k).set k ((Q7 e).map C.d)=rT m (k+1):=by
 have hk:=(List.getElem?_eq_some_iff.1 h).1
 have hl:((m.take k).map fun e=>(Q7 e).map C.d).length=k:=by simp;omega
 rw[rT,rT,List.set_append_right _ _ (by omega),hl,Nat.sub_self,List.take_add_one,h,show m.length-k=(m.length-(k+1))+1 by omega,List.replicate_succ,List.set_cons_zero]
 simp
theorem ac0 (m:List dU):rT m m.length=(m.map Q7).map fun l=>l.map C.d:=by
 simp[rT]
theorem aar (m:List dU):rT m 0=List.replicate m.length IP:=by simp[rT]
theorem acT {m:List dU} {k:Nat} (h:k<m.length):(rT m k).getD k []=IP:=by
 have hl:((m.take k).map fun e=>(Q7 e).map C.d).length=k:=by simp;omega
 rw[rT,List.getD_eq_getElem?_getD,List.getElem?_append_right (by omega),hl,Nat.sub_self,List.getElem?_replicate,if_pos (by omega)];rfl
theorem NL {dom:Nat→Bool}:∀l:List (List C),(∀x∈l,aN dom x=True)→aN dom l.flatten=True
 |[],_=>by simp[aN]
 |x::l,h=>by simp only[List.flatten_cons,ay,h x (by simp),NL l (fun y hy=>h y (by simp[hy])),and_self]
theorem abn (dom:Nat→Bool) (n:Nat):aN dom (List.replicate n IP).flatten=True:=
 NL _ fun x hx=>by rw[List.eq_of_mem_replicate hx];simp[aN,dH]
theorem ac8 (dom:Nat→Bool) (m:List dU) (k:Nat):aN dom (rT m k).flatten=True:=
 NL _ fun x hx=>by
  rcases List.mem_append.1 hx with h|h
  ·obtain⟨e,_,rfl⟩:=List.mem_map.1 h
   simp[Q7,aN,dH]
  ·rw[List.eq_of_mem_replicate h];simp[aN,dH]
theorem QO (e:dU):(oK e).isSome=(kL e).isSome:=by
 unfold oK kL;cases lm e e.holes<;>rfl
theorem KT {e:dU} (hb:EB 10000 e) (hc:iK e.qR=0) (h:(kL e).isSome=true):PB 100000 (Qm e).base∧(Qm e).holes.length≤1000∧∀h∈(Qm e).holes,PB 100000 h∧fG h=true:=by
 have hl:=wE hc
 unfold Qm kL at*
 cases hh:lm e e.holes with
 |none=>rw[hh] at h;cases h
 |some a=>
  simp only[Option.map_some,Option.getD_some]
  have hw:=wK e _ _ hh
  rw[vK] at hh
  split at hh
  ·cases hh
   refine⟨hb.right.mono (by omega),?_,fun k hk=>⟨?_,(hw k hk).1⟩⟩
   ·have:=List.length_filterMap_le (hF e) e.holes
    simp only[dU.qR] at hl;omega
   ·obtain⟨x,h1,h2⟩:=List.mem_filterMap.1 hk
    unfold hF at h2
    split at h2
    ·cases h2;exact(Og (n:=10000) (by omega) hb.left hb.right (hb.holes x h1)).mono (by omega)
    ·cases h2
  ·cases hh
theorem JL {r:Gs} (h:dN r=0):fG r.right=true:=by
 unfold dN at h
 split at h
 ·split at h
  ·assumption
  ·omega
 ·omega
theorem adc {x y:dU} (hx:dN x.line=0) (hy:dN y.line=0) (h1:(kL x).isSome=true) (h2:(kL y).isSome=true):WR x y=(iD x.qR y.qR||iD (Qm x) (Qm y)):=by
 unfold WR Qm oK kL at*
 cases ha:lm x x.holes with
 |none=>rw[ha] at h1;cases h1
 |some a=>
  cases hb:lm y y.holes with
  |none=>rw[hb] at h2;cases h2
  |some b=>
   simp only[Option.map_some,Option.getD_some]
   rw[PM (JL (r:=x.line) hx) (JL (r:=y.line) hy) ha hb]
theorem Ky {g:DC} (h:iK g=0):∀k∈g.holes,fG k=true:=by
 unfold iK at h
 split at h
 ·split at h
  ·rename_i h2;exact List.all_eq_true.1 h2
  ·omega
 ·omega
theorem TN {e:dU} (h:(kL e).isSome=true):EJ (kL e)=(true,(Q7 e).map C.d):=by
 unfold Q7 Qm
 cases hh:kL e with
 |none=>rw[hh] at h;cases h
 |some g=>rfl
def z23.kk:=LK kB kG kS Tryz.ntmps23 Tryz.underlying23 mQ xH acp PV ado rY VC Fg Tryz.results23
open z23 in
theorem SY (m:List dU) (hm:m.length≤10000) (hb:∀e∈m,EB1 e):AC Tryz.prog 23 [dZ m] [] (fun r st=>(∃i e:Int,r= .tup [pI i,pI e]∧(e=0↔uN m))∧st=[]):=by
 refine bV Tryz.func23 Tryz.ntmps23 fun x hx=>?_
 try refine nv ?_
 refine ag (ι:=Nat) (I:=fun k=>⟨88,[(0,dZ m),(15,dZ m),(16,I .i64 m.length),(17,I .i64 k)],[]⟩)
  (Inv:=fun k=>k≤m.length∧∀e∈m.take k,dN e.line=0∧iK e.qR=0) (μ:=fun k=>m.length-k) 0 ⟨by omega,by simp⟩ ?_ ?_
 ·exact aW
 rintro k ⟨hk,hent⟩
 try refine nv ?_
 refine af ?_ ?_
 ·intro hlt
  have hlt':k<m.length:=by simpa using hlt
  obtain⟨v,hv,he,htk⟩:=round dK m k D7 hlt'
  have hvm:=List.mem_of_getElem? hv
  have hbv:=hb v hvm
  have hie:=Ri v (hbv.left.mono (by omega)) (hbv.right.mono (by omega)) hbv.len (fun h hh=>(hbv.holes h hh).mono (by omega))
  have hbad:EW v=false→¬uN m:=fun hn hM=>by
   have:=hM.ent v hvm
   simp[EW,okR,this.1,this.2] at hn
  have hnx:EW v=true→∀e∈m.take (k+1),dN e.line=0∧iK e.qR=0:=by
   intro h e he2
   rw[htk,List.mem_append] at he2
   rcases he2 with he2|he2
   ·exact hent e he2
   ·simp only[List.mem_singleton] at he2;subst he2;simpa[EW,okR] using h
  generalize EW v=eo at hie hbad hnx
  (repeat (first|refine nx @he ?_|refine cf (hie) ?_))
  refine af ?_ ?_
  ·intro hc
   have hc':eo=false:=by simpa using hc
   try refine nv ?_
   refine rA [] ?_
   refine⟨?_,rfl⟩
   exact⟨_,_,rfl,by simp[hbad hc']⟩
  ·intro hc
   have hc':eo=true:=by simpa using hc
   try refine nv ?_
   refine⟨k+1,⟨by omega,hnx hc'⟩,by omega,?_⟩
   exact aW
 intro hge0
 have hk':k=m.length:=by have:¬k<m.length:=by simpa using hge0
                         omega
 rw[hk',List.take_length] at hent
 try refine nv ?_
 refine af ?_ ?_
 ·intro hc
  have hc':¬m.length≤32:=by simp at hc;omega
  try refine nv ?_
  refine rA [] ?_
  refine⟨?_,rfl⟩
  exact⟨_,_,rfl,by constructor<;>intro h<;>first|omega|exact absurd h.len hc'⟩
 intro hlen
 have hlen':m.length≤32:=by simp at hlen;omega
 try refine nv ?_
 refine ag (ι:=Nat) (I:=fun k=>⟨88,[(0,dZ m),(6, .c (.ms 32 3 0 m.length)),(33,dZ m),(34,I .i64 m.length),(35,I .i64 k)],[(32, .arr 3 (rT m k))]⟩)
  (Inv:=fun k=>k≤m.length∧∀e∈m.take k,(kL e).isSome=true) (μ:=fun k=>m.length-k) 0 ⟨by omega,by simp⟩ ?_ ?_
 ·exact tK (p2 @aar @abn)
 rintro k2 ⟨hk2,hall⟩
 have hrl:=acA hk2
 try refine nv ?_
 refine af ?_ ?_
 ·intro hlt
  have hlt':k2<m.length:=by simpa using hlt
  obtain⟨v,hv,he,htk⟩:=round dK m k2 D7 hlt'
  have hvm:=List.mem_of_getElem? hv
  have hbv:=(hb v hvm).eb (hent v hvm).2
  have hr:=Wn v hbv
  have hset:=ack hv
  have hso:=TN (e:=v)
  cases hrv:(kL v).isSome with
  |false=>
   have hrn:kL v=none:=by simpa using hrv
   rw[hrn] at hr
   simp only[EJ,pB,Option.isSome,Bool.false_eq_true,if_false] at hr
   (repeat (first|refine nx @he ?_|refine cf (hr) ?_))
   refine af ?_ ?_
   ·intro _
    try refine nv ?_
    refine rA [] ?_
    refine⟨?_,rfl⟩
    exact⟨_,_,rfl,by constructor<;>intro h<;>first|omega|(have:=h.right v hvm;rw[QO,hrv] at this;cases this)⟩
   ·intro h;cases h
  |true=>
   rw[hso hrv,hrv,if_pos rfl] at hr
   have hget:=acT hlt'
   generalize hW:(Q7 v).map C.d=W at hr hset
   obtain⟨c1,c2,c3,rfl⟩:∃c1 c2 c3,W=[c1,c2,c3]:=⟨_,_,_,hW.symm⟩
   have hset2:(rT m k2).set k2 (c1::c2::c3::List.drop 3 ((rT m k2).getD k2 []))=rT m (k2+1):=by rw[hget];exact hset
   (repeat (first|refine nx @he ?_|refine cf (hr) ?_))
   refine af ?_ ?_
   ·intro h;cases h
   intro _
   try refine nx @hset2 ?_
   refine⟨k2+1,⟨by omega,?_⟩,by omega,?_⟩
   ·intro e he2
    rw[htk,List.mem_append] at he2
    rcases he2 with he2|he2
    ·exact hall e he2
    ·simp only[List.mem_singleton] at he2;subst he2;exact hrv
   ·exact tK @ac8
 intro hge
 have hk2':k2=m.length:=by have:¬k2<m.length:=by simpa using hge
                           omega
 subst hk2'
 rw[List.take_length] at hall
 rw[ac0]
 refine aJ ?_
 refine aG (aI (i:=6) (id:=32) (sz:=3) (ys:=m.map Q7) rfl rfl (by rw[List.length_map])) ?_
 refine dM ?_
 try refine nv ?_
 refine ag (ι:=Nat) (I:=fun k=>⟨88,[(0,dZ m),(6, .c (.d (.ps 3 (m.map Q7)))),(53,dZ m),(54,I .i64 m.length),(55,I .i64 k)],[]⟩)
  (Inv:=fun k=>k≤m.length∧∀(i j:Nat) (x y:dU),i<k→j<i→m[i]? =some x→m[j]? =some y→WR x y=false) (μ:=fun k=>m.length-k) 0 ⟨by omega,fun i j x y h=>by omega⟩ ?_ ?_
 ·exact aW
 rintro k3 ⟨hk3,hap⟩
 try refine nv ?_
 refine af ?_ ?_
 ·intro hlt
  have hlt':k3<m.length:=by simpa using hlt
  obtain⟨v,hv,he,htk⟩:=round dK m k3 D7 hlt'
  obtain⟨_,hv9,hrv,_⟩:=round Q7 m k3 D7 hlt'
  rw[hv] at hv9;cases hv9
  have hvm:=List.mem_of_getElem? hv
  have hbv:=(hb v hvm).eb (hent v hvm).2
  have hvl:=wE (hent v hvm).2
  obtain⟨g1,g2,g3⟩:=KT hbv (hent v hvm).2 (hall v hvm)
  try refine nx @he ?_
  refine ag (ι:=Nat) (I:=fun j=>⟨88,[(0,dZ m),(6, .c (.d (.ps 3 (m.map Q7)))),(11,I .i64 k3),(12, .c (.ptr 12 0)),(53,dZ m),(54,I .i64 m.length),(55,I .i64 k3),(62, .c (.d (.ps 5 ((m.map dK).take k3)))),(63,I .i64 k3),(64,I .i64 j)],
   [(12, .box ((dK v).map C.d))]⟩)
   (Inv:=fun j=>j≤k3∧∀(i:Nat) (y:dU),i<j→m[i]? =some y→WR v y=false) (μ:=fun j=>k3-j) 0 ⟨by omega,fun i y h=>by omega⟩ ?_ ?_
  ·(refine fZ (fun i=>i) rfl ?_ ⟨?_,?_,?_,gu hx (by simp[ae,Ab.get])⟩<;>first|(simp only[kE,aQ, ↓reduceIte,Nat.reduceEqDiff,reduceCtorEq,List.length_take,Nat.min_eq_left hk3];done)|simp[di,bf,aA,Ab.get,aZ,dH,aN,bY,bG,bH,bD,bI,bC,ae,List.flatten,List.length_take,Nat.min_eq_left hk3])
  rintro j ⟨hj,hcl⟩
  try refine nv ?_
  refine af ?_ ?_
  ·intro hlt2
   have hlt2':j<k3:=by simpa using hlt2
   obtain⟨u,hu,he2,_⟩:=round dK m j D7 (by omega)
   obtain⟨_,hu9,hru,_⟩:=round Q7 m j D7 (by omega)
   rw[hu] at hu9;cases hu9
   have hum:=List.mem_of_getElem? hu
   have hbu:=(hb u hum).eb (hent u hum).2
   have hul:=wE (hent u hum).2
   obtain⟨s1,s2,s3⟩:=KT hbu (hent u hum).2 (hall u hum)
   have he3:((m.map dK).take k3).getD j []=dK u:=by
    rw[List.getD_eq_getElem?_getD,List.getElem?_take,if_pos hlt2',←List.getD_eq_getElem?_getD,he2]
   have hc1:=GU (dU.qR v) (dU.qR u) (hbv.left.mono (by omega)) (hbu.left.mono (by omega)) (by omega) (by omega) (fun h hh=>⟨(hbv.holes h hh).mono (by omega),Ky (hent v hvm).2 h hh⟩) (fun h hh=>⟨(hbu.holes h hh).mono (by omega),Ky (hent u hum).2 h hh⟩)
   have hc2:=GU (Qm v) (Qm u) g1 s1 g2 s2 g3 s3
   have hcB:=adc (hent v hvm).1 (hent u hum).1 (hall v hvm) (hall u hum)
   generalize iD (dU.qR v) (dU.qR u)=b1 at hc1 hcB
   generalize iD (Qm v) (Qm u)=b2 at hc2 hcB
   have hrv2:(m.map Q7).getD k3 []=rP (Qm v):=hrv
   have hru2:(m.map Q7).getD j []=rP (Qm u):=hru
   generalize Qm v=G at hc2 hrv2
   generalize Qm u=H at hc2 hru2
   obtain⟨⟨gp,gr⟩,gh⟩:=G
   obtain⟨⟨sp,sr⟩,sh⟩:=H
   try refine nx @he3 ?_
   refine dx ([(70,xJ (dU.qR v)),(72,xJ (dU.qR u)),(73,B b1),(83,B b2)]) (p2 @hrv2 @hru2) ?_ ?_
   ·exact ob4 (II v) (II u) @hc1 @hc2
   refine aJ ?_
   refine af ?_ ?_
   ·intro hc
    have hc':WR v u=true:=by rw[hcB];cases b1<;>cases b2<;>simp_all
    try refine nv ?_
    refine rA [] ?_
    refine⟨?_,rfl⟩
    exact⟨_,_,rfl,by constructor<;>intro h<;>first|omega|(have:=h.apart k3 j v u hlt2' hv hu;rw[hc'] at this;cases this)⟩
   ·intro hc
    have hc':WR v u=false:=by rw[hcB];cases b1<;>cases b2<;>simp_all
    try refine nv ?_
    refine⟨j+1,⟨by omega,?_⟩,by omega,?_⟩
    ·intro i y h1 h2
     by_cases e:i=j
     ·subst e;rw[hu] at h2;cases h2;exact hc'
     ·exact hcl i y (by omega) h2
    ·exact aW
  intro hge4
  have hj':j=k3:=by have:¬j<k3:=by simpa using hge4
                    omega
  try refine nv ?_
  refine⟨k3+1,⟨by omega,?_⟩,by omega,?_⟩
  ·intro i j2 x y h1 h2 h3 h4
   by_cases e:i=k3
   ·subst e;rw[hv] at h3;cases h3;exact hcl j2 y (by omega) h4
   ·exact hap i j2 x y (by omega) h2 h3 h4
  ·exact aW
 intro hge5
 have hk3':k3=m.length:=by have:¬k3<m.length:=by simpa using hge5
                           omega
 try refine nv ?_
 refine rA [] ?_
 refine⟨?_,rfl⟩
 exact⟨_,_,rfl,fun _=>⟨hent,hlen',fun e he=>by rw[QO];exact hall e he,fun i j x y h1 h2 h3=>hap i j x y (by have:=(List.getElem?_eq_some_iff.1 h2).1;omega) h1 h2 h3⟩,fun _=>rfl⟩
end Go.Proofs.YtcpgicfphakdaaaGreatDoor
namespace Go.Proofs.YtcpgicfphakdaaaGreatDoor
open Go.Ab Tys
def jH (e:dU):List aX:=e.left::e.right::e.holes
theorem BI (e:dU):(jH e).length=2+e.holes.length:=by simp only[jH,List.length_cons];omega
theorem VL (e:dU):((jH e).length:Int)=2+(e.holes.length:Int):=by have:=BI e;omega
def Jf (l:List aX):Nat:=(l.map fun p=>p.parts.length).sum
def XE (m:List dU):Nat:=(m.map fun e=>Jf (jH e)).sum
theorem Sv {α:Type} {f:α→Nat} {c:Nat}:∀{l:List α},(∀x∈l,f x≤c)→(l.map f).sum≤l.length*c
 |[],_=>by simp
 |x::l,h=>by
  have h1:=h x List.mem_cons_self
  have h2:=Sv (l:=l) (f:=f) (c:=c) fun y hy=>h y (List.mem_cons_of_mem _ hy)
  simp only[List.map_cons,List.sum_cons,List.length_cons,Nat.add_mul,Nat.one_mul];omega
theorem MW {α:Type} {f:α→Nat}:∀{l:List α} {x:α},x∈l→f x≤(l.map f).sum
 |[],x,h=>by cases h
 |y::l,x,h=>by
  simp only[List.map_cons,List.sum_cons]
  rcases List.mem_cons.1 h with rfl|h
  ·omega
  ·have:=MW (f:=f) h;omega
theorem XU (l:List aX) (p:aX):Jf (l++[p])=Jf l+p.parts.length:=by simp[Jf]
theorem Zq (l:List aX) (n:Nat):Jf (l.take n)≤Jf l:=by
 have:Jf l=Jf (l.take n)+Jf (l.drop n):=by
  conv=>lhs;rw[←List.take_append_drop n l]
  simp only[Jf,List.map_append,List.sum_append]
 omega
theorem ZR (l:List dU) (e:dU):XE (l++[e])=XE l+Jf (jH e):=by simp[XE]
def uH (m:List dU):Bool:=(m.all fun e=>(jH e).all fun p=>p.parts.all fun s=>decide (s.size≤60))&&(decide (XE m≤60)&&decide (m.length≤6))
theorem Si {m:List dU} {e:dU} {p:aX} {s:ByteArray} (he:e∈m) (hp:p∈jH e) (hs:s∈p.parts) (h:¬s.size≤60):uH m=false:=by
 cases hb:uH m with
 |false=>rfl
 |true=>
  simp only[uH,Bool.and_eq_true] at hb
  have h1:=List.all_eq_true.1 hb.1 e he
  have h2:=List.all_eq_true.1 h1 p hp
  have h3:=List.all_eq_true.1 h2 s hs
  exact absurd (of_decide_eq_true h3) h
theorem OD {m:List dU} (h:∀e∈m,∀p∈jH e,∀s∈p.parts,s.size≤60):uH m=(decide (XE m≤60)&&decide (m.length≤6)):=by
 have:(m.all fun e=>(jH e).all fun p=>p.parts.all fun s=>decide (s.size≤60))=true:=
  List.all_eq_true.2 fun e he=>List.all_eq_true.2 fun p hp=>List.all_eq_true.2 fun s hs=>decide_eq_true (h e he p hp s hs)
 rw[uH,this,Bool.true_and]
theorem VJ {m:List dU} (h:uH m=true):m.length≤6∧∀e∈m,∀p∈jH e,PB 60 p:=by
 simp only[uH,Bool.and_eq_true,decide_eq_true_eq] at h
 obtain⟨ha,h5,h6⟩:=h
 refine⟨h6,fun e he p hp=>⟨?_,fun s hs=>?_⟩⟩
 ·have h1:=MW (f:=fun p:aX=>p.parts.length) hp
  have h2:=MW (f:=fun e=>Jf (jH e)) he
  have h3:Jf (jH e)=((jH e).map fun p=>p.parts.length).sum:=rfl
  have h4:XE m=(m.map fun e=>Jf (jH e)).sum:=rfl
  omega
 ·have h1:=List.all_eq_true.1 ha e he
  have h2:=List.all_eq_true.1 h1 p hp
  exact of_decide_eq_true (List.all_eq_true.1 h2 s hs)
variable [zG]
end Go.Proofs.YtcpgicfphakdaaaGreatDoor
namespace Go.Proofs.YtcpgicfphakdaaaGreatDoor
open Go.Ab Tys
variable [zG]
theorem VT {m:List dU} (h:uH m=true) (hb:∀e∈m,EB 1048576 e∧e.holes.length≤1000000):m.length≤10000∧∀e∈m,EB1 e:=by
 obtain⟨h1,h2⟩:=VJ h
 refine⟨by omega,fun e he=>⟨?_,?_,(hb e he).2,fun x hx=>?_⟩⟩
 ·exact(h2 e he e.left (by simp[jH])).mono (by omega)
 ·exact(h2 e he e.right (by simp[jH])).mono (by omega)
 ·exact(h2 e he x (by simp[jH,hx])).mono (by omega)
def z8.kk:=p2 (p12 kB kG kS Tryz.ntmps8 Tryz.underlying23 Tryz.underlying74 Tryz.underlying77 Tryz.underlying9 df xH PV eH) (p12 vU dW wz xx xg VC jO fM xI Fg jy Tryz.results8)
open z8 in
theorem TC (m:List dU) (hm:m.length≤1048576) (hb:∀e∈m,EB 1048576 e):
 AC Tryz.prog 8 [dZ m] [] (fun r st=>r=B (uH m)∧st=[]):=by
 have hpb:∀e∈m,∀p∈jH e,PB 1048576 p:=by
  intro e he p hp
  rcases List.mem_cons.1 hp with rfl|hp
  ·exact(hb e he).left
  rcases List.mem_cons.1 hp with rfl|hp
  ·exact(hb e he).right
  ·exact(hb e he).holes p hp
 have hpl:∀e∈m,(jH e).length≤1048578:=fun e he=>by have:=(hb e he).len;rw[BI];omega
 have hsz:∀e∈m,Jf (jH e)≤1099513724928:=fun e he=>by
  have h1:=Sv (l:=jH e) (f:=fun p=>p.parts.length) (c:=1048576) fun p hp=>(hpb e he p hp).1
  have h2:=hpl e he
  unfold Jf
  omega
 have hszk:∀k,XE (m.take k)≤1152921504606846976+3000000000000:=fun k=>by
  have h1:=Sv (l:=m.take k) (f:=fun e=>Jf (jH e)) (c:=1099513724928) fun e he=>hsz e (List.mem_of_mem_take he)
  have h2:(m.take k).length≤1048576:=by simp;omega
  unfold XE
  omega
 refine bV Tryz.func8 Tryz.ntmps8 fun x hx=>?_
 try refine nv ?_
 refine ag (ι:=Nat) (I:=fun k=>⟨54,[(0,dZ m),(3,I .i64 (XE (m.take k))),(10,dZ m),(11,I .i64 m.length),(12,I .i64 k)],[]⟩)
  (Inv:=fun k=>k≤m.length∧∀e∈m.take k,∀p∈jH e,∀s∈p.parts,s.size≤60) (μ:=fun k=>m.length-k) 0 ⟨by omega,by simp⟩ ?_ ?_
 ·(refine fZ (fun i=>i) rfl ?_ ⟨?_,?_,?_,gu hx (by simp[ae,Ab.get])⟩<;>first|(simp only[kE,aQ, ↓reduceIte,Nat.reduceEqDiff,reduceCtorEq,XE];done)|simp[di,bf,aA,Ab.get,aZ,dH,aN,bY,bG,bH,bD,bI,bC,ae,List.flatten,XE])
 rintro k ⟨hk,hall⟩
 have hk0:=hszk k
 try refine nv ?_
 refine af ?_ ?_
 ·intro hlt
  have hlt':k<m.length:=by simpa using hlt
  obtain⟨e,hv,he,htk⟩:=round dK m k D7 hlt'
  have hem:=List.mem_of_getElem? hv
  have hpbe:=hpb e hem
  have hple:=hpl e hem
  have hszN:=ZR (m.take k) e
  rw[←htk] at hszN
  have hszk1:=hszk (k+1)
  generalize XE (m.take k)=N0 at hszN hk0⊢
  have o2:∀l∈List.map (fun l=>List.map C.d l) (List.map au e.holes),l.length=2:=by
   intro l hl
   obtain⟨y,hy,rfl⟩:=List.mem_map.1 hl
   obtain⟨z,_,rfl⟩:=List.mem_map.1 hy
   rfl
  have hehl:e.holes.length≤1048576:=(hb e hem).len
  refine aJ ?_
  refine gx @he ?_
  refine aJ ?_
  refine gq ?_ ?_
  ·exact gI @o2
  refine aJ ?_
  refine mg (aI (i:=23) (id:=23) (ys:=(jH e).map au) rfl rfl (by rw[List.length_map,BI])) ?_
  refine dM ?_
  refine ag (ι:=Nat) (I:=fun j=>⟨54,[(0,dZ m),(3,I .i64 (N0+Jf ((jH e).take j):Nat)),(10,dZ m),(11,I .i64 m.length),(12,I .i64 k),(23,eU (jH e)),(24,I .i64 (jH e).length),(25,I .i64 j)],[]⟩)
   (Inv:=fun j=>j≤(jH e).length∧∀p∈(jH e).take j,∀s∈p.parts,s.size≤60) (μ:=fun j=>(jH e).length-j) 0 ⟨by omega,by simp⟩ ?_ ?_
  ·(refine fZ (fun i=>i) rfl ?_ ⟨?_,?_,?_,gu hx (by simp[ae,Ab.get])⟩<;>first|(simp only[kE,aQ, ↓reduceIte,Nat.reduceEqDiff,reduceCtorEq,Jf,BI,VL];done)|simp[di,bf,aA,Ab.get,aZ,dH,aN,bY,bG,bH,bD,bI,bC,ae,List.flatten,Jf,BI,VL])
  rintro j ⟨hj,hallj⟩
  try refine nv ?_
  refine af ?_ ?_
  ·intro hlt2
   have hlt2':j<(jH e).length:=by simpa using hlt2
   obtain⟨p,hp,hpe,htj⟩:=round au (jH e) j bz hlt2'
   have hpb1:=hpbe p (List.mem_of_getElem? hp)
   have hs1:=XU ((jH e).take j) p
   rw[←htj] at hs1
   have hs2:=Zq (jH e) (j+1)
   have hs3:N0+Jf (jH e)≤1152921504606846976+3000000000000:=by omega
   generalize hM1:Jf ((jH e).take (j+1))=M1 at hs1 hs2
   generalize Jf ((jH e).take j)=M0 at hs1⊢
   have hplen:=hpb1.1
   have hadd:(((N0+M0:Nat)):Int)+((p.parts.length:Nat):Int)=((N0+M1:Nat):Int):=by omega
   obtain⟨ps,pr⟩:=p
   simp only at hplen hadd hs1
   try refine nx (p2 @hpe @hadd) ?_
   refine ag (ι:=Nat) (I:=fun i=>⟨54,[(0,dZ m),(3,I .i64 (N0+M1:Nat)),(10,dZ m),(11,I .i64 m.length),(12,I .i64 k),(23,eU (jH e)),(24,I .i64 (jH e).length),(25,I .i64 j),(35,dJ ps),(36,I .i64 ps.length),(37,I .i64 i)],[]⟩)
    (Inv:=fun i=>i≤ps.length∧∀s∈ps.take i,s.size≤60) (μ:=fun i=>ps.length-i) 0 ⟨by omega,by simp⟩ ?_ ?_
   ·exact aW
   rintro i ⟨hi,halli⟩
   try refine nv ?_
   refine af ?_ ?_
   ·intro hlt3
    have hlt3':i<ps.length:=by simpa using hlt3
    obtain⟨s,hs,hse,hti⟩:=round encS ps i noS hlt3'
    have hsb:=hpb1.2 s (List.mem_of_getElem? hs)
    try refine nx @hse ?_
    refine af ?_ ?_
    ·intro hc
     have hc':¬s.size≤60:=by simp at hc;omega
     have hbad:=Si hem (List.mem_of_getElem? hp) (List.mem_of_getElem? hs) hc'
     try refine nv ?_
     refine rA [] ?_
     refine⟨?_,rfl⟩
     rw[hbad]
    intro hc
    have hc':s.size≤60:=by simp at hc;omega
    try refine nv ?_
    refine⟨i+1,⟨by omega,?_⟩,by omega,?_⟩
    ·intro y hy
     rw[hti,List.mem_append] at hy
     rcases hy with hy|hy
     ·exact halli y hy
     ·simp at hy;rw[hy];exact hc'
    ·exact aW
   intro hge3
   have hi':i=ps.length:=by have:¬i<ps.length:=by simpa using hge3
                            omega
   rw[hi',List.take_length] at halli
   try refine nv ?_
   refine⟨j+1,⟨by omega,?_⟩,by omega,?_⟩
   ·intro y hy
    rw[htj,List.mem_append] at hy
    rcases hy with hy|hy
    ·exact hallj y hy
    ·simp at hy;rw[hy];exact halli
   ·exact tK @hM1
  intro hge2
  have hj':j=(jH e).length:=by have:¬j<(jH e).length:=by simpa using hge2
                               omega
  rw[hj',List.take_length] at hallj
  try refine nv ?_
  refine⟨k+1,⟨by omega,?_⟩,by omega,?_⟩
  ·intro y hy
   rw[htk,List.mem_append] at hy
   rcases hy with hy|hy
   ·exact hall y hy
   ·simp only[List.mem_singleton] at hy;rw[hy];exact hallj
  ·rw[hj',List.take_length]
   exact tK @hszN
 intro hge
 have hk':k=m.length:=by have:¬k<m.length:=by simpa using hge
                         omega
 rw[hk',List.take_length] at hall
 have hkm:m.take k=m:=by rw[hk',List.take_length]
 rw[hkm] at hk0⊢
 try refine nv ?_
 refine rA [] ?_
 refine⟨?_,rfl⟩
 rw[OD hall]
 by_cases a:XE m≤60<;>by_cases b:m.length≤6<;>simp[a,b]<;>omega
end Go.Proofs.YtcpgicfphakdaaaGreatDoor
