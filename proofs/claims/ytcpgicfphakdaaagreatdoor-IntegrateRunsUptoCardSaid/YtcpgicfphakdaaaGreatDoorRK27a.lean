/- A part of the proof. -/
import Derived.Test.YtcpgicfphakdaaaGreatDoorRX17
set_option linter.all false
namespace Go.Proofs.YtcpgicfphakdaaaGreatDoor
open Go.Ab Tys
variable [yF]
def Oe (e:eQ):Iz:=(jo e).getD ace
def Qp (e:eQ):List D:=Di (Oe e)
def rT (m:List eQ) (k:Nat):List (List C):=(m.take k).map (fun e=>(Qp e).map C.d)++List.replicate (m.length-k) I5
theorem aca {m:List eQ} {k:Nat} (h:k≤m.length):(rT m k).length=m.length:=by
 simp only[rT,List.length_append,List.length_map,List.length_take,List.length_replicate];omega
theorem ab4 {m:List eQ} {k:Nat} {e:eQ} (h:m[k]? =some e):(rT m k).set k ((Qp e).map C.d)=rT m (k+1):=by
 have hk:=(List.getElem?_eq_some_iff.1 h).1
 have hl:((m.take k).map fun e=>(Qp e).map C.d).length=k:=by simp;omega
 rw[rT,rT,List.set_append_right _ _ (by omega),hl,Nat.sub_self,List.take_add_one,h,show m.length-k=(m.length-(k+1))+1 by omega,List.replicate_succ,List.set_cons_zero]
 simp
theorem abO (m:List eQ):rT m m.length=(m.map Qp).map fun l=>l.map C.d:=by
 simp[rT]
theorem aa5 (m:List eQ):rT m 0=List.replicate m.length I5:=by simp[rT]
theorem acd {m:List eQ} {k:Nat} (h:k<m.length):(rT m k).getD k []=I5:=by
 have hl:((m.take k).map fun e=>(Qp e).map C.d).length=k:=by simp;omega
 rw[rT,List.getD_eq_getElem?_getD,List.getElem?_append_right (by omega),hl,Nat.sub_self,List.getElem?_replicate,if_pos (by omega)];rfl
theorem MZ {dom:Nat→Bool}:∀l:List (List C),(∀x∈l,aB dom x=True)→aB dom l.flatten=True
 |[],_=>by simp[aB]
 |x::l,h=>by simp only[List.flatten_cons,ah,h x (by simp),MZ l (fun y hy=>h y (by simp[hy])),and_self]
theorem aaG (dom:Nat→Bool) (n:Nat):aB dom (List.replicate n I5).flatten=True:=
 MZ _ fun x hx=>by rw[List.eq_of_mem_replicate hx];simp[aB,cu]
theorem acV (dom:Nat→Bool) (m:List eQ) (k:Nat):aB dom (rT m k).flatten=True:=
 MZ _ fun x hx=>by
  rcases List.mem_append.1 hx with h|h
  ·obtain⟨e,_,rfl⟩:=List.mem_map.1 h
   simp[Qp,aB,cu]
  ·rw[List.eq_of_mem_replicate h];simp[aB,cu]
theorem OB (e:eQ):(CB e).isSome=(jo e).isSome:=by
 unfold CB jo;cases kz e e.holes<;>rfl
theorem J6 {e:eQ} (hb:EB 10000 e) (hc:lD e.BR=0) (h:(jo e).isSome=true):PB 100000 (Oe e).base∧(Oe e).holes.length≤1000∧∀h∈(Oe e).holes,PB 100000 h∧gz h=true:=by
 have hl:=uJ hc
 unfold Oe jo at*
 cases hh:kz e e.holes with
 |none=>rw[hh] at h;cases h
 |some a=>
  simp only[Option.map_some,Option.getD_some]
  have hw:=uI e _ _ hh
  rw[Dj] at hh
  split at hh
  ·cases hh
   refine⟨hb.right.mono (by omega),?_,fun k hk=>⟨?_,(hw k hk).1⟩⟩
   ·have:=List.length_filterMap_le (hF e) e.holes
    simp only[eQ.BR] at hl;omega
   ·obtain⟨x,h1,h2⟩:=List.mem_filterMap.1 hk
    unfold hF at h2
    split at h2
    ·cases h2;exact(aaW (n:=10000) (by omega) hb.left hb.right (hb.holes x h1)).mono (by omega)
    ·cases h2
  ·cases hh
theorem JB {r:IK} (h:gm r=0):gz r.right=true:=by
 unfold gm at h
 split at h
 ·split at h
  ·assumption
  ·omega
 ·omega
theorem acX {x y:eQ} (hx:gm x.line=0) (hy:gm y.line=0) (h1:(jo x).isSome=true) (h2:(jo y).isSome=true):clB x y=(kT x.BR y.BR||kT (Oe x) (Oe y)):=by
 unfold clB Oe CB jo at*
 cases ha:kz x x.holes with
 |none=>rw[ha] at h1;cases h1
 |some a=>
  cases hb:kz y y.holes with
  |none=>rw[hb] at h2;cases h2
  |some b=>
   simp only[Option.map_some,Option.getD_some]
   rw[OL (JB (r:=x.line) hx) (JB (r:=y.line) hy) ha hb]
theorem Jb {g:Iz} (h:lD g=0):∀k∈g.holes,gz k=true:=by
 unfold lD at h
 split at h
 ·split at h
  ·rename_i h2;exact List.all_eq_true.1 h2
  ·omega
 ·omega
theorem Q8 {e:eQ} (h:(jo e).isSome=true):Yr (jo e)=(true,(Qp e).map C.d):=by
 unfold Qp Oe
 cases hh:jo e with
 |none=>rw[hh] at h;cases h
 |some g=>rfl
def z23.kk:=RJ kB kG kS Tryz.ntmps23 Tryz.underlying23 GR Ht acu Yh acR NJ abd Qy Tryz.results23
set_option maxRecDepth 100000 in
set_option maxHeartbeats 32000000 in
open z23 in
theorem Sz (m:List eQ) (hm:m.length≤10000) (hb:∀e∈m,EB1 e):AC Tryz.prog 23 [jW m] [] (fun r st=>(∃i e:Int,r= .tup [pI i,pI e]∧(e=0↔FV m))∧st=[]):=by
 refine dA Tryz.func23 Tryz.ntmps23 fun x hx=>?_
 try refine nv ?_
 refine ax (ι:=Nat) (I:=fun k=>⟨88,[(0,jW m),(15,jW m),(16,I .i64 m.length),(17,I .i64 k)],[]⟩)
  (Inv:=fun k=>k≤m.length∧∀e∈m.take k,gm e.line=0∧lD e.BR=0) (μ:=fun k=>m.length-k) 0 ⟨by omega,by simp⟩ ?_ ?_
 ·exact cO
 rintro k ⟨hk,hent⟩
 try refine nv ?_
 refine aj ?_ ?_
 ·intro hlt
  have hlt':k<m.length:=by simpa using hlt
  obtain⟨v,hv,he,htk⟩:=round eY m k NQ hlt'
  have hvm:=List.mem_of_getElem? hv
  have hbv:=hb v hvm
  have hie:=Q7 v (hbv.left.mono (by omega)) (hbv.right.mono (by omega)) hbv.len (fun h hh=>(hbv.holes h hh).mono (by omega))
  have hbad:D7 v=false→¬FV m:=fun hn hM=>by
   have:=hM.ent v hvm
   simp[D7,okR,this.1,this.2] at hn
  have hnx:D7 v=true→∀e∈m.take (k+1),gm e.line=0∧lD e.BR=0:=by
   intro h e he2
   rw[htk,List.mem_append] at he2
   rcases he2 with he2|he2
   ·exact hent e he2
   ·simp only[List.mem_singleton] at he2;subst he2;simpa[D7,okR] using h
  generalize D7 v=eo at hie hbad hnx
  (repeat (first|refine nx @he ?_|refine cf (hie) ?_))
  refine aj ?_ ?_
  ·intro hc
   have hc':eo=false:=by simpa using hc
   try refine nv ?_
   refine rA [] ?_
   refine⟨?_,rfl⟩
   exact⟨_,_,rfl,by simp[hbad hc']⟩
  ·intro hc
   have hc':eo=true:=by simpa using hc
   try refine nv ?_
   refine⟨k+1,⟨by omega,hnx hc'⟩,by omega,?_⟩
   exact cO
 intro hge0
 have hk':k=m.length:=by have:¬k<m.length:=by simpa using hge0
                         omega
 rw[hk',List.take_length] at hent
 try refine nv ?_
 refine aj ?_ ?_
 ·intro hc
  have hc':¬m.length≤32:=by simp at hc;omega
  try refine nv ?_
  refine rA [] ?_
  refine⟨?_,rfl⟩
  exact⟨_,_,rfl,by constructor<;>intro h<;>first|omega|exact absurd h.len hc'⟩
 intro hlen
 have hlen':m.length≤32:=by simp at hlen;omega
 try refine nv ?_
 refine ax (ι:=Nat) (I:=fun k=>⟨88,[(0,jW m),(6, .c (.ms 32 3 0 m.length)),(33,jW m),(34,I .i64 m.length),(35,I .i64 k)],[(32, .arr 3 (rT m k))]⟩)
  (Inv:=fun k=>k≤m.length∧∀e∈m.take k,(jo e).isSome=true) (μ:=fun k=>m.length-k) 0 ⟨by omega,by simp⟩ ?_ ?_
 ·exact EH (p2 @aa5 @aaG)
 rintro k2 ⟨hk2,hall⟩
 have hrl:=aca hk2
 try refine nv ?_
 refine aj ?_ ?_
 ·intro hlt
  have hlt':k2<m.length:=by simpa using hlt
  obtain⟨v,hv,he,htk⟩:=round eY m k2 NQ hlt'
  have hvm:=List.mem_of_getElem? hv
  have hbv:=(hb v hvm).eb (hent v hvm).2
  have hr:=UN v hbv
  have hset:=ab4 hv
  have hso:=Q8 (e:=v)
  cases hrv:(jo v).isSome with
  |false=>
   have hrn:jo v=none:=by simpa using hrv
   rw[hrn] at hr
   simp only[Yr,pB,Option.isSome,Bool.false_eq_true,if_false] at hr
   (repeat (first|refine nx @he ?_|refine cf (hr) ?_))
   refine aj ?_ ?_
   ·intro _
    try refine nv ?_
    refine rA [] ?_
    refine⟨?_,rfl⟩
    exact⟨_,_,rfl,by constructor<;>intro h<;>first|omega|(have:=h.right v hvm;rw[OB,hrv] at this;cases this)⟩
   ·intro h;cases h
  |true=>
   rw[hso hrv,hrv,if_pos rfl] at hr
   have hget:=acd hlt'
   generalize hW:(Qp v).map C.d=W at hr hset
   obtain⟨c1,c2,c3,rfl⟩:∃c1 c2 c3,W=[c1,c2,c3]:=⟨_,_,_,hW.symm⟩
   have hset2:(rT m k2).set k2 (c1::c2::c3::List.drop 3 ((rT m k2).getD k2 []))=rT m (k2+1):=by rw[hget];exact hset
   (repeat (first|refine nx @he ?_|refine cf (hr) ?_))
   refine aj ?_ ?_
   ·intro h;cases h
   intro _
   try refine nx @hset2 ?_
   refine⟨k2+1,⟨by omega,?_⟩,by omega,?_⟩
   ·intro e he2
    rw[htk,List.mem_append] at he2
    rcases he2 with he2|he2
    ·exact hall e he2
    ·simp only[List.mem_singleton] at he2;subst he2;exact hrv
   ·exact EH @acV
 intro hge
 have hk2':k2=m.length:=by have:¬k2<m.length:=by simpa using hge
                           omega
 subst hk2'
 rw[List.take_length] at hall
 rw[abO]
 refine bC ?_
 refine bz (aZ (i:=6) (id:=32) (sz:=3) (ys:=m.map Qp) rfl rfl (by rw[List.length_map])) ?_
 refine dZ ?_
 try refine nv ?_
 refine ax (ι:=Nat) (I:=fun k=>⟨88,[(0,jW m),(6, .c (.d (.ps 3 (m.map Qp)))),(53,jW m),(54,I .i64 m.length),(55,I .i64 k)],[]⟩)
  (Inv:=fun k=>k≤m.length∧∀(i j:Nat) (x y:eQ),i<k→j<i→m[i]? =some x→m[j]? =some y→clB x y=false) (μ:=fun k=>m.length-k) 0 ⟨by omega,fun i j x y h=>by omega⟩ ?_ ?_
 ·exact cO
 rintro k3 ⟨hk3,hap⟩
 try refine nv ?_
 refine aj ?_ ?_
 ·intro hlt
  have hlt':k3<m.length:=by simpa using hlt
  obtain⟨v,hv,he,htk⟩:=round eY m k3 NQ hlt'
  obtain⟨_,hv9,hrv,_⟩:=round Qp m k3 NQ hlt'
  rw[hv] at hv9;cases hv9
  have hvm:=List.mem_of_getElem? hv
  have hbv:=(hb v hvm).eb (hent v hvm).2
  have hvl:=uJ (hent v hvm).2
  obtain⟨g1,g2,g3⟩:=J6 hbv (hent v hvm).2 (hall v hvm)
  try refine nx @he ?_
  refine ax (ι:=Nat) (I:=fun j=>⟨88,[(0,jW m),(6, .c (.d (.ps 3 (m.map Qp)))),(11,I .i64 k3),(12, .c (.ptr 12 0)),(53,jW m),(54,I .i64 m.length),(55,I .i64 k3),(62, .c (.d (.ps 5 ((m.map eY).take k3)))),(63,I .i64 k3),(64,I .i64 j)],
   [(12, .box ((eY v).map C.d))]⟩)
   (Inv:=fun j=>j≤k3∧∀(i:Nat) (y:eQ),i<j→m[i]? =some y→clB v y=false) (μ:=fun j=>k3-j) 0 ⟨by omega,fun i y h=>by omega⟩ ?_ ?_
  ·(refine bI (fun i=>i) rfl ?_ ⟨?_,?_,?_,di hx (by simp[ae,Ab.get])⟩<;>first|(simp only[kE,aK, ↓reduceIte,Nat.reduceEqDiff,reduceCtorEq,List.length_take,Nat.min_eq_left hk3];done)|simp[aW,aA,ag,Ab.get,aH,cu,aB,bD,aS,aQ,aU,aP,aT,ae,List.flatten,List.length_take,Nat.min_eq_left hk3])
  rintro j ⟨hj,hcl⟩
  try refine nv ?_
  refine aj ?_ ?_
  ·intro hlt2
   have hlt2':j<k3:=by simpa using hlt2
   obtain⟨u,hu,he2,_⟩:=round eY m j NQ (by omega)
   obtain⟨_,hu9,hru,_⟩:=round Qp m j NQ (by omega)
   rw[hu] at hu9;cases hu9
   have hum:=List.mem_of_getElem? hu
   have hbu:=(hb u hum).eb (hent u hum).2
   have hul:=uJ (hent u hum).2
   obtain⟨s1,s2,s3⟩:=J6 hbu (hent u hum).2 (hall u hum)
   have he3:((m.map eY).take k3).getD j []=eY u:=by
    rw[List.getD_eq_getElem?_getD,List.getElem?_take,if_pos hlt2',←List.getD_eq_getElem?_getD,he2]
   have hc1:=Hf (eQ.BR v) (eQ.BR u) (hbv.left.mono (by omega)) (hbu.left.mono (by omega)) (by omega) (by omega) (fun h hh=>⟨(hbv.holes h hh).mono (by omega),Jb (hent v hvm).2 h hh⟩) (fun h hh=>⟨(hbu.holes h hh).mono (by omega),Jb (hent u hum).2 h hh⟩)
   have hc2:=Hf (Oe v) (Oe u) g1 s1 g2 s2 g3 s3
   have hcB:=acX (hent v hvm).1 (hent u hum).1 (hall v hvm) (hall u hum)
   generalize kT (eQ.BR v) (eQ.BR u)=b1 at hc1 hcB
   generalize kT (Oe v) (Oe u)=b2 at hc2 hcB
   have hrv2:(m.map Qp).getD k3 []=Di (Oe v):=hrv
   have hru2:(m.map Qp).getD j []=Di (Oe u):=hru
   generalize Oe v=G at hc2 hrv2
   generalize Oe u=H at hc2 hru2
   obtain⟨⟨gp,gr⟩,gh⟩:=G
   obtain⟨⟨sp,sr⟩,sh⟩:=H
   try refine nx @he3 ?_
   refine dx ([(70,RX (eQ.BR v)),(72,RX (eQ.BR u)),(73,B b1),(83,B b2)]) (p2 @hrv2 @hru2) ?_ ?_
   ·exact ob4 (H9 v) (H9 u) @hc1 @hc2
   refine bC ?_
   refine aj ?_ ?_
   ·intro hc
    have hc':clB v u=true:=by rw[hcB];cases b1<;>cases b2<;>simp_all
    try refine nv ?_
    refine rA [] ?_
    refine⟨?_,rfl⟩
    exact⟨_,_,rfl,by constructor<;>intro h<;>first|omega|(have:=h.apart k3 j v u hlt2' hv hu;rw[hc'] at this;cases this)⟩
   ·intro hc
    have hc':clB v u=false:=by rw[hcB];cases b1<;>cases b2<;>simp_all
    try refine nv ?_
    refine⟨j+1,⟨by omega,?_⟩,by omega,?_⟩
    ·intro i y h1 h2
     by_cases e:i=j
     ·subst e;rw[hu] at h2;cases h2;exact hc'
     ·exact hcl i y (by omega) h2
    ·exact cO
  intro hge4
  have hj':j=k3:=by have:¬j<k3:=by simpa using hge4
                    omega
  try refine nv ?_
  refine⟨k3+1,⟨by omega,?_⟩,by omega,?_⟩
  ·intro i j2 x y h1 h2 h3 h4
   by_cases e:i=k3
   ·subst e;rw[hv] at h3;cases h3;exact hcl j2 y (by omega) h4
   ·exact hap i j2 x y (by omega) h2 h3 h4
  ·exact cO
 intro hge5
 have hk3':k3=m.length:=by have:¬k3<m.length:=by simpa using hge5
                           omega
 try refine nv ?_
 refine rA [] ?_
 refine⟨?_,rfl⟩
 exact⟨_,_,rfl,fun _=>⟨hent,hlen',fun e he=>by rw[OB];exact hall e he,fun i j x y h1 h2 h3=>hap i j x y (by have:=(List.getElem?_eq_some_iff.1 h2).1;omega) h1 h2 h3⟩,fun _=>rfl⟩
end Go.Proofs.YtcpgicfphakdaaaGreatDoor
namespace Go.Proofs.YtcpgicfphakdaaaGreatDoor
open Go.Ab Tys
variable [yF]
theorem Vf {m:List eQ} (h:rU m=true) (hb:∀e∈m,EB 1048576 e∧e.holes.length≤1000000):m.length≤10000∧∀e∈m,EB1 e:=by
 obtain⟨h1,h2⟩:=UZ h
 refine⟨by omega,fun e he=>⟨?_,?_,(hb e he).2,fun x hx=>?_⟩⟩
 ·exact(h2 e he e.left (by simp[iM])).mono (by omega)
 ·exact(h2 e he e.right (by simp[iM])).mono (by omega)
 ·exact(h2 e he x (by simp[iM,hx])).mono (by omega)
def z8.kk:=p2 (p12 kB kG kS Tryz.ntmps8 Tryz.underlying23 Tryz.underlying74 Tryz.underlying77 Tryz.underlying9 gG Ht Yh iC) (p12 Jr jR ES E8 Fb abd pX lI Lc Qy kC Tryz.results8)
set_option maxRecDepth 100000 in
set_option maxHeartbeats 8000000 in
open z8 in
theorem Sv (m:List eQ) (hm:m.length≤1048576) (hb:∀e∈m,EB 1048576 e):
 AC Tryz.prog 8 [jW m] [] (fun r st=>r=B (rU m)∧st=[]):=by
 have hpb:∀e∈m,∀p∈iM e,PB 1048576 p:=by
  intro e he p hp
  rcases List.mem_cons.1 hp with rfl|hp
  ·exact(hb e he).left
  rcases List.mem_cons.1 hp with rfl|hp
  ·exact(hb e he).right
  ·exact(hb e he).holes p hp
 have hpl:∀e∈m,(iM e).length≤1048578:=fun e he=>by have:=(hb e he).len;rw[xY];omega
 have hsz:∀e∈m,Gq (iM e)≤1099513724928:=fun e he=>by
  have h1:=QO (l:=iM e) (f:=fun p=>p.parts.length) (c:=1048576) fun p hp=>(hpb e he p hp).1
  have h2:=hpl e he
  unfold Gq
  omega
 have hszk:∀k,UJ (m.take k)≤1152921504606846976+3000000000000:=fun k=>by
  have h1:=QO (l:=m.take k) (f:=fun e=>Gq (iM e)) (c:=1099513724928) fun e he=>hsz e (List.mem_of_mem_take he)
  have h2:(m.take k).length≤1048576:=by simp;omega
  unfold UJ
  omega
 refine dA Tryz.func8 Tryz.ntmps8 fun x hx=>?_
 try refine nv ?_
 refine ax (ι:=Nat) (I:=fun k=>⟨54,[(0,jW m),(3,I .i64 (UJ (m.take k))),(10,jW m),(11,I .i64 m.length),(12,I .i64 k)],[]⟩)
  (Inv:=fun k=>k≤m.length∧∀e∈m.take k,∀p∈iM e,∀s∈p.parts,s.size≤60) (μ:=fun k=>m.length-k) 0 ⟨by omega,by simp⟩ ?_ ?_
 ·(refine bI (fun i=>i) rfl ?_ ⟨?_,?_,?_,di hx (by simp[ae,Ab.get])⟩<;>first|(simp only[kE,aK, ↓reduceIte,Nat.reduceEqDiff,reduceCtorEq,UJ];done)|simp[aW,aA,ag,Ab.get,aH,cu,aB,bD,aS,aQ,aU,aP,aT,ae,List.flatten,UJ])
 rintro k ⟨hk,hall⟩
 have hk0:=hszk k
 try refine nv ?_
 refine aj ?_ ?_
 ·intro hlt
  have hlt':k<m.length:=by simpa using hlt
  obtain⟨e,hv,he,htk⟩:=round eY m k NQ hlt'
  have hem:=List.mem_of_getElem? hv
  have hpbe:=hpb e hem
  have hple:=hpl e hem
  have hszN:=XK (m.take k) e
  rw[←htk] at hszN
  have hszk1:=hszk (k+1)
  generalize UJ (m.take k)=N0 at hszN hk0⊢
  have o2:∀l∈List.map (fun l=>List.map C.d l) (List.map bF e.holes),l.length=2:=by
   intro l hl
   obtain⟨y,hy,rfl⟩:=List.mem_map.1 hl
   obtain⟨z,_,rfl⟩:=List.mem_map.1 hy
   rfl
  have hehl:e.holes.length≤1048576:=(hb e hem).len
  refine bC ?_
  refine gx @he ?_
  refine bC ?_
  refine gq ?_ ?_
  ·exact iw @o2
  refine bC ?_
  refine nH (aZ (i:=23) (id:=23) (ys:=(iM e).map bF) rfl rfl (by rw[List.length_map,xY])) ?_
  refine dZ ?_
  refine ax (ι:=Nat) (I:=fun j=>⟨54,[(0,jW m),(3,I .i64 (N0+Gq ((iM e).take j):Nat)),(10,jW m),(11,I .i64 m.length),(12,I .i64 k),(23,iY (iM e)),(24,I .i64 (iM e).length),(25,I .i64 j)],[]⟩)
   (Inv:=fun j=>j≤(iM e).length∧∀p∈(iM e).take j,∀s∈p.parts,s.size≤60) (μ:=fun j=>(iM e).length-j) 0 ⟨by omega,by simp⟩ ?_ ?_
  ·(refine bI (fun i=>i) rfl ?_ ⟨?_,?_,?_,di hx (by simp[ae,Ab.get])⟩<;>first|(simp only[kE,aK, ↓reduceIte,Nat.reduceEqDiff,reduceCtorEq,Gq,xY,Jj];done)|simp[aW,aA,ag,Ab.get,aH,cu,aB,bD,aS,aQ,aU,aP,aT,ae,List.flatten,Gq,xY,Jj])
  rintro j ⟨hj,hallj⟩
  try refine nv ?_
  refine aj ?_ ?_
  ·intro hlt2
   have hlt2':j<(iM e).length:=by simpa using hlt2
   obtain⟨p,hp,hpe,htj⟩:=round bF (iM e) j dm hlt2'
   have hpb1:=hpbe p (List.mem_of_getElem? hp)
   have hs1:=Yc ((iM e).take j) p
   rw[←htj] at hs1
   have hs2:=X7 (iM e) (j+1)
   have hs3:N0+Gq (iM e)≤1152921504606846976+3000000000000:=by omega
   generalize hM1:Gq ((iM e).take (j+1))=M1 at hs1 hs2
   generalize Gq ((iM e).take j)=M0 at hs1⊢
   have hplen:=hpb1.1
   have hadd:(((N0+M0:Nat)):Int)+((p.parts.length:Nat):Int)=((N0+M1:Nat):Int):=by omega
   obtain⟨ps,pr⟩:=p
   simp only at hplen hadd hs1
   try refine nx (p2 @hpe @hadd) ?_
   refine ax (ι:=Nat) (I:=fun i=>⟨54,[(0,jW m),(3,I .i64 (N0+M1:Nat)),(10,jW m),(11,I .i64 m.length),(12,I .i64 k),(23,iY (iM e)),(24,I .i64 (iM e).length),(25,I .i64 j),(35,iy ps),(36,I .i64 ps.length),(37,I .i64 i)],[]⟩)
    (Inv:=fun i=>i≤ps.length∧∀s∈ps.take i,s.size≤60) (μ:=fun i=>ps.length-i) 0 ⟨by omega,by simp⟩ ?_ ?_
   ·exact cO
   rintro i ⟨hi,halli⟩
   try refine nv ?_
   refine aj ?_ ?_
   ·intro hlt3
    have hlt3':i<ps.length:=by simpa using hlt3
    obtain⟨s,hs,hse,hti⟩:=round encS ps i noS hlt3'
    have hsb:=hpb1.2 s (List.mem_of_getElem? hs)
    try refine nx @hse ?_
    refine aj ?_ ?_
    ·intro hc
     have hc':¬s.size≤60:=by simp at hc;omega
     have hbad:=QT hem (List.mem_of_getElem? hp) (List.mem_of_getElem? hs) hc'
     try refine nv ?_
     refine rA [] ?_
     refine⟨?_,rfl⟩
     rw[hbad]
    intro hc
    have hc':s.size≤60:=by simp at hc;omega
    try refine nv ?_
    refine⟨i+1,⟨by omega,?_⟩,by omega,?_⟩
    ·intro y hy
     rw[hti,List.mem_append] at hy
     rcases hy with hy|hy
     ·exact halli y hy
     ·simp at hy;rw[hy];exact hc'
    ·exact cO
   intro hge3
   have hi':i=ps.length:=by have:¬i<ps.length:=by simpa using hge3
                            omega
   rw[hi',List.take_length] at halli
   try refine nv ?_
   refine⟨j+1,⟨by omega,?_⟩,by omega,?_⟩
   ·intro y hy
    rw[htj,List.mem_append] at hy
    rcases hy with hy|hy
    ·exact hallj y hy
    ·simp at hy;rw[hy];exact halli
   ·exact EH @hM1
  intro hge2
  have hj':j=(iM e).length:=by have:¬j<(iM e).length:=by simpa using hge2
                               omega
  rw[hj',List.take_length] at hallj
  try refine nv ?_
  refine⟨k+1,⟨by omega,?_⟩,by omega,?_⟩
  ·intro y hy
   rw[htk,List.mem_append] at hy
   rcases hy with hy|hy
   ·exact hall y hy
   ·simp only[List.mem_singleton] at hy;rw[hy];exact hallj
  ·rw[hj',List.take_length]
   exact EH @hszN
 intro hge
 have hk':k=m.length:=by have:¬k<m.length:=by simpa using hge
                         omega
 rw[hk',List.take_length] at hall
 have hkm:m.take k=m:=by rw[hk',List.take_length]
 rw[hkm] at hk0⊢
 try refine nv ?_
 refine rA [] ?_
 refine⟨?_,rfl⟩
 rw[Ov hall]
 by_cases a:UJ m≤60<;>by_cases b:m.length≤6<;>simp[a,b]<;>omega
end Go.Proofs.YtcpgicfphakdaaaGreatDoor
