/- A part of the proof. -/
import Derived.Test.YtcpgicfphakdaaaGreatDoorRT4
import Derived.Test.YtcpgicfphakdaaaGreatDoorRP21
import Derived.Test.YtcpgicfphakdaaaGreatDoorRT2
set_option maxRecDepth 100000
set_option maxHeartbeats 16000000
set_option linter.all false
namespace Go.Proofs.YtcpgicfphakdaaaGreatDoor
open Go.Ab Tys
variable [Dr]
def aeo.kk:=p9 kB kM Tryz.ntmps134 Ph MN GY uK yR Tryz.results134
open aeo in
theorem TJ (l:List Int) (t:Option (List Int)):AC Tryz.prog 134 [.c (.d (.pm (dn kN l))), .c (.d (Aa kN t))] [] (fun r st=>(∃m,(∀k,k∈m↔k∈l∧¬k∈t.getD [])∧r= .c (.d (.pm (dn kN m))))∧st=[]):=by
 refine bV Tryz.func134 Tryz.ntmps134 fun x hx=>?_
 cases t with
 |none=>
  try refine nv ?_
  refine ag (ι:=Option iT×List Int×List Int) (I:=fun i=>⟨21,[(1, .c (.d (Aa kN none))),(5, .c (.mp 7)),(9, .c (.ptr 9 0))],[(7,lI kN i.2.2),(9, .iter i.1 (dn kN i.2.1))]⟩)
   (Inv:=fun i=>∀k,(k∈i.2.2∨k∈i.2.1∧¬k∈Option.getD (none:Option (List Int)) [])↔(k∈l∧¬k∈Option.getD (none:Option (List Int)) [])) (μ:=fun i=>i.2.1.length) (none,l,[]) (by simp) ?_ ?_
  ·exact aW
  rintro⟨cur,rest,m⟩ h
  simp only at h⊢
  refine aJ ?_
  refine nV (id:=9) (by simp) (by simp only[kV, ↓reduceIte,Nat.reduceEqDiff,reduceCtorEq];first|done|rfl) rfl ?_ ?_
  ·intro h0
   refine dM ?_
   try refine nv ?_
   refine af ?_ ?_
   ·intro hh;cases hh
   intro _
   refine aJ ?_
   refine aG (lh (i:=5) (id:=7) (es:=dn kN m) rfl rfl) ?_
   refine dM ?_
   try refine nv ?_
   refine rA [] ?_
   refine⟨?_,rfl⟩
   have:rest=[]:=by simpa[dn] using h0
   subst this
   exact⟨m,fun k=>by have:=h k;simpa using this,rfl⟩
  intro l1 e l2 hsp
  obtain⟨xs,k,y,rfl,rfl,rfl,rfl⟩:=jr hsp
  refine dM ?_
  (repeat (first|refine xO ?_|refine wX (wr:=false) (by simp only[kk,Nat.reduceAdd,Nat.reduceLT,Nat.reduceEqDiff, ↓reduceIte,reduceCtorEq,kC];first|done|rfl) ?_))
  refine af ?_ ?_
  rotate_left
  ·intro hh;cases hh
  intro _
  (repeat (first|refine xO ?_|refine wX (wr:=false) (by simp only[kk,Nat.reduceAdd,Nat.reduceLT,Nat.reduceEqDiff, ↓reduceIte,reduceCtorEq,kC];first|done|rfl) ?_))
  refine gy @look0 ?_ ?_
  ·simp only[All,List.cons_append,List.nil_append,dI,List.mem_cons,List.not_mem_nil,or_false,forall_eq_or_imp,forall_eq,aZ,aN,dH,aO,bF,and_true,true_and,implies_true,List.length_map,List.length_cons,List.length_nil,aQ,jo,dm]
   repeat' (first|exact trivial|exact by simp|refine And.intro ?_ ?_|intro _|assumption|rfl|omega|(rw[Bool.not_eq_true'];assumption)|(simp;done)|(simp only[decide_eq_true_eq] at*;omega)|(simp_all;done))
  refine aJ ?_
  refine af ?_ ?_
  ·intro _
   have hk':¬k∈Option.getD (none:Option (List Int)) []:=by simp
   try refine nv ?_
   refine gy @UX ?_ ?_
   ·exact gI (WS m)
   try refine nv ?_
   refine⟨(some (kN k,(false,[.v (.bool true)])),xs++y,lq m k),?_,by simp,?_⟩
   ·intro i
    rw[←h i,mD]
    simp only[List.mem_append,List.mem_cons]
    constructor
    ·rintro((h|rfl)|⟨h|h,g⟩)
     ·exact .inl h
     ·exact .inr ⟨.inr (.inl rfl),hk'⟩
     ·exact .inr ⟨.inl h,g⟩
     ·exact .inr ⟨.inr (.inr h),g⟩
    ·rintro(h|⟨h|h|h,g⟩)
     ·exact .inl (.inl h)
     ·exact .inr ⟨.inl h,g⟩
     ·exact .inl (.inr h)
     ·exact .inr ⟨.inr h,g⟩
   ·exact aW
  ·intro hh;cases hh
 |some t=>
  try refine nv ?_
  refine ag (ι:=Option iT×List Int×List Int) (I:=fun i=>⟨21,[(1, .c (.d (Aa kN (some t)))),(5, .c (.mp 7)),(9, .c (.ptr 9 0))],[(7,lI kN i.2.2),(9, .iter i.1 (dn kN i.2.1))]⟩)
   (Inv:=fun i=>∀k,(k∈i.2.2∨k∈i.2.1∧¬k∈Option.getD (some t) [])↔(k∈l∧¬k∈Option.getD (some t) [])) (μ:=fun i=>i.2.1.length) (none,l,[]) (by simp) ?_ ?_
  ·exact aW
  rintro⟨cur,rest,m⟩ h
  simp only at h⊢
  refine aJ ?_
  refine nV (id:=9) (by simp) (by simp only[kV, ↓reduceIte,Nat.reduceEqDiff,reduceCtorEq];first|done|rfl) rfl ?_ ?_
  ·intro h0
   refine dM ?_
   try refine nv ?_
   refine af ?_ ?_
   ·intro hh;cases hh
   intro _
   refine aJ ?_
   refine aG (lh (i:=5) (id:=7) (es:=dn kN m) rfl rfl) ?_
   refine dM ?_
   try refine nv ?_
   refine rA [] ?_
   refine⟨?_,rfl⟩
   have:rest=[]:=by simpa[dn] using h0
   subst this
   exact⟨m,fun k=>by have:=h k;simpa using this,rfl⟩
  intro l1 e l2 hsp
  obtain⟨xs,k,y,rfl,rfl,rfl,rfl⟩:=jr hsp
  refine dM ?_
  (repeat (first|refine xO ?_|refine wX (wr:=false) (by simp only[kk,Nat.reduceAdd,Nat.reduceLT,Nat.reduceEqDiff, ↓reduceIte,reduceCtorEq,kC];first|done|rfl) ?_))
  refine af ?_ ?_
  rotate_left
  ·intro hh;cases hh
  intro _
  (repeat (first|refine xO ?_|refine wX (wr:=false) (by simp only[kk,Nat.reduceAdd,Nat.reduceLT,Nat.reduceEqDiff, ↓reduceIte,reduceCtorEq,kC];first|done|rfl) ?_))
  refine gy @Zm ?_ ?_
  ·exact gI (WS t)
  refine aJ ?_
  refine af ?_ ?_
  ·intro hk
   have hk':¬k∈Option.getD (some t) []:=by simpa using hk
   try refine nv ?_
   refine gy @UX ?_ ?_
   ·exact gI (WS m)
   try refine nv ?_
   refine⟨(some (kN k,(false,[.v (.bool true)])),xs++y,lq m k),?_,by simp,?_⟩
   ·intro i
    rw[←h i,mD]
    simp only[List.mem_append,List.mem_cons]
    constructor
    ·rintro((h|rfl)|⟨h|h,g⟩)
     ·exact .inl h
     ·exact .inr ⟨.inr (.inl rfl),hk'⟩
     ·exact .inr ⟨.inl h,g⟩
     ·exact .inr ⟨.inr (.inr h),g⟩
    ·rintro(h|⟨h|h|h,g⟩)
     ·exact .inl (.inl h)
     ·exact .inr ⟨.inl h,g⟩
     ·exact .inl (.inr h)
     ·exact .inr ⟨.inr h,g⟩
   ·exact aW
  ·intro hk
   have hk':k∈Option.getD (some t) []:=by simpa using hk
   try refine nv ?_
   refine⟨(some (kN k,(false,[.v (.bool true)])),xs++y,m),?_,by simp,?_⟩
   ·intro i
    rw[←h i]
    simp only[List.mem_append,List.mem_cons]
    constructor
    ·rintro(h|⟨h|h,g⟩)
     ·exact .inl h
     ·exact .inr ⟨.inl h,g⟩
     ·exact .inr ⟨.inr (.inr h),g⟩
    ·rintro(h|⟨h|rfl|h,g⟩)
     ·exact .inl h
     ·exact .inr ⟨.inl h,g⟩
     ·exact absurd hk' g
     ·exact .inr ⟨.inr h,g⟩
   ·exact aW
def kX:=And.intro @LW.eq_1<|And.intro @LW.eq_2<|And.intro @Ci.eq_def<|And.intro @Ot.eq_def @Option.some.injEq.{0}
theorem Yh (L:jv) (i:Nat) (rs:List jk) (k:Nat) (hk:rs.length≤512):(Fp L i rs k).car.length≤300000∧(Fp L i rs k).ign.length≤300000:=by
 have:=Vf L (rs.take k) (Fq L i (decide ((rs.length:Int)=0)))
 have h2:(rs.take k).length≤rs.length:=by simp;omega
 simp only[Fq,List.length_cons,List.length_nil] at this
 unfold Fp Fq;omega
theorem MZ {P:Program} {x:X} {ι:Type} {wr:Bool} {id:Nat} {l:List Oper} {s:S} {Q:Exit→S→Prop} (ks:List Nat) (cs:List (Nat×AV)) (j d0:Nat) (ans:ι→AV) (Rel:ι→Prop) (i0:ι) (h0:Rel i0) {As:ι→List A1} {ps:ι→List Prop} {s':ι→S}
 (hm:P.follows .mixedOrders=true) (h:∀c,LW P wr l cs d0 (ans c) (fun v=>∃c,Rel c∧v=ans c) l s=some (As c,ps c,s' c)) (ho:∀c,Rel c→All (ps c)) (hc:∀c,qw l (As c)=true)
 (hu:Ob l j d0=true) (hsw:∀c c',sws j (As c)=sws j (As c')) (hks:(((List.range l.length).filter fun k=>decide (k≠j)&&!((I7 l []).getD k []).contains j).all fun k=>ks.contains k)=true)
 (hse:∀c c',ks.map (fun k=>(As c)[k]?)=ks.map (fun k=>(As c')[k]?)) (hQ:∀c,Rel c→Q .normal (s' c)):T P x (.region id l.toArray true) s Q:=
 abb cs j d0 ans Rel i0 h0 hm h ho hc hu hsw (fun c c'=>by
  unfold sel
  apply List.map_congr_left
  intro k hk
  have:=List.all_eq_true.1 hks k hk
  exact List.map_inj_left.1 (hse c c') k (by simpa using this)) hQ
def z65.kk:=p3 (p13 kB kG kS kM Tryz.ntmps65 Tryz.underlying28 Tryz.underlying91 lL yU sV Dq Aj Pj) (p13 nZ oI xh BX FO zn zA Vh Gm MP Ph xA MN) (p13 KJ GY Ib uK sK yR Ji Il VI jy ZY CJ Tryz.results65)
open z65 in
theorem Ic (L:jv) (hL:yY L) (el em:List iT) (i:Nat) (hi:i<L.revs.length) (hpr:L.prev.getD i 0<L.revs.length) (rs:List jk) (hrs:rs.length≤512):
 AC Tryz.prog 65 [.c (.ptr 1000 0),I .i64 i, .c (.d (.ps 6 (rs.map bg)))] (jZ L el em) (fun _ st=>∃c k cr,YM L i rs c k cr∧st=jZ (BC L i c k cr) el em):=by
 have hN:=hL.n
 have hp:=hL.prev
 have hc:=hL.car
 have hcr:=hL.cre
 have hco:=hL.con
 have ep:=uG eI L.prev i 0 (by omega)
 generalize hq:L.prev.getD i 0=q at ep hpr
 have hbe:∃o1 o2,Dj L i=o1∧Jm L i=o2:=⟨_,_,rfl,rfl⟩
 obtain⟨o1,o2,hb,hkn⟩:=hbe
 refine bV Tryz.func65 Tryz.ntmps65 fun x hx=>?_
 try refine nx @ep ?_
 refine lW ⟨146,[(0, .c (.ptr 1000 0)),(1,I .i64 i),(2, .c (.d (.ps 6 (rs.map bg)))),(6, .c (.d (Aa kN o1))),(7, .c (.d (Aa kN o2)))],jZ L el em⟩ ?_ ?_
 ·refine af ?_ ?_
  ·intro h
   have h':0≤q:=by simpa using h
   have e1:=uG jM L.car q.toNat none (by omega)
   have e2:=uG jM L.cre q.toNat none (by omega)
   have b1:L.car.getD q.toNat none=o1:=by rw[←hb];simp only[Dj,hq,h',if_true]
   have b2:L.cre.getD q.toNat none=o2:=by rw[←hkn];simp only[Jm,hq,h',if_true]
   rw[b1] at e1
   rw[b2] at e2
   refine aJ ?_
   refine dx ([]) (p2 @e1 @e2) ?_ ?_
   ·exact rC
   refine aJ ?_
   refine⟨rfl,?_⟩
   exact aW
  ·intro h
   have h':¬0≤q:=by simpa using h
   have b1:o1=none:=by rw[←hb];simp only[Dj,hq,h',if_false]
   have b2:o2=none:=by rw[←hkn];simp only[Jm,hq,h',if_false]
   subst b1 b2
   refine aJ ?_
   refine⟨rfl,?_⟩
   exact aW
 clear ep
 try refine nv ?_
 refine ag (ι:=Nat×Acc) (I:=fun j=>⟨146,[(0, .c (.ptr 1000 0)),(1,I .i64 i),(6, .c (.d (Aa kN o1))),(9, .c (.ms 200 1 0 j.2.car.length)),(10, .c (.ms 201 1 0 j.2.ign.length)),(11,B j.2.orig),(46, .c (.d (.ps 6 (rs.map bg)))),(47,I .i64 rs.length),(48,I .i64 j.1)],
  jZ L el em++[(200,aQ 1 (j.2.car.map jM)),(201,aQ 1 (j.2.ign.map jM))]⟩)
  (Inv:=fun j=>j.1≤rs.length∧j.2=Fp L i rs j.1) (μ:=fun j=>rs.length-j.1) (0,Fq L i (decide ((rs.length:Int)=0))) ⟨by simp,by simp[Fp]⟩ ?_ ?_
 ·rw[Fq,hb,hkn]
  exact uY (fun i=>if i=200 then 40 else if i=201 then 42 else i)
 rintro⟨j,ca,ig,og⟩ ⟨hj,ha⟩
 simp only at hj ha⊢
 obtain⟨l1,l2⟩:=Yh L i rs j hrs
 rw[←ha] at l1 l2
 simp only at l1 l2
 try refine nv ?_
 refine af ?_ ?_
 ·intro hlt
  have hlt':j<rs.length:=by simpa using hlt
  obtain⟨r,hr,he,htk⟩:=round bg rs j mr hlt'
  have hst:Fp L i rs (j+1)=gU L ⟨ca,ig,og⟩ r:=by rw[Fp,htk,List.foldl_append,ha];rfl
  try refine nx @he ?_
  refine af ?_ ?_
  ·intro h1
   have h1':r.how=1:=by simpa using h1
   cases hk:aB L.index ⟨r.frm,r.last⟩ with
   |none=>
    have hst':Fp L i rs (j+1)=⟨ca,ig,og⟩:=by rw[hst];simp only[gU,h1',if_true,hk]
    refine aJ ?_
    refine DD (wr:=false) ([]:List (Nat×AV)) (by simp only[kD,kk,Nat.reduceAdd,Nat.reduceLT,Nat.reduceEqDiff, ↓reduceIte,reduceCtorEq,mV,hk,Option.map_none,Option.isSome];first|done|rfl) ?_ ?_
    ·exact gI @xU
    try refine nv ?_
    refine af ?_ ?_
    ·intro h;cases h
    intro _
    try refine nv ?_
    refine⟨(j+1,⟨ca,ig,og⟩),⟨by simp;omega,hst'.symm⟩,by simp;omega,?_⟩
    exact aW
   |some k=>
    obtain⟨k1,k2⟩:=hL.ix _ _ hk
    have hkl:k.toNat<L.car.length:=by omega
    have ek:=uG jM L.car k.toNat none hkl
    generalize hoo:L.car.getD k.toNat none=o at ek
    have hst':Fp L i rs (j+1)=⟨ca++[o],ig,og⟩:=by rw[hst];simp only[gU,h1',if_true,hk,hoo]
    have hk2:k<(L.car.length:Int):=by omega
    refine aJ ?_
    refine DD (wr:=false) ([]:List (Nat×AV)) (by simp only[kD,kk,Nat.reduceAdd,Nat.reduceLT,Nat.reduceEqDiff, ↓reduceIte,reduceCtorEq,mV,hk,Option.isSome];first|done|rfl) ?_ ?_
    ·exact gI @xU
    try refine nv ?_
    refine af ?_ ?_
    rotate_left
    ·intro h;cases h
    intro _
    try refine nx (p2 @ek @Nat.zero_add) ?_
    refine⟨(j+1,⟨ca++[o],ig,og⟩),⟨by simp;omega,hst'.symm⟩,by simp;omega,?_⟩
    exact uY (fun i=>if i=200 then 90 else i)
  intro h1
  have h1':¬r.how=1:=by simpa using h1
  have hcl:=LH L r
  try refine nv ?_
  refine af ?_ ?_
  ·intro h3
   have h3':r.how=3:=by simpa using h3
   have hst':Fp L i rs (j+1)=⟨ca,ig++kT L r,og⟩:=by rw[hst];simp only[gU,h1',h3',if_true,if_false];rfl
   try refine nv ?_
   refine qQ (jZ L el em) (vT L hL el em r) ?_
   rintro rv9 st' ⟨rfl,rfl⟩<;>refine qU ?_
   try refine nv ?_
   refine⟨(j+1,⟨ca,ig++kT L r,og⟩),⟨by simp;omega,hst'.symm⟩,by simp;omega,?_⟩
   exact uY (fun i=>if i=201 then 97 else i)
  ·intro h3
   have h3':¬r.how=3:=by simpa using h3
   have hst':Fp L i rs (j+1)=⟨ca++kT L r,ig,og||decide (r.how=4)⟩:=by rw[hst];simp only[gU,h1',h3',if_false]
   try refine nv ?_
   refine qQ (jZ L el em) (vT L hL el em r) ?_
   rintro rv9 st' ⟨rfl,rfl⟩<;>refine qU ?_
   try refine nv ?_
   have hog:(bif og then true else decide (r.how=4))=(og||decide (r.how=4)):=by cases og<;>rfl
   refine⟨(j+1,⟨ca++kT L r,ig,og||decide (r.how=4)⟩),⟨by simp;omega,hst'.symm⟩,by simp;omega,?_⟩
   rw[hog]
   exact uY (fun i=>if i=200 then 64 else i)
 intro hge
 have hge':j=rs.length:=by have:¬j<rs.length:=by simpa using hge
                           omega
 have hall:rQ L i rs=⟨ca,ig,og⟩:=by rw[ha,hge',Fp,List.take_length];rfl
 obtain⟨cf,hcf⟩:∃cf,uJ L i rs=cf:=⟨_,rfl⟩
 have hcl:cf.length≤400000:=by rw[←hcf,uJ,hall];simp only[List.length_append];split<;>simp<;>omega
 try refine nv ?_
 refine lW ⟨146,[(0, .c (.ptr 1000 0)),(1,I .i64 i),(6, .c (.d (Aa kN o1))),(9, .c (.ms 200 1 0 cf.length)),(10, .c (.ms 201 1 0 ig.length))],jZ L el em++[(200,aQ 1 (cf.map jM)),(201,aQ 1 (ig.map jM))]⟩ ?_ ?_
 ·refine af ?_ ?_
  ·intro h
   have e:cf=ca++[some [(i:Int)]]:=by rw[←hcf,uJ,hall,h];rfl
   subst e
   refine aJ ?_
   refine dR (wr:=false) 4 (by simp only[kk,Nat.reduceAdd,Nat.reduceLT,Nat.reduceEqDiff, ↓reduceIte,reduceCtorEq,dS];first|done|rfl) ?_ ?_
   ·exact rC
   refine aG (lh (i:=103) (id:=101) (es:=dn kN [(i:Int)]) rfl rfl) ?_
   refine dM ?_
   try refine nv ?_
   refine⟨rfl,?_⟩
   exact uY (fun i=>if i=200 then 105 else i)
  ·intro h
   have e:cf=ca:=by rw[←hcf,uJ,hall,h];simp
   subst e
   refine aJ ?_
   refine⟨rfl,?_⟩
   exact aW
 have hU:AC Tryz.prog 133 [.c (.ms 200 1 0 cf.length)] [(200,aQ 1 (cf.map jM))] (fun r st=>(∃l,Uni l cf∧r= .c (.d (.pm (dn kN l))))∧st=[(200, .dead)]):=by
  have:=Zl (id:=200) (R:=fun r=>∃l,Uni l cf∧r= .c (.d (.pm (dn kN l)))) (fun r ⟨l,_,e⟩=>by rw[e];simp[aZ,dH]) (QI cf (by omega))
  simpa[aQ] using this
 have hli:(i:Int)<(L.car.length:Int):=by omega
 have hlk:(i:Int)<(L.con.length:Int):=by omega
 have hlc:(i:Int)<(L.cre.length:Int):=by omega
 refine aJ ?_
 refine MZ (wr:=false) [0,1,2,3,4,5,7] [] 6 112 (fun l=> .c (.d (.pm (dn kN l)))) (fun l=>Uni l cf) (cf.flatMap (fun o=>o.getD [])) (fun k=>by simp) (by kernel_rfl) (fun c=>by simp only[kX,kD,kk,Nat.reduceAdd,Nat.reduceLT,Nat.reduceEqDiff, ↓reduceIte,reduceCtorEq,SG];first|done|rfl) ?_ (fun c=>by kernel_rfl) (by kernel_rfl) (fun _ _=>by kernel_rfl) (by kernel_rfl) (fun _ _=>by simp only[List.map_cons,List.map_nil,List.getElem?_cons_zero,List.getElem?_cons_succ];repeat' (first|(with_reducible rfl)|refine congr (congrArg List.cons ?_) ?_|refine congrArg some ?_|kernel_rfl)) ?_
 ·intro c hc2
  exact gI @hU
 intro c hcU
 have eci:(List.map (fun l=>List.map C.d l) (List.map jM (L.car.set i (some c)))).getD i []=[C.d (.pm (dn kN c))]:=by rw[uG jM (L.car.set i (some c)) i none (by simp;omega)];simp[List.getD,show i<L.car.length by omega]
 refine aJ ?_
 refine MZ (wr:=false) [0,1,2,3,4,5,6,7,8,9,10,11,12,14] [] 13 127 (fun l=> .c (.d (.pm (dn kN l)))) (fun l=>∀x,x∈l↔x∈c∧¬x∈o1.getD []) (c.filter (fun x=>!decide (x∈o1.getD []))) (fun k=>by simp) (by kernel_rfl) (fun c=>by simp only[kX,kD,kk,Nat.reduceAdd,Nat.reduceLT,Nat.reduceEqDiff, ↓reduceIte,reduceCtorEq,SG,eci];first|done|rfl) ?_ (fun c=>by kernel_rfl) (by kernel_rfl) (fun _ _=>by kernel_rfl) (by kernel_rfl) (fun _ _=>by simp only[List.map_cons,List.map_nil,List.getElem?_cons_zero,List.getElem?_cons_succ];repeat' (first|(with_reducible rfl)|refine congr (congrArg List.cons ?_) ?_|refine congrArg some ?_|kernel_rfl)) ?_
 ·intro m hm2
  exact gI (TJ c o1)
 intro m hmU
 have hV:AC Tryz.prog 133 [.c (.ms 143 1 0 (ig.length+1))] [(143,aQ 1 ((ig++[some c]).map jM))] (fun r st=>(∃l,Uni l (ig++[some c])∧r= .c (.d (.pm (dn kN l))))∧st=[(143, .dead)]):=by
  have:=Zl (id:=143) (R:=fun r=>∃l,Uni l (ig++[some c])∧r= .c (.d (.pm (dn kN l)))) (fun r ⟨l,_,e⟩=>by rw[e];simp[aZ,dH]) (QI (ig++[some c]) (by simp;omega))
  simpa[aQ] using this
 have happ:List.map (fun l=>List.map C.d l) (List.map jM ig)++[[C.d (.pm (dn kN c))]]=List.map (fun l=>List.map C.d l) (List.map jM (ig++[some c])):=by simp
 refine aJ ?_
 refine MZ (wr:=false) [0,1,2,3,4,5,6,7,8,9,10,11,12,13,14,16] [] 15 144 (fun l=> .c (.d (.pm (dn kN l)))) (fun l=>Uni l (ig++[some c])) ((ig++[some c]).flatMap (fun o=>o.getD [])) (fun k=>by simp only[List.mem_flatMap]) (by kernel_rfl) (fun c=>by simp only[kX,kD,kk,Nat.reduceAdd,Nat.reduceLT,Nat.reduceEqDiff, ↓reduceIte,reduceCtorEq,SG,eci,happ];first|done|rfl) ?_ (fun c=>by kernel_rfl) (by kernel_rfl) (fun _ _=>by kernel_rfl) (by kernel_rfl) (fun _ _=>by simp only[List.map_cons,List.map_nil,List.getElem?_cons_zero,List.getElem?_cons_succ];repeat' (first|(with_reducible rfl)|refine congr (congrArg List.cons ?_) ?_|refine congrArg some ?_|kernel_rfl)) ?_
 ·intro cr hcr2
  exact gI @hV
 intro cr hcrU
 refine aJ ?_
 have hS:BC L i c m cr=⟨L.revs,L.index,L.prev,L.fst,L.car.set i (some c),L.con.set i (some m),L.cre.set i (some cr)⟩:=rfl
 have hR:YM L i rs c m cr:=⟨by rw[hcf];exact hcU,by rw[hb];exact hmU,by rw[hall];exact hcrU⟩
 generalize L.car.set i (some c)=A' at*
 generalize L.con.set i (some m)=B' at*
 generalize L.cre.set i (some cr)=C' at*
 refine rV ((jZ ⟨L.revs,L.index,L.prev,L.fst,A',B',C'⟩ el em)) ?_
 exact⟨c,m,cr,hR,by rw[hS]⟩
theorem Z7 (m:List (Int×List Int)) (n:Int):fP [C.d (.v (.int .i64 n))] ((bJ kN vL m).map fA)=(aB m n).map fun v=>(false,[C.d (.ps 1 (v.map eI))]):=
 pg (ve:=vL) Ik m n
theorem ac9 (m:List (Int×List Int)):∀e∈(bJ kN vL m).map fA,e.1.1=false∧dm [.int .i64] e.1.2:=by
 intro e he
 simp only[bJ,List.mem_map] at he
 obtain⟨_,⟨f,_,rfl⟩,rfl⟩:=he
 exact⟨rfl,by simp[fA,kC,dm]⟩
@[reducible] def eB (b:Bool):List D:=[.v (.bool b)]
def z42.kk:=p2 (p13 kB kS kM Tryz.ntmps42 Tryz.underlying114 Tryz.underlying55 sV MV Aj Pj uq Gn Gm) (p12 MP Ph Vs UN GY uK yR Ji aas ZY CJ Tryz.results42)
open z42 in
theorem Au (L:jv) (hL:yY L) (la:List (ByteArray×Int)) (me:List (Int×List Int)) (s t:Int) (hs:0≤s∧s<L.revs.length) (ht:0≤t∧t<L.revs.length) (ms:List Int) (hm:aB me (L.fst.getD s.toNat 0)=some ms)
 (hms:∀i∈ms,0≤i∧i<L.revs.length∧∃l,L.con.getD i.toNat none=some l) (hcr:∃l,L.cre.getD t.toNat none=some l) (hml:ms.length≤1000):
 AC Tryz.prog 42 [.c (.pp (sG L la me)),I .i64 s,I .i64 t] [] (fun r st=>r= .tup [(false,[.d (.ps 1 ((upto ms s).map eI))]),(false,[.d (.ps 1 (((upto ms s).map (iU L t)).map eB))])]∧st=[]):=by
 obtain⟨s1,s2⟩:=hs
 have hfl:=hL.fst
 have hil:s.toNat<L.fst.length:=by omega
 have hi2:s<(L.fst.length:Int):=by omega
 have eg:=bi eI L.fst s.toNat 0 hil
 refine bV Tryz.func42 Tryz.ntmps42 fun x hx=>?_
 try refine nv ?_
 refine dx ([]) (p3 @eg @Z7 @hm) ?_ ?_
 ·exact gI @ac9
 refine aJ ?_
 refine mg (eG (i:=6) (id:=100) (sz:=1) rfl rfl (by omega)) ?_
 refine dM ?_
 refine mg (eG (i:=7) (id:=101) (sz:=1) rfl rfl (by omega)) ?_
 refine dM ?_
 refine ag (ι:=Nat) (I:=fun k=>⟨56,[(0, .c (.pp (sG L la me))),(1,I .i64 s),(2,I .i64 t),(6, .c (.ms 100 1 0 (ms.take k).length)),(7, .c (.ms 101 1 0 (ms.take k).length)),(21, .c (.d (.ps 1 (ms.map eI)))),(22,I .i64 ms.length),(23,I .i64 k)],
  [(100,aQ 1 ((ms.take k).map eI)),(101,aQ 1 (((ms.take k).map (iU L t)).map eB))]⟩)
  (Inv:=fun k=>k≤ms.length∧¬s∈ms.take k) (μ:=fun k=>ms.length-k) 0 ⟨by omega,by simp⟩ ?_ ?_
 ·exact aW
 rintro k ⟨hk,hns⟩
 have hkl:(ms.take k).length=k:=by simp;omega
 try refine nv ?_
 refine af ?_ ?_
 ·intro hlt
  have hlt':k<ms.length:=by simpa using hlt
  obtain⟨v,hv,he,htk⟩:=round eI ms k 0 hlt'
  obtain⟨v1,v2,c1,hc1⟩:=hms v (List.mem_of_getElem? hv)
  obtain⟨c2,hc2⟩:=hcr
  have hcl1:=hL.con
  have hcl2:=hL.cre
  have e1:=bi jM L.con v.toNat none (by omega)
  have e2:=bi jM L.cre t.toNat none (by omega)
  rw[hc1] at e1
  rw[hc2] at e2
  have hob:(!Et c1 c2)=iU L t v:=by simp only[iU,hc1,hc2,Option.getD]
  try refine nx @he ?_
  refine dx ([(46,B (Et c1 c2))]) (p2 @e1 @e2) ?_ ?_
  ·exact gI (Xe c1 c2)
  try refine nv ?_
  refine af ?_ ?_
  ·intro heq
   have heq':v=s:=by simpa using heq
   have hup:upto ms s=ms.take (k+1):=QH hns (by rw[←heq'];exact hv)
   refine mg (s':=⟨56,[(6, .c (.ms 100 1 0 (ms.take (k+1)).length)),(7, .c (.ms 101 1 0 (ms.take (k+1)).length))],[(100,aQ 1 ((ms.take (k+1)).map eI)),(101,aQ 1 (((ms.take (k+1)).map (iU L t)).map eB))]⟩) ?_ ?_
   ·rw[htk]
    exact enS @hob (fun i=>if i=100 then 30 else if i=101 then 49 else i)
   refine aJ ?_
   refine aG (aI (i:=6) (id:=100) (ys:=(ms.take (k+1)).map eI) rfl rfl (by simp)) ?_
   refine dM ?_
   refine aG (aI (i:=7) (id:=101) (ys:=((ms.take (k+1)).map (iU L t)).map eB) rfl rfl (by simp)) ?_
   refine dM ?_
   try refine nv ?_
   refine rA [] ?_
   refine⟨?_,rfl⟩
   rw[hup]
  ·intro hne
   have hne':¬v=s:=by simpa using hne
   try refine nv ?_
   refine⟨k+1,⟨by omega,?_⟩,by omega,?_⟩
   ·rw[htk,List.mem_append]
    rintro(h|h)
    ·exact hns h
    ·simp at h;exact hne' h.symm
   ·rw[htk]
    exact enS @hob (fun i=>if i=100 then 30 else if i=101 then 49 else i)
 ·intro hge
  have hge':k=ms.length:=by have:¬k<ms.length:=by simpa using hge
                            omega
  refine aJ ?_
  refine aG (aI (i:=6) (id:=100) (ys:=(ms.take k).map eI) rfl rfl (by simp)) ?_
  refine dM ?_
  refine aG (aI (i:=7) (id:=101) (ys:=((ms.take k).map (iU L t)).map eB) rfl rfl (by simp)) ?_
  refine dM ?_
  try refine nv ?_
  refine rA [] ?_
  refine⟨?_,rfl⟩
  rw[hge',List.take_length] at hns⊢
  rw[KC hns]
end Go.Proofs.YtcpgicfphakdaaaGreatDoor
