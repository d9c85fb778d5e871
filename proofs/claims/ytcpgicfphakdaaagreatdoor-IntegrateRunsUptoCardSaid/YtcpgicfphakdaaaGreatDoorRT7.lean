/- A part of the proof. -/
import Derived.Test.YtcpgicfphakdaaaGreatDoorRT3
import Derived.Test.YtcpgicfphakdaaaGreatDoorRT5
set_option linter.all false
namespace Go.Proofs.YtcpgicfphakdaaaGreatDoor
open Go.Ab Tys
variable [Dr]
def kX:=And.intro @MP.eq_1<|And.intro @MP.eq_2<|And.intro @AL.eq_def<|And.intro @P8.eq_def @Option.some.injEq.{0}
theorem Ze (L:iE) (i:Nat) (rs:List iD) (k:Nat) (hk:rs.length≤512):(Ef L i rs k).car.length≤300000∧(Ef L i rs k).ign.length≤300000:=by
 have:=Uz L (rs.take k) (Ee L i (decide ((rs.length:Int)=0)))
 have h2:(rs.take k).length≤rs.length:=by simp;omega
 simp only[Ee,List.length_cons,List.length_nil] at this
 unfold Ef Ee;omega
theorem KZ {P:Program} {x:X} {ι:Type} {wr:Bool} {id:Nat} {l:List Oper} {s:S} {Q:Exit→S→Prop} (ks:List Nat) (cs:List (Nat×AV)) (j d0:Nat) (ans:ι→AV) (Rel:ι→Prop) (i0:ι) (h0:Rel i0) {As:ι→List A1} {ps:ι→List Prop} {s':ι→S}
 (hm:P.follows .mixedOrders=true) (h:∀c,MP P wr l cs d0 (ans c) (fun v=>∃c,Rel c∧v=ans c) l s=some (As c,ps c,s' c)) (ho:∀c,Rel c→All (ps c)) (hc:∀c,vC l (As c)=true)
 (hu:Nl l j d0=true) (hsw:∀c c',sws j (As c)=sws j (As c')) (hks:(((List.range l.length).filter fun k=>decide (k≠j)&&!((OQ l []).getD k []).contains j).all fun k=>ks.contains k)=true)
 (hse:∀c c',ks.map (fun k=>(As c)[k]?)=ks.map (fun k=>(As c')[k]?)) (hQ:∀c,Rel c→Q .normal (s' c)):T P x (.region id l.toArray true) s Q:=
 ZX cs j d0 ans Rel i0 h0 hm h ho hc hu hsw (fun c c'=>by
  unfold sel
  apply List.map_congr_left
  intro k hk
  have:=List.all_eq_true.1 hks k hk
  exact List.map_inj_left.1 (hse c c') k (by simpa using this)) hQ
def z65.kk:=p3 (p13 kB kG kS kM Tryz.ntmps65 Tryz.underlying28 Tryz.underlying91 pM zk qW DD zt NE) (p13 oC oI yK Fe MR yI yE Tz Ff MJ PN DT KP) (p13 Jp GV IW uz vT MH IR IY WP kC WX AX Tryz.results65)
set_option maxRecDepth 100000 in
set_option maxHeartbeats 16000000 in
open z65 in
theorem Ie (L:iE) (hL:xK L) (el em:List iV) (i:Nat) (hi:i<L.revs.length) (hpr:L.prev.getD i 0<L.revs.length) (rs:List iD) (hrs:rs.length≤512):
 AC Tryz.prog 65 [.c (.ptr 1000 0),I .i64 i, .c (.d (.ps 6 (rs.map bi)))] (jh L el em) (fun _ st=>∃c k cr,Yq L i rs c k cr∧st=jh (zX L i c k cr) el em):=by
 have hN:=hL.n
 have hp:=hL.prev
 have hc:=hL.car
 have hcr:=hL.cre
 have hco:=hL.con
 have ep:=uG eI L.prev i 0 (by omega)
 generalize hq:L.prev.getD i 0=q at ep hpr
 have hbe:∃o1 o2,Bv L i=o1∧IA L i=o2:=⟨_,_,rfl,rfl⟩
 obtain⟨o1,o2,hb,hkn⟩:=hbe
 refine dA Tryz.func65 Tryz.ntmps65 fun x hx=>?_
 try refine nx @ep ?_
 refine uT ⟨146,[(0, .c (.ptr 1000 0)),(1,I .i64 i),(2, .c (.d (.ps 6 (rs.map bi)))),(6, .c (.d (Pn kN o1))),(7, .c (.d (Pn kN o2)))],jh L el em⟩ ?_ ?_
 ·refine aj ?_ ?_
  ·intro h
   have h':0≤q:=by simpa using h
   have e1:=uG iW L.car q.toNat none (by omega)
   have e2:=uG iW L.cre q.toNat none (by omega)
   have b1:L.car.getD q.toNat none=o1:=by rw[←hb];simp only[Bv,hq,h',if_true]
   have b2:L.cre.getD q.toNat none=o2:=by rw[←hkn];simp only[IA,hq,h',if_true]
   rw[b1] at e1
   rw[b2] at e2
   refine bC ?_
   refine dx ([]) (p2 @e1 @e2) ?_ ?_
   ·exact vO
   refine bC ?_
   refine⟨rfl,?_⟩
   exact cO
  ·intro h
   have h':¬0≤q:=by simpa using h
   have b1:o1=none:=by rw[←hb];simp only[Bv,hq,h',if_false]
   have b2:o2=none:=by rw[←hkn];simp only[IA,hq,h',if_false]
   subst b1 b2
   refine bC ?_
   refine⟨rfl,?_⟩
   exact cO
 clear ep
 try refine nv ?_
 refine ax (ι:=Nat×Acc) (I:=fun j=>⟨146,[(0, .c (.ptr 1000 0)),(1,I .i64 i),(6, .c (.d (Pn kN o1))),(9, .c (.ms 200 1 0 j.2.car.length)),(10, .c (.ms 201 1 0 j.2.ign.length)),(11,B j.2.orig),(46, .c (.d (.ps 6 (rs.map bi)))),(47,I .i64 rs.length),(48,I .i64 j.1)],
  jh L el em++[(200,aK 1 (j.2.car.map iW)),(201,aK 1 (j.2.ign.map iW))]⟩)
  (Inv:=fun j=>j.1≤rs.length∧j.2=Ef L i rs j.1) (μ:=fun j=>rs.length-j.1) (0,Ee L i (decide ((rs.length:Int)=0))) ⟨by simp,by simp[Ef]⟩ ?_ ?_
 ·rw[Ee,hb,hkn]
  exact Af (fun i=>if i=200 then 40 else if i=201 then 42 else i)
 rintro⟨j,ca,ig,og⟩ ⟨hj,ha⟩
 simp only at hj ha⊢
 obtain⟨l1,l2⟩:=Ze L i rs j hrs
 rw[←ha] at l1 l2
 simp only at l1 l2
 try refine nv ?_
 refine aj ?_ ?_
 ·intro hlt
  have hlt':j<rs.length:=by simpa using hlt
  obtain⟨r,hr,he,htk⟩:=round bi rs j lZ hlt'
  have hst:Ef L i rs (j+1)=fE L ⟨ca,ig,og⟩ r:=by rw[Ef,htk,List.foldl_append,ha];rfl
  try refine nx @he ?_
  refine aj ?_ ?_
  ·intro h1
   have h1':r.how=1:=by simpa using h1
   cases hk:ai L.index ⟨r.frm,r.last⟩ with
   |none=>
    have hst':Ef L i rs (j+1)=⟨ca,ig,og⟩:=by rw[hst];simp only[fE,h1',if_true,hk]
    refine bC ?_
    refine BO (wr:=false) ([]:List (Nat×AV)) (by simp only[kD,kk,Nat.reduceAdd,Nat.reduceLT,Nat.reduceEqDiff, ↓reduceIte,reduceCtorEq,lH,hk,Option.map_none,Option.isSome];first|done|rfl) ?_ ?_
    ·exact iw @xU
    try refine nv ?_
    refine aj ?_ ?_
    ·intro h;cases h
    intro _
    try refine nv ?_
    refine⟨(j+1,⟨ca,ig,og⟩),⟨by simp;omega,hst'.symm⟩,by simp;omega,?_⟩
    exact cO
   |some k=>
    obtain⟨k1,k2⟩:=hL.ix _ _ hk
    have hkl:k.toNat<L.car.length:=by omega
    have ek:=uG iW L.car k.toNat none hkl
    generalize hoo:L.car.getD k.toNat none=o at ek
    have hst':Ef L i rs (j+1)=⟨ca++[o],ig,og⟩:=by rw[hst];simp only[fE,h1',if_true,hk,hoo]
    have hk2:k<(L.car.length:Int):=by omega
    refine bC ?_
    refine BO (wr:=false) ([]:List (Nat×AV)) (by simp only[kD,kk,Nat.reduceAdd,Nat.reduceLT,Nat.reduceEqDiff, ↓reduceIte,reduceCtorEq,lH,hk,Option.isSome];first|done|rfl) ?_ ?_
    ·exact iw @xU
    try refine nv ?_
    refine aj ?_ ?_
    rotate_left
    ·intro h;cases h
    intro _
    try refine nx (p2 @ek @Nat.zero_add) ?_
    refine⟨(j+1,⟨ca++[o],ig,og⟩),⟨by simp;omega,hst'.symm⟩,by simp;omega,?_⟩
    exact Af (fun i=>if i=200 then 90 else i)
  intro h1
  have h1':¬r.how=1:=by simpa using h1
  have hcl:=Jh L r
  try refine nv ?_
  refine aj ?_ ?_
  ·intro h3
   have h3':r.how=3:=by simpa using h3
   have hst':Ef L i rs (j+1)=⟨ca,ig++jA L r,og⟩:=by rw[hst];simp only[fE,h1',h3',if_true,if_false];rfl
   try refine nv ?_
   refine tX (jh L el em) (tC L hL el em r) ?_
   rintro rv9 st' ⟨rfl,rfl⟩<;>refine uo ?_
   try refine nv ?_
   refine⟨(j+1,⟨ca,ig++jA L r,og⟩),⟨by simp;omega,hst'.symm⟩,by simp;omega,?_⟩
   exact Af (fun i=>if i=201 then 97 else i)
  ·intro h3
   have h3':¬r.how=3:=by simpa using h3
   have hst':Ef L i rs (j+1)=⟨ca++jA L r,ig,og||decide (r.how=4)⟩:=by rw[hst];simp only[fE,h1',h3',if_false]
   try refine nv ?_
   refine tX (jh L el em) (tC L hL el em r) ?_
   rintro rv9 st' ⟨rfl,rfl⟩<;>refine uo ?_
   try refine nv ?_
   have hog:(bif og then true else decide (r.how=4))=(og||decide (r.how=4)):=by cases og<;>rfl
   refine⟨(j+1,⟨ca++jA L r,ig,og||decide (r.how=4)⟩),⟨by simp;omega,hst'.symm⟩,by simp;omega,?_⟩
   rw[hog]
   exact Af (fun i=>if i=200 then 64 else i)
 intro hge
 have hge':j=rs.length:=by have:¬j<rs.length:=by simpa using hge
                           omega
 have hall:qC L i rs=⟨ca,ig,og⟩:=by rw[ha,hge',Ef,List.take_length];rfl
 obtain⟨cf,hcf⟩:∃cf,rW L i rs=cf:=⟨_,rfl⟩
 have hcl:cf.length≤400000:=by rw[←hcf,rW,hall];simp only[List.length_append];split<;>simp<;>omega
 try refine nv ?_
 refine uT ⟨146,[(0, .c (.ptr 1000 0)),(1,I .i64 i),(6, .c (.d (Pn kN o1))),(9, .c (.ms 200 1 0 cf.length)),(10, .c (.ms 201 1 0 ig.length))],jh L el em++[(200,aK 1 (cf.map iW)),(201,aK 1 (ig.map iW))]⟩ ?_ ?_
 ·refine aj ?_ ?_
  ·intro h
   have e:cf=ca++[some [(i:Int)]]:=by rw[←hcf,rW,hall,h];rfl
   subst e
   refine bC ?_
   refine dw (wr:=false) 4 (by simp only[kk,Nat.reduceAdd,Nat.reduceLT,Nat.reduceEqDiff, ↓reduceIte,reduceCtorEq,dH];first|done|rfl) ?_ ?_
   ·exact vO
   refine bz (mf (i:=103) (id:=101) (es:=gI kN [(i:Int)]) rfl rfl) ?_
   refine dZ ?_
   try refine nv ?_
   refine⟨rfl,?_⟩
   exact Af (fun i=>if i=200 then 105 else i)
  ·intro h
   have e:cf=ca:=by rw[←hcf,rW,hall,h];simp
   subst e
   refine bC ?_
   refine⟨rfl,?_⟩
   exact cO
 have hU:AC Tryz.prog 133 [.c (.ms 200 1 0 cf.length)] [(200,aK 1 (cf.map iW))] (fun r st=>(∃l,Uni l cf∧r= .c (.d (.pm (gI kN l))))∧st=[(200, .dead)]):=by
  have:=YT (id:=200) (R:=fun r=>∃l,Uni l cf∧r= .c (.d (.pm (gI kN l)))) (fun r ⟨l,_,e⟩=>by rw[e];simp[aH,cu]) (O8 cf (by omega))
  simpa[aK] using this
 have hli:(i:Int)<(L.car.length:Int):=by omega
 have hlk:(i:Int)<(L.con.length:Int):=by omega
 have hlc:(i:Int)<(L.cre.length:Int):=by omega
 refine bC ?_
 refine KZ (wr:=false) [0,1,2,3,4,5,7] [] 6 112 (fun l=> .c (.d (.pm (gI kN l)))) (fun l=>Uni l cf) (cf.flatMap (fun o=>o.getD [])) (fun k=>by simp) (by kernel_rfl) (fun c=>by simp only[kX,kD,kk,Nat.reduceAdd,Nat.reduceLT,Nat.reduceEqDiff, ↓reduceIte,reduceCtorEq,Rh];first|done|rfl) ?_ (fun c=>by kernel_rfl) (by kernel_rfl) (fun _ _=>by kernel_rfl) (by kernel_rfl) (fun _ _=>by simp only[List.map_cons,List.map_nil,List.getElem?_cons_zero,List.getElem?_cons_succ];repeat' (first|(with_reducible rfl)|refine congr (congrArg List.cons ?_) ?_|refine congrArg some ?_|kernel_rfl)) ?_
 ·intro c hc2
  exact iw @hU
 intro c hcU
 have eci:(List.map (fun l=>List.map C.d l) (List.map iW (L.car.set i (some c)))).getD i []=[C.d (.pm (gI kN c))]:=by rw[uG iW (L.car.set i (some c)) i none (by simp;omega)];simp[List.getD,show i<L.car.length by omega]
 refine bC ?_
 refine KZ (wr:=false) [0,1,2,3,4,5,6,7,8,9,10,11,12,14] [] 13 127 (fun l=> .c (.d (.pm (gI kN l)))) (fun l=>∀x,x∈l↔x∈c∧¬x∈o1.getD []) (c.filter (fun x=>!decide (x∈o1.getD []))) (fun k=>by simp) (by kernel_rfl) (fun c=>by simp only[kX,kD,kk,Nat.reduceAdd,Nat.reduceLT,Nat.reduceEqDiff, ↓reduceIte,reduceCtorEq,Rh,eci];first|done|rfl) ?_ (fun c=>by kernel_rfl) (by kernel_rfl) (fun _ _=>by kernel_rfl) (by kernel_rfl) (fun _ _=>by simp only[List.map_cons,List.map_nil,List.getElem?_cons_zero,List.getElem?_cons_succ];repeat' (first|(with_reducible rfl)|refine congr (congrArg List.cons ?_) ?_|refine congrArg some ?_|kernel_rfl)) ?_
 ·intro m hm2
  exact iw (RI c o1)
 intro m hmU
 have hV:AC Tryz.prog 133 [.c (.ms 143 1 0 (ig.length+1))] [(143,aK 1 ((ig++[some c]).map iW))] (fun r st=>(∃l,Uni l (ig++[some c])∧r= .c (.d (.pm (gI kN l))))∧st=[(143, .dead)]):=by
  have:=YT (id:=143) (R:=fun r=>∃l,Uni l (ig++[some c])∧r= .c (.d (.pm (gI kN l)))) (fun r ⟨l,_,e⟩=>by rw[e];simp[aH,cu]) (O8 (ig++[some c]) (by simp;omega))
  simpa[aK] using this
 have happ:List.map (fun l=>List.map C.d l) (List.map iW ig)++[[C.d (.pm (gI kN c))]]=List.map (fun l=>List.map C.d l) (List.map iW (ig++[some c])):=by simp
 refine bC ?_
 refine KZ (wr:=false) [0,1,2,3,4,5,6,7,8,9,10,11,12,13,14,16] [] 15 144 (fun l=> .c (.d (.pm (gI kN l)))) (fun l=>Uni l (ig++[some c])) ((ig++[some c]).flatMap (fun o=>o.getD [])) (fun k=>by simp only[List.mem_flatMap]) (by kernel_rfl) (fun c=>by simp only[kX,kD,kk,Nat.reduceAdd,Nat.reduceLT,Nat.reduceEqDiff, ↓reduceIte,reduceCtorEq,Rh,eci,happ];first|done|rfl) ?_ (fun c=>by kernel_rfl) (by kernel_rfl) (fun _ _=>by kernel_rfl) (by kernel_rfl) (fun _ _=>by simp only[List.map_cons,List.map_nil,List.getElem?_cons_zero,List.getElem?_cons_succ];repeat' (first|(with_reducible rfl)|refine congr (congrArg List.cons ?_) ?_|refine congrArg some ?_|kernel_rfl)) ?_
 ·intro cr hcr2
  exact iw @hV
 intro cr hcrU
 refine bC ?_
 have hS:zX L i c m cr=⟨L.revs,L.index,L.prev,L.fst,L.car.set i (some c),L.con.set i (some m),L.cre.set i (some cr)⟩:=rfl
 have hR:Yq L i rs c m cr:=⟨by rw[hcf];exact hcU,by rw[hb];exact hmU,by rw[hall];exact hcrU⟩
 generalize L.car.set i (some c)=A' at*
 generalize L.con.set i (some m)=B' at*
 generalize L.cre.set i (some cr)=C' at*
 refine rV ((jh ⟨L.revs,L.index,L.prev,L.fst,A',B',C'⟩ el em)) ?_
 exact⟨c,m,cr,hR,by rw[hS]⟩
theorem acC {β:Type} (m:List (bf×(Value×List β))):∀e∈(bM kF vV m).map fC,e.1.1=true∧cZ [.str, .int .i64] e.1.2:=by
 intro e he
 simp only[bM,List.mem_map] at he
 obtain⟨_,⟨f,_,rfl⟩,rfl⟩:=he
 exact⟨rfl,by simp[fC,jV,cZ]⟩
theorem abX {β:Type} (m:List (bf×(Value×List β))) (p:ByteArray) (n:Int):fD [C.d (.v (.string p)),C.d (.v (.int .i64 n))] ((bM kF vV m).map fC)=(ai m ⟨p,n⟩).map fun v=>(false,[C.d (.v v.1)]):=
 nP (ve:=vV) Gt m ⟨p,n⟩
theorem XL (dom:Nat→Bool) (n:Nat) (x:D):aB dom (List.replicate n (C.d x))=True:=by
 refine eq_true ?_
 induction n with
 |zero=>trivial
 |succ n ih=>exact⟨trivial,ih⟩
structure SK (rs:List iD) (G:List (bf×(Value×List iD))) (ps:List (Value×List (List D))):Prop where
 perm:ps.Perm (iP bi G)
 look:∀f,(ai (wK G) f).getD []=rs.filter fun r=>decide ((⟨r.to,r.num⟩:bf)=f)
 ne:∀f,ai (wK G) f≠some []
theorem SK.step {rs:List iD} {G:List (bf×(Value×List iD))} {ps ps':List (Value×List (List D))} (h:SK rs G ps) (r:iD) (v:Value) (zs:List iD) (hz:zs=(ai (wK G) ⟨r.to,r.num⟩).getD []++[r])
 (hp:ps'.Perm (iP bi (fV G ⟨r.to,r.num⟩ (v,zs)))):SK (rs++[r]) (fV G ⟨r.to,r.num⟩ (v,zs)) ps':=by
 refine⟨hp,?_,?_⟩
 ·intro f
  rw[qM,fA,List.filter_append,←h.look f]
  by_cases e:f=⟨r.to,r.num⟩
  ·subst e;rw[if_pos rfl,hz];simp
  ·rw[if_neg e]
   have:List.filter (fun r'=>decide ((⟨r'.to,r'.num⟩:bf)=f)) [r]=[]:=by simp;exact fun h=>e h.symm
   rw[this,List.append_nil]
 ·intro f
  rw[qM,fA]
  split
  ·rw[hz];simp
  ·exact h.ne f
theorem lq.ac3 {d:bJ} {k:Nat} {L:iE} {me:List (Int×List Int)} (h:lq d k L me):ai me (k:Int)=none:=by
 have h1:=h.mem (k:Int) (by omega)
 have h2:(List.range k).filter (fun j=>decide (L.fst.getD j 0=(k:Int)))=[]:=List.filter_eq_nil_iff.2 fun j hj=>by
  have hj:j<k:=by simpa using hj
  have hl:j<d.revs.length:=by have:=h.kn;omega
  have hv:=List.getElem?_eq_getElem hl
  by_cases w5:(d.revs[j]).act=5
  ·have:=(h.f5 j _ hj hv w5).1
   simp only[decide_eq_true_eq];omega
  ·have:=(h.fm j _ hj hv w5).2
   simp only[decide_eq_true_eq];omega
 rw[h2] at h1
 cases hc:ai me (k:Int) with
 |none=>rfl
 |some l=>rw[hc] at h1;simp at h1;subst h1;exact absurd hc (h.mne _)
theorem lq.Zu {d:bJ} {k:Nat} {L:iE} {me:List (Int×List Int)} (h:lq d k L me) {u:Nat} (hu:u<k) (h0:0≤L.fst.getD u 0):∃ys,ai me (L.fst.getD u 0)=some ys∧ys.length≤k:=by
 have h1:=h.mem (L.fst.getD u 0) h0
 cases hc:ai me (L.fst.getD u 0) with
 |none=>
  exfalso
  rw[hc] at h1
  simp only[Option.getD] at h1
  have:u∈(List.range k).filter (fun j=>decide (L.fst.getD j 0=L.fst.getD u 0)):=by simp[hu]
  rw[List.map_eq_nil_iff.1 h1.symm] at this
  cases this
 |some l=>
  rw[hc] at h1
  simp only[Option.getD] at h1
  refine⟨l,rfl,?_⟩
  rw[h1,List.length_map]
  exact Nat.le_trans (List.length_filter_le ..) (by simp)
theorem abD (m:List (bf×Int)) (p:ByteArray) (n k:Int):dH (true,[C.d (.v (.string p)),C.d (.v (.int .i64 n))]) (false,[C.d (.v (.int .i64 k))]) ((bM kF vI m).map fC)=(bM kF vI (fV m ⟨p,n⟩ k)).map fC:=G5 (ve:=vI) Gt m ⟨p,n⟩ k
theorem Nk (m:List (ByteArray×Int)) (p:ByteArray) (k:Int):dH (false,[C.d (.v (.string p))]) (false,[C.d (.v (.int .i64 k))]) ((bM Ed vI m).map fC)=(bM Ed vI (fV m p k)).map fC:=G5 (ve:=vI) abv m p k
theorem kY (m:List (ByteArray×Int)) (p:ByteArray):fD [C.d (.v (.string p))] ((bM Ed vI m).map fC)=(ai m p).map fun v=>(false,[C.d (.v (.int .i64 v))]):=nP (ve:=vI) abv m p
theorem ZA (m:List (bf×List iD)) (p:ByteArray) (n:Int):fD [C.d (.v (.string p)),C.d (.v (.int .i64 n))] ((bM kF (fun l:List iD=>(false,[D.ps 6 (l.map bi)])) m).map fC)=(ai m ⟨p,n⟩).map fun l=>(false,[C.d (.ps 6 (l.map bi))]):=
 nP (ve:=fun l:List iD=>(false,[D.ps 6 (l.map bi)])) Gt m ⟨p,n⟩
theorem acT (m:List (bf×List iD)):∀e∈(bM kF (fun l:List iD=>(false,[D.ps 6 (l.map bi)])) m).map fC,e.1.1=true∧cZ [.str, .int .i64] e.1.2:=by
 intro e he
 simp only[bM,List.mem_map] at he
 obtain⟨_,⟨f,_,rfl⟩,rfl⟩:=he
 exact⟨rfl,by simp[fC,jV,cZ]⟩
theorem pK (m:List (ByteArray×Int)):∀e∈(bM Ed vI m).map fC,e.1.1=false∧cZ [.str] e.1.2:=by
 intro e he
 simp only[bM,List.mem_map] at he
 obtain⟨_,⟨f,_,rfl⟩,rfl⟩:=he
 exact⟨rfl,by simp[fC,jV,cZ]⟩
def z24.kk:=p4 (p15 kB kG kS kM Tryz.ntmps24 Tryz.underlying27 Tryz.underlying28 ny pM iK zk qW nI DD zt) (p15 NE uM Eu oC oI jq gU kW Bo EC qU yI yN yE qR) (p15 EQ Tz Ff MJ PN DT UQ Q5 Jp J4 Un acO GV x8 IW) (p13 uz uB vT nT IR IY WP VF kC aa0 WX AX Tryz.results24)
set_option maxRecDepth 100000 in
set_option maxHeartbeats 16000000 in
open z24 in
theorem BI (d:bJ) (hg:Good d.revs) (hn:d.revs.length≤512) (hm:d.recs.length≤512):
 AC Tryz.prog 24 [uY d] [] (fun r st=>(∃L la me,jJ d d.revs.length L me∧vS d d.revs.length la∧r= .tup [(false,[.pp (qK L la me)]),pB true])∧st=[]):=by
 refine dA Tryz.func24 Tryz.ntmps24 fun x hx=>?_
 try refine nv ?_
 refine aj ?_ ?_
 ·intro h
  exfalso
  rw[show decide (512<(d.revs.length:Int))=false by simp;omega,show decide (512<(d.recs.length:Int))=false by simp;omega] at h
  cases h
 intro _
 refine bC ?_
 refine dx ([]) @Int.toNat_natCast ?_ ?_
 ·exact vO
 refine bC ?_
 refine bz (s':=⟨132,[(1, .c (.ptr 1 0)),(5, .c (.ptr 1000 0))],jh (yU d) [] []++[(1, .box [.d (.ps 12 (d.revs.map aI)), .d (.ps 6 (d.recs.map bi))])]⟩) ?_ ?_
 ·(refine bI (fun i=>if i=1000 then 44 else if i=1001 then 29 else if i=1002 then 31 else if i=1003 then 33 else if i=1004 then 35 else if i=1005 then 36 else if i=1006 then 38 else if i=1007 then 40 else if i=1008 then 42 else i) rfl ?_ ⟨?_,?_,?_,keepR hx (by simp[ae,Ab.get])⟩<;>first|(intro i hi;have h0:=hx i hi;constructor<;>(revert h0;simp only[ae,Ab.get];(repeat' split)<;>simp_all);done)|(simp only[kE,aK, ↓reduceIte,Nat.reduceEqDiff,reduceCtorEq];done)|(simp only[aK,jv,jy,List.mem_cons,List.not_mem_nil,or_false,forall_eq_or_imp,forall_eq];simp[dQ,dX,dK,dY,ag,Ab.get,aH,cu,aB,bD,aS,aQ,aU,aP,aT,ae,List.flatten,yU,XL,bP];done)|simp[dQ,dX,dK,dY,ag,Ab.get,aH,cu,aB,bD,aS,aQ,aU,aP,aT,ae,List.flatten,yU,XL,bP])
 try refine nv ?_
 refine nH (xM (id:=49) (sz:=6) rfl (by omega)) ?_
 refine dZ ?_
 refine ax (ι:=Nat×List (bf×(Value×List iD))×List (Value×List (List D))) (I:=fun j=>⟨132,[(1, .c (.ptr 1 0)),(5, .c (.ptr 1000 0)),(6, .c (.mp 1010)),(50, .c (.d (.ps 6 (d.recs.map bi)))),(51,I .i64 d.recs.length),(52,I .i64 j.1)],
  jh (yU d) [] []++[(1, .box [.d (.ps 12 (d.revs.map aI)), .d (.ps 6 (d.recs.map bi))]),(1010, .map ((bM kF vV j.2.1).map fC)),(1011, .pool 6 j.2.2)]⟩)
  (Inv:=fun j=>j.1≤d.recs.length∧SK (d.recs.take j.1) j.2.1 j.2.2) (μ:=fun j=>d.recs.length-j.1) (0,[],[]) ⟨by simp,by constructor<;>simp[iP,wK,ai]⟩ ?_ ?_
 ·exact Af (fun i=>if i=1010 then 48 else if i=1011 then 49 else i)
 rintro⟨j,G,ps⟩ ⟨hj,hG⟩
 simp only at hj hG⊢
 try refine nv ?_
 refine aj ?_ ?_
 ·intro hlt
  have hlt':j<d.recs.length:=by simpa using hlt
  obtain⟨r,hr,he,htk⟩:=round bi d.recs j lZ hlt'
  have hFT:List.filter (fun r'=>decide ((⟨r'.to,r'.num⟩:bf)=⟨r.to,r.num⟩)) [r]=[r]:=by simp
  cases hk:ai G ⟨r.to,r.num⟩ with
  |none=>
   have hk2:ai (wK G) ⟨r.to,r.num⟩=none:=by rw[jk,hk];rfl
   try refine nx @he ?_
   refine qY (id:=1010) (es:=(bM kF vV G).map fC) (ak:=D9 ⟨r.to,r.num⟩) (p:=(true,[C.d (.v (.string r.to)),C.d (.v (.int .i64 r.num))])) (by simp) Q5 DT IW rfl rfl rfl rfl rfl (by simp[cZ]) (acC G) ?_
   intro β
   simp only[abX,hk,Option.map_none,Option.getD]
   refine dZ ?_
   try refine nv ?_
   refine oz rfl rfl rfl rfl rfl (sK _ _ _) ?_
   rw[Ab.oP]
   refine dZ ?_
   refine bC ?_
   refine G7 _ (qI Gt bi (mid:=1010) (pid:=1011) (pid':=2002) (aid:=67) (G:=G) (k:=⟨r.to,r.num⟩) (ys:=[r]) (ps:=ps) rfl rfl rfl rfl (by simp) rfl) ?_
   intro v
   refine dZ ?_
   try refine nv ?_
   refine⟨(j+1,fV G ⟨r.to,r.num⟩ (v,[r]),(v,[r].map bi)::ps),⟨by simp;omega,?_⟩,by simp;omega,?_⟩
   ·simp only[htk];exact hG.step r v [r] (by rw[hk2];rfl) (Gw bi hk hG.perm)
   ·exact Af (fun i=>if i=1011 then 2002 else i)
  |some g=>
   obtain⟨v0,ys⟩:=g
   have hk2:ai (wK G) ⟨r.to,r.num⟩=some ys:=by rw[jk,hk];rfl
   have hyl:ys.length≤512:=by
    have h1:=hG.look ⟨r.to,r.num⟩
    rw[hk2] at h1
    have h2:=List.length_filter_le (fun r':iD=>decide ((⟨r'.to,r'.num⟩:bf)=⟨r.to,r.num⟩)) (d.recs.take j)
    rw[←h1] at h2
    simp at h2;omega
   have hkk:jE [C.d (.v (.string r.to)),C.d (.v (.int .i64 r.num))] [C.d (.v (.string r.to)),C.d (.v (.int .i64 r.num))]=true:=by simp[jE,Dy]
   have hfi:=wB (true,[C.d (.v (.string r.to)),C.d (.v (.int .i64 r.num))]) (false,[.ms 2003 6 0 ys.length]) ((bM kF vV G).map fC) hkk
   have hii:=fun w=>EK (true,[C.d (.v (.string r.to)),C.d (.v (.int .i64 r.num))]) (false,[.ms 2003 6 0 ys.length]) w ((bM kF vV G).map fC) hkk
   simp only at hfi hii
   try refine nx @he ?_
   refine Ew Gt bi (mid:=1010) (pid:=1011) (pid':=2001) (aid:=2003) rfl rfl hG.perm hk rfl rfl (by decide) ?_
   intro ps' hpe
   refine dZ ?_
   refine qY (id:=1010) (es:=dH (true,[C.d (.v (.string r.to)),C.d (.v (.int .i64 r.num))]) (false,[.ms 2003 6 0 ys.length]) ((bM kF vV G).map fC)) (ak:=D9 ⟨r.to,r.num⟩) (p:=(true,[C.d (.v (.string r.to)),C.d (.v (.int .i64 r.num))])) (by simp) Q5 DT IW rfl rfl rfl rfl rfl (by simp[cZ]) (TM _ _ _ _ (acC G)) ?_
   intro β
   simp only[hfi,Option.getD]
   refine dZ ?_
   try refine nv ?_
   refine oz rfl rfl rfl rfl rfl (sK _ _ _) ?_
   rw[Ab.oP]
   refine dZ ?_
   simp only[hii]
   refine bC ?_
   refine G7 _ (qI Gt bi (mid:=1010) (pid:=2001) (pid':=2002) (aid:=67) (G:=G) (k:=⟨r.to,r.num⟩) (ys:=ys++[r]) (ps:=ps') rfl rfl (by simp[Ab.get]) (by simp) (by simp) rfl) ?_
   intro v
   refine dZ ?_
   try refine nv ?_
   refine⟨(j+1,fV G ⟨r.to,r.num⟩ (v,ys++[r]),(v,(ys++[r]).map bi)::ps'),⟨by simp;omega,?_⟩,by simp;omega,?_⟩
   ·simp only[htk];exact hG.step r v (ys++[r]) (by rw[hk2];rfl) (BL bi hk hG.perm hpe)
   ·exact Af (fun i=>if i=1011 then 2002 else i)
 intro hge
 have hge':j=d.recs.length:=by have:¬j<d.recs.length:=by simpa using hge
                               omega
 rw[hge',List.take_length] at hG
 obtain⟨ff1,ff2⟩:=Ho (ke:=kF) bi 6 G
 rw[ff1]
 refine bC ?_
 refine bz (vU (i:=6) (mid:=1010) (pid:=1011) (sz:=6) rfl rfl rfl (MI bi hG.perm)) ?_
 rw[ff2]
 refine dZ ?_
 obtain⟨M,hM⟩:∃M,M=wK G:=⟨_,rfl⟩
 have hMl:∀f,(ai M f).getD []=jK d f:=by rw[hM];exact hG.look
 rw[←hM]
 clear ff1 ff2 hM hG
 try refine nv ?_
 refine nH (xM (id:=1009) (sz:=1) rfl (by omega)) ?_
 refine dZ ?_
 refine ax (ι:=Nat×iE×List (ByteArray×Int)×List (Int×(Value×List Int))×List (Value×List (List D)))
  (I:=fun j=>⟨132,[(5, .c (.ptr 1000 0)),(6, .c (.d (.pm (bM kF (fun l=>(false,[.ps 6 (l.map bi)])) M)))),(71,wW d.revs),(72,I .i64 d.revs.length),(73,I .i64 j.1)],
    jh j.2.1 (bM Ed vI j.2.2.1) (bM kN vV j.2.2.2.1)++[(1009, .pool 1 j.2.2.2.2)]⟩)
  (Inv:=fun j=>j.1≤d.revs.length∧jJ d j.1 j.2.1 (wK j.2.2.2.1)∧vS d j.1 j.2.2.1∧j.2.2.2.2.Perm (iP eI j.2.2.2.1)) (μ:=fun j=>d.revs.length-j.1)
  (0,yU d,[],[],[]) ⟨by simp,by simpa[wK] using jJ.zero,vS.zero d,by simp[iP]⟩ ?_ ?_
 ·exact cO
 rintro⟨k,L,la,G2,ps2⟩ ⟨hk,hrun,hla,hpm⟩
 simp only at hk hrun hla hpm⊢
 have hI:=hrun.inv hg
 have hL:xK L:=⟨by rw[hI.revs];exact hn,by rw[hI.lp,hI.revs],by rw[hI.lf,hI.revs],by rw[hI.lc,hI.revs],by rw[hI.lo,hI.revs],by rw[hI.lr,hI.revs],fun p i h=>by
  obtain⟨j,v,rfl,h1,h2,h3⟩:=(hI.ix p i).1 h
  rw[hI.revs];omega⟩
 try refine nv ?_
 refine aj ?_ ?_
 ·intro hlt
  have hlt':k<d.revs.length:=by simpa using hlt
  obtain⟨v,hv,he,htk⟩:=round aI d.revs k af hlt'
  have hv':L.revs[k]? =some v:=by rw[hI.revs];exact hv
  have hnum:=hg.num k v hv
  try refine nx @he ?_
  refine mZ [] (by simp) (by simp only[iH,kk,Nat.reduceAdd,Nat.reduceLT,Nat.reduceEqDiff, ↓reduceIte,reduceCtorEq];first|done|rfl) ⟨by simp,by simp,by simp[aH,cu,aB,aG,bG]⟩ (uu v) ?_
  rintro r st' ⟨rfl,rfl⟩
  refine⟨by simp[lW],?_⟩
  simp only[kP,Nat.reduceEqDiff, ↓reduceIte,reduceCtorEq]
  refine gg ?_
  refine CZ ?_
  refine wI ?_
  refine abu ?_
  by_cases h5:v.act=5
  ·refine bC ?_
   refine dw (wr:=false) 1 (by simp only[kk,Nat.reduceAdd,Nat.reduceLT,Nat.reduceEqDiff, ↓reduceIte,reduceCtorEq];first|done|rfl) (by exact trivial) ?_
   refine tX (jh L (bM Ed vI la) (bM kN vV G2)) (Wj L hL (bM Ed vI la) (bM kN vV G2) k v hv' h5 (by omega)) ?_
   rintro rv9 st' rfl<;>refine uo ?_
   try refine nx @h5 ?_
   refine aj ?_ ?_
   ·intro h;cases h
   intro _
   have hrun2:jJ d (k+1) (Ag (aV L k v) (fileOf v) k) (wK G2):= .away hrun hv h5
   have hrv1:(aV L k v).revs=d.revs:=hI.revs
   generalize aV L k v=L1 at hrun2 hrv1⊢
   have hpp:=hpm
   generalize G2=GG at hrun2 hpp⊢
   generalize ps2=pp2 at hpp⊢
   refine bC ?_
   refine dx ([]) @abD ?_ ?_
   ·exact iw @xU
   refine bC ?_
   have hl1:0<L1.revs.length:=by rw[hrv1];omega
   have hl1':(0:Int)<(L1.revs.length:Int):=by omega
   cases hla2:ai la v.path with
   |none=>
    have er0:=bg aI L1.revs 0 af hl1
    generalize L1.revs.getD 0 af=w0 at er0
    refine BO (wr:=false) ([]:List (Nat×AV)) (by simp only[kD,kk,Nat.reduceAdd,Nat.reduceLT,Nat.reduceEqDiff, ↓reduceIte,reduceCtorEq,kY,hla2,Option.map_none,Option.isSome];first|done|rfl) ?_ ?_
    ·exact iw @pK
    refine bC ?_
    refine dx ([]) (p2 @er0 @Int.toNat_zero) ?_ ?_
    ·exact vO
    refine bC ?_
    refine aj ?_ ?_
    rotate_left
    ·intro h;cases h
    ·intro _
     refine bC ?_
     refine dx ([]) @Nk ?_ ?_
     ·exact iw @pK
     try refine nv ?_
     refine⟨(k+1,Ag L1 (fileOf v) k,fV la v.path k,GG,pp2),⟨hlt',hrun2,hla.step hv,hpp⟩,by simp;omega,?_⟩
     (refine bI (fun i=>i) rfl ?_ ⟨?_,?_,?_,di hx (by simp[ae,Ab.get])⟩<;>first|(simp only[kE,aK, ↓reduceIte,Nat.reduceEqDiff,reduceCtorEq,bP,Ag];done)|simp[aW,aA,ag,Ab.get,aH,cu,aB,bD,aS,aQ,aU,aP,aT,ae,List.flatten,bP,Ag])
   |some z=>
    obtain⟨z1,z2⟩:=hla.bd hla2
    have hzn:=hla.num hg hv hla2
    rw[←hrv1] at hzn
    have z3:z<(L1.revs.length:Int):=by rw[hrv1];exact z2
    have erz:=bg aI L1.revs z.toNat af (by omega)
    generalize L1.revs.getD z.toNat af=w0 at erz hzn
    refine BO (wr:=false) ([]:List (Nat×AV)) (by simp only[kD,kk,Nat.reduceAdd,Nat.reduceLT,Nat.reduceEqDiff, ↓reduceIte,reduceCtorEq,kY,hla2,Option.isSome];first|done|rfl) ?_ ?_
    ·exact iw @pK
    refine bC ?_
    refine dx ([]) @erz ?_ ?_
    ·exact vO
    refine bC ?_
    refine aj ?_ ?_
    ·intro _
     refine bC ?_
     refine dx ([]) @Nk ?_ ?_
     ·exact iw @pK
     try refine nv ?_
     refine⟨(k+1,Ag L1 (fileOf v) k,fV la v.path k,GG,pp2),⟨hlt',hrun2,hla.step hv,hpp⟩,by simp;omega,?_⟩
     (refine bI (fun i=>i) rfl ?_ ⟨?_,?_,?_,di hx (by simp[ae,Ab.get])⟩<;>first|(simp only[kE,aK, ↓reduceIte,Nat.reduceEqDiff,reduceCtorEq,bP,Ag];done)|simp[aW,aA,ag,Ab.get,aH,cu,aB,bD,aS,aQ,aU,aP,aT,ae,List.flatten,bP,Ag])
    ·intro h
     have:¬w0.num<v.num:=by simpa using h
     exact absurd hzn this
  have hF:∀e∈(bM kN vV G2).map fC,e.1.1=false∧cZ [.int .i64] e.1.2:=by
   intro e he
   simp only[bM,List.mem_map] at he
   obtain⟨_,⟨f,_,rfl⟩,rfl⟩:=he
   exact⟨rfl,by simp[fC,jV,cZ]⟩
  refine vM (ι:=List (Int×(Value×List Int))×List (Value×List (List D)))
   (fun j=>⟨132,[(5, .c (.ptr 1000 0)),(6, .c (.d (.pm (bM kF (fun l=>(false,[.ps 6 (l.map bi)])) M)))),(10,I .i64 k),(11, .c (.ptr 11 0)),(12, .c (.ptr 12 0)),(71,wW d.revs),(72,I .i64 d.revs.length),(73,I .i64 k)],
     jh (aV L k v) (bM Ed vI la) (bM kN vV j.1)++[(1009, .pool 1 j.2),(11, .box ((aI v).map C.d)),(12, .box ((dW (fileOf v)).map C.d))]⟩)
   (fun j=>wK j.1=Ky (wK G2) (gK L k v) k∧j.2.Perm (iP eI j.1)) ?_ ?_
  ·rcases hI.look hg hv h5 with⟨h1,h2,h3⟩|⟨h1,u,w,a1,a2,a3,a4,a5,a6,a7,a8,a9⟩
   ·have hln:gK L k v=k:=by simp only[gK,h3]
    have hGk:ai G2 (k:Int)=none:=by
     have:=hI.ac3
     rw[jk] at this
     cases hc:ai G2 (k:Int) with
     |none=>rfl
     |some g=>rw[hc] at this;cases this
    have hfe:fD [C.d (.v (.int .i64 k))] ((bM kN vV G2).map fC)=none:=by
     have:=nP (ve:=vV) F8 G2 (k:Int)
     rw[hGk] at this;exact this
    refine bC ?_
    refine dw (wr:=false) 1 (by simp only[kk,Nat.reduceAdd,Nat.reduceLT,Nat.reduceEqDiff, ↓reduceIte,reduceCtorEq];first|done|rfl) (by exact trivial) ?_
    refine tX (jh L (bM Ed vI la) (bM kN vV G2)) (Wy L hL (bM Ed vI la) (bM kN vV G2) k v hv' h5 (by omega) h2 hF hfe) ?_
    rintro rv9 st' rfl<;>refine uo ?_
    refine G7 _ (qI F8 eI (mid:=1005) (pid:=1009) (pid':=2002) (aid:=115) (G:=G2) (k:=(k:Int)) (ys:=[(k:Int)]) (ps:=ps2) rfl rfl rfl rfl (by simp) rfl) ?_
    intro vv
    refine dZ ?_
    refine CZ ?_
    refine⟨rfl,(fV G2 (k:Int) (vv,[(k:Int)]),(vv,[(k:Int)].map eI)::ps2),⟨?_,Gw eI hGk hpm⟩,?_⟩
    ·rw[qM,hln,Ky,jk,hGk];rfl
    ·generalize aV L k v=L1
     exact Af (fun i=>if i=1009 then 2002 else i)
   ·obtain⟨ys,hys,hyl⟩:=hI.Zu a1 a8
    have hln:gK L k v=L.fst.getD u 0:=by simp only[gK,a7,Int.toNat_natCast]
    generalize hln':L.fst.getD u 0=ln at hys hln a8 a9
    have hG:∃v0,ai G2 ln=some (v0,ys):=by
     rw[jk] at hys
     cases hc:ai G2 ln with
     |none=>rw[hc] at hys;cases hys
     |some g=>rw[hc] at hys;obtain⟨v0,y⟩:=g;simp at hys;exact⟨v0,by rw[hys]⟩
    obtain⟨v0,hGk⟩:=hG
    refine bC ?_
    refine Ew F8 eI (mid:=1005) (pid:=1009) (pid':=2001) (aid:=2003) rfl rfl hpm hGk rfl rfl (by decide) ?_
    intro ps' hpe
    refine dZ ?_
    rw[show jV (kN ln)=(false,[C.d (.v (.int .i64 ln))]) from rfl]
    generalize hem:bM kN vV G2=em2 at hF⊢
    refine dw (wr:=false) 1 (by simp only[kk,Nat.reduceAdd,Nat.reduceLT,Nat.reduceEqDiff, ↓reduceIte,reduceCtorEq];first|done|rfl) (by exact trivial) ?_
    refine mZ (rY L (bM Ed vI la) (dH (false,[C.d (.v (.int .i64 ln))]) (false,[.ms 2003 1 0 ys.length]) (em2.map fC))++[(2003,aK 1 (ys.map eI))]) (by simp) (by simp only[kV, ↓reduceIte,Nat.reduceEqDiff,reduceCtorEq];first|done|rfl) ⟨by simp[Ab.get,dJ,dI],by simp[bD,aS,aQ,aU,aP,aT,ag,aB,cu,ae,Ab.get,dJ,dI],by simp[aH,cu,aB,ae,Ab.get,dJ,dI]⟩ (Vl L hL (bM Ed vI la) em2 k v hv' h5 (by omega) u ln a6 (by omega) (by rw[Int.toNat_natCast];exact hln') a8 hF ys (by omega)) ?_
    rintro rv9 st' rfl<;>(refine⟨by simp[lW,ae,Ab.get],?_⟩;simp only[kP,Nat.reduceEqDiff, ↓reduceIte,reduceCtorEq,List.cons_append,List.nil_append])
    subst hem
    refine G7 _ (qI F8 eI (mid:=1005) (pid:=2001) (pid':=2002) (aid:=115) (G:=G2) (k:=ln) (ys:=ys++[(k:Int)]) (ps:=ps') rfl rfl rfl (by simp) (by simp) rfl) ?_
    intro vv
    refine dZ ?_
    refine CZ ?_
    refine⟨rfl,(fV G2 ln (vv,ys++[(k:Int)]),(vv,(ys++[(k:Int)]).map eI)::ps'),⟨?_,BL eI hGk hpm hpe⟩,?_⟩
    ·rw[qM,hln,Ky,jk,hGk];rfl
    ·generalize aV L k v=L1
     exact Af (fun i=>if i=1009 then 2002 else i)
  rintro⟨G3,ps3⟩ ⟨hG3,hp3⟩
  simp only at hG3 hp3⊢
  try refine nv ?_
  refine aj ?_ ?_
  rotate_left
  ·intro h;exact absurd (by simpa using h) h5
  intro _
  have hL1:xK (aV L k v):=⟨hL.n,by simp[aV,hL.prev],by simp[aV,hL.fst],hL.car,hL.con,hL.cre,hL.ix⟩
  have hp1:(aV L k v).prev.getD k 0<(aV L k v).revs.length:=by
   show(L.prev.set k _).getD k 0<(L.revs.length:Int)
   rw[iO _ _ _ _ _ (by rw[hI.lp];exact hlt'),if_neg h5,if_pos rfl,hI.revs]
   rcases hI.look hg hv h5 with⟨h1,h2,h3⟩|⟨h1,u,w,a1,a2,a3,a4,a5,a6,a7,a8,a9⟩
   ·simp only[lC,h3];omega
   ·simp only[lC,a7];omega
  have hrl:(jK d (fileOf v)).length≤512:=Nat.le_trans (List.length_filter_le ..) hm
  refine vM (ι:=iE)
   (fun L1=>⟨132,[(5, .c (.ptr 1000 0)),(6, .c (.d (.pm (bM kF (fun l=>(false,[.ps 6 (l.map bi)])) M)))),(10,I .i64 k),(11, .c (.ptr 11 0)),(12, .c (.ptr 12 0)),(71,wW d.revs),(72,I .i64 d.revs.length),(73,I .i64 k)],
     jh L1 (bM Ed vI la) (bM kN vV G3)++[(1009, .pool 1 ps3),(11, .box ((aI v).map C.d)),(12, .box ((dW (fileOf v)).map C.d))]⟩)
   (fun L1=>∃c m cr,Yq (aV L k v) k (jK d (fileOf v)) c m cr∧L1=zX (aV L k v) k c m cr) ?_ ?_
  ·have hMv:=hMl (fileOf v)
   refine bC ?_
   cases hkM:ai M (fileOf v) with
   |none=>
    rw[hkM] at hMv
    simp only[Option.getD] at hMv
    have hkM':ai M ⟨(fileOf v).path,(fileOf v).num⟩=none:=hkM
    refine dw (wr:=false) 4 (by simp only[kk,Nat.reduceAdd,Nat.reduceLT,Nat.reduceEqDiff, ↓reduceIte,reduceCtorEq,ZA,hkM',Option.map_none,Option.getD];first|done|rfl) ?_ ?_
    ·exact iw (acT M)
    refine bz (ik (i:=90) 6 rfl) ?_
    refine dZ ?_
    generalize hem:bM kN vV G3=em3
    refine tX (jh (aV L k v) (bM Ed vI la) em3) (Ie (aV L k v) hL1 (bM Ed vI la) em3 k (by show k<L.revs.length;rw[hI.revs];exact hlt') hp1 [] (by simp)) ?_
    rintro rv9 st' ⟨c,m,cr,hA,rfl⟩<;>refine uo ?_
    subst hem
    refine CZ ?_
    refine⟨rfl,zX (aV L k v) k c m cr,⟨c,m,cr,by rw[←hMv];exact hA,rfl⟩,?_⟩
    generalize zX (aV L k v) k c m cr=L1
    exact cO
   |some rs=>
    rw[hkM] at hMv
    simp only[Option.getD] at hMv
    have hkM':ai M ⟨(fileOf v).path,(fileOf v).num⟩=some rs:=hkM
    refine dw (wr:=false) 4 (by simp only[kk,Nat.reduceAdd,Nat.reduceLT,Nat.reduceEqDiff, ↓reduceIte,reduceCtorEq,ZA,hkM',Option.map_some,Option.getD];first|done|rfl) ?_ ?_
    ·exact iw (acT M)
    generalize hem:bM kN vV G3=em3
    refine tX (jh (aV L k v) (bM Ed vI la) em3) (Ie (aV L k v) hL1 (bM Ed vI la) em3 k (by show k<L.revs.length;rw[hI.revs];exact hlt') hp1 rs (by rw[hMv];exact hrl)) ?_
    rintro rv9 st' ⟨c,m,cr,hA,rfl⟩<;>refine uo ?_
    subst hem
    refine CZ ?_
    refine⟨rfl,zX (aV L k v) k c m cr,⟨c,m,cr,by rw[←hMv];exact hA,rfl⟩,?_⟩
    generalize zX (aV L k v) k c m cr=L1
    exact cO
  rintro L1 ⟨c,m,cr,hA,hS1⟩
  have hrun2:jJ d (k+1) (Ag L1 (fileOf v) k) (wK G3):=by rw[hS1,hG3];exact .Xt hrun hv h5 hA
  have hrv1:L1.revs=d.revs:=by rw[hS1];exact hI.revs
  clear hA hS1
  have hpp:=hp3
  generalize G3=GG at hrun2 hpp⊢
  generalize ps3=pp2 at hpp⊢
  refine bC ?_
  refine dx ([]) @abD ?_ ?_
  ·exact iw @xU
  refine bC ?_
  have hl1:0<L1.revs.length:=by rw[hrv1];omega
  have hl1':(0:Int)<(L1.revs.length:Int):=by omega
  cases hla2:ai la v.path with
  |none=>
   have er0:=bg aI L1.revs 0 af hl1
   generalize L1.revs.getD 0 af=w0 at er0
   refine BO (wr:=false) ([]:List (Nat×AV)) (by simp only[kD,kk,Nat.reduceAdd,Nat.reduceLT,Nat.reduceEqDiff, ↓reduceIte,reduceCtorEq,kY,hla2,Option.map_none,Option.isSome];first|done|rfl) ?_ ?_
   ·exact iw @pK
   refine bC ?_
   refine dx ([]) (p2 @er0 @Int.toNat_zero) ?_ ?_
   ·exact vO
   refine bC ?_
   refine aj ?_ ?_
   rotate_left
   ·intro h;cases h
   ·intro _
    refine bC ?_
    refine dx ([]) @Nk ?_ ?_
    ·exact iw @pK
    try refine nv ?_
    refine⟨(k+1,Ag L1 (fileOf v) k,fV la v.path k,GG,pp2),⟨hlt',hrun2,hla.step hv,hpp⟩,by simp;omega,?_⟩
    (refine bI (fun i=>i) rfl ?_ ⟨?_,?_,?_,di hx (by simp[ae,Ab.get])⟩<;>first|(simp only[kE,aK, ↓reduceIte,Nat.reduceEqDiff,reduceCtorEq,bP,Ag];done)|simp[aW,aA,ag,Ab.get,aH,cu,aB,bD,aS,aQ,aU,aP,aT,ae,List.flatten,bP,Ag])
  |some z=>
   obtain⟨z1,z2⟩:=hla.bd hla2
   have hzn:=hla.num hg hv hla2
   rw[←hrv1] at hzn
   have z3:z<(L1.revs.length:Int):=by rw[hrv1];exact z2
   have erz:=bg aI L1.revs z.toNat af (by omega)
   generalize L1.revs.getD z.toNat af=w0 at erz hzn
   refine BO (wr:=false) ([]:List (Nat×AV)) (by simp only[kD,kk,Nat.reduceAdd,Nat.reduceLT,Nat.reduceEqDiff, ↓reduceIte,reduceCtorEq,kY,hla2,Option.isSome];first|done|rfl) ?_ ?_
   ·exact iw @pK
   refine bC ?_
   refine dx ([]) @erz ?_ ?_
   ·exact vO
   refine bC ?_
   refine aj ?_ ?_
   ·intro _
    refine bC ?_
    refine dx ([]) @Nk ?_ ?_
    ·exact iw @pK
    try refine nv ?_
    refine⟨(k+1,Ag L1 (fileOf v) k,fV la v.path k,GG,pp2),⟨hlt',hrun2,hla.step hv,hpp⟩,by simp;omega,?_⟩
    (refine bI (fun i=>i) rfl ?_ ⟨?_,?_,?_,di hx (by simp[ae,Ab.get])⟩<;>first|(simp only[kE,aK, ↓reduceIte,Nat.reduceEqDiff,reduceCtorEq,bP,Ag];done)|simp[aW,aA,ag,Ab.get,aH,cu,aB,bD,aS,aQ,aU,aP,aT,ae,List.flatten,bP,Ag])
   ·intro h
    have:¬w0.num<v.num:=by simpa using h
    exact absurd hzn this
 intro hge
 have hge':k=d.revs.length:=by have:¬k<d.revs.length:=by simpa using hge
                               omega
 rw[hge'] at hrun hla
 have n1:=hL.prev
 have n2:=hL.fst
 have n3:=hL.car
 have n4:=hL.con
 have n5:=hL.cre
 obtain⟨ff1,ff2⟩:=Ho (ke:=kN) eI 1 G2
 rw[ff1]
 refine bC ?_
 refine bz (xg (bid:=1000) (id:=1001) (j:=1) (es:=bM kF vI L.index) (by decide) rfl rfl rfl) ?_
 refine dZ ?_
 refine bz (xg (bid:=1000) (id:=1002) (j:=2) (es:=bM Ed vI la) (by decide) rfl rfl rfl) ?_
 refine dZ ?_
 refine bz (gY (bid:=1000) (id:=1003) (j:=3) (ys:=L.prev.map eI) (by decide) rfl rfl rfl (by simp[n1])) ?_
 refine dZ ?_
 refine bz (gY (bid:=1000) (id:=1004) (j:=4) (ys:=L.fst.map eI) (by decide) rfl rfl rfl (by simp[n2])) ?_
 refine dZ ?_
 refine bz (Ea (bid:=1000) (mid:=1005) (pid:=1009) (j:=5) (sz:=1) rfl rfl rfl rfl (MI eI hpm)) ?_
 rw[ff2]
 refine dZ ?_
 refine bz (gY (bid:=1000) (id:=1006) (j:=6) (ys:=L.car.map iW) (by decide) rfl rfl rfl (by simp[n3])) ?_
 refine dZ ?_
 refine bz (gY (bid:=1000) (id:=1007) (j:=7) (ys:=L.con.map iW) (by decide) rfl rfl rfl (by simp[n4])) ?_
 refine dZ ?_
 refine bz (gY (bid:=1000) (id:=1008) (j:=8) (ys:=L.cre.map iW) (by decide) rfl rfl rfl (by simp[n5])) ?_
 refine dZ ?_
 refine bz (qp (i:=5) (id:=1000) (cs:=qK L la (wK G2)) rfl rfl) ?_
 refine dZ ?_
 try refine nv ?_
 refine rA [] ?_
 refine⟨?_,rfl⟩
 exact⟨L,la,wK G2,hrun,hla,rfl⟩
end Go.Proofs.YtcpgicfphakdaaaGreatDoor
