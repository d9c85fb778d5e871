/- A part of the proof. -/
import Derived.Test.YtcpgicfphakdaaaGreatDoorRU7
set_option maxRecDepth 100000
set_option maxHeartbeats 16000000
set_option linter.all false
namespace Go.Proofs.YtcpgicfphakdaaaGreatDoor
open Go.Ab Tys
variable [Dr]
theorem abx {dom:Nat→Bool}:∀{caps:List Cap} {c:Cap},aV dom caps→c∈caps→aJ dom (.c c.toC)
 |a::l,c,h,hc=>by
  rcases afr.1 hc with rfl|hc
  ·cases c<;>simpa[aV,bT,Cap.toC,aJ,cZ] using h.1
  ·exact abx h.2 hc
def z95.kk:=p2 (p9 kB kG WL Tryz.ntmps95 Tryz.underlying27 iH dM jQ kW) (p8 jg fK qU mG ny iq jB Tryz.results95)
open z95 in
theorem GI (d:aW) (hd:d.revs.length≤1000000) (p:akK) (f:Nat) (caps:List Cap) (q:Rev→Bool) (hcl:∀dom,aV dom caps)
 (hq:∀r:Rev,AC Tryz.prog f (BL r::caps.map fun c=> .c c.toC) [] (fun x st=>x=B (q r)∧st=[])):
 AC Tryz.prog 95 [lT d,Str p, .c (.fn f caps)] [] (fun r st=>r= .tup [CY ((grt (fun r=>decide (r.path=p)&&q r) d.revs).getD ag),pB (grt (fun r=>decide (r.path=p)&&q r) d.revs).isSome]∧st=[]):=by
 refine df Tryz.func95 Tryz.ntmps95 fun x hx=>?_
 try refine nv ?_
 refine au (ι:=Nat×Option Rev) (I:=fun i=>⟨43,[(1,Str p),(2, .c (.fn f caps)),(6, .c (.ptr 6 0)),(8, .c (.ptr 8 0)),(9,B i.2.isSome),(13,qI d.revs),(14,I .i64 d.revs.length),(15,I .i64 i.1)],
  [(6, .box ((aA ag).map C.d)),(8, .box ((aA (i.2.getD ag)).map C.d))]⟩)
  (Inv:=fun i=>i.1≤d.revs.length∧i.2=grt (fun r=>decide (r.path=p)&&q r) (d.revs.take i.1)) (μ:=fun i=>d.revs.length-i.1) (0,none) ⟨by simp,rfl⟩ ?_ ?_
 ·(refine bi (fun i=>i) rfl ?_ ⟨?_,?_,?_,bW hx (by simp[ae,Ab.get])⟩<;>first|(simp only[kE,ay, ↓reduceIte,Nat.reduceEqDiff,reduceCtorEq,ag,hcl];done)|simp[aH,ax,ah,Ab.get,aJ,cZ,aB,bF,aS,aO,aQ,aT,aP,ae,List.flatten,ag,hcl])
 rintro⟨k,acc⟩ ⟨hk,ha⟩
 simp only at hk ha⊢
 try refine nv ?_
 refine aj ?_ ?_
 ·intro hlt
  have hlt':k<d.revs.length:=by simpa using hlt
  obtain⟨v,hv,he,htk⟩:=round aA d.revs k ag hlt'
  have hst:grt (fun r=>decide (r.path=p)&&q r) (d.revs.take (k+1))=qY (fun r=>decide (r.path=p)&&q r) acc v:=by rw[htk,ha];simp[grt,aj9]
  have hqv:=hq v
  have hcl2:∀a∈caps.map (fun c=>AV.c c.toC),aJ (fun _=>false) a:=by
   intro a ha2
   obtain⟨c,hc,rfl⟩:=agh.1 ha2
   exact abx (hcl _) hc
  refine aZ ?_
  refine gx @he ?_
  try refine nv ?_
  refine Sz (wr:=false) ([(26,B (q v))]:List (Nat×AV)) rfl (by simp only[kD,kk,Nat.reduceAdd,Nat.reduceLT,Nat.reduceEqDiff, ↓reduceIte,reduceCtorEq];first|done|rfl) ?_ ?_
  ·simp only[All,List.cons_append,List.nil_append,dB,afr,agW,ajr,forall_eq_or_imp,forall_eq,aJ,aB,cZ,aV,bT,ahu,ajG,implies_true,ae1,List.length_cons,List.length_nil,ay,jT,cu]
   repeat' (first|exact trivial|exact hqv|exact hcl2 _ (by assumption)|refine And.intro ?_ ?_|intro _|assumption|rfl|omega|(simp;done)|(simp_all;done))
  simp only[kP,Nat.reduceEqDiff, ↓reduceIte,reduceCtorEq]
  try refine nv ?_
  refine aj ?_ ?_
  ·intro h
   try refine nv ?_
   refine⟨(k+1,some v),⟨by simp;omega,?_⟩,by simp;omega,?_⟩
   ·rw[hst]
    clear ha hst
    simp only[qY]
    rw[if_pos]
    cases acc<;>simp_all
   ·(refine bi (fun i=>i) rfl ?_ ⟨?_,?_,?_,bW hx (by simp[ae,Ab.get])⟩<;>first|(simp only[kE,ay, ↓reduceIte,Nat.reduceEqDiff,reduceCtorEq,ag,hcl];done)|simp[aH,ax,ah,Ab.get,aJ,cZ,aB,bF,aS,aO,aQ,aT,aP,ae,List.flatten,ag,hcl])
  ·intro h
   try refine nv ?_
   refine⟨(k+1,acc),⟨by simp;omega,?_⟩,by simp;omega,?_⟩
   ·rw[hst]
    clear ha hst
    simp only[qY]
    rw[if_neg]
    cases acc<;>simp_all
   ·(refine bi (fun i=>i) rfl ?_ ⟨?_,?_,?_,bW hx (by simp[ae,Ab.get])⟩<;>first|(simp only[kE,ay, ↓reduceIte,Nat.reduceEqDiff,reduceCtorEq,ag,hcl];done)|simp[aH,ax,ah,Ab.get,aJ,cZ,aB,bF,aS,aO,aQ,aT,aP,ae,List.flatten,ag,hcl])
 ·intro hge
  have hge':k=d.revs.length:=by have:¬k<d.revs.length:=by simpa using hge
                                omega
  subst hge'
  rw[afu] at ha
  rw[←ha]
  try refine nv ?_
  refine rA [] ?_
  refine⟨?_,rfl⟩
  rfl
def z109.kk:=p5 kB Tryz.ntmps109 dM iq Tryz.results109
open z109 in
theorem adE (r:Rev):AC Tryz.prog 109 [BL r] [] (fun x st=>x=B true∧st=[]):=by
 refine df Tryz.func109 Tryz.ntmps109 fun x hx=>?_
 try refine nv ?_
 refine rA [] ?_
 refine⟨?_,rfl⟩
 rfl
def z96.kk:=p7 kB Tryz.ntmps96 dM fK mG iq Tryz.results96
open z96 in
theorem ae0 (r:Rev) (n:Int):AC Tryz.prog 96 [BL r, .c (.pp [.v (.int .i64 n)])] [] (fun x st=>x=B (decide (r.num=n))∧st=[]):=by
 refine df Tryz.func96 Tryz.ntmps96 fun x hx=>?_
 try refine nv ?_
 refine rA [] ?_
 refine⟨?_,rfl⟩
 rfl
def z49.kk:=p7 kB Tryz.ntmps49 iH dM ny iq Tryz.results49
open z49 in
theorem Eo (d:aW) (hg:Good d.revs) (hd:d.revs.length≤1000000) (p:akK):AC Tryz.prog 49 [lT d,Str p] [] (fun r st=>r= .tup [CY ((aU d p).getD ag),pB (aU d p).isSome]∧st=[]):=by
 have hG0:=GI d hd p 109 [] (fun _=>true) (fun _=>trivial) (fun r=>adE r)
 simp only[akt] at hG0
 rw[abA hg p] at hG0
 have hG:AC Tryz.prog 95 [lT d,Str p, .c (.d (.v (.func (.func 109) #[] #[])))] [] (fun r st=>r= .tup [CY ((aU d p).getD ag),pB (aU d p).isSome]∧st=[]):=by
  refine aef hG0 ?_
  intro k us h
  cases h with
  |cons h1 h=>
  cases h with
  |cons h2 h=>
  cases h with
  |cons h3 h=>
  cases h
  refine .cons h1 (.cons h2 (.cons ?_ .nil))
  rw[nC h3]
  exact⟨[],rfl, .nil⟩
 refine df Tryz.func49 Tryz.ntmps49 fun x hx=>?_
 (repeat (first|refine nv ?_|refine cf (hG) ?_))
 refine rA [] ?_
 refine⟨?_,rfl⟩
 rfl
def z40.kk:=p9 kB WL Tryz.ntmps40 iH dM mG ny iq Tryz.results40
open z40 in
theorem QH (d:aW) (hd:d.revs.length≤1000000) (p:akK) (n:Int):AC Tryz.prog 40 [lT d,Str p,I .i64 n] [] (fun r st=>r= .tup [CY ((iE d p n).getD ag),pB (iE d p n).isSome]∧st=[]):=by
 have hG:=GI d hd p 96 [Cap.pp [.v (.int .i64 n)]] (fun r=>decide (r.num=n)) (fun _=>by simp[aV,bT]) (fun r=>ae0 r n)
 rw[aep d p n] at hG
 refine df Tryz.func40 Tryz.ntmps40 fun x hx=>?_
 refine aZ ?_
 refine gg ?_
 refine aZ ?_
 refine bC (tV (i:=5) (id:=5) (cs:=[.v (.int .i64 n)]) rfl rfl) ?_
 refine fE ?_
 (repeat (first|refine nv ?_|refine cf (hG) ?_))
 refine rA [] ?_
 refine⟨?_,rfl⟩
 rfl
def z13.kk:=p2 (p12 kB kG kS Tryz.ntmps13 Tryz.underlying27 iH oG dM jQ kW kQ kT) (p12 jg fK iF Bj AP qU mG ny xK iq jB Tryz.results13)
open z13 in
theorem abW (d:aW) (hd:d.revs.length≤1000000) (f:bJ):AC Tryz.prog 13 [lT d,BO f] [] (fun r st=>r=qI (lZ d f)∧st=[]):=by
 have hG:=QH d hd f.path f.num
 cases hgt:iE d f.path f.num with
 |none=>
  rw[hgt] at hG
  simp only[CY,pB,Option.isSome,Option.getD] at hG
  have hl:lZ d f=[]:=by simp[lZ,hgt]
  rw[hl]
  refine df Tryz.func13 Tryz.ntmps13 fun x hx=>?_
  (repeat (first|refine nv ?_|refine cf (hG) ?_))
  refine aj ?_ ?_
  rotate_left
  ·intro h;cases h
  intro _
  refine aZ ?_
  refine gg ?_
  refine bC (jf (i:=4) 12 rfl) ?_
  refine fE ?_
  try refine nv ?_
  refine rA [] ?_
  refine⟨?_,rfl⟩
  rfl
 |some v0=>
  rw[hgt] at hG
  simp only[CY,pB,Option.isSome,Option.getD] at hG
  refine df Tryz.func13 Tryz.ntmps13 fun x hx=>?_
  (repeat (first|refine nv ?_|refine cf (hG) ?_))
  refine aj ?_ ?_
  ·intro h
   have h1:¬v0.act=1:=by simpa using h
   have hl:lZ d f=[]:=by simp[lZ,hgt,h1]
   rw[hl]
   refine aZ ?_
   refine gg ?_
   refine bC (jf (i:=4) 12 rfl) ?_
   refine fE ?_
   try refine nv ?_
   refine rA [] ?_
   refine⟨?_,rfl⟩
   rfl
  intro h
  have h1:v0.act=1:=by simpa using h
  have hl:lZ d f=d.revs.foldl jW [v0]:=by simp[lZ,hgt,h1]
  rw[hl]
  try refine nv ?_
  refine au (ι:=Nat×List Rev) (I:=fun i=>⟨88,[(7, .c (.ms 100 12 0 i.2.length)),(30,qI d.revs),(31,I .i64 d.revs.length),(32,I .i64 i.1)],[(100,ay 12 (i.2.map aA))]⟩)
   (Inv:=fun i=>i.1≤d.revs.length∧i.2=(d.revs.take i.1).foldl jW [v0]∧1≤i.2.length∧i.2.length≤i.1+1) (μ:=fun i=>d.revs.length-i.1) (0,[v0]) ⟨by simp,by simp,by simp,by simp⟩ ?_ ?_
  ·exact uZ (fun i=>if i=100 then 28 else i)
  rintro⟨k,acc⟩ ⟨hk,ha,hp1,hp2⟩
  simp only at hk ha hp1 hp2⊢
  try refine nv ?_
  refine aj ?_ ?_
  ·intro hlt
   have hlt':k<d.revs.length:=by simpa using hlt
   obtain⟨v,hv,he,htk⟩:=round aA d.revs k ag hlt'
   have hst:(d.revs.take (k+1)).foldl jW [v0]=jW acc v:=by rw[htk,aj9,←ha];rfl
   have hb:(acc.getLast?).getD ag=acc.getD (acc.length-1) ag:=by rw[List.getLast?_eq_getElem?,adI]
   have ek:=uG aA acc (acc.length-1) ag (by omega)
   have hi:((acc.length:Int)-1).toNat=acc.length-1:=by omega
   generalize hbb:acc.getD (acc.length-1) ag=b at ek
   rw[hbb] at hb
   have hst2:(d.revs.take (k+1)).foldl jW [v0]=if rO b v then acc++[v] else acc:=by rw[hst,jW,hb]
   refine aZ ?_
   refine gx @he ?_
   try refine nv ?_
   refine aj ?_ ?_
   ·intro h2
    have h2':(decide (v.act=5)||decide (v.act=1))=true:=by rw[←h2];cases decide (v.act=5)<;>rfl
    have hn:rO b v=false:=by
     simp only[rO]
     rw[h2'];rfl
    try refine nv ?_
    refine⟨(k+1,acc),⟨by simp;omega,by rw[hst2,hn];rfl,hp1,by simp;omega⟩,by simp;omega,?_⟩
    exact bQ
   intro h2
   have h2':(decide (v.act=5)||decide (v.act=1))=false:=by rw[←h2];cases decide (v.act=5)<;>rfl
   try refine nx (p3 @ek @hi @ajR) ?_
   refine aj ?_ ?_
   ·intro h4
    have h4':v.act=4:=by simpa using h4
    try refine nv ?_
    refine aj ?_ ?_
    ·intro h5
     have hn:rO b v=true:=by
      simp only[rO,if_pos h4']
      rw[h2',aj6,ajq,←h5]
      cases decide (v.frm=b.path)<;>rfl
     try refine nv ?_
     refine⟨(k+1,acc++[v]),⟨by simp;omega,by rw[hst2,hn];rfl,by simp,by simp;omega⟩,by simp;omega,?_⟩
     exact uZ (fun i=>if i=100 then 68 else i)
    intro h5
    have hn:rO b v=false:=by
     simp only[rO,if_pos h4']
     rw[h2',aj6,ajq,←h5]
     cases decide (v.frm=b.path)<;>rfl
    try refine nv ?_
    refine⟨(k+1,acc),⟨by simp;omega,by rw[hst2,hn];rfl,hp1,by simp;omega⟩,by simp;omega,?_⟩
    exact bQ
   intro h4
   have h4':¬v.act=4:=by simpa using h4
   refine aZ ?_
   refine dD (wr:=true) 400 (by simp only[kk,Nat.reduceAdd,Nat.reduceLT,Nat.reduceEqDiff, ↓reduceIte,reduceCtorEq];first|done|rfl) (by first|exact trivial|(simp only[kO];omega)|(simp[All,dB];first|done|omega)|(simp+contextual [All,dB];first|done|grind)) ?_
   try refine nv ?_
   refine aj ?_ ?_
   ·intro h5
    have hn:rO b v=true:=by
     simp only[rO,if_neg h4',wr]
     rw[h2',aj6,ajq,←h5]
     cases decide (v.path=b.path)<;>rfl
    try refine nv ?_
    refine⟨(k+1,acc++[v]),⟨by simp;omega,by rw[hst2,hn];rfl,by simp,by simp;omega⟩,by simp;omega,?_⟩
    exact uZ (fun i=>if i=100 then 85 else i)
   intro h5
   have hn:rO b v=false:=by
    simp only[rO,if_neg h4',wr]
    rw[h2',aj6,ajq,←h5]
    cases decide (v.path=b.path)<;>rfl
   try refine nv ?_
   refine⟨(k+1,acc),⟨by simp;omega,by rw[hst2,hn];rfl,hp1,by simp;omega⟩,by simp;omega,?_⟩
   exact bQ
  intro hge
  have hge':k=d.revs.length:=by have:¬k<d.revs.length:=by simpa using hge
                                omega
  subst hge'
  rw[afu] at ha
  rw[←ha]
  refine aZ ?_
  refine bC (aY (i:=7) (id:=100) (ys:=acc.map aA) rfl rfl (by simp)) ?_
  refine fE ?_
  try refine nv ?_
  refine rA [] ?_
  refine⟨?_,rfl⟩
  rfl
def ai3.kk:=p13 kB kG Tryz.ntmps101 iH wM sH sK xO mG ny FB jB Tryz.results101
open ai3 in
theorem Tf (d:aW) (hg:Good d.revs) (hd:d.revs.length≤1000000) (t:jo) (hm:t.move.size≤100000):AC Tryz.prog 101 [lT d,Z8 t] [] (fun r st=>r=B (zO d t)∧st=[]):=by
 have hP:=NR t.move hm
 have hL:=Eo d hg hd t.move
 have hV:=Ri ((aU d t.move).getD ag) (aU d t.move).isSome
 rw[←XQ] at hV
 generalize (aU d t.move).getD ag=lv at hL hV
 generalize (aU d t.move).isSome=lb at hL hV
 refine df Tryz.func101 Tryz.ntmps101 fun x hx=>?_
 try refine nv ?_
 refine aj ?_ ?_
 ·intro h
  have h':t.move=noS:=by simpa using h
  try refine nv ?_
  refine rA [] ?_
  refine⟨?_,rfl⟩
  simp[zO,h']
 intro h
 have h':¬t.move=noS:=by simpa using h
 try refine nv ?_
 refine so ([(14,B (eX t.move))]) ?_ ?_
 ·exact eQ @hP
 try refine nv ?_
 refine so ([(27, .tup [CY lv,pB lb])]) ?_ ?_
 ·exact eQ @hL
 try refine nv ?_
 refine so ([(30,B (live d t.move))]) ?_ ?_
 ·exact eQ @hV
 try refine nv ?_
 refine rA [] ?_
 refine⟨?_,rfl⟩
 simp only[zO,h',akd,aks]
 cases decide (t.kind=1)<;>cases eX t.move<;>cases decide (t.move=t.to)<;>cases live d t.move<;>rfl
@[reducible] def agT:List C:=[.d (.v (.slice none 0 0)), .d (.v (.slice none 0 0)), .d (.v (.int .i64 0)), .d (.v (.string ByteArray.empty)), .d (.v (.int .i64 0)), .d (.v (.string ByteArray.empty)), .d (.v (.int .i64 0)), .d (.v (.int .i64 0)), .d (.v (.string ByteArray.empty)), .d (.v (.int .i64 0)), .d (.v (.string ByteArray.empty)), .d (.v (.int .i64 0)), .d (.v (.string ByteArray.empty)),
 .d (.v (.string ByteArray.empty)), .d (.v (.int .i64 0)), .d (.v (.int .i64 0)), .d (.v (.int .i64 0)), .d (.v (.int .i64 0)), .d (.v (.bool false)), .d (.v (.bool false)), .d (.v (.bool false)), .d (.v (.int .u64 0)), .d (.v (.int .i64 0)), .d (.v (.string ByteArray.empty)), .d (.v (.int .i64 0)),
 .d (.v (.string ByteArray.empty)), .d (.v (.int .i64 0)), .d (.v (.int .i64 0)), .d (.v (.int .i64 0)), .d (.v (.int .i64 0)), .d (.v (.bool false)), .d (.v (.bool false)), .d (.v (.bool false)), .d (.v (.int .u64 0)), .d (.v (.int .i64 0)), .d (.v (.string ByteArray.empty)), .d (.v (.int .i64 0))]
def z44.kk:=p3 (p13 kB kG kS kM Tryz.ntmps44 Tryz.underlying27 zB iH oG wM dM jQ Rn) (p13 Ua SY EM kQ kT Ez Bq BB Bh sK Es jg fK) (p13 yV age GH ahA qU mG ny xK FB IP iq jB Tryz.results44)
open z44 in
theorem Xd (d:aW) (hg:Good d.revs) (hN:d.revs.length≤512) (hn:rM d) (t:jo) (ht:t.to.size≤100000) (hm:t.move.size≤100000):
 AC Tryz.prog 44 [lT d,Z8 t] [] (fun r st=>((r= .tup [(true,agT),pB false]∧mf d t=false)∨r= .tup [(true,(Dn d t (fH d t) (dK d t)).map C.d),pB (mf d t)])∧st=[]):=by
 have hP:=NR t.to (by omega)
 have hLn:=abW d (by omega) ⟨t.lpath,t.lnum⟩
 have hlen:(lZ d t.line).length≤600:=aff hN t.line
 rw[show(⟨t.lpath,t.lnum⟩:bJ)=t.line from rfl] at hLn
 refine df Tryz.func44 Tryz.ntmps44 fun x hx=>?_
 try refine nv ?_
 refine so ([(27,B (eX t.to))]) ?_ ?_
 ·exact eQ @hP
 try refine nv ?_
 refine aj ?_ ?_
 ·intro h
  have hf:mf d t=false:=by
   rw[JV]
   intro hf
   have:=hf.lo;have:=hf.le;have:=hf.use
   simp[this,show ¬t.first<1 by omega,show ¬t.last<t.first by omega] at h
  try refine nv ?_
  refine rA [] ?_
  refine⟨?_,rfl⟩
  exact .inl ⟨rfl,hf⟩
 intro h
 obtain⟨c1,c2,hu⟩:1≤t.first∧t.first≤t.last∧eX t.to=true:=by
  by_cases c1:t.first<1
  ·simp[c1] at h
  by_cases c2:t.last<t.first
  ·simp[c1,c2] at h
  exact⟨by omega,by omega,by simpa[c1,c2] using h⟩
 (repeat (first|refine nv ?_|refine cf (hLn) ?_))
 generalize hLL:lZ d t.line=L at hlen
 refine au (ι:=Nat×List bJ) (I:=fun i=>⟨113,[(2, .c (.ptr 2 0)),(3, .c (.ptr 3 0)),(4, .c (.ptr 4 0)),(6, .c (.mp 200)),(35,qI L),(36,I .i64 L.length),(37,I .i64 i.1)],
  [(2, .box ((iY d).map C.d)),(3, .box ((ik t).map C.d)),(4, .box agT),(200,Wq kF i.2)]⟩)
  (Inv:=fun i=>i.1≤L.length∧∀f,f∈i.2↔f∈(L.take i.1).map fileOf) (μ:=fun i=>L.length-i.1) (0,[]) ⟨by simp,by simp⟩ ?_ ?_
 ·exact uZ (fun i=>if i=200 then 31 else i)
 rintro⟨k,s⟩ ⟨hk,hs⟩
 simp only at hk hs⊢
 try refine nv ?_
 refine aj ?_ ?_
 ·intro hlt
  have hlt':k<L.length:=by simpa using hlt
  obtain⟨v,hv,he,htk⟩:=round aA L k ag hlt'
  refine aZ ?_
  refine gx @he ?_
  try refine nv ?_
  refine gy @ahi ?_ ?_
  ·exact eQ (agf s)
  try refine nv ?_
  refine⟨(k+1,qO s ⟨v.path,v.num⟩),⟨by simp;omega,?_⟩,by simp;omega,?_⟩
  ·intro f
   rw[wW,hs,htk]
   simp[fileOf]
  ·exact bQ
 intro hge
 have hge':k=L.length:=by have:¬k<L.length:=by simpa using hge
                          omega
 subst hge'
 rw[afu] at hs
 rw[←hLL] at hs
 try refine nv ?_
 refine au (ι:=Int) (I:=fun n=>⟨113,[(2, .c (.ptr 2 0)),(3, .c (.ptr 3 0)),(4, .c (.ptr 4 0)),(6, .c (.mp 200)),(9,I .i64 n)],
  [(2, .box ((iY d).map C.d)),(3, .box ((ik t).map C.d)),(4, .box agT),(200,Wq kF s)]⟩)
  (Inv:=fun n=>t.first≤n∧n≤t.last∧∀m,t.first≤m→m<n→yf d t.frm m=some t.line) (μ:=fun n=>(t.last-n).toNat) t.first ⟨by omega,by omega,by intro m h1 h2;omega⟩ ?_ ?_
 ·exact bQ
 rintro n ⟨n1,n2,n3⟩
 have hmem:decide ((⟨t.frm,n⟩:bJ)∈s)=decide (yf d t.frm n=some t.line):=by
  rw[ajx,aeB,aeB,hs,Lm hg hN]
 refine aZ ?_
 refine gy @adk ?_ ?_
 ·exact eQ (agf s)
 try refine nv ?_
 refine aj ?_ ?_
 ·intro h2
  have hi:¬yf d t.frm n=some t.line:=by
   rw[hmem] at h2;simpa using h2
  have hf:mf d t=false:=JV fun hf=>hi (hf.run n n1 n2)
  try refine nv ?_
  refine rA [] ?_
  refine⟨?_,rfl⟩
  exact .inl ⟨rfl,hf⟩
 intro h2
 have hi:yf d t.frm n=some t.line:=by
  rw[hmem] at h2;simpa using h2
 have hnum:=P6 hg hn hi
 try refine nv ?_
 refine aj ?_ ?_
 rotate_left
 ·intro h3
  have h3':¬n=t.last:=by simpa using h3
  try refine nv ?_
  refine⟨n+1,⟨by omega,by omega,?_⟩,by omega,?_⟩
  ·intro m m1 m2
   by_cases e:m=n
   ·subst e;exact hi
   ·exact n3 m m1 (by omega)
  ·exact bQ
 intro h3
 have h3':n=t.last:=by simpa using h3
 have hrun:OE d t:=fun m m1 m2=>by
  by_cases e:m=n
  ·subst e;exact hi
  ·exact n3 m m1 (by omega)
 have hG:=QH d (by omega) t.frm t.last
 have hGs:(iE d t.frm t.last).isSome=true:=by
  subst h3'
  unfold yf kY at hi
  cases hq:iE d t.frm t.last with
  |none=>rw[hq] at hi;cases hi
  |some v=>rfl
 rw[hGs,show(iE d t.frm t.last).getD ag=fH d t from rfl] at hG
 have hL:=Eo d hg (by omega) t.to
 rw[show(aU d t.to).getD ag=dK d t from rfl] at hL
 have hV:=Ri (dK d t) (aU d t.to).isSome
 rw[show((aU d t.to).isSome&&!gone (dK d t))=live d t.to from(XQ d t.to).symm] at hV
 generalize hlb:(aU d t.to).isSome=lb at hL hV
 have hlast:bf d t.to=(dK d t).num:=rfl
 (repeat (first|refine nv ?_|refine cf (hG) ?_))
 refine aj ?_ ?_
 ·intro h;cases h
 intro _
 (repeat (first|refine nv ?_|refine cf (hL) ?_))
 refine aj ?_ ?_
 ·intro h4
  have h4':¬t.head=(dK d t).num:=by simpa using h4
  have hf:mf d t=false:=JV fun hf=>h4' (by rw[←hlast,hf.head])
  try refine nv ?_
  refine rA [] ?_
  refine⟨?_,rfl⟩
  exact .inl ⟨rfl,hf⟩
 intro h4
 have h4':t.head=(dK d t).num:=by simpa using h4
 have hh:bf d t.to=t.head:=by rw[hlast,h4']
 refine aZ ?_
 refine gy @adk ?_ ?_
 ·exact eQ (agf s)
 obtain⟨on,hon⟩:∃on,on=decide ((⟨(dK d t).path,(dK d t).num⟩:bJ)∈s):=⟨_,rfl⟩
 have hfit:=adN c1 c2 hu hrun hh
 rw[←aap (on:=on) fun hl=>by rw[hon];exact aeH hg hN hs hh hl] at hfit
 rw[←hon]
 have hK:=Ul t (fH d t) (live d t.to) on
 have hM:=Tf d hg (by omega) t (by omega)
 refine aZ ?_
 refine dr ([(105,B (live d t.to)),(107,B (mD t.kind (fH d t) (live d t.to) on)),(111,B (zO d t))]) ?_ ?_
 ·exact ob3 @hV @hK @hM
 try refine nv ?_
 refine rA [] ?_
 refine⟨?_,rfl⟩
 rw[hfit]
 right
 cases mD t.kind (fH d t) (live d t.to) on<;>rfl
end Go.Proofs.YtcpgicfphakdaaaGreatDoor
