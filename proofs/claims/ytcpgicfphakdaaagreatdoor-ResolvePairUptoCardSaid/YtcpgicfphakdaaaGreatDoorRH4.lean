/- A part of the proof. -/
import Derived.Test.YtcpgicfphakdaaaGreatDoorRR1
import Derived.Test.YtcpgicfphakdaaaGreatDoorRH1
set_option linter.all false
namespace Go.Proofs.YtcpgicfphakdaaaGreatDoor
open Go.Ab Tys
variable [Dr]
def ain.kk:=p3 (p12 kB kG kS Tryz.ntmps121 Tryz.underlying4 Tryz.underlying9 iH qM wY dM pY mJ) (p12 vT UJ TR Qo nH lQ nR nM sN vC yE uP) (p11 EU mG ny Au Gh iq BP y7 wo jB Tryz.results121)
set_option maxRecDepth 100000 in
set_option maxHeartbeats 8000000 in
open ain in
theorem ad1 (d:aW) (c:iZ) (i:Nat) (hi:i<c.edits.length) (hd:d.revs.length≤1000000) (hc:∀e∈c.edits,eOK e) (hl:c.edits.length≤1000000):
 AC Tryz.prog 121 [lT d,Px c,I .i64 i] [] (fun r st=>(∃e:Int,r=I .i64 e∧(e=0→wK d c i (c.edits.getD i bZ)))∧st=[]):=by
 have ei:(c.edits.map bK).getD i []=bK (c.edits.getD i bZ):=bH bK c.edits i bZ hi
 have ei2:(c.edits.map bK).getD (i-1) []=bK (c.edits.getD (i-1) bZ):=bH bK c.edits (i-1) bZ (by omega)
 have hm:eOK (c.edits.getD i bZ):=hc _ (by rw[adI,adH hi];simp)
 have hm2:eOK (c.edits.getD (i-1) bZ):=hc _ (by rw[adI,adH (by omega:i-1<c.edits.length)];simp)
 have h1:((i:Int)-1).toNat=i-1:=by omega
 have h0:(fun n:Nat=>n) i=i:=rfl
 generalize hp:c.edits.getD (i-1) bZ=p at ei2 hm2
 generalize he:c.edits.getD i bZ=e at ei hm
 unfold eOK at hm hm2
 have hpc:=Qp e.path (by omega)
 cases ep:aG e.path with
 |none=>
  rw[ep] at hpc
  simp only[jJ,pB,Option.isSome] at hpc
  refine df Tryz.func121 Tryz.ntmps121 fun x hx=>?_
  (repeat (first|refine nx @ei ?_|refine cf (hpc) ?_))
  refine aj ?_ ?_
  ·intro _
   try refine nv ?_
   refine rA [] ?_
   refine⟨?_,rfl⟩
   exact⟨_,rfl,fun h=>absurd h (by decide)⟩
  ·intro h;simp at h
 |some l=>
  rw[ep] at hpc
  simp only[jJ,pB,Option.isSome] at hpc
  refine df Tryz.func121 Tryz.ntmps121 fun x hx=>?_
  (repeat (first|refine nx @ei ?_|refine cf (hpc) ?_))
  refine aj ?_ ?_
  ·intro _
   try refine nv ?_
   refine rA [] ?_
   refine⟨?_,rfl⟩
   exact⟨_,rfl,fun h=>absurd h (by decide)⟩
  intro _
  refine aZ ?_
  refine dx ([(47,I .i64 (ord p.path e.path))]) (p2 @h1 @ei2) ?_ ?_
  ·simp only[All,List.cons_append,List.nil_append,dB,afr,agW,ajr,forall_eq_or_imp,forall_eq,aJ,aB,cZ,aV,bT,ahu,ajG,implies_true,ae1,List.length_cons,List.length_nil,ay,jT,cu]
   repeat' (first|exact trivial|exact Wl _ _ hm2 hm|refine And.intro ?_ ?_|intro _|assumption|rfl|omega|(rw[afU];assumption)|(simp;done)|(simp only[aeB] at*;omega)|(simp_all;done))
  refine aZ ?_
  refine aj ?_ ?_
  ·intro _
   try refine nv ?_
   refine rA [] ?_
   refine⟨?_,rfl⟩
   exact⟨_,rfl,fun h=>absurd h (by decide)⟩
  intro ho
  have ho':0<i→ord p.path e.path<0:=by
   intro hi0
   rw[show decide ((0:Int)<(i:Int))=true by simp;omega] at ho
   simpa using ho
  (repeat (first|refine nv ?_|refine cf (XD d e.path hd) ?_))
  refine aj ?_ ?_
  ·intro _
   try refine nv ?_
   refine rA [] ?_
   refine⟨?_,rfl⟩
   exact⟨_,rfl,fun h=>absurd h (by decide)⟩
  intro ha
  try refine nv ?_
  refine aj ?_ ?_
  ·intro _
   try refine nv ?_
   refine rA [] ?_
   refine⟨?_,rfl⟩
   exact⟨_,rfl,fun h=>absurd h (by decide)⟩
  intro hb
  have hb':e.prev=bf d e.path:=by simpa using hb
  try refine nv ?_
  refine aj ?_ ?_
  ·intro h4
   have h4':e.act=4:=by simpa using h4
   (repeat (first|refine nv ?_|refine cf (XD d e.frm hd) ?_))
   refine aj ?_ ?_
   ·intro _
    try refine nv ?_
    refine rA [] ?_
    refine⟨?_,rfl⟩
    exact⟨_,rfl,fun h=>absurd h (by decide)⟩
   intro hf
   have hok:(gQ e.base e.kw e.xe=false∧0≤e.size)→(e.act=3∨e.act=5→e.sum=0∧e.size=0)→wK d c i e:=by
    intro hty hgo
    refine⟨by rw[ep];rfl,by rw[hp];exact ho',?_,?_,?_,hb',fun _=>?_,hgo,hty⟩
    ·simp at ha;omega
    ·simp at ha;omega
    ·simp[h4'] at ha⊢;exact ha
    ·simp at hf;exact⟨hf.1.1,hf.1.2,hf.2⟩
   (repeat (first|refine nv ?_|refine cf (Xm _ _ _ _) ?_))
   refine aj ?_ ?_
   ·intro _
    try refine nv ?_
    refine rA [] ?_
    refine⟨?_,rfl⟩
    exact⟨_,rfl,fun h=>absurd h (by decide)⟩
   intro hty
   have hty':gQ e.base e.kw e.xe=false∧0≤e.size:=by
    cases ht:gQ e.base e.kw e.xe<;>simp[ht] at hty⊢
    omega
   (repeat (first|refine nv ?_|refine cf (Qn d e.path hd) ?_|refine cf (Iw c e) ?_|refine cf (PG _) ?_))
   refine aj ?_ ?_
   ·intro _
    try refine nv ?_
    refine rA [] ?_
    refine⟨?_,rfl⟩
    exact⟨_,rfl,fun h=>absurd h (by decide)⟩
   intro hg
   try refine nv ?_
   refine rA [] ?_
   refine⟨?_,rfl⟩
   refine⟨0,rfl,fun _=>he▸hok hty' ?_⟩
   intro ha
   have hgo:gone (made c e)=true:=by rcases ha with h9|h9<;>simp[gone,made,h9]
   rw[hgo] at hg
   simp at hg
   exact hg.2
  ·intro h4
   have h4':¬e.act=4:=by simpa using h4
   try refine nv ?_
   refine aj ?_ ?_
   ·intro _
    try refine nv ?_
    refine rA [] ?_
    refine⟨?_,rfl⟩
    exact⟨_,rfl,fun h=>absurd h (by decide)⟩
   intro hf
   have hok:(gQ e.base e.kw e.xe=false∧0≤e.size)→(e.act=3∨e.act=5→e.sum=0∧e.size=0)→wK d c i e:=by
    intro hty hgo
    refine⟨by rw[ep];rfl,by rw[hp];exact ho',?_,?_,?_,hb',fun h=>absurd h h4',hgo,hty⟩
    ·simp at ha;omega
    ·simp at ha;omega
    ·simp[h4'] at ha⊢;cases hl2:live d e.path<;>simp[hl2] at ha⊢ <;>exact ha.2
   (repeat (first|refine nv ?_|refine cf (Xm _ _ _ _) ?_))
   refine aj ?_ ?_
   ·intro _
    try refine nv ?_
    refine rA [] ?_
    refine⟨?_,rfl⟩
    exact⟨_,rfl,fun h=>absurd h (by decide)⟩
   intro hty
   have hty':gQ e.base e.kw e.xe=false∧0≤e.size:=by
    cases ht:gQ e.base e.kw e.xe<;>simp[ht] at hty⊢
    omega
   (repeat (first|refine nv ?_|refine cf (Qn d e.path hd) ?_|refine cf (Iw c e) ?_|refine cf (PG _) ?_))
   refine aj ?_ ?_
   ·intro _
    try refine nv ?_
    refine rA [] ?_
    refine⟨?_,rfl⟩
    exact⟨_,rfl,fun h=>absurd h (by decide)⟩
   intro hg
   try refine nv ?_
   refine rA [] ?_
   refine⟨?_,rfl⟩
   refine⟨0,rfl,fun _=>he▸hok hty' ?_⟩
   intro ha
   have hgo:gone (made c e)=true:=by rcases ha with h9|h9<;>simp[gone,made,h9]
   rw[hgo] at hg
   simp at hg
   exact hg.2
def aiX.kk:=p4 (p13 kB kG Tryz.ntmps123 Tryz.underlying27 Tryz.underlying28 Tryz.underlying4 Tryz.underlying60 iH oG qM wY dM pY) (p13 lq mJ jQ pW vT ach UJ TR iF nH xP lQ qx) (p13 uY BC D9 rQ xY BA nR nM sN vC yE wu mG) (p11 ny xK Au Gh iq BP y7 sD wo jB Tryz.results123)
set_option maxRecDepth 100000 in
set_option maxHeartbeats 16000000 in
open aiX in
theorem Zn (d:aW) (c:iZ) (i:Nat) (hi:i<c.recs.length) (hd:d.revs.length≤1000000) (hc:∀r∈c.recs,IM r) (hl:c.edits.length≤1000000) (hl2:c.recs.length≤1000000):
 AC Tryz.prog 123 [lT d,Px c,I .i64 i] [] (fun r st=>(∃b:Bool,r=B b∧(b=true→Hq d c (c.recs.getD i dS)))∧st=[]):=by
 have ei:(c.recs.map af).getD i []=af (c.recs.getD i dS):=bH af c.recs i dS hi
 have ei2:(c.recs.map af).getD (i-1) []=af (c.recs.getD (i-1) dS):=bH af c.recs (i-1) dS (by omega)
 have hm:IM (c.recs.getD i dS):=hc _ (by rw[adI,adH hi];simp)
 have hm2:IM (c.recs.getD (i-1) dS):=hc _ (by rw[adI,adH (by omega:i-1<c.recs.length)];simp)
 have h1:((i:Int)-1).toNat=i-1:=by omega
 generalize c.recs.getD (i-1) dS=p at ei2 hm2
 generalize c.recs.getD i dS=r at ei hm
 have hL:(log d r.frm).length≤d.revs.length:=ajy ..
 refine df Tryz.func123 Tryz.ntmps123 fun x hx=>?_
 try refine nx @ei ?_
 refine dx ([(40,B (before p r))]) (p2 @h1 @ei2) ?_ ?_
 ·simp only[All,List.cons_append,List.nil_append,dB,afr,agW,ajr,forall_eq_or_imp,forall_eq,aJ,aB,cZ,aV,bT,ahu,ajG,implies_true,ae1,List.length_cons,List.length_nil,ay,jT,cu]
  repeat' (first|exact trivial|exact NY _ _ hm2 hm|refine And.intro ?_ ?_|intro _|assumption|rfl|omega|(rw[afU];assumption)|(simp;done)|(simp only[aeB] at*;omega)|(simp_all;done))
 refine aZ ?_
 refine aj ?_ ?_
 ·intro _
  try refine nv ?_
  refine rA [] ?_
  refine⟨?_,rfl⟩
  exact⟨_,rfl,fun h=>by cases h⟩
 intro hh
 have hhow:1≤r.how∧r.how≤4:=by simp at hh;omega
 try refine nv ?_
 refine au (ι:=Nat×ou) (I:=fun k=>⟨243,[(3, .c (.ptr 3 0)),(4, .c (.ptr 4 0)),(7, .c (.ptr 7 0)),(8, .c (.ptr 8 0)),(9,B true),(54, .c (.d (.ps 12 (c.edits.map bK)))),(55,I .i64 c.edits.length),(56,I .i64 k.1)],
  [(3, .box ((iY d).map C.d)),(4, .box ((gm c).map C.d)),(7, .box ((af r).map C.d)),(8, .box ((bK k.2).map C.d))]⟩)
  (Inv:=fun k=>k.1≤c.edits.length∧(k.2.act=0∨(k.2∈c.edits∧agU r k.2))) (μ:=fun k=>c.edits.length-k.1) (0,bZ) ⟨by simp, .inl rfl⟩ ?_ ?_
 ·(refine bi (fun i=>i) rfl ?_ ⟨?_,?_,?_,bW hx (by simp[ae,Ab.get])⟩<;>first|(simp only[kE,ay, ↓reduceIte,Nat.reduceEqDiff,reduceCtorEq,bZ];done)|simp[aH,ax,ah,Ab.get,aJ,cZ,aB,bF,aS,aO,aQ,aT,aP,ae,List.flatten,bZ])
 rintro⟨k,t⟩ ⟨hk,ht⟩
 simp only at hk ht⊢
 try refine nv ?_
 refine aj ?_ ?_
 ·intro hlt
  have hlt':k<c.edits.length:=by simpa using hlt
  obtain⟨y,hy,he,htk⟩:=round bK c.edits k bZ hlt'
  refine aZ ?_
  refine gx @he ?_
  refine aZ ?_
  refine dD (wr:=true) 400 (by simp only[kk,Nat.reduceAdd,Nat.reduceLT,Nat.reduceEqDiff, ↓reduceIte,reduceCtorEq];first|done|rfl) (by first|exact trivial|(simp only[kO];omega)|(simp[All,dB];first|done|omega)|(simp+contextual [All,dB];first|done|grind)) ?_
  refine aZ ?_
  refine aj ?_ ?_
  ·intro h
   have h':agU r y:=by simp at h;exact⟨h.1.1,h.1.2,h.2⟩
   try refine nv ?_
   refine⟨(k+1,y),⟨by simp;omega, .inr ⟨aem hy,h'⟩⟩,by simp;omega,?_⟩
   exact bQ
  ·intro h
   try refine nv ?_
   refine⟨(k+1,t),⟨by simp;omega,ht⟩,by simp;omega,?_⟩
   exact bQ
 intro _
 try refine nv ?_
 refine au (ι:=Nat×Bool) (I:=fun k=>⟨243,[(3, .c (.ptr 3 0)),(4, .c (.ptr 4 0)),(7, .c (.ptr 7 0)),(8, .c (.ptr 8 0)),(9,B k.2),(81, .c (.d (.ps 6 (c.recs.map af)))),(82,I .i64 c.recs.length),(83,I .i64 k.1)],
  [(3, .box ((iY d).map C.d)),(4, .box ((gm c).map C.d)),(7, .box ((af r).map C.d)),(8, .box ((bK t).map C.d))]⟩)
  (Inv:=fun k=>k.1≤c.recs.length) (μ:=fun k=>c.recs.length-k.1) (0,true) (by simp) ?_ ?_
 ·exact bQ
 rintro⟨k,g⟩ hk
 simp only at hk⊢
 try refine nv ?_
 refine aj ?_ ?_
 ·intro hlt
  have hlt':k<c.recs.length:=by simpa using hlt
  obtain⟨y,hy,he,htk⟩:=round af c.recs k dS hlt'
  try refine nx @he ?_
  refine⟨(k+1,bif g then bif bif !decide (y.to=r.to) then true else !decide (y.num=r.num) then true else decide (y.how=3) else false),by simp;omega,by simp;omega,?_⟩
  exact bQ
 intro _
 refine aZ ?_
 refine dr ([(129,qI (log d r.frm))]) ?_ ?_
 ·exact eQ (Vr d r.frm hd)
 refine aZ ?_
 refine aj ?_ ?_
 ·intro _
  try refine nv ?_
  refine rA [] ?_
  refine⟨?_,rfl⟩
  exact⟨_,rfl,fun h=>by cases h⟩
 intro hb
 have hb':¬t.act=0∧1≤r.first∧r.first≤r.last∧r.last≤(log d r.frm).length:=by simp at hb;omega
 obtain⟨b0,b1,b2,b3⟩:=hb'
 rcases ht with ht|⟨ht,ht2⟩
 ·exact absurd ht b0
 (repeat (first|refine nv ?_|refine cf (zW d r.frm r.last hd) ?_|refine cf (Jf d _ hd) ?_))
 refine au (ι:=Int) (I:=fun n=>⟨243,[(3, .c (.ptr 3 0)),(4, .c (.ptr 4 0)),(7, .c (.ptr 7 0)),(8, .c (.ptr 8 0)),(9,B g),(14, .c (.ptr 14 0)),(16, .c (.ptr 16 0)),(17,I .i64 n)],
  [(3, .box ((iY d).map C.d)),(4, .box ((gm c).map C.d)),(7, .box ((af r).map C.d)),(8, .box ((bK t).map C.d)),(14, .box ((aA (oD d r.frm r.last)).map C.d)),(16, .box ((iR (first d (oD d r.frm r.last))).map C.d))]⟩)
  (Inv:=fun n=>r.first≤n∧n≤r.last+1∧∀m,r.first≤m→m<n→¬(oD d r.frm m).act=5∧first d (oD d r.frm m)=first d (oD d r.frm r.last)) (μ:=fun n=>(r.last+1-n).toNat) r.first ⟨by omega,by omega,by omega⟩ ?_ ?_
 ·exact bQ
 rintro n ⟨n1,n2,n3⟩
 try refine nv ?_
 refine aj ?_ ?_
 ·intro hlt
  have hlt':n≤r.last:=by simpa using hlt
  (repeat (first|refine nv ?_|refine cf (zW d r.frm n hd) ?_))
  refine dr ([(167,BO (first d (oD d r.frm n)))]) ?_ ?_
  ·simp only[All,List.cons_append,List.nil_append,dB,afr,agW,ajr,forall_eq_or_imp,forall_eq,aJ,aB,cZ,aV,bT,ahu,ajG,implies_true,ae1,List.length_cons,List.length_nil,ay,jT,cu]
   repeat' (first|exact trivial|exact Jf d _ hd|refine And.intro ?_ ?_|intro _|assumption|rfl|omega|(rw[afU];assumption)|(simp;done)|(simp only[aeB] at*;omega)|(simp_all;done))
  refine aZ ?_
  refine aj ?_ ?_
  ·intro _
   try refine nv ?_
   refine rA [] ?_
   refine⟨?_,rfl⟩
   exact⟨_,rfl,fun h=>by cases h⟩
  intro hn
  have hn':¬(oD d r.frm n).act=5∧first d (oD d r.frm n)=first d (oD d r.frm r.last):=by
   simp at hn
   refine⟨hn.1,?_⟩
   generalize first d (oD d r.frm n)=f1 at hn⊢
   generalize first d (oD d r.frm r.last)=f2 at hn⊢
   cases f1;cases f2;simp at hn⊢;exact hn.2
  try refine nv ?_
  refine⟨n+1,⟨by omega,by omega,?_⟩,by omega,?_⟩
  ·intro m m1 m2
   rcases Int.lt_or_eq_of_le (by omega:m≤n) with h|rfl
   ·exact n3 m m1 h
   ·exact hn'
  ·exact bQ
 intro hge
 have hge':n=r.last+1:=by have:¬n≤r.last:=by simpa using hge
                          omega
 have hln:∀m,r.first≤m→m≤r.last→¬(oD d r.frm m).act=5∧first d (oD d r.frm m)=first d (oD d r.frm r.last):=fun m m1 m2=>n3 m m1 (by omega)
 try refine nv ?_
 refine aj ?_ ?_
 ·intro _
  refine aZ ?_
  refine dr ([(178,BL (made c t)),(179, .tup [CY ((gB d (made c t)).getD ag),pB (gB d (made c t)).isSome])]) ?_ ?_
  ·simp only[All,List.cons_append,List.nil_append,dB,afr,agW,ajr,forall_eq_or_imp,forall_eq,aJ,aB,cZ,aV,bT,ahu,ajG,implies_true,ae1,List.length_cons,List.length_nil,ay,jT,cu]
   repeat' (first|exact trivial|exact Iw c t|exact XY d _ hd|refine And.intro ?_ ?_|intro _|assumption|rfl|omega|(rw[afU];assumption)|(simp;done)|(simp only[aeB] at*;omega)|(simp_all;done))
  refine aZ ?_
  refine dr ([(184,BO (first d ((gB d (made c t)).getD ag)))]) ?_ ?_
  ·simp only[All,List.cons_append,List.nil_append,dB,afr,agW,ajr,forall_eq_or_imp,forall_eq,aJ,aB,cZ,aV,bT,ahu,ajG,implies_true,ae1,List.length_cons,List.length_nil,ay,jT,cu]
   repeat' (first|exact trivial|exact Jf d _ hd|refine And.intro ?_ ?_|intro _|assumption|rfl|omega|(rw[afU];assumption)|(simp;done)|(simp only[aeB] at*;omega)|(simp_all;done))
  refine aZ ?_
  refine aj ?_ ?_
  ·intro _
   try refine nv ?_
   refine rA [] ?_
   refine⟨?_,rfl⟩
   exact⟨_,rfl,fun h=>by cases h⟩
  intro hq
  have hq':¬first d ((gB d (made c t)).getD ag)=first d (oD d r.frm r.last):=by
   intro e
   rw[e] at hq
   simp at hq
  have hok:Hq d c r:=⟨hhow,b1,b2,b3,hln,t,ht,ht2,fun _=>hq'⟩
  try refine nv ?_
  refine aj ?_ ?_
  ·intro _
   try refine nv ?_
   refine aj ?_ ?_
   ·intro _
    try refine nv ?_
    refine rA [] ?_
    refine⟨?_,rfl⟩
    exact⟨_,rfl,fun h=>by cases h⟩
   intro _
   try refine nv ?_
   refine aj ?_ ?_
   ·intro _
    (repeat (first|refine nv ?_|refine cf (zW d r.to t.prev hd) ?_))
    refine rA [] ?_
    refine⟨?_,rfl⟩
    exact⟨_,rfl,fun _=>hok⟩
   ·intro _
    try refine nv ?_
    refine rA [] ?_
    refine⟨?_,rfl⟩
    exact⟨_,rfl,fun _=>hok⟩
  ·intro _
   try refine nv ?_
   refine aj ?_ ?_
   ·intro _
    (repeat (first|refine nv ?_|refine cf (zW d r.to t.prev hd) ?_))
    refine rA [] ?_
    refine⟨?_,rfl⟩
    exact⟨_,rfl,fun _=>hok⟩
   ·intro _
    try refine nv ?_
    refine rA [] ?_
    refine⟨?_,rfl⟩
    exact⟨_,rfl,fun _=>hok⟩
 ·intro ha
  have ha':t.act=1:=by simpa using ha
  have hok:Hq d c r:=⟨hhow,b1,b2,b3,hln,t,ht,ht2,fun h=>absurd ha' h⟩
  try refine nv ?_
  refine aj ?_ ?_
  ·intro _
   try refine nv ?_
   refine aj ?_ ?_
   ·intro _
    try refine nv ?_
    refine rA [] ?_
    refine⟨?_,rfl⟩
    exact⟨_,rfl,fun h=>by cases h⟩
   intro _
   try refine nv ?_
   refine aj ?_ ?_
   ·intro _
    (repeat (first|refine nv ?_|refine cf (zW d r.to t.prev hd) ?_))
    refine rA [] ?_
    refine⟨?_,rfl⟩
    exact⟨_,rfl,fun _=>hok⟩
   ·intro _
    try refine nv ?_
    refine rA [] ?_
    refine⟨?_,rfl⟩
    exact⟨_,rfl,fun _=>hok⟩
  ·intro _
   try refine nv ?_
   refine aj ?_ ?_
   ·intro _
    (repeat (first|refine nv ?_|refine cf (zW d r.to t.prev hd) ?_))
    refine rA [] ?_
    refine⟨?_,rfl⟩
    exact⟨_,rfl,fun _=>hok⟩
   ·intro _
    try refine nv ?_
    refine rA [] ?_
    refine⟨?_,rfl⟩
    exact⟨_,rfl,fun _=>hok⟩
end Go.Proofs.YtcpgicfphakdaaaGreatDoor
