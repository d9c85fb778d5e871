/- A part of the proof. -/
import Derived.Test.YtcpgicfphakdaaaGreatDoorRG3
set_option maxRecDepth 100000
set_option maxHeartbeats 8000000
set_option linter.all false
namespace Go.Proofs.YtcpgicfphakdaaaGreatDoor
open Go.Ab Tys
variable [Dr]
def ah1.kk:=p8 kB kG Tryz.ntmps155 Tryz.underlying74 jy rZ jB Tryz.results155
open ah1 in
theorem Wi (a b:List akK) (ha:a.length≤1000000):AC Tryz.prog 155 [jr a,jr b] [] (fun r st=>r=I .i64 (cmpL a b)∧st=[]):=by
 refine df Tryz.func155 Tryz.ntmps155 fun x hx=>?_
 try refine nv ?_
 refine au (ι:=Nat) (I:=fun k=>⟨43,[(0,jr a),(1,jr b),(5,I .i64 k)],[]⟩)
  (Inv:=fun k=>k≤a.length∧k≤b.length∧cmpL a b=cmpL (a.drop k) (b.drop k)) (μ:=fun k=>a.length-k) 0 ⟨by omega,by omega,by simp⟩ ?_ ?_
 ·exact bQ
 ·rintro k ⟨hk,hk2,hcm⟩
  try refine nv ?_
  refine aj ?_ ?_
  ·intro hlt
   have hlt':k<a.length∧k<b.length:=by simpa using hlt
   obtain⟨hla,hlb⟩:=hlt'
   obtain⟨v,hv,he,htk⟩:=round encS a k ByteArray.empty hla
   obtain⟨w,hw,he2,htk2⟩:=round encS b k ByteArray.empty hlb
   have hda:a.drop k=v::a.drop (k+1):=by rw[aiu hla];simp[adH hla] at hv;rw[hv]
   have hdb:b.drop k=w::b.drop (k+1):=by rw[aiu hlb];simp[adH hlb] at hw;rw[hw]
   rw[hda,hdb,cmpL] at hcm
   refine aZ ?_
   refine dx ([(27,I .i64 (cb v w))]) (p2 @he @he2) ?_ ?_
   ·simp only[All,List.cons_append,List.nil_append,dB,afr,agW,ajr,forall_eq_or_imp,forall_eq,aJ,aB,cZ,aV,bT,ahu,ajG,implies_true,ae1,List.length_cons,List.length_nil,ay,jT,cu]
    repeat' (first|exact trivial|exact BV _ _|refine And.intro ?_ ?_|intro _|assumption|rfl|omega|(rw[afU];assumption)|(simp;done)|(simp only[aeB] at*;omega)|(simp_all;done))
   try refine nv ?_
   refine aj ?_ ?_
   ·intro hc
    have hc':¬cb v w=0:=by simpa using hc
    try refine nv ?_
    refine rA [] ?_
    refine⟨?_,rfl⟩
    rw[hcm,if_neg hc']
   ·intro hc
    have hc':cb v w=0:=by simpa using hc
    try refine nv ?_
    refine⟨k+1,⟨by omega,by omega,?_⟩,by omega,?_⟩
    ·rw[hcm,if_pos hc']
    ·exact bQ
  ·intro hge
   have hge':¬(k<a.length∧k<b.length):=by simpa using hge
   try refine nv ?_
   refine aj ?_ ?_
   ·intro h
    have h':a.length<b.length:=by simpa using h
    try refine nv ?_
    refine rA [] ?_
    refine⟨?_,rfl⟩
    have e1:a.drop k=[]:=ajW (by omega)
    have hlb:k<b.length:=by omega
    rw[hcm,e1,aiu hlb,cmpL]
   ·intro h
    have h':¬a.length<b.length:=by simpa using h
    try refine nv ?_
    refine aj ?_ ?_
    ·intro h2
     have h2':b.length<a.length:=by simpa using h2
     try refine nv ?_
     refine rA [] ?_
     refine⟨?_,rfl⟩
     have e1:b.drop k=[]:=ajW (by omega)
     have hla:k<a.length:=by omega
     rw[hcm,e1,aiu hla,cmpL]
    ·intro h2
     have h2':¬b.length<a.length:=by simpa using h2
     try refine nv ?_
     refine rA [] ?_
     refine⟨?_,rfl⟩
     have e1:b.drop k=[]:=ajW (by omega)
     have e2:a.drop k=[]:=ajW (by omega)
     rw[hcm,e1,e2,cmpL]
def z87.kk:=p4 kB kG Tryz.ntmps87 Tryz.results87
open z87 in
theorem Wl (p q:akK) (hp:p.size≤100000) (hq:q.size≤100000):AC Tryz.prog 87 [Str p,Str q] [] (fun r st=>r=I .i64 (ord p q)∧st=[]):=by
 have hcp:=Qp p (by omega)
 have hcq:=Qp q (by omega)
 cases ep:aG p with
 |none=>
  rw[ep] at hcp
  simp only[jJ,pB,Option.isSome] at hcp
  cases eq:aG q with
  |none=>
   rw[eq] at hcq
   simp only[jJ,pB,Option.isSome] at hcq
   refine df Tryz.func87 Tryz.ntmps87 fun x hx=>?_
   (repeat (first|refine nv ?_|refine cf (hcp) ?_|refine cf (hcq) ?_))
   refine aj ?_ ?_
   ·intro _
    (repeat (first|refine nv ?_|refine cf (BV _ _) ?_))
    refine rA [] ?_
    refine⟨?_,rfl⟩
    simp only[ord,ep,eq];rfl
   ·intro h;simp at h
  |some b=>
   rw[eq] at hcq
   simp only[jJ,pB,Option.isSome] at hcq
   refine df Tryz.func87 Tryz.ntmps87 fun x hx=>?_
   (repeat (first|refine nv ?_|refine cf (hcp) ?_|refine cf (hcq) ?_))
   refine aj ?_ ?_
   ·intro h;simp at h
   ·intro _
    try refine nv ?_
    refine aj ?_ ?_
    ·intro _
     try refine nv ?_
     refine rA [] ?_
     refine⟨?_,rfl⟩
     simp only[ord,ep,eq]
    ·intro h;simp at h
 |some a=>
  rw[ep] at hcp
  simp only[jJ,pB,Option.isSome] at hcp
  cases eq:aG q with
  |none=>
   rw[eq] at hcq
   simp only[jJ,pB,Option.isSome] at hcq
   refine df Tryz.func87 Tryz.ntmps87 fun x hx=>?_
   (repeat (first|refine nv ?_|refine cf (hcp) ?_|refine cf (hcq) ?_))
   refine aj ?_ ?_
   ·intro h;simp at h
   ·intro _
    try refine nv ?_
    refine aj ?_ ?_
    ·intro h;simp at h
    ·intro _
     try refine nv ?_
     refine aj ?_ ?_
     ·intro _
      try refine nv ?_
      refine rA [] ?_
      refine⟨?_,rfl⟩
      simp only[ord,ep,eq]
     ·intro h;simp at h
  |some b=>
   rw[eq] at hcq
   simp only[jJ,pB,Option.isSome] at hcq
   have:=ZX ep
   refine df Tryz.func87 Tryz.ntmps87 fun x hx=>?_
   (repeat (first|refine nv ?_|refine cf (hcp) ?_|refine cf (hcq) ?_))
   refine aj ?_ ?_
   ·intro h;simp at h
   ·intro _
    try refine nv ?_
    refine aj ?_ ?_
    ·intro h;simp at h
    ·intro _
     try refine nv ?_
     refine aj ?_ ?_
     ·intro h;simp at h
     ·intro _
      (repeat (first|refine nv ?_|refine cf (Wi a b (by omega)) ?_))
      refine rA [] ?_
      refine⟨?_,rfl⟩
      simp only[ord,ep,eq]
def z124.kk:=p11 kB Tryz.ntmps124 lq uY BC rQ xY mG sD jB Tryz.results124
open z124 in
theorem NY (a b:dZ) (ha:IM a) (hb:IM b):AC Tryz.prog 124 [ab5 a,ab5 b] [] (fun r st=>r=B (before a b)∧st=[]):=by
 refine df Tryz.func124 Tryz.ntmps124 fun x hx=>?_
 (repeat (first|refine nv ?_|refine cf (Wl _ _ ha.2 hb.2) ?_))
 refine aj ?_ ?_
 ·intro h
  have h':ord a.to b.to≠0:=by simpa using h
  try refine nv ?_
  refine rA [] ?_
  refine⟨?_,rfl⟩
  rw[before,if_pos h']
 ·intro h
  have h':¬ord a.to b.to≠0:=by simpa using h
  try refine nv ?_
  refine aj ?_ ?_
  ·intro h2
   have h2':a.num≠b.num:=by simpa using h2
   try refine nv ?_
   refine rA [] ?_
   refine⟨?_,rfl⟩
   rw[before,if_neg h',if_pos h2']
  ·intro h2
   have h2':¬a.num≠b.num:=by simpa using h2
   (repeat (first|refine nv ?_|refine cf (Wl _ _ ha.1 hb.1) ?_))
   refine aj ?_ ?_
   ·intro h3
    have h3':ord a.frm b.frm≠0:=by simpa using h3
    try refine nv ?_
    refine rA [] ?_
    refine⟨?_,rfl⟩
    rw[before,if_neg h',if_neg h2',if_pos h3']
   ·intro h3
    have h3':¬ord a.frm b.frm≠0:=by simpa using h3
    try refine nv ?_
    refine rA [] ?_
    refine⟨?_,rfl⟩
    rw[before,if_neg h',if_neg h2',if_neg h3']
def z59.kk:=p9 kB kG Tryz.ntmps59 Tryz.underlying28 lq pW wu sD Tryz.results59
open z59 in
theorem ZV (l:List dZ) (hl:l.length≤1000000) (hok:∀r∈l,IM r):AC Tryz.prog 59 [.c (.ms 46 6 0 l.length)] [(46,ay 6 (l.map af))] (fun r st=>r= .c (.d (.ps 6 ((NI l).map af)))∧st=[(46, .dead)]):=by
 refine df Tryz.func59 Tryz.ntmps59 fun x hx=>?_
 try refine nv ?_
 refine au (ι:=Nat×List dZ) (I:=fun i=>⟨45,[(0, .c (.ms 46 6 0 l.length)),(6,I .i64 l.length),(7,I .i64 i.1)],[(46,ay 6 (i.2.map af))]⟩)
  (Inv:=fun i=>i.1≤l.length∧i.2.length=l.length∧(∀r∈i.2,IM r)∧i.2=G9 l i.1) (μ:=fun i=>l.length-i.1) (0,l) ⟨by simp,rfl,hok,rfl⟩ ?_ ?_
 ·exact bQ
 ·rintro⟨k,m⟩ ⟨h1,h2,h3,h4⟩
  simp only at h1 h2 h3 h4⊢
  try refine nv ?_
  refine aj ?_ ?_
  ·intro hlt
   have hlt':k<l.length:=by simpa using hlt
   try refine nv ?_
   refine au (ι:=Nat×List dZ) (I:=fun i=>⟨45,[(0, .c (.ms 46 6 0 l.length)),(4,I .i64 i.1),(6,I .i64 l.length),(7,I .i64 k)],[(46,ay 6 (i.2.map af))]⟩)
    (Inv:=fun i=>i.1≤k∧i.2.length=l.length∧(∀r∈i.2,IM r)∧zY i.1 i.2=G9 l (k+1)) (μ:=fun i=>i.1) (k,m) ⟨by simp,h2,h3,by rw[h4];rfl⟩ ?_ ?_
   ·exact bQ
   ·rintro⟨j,t⟩ ⟨g1,g2,g3,g4⟩
    simp only at g1 g2 g3 g4⊢
    have hj1:((j:Int)-1).toNat=j-1:=by omega
    have hjt:j<t.length:=by omega
    have hjt2:j-1<t.length:=by omega
    have e1:=lI af t j dS hjt
    have e2:=lI af t (j-1) dS hjt2
    have m1:t.getD j dS∈t:=by rw[adI,adH hjt];simp
    have m2:t.getD (j-1) dS∈t:=by rw[adI,adH hjt2];simp
    generalize hv:t.getD j dS=v at e1 m1
    generalize hw:t.getD (j-1) dS=w at e2 m2
    refine aZ ?_
    refine dx ([(23,B (before v w))]) (p3 @hj1 @e1 @e2) ?_ ?_
    ·simp only[All,List.cons_append,List.nil_append,dB,afr,agW,ajr,forall_eq_or_imp,forall_eq,aJ,aB,cZ,aV,bT,ahu,ajG,implies_true,ae1,List.length_cons,List.length_nil,ay,jT,cu]
     repeat' (first|exact trivial|exact NY _ _ (g3 _ m1) (g3 _ m2)|refine And.intro ?_ ?_|intro _|assumption|rfl|omega|(rw[afU];assumption)|(simp;done)|(simp only[aeB] at*;omega)|(simp_all;done))
    refine aZ ?_
    refine aj ?_ ?_
    ·intro hc
     have hc':0<j∧before v w=true:=by
      cases j with
      |zero=>exact absurd hc (by simp)
      |succ j=>exact⟨by omega,by simpa using hc⟩
     obtain⟨hj,hb⟩:=hc'
     have hjn:j-1≠j:=by omega
     have e3:=lI af (t.set j w) (j-1) dS (by simp;omega)
     refine aZ ?_
     refine pM (wr:=false) ([]:List (Nat×AV)) (by kernel_rfl) (by simp only[kD,kk,Nat.reduceAdd,Nat.reduceLT,Nat.reduceEqDiff, ↓reduceIte,reduceCtorEq,hj1,e1,e2,Tt,L8];first|done|rfl) (by first|exact trivial|(simp only[kO];omega)|(simp[All,dB];first|done|omega)|(simp+contextual [All,dB];first|done|grind)) (by kernel_rfl) ?_
     try refine nv ?_
     have hlen:((t.set j w).set (j-1) v).length=l.length:=by simp[g2]
     refine⟨(j-1,(t.set j w).set (j-1) v),⟨by simp;omega,hlen,Sr m1 m2 g3,?_⟩,by simp;omega,?_⟩
     ·rw[←g4]
      obtain⟨i,rfl⟩:∃i,j=i+1:=⟨j-1,by omega⟩
      have e0:i+1-1=i:=by omega
      rw[e0] at hw
      conv=>rhs;rw[zY]
      rw[hv,hw,if_pos hb];rfl
     ·have hcast:((j-1:Nat):Int)=(j:Int)-1:=by omega
      exact Dc @hcast
    ·intro hc
     try refine nv ?_
     refine⟨(k+1,t),⟨by simp;omega,g2,g3,?_⟩,by simp;omega,?_⟩
     ·rw[←g4]
      cases j with
      |zero=>rfl
      |succ i=>
       have hb:before v w=false:=by simpa using hc
       have e0:i+1-1=i:=by omega
       rw[e0] at hw
       simp only
       rw[zY,hv,hw,hb];rfl
     ·exact bQ
  ·intro hge
   have hge':k=l.length:=by have:¬k<l.length:=by simpa using hge
                            omega
   refine aZ ?_
   refine bC (aY (i:=0) (id:=46) (ys:=m.map af) rfl rfl (by simp[h2])) ?_
   refine fE ?_
   try refine nv ?_
   refine rA ([(46, .dead)]) ?_
   refine⟨?_,rfl⟩
   rw[h4,hge'];rfl
def z175.kk:=p11 kB kG Tryz.ntmps175 qM Qs Yt Ym mG IP Au Tryz.results175
open z175 in
theorem Xm (base:Int) (kw ex xe:Bool):AC Tryz.prog 175 [.agg [.d (.v (.int .i64 base)), .d (.v (.bool kw)), .d (.v (.bool ex)), .d (.v (.bool xe))]] [] (fun r st=>r=I .i64 (if gQ base kw xe then 90 else 0)∧st=[]):=by
 refine df Tryz.func175 Tryz.ntmps175 fun x hx=>?_
 try refine nv ?_
 refine aj ?_ ?_
 ·intro h
  try refine nv ?_
  refine rA [] ?_
  refine⟨?_,rfl⟩
  have:gQ base kw xe=true:=by rw[←h];simp only[gQ];cases decide (base<1)<;>cases decide (3<base)<;>cases kw<;>cases xe<;>cases decide (base=1)<;>cases decide (base=3)<;>rfl
  rw[this];rfl
 ·intro h
  try refine nv ?_
  refine rA [] ?_
  refine⟨?_,rfl⟩
  have:gQ base kw xe=false:=by rw[←h];simp only[gQ];cases decide (base<1)<;>cases decide (3<base)<;>cases kw<;>cases xe<;>cases decide (base=1)<;>cases decide (base=3)<;>rfl
  rw[this];rfl
end Go.Proofs.YtcpgicfphakdaaaGreatDoor
