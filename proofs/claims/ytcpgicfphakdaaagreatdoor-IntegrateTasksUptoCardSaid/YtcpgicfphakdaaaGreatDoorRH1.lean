/- A part of the proof. -/
import Derived.Test.YtcpgicfphakdaaaGreatDoorRG3
set_option maxRecDepth 100000
set_option maxHeartbeats 8000000
set_option linter.all false
namespace Go.Proofs.YtcpgicfphakdaaaGreatDoor
open Go.Ab Tys
variable [Dr]
def ae0.kk:=p8 kB kG Tryz.ntmps155 Tryz.underlying74 eH jO jy Tryz.results155
open ae0 in
theorem Tj (a b:List ByteArray) (ha:a.length≤1000000):AC Tryz.prog 155 [dJ a,dJ b] [] (fun r st=>r=I .i64 (cmpL a b)∧st=[]):=by
 refine bV Tryz.func155 Tryz.ntmps155 fun x hx=>?_
 try refine nv ?_
 refine ag (ι:=Nat) (I:=fun k=>⟨43,[(0,dJ a),(1,dJ b),(5,I .i64 k)],[]⟩)
  (Inv:=fun k=>k≤a.length∧k≤b.length∧cmpL a b=cmpL (a.drop k) (b.drop k)) (μ:=fun k=>a.length-k) 0 ⟨by omega,by omega,by simp⟩ ?_ ?_
 ·exact aW
 ·rintro k ⟨hk,hk2,hcm⟩
  try refine nv ?_
  refine af ?_ ?_
  ·intro hlt
   have hlt':k<a.length∧k<b.length:=by simpa using hlt
   obtain⟨hla,hlb⟩:=hlt'
   obtain⟨v,hv,he,htk⟩:=round encS a k ByteArray.empty hla
   obtain⟨w,hw,he2,htk2⟩:=round encS b k ByteArray.empty hlb
   have hda:a.drop k=v::a.drop (k+1):=by rw[List.drop_eq_getElem_cons hla];simp[List.getElem?_eq_getElem hla] at hv;rw[hv]
   have hdb:b.drop k=w::b.drop (k+1):=by rw[List.drop_eq_getElem_cons hlb];simp[List.getElem?_eq_getElem hlb] at hw;rw[hw]
   rw[hda,hdb,cmpL] at hcm
   refine aJ ?_
   refine dx ([(27,I .i64 (cb v w))]) (p2 @he @he2) ?_ ?_
   ·simp only[All,List.cons_append,List.nil_append,dI,List.mem_cons,List.not_mem_nil,or_false,forall_eq_or_imp,forall_eq,aZ,aN,dH,aO,bF,and_true,true_and,implies_true,List.length_map,List.length_cons,List.length_nil,aQ,jo,dm]
    repeat' (first|exact trivial|exact Ap _ _|refine And.intro ?_ ?_|intro _|assumption|rfl|omega|(rw[Bool.not_eq_true'];assumption)|(simp;done)|(simp only[decide_eq_true_eq] at*;omega)|(simp_all;done))
   try refine nv ?_
   refine af ?_ ?_
   ·intro hc
    have hc':¬cb v w=0:=by simpa using hc
    try refine nv ?_
    refine rA [] ?_
    refine⟨?_,rfl⟩
    rw[hcm,if_neg hc']
   ·intro hc
    have hc':cb v w=0:=by simpa using hc
    try refine nv ?_
    refine⟨k+1,⟨by omega,by omega,?_⟩,by omega,?_⟩
    ·rw[hcm,if_pos hc']
    ·exact aW
  ·intro hge
   have hge':¬(k<a.length∧k<b.length):=by simpa using hge
   try refine nv ?_
   refine af ?_ ?_
   ·intro h
    have h':a.length<b.length:=by simpa using h
    try refine nv ?_
    refine rA [] ?_
    refine⟨?_,rfl⟩
    have e1:a.drop k=[]:=List.drop_eq_nil_of_le (by omega)
    have hlb:k<b.length:=by omega
    rw[hcm,e1,List.drop_eq_getElem_cons hlb,cmpL]
   ·intro h
    have h':¬a.length<b.length:=by simpa using h
    try refine nv ?_
    refine af ?_ ?_
    ·intro h2
     have h2':b.length<a.length:=by simpa using h2
     try refine nv ?_
     refine rA [] ?_
     refine⟨?_,rfl⟩
     have e1:b.drop k=[]:=List.drop_eq_nil_of_le (by omega)
     have hla:k<a.length:=by omega
     rw[hcm,e1,List.drop_eq_getElem_cons hla,cmpL]
    ·intro h2
     have h2':¬b.length<a.length:=by simpa using h2
     try refine nv ?_
     refine rA [] ?_
     refine⟨?_,rfl⟩
     have e1:b.drop k=[]:=List.drop_eq_nil_of_le (by omega)
     have e2:a.drop k=[]:=List.drop_eq_nil_of_le (by omega)
     rw[hcm,e1,e2,cmpL]
def z87.kk:=p4 kB kG Tryz.ntmps87 Tryz.results87
open z87 in
theorem Nc (p q:ByteArray) (hp:p.size≤100000) (hq:q.size≤100000):AC Tryz.prog 87 [Str p,Str q] [] (fun r st=>r=I .i64 (ord p q)∧st=[]):=by
 have hcp:=Gj p (by omega)
 have hcq:=Gj q (by omega)
 cases ep:aV p with
 |none=>
  rw[ep] at hcp
  simp only[gZ,pB,Option.isSome] at hcp
  cases eq:aV q with
  |none=>
   rw[eq] at hcq
   simp only[gZ,pB,Option.isSome] at hcq
   refine bV Tryz.func87 Tryz.ntmps87 fun x hx=>?_
   (repeat (first|refine nv ?_|refine cf (hcp) ?_|refine cf (hcq) ?_))
   refine af ?_ ?_
   ·intro _
    (repeat (first|refine nv ?_|refine cf (Ap _ _) ?_))
    refine rA [] ?_
    refine⟨?_,rfl⟩
    simp only[ord,ep,eq];rfl
   ·intro h;simp at h
  |some b=>
   rw[eq] at hcq
   simp only[gZ,pB,Option.isSome] at hcq
   refine bV Tryz.func87 Tryz.ntmps87 fun x hx=>?_
   (repeat (first|refine nv ?_|refine cf (hcp) ?_|refine cf (hcq) ?_))
   refine af ?_ ?_
   ·intro h;simp at h
   ·intro _
    try refine nv ?_
    refine af ?_ ?_
    ·intro _
     try refine nv ?_
     refine rA [] ?_
     refine⟨?_,rfl⟩
     simp only[ord,ep,eq]
    ·intro h;simp at h
 |some a=>
  rw[ep] at hcp
  simp only[gZ,pB,Option.isSome] at hcp
  cases eq:aV q with
  |none=>
   rw[eq] at hcq
   simp only[gZ,pB,Option.isSome] at hcq
   refine bV Tryz.func87 Tryz.ntmps87 fun x hx=>?_
   (repeat (first|refine nv ?_|refine cf (hcp) ?_|refine cf (hcq) ?_))
   refine af ?_ ?_
   ·intro h;simp at h
   ·intro _
    try refine nv ?_
    refine af ?_ ?_
    ·intro h;simp at h
    ·intro _
     try refine nv ?_
     refine af ?_ ?_
     ·intro _
      try refine nv ?_
      refine rA [] ?_
      refine⟨?_,rfl⟩
      simp only[ord,ep,eq]
     ·intro h;simp at h
  |some b=>
   rw[eq] at hcq
   simp only[gZ,pB,Option.isSome] at hcq
   have:=VU ep
   refine bV Tryz.func87 Tryz.ntmps87 fun x hx=>?_
   (repeat (first|refine nv ?_|refine cf (hcp) ?_|refine cf (hcq) ?_))
   refine af ?_ ?_
   ·intro h;simp at h
   ·intro _
    try refine nv ?_
    refine af ?_ ?_
    ·intro h;simp at h
    ·intro _
     try refine nv ?_
     refine af ?_ ?_
     ·intro h;simp at h
     ·intro _
      (repeat (first|refine nv ?_|refine cf (Tj a b (by omega)) ?_))
      refine rA [] ?_
      refine⟨?_,rfl⟩
      simp only[ord,ep,eq]
def z124.kk:=p11 kB Tryz.ntmps124 yU xh BZ zx Du uK Il jy Tryz.results124
open z124 in
theorem KQ (a b:jk) (ha:Va a) (hb:Va b):AC Tryz.prog 124 [acR a,acR b] [] (fun r st=>r=B (before a b)∧st=[]):=by
 refine bV Tryz.func124 Tryz.ntmps124 fun x hx=>?_
 (repeat (first|refine nv ?_|refine cf (Nc _ _ ha.2 hb.2) ?_))
 refine af ?_ ?_
 ·intro h
  have h':ord a.to b.to≠0:=by simpa using h
  try refine nv ?_
  refine rA [] ?_
  refine⟨?_,rfl⟩
  rw[before,if_pos h']
 ·intro h
  have h':¬ord a.to b.to≠0:=by simpa using h
  try refine nv ?_
  refine af ?_ ?_
  ·intro h2
   have h2':a.num≠b.num:=by simpa using h2
   try refine nv ?_
   refine rA [] ?_
   refine⟨?_,rfl⟩
   rw[before,if_neg h',if_pos h2']
  ·intro h2
   have h2':¬a.num≠b.num:=by simpa using h2
   (repeat (first|refine nv ?_|refine cf (Nc _ _ ha.1 hb.1) ?_))
   refine af ?_ ?_
   ·intro h3
    have h3':ord a.frm b.frm≠0:=by simpa using h3
    try refine nv ?_
    refine rA [] ?_
    refine⟨?_,rfl⟩
    rw[before,if_neg h',if_neg h2',if_pos h3']
   ·intro h3
    have h3':¬ord a.frm b.frm≠0:=by simpa using h3
    try refine nv ?_
    refine rA [] ?_
    refine⟨?_,rfl⟩
    rw[before,if_neg h',if_neg h2',if_neg h3']
def z59.kk:=p9 kB kG Tryz.ntmps59 Tryz.underlying28 yU Dq Ib Il Tryz.results59
open z59 in
theorem Xb (l:List jk) (hl:l.length≤1000000) (hok:∀r∈l,Va r):AC Tryz.prog 59 [.c (.ms 46 6 0 l.length)] [(46,aQ 6 (l.map bg))] (fun r st=>r= .c (.d (.ps 6 ((Lt l).map bg)))∧st=[(46, .dead)]):=by
 refine bV Tryz.func59 Tryz.ntmps59 fun x hx=>?_
 try refine nv ?_
 refine ag (ι:=Nat×List jk) (I:=fun i=>⟨45,[(0, .c (.ms 46 6 0 l.length)),(6,I .i64 l.length),(7,I .i64 i.1)],[(46,aQ 6 (i.2.map bg))]⟩)
  (Inv:=fun i=>i.1≤l.length∧i.2.length=l.length∧(∀r∈i.2,Va r)∧i.2=EO l i.1) (μ:=fun i=>l.length-i.1) (0,l) ⟨by simp,rfl,hok,rfl⟩ ?_ ?_
 ·exact aW
 ·rintro⟨k,m⟩ ⟨h1,h2,h3,h4⟩
  simp only at h1 h2 h3 h4⊢
  try refine nv ?_
  refine af ?_ ?_
  ·intro hlt
   have hlt':k<l.length:=by simpa using hlt
   try refine nv ?_
   refine ag (ι:=Nat×List jk) (I:=fun i=>⟨45,[(0, .c (.ms 46 6 0 l.length)),(4,I .i64 i.1),(6,I .i64 l.length),(7,I .i64 k)],[(46,aQ 6 (i.2.map bg))]⟩)
    (Inv:=fun i=>i.1≤k∧i.2.length=l.length∧(∀r∈i.2,Va r)∧yx i.1 i.2=EO l (k+1)) (μ:=fun i=>i.1) (k,m) ⟨by simp,h2,h3,by rw[h4];rfl⟩ ?_ ?_
   ·exact aW
   ·rintro⟨j,t⟩ ⟨g1,g2,g3,g4⟩
    simp only at g1 g2 g3 g4⊢
    have hj1:((j:Int)-1).toNat=j-1:=by omega
    have hjt:j<t.length:=by omega
    have hjt2:j-1<t.length:=by omega
    have e1:=pY bg t j mr hjt
    have e2:=pY bg t (j-1) mr hjt2
    have m1:t.getD j mr∈t:=by rw[List.getD_eq_getElem?_getD,List.getElem?_eq_getElem hjt];simp
    have m2:t.getD (j-1) mr∈t:=by rw[List.getD_eq_getElem?_getD,List.getElem?_eq_getElem hjt2];simp
    generalize hv:t.getD j mr=v at e1 m1
    generalize hw:t.getD (j-1) mr=w at e2 m2
    refine aJ ?_
    refine dx ([(23,B (before v w))]) (p3 @hj1 @e1 @e2) ?_ ?_
    ·simp only[All,List.cons_append,List.nil_append,dI,List.mem_cons,List.not_mem_nil,or_false,forall_eq_or_imp,forall_eq,aZ,aN,dH,aO,bF,and_true,true_and,implies_true,List.length_map,List.length_cons,List.length_nil,aQ,jo,dm]
     repeat' (first|exact trivial|exact KQ _ _ (g3 _ m1) (g3 _ m2)|refine And.intro ?_ ?_|intro _|assumption|rfl|omega|(rw[Bool.not_eq_true'];assumption)|(simp;done)|(simp only[decide_eq_true_eq] at*;omega)|(simp_all;done))
    refine aJ ?_
    refine af ?_ ?_
    ·intro hc
     have hc':0<j∧before v w=true:=by
      cases j with
      |zero=>exact absurd hc (by simp)
      |succ j=>exact⟨by omega,by simpa using hc⟩
     obtain⟨hj,hb⟩:=hc'
     have hjn:j-1≠j:=by omega
     have e3:=pY bg (t.set j w) (j-1) mr (by simp;omega)
     refine aJ ?_
     refine qx (wr:=false) ([]:List (Nat×AV)) (by kernel_rfl) (by simp only[kD,kk,Nat.reduceAdd,Nat.reduceLT,Nat.reduceEqDiff, ↓reduceIte,reduceCtorEq,hj1,e1,e2,adu,acM];first|done|rfl) (by first|exact trivial|(simp only[kO];omega)|(simp[All,dI];first|done|omega)|(simp+contextual [All,dI];first|done|grind)) (by kernel_rfl) ?_
     try refine nv ?_
     have hlen:((t.set j w).set (j-1) v).length=l.length:=by simp[g2]
     refine⟨(j-1,(t.set j w).set (j-1) v),⟨by simp;omega,hlen,Qe m1 m2 g3,?_⟩,by simp;omega,?_⟩
     ·rw[←g4]
      obtain⟨i,rfl⟩:∃i,j=i+1:=⟨j-1,by omega⟩
      have e0:i+1-1=i:=by omega
      rw[e0] at hw
      conv=>rhs;rw[yx]
      rw[hv,hw,if_pos hb];rfl
     ·have hcast:((j-1:Nat):Int)=(j:Int)-1:=by omega
      exact tK @hcast
    ·intro hc
     try refine nv ?_
     refine⟨(k+1,t),⟨by simp;omega,g2,g3,?_⟩,by simp;omega,?_⟩
     ·rw[←g4]
      cases j with
      |zero=>rfl
      |succ i=>
       have hb:before v w=false:=by simpa using hc
       have e0:i+1-1=i:=by omega
       rw[e0] at hw
       simp only
       rw[yx,hv,hw,hb];rfl
     ·exact aW
  ·intro hge
   have hge':k=l.length:=by have:¬k<l.length:=by simpa using hge
                            omega
   refine aJ ?_
   refine aG (aI (i:=0) (id:=46) (ys:=m.map bg) rfl rfl (by simp[h2])) ?_
   refine dM ?_
   try refine nv ?_
   refine rA ([(46, .dead)]) ?_
   refine⟨?_,rfl⟩
   rw[h4,hge'];rfl
def z175.kk:=p11 kB kG Tryz.ntmps175 Qz Ur aaF abt uK yR YD Tryz.results175
open z175 in
theorem Ux (base:Int) (kw ex xe:Bool):AC Tryz.prog 175 [.agg [.d (.v (.int .i64 base)), .d (.v (.bool kw)), .d (.v (.bool ex)), .d (.v (.bool xe))]] [] (fun r st=>r=I .i64 (if I4 base kw xe then 90 else 0)∧st=[]):=by
 refine bV Tryz.func175 Tryz.ntmps175 fun x hx=>?_
 try refine nv ?_
 refine af ?_ ?_
 ·intro h
  try refine nv ?_
  refine rA [] ?_
  refine⟨?_,rfl⟩
  have:I4 base kw xe=true:=by rw[←h];simp only[I4];cases decide (base<1)<;>cases decide (3<base)<;>cases kw<;>cases xe<;>cases decide (base=1)<;>cases decide (base=3)<;>rfl
  rw[this];rfl
 ·intro h
  try refine nv ?_
  refine rA [] ?_
  refine⟨?_,rfl⟩
  have:I4 base kw xe=false:=by rw[←h];simp only[I4];cases decide (base<1)<;>cases decide (3<base)<;>cases kw<;>cases xe<;>cases decide (base=1)<;>cases decide (base=3)<;>rfl
  rw[this];rfl
end Go.Proofs.YtcpgicfphakdaaaGreatDoor
