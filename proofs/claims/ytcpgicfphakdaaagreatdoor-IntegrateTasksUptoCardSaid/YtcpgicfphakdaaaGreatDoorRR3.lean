/- A part of the proof. -/
import Derived.Test.YtcpgicfphakdaaaGreatDoorRR1
import Derived.Test.YtcpgicfphakdaaaGreatDoorRR2
import Derived.Test.YtcpgicfphakdaaaGreatDoorRT8
set_option maxRecDepth 100000
set_option maxHeartbeats 16000000
set_option linter.all false
namespace Go.Proofs.YtcpgicfphakdaaaGreatDoor
open Go.Ab Tys
variable [Dr]
def XQ (l:List ByteArray) (p:ByteArray):Bool:=l.any fun x=>decide (x=p)
theorem CV {l:List ByteArray} {p:ByteArray}:XQ l p=true↔p∈l:=by simp[XQ]
theorem aaM (l:List ByteArray) (p:ByteArray):(fP [C.d (.v (.string p))] ((dn Bg l).map fA)).getD (false,[C.d (.v (.bool false))])=(false,[C.d (.v (.bool (XQ l p)))]):=by
 have:=DF UI l p
 rw[show((Bg p).2.map C.d)=[C.d (.v (.string p))] from rfl] at this
 rw[this]
 by_cases h:p∈l
 ·rw[if_pos h,CV.2 h];rfl
 ·have:XQ l p=false:=by cases hb:XQ l p with|false=>rfl|true=>exact absurd (CV.1 hb) h
  rw[if_neg h,this];rfl
theorem acK (l:List ByteArray) (p:ByteArray):dS (false,[C.d (.v (.string p))]) (false,[C.d (.v (.bool true))]) ((dn Bg l).map fA)=(dn Bg (lq l p)).map fA:=qg UI l p
theorem abY (l:List ByteArray):∀e∈(dn Bg l).map fA,e.1.1=false∧dm [.str] e.1.2:=by
 intro e he
 simp only[dn,List.mem_map] at he
 obtain⟨_,⟨f,_,rfl⟩,rfl⟩:=he
 exact⟨rfl,by simp[fA,kC,dm]⟩
def z30.kk:=p2 (p12 kB kG kS kM Tryz.ntmps30 Tryz.underlying27 Tryz.underlying74 kZ iI mf eH sU) (p11 jD Ru acj ac6 uO rJ yR ny jO jy Tryz.results30)
open z30 in
theorem ZQ (d:bK) (hN:d.revs.length≤512) (hpt:∀v∈d.revs,v.path.size≤100000):AC Tryz.prog 30 [sH d] [] (fun r st=>r=dJ (jm d)∧st=[]):=by
 refine bV Tryz.func30 Tryz.ntmps30 fun x hx=>?_
 refine aJ ?_
 refine gg ?_
 refine aJ ?_
 refine gg ?_
 refine aJ ?_
 refine aG (eG (i:=3) (id:=100) (sz:=1) rfl rfl (by omega)) ?_
 refine dM ?_
 try refine nv ?_
 refine ag (ι:=Nat) (I:=fun k=>⟨72,[(1, .c (.ptr 1 0)),(3, .c (.ms 100 1 0 (pz (d.revs.take k)).length)),(4, .c (.mp 9)),(11,ja d.revs),(12,I .i64 d.revs.length),(13,I .i64 k)],
  [(1, .box ((fD d).map C.d)),(9,lI Bg (pz (d.revs.take k))),(100,aQ 1 ((pz (d.revs.take k)).map encS))]⟩)
  (Inv:=fun k=>k≤d.revs.length) (μ:=fun k=>d.revs.length-k) 0 (by omega) ?_ ?_
 ·(refine fZ (fun i=>i) rfl ?_ ⟨?_,?_,?_,gu hx (by simp[ae,Ab.get])⟩<;>first|(simp only[kE,aQ, ↓reduceIte,Nat.reduceEqDiff,reduceCtorEq,pz];done)|simp[di,bf,aA,Ab.get,aZ,dH,aN,bY,bG,bH,bD,bI,bC,ae,List.flatten,pz])
 intro k hk
 have hlk:=IQ (d.revs.take k)
 have hlk2:(d.revs.take k).length≤k:=by simp;omega
 try refine nv ?_
 refine af ?_ ?_
 ·intro hlt
  have hlt':k<d.revs.length:=by simpa using hlt
  obtain⟨v,hv,he,htk⟩:=round ax d.revs k ai hlt'
  have hsk:=Lh (d.revs.take k) v
  rw[←htk] at hsk
  generalize hA:pz (d.revs.take k)=A at hsk hlk
  refine aJ ?_
  refine gx @he ?_
  refine aJ ?_
  refine gy @aaM ?_ ?_
  ·exact gI (abY A)
  refine aJ ?_
  refine af ?_ ?_
  ·intro hc
   have hc':¬v.path∈A:=by rw[←CV];simpa using hc
   have e2:pz (d.revs.take (k+1))=A++[v.path]:=by rw[hsk,lq,if_neg hc']
   have e3:lq A v.path=A++[v.path]:=by rw[lq,if_neg hc']
   refine aJ ?_
   refine gy @acK ?_ ?_
   ·exact gI (abY A)
   try refine nv ?_
   refine⟨k+1,by omega,by omega,?_⟩
   rw[e2]
   (refine fZ (fun i=>if i=100 then 29 else i) rfl ?_ ⟨?_,?_,?_,keepR hx (by simp[ae,Ab.get])⟩<;>first|(intro i hi;have h0:=hx i hi;constructor<;>(revert h0;simp only[ae,Ab.get];(repeat' split)<;>simp_all);done)|(simp only[kE,aQ, ↓reduceIte,Nat.reduceEqDiff,reduceCtorEq];done)|(simp only[aQ,oN,oh,List.mem_cons,List.not_mem_nil,or_false,forall_eq_or_imp,forall_eq];simp[gJ,gX,eX,iM,aA,Ab.get,aZ,dH,aN,bY,bG,bH,bD,bI,bC,ae,List.flatten,ay,cu,e3];done)|simp[gJ,gX,eX,iM,aA,Ab.get,aZ,dH,aN,bY,bG,bH,bD,bI,bC,ae,List.flatten,ay,cu,e3])
  ·intro hc
   have hc':v.path∈A:=by rw[←CV];simpa using hc
   have e2:pz (d.revs.take (k+1))=A:=by rw[hsk,lq,if_pos hc']
   try refine nv ?_
   refine⟨k+1,by omega,by omega,?_⟩
   rw[e2]
   exact aW
 intro hge
 have hk':k=d.revs.length:=by have:¬k<d.revs.length:=by simpa using hge
                              omega
 rw[hk',List.take_length] at hlk⊢
 have hMp:∀r∈pz d.revs,r.size≤100000:=by
  intro r hr
  obtain⟨v,h1,h2⟩:=G6 hr
  rw[←h2];exact hpt v h1
 have hR:jm d=xZ (pz d.revs) (pz d.revs).length:=rfl
 generalize jm d=R at hR
 generalize pz d.revs=M at hlk hMp hR
 try refine nv ?_
 refine ag (ι:=Nat×List ByteArray) (I:=fun i=>⟨72,[(3, .c (.ms 100 1 0 M.length)),(32,I .i64 M.length),(33,I .i64 i.1)],[(100,aQ 1 (i.2.map encS))]⟩)
  (Inv:=fun i=>i.1≤M.length∧i.2.length=M.length∧(∀r∈i.2,r.size≤100000)∧i.2=xZ M i.1) (μ:=fun i=>M.length-i.1) (0,M) ⟨by simp,rfl,hMp,rfl⟩ ?_ ?_
 ·exact aW
 rintro⟨k,m⟩ ⟨h1,h2,h3,h4⟩
 simp only at h1 h2 h3 h4⊢
 try refine nv ?_
 refine af ?_ ?_
 ·intro hlt
  have hlt':k<M.length:=by simpa using hlt
  try refine nv ?_
  refine ag (ι:=Nat×List ByteArray) (I:=fun i=>⟨72,[(3, .c (.ms 100 1 0 M.length)),(8,I .i64 i.1),(32,I .i64 M.length),(33,I .i64 k)],[(100,aQ 1 (i.2.map encS))]⟩)
   (Inv:=fun i=>i.1≤k∧i.2.length=M.length∧(∀r∈i.2,r.size≤100000)∧yT i.1 i.2=xZ M (k+1)) (μ:=fun i=>i.1) (k,m) ⟨by simp,h2,h3,by rw[h4];rfl⟩ ?_ ?_
  ·exact aW
  rintro⟨j,t⟩ ⟨g1,g2,g3,g4⟩
  simp only at g1 g2 g3 g4⊢
  have hj1:((j:Int)-1).toNat=j-1:=by omega
  have hjt:j<t.length:=by omega
  have hjt2:j-1<t.length:=by omega
  have e1:=pY encS t j noS hjt
  have e2:=pY encS t (j-1) noS hjt2
  have m1:t.getD j noS∈t:=by rw[List.getD_eq_getElem?_getD,List.getElem?_eq_getElem hjt];simp
  have m2:t.getD (j-1) noS∈t:=by rw[List.getD_eq_getElem?_getD,List.getElem?_eq_getElem hjt2];simp
  generalize hv:t.getD j noS=v at e1 m1
  generalize hw:t.getD (j-1) noS=w at e2 m2
  refine aJ ?_
  refine dx ([(49,I .i64 (ord v w))]) (p3 @hj1 @e1 @e2) ?_ ?_
  ·simp only[All,List.cons_append,List.nil_append,dI,List.mem_cons,List.not_mem_nil,or_false,forall_eq_or_imp,forall_eq,aZ,aN,dH,aO,bF,and_true,true_and,implies_true,List.length_map,List.length_cons,List.length_nil,aQ,jo,dm]
   repeat' (first|exact trivial|exact Nc _ _ (g3 _ m1) (g3 _ m2)|refine And.intro ?_ ?_|intro _|assumption|rfl|omega|(rw[Bool.not_eq_true'];assumption)|(simp;done)|(simp only[decide_eq_true_eq] at*;omega)|(simp_all;done))
  refine aJ ?_
  refine af ?_ ?_
  ·intro hc
   have hc':0<j∧ord v w<0:=by
    cases j with
    |zero=>exact absurd hc (by simp)
    |succ j=>exact⟨by omega,by simpa using hc⟩
   obtain⟨hj,hb⟩:=hc'
   have hjn:j-1≠j:=by omega
   have e3:=pY encS (t.set j w) (j-1) noS (by simp;omega)
   refine aJ ?_
   refine qx (wr:=false) ([]:List (Nat×AV)) (by kernel_rfl) (by simp only[kD,kk,Nat.reduceAdd,Nat.reduceLT,Nat.reduceEqDiff, ↓reduceIte,reduceCtorEq,hj1,e1,e2,yS,Az];first|done|rfl) (by first|exact trivial|(simp only[kO];omega)|(simp[All,dI];first|done|omega)|(simp+contextual [All,dI];first|done|grind)) (by kernel_rfl) ?_
   try refine nv ?_
   have hlen:((t.set j w).set (j-1) v).length=M.length:=by simp[g2]
   refine⟨(j-1,(t.set j w).set (j-1) v),⟨by simp;omega,hlen,abP (P:=fun r=>r.size≤100000) (g3 _ m1) (g3 _ m2) g3,?_⟩,by simp;omega,?_⟩
   ·rw[←g4]
    obtain⟨i,rfl⟩:∃i,j=i+1:=⟨j-1,by omega⟩
    have e0:i+1-1=i:=by omega
    rw[e0] at hw
    conv=>rhs;rw[yT]
    rw[hv,hw,if_pos hb];rfl
   ·have hcast:((j-1:Nat):Int)=(j:Int)-1:=by omega
    exact tK @hcast
  ·intro hc
   try refine nv ?_
   refine⟨(k+1,t),⟨by simp;omega,g2,g3,?_⟩,by simp;omega,?_⟩
   ·rw[←g4]
    cases j with
    |zero=>rfl
    |succ i=>
     have hb:¬ord v w<0:=by simpa using hc
     have e0:i+1-1=i:=by omega
     rw[e0] at hw
     simp only
     rw[yT,hv,hw,if_neg hb]
   ·exact aW
 intro hge
 have hge':k=M.length:=by have:¬k<M.length:=by simpa using hge
                          omega
 rw[hge'] at h4
 rw[←h4] at hR
 refine aJ ?_
 refine aG (aI (i:=3) (id:=100) (ys:=m.map encS) rfl rfl (by simp[h2])) ?_
 refine dM ?_
 try refine nv ?_
 refine rA [] ?_
 refine⟨?_,rfl⟩
 rw[hR]
def z39.kk:=p11 kB Tryz.ntmps39 Tryz.underlying43 lL iI QK U7 sK abH ny Tryz.results39
open z39 in
theorem acL (l:List bP) (hl:l.length≤1000000) (v:Rev):AC Tryz.prog 39 [Io l,MS v] [] (fun r st=>r=B (decide (fileOf v∈l))∧st=[]):=by
 refine bV Tryz.func39 Tryz.ntmps39 fun x hx=>?_
 try refine nv ?_
 refine ag (ι:=Nat) (I:=fun k=>⟨18,[(3, .c (.ptr 3 0)),(7,Io l),(8,I .i64 l.length),(9,I .i64 k)],[(3, .box ((ax v).map C.d))]⟩)
  (Inv:=fun k=>k≤l.length∧¬fileOf v∈l.take k) (μ:=fun k=>l.length-k) 0 ⟨by omega,by simp⟩ ?_ ?_
 ·exact aW
 rintro k ⟨hk,hall⟩
 try refine nv ?_
 refine af ?_ ?_
 ·intro hlt
  have hlt':k<l.length:=by simpa using hlt
  obtain⟨u,hu,he,htk⟩:=round fJ l k Em hlt'
  try refine nx @he ?_
  refine dr ([(15,uI (fileOf v))]) ?_ ?_
  ·exact gI (wQ v)
  refine aJ ?_
  refine af ?_ ?_
  ·intro hc
   have hc':fileOf v∈l:=by
    have:u=fileOf v:=by
     obtain⟨a,b⟩:=u
     simp only[fileOf] at hc⊢
     simp at hc
     rw[of_decide_eq_true hc.1,of_decide_eq_true hc.2]
    rw[←this];exact List.mem_of_getElem? hu
   try refine nv ?_
   refine rA [] ?_
   refine⟨?_,rfl⟩
   simp[hc']
  ·intro hc
   have hc':¬fileOf v=u:=by
    intro e
    subst e
    simp[fileOf] at hc
   try refine nv ?_
   refine⟨k+1,⟨by omega,by rw[htk,List.mem_append];simp[hall,hc']⟩,by omega,?_⟩
   exact aW
 intro hge
 have hk':k=l.length:=by have:¬k<l.length:=by simpa using hge
                         omega
 rw[hk',List.take_length] at hall
 try refine nv ?_
 refine rA [] ?_
 refine⟨?_,rfl⟩
 simp[hall]
def z36.kk:=p2 (p16 kB kG kS kM Tryz.ntmps36 Tryz.underlying27 Tryz.underlying43 YQ kZ lL iI mf QK Qr OG nZ) (XD oI BD xA abL Uc ab2 uO uK rJ sK abH ny jy adb Tryz.results36)
open z36 in
theorem NJ (d:bK) (hg:Good d.revs) (hn:d.revs.length≤512) (A:List (bP×SV)) (hA:IC A (SA d)) (hD:Me d d.revs.length A) (s t:bP):
 AC Tryz.prog 36 [sH d, .c (.d (.pm (bJ kF Gf A))),uI s,uI t] [] (fun r st=>r=RZ d s t∧st=[]):=by
 have h1:=LD d s.path s.num (by omega)
 have h2:=LD d t.path t.num (by omega)
 cases hs:iE d s.path s.num with
 |none=>
  rw[hs] at h1
  simp only[Cc,pB,Option.isSome,Option.getD] at h1
  generalize hmt:(iE d t.path t.num)=mt at h2
  generalize mt.getD ai=tv at h2
  generalize mt.isSome=tb at h2
  refine bV Tryz.func36 Tryz.ntmps36 fun x hx=>?_
  (repeat (first|refine nv ?_|refine cf (h1) ?_|refine cf (h2) ?_))
  refine af ?_ ?_
  rotate_left
  ·intro h;cases h
  intro _
  refine aJ ?_
  refine gg ?_
  refine aG (fO (i:=8) 2 rfl) ?_
  refine dM ?_
  try refine nv ?_
  refine rA [] ?_
  refine⟨?_,rfl⟩
  exact zW (by simp[l7,hs])
 |some v=>
  rw[hs] at h1
  simp only[Cc,pB,Option.isSome,Option.getD] at h1
  cases ht:iE d t.path t.num with
  |none=>
   rw[ht] at h2
   simp only[Cc,pB,Option.isSome,Option.getD] at h2
   refine bV Tryz.func36 Tryz.ntmps36 fun x hx=>?_
   (repeat (first|refine nv ?_|refine cf (h1) ?_|refine cf (h2) ?_))
   refine af ?_ ?_
   rotate_left
   ·intro h;cases h
   intro _
   refine aJ ?_
   refine gg ?_
   refine aG (fO (i:=8) 2 rfl) ?_
   refine dM ?_
   try refine nv ?_
   refine rA [] ?_
   refine⟨?_,rfl⟩
   exact zW (by simp[l7,hs,ht])
  |some tv=>
   rw[ht] at h2
   simp only[Cc,pB,Option.isSome,Option.getD] at h2
   obtain⟨jt,t1,t2,t3⟩:=(nS hg).1 ht
   obtain⟨xt,hxt⟩:=hD jt tv (List.getElem?_eq_some_iff.1 t1).1 t1 t3
   rw[t2] at hxt
   have hxt':aB A ⟨t.path,t.num⟩=some xt:=hxt
   have hll:(line d (first d v)).length≤512:=Nat.le_trans (List.length_filter_le ..) hn
   have hlm:∀u∈line d (first d v),u∈d.revs∧¬u.act=5:=fun u hu=>YK hu
   have hfin:=aau hA t v
   have hline:=MG d (first d v) (by omega)
   generalize hln:line d (first d v)=l at hll hlm hfin hline
   refine bV Tryz.func36 Tryz.ntmps36 fun x hx=>?_
   (repeat (first|refine nv ?_|refine cf (h1) ?_|refine cf (h2) ?_))
   refine af ?_ ?_
   ·intro h;cases h
   intro _
   refine aJ ?_
   refine gg ?_
   refine aJ ?_
   refine dr ([(44,uI (first d v)),(45,ja l)]) ?_ ?_
   ·simp only[All,List.cons_append,List.nil_append,dI,List.mem_cons,List.not_mem_nil,or_false,forall_eq_or_imp,forall_eq,aZ,aN,dH,aO,bF,and_true,true_and,implies_true,List.length_map,List.length_cons,List.length_nil,aQ,jo,dm]
    repeat' (first|exact trivial|exact rW d v (by omega)|exact hline|refine And.intro ?_ ?_|intro _|assumption|rfl|omega|(rw[Bool.not_eq_true'];assumption)|(simp;done)|(simp only[decide_eq_true_eq] at*;omega)|(simp_all;done))
   refine aJ ?_
   refine mg (eG (i:=14) (id:=100) (sz:=2) rfl rfl (by omega)) ?_
   refine dM ?_
   refine ag (ι:=Nat) (I:=fun k=>⟨76,[(1, .c (.d (.pm (bJ kF Gf A)))),(7, .c (.ptr 7 0)),(10, .c (.ptr 10 0)),(14, .c (.ms 100 2 0 (Ac A t v (l.take k)).length)),(45,ja l),(46,I .i64 l.length),(47,I .i64 k)],
    [(7, .box ((fJ t).map C.d)),(10, .box ((ax v).map C.d)),(100,aQ 2 ((Ac A t v (l.take k)).map fJ))]⟩)
    (Inv:=fun k=>k≤l.length) (μ:=fun k=>l.length-k) 0 (by simp) ?_ ?_
   ·(refine fZ (fun i=>i) rfl ?_ ⟨?_,?_,?_,gu hx (by simp[ae,Ab.get])⟩<;>first|(simp only[kE,aQ, ↓reduceIte,Nat.reduceEqDiff,reduceCtorEq,Ac];done)|simp[di,bf,aA,Ab.get,aZ,dH,aN,bY,bG,bH,bD,bI,bC,ae,List.flatten,Ac])
   intro k hk
   have hF:=Ym A t v (l.take k)
   have hF2:(l.take k).length≤512:=by simp;omega
   try refine nv ?_
   refine af ?_ ?_
   ·intro hlt
    have hlt':k<l.length:=by simpa using hlt
    obtain⟨u,hu,he,htk⟩:=round ax l k ai hlt'
    obtain⟨u1,u2⟩:=hlm u (List.mem_of_getElem? hu)
    obtain⟨ju,hju⟩:=List.getElem?_of_mem u1
    obtain⟨xu,hxu⟩:=hD ju u (List.getElem?_eq_some_iff.1 hju).1 hju u2
    have hxu':aB A ⟨(fileOf u).path,(fileOf u).num⟩=some xu:=hxu
    have hop:(bif decide (u.chg≤v.chg) then !Et xu.con xt.cre else false)=opA A t v u:=by simp only[opA,hxu,hxt,Option.map,Option.getD]
    try refine nx @he ?_
    refine dx ([(59,uI (fileOf u)),(66,B (Et xu.con xt.cre))]) (p3 @Gi @hxu' @hxt') ?_ ?_
    ·exact ob3 (wQ u) (Xu xu.con xt.cre) (KU A)
    refine aJ ?_
    refine af ?_ ?_
    ·intro ho
     rw[hop] at ho
     (repeat (first|refine nv ?_|refine cf (wQ u) ?_))
     refine⟨k+1,by omega,by omega,?_⟩
     have e:Ac A t v (l.take (k+1))=Ac A t v (l.take k)++[fileOf u]:=by rw[htk,Ac,List.filter_append,List.map_append];simp[Ac,ho]
     rw[e]
     exact uY (fun i=>if i=100 then 73 else i)
    ·intro ho
     rw[hop] at ho
     try refine nv ?_
     refine⟨k+1,by omega,by omega,?_⟩
     have e:Ac A t v (l.take (k+1))=Ac A t v (l.take k):=by rw[htk,Ac,List.filter_append,List.map_append];simp[Ac,ho]
     rw[e]
     exact aW
   ·intro hge
    have hge':k=l.length:=by have:¬k<l.length:=by simpa using hge
                             omega
    refine aJ ?_
    refine aG (aI (i:=14) (id:=100) (ys:=(Ac A t v (l.take k)).map fJ) rfl rfl (by simp)) ?_
    refine dM ?_
    try refine nv ?_
    refine rA [] ?_
    refine⟨?_,rfl⟩
    rw[hge',List.take_length,hfin]
    exact Ea (by simp[l7,hs,ht])
end Go.Proofs.YtcpgicfphakdaaaGreatDoor
