/- A part of the proof. -/
import Derived.Test.YtcpgicfphakdaaaGreatDoorRP41
import Derived.Test.YtcpgicfphakdaaaGreatDoorRH1
set_option linter.all false
namespace Go.Proofs.YtcpgicfphakdaaaGreatDoor
open Go.Ab Tys
variable [Dr]
def aeb.kk:=p4 (p13 kB kG Tryz.ntmps123 Tryz.underlying27 Tryz.underlying28 Tryz.underlying4 Tryz.underlying60 ny pM OH Zz iK Du) (p13 zk FC nI DD Kv abB abx abk kW EY Ul yJ EP) (p13 yK EI Fe Bo EC MR Ak EW Lr MO KQ IW uz) (p11 uB vT X9 ab7 nT We PE IY Qz kC Tryz.results123)
set_option maxRecDepth 100000 in
set_option maxHeartbeats 16000000 in
open aeb in
theorem WE (d:bJ) (c:oD) (i:Nat) (hi:i<c.recs.length) (hd:d.revs.length≤1000000) (hc:∀r∈c.recs,Ub r) (hl:c.edits.length≤1000000) (hl2:c.recs.length≤1000000):
 AC Tryz.prog 123 [uY d,Vb c,I .i64 i] [] (fun r st=>(∃b:Bool,r=B b∧(b=true→Oa d c (c.recs.getD i lZ)))∧st=[]):=by
 have ei:(c.recs.map bi).getD i []=bi (c.recs.getD i lZ):=bg bi c.recs i lZ hi
 have ei2:(c.recs.map bi).getD (i-1) []=bi (c.recs.getD (i-1) lZ):=bg bi c.recs (i-1) lZ (by omega)
 have hm:Ub (c.recs.getD i lZ):=hc _ (by rw[List.getD_eq_getElem?_getD,List.getElem?_eq_getElem hi];simp)
 have hm2:Ub (c.recs.getD (i-1) lZ):=hc _ (by rw[List.getD_eq_getElem?_getD,List.getElem?_eq_getElem (by omega:i-1<c.recs.length)];simp)
 have h1:((i:Int)-1).toNat=i-1:=by omega
 generalize c.recs.getD (i-1) lZ=p at ei2 hm2
 generalize c.recs.getD i lZ=r at ei hm
 have hL:(log d r.frm).length≤d.revs.length:=List.length_filter_le ..
 refine dA Tryz.func123 Tryz.ntmps123 fun x hx=>?_
 try refine nx @ei ?_
 refine dx ([(40,B (before p r))]) (p2 @h1 @ei2) ?_ ?_
 ·simp only[All,List.cons_append,List.nil_append,dG,List.mem_cons,List.not_mem_nil,or_false,forall_eq_or_imp,forall_eq,aH,aB,cu,aG,bG,and_true,true_and,implies_true,List.length_map,List.length_cons,List.length_nil,aK,iZ,cZ]
  repeat' (first|exact trivial|exact Jz _ _ hm2 hm|refine And.intro ?_ ?_|intro _|assumption|rfl|omega|(rw[Bool.not_eq_true'];assumption)|(simp;done)|(simp only[decide_eq_true_eq] at*;omega)|(simp_all;done))
 refine bC ?_
 refine aj ?_ ?_
 ·intro _
  try refine nv ?_
  refine rA [] ?_
  refine⟨?_,rfl⟩
  exact⟨_,rfl,fun h=>by cases h⟩
 intro hh
 have hhow:1≤r.how∧r.how≤4:=by simp at hh;omega
 try refine nv ?_
 refine ax (ι:=Nat×Nq) (I:=fun k=>⟨243,[(3, .c (.ptr 3 0)),(4, .c (.ptr 4 0)),(7, .c (.ptr 7 0)),(8, .c (.ptr 8 0)),(9,B true),(54, .c (.d (.ps 12 (c.edits.map fM)))),(55,I .i64 c.edits.length),(56,I .i64 k.1)],
  [(3, .box ((lL d).map C.d)),(4, .box ((fJ c).map C.d)),(7, .box ((bi r).map C.d)),(8, .box ((fM k.2).map C.d))]⟩)
  (Inv:=fun k=>k.1≤c.edits.length∧(k.2.act=0∨(k.2∈c.edits∧abP r k.2))) (μ:=fun k=>c.edits.length-k.1) (0,dU) ⟨by simp, .inl rfl⟩ ?_ ?_
 ·(refine bI (fun i=>i) rfl ?_ ⟨?_,?_,?_,di hx (by simp[ae,Ab.get])⟩<;>first|(simp only[kE,aK, ↓reduceIte,Nat.reduceEqDiff,reduceCtorEq,dU];done)|simp[aW,aA,ag,Ab.get,aH,cu,aB,bD,aS,aQ,aU,aP,aT,ae,List.flatten,dU])
 rintro⟨k,t⟩ ⟨hk,ht⟩
 simp only at hk ht⊢
 try refine nv ?_
 refine aj ?_ ?_
 ·intro hlt
  have hlt':k<c.edits.length:=by simpa using hlt
  obtain⟨y,hy,he,htk⟩:=round fM c.edits k dU hlt'
  refine bC ?_
  refine gx @he ?_
  refine bC ?_
  refine dw (wr:=true) 400 (by simp only[kk,Nat.reduceAdd,Nat.reduceLT,Nat.reduceEqDiff, ↓reduceIte,reduceCtorEq];first|done|rfl) (by first|exact trivial|(simp only[kO];omega)|(simp[All,dG];first|done|omega)|(simp+contextual [All,dG];first|done|grind)) ?_
  refine bC ?_
  refine aj ?_ ?_
  ·intro h
   have h':abP r y:=by simp at h;exact⟨h.1.1,h.1.2,h.2⟩
   try refine nv ?_
   refine⟨(k+1,y),⟨by simp;omega, .inr ⟨List.mem_of_getElem? hy,h'⟩⟩,by simp;omega,?_⟩
   exact cO
  ·intro h
   try refine nv ?_
   refine⟨(k+1,t),⟨by simp;omega,ht⟩,by simp;omega,?_⟩
   exact cO
 intro _
 try refine nv ?_
 refine ax (ι:=Nat×Bool) (I:=fun k=>⟨243,[(3, .c (.ptr 3 0)),(4, .c (.ptr 4 0)),(7, .c (.ptr 7 0)),(8, .c (.ptr 8 0)),(9,B k.2),(81, .c (.d (.ps 6 (c.recs.map bi)))),(82,I .i64 c.recs.length),(83,I .i64 k.1)],
  [(3, .box ((lL d).map C.d)),(4, .box ((fJ c).map C.d)),(7, .box ((bi r).map C.d)),(8, .box ((fM t).map C.d))]⟩)
  (Inv:=fun k=>k.1≤c.recs.length) (μ:=fun k=>c.recs.length-k.1) (0,true) (by simp) ?_ ?_
 ·exact cO
 rintro⟨k,g⟩ hk
 simp only at hk⊢
 try refine nv ?_
 refine aj ?_ ?_
 ·intro hlt
  have hlt':k<c.recs.length:=by simpa using hlt
  obtain⟨y,hy,he,htk⟩:=round bi c.recs k lZ hlt'
  try refine nx @he ?_
  refine⟨(k+1,bif g then bif bif !decide (y.to=r.to) then true else !decide (y.num=r.num) then true else decide (y.how=3) else false),by simp;omega,by simp;omega,?_⟩
  exact cO
 intro _
 refine bC ?_
 refine dr ([(129,wW (log d r.frm))]) ?_ ?_
 ·exact iw (Sl d r.frm hd)
 refine bC ?_
 refine aj ?_ ?_
 ·intro _
  try refine nv ?_
  refine rA [] ?_
  refine⟨?_,rfl⟩
  exact⟨_,rfl,fun h=>by cases h⟩
 intro hb
 have hb':¬t.act=0∧1≤r.first∧r.first≤r.last∧r.last≤(log d r.frm).length:=by simp at hb;omega
 obtain⟨b0,b1,b2,b3⟩:=hb'
 rcases ht with ht|⟨ht,ht2⟩
 ·exact absurd ht b0
 (repeat (first|refine nv ?_|refine cf (wQ d r.frm r.last hd) ?_|refine cf (Ir d _ hd) ?_))
 refine ax (ι:=Int) (I:=fun n=>⟨243,[(3, .c (.ptr 3 0)),(4, .c (.ptr 4 0)),(7, .c (.ptr 7 0)),(8, .c (.ptr 8 0)),(9,B g),(14, .c (.ptr 14 0)),(16, .c (.ptr 16 0)),(17,I .i64 n)],
  [(3, .box ((lL d).map C.d)),(4, .box ((fJ c).map C.d)),(7, .box ((bi r).map C.d)),(8, .box ((fM t).map C.d)),(14, .box ((aI (rO d r.frm r.last)).map C.d)),(16, .box ((dW (first d (rO d r.frm r.last))).map C.d))]⟩)
  (Inv:=fun n=>r.first≤n∧n≤r.last+1∧∀m,r.first≤m→m<n→¬(rO d r.frm m).act=5∧first d (rO d r.frm m)=first d (rO d r.frm r.last)) (μ:=fun n=>(r.last+1-n).toNat) r.first ⟨by omega,by omega,by omega⟩ ?_ ?_
 ·exact cO
 rintro n ⟨n1,n2,n3⟩
 try refine nv ?_
 refine aj ?_ ?_
 ·intro hlt
  have hlt':n≤r.last:=by simpa using hlt
  (repeat (first|refine nv ?_|refine cf (wQ d r.frm n hd) ?_))
  refine dr ([(167,D9 (first d (rO d r.frm n)))]) ?_ ?_
  ·simp only[All,List.cons_append,List.nil_append,dG,List.mem_cons,List.not_mem_nil,or_false,forall_eq_or_imp,forall_eq,aH,aB,cu,aG,bG,and_true,true_and,implies_true,List.length_map,List.length_cons,List.length_nil,aK,iZ,cZ]
   repeat' (first|exact trivial|exact Ir d _ hd|refine And.intro ?_ ?_|intro _|assumption|rfl|omega|(rw[Bool.not_eq_true'];assumption)|(simp;done)|(simp only[decide_eq_true_eq] at*;omega)|(simp_all;done))
  refine bC ?_
  refine aj ?_ ?_
  ·intro _
   try refine nv ?_
   refine rA [] ?_
   refine⟨?_,rfl⟩
   exact⟨_,rfl,fun h=>by cases h⟩
  intro hn
  have hn':¬(rO d r.frm n).act=5∧first d (rO d r.frm n)=first d (rO d r.frm r.last):=by
   simp at hn
   refine⟨hn.1,?_⟩
   generalize first d (rO d r.frm n)=f1 at hn⊢
   generalize first d (rO d r.frm r.last)=f2 at hn⊢
   cases f1;cases f2;simp at hn⊢;exact hn.2
  try refine nv ?_
  refine⟨n+1,⟨by omega,by omega,?_⟩,by omega,?_⟩
  ·intro m m1 m2
   rcases Int.lt_or_eq_of_le (by omega:m≤n) with h|rfl
   ·exact n3 m m1 h
   ·exact hn'
  ·exact cO
 intro hge
 have hge':n=r.last+1:=by have:¬n≤r.last:=by simpa using hge
                          omega
 have hln:∀m,r.first≤m→m≤r.last→¬(rO d r.frm m).act=5∧first d (rO d r.frm m)=first d (rO d r.frm r.last):=fun m m1 m2=>n3 m m1 (by omega)
 try refine nv ?_
 refine aj ?_ ?_
 ·intro _
  refine bC ?_
  refine dr ([(178,LG (made c t)),(179, .tup [PQ ((jG d (made c t)).getD af),pB (jG d (made c t)).isSome])]) ?_ ?_
  ·simp only[All,List.cons_append,List.nil_append,dG,List.mem_cons,List.not_mem_nil,or_false,forall_eq_or_imp,forall_eq,aH,aB,cu,aG,bG,and_true,true_and,implies_true,List.length_map,List.length_cons,List.length_nil,aK,iZ,cZ]
   repeat' (first|exact trivial|exact Es c t|exact Uk d _ hd|refine And.intro ?_ ?_|intro _|assumption|rfl|omega|(rw[Bool.not_eq_true'];assumption)|(simp;done)|(simp only[decide_eq_true_eq] at*;omega)|(simp_all;done))
  refine bC ?_
  refine dr ([(184,D9 (first d ((jG d (made c t)).getD af)))]) ?_ ?_
  ·simp only[All,List.cons_append,List.nil_append,dG,List.mem_cons,List.not_mem_nil,or_false,forall_eq_or_imp,forall_eq,aH,aB,cu,aG,bG,and_true,true_and,implies_true,List.length_map,List.length_cons,List.length_nil,aK,iZ,cZ]
   repeat' (first|exact trivial|exact Ir d _ hd|refine And.intro ?_ ?_|intro _|assumption|rfl|omega|(rw[Bool.not_eq_true'];assumption)|(simp;done)|(simp only[decide_eq_true_eq] at*;omega)|(simp_all;done))
  refine bC ?_
  refine aj ?_ ?_
  ·intro _
   try refine nv ?_
   refine rA [] ?_
   refine⟨?_,rfl⟩
   exact⟨_,rfl,fun h=>by cases h⟩
  intro hq
  have hq':¬first d ((jG d (made c t)).getD af)=first d (rO d r.frm r.last):=by
   intro e
   rw[e] at hq
   simp at hq
  have hok:Oa d c r:=⟨hhow,b1,b2,b3,hln,t,ht,ht2,fun _=>hq'⟩
  try refine nv ?_
  refine aj ?_ ?_
  ·intro _
   try refine nv ?_
   refine aj ?_ ?_
   ·intro _
    try refine nv ?_
    refine rA [] ?_
    refine⟨?_,rfl⟩
    exact⟨_,rfl,fun h=>by cases h⟩
   intro _
   try refine nv ?_
   refine aj ?_ ?_
   ·intro _
    (repeat (first|refine nv ?_|refine cf (wQ d r.to t.prev hd) ?_))
    refine rA [] ?_
    refine⟨?_,rfl⟩
    exact⟨_,rfl,fun _=>hok⟩
   ·intro _
    try refine nv ?_
    refine rA [] ?_
    refine⟨?_,rfl⟩
    exact⟨_,rfl,fun _=>hok⟩
  ·intro _
   try refine nv ?_
   refine aj ?_ ?_
   ·intro _
    (repeat (first|refine nv ?_|refine cf (wQ d r.to t.prev hd) ?_))
    refine rA [] ?_
    refine⟨?_,rfl⟩
    exact⟨_,rfl,fun _=>hok⟩
   ·intro _
    try refine nv ?_
    refine rA [] ?_
    refine⟨?_,rfl⟩
    exact⟨_,rfl,fun _=>hok⟩
 ·intro ha
  have ha':t.act=1:=by simpa using ha
  have hok:Oa d c r:=⟨hhow,b1,b2,b3,hln,t,ht,ht2,fun h=>absurd ha' h⟩
  try refine nv ?_
  refine aj ?_ ?_
  ·intro _
   try refine nv ?_
   refine aj ?_ ?_
   ·intro _
    try refine nv ?_
    refine rA [] ?_
    refine⟨?_,rfl⟩
    exact⟨_,rfl,fun h=>by cases h⟩
   intro _
   try refine nv ?_
   refine aj ?_ ?_
   ·intro _
    (repeat (first|refine nv ?_|refine cf (wQ d r.to t.prev hd) ?_))
    refine rA [] ?_
    refine⟨?_,rfl⟩
    exact⟨_,rfl,fun _=>hok⟩
   ·intro _
    try refine nv ?_
    refine rA [] ?_
    refine⟨?_,rfl⟩
    exact⟨_,rfl,fun _=>hok⟩
  ·intro _
   try refine nv ?_
   refine aj ?_ ?_
   ·intro _
    (repeat (first|refine nv ?_|refine cf (wQ d r.to t.prev hd) ?_))
    refine rA [] ?_
    refine⟨?_,rfl⟩
    exact⟨_,rfl,fun _=>hok⟩
   ·intro _
    try refine nv ?_
    refine rA [] ?_
    refine⟨?_,rfl⟩
    exact⟨_,rfl,fun _=>hok⟩
end Go.Proofs.YtcpgicfphakdaaaGreatDoor
