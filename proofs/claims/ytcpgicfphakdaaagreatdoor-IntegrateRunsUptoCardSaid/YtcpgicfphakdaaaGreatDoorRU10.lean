/- A part of the proof. -/
import Derived.Test.YtcpgicfphakdaaaGreatDoorRP14
set_option maxRecDepth 100000
set_option maxHeartbeats 8000000
set_option linter.all false
namespace Go.Proofs.YtcpgicfphakdaaaGreatDoor
open Go.Ab Tys
variable [Dr]
@[reducible] def rY (L:iE) (el:List iV) (em:List uj):List (Nat×AO):=
 [(1000,XH L),(1001, .map ((bM kF vI L.index).map fC)),(1002, .map (el.map fC)),(1003,aK 1 (L.prev.map eI)),(1004,aK 1 (L.fst.map eI)),(1005, .map em),(1006,aK 1 (L.car.map iW)),(1007,aK 1 (L.con.map iW)),(1008,aK 1 (L.cre.map iW))]
theorem vW (l:List Int) (i:Nat) (v:Int):((l.map eI).map fun l=>l.map C.d).set i (C.d (.v (.int .i64 v))::List.drop 1 (((l.map eI).map fun l=>l.map C.d).getD i []))=((l.set i v).map eI).map fun l=>l.map C.d:=
 EX eI l i v 1 (fun _=>rfl)
theorem pq (l:List Int) (i:Nat) (v:Int):((l.map eI).map fun l=>l.map C.d).set i [C.d (.v (.int .i64 v))]=((l.set i v).map eI).map fun l=>l.map C.d:=by
 simp[List.map_set]
theorem dJ (dom:Nat→Bool) (y:D) (v:Bool×List C):∀es:List iV,bP dom ((dH (false,[C.d y]) v (es.map fC)).map (fun x=>x.1))=True
 |[]=>by simp[dH,bP,aB,cu]
 |e::es=>by
  have ih:=dJ dom y v es
  simp only[List.map_cons,dH]
  split
  ·simp only[List.map_cons,bP,Ug];simp[aB,cu]
  ·simp only[List.map_cons,bP,ih,and_true];exact eq_true (OA _ _)
theorem dI (dom:Nat→Bool) (y:D) (q:C):∀es:List iV,bP dom ((dH (false,[C.d y]) (false,[q]) (es.map fC)).map (fun x=>x.2))=cu dom q
 |[]=>by simp[dH,bP,aB]
 |e::es=>by
  have ih:=dI dom y q es
  simp only[List.map_cons,dH]
  split
  ·simp only[List.map_cons,bP,Uc];simp[aB]
  ·simp only[List.map_cons,bP,ih];exact propext ⟨fun h=>h.2,fun h=>⟨OA _ _,h⟩⟩
theorem wB (k v:Bool×List C):∀es:List uj,jE k.2 k.2=true→fD k.2 (dH k v es)=some v
 |[],h=>by simp[dH,fD,h]
 |e::es,h=>by
  simp only[dH]
  by_cases c:jE k.2 e.1.2=true
  ·rw[if_pos c];simp[fD,h]
  ·rw[if_neg c];simp only[fD];rw[if_neg c];exact wB k v es h
theorem EK (k v w:Bool×List C):∀es:List uj,jE k.2 k.2=true→dH k w (dH k v es)=dH k w es
 |[],h=>by simp[dH,h]
 |e::es,h=>by
  simp only[dH]
  by_cases c:jE k.2 e.1.2=true
  ·rw[if_pos c];simp[dH,h,c]
  ·rw[if_neg c];simp only[dH];rw[if_neg c,EK k v w es h]
   simp[c]
def z64.kk:=p3 (p13 kB kG kS kM Tryz.ntmps64 Tryz.underlying55 pM iK qW nI zt oC oI) (p13 jq gU kW EO EN qU yI yE qR EQ PN DT Jp) (p11 Un x8 uz vT nT IR WP kC aa0 AX Tryz.results64)
open z64 in
theorem Wj (L:iE) (hL:xK L) (el em:List iV) (i:Nat) (v:Rev) (hv:L.revs[i]? =some v) (h5:v.act=5) (hn:1≤v.num∧v.num≤1000000):
 AC Tryz.prog 64 [.c (.ptr 1000 0),I .i64 i] (jh L el em) (fun _ st=>st=jh (aV L i v) el em):=by
 have hil:i<L.revs.length:=(List.getElem?_eq_some_iff.1 hv).1
 have er:(L.revs.map aI).getD i []=aI v:=by rw[bg aI L.revs i af hil,List.getD,hv];rfl
 have hN:=hL.n
 have hp:=hL.prev
 have hf:=hL.fst
 have ep:=uG eI L.prev i 0 (by omega)
 have ef:=uG eI L.fst i 0 (by omega)
 refine dA Tryz.func64 Tryz.ntmps64 fun x hx=>?_
 refine bC ?_
 refine dx ([]) (p2 @vW @pq) ?_ ?_
 ·exact vO
 try refine nx (p2 @er @h5) ?_
 refine aj ?_ ?_
 rotate_left
 ·intro h;cases h
 intro _
 try refine nv ?_
 have hE:aV L i v=⟨L.revs,L.index,L.prev.set i (-1),L.fst.set i (-1),L.car,L.con,L.cre⟩:=by simp[aV,h5]
 rw[hE]
 generalize L.prev.set i (-1)=P'
 generalize L.fst.set i (-1)=F'
 refine rV ((jh ⟨L.revs,L.index,P',F',L.car,L.con,L.cre⟩ el em)) ?_
 rfl
open z64 in
theorem Wy (L:iE) (hL:xK L) (el em:List iV) (i:Nat) (v:Rev) (hv:L.revs[i]? =some v) (h5:¬v.act=5) (hn:1≤v.num∧v.num≤1000000) (hk:ai L.index (df v)=none)
 (hty:∀e∈em.map fC,e.1.1=false∧cZ [.int .i64] e.1.2) (hfi:fD [C.d (.v (.int .i64 i))] (em.map fC)=none):
 AC Tryz.prog 64 [.c (.ptr 1000 0),I .i64 i] (jh L el em) (fun _ st=>st=rY (aV L i v) el (dH (false,[C.d (.v (.int .i64 i))]) (false,[.ms 115 1 0 1]) (em.map fC))++[(115,aK 1 ([(i:Int)].map eI))]):=by
 have hil:i<L.revs.length:=(List.getElem?_eq_some_iff.1 hv).1
 have er:(L.revs.map aI).getD i []=aI v:=by rw[bg aI L.revs i af hil,List.getD,hv];rfl
 have hN:=hL.n
 have hp:=hL.prev
 have hf:=hL.fst
 have ep:=uG eI L.prev i 0 (by omega)
 have ef:=uG eI L.fst i 0 (by omega)
 have ef0:=uG eI (L.fst.set i i) 0 0 (by simp;omega)
 have efi:(List.map (fun l=>List.map C.d l) (List.map eI (L.fst.set i i))).getD i []=[C.d (.v (.int .i64 i))]:=by rw[uG eI (L.fst.set i i) i 0 (by simp;omega)];simp[List.getD,show i<L.fst.length by omega]
 refine dA Tryz.func64 Tryz.ntmps64 fun x hx=>?_
 refine bC ?_
 refine dx ([]) (p2 @vW @pq) ?_ ?_
 ·exact vO
 try refine nx @er ?_
 refine aj ?_ ?_
 ·intro h;exact absurd (by simpa using h) h5
 intro _
 try refine nx @er ?_
 refine aj ?_ ?_
 ·intro h
  have hb:df v=⟨ByteArray.empty,0⟩:=by simp[df,show v.act=1 by simpa using h,xH]
  rw[hb] at hk
  (repeat (first|refine Eb ?_|refine BP (wr:=false) (by simp only[kk,Nat.reduceAdd,Nat.reduceLT,Nat.reduceEqDiff, ↓reduceIte,reduceCtorEq,vW,pq,List.set_set];first|done|rfl) ?_))
  refine BO (wr:=false) ([]:List (Nat×AV)) (by simp only[kD,kk,Nat.reduceAdd,Nat.reduceLT,Nat.reduceEqDiff, ↓reduceIte,reduceCtorEq,lH,hk,Option.map_none,Option.isSome];first|done|rfl) ?_ ?_
  ·exact iw @xU
  try refine nx (p2 @ef0 @Int.toNat_zero) ?_
  refine aj ?_ ?_
  ·intro h;cases h
  intro _
  try refine nx @efi ?_
  refine BO (wr:=false) ([]:List (Nat×AV)) (by simp only[kD,kk,Nat.reduceAdd,Nat.reduceLT,Nat.reduceEqDiff, ↓reduceIte,reduceCtorEq,hfi,Option.getD];first|done|rfl) ?_ ?_
  ·exact iw @hty
  refine bC ?_
  have hE:aV L i v=⟨L.revs,L.index,L.prev.set i (-1),L.fst.set i i,L.car,L.con,L.cre⟩:=by simp[aV,h5,lC,gK,qH,hb,hk]
  rw[hE]
  generalize L.prev.set i (-1)=P'
  generalize L.fst.set i (i:Int)=F'
  refine uy (by first|exact .inl rfl|exact .inr rfl) (by simp only[kR,Tryz.results64, ↓reduceIte,Nat.reduceEqDiff,reduceCtorEq];first|done|rfl) (by first|exact trivial|(simp only[kO];omega)|(simp[All,dG];first|done|omega)|(simp+contextual [All,dG];first|done|grind)) (rY ⟨L.revs,L.index,P',F',L.car,L.con,L.cre⟩ el (dH (false,[C.d (.v (.int .i64 i))]) (false,[.ms 115 1 0 1]) (em.map fC))++[(115,aK 1 ([(i:Int)].map eI))]) ⟨by simp[Ab.get,aA,dJ,dI],by simp,by simp[bD,aS,aQ,aU,aP,aT,ag,aB,cu,ae,Ab.get,dJ,dI],di hx (by simp[ae,Ab.get,dJ,dI])⟩ (by simp[aH,bP,aB,cu,ae,Ab.get,dJ,dI]) ?_
  rfl
 intro _
 try refine nx @er ?_
 refine aj ?_ ?_
 ·intro h
  have hb:df v=⟨v.frm,v.fnum⟩:=by simp[df,show v.act=4 by simpa using h]
  rw[hb] at hk
  (repeat (first|refine Eb ?_|refine BP (wr:=false) (by simp only[kk,Nat.reduceAdd,Nat.reduceLT,Nat.reduceEqDiff, ↓reduceIte,reduceCtorEq,vW,pq,List.set_set];first|done|rfl) ?_))
  refine BO (wr:=false) ([]:List (Nat×AV)) (by simp only[kD,kk,Nat.reduceAdd,Nat.reduceLT,Nat.reduceEqDiff, ↓reduceIte,reduceCtorEq,lH,hk,Option.map_none,Option.isSome];first|done|rfl) ?_ ?_
  ·exact iw @xU
  try refine nx (p2 @ef0 @Int.toNat_zero) ?_
  refine aj ?_ ?_
  ·intro h;cases h
  intro _
  try refine nx @efi ?_
  refine BO (wr:=false) ([]:List (Nat×AV)) (by simp only[kD,kk,Nat.reduceAdd,Nat.reduceLT,Nat.reduceEqDiff, ↓reduceIte,reduceCtorEq,hfi,Option.getD];first|done|rfl) ?_ ?_
  ·exact iw @hty
  refine bC ?_
  have hE:aV L i v=⟨L.revs,L.index,L.prev.set i (-1),L.fst.set i i,L.car,L.con,L.cre⟩:=by simp[aV,h5,lC,gK,qH,hb,hk]
  rw[hE]
  generalize L.prev.set i (-1)=P'
  generalize L.fst.set i (i:Int)=F'
  refine uy (by first|exact .inl rfl|exact .inr rfl) (by simp only[kR,Tryz.results64, ↓reduceIte,Nat.reduceEqDiff,reduceCtorEq];first|done|rfl) (by first|exact trivial|(simp only[kO];omega)|(simp[All,dG];first|done|omega)|(simp+contextual [All,dG];first|done|grind)) (rY ⟨L.revs,L.index,P',F',L.car,L.con,L.cre⟩ el (dH (false,[C.d (.v (.int .i64 i))]) (false,[.ms 115 1 0 1]) (em.map fC))++[(115,aK 1 ([(i:Int)].map eI))]) ⟨by simp[Ab.get,aA,dJ,dI],by simp,by simp[bD,aS,aQ,aU,aP,aT,ag,aB,cu,ae,Ab.get,dJ,dI],di hx (by simp[ae,Ab.get,dJ,dI])⟩ (by simp[aH,bP,aB,cu,ae,Ab.get,dJ,dI]) ?_
  rfl
 ·intro h
  have hb:df v=⟨v.path,v.num-1⟩:=by simp_all[df]
  rw[hb] at hk
  (repeat (first|refine Eb ?_|refine BP (wr:=false) (by simp only[kk,Nat.reduceAdd,Nat.reduceLT,Nat.reduceEqDiff, ↓reduceIte,reduceCtorEq,vW,pq,List.set_set];first|done|rfl) ?_))
  refine BO (wr:=false) ([]:List (Nat×AV)) (by simp only[kD,kk,Nat.reduceAdd,Nat.reduceLT,Nat.reduceEqDiff, ↓reduceIte,reduceCtorEq,lH,hk,Option.map_none,Option.isSome];first|done|rfl) ?_ ?_
  ·exact iw @xU
  try refine nx (p2 @ef0 @Int.toNat_zero) ?_
  refine aj ?_ ?_
  ·intro h;cases h
  intro _
  try refine nx @efi ?_
  refine BO (wr:=false) ([]:List (Nat×AV)) (by simp only[kD,kk,Nat.reduceAdd,Nat.reduceLT,Nat.reduceEqDiff, ↓reduceIte,reduceCtorEq,hfi,Option.getD];first|done|rfl) ?_ ?_
  ·exact iw @hty
  refine bC ?_
  have hE:aV L i v=⟨L.revs,L.index,L.prev.set i (-1),L.fst.set i i,L.car,L.con,L.cre⟩:=by simp[aV,h5,lC,gK,qH,hb,hk]
  rw[hE]
  generalize L.prev.set i (-1)=P'
  generalize L.fst.set i (i:Int)=F'
  refine uy (by first|exact .inl rfl|exact .inr rfl) (by simp only[kR,Tryz.results64, ↓reduceIte,Nat.reduceEqDiff,reduceCtorEq];first|done|rfl) (by first|exact trivial|(simp only[kO];omega)|(simp[All,dG];first|done|omega)|(simp+contextual [All,dG];first|done|grind)) (rY ⟨L.revs,L.index,P',F',L.car,L.con,L.cre⟩ el (dH (false,[C.d (.v (.int .i64 i))]) (false,[.ms 115 1 0 1]) (em.map fC))++[(115,aK 1 ([(i:Int)].map eI))]) ⟨by simp[Ab.get,aA,dJ,dI],by simp,by simp[bD,aS,aQ,aU,aP,aT,ag,aB,cu,ae,Ab.get,dJ,dI],di hx (by simp[ae,Ab.get,dJ,dI])⟩ (by simp[aH,bP,aB,cu,ae,Ab.get,dJ,dI]) ?_
  rfl
theorem Zp {dom:Nat→Bool}:∀{caps:List Cap} {c:Cap},aG dom caps→c∈caps→aH dom (.c c.toC)
 |a::l,c,h,hc=>by
  rcases List.mem_cons.1 hc with rfl|hc
  ·cases c<;>simpa[aG,bG,Cap.toC,aH,cu] using h.1
  ·exact Zp h.2 hc
def z95.kk:=p2 (p9 kB kG kFn Tryz.ntmps95 Tryz.underlying27 ny iK nI uM) (p8 jq gU x8 uz uB nT kC Tryz.results95)
open z95 in
theorem OO (d:bJ) (hd:d.revs.length≤1000000) (p:ByteArray) (f:Nat) (caps:List Cap) (q:Rev→Bool) (hcl:∀dom,aG dom caps)
 (hq:∀r:Rev,AC Tryz.prog f (LG r::caps.map fun c=> .c c.toC) [] (fun x st=>x=B (q r)∧st=[])):
 AC Tryz.prog 95 [uY d,Str p, .c (.fn f caps)] [] (fun r st=>r= .tup [PQ ((grt (fun r=>decide (r.path=p)&&q r) d.revs).getD af),pB (grt (fun r=>decide (r.path=p)&&q r) d.revs).isSome]∧st=[]):=by
 refine dA Tryz.func95 Tryz.ntmps95 fun x hx=>?_
 try refine nv ?_
 refine ax (ι:=Nat×Option Rev) (I:=fun i=>⟨43,[(1,Str p),(2, .c (.fn f caps)),(6, .c (.ptr 6 0)),(8, .c (.ptr 8 0)),(9,B i.2.isSome),(13,wW d.revs),(14,I .i64 d.revs.length),(15,I .i64 i.1)],
  [(6, .box ((aI af).map C.d)),(8, .box ((aI (i.2.getD af)).map C.d))]⟩)
  (Inv:=fun i=>i.1≤d.revs.length∧i.2=grt (fun r=>decide (r.path=p)&&q r) (d.revs.take i.1)) (μ:=fun i=>d.revs.length-i.1) (0,none) ⟨by simp,rfl⟩ ?_ ?_
 ·(refine bI (fun i=>i) rfl ?_ ⟨?_,?_,?_,di hx (by simp[ae,Ab.get])⟩<;>first|(simp only[kE,aK, ↓reduceIte,Nat.reduceEqDiff,reduceCtorEq,af,hcl];done)|simp[aW,aA,ag,Ab.get,aH,cu,aB,bD,aS,aQ,aU,aP,aT,ae,List.flatten,af,hcl])
 rintro⟨k,acc⟩ ⟨hk,ha⟩
 simp only at hk ha⊢
 try refine nv ?_
 refine aj ?_ ?_
 ·intro hlt
  have hlt':k<d.revs.length:=by simpa using hlt
  obtain⟨v,hv,he,htk⟩:=round aI d.revs k af hlt'
  have hst:grt (fun r=>decide (r.path=p)&&q r) (d.revs.take (k+1))=wZ (fun r=>decide (r.path=p)&&q r) acc v:=by rw[htk,ha];simp[grt,List.foldl_append]
  have hqv:=hq v
  have hcl2:∀a∈caps.map (fun c=>AV.c c.toC),aH (fun _=>false) a:=by
   intro a ha2
   obtain⟨c,hc,rfl⟩:=List.mem_map.1 ha2
   exact Zp (hcl _) hc
  refine bC ?_
  refine gx @he ?_
  try refine nv ?_
  refine Py (wr:=false) ([(26,B (q v))]:List (Nat×AV)) rfl (by simp only[kD,kk,Nat.reduceAdd,Nat.reduceLT,Nat.reduceEqDiff, ↓reduceIte,reduceCtorEq];first|done|rfl) ?_ ?_
  ·simp only[All,List.cons_append,List.nil_append,dG,List.mem_cons,List.not_mem_nil,or_false,forall_eq_or_imp,forall_eq,aH,aB,cu,aG,bG,and_true,true_and,implies_true,List.length_map,List.length_cons,List.length_nil,aK,iZ,cZ]
   repeat' (first|exact trivial|exact hqv|exact hcl2 _ (by assumption)|refine And.intro ?_ ?_|intro _|assumption|rfl|omega|(simp;done)|(simp_all;done))
  simp only[kP,Nat.reduceEqDiff, ↓reduceIte,reduceCtorEq]
  try refine nv ?_
  refine aj ?_ ?_
  ·intro h
   try refine nv ?_
   refine⟨(k+1,some v),⟨by simp;omega,?_⟩,by simp;omega,?_⟩
   ·rw[hst]
    clear ha hst
    simp only[wZ]
    rw[if_pos]
    cases acc<;>simp_all
   ·(refine bI (fun i=>i) rfl ?_ ⟨?_,?_,?_,di hx (by simp[ae,Ab.get])⟩<;>first|(simp only[kE,aK, ↓reduceIte,Nat.reduceEqDiff,reduceCtorEq,af,hcl];done)|simp[aW,aA,ag,Ab.get,aH,cu,aB,bD,aS,aQ,aU,aP,aT,ae,List.flatten,af,hcl])
  ·intro h
   try refine nv ?_
   refine⟨(k+1,acc),⟨by simp;omega,?_⟩,by simp;omega,?_⟩
   ·rw[hst]
    clear ha hst
    simp only[wZ]
    rw[if_neg]
    cases acc<;>simp_all
   ·(refine bI (fun i=>i) rfl ?_ ⟨?_,?_,?_,di hx (by simp[ae,Ab.get])⟩<;>first|(simp only[kE,aK, ↓reduceIte,Nat.reduceEqDiff,reduceCtorEq,af,hcl];done)|simp[aW,aA,ag,Ab.get,aH,cu,aB,bD,aS,aQ,aU,aP,aT,ae,List.flatten,af,hcl])
 ·intro hge
  have hge':k=d.revs.length:=by have:¬k<d.revs.length:=by simpa using hge
                                omega
  subst hge'
  rw[List.take_length] at ha
  rw[←ha]
  try refine nv ?_
  refine rA [] ?_
  refine⟨?_,rfl⟩
  rfl
def z96.kk:=p7 kB Tryz.ntmps96 iK gU uz nT Tryz.results96
open z96 in
theorem aat (r:Rev) (n:Int):AC Tryz.prog 96 [LG r, .c (.pp [.v (.int .i64 n)])] [] (fun x st=>x=B (decide (r.num=n))∧st=[]):=by
 refine dA Tryz.func96 Tryz.ntmps96 fun x hx=>?_
 try refine nv ?_
 refine rA [] ?_
 refine⟨?_,rfl⟩
 rfl
def z40.kk:=p9 kB kFn Tryz.ntmps40 ny iK uz uB nT Tryz.results40
open z40 in
theorem aa6 (d:bJ) (hd:d.revs.length≤1000000) (p:ByteArray) (n:Int):AC Tryz.prog 40 [uY d,Str p,I .i64 n] [] (fun r st=>r= .tup [PQ ((lF d p n).getD af),pB (lF d p n).isSome]∧st=[]):=by
 have hG:=OO d hd p 96 [Cap.pp [.v (.int .i64 n)]] (fun r=>decide (r.num=n)) (fun _=>by simp[aG,bG]) (fun r=>aat r n)
 rw[aaB d p n] at hG
 refine dA Tryz.func40 Tryz.ntmps40 fun x hx=>?_
 refine bC ?_
 refine gg ?_
 refine bC ?_
 refine bz (qp (i:=5) (id:=5) (cs:=[.v (.int .i64 n)]) rfl rfl) ?_
 refine dZ ?_
 (repeat (first|refine nv ?_|refine cf (hG) ?_))
 refine rA [] ?_
 refine⟨?_,rfl⟩
 rfl
def z13.kk:=p2 (p12 kB kG kS Tryz.ntmps13 Tryz.underlying27 ny pM iK nI uM oC oI) (p12 jq gU kW EO EN x8 uz uB vT nT kC Tryz.results13)
open z13 in
theorem Zy (d:bJ) (hd:d.revs.length≤1000000) (f:bf):AC Tryz.prog 13 [uY d,D9 f] [] (fun r st=>r=wW (jD d f)∧st=[]):=by
 have hG:=aa6 d hd f.path f.num
 cases hgt:lF d f.path f.num with
 |none=>
  rw[hgt] at hG
  simp only[PQ,pB,Option.isSome,Option.getD] at hG
  have hl:jD d f=[]:=by simp[jD,hgt]
  rw[hl]
  refine dA Tryz.func13 Tryz.ntmps13 fun x hx=>?_
  (repeat (first|refine nv ?_|refine cf (hG) ?_))
  refine aj ?_ ?_
  rotate_left
  ·intro h;cases h
  intro _
  refine bC ?_
  refine gg ?_
  refine bz (ik (i:=4) 12 rfl) ?_
  refine dZ ?_
  try refine nv ?_
  refine rA [] ?_
  refine⟨?_,rfl⟩
  rfl
 |some v0=>
  rw[hgt] at hG
  simp only[PQ,pB,Option.isSome,Option.getD] at hG
  refine dA Tryz.func13 Tryz.ntmps13 fun x hx=>?_
  (repeat (first|refine nv ?_|refine cf (hG) ?_))
  refine aj ?_ ?_
  ·intro h
   have h1:¬v0.act=1:=by simpa using h
   have hl:jD d f=[]:=by simp[jD,hgt,h1]
   rw[hl]
   refine bC ?_
   refine gg ?_
   refine bz (ik (i:=4) 12 rfl) ?_
   refine dZ ?_
   try refine nv ?_
   refine rA [] ?_
   refine⟨?_,rfl⟩
   rfl
  intro h
  have h1:v0.act=1:=by simpa using h
  have hl:jD d f=d.revs.foldl lK [v0]:=by simp[jD,hgt,h1]
  rw[hl]
  try refine nv ?_
  refine ax (ι:=Nat×List Rev) (I:=fun i=>⟨88,[(7, .c (.ms 100 12 0 i.2.length)),(30,wW d.revs),(31,I .i64 d.revs.length),(32,I .i64 i.1)],[(100,aK 12 (i.2.map aI))]⟩)
   (Inv:=fun i=>i.1≤d.revs.length∧i.2=(d.revs.take i.1).foldl lK [v0]∧1≤i.2.length∧i.2.length≤i.1+1) (μ:=fun i=>d.revs.length-i.1) (0,[v0]) ⟨by simp,by simp,by simp,by simp⟩ ?_ ?_
  ·exact Af (fun i=>if i=100 then 28 else i)
  rintro⟨k,acc⟩ ⟨hk,ha,hp1,hp2⟩
  simp only at hk ha hp1 hp2⊢
  try refine nv ?_
  refine aj ?_ ?_
  ·intro hlt
   have hlt':k<d.revs.length:=by simpa using hlt
   obtain⟨v,hv,he,htk⟩:=round aI d.revs k af hlt'
   have hst:(d.revs.take (k+1)).foldl lK [v0]=lK acc v:=by rw[htk,List.foldl_append,←ha];rfl
   have hb:(acc.getLast?).getD af=acc.getD (acc.length-1) af:=by rw[List.getLast?_eq_getElem?,List.getD_eq_getElem?_getD]
   have ek:=uG aI acc (acc.length-1) af (by omega)
   have hi:((acc.length:Int)-1).toNat=acc.length-1:=by omega
   generalize hbb:acc.getD (acc.length-1) af=b at ek
   rw[hbb] at hb
   have hst2:(d.revs.take (k+1)).foldl lK [v0]=if pG b v then acc++[v] else acc:=by rw[hst,lK,hb]
   refine bC ?_
   refine gx @he ?_
   try refine nv ?_
   refine aj ?_ ?_
   ·intro h2
    have h2':(decide (v.act=5)||decide (v.act=1))=true:=by rw[←h2];cases decide (v.act=5)<;>rfl
    have hn:pG b v=false:=by
     simp only[pG]
     rw[h2'];rfl
    try refine nv ?_
    refine⟨(k+1,acc),⟨by simp;omega,by rw[hst2,hn];rfl,hp1,by simp;omega⟩,by simp;omega,?_⟩
    exact cO
   intro h2
   have h2':(decide (v.act=5)||decide (v.act=1))=false:=by rw[←h2];cases decide (v.act=5)<;>rfl
   try refine nx (p3 @ek @hi @Nat.zero_add) ?_
   refine aj ?_ ?_
   ·intro h4
    have h4':v.act=4:=by simpa using h4
    try refine nv ?_
    refine aj ?_ ?_
    ·intro h5
     have hn:pG b v=true:=by
      simp only[pG,if_pos h4']
      rw[h2',Bool.not_false,Bool.true_and,←h5]
      cases decide (v.frm=b.path)<;>rfl
     try refine nv ?_
     refine⟨(k+1,acc++[v]),⟨by simp;omega,by rw[hst2,hn];rfl,by simp,by simp;omega⟩,by simp;omega,?_⟩
     exact Af (fun i=>if i=100 then 68 else i)
    intro h5
    have hn:pG b v=false:=by
     simp only[pG,if_pos h4']
     rw[h2',Bool.not_false,Bool.true_and,←h5]
     cases decide (v.frm=b.path)<;>rfl
    try refine nv ?_
    refine⟨(k+1,acc),⟨by simp;omega,by rw[hst2,hn];rfl,hp1,by simp;omega⟩,by simp;omega,?_⟩
    exact cO
   intro h4
   have h4':¬v.act=4:=by simpa using h4
   refine bC ?_
   refine dw (wr:=true) 400 (by simp only[kk,Nat.reduceAdd,Nat.reduceLT,Nat.reduceEqDiff, ↓reduceIte,reduceCtorEq];first|done|rfl) (by first|exact trivial|(simp only[kO];omega)|(simp[All,dG];first|done|omega)|(simp+contextual [All,dG];first|done|grind)) ?_
   try refine nv ?_
   refine aj ?_ ?_
   ·intro h5
    have hn:pG b v=true:=by
     simp only[pG,if_neg h4',wr]
     rw[h2',Bool.not_false,Bool.true_and,←h5]
     cases decide (v.path=b.path)<;>rfl
    try refine nv ?_
    refine⟨(k+1,acc++[v]),⟨by simp;omega,by rw[hst2,hn];rfl,by simp,by simp;omega⟩,by simp;omega,?_⟩
    exact Af (fun i=>if i=100 then 85 else i)
   intro h5
   have hn:pG b v=false:=by
    simp only[pG,if_neg h4',wr]
    rw[h2',Bool.not_false,Bool.true_and,←h5]
    cases decide (v.path=b.path)<;>rfl
   try refine nv ?_
   refine⟨(k+1,acc),⟨by simp;omega,by rw[hst2,hn];rfl,hp1,by simp;omega⟩,by simp;omega,?_⟩
   exact cO
  intro hge
  have hge':k=d.revs.length:=by have:¬k<d.revs.length:=by simpa using hge
                                omega
  subst hge'
  rw[List.take_length] at ha
  rw[←ha]
  refine bC ?_
  refine bz (aZ (i:=7) (id:=100) (ys:=acc.map aI) rfl rfl (by simp)) ?_
  refine dZ ?_
  try refine nv ?_
  refine rA [] ?_
  refine⟨?_,rfl⟩
  rfl
end Go.Proofs.YtcpgicfphakdaaaGreatDoor
