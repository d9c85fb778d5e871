/- A part of the proof. -/
import Derived.Test.YtcpgicfphakdaaaGreatDoorRT7a
set_option linter.all false
namespace Go.Proofs.YtcpgicfphakdaaaGreatDoor
open Go.Ab Tys
variable [Dr]
@[reducible] def uw (L:jv) (el:List iT) (em:List wH):List (Nat×AO):=
 [(1000,ZH L),(1001, .map ((bJ kF vI L.index).map fA)),(1002, .map (el.map fA)),(1003,aQ 1 (L.prev.map eI)),(1004,aQ 1 (L.fst.map eI)),(1005, .map em),(1006,aQ 1 (L.car.map jM)),(1007,aQ 1 (L.con.map jM)),(1008,aQ 1 (L.cre.map jM))]
theorem CP (l:List Int) (i:Nat) (v:Int):((l.map eI).map fun l=>l.map C.d).set i (C.d (.v (.int .i64 v))::List.drop 1 (((l.map eI).map fun l=>l.map C.d).getD i []))=((l.set i v).map eI).map fun l=>l.map C.d:=
 CE eI l i v 1 (fun _=>rfl)
theorem wC (l:List Int) (i:Nat) (v:Int):((l.map eI).map fun l=>l.map C.d).set i [C.d (.v (.int .i64 v))]=((l.set i v).map eI).map fun l=>l.map C.d:=by
 simp[List.map_set]
theorem dP (dom:Nat→Bool) (y:D) (v:Bool×List C):∀es:List iT,cu dom ((dS (false,[C.d y]) v (es.map fA)).map (fun x=>x.1))=True
 |[]=>by simp[dS,cu,aN,dH]
 |e::es=>by
  have ih:=dP dom y v es
  simp only[List.map_cons,dS]
  split
  ·simp only[List.map_cons,cu,Vl];simp[aN,dH]
  ·simp only[List.map_cons,cu,ih,and_true];exact eq_true (Pz _ _)
theorem dQ (dom:Nat→Bool) (y:D) (q:C):∀es:List iT,cu dom ((dS (false,[C.d y]) (false,[q]) (es.map fA)).map (fun x=>x.2))=dH dom q
 |[]=>by simp[dS,cu,aN]
 |e::es=>by
  have ih:=dQ dom y q es
  simp only[List.map_cons,dS]
  split
  ·simp only[List.map_cons,cu,Uy];simp[aN]
  ·simp only[List.map_cons,cu,ih];exact propext ⟨fun h=>h.2,fun h=>⟨Pz _ _,h⟩⟩
theorem IU (k v:Bool×List C):∀es:List wH,nT k.2 k.2=true→fP k.2 (dS k v es)=some v
 |[],h=>by simp[dS,fP,h]
 |e::es,h=>by
  simp only[dS]
  by_cases c:nT k.2 e.1.2=true
  ·rw[if_pos c];simp[fP,h]
  ·rw[if_neg c];simp only[fP];rw[if_neg c];exact IU k v es h
theorem Nh (k v w:Bool×List C):∀es:List wH,nT k.2 k.2=true→dS k w (dS k v es)=dS k w es
 |[],h=>by simp[dS,h]
 |e::es,h=>by
  simp only[dS]
  by_cases c:nT k.2 e.1.2=true
  ·rw[if_pos c];simp[dS,h,c]
  ·rw[if_neg c];simp only[dS];rw[if_neg c,Nh k v w es h]
   simp[c]
def z64.kk:=p3 (p13 kB kG kS kM Tryz.ntmps64 Tryz.underlying55 lL iI sV mf Aj nZ oI) (p13 jD jf jA NF MO tC zn zA uq Gn Ph xA KJ) (p11 Vs uO uK sK ny Ji VI jy aas CJ Tryz.results64)
set_option maxRecDepth 100000 in
set_option maxHeartbeats 8000000 in
open z64 in
theorem WV (L:jv) (hL:yY L) (el em:List iT) (i:Nat) (v:Rev) (hv:L.revs[i]? =some v) (h5:v.act=5) (hn:1≤v.num∧v.num≤1000000):
 AC Tryz.prog 64 [.c (.ptr 1000 0),I .i64 i] (jZ L el em) (fun _ st=>st=jZ (aY L i v) el em):=by
 have hil:i<L.revs.length:=(List.getElem?_eq_some_iff.1 hv).1
 have er:(L.revs.map ax).getD i []=ax v:=by rw[bi ax L.revs i ai hil,List.getD,hv];rfl
 have hN:=hL.n
 have hp:=hL.prev
 have hf:=hL.fst
 have ep:=uG eI L.prev i 0 (by omega)
 have ef:=uG eI L.fst i 0 (by omega)
 refine bV Tryz.func64 Tryz.ntmps64 fun x hx=>?_
 refine aJ ?_
 refine dx ([]) (p2 @CP @wC) ?_ ?_
 ·exact rC
 try refine nx (p2 @er @h5) ?_
 refine af ?_ ?_
 rotate_left
 ·intro h;cases h
 intro _
 try refine nv ?_
 have hE:aY L i v=⟨L.revs,L.index,L.prev.set i (-1),L.fst.set i (-1),L.car,L.con,L.cre⟩:=by simp[aY,h5]
 rw[hE]
 generalize L.prev.set i (-1)=P'
 generalize L.fst.set i (-1)=F'
 refine rV ((jZ ⟨L.revs,L.index,P',F',L.car,L.con,L.cre⟩ el em)) ?_
 rfl
set_option maxRecDepth 100000 in
set_option maxHeartbeats 8000000 in
open z64 in
theorem V4 (L:jv) (hL:yY L) (el em:List iT) (i:Nat) (v:Rev) (hv:L.revs[i]? =some v) (h5:¬v.act=5) (hn:1≤v.num∧v.num≤1000000) (hk:aB L.index (bW v)=none)
 (hty:∀e∈em.map fA,e.1.1=false∧dm [.int .i64] e.1.2) (hfi:fP [C.d (.v (.int .i64 i))] (em.map fA)=none):
 AC Tryz.prog 64 [.c (.ptr 1000 0),I .i64 i] (jZ L el em) (fun _ st=>st=uw (aY L i v) el (dS (false,[C.d (.v (.int .i64 i))]) (false,[.ms 115 1 0 1]) (em.map fA))++[(115,aQ 1 ([(i:Int)].map eI))]):=by
 have hil:i<L.revs.length:=(List.getElem?_eq_some_iff.1 hv).1
 have er:(L.revs.map ax).getD i []=ax v:=by rw[bi ax L.revs i ai hil,List.getD,hv];rfl
 have hN:=hL.n
 have hp:=hL.prev
 have hf:=hL.fst
 have ep:=uG eI L.prev i 0 (by omega)
 have ef:=uG eI L.fst i 0 (by omega)
 have ef0:=uG eI (L.fst.set i i) 0 0 (by simp;omega)
 have efi:(List.map (fun l=>List.map C.d l) (List.map eI (L.fst.set i i))).getD i []=[C.d (.v (.int .i64 i))]:=by rw[uG eI (L.fst.set i i) i 0 (by simp;omega)];simp[List.getD,show i<L.fst.length by omega]
 refine bV Tryz.func64 Tryz.ntmps64 fun x hx=>?_
 refine aJ ?_
 refine dx ([]) (p2 @CP @wC) ?_ ?_
 ·exact rC
 try refine nx @er ?_
 refine af ?_ ?_
 ·intro h;exact absurd (by simpa using h) h5
 intro _
 try refine nx @er ?_
 refine af ?_ ?_
 ·intro h
  have hb:bW v=⟨ByteArray.empty,0⟩:=by simp[bW,show v.act=1 by simpa using h,Em]
  rw[hb] at hk
  (repeat (first|refine xO ?_|refine wX (wr:=false) (by simp only[kk,Nat.reduceAdd,Nat.reduceLT,Nat.reduceEqDiff, ↓reduceIte,reduceCtorEq,CP,wC,List.set_set];first|done|rfl) ?_))
  refine DD (wr:=false) ([]:List (Nat×AV)) (by simp only[kD,kk,Nat.reduceAdd,Nat.reduceLT,Nat.reduceEqDiff, ↓reduceIte,reduceCtorEq,mV,hk,Option.map_none,Option.isSome];first|done|rfl) ?_ ?_
  ·exact gI @xU
  try refine nx (p2 @ef0 @Int.toNat_zero) ?_
  refine af ?_ ?_
  ·intro h;cases h
  intro _
  try refine nx @efi ?_
  refine DD (wr:=false) ([]:List (Nat×AV)) (by simp only[kD,kk,Nat.reduceAdd,Nat.reduceLT,Nat.reduceEqDiff, ↓reduceIte,reduceCtorEq,hfi,Option.getD];first|done|rfl) ?_ ?_
  ·exact gI @hty
  refine aJ ?_
  have hE:aY L i v=⟨L.revs,L.index,L.prev.set i (-1),L.fst.set i i,L.car,L.con,L.cre⟩:=by simp[aY,h5,mW,iP,rG,hb,hk]
  rw[hE]
  generalize L.prev.set i (-1)=P'
  generalize L.fst.set i (i:Int)=F'
  refine uZ (by first|exact .inl rfl|exact .inr rfl) (by simp only[kR,Tryz.results64, ↓reduceIte,Nat.reduceEqDiff,reduceCtorEq];first|done|rfl) (by first|exact trivial|(simp only[kO];omega)|(simp[All,dI];first|done|omega)|(simp+contextual [All,dI];first|done|grind)) (uw ⟨L.revs,L.index,P',F',L.car,L.con,L.cre⟩ el (dS (false,[C.d (.v (.int .i64 i))]) (false,[.ms 115 1 0 1]) (em.map fA))++[(115,aQ 1 ([(i:Int)].map eI))]) ⟨by simp[Ab.get,bf,dP,dQ],by simp,by simp[bY,bG,bH,bD,bI,bC,aA,aN,dH,ae,Ab.get,dP,dQ],gu hx (by simp[ae,Ab.get,dP,dQ])⟩ (by simp[aZ,cu,aN,dH,ae,Ab.get,dP,dQ]) ?_
  rfl
 intro _
 try refine nx @er ?_
 refine af ?_ ?_
 ·intro h
  have hb:bW v=⟨v.frm,v.fnum⟩:=by simp[bW,show v.act=4 by simpa using h]
  rw[hb] at hk
  (repeat (first|refine xO ?_|refine wX (wr:=false) (by simp only[kk,Nat.reduceAdd,Nat.reduceLT,Nat.reduceEqDiff, ↓reduceIte,reduceCtorEq,CP,wC,List.set_set];first|done|rfl) ?_))
  refine DD (wr:=false) ([]:List (Nat×AV)) (by simp only[kD,kk,Nat.reduceAdd,Nat.reduceLT,Nat.reduceEqDiff, ↓reduceIte,reduceCtorEq,mV,hk,Option.map_none,Option.isSome];first|done|rfl) ?_ ?_
  ·exact gI @xU
  try refine nx (p2 @ef0 @Int.toNat_zero) ?_
  refine af ?_ ?_
  ·intro h;cases h
  intro _
  try refine nx @efi ?_
  refine DD (wr:=false) ([]:List (Nat×AV)) (by simp only[kD,kk,Nat.reduceAdd,Nat.reduceLT,Nat.reduceEqDiff, ↓reduceIte,reduceCtorEq,hfi,Option.getD];first|done|rfl) ?_ ?_
  ·exact gI @hty
  refine aJ ?_
  have hE:aY L i v=⟨L.revs,L.index,L.prev.set i (-1),L.fst.set i i,L.car,L.con,L.cre⟩:=by simp[aY,h5,mW,iP,rG,hb,hk]
  rw[hE]
  generalize L.prev.set i (-1)=P'
  generalize L.fst.set i (i:Int)=F'
  refine uZ (by first|exact .inl rfl|exact .inr rfl) (by simp only[kR,Tryz.results64, ↓reduceIte,Nat.reduceEqDiff,reduceCtorEq];first|done|rfl) (by first|exact trivial|(simp only[kO];omega)|(simp[All,dI];first|done|omega)|(simp+contextual [All,dI];first|done|grind)) (uw ⟨L.revs,L.index,P',F',L.car,L.con,L.cre⟩ el (dS (false,[C.d (.v (.int .i64 i))]) (false,[.ms 115 1 0 1]) (em.map fA))++[(115,aQ 1 ([(i:Int)].map eI))]) ⟨by simp[Ab.get,bf,dP,dQ],by simp,by simp[bY,bG,bH,bD,bI,bC,aA,aN,dH,ae,Ab.get,dP,dQ],gu hx (by simp[ae,Ab.get,dP,dQ])⟩ (by simp[aZ,cu,aN,dH,ae,Ab.get,dP,dQ]) ?_
  rfl
 ·intro h
  have hb:bW v=⟨v.path,v.num-1⟩:=by simp_all[bW]
  rw[hb] at hk
  (repeat (first|refine xO ?_|refine wX (wr:=false) (by simp only[kk,Nat.reduceAdd,Nat.reduceLT,Nat.reduceEqDiff, ↓reduceIte,reduceCtorEq,CP,wC,List.set_set];first|done|rfl) ?_))
  refine DD (wr:=false) ([]:List (Nat×AV)) (by simp only[kD,kk,Nat.reduceAdd,Nat.reduceLT,Nat.reduceEqDiff, ↓reduceIte,reduceCtorEq,mV,hk,Option.map_none,Option.isSome];first|done|rfl) ?_ ?_
  ·exact gI @xU
  try refine nx (p2 @ef0 @Int.toNat_zero) ?_
  refine af ?_ ?_
  ·intro h;cases h
  intro _
  try refine nx @efi ?_
  refine DD (wr:=false) ([]:List (Nat×AV)) (by simp only[kD,kk,Nat.reduceAdd,Nat.reduceLT,Nat.reduceEqDiff, ↓reduceIte,reduceCtorEq,hfi,Option.getD];first|done|rfl) ?_ ?_
  ·exact gI @hty
  refine aJ ?_
  have hE:aY L i v=⟨L.revs,L.index,L.prev.set i (-1),L.fst.set i i,L.car,L.con,L.cre⟩:=by simp[aY,h5,mW,iP,rG,hb,hk]
  rw[hE]
  generalize L.prev.set i (-1)=P'
  generalize L.fst.set i (i:Int)=F'
  refine uZ (by first|exact .inl rfl|exact .inr rfl) (by simp only[kR,Tryz.results64, ↓reduceIte,Nat.reduceEqDiff,reduceCtorEq];first|done|rfl) (by first|exact trivial|(simp only[kO];omega)|(simp[All,dI];first|done|omega)|(simp+contextual [All,dI];first|done|grind)) (uw ⟨L.revs,L.index,P',F',L.car,L.con,L.cre⟩ el (dS (false,[C.d (.v (.int .i64 i))]) (false,[.ms 115 1 0 1]) (em.map fA))++[(115,aQ 1 ([(i:Int)].map eI))]) ⟨by simp[Ab.get,bf,dP,dQ],by simp,by simp[bY,bG,bH,bD,bI,bC,aA,aN,dH,ae,Ab.get,dP,dQ],gu hx (by simp[ae,Ab.get,dP,dQ])⟩ (by simp[aZ,cu,aN,dH,ae,Ab.get,dP,dQ]) ?_
  rfl
end Go.Proofs.YtcpgicfphakdaaaGreatDoor
