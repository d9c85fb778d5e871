/- A part of the proof. -/
import Derived.Test.YtcpgicfphakdaaaGreatDoorRT4
set_option linter.all false
namespace Go.Proofs.YtcpgicfphakdaaaGreatDoor
open Go.Ab Tys
variable [Dr]
theorem TZ (n:Int) (w:Bool×List C):∀es:List wH,(∀e∈es,e.1.1=false∧dm [.int .i64] e.1.2)→∀e∈dS (false,[C.d (.v (.int .i64 n))]) w es,e.1.1=false∧dm [.int .i64] e.1.2
 |[],_=>by intro e he;simp[dS] at he;subst he;simp[dm]
 |a::es,h=>by
  intro e he
  simp only[dS] at he
  split at he
  ·rcases List.mem_cons.1 he with rfl|he
   ·simp[dm]
   ·exact h e (List.mem_cons_of_mem _ he)
  ·rcases List.mem_cons.1 he with rfl|he
   ·exact h _ List.mem_cons_self
   ·exact TZ n w es (fun e he=>h e (List.mem_cons_of_mem _ he)) e he
set_option maxRecDepth 100000 in
set_option maxHeartbeats 8000000 in
open z64 in
theorem WZ (L:jv) (hL:yY L) (el em:List iT) (i:Nat) (v:Rev) (hv:L.revs[i]? =some v) (h5:¬v.act=5) (hn:1≤v.num∧v.num≤1000000) (u ln:Int) (hk:aB L.index (bW v)=some u) (hu:0≤u∧u<i)
 (hln:L.fst.getD u.toNat 0=ln) (h0:0≤ln) (hty:∀e∈em.map fA,e.1.1=false∧dm [.int .i64] e.1.2) (ys:List Int) (hys:ys.length≤1000):
 AC Tryz.prog 64 [.c (.ptr 1000 0),I .i64 i] (uw L el (dS (false,[C.d (.v (.int .i64 ln))]) (false,[.ms 2003 1 0 ys.length]) (em.map fA))++[(2003,aQ 1 (ys.map eI))])
  (fun _ st=>st=uw (aY L i v) el (dS (false,[C.d (.v (.int .i64 ln))]) (false,[.ms 115 1 0 (ys.length+1)]) (em.map fA))++[(2003, .dead),(115,aQ 1 ((ys++[(i:Int)]).map eI))]):=by
 have hil:i<L.revs.length:=(List.getElem?_eq_some_iff.1 hv).1
 have er:(L.revs.map ax).getD i []=ax v:=by rw[bi ax L.revs i ai hil,List.getD,hv];rfl
 have hN:=hL.n
 have hp:=hL.prev
 have hf:=hL.fst
 have ep:=uG eI L.prev i 0 (by omega)
 have ef:=uG eI L.fst i 0 (by omega)
 have hul:u.toNat<(L.fst.set i (i:Int)).length:=by simp;omega
 have efu:=uG eI (L.fst.set i i) u.toNat 0 hul
 have hgu:(L.fst.set i (i:Int)).getD u.toNat 0=ln:=by rw[←hln];simp[List.getD,List.getElem?_set,show ¬i=u.toNat by omega]
 rw[hgu] at efu
 have hkk:nT [C.d (.v (.int .i64 ln))] [C.d (.v (.int .i64 ln))]=true:=by simp[nT,Hy]
 have hfi:=IU (false,[C.d (.v (.int .i64 ln))]) (false,[.ms 2003 1 0 ys.length]) (em.map fA) hkk
 have hii:=fun w=>Nh (false,[C.d (.v (.int .i64 ln))]) (false,[.ms 2003 1 0 ys.length]) w (em.map fA) hkk
 have hty2:=TZ ln (false,[.ms 2003 1 0 ys.length]) (em.map fA) hty
 simp only at hfi hii
 have efi:(List.map (fun l=>List.map C.d l) (List.map eI (L.fst.set i ln))).getD i []=[C.d (.v (.int .i64 ln))]:=by rw[uG eI (L.fst.set i ln) i 0 (by simp;omega)];simp[List.getD,show i<L.fst.length by omega]
 refine bV Tryz.func64 Tryz.ntmps64 fun x hx=>?_
 refine aJ ?_
 refine dx ([]) (p2 @CP @wC) ?_ ?_
 ·exact rC
 try refine nx @er ?_
 refine af ?_ ?_
 ·intro h;exact absurd (by simpa using h) h5
 intro _
 try refine nx @er ?_
 refine af ?_ ?_
 ·intro h
  have hb:bW v=⟨ByteArray.empty,0⟩:=by simp[bW,show v.act=1 by simpa using h,Em]
  rw[hb] at hk
  (repeat (first|refine xO ?_|refine wX (wr:=false) (by simp only[kk,Nat.reduceAdd,Nat.reduceLT,Nat.reduceEqDiff, ↓reduceIte,reduceCtorEq,CP,wC,List.set_set];first|done|rfl) ?_))
  refine DD (wr:=false) ([]:List (Nat×AV)) (by simp only[kD,kk,Nat.reduceAdd,Nat.reduceLT,Nat.reduceEqDiff, ↓reduceIte,reduceCtorEq,mV,hk,Option.isSome];first|done|rfl) ?_ ?_
  ·exact gI @xU
  try refine nx @efu ?_
  refine af ?_ ?_
  rotate_left
  ·intro h;exact absurd h (by simp[h0])
  intro _
  refine aJ ?_
  refine DD (wr:=false) ([]:List (Nat×AV)) (by simp only[kD,kk,Nat.reduceAdd,Nat.reduceLT,Nat.reduceEqDiff, ↓reduceIte,reduceCtorEq,efu,CP,wC,List.set_set];first|done|rfl) ?_ ?_
  ·exact rC
  try refine nx @efi ?_
  refine DD (wr:=false) ([]:List (Nat×AV)) (by simp only[kD,kk,Nat.reduceAdd,Nat.reduceLT,Nat.reduceEqDiff, ↓reduceIte,reduceCtorEq,hfi,hii,Option.getD];first|done|rfl) ?_ ?_
  ·exact gI @hty2
  refine aJ ?_
  have hE:aY L i v=⟨L.revs,L.index,L.prev.set i u,L.fst.set i ln,L.car,L.con,L.cre⟩:=by simp only[aY,h5,mW,iP,rG,hb,hk,hln,h0,if_true,if_false]
  rw[hE]
  generalize L.prev.set i u=P'
  generalize L.fst.set i ln=F'
  refine uZ (by first|exact .inl rfl|exact .inr rfl) (by simp only[kR,Tryz.results64, ↓reduceIte,Nat.reduceEqDiff,reduceCtorEq];first|done|rfl) (by first|exact trivial|(simp only[kO];omega)|(simp[All,dI];first|done|omega)|(simp+contextual [All,dI];first|done|grind)) (uw ⟨L.revs,L.index,P',F',L.car,L.con,L.cre⟩ el (dS (false,[C.d (.v (.int .i64 ln))]) (false,[.ms 115 1 0 (ys.length+1)]) (em.map fA))++[(2003, .dead),(115,aQ 1 ((ys++[(i:Int)]).map eI))]) ⟨by simp[Ab.get,bf,dP,dQ,ay],by simp,by simp[bY,bG,bH,bD,bI,bC,aA,aN,dH,ae,Ab.get,dP,dQ,ay],gu hx (by simp[ae,Ab.get,dP,dQ,ay])⟩ (by simp[aZ,cu,aN,dH,ae,Ab.get,dP,dQ,ay]) ?_
  rfl
 intro _
 try refine nx @er ?_
 refine af ?_ ?_
 ·intro h
  have hb:bW v=⟨v.frm,v.fnum⟩:=by simp[bW,show v.act=4 by simpa using h]
  rw[hb] at hk
  (repeat (first|refine xO ?_|refine wX (wr:=false) (by simp only[kk,Nat.reduceAdd,Nat.reduceLT,Nat.reduceEqDiff, ↓reduceIte,reduceCtorEq,CP,wC,List.set_set];first|done|rfl) ?_))
  refine DD (wr:=false) ([]:List (Nat×AV)) (by simp only[kD,kk,Nat.reduceAdd,Nat.reduceLT,Nat.reduceEqDiff, ↓reduceIte,reduceCtorEq,mV,hk,Option.isSome];first|done|rfl) ?_ ?_
  ·exact gI @xU
  try refine nx @efu ?_
  refine af ?_ ?_
  rotate_left
  ·intro h;exact absurd h (by simp[h0])
  intro _
  refine aJ ?_
  refine DD (wr:=false) ([]:List (Nat×AV)) (by simp only[kD,kk,Nat.reduceAdd,Nat.reduceLT,Nat.reduceEqDiff, ↓reduceIte,reduceCtorEq,efu,CP,wC,List.set_set];first|done|rfl) ?_ ?_
  ·exact rC
  try refine nx @efi ?_
  refine DD (wr:=false) ([]:List (Nat×AV)) (by simp only[kD,kk,Nat.reduceAdd,Nat.reduceLT,Nat.reduceEqDiff, ↓reduceIte,reduceCtorEq,hfi,hii,Option.getD];first|done|rfl) ?_ ?_
  ·exact gI @hty2
  refine aJ ?_
  have hE:aY L i v=⟨L.revs,L.index,L.prev.set i u,L.fst.set i ln,L.car,L.con,L.cre⟩:=by simp only[aY,h5,mW,iP,rG,hb,hk,hln,h0,if_true,if_false]
  rw[hE]
  generalize L.prev.set i u=P'
  generalize L.fst.set i ln=F'
  refine uZ (by first|exact .inl rfl|exact .inr rfl) (by simp only[kR,Tryz.results64, ↓reduceIte,Nat.reduceEqDiff,reduceCtorEq];first|done|rfl) (by first|exact trivial|(simp only[kO];omega)|(simp[All,dI];first|done|omega)|(simp+contextual [All,dI];first|done|grind)) (uw ⟨L.revs,L.index,P',F',L.car,L.con,L.cre⟩ el (dS (false,[C.d (.v (.int .i64 ln))]) (false,[.ms 115 1 0 (ys.length+1)]) (em.map fA))++[(2003, .dead),(115,aQ 1 ((ys++[(i:Int)]).map eI))]) ⟨by simp[Ab.get,bf,dP,dQ,ay],by simp,by simp[bY,bG,bH,bD,bI,bC,aA,aN,dH,ae,Ab.get,dP,dQ,ay],gu hx (by simp[ae,Ab.get,dP,dQ,ay])⟩ (by simp[aZ,cu,aN,dH,ae,Ab.get,dP,dQ,ay]) ?_
  rfl
 ·intro h
  have hb:bW v=⟨v.path,v.num-1⟩:=by simp_all[bW]
  rw[hb] at hk
  (repeat (first|refine xO ?_|refine wX (wr:=false) (by simp only[kk,Nat.reduceAdd,Nat.reduceLT,Nat.reduceEqDiff, ↓reduceIte,reduceCtorEq,CP,wC,List.set_set];first|done|rfl) ?_))
  refine DD (wr:=false) ([]:List (Nat×AV)) (by simp only[kD,kk,Nat.reduceAdd,Nat.reduceLT,Nat.reduceEqDiff, ↓reduceIte,reduceCtorEq,mV,hk,Option.isSome];first|done|rfl) ?_ ?_
  ·exact gI @xU
  try refine nx @efu ?_
  refine af ?_ ?_
  rotate_left
  ·intro h;exact absurd h (by simp[h0])
  intro _
  refine aJ ?_
  refine DD (wr:=false) ([]:List (Nat×AV)) (by simp only[kD,kk,Nat.reduceAdd,Nat.reduceLT,Nat.reduceEqDiff, ↓reduceIte,reduceCtorEq,efu,CP,wC,List.set_set];first|done|rfl) ?_ ?_
  ·exact rC
  try refine nx @efi ?_
  refine DD (wr:=false) ([]:List (Nat×AV)) (by simp only[kD,kk,Nat.reduceAdd,Nat.reduceLT,Nat.reduceEqDiff, ↓reduceIte,reduceCtorEq,hfi,hii,Option.getD];first|done|rfl) ?_ ?_
  ·exact gI @hty2
  refine aJ ?_
  have hE:aY L i v=⟨L.revs,L.index,L.prev.set i u,L.fst.set i ln,L.car,L.con,L.cre⟩:=by simp only[aY,h5,mW,iP,rG,hb,hk,hln,h0,if_true,if_false]
  rw[hE]
  generalize L.prev.set i u=P'
  generalize L.fst.set i ln=F'
  refine uZ (by first|exact .inl rfl|exact .inr rfl) (by simp only[kR,Tryz.results64, ↓reduceIte,Nat.reduceEqDiff,reduceCtorEq];first|done|rfl) (by first|exact trivial|(simp only[kO];omega)|(simp[All,dI];first|done|omega)|(simp+contextual [All,dI];first|done|grind)) (uw ⟨L.revs,L.index,P',F',L.car,L.con,L.cre⟩ el (dS (false,[C.d (.v (.int .i64 ln))]) (false,[.ms 115 1 0 (ys.length+1)]) (em.map fA))++[(2003, .dead),(115,aQ 1 ((ys++[(i:Int)]).map eI))]) ⟨by simp[Ab.get,bf,dP,dQ,ay],by simp,by simp[bY,bG,bH,bD,bI,bC,aA,aN,dH,ae,Ab.get,dP,dQ,ay],gu hx (by simp[ae,Ab.get,dP,dQ,ay])⟩ (by simp[aZ,cu,aN,dH,ae,Ab.get,dP,dQ,ay]) ?_
  rfl
end Go.Proofs.YtcpgicfphakdaaaGreatDoor
