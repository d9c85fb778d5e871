/- A part of the proof. -/
import Derived.Test.YtcpgicfphakdaaaGreatDoorRU10
set_option linter.all false
namespace Go.Proofs.YtcpgicfphakdaaaGreatDoor
open Go.Ab Tys
variable [Dr]
theorem TZ (n:Int) (w:Bool×List C):∀es:List uj,(∀e∈es,e.1.1=false∧cZ [.int .i64] e.1.2)→∀e∈dH (false,[C.d (.v (.int .i64 n))]) w es,e.1.1=false∧cZ [.int .i64] e.1.2
 |[],_=>by intro e he;simp[dH] at he;subst he;simp[cZ]
 |a::es,h=>by
  intro e he
  simp only[dH] at he
  split at he
  ·rcases List.mem_cons.1 he with rfl|he
   ·simp[cZ]
   ·exact h e (List.mem_cons_of_mem _ he)
  ·rcases List.mem_cons.1 he with rfl|he
   ·exact h _ List.mem_cons_self
   ·exact TZ n w es (fun e he=>h e (List.mem_cons_of_mem _ he)) e he
set_option maxRecDepth 100000 in
set_option maxHeartbeats 8000000 in
open z64 in
theorem Vl (L:iE) (hL:xK L) (el em:List iV) (i:Nat) (v:Rev) (hv:L.revs[i]? =some v) (h5:¬v.act=5) (hn:1≤v.num∧v.num≤1000000) (u ln:Int) (hk:ai L.index (df v)=some u) (hu:0≤u∧u<i)
 (hln:L.fst.getD u.toNat 0=ln) (h0:0≤ln) (hty:∀e∈em.map fC,e.1.1=false∧cZ [.int .i64] e.1.2) (ys:List Int) (hys:ys.length≤1000):
 AC Tryz.prog 64 [.c (.ptr 1000 0),I .i64 i] (rY L el (dH (false,[C.d (.v (.int .i64 ln))]) (false,[.ms 2003 1 0 ys.length]) (em.map fC))++[(2003,aK 1 (ys.map eI))])
  (fun _ st=>st=rY (aV L i v) el (dH (false,[C.d (.v (.int .i64 ln))]) (false,[.ms 115 1 0 (ys.length+1)]) (em.map fC))++[(2003, .dead),(115,aK 1 ((ys++[(i:Int)]).map eI))]):=by
 have hil:i<L.revs.length:=(List.getElem?_eq_some_iff.1 hv).1
 have er:(L.revs.map aI).getD i []=aI v:=by rw[bg aI L.revs i af hil,List.getD,hv];rfl
 have hN:=hL.n
 have hp:=hL.prev
 have hf:=hL.fst
 have ep:=uG eI L.prev i 0 (by omega)
 have ef:=uG eI L.fst i 0 (by omega)
 have hul:u.toNat<(L.fst.set i (i:Int)).length:=by simp;omega
 have efu:=uG eI (L.fst.set i i) u.toNat 0 hul
 have hgu:(L.fst.set i (i:Int)).getD u.toNat 0=ln:=by rw[←hln];simp[List.getD,List.getElem?_set,show ¬i=u.toNat by omega]
 rw[hgu] at efu
 have hkk:jE [C.d (.v (.int .i64 ln))] [C.d (.v (.int .i64 ln))]=true:=by simp[jE,Dy]
 have hfi:=wB (false,[C.d (.v (.int .i64 ln))]) (false,[.ms 2003 1 0 ys.length]) (em.map fC) hkk
 have hii:=fun w=>EK (false,[C.d (.v (.int .i64 ln))]) (false,[.ms 2003 1 0 ys.length]) w (em.map fC) hkk
 have hty2:=TZ ln (false,[.ms 2003 1 0 ys.length]) (em.map fC) hty
 simp only at hfi hii
 have efi:(List.map (fun l=>List.map C.d l) (List.map eI (L.fst.set i ln))).getD i []=[C.d (.v (.int .i64 ln))]:=by rw[uG eI (L.fst.set i ln) i 0 (by simp;omega)];simp[List.getD,show i<L.fst.length by omega]
 refine dA Tryz.func64 Tryz.ntmps64 fun x hx=>?_
 refine bC ?_
 refine dx ([]) (p2 @vW @pq) ?_ ?_
 ·exact vO
 try refine nx @er ?_
 refine aj ?_ ?_
 ·intro h;exact absurd (by simpa using h) h5
 intro _
 try refine nx @er ?_
 refine aj ?_ ?_
 ·intro h
  have hb:df v=⟨ByteArray.empty,0⟩:=by simp[df,show v.act=1 by simpa using h,xH]
  rw[hb] at hk
  (repeat (first|refine Eb ?_|refine BP (wr:=false) (by simp only[kk,Nat.reduceAdd,Nat.reduceLT,Nat.reduceEqDiff, ↓reduceIte,reduceCtorEq,vW,pq,List.set_set];first|done|rfl) ?_))
  refine BO (wr:=false) ([]:List (Nat×AV)) (by simp only[kD,kk,Nat.reduceAdd,Nat.reduceLT,Nat.reduceEqDiff, ↓reduceIte,reduceCtorEq,lH,hk,Option.isSome];first|done|rfl) ?_ ?_
  ·exact iw @xU
  try refine nx @efu ?_
  refine aj ?_ ?_
  rotate_left
  ·intro h;exact absurd h (by simp[h0])
  intro _
  refine bC ?_
  refine BO (wr:=false) ([]:List (Nat×AV)) (by simp only[kD,kk,Nat.reduceAdd,Nat.reduceLT,Nat.reduceEqDiff, ↓reduceIte,reduceCtorEq,efu,vW,pq,List.set_set];first|done|rfl) ?_ ?_
  ·exact vO
  try refine nx @efi ?_
  refine BO (wr:=false) ([]:List (Nat×AV)) (by simp only[kD,kk,Nat.reduceAdd,Nat.reduceLT,Nat.reduceEqDiff, ↓reduceIte,reduceCtorEq,hfi,hii,Option.getD];first|done|rfl) ?_ ?_
  ·exact iw @hty2
  refine bC ?_
  have hE:aV L i v=⟨L.revs,L.index,L.prev.set i u,L.fst.set i ln,L.car,L.con,L.cre⟩:=by simp only[aV,h5,lC,gK,qH,hb,hk,hln,h0,if_true,if_false]
  rw[hE]
  generalize L.prev.set i u=P'
  generalize L.fst.set i ln=F'
  refine uy (by first|exact .inl rfl|exact .inr rfl) (by simp only[kR,Tryz.results64, ↓reduceIte,Nat.reduceEqDiff,reduceCtorEq];first|done|rfl) (by first|exact trivial|(simp only[kO];omega)|(simp[All,dG];first|done|omega)|(simp+contextual [All,dG];first|done|grind)) (rY ⟨L.revs,L.index,P',F',L.car,L.con,L.cre⟩ el (dH (false,[C.d (.v (.int .i64 ln))]) (false,[.ms 115 1 0 (ys.length+1)]) (em.map fC))++[(2003, .dead),(115,aK 1 ((ys++[(i:Int)]).map eI))]) ⟨by simp[Ab.get,aA,dJ,dI,ah],by simp,by simp[bD,aS,aQ,aU,aP,aT,ag,aB,cu,ae,Ab.get,dJ,dI,ah],di hx (by simp[ae,Ab.get,dJ,dI,ah])⟩ (by simp[aH,bP,aB,cu,ae,Ab.get,dJ,dI,ah]) ?_
  rfl
 intro _
 try refine nx @er ?_
 refine aj ?_ ?_
 ·intro h
  have hb:df v=⟨v.frm,v.fnum⟩:=by simp[df,show v.act=4 by simpa using h]
  rw[hb] at hk
  (repeat (first|refine Eb ?_|refine BP (wr:=false) (by simp only[kk,Nat.reduceAdd,Nat.reduceLT,Nat.reduceEqDiff, ↓reduceIte,reduceCtorEq,vW,pq,List.set_set];first|done|rfl) ?_))
  refine BO (wr:=false) ([]:List (Nat×AV)) (by simp only[kD,kk,Nat.reduceAdd,Nat.reduceLT,Nat.reduceEqDiff, ↓reduceIte,reduceCtorEq,lH,hk,Option.isSome];first|done|rfl) ?_ ?_
  ·exact iw @xU
  try refine nx @efu ?_
  refine aj ?_ ?_
  rotate_left
  ·intro h;exact absurd h (by simp[h0])
  intro _
  refine bC ?_
  refine BO (wr:=false) ([]:List (Nat×AV)) (by simp only[kD,kk,Nat.reduceAdd,Nat.reduceLT,Nat.reduceEqDiff, ↓reduceIte,reduceCtorEq,efu,vW,pq,List.set_set];first|done|rfl) ?_ ?_
  ·exact vO
  try refine nx @efi ?_
  refine BO (wr:=false) ([]:List (Nat×AV)) (by simp only[kD,kk,Nat.reduceAdd,Nat.reduceLT,Nat.reduceEqDiff, ↓reduceIte,reduceCtorEq,hfi,hii,Option.getD];first|done|rfl) ?_ ?_
  ·exact iw @hty2
  refine bC ?_
  have hE:aV L i v=⟨L.revs,L.index,L.prev.set i u,L.fst.set i ln,L.car,L.con,L.cre⟩:=by simp only[aV,h5,lC,gK,qH,hb,hk,hln,h0,if_true,if_false]
  rw[hE]
  generalize L.prev.set i u=P'
  generalize L.fst.set i ln=F'
  refine uy (by first|exact .inl rfl|exact .inr rfl) (by simp only[kR,Tryz.results64, ↓reduceIte,Nat.reduceEqDiff,reduceCtorEq];first|done|rfl) (by first|exact trivial|(simp only[kO];omega)|(simp[All,dG];first|done|omega)|(simp+contextual [All,dG];first|done|grind)) (rY ⟨L.revs,L.index,P',F',L.car,L.con,L.cre⟩ el (dH (false,[C.d (.v (.int .i64 ln))]) (false,[.ms 115 1 0 (ys.length+1)]) (em.map fC))++[(2003, .dead),(115,aK 1 ((ys++[(i:Int)]).map eI))]) ⟨by simp[Ab.get,aA,dJ,dI,ah],by simp,by simp[bD,aS,aQ,aU,aP,aT,ag,aB,cu,ae,Ab.get,dJ,dI,ah],di hx (by simp[ae,Ab.get,dJ,dI,ah])⟩ (by simp[aH,bP,aB,cu,ae,Ab.get,dJ,dI,ah]) ?_
  rfl
 ·intro h
  have hb:df v=⟨v.path,v.num-1⟩:=by simp_all[df]
  rw[hb] at hk
  (repeat (first|refine Eb ?_|refine BP (wr:=false) (by simp only[kk,Nat.reduceAdd,Nat.reduceLT,Nat.reduceEqDiff, ↓reduceIte,reduceCtorEq,vW,pq,List.set_set];first|done|rfl) ?_))
  refine BO (wr:=false) ([]:List (Nat×AV)) (by simp only[kD,kk,Nat.reduceAdd,Nat.reduceLT,Nat.reduceEqDiff, ↓reduceIte,reduceCtorEq,lH,hk,Option.isSome];first|done|rfl) ?_ ?_
  ·exact iw @xU
  try refine nx @efu ?_
  refine aj ?_ ?_
  rotate_left
  ·intro h;exact absurd h (by simp[h0])
  intro _
  refine bC ?_
  refine BO (wr:=false) ([]:List (Nat×AV)) (by simp only[kD,kk,Nat.reduceAdd,Nat.reduceLT,Nat.reduceEqDiff, ↓reduceIte,reduceCtorEq,efu,vW,pq,List.set_set];first|done|rfl) ?_ ?_
  ·exact vO
  try refine nx @efi ?_
  refine BO (wr:=false) ([]:List (Nat×AV)) (by simp only[kD,kk,Nat.reduceAdd,Nat.reduceLT,Nat.reduceEqDiff, ↓reduceIte,reduceCtorEq,hfi,hii,Option.getD];first|done|rfl) ?_ ?_
  ·exact iw @hty2
  refine bC ?_
  have hE:aV L i v=⟨L.revs,L.index,L.prev.set i u,L.fst.set i ln,L.car,L.con,L.cre⟩:=by simp only[aV,h5,lC,gK,qH,hb,hk,hln,h0,if_true,if_false]
  rw[hE]
  generalize L.prev.set i u=P'
  generalize L.fst.set i ln=F'
  refine uy (by first|exact .inl rfl|exact .inr rfl) (by simp only[kR,Tryz.results64, ↓reduceIte,Nat.reduceEqDiff,reduceCtorEq];first|done|rfl) (by first|exact trivial|(simp only[kO];omega)|(simp[All,dG];first|done|omega)|(simp+contextual [All,dG];first|done|grind)) (rY ⟨L.revs,L.index,P',F',L.car,L.con,L.cre⟩ el (dH (false,[C.d (.v (.int .i64 ln))]) (false,[.ms 115 1 0 (ys.length+1)]) (em.map fC))++[(2003, .dead),(115,aK 1 ((ys++[(i:Int)]).map eI))]) ⟨by simp[Ab.get,aA,dJ,dI,ah],by simp,by simp[bD,aS,aQ,aU,aP,aT,ag,aB,cu,ae,Ab.get,dJ,dI,ah],di hx (by simp[ae,Ab.get,dJ,dI,ah])⟩ (by simp[aH,bP,aB,cu,ae,Ab.get,dJ,dI,ah]) ?_
  rfl
end Go.Proofs.YtcpgicfphakdaaaGreatDoor
