/- A part of the proof. -/
import Derived.Test.YtcpgicfphakdaaaGreatDoorRR1
set_option linter.all false
namespace Go.Proofs.YtcpgicfphakdaaaGreatDoor
open Go.Ab Tys
variable [Dr]
theorem QB {p q a b:bH} (hab:(a,b)=if p.parts.length<q.parts.length then(q,p) else(p,q)):
 D6 p.parts.length p.rest q.parts.length q.rest=!decide ((b.parts.length<a.parts.length∧b.rest=false)∨(a.parts.length=b.parts.length∧a.rest≠b.rest)):=by
 rw[Bool.eq_iff_iff,Bool.not_eq_true',decide_eq_false_iff_not]
 unfold D6
 by_cases hl:p.parts.length<q.parts.length
 ·rw[if_pos hl] at hab
  cases hab
  cases p.rest<;>cases q.rest<;>simp<;>omega
 ·rw[if_neg hl] at hab
  cases hab
  cases p.rest<;>cases q.rest<;>simp<;>omega
def zM (a b:bH) (k:Nat):List ByteArray:=iL a b k++a.parts.drop k
theorem XR (a b:bH) {k:Nat} (hk:k≤a.parts.length):(zM a b k).length=a.parts.length:=by
 simp[zM,lQ];omega
theorem Zi (a b:bH) {k:Nat} (hk:k<a.parts.length):(zM a b k).getD k noS=a.parts.getD k noS:=by
 simp only[zM,List.getD_eq_getElem?_getD]
 rw[List.getElem?_append_right (by rw[lQ];exact Nat.le_refl _),lQ,List.getElem?_drop]
 simp
theorem Xg (a b:bH) {k:Nat} (hk:k<a.parts.length) (hb:k<b.parts.length) {w:ByteArray} (hw:zf (a.parts.getD k noS) (b.parts.getD k noS)=some w):(zM a b k).set k w=zM a b (k+1):=by
 have e:w=if decide (b.parts.length≤k)||aY (a.parts.getD k noS) (b.parts.getD k noS) then a.parts.getD k noS else b.parts.getD k noS:=by
  unfold zf at hw
  have:¬b.parts.length≤k:=by omega
  simp only[decide_eq_false this,Bool.false_or]
  split at hw
  ·rename_i h;cases hw;rw[if_pos h]
  ·rename_i h
   split at hw
   ·cases hw;rw[if_neg h]
   ·cases hw
 simp only[zM,iL,←e]
 rw[List.set_append_right _ _ (by rw[lQ];exact Nat.le_refl _),lQ,Nat.sub_self]
 rw[List.drop_eq_getElem_cons hk,List.set_cons_zero]
 simp
theorem VG (a b:bH) (hb:b.parts.length≤a.parts.length):zM a b b.parts.length=iL a b a.parts.length:=by
 have key:∀j,b.parts.length+j≤a.parts.length→iL a b (b.parts.length+j)=iL a b b.parts.length++(a.parts.drop b.parts.length).take j:=by
  intro j
  induction j with
  |zero=>intro _;simp
  |succ j ih=>
   intro hj
   rw[show b.parts.length+(j+1)=(b.parts.length+j)+1 by omega,iL,ih (by omega)]
   rw[if_pos (by simp),List.append_assoc]
   congr 1
   rw[List.take_add_one,List.getElem?_drop,List.getElem?_eq_getElem (by omega)]
   simp[List.getD_eq_getElem?_getD,List.getElem?_eq_getElem (by omega:b.parts.length+j<a.parts.length)]
 have:=key (a.parts.length-b.parts.length) (by omega)
 rw[show b.parts.length+(a.parts.length-b.parts.length)=a.parts.length by omega] at this
 rw[this,zM,List.take_of_length_le (by simp)]
theorem Ws {a b:bH} (hb:b.parts.length≤a.parts.length) (h:∀i,i<b.parts.length→xI a b i=true):(List.range a.parts.length).all (xI a b)=true:=by
 rw[List.all_eq_true]
 intro i hi
 have hi:=List.mem_range.1 hi
 by_cases e:i<b.parts.length
 ·exact h i e
 ·simp[xI,show b.parts.length≤i by omega]
def aed.kk:=RJ kB kG kS Tryz.ntmps129 Tryz.underlying74 gG iC jR pV MH pX lI kC Tryz.results129
set_option maxRecDepth 100000 in
set_option maxHeartbeats 8000000 in
open aed in
theorem PY (p q:bH) (hp:PB 1000000 p) (hq:PB 1000000 q):AC Tryz.prog 129 [aPat p,aPat q] [] (fun r st=>r= .tup [Yd (jF p q),pB (jF p q).isSome]∧st=[]):=by
 have hcp:=jP p hp
 have hcq:=jP q hq
 have hok:gz p=decide (bV p=0):=rfl
 have hokq:gz q=decide (bV q=0):=rfl
 obtain⟨a,b,hab⟩:∃a b:bH,(a,b)=if p.parts.length<q.parts.length then(q,p) else(p,q):=⟨_,_,rfl⟩
 have hM:jF p q=if gz p&&gz q then wS a b else none:=by
  unfold jF
  split
  ·by_cases hl:p.parts.length<q.parts.length
   ·rw[if_pos hl] at hab⊢;cases hab;rfl
   ·rw[if_neg hl] at hab⊢;cases hab;rfl
  ·rfl
 have ha:PB 1000000 a:=by split at hab<;>cases hab<;>assumption
 have hb:PB 1000000 b:=by split at hab<;>cases hab<;>assumption
 have hba:b.parts.length≤a.parts.length:=by split at hab<;>(cases hab;omega)
 have hoa:gz p=true→gz q=true→gz a=true∧gz b=true:=fun h1 h2=>by split at hab<;>cases hab<;>exact⟨by assumption,by assumption⟩
 have hcm:=QB hab
 have hco:=IE p.parts.length q.parts.length p.rest q.rest
 generalize D6 p.parts.length p.rest q.parts.length q.rest=cm at hcm hco
 generalize hMM:jF p q=M at hM
 generalize bV p=ep at hcp hok
 generalize bV q=eq at hcq hokq
 refine dA Tryz.func129 Tryz.ntmps129 fun x hx=>?_
 (repeat (first|refine nv ?_|refine cf (hcp) ?_))
 refine so ([(16,I .i64 eq)]) ?_ ?_
 ·exact iw @hcq
 try refine nv ?_
 refine aj ?_ ?_
 ·intro h
  have hR:M=none:=by
   rw[hM,hok,hokq]
   by_cases e1:ep=0
   ·by_cases e2:eq=0
    ·simp only[e1,e2,decide_true,Bool.not_true,cond_false] at h;cases h
    ·simp[e2]
   ·simp[e1]
  try refine nv ?_
  refine rA [] ?_
  refine⟨?_,rfl⟩
  rw[hR];rfl
 intro h
 have h0:ep=0∧eq=0:=by
  by_cases e1:ep=0
  ·by_cases e2:eq=0
   ·exact⟨e1,e2⟩
   ·simp[e1,e2] at h
  ·simp[e1] at h
 obtain⟨e1,e2⟩:=h0
 obtain⟨oa,ob⟩:=hoa (by rw[hok,e1];rfl) (by rw[hokq,e2];rfl)
 simp only[hok,hokq,e1,e2,decide_true,Bool.and_true,if_true] at hM
 have hm1:wS a b=if(b.parts.length<a.parts.length∧b.rest=false)∨(a.parts.length=b.parts.length∧a.rest≠b.rest) then none
  else if(List.range a.parts.length).all (xI a b) then some ⟨iL a b a.parts.length,a.rest⟩ else none:=rfl
 rw[hm1] at hM
 (repeat (first|refine nv ?_|refine cf (hco) ?_))
 refine aj ?_ ?_
 ·intro hc
  have hc':cm=false:=by simpa using hc
  rw[hc'] at hcm
  have h9:=hcm.symm
  rw[Bool.not_eq_false'] at h9
  have:=of_decide_eq_true h9
  rw[if_pos this] at hM
  try refine nv ?_
  refine rA [] ?_
  refine⟨?_,rfl⟩
  rw[hM];rfl
 intro hc
 have hc':cm=true:=by simpa using hc
 rw[hc'] at hcm
 have hnc:¬((b.parts.length<a.parts.length∧b.rest=false)∨(a.parts.length=b.parts.length∧a.rest≠b.rest)):=by
  intro e
  rw[decide_eq_true e] at hcm
  cases hcm
 rw[if_neg hnc] at hM
 try refine nv ?_
 refine uT ⟨78,[(2, .c (.ptr 2 0)),(3, .c (.ptr 3 0)),(4, .c (.ptr 4 0))],[(2, .box ((bF a).map C.d)),(3, .box ((bF b).map C.d)),(4, .box [G9, .d (.v (.bool false))])]⟩ ?_ ?_
 ·refine aj ?_ ?_
  ·intro hl
   have hl':p.parts.length<q.parts.length:=by have:=of_decide_eq_true hl;omega
   rw[if_pos hl'] at hab
   cases hab
   try refine nv ?_
   refine⟨rfl,?_⟩
   exact cO
  ·intro hl
   have hl':¬p.parts.length<q.parts.length:=by have:=of_decide_eq_false hl;omega
   rw[if_neg hl'] at hab
   cases hab
   try refine nv ?_
   refine⟨rfl,?_⟩
   exact cO
 clear hcp hcq hok hokq hp hq hco hm1 hoa
 have hap:=dE oa
 have hbp:=dE ob
 have hag:=ha.get
 have hbg:=hb.get
 have ha1:=ha.1
 have hb1:=hb.1
 have hane:a.parts≠[]:=by
  have:=(oG.1 oa).1
  intro e;rw[e] at this;simp at this
 have hcl:=Cj a.parts hane ha1
 have hrest:(a.rest&&b.rest)=a.rest:=by
  by_cases e:b.parts.length<a.parts.length
  ·cases hr:b.rest with
   |true=>simp
   |false=>exact absurd (.inl ⟨e,hr⟩) hnc
  ·have el:a.parts.length=b.parts.length:=by omega
   have:a.rest=b.rest:=Classical.byContradiction fun hr=>hnc (.inr ⟨el,hr⟩)
   rw[this];simp
 try refine nv ?_
 refine tX [] (hcl) ?_
 rintro r st' ⟨rfl,rfl⟩<;>refine uo ?_
 try refine nv ?_
 refine ax (ι:=Nat) (I:=fun k=>⟨78,[(2, .c (.ptr 2 0)),(3, .c (.ptr 3 0)),(4, .c (.ptr 4 0)),(6, .c (.ms 7 1 0 a.parts.length)),(46,iy b.parts),(47,I .i64 b.parts.length),(48,I .i64 k)],
  [(2, .box ((bF a).map C.d)),(3, .box ((bF b).map C.d)),(4, .box [G9, .d (.v (.bool false))]),(7,aK 1 ((zM a b k).map encS))]⟩)
  (Inv:=fun k=>k≤b.parts.length∧∀i,i<k→xI a b i=true) (μ:=fun k=>b.parts.length-k) 0 ⟨by omega,by omega⟩ ?_ ?_
 ·(refine bI (fun i=>i) rfl ?_ ⟨?_,?_,?_,di hx (by simp[ae,Ab.get])⟩<;>first|(simp only[kE,aK, ↓reduceIte,Nat.reduceEqDiff,reduceCtorEq,zM,iL,List.nil_append,List.drop_zero];done)|simp[aW,aA,ag,Ab.get,aH,cu,aB,bD,aS,aQ,aU,aP,aT,ae,List.flatten,zM,iL,List.nil_append,List.drop_zero])
 rintro k ⟨hk,hall⟩
 try refine nv ?_
 refine aj ?_ ?_
 ·intro hlt
  have hlt':k<b.parts.length:=by simpa using hlt
  obtain⟨u,hu,he,_⟩:=round encS b.parts k noS hlt'
  have eu:=oH (z:=noS) hu
  have hml:=XR a b (k:=k) (by omega)
  have hlm:k<(zM a b k).length:=by omega
  have hmg:=Zi a b (k:=k) (by omega)
  have hmp:=Pq (a.parts.getD k noS) u (hag k) (by rw[←eu];exact hbg k) (hap k (by omega)) (by rw[←eu];exact hbp k hlt')
  have hms:=fun w=>Xg a b (k:=k) (by omega) hlt' (w:=w)
  have hbk:xI a b k=(aY (a.parts.getD k noS) (b.parts.getD k noS)||aY (b.parts.getD k noS) (a.parts.getD k noS)):=by
   unfold xI
   rw[decide_eq_false (by omega),Bool.false_or]
  rw[eu] at hms hbk
  have hge:=tJ encS (zM a b k) k noS hlm
  rw[hmg] at hge
  generalize hA:zM a b k=A at hge hms hml hlm
  cases hpv:zf (a.parts.getD k noS) u with
  |none=>
   rw[hpv] at hmp
   simp only[Option.getD,Option.isSome] at hmp
   have hR:M=none:=by
    rw[hM,if_neg]
    intro e
    have h5:=jm _ k _ (by omega) e
    rw[hbk] at h5
    unfold zf at hpv
    split at hpv
    ·cases hpv
    ·split at hpv
     ·cases hpv
     ·rename_i h6 h7
      simp only[Bool.not_eq_true] at h6 h7
      rw[h6,h7] at h5;cases h5
   (repeat (first|refine nx (p2 @he @hge) ?_|refine cf (hmp) ?_))
   refine aj ?_ ?_
   rotate_left
   ·intro h;cases h
   intro _
   try refine nv ?_
   refine rA [] ?_
   refine⟨?_,rfl⟩
   rw[hR];rfl
  |some w=>
   rw[hpv] at hmp
   simp only[Option.getD,Option.isSome] at hmp
   have hbt:xI a b k=true:=by
    rw[hbk]
    unfold zf at hpv
    split at hpv
    ·rename_i h6;rw[h6];rfl
    ·split at hpv
     ·rename_i h7;rw[h7];simp
     ·cases hpv
   (repeat (first|refine nx (p2 @he @hge) ?_|refine cf (hmp) ?_))
   refine aj ?_ ?_
   ·intro h;cases h
   intro _
   try refine nx @zn ?_
   refine⟨k+1,⟨by omega,fun i hi=>?_⟩,by omega,?_⟩
   ·rcases Nat.lt_succ_iff_lt_or_eq.1 hi with hi|rfl
    ·exact hall i hi
    ·exact hbt
   ·rw[←hms w hpv]
    exact cO
 intro hge
 have hk':k=b.parts.length:=by have:¬k<b.parts.length:=by simpa using hge
                               omega
 subst hk'
 rw[VG a b hba]
 rw[if_pos (Ws hba hall)] at hM
 refine bC ?_
 refine bz (aZ (i:=6) (id:=7) (ys:=(iL a b a.parts.length).map encS) rfl rfl (by rw[List.length_map,lQ])) ?_
 refine dZ ?_
 try refine nv ?_
 refine rA [] ?_
 refine⟨?_,rfl⟩
 have hr2:(bif a.rest then b.rest else false)=a.rest:=by
  conv=>rhs;rw[←hrest]
  cases a.rest<;>rfl
 rw[hM,hr2];rfl
end Go.Proofs.YtcpgicfphakdaaaGreatDoor
