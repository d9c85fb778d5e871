/- A part of the proof. -/
import Derived.Test.YtcpgicfphakdaaaGreatDoorRT8
set_option maxRecDepth 100000
set_option maxHeartbeats 8000000
set_option linter.all false
namespace Go.Proofs.YtcpgicfphakdaaaGreatDoor
open Go.Ab Tys
variable [Dr]
theorem SE {p q a b:aX} (hab:(a,b)=if p.parts.length<q.parts.length then(q,p) else(p,q)):
 EU p.parts.length p.rest q.parts.length q.rest=!decide ((b.parts.length<a.parts.length∧b.rest=false)∨(a.parts.length=b.parts.length∧a.rest≠b.rest)):=by
 rw[Bool.eq_iff_iff,Bool.not_eq_true',decide_eq_false_iff_not]
 unfold EU
 by_cases hl:p.parts.length<q.parts.length
 ·rw[if_pos hl] at hab
  cases hab
  cases p.rest<;>cases q.rest<;>simp<;>omega
 ·rw[if_neg hl] at hab
  cases hab
  cases p.rest<;>cases q.rest<;>simp<;>omega
def AL (a b:aX) (k:Nat):List ByteArray:=gW a b k++a.parts.drop k
theorem ZC (a b:aX) {k:Nat} (hk:k≤a.parts.length):(AL a b k).length=a.parts.length:=by
 simp[AL,kK];omega
theorem Yj (a b:aX) {k:Nat} (hk:k<a.parts.length):(AL a b k).getD k noS=a.parts.getD k noS:=by
 simp only[AL,List.getD_eq_getElem?_getD]
 rw[List.getElem?_append_right (by rw[kK];exact Nat.le_refl _),kK,List.getElem?_drop]
 simp
theorem ZU (a b:aX) {k:Nat} (hk:k<a.parts.length) (hb:k<b.parts.length) {w:ByteArray} (hw:Ae (a.parts.getD k noS) (b.parts.getD k noS)=some w):(AL a b k).set k w=AL a b (k+1):=by
 have e:w=if decide (b.parts.length≤k)||aF (a.parts.getD k noS) (b.parts.getD k noS) then a.parts.getD k noS else b.parts.getD k noS:=by
  unfold Ae at hw
  have:¬b.parts.length≤k:=by omega
  simp only[decide_eq_false this,Bool.false_or]
  split at hw
  ·rename_i h;cases hw;rw[if_pos h]
  ·rename_i h
   split at hw
   ·cases hw;rw[if_neg h]
   ·cases hw
 simp only[AL,gW,←e]
 rw[List.set_append_right _ _ (by rw[kK];exact Nat.le_refl _),kK,Nat.sub_self]
 rw[List.drop_eq_getElem_cons hk,List.set_cons_zero]
 simp
theorem Wx (a b:aX) (hb:b.parts.length≤a.parts.length):AL a b b.parts.length=gW a b a.parts.length:=by
 have key:∀j,b.parts.length+j≤a.parts.length→gW a b (b.parts.length+j)=gW a b b.parts.length++(a.parts.drop b.parts.length).take j:=by
  intro j
  induction j with
  |zero=>intro _;simp
  |succ j ih=>
   intro hj
   rw[show b.parts.length+(j+1)=(b.parts.length+j)+1 by omega,gW,ih (by omega)]
   rw[if_pos (by simp),List.append_assoc]
   congr 1
   rw[List.take_add_one,List.getElem?_drop,List.getElem?_eq_getElem (by omega)]
   simp[List.getD_eq_getElem?_getD,List.getElem?_eq_getElem (by omega:b.parts.length+j<a.parts.length)]
 have:=key (a.parts.length-b.parts.length) (by omega)
 rw[show b.parts.length+(a.parts.length-b.parts.length)=a.parts.length by omega] at this
 rw[this,AL,List.take_of_length_le (by simp)]
theorem WU {a b:aX} (hb:b.parts.length≤a.parts.length) (h:∀i,i<b.parts.length→ug a b i=true):(List.range a.parts.length).all (ug a b)=true:=by
 rw[List.all_eq_true]
 intro i hi
 have hi:=List.mem_range.1 hi
 by_cases e:i<b.parts.length
 ·exact h i e
 ·simp[ug,show b.parts.length≤i by omega]
def aeD.kk:=LK kB kG kS Tryz.ntmps129 Tryz.underlying74 df eH dW gV yR jO fM jy Tryz.results129
open aeD in
theorem Pv (p q:aX) (hp:PB 1000000 p) (hq:PB 1000000 q):AC Tryz.prog 129 [aPat p,aPat q] [] (fun r st=>r= .tup [Af (gz p q),pB (gz p q).isSome]∧st=[]):=by
 have hcp:=lK p hp
 have hcq:=lK q hq
 have hok:fG p=decide (aS p=0):=rfl
 have hokq:fG q=decide (aS q=0):=rfl
 obtain⟨a,b,hab⟩:∃a b:aX,(a,b)=if p.parts.length<q.parts.length then(q,p) else(p,q):=⟨_,_,rfl⟩
 have hM:gz p q=if fG p&&fG q then sD a b else none:=by
  unfold gz
  split
  ·by_cases hl:p.parts.length<q.parts.length
   ·rw[if_pos hl] at hab⊢;cases hab;rfl
   ·rw[if_neg hl] at hab⊢;cases hab;rfl
  ·rfl
 have ha:PB 1000000 a:=by split at hab<;>cases hab<;>assumption
 have hb:PB 1000000 b:=by split at hab<;>cases hab<;>assumption
 have hba:b.parts.length≤a.parts.length:=by split at hab<;>(cases hab;omega)
 have hoa:fG p=true→fG q=true→fG a=true∧fG b=true:=fun h1 h2=>by split at hab<;>cases hab<;>exact⟨by assumption,by assumption⟩
 have hcm:=SE hab
 have hco:=Jk p.parts.length q.parts.length p.rest q.rest
 generalize EU p.parts.length p.rest q.parts.length q.rest=cm at hcm hco
 generalize hMM:gz p q=M at hM
 generalize aS p=ep at hcp hok
 generalize aS q=eq at hcq hokq
 refine bV Tryz.func129 Tryz.ntmps129 fun x hx=>?_
 (repeat (first|refine nv ?_|refine cf (hcp) ?_))
 refine so ([(16,I .i64 eq)]) ?_ ?_
 ·exact gI @hcq
 try refine nv ?_
 refine af ?_ ?_
 ·intro h
  have hR:M=none:=by
   rw[hM,hok,hokq]
   by_cases e1:ep=0
   ·by_cases e2:eq=0
    ·simp only[e1,e2,decide_true,Bool.not_true,cond_false] at h;cases h
    ·simp[e2]
   ·simp[e1]
  try refine nv ?_
  refine rA [] ?_
  refine⟨?_,rfl⟩
  rw[hR];rfl
 intro h
 have h0:ep=0∧eq=0:=by
  by_cases e1:ep=0
  ·by_cases e2:eq=0
   ·exact⟨e1,e2⟩
   ·simp[e1,e2] at h
  ·simp[e1] at h
 obtain⟨e1,e2⟩:=h0
 obtain⟨oa,ob⟩:=hoa (by rw[hok,e1];rfl) (by rw[hokq,e2];rfl)
 simp only[hok,hokq,e1,e2,decide_true,Bool.and_true,if_true] at hM
 have hm1:sD a b=if(b.parts.length<a.parts.length∧b.rest=false)∨(a.parts.length=b.parts.length∧a.rest≠b.rest) then none
  else if(List.range a.parts.length).all (ug a b) then some ⟨gW a b a.parts.length,a.rest⟩ else none:=rfl
 rw[hm1] at hM
 (repeat (first|refine nv ?_|refine cf (hco) ?_))
 refine af ?_ ?_
 ·intro hc
  have hc':cm=false:=by simpa using hc
  rw[hc'] at hcm
  have h9:=hcm.symm
  rw[Bool.not_eq_false'] at h9
  have:=of_decide_eq_true h9
  rw[if_pos this] at hM
  try refine nv ?_
  refine rA [] ?_
  refine⟨?_,rfl⟩
  rw[hM];rfl
 intro hc
 have hc':cm=true:=by simpa using hc
 rw[hc'] at hcm
 have hnc:¬((b.parts.length<a.parts.length∧b.rest=false)∨(a.parts.length=b.parts.length∧a.rest≠b.rest)):=by
  intro e
  rw[decide_eq_true e] at hcm
  cases hcm
 rw[if_neg hnc] at hM
 try refine nv ?_
 refine lW ⟨78,[(2, .c (.ptr 2 0)),(3, .c (.ptr 3 0)),(4, .c (.ptr 4 0))],[(2, .box ((au a).map C.d)),(3, .box ((au b).map C.d)),(4, .box [qm, .d (.v (.bool false))])]⟩ ?_ ?_
 ·refine af ?_ ?_
  ·intro hl
   have hl':p.parts.length<q.parts.length:=by have:=of_decide_eq_true hl;omega
   rw[if_pos hl'] at hab
   cases hab
   try refine nv ?_
   refine⟨rfl,?_⟩
   exact aW
  ·intro hl
   have hl':¬p.parts.length<q.parts.length:=by have:=of_decide_eq_false hl;omega
   rw[if_neg hl'] at hab
   cases hab
   try refine nv ?_
   refine⟨rfl,?_⟩
   exact aW
 clear hcp hcq hok hokq hp hq hco hm1 hoa
 have hap:=dO oa
 have hbp:=dO ob
 have hag:=ha.get
 have hbg:=hb.get
 have ha1:=ha.1
 have hb1:=hb.1
 have hane:a.parts≠[]:=by
  have:=(sW.1 oa).1
  intro e;rw[e] at this;simp at this
 have hcl:=Eb a.parts hane ha1
 have hrest:(a.rest&&b.rest)=a.rest:=by
  by_cases e:b.parts.length<a.parts.length
  ·cases hr:b.rest with
   |true=>simp
   |false=>exact absurd (.inl ⟨e,hr⟩) hnc
  ·have el:a.parts.length=b.parts.length:=by omega
   have:a.rest=b.rest:=Classical.byContradiction fun hr=>hnc (.inr ⟨el,hr⟩)
   rw[this];simp
 try refine nv ?_
 refine qQ [] (hcl) ?_
 rintro r st' ⟨rfl,rfl⟩<;>refine qU ?_
 try refine nv ?_
 refine ag (ι:=Nat) (I:=fun k=>⟨78,[(2, .c (.ptr 2 0)),(3, .c (.ptr 3 0)),(4, .c (.ptr 4 0)),(6, .c (.ms 7 1 0 a.parts.length)),(46,dJ b.parts),(47,I .i64 b.parts.length),(48,I .i64 k)],
  [(2, .box ((au a).map C.d)),(3, .box ((au b).map C.d)),(4, .box [qm, .d (.v (.bool false))]),(7,aQ 1 ((AL a b k).map encS))]⟩)
  (Inv:=fun k=>k≤b.parts.length∧∀i,i<k→ug a b i=true) (μ:=fun k=>b.parts.length-k) 0 ⟨by omega,by omega⟩ ?_ ?_
 ·(refine fZ (fun i=>i) rfl ?_ ⟨?_,?_,?_,gu hx (by simp[ae,Ab.get])⟩<;>first|(simp only[kE,aQ, ↓reduceIte,Nat.reduceEqDiff,reduceCtorEq,AL,gW,List.nil_append,List.drop_zero];done)|simp[di,bf,aA,Ab.get,aZ,dH,aN,bY,bG,bH,bD,bI,bC,ae,List.flatten,AL,gW,List.nil_append,List.drop_zero])
 rintro k ⟨hk,hall⟩
 try refine nv ?_
 refine af ?_ ?_
 ·intro hlt
  have hlt':k<b.parts.length:=by simpa using hlt
  obtain⟨u,hu,he,_⟩:=round encS b.parts k noS hlt'
  have eu:=fH (z:=noS) hu
  have hml:=ZC a b (k:=k) (by omega)
  have hlm:k<(AL a b k).length:=by omega
  have hmg:=Yj a b (k:=k) (by omega)
  have hmp:=Qs (a.parts.getD k noS) u (hag k) (by rw[←eu];exact hbg k) (hap k (by omega)) (by rw[←eu];exact hbp k hlt')
  have hms:=fun w=>ZU a b (k:=k) (by omega) hlt' (w:=w)
  have hbk:ug a b k=(aF (a.parts.getD k noS) (b.parts.getD k noS)||aF (b.parts.getD k noS) (a.parts.getD k noS)):=by
   unfold ug
   rw[decide_eq_false (by omega),Bool.false_or]
  rw[eu] at hms hbk
  have hge:=pY encS (AL a b k) k noS hlm
  rw[hmg] at hge
  generalize hA:AL a b k=A at hge hms hml hlm
  cases hpv:Ae (a.parts.getD k noS) u with
  |none=>
   rw[hpv] at hmp
   simp only[Option.getD,Option.isSome] at hmp
   have hR:M=none:=by
    rw[hM,if_neg]
    intro e
    have h5:=gB _ k _ (by omega) e
    rw[hbk] at h5
    unfold Ae at hpv
    split at hpv
    ·cases hpv
    ·split at hpv
     ·cases hpv
     ·rename_i h6 h7
      simp only[Bool.not_eq_true] at h6 h7
      rw[h6,h7] at h5;cases h5
   (repeat (first|refine nx (p2 @he @hge) ?_|refine cf (hmp) ?_))
   refine af ?_ ?_
   rotate_left
   ·intro h;cases h
   intro _
   try refine nv ?_
   refine rA [] ?_
   refine⟨?_,rfl⟩
   rw[hR];rfl
  |some w=>
   rw[hpv] at hmp
   simp only[Option.getD,Option.isSome] at hmp
   have hbt:ug a b k=true:=by
    rw[hbk]
    unfold Ae at hpv
    split at hpv
    ·rename_i h6;rw[h6];rfl
    ·split at hpv
     ·rename_i h7;rw[h7];simp
     ·cases hpv
   (repeat (first|refine nx (p2 @he @hge) ?_|refine cf (hmp) ?_))
   refine af ?_ ?_
   ·intro h;cases h
   intro _
   try refine nx @yS ?_
   refine⟨k+1,⟨by omega,fun i hi=>?_⟩,by omega,?_⟩
   ·rcases Nat.lt_succ_iff_lt_or_eq.1 hi with hi|rfl
    ·exact hall i hi
    ·exact hbt
   ·rw[←hms w hpv]
    exact aW
 intro hge
 have hk':k=b.parts.length:=by have:¬k<b.parts.length:=by simpa using hge
                               omega
 subst hk'
 rw[Wx a b hba]
 rw[if_pos (WU hba hall)] at hM
 refine aJ ?_
 refine aG (aI (i:=6) (id:=7) (ys:=(gW a b a.parts.length).map encS) rfl rfl (by rw[List.length_map,kK])) ?_
 refine dM ?_
 try refine nv ?_
 refine rA [] ?_
 refine⟨?_,rfl⟩
 have hr2:(bif a.rest then b.rest else false)=a.rest:=by
  conv=>rhs;rw[←hrest]
  cases a.rest<;>rfl
 rw[hM,hr2];rfl
end Go.Proofs.YtcpgicfphakdaaaGreatDoor
namespace Go.Proofs.YtcpgicfphakdaaaGreatDoor
open Go.Ab Tys
variable [zG]
def Js (s p:ByteArray):ByteArray×Bool:=if hasPrefix s p then(s.extract p.size s.size,true) else(s,false)
def adP.kk:=p6 kB kS Tryz.ntmps271 Tryz.underlying9 jy Tryz.results271
open adP in
theorem OA (s p:ByteArray) (hs:s.size≤1000000):AC Tryz.prog 271 [Str s,Str p] [] (fun r st=>r= .tup [pS (Js s p).1,pB (Js s p).2]∧st=[]):=by
 have hp:=yj s p
 refine bV Tryz.func271 Tryz.ntmps271 fun x hx=>?_
 (repeat (first|refine nv ?_|refine cf (hp) ?_))
 refine af ?_ ?_
 ·intro h
  have h':hasPrefix s p=false:=by simpa using h
  try refine nv ?_
  refine rA [] ?_
  refine⟨?_,rfl⟩
  simp only[Js,h',if_false,Bool.false_eq_true]
 intro h
 have h':hasPrefix s p=true:=by simpa using h
 have hl:p.size≤s.size:=by simp only[hasPrefix,Bool.and_eq_true,decide_eq_true_eq] at h';exact h'.1
 try refine nv ?_
 refine rA [] ?_
 refine⟨?_,rfl⟩
 simp only[Js,h',if_true]
def aem.kk:=p3 kB Tryz.ntmps259 Tryz.results259
open aem in
theorem V3 (s p:ByteArray) (hs:s.size≤1000000):AC Tryz.prog 259 [Str s,Str p] [] (fun r st=>r= .tup [pS (Js s p).1,pB (Js s p).2]∧st=[]):=by
 refine bV Tryz.func259 Tryz.ntmps259 fun x hx=>?_
 (repeat (first|refine nv ?_|refine cf (OA s p hs) ?_))
 refine rA [] ?_
 refine⟨?_,rfl⟩
 rfl
def aei.kk:=p7 kB Tryz.ntmps242 Tryz.underlying74 eH jO jy Tryz.results242
open aei in
theorem Jn (p:ByteArray) (hs:p.size≤1000000):AC Tryz.prog 242 [Str p,I .i64 2] [] (fun r st=>r= .tup [gZ (aV p),pB (aV p).isSome]∧st=[]):=by
 have hcu:=V3 p iJ hs
 have hP:aV p=match jK p with|some l=>if l.length<2 then none else some l|none=>none:=rfl
 have hPa:jK p=if hasPrefix p iJ then(if(split (p.extract 2 p.size)).all comp then some (split (p.extract 2 p.size)) else none) else none:=rfl
 rw[hPa] at hP
 generalize aV p=M at hP
 cases h':hasPrefix p iJ with
 |false=>
  rw[h'] at hP
  simp only[Bool.false_eq_true,if_false] at hP
  have hc2:Js p iJ=(p,false):=by simp only[Js,h',Bool.false_eq_true,if_false]
  rw[hc2] at hcu
  refine bV Tryz.func242 Tryz.ntmps242 fun x hx=>?_
  (repeat (first|refine nv ?_|refine cf (hcu) ?_))
  refine af ?_ ?_
  rotate_left
  ·intro h;cases h
  intro _
  try refine nv ?_
  refine rA [] ?_
  refine⟨?_,rfl⟩
  rw[hP];rfl
 |true=>
 rw[h'] at hP
 simp only[if_true] at hP
 have hc2:Js p iJ=(p.extract 2 p.size,true):=by simp only[Js,h',if_true];rfl
 rw[hc2] at hcu
 have hsz:2≤p.size:=by simp only[hasPrefix,Bool.and_eq_true,decide_eq_true_eq] at h';exact h'.1
 have hL:=qX (p.extract 2 p.size)
 have hL2:(p.extract 2 p.size).size≤p.size:=by simp
 have hsp:=CU (p.extract 2 p.size) (by omega)
 have hzz:∀v∈split (p.extract 2 p.size),v.size≤1000000:=by
  intro v hv
  have:=lG _ _ v hv
  omega
 generalize split (p.extract 2 p.size)=l at hP hL hsp hzz
 have hl1:l.length≤1000001:=by omega
 refine bV Tryz.func242 Tryz.ntmps242 fun x hx=>?_
 (repeat (first|refine nv ?_|refine cf (hcu) ?_))
 refine af ?_ ?_
 ·intro h;cases h
 intro _
 (repeat (first|refine nv ?_|refine cf (hsp) ?_))
 have e2:decide ((l.length:Int)<2)=decide (l.length<2):=decide_eq_decide.2 (by omega)
 refine af ?_ ?_
 ·intro h
  rw[e2] at h
  have hlt:l.length<2:=of_decide_eq_true h
  have hR:M=none:=by
   rw[hP]
   split
   ·rename_i l' hl'
    split at hl'
    ·cases hl';rw[if_pos hlt]
    ·cases hl'
   ·rfl
  try refine nv ?_
  refine rA [] ?_
  refine⟨?_,rfl⟩
  rw[hR];rfl
 intro h
 rw[e2] at h
 have hge:¬l.length<2:=of_decide_eq_false h
 try refine nv ?_
 refine ag (ι:=Nat) (I:=fun k=>⟨35,[(8,dJ l),(24,dJ l),(25,I .i64 l.length),(26,I .i64 k)],[]⟩)
  (Inv:=fun k=>k≤l.length∧(l.take k).all comp=true) (μ:=fun k=>l.length-k) 0 ⟨by omega,by simp⟩ ?_ ?_
 ·exact aW
 rintro k ⟨hk,hall⟩
 try refine nv ?_
 refine af ?_ ?_
 ·intro hlt
  have hlt':k<l.length:=by simpa using hlt
  obtain⟨v,hv,he,htk⟩:=round encS l k noS hlt'
  have hcm:=oL v (hzz v (List.mem_of_getElem? hv))
  (repeat (first|refine nx @he ?_|refine cf (hcm) ?_))
  refine af ?_ ?_
  ·intro hc
   have hc':comp v=false:=by simpa using hc
   have hR:M=none:=by
    rw[hP,if_neg]
    intro e
    rw[List.all_eq_true] at e;rw[e v (List.mem_of_getElem? hv)] at hc';cases hc'
   try refine nv ?_
   refine rA [] ?_
   refine⟨?_,rfl⟩
   rw[hR];rfl
  ·intro hc
   have hc':comp v=true:=by simpa using hc
   try refine nv ?_
   refine⟨k+1,⟨by omega,?_⟩,by omega,?_⟩
   ·rw[htk,List.all_append,hall];simp[hc']
   ·exact aW
 intro hge2
 have hk':k=l.length:=by have:¬k<l.length:=by simpa using hge2
                         omega
 rw[hk',List.take_length] at hall
 rw[if_pos hall] at hP
 simp only[if_neg hge] at hP
 try refine nv ?_
 refine rA [] ?_
 refine⟨?_,rfl⟩
 rw[hP];rfl
def z198.kk:=p3 kB Tryz.ntmps198 Tryz.results198
open z198 in
theorem Vz (p:ByteArray) (hs:p.size≤1000000):AC Tryz.prog 198 [Str p] [] (fun r st=>r= .tup [gZ (aV p),pI (if(aV p).isSome then 0 else 20)]∧st=[]):=by
 have h:=Jn p hs
 cases hp:aV p with
 |none=>
  rw[hp] at h
  simp only[gZ,pB,Option.isSome] at h
  refine bV Tryz.func198 Tryz.ntmps198 fun x hx=>?_
  (repeat (first|refine nv ?_|refine cf (h) ?_))
  refine af ?_ ?_
  rotate_left
  ·intro h;cases h
  intro _
  try refine nv ?_
  refine rA [] ?_
  refine⟨?_,rfl⟩
  rfl
 |some l=>
  rw[hp] at h
  simp only[gZ,pB,Option.isSome] at h
  refine bV Tryz.func198 Tryz.ntmps198 fun x hx=>?_
  (repeat (first|refine nv ?_|refine cf (h) ?_))
  refine af ?_ ?_
  ·intro h;cases h
  intro _
  try refine nv ?_
  refine rA [] ?_
  refine⟨?_,rfl⟩
  rfl
def z141.kk:=p3 kB Tryz.ntmps141 Tryz.results141
open z141 in
theorem RU (p:ByteArray) (hs:p.size≤1000000):AC Tryz.prog 141 [Str p] [] (fun r st=>r= .tup [gZ (aV p),pB (aV p).isSome]∧st=[]):=by
 have h:=Vz p hs
 cases hp:aV p with
 |none=>
  rw[hp] at h
  simp only[gZ,Option.isSome,Bool.false_eq_true,if_false] at h
  refine bV Tryz.func141 Tryz.ntmps141 fun x hx=>?_
  (repeat (first|refine nv ?_|refine cf (h) ?_))
  refine rA [] ?_
  refine⟨?_,rfl⟩
  rfl
 |some l=>
  rw[hp] at h
  simp only[gZ,Option.isSome,if_true] at h
  refine bV Tryz.func141 Tryz.ntmps141 fun x hx=>?_
  (repeat (first|refine nv ?_|refine cf (h) ?_))
  refine rA [] ?_
  refine⟨?_,rfl⟩
  rfl
end Go.Proofs.YtcpgicfphakdaaaGreatDoor
