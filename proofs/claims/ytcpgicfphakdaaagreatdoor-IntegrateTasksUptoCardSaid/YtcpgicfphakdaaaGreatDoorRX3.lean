/- A part of the proof. -/
import Derived.Ground.NamesProg
import Derived.Shelf.Lay
import Derived.Test.YtcpgicfphakdaaaGreatDoorRX2
import Derived.Test.YtcpgicfphakdaaaGreatDoorRAbSc
set_option maxRecDepth 100000
set_option maxHeartbeats 8000000
set_option linter.all false
namespace Go.Proofs
open Go.Shelf
shelf_lay Lays.n156 Nm 156 at Tryz as Tryz.lays156
theorem Tryz.acX:Builder.Extra Tryz.prog Tryz.lays156_ren where
 sizeBuilder:=by kernel_rfl
 liesBuilder:=by kernel_rfl
 t5:=Tryz.underlying5
 a5:=Tryz.isAgg5
 z5:=Tryz.sizeOf5
 v5:=Tryz.zeroValue5
 infoByte:=by kernel_rfl
 cellsByte:=by kernel_rfl
 sizeByte:=by kernel_rfl
 neB5:=by decide
end Go.Proofs
namespace Go.Proofs.YtcpgicfphakdaaaGreatDoor
open Go.Ab Tys
variable [zG]
theorem uV (l:List ByteArray) (sep:ByteArray) (hl:l.length≤1000000) (hs:(fE l sep).size≤140737488355328):
 AC Tryz.prog 145 [dJ l,Str sep] [] (fun r st=>r=Str (fE l sep)∧st=[]):=
 aba (P:=Tryz.prog) ⟨_,Tryz.func145,by kernel_rfl,by kernel_rfl⟩ (by kernel_rfl) Tryz.lays156 Tryz.acX l sep hl hs
end Go.Proofs.YtcpgicfphakdaaaGreatDoor
namespace Go.Proofs.YtcpgicfphakdaaaGreatDoor
open Go.Ab Tys
variable [zG]
theorem U0 {n:Nat}:∀l:List ByteArray,(∀s∈l,s.size≤n)→Lib.lens (l.map (·.data.toList))≤l.length*n
 |[],_=>by simp[Lib.lens]
 |a::l,h=>by
  have ih:=U0 l fun s hs=>h s (by simp[hs])
  have ha:a.data.size≤n:=h a (by simp)
  simp only[Lib.lens,List.map_cons,List.sum_cons,List.length_cons,Nat.add_mul,Nat.one_mul,Array.length_toList] at ih⊢
  omega
theorem xP {n:Nat} (l:List ByteArray) (h:∀s∈l,s.size≤n):(fE l slash).size≤l.length*(n+1):=by
 have e:(fE l slash).size=(Lib.join (l.map (·.data.toList)) [47]).length:=by simp[fE,ByteArray.size,slash]
 rw[e]
 cases l with
 |nil=>simp[Lib.join_nil]
 |cons a l=>
  have:=U0 (a::l) h
  rw[List.map_cons,Lib.join_length,←List.map_cons (f:=fun s:ByteArray=>s.data.toList)]
  simp only[List.length_cons,List.length_nil,List.length_map,Nat.mul_add,Nat.mul_one] at this⊢
  omega
theorem ry (l:List ByteArray) (hl:l.length≤1000000) (h:∀s∈l,s.size≤1000000):(fE l slash).size≤140737488355328:=by
 have h1:=xP l h
 have h2:l.length*(1000000+1)≤1000000*(1000000+1):=Nat.mul_le_mul_right _ hl
 omega
def aeW.kk:=LK kB kG Tryz.ntmps211 Tryz.underlying4 Tryz.underlying74 df eH dW gV yR jO fM jy Tryz.results211
open aeW in
theorem Zd (p q:aX) (hp:p.parts.length≤1000000) (hq:q.parts.length≤1000000):AC Tryz.prog 211 [aPat p,aPat q] [] (fun r st=>r=B (decide (p=q))∧st=[]):=by
 obtain⟨ps,rp⟩:=p
 obtain⟨qs,rq⟩:=q
 simp only at hp hq
 refine bV Tryz.func211 Tryz.ntmps211 fun x hx=>?_
 try refine nv ?_
 refine af ?_ ?_
 ·intro h
  have hne:¬((⟨ps,rp⟩:aX)=⟨qs,rq⟩):=by
   intro e
   simp only[aX.mk.injEq] at e
   obtain⟨rfl,rfl⟩:=e
   simp at h
  try refine nv ?_
  refine rA [] ?_
  refine⟨?_,rfl⟩
  simp[hne]
 intro h
 have h1:rp=rq∧ps.length=qs.length:=by
  by_cases e:rp=rq
  ·refine⟨e,?_⟩
   subst e
   have h:(ps.length:Int)=qs.length:=by simpa using h
   omega
  ·simp[e] at h
 obtain⟨rfl,hlen⟩:=h1
 try refine nv ?_
 refine ag (ι:=Nat) (I:=fun k=>⟨37,[(3, .c (.ptr 3 0)),(22,dJ ps),(23,I .i64 ps.length),(24,I .i64 k)],[(3, .box ((au ⟨qs,rp⟩).map C.d))]⟩)
  (Inv:=fun k=>k≤ps.length∧ps.take k=qs.take k) (μ:=fun k=>ps.length-k) 0 ⟨by omega,by simp⟩ ?_ ?_
 ·exact aW
 rintro k ⟨hk,hall⟩
 try refine nv ?_
 refine af ?_ ?_
 ·intro hlt
  have hlt':k<ps.length:=by simpa using hlt
  obtain⟨v,hv,he,htk⟩:=round encS ps k noS hlt'
  obtain⟨u,hu,he2,htk2⟩:=round encS qs k noS (by omega)
  try refine nx (p2 @he @he2) ?_
  refine af ?_ ?_
  ·intro hb
   have hb':¬v=u:=by simpa using hb
   have hne:¬((⟨ps,rp⟩:aX)=⟨qs,rp⟩):=by
    intro e
    simp only[aX.mk.injEq,and_true] at e
    subst e
    rw[hv] at hu;cases hu;exact hb' rfl
   try refine nv ?_
   refine rA [] ?_
   refine⟨?_,rfl⟩
   simp[hne]
  ·intro hb
   have hb':v=u:=by simpa using hb
   try refine nv ?_
   refine⟨k+1,⟨by omega,?_⟩,by omega,?_⟩
   ·rw[htk,htk2,hall,hb']
   ·exact aW
 intro hge
 have hk':k=ps.length:=by have:¬k<ps.length:=by simpa using hge
                          omega
 subst hk'
 rw[List.take_length,hlen,List.take_length] at hall
 subst hall
 try refine nv ?_
 refine rA [] ?_
 refine⟨?_,rfl⟩
 simp
def aez.kk:=p3 kB Tryz.ntmps219 Tryz.results219
open aez in
theorem Un (l:List ByteArray) (hl:l.length≤1000000) (hs:∀s∈l,s.size≤1000000):AC Tryz.prog 219 [dJ l] [] (fun r st=>r=Str (iJ++fE l slash)∧st=[]):=by
 refine bV Tryz.func219 Tryz.ntmps219 fun x hx=>?_
 have hbig:=xP l hs
 have hbig2:l.length*(1000000+1)≤1000000*(1000000+1):=Nat.mul_le_mul_right _ hl
 have hds:ByteArray.size {data:= #[47,47]}=2:=rfl
 (repeat (first|refine nv ?_|refine cf (uV l slash hl (ry l hl hs)) ?_))
 refine o7 (by simp) (by simp only[kV, ↓reduceIte,Nat.reduceEqDiff,reduceCtorEq];first|done|rfl) (by simp only[kV, ↓reduceIte,Nat.reduceEqDiff,reduceCtorEq];first|done|rfl) ?_ ?_
 ·omega
 try refine nv ?_
 refine rA [] ?_
 refine⟨?_,rfl⟩
 rfl
def aew.kk:=p9 kB Tryz.ntmps209 df dW gV yR jO fM Tryz.results209
open aew in
theorem Vg (p:aX) (hp:PB 1000000 p):AC Tryz.prog 209 [aPat p] [] (fun r st=>r=Str (yC p)∧st=[]):=by
 obtain⟨ps,rs⟩:=p
 refine bV Tryz.func209 Tryz.ntmps209 fun x hx=>?_
 have hbig:=xP ps hp.2
 have hbig2:ps.length*(1000000+1)≤1000000*(1000000+1):=Nat.mul_le_mul_right _ hp.1
 have hds:ByteArray.size {data:= #[47,47]}=2:=rfl
 have hds2:ByteArray.size {data:= #[47,46,46,46]}=4:=rfl
 (repeat (first|refine nv ?_|refine cf (uV ps slash hp.1 (ry ps hp.1 hp.2)) ?_))
 refine o7 (by simp) (by simp only[kV, ↓reduceIte,Nat.reduceEqDiff,reduceCtorEq];first|done|rfl) (by simp only[kV, ↓reduceIte,Nat.reduceEqDiff,reduceCtorEq];first|done|rfl) ?_ ?_
 ·omega
 try refine nv ?_
 refine af ?_ ?_
 ·intro h
  try refine nv ?_
  refine o7 (by simp) (by simp only[kV, ↓reduceIte,Nat.reduceEqDiff,reduceCtorEq];first|done|rfl) (by simp only[kV, ↓reduceIte,Nat.reduceEqDiff,reduceCtorEq];first|done|rfl) ?_ ?_
  ·rw[ByteArray.size_append];omega
  try refine nv ?_
  refine rA [] ?_
  refine⟨?_,rfl⟩
  simp only[yC,h,if_true]
 ·intro h
  try refine nv ?_
  refine rA [] ?_
  refine⟨?_,rfl⟩
  simp only[yC,h,if_false,Bool.false_eq_true]
theorem KG {p:aX} {l:List ByteArray}:(bif bif bif bif !decide (aS p=0) then true else false then true else decide ((l.length:Int)<p.parts.length) then true else bif !p.rest then decide ((p.parts.length:Int)<l.length) else false then true else
 bif p.rest then decide ((l.length:Int)=p.parts.length) else false)=!pX p l:=by
 unfold pX fG
 rw[show decide ((l.length:Int)<p.parts.length)=decide (l.length<p.parts.length) by simp,show decide ((p.parts.length:Int)<l.length)=decide (p.parts.length<l.length) by simp,
  show decide ((l.length:Int)=p.parts.length)=decide (l.length=p.parts.length) from decide_eq_decide.2 (by omega)]
 generalize decide (l.length<p.parts.length)=a
 generalize decide (p.parts.length<l.length)=b
 generalize decide (l.length=p.parts.length)=c
 generalize decide (aS p=0)=e
 generalize p.rest=r
 cases a<;>cases b<;>cases c<;>cases e<;>cases r<;>rfl
theorem U3 {p:aX} (h:fG p=true):1≤p.parts.length:=by
 unfold fG aS at h
 rw[decide_eq_true_eq] at h
 split at h
 ·omega
 ·rename_i h1
  simp only[not_or] at h1
  omega
theorem zU (ps ls:List ByteArray):∀k,(fU ps ls k).length≤k
 |0=>Nat.le_refl _
 |k+1=>by
  have:=zU ps ls k
  simp only[fU,List.length_append]
  split<;>simp<;>omega
theorem uf (ps ls:List ByteArray) (k:Nat):qy ps ls (k+1)=(qy ps ls k&&(lY (ps.getD k noS) (ls.getD k noS)).2):=by
 simp[qy,List.range_succ,List.all_append]
theorem JY {ps ls:List ByteArray} {k n:Nat} (hk:k<n) (h:(lY (ps.getD k noS) (ls.getD k noS)).2=false):qy ps ls n=false:=by
 cases e:qy ps ls n
 ·rfl
 ·have:=gB n k _ hk e
  rw[h] at this;cases this
theorem QX {s:ByteArray} {l:List ByteArray} (h:aV s=some l):l.length≤s.size+1:=by
 unfold aV at h
 split at h
 ·rename_i l' hpp
  split at h
  ·cases h
  ·cases h
   unfold jK at hpp
   split at hpp
   ·split at hpp
    ·cases hpp
     have h1:=qX (s.extract 2 s.size)
     rw[ByteArray.size_extract] at h1
     omega
    ·cases hpp
   ·cases hpp
 ·cases h
theorem getD_some {α:Type} {l:List α} {k:Nat} {v z:α} (h:l[k]? =some v):l.getD k z=v:=by simp[List.getD_eq_getElem?_getD,h]
def z156.kk:=LK kB kG kS Tryz.ntmps156 Tryz.underlying74 df eH dW gV yR jO fM jy Tryz.results156
open z156 in
theorem Iz (p:aX) (hp:PB 1000000 p) (s:ByteArray) (hs:s.size≤1000000):AC Tryz.prog 156 [aPat p,Str s] [] (fun r st=>r= .tup [gZ (dC p s),pB (dC p s).isSome]∧st=[]):=by
 have hv:=Gj s hs
 have hck:=iQ p hp
 have hmp:dC p s=match aV s with|none=>none|some l=>if pX p l&&qy p.parts l p.parts.length then some (fU p.parts l p.parts.length++(if p.rest then [fE (l.drop p.parts.length) slash] else [])) else none:=rfl
 have hfit:∀l,pX p l=(fG p&&!(decide (l.length<p.parts.length)||(!p.rest&&decide (p.parts.length<l.length))||(p.rest&&decide (l.length=p.parts.length)))):=fun _=>rfl
 obtain⟨ps,rs⟩:=p
 generalize hM:dC ⟨ps,rs⟩ s=M at hmp
 cases hl:aV s with
 |none=>
  rw[hl] at hv hmp
  simp only[gZ,pB,Option.isSome] at hv
  simp only at hmp
  subst hmp
  refine bV Tryz.func156 Tryz.ntmps156 fun x hx=>?_
  (repeat (first|refine nv ?_|refine cf (hv) ?_|refine cf (hck) ?_))
  refine af ?_ ?_
  ·intro _
   try refine nv ?_
   refine rA [] ?_
   refine⟨?_,rfl⟩
   rfl
  ·intro h;simp at h
 |some l=>
  rw[hl] at hv hmp
  simp only[gZ,pB,Option.isSome] at hv
  simp only at hmp
  refine bV Tryz.func156 Tryz.ntmps156 fun x hx=>?_
  (repeat (first|refine nv ?_|refine cf (hv) ?_|refine cf (hck) ?_))
  have hls:∀k,(l.getD k noS).size≤1000000:=by
   intro k
   unfold aV at hl
   split at hl
   ·rename_i l' hpp
    split at hl
    ·cases hl
    ·cases hl
     unfold jK at hpp
     split at hpp
     ·split at hpp
      ·cases hpp
       rw[List.getD_eq_getElem?_getD]
       cases e:(split (s.extract 2 s.size))[k]? with
       |none=>exact Nat.zero_le _
       |some v=>
        have h1:=lG _ _ v (List.mem_of_getElem? e)
        rw[ByteArray.size_extract] at h1
        simp only[Option.getD_some];omega
      ·cases hpp
     ·cases hpp
   ·cases hl
  refine af ?_ ?_
  ·intro h
   have hf:pX ⟨ps,rs⟩ l=false:=by
    have:=KG (p:=⟨ps,rs⟩) (l:=l)
    simp only at this
    rw[this] at h;simpa using h
   rw[hf] at hmp
   try refine nv ?_
   refine rA [] ?_
   refine⟨?_,rfl⟩
   rw[hmp];rfl
  intro h
  have hf:pX ⟨ps,rs⟩ l=true:=by
   have:=KG (p:=⟨ps,rs⟩) (l:=l)
   simp only at this
   rw[this] at h;simpa using h
  rw[hf,Bool.true_and] at hmp
  have hlen:ps.length≤l.length:=by
   rw[hfit] at hf
   simp only[Bool.and_eq_true,Bool.not_eq_true',Bool.or_eq_false_iff,decide_eq_false_iff_not] at hf
   omega
  refine aJ ?_
  refine gg ?_
  refine aJ ?_
  refine aG (eG (i:=9) (id:=100) (sz:=1) rfl rfl (by omega)) ?_
  refine dM ?_
  try refine nv ?_
  have h1:=hp.1
  simp only at h1
  refine ag (ι:=Nat) (I:=fun k=>⟨98,[(2, .c (.ptr 2 0)),(6,dJ l),(8,I .i64 ps.length),(9, .c (.ms 100 1 0 (fU ps l k).length)),(59,dJ ps),(60,I .i64 ps.length),(61,I .i64 k)],
   [(2, .box ((au ⟨ps,rs⟩).map C.d)),(100,aQ 1 ((fU ps l k).map encS))]⟩)
   (Inv:=fun k=>k≤ps.length∧qy ps l k=true) (μ:=fun k=>ps.length-k) 0 ⟨by omega,rfl⟩ ?_ ?_
  ·((try simp only[fU]);exact aW)
  rintro k ⟨hk,hall⟩
  have hcl:=zU ps l k
  try refine nv ?_
  refine af ?_ ?_
  ·intro hlt
   have hlt':k<ps.length:=by simpa using hlt
   obtain⟨v,hv,he,_⟩:=round encS ps k noS hlt'
   obtain⟨u,hu,he2,_⟩:=round encS l k noS (by omega)
   have ev:=getD_some (z:=noS) hv
   have eu:=getD_some (z:=noS) hu
   have hvs:v.size≤1000000:=hp.2 v (List.mem_of_getElem? hv)
   have hus:u.size≤1000000:=by rw[←eu];exact hls k
   (repeat (first|refine nx (p2 @he @he2) ?_|refine cf (U4 v u hvs hus) ?_))
   refine af ?_ ?_
   ·intro hb
    have hb':(lY v u).2=false:=by simpa using hb
    rw[JY hlt' (by rw[ev,eu];exact hb')] at hmp
    try refine nv ?_
    refine rA [] ?_
    refine⟨?_,rfl⟩
    rw[hmp];rfl
   intro hb
   have hb':(lY v u).2=true:=by simpa using hb
   (repeat (first|refine nv ?_|refine cf (qP v hvs) ?_))
   refine af ?_ ?_
   ·intro hst
    try refine nv ?_
    refine⟨k+1,⟨by omega,by rw[uf,hall,ev,eu,hb'];rfl⟩,by omega,?_⟩
    have e:fU ps l (k+1)=fU ps l k++[(lY v u).1]:=by simp only[fU,ev,eu,hst,if_true]
    rw[e]
    exact uY (fun i=>if i=100 then 86 else i)
   ·intro hst
    try refine nv ?_
    refine⟨k+1,⟨by omega,by rw[uf,hall,ev,eu,hb'];rfl⟩,by omega,?_⟩
    have e:fU ps l (k+1)=fU ps l k:=by simp only[fU,ev,hst,if_false,Bool.false_eq_true,List.append_nil]
    rw[e]
    exact aW
  intro hge
  have hk':k=ps.length:=by have:¬k<ps.length:=by simpa using hge
                           omega
  subst hk'
  rw[if_pos hall] at hmp
  try refine nv ?_
  refine af ?_ ?_
  ·intro hr
   subst hr
   have hdl:(l.drop ps.length).length≤1000000:=by
    rw[List.length_drop]
    have:=QX hl
    have hn:1≤ps.length:=(U3 (p:=⟨ps,true⟩) (by rw[hfit] at hf;exact(Bool.and_eq_true_iff.1 hf).1))
    have hn':1≤ps.length:=hn
    omega
   have hds:∀v∈l.drop ps.length,v.size≤1000000:=by
    intro v hv
    obtain⟨i,hi⟩:=List.getElem?_of_mem (List.mem_of_mem_drop hv)
    have:=hls i
    rw[getD_some hi] at this;exact this
   have hj:AC Tryz.prog 145 [.c (.d (.ps 1 ((l.map encS).drop ps.length))),Str slash] [] (fun r st=>r=Str (fE (l.drop ps.length) slash)∧st=[]):=by
    rw[←List.map_drop]
    exact uV (l.drop ps.length) slash hdl (ry _ hdl hds)
   refine aJ ?_
   refine gg ?_
   refine qQ [] (hj) ?_
   rintro r st' ⟨rfl,rfl⟩<;>refine qU ?_
   refine gg ?_
   refine aJ ?_
   refine aG (aI (i:=9) (id:=96) (ys:=(fU ps l ps.length++[fE (l.drop ps.length) slash]).map encS) rfl (by simp[Ab.get]) (by simp)) ?_
   refine dM ?_
   try refine nv ?_
   refine rA [] ?_
   refine⟨?_,rfl⟩
   rw[hmp];simp[gZ,pB]
  ·intro hr
   subst hr
   refine aJ ?_
   refine aG (aI (i:=9) (id:=100) (ys:=(fU ps l ps.length).map encS) rfl rfl (by simp)) ?_
   refine dM ?_
   try refine nv ?_
   refine rA [] ?_
   refine⟨?_,rfl⟩
   rw[hmp];simp[gZ,pB]
end Go.Proofs.YtcpgicfphakdaaaGreatDoor
