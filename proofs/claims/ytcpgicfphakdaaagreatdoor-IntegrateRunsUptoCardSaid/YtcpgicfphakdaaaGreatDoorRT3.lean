/- A part of the proof. -/
import Derived.Test.YtcpgicfphakdaaaGreatDoorRX2
import Derived.Test.YtcpgicfphakdaaaGreatDoorRP41
set_option maxRecDepth 100000
set_option maxHeartbeats 8000000
set_option linter.all false
namespace Go.Proofs.YtcpgicfphakdaaaGreatDoor
open Go.Ab Tys
variable [Dr]
theorem look0 (k:List C):fD k []=none:=rfl
theorem Nu {κ:Type} (p:κ→Bool) (x:List κ) (k:κ) (y:List κ):(x++k::y).all p=(p k&&(x++y).all p):=by
 simp only[List.all_append,List.all_cons]
 cases x.all p<;>cases p k<;>cases y.all p<;>rfl
def z97.kk:=p9 kB kM Tryz.ntmps97 PN KP GV uz MH Tryz.results97
open z97 in
theorem VU (l m:List Int):AC Tryz.prog 97 [.c (.d (.pm (gI kN l))), .c (.d (.pm (gI kN m)))] [] (fun r st=>r=B (Vo l m)∧st=[]):=by
 refine dA Tryz.func97 Tryz.ntmps97 fun x hx=>?_
 try refine nv ?_
 refine ax (ι:=Option iV×List Int) (I:=fun i=>⟨16,[(1, .c (.d (.pm (gI kN m)))),(7, .c (.ptr 7 0))],[(7, .iter i.1 (gI kN i.2))]⟩) (Inv:=fun i=>Vo l m=i.2.all (fun k=>decide (k∈m))) (μ:=fun i=>i.2.length) (none,l) rfl ?_ ?_
 ·exact cO
 rintro⟨cur,rest⟩ h
 simp only at h⊢
 refine bC ?_
 refine vH (id:=7) (by simp) (by simp only[kV, ↓reduceIte,Nat.reduceEqDiff,reduceCtorEq];first|done|rfl) rfl ?_ ?_
 ·intro h0
  refine dZ ?_
  try refine nv ?_
  refine aj ?_ ?_
  ·intro hh;cases hh
  intro _
  try refine nv ?_
  refine rA [] ?_
  refine⟨?_,rfl⟩
  have:rest=[]:=by simpa[gI] using h0
  rw[h,this];rfl
 intro l1 e l2 hsp
 obtain⟨xs,k,y,rfl,rfl,rfl,rfl⟩:=qo hsp
 refine dZ ?_
 (repeat (first|refine Eb ?_|refine BP (wr:=false) (by simp only[kk,Nat.reduceAdd,Nat.reduceLT,Nat.reduceEqDiff, ↓reduceIte,reduceCtorEq,jV];first|done|rfl) ?_))
 refine aj ?_ ?_
 rotate_left
 ·intro hh;cases hh
 intro _
 (repeat (first|refine Eb ?_|refine BP (wr:=false) (by simp only[kk,Nat.reduceAdd,Nat.reduceLT,Nat.reduceEqDiff, ↓reduceIte,reduceCtorEq,jV];first|done|rfl) ?_))
 refine gy @Yw ?_ ?_
 ·exact iw (VI m)
 try refine nv ?_
 refine aj ?_ ?_
 ·intro hk
  try refine nv ?_
  refine rA [] ?_
  refine⟨?_,rfl⟩
  rw[h,Nu]
  simp at hk
  simp[hk]
 ·intro hk
  try refine nv ?_
  refine⟨(some (kN k,(false,[.v (.bool true)])),xs++y),?_,by simp,?_⟩
  ·rw[h,Nu]
   simp at hk
   simp[hk]
  ·exact cO
def aeg.kk:=p9 kB kM Tryz.ntmps134 PN KP GV uz MH Tryz.results134
open aeg in
theorem RI (l:List Int) (t:Option (List Int)):AC Tryz.prog 134 [.c (.d (.pm (gI kN l))), .c (.d (Pn kN t))] [] (fun r st=>(∃m,(∀k,k∈m↔k∈l∧¬k∈t.getD [])∧r= .c (.d (.pm (gI kN m))))∧st=[]):=by
 refine dA Tryz.func134 Tryz.ntmps134 fun x hx=>?_
 cases t with
 |none=>
  try refine nv ?_
  refine ax (ι:=Option iV×List Int×List Int) (I:=fun i=>⟨21,[(1, .c (.d (Pn kN none))),(5, .c (.mp 7)),(9, .c (.ptr 9 0))],[(7,WT kN i.2.2),(9, .iter i.1 (gI kN i.2.1))]⟩)
   (Inv:=fun i=>∀k,(k∈i.2.2∨k∈i.2.1∧¬k∈Option.getD (none:Option (List Int)) [])↔(k∈l∧¬k∈Option.getD (none:Option (List Int)) [])) (μ:=fun i=>i.2.1.length) (none,l,[]) (by simp) ?_ ?_
  ·exact cO
  rintro⟨cur,rest,m⟩ h
  simp only at h⊢
  refine bC ?_
  refine vH (id:=9) (by simp) (by simp only[kV, ↓reduceIte,Nat.reduceEqDiff,reduceCtorEq];first|done|rfl) rfl ?_ ?_
  ·intro h0
   refine dZ ?_
   try refine nv ?_
   refine aj ?_ ?_
   ·intro hh;cases hh
   intro _
   refine bC ?_
   refine bz (mf (i:=5) (id:=7) (es:=gI kN m) rfl rfl) ?_
   refine dZ ?_
   try refine nv ?_
   refine rA [] ?_
   refine⟨?_,rfl⟩
   have:rest=[]:=by simpa[gI] using h0
   subst this
   exact⟨m,fun k=>by have:=h k;simpa using this,rfl⟩
  intro l1 e l2 hsp
  obtain⟨xs,k,y,rfl,rfl,rfl,rfl⟩:=qo hsp
  refine dZ ?_
  (repeat (first|refine Eb ?_|refine BP (wr:=false) (by simp only[kk,Nat.reduceAdd,Nat.reduceLT,Nat.reduceEqDiff, ↓reduceIte,reduceCtorEq,jV];first|done|rfl) ?_))
  refine aj ?_ ?_
  rotate_left
  ·intro hh;cases hh
  intro _
  (repeat (first|refine Eb ?_|refine BP (wr:=false) (by simp only[kk,Nat.reduceAdd,Nat.reduceLT,Nat.reduceEqDiff, ↓reduceIte,reduceCtorEq,jV];first|done|rfl) ?_))
  refine gy @look0 ?_ ?_
  ·simp only[All,List.cons_append,List.nil_append,dG,List.mem_cons,List.not_mem_nil,or_false,forall_eq_or_imp,forall_eq,aH,aB,cu,aG,bG,and_true,true_and,implies_true,List.length_map,List.length_cons,List.length_nil,aK,iZ,cZ]
   repeat' (first|exact trivial|exact by simp|refine And.intro ?_ ?_|intro _|assumption|rfl|omega|(rw[Bool.not_eq_true'];assumption)|(simp;done)|(simp only[decide_eq_true_eq] at*;omega)|(simp_all;done))
  refine bC ?_
  refine aj ?_ ?_
  ·intro _
   have hk':¬k∈Option.getD (none:Option (List Int)) []:=by simp
   try refine nv ?_
   refine gy @SL ?_ ?_
   ·exact iw (VI m)
   try refine nv ?_
   refine⟨(some (kN k,(false,[.v (.bool true)])),xs++y,nD m k),?_,by simp,?_⟩
   ·intro i
    rw[←h i,wG]
    simp only[List.mem_append,List.mem_cons]
    constructor
    ·rintro((h|rfl)|⟨h|h,g⟩)
     ·exact .inl h
     ·exact .inr ⟨.inr (.inl rfl),hk'⟩
     ·exact .inr ⟨.inl h,g⟩
     ·exact .inr ⟨.inr (.inr h),g⟩
    ·rintro(h|⟨h|h|h,g⟩)
     ·exact .inl (.inl h)
     ·exact .inr ⟨.inl h,g⟩
     ·exact .inl (.inr h)
     ·exact .inr ⟨.inr h,g⟩
   ·exact cO
  ·intro hh;cases hh
 |some t=>
  try refine nv ?_
  refine ax (ι:=Option iV×List Int×List Int) (I:=fun i=>⟨21,[(1, .c (.d (Pn kN (some t)))),(5, .c (.mp 7)),(9, .c (.ptr 9 0))],[(7,WT kN i.2.2),(9, .iter i.1 (gI kN i.2.1))]⟩)
   (Inv:=fun i=>∀k,(k∈i.2.2∨k∈i.2.1∧¬k∈Option.getD (some t) [])↔(k∈l∧¬k∈Option.getD (some t) [])) (μ:=fun i=>i.2.1.length) (none,l,[]) (by simp) ?_ ?_
  ·exact cO
  rintro⟨cur,rest,m⟩ h
  simp only at h⊢
  refine bC ?_
  refine vH (id:=9) (by simp) (by simp only[kV, ↓reduceIte,Nat.reduceEqDiff,reduceCtorEq];first|done|rfl) rfl ?_ ?_
  ·intro h0
   refine dZ ?_
   try refine nv ?_
   refine aj ?_ ?_
   ·intro hh;cases hh
   intro _
   refine bC ?_
   refine bz (mf (i:=5) (id:=7) (es:=gI kN m) rfl rfl) ?_
   refine dZ ?_
   try refine nv ?_
   refine rA [] ?_
   refine⟨?_,rfl⟩
   have:rest=[]:=by simpa[gI] using h0
   subst this
   exact⟨m,fun k=>by have:=h k;simpa using this,rfl⟩
  intro l1 e l2 hsp
  obtain⟨xs,k,y,rfl,rfl,rfl,rfl⟩:=qo hsp
  refine dZ ?_
  (repeat (first|refine Eb ?_|refine BP (wr:=false) (by simp only[kk,Nat.reduceAdd,Nat.reduceLT,Nat.reduceEqDiff, ↓reduceIte,reduceCtorEq,jV];first|done|rfl) ?_))
  refine aj ?_ ?_
  rotate_left
  ·intro hh;cases hh
  intro _
  (repeat (first|refine Eb ?_|refine BP (wr:=false) (by simp only[kk,Nat.reduceAdd,Nat.reduceLT,Nat.reduceEqDiff, ↓reduceIte,reduceCtorEq,jV];first|done|rfl) ?_))
  refine gy @Yw ?_ ?_
  ·exact iw (VI t)
  refine bC ?_
  refine aj ?_ ?_
  ·intro hk
   have hk':¬k∈Option.getD (some t) []:=by simpa using hk
   try refine nv ?_
   refine gy @SL ?_ ?_
   ·exact iw (VI m)
   try refine nv ?_
   refine⟨(some (kN k,(false,[.v (.bool true)])),xs++y,nD m k),?_,by simp,?_⟩
   ·intro i
    rw[←h i,wG]
    simp only[List.mem_append,List.mem_cons]
    constructor
    ·rintro((h|rfl)|⟨h|h,g⟩)
     ·exact .inl h
     ·exact .inr ⟨.inr (.inl rfl),hk'⟩
     ·exact .inr ⟨.inl h,g⟩
     ·exact .inr ⟨.inr (.inr h),g⟩
    ·rintro(h|⟨h|h|h,g⟩)
     ·exact .inl (.inl h)
     ·exact .inr ⟨.inl h,g⟩
     ·exact .inl (.inr h)
     ·exact .inr ⟨.inr h,g⟩
   ·exact cO
  ·intro hk
   have hk':k∈Option.getD (some t) []:=by simpa using hk
   try refine nv ?_
   refine⟨(some (kN k,(false,[.v (.bool true)])),xs++y,m),?_,by simp,?_⟩
   ·intro i
    rw[←h i]
    simp only[List.mem_append,List.mem_cons]
    constructor
    ·rintro(h|⟨h|h,g⟩)
     ·exact .inl h
     ·exact .inr ⟨.inl h,g⟩
     ·exact .inr ⟨.inr (.inr h),g⟩
    ·rintro(h|⟨h|rfl|h,g⟩)
     ·exact .inl h
     ·exact .inr ⟨.inl h,g⟩
     ·exact absurd hk' g
     ·exact .inr ⟨.inr h,g⟩
   ·exact cO
theorem XB (m:List (Int×List Int)) (n:Int):fD [C.d (.v (.int .i64 n))] ((bM kN vL m).map fC)=(ai m n).map fun v=>(false,[C.d (.ps 1 (v.map eI))]):=
 nP (ve:=vL) F8 m n
theorem acD (m:List (Int×List Int)):∀e∈(bM kN vL m).map fC,e.1.1=false∧cZ [.int .i64] e.1.2:=by
 intro e he
 simp only[bM,List.mem_map] at he
 obtain⟨_,⟨f,_,rfl⟩,rfl⟩:=he
 exact⟨rfl,by simp[fC,jV,cZ]⟩
@[reducible] def eB (b:Bool):List D:=[.v (.bool b)]
def z42.kk:=p2 (p13 kB kS kM Tryz.ntmps42 Tryz.underlying114 Tryz.underlying55 qW Lm zt NE qR EQ Ff) (p12 MJ PN Un TB GV uz MH IR aa0 WX AX Tryz.results42)
open z42 in
theorem zh (L:iE) (hL:xK L) (la:List (ByteArray×Int)) (me:List (Int×List Int)) (s t:Int) (hs:0≤s∧s<L.revs.length) (ht:0≤t∧t<L.revs.length) (ms:List Int) (hm:ai me (L.fst.getD s.toNat 0)=some ms)
 (hms:∀i∈ms,0≤i∧i<L.revs.length∧∃l,L.con.getD i.toNat none=some l) (hcr:∃l,L.cre.getD t.toNat none=some l) (hml:ms.length≤1000):
 AC Tryz.prog 42 [.c (.pp (qK L la me)),I .i64 s,I .i64 t] [] (fun r st=>r= .tup [(false,[.d (.ps 1 ((upto ms s).map eI))]),(false,[.d (.ps 1 (((upto ms s).map (gZ L t)).map eB))])]∧st=[]):=by
 obtain⟨s1,s2⟩:=hs
 have hfl:=hL.fst
 have hil:s.toNat<L.fst.length:=by omega
 have hi2:s<(L.fst.length:Int):=by omega
 have eg:=bg eI L.fst s.toNat 0 hil
 refine dA Tryz.func42 Tryz.ntmps42 fun x hx=>?_
 try refine nv ?_
 refine dx ([]) (p3 @eg @XB @hm) ?_ ?_
 ·exact iw @acD
 refine bC ?_
 refine nH (jM (i:=6) (id:=100) (sz:=1) rfl rfl (by omega)) ?_
 refine dZ ?_
 refine nH (jM (i:=7) (id:=101) (sz:=1) rfl rfl (by omega)) ?_
 refine dZ ?_
 refine ax (ι:=Nat) (I:=fun k=>⟨56,[(0, .c (.pp (qK L la me))),(1,I .i64 s),(2,I .i64 t),(6, .c (.ms 100 1 0 (ms.take k).length)),(7, .c (.ms 101 1 0 (ms.take k).length)),(21, .c (.d (.ps 1 (ms.map eI)))),(22,I .i64 ms.length),(23,I .i64 k)],
  [(100,aK 1 ((ms.take k).map eI)),(101,aK 1 (((ms.take k).map (gZ L t)).map eB))]⟩)
  (Inv:=fun k=>k≤ms.length∧¬s∈ms.take k) (μ:=fun k=>ms.length-k) 0 ⟨by omega,by simp⟩ ?_ ?_
 ·exact cO
 rintro k ⟨hk,hns⟩
 have hkl:(ms.take k).length=k:=by simp;omega
 try refine nv ?_
 refine aj ?_ ?_
 ·intro hlt
  have hlt':k<ms.length:=by simpa using hlt
  obtain⟨v,hv,he,htk⟩:=round eI ms k 0 hlt'
  obtain⟨v1,v2,c1,hc1⟩:=hms v (List.mem_of_getElem? hv)
  obtain⟨c2,hc2⟩:=hcr
  have hcl1:=hL.con
  have hcl2:=hL.cre
  have e1:=bg iW L.con v.toNat none (by omega)
  have e2:=bg iW L.cre t.toNat none (by omega)
  rw[hc1] at e1
  rw[hc2] at e2
  have hob:(!Vo c1 c2)=gZ L t v:=by simp only[gZ,hc1,hc2,Option.getD]
  try refine nx @he ?_
  refine dx ([(46,B (Vo c1 c2))]) (p2 @e1 @e2) ?_ ?_
  ·exact iw (VU c1 c2)
  try refine nv ?_
  refine aj ?_ ?_
  ·intro heq
   have heq':v=s:=by simpa using heq
   have hup:upto ms s=ms.take (k+1):=NF hns (by rw[←heq'];exact hv)
   refine nH (s':=⟨56,[(6, .c (.ms 100 1 0 (ms.take (k+1)).length)),(7, .c (.ms 101 1 0 (ms.take (k+1)).length))],[(100,aK 1 ((ms.take (k+1)).map eI)),(101,aK 1 (((ms.take (k+1)).map (gZ L t)).map eB))]⟩) ?_ ?_
   ·rw[htk]
    exact enS @hob (fun i=>if i=100 then 30 else if i=101 then 49 else i)
   refine bC ?_
   refine bz (aZ (i:=6) (id:=100) (ys:=(ms.take (k+1)).map eI) rfl rfl (by simp)) ?_
   refine dZ ?_
   refine bz (aZ (i:=7) (id:=101) (ys:=((ms.take (k+1)).map (gZ L t)).map eB) rfl rfl (by simp)) ?_
   refine dZ ?_
   try refine nv ?_
   refine rA [] ?_
   refine⟨?_,rfl⟩
   rw[hup]
  ·intro hne
   have hne':¬v=s:=by simpa using hne
   try refine nv ?_
   refine⟨k+1,⟨by omega,?_⟩,by omega,?_⟩
   ·rw[htk,List.mem_append]
    rintro(h|h)
    ·exact hns h
    ·simp at h;exact hne' h.symm
   ·rw[htk]
    exact enS @hob (fun i=>if i=100 then 30 else if i=101 then 49 else i)
 ·intro hge
  have hge':k=ms.length:=by have:¬k<ms.length:=by simpa using hge
                            omega
  refine bC ?_
  refine bz (aZ (i:=6) (id:=100) (ys:=(ms.take k).map eI) rfl rfl (by simp)) ?_
  refine dZ ?_
  refine bz (aZ (i:=7) (id:=101) (ys:=((ms.take k).map (gZ L t)).map eB) rfl rfl (by simp)) ?_
  refine dZ ?_
  try refine nv ?_
  refine rA [] ?_
  refine⟨?_,rfl⟩
  rw[hge',List.take_length] at hns⊢
  rw[Kr hns]
end Go.Proofs.YtcpgicfphakdaaaGreatDoor
