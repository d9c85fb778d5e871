/- A part of the proof. -/
import Derived.Test.YtcpgicfphakdaaaGreatDoorRT3
import Derived.Test.YtcpgicfphakdaaaGreatDoorRAbCe
set_option maxRecDepth 100000
set_option maxHeartbeats 8000000
set_option linter.all false
namespace Go.Proofs.YtcpgicfphakdaaaGreatDoor
open Go.Ab Tys
variable [Dr]
@[reducible] def Yk:Option (List bH)→Bool×List C
 |none=>(false,[.d (.v (.slice none 0 0))])
 |some l=>(false,[.d (.ps 2 (l.map bF))])
theorem JY (p q:bH):∀k,(BB p q k).length≤k
 |0=>Nat.le_refl _
 |k+1=>by
  have:=JY p q k
  simp only[BB,List.length_append]
  split<;>simp<;>omega
def isB (b:Int):Bool:=(decide (65≤b)&&decide (b≤90))||(decide (97≤b)&&decide (b≤122))||(decide (48≤b)&&decide (b≤57))||decide (b=95)||decide (b=46)||decide (b=43)||decide (b=45)
theorem aaT:((List.range 256).all fun n=>okB n==isB n)=true:=by kernel_rfl
theorem ab9 {b:Int} (h0:0≤b) (h1:b<256):okB b=isB b:=by
 have:=List.all_eq_true.1 aaT b.toNat (List.mem_range.2 (by omega))
 rw[show((b.toNat:Nat):Int)=b by omega] at this
 simpa using this
def adG.kk:=p4 kB kG Tryz.ntmps241 Tryz.results241
open adG in
theorem Kz (b:Int) (h0:0≤b) (h1:b<256):AC Tryz.prog 241 [I .u8 b] [] (fun r st=>r=B (okB b)∧st=[]):=by
 rw[ab9 h0 h1]
 refine dA Tryz.func241 Tryz.ntmps241 fun x hx=>?_
 try refine nv ?_
 refine uT ⟨36,[(0,I .u8 b),(2,B false),(3,B ((decide (65≤b)&&decide (b≤90))||(decide (97≤b)&&decide (b≤122))||(decide (48≤b)&&decide (b≤57))))],[]⟩ ?_ ?_
 ·refine aj ?_ ?_
  ·intro h
   have h':(decide (65≤b)&&decide (b≤90))=true:=by rw[←h];cases decide (65≤b)<;>rfl
   refine bC ?_
   refine⟨rfl,?_⟩
   exact EH (p2 @h' @h)
  ·intro h
   have h':(decide (65≤b)&&decide (b≤90))=false:=by rw[←h];cases decide (65≤b)<;>rfl
   try refine nv ?_
   refine aj ?_ ?_
   ·intro h2
    have h2':(decide (97≤b)&&decide (b≤122))=true:=by rw[←h2];cases decide (97≤b)<;>rfl
    refine bC ?_
    refine⟨rfl,?_⟩
    exact EH (p4 @h' @h @h2' @h2)
   ·intro h2
    have h2':(decide (97≤b)&&decide (b≤122))=false:=by rw[←h2];cases decide (97≤b)<;>rfl
    try refine nv ?_
    refine⟨rfl,?_⟩
    have h3:(bif decide (48≤b) then decide (b≤57) else false)=(decide (48≤b)&&decide (b≤57)):=by cases decide (48≤b)<;>rfl
    exact EH (p5 @h' @h @h2' @h2 @h3)
 refine bC ?_
 refine aj ?_ ?_
 ·intro h
  try refine nv ?_
  refine rA [] ?_
  refine⟨?_,rfl⟩
  simp only[isB,h,Bool.true_or]
 ·intro h
  try refine nv ?_
  refine rA [] ?_
  refine⟨?_,rfl⟩
  simp only[isB,h,Bool.false_or]
  cases decide (b=95)<;>cases decide (b=46)<;>cases decide (b=43)<;>rfl
def aek.kk:=p6 kB kG Tryz.ntmps195 Tryz.underlying9 kC Tryz.results195
open aek in
theorem nC (s:ByteArray) (hs:s.size≤1000000):AC Tryz.prog 195 [Str s] [] (fun r st=>r=B (comp s)∧st=[]):=by
 refine dA Tryz.func195 Tryz.ntmps195 fun x hx=>?_
 refine bC ?_
 refine gg ?_
 refine bC ?_
 refine gq ?_ ?_
 ·simp only[All,List.cons_append,List.nil_append,and_true,true_and,implies_true,forall_const,Bool.not_eq_true',decide_eq_false_iff_not,cond_eq_ite]
  repeat' (first|exact trivial|refine And.intro ?_ ?_|intro _|omega|(rename_i h;exact_mod_cast qL (by simpa using h))|(simp_all;done))
 refine bC ?_
 refine aj ?_ ?_
 ·intro h
  try refine nv ?_
  refine rA [] ?_
  refine⟨?_,rfl⟩
  have h2:(decide (s={data:= #[]})||decide (byteAt s 0=46))=true:=by rw[←h];cases decide (s={data:= #[]})<;>rfl
  simp[comp,h2]
 ·intro h
  have h2:(decide (s={data:= #[]})||decide (byteAt s 0=46))=false:=by rw[←h];cases decide (s={data:= #[]})<;>rfl
  try refine nv ?_
  refine ax (ι:=Nat) (I:=fun k=>⟨22,[(0,Str s),(12,I .i64 s.size),(13,I .i64 k)],[]⟩) (Inv:=fun k=>k≤s.size∧∀j,j<k→okB (byteAt s j)=true) (μ:=fun k=>s.size-k) 0 ⟨by omega,by omega⟩ ?_ ?_
  ·exact cO
  ·rintro k ⟨hk,hall⟩
   try refine nv ?_
   refine aj ?_ ?_
   ·intro hlt
    have hlt':k<s.size:=by simpa using hlt
    have hb0:=jI hlt'
    (repeat (first|refine nv ?_|refine cf (Kz (byteAt s k) (by simp[byteAt]) (by simp only[byteAt];have:=(s.data.getD k 0).toNat_lt;omega)) ?_))
    refine aj ?_ ?_
    ·intro hb
     try refine nv ?_
     refine rA [] ?_
     refine⟨?_,rfl⟩
     have hb':okB (byteAt s k)=false:=by simpa using hb
     have:((List.range s.size).all fun k=>okB (byteAt s k))=false:=by
      cases e:(List.range s.size).all fun k=>okB (byteAt s k)
      ·rfl
      ·have:=jm _ k _ hlt' e
       rw[hb'] at this;cases this
     simp only[comp,this,Bool.and_false]
    ·intro hb
     try refine nv ?_
     refine⟨k+1,⟨by omega,?_⟩,by omega,?_⟩
     ·intro j hj
      rcases Nat.lt_succ_iff_lt_or_eq.1 hj with hj|rfl
      ·exact hall j hj
      ·simpa using hb
     ·exact cO
   ·intro hge
    try refine nv ?_
    refine rA [] ?_
    refine⟨?_,rfl⟩
    have hk':k=s.size:=by have:¬k<s.size:=by simpa using hge
                          omega
    have:((List.range s.size).all fun k=>okB (byteAt s k))=true:=by
     rw[List.all_eq_true];intro j hj;exact hall j (by rw[hk'];exact List.mem_range.1 hj)
    simp only[comp,this,h2];rfl
def ad3.kk:=p7 kB kG kS Tryz.ntmps137 Tryz.underlying9 kC Tryz.results137
open ad3 in
theorem PD (p:ByteArray) (hs:p.size≤100000):AC Tryz.prog 137 [Str p] [] (fun r st=>r=B (aJ p).isSome∧st=[]):=by
 refine dA Tryz.func137 Tryz.ntmps137 fun x hx=>?_
 (repeat (first|refine nv ?_|refine cf (qc _ _) ?_))
 refine aj ?_ ?_
 ·intro h
  try refine nv ?_
  refine rA [] ?_
  refine⟨?_,rfl⟩
  rw[y8 (by simpa using h)]
 ·intro h
  have hpre:hasPrefix p dV=true:=by simpa using h
  have h2:2≤p.size:=of_decide_eq_true (Bool.and_eq_true_iff.1 hpre).1
  rw[YL hpre]
  try refine nv ?_
  refine ax (ι:=Nat×Nat×Nat) (I:=fun k=>⟨38,[(0,Str p),(3,I .i64 k.1),(4,I .i64 k.2.1),(5,I .i64 k.2.2)],[]⟩)
   (Inv:=fun k=>k.1≤k.2.1∧k.2.1≤k.2.2∧k.2.2≤p.size+1∧(∀j,k.2.1≤j→j<k.2.2→byteAt p j≠47)∧vB p 0 2=vB p k.1 k.2.1∧(k.2.2≤p.size∨k.2.1=k.2.2)) (μ:=fun k=>p.size+1-k.2.2) (0,2,2) ⟨by simp,by simp,by simp;omega,by intro j hj hj2;simp at hj hj2;omega,rfl,by simp⟩ ?_ ?_
  ·exact cO
  ·rintro⟨c,b,i⟩ ⟨h1,h3,h4,h5,h6,h7⟩
   simp only at h1 h3 h4 h5 h6 h7⊢
   rw[h6]
   try refine nv ?_
   refine aj ?_ ?_
   ·intro hle
    have hi:i≤p.size:=by simpa using hle
    try refine nv ?_
    refine aj ?_ ?_
    ·intro hc
     have hlt:i<p.size:=by
      by_cases h:(i:Int)<p.size
      ·omega
      ·simp[h] at hc
     have hb:byteAt p i≠47:=by
      have:(i:Int)<p.size:=by omega
      simp only[this,decide_true,cond_true] at hc
      simpa[byteAt] using hc
     try refine nv ?_
     refine⟨(c,b,i+1),⟨h1,by simp;omega,by simp;omega,?_,rfl,by simp;omega⟩,by simp;omega,?_⟩
     ·intro j hj hj2
      simp only at hj hj2
      rcases Nat.lt_succ_iff_lt_or_eq.1 hj2 with hj2|rfl
      ·exact h5 j hj hj2
      ·exact hb
     ·exact cO
    ·intro hc
     have hst:i=p.size∨(i<p.size∧byteAt p i=47):=by
      by_cases h:(i:Int)<p.size
      ·simp only[h,decide_true,cond_true] at hc
       exact .inr ⟨by omega,by simpa[byteAt] using hc⟩
      ·exact .inl (by omega)
     have hnext:=aaX (c:=c) h3 hi h5 hst
     (repeat (first|refine nv ?_|refine cf (nC (p.extract b i) (by simp;omega)) ?_))
     refine aj ?_ ?_
     ·intro hf
      try refine nv ?_
      refine rA [] ?_
      refine⟨?_,rfl⟩
      rw[hnext,show comp (p.extract b i)=false by simpa using hf,Bool.false_and]
     ·intro hf
      have hf':comp (p.extract b i)=true:=by simpa using hf
      try refine nv ?_
      refine⟨(c+1,i+1,i+1),⟨by simp;omega,by simp,by simp;omega,by intro j hj hj2;simp at hj hj2;omega,by simp only[hnext,hf',Bool.true_and],by simp⟩,by simp;omega,?_⟩
      exact cO
   ·intro hgt
    have hgt':¬i≤p.size:=by simpa using hgt
    try refine nv ?_
    refine rA [] ?_
    refine⟨?_,rfl⟩
    rw[vB,if_neg (by omega)]
    congr 1
    rw[Bool.eq_iff_iff];simp;omega
def z196.kk:=p3 kB Tryz.ntmps196 Tryz.results196
open z196 in
theorem yY (a:Int):AC Tryz.prog 196 [I .u8 a] [] (fun r st=>r=B false∧st=[]):=by
 refine dA Tryz.func196 Tryz.ntmps196 fun x hx=>?_
 try refine nv ?_
 refine rA [] ?_
 refine⟨?_,rfl⟩
 simp
def z138.kk:=p3 kB Tryz.ntmps138 Tryz.results138
open z138 in
theorem RP (a b:Int):AC Tryz.prog 138 [I .u8 a,I .u8 b] [] (fun r st=>r=I .i64 (zx a b)∧st=[]):=by
 refine dA Tryz.func138 Tryz.ntmps138 fun x hx=>?_
 (repeat (first|refine nv ?_|refine cf (yY a) ?_|refine cf (yY b) ?_))
 refine aj ?_ ?_
 ·intro h;cases h
 intro _
 try refine nv ?_
 refine aj ?_ ?_
 ·intro h;cases h
 intro _
 try refine nv ?_
 refine aj ?_ ?_
 ·intro h
  try refine nv ?_
  refine rA [] ?_
  refine⟨?_,rfl⟩
  simp only[decide_eq_true_eq] at h
  simp[zx,h]
 intro h
 simp only[decide_eq_false_iff_not] at h
 try refine nv ?_
 refine aj ?_ ?_
 ·intro h2
  try refine nv ?_
  refine rA [] ?_
  refine⟨?_,rfl⟩
  simp only[decide_eq_true_eq] at h2
  simp[zx,h,h2]
 intro h2
 try refine nv ?_
 refine rA [] ?_
 refine⟨?_,rfl⟩
 simp only[decide_eq_false_iff_not] at h2
 simp[zx,h,h2]
def aen.kk:=p3 kB Tryz.ntmps174 Tryz.results174
open aen in
theorem Ba (a:Int):AC Tryz.prog 174 [I .i64 a] [] (fun r st=>r=B false∧st=[]):=by
 refine dA Tryz.func174 Tryz.ntmps174 fun x hx=>?_
 try refine nv ?_
 refine rA [] ?_
 refine⟨?_,rfl⟩
 simp
def adB.kk:=p3 kB Tryz.ntmps120 Tryz.results120
open adB in
theorem VT (a b:Int):AC Tryz.prog 120 [I .i64 a,I .i64 b] [] (fun r st=>r=I .i64 (zx a b)∧st=[]):=by
 refine dA Tryz.func120 Tryz.ntmps120 fun x hx=>?_
 (repeat (first|refine nv ?_|refine cf (Ba a) ?_|refine cf (Ba b) ?_))
 refine aj ?_ ?_
 ·intro h;cases h
 intro _
 try refine nv ?_
 refine aj ?_ ?_
 ·intro h;cases h
 intro _
 try refine nv ?_
 refine aj ?_ ?_
 ·intro h
  try refine nv ?_
  refine rA [] ?_
  refine⟨?_,rfl⟩
  simp only[decide_eq_true_eq] at h
  simp[zx,h]
 intro h
 simp only[decide_eq_false_iff_not] at h
 try refine nv ?_
 refine aj ?_ ?_
 ·intro h2
  try refine nv ?_
  refine rA [] ?_
  refine⟨?_,rfl⟩
  simp only[decide_eq_true_eq] at h2
  simp[zx,h,h2]
 intro h2
 try refine nv ?_
 refine rA [] ?_
 refine⟨?_,rfl⟩
 simp only[decide_eq_false_iff_not] at h2
 simp[zx,h,h2]
theorem Ve {p q:ByteArray} {k:Nat} {x y:UInt8} (hx:p.data.toList[k]? =some x) (hy:q.data.toList[k]? =some y):(byteAt p k=byteAt q k↔x=y)∧(byteAt p k<byteAt q k↔x<y):=by
 have hk:k<p.size:=by have:=(List.getElem?_eq_some_iff.1 hx).1;simpa using this
 have hk2:k<q.size:=by have:=(List.getElem?_eq_some_iff.1 hy).1;simpa using this
 obtain⟨x',h1,h2⟩:=jI hk
 obtain⟨y',h3,h4⟩:=jI hk2
 rw[hx] at h1;cases h1
 rw[hy] at h3;cases h3
 rw[h2,h4,UInt8.lt_iff_toNat_lt]
 constructor
 ·constructor
  ·intro h;exact UInt8.toNat_inj.1 (by omega)
  ·rintro rfl;rfl
 ·omega
theorem PV {l:List UInt8} {k:Nat} {x:UInt8} (h:l[k]? =some x):l.drop k=x::l.drop (k+1):=by
 rw[List.drop_eq_getElem?_toList_append,h];rfl
def z69.kk:=p6 kB kG Tryz.ntmps69 Tryz.underlying9 kC Tryz.results69
open z69 in
theorem NH (a b:ByteArray) (ha:a.size≤100000) (hb:b.size≤100000):AC Tryz.prog 69 [Str a,Str b] [] (fun r st=>r= .tup [pI (if(aJ a).isSome&&(aJ b).isSome then ord a b else 0),pI (if(aJ a).isSome&&(aJ b).isSome then 0 else 20)]∧st=[]):=by
 have hva:=PD a ha
 have hvb:=PD b hb
 refine dA Tryz.func69 Tryz.ntmps69 fun x hx=>?_
 (repeat (first|refine nv ?_|refine cf (hva) ?_))
 refine so ([(12,B (aJ b).isSome)]) ?_ ?_
 ·exact iw @hvb
 try refine nv ?_
 refine aj ?_ ?_
 ·intro h
  have h':((aJ a).isSome&&(aJ b).isSome)=false:=by
   cases e1:(aJ a).isSome<;>cases e2:(aJ b).isSome<;>simp_all
  try refine nv ?_
  refine rA [] ?_
  refine⟨?_,rfl⟩
  simp[h']
 intro h
 obtain⟨e1,e2⟩:(aJ a).isSome=true∧(aJ b).isSome=true:=by
  cases e1:(aJ a).isSome<;>cases e2:(aJ b).isSome<;>simp_all
 simp only[e1,e2,Bool.and_self,if_true]
 rw[←X5 e1 e2]
 try refine nv ?_
 refine ax (ι:=Nat) (I:=fun k=>⟨54,[(0,Str a),(1,Str b),(19,I .i64 (min (a.size:Int) b.size)),(20,I .i64 k)],[]⟩)
  (Inv:=fun k=>k≤a.size∧k≤b.size∧ww a.data.toList b.data.toList=ww (a.data.toList.drop k) (b.data.toList.drop k)) (μ:=fun k=>a.size-k) 0 ⟨by omega,by omega,rfl⟩ ?_ ?_
 ·exact cO
 rintro k ⟨k1,k2,k3⟩
 rw[k3]
 have sa:a.data.toList.length=a.size:=by simp
 have sb:b.data.toList.length=b.size:=by simp
 try refine nv ?_
 refine aj ?_ ?_
 ·intro hlt
  have hlt':k<a.size∧k<b.size:=by
   have:(k:Int)<min (a.size:Int) b.size:=by simpa using hlt
   omega
  obtain⟨u,hu,bu⟩:=jI hlt'.1
  obtain⟨v,hv,bv⟩:=jI hlt'.2
  obtain⟨q1,q2⟩:=Ve hu hv
  have x47:=sH hu
  have y47:=sH hv
  rw[PV hu,PV hv]
  try refine nv ?_
  refine dr ([]) ?_ ?_
  ·exact vO
  refine bC ?_
  refine aj ?_ ?_
  ·intro he
   have he':u=v:=q1.1 (by simpa[byteAt] using he)
   try refine nv ?_
   refine⟨k+1,⟨by omega,by omega,?_⟩,by omega,?_⟩
   ·subst he';simp[ww]
   ·exact cO
  intro he
  have he':¬u=v:=fun e=>by have:=q1.2 e;simp[byteAt] at this;simp[this] at he
  try refine nv ?_
  refine aj ?_ ?_
  ·intro h47
   have:u=47:=x47.1 (by simpa[byteAt] using h47)
   try refine nv ?_
   refine rA [] ?_
   refine⟨?_,rfl⟩
   rw[ww,if_neg he',if_pos this]
  intro h47
  have h47':¬u=47:=fun e=>by have:=x47.2 e;simp[byteAt] at this;simp[this] at h47
  try refine nv ?_
  refine aj ?_ ?_
  ·intro g47
   have:v=47:=y47.1 (by simpa[byteAt] using g47)
   try refine nv ?_
   refine rA [] ?_
   refine⟨?_,rfl⟩
   rw[ww,if_neg he',if_neg h47',if_pos this]
  intro g47
  have g47':¬v=47:=fun e=>by have:=y47.2 e;simp[byteAt] at this;simp[this] at g47
  refine bC ?_
  refine dr ([(47,I .i64 (zx (byteAt a k) (byteAt b k)))]) ?_ ?_
  ·simp only[All,List.cons_append,List.nil_append,dG,List.mem_cons,List.not_mem_nil,or_false,forall_eq_or_imp,forall_eq,aH,aB,cu,aG,bG,and_true,true_and,implies_true,List.length_map,List.length_cons,List.length_nil,aK,iZ,cZ]
   repeat' (first|exact trivial|exact RP _ _|refine And.intro ?_ ?_|intro _|assumption|rfl|omega|(rw[Bool.not_eq_true'];assumption)|(simp;done)|(simp only[decide_eq_true_eq] at*;omega)|(simp_all;done))
  refine bC ?_
  refine rA [] ?_
  refine⟨?_,rfl⟩
  simp only[ww,he',h47',g47',if_false,zx]
  by_cases hl:u<v
  ·simp[hl,q2.2 hl]
  ·have hg:byteAt b k<byteAt a k:=by
    have h1:¬byteAt a k<byteAt b k:=fun h=>hl (q2.1 h)
    have h2:¬byteAt a k=byteAt b k:=fun h=>he' (q1.1 h)
    omega
   have:¬byteAt a k<byteAt b k:=fun h=>hl (q2.1 h)
   simp[hl,this,hg]
 ·intro hge
  have hge':k=a.size∨k=b.size:=by
   have:¬(k:Int)<min (a.size:Int) b.size:=by simpa using hge
   omega
  (repeat (first|refine nv ?_|refine cf (VT _ _) ?_))
  refine rA [] ?_
  refine⟨?_,rfl⟩
  have e3:∀l m:List UInt8,l=[]∨m=[]→ww l m=zx l.length m.length:=by
   intro l m hlm
   cases l<;>cases m<;>simp[ww,zx]<;>first|omega|simp_all
  rw[e3 _ _ (by rcases hge' with h|h<;>simp[h])]
  have e4:zx a.size b.size=zx ((a.size-k:Nat):Int) ((b.size-k:Nat):Int):=by
   simp only[zx]
   repeat' split
   all_goals first|rfl|omega
  rw[e4]
  simp only[List.length_drop,sa,sb]
@[reducible] def rQ:AV:= .c (.d (.v (.func (.func 68) #[] #[])))
@[reducible] def stA (l:List ByteArray):List (Nat×AO):=[(46,aK 1 (l.map encS))]
def ado.kk:=p6 kB Tryz.ntmps258 iC pX kC Tryz.results258
open ado in
theorem Hl (P u w v S:List ByteArray) (hv:u.length=v.length) (len a b n:Nat) (hlen:P.length+u.length+w.length+v.length+S.length=len) (hl:len≤1000000) (ha:a=P.length) (hb:b=P.length+u.length+w.length) (hn:n=u.length):
 AC Tryz.prog 258 [.c (.ms 46 1 0 len),I .i64 a,I .i64 b,I .i64 n,rQ] (stA (P++(u++(w++(v++S))))) (fun _ st=>st=stA (P++(v++(w++(u++S))))):=by
 refine dA Tryz.func258 Tryz.ntmps258 fun x hx=>?_
 try refine nv ?_
 refine ax (ι:=Nat) (I:=fun k=>⟨38,[(0, .c (.ms 46 1 0 len)),(1,I .i64 a),(2,I .i64 b),(3,I .i64 n),(10,I .i64 k)],stA (vP P u w v S k)⟩)
  (Inv:=fun k=>k≤n) (μ:=fun k=>n-k) 0 (by omega) ?_ ?_
 ·rw[WF]
  exact cO
 intro k hk
 have hsl:=ZK (P:=P) (w:=w) (S:=S) (k:=k) (by omega) hv
 try refine nv ?_
 refine aj ?_ ?_
 rotate_left
 ·intro hge
  have hk':k=u.length:=by have:¬k<n:=by simpa using hge
                          omega
  subst hk'
  rw[Xw hv]
  generalize P++(v++(w++(u++S)))=F
  try refine nv ?_
  refine rN ((stA F)) ?_
  rfl
 intro hlt
 have hlt':k<n:=by simpa using hlt
 have hj1:(((a:Nat):Int)+((k:Nat):Int)).toNat=a+k:=by omega
 have hj2:(((b:Nat):Int)+((k:Nat):Int)).toNat=b+k:=by omega
 obtain⟨s1,s2,s3⟩:=Yg (P:=P) (u:=u) (w:=w) (v:=v) (S:=S) (k:=k) (i:=a+k) (j:=b+k) (by omega) hv (by omega) (by omega) noS
 have e1:=tJ encS (vP P u w v S k) (a+k) noS (by omega)
 have e2:=tJ encS (vP P u w v S k) (b+k) noS (by omega)
 rw[s1] at e1
 rw[s2] at e2
 generalize u.getD k noS=x0 at e1 s3
 generalize v.getD k noS=y0 at e2 s3
 generalize hT:vP P u w v S k=t at e1 e2 s3 hsl
 try refine nv ?_
 refine sD (wr:=false) ([]:List (Nat×AV)) (by kernel_rfl) (by simp only[kD,kk,Nat.reduceAdd,Nat.reduceLT,Nat.reduceEqDiff, ↓reduceIte,reduceCtorEq,hj1,hj2,e1,e2,zn,zO];first|done|rfl) (by first|exact trivial|(simp only[kO];omega)|(simp[All,dG];first|done|omega)|(simp+contextual [All,dG];first|done|grind)) (by kernel_rfl) ?_
 try refine nv ?_
 refine⟨k+1,by omega,by omega,?_⟩
 rw[←s3]
 exact cO
def ad5.kk:=p3 kB Tryz.ntmps239 Tryz.results239
open ad5 in
theorem aaF (P u v S:List ByteArray) (len a m b:Nat) (hu:0<u.length) (hv:0<v.length) (hlen:P.length+u.length+v.length+S.length=len) (hl:len≤1000000) (ha:a=P.length) (hm:m=P.length+u.length) (hb:b=P.length+u.length+v.length):
 AC Tryz.prog 239 [.c (.ms 46 1 0 len),I .i64 a,I .i64 m,I .i64 b,rQ] (stA (P++(u++(v++S)))) (fun _ st=>st=stA (P++(v++(u++S)))):=by
 generalize hF:P++(v++(u++S))=F
 refine dA Tryz.func239 Tryz.ntmps239 fun x hx=>?_
 try refine nv ?_
 refine ax (ι:=List ByteArray×List ByteArray×List ByteArray×List ByteArray) (I:=fun q=>⟨58,[(0, .c (.ms 46 1 0 len)),(2,I .i64 m),(4,rQ),(10,I .i64 q.2.1.length),(11,I .i64 q.2.2.1.length)],stA (q.1++(q.2.1++(q.2.2.1++q.2.2.2)))⟩)
  (Inv:=fun q=>0<q.2.1.length∧0<q.2.2.1.length∧q.1.length+q.2.1.length=m∧m+q.2.2.1.length+q.2.2.2.length=len∧q.1++(q.2.2.1++(q.2.1++q.2.2.2))=F) (μ:=fun q=>q.2.1.length+q.2.2.1.length) (P,u,v,S)
  ⟨hu,hv,by simp only;omega,by simp only;omega,hF⟩ ?_ ?_
 ·have c1:((m:Nat):Int)-((a:Nat):Int)=(u.length:Int):=by omega
  have c2:((b:Nat):Int)-((m:Nat):Int)=(v.length:Int):=by omega
  exact EH (p2 @c1 @c2)
 rintro⟨P1,u1,v1,S1⟩ ⟨h1,h2,h3,h4,h5⟩
 simp only at h1 h2 h3 h4 h5⊢
 have c1:((m:Nat):Int)-(u1.length:Int)=((m-u1.length:Nat):Int):=by omega
 have hum:u1.length≤m:=by omega
 generalize hA:P1++(u1++(v1++S1))=A
 try refine nv ?_
 refine aj ?_ ?_
 ·intro hne
  have hne':¬u1.length=v1.length:=by intro e;rw[e] at hne;simp at hne
  try refine nv ?_
  refine aj ?_ ?_
  ·intro hgt
   have hgt':v1.length<u1.length:=by simpa using hgt
   have hsw:=Hl P1 (u1.take v1.length) (u1.drop v1.length) v1 S1 (by simp;omega) len (m-u1.length) m v1.length (by simp;omega) hl (by omega) (by simp;omega) (by simp;omega)
   have eA:P1++(u1.take v1.length++(u1.drop v1.length++(v1++S1)))=A:=by rw[←hA,←List.append_assoc (u1.take v1.length),List.take_append_drop]
   rw[eA] at hsw
   have eF:(P1++v1)++(u1.take v1.length++(u1.drop v1.length++S1))=F:=by rw[←h5,←List.append_assoc (u1.take v1.length),List.take_append_drop,List.append_assoc]
   have eB:P1++(v1++(u1.drop v1.length++(u1.take v1.length++S1)))=(P1++v1)++(u1.drop v1.length++(u1.take v1.length++S1)):=by rw[List.append_assoc]
   rw[eB] at hsw
   have l1:(u1.take v1.length).length=v1.length:=by simp;omega
   have l2:(u1.drop v1.length).length=u1.length-v1.length:=by simp
   have c3:(u1.length:Int)-(v1.length:Int)=((u1.drop v1.length).length:Int):=by rw[l2];omega
   have c5:(v1.length:Int)=((u1.take v1.length).length:Int):=by rw[l1]
   generalize u1.take v1.length=x1 at hsw eF l1 c5
   generalize u1.drop v1.length=x2 at hsw eF l2 c3
   have l3:(P1++v1).length=P1.length+v1.length:=by simp
   generalize P1++v1=P2 at hsw eF l3
   generalize hB:P2++(x2++(x1++S1))=B at hsw
   try refine nx @c1 ?_
   refine tX ((stA A)) (hsw) ?_
   rintro rv9 st' rfl<;>refine uo ?_
   try refine nv ?_
   refine⟨(P2,x2,x1,S1),⟨by simp only;omega,by simp only;omega,by simp only;omega,by simp only;omega,eF⟩,by simp only;omega,?_⟩
   simp only
   rw[hB]
   have c6:(u1.length:Int)-(x1.length:Int)=(x2.length:Int):=by omega
   exact EH (p2 @c5 @c6)
  ·intro hgt
   have hgt':u1.length≤v1.length:=by have:¬v1.length<u1.length:=by simpa using hgt
                                     omega
   have hsw:=Hl P1 u1 (v1.take (v1.length-u1.length)) (v1.drop (v1.length-u1.length)) S1 (by simp;omega) len (m-u1.length) (m+v1.length-u1.length) u1.length (by simp;omega) hl (by omega) (by simp;omega) rfl
   have eA:P1++(u1++(v1.take (v1.length-u1.length)++(v1.drop (v1.length-u1.length)++S1)))=A:=by rw[←hA,←List.append_assoc (v1.take _),List.take_append_drop]
   rw[eA] at hsw
   have eF:P1++(v1.take (v1.length-u1.length)++(v1.drop (v1.length-u1.length)++(u1++S1)))=F:=by rw[←h5,←List.append_assoc (v1.take _),List.take_append_drop]
   have l1:(v1.take (v1.length-u1.length)).length=v1.length-u1.length:=by simp
   have l2:(v1.drop (v1.length-u1.length)).length=u1.length:=by simp;omega
   have c3:(v1.length:Int)-(u1.length:Int)=((v1.take (v1.length-u1.length)).length:Int):=by rw[l1];omega
   have c4:((m:Nat):Int)+(v1.length:Int)-(u1.length:Int)=((m+v1.length-u1.length:Nat):Int):=by omega
   have c5:(u1.length:Int)=((v1.drop (v1.length-u1.length)).length:Int):=by rw[l2]
   generalize v1.take (v1.length-u1.length)=x1 at hsw eF l1 c3
   generalize v1.drop (v1.length-u1.length)=x2 at hsw eF l2 c5
   have l3:(u1++S1).length=u1.length+S1.length:=by simp
   generalize u1++S1=S2 at hsw eF l3
   generalize hB:P1++(x2++(x1++S2))=B at hsw
   try refine nx (p2 @c1 @c4) ?_
   refine tX ((stA A)) (hsw) ?_
   rintro rv9 st' rfl<;>refine uo ?_
   try refine nv ?_
   refine⟨(P1,x2,x1,S2),⟨by simp only;omega,by simp only;omega,by simp only;omega,by simp only;omega,eF⟩,by simp only;omega,?_⟩
   simp only
   rw[hB]
   (refine bI (fun i=>i) rfl ?_ ⟨?_,?_,?_,di hx (by simp[ae,Ab.get])⟩<;>first|(simp only[kE,aK, ↓reduceIte,Nat.reduceEqDiff,reduceCtorEq,c3,←c5];done)|simp[aW,aA,ag,Ab.get,aH,cu,aB,bD,aS,aQ,aU,aP,aT,ae,List.flatten,c3,←c5])
 intro heq
 have heq':u1.length=v1.length:=by
  simp at heq
  omega
 have hsw:=Hl P1 u1 [] v1 S1 heq' len (m-u1.length) m u1.length (by simp;omega) hl (by omega) (by simp;omega) rfl
 simp only[List.nil_append] at hsw
 rw[hA,h5] at hsw
 try refine nx @c1 ?_
 refine tX ((stA A)) (hsw) ?_
 rintro rv9 st' rfl<;>refine uo ?_
 try refine nv ?_
 refine rN ((stA F)) ?_
 rfl
end Go.Proofs.YtcpgicfphakdaaaGreatDoor
