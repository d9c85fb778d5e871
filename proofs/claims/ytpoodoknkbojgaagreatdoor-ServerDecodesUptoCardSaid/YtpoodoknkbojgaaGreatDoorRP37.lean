/- A part of the proof. -/
import Derived.Test.YtpoodoknkbojgaaGreatDoorRP26
set_option linter.all false
namespace Go.Proofs.YtpoodoknkbojgaaGreatDoor
open Go.Ab
theorem nO:∀k v,(eY k v).length≤k+1
 |0,v=>by simp[eY]
 |k+1,v=>by
  simp only[eY]
  split
  ·simp
  ·have:=nO k (v/128)
   simp only[List.length_cons];omega
def Gr {α:Type} (f:α→Wt→Wt) (n:Nat):Prop:=∀a w,(f a w).2.length≤w.2.length+n
theorem Gr.mono {α:Type} {f:α→Wt→Wt} {n m:Nat} (h:Gr f n) (hm:n≤m):Gr f m:=fun a w=>aav (h a w) (by omega)
theorem XP:Gr wU 10:=fun a w=>by have:=nO 9 a;simp only[wU,iH,aan];omega
theorem Yh:Gr wW 10:=fun a w=>by have:=nO 9 a.toNat;simp only[wW,IR,iH,aan];omega
theorem kF:Gr wI 10:=fun a w=>by have:=nO 9 (zz a);simp only[wI,encI,iH,aan];omega
theorem Oi:Gr wB 1:=fun a w=>by simp[wB,iC]
theorem o7:Gr wT 1034:=fun a w=>by
 unfold wT
 split
 ·simp
 ·have:=nO 9 a.size
  have e:a.data.toList.length=a.size:=by simp
  simp only[gK,iH,aan];omega
theorem MP:Gr wP 1034:=fun a w=>by
 unfold wP
 split
 ·exact o7 _ _
 ·simp
theorem Yd:Gr wS 1034:=fun a w=>by
 unfold wS
 split
 ·exact o7 _ _
 ·exact MP _ _
theorem Va:Gr lV 2200:=fun a w=>by
 unfold lV wY
 have h1:=o7 a.path w
 have h2:=kF a.act (wT a.path w)
 generalize wI a.act (wT a.path w)=u at*
 have h3:=kF a.base u
 generalize wI a.base u=u at*
 have h4:=Oi a.kw u
 generalize wB a.kw u=u at*
 have h5:=Oi a.ex u
 generalize wB a.ex u=u at*
 have h6:=Oi a.xe u
 generalize wB a.xe u=u at*
 have h7:=Yh a.sum u
 generalize wW a.sum u=u at*
 have h8:=kF a.size u
 generalize wI a.size u=u at*
 have h9:=kF a.prev u
 generalize wI a.prev u=u at*
 have h10:=o7 a.frm u
 generalize wT a.frm u=u at*
 have h11:=kF a.fnum u
 generalize wI a.fnum u=u at*
 have h12:=kF a.fence u
 omega
theorem Vg:Gr lT 2200:=fun a w=>by
 unfold lT
 have h1:=o7 a.frm w
 have h2:=kF a.first (wT a.frm w)
 generalize wI a.first (wT a.frm w)=u at*
 have h3:=kF a.last u
 generalize wI a.last u=u at*
 have h4:=o7 a.to u
 generalize wT a.to u=u at*
 have h5:=kF a.num u
 generalize wI a.num u=u at*
 have h6:=kF a.how u
 omega
theorem TK:Gr lQ 2200:=fun a w=>by
 unfold lQ
 have h1:=Oi a.excl w
 have h2:=MP a.left (wB a.excl w)
 have h3:=MP a.right (wP a.left (wB a.excl w))
 omega
theorem Vt:Gr kU 2200:=fun a w=>by
 unfold kU
 have h1:=kF a.kind w
 have h2:=MP a.path (wI a.kind w)
 have h3:=Yd a.frm (wP a.path (wI a.kind w))
 omega
theorem Jh {α:Type} {f:α→Wt→Wt} {k:Nat} (h:Gr f k):∀(l:List α) (w:Wt),(l.foldl (fun w a=>f a w) w).2.length≤w.2.length+l.length*k
 |[],w=>by simp
 |a::l,w=>by
  have h1:=h a w
  have h2:=Jh h l (f a w)
  rw[List.foldl_cons,List.length_cons,aaI]
  omega
theorem MJ {α:Type} {f:α→Wt→Wt} (n:Nat) (hn:n≤64) (h:Gr f 2200):Gr (wL n f) 150000:=fun l w=>by
 unfold wL
 split
 ·simp
 ·have h1:=XP l.length w
  have h2:=Jh h l (wU l.length w)
  have h3:l.length*2200≤64*2200:=aau _ (by omega)
  omega
theorem X3:∀f,Gr (wF f) 160000
 |0=>fun c=>(o7.mono (by omega)) c.client
 |1=>fun c=>(o7.mono (by omega)) c.name
 |2=>fun c=>(o7.mono (by omega)) c.path
 |3=>fun c=>(kF.mono (by omega)) c.number
 |4=>fun c=>(kF.mono (by omega)) c.fence
 |5=>fun c=>(kF.mono (by omega)) c.ticks
 |6=>fun c=>(o7.mono (by omega)) c.text
 |7=>fun c w=>by
  have h1:=o7 c.stream.name w
  have h2:=o7 c.stream.parent (wT c.stream.name w)
  have h3:=MJ 12 (by omega) Vt c.stream.paths (wT c.stream.parent (wT c.stream.name w))
  show(Ik c.stream w).2.length≤_
  unfold Ik
  omega
 |8=>fun c=>((MJ 16 (by omega) TK).mono (by omega)) c.rules
 |9=>fun c=>((MJ 64 (by omega) Va).mono (by omega)) c.edits
 |10=>fun c=>((MJ 64 (by omega) Vg).mono (by omega)) c.recs
 |n+11=>fun c w=>by simp[wF]
theorem LM (c:cO):∀(fs:List Nat) (w:Wt),(RN fs c w).2.length≤w.2.length+fs.length*160000
 |[],w=>by simp[RN]
 |f::fs,w=>by
  have h1:=X3 f c w
  have h2:=LM c fs (wF f c w)
  have e:RN (f::fs) c w=RN fs c (wF f c w):=rfl
  rw[e,List.length_cons,aaI]
  omega
section
variable {α β:Type} {ok:α→Prop} {code:α→List UInt8} {ok':β→Prop} {code':β→List UInt8}
open Classical in
noncomputable def dec (ok:α→Prop) (code:α→List UInt8) (l:List UInt8):Option (α×List UInt8):=
 if h:∃p:α×List UInt8,ok p.1∧l=code p.1++p.2 then some (Classical.choose h) else none
theorem iK {l:List UInt8}:dec ok code l=none↔∀a r,ok a→l≠code a++r:=by
 unfold dec
 split
 ·rename_i h
  refine⟨fun h=>by(cases h),fun h2=>?_⟩
  obtain⟨p,h3,h4⟩:=h
  exact absurd h4 (h2 _ _ h3)
 ·rename_i h
  exact⟨fun _ a r ha e=>h ⟨(a,r),ha,e⟩,fun _=>rfl⟩
theorem Sl (h:Pre ok code) {a:α} (ha:ok a) (r:List UInt8):dec ok code (code a++r)=some (a,r):=by
 unfold dec
 rw[dif_pos ⟨(a,r),ha,rfl⟩]
 have hs:=Classical.choose_spec (p:=fun p:α×List UInt8=>ok p.1∧code a++r=code p.1++p.2) ⟨(a,r),ha,rfl⟩
 obtain⟨e1,e2⟩:=h _ _ _ _ ha hs.1 hs.2
 exact congrArg some (Prod.ext e1.symm e2.symm)
theorem gV (h:Pre ok code) {l:List UInt8} {a:α} {r:List UInt8}:dec ok code l=some (a,r)↔ok a∧l=code a++r:=by
 constructor
 ·intro e
  unfold dec at e
  split at e
  ·rename_i h2
   have hs:=Classical.choose_spec h2
   rw[Option.some.inj e] at hs
   exact hs
  ·cases e
 ·rintro⟨ha,rfl⟩;exact Sl h ha r
end
def uL:List UInt8→Nat→Nat→Option (Nat×List UInt8)
 |[],_,_=>none
 |c::l,i,v=>
  if i=9∧c.toNat≠1 then none
  else if 128≤c.toNat then uL l (i+1) (v+c.toNat%128*2^(7*i))
  else if c.toNat=0∧0<i then none
  else some (v+c.toNat%128*2^(7*i),l)
theorem jL (c:UInt8):UInt8.ofNat c.toNat=c:=by simp
theorem FQ:∀(k i:Nat),i+k=9→∀(l:List UInt8) (v m:Nat) (r:List UInt8),
 uL l i v=some (m,r)↔∃n,n<2*128^k∧(0<i→0<n)∧m=v+n*2^(7*i)∧l=eY k n++r
 |0,i,hi,[],v,m,r=>by
  simp only[uL,eY]
  constructor
  ·intro h;cases h
  ·rintro⟨n,_,_,_,h⟩;cases h
 |k+1,i,hi,[],v,m,r=>by
  simp only[uL,eY]
  constructor
  ·intro h;cases h
  ·rintro⟨n,_,_,_,h⟩
   split at h<;>cases h
 |0,i,hi,c::l,v,m,r=>by
  obtain rfl:i=9:=by omega
  simp only[uL,eY,List.cons_append,List.nil_append,aaf,Nat.pow_zero,Nat.mul_one]
  by_cases hc:c.toNat=1
  ·rw[if_neg (by omega),if_neg (by omega),if_neg (by omega)]
   simp only[abB,aa1]
   constructor
   ·rintro⟨rfl,rfl⟩
    refine⟨1,by omega,by omega,by rw[hc],?_,rfl⟩
    rw[←jL c,hc]
   ·rintro⟨n,h1,h2,rfl,h3,rfl⟩
    obtain rfl:n=1:=by omega
    rw[hc];simp
  ·rw[if_pos ⟨trivial,hc⟩]
   constructor
   ·intro h;cases h
   ·rintro⟨n,h1,h2,rfl,h3,rfl⟩
    obtain rfl:n=1:=by omega
    rw[h3] at hc;exact absurd rfl hc
 |k+1,i,hi,c::l,v,m,r=>by
  have hb:=UInt8.toNat_lt c
  simp only[uL]
  rw[if_neg (by omega)]
  by_cases h1:128≤c.toNat
  ·rw[if_pos h1,FQ k (i+1) (by omega) l _ m r]
   have e7:2^(7*(i+1))=128*2^(7*i):=by rw[show 7*(i+1)=7+7*i by omega,Nat.pow_add]
   constructor
   ·rintro⟨n,a,b,rfl,rfl⟩
    have b:=b (by omega)
    refine⟨c.toNat%128+128*n,by rw[Nat.pow_succ];omega,by omega,by rw[e7,abf,Nat.add_assoc];congr 2;rw[←Nat.mul_assoc,Nat.mul_comm n 128,Nat.mul_assoc],?_⟩
    simp only[eY]
    rw[if_neg (by omega),List.cons_append]
    have x1:c.toNat=(c.toNat%128+128*n)%128+128:=by omega
    have x2:(c.toNat%128+128*n)/128=n:=by omega
    rw[←x1,jL,x2]
   ·rintro⟨n,a,b,rfl,h⟩
    simp only[eY] at h
    by_cases hn:n<128
    ·rw[if_pos hn] at h
     simp only[List.cons_append,List.nil_append,aaf] at h
     rw[h.1] at h1
     simp only[UInt8.toNat_ofNat'] at h1
     omega
    ·rw[if_neg hn] at h
     simp only[List.cons_append,aaf] at h
     obtain⟨h2,rfl⟩:=h
     have hc:c.toNat=n%128+128:=by rw[h2];simp only[UInt8.toNat_ofNat'];omega
     refine⟨n/128,by rw[Nat.pow_succ] at a;omega,by omega,?_,rfl⟩
     rw[hc,e7,Nat.add_assoc,←Nat.mul_assoc,←abf]
     congr 2
     omega
  ·rw[if_neg h1]
   by_cases h2:c.toNat=0∧0<i
   ·rw[if_pos h2]
    constructor
    ·intro h;cases h
    ·rintro⟨n,a,b,rfl,h⟩
     have b:=b h2.2
     simp only[eY] at h
     by_cases hn:n<128
     ·rw[if_pos hn] at h
      simp only[List.cons_append,List.nil_append,aaf] at h
      have:=h2.1
      rw[h.1] at this
      simp only[UInt8.toNat_ofNat'] at this
      omega
     ·rw[if_neg hn] at h
      simp only[List.cons_append,aaf] at h
      have:=h2.1
      rw[h.1] at this
      simp only[UInt8.toNat_ofNat'] at this
      omega
   ·rw[if_neg h2]
    simp only[abB,aa1]
    constructor
    ·rintro⟨rfl,rfl⟩
     refine⟨c.toNat,by have:1≤128^k:=Nat.one_le_pow _ _ (by omega)
                       rw[Nat.pow_succ];omega,by omega,by rw[Nat.mod_eq_of_lt (by omega)],?_⟩
     simp only[eY]
     rw[if_pos (by omega),jL];rfl
    ·rintro⟨n,a,b,rfl,h⟩
     simp only[eY] at h
     by_cases hn:n<128
     ·rw[if_pos hn] at h
      simp only[List.cons_append,List.nil_append,aaf] at h
      obtain⟨h3,rfl⟩:=h
      have hc:c.toNat=n:=by rw[h3];simp only[UInt8.toNat_ofNat'];omega
      rw[hc,Nat.mod_eq_of_lt hn];exact⟨rfl,rfl⟩
     ·rw[if_neg hn] at h
      simp only[List.cons_append,aaf] at h
      rw[h.1] at h1
      simp only[UInt8.toNat_ofNat'] at h1
      omega
def Le (n:Nat):Prop:=n<2^64
theorem jw:Pre Le iH:=pJ
theorem Ei:Pre lG gK:=QY
theorem Pj (l:List UInt8):dec Le iH l=uL l 0 0:=by
 have p9:(2:Nat)*128^9=2^64:=by decide
 cases h:uL l 0 0 with
 |none=>
  rw[iK]
  intro a r ha e
  have:=(FQ 9 0 rfl l 0 a r).2 ⟨a,by rw[p9];exact ha,by omega,by simp,e⟩
  rw[h] at this;cases this
 |some q=>
  obtain⟨m,r⟩:=q
  obtain⟨n,a,_,e,h2⟩:=(FQ 9 0 rfl l 0 m r).1 h
  rw[gV jw]
  simp only[Nat.mul_zero,Nat.pow_zero,Nat.mul_one,abt] at e
  subst e
  exact⟨by unfold Le;rw[←p9];exact a,h2⟩
def FB (n:Nat):Int:=if n%2=0 then(n/2:Nat) else-((n/2:Nat)+1:Int)
theorem Vs (n:Nat):zz (FB n)=n:=by
 unfold zz FB
 split<;>split<;>omega
theorem Uz {n:Nat} (h:Le n):aV .i64 (FB n):=by
 unfold Le at h
 simp only[aV,FB]
 split<;>omega
theorem YS (l:List UInt8):dec (aV .i64) encI l=(dec Le iH l).map fun q=>(FB q.1,q.2):=by
 cases h:dec Le iH l with
 |none=>
  rw[Option.map_none,iK]
  intro a r ha e
  exact iK.1 h (zz a) r (PV ha) e
 |some q=>
  obtain⟨n,r⟩:=q
  obtain⟨hn,rfl⟩:=(gV jw).1 h
  rw[Option.map_some,gV Hr]
  exact⟨Uz hn,by rw[encI,Vs]⟩
theorem YE (l:List UInt8):dec (aV .u64) IR l=(dec Le iH l).map fun q=>((q.1:Int),q.2):=by
 cases h:dec Le iH l with
 |none=>
  rw[Option.map_none,iK]
  intro a r ha e
  exact iK.1 h a.toNat r (by simp only[aV] at ha;unfold Le;omega) e
 |some q=>
  obtain⟨n,r⟩:=q
  obtain⟨hn,rfl⟩:=(gV jw).1 h
  rw[Option.map_some,gV Jz]
  exact⟨by unfold Le at hn;simp only[aV];omega,by rw[IR,Int.toNat_natCast]⟩
theorem ZA:∀l:List UInt8,dec (fun _=>True) iC l=match l with|[]=>none|c::l=>if 1<c.toNat then none else some (decide (c.toNat=1),l)
 |[]=>by
  rw[iK]
  intro a r _ e
  simp[iC] at e
 |c::l=>by
  have hb:=UInt8.toNat_lt c
  simp only
  split
  ·rename_i h
   rw[iK]
   intro a r _ e
   simp only[iC,List.cons_append,List.nil_append,aaf] at e
   rw[e.1] at h
   cases a<;>simp at h
  ·rename_i h
   rw[gV Ej]
   refine⟨trivial,?_⟩
   simp only[iC,List.cons_append,List.nil_append,aaf,aao]
   by_cases h1:c.toNat=1
   ·simp only[h1,decide_true,if_true]
    rw[←jL c,h1];rfl
   ·simp only[h1,abP,aak,if_false]
    rw[←jL c,show c.toNat=0 by omega];rfl
theorem ZE (l:List UInt8):dec lG gK l=(dec Le iH l).bind fun q=>if 1024<q.1∨q.2.length<q.1 then none else some (⟨⟨q.2.take q.1⟩⟩,q.2.drop q.1):=by
 cases h:dec Le iH l with
 |none=>
  rw[Option.bind_none,iK]
  intro a r ha e
  refine iK.1 h a.size (a.data.toList++r) (by unfold lG at ha;unfold Le;omega) (e.trans ?_)
  rw[gK,aas]
 |some q=>
  obtain⟨n,r⟩:=q
  obtain⟨hn,rfl⟩:=(gV jw).1 h
  rw[Option.bind_some]
  simp only
  split
  ·rename_i hc
   rw[iK]
   intro a r' ha e
   rw[gK,aas] at e
   obtain⟨rfl,rfl⟩:=pJ _ _ _ _ hn (show a.size<2^64 by unfold lG at ha;omega) e
   unfold lG at ha
   simp at hc
   omega
  ·rename_i hc
   have hc:n≤1024∧n≤r.length:=by omega
   rw[gV Ei]
   have e1:(⟨⟨r.take n⟩⟩:abW).size=n:=by
    show(r.take n).toArray.size=n
    simp;omega
   refine⟨by show _≤1024;rw[e1];exact hc.1,?_⟩
   rw[gK,e1,aas]
   congr 1
   exact(aaO n r).symm
end Go.Proofs.YtpoodoknkbojgaaGreatDoor
namespace Go.Proofs.YtpoodoknkbojgaaGreatDoor
open Go.Ab
abbrev Ds:=Nat×Bool
abbrev Dm (α:Type):=List UInt8→Ds→α×Ds
def takeD {α:Type} (z:α) (q:Option (α×List UInt8)):Dm α:=fun l s=>
 if s.2 then(z,s.1,true) else match q with|some u=>(u.1,l.length-u.2.length,false)|none=>(z,s.1,true)
def Zh (m:List UInt8):Option (Int×List UInt8):=(uL m 0 0).map fun q=>(FB q.1,q.2)
def Yv (m:List UInt8):Option (Int×List UInt8):=(uL m 0 0).map fun q=>((q.1:Int),q.2)
def Yu:List UInt8→Option (Bool×List UInt8)
 |[]=>none
 |c::l=>if 1<c.toNat then none else some (decide (c.toNat=1),l)
def Wp (m:List UInt8):Option (abW×List UInt8):=(uL m 0 0).bind fun q=>if 1024<q.1∨q.2.length<q.1 then none else some (⟨⟨q.2.take q.1⟩⟩,q.2.drop q.1)
def uD:Dm Nat:=fun l s=>takeD 0 (uL (l.drop s.1) 0 0) l s
def wD:Dm Int:=fun l s=>takeD 0 (Yv (l.drop s.1)) l s
def iD:Dm Int:=fun l s=>takeD 0 (Zh (l.drop s.1)) l s
def bD:Dm Bool:=fun l s=>takeD false (Yu (l.drop s.1)) l s
def tD:Dm abW:=fun l s=>takeD noS (Wp (l.drop s.1)) l s
structure Rd {α:Type} (m:Dm α) (ok:α→Prop) (code:α→List UInt8):Prop where
 good:∀l p a r,p≤l.length→ok a→l.drop p=code a++r→m l (p,false)=(a,l.length-r.length,false)
 inv:∀l p,p≤l.length→(m l (p,false)).2.2=false→ok (m l (p,false)).1∧l.drop p=code (m l (p,false)).1++l.drop (m l (p,false)).2.1
 stick:∀l p,(m l (p,true)).2.2=true
 le:∀l s,s.1≤l.length→(m l s).2.1≤l.length
theorem jr {l m r:List UInt8} {p:Nat} (h:l.drop p=m++r):l.drop (l.length-r.length)=r:=by
 have e:l=l.take p++(m++r):=by rw[←h,aaO]
 have hl:l.length=(l.take p).length+(m.length+r.length):=by
  conv=>lhs;rw[e]
  simp only[aan]
 have h2:l=(l.take p++m)++r:=by rw[aas];exact e
 conv=>lhs;rw[h2]
 rw[List.drop_append_of_le_length (by rw[←h2,aan];omega),abo (by rw[←h2,aan];omega)]
 rfl
theorem Rd.take {α:Type} {ok:α→Prop} {code:α→List UInt8} (hp:Pre ok code) {z:α} {rd:List UInt8→Option (α×List UInt8)} (h:∀m,dec ok code m=rd m):
 Rd (fun l s=>takeD z (rd (l.drop s.1)) l s) ok code where
 good l p a r hl ha e:=by
  simp only[takeD,aak,if_false]
  rw[←h,e,Sl hp ha r]
 inv l p hl:=by
  simp only[takeD,aak,if_false]
  cases e:rd (l.drop p) with
  |none=>intro h2;cases h2
  |some u=>
   intro _
   rw[←h] at e
   obtain⟨ha,e2⟩:=(gV hp).1 e
   refine⟨ha,?_⟩
   simp only
   rw[jr e2]
   exact e2
 stick l p:=by simp[takeD]
 le l s hl:=by
  simp only[takeD]
  split
  ·exact hl
  ·split
   ·exact Nat.sub_le _ _
   ·exact hl
theorem sK:Rd uD Le iH:=Rd.take jw Pj
theorem VO:Rd wD (aV .u64) IR:=Rd.take Jz fun m=>by rw[YE,Pj];rfl
theorem bW:Rd iD (aV .i64) encI:=Rd.take Hr fun m=>by rw[YS,Pj];rfl
theorem yC:Rd bD (fun _=>True) iC:=Rd.take Ej fun m=>by rw[ZA];cases m<;>rfl
theorem bQ:Rd tD lG gK:=Rd.take Ei fun m=>by rw[ZE,Pj];rfl
namespace Rd
variable {α β:Type} {m:Dm α} {m':Dm β} {ok ok2:α→Prop} {ok':β→Prop} {c c2:α→List UInt8} {c':β→List UInt8}
theorem iff (h:Rd m ok c) (e:∀a,ok a↔ok2 a) (ec:∀a,c a=c2 a):Rd m ok2 c2:=by
 have e1:ok=ok2:=funext fun a=>propext (e a)
 have e2:c=c2:=funext ec
 rw[←e1,←e2];exact h
theorem lt {l:List UInt8} {s:Ds} (h:Rd m ok c) (hs:s.1≤l.length):(m l s).2.1≤l.length:=h.le l s hs
end Rd
def Hq {α β:Type} (m:Dm α) (m':Dm β):Dm (α×β):=fun l s=>(((m l s).1,(m' l (m l s).2).1),(m' l (m l s).2).2)
def mapD {α β:Type} (f:α→β) (m:Dm α):Dm β:=fun l s=>(f (m l s).1,(m l s).2)
theorem jh {s:Ds} {b:Bool} (h:s.2=b):s=(s.1,b):=Prod.ext rfl h
theorem Rd.seq {α β:Type} {m:Dm α} {m':Dm β} {ok:α→Prop} {ok':β→Prop} {c:α→List UInt8} {c':β→List UInt8} (h:Rd m ok c) (h':Rd m' ok' c'):
 Rd (Hq m m') (fun p=>ok p.1∧ok' p.2) (fun p=>c p.1++c' p.2) where
 good l p a r hl ha e:=by
  rw[aas] at e
  have g:=h.good l p a.1 _ hl ha.1 e
  simp only[Hq]
  rw[g]
  simp only
  rw[h'.good l _ a.2 r (Nat.sub_le _ _) ha.2 (jr e)]
 inv l p hl hf:=by
  simp only[Hq] at hf⊢
  cases e:(m l (p,false)).2.2 with
  |true=>
   rw[jh e,h'.stick] at hf
   cases hf
  |false=>
   obtain⟨h1,h2⟩:=h.inv l p hl e
   have hl2:=h.le l (p,false) hl
   rw[jh e] at hf⊢
   obtain⟨h3,h4⟩:=h'.inv l _ hl2 hf
   refine⟨⟨h1,h3⟩,?_⟩
   rw[aas,←h4]
   exact h2
 stick l p:=by
  simp only[Hq]
  rw[jh (h.stick l p)]
  exact h'.stick _ _
 le l s hl:=h'.le l _ (h.le l s hl)
theorem Rd.map {α β:Type} {m:Dm α} {ok:α→Prop} {c:α→List UInt8} (h:Rd m ok c) (f:α→β) (g:β→α) (fg:∀b,f (g b)=b) (gf:∀a,g (f a)=a):
 Rd (mapD f m) (fun b=>ok (g b)) (fun b=>c (g b)) where
 good l p b r hl hb e:=by
  simp only[mapD]
  rw[h.good l p (g b) r hl hb e]
  simp only[fg]
 inv l p hl hf:=by
  simp only[mapD] at hf⊢
  obtain⟨h1,h2⟩:=h.inv l p hl hf
  simp only[gf]
  exact⟨h1,h2⟩
 stick l p:=h.stick l p
 le l s hl:=h.le l s hl
def dV {α:Type} (m:Dm α) (l:List UInt8):Nat→List α→Ds→List α×Ds
 |0,acc,s=>(acc,s)
 |k+1,acc,s=>if s.2 then(acc,s) else dV m l k (acc++[(m l s).1]) (m l s).2
def headD (n:Nat) (l:List UInt8) (s:Ds):Ds:=if n<(uD l s).1 then((uD l s).2.1,true) else(uD l s).2
def lD {α:Type} (n:Nat) (m:Dm α):Dm (List α):=fun l s=>dV m l (uD l s).1 [] (headD n l s)
theorem fK {α:Type} (m:Dm α) (l:List UInt8) (k:Nat) (acc:List α) (p:Nat):dV m l k acc (p,true)=(acc,p,true):=by
 cases k<;>rfl
theorem Di {α:Type} {m:Dm α} {ok:α→Prop} {c:α→List UInt8} (h:Rd m ok c) (l:List UInt8):∀(xs acc:List α) (p:Nat) (r:List UInt8),p≤l.length→(∀a∈xs,ok a)→l.drop p=sJ c xs++r→
 dV m l xs.length acc (p,false)=(acc++xs,l.length-r.length,false)
 |[],acc,p,r,hl,_,e=>by
  simp only[sJ,List.nil_append] at e
  have:=congrArg List.length e
  rw[aaQ] at this
  simp only[List.length_nil,dV,aaM]
  rw[show l.length-r.length=p by omega]
 |a::xs,acc,p,r,hl,ha,e=>by
  simp only[sJ,aas] at e
  have g:=h.good l p a _ hl (ha a (by simp)) e
  simp only[List.length_cons,dV,aak,if_false]
  rw[g]
  simp only
  rw[Di h l xs _ _ r (Nat.sub_le _ _) (fun b hb=>ha b (by simp[hb])) (jr e),aas]
  rfl
theorem Ed {α:Type} {m:Dm α} {ok:α→Prop} {c:α→List UInt8} (h:Rd m ok c) (l:List UInt8):∀(k:Nat) (acc:List α) (p:Nat),p≤l.length→(dV m l k acc (p,false)).2.2=false→
 ∃xs:List α,(dV m l k acc (p,false)).1=acc++xs∧xs.length=k∧(∀a∈xs,ok a)∧l.drop p=sJ c xs++l.drop (dV m l k acc (p,false)).2.1
 |0,acc,p,hl,_=>⟨[],by simp[dV],rfl,(fun a ha=>by cases ha),rfl⟩
 |k+1,acc,p,hl,hf=>by
  simp only[dV,aak,if_false] at hf⊢
  cases e:(m l (p,false)).2.2 with
  |true=>
   rw[jh e,fK] at hf
   cases hf
  |false=>
   obtain⟨h1,h2⟩:=h.inv l p hl e
   have hl2:=h.le l (p,false) hl
   rw[jh e] at hf⊢
   obtain⟨xs,a1,a2,a3,a4⟩:=Ed h l k _ _ hl2 hf
   refine⟨(m l (p,false)).1::xs,?_,by simp[a2],?_,?_⟩
   ·rw[a1,aas];rfl
   ·intro b hb
    rcases Z9.1 hb with rfl|hb
    ·exact h1
    ·exact a3 b hb
   ·simp only[sJ,aas]
    rw[←a4]
    exact h2
theorem Ht {α:Type} {m:Dm α} {l:List UInt8} (h:∀s,s.1≤l.length→(m l s).2.1≤l.length):∀(k:Nat) (acc:List α) (s:Ds),s.1≤l.length→(dV m l k acc s).2.1≤l.length
 |0,_,_,hs=>hs
 |k+1,acc,s,hs=>by
  simp only[dV]
  split
  ·exact hs
  ·exact Ht h k _ _ (h s hs)
theorem QO {n:Nat} {l:List UInt8} {s:Ds} (hs:s.1≤l.length):(headD n l s).1≤l.length:=by
 unfold headD
 split
 ·exact sK.le l s hs
 ·exact sK.le l s hs
theorem JD {α:Type} {m:Dm α} {ok:α→Prop} {c:α→List UInt8} (h:Rd m ok c) (n:Nat) (hn:n≤1000):Rd (lD n m) (fun l=>l.length≤n∧∀a∈l,ok a) (xk c) where
 good l p a r hl ha e:=by
  simp only[xk,aas] at e
  have g:=sK.good l p a.length _ hl (show a.length<2^64 by omega) e
  unfold lD headD
  rw[g]
  simp only
  rw[if_neg (by omega),Di h l a [] _ r (Nat.sub_le _ _) ha.2 (jr e)]
  rfl
 inv l p hl hf:=by
  unfold lD at hf⊢
  unfold headD at hf⊢
  have hl1:=sK.le l (p,false) hl
  split at hf
  ·rw[fK] at hf;cases hf
  ·rename_i hc
   rw[if_neg hc]
   cases e:(uD l (p,false)).2.2 with
   |true=>rw[jh e,fK] at hf;cases hf
   |false=>
    obtain⟨h1,h2⟩:=sK.inv l p hl e
    rw[jh e] at hf⊢
    obtain⟨xs,a1,a2,a3,a4⟩:=Ed h l _ _ _ hl1 hf
    rw[a1]
    simp only[List.nil_append]
    refine⟨⟨by omega,a3⟩,?_⟩
    rw[xk,aas,←a4,a2]
    exact h2
 stick l p:=by
  unfold lD headD
  have e:=sK.stick l p
  split
  ·rw[fK]
  ·rw[jh e,fK]
 le l s hl:=Ht (fun s hs=>h.le l s hs) _ _ _ (QO hl)
end Go.Proofs.YtpoodoknkbojgaaGreatDoor
namespace Go.Proofs.YtpoodoknkbojgaaGreatDoor
open Go.Ab
def pC (p q:abW):Int:=cmpL ((iE p).getD []) ((iE q).getD [])
def VS (l:List abW):Prop:=∀s∈l,(iE s).isSome=true∧s.size≤100000
theorem VS.get {l:List abW} (h:VS l) {i:Nat} (hi:i<l.length):(iE (l.getD i noS)).isSome=true∧(l.getD i noS).size≤100000:=by
 refine h _ ?_
 rw[aam,aab hi]
 exact List.getElem_mem hi
section
variable {c:abW→abW→Int} (hc:Cmp c)
include hc
end
def ZP (l:List abW) (i n:Nat):List abW:=(l.drop i).take n
def rep (l:List abW) (a e:Nat) (z:List abW):List abW:=l.take a++(z++l.drop e)
section
variable {l z:List abW} {a e:Nat} (hae:a≤e) (he:e≤l.length) (hz:z.length=e-a)
include hae he hz
end
def ZQ (bs:Nat) (l:List abW):Prop:=∀k,NV pC (ZP l (k*bs) bs)
theorem ZQ.whole {bs:Nat} {l:List abW} (h:ZQ bs l) (hb:l.length≤bs):NV pC l:=by
 have:=h 0
 rw[Nat.zero_mul] at this
 simpa[ZP,aaP hb] using this
theorem qF:∀t:List UInt8,Lib.join (dn t) [47]=t
 |[]=>by simp[dn,Lib.join_one]
 |a::l=>by
  have ih:=qF l
  simp only[dn]
  obtain⟨h,t,e⟩:=jV l
  split
  ·rename_i ha
   subst ha
   rw[e] at ih⊢
   rw[Lib.join_cons]
   simp only[Lib.joinTail,List.nil_append]
   rw[Lib.join_cons] at ih
   cases t with
   |nil=>simpa[Lib.joinTail] using ih
   |cons b t=>simpa[Lib.joinTail] using ih
  ·rw[e] at ih⊢
   simp only
   rw[Lib.join_cons] at ih⊢
   rw[←ih];rfl
theorem jS (L:List abW):(eX L slash).data.toList=Lib.join (L.map (·.data.toList)) [47]:=by simp[eX,slash]
theorem vX (X:List (List UInt8)):∀(A:List (List UInt8)),X≠[]→Lib.join (A++X) [47]=Lib.join (A++[Lib.join X [47]]) [47]
 |[],h=>by rw[List.nil_append,List.nil_append,Lib.join_one]
 |a::A,h=>by
  have ih:=vX X A h
  obtain⟨b,B,e⟩:=List.exists_cons_of_ne_nil (show A++X≠[] by simp[h])
  obtain⟨c,C,e2⟩:=List.exists_cons_of_ne_nil (show A++[Lib.join X [47]]≠[] by simp)
  have step:∀(m:List UInt8) (r:List (List UInt8)),Lib.join (a::m::r) [47]=a++47::Lib.join (m::r) [47]:=by
   intro m r
   rw[Lib.join_cons,Lib.join_cons]
   simp[Lib.joinTail]
  rw[List.cons_append,List.cons_append]
  rw[e,e2] at ih⊢
  rw[step,step,ih]
theorem JF (A:List abW) (s:abW):eX (A++split s) slash=eX (A++[s]) slash:=by
 have h:∀L M:List abW,Lib.join (L.map (·.data.toList)) [47]=Lib.join (M.map (·.data.toList)) [47]→eX L slash=eX M slash:=by
  intro L M e
  rw[←jS,←jS] at e
  have:=congrArg PU e
  rwa [Qq,Qq] at this
 apply h
 rw[aa2,aa2,Nh]
 have e:((dn s.data.toList).map PU).map (·.data.toList)=dn s.data.toList:=by
  rw[abl]
  conv=>rhs;rw[←List.map_id (dn s.data.toList)]
  exact abn fun _ _=>rfl
 obtain⟨a,t,e2⟩:=jV s.data.toList
 rw[e,vX _ _ (by rw[e2];simp),qF]
 rfl
end Go.Proofs.YtpoodoknkbojgaaGreatDoor
