/- A part of the proof. -/
import Derived.Test.YtpoodoknkbojgaaGreatDoorRE2
import Derived.Test.YtpoodoknkbojgaaGreatDoorRE16
set_option maxRecDepth 100000
set_option maxHeartbeats 8000000
set_option linter.all false
namespace Go.Proofs.YtpoodoknkbojgaaGreatDoor
open Go.Ab Tys
variable [Dr]
omit [Dr] in
theorem Yt (bs:List UInt8):List.take bs.length (List.map (fun l=>List.map C.d l) (List.map bU bs))=List.map (fun l=>List.map C.d l) (List.map bU bs):=aaP (by simp)
omit [Dr] in
theorem UX (bs:List UInt8):∀l∈List.map (fun l=>List.map C.d l) (List.map bU bs),l.length=1:=by
 intro l hl
 simp only[aaD] at hl
 obtain⟨_,⟨b,_,rfl⟩,rfl⟩:=hl
 rfl
def YP.kk:=p11 kB kS Tryz.ntmps115 Tryz.underlying33 rZ jJ wG oh Jp DL Tryz.results115
open YP in
theorem qj (v:Nat) (hv:v<2^64):EC Tryz.prog 115 [I .u64 v] (wU v):=by
 refine jU (fun w=>by simp[wU]) (by simp[Fz]) fun w hl=>?_
 have h1:w.2.length+(iH v).length≤1000000000:=by simpa[wU] using hl
 refine dI Tryz.func115 Tryz.ntmps115 fun x hx=>?_
 refine bZ ?_
 refine jk ?_
 refine uQ (wr:=false) [(10, .c (.ms 20 1 0 (iH v).length))] [(10,([],some [(20,aC 1 ((iH v).map bU))]))] (by kernel_rfl) (by simp only[vS.eq_1,vS.eq_2,nH.eq_def,DC.eq_def,nU.eq_def,Option.getD,kD,kk,Nat.reduceAdd,Nat.reduceLT,Nat.reduceEqDiff, ↓reduceIte,reduceCtorEq,Yt];first|done|rfl) ?_ (by kernel_rfl) ?_
 ·(simp only[All,List.cons_append,List.nil_append,aV,Z9,aad,aaw,forall_eq_or_imp,forall_eq,aao,aaS,implies_true,aai,List.length_cons,List.length_nil];repeat' (first|exact trivial|exact Df v hv|exact UX _|refine And.intro ?_ ?_|(rintro _ ⟨⟩;done)|assumption|rfl|omega|(simp[aN,aF,aI,aG,aJ,aH,ag,ax,bi,aA,bC,ae,Ab.get];done)))
 refine jk ?_
 refine⟨⟨14,[],stB 2001 2002 (wU v w)⟩,?_,?_⟩
 ·(refine aY (fun i=>if i=2002 then 11 else i) rfl ?_ ⟨?_,?_,?_,keepR hx (by simp[ae,Ab.get])⟩<;>first|(intro i hi;have h0:=hx i hi;constructor<;>(revert h0;simp only[ae,Ab.get];(repeat' split)<;>simp_all);done)|(simp only[kE,aC, ↓reduceIte,Nat.reduceEqDiff,reduceCtorEq];done)|(simp only[aC,iQ,iO,Z9,aad,aaw,forall_eq_or_imp,forall_eq];simp[bF,bP,aX,dD,ag,Ab.get,aA,bi,ax,aN,aF,aI,aG,aJ,aH,ae,List.flatten,wU];done)|simp[bF,bP,aX,dD,ag,Ab.get,aA,bi,ax,aN,aF,aI,aG,aJ,aH,ae,List.flatten,wU])
 refine rN ((stB 2001 2002 (wU v w))) ?_
 refine⟨?_,rfl⟩
 rfl
def ZW.kk:=p11 kB kS Tryz.ntmps18 Tryz.underlying33 rZ jJ wG oh Jp DL Tryz.results18
open ZW in
theorem fG (v:Int) (hv:aV .i64 v):EC Tryz.prog 18 [I .i64 v] (wI v):=by
 refine jU (fun w=>by simp[wI]) (by simp[Fz]) fun w hl=>?_
 have h1:w.2.length+(encI v).length≤1000000000:=by simpa[wI] using hl
 refine dI Tryz.func18 Tryz.ntmps18 fun x hx=>?_
 refine bZ ?_
 refine jk ?_
 refine uQ (wr:=false) [(10, .c (.ms 20 1 0 (encI v).length))] [(10,([],some [(20,aC 1 ((encI v).map bU))]))] (by kernel_rfl) (by simp only[vS.eq_1,vS.eq_2,nH.eq_def,DC.eq_def,nU.eq_def,Option.getD,kD,kk,Nat.reduceAdd,Nat.reduceLT,Nat.reduceEqDiff, ↓reduceIte,reduceCtorEq,Yt];first|done|rfl) ?_ (by kernel_rfl) ?_
 ·(simp only[All,List.cons_append,List.nil_append,aV,Z9,aad,aaw,forall_eq_or_imp,forall_eq,aao,aaS,implies_true,aai,List.length_cons,List.length_nil];repeat' (first|exact trivial|exact Pe v hv|exact UX _|refine And.intro ?_ ?_|(rintro _ ⟨⟩;done)|assumption|rfl|omega|(simp[aN,aF,aI,aG,aJ,aH,ag,ax,bi,aA,bC,ae,Ab.get];done)))
 refine jk ?_
 refine⟨⟨14,[],stB 2001 2002 (wI v w)⟩,?_,?_⟩
 ·(refine aY (fun i=>if i=2002 then 11 else i) rfl ?_ ⟨?_,?_,?_,keepR hx (by simp[ae,Ab.get])⟩<;>first|(intro i hi;have h0:=hx i hi;constructor<;>(revert h0;simp only[ae,Ab.get];(repeat' split)<;>simp_all);done)|(simp only[kE,aC, ↓reduceIte,Nat.reduceEqDiff,reduceCtorEq];done)|(simp only[aC,iQ,iO,Z9,aad,aaw,forall_eq_or_imp,forall_eq];simp[bF,bP,aX,dD,ag,Ab.get,aA,bi,ax,aN,aF,aI,aG,aJ,aH,ae,List.flatten,wI];done)|simp[bF,bP,aX,dD,ag,Ab.get,aA,bi,ax,aN,aF,aI,aG,aJ,aH,ae,List.flatten,wI])
 refine rN ((stB 2001 2002 (wI v w))) ?_
 refine⟨?_,rfl⟩
 rfl
def z116.kk:=p11 kB kS Tryz.ntmps116 Tryz.underlying33 rZ jJ wG oh Jp DL Tryz.results116
open z116 in
theorem uI (v:Bool):EC Tryz.prog 116 [B v] (wB v):=by
 refine jU (fun w=>by simp[wB]) (by simp[Fz]) fun w hl=>?_
 have h1:w.2.length+(iC v).length≤1000000000:=by simpa[wB] using hl
 refine dI Tryz.func116 Tryz.ntmps116 fun x hx=>?_
 refine bZ ?_
 refine jk ?_
 refine uQ (wr:=false) [(10, .c (.ms 20 1 0 (iC v).length))] [(10,([],some [(20,aC 1 ((iC v).map bU))]))] (by kernel_rfl) (by simp only[vS.eq_1,vS.eq_2,nH.eq_def,DC.eq_def,nU.eq_def,Option.getD,kD,kk,Nat.reduceAdd,Nat.reduceLT,Nat.reduceEqDiff, ↓reduceIte,reduceCtorEq,Yt];first|done|rfl) ?_ (by kernel_rfl) ?_
 ·(simp only[All,List.cons_append,List.nil_append,aV,Z9,aad,aaw,forall_eq_or_imp,forall_eq,aao,aaS,implies_true,aai,List.length_cons,List.length_nil];repeat' (first|exact trivial|exact LK v|exact UX _|refine And.intro ?_ ?_|(rintro _ ⟨⟩;done)|assumption|rfl|omega|(simp[aN,aF,aI,aG,aJ,aH,ag,ax,bi,aA,bC,ae,Ab.get];done)))
 refine jk ?_
 refine⟨⟨14,[],stB 2001 2002 (wB v w)⟩,?_,?_⟩
 ·(refine aY (fun i=>if i=2002 then 11 else i) rfl ?_ ⟨?_,?_,?_,keepR hx (by simp[ae,Ab.get])⟩<;>first|(intro i hi;have h0:=hx i hi;constructor<;>(revert h0;simp only[ae,Ab.get];(repeat' split)<;>simp_all);done)|(simp only[kE,aC, ↓reduceIte,Nat.reduceEqDiff,reduceCtorEq];done)|(simp only[aC,iQ,iO,Z9,aad,aaw,forall_eq_or_imp,forall_eq];simp[bF,bP,aX,dD,ag,Ab.get,aA,bi,ax,aN,aF,aI,aG,aJ,aH,ae,List.flatten,wB];done)|simp[bF,bP,aX,dD,ag,Ab.get,aA,bi,ax,aN,aF,aI,aG,aJ,aH,ae,List.flatten,wB])
 refine rN ((stB 2001 2002 (wB v w))) ?_
 refine⟨?_,rfl⟩
 rfl
theorem SY (s:abW) (w:Wt):w.2.length≤(wT s w).2.length:=by
 unfold wT
 split<;>simp
def z49.kk:=X6 kB kS Tryz.ntmps49 Tryz.underlying33 Tryz.underlying9 rZ jJ wG oZ oh vO Jp DL Tryz.results49
open z49 in
theorem gu (s:abW) (hs:s.size≤2000000):EC Tryz.prog 49 [Str s] (wT s):=by
 refine jU (SY s) (by simp[Fz]) fun w hl=>?_
 refine dI Tryz.func49 Tryz.ntmps49 fun x hx=>?_
 refine bZ ?_
 try refine nv ?_
 refine aU ?_ ?_
 ·intro h
  have h':1024<s.size:=by have:(1024:Int)<s.size:=(by simpa using h);omega
  have e:wT s w=(true,w.2):=if_pos h'
  rw[e]
  try refine nv ?_
  refine⟨⟨20,[],stB 2001 2002 (true,w.2)⟩,?_,?_⟩
  ·refine(jA (bid:=2000) (id:=2001) (id':=2002) (j:=0) (by decide) (by decide) rfl rfl rfl rfl rfl).trans ?_
   refine dQ ?_
   exact fM
  refine rV ((stB 2001 2002 (true,w.2))) ?_
  refine⟨?_,rfl⟩
  rfl
 ·intro h
  have h':¬1024<s.size:=by have:(s.size:Int)≤1024:=(by simpa using h);omega
  have e:wT s w=(w.1,w.2++gK s):=if_neg h'
  have h1:w.2.length+(gK s).length≤1000000000:=by rw[e] at hl;simpa using hl
  rw[e]
  refine jk ?_
  refine uQ (wr:=false) [(16, .c (.ms 19 1 0 (gK s).length))] [(16,([],some [(19,aC 1 ((gK s).map bU))]))] (by kernel_rfl) (by simp only[vS.eq_1,vS.eq_2,nH.eq_def,DC.eq_def,nU.eq_def,Option.getD,kD,kk,Nat.reduceAdd,Nat.reduceLT,Nat.reduceEqDiff, ↓reduceIte,reduceCtorEq,Yt];first|done|rfl) ?_ (by kernel_rfl) ?_
  ·(simp only[All,List.cons_append,List.nil_append,aV,Z9,aad,aaw,forall_eq_or_imp,forall_eq,aao,aaS,implies_true,aai,List.length_cons,List.length_nil];repeat' (first|exact trivial|exact KW s (by omega)|exact UX _|refine And.intro ?_ ?_|(rintro _ ⟨⟩;done)|assumption|rfl|omega|(simp[aN,aF,aI,aG,aJ,aH,ag,ax,bi,aA,bC,ae,Ab.get];done)))
  refine jk ?_
  refine⟨⟨20,[],stB 2001 2002 ((w.1,w.2++gK s))⟩,?_,?_⟩
  ·exact Ro (fun i=>if i=2002 then 17 else i)
  refine rN ((stB 2001 2002 ((w.1,w.2++gK s)))) ?_
  refine⟨?_,rfl⟩
  rfl
omit [Dr] in
theorem X9 {a:Nat} (h:a<2^63):bits .xor .i64 (a:Int) 0=(a:Int):=by
 unfold bits
 have e:(BitVec.ofInt IntKind.i64.bits (a:Int) ^^^ BitVec.ofInt IntKind.i64.bits 0).toNat=a:=by
  show(BitVec.ofInt 64 (a:Int) ^^^ BitVec.ofInt 64 0).toNat=a
  rw[BitVec.toNat_xor,BitVec.toNat_ofInt,BitVec.toNat_ofInt,Int.zero_emod,Int.toNat_zero,Nat.xor_zero]
  omega
 simp only[e]
 rw[IntKind.wrap_i64]
 omega
omit [Dr] in
theorem Yg {a:Nat} (h:a<2^63):bits .xor .i64 (a:Int) (-1)= -((a:Int)+1):=by
 unfold bits
 have e:(BitVec.ofInt IntKind.i64.bits (a:Int) ^^^ BitVec.ofInt IntKind.i64.bits (-1)).toNat=18446744073709551615-a:=by
  show(BitVec.ofInt 64 (a:Int) ^^^ BitVec.ofInt 64 (-1)).toNat=_
  rw[show BitVec.ofInt 64 (-1)=BitVec.allOnes 64 by decide,BitVec.xor_allOnes,BitVec.toNat_not,BitVec.toNat_ofInt]
  omega
 simp only[e]
 rw[IntKind.wrap_i64]
 omega
omit [Dr] in
theorem and1 {v:Nat} (hv:v<2^64):bits .and .u64 (v:Int) 1=((v%2:Nat):Int):=by
 have:=bits_mask .u64 64 (by decide) xh 1 (by decide) (v:Int) (by omega) (by omega)
 rw[show(2:Int)^1-1=1 by decide,show(2:Int)^1=2 by decide] at this
 rw[this];omega
omit [Dr] in
theorem JU (n:Int) (h0: -9223372036854775808≤n) (h1:n<9223372036854775808):IntKind.i64.wrap n=n:=by rw[IntKind.wrap_i64];omega
omit [Dr] in
theorem YF {v:Nat} (h:v<2^64):bits .xor .i64 ((v/2:Nat):Int) (-((v%2:Nat):Int))=FB v:=by
 unfold FB
 by_cases hv:v%2=0
 ·rw[hv,if_pos rfl]
  exact X9 (by omega)
 ·rw[if_neg hv,show v%2=1 by omega]
  exact Yg (by omega)
theorem VW {l:List UInt8} {q:Nat×List UInt8} (h:uL l 0 0=some q):q.1<2^64∧q.2.length<l.length:=by
 have h1:=Pj l
 rw[h] at h1
 obtain⟨hn,e⟩:=(gV jw).1 h1
 refine⟨hn,?_⟩
 have:=BA q.1
 rw[e,aan];omega
theorem I9:∀(l:List UInt8) (i:Nat),uE l i=11∨uE l i=12
 |[],_=> .inl rfl
 |c::l,i=>by
  simp only[uE]
  split
  ·exact .inr rfl
  ·split
   ·exact I9 l _
   ·exact .inr rfl
def Vq (l:List UInt8) (n:Nat):List (Bool×List C):=
 match uL (l.drop n) 0 0 with
 |some q=>[pI (FB q.1),pI ((l.length-q.2.length:Nat):Int),pI 0]
 |none=>[pI 0,pI 0,pI (uE (l.drop n) 0)]
def z58.kk:=p6 kB Tryz.ntmps58 Tryz.underlying3 Tryz.underlying45 RS Tryz.results58
open z58 in
theorem WQ (l:List UInt8) (n:Nat) (hn:n≤l.length) (hl:l.length≤1000000000):AC Tryz.prog 58 [.c (.d (.ps 1 (l.map bU))),I .i64 n] [] (fun r st=>r= .tup (Vq l n)∧st=[]):=by
 have hu:=FH l n hn hl
 unfold Pv at hu
 unfold Vq
 have hE:=I9 (l.drop n) 0
 cases e:uL (l.drop n) 0 0 with
 |none=>
  simp only[e] at hu
  generalize uE (l.drop n) 0=z at hu hE⊢
  refine dI Tryz.func58 Tryz.ntmps58 fun x hx=>?_
  (repeat (first|refine nv ?_|refine cf (hu) ?_))
  refine aU ?_ ?_
  rotate_left
  ·intro h
   rcases hE with rfl|rfl<;>simp at h
  intro _
  try refine nv ?_
  refine rA [] ?_
  refine⟨?_,rfl⟩
  rfl
 |some q=>
  obtain⟨hv,hq⟩:=VW e
  simp only[e] at hu
  obtain⟨v,q2⟩:=q
  simp only at hu hv⊢
  generalize l.length-q2.length=p at hu⊢
  refine dI Tryz.func58 Tryz.ntmps58 fun x hx=>?_
  (repeat (first|refine nv ?_|refine cf (hu) ?_))
  refine aU ?_ ?_
  ·intro h;simp at h
  intro _
  try refine nv ?_
  refine CG (n:=1) (by simp) rfl rfl rfl (by decide) ?_
  refine dQ ?_
  rw[show((v:Int)/2^1)=((v/2:Nat):Int) by rw[show(2:Int)^1=2 by decide];omega]
  refine uH (by simp) rfl Tryz.underlying45 Tryz.underlying3 ?_
  refine dQ ?_
  rw[JU _ (by omega) (by omega)]
  try refine nv ?_
  refine mg (.inl rfl) (by simp) rfl rfl ?_
  refine dQ ?_
  rw[and1 hv]
  refine uH (by simp) rfl Tryz.underlying45 Tryz.underlying3 ?_
  refine dQ ?_
  rw[JU _ (by omega) (by omega)]
  refine Ya (r:= .int .i64 (IntKind.i64.wrap (0-((v%2:Nat):Int)))) (by simp) rfl rfl (fun w=>by first|rfl|simp[Go.Op.unary,Op.intArith]) ?_
  refine dQ ?_
  rw[JU _ (by omega) (by omega),Int.zero_sub]
  refine mg (.inr (.inr rfl)) (by simp) rfl rfl ?_
  refine dQ ?_
  rw[YF hv]
  try refine nv ?_
  refine rA [] ?_
  refine⟨?_,rfl⟩
  rfl
end Go.Proofs.YtpoodoknkbojgaaGreatDoor
