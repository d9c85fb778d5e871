/- A part of the proof. -/
import Derived.Test.YtpoodoknkbojgaaGreatDoorRPD
import Derived.Test.YtpoodoknkbojgaaGreatDoorRAbSc
import Derived.Laws.BitsLemmas
import Derived.Laws.Bits64
set_option linter.all false
namespace Go.Proofs.YtpoodoknkbojgaaGreatDoor
open Go.Ab
theorem DT:∀l:List UInt8,Lib.compareBytes l l=0
 |[]=>rfl
 |a::l=>by
  have:¬a<a:=by simp
  rw[Lib.compareBytes,if_neg this,if_neg this];exact DT l
theorem MB:∀l m:List UInt8,Lib.compareBytes l m=0→l=m
 |[],[],_=>rfl
 |[],_::_,h=>by simp[Lib.compareBytes] at h
 |_::_,[],h=>by simp[Lib.compareBytes] at h
 |a::l,b::m,h=>by
  rw[Lib.compareBytes] at h
  split at h
  ·cases h
  ·split at h
   ·cases h
   ·rename_i h1 h2
    have:a=b:=by
     apply UInt8.toNat_inj.1
     simp only[UInt8.lt_iff_toNat_lt] at h1 h2;omega
    rw[this,MB l m h]
theorem zU:∀l m k:List UInt8,Lib.compareBytes l m<0→Lib.compareBytes m k<0→Lib.compareBytes l k<0
 |[],[],_,h,_=>by simp[Lib.compareBytes] at h
 |[],_::_,[],_,h=>by simp[Lib.compareBytes] at h
 |[],_::_,_::_,_,_=>by simp[Lib.compareBytes]
 |_::_,[],_,h,_=>by simp[Lib.compareBytes] at h
 |_::_,_::_,[],_,h=>by simp[Lib.compareBytes] at h
 |a::l,b::m,c::k,h1,h2=>by
  rw[Lib.compareBytes] at h1 h2⊢
  simp only[UInt8.lt_iff_toNat_lt] at h1 h2⊢
  split at h1
  ·split at h2
   ·rw[if_pos (by omega)];omega
   ·split at h2
    ·omega
    ·rw[if_pos (by omega)];omega
  ·split at h1
   ·omega
   ·split at h2
    ·rw[if_pos (by omega)];omega
    ·split at h2
     ·omega
     ·rw[if_neg (by omega),if_neg (by omega)];exact zU l m k h1 h2
theorem Ol (a:VJ):cb a a=0:=DT _
theorem O9 {a b:VJ} (h:cb a b=0):a=b:=ByteArray.ext (by simpa using congrArg List.toArray (MB _ _ h))
theorem Ky {a b c:VJ} (h1:cb a b<0) (h2:cb b c<0):cb a c<0:=zU _ _ _ h1 h2
theorem zu:∀l:List VJ,cmpL l l=0
 |[]=>rfl
 |a::l=>by rw[cmpL,if_pos (Ol a)];exact zu l
theorem xA:∀l m k:List VJ,cmpL l m<0→cmpL m k<0→cmpL l k<0
 |[],[],_,h,_=>by simp[cmpL] at h
 |[],_::_,[],_,h=>by simp[cmpL] at h
 |[],_::_,_::_,_,_=>by simp[cmpL]
 |_::_,[],_,h,_=>by simp[cmpL] at h
 |_::_,_::_,[],_,h=>by simp[cmpL] at h
 |a::l,b::m,c::k,h1,h2=>by
  rw[cmpL] at h1 h2⊢
  by_cases e1:cb a b=0
  ·have:=O9 e1;subst this
   rw[if_pos e1] at h1
   by_cases e2:cb a c=0
   ·rw[if_pos e2] at h2⊢;exact xA l m k h1 h2
   ·rw[if_neg e2] at h2⊢;exact h2
  ·rw[if_neg e1] at h1
   by_cases e2:cb b c=0
   ·have:=O9 e2;subst this
    rw[if_neg e1];exact h1
   ·rw[if_neg e2] at h2
    have:=Ky h1 h2
    rw[if_neg (by omega)];exact this
theorem qX {p q:VJ} (hp:(gZ p).isSome=true) (hq:(gZ q).isSome=true):∃a b,gZ p=some a∧gZ q=some b∧ord p q=cmpL a b:=by
 cases h1:gZ p with
 |none=>rw[h1] at hp;cases hp
 |some a=>
  cases h2:gZ q with
  |none=>rw[h2] at hq;cases hq
  |some b=>exact⟨a,b,rfl,rfl,by simp[ord,h1,h2]⟩
theorem Iy {p q r:VJ} (hp:(gZ p).isSome=true) (hq:(gZ q).isSome=true) (hr:(gZ r).isSome=true) (h1:ord p q<0) (h2:ord q r<0):ord p r<0:=by
 obtain⟨a,b,ea,eb,e1⟩:=qX hp hq
 obtain⟨b',c,eb',ec,e2⟩:=qX hq hr
 rw[eb] at eb';cases eb'
 obtain⟨a',c',ea',ec',e3⟩:=qX hp hr
 rw[ea] at ea';cases ea'
 rw[ec] at ec';cases ec'
 rw[e3];rw[e1] at h1;rw[e2] at h2
 exact xA _ _ _ h1 h2
theorem Nb {p:VJ} (hp:(gZ p).isSome=true):ord p p=0:=by
 obtain⟨a,b,ea,eb,e1⟩:=qX hp hp
 rw[ea] at eb;cases eb
 rw[e1];exact zu _
def gX {κ ν:Type} [DecidableEq κ]:List (κ×ν)→κ→Option ν
 |[],_=>none
 |(a,b)::m,k=>if k=a then some b else gX m k
@[reducible] def D7 {κ ν:Type} (ke:κ→Bool×List D) (ve:ν→Bool×List D) (m:List (κ×ν)):List mF:=m.map fun p=>(ke p.1,ve p.2)
section
variable {κ ν:Type} [DecidableEq κ] {ke:κ→Bool×List D} {ve:ν→Bool×List D} (hk:∀a b,yO ((ke a).2.map C.d) ((ke b).2.map C.d)=decide (a=b))
include hk
theorem Jg (m:List (κ×ν)) (k:κ):jM ((ke k).2.map C.d) ((D7 ke ve m).map yP)=(gX m k).map fun v=>Ib (ve v):=by
 induction m with
 |nil=>rfl
 |cons p m ih=>
  simp only[D7,Un,jM,yP,Ib] at ih⊢
  rw[hk]
  simp only[gX]
  by_cases e:k=p.1
  ·simp[e,Ib]
  ·simp only[e,VI,Um,if_false];exact ih
end
@[reducible] def kN (i:Int):Bool×List D:=(false,[.v (.int .i64 i)])
theorem Q4 (a b:Int):yO ((kN a).2.map C.d) ((kN b).2.map C.d)=decide (a=b):=by
 simp[kN,yO,zW]
section
variable {κ:Type} [DecidableEq κ] {ke:κ→Bool×List D} (hk:∀a b,yO ((ke a).2.map C.d) ((ke b).2.map C.d)=decide (a=b))
include hk
end
end Go.Proofs.YtpoodoknkbojgaaGreatDoor
namespace Go.Ab
section
variable [Dr] {P:Program} {x:X} {Q:Exit→S→Prop} {s:S} {ops l:List Oper} {d:Tmp} {T ty ty2:TypeId} {y z:Operand} {pos:String} {after:Array Edge}
theorem E5 {op:BinOp} {u v r:Value} (hd:d<s.n) (hy:ev s y=some (.c (.d (.v u)))) (hz:ev s z=some (.c (.d (.v v)))) (h1:r.oneCell'=true)
 (hrun:∀w,(do eqGuard op T y z u v;binOp op T u v:Sem Value).run P w= .ok r w)
 (hk:TO P x ops l ⟨s.n,put s.env d (.c (.d (.v r))),s.st⟩ Q):TO P x ops (⟨some d, .binOp op T y z ty2,ty,pos,after,none⟩::l) s Q:=by
 rintro A w ⟨bl,cap,hs,henv,hdf,hsz⟩
 have e1:A.eval y=u:=dY (bF henv hy)
 have e2:A.eval z=v:=dY (bF henv hz)
 have hrun2:(execOp A.eval ⟨some d, .binOp op T y z ty2,ty,pos,after,none⟩).run P w= .ok (.value r) w:=by
  simp only[execOp,e1,e2]
  exact dG (hrun w)
 refine wpList_plain rfl fun K hK=>?_
 unfold Oper.wp
 rw[hrun2]
 exact hK _ _ (hk _ _ ⟨bl,cap,hs,henv.put (by rw[hsz];exact hd) (.v _ h1),by rw[Act.put_defers];exact hdf,by rw[Act.bQ];exact hsz⟩)
theorem Az {k k':IntKind} {a b:Int} {n:Nat} (hd:d<s.n) (hy:ev s y=some (.c (.d (.v (.int k a))))) (hz:ev s z=some (.c (.d (.v (.int k' b))))) (hb:b=n) (hn:n≤k.bits)
 (hk:TO P x ops l ⟨s.n,put s.env d (.c (.d (.v (.int k (a/2^n))))),s.st⟩ Q):TO P x ops (⟨some d, .binOp .shr T y z ty2,ty,pos,after,none⟩::l) s Q:=
 E5 hd hy hz rfl (fun w=>by
  subst hb
  have hg:(eqGuard .shr T y z (.int k a) (.int k' n)).run P w= .ok () w:=rfl
  simp only[Sem.run_bind,hg,Result.andThen_ok,binOp_shr,shift_shr k k' a n (by omega) (by omega),Int.toNat_natCast,Sem.run_pure]) hk
theorem PW {k k':IntKind} {a b:Int} {n:Nat} (hd:d<s.n) (hy:ev s y=some (.c (.d (.v (.int k a))))) (hz:ev s z=some (.c (.d (.v (.int k' b))))) (hb:b=n) (hn:n≤k.bits)
 (hk:TO P x ops l ⟨s.n,put s.env d (.c (.d (.v (.int k (k.wrap (a*2^n)))))),s.st⟩ Q):TO P x ops (⟨some d, .binOp .shl T y z ty2,ty,pos,after,none⟩::l) s Q:=
 E5 hd hy hz rfl (fun w=>by
  subst hb
  have hg:(eqGuard .shl T y z (.int k a) (.int k' n)).run P w= .ok () w:=rfl
  simp only[Sem.run_bind,hg,Result.andThen_ok,binOp_shl,shift_shl k k' a n (by omega) (by omega),Int.toNat_natCast,Sem.run_pure]) hk
theorem AX {op:BinOp} {k:IntKind} {a b:Int} (hop:op= .and∨op= .or∨op= .xor) (hd:d<s.n) (hy:ev s y=some (.c (.d (.v (.int k a))))) (hz:ev s z=some (.c (.d (.v (.int k b)))))
 (hk:TO P x ops l ⟨s.n,put s.env d (.c (.d (.v (.int k (bits op k a b))))),s.st⟩ Q):TO P x ops (⟨some d, .binOp op T y z ty2,ty,pos,after,none⟩::l) s Q:=
 E5 hd hy hz rfl (fun w=>by
  have hg:(eqGuard op T y z (.int k a) (.int k b)).run P w= .ok () w:=by rcases hop with rfl|rfl|rfl<;>rfl
  simp only[Sem.run_bind,hg,Result.andThen_ok]
  rcases hop with rfl|rfl|rfl<;>simp[binOp,intBits_and,intBits_or,intBits_xor]) hk
theorem Hy {T2:TypeId} {k k0 k':IntKind} {a:Int} (hd:d<s.n) (hy:ev s y=some (.c (.d (.v (.int k' a))))) (h1:P.underlying T=some (.int k0)) (h2:P.underlying T2=some (.int k))
 (hk:TO P x ops l ⟨s.n,put s.env d (.c (.d (.v (.int k (k.wrap a))))),s.st⟩ Q):TO P x ops (⟨some d, .convert T T2 y,ty,pos,after,none⟩::l) s Q:=by
 rintro A w ⟨bl,cap,hs,henv,hdf,hsz⟩
 have e1:A.eval y= .int k' a:=dY (bF henv hy)
 have hrun2:(execOp A.eval ⟨some d, .convert T T2 y,ty,pos,after,none⟩).run P w= .ok (.value (.int k (k.wrap a))) w:=by
  simp only[execOp,e1]
  refine dG ?_
  simp only[convert,Sem.run_bind,run_underlying h1,run_underlying h2,Result.andThen_ok,Conv.intToInt,Sem.run_pure]
 refine wpList_plain rfl fun K hK=>?_
 unfold Oper.wp
 rw[hrun2]
 exact hK _ _ (hk _ _ ⟨bl,cap,hs,henv.put (by rw[hsz];exact hd) (.v _ rfl),by rw[Act.put_defers];exact hdf,by rw[Act.bQ];exact hsz⟩)
theorem Kv {e:TypeId} {t:TI} {ats:Array TypeId} {id sz:Nat} (hd:d<s.n) (hy:ev s y=some (.c (.ms id sz 0 0))) (hz:ev s z=some (.c (.d (.v (.slice none 0 0))))) (ha:ats[0]? =some T) (he:sQ P T=some e) (ht:ti P e=some t)
 (hk:TO P x ops l ⟨s.n,put s.env d (.c (.d (.v (.int .i64 0)))),s.st⟩ Q):TO P x ops (⟨some d, .call {callee:= .builtin .copy,args:= #[y,z],argTypes:=ats},ty,pos,after,none⟩::l) s Q:=by
 rintro A w ⟨bl,cap,hs,henv,hdf,hsz⟩
 have e2:A.eval z= .slice none 0 0:=dY (bF henv hz)
 have h1:=bF henv hy
 obtain⟨hdm,hcap,hh⟩:=h1
 obtain⟨a,cp,e1⟩:∃a cp,A.eval y= .slice a 0 cp:=by
  rcases hh with⟨_,a,h⟩|⟨_,b,_,h⟩
  ·exact⟨a,0,h⟩
  ·exact⟨_,_,h⟩
 have hrun2:(execOp A.eval ⟨some d, .call {callee:= .builtin .copy,args:= #[y,z],argTypes:=ats},ty,pos,after,none⟩).run P w= .ok (.value (.int .i64 0)) w:=by
  simp only[execOp,resolve,Sem.run_bind,Sem.run_pure,Result.andThen_ok,invoke,builtin]
  have e3:Array.map A.eval #[y,z]= #[.slice a 0 cp, .slice none 0 0]:=by simp[e1,e2]
  rw[e3]
  have:(Builtin.copy_ ats ty #[.slice a 0 cp, .slice none 0 0]).run P w= .ok (.int .i64 0) w:=by
   cases a<;>simp[Builtin.copy_,ha,run_underlying (eX he),Builtin.lenOf,aB w ht,Builtin.firstCells,storeCells,goInt]
  rw[this];rfl
 refine wpList_plain rfl fun K hK=>?_
 unfold Oper.wp
 rw[hrun2]
 exact hK _ _ (hk _ _ ⟨bl,cap,hs,henv.put (by rw[hsz];exact hd) (.v _ rfl),by rw[Act.put_defers];exact hdf,by rw[Act.bQ];exact hsz⟩)
@[reducible] def dR (b:UInt8):List D:=[.v (.int .u8 b.toNat)]
@[reducible] def iQ (l:List UInt8):List (List C):=l.map fun b=>[.d (.v (.int .u8 b.toNat))]
omit [Dr] in
theorem uf (k:K):∀l:List UInt8,ai (ah k) (iQ l).flatten (l.map fun b=>Value.int .u8 b.toNat)
 |[]=> .nil
 |b::l=> .cons (.v _ rfl) (uf k l)
theorem Ip {e:TypeId} {t:TI} {T2:TypeId} {id0 n:Nat} {xs:List (List C)} {str:VJ} (hd:d<s.n) (hid:get s.st d=none) (hy:ev s y=some (.c (.ms id0 1 0 n))) (hn:n=xs.length) (hid0:get s.st id0=some (.arr 1 xs)) (hne:id0≠d)
 (hz:ev s z=some (.c (.d (.v (.string str))))) (he:sQ P T=some e) (ht:ti P e=some t) (hts:t.size=1) (htb:t.bytes=1) (h2:P.underlying T2=some .string) (hby:n+str.size≤140737488355328)
 (hk:TO P x ops l ⟨s.n,put s.env d (.c (.ms d 1 0 (n+str.size))),put (put s.st id0 .dead) d (.arr 1 (xs++iQ str.data.toList))⟩ Q):
 TO P x ops (⟨some d, .call {callee:= .builtin .append,args:= #[y,z],argTypes:= #[T,T2]},ty,pos,after,none⟩::l) s Q:=by
 subst hn
 rintro A w ⟨bl,cap,hs,henv,hdf,hsz⟩
 have e2:A.eval z= .string str:=dY (bF henv hz)
 have hlen:(iQ str.data.toList).length=str.size:=by simp[iQ]
 obtain⟨bl',cap',w',u,r1,r2,r3,r4⟩:=Ei (P:=P) (T:=T) (T':=T2) (ty:=ty) (ys:=iQ str.data.toList) (ub:= .string str) (ua:=A.eval y) hs hid (eX he) (.inr h2) ht (by rw[hts];exact hid0) hne (by omega)
  (by rw[htb,hlen];omega) (by intro c hc;simp only[iQ,Uy] at hc;obtain⟨b,_,rfl⟩:=hc;simp[hts])
  (fun w2=>by rw[hlen];rfl) (uf _ _) (fun w2 _=>by
    rw[hlen]
    have e3:str.extract 0 str.size=str:=ByteArray.extract_zero_size
    simp only[Builtin.firstCells,e3,Sem.run_pure]
    congr 1
    apply Array.ext'
    simp) (by rw[hts];exact bF henv hy)
 rw[hts,hlen] at r4
 rw[hts] at r2 r3
 have hrun2:(execOp A.eval ⟨some d, .call {callee:= .builtin .append,args:= #[y,z],argTypes:= #[T,T2]},ty,pos,after,none⟩).run P w= .ok (.value u) w':=by
  simp only[execOp,resolve,Sem.run_bind,Sem.run_pure,Result.andThen_ok,invoke,builtin]
  have e3:Array.map A.eval #[y,z]= #[A.eval y, .string str]:=by simp[e2]
  rw[e3,r1];rfl
 refine wpList_plain rfl fun K hK=>?_
 unfold Oper.wp
 rw[hrun2]
 exact hK _ _ (hk _ _ ⟨bl',cap',r2,(henv.le r3).put (by rw[hsz];exact hd) r4,by rw[Act.put_defers];exact hdf.le r3,by rw[Act.bQ];exact hsz⟩)
end
end Go.Ab
