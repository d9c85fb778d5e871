/- A part of the proof. -/
import Derived.Test.YtpoodoknkbojgaaGreatDoorRAbEr
set_option linter.all false
namespace Go.Proofs.YtpoodoknkbojgaaGreatDoor
open Go.Ab
structure SS where
 car:yG→Prop
 con:yG→Prop
 cre:yG→Prop
theorem xx {d:eQ} (hg:Good d.revs) {p:VJ} {n:Int} {w:Rev}:uN d p n=some w↔∃j:Nat,d.revs[j]? =some w∧fileOf w=⟨p,n⟩:=by
 constructor
 ·intro h
  obtain⟨h1,h2,h3⟩:=qN h
  obtain⟨j,hj⟩:=UO h1
  exact⟨j,hj,by simp[fileOf,h2,h3]⟩
 ·rintro⟨j,hj,he⟩
  simp only[fileOf,yG.mk.injEq] at he
  cases h:uN d p n with
  |none=>
   exfalso
   have:=List.find?_eq_none.1 h w (by simp only[log,UD];exact⟨TZ hj,by simp[he.1]⟩)
   simp[he.2] at this
  |some u=>
   obtain⟨h1,h2,h3⟩:=qN h
   obtain⟨i,hi⟩:=UO h1
   have:=su hg hi hj (by simp[fileOf,h2,h3,he.1,he.2])
   subst this;rw[hi] at hj;exact hj
theorem Qx {d:eQ} {v:Rev} (h1:v.act=1):uu d v=none:=by simp[uu,h1]
theorem QC {d:eQ} (hg:Good d.revs) (hN:d.revs.length≤512) {k:Nat} {v:Rev} (hv:d.revs[k]? =some v) (h1:¬v.act=1):uu d v=uN d (nG v).path (nG v).num:=by
 have hn:=hg.num k v hv
 have hk:=(Ue.1 hv).1
 unfold uu nG
 rw[if_neg h1,if_neg h1]
 split
 ·rfl
 ·rw[LV (by omega) (by omega)]
section
variable {d:eQ} (hg:Good d.revs) (hN:d.revs.length≤512) {L:Rz} {me:List (Int×List Int)} (hI:EK d d.revs.length L me)
include hg hN hI
end
def kH:List UInt8→List (List UInt8)
 |[]=>[[]]
 |a::l=>if a=47 then []::kH l else match kH l with|[]=>[[a]]|h::t=>(a::h)::t
theorem zN:∀{pre:List UInt8},(∀x∈pre,x≠47)→kH pre=[pre]
 |[],_=>rfl
 |a::l,h=>by
  rw[kH,if_neg (h a (by simp)),zN fun x hx=>h x (by simp[hx])]
theorem wX:∀{pre post:List UInt8},(∀x∈pre,x≠47)→kH (pre++47::post)=pre::kH post
 |[],_,_=>by simp[kH]
 |a::l,post,h=>by
  rw[List.cons_append,kH,if_neg (h a (by simp)),wX fun x hx=>h x (by simp[hx])]
theorem pO {p:VJ} {k:Nat} (hk:k<p.size):∃x,p.data.toList[k]? =some x∧byteAt p k=(x.toNat:Int):=by
 have h:k<p.data.size:=hk
 exact⟨p.data[k],by simp[h],by simp[byteAt,Array.getD,h,hk]⟩
theorem zZ {p:VJ} {k:Nat} {x:UInt8} (hx:p.data.toList[k]? =some x):byteAt p k=47↔x=47:=by
 have hk:k<p.size:=by have:=(Ue.1 hx).1;simpa using this
 obtain⟨y,h1,h2⟩:=pO hk
 rw[hx] at h1;cases h1
 rw[h2]
 constructor
 ·intro h;exact UInt8.toNat_inj.1 (by simpa using(by omega:x.toNat=47))
 ·rintro rfl;rfl
end Go.Proofs.YtpoodoknkbojgaaGreatDoor
