/- A part of the proof. -/
import Derived.Test.YtpoodoknkbojgaaGreatDoorRP55
set_option linter.all false
namespace Go.Proofs.YtpoodoknkbojgaaGreatDoor
open Go.Ab
structure ES (e:mg):Prop where
 act:aZ .i64 e.act
 base:aZ .i64 e.base
 sum:aZ .u64 e.sum
 size:aZ .i64 e.size
 prev:aZ .i64 e.prev
 fnum:aZ .i64 e.fnum
 fence:aZ .i64 e.fence
structure IG (r:iR):Prop where
 first:aZ .i64 r.first
 last:aZ .i64 r.last
 num:aZ .i64 r.num
 how:aZ .i64 r.how
structure uK (c:iH):Prop where
 kind:aZ .i64 c.kind
 number:aZ .i64 c.number
 fence:aZ .i64 c.fence
 ticks:aZ .i64 c.ticks
 paths:∀x∈c.stream.paths,aZ .i64 x.kind
 edits:∀e∈c.edits,ES e
 recs:∀r∈c.recs,IG r
theorem CU:Pre (fun e=>ES e∧yB e.path∧yB e.frm) vP:=fun a b x y ha hb h=>by
 simp only[vP,J5,Uu] at h
 obtain⟨e1,h⟩:=dN _ _ _ _ ha.2.1 hb.2.1 h
 obtain⟨e2,h⟩:=cO _ _ _ _ ha.1.act hb.1.act h
 obtain⟨e3,h⟩:=cO _ _ _ _ ha.1.base hb.1.base h
 obtain⟨e4,h⟩:=oD _ _ _ _ trivial trivial h
 obtain⟨e5,h⟩:=oD _ _ _ _ trivial trivial h
 obtain⟨e6,h⟩:=oD _ _ _ _ trivial trivial h
 obtain⟨e7,h⟩:=LX _ _ _ _ ha.1.sum hb.1.sum h
 obtain⟨e8,h⟩:=cO _ _ _ _ ha.1.size hb.1.size h
 obtain⟨e9,h⟩:=cO _ _ _ _ ha.1.prev hb.1.prev h
 obtain⟨e10,h⟩:=dN _ _ _ _ ha.2.2 hb.2.2 h
 obtain⟨e11,h⟩:=cO _ _ _ _ ha.1.fnum hb.1.fnum h
 obtain⟨e12,h⟩:=cO _ _ _ _ ha.1.fence hb.1.fence h
 refine⟨?_,h⟩
 cases a;cases b;simp_all
theorem Ew:Pre (fun e=>IG e∧yB e.frm∧yB e.to) vJ:=fun a b x y ha hb h=>by
 simp only[vJ,Uu] at h
 obtain⟨e1,h⟩:=dN _ _ _ _ ha.2.1 hb.2.1 h
 obtain⟨e2,h⟩:=cO _ _ _ _ ha.1.first hb.1.first h
 obtain⟨e3,h⟩:=cO _ _ _ _ ha.1.last hb.1.last h
 obtain⟨e4,h⟩:=dN _ _ _ _ ha.2.2 hb.2.2 h
 obtain⟨e5,h⟩:=cO _ _ _ _ ha.1.num hb.1.num h
 obtain⟨e6,h⟩:=cO _ _ _ _ ha.1.how hb.1.how h
 refine⟨?_,h⟩
 cases a;cases b;simp_all
theorem sD:Pre uH Ag:=fun a b x y ha hb h=>by
 obtain⟨e1,h⟩:=dN _ _ _ _ (jy ha.1 ha.2) (jy hb.1 hb.2) h
 exact⟨zM ha.1 hb.1 e1,h⟩
theorem zg {p:fJ} (h:Ff p):mi p=fO (if p=lQ then noS else gG p):=by
 unfold mi
 by_cases h0:p=lQ
 ·rw[if_pos (qO.2 h0),if_pos h0]
 ·rw[if_neg fun h=>h0 (qO.1 h),if_neg h0];rfl
theorem zA {p:fJ} (h:Ef p=true):gG p≠noS:=by
 intro e
 have p0:p.parts≠[]:=by obtain⟨h1,_⟩:=oI.1 h;intro e;rw[e] at h1;simp at h1
 have:=jS p0
 rw[e] at this
 cases this
theorem IJ:Pre Ff mi:=fun a b x y ha hb h=>by
 have sz:∀{p:fJ},Ff p→(if p=lQ then noS else gG p).size≤1024:=by
  intro p hp
  split
  ·simp[noS];decide
  ·rename_i h0
   rcases hp with hp|hp
   ·exact absurd hp h0
   ·exact jy hp.1 hp.2
 rw[zg ha,zg hb] at h
 obtain⟨e1,h⟩:=dN _ _ _ _ (sz ha) (sz hb) h
 refine⟨?_,h⟩
 by_cases a0:a=lQ<;>by_cases b0:b=lQ
 ·rw[a0,b0]
 ·rw[if_pos a0,if_neg b0] at e1
  rcases hb with hb|hb
  ·exact absurd hb b0
  ·exact absurd e1.symm (zA hb.1)
 ·rw[if_neg a0,if_pos b0] at e1
  rcases ha with ha|ha
  ·exact absurd ha a0
  ·exact absurd e1 (zA ha.1)
 ·rw[if_neg a0,if_neg b0] at e1
  exact zM (ha.resolve_left a0).1 (hb.resolve_left b0).1 e1
theorem Em:Pre (fun e=>uH e.left∧uH e.right) uQ:=fun a b x y ha hb h=>by
 simp only[uQ,Uu] at h
 obtain⟨e1,h⟩:=oD _ _ _ _ trivial trivial h
 obtain⟨e2,h⟩:=sD _ _ _ _ ha.1 hb.1 h
 obtain⟨e3,h⟩:=sD _ _ _ _ ha.2 hb.2 h
 refine⟨?_,h⟩
 cases a;cases b;simp_all
theorem D5:Pre (fun e=>aZ .i64 e.kind∧uH e.path∧Ff e.frm) vC:=fun a b x y ha hb h=>by
 simp only[vC,Uu] at h
 obtain⟨e1,h⟩:=cO _ _ _ _ ha.1 hb.1 h
 obtain⟨e2,h⟩:=sD _ _ _ _ ha.2.1 hb.2.1 h
 obtain⟨e3,h⟩:=IJ _ _ _ _ ha.2.2 hb.2.2 h
 refine⟨?_,h⟩
 cases a;cases b;simp_all
theorem Eg:Pre (fun s=>(∀x∈s.paths,aZ .i64 x.kind)∧GK s) vM:=fun a b x y ha hb h=>by
 simp only[vM,Uu] at h
 obtain⟨e1,h⟩:=dN _ _ _ _ ha.2.1 hb.2.1 h
 obtain⟨e2,h⟩:=dN _ _ _ _ ha.2.2.1 hb.2.2.1 h
 obtain⟨e3,h⟩:=qm D5 12 (by omega) _ _ _ _ ⟨ha.2.2.2.1,fun z hz=>⟨ha.1 z hz,ha.2.2.2.2 z hz⟩⟩ ⟨hb.2.2.2.1,fun z hz=>⟨hb.1 z hz,hb.2.2.2.2 z hz⟩⟩ h
 refine⟨?_,h⟩
 cases a;cases b;simp_all
def eqF:Nat→iH→iH→Prop
 |0,c,d=>c.client=d.client
 |1,c,d=>c.name=d.name
 |2,c,d=>c.path=d.path
 |3,c,d=>c.number=d.number
 |4,c,d=>c.fence=d.fence
 |5,c,d=>c.ticks=d.ticks
 |6,c,d=>c.text=d.text
 |7,c,d=>c.stream=d.stream
 |8,c,d=>c.rules=d.rules
 |9,c,d=>c.edits=d.edits
 |10,c,d=>c.recs=d.recs
 |_,_,_=>True
theorem IR {c d:iH} (hc:uK c) (hd:uK d) {x y:List UInt8}:∀f,okF f c→okF f d→codeF f c++x=codeF f d++y→eqF f c d∧x=y
 |0,h1,h2,h=>dN _ _ _ _ h1 h2 h
 |1,h1,h2,h=>dN _ _ _ _ h1 h2 h
 |2,h1,h2,h=>dN _ _ _ _ h1 h2 h
 |3,_,_,h=>cO _ _ _ _ hc.number hd.number h
 |4,_,_,h=>cO _ _ _ _ hc.fence hd.fence h
 |5,_,_,h=>cO _ _ _ _ hc.ticks hd.ticks h
 |6,h1,h2,h=>dN _ _ _ _ h1 h2 h
 |7,h1,h2,h=>Eg _ _ _ _ ⟨hc.paths,h1⟩ ⟨hd.paths,h2⟩ h
 |8,h1,h2,h=>qm Em 16 (by omega) _ _ _ _ h1 h2 h
 |9,h1,h2,h=>qm CU 64 (by omega) _ _ _ _ ⟨h1.1,fun z hz=>⟨hc.edits z hz,h1.2 z hz⟩⟩ ⟨h2.1,fun z hz=>⟨hd.edits z hz,h2.2 z hz⟩⟩ h
 |10,h1,h2,h=>qm Ew 64 (by omega) _ _ _ _ ⟨h1.1,fun z hz=>⟨hc.recs z hz,h1.2 z hz⟩⟩ ⟨h2.1,fun z hz=>⟨hd.recs z hz,h2.2 z hz⟩⟩ h
 |n+11,_,_,h=>⟨trivial,by simpa[codeF] using h⟩
theorem xX {c d:iH} (hc:uK c) (hd:uK d) {x y:List UInt8}:∀fs,(∀f∈fs,okF f c)→(∀f∈fs,okF f d)→jr fs c++x=jr fs d++y→(∀f∈fs,eqF f c d)∧x=y
 |[],_,_,h=>⟨fun f hf=>(by cases hf),by simpa[jr] using h⟩
 |f::fs,h1,h2,h=>by
  simp only[jr,List.flatMap_cons,Uu] at h
  obtain⟨e1,h⟩:=IR hc hd f (h1 f (by simp)) (h2 f (by simp)) h
  obtain⟨e2,h⟩:=xX hc hd fs (fun g hg=>h1 g (by simp[hg])) (fun g hg=>h2 g (by simp[hg])) h
  refine⟨fun g hg=>?_,h⟩
  rcases TS.1 hg with rfl|hg
  ·exact e1
  ·exact e2 g hg
theorem yU {c d:iH}:∀fs,(∀f∈fs,eqF f c d)→jr fs c=jr fs d
 |[],_=>rfl
 |f::fs,h=>by
  have e1:=h f (by simp)
  have e2:=yU fs fun g hg=>h g (by simp[hg])
  unfold jr at e2⊢
  rw[List.flatMap_cons,List.flatMap_cons,e2]
  congr 1
  revert e1
  rcases f with _|_|_|_|_|_|_|_|_|_|_|f<;>intro e1<;>simp only[eqF] at e1<;>simp only[codeF]<;>rw[e1]
def dm (c:iH):iH:=
 if c.kind=1 then {dF with kind:=c.kind,stream:=c.stream}
 else if c.kind=12 then {dF with kind:=c.kind,path:=c.path}
 else if c.kind=13 then {dF with kind:=c.kind,ticks:=c.ticks}
 else if c.kind=2 then {dF with kind:=c.kind,client:=c.client,name:=c.name,rules:=c.rules}
 else if c.kind=3 then {dF with kind:=c.kind,client:=c.client,text:=c.text}
 else if c.kind=4 then {dF with kind:=c.kind,client:=c.client,number:=c.number,edits:=c.edits,recs:=c.recs}
 else if c.kind=5∨c.kind=14∨c.kind=7∨c.kind=8 then {dF with kind:=c.kind,client:=c.client,number:=c.number}
 else if c.kind=6 then {dF with kind:=c.kind,client:=c.client,number:=c.number,name:=c.name}
 else if c.kind=9 then {dF with kind:=c.kind,client:=c.client,path:=c.path,ticks:=c.ticks}
 else if c.kind=10 then {dF with kind:=c.kind,client:=c.client,path:=c.path,fence:=c.fence,ticks:=c.ticks}
 else if c.kind=11 then {dF with kind:=c.kind,client:=c.client,path:=c.path,fence:=c.fence}
 else {dF with kind:=c.kind,client:=c.client}
theorem DV {k:Int} {fs:List Nat} (h:uq k=some fs):(k,fs)∈Hz:=by
 unfold uq at h
 obtain⟨e,he,rfl⟩:=Ud.1 h
 have:=List.find?_some he
 have hm:=List.mem_of_find?_eq_some he
 simp only[TW] at this
 subst this
 exact hm
theorem xw (c:iH):(dm c).kind=c.kind:=by
 unfold dm
 simp only[apply_ite iH.kind,ite_self]
theorem Dk {c d:iH} {fs:List Nat} (hk:uq c.kind=some fs) (he:c.kind=d.kind):dm c=dm d↔∀f∈fs,eqF f c d:=by
 have hm:=DV hk
 unfold dm
 rw[←he]
 simp only[Hz,TS,UT,TV,Uk] at hm
 rcases hm with⟨h,rfl⟩|⟨h,rfl⟩|⟨h,rfl⟩|⟨h,rfl⟩|⟨h,rfl⟩|⟨h,rfl⟩|⟨h,rfl⟩|⟨h,rfl⟩|⟨h,rfl⟩|⟨h,rfl⟩|⟨h,rfl⟩|⟨h,rfl⟩|⟨h,rfl⟩|⟨h,rfl⟩<;>
  simp[h,eqF,dF,and_assoc,and_comm,and_left_comm]
theorem PU {c d:iH} (hc:uK c) (hd:uK d) {x y:List UInt8} (ex:Ba c=some x) (ey:Ba d=some y):x=y↔dm c=dm d:=by
 obtain⟨fs,k1,o1,rfl⟩:=zD.1 ex
 obtain⟨gs,k2,o2,rfl⟩:=zD.1 ey
 constructor
 ·intro h
  obtain⟨e1,h⟩:=cO _ _ _ _ hc.kind hd.kind h
  rw[←e1,k1] at k2
  cases k2
  rw[Dk k1 e1]
  exact(xX hc hd (x:=[]) (y:=[]) fs o1 o2 (by simpa using h)).1
 ·intro h
  have e1:c.kind=d.kind:=by rw[←xw c,h,xw]
  have e2:=(Dk k1 e1).1 h
  rw[←e1,k1] at k2
  cases k2
  rw[yU fs e2,e1]
end Go.Proofs.YtpoodoknkbojgaaGreatDoor
