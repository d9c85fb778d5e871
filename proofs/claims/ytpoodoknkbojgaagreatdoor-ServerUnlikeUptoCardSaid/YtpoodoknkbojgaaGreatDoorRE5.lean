/- A part of the proof. -/
import Derived.Test.YtpoodoknkbojgaaGreatDoorRE4
import Derived.Test.YtpoodoknkbojgaaGreatDoorRP56
set_option maxRecDepth 100000
set_option maxHeartbeats 8000000
set_option linter.all false
namespace Go.Proofs.YtpoodoknkbojgaaGreatDoor
open Go.Ab Tys
variable [Ez]
theorem Pg (p:fJ) (w:Wt):w.2.length≤(wP p w).2.length:=by
 unfold wP
 split
 ·exact KW _ _
 ·exact Ui _
def z117.kk:=p10 kB kG Tryz.ntmps117 jW oV lH Gu qP yJ Tryz.results117
open z117 in
theorem uT (p:fJ) (hp:PS p):EC Tryz.prog 117 [aPat p] (wP p):=by
 have hf:=FT p hp
 have hs:=EH p hp
 have hok:Ef p=decide (ik p=0):=rfl
 have hsz:=fun h1 h2=>jy (p:=p) h1 h2
 refine iI (Pg p) (by intro v hv;rw[Ua] at hv;subst hv;exact lN _) fun w hl=>?_
 unfold wP at hl⊢
 generalize Ef p=op at*
 generalize kC p=sp at*
 generalize ik p=cp at*
 generalize gG p=tx at*
 refine jH Tryz.func117 Tryz.ntmps117 fun x hx=>?_
 refine dH ?_
 (repeat (first|refine nv ?_|refine cf (hf) ?_))
 refine so ([(15,B sp)]) ?_ ?_
 ·exact Pz @hs
 try refine nv ?_
 refine bV ?_ ?_
 ·intro h
  have hno:(op&&sp)=false:=by
   cases op
   ·rfl
   ·cases sp
    ·rfl
    ·have:=UU hok.symm
     simp[this] at h
  rw[hno] at hl⊢
  simp only[Um,if_false] at hl⊢
  try refine nv ?_
  refine⟨⟨24,[],stB 2001 2002 (true,w.2)⟩,?_,?_⟩
  ·refine(iw (bid:=2000) (id:=2001) (id':=2002) (j:=0) (by decide) (by decide) rfl rfl rfl rfl rfl).trans ?_
   refine jF ?_
   exact jG
  refine rV ((stB 2001 2002 (true,w.2))) ?_
  refine⟨?_,rfl⟩
  rfl
 ·intro h
  obtain⟨rfl,rfl⟩:op=true∧sp=true:=by
   by_cases e:cp=0
   ·subst e
    rw[hok]
    refine⟨by simp,?_⟩
    cases sp
    ·simp at h
    ·rfl
   ·simp[e] at h
  simp only[Bool.and_self,if_true] at hl⊢
  try refine nv ?_
  refine gQ ((stA 2001 w)) ((dM tx (Ur (hsz rfl rfl) (by omega))).ac 2001 2002 w (by decide) (by decide) (by decide) hl) ?_
  rintro rv9 st' ⟨rfl,rfl⟩<;>refine gU ?_
  try refine nv ?_
  refine⟨⟨24,[],stB 2001 2002 (wT tx w)⟩,?_,?_⟩
  ·exact jG
  refine rN ((stB 2001 2002 (wT tx w))) ?_
  refine⟨?_,rfl⟩
  rfl
theorem Q9 (p:fJ) (w:Wt):w.2.length≤(wS p w).2.length:=by
 unfold wS
 split
 ·exact KW _ _
 ·exact Pg _ _
def z171.kk:=p13 kB kG Tryz.ntmps171 Tryz.underlying53 jW zB lI uP Gu FQ qP Ej Tryz.results171
open z171 in
theorem Nq (p:fJ) (hp:PS p):EC Tryz.prog 171 [aPat p] (wS p):=by
 have hf:=uT p hp
 refine iI (Q9 p) (by intro v hv;rw[Ua] at hv;subst hv;exact lN _) fun w hl=>?_
 unfold wS at hl⊢
 obtain⟨ps,rs⟩:=p
 simp only at hl⊢
 refine jH Tryz.func171 Tryz.ntmps171 fun x hx=>?_
 refine dH ?_
 try refine nv ?_
 refine bV ?_ ?_
 ·intro h
  have h':ps.length=0∧rs=false:=by
   by_cases e:ps.length=0
   ·refine⟨e,?_⟩
    simp only[e] at h
    cases rs
    ·rfl
    ·simp at h
   ·have e':¬((ps.length:Int)=0):=by omega
    simp only[UW e'] at h;simp at h
  rw[if_pos h'] at hl⊢
  try refine nv ?_
  refine gQ ((stA 2001 w)) ((dM noS (by decide)).ac 2001 2002 w (by decide) (by decide) (by decide) hl) ?_
  rintro rv9 st' ⟨rfl,rfl⟩<;>refine gU ?_
  try refine nv ?_
  refine⟨⟨18,[],stB 2001 2002 (wT noS w)⟩,?_,?_⟩
  ·exact jG
  refine rV ((stB 2001 2002 (wT noS w))) ?_
  refine⟨?_,rfl⟩
  rfl
 ·intro h
  have h':¬(ps.length=0∧rs=false):=by
   rintro⟨e,rfl⟩
   have e':((ps.length:Int)=0):=by omega
   simp only[Vm e'] at h;simp at h
  rw[if_neg h'] at hl⊢
  try refine nv ?_
  refine gQ ((stA 2001 w)) (hf.ac 2001 2002 w (by decide) (by decide) (by decide) hl) ?_
  rintro rv9 st' ⟨rfl,rfl⟩<;>refine gU ?_
  try refine nv ?_
  refine⟨⟨18,[],stB 2001 2002 (wP ⟨ps,rs⟩ w)⟩,?_,?_⟩
  ·exact jG
  refine rN ((stB 2001 2002 (wP ⟨ps,rs⟩ w))) ?_
  refine⟨?_,rfl⟩
  rfl
@[reducible] def SK (e:mg):AV:= .agg [.d (.v (.int .i64 e.base)), .d (.v (.bool e.kw)), .d (.v (.bool e.ex)), .d (.v (.bool e.xe))]
def SH.kk:=p11 kB Tryz.ntmps118 O8 N8 Oe OD Ov ED Gu Ru Tryz.results118
open SH in
theorem Nr (e:mg) (he:ES e):EC Tryz.prog 118 [SK e] (wY e):=by
 have c1:=dJ e.base he.base
 have c2:=qg e.kw
 have c3:=qg e.ex
 have c4:=qg e.xe
 have hmo:∀w,w.2.length≤(wY e w).2.length:=fun w=>by have m1:=c1.mo w;have m2:=c2.mo (wI e.base w);have m3:=c3.mo (wB e.kw (wI e.base w));have m4:=c4.mo (wB e.ex (wB e.kw (wI e.base w)));simp only[wY];omega
 refine iI hmo (by intro v hv;rw[Ua] at hv;subst hv;exact lN [.v (.int .i64 e.base), .v (.bool e.kw), .v (.bool e.ex), .v (.bool e.xe)]) fun w hl=>?_
 have m1:=c1.mo w
 have m2:=c2.mo (wI e.base w)
 have m3:=c3.mo (wB e.kw (wI e.base w))
 have m4:=c4.mo (wB e.ex (wB e.kw (wI e.base w)))
 simp only[wY] at hl⊢
 refine jH Tryz.func118 Tryz.ntmps118 fun x hx=>?_
 refine dH ?_
 try refine nv ?_
 refine gQ ((stA 2001 w)) (c1.ac 2001 2003 w (by decide) (by decide) (by decide) (by omega)) ?_
 rintro rv9 st' ⟨rfl,rfl⟩<;>refine gU ?_
 try refine nv ?_
 refine gQ ((stA 2003 (wI e.base w))) (c2.ac 2003 2004 (wI e.base w) (by decide) (by decide) (by decide) (by omega)) ?_
 rintro rv9 st' ⟨rfl,rfl⟩<;>refine gU ?_
 try refine nv ?_
 refine gQ ((stA 2004 (wB e.kw (wI e.base w)))) (c3.ac 2004 2005 (wB e.kw (wI e.base w)) (by decide) (by decide) (by decide) (by omega)) ?_
 rintro rv9 st' ⟨rfl,rfl⟩<;>refine gU ?_
 try refine nv ?_
 refine gQ ((stA 2005 (wB e.ex (wB e.kw (wI e.base w))))) (c4.ac 2005 2002 (wB e.ex (wB e.kw (wI e.base w))) (by decide) (by decide) (by decide) (by omega)) ?_
 rintro rv9 st' ⟨rfl,rfl⟩<;>refine gU ?_
 try refine nv ?_
 refine⟨⟨20,[],stB 2001 2002 (wB e.xe (wB e.ex (wB e.kw (wI e.base w))))⟩,?_,?_⟩
 ·exact jG
 refine rN ((stB 2001 2002 (wB e.xe (wB e.ex (wB e.kw (wI e.base w)))))) ?_
 refine⟨?_,rfl⟩
 rfl
theorem Rw (v:Int) (hv:aZ .u64 v):EC Tryz.prog 115 [I .u64 v] (wW v):=by
 have h:=nZ v.toNat (by simp only[aZ] at hv;omega)
 rw[show((v.toNat:Nat):Int)=v by simp only[aZ] at hv;omega] at h
 exact h
def z54.kk:=p2 (p11 kB Tryz.ntmps54 O8 Rn Hr OI Oo Gh OV N9 N7) (p11 OA Hf NR OE ED Ru QW Tn NV Ej Tryz.results54)
open z54 in
theorem Ie (e:mg) (he:ES e) (h1:e.path.size≤2000000) (h2:e.frm.size≤2000000):EC Tryz.prog 54 [Tp e] (jJ e):=by
 have c1:=dM e.path h1
 have c2:=dJ e.act he.act
 have c3:=Nr e he
 have c4:=Rw e.sum he.sum
 have c5:=dJ e.size he.size
 have c6:=dJ e.prev he.prev
 have c7:=dM e.frm h2
 have c8:=dJ e.fnum he.fnum
 have c9:=dJ e.fence he.fence
 have hmo:∀w,w.2.length≤(jJ e w).2.length:=fun w=>by have m1:=c1.mo w;have m2:=c2.mo (wT e.path w);have m3:=c3.mo (wI e.act (wT e.path w));have m4:=c4.mo (wY e (wI e.act (wT e.path w)));have m5:=c5.mo (wW e.sum (wY e (wI e.act (wT e.path w))));have m6:=c6.mo (wI e.size (wW e.sum (wY e (wI e.act (wT e.path w)))));have m7:=c7.mo (wI e.prev (wI e.size (wW e.sum (wY e (wI e.act (wT e.path w))))));have m8:=c8.mo (wT e.frm (wI e.prev (wI e.size (wW e.sum (wY e (wI e.act (wT e.path w)))))));have m9:=c9.mo (wI e.fnum (wT e.frm (wI e.prev (wI e.size (wW e.sum (wY e (wI e.act (wT e.path w))))))));simp only[jJ];omega
 refine iI hmo (by intro v hv;rw[Ua] at hv;subst hv;exact lN _) fun w hl=>?_
 have m1:=c1.mo w
 have m2:=c2.mo (wT e.path w)
 have m3:=c3.mo (wI e.act (wT e.path w))
 have m4:=c4.mo (wY e (wI e.act (wT e.path w)))
 have m5:=c5.mo (wW e.sum (wY e (wI e.act (wT e.path w))))
 have m6:=c6.mo (wI e.size (wW e.sum (wY e (wI e.act (wT e.path w)))))
 have m7:=c7.mo (wI e.prev (wI e.size (wW e.sum (wY e (wI e.act (wT e.path w))))))
 have m8:=c8.mo (wT e.frm (wI e.prev (wI e.size (wW e.sum (wY e (wI e.act (wT e.path w)))))))
 have m9:=c9.mo (wI e.fnum (wT e.frm (wI e.prev (wI e.size (wW e.sum (wY e (wI e.act (wT e.path w))))))))
 simp only[jJ] at hl⊢
 refine jH Tryz.func54 Tryz.ntmps54 fun x hx=>?_
 refine dH ?_
 try refine nv ?_
 refine gQ ((stA 2001 w)) (c1.ac 2001 2003 w (by decide) (by decide) (by decide) (by omega)) ?_
 rintro rv9 st' ⟨rfl,rfl⟩<;>refine gU ?_
 try refine nv ?_
 refine gQ ((stA 2003 (wT e.path w))) (c2.ac 2003 2004 (wT e.path w) (by decide) (by decide) (by decide) (by omega)) ?_
 rintro rv9 st' ⟨rfl,rfl⟩<;>refine gU ?_
 try refine nv ?_
 refine gQ ((stA 2004 (wI e.act (wT e.path w)))) (c3.ac 2004 2005 (wI e.act (wT e.path w)) (by decide) (by decide) (by decide) (by omega)) ?_
 rintro rv9 st' ⟨rfl,rfl⟩<;>refine gU ?_
 try refine nv ?_
 refine gQ ((stA 2005 (wY e (wI e.act (wT e.path w))))) (c4.ac 2005 2006 (wY e (wI e.act (wT e.path w))) (by decide) (by decide) (by decide) (by omega)) ?_
 rintro rv9 st' ⟨rfl,rfl⟩<;>refine gU ?_
 try refine nv ?_
 refine gQ ((stA 2006 (wW e.sum (wY e (wI e.act (wT e.path w)))))) (c5.ac 2006 2007 (wW e.sum (wY e (wI e.act (wT e.path w)))) (by decide) (by decide) (by decide) (by omega)) ?_
 rintro rv9 st' ⟨rfl,rfl⟩<;>refine gU ?_
 try refine nv ?_
 refine gQ ((stA 2007 (wI e.size (wW e.sum (wY e (wI e.act (wT e.path w))))))) (c6.ac 2007 2008 (wI e.size (wW e.sum (wY e (wI e.act (wT e.path w))))) (by decide) (by decide) (by decide) (by omega)) ?_
 rintro rv9 st' ⟨rfl,rfl⟩<;>refine gU ?_
 try refine nv ?_
 refine gQ ((stA 2008 (wI e.prev (wI e.size (wW e.sum (wY e (wI e.act (wT e.path w)))))))) (c7.ac 2008 2009 (wI e.prev (wI e.size (wW e.sum (wY e (wI e.act (wT e.path w)))))) (by decide) (by decide) (by decide) (by omega)) ?_
 rintro rv9 st' ⟨rfl,rfl⟩<;>refine gU ?_
 try refine nv ?_
 refine gQ ((stA 2009 (wT e.frm (wI e.prev (wI e.size (wW e.sum (wY e (wI e.act (wT e.path w))))))))) (c8.ac 2009 2010 (wT e.frm (wI e.prev (wI e.size (wW e.sum (wY e (wI e.act (wT e.path w))))))) (by decide) (by decide) (by decide) (by omega)) ?_
 rintro rv9 st' ⟨rfl,rfl⟩<;>refine gU ?_
 try refine nv ?_
 refine gQ ((stA 2010 (wI e.fnum (wT e.frm (wI e.prev (wI e.size (wW e.sum (wY e (wI e.act (wT e.path w)))))))))) (c9.ac 2010 2002 (wI e.fnum (wT e.frm (wI e.prev (wI e.size (wW e.sum (wY e (wI e.act (wT e.path w)))))))) (by decide) (by decide) (by decide) (by omega)) ?_
 rintro rv9 st' ⟨rfl,rfl⟩<;>refine gU ?_
 try refine nv ?_
 refine⟨⟨42,[],stB 2001 2002 (wI e.fence (wI e.fnum (wT e.frm (wI e.prev (wI e.size (wW e.sum (wY e (wI e.act (wT e.path w)))))))))⟩,?_,?_⟩
 ·exact jG
 refine rN ((stB 2001 2002 (wI e.fence (wI e.fnum (wT e.frm (wI e.prev (wI e.size (wW e.sum (wY e (wI e.act (wT e.path w))))))))))) ?_
 refine⟨?_,rfl⟩
 rfl
def z56.kk:=p13 kB Tryz.ntmps56 Gp Hw Nv Ox Hg NP Nc ED NW Ej Tryz.results56
open z56 in
theorem Ha (r:iR) (he:IG r) (h1:r.frm.size≤2000000) (h2:r.to.size≤2000000):EC Tryz.prog 56 [Tt r] (jK r):=by
 have c1:=dM r.frm h1
 have c2:=dJ r.first he.first
 have c3:=dJ r.last he.last
 have c4:=dM r.to h2
 have c5:=dJ r.num he.num
 have c6:=dJ r.how he.how
 have hmo:∀w,w.2.length≤(jK r w).2.length:=fun w=>by have m1:=c1.mo w;have m2:=c2.mo (wT r.frm w);have m3:=c3.mo (wI r.first (wT r.frm w));have m4:=c4.mo (wI r.last (wI r.first (wT r.frm w)));have m5:=c5.mo (wT r.to (wI r.last (wI r.first (wT r.frm w))));have m6:=c6.mo (wI r.num (wT r.to (wI r.last (wI r.first (wT r.frm w)))));simp only[jK];omega
 refine iI hmo (by intro v hv;rw[Ua] at hv;subst hv;exact lN _) fun w hl=>?_
 have m1:=c1.mo w
 have m2:=c2.mo (wT r.frm w)
 have m3:=c3.mo (wI r.first (wT r.frm w))
 have m4:=c4.mo (wI r.last (wI r.first (wT r.frm w)))
 have m5:=c5.mo (wT r.to (wI r.last (wI r.first (wT r.frm w))))
 have m6:=c6.mo (wI r.num (wT r.to (wI r.last (wI r.first (wT r.frm w)))))
 simp only[jK] at hl⊢
 refine jH Tryz.func56 Tryz.ntmps56 fun x hx=>?_
 refine dH ?_
 try refine nv ?_
 refine gQ ((stA 2001 w)) (c1.ac 2001 2003 w (by decide) (by decide) (by decide) (by omega)) ?_
 rintro rv9 st' ⟨rfl,rfl⟩<;>refine gU ?_
 try refine nv ?_
 refine gQ ((stA 2003 (wT r.frm w))) (c2.ac 2003 2004 (wT r.frm w) (by decide) (by decide) (by decide) (by omega)) ?_
 rintro rv9 st' ⟨rfl,rfl⟩<;>refine gU ?_
 try refine nv ?_
 refine gQ ((stA 2004 (wI r.first (wT r.frm w)))) (c3.ac 2004 2005 (wI r.first (wT r.frm w)) (by decide) (by decide) (by decide) (by omega)) ?_
 rintro rv9 st' ⟨rfl,rfl⟩<;>refine gU ?_
 try refine nv ?_
 refine gQ ((stA 2005 (wI r.last (wI r.first (wT r.frm w))))) (c4.ac 2005 2006 (wI r.last (wI r.first (wT r.frm w))) (by decide) (by decide) (by decide) (by omega)) ?_
 rintro rv9 st' ⟨rfl,rfl⟩<;>refine gU ?_
 try refine nv ?_
 refine gQ ((stA 2006 (wT r.to (wI r.last (wI r.first (wT r.frm w)))))) (c5.ac 2006 2007 (wT r.to (wI r.last (wI r.first (wT r.frm w)))) (by decide) (by decide) (by decide) (by omega)) ?_
 rintro rv9 st' ⟨rfl,rfl⟩<;>refine gU ?_
 try refine nv ?_
 refine gQ ((stA 2007 (wI r.num (wT r.to (wI r.last (wI r.first (wT r.frm w))))))) (c6.ac 2007 2002 (wI r.num (wT r.to (wI r.last (wI r.first (wT r.frm w))))) (by decide) (by decide) (by decide) (by omega)) ?_
 rintro rv9 st' ⟨rfl,rfl⟩<;>refine gU ?_
 try refine nv ?_
 refine⟨⟨28,[],stB 2001 2002 (wI r.how (wI r.num (wT r.to (wI r.last (wI r.first (wT r.frm w))))))⟩,?_,?_⟩
 ·exact jG
 refine rN ((stB 2001 2002 (wI r.how (wI r.num (wT r.to (wI r.last (wI r.first (wT r.frm w)))))))) ?_
 refine⟨?_,rfl⟩
 rfl
def z52.kk:=p11 kB Tryz.ntmps52 jW Ii HY Bh Bd Gu qP Oa Tryz.results52
open z52 in
theorem GZ (r:yH) (h1:PS r.left) (h2:PS r.right):EC Tryz.prog 52 [RX r] (jI r):=by
 have c1:=qg r.excl
 have c2:=uT r.left h1
 have c3:=uT r.right h2
 have hmo:∀w,w.2.length≤(jI r w).2.length:=fun w=>by have m1:=c1.mo w;have m2:=c2.mo (wB r.excl w);have m3:=c3.mo (wP r.left (wB r.excl w));simp only[jI];omega
 refine iI hmo (by intro v hv;rw[Ua] at hv;subst hv;exact lN _) fun w hl=>?_
 have m1:=c1.mo w
 have m2:=c2.mo (wB r.excl w)
 have m3:=c3.mo (wP r.left (wB r.excl w))
 simp only[jI] at hl⊢
 refine jH Tryz.func52 Tryz.ntmps52 fun x hx=>?_
 refine dH ?_
 try refine nv ?_
 refine gQ ((stA 2001 w)) (c1.ac 2001 2003 w (by decide) (by decide) (by decide) (by omega)) ?_
 rintro rv9 st' ⟨rfl,rfl⟩<;>refine gU ?_
 try refine nv ?_
 refine gQ ((stA 2003 (wB r.excl w))) (c2.ac 2003 2004 (wB r.excl w) (by decide) (by decide) (by decide) (by omega)) ?_
 rintro rv9 st' ⟨rfl,rfl⟩<;>refine gU ?_
 try refine nv ?_
 refine gQ ((stA 2004 (wP r.left (wB r.excl w)))) (c3.ac 2004 2002 (wP r.left (wB r.excl w)) (by decide) (by decide) (by decide) (by omega)) ?_
 rintro rv9 st' ⟨rfl,rfl⟩<;>refine gU ?_
 try refine nv ?_
 refine⟨⟨16,[],stB 2001 2002 (wP r.right (wP r.left (wB r.excl w)))⟩,?_,?_⟩
 ·exact jG
 refine rN ((stB 2001 2002 (wP r.right (wP r.left (wB r.excl w))))) ?_
 refine⟨?_,rfl⟩
 rfl
def RQ.kk:=p11 kB Tryz.ntmps114 jW H8 G6 AZ AU ED qP Ou Tryz.results114
open RQ in
theorem GH (y:Ey) (hi:aZ .i64 y.kind) (h1:PS y.path) (h2:PS y.frm):EC Tryz.prog 114 [Si y] (iY y):=by
 have c1:=dJ y.kind hi
 have c2:=uT y.path h1
 have c3:=Nq y.frm h2
 have hmo:∀w,w.2.length≤(iY y w).2.length:=fun w=>by have m1:=c1.mo w;have m2:=c2.mo (wI y.kind w);have m3:=c3.mo (wP y.path (wI y.kind w));simp only[iY];omega
 refine iI hmo (by intro v hv;rw[Ua] at hv;subst hv;exact lN _) fun w hl=>?_
 have m1:=c1.mo w
 have m2:=c2.mo (wI y.kind w)
 have m3:=c3.mo (wP y.path (wI y.kind w))
 simp only[iY] at hl⊢
 refine jH Tryz.func114 Tryz.ntmps114 fun x hx=>?_
 refine dH ?_
 try refine nv ?_
 refine gQ ((stA 2001 w)) (c1.ac 2001 2003 w (by decide) (by decide) (by decide) (by omega)) ?_
 rintro rv9 st' ⟨rfl,rfl⟩<;>refine gU ?_
 try refine nv ?_
 refine gQ ((stA 2003 (wI y.kind w))) (c2.ac 2003 2004 (wI y.kind w) (by decide) (by decide) (by decide) (by omega)) ?_
 rintro rv9 st' ⟨rfl,rfl⟩<;>refine gU ?_
 try refine nv ?_
 refine gQ ((stA 2004 (wP y.path (wI y.kind w)))) (c3.ac 2004 2002 (wP y.path (wI y.kind w)) (by decide) (by decide) (by decide) (by omega)) ?_
 rintro rv9 st' ⟨rfl,rfl⟩<;>refine gU ?_
 try refine nv ?_
 refine⟨⟨16,[],stB 2001 2002 (wS y.frm (wP y.path (wI y.kind w)))⟩,?_,?_⟩
 ·exact jG
 refine rN ((stB 2001 2002 (wS y.frm (wP y.path (wI y.kind w))))) ?_
 refine⟨?_,rfl⟩
 rfl
end Go.Proofs.YtpoodoknkbojgaaGreatDoor
