/- A part of the proof. -/
import Derived.Test.YtpoodoknkbojgaaGreatDoorRC3s
import Derived.Test.YtpoodoknkbojgaaGreatDoorRE12
set_option linter.all false
namespace Go.Proofs.YtpoodoknkbojgaaGreatDoor
open Go.Ab Go.ChangeShapes Go.WideShapes Go.ChangeAt Go.RowKit
theorem Qs {k:IntKind} {n:Int} (h:(Lit.int k n).wf=true):aZ k n:=by
 cases k<;>simp[Lit.wf,aZ,IntKind.min,IntKind.max,IntKind.signed,IntKind.bits] at h⊢ <;>omega
theorem dA {H:Type} {enc:TypeId×Value→H} {w:World} {t:TypeId} {k:IntKind} (hu:Tryz.prog.underlying t=some (.int k)) {fuel:Nat} {cs:List Value} {d:DataW H} {p:List MemPlace} (h:tr enc w fuel t cs=some (d,p)):∃n:Int,cs=[.int k n]∧aZ k n:=by
 cases fuel with
 |zero=>simp[tr,DataW.trod] at h
 |succ fuel=>
  rcases cs with _|⟨c,_|⟨c2,cs⟩⟩
  ·simp[tr,DataW.trod,hu] at h
  ·cases c<;>simp[tr,DataW.trod,hu] at h
   obtain⟨⟨rfl,hw⟩,_⟩:=h
   exact⟨_,rfl,Qs hw⟩
  ·simp[tr,DataW.trod,hu] at h
theorem oq {H:Type} {enc:TypeId×Value→H} {w:World} {α:Type} {e:α→List D} {m:α→Nat} {I:α→Prop} {sz:Nat} {t E:TypeId} (hu:Tryz.prog.underlying t=some (.slice E)) (hsz:Tryz.prog.cellsOf E=sz) (h0:0<sz)
 (he:∀(fuel:Nat) (cs:List Value) (d:DataW H) (p:List MemPlace),tr enc w fuel E cs=some (d,p)→∃x:α,ai (aP rU w) (e x) cs∧m x≤Rows.uptoBulk d∧I x)
 {fuel:Nat} {cs:List Value} {d:DataW H} {p:List MemPlace} (h:tr enc w fuel t cs=some (d,p)):∃(l:List α) (v:Value),cs=[v]∧aP rU w (.ps sz (l.map e)) v∧(l.map m).sum+1≤Rows.uptoBulk d∧∀x∈l,I x:=by
 obtain⟨l,v,h1,h2,h3⟩:=D9 (α:={x // I x}) (e:=fun x=>e x.1) (m:=fun x=>m x.1) hu hsz h0 (fun f c d p h=>by
  obtain⟨x,a,b,i⟩:=he f c d p h
  exact⟨⟨x,i⟩,a,b⟩) h
 refine⟨l.map (·.1),v,h1,?_,?_,?_⟩
 ·rw[Vj];exact h2
 ·rw[Vj];exact h3
 ·intro x hx
  obtain⟨y,_,rfl⟩:=Uy.1 hx
  exact y.2
def mT (x:Ey):Nat:=max (mP x.path) (mP x.frm)
def mU (x:yH):Nat:=max (mP x.left) (mP x.right)
def TM (s:Ah):Prop:=s.name.size≤2000000∧s.parent.size≤2000000∧s.paths.length≤2000000∧∀x∈s.paths,PB 2000000 x.path∧PB 2000000 x.frm
theorem G8 {n:Nat} {p:fJ} (h:mP p≤n):PB n p:=by
 unfold mP at h
 refine⟨?_,fun s hs=>?_⟩
 ·have:=oz (m:=mS) (fun x=>by simp[mS]) p.parts;omega
 ·have:=sF (m:=mS) hs;simp only[mS] at this h;omega
theorem KL {l:List Ey} (h:(l.map mT).sum≤1048576):l.length≤2000000∧∀x∈l,PB 2000000 x.path∧PB 2000000 x.frm:=by
 refine⟨?_,fun x hx=>?_⟩
 ·have:=oz (m:=mT) (fun x=>by simp only[mT,mP];omega) l;omega
 ·have h1:=Ur (sF (m:=mT) hx) h
  simp only[mT] at h1
  exact⟨G8 (by omega),G8 (by omega)⟩
theorem JD {l:List yH} (h:(l.map mU).sum≤1048576):l.length≤2000000∧∀x∈l,PB 2000000 x.left∧PB 2000000 x.right:=by
 refine⟨?_,fun x hx=>?_⟩
 ·have:=oz (m:=mU) (fun x=>by simp only[mU,mP];omega) l;omega
 ·have h1:=Ur (sF (m:=mU) hx) h
  simp only[mU] at h1
  exact⟨G8 (by omega),G8 (by omega)⟩
theorem MC {l:List mg} (h:(l.map mE).sum≤1048576):l.length≤2000000∧∀e∈l,e.path.size≤2000000∧e.frm.size≤2000000:=by
 refine⟨?_,fun x hx=>?_⟩
 ·have:=oz (m:=mE) (fun x=>by simp[mE]) l;omega
 ·have h1:=Ur (sF (m:=mE) hx) h
  simp only[mE] at h1;omega
theorem NI {l:List iR} (h:(l.map mR).sum≤1048576):l.length≤2000000∧∀e∈l,e.frm.size≤2000000∧e.to.size≤2000000:=by
 refine⟨?_,fun x hx=>?_⟩
 ·have:=oz (m:=mR) (fun x=>by simp[mR]) l;omega
 ·have h1:=Ur (sF (m:=mR) hx) h
  simp only[mR] at h1;omega
theorem NJ {H:Type} {enc:TypeId×Value→H} {w:World} {fuel:Nat} {cs:List Value} {d:DataW H} {p:List MemPlace} (h:tr enc w fuel 44 cs=some (d,p)):∃(a:Int) (b c e:Bool),cs=[.int .i64 a, .bool b, .bool c, .bool e]∧aZ .i64 a:=by
 obtain⟨hl,f,xs,hm,rfl⟩:=eG Tryz.underlying44 h
 rw[show Tryz.prog.cellsOf 44=4 by kernel_rfl] at hl
 obtain⟨c0,c1,c2,c3,rfl⟩:∃c0 c1 c2 c3,cs=[c0,c1,c2,c3]:=by
  rcases cs with _|⟨a0,_|⟨a1,_|⟨a2,_|⟨a3,_|⟨az,cs⟩⟩⟩⟩⟩
  all_goals simp at hl
  exact⟨_,_,_,_,rfl⟩
 obtain⟨_,hg⟩:=dW hm
 obtain⟨b0,g0,e0⟩:=hg 0 _ rfl
 rw[show(([c0,c1,c2,c3]:List Value).drop 0).take (Tryz.prog.cellsOf 3)=[c0] by rw[show Tryz.prog.cellsOf 3=1 by kernel_rfl];rfl] at e0
 obtain⟨b1,g1,e1⟩:=hg 1 _ rfl
 rw[show(([c0,c1,c2,c3]:List Value).drop 1).take (Tryz.prog.cellsOf 4)=[c1] by rw[show Tryz.prog.cellsOf 4=1 by kernel_rfl];rfl] at e1
 obtain⟨b2,g2,e2⟩:=hg 2 _ rfl
 rw[show(([c0,c1,c2,c3]:List Value).drop 2).take (Tryz.prog.cellsOf 4)=[c2] by rw[show Tryz.prog.cellsOf 4=1 by kernel_rfl];rfl] at e2
 obtain⟨b3,g3,e3⟩:=hg 3 _ rfl
 rw[show(([c0,c1,c2,c3]:List Value).drop 3).take (Tryz.prog.cellsOf 4)=[c3] by rw[show Tryz.prog.cellsOf 4=1 by kernel_rfl];rfl] at e3
 obtain⟨a,h0,i0⟩:=dA Tryz.underlying3 e0
 simp only[TY,Ug] at h0;subst h0
 obtain⟨b,h1⟩:=qj Tryz.underlying4 e1
 simp only[TY,Ug] at h1;subst h1
 obtain⟨c,h2⟩:=qj Tryz.underlying4 e2
 simp only[TY,Ug] at h2;subst h2
 obtain⟨e,h3⟩:=qj Tryz.underlying4 e3
 simp only[TY,Ug] at h3;subst h3
 exact⟨a,b,c,e,rfl,i0⟩
theorem NS {H:Type} {enc:TypeId×Value→H} {w:World} {fuel:Nat} {cs:List Value} {d:DataW H} {p:List MemPlace} (h:tr enc w fuel 47 cs=some (d,p)):∃(a b:Int),cs=[.int .u64 a, .int .i64 b]∧aZ .u64 a∧aZ .i64 b:=by
 obtain⟨hl,f,xs,hm,rfl⟩:=eG Tryz.underlying47 h
 rw[show Tryz.prog.cellsOf 47=2 by kernel_rfl] at hl
 obtain⟨c0,c1,rfl⟩:∃c0 c1,cs=[c0,c1]:=by
  rcases cs with _|⟨a0,_|⟨a1,_|⟨az,cs⟩⟩⟩
  all_goals simp at hl
  exact⟨_,_,rfl⟩
 obtain⟨_,hg⟩:=dW hm
 obtain⟨b0,g0,e0⟩:=hg 0 _ rfl
 rw[show(([c0,c1]:List Value).drop 0).take (Tryz.prog.cellsOf 45)=[c0] by rw[show Tryz.prog.cellsOf 45=1 by kernel_rfl];rfl] at e0
 obtain⟨b1,g1,e1⟩:=hg 1 _ rfl
 rw[show(([c0,c1]:List Value).drop 1).take (Tryz.prog.cellsOf 3)=[c1] by rw[show Tryz.prog.cellsOf 3=1 by kernel_rfl];rfl] at e1
 obtain⟨a,h0,i0⟩:=dA Tryz.underlying45 e0
 simp only[TY,Ug] at h0;subst h0
 obtain⟨b,h1,i1⟩:=dA Tryz.underlying3 e1
 simp only[TY,Ug] at h1;subst h1
 exact⟨a,b,rfl,i0,i1⟩
theorem OB {H:Type} {enc:TypeId×Value→H} {w:World} {fuel:Nat} {cs:List Value} {d:DataW H} {p:List MemPlace} (h:tr enc w fuel 51 cs=some (d,p)):∃x:iR,ai (aP rU w) (dX x) cs∧mR x≤Rows.uptoBulk d∧IG x:=by
 obtain⟨hl,f,xs,hm,rfl⟩:=eG Tryz.underlying51 h
 rw[show Tryz.prog.cellsOf 51=6 by kernel_rfl] at hl
 obtain⟨c0,c1,c2,c3,c4,c5,rfl⟩:∃c0 c1 c2 c3 c4 c5,cs=[c0,c1,c2,c3,c4,c5]:=by
  rcases cs with _|⟨a0,_|⟨a1,_|⟨a2,_|⟨a3,_|⟨a4,_|⟨a5,_|⟨az,cs⟩⟩⟩⟩⟩⟩⟩
  all_goals simp at hl
  exact⟨_,_,_,_,_,_,rfl⟩
 obtain⟨_,hg⟩:=dW hm
 obtain⟨b0,g0,e0⟩:=hg 0 _ rfl
 rw[show(([c0,c1,c2,c3,c4,c5]:List Value).drop 0).take (Tryz.prog.cellsOf 9)=[c0] by rw[show Tryz.prog.cellsOf 9=1 by kernel_rfl];rfl] at e0
 obtain⟨b1,g1,e1⟩:=hg 1 _ rfl
 rw[show(([c0,c1,c2,c3,c4,c5]:List Value).drop 1).take (Tryz.prog.cellsOf 3)=[c1] by rw[show Tryz.prog.cellsOf 3=1 by kernel_rfl];rfl] at e1
 obtain⟨b2,g2,e2⟩:=hg 2 _ rfl
 rw[show(([c0,c1,c2,c3,c4,c5]:List Value).drop 2).take (Tryz.prog.cellsOf 3)=[c2] by rw[show Tryz.prog.cellsOf 3=1 by kernel_rfl];rfl] at e2
 obtain⟨b3,g3,e3⟩:=hg 3 _ rfl
 rw[show(([c0,c1,c2,c3,c4,c5]:List Value).drop 3).take (Tryz.prog.cellsOf 9)=[c3] by rw[show Tryz.prog.cellsOf 9=1 by kernel_rfl];rfl] at e3
 obtain⟨b4,g4,e4⟩:=hg 4 _ rfl
 rw[show(([c0,c1,c2,c3,c4,c5]:List Value).drop 4).take (Tryz.prog.cellsOf 3)=[c4] by rw[show Tryz.prog.cellsOf 3=1 by kernel_rfl];rfl] at e4
 obtain⟨b5,g5,e5⟩:=hg 5 _ rfl
 rw[show(([c0,c1,c2,c3,c4,c5]:List Value).drop 5).take (Tryz.prog.cellsOf 3)=[c5] by rw[show Tryz.prog.cellsOf 3=1 by kernel_rfl];rfl] at e5
 obtain⟨s,h0,q0⟩:=jm Tryz.underlying9 e0
 simp only[TY,Ug] at h0;subst h0
 have r0:=aW g0
 obtain⟨n1,h1,i1⟩:=dA Tryz.underlying3 e1
 simp only[TY,Ug] at h1;subst h1
 obtain⟨n2,h2,i2⟩:=dA Tryz.underlying3 e2
 simp only[TY,Ug] at h2;subst h2
 obtain⟨t,h3,q3⟩:=jm Tryz.underlying9 e3
 simp only[TY,Ug] at h3;subst h3
 have r3:=aW g3
 obtain⟨n3,h4,i4⟩:=dA Tryz.underlying3 e4
 simp only[TY,Ug] at h4;subst h4
 obtain⟨n4,h5,i5⟩:=dA Tryz.underlying3 e5
 simp only[TY,Ug] at h5;subst h5
 have r9:=Am (by omega:0<3) g0 g3
 exact⟨⟨s,n1,n2,t,n3,n4⟩, .cons (.v _ rfl) (.cons (.v _ rfl) (.cons (.v _ rfl) (.cons (.v _ rfl) (.cons (.v _ rfl) (.cons (.v _ rfl) (.nil)))))),by simp only[Rows.uptoBulk,mR];omega,by constructor<;>assumption⟩
theorem NQ {H:Type} {enc:TypeId×Value→H} {w:World} {fuel:Nat} {cs:List Value} {d:DataW H} {p:List MemPlace} (h:tr enc w fuel 49 cs=some (d,p)):∃x:mg,ai (aP rU w) (fK x) cs∧mE x≤Rows.uptoBulk d∧ES x:=by
 obtain⟨hl,f,xs,hm,rfl⟩:=eG Tryz.underlying49 h
 rw[show Tryz.prog.cellsOf 49=12 by kernel_rfl] at hl
 obtain⟨c0,c1,c2,c3,c4,c5,c6,c7,c8,c9,c10,c11,rfl⟩:∃c0 c1 c2 c3 c4 c5 c6 c7 c8 c9 c10 c11,cs=[c0,c1,c2,c3,c4,c5,c6,c7,c8,c9,c10,c11]:=by
  rcases cs with _|⟨a0,_|⟨a1,_|⟨a2,_|⟨a3,_|⟨a4,_|⟨a5,_|⟨a6,_|⟨a7,_|⟨a8,_|⟨a9,_|⟨a10,_|⟨a11,_|⟨az,cs⟩⟩⟩⟩⟩⟩⟩⟩⟩⟩⟩⟩⟩
  all_goals simp at hl
  exact⟨_,_,_,_,_,_,_,_,_,_,_,_,rfl⟩
 obtain⟨_,hg⟩:=dW hm
 obtain⟨b0,g0,e0⟩:=hg 0 _ rfl
 rw[show(([c0,c1,c2,c3,c4,c5,c6,c7,c8,c9,c10,c11]:List Value).drop 0).take (Tryz.prog.cellsOf 9)=[c0] by rw[show Tryz.prog.cellsOf 9=1 by kernel_rfl];rfl] at e0
 obtain⟨b1,g1,e1⟩:=hg 1 _ rfl
 rw[show(([c0,c1,c2,c3,c4,c5,c6,c7,c8,c9,c10,c11]:List Value).drop 1).take (Tryz.prog.cellsOf 3)=[c1] by rw[show Tryz.prog.cellsOf 3=1 by kernel_rfl];rfl] at e1
 obtain⟨b2,g2,e2⟩:=hg 2 _ rfl
 rw[show(([c0,c1,c2,c3,c4,c5,c6,c7,c8,c9,c10,c11]:List Value).drop 2).take (Tryz.prog.cellsOf 44)=[c2,c3,c4,c5] by rw[show Tryz.prog.cellsOf 44=4 by kernel_rfl];rfl] at e2
 obtain⟨b3,g3,e3⟩:=hg 3 _ rfl
 rw[show(([c0,c1,c2,c3,c4,c5,c6,c7,c8,c9,c10,c11]:List Value).drop 6).take (Tryz.prog.cellsOf 47)=[c6,c7] by rw[show Tryz.prog.cellsOf 47=2 by kernel_rfl];rfl] at e3
 obtain⟨b4,g4,e4⟩:=hg 4 _ rfl
 rw[show(([c0,c1,c2,c3,c4,c5,c6,c7,c8,c9,c10,c11]:List Value).drop 8).take (Tryz.prog.cellsOf 3)=[c8] by rw[show Tryz.prog.cellsOf 3=1 by kernel_rfl];rfl] at e4
 obtain⟨b5,g5,e5⟩:=hg 5 _ rfl
 rw[show(([c0,c1,c2,c3,c4,c5,c6,c7,c8,c9,c10,c11]:List Value).drop 9).take (Tryz.prog.cellsOf 9)=[c9] by rw[show Tryz.prog.cellsOf 9=1 by kernel_rfl];rfl] at e5
 obtain⟨b6,g6,e6⟩:=hg 6 _ rfl
 rw[show(([c0,c1,c2,c3,c4,c5,c6,c7,c8,c9,c10,c11]:List Value).drop 10).take (Tryz.prog.cellsOf 3)=[c10] by rw[show Tryz.prog.cellsOf 3=1 by kernel_rfl];rfl] at e6
 obtain⟨b7,g7,e7⟩:=hg 7 _ rfl
 rw[show(([c0,c1,c2,c3,c4,c5,c6,c7,c8,c9,c10,c11]:List Value).drop 11).take (Tryz.prog.cellsOf 3)=[c11] by rw[show Tryz.prog.cellsOf 3=1 by kernel_rfl];rfl] at e7
 obtain⟨s,h0,q0⟩:=jm Tryz.underlying9 e0
 simp only[TY,Ug] at h0;subst h0
 have r0:=aW g0
 obtain⟨n1,h1,i1⟩:=dA Tryz.underlying3 e1
 simp only[TY,Ug] at h1;subst h1
 obtain⟨vb,vk,ve,vx,h2,i2⟩:=NJ e2
 simp only[TY,Ug] at h2;obtain⟨rfl,rfl,rfl,rfl⟩:=h2
 obtain⟨vs,vz,h3,i3,j3⟩:=NS e3
 simp only[TY,Ug] at h3;obtain⟨rfl,rfl⟩:=h3
 obtain⟨n2,h4,i4⟩:=dA Tryz.underlying3 e4
 simp only[TY,Ug] at h4;subst h4
 obtain⟨t,h5,q5⟩:=jm Tryz.underlying9 e5
 simp only[TY,Ug] at h5;subst h5
 have r5:=aW g5
 obtain⟨n3,h6,i6⟩:=dA Tryz.underlying3 e6
 simp only[TY,Ug] at h6;subst h6
 obtain⟨n4,h7,i7⟩:=dA Tryz.underlying3 e7
 simp only[TY,Ug] at h7;subst h7
 have r9:=Am (by omega:0<5) g0 g5
 exact⟨⟨s,n1,vb,vk,ve,vx,vs,vz,n2,t,n3,n4⟩, .cons (.v _ rfl) (.cons (.v _ rfl) (.cons (.v _ rfl) (.cons (.v _ rfl) (.cons (.v _ rfl) (.cons (.v _ rfl) (.cons (.v _ rfl) (.cons (.v _ rfl) (.cons (.v _ rfl) (.cons (.v _ rfl) (.cons (.v _ rfl) (.cons (.v _ rfl) (.nil)))))))))))),by simp only[Rows.uptoBulk,mE];omega,by constructor<;>assumption⟩
theorem Lu {H:Type} {enc:TypeId×Value→H} {w:World} {fuel:Nat} {cs:List Value} {d:DataW H} {p:List MemPlace} (h:tr enc w fuel 26 cs=some (d,p)):∃(l:List mg) (v:Value),cs=[v]∧aP rU w (.ps 12 (l.map fK)) v∧(l.map mE).sum+1≤Rows.uptoBulk d∧∀x∈l,ES x:=
 oq Tryz.underlying26 (by kernel_rfl) (by omega) (fun _ _ _ _ h=>NQ h) h
theorem J9 {H:Type} {enc:TypeId×Value→H} {w:World} {fuel:Nat} {cs:List Value} {d:DataW H} {p:List MemPlace} (h:tr enc w fuel 27 cs=some (d,p)):∃(l:List iR) (v:Value),cs=[v]∧aP rU w (.ps 6 (l.map dX)) v∧(l.map mR).sum+1≤Rows.uptoBulk d∧∀x∈l,IG x:=
 oq Tryz.underlying27 (by kernel_rfl) (by omega) (fun _ _ _ _ h=>OB h) h
theorem P8 {H:Type} {enc:TypeId×Value→H} {w:World} {fuel:Nat} {cs:List Value} {d:DataW H} {p:List MemPlace} (h:tr enc w fuel 59 cs=some (d,p)):∃x:Ey,ai (aP rU w) (gI x) cs∧mT x≤Rows.uptoBulk d∧aZ .i64 x.kind:=by
 obtain⟨hl,f,xs,hm,rfl⟩:=eG Tryz.underlying59 h
 rw[show Tryz.prog.cellsOf 59=5 by kernel_rfl] at hl
 obtain⟨c0,c1,c2,c3,c4,rfl⟩:∃c0 c1 c2 c3 c4,cs=[c0,c1,c2,c3,c4]:=by
  rcases cs with _|⟨a0,_|⟨a1,_|⟨a2,_|⟨a3,_|⟨a4,_|⟨az,cs⟩⟩⟩⟩⟩⟩
  all_goals simp at hl
  exact⟨_,_,_,_,_,rfl⟩
 obtain⟨_,hg⟩:=dW hm
 obtain⟨b0,g0,e0⟩:=hg 0 _ rfl
 rw[show(([c0,c1,c2,c3,c4]:List Value).drop 0).take (Tryz.prog.cellsOf 3)=[c0] by rw[show Tryz.prog.cellsOf 3=1 by kernel_rfl];rfl] at e0
 obtain⟨b1,g1,e1⟩:=hg 1 _ rfl
 rw[show(([c0,c1,c2,c3,c4]:List Value).drop 1).take (Tryz.prog.cellsOf 55)=[c1,c2] by rw[show Tryz.prog.cellsOf 55=2 by kernel_rfl];rfl] at e1
 obtain⟨b2,g2,e2⟩:=hg 2 _ rfl
 rw[show(([c0,c1,c2,c3,c4]:List Value).drop 3).take (Tryz.prog.cellsOf 55)=[c3,c4] by rw[show Tryz.prog.cellsOf 55=2 by kernel_rfl];rfl] at e2
 obtain⟨n,h0,i0⟩:=dA Tryz.underlying3 e0
 simp only[TY,Ug] at h0;subst h0
 obtain⟨l,lv,lb,h1,q1,k1⟩:=BJ e1
 simp only[TY,Ug] at h1;obtain⟨rfl,rfl⟩:=h1
 have r1:=aW g1
 obtain⟨m,mv,mb,h2,q2,k2⟩:=BJ e2
 simp only[TY,Ug] at h2;obtain⟨rfl,rfl⟩:=h2
 have r2:=aW g2
 exact⟨⟨n,⟨l,lb⟩,⟨m,mb⟩⟩, .cons (.v _ rfl) (.cons q1 (.cons (.v _ rfl) (.cons q2 (.cons (.v _ rfl) (.nil))))),by simp only[Rows.uptoBulk,mT];omega,i0⟩
theorem Qr {H:Type} {enc:TypeId×Value→H} {w:World} {fuel:Nat} {cs:List Value} {d:DataW H} {p:List MemPlace} (h:tr enc w fuel 57 cs=some (d,p)):∃x:yH,ai (aP rU w) (fH x) cs∧mU x≤Rows.uptoBulk d∧True:=by
 obtain⟨hl,f,xs,hm,rfl⟩:=eG Tryz.underlying57 h
 rw[show Tryz.prog.cellsOf 57=5 by kernel_rfl] at hl
 obtain⟨c0,c1,c2,c3,c4,rfl⟩:∃c0 c1 c2 c3 c4,cs=[c0,c1,c2,c3,c4]:=by
  rcases cs with _|⟨a0,_|⟨a1,_|⟨a2,_|⟨a3,_|⟨a4,_|⟨az,cs⟩⟩⟩⟩⟩⟩
  all_goals simp at hl
  exact⟨_,_,_,_,_,rfl⟩
 obtain⟨_,hg⟩:=dW hm
 obtain⟨b0,g0,e0⟩:=hg 0 _ rfl
 rw[show(([c0,c1,c2,c3,c4]:List Value).drop 0).take (Tryz.prog.cellsOf 4)=[c0] by rw[show Tryz.prog.cellsOf 4=1 by kernel_rfl];rfl] at e0
 obtain⟨b1,g1,e1⟩:=hg 1 _ rfl
 rw[show(([c0,c1,c2,c3,c4]:List Value).drop 1).take (Tryz.prog.cellsOf 55)=[c1,c2] by rw[show Tryz.prog.cellsOf 55=2 by kernel_rfl];rfl] at e1
 obtain⟨b2,g2,e2⟩:=hg 2 _ rfl
 rw[show(([c0,c1,c2,c3,c4]:List Value).drop 3).take (Tryz.prog.cellsOf 55)=[c3,c4] by rw[show Tryz.prog.cellsOf 55=2 by kernel_rfl];rfl] at e2
 obtain⟨b,h0⟩:=qj Tryz.underlying4 e0
 simp only[TY,Ug] at h0;subst h0
 obtain⟨l,lv,lb,h1,q1,k1⟩:=BJ e1
 simp only[TY,Ug] at h1;obtain⟨rfl,rfl⟩:=h1
 have r1:=aW g1
 obtain⟨m,mv,mb,h2,q2,k2⟩:=BJ e2
 simp only[TY,Ug] at h2;obtain⟨rfl,rfl⟩:=h2
 have r2:=aW g2
 exact⟨⟨b,⟨l,lb⟩,⟨m,mb⟩⟩, .cons (.v _ rfl) (.cons q1 (.cons (.v _ rfl) (.cons q2 (.cons (.v _ rfl) (.nil))))),by simp only[Rows.uptoBulk,mU];omega,trivial⟩
theorem OG {H:Type} {enc:TypeId×Value→H} {w:World} {fuel:Nat} {cs:List Value} {d:DataW H} {p:List MemPlace} (h:tr enc w fuel 22 cs=some (d,p)):∃(l:List Ey) (v:Value),cs=[v]∧aP rU w (.ps 5 (l.map gI)) v∧(l.map mT).sum+1≤Rows.uptoBulk d∧∀x∈l,aZ .i64 x.kind:=
 oq Tryz.underlying22 (by kernel_rfl) (by omega) (fun _ _ _ _ h=>P8 h) h
theorem Nl {H:Type} {enc:TypeId×Value→H} {w:World} {fuel:Nat} {cs:List Value} {d:DataW H} {p:List MemPlace} (h:tr enc w fuel 25 cs=some (d,p)):∃(l:List yH) (v:Value),cs=[v]∧aP rU w (.ps 5 (l.map fH)) v∧(l.map mU).sum+1≤Rows.uptoBulk d∧∀x∈l,True:=
 oq Tryz.underlying25 (by kernel_rfl) (by omega) (fun _ _ _ _ h=>Qr h) h
theorem PN {H:Type} {enc:TypeId×Value→H} {w:World} {fuel:Nat} {cs:List Value} {d:DataW H} {p:List MemPlace} (h:tr enc w fuel 24 cs=some (d,p)):∃(x:Ah) (v:Value),cs=[.string x.name, .string x.parent,v]∧aP rU w (.ps 5 (x.paths.map gI)) v∧(Rows.uptoBulk d≤1048576→TM x)∧∀y∈x.paths,aZ .i64 y.kind:=by
 obtain⟨hl,f,xs,hm,rfl⟩:=eG Tryz.underlying24 h
 rw[show Tryz.prog.cellsOf 24=3 by kernel_rfl] at hl
 obtain⟨c0,c1,c2,rfl⟩:∃c0 c1 c2,cs=[c0,c1,c2]:=by
  rcases cs with _|⟨a0,_|⟨a1,_|⟨a2,_|⟨az,cs⟩⟩⟩⟩
  all_goals simp at hl
  exact⟨_,_,_,rfl⟩
 obtain⟨_,hg⟩:=dW hm
 obtain⟨b0,g0,e0⟩:=hg 0 _ rfl
 rw[show(([c0,c1,c2]:List Value).drop 0).take (Tryz.prog.cellsOf 9)=[c0] by rw[show Tryz.prog.cellsOf 9=1 by kernel_rfl];rfl] at e0
 obtain⟨b1,g1,e1⟩:=hg 1 _ rfl
 rw[show(([c0,c1,c2]:List Value).drop 1).take (Tryz.prog.cellsOf 9)=[c1] by rw[show Tryz.prog.cellsOf 9=1 by kernel_rfl];rfl] at e1
 obtain⟨b2,g2,e2⟩:=hg 2 _ rfl
 rw[show(([c0,c1,c2]:List Value).drop 2).take (Tryz.prog.cellsOf 22)=[c2] by rw[show Tryz.prog.cellsOf 22=1 by kernel_rfl];rfl] at e2
 obtain⟨s,h0,q0⟩:=jm Tryz.underlying9 e0
 simp only[TY,Ug] at h0;subst h0
 have r0:=aW g0
 obtain⟨t,h1,q1⟩:=jm Tryz.underlying9 e1
 simp only[TY,Ug] at h1;subst h1
 have r1:=aW g1
 obtain⟨l,lv,h2,q2,k2,i2⟩:=OG e2
 simp only[TY,Ug] at h2;subst h2
 have r2:=aW g2
 refine⟨⟨s,t,l⟩,_,rfl,q2,fun hb=>?_,i2⟩
 simp only[Rows.uptoBulk] at hb
 have:=KL (l:=l) (by omega)
 exact⟨by simp only;omega,by simp only;omega,this.1,this.2⟩
set_option maxHeartbeats 4000000 in
theorem PP {H:Type} {enc:TypeId×Value→H} {w:World} {fuel:Nat} {cs:List Value} {d:DataW H} {p:List MemPlace} (h:tr enc w fuel 29 cs=some (d,p)):∃x:iH,ai (aP rU w) (iC x) cs∧uK x∧(Rows.uptoBulk d≤1048576→DN x):=by
 obtain⟨hl,f,xs,hm,rfl⟩:=eG Tryz.underlying29 h
 rw[show Tryz.prog.cellsOf 29=14 by kernel_rfl] at hl
 obtain⟨c0,c1,c2,c3,c4,c5,c6,c7,c8,c9,c10,c11,c12,c13,rfl⟩:∃c0 c1 c2 c3 c4 c5 c6 c7 c8 c9 c10 c11 c12 c13,cs=[c0,c1,c2,c3,c4,c5,c6,c7,c8,c9,c10,c11,c12,c13]:=by
  rcases cs with _|⟨a0,_|⟨a1,_|⟨a2,_|⟨a3,_|⟨a4,_|⟨a5,_|⟨a6,_|⟨a7,_|⟨a8,_|⟨a9,_|⟨a10,_|⟨a11,_|⟨a12,_|⟨a13,_|⟨az,cs⟩⟩⟩⟩⟩⟩⟩⟩⟩⟩⟩⟩⟩⟩⟩
  all_goals simp at hl
  exact⟨_,_,_,_,_,_,_,_,_,_,_,_,_,_,rfl⟩
 obtain⟨_,hg⟩:=dW hm
 obtain⟨b0,g0,e0⟩:=hg 0 _ rfl
 rw[show(([c0,c1,c2,c3,c4,c5,c6,c7,c8,c9,c10,c11,c12,c13]:List Value).drop 0).take (Tryz.prog.cellsOf 3)=[c0] by rw[show Tryz.prog.cellsOf 3=1 by kernel_rfl];rfl] at e0
 obtain⟨b1,g1,e1⟩:=hg 1 _ rfl
 rw[show(([c0,c1,c2,c3,c4,c5,c6,c7,c8,c9,c10,c11,c12,c13]:List Value).drop 1).take (Tryz.prog.cellsOf 9)=[c1] by rw[show Tryz.prog.cellsOf 9=1 by kernel_rfl];rfl] at e1
 obtain⟨b2,g2,e2⟩:=hg 2 _ rfl
 rw[show(([c0,c1,c2,c3,c4,c5,c6,c7,c8,c9,c10,c11,c12,c13]:List Value).drop 2).take (Tryz.prog.cellsOf 9)=[c2] by rw[show Tryz.prog.cellsOf 9=1 by kernel_rfl];rfl] at e2
 obtain⟨b3,g3,e3⟩:=hg 3 _ rfl
 rw[show(([c0,c1,c2,c3,c4,c5,c6,c7,c8,c9,c10,c11,c12,c13]:List Value).drop 3).take (Tryz.prog.cellsOf 9)=[c3] by rw[show Tryz.prog.cellsOf 9=1 by kernel_rfl];rfl] at e3
 obtain⟨b4,g4,e4⟩:=hg 4 _ rfl
 rw[show(([c0,c1,c2,c3,c4,c5,c6,c7,c8,c9,c10,c11,c12,c13]:List Value).drop 4).take (Tryz.prog.cellsOf 3)=[c4] by rw[show Tryz.prog.cellsOf 3=1 by kernel_rfl];rfl] at e4
 obtain⟨b5,g5,e5⟩:=hg 5 _ rfl
 rw[show(([c0,c1,c2,c3,c4,c5,c6,c7,c8,c9,c10,c11,c12,c13]:List Value).drop 5).take (Tryz.prog.cellsOf 3)=[c5] by rw[show Tryz.prog.cellsOf 3=1 by kernel_rfl];rfl] at e5
 obtain⟨b6,g6,e6⟩:=hg 6 _ rfl
 rw[show(([c0,c1,c2,c3,c4,c5,c6,c7,c8,c9,c10,c11,c12,c13]:List Value).drop 6).take (Tryz.prog.cellsOf 3)=[c6] by rw[show Tryz.prog.cellsOf 3=1 by kernel_rfl];rfl] at e6
 obtain⟨b7,g7,e7⟩:=hg 7 _ rfl
 rw[show(([c0,c1,c2,c3,c4,c5,c6,c7,c8,c9,c10,c11,c12,c13]:List Value).drop 7).take (Tryz.prog.cellsOf 9)=[c7] by rw[show Tryz.prog.cellsOf 9=1 by kernel_rfl];rfl] at e7
 obtain⟨b8,g8,e8⟩:=hg 8 _ rfl
 rw[show(([c0,c1,c2,c3,c4,c5,c6,c7,c8,c9,c10,c11,c12,c13]:List Value).drop 8).take (Tryz.prog.cellsOf 24)=[c8,c9,c10] by rw[show Tryz.prog.cellsOf 24=3 by kernel_rfl];rfl] at e8
 obtain⟨b9,g9,e9⟩:=hg 9 _ rfl
 rw[show(([c0,c1,c2,c3,c4,c5,c6,c7,c8,c9,c10,c11,c12,c13]:List Value).drop 11).take (Tryz.prog.cellsOf 25)=[c11] by rw[show Tryz.prog.cellsOf 25=1 by kernel_rfl];rfl] at e9
 obtain⟨b10,g10,e10⟩:=hg 10 _ rfl
 rw[show(([c0,c1,c2,c3,c4,c5,c6,c7,c8,c9,c10,c11,c12,c13]:List Value).drop 12).take (Tryz.prog.cellsOf 26)=[c12] by rw[show Tryz.prog.cellsOf 26=1 by kernel_rfl];rfl] at e10
 obtain⟨b11,g11,e11⟩:=hg 11 _ rfl
 rw[show(([c0,c1,c2,c3,c4,c5,c6,c7,c8,c9,c10,c11,c12,c13]:List Value).drop 13).take (Tryz.prog.cellsOf 27)=[c13] by rw[show Tryz.prog.cellsOf 27=1 by kernel_rfl];rfl] at e11
 obtain⟨n0,h0,i0⟩:=dA Tryz.underlying3 e0
 simp only[TY,Ug] at h0;subst h0
 obtain⟨s1,h1,q1⟩:=jm Tryz.underlying9 e1
 simp only[TY,Ug] at h1;subst h1
 have r1:=aW g1
 obtain⟨s2,h2,q2⟩:=jm Tryz.underlying9 e2
 simp only[TY,Ug] at h2;subst h2
 have r2:=aW g2
 obtain⟨s3,h3,q3⟩:=jm Tryz.underlying9 e3
 simp only[TY,Ug] at h3;subst h3
 have r3:=aW g3
 obtain⟨n4,h4,i4⟩:=dA Tryz.underlying3 e4
 simp only[TY,Ug] at h4;subst h4
 obtain⟨n5,h5,i5⟩:=dA Tryz.underlying3 e5
 simp only[TY,Ug] at h5;subst h5
 obtain⟨n6,h6,i6⟩:=dA Tryz.underlying3 e6
 simp only[TY,Ug] at h6;subst h6
 obtain⟨s7,h7,q7⟩:=jm Tryz.underlying9 e7
 simp only[TY,Ug] at h7;subst h7
 have r7:=aW g7
 obtain⟨st,stv,h8,q8,k8,i8⟩:=PN e8
 simp only[TY,Ug] at h8;obtain⟨rfl,rfl,rfl⟩:=h8
 have r8:=aW g8
 obtain⟨l9,l9v,h9,q9,k9,i9⟩:=Nl e9
 simp only[TY,Ug] at h9;subst h9
 have r9:=aW g9
 obtain⟨l10,l10v,h10,q10,k10,i10⟩:=Lu e10
 simp only[TY,Ug] at h10;subst h10
 have r10:=aW g10
 obtain⟨l11,l11v,h11,q11,k11,i11⟩:=J9 e11
 simp only[TY,Ug] at h11;subst h11
 have r11:=aW g11
 refine⟨⟨n0,s1,s2,s3,n4,n5,n6,s7,st,l9,l10,l11⟩, .cons (.v _ rfl) (.cons (.v _ rfl) (.cons (.v _ rfl) (.cons (.v _ rfl) (.cons (.v _ rfl) (.cons (.v _ rfl) (.cons (.v _ rfl) (.cons (.v _ rfl) (.cons (.v _ rfl) (.cons (.v _ rfl) (.cons q8 (.cons q9 (.cons q10 (.cons q11 (.nil)))))))))))))),⟨i0,i4,i5,i6,i8,i10,i11⟩,fun hb=>?_⟩
 simp only[Rows.uptoBulk] at hb
 have u8:=k8 (by omega)
 have u9:=JD (l:=l9) (by omega)
 have u10:=MC (l:=l10) (by omega)
 have u11:=NI (l:=l11) (by omega)
 exact⟨by simp only;omega,by simp only;omega,by simp only;omega,by simp only;omega,u8.1,u8.2.1,u8.2.2.2,u9.2,u10.2,u11.2,u8.2.2.1,u9.1,u10.1,u11.1⟩
set_option maxRecDepth 100000 in
theorem Gx {H:Type} {enc:TypeId×Value→H} {W:World} {base:Nat} {v:Value} {d:DataW H} {p:List MemPlace} (h:DataW.Trod enc Tryz.prog W 0 (fun _=>true) true 29 v d p) (ok:Value.okWide Tryz.prog W .any base 29 v):
 ∃x:iH,af (mkK (X.start FX cap0 rU [] W) FX cap0 [] W) (uO x) v∧uK x∧(Rows.uptoBulk d≤1048576→DN x):=by
 obtain⟨fuel,h⟩:=h
 obtain⟨x,rep,k⟩:=PP h
 refine⟨x,?_,k⟩
 rw[QI Tryz.underlying29 ok]
 have:=Ql rep
 rw[Array.toArray_toList] at this
 exact this
end Go.Proofs.YtpoodoknkbojgaaGreatDoor
