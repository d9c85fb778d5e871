/- A part of the proof. -/
import Derived.Test.YtpoodoknkbojgaaGreatDoorRP55
set_option linter.all false
namespace Go.Proofs.YtpoodoknkbojgaaGreatDoor
open Go.Ab
theorem kL:∀k v,(gW k v).length≤k+1
 |0,v=>by simp[gW]
 |k+1,v=>by
  simp only[gW]
  split
  ·simp
  ·have:=kL k (v/128)
   simp only[List.length_cons];omega
def Gr {α:Type} (f:α→Wt→Wt) (n:Nat):Prop:=∀a w,(f a w).2.length≤w.2.length+n
theorem Gr.mono {α:Type} {f:α→Wt→Wt} {n m:Nat} (h:Gr f n) (hm:n≤m):Gr f m:=fun a w=>Ur (h a w) (by omega)
theorem QT:Gr wU 10:=fun a w=>by have:=kL 9 a;simp only[wU,iZ,Uo];omega
theorem QH:Gr wW 10:=fun a w=>by have:=kL 9 a.toNat;simp only[wW,L9,iZ,Uo];omega
theorem jl:Gr wI 10:=fun a w=>by have:=kL 9 (zz a);simp only[wI,encI,iZ,Uo];omega
theorem Hm:Gr wB 1:=fun a w=>by simp[wB,jO]
theorem mf:Gr wT 1034:=fun a w=>by
 unfold wT
 split
 ·simp
 ·have:=kL 9 a.size
  have e:a.data.toList.length=a.size:=by simp
  simp only[fO,iZ,Uo];omega
theorem Ih:Gr wP 1034:=fun a w=>by
 unfold wP
 split
 ·exact mf _ _
 ·simp
theorem Q3:Gr wS 1034:=fun a w=>by
 unfold wS
 split
 ·exact mf _ _
 ·exact Ih _ _
theorem Og:Gr jJ 2200:=fun a w=>by
 unfold jJ wY
 have h1:=mf a.path w
 have h2:=jl a.act (wT a.path w)
 generalize wI a.act (wT a.path w)=u at*
 have h3:=jl a.base u
 generalize wI a.base u=u at*
 have h4:=Hm a.kw u
 generalize wB a.kw u=u at*
 have h5:=Hm a.ex u
 generalize wB a.ex u=u at*
 have h6:=Hm a.xe u
 generalize wB a.xe u=u at*
 have h7:=QH a.sum u
 generalize wW a.sum u=u at*
 have h8:=jl a.size u
 generalize wI a.size u=u at*
 have h9:=jl a.prev u
 generalize wI a.prev u=u at*
 have h10:=mf a.frm u
 generalize wT a.frm u=u at*
 have h11:=jl a.fnum u
 generalize wI a.fnum u=u at*
 have h12:=jl a.fence u
 omega
theorem MW:Gr jK 2200:=fun a w=>by
 unfold jK
 have h1:=mf a.frm w
 have h2:=jl a.first (wT a.frm w)
 generalize wI a.first (wT a.frm w)=u at*
 have h3:=jl a.last u
 generalize wI a.last u=u at*
 have h4:=mf a.to u
 generalize wT a.to u=u at*
 have h5:=jl a.num u
 generalize wI a.num u=u at*
 have h6:=jl a.how u
 omega
theorem Oi:Gr jI 2200:=fun a w=>by
 unfold jI
 have h1:=Hm a.excl w
 have h2:=Ih a.left (wB a.excl w)
 have h3:=Ih a.right (wP a.left (wB a.excl w))
 omega
theorem Ns:Gr iY 2200:=fun a w=>by
 unfold iY
 have h1:=jl a.kind w
 have h2:=Ih a.path (wI a.kind w)
 have h3:=Q3 a.frm (wP a.path (wI a.kind w))
 omega
theorem Dy {α:Type} {f:α→Wt→Wt} {k:Nat} (h:Gr f k):∀(l:List α) (w:Wt),(l.foldl (fun w a=>f a w) w).2.length≤w.2.length+l.length*k
 |[],w=>by simp
 |a::l,w=>by
  have h1:=h a w
  have h2:=Dy h l (f a w)
  rw[List.foldl_cons,List.length_cons,Uz]
  omega
theorem Gg {α:Type} {f:α→Wt→Wt} (n:Nat) (hn:n≤64) (h:Gr f 2200):Gr (wL n f) 150000:=fun l w=>by
 unfold wL
 split
 ·simp
 ·have h1:=QT l.length w
  have h2:=Dy h l (wU l.length w)
  have h3:l.length*2200≤64*2200:=Ul _ (by omega)
  omega
theorem QY:∀f,Gr (wF f) 160000
 |0=>fun c=>(mf.mono (by omega)) c.client
 |1=>fun c=>(mf.mono (by omega)) c.name
 |2=>fun c=>(mf.mono (by omega)) c.path
 |3=>fun c=>(jl.mono (by omega)) c.number
 |4=>fun c=>(jl.mono (by omega)) c.fence
 |5=>fun c=>(jl.mono (by omega)) c.ticks
 |6=>fun c=>(mf.mono (by omega)) c.text
 |7=>fun c w=>by
  have h1:=mf c.stream.name w
  have h2:=mf c.stream.parent (wT c.stream.name w)
  have h3:=Gg 12 (by omega) Ns c.stream.paths (wT c.stream.parent (wT c.stream.name w))
  show(Dq c.stream w).2.length≤_
  unfold Dq
  omega
 |8=>fun c=>((Gg 16 (by omega) Oi).mono (by omega)) c.rules
 |9=>fun c=>((Gg 64 (by omega) Og).mono (by omega)) c.edits
 |10=>fun c=>((Gg 64 (by omega) MW).mono (by omega)) c.recs
 |n+11=>fun c w=>by simp[wF]
theorem Ll (c:iH):∀(fs:List Nat) (w:Wt),(Lc fs c w).2.length≤w.2.length+fs.length*160000
 |[],w=>by simp[Lc]
 |f::fs,w=>by
  have h1:=QY f c w
  have h2:=Ll c fs (wF f c w)
  have e:Lc (f::fs) c w=Lc fs c (wF f c w):=rfl
  rw[e,List.length_cons,Uz]
  omega
end Go.Proofs.YtpoodoknkbojgaaGreatDoor
