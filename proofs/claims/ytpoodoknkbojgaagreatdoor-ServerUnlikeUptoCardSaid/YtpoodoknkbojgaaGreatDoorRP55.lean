/- A part of the proof. -/
import Derived.Test.YtpoodoknkbojgaaGreatDoorRP54
set_option linter.all false
namespace Go.Proofs.YtpoodoknkbojgaaGreatDoor
open Go.Ab
theorem join_step (a m:List UInt8) (r:List (List UInt8)):Lib.join (a::m::r) [47]=a++47::Lib.join (m::r) [47]:=by
 rw[Lib.join_cons,Lib.join_cons]
 simp[Lib.joinTail]
theorem Aa (m:List UInt8):∀A:List (List UInt8),A≠[]→Lib.join (A++[m]) [47]=Lib.join A [47]++47::m
 |[],h=>absurd rfl h
 |[a],_=>by rw[List.cons_append,List.nil_append,join_step,Lib.join_one,Lib.join_one]
 |a::b::r,_=>by
  have ih:=Aa m (b::r) (by simp)
  rw[List.cons_append] at ih
  rw[List.cons_append,List.cons_append,join_step,ih,join_step,Uu,List.cons_append]
def dots:List UInt8:=[46,46,46]
def jY (p:fJ):List (List UInt8):=p.parts.map (·.data.toList)++(if p.rest then [dots] else [])
theorem Bz (a b:VJ):(a++b).data.toList=a.data.toList++b.data.toList:=by
 rw[ByteArray.data_append,Array.toList_append]
theorem jS {p:fJ} (h0:p.parts≠[]):(gG p).data.toList=47::47::Lib.join (jY p) [47]:=by
 have hj:(jQ p.parts slash).data.toList=Lib.join (p.parts.map (·.data.toList)) [47]:=by simp[jQ,slash]
 unfold gG jY
 cases p.rest
 ·simp only[Um,if_false,U1]
  rw[Bz,hj];rfl
 ·simp only[if_true]
  rw[Bz,Bz,hj,Aa _ _ (by simpa using h0)];rfl
theorem wJ {p:fJ} (h:Ef p=true):∀s∈p.parts,jL s=true:=by
 intro s hs
 obtain⟨i,hi,rfl⟩:=List.getElem_of_mem hs
 obtain⟨_,_,h3,h4,_⟩:=oI.1 h
 cases i with
 |zero=>
  rw[Uc,TT hi,Option.getD_some] at h3
  simp[jL,h3]
 |succ i=>exact UG.1 h4 _ (UA.2 ⟨i,by simp;omega,by simp[Nat.add_comm]⟩)
theorem Io {x:VJ} (h:jL x=true):x.data.toList≠dots:=by
 intro e
 have hx:x=⟨⟨dots⟩⟩:=by
  obtain⟨⟨l⟩⟩:=x
  simp only at e
  rw[e]
 rw[hx] at h
 revert h
 decide+kernel
theorem OO {a b:VJ} (h:a.data.toList=b.data.toList):a=b:=by
 obtain⟨⟨l⟩⟩:=a
 obtain⟨⟨m⟩⟩:=b
 simp only at h
 rw[h]
theorem tY {p:fJ} (h:Ef p=true):∀l∈jY p,∀x∈l,x≠47:=by
 intro l hl
 simp only[jY,Uw,Uy] at hl
 rcases hl with⟨s,hs,rfl⟩|hl
 ·exact FV (wJ h s hs)
 ·split at hl
  ·rw[Ua] at hl;subst hl
   intro x hx e
   subst e
   revert hx;decide
  ·cases hl
theorem zn {p:fJ} (h:Ef p=true):jY p≠[]:=by
 obtain⟨h1,_⟩:=oI.1 h
 intro e
 simp only[jY,List.append_eq_nil_iff,List.map_eq_nil_iff] at e
 rw[e.1] at h1
 simp at h1
theorem mJ:∀{a b:List VJ},a.map (·.data.toList)=b.map (·.data.toList)→a=b
 |[],[],_=>rfl
 |[],_::_,h=>by cases h
 |_::_,[],h=>by cases h
 |x::a,y::b,h=>by
  simp only[Un,TY] at h
  rw[OO h.1,mJ h.2]
theorem zM {p q:fJ} (hp:Ef p=true) (hq:Ef q=true) (h:gG p=gG q):p=q:=by
 have p0:p.parts≠[]:=by obtain⟨h1,_⟩:=oI.1 hp;intro e;rw[e] at h1;simp at h1
 have q0:q.parts≠[]:=by obtain⟨h1,_⟩:=oI.1 hq;intro e;rw[e] at h1;simp at h1
 have h1:(gG p).data.toList=(gG q).data.toList:=by rw[h]
 rw[jS p0,jS q0] at h1
 simp only[TY,UH] at h1
 have h2:=congrArg kH h1
 rw[ny _ (zn hp) (tY hp),ny _ (zn hq) (tY hq)] at h2
 unfold jY at h2
 have key:∀{l:List VJ} {q:fJ},Ef q=true→¬l.map (·.data.toList)++[dots]=q.parts.map (·.data.toList):=by
  intro p q hq e
  have:=congrArg List.getLast? e
  rw[List.getLast?_append,List.getLast?_singleton,Option.some_or] at this
  have hm:=List.mem_of_getLast? this.symm
  obtain⟨s,hs,e⟩:=Uy.1 hm
  exact Io (wJ hq s hs) e
 obtain⟨pp,pr⟩:=p
 obtain⟨qp,qr⟩:=q
 cases pr<;>cases qr<;>simp only[Um,if_false,if_true,U1] at h2
 ·rw[mJ h2]
 ·exact absurd h2.symm (key hp)
 ·exact absurd h2 (key hq)
 ·rw[mJ (List.append_cancel_right h2)]
instance:DecidableEq yH:=fun a b=>decidable_of_iff (a.excl=b.excl∧a.left=b.left∧a.right=b.right) (by cases a;cases b;simp)
structure Ey where
 kind:Int
 path:fJ
 frm:fJ
 deriving DecidableEq
structure Ah where
 name:VJ
 parent:VJ
 paths:List Ey
 deriving DecidableEq
structure iH where
 kind:Int
 client:VJ
 name:VJ
 path:VJ
 number:Int
 fence:Int
 ticks:Int
 text:VJ
 stream:Ah
 rules:List yH
 edits:List mg
 recs:List iR
 deriving DecidableEq
@[reducible] def gI (x:Ey):List D:=[.v (.int .i64 x.kind), .ps 1 (x.path.parts.map encS), .v (.bool x.path.rest), .ps 1 (x.frm.parts.map encS), .v (.bool x.frm.rest)]
@[reducible] def Fv (x:Ah):List D:=[.v (.string x.name), .v (.string x.parent), .ps 5 (x.paths.map gI)]
@[reducible] def iC (c:iH):List D:=[.v (.int .i64 c.kind), .v (.string c.client), .v (.string c.name), .v (.string c.path), .v (.int .i64 c.number), .v (.int .i64 c.fence), .v (.int .i64 c.ticks), .v (.string c.text),
 .v (.string c.stream.name), .v (.string c.stream.parent), .ps 5 (c.stream.paths.map gI), .ps 5 (c.rules.map fH), .ps 12 (c.edits.map fK), .ps 6 (c.recs.map dX)]
@[reducible] def Si (x:Ey):AV:= .agg ((gI x).map C.d)
@[reducible] def PR (x:Ah):AV:= .agg ((Fv x).map C.d)
@[reducible] def uO (c:iH):AV:= .agg ((iC c).map C.d)
def lS:Ah:=⟨noS,noS,[]⟩
def dF:iH:=⟨0,noS,noS,noS,0,0,0,noS,lS,[],[],[]⟩
abbrev Wt:=Bool×List UInt8
structure Wr {α:Type} (f:α→Wt→Wt) (ok:α→Prop) (code:α→List UInt8):Prop where
 good:∀a w,ok a→f a w=(w.1,w.2++code a)
 bad:∀a w,¬ok a→(f a w).1=true
namespace Wr
variable {α β:Type} {f g:α→Wt→Wt} {ok ok':α→Prop} {c c':α→List UInt8}
theorem stay (h:Wr f ok c) (a:α) {w:Wt} (hw:w.1=true):(f a w).1=true:=by
 by_cases h1:ok a
 ·rw[h.good a w h1];exact hw
 ·exact h.bad a w h1
theorem seq (h:Wr f ok c) (h':Wr g ok' c'):Wr (fun a w=>g a (f a w)) (fun a=>ok a∧ok' a) (fun a=>c a++c' a) where
 good a w ha:=by rw[h.good a w ha.1,h'.good a _ ha.2,Uu]
 bad a w ha:=by
  by_cases h1:ok a
  ·rw[h.good a w h1];exact h'.bad a _ fun h2=>ha ⟨h1,h2⟩
  ·exact h'.stay a (h.bad a w h1)
theorem map (h:Wr f ok c) (k:β→α):Wr (fun b=>f (k b)) (fun b=>ok (k b)) (fun b=>c (k b)):=⟨fun b=>h.good (k b),fun b=>h.bad (k b)⟩
theorem iff (h:Wr f ok c) (e:∀a,ok a↔ok' a):Wr f ok' c:=⟨fun a w ha=>h.good a w ((e a).2 ha),fun a w ha=>h.bad a w fun h=>ha ((e a).1 h)⟩
end Wr
def wU (n:Nat) (w:Wt):Wt:=(w.1,w.2++iZ n)
def wW (n:Int) (w:Wt):Wt:=(w.1,w.2++L9 n)
def wI (n:Int) (w:Wt):Wt:=(w.1,w.2++encI n)
def wB (b:Bool) (w:Wt):Wt:=(w.1,w.2++jO b)
def wT (s:VJ) (w:Wt):Wt:=if 1024<s.size then(true,w.2) else(w.1,w.2++fO s)
def wP (p:fJ) (w:Wt):Wt:=if Ef p&&kC p then wT (gG p) w else(true,w.2)
def wS (p:fJ) (w:Wt):Wt:=if p.parts.length=0∧p.rest=false then wT noS w else wP p w
def wL {α:Type} (n:Nat) (f:α→Wt→Wt) (l:List α) (w:Wt):Wt:=if n<l.length then(true,w.2) else l.foldl (fun w a=>f a w) (wU l.length w)
theorem Rl:Wr wW (fun _=>True) L9:=⟨fun _ _ _=>rfl,fun _ _ h=>absurd trivial h⟩
theorem jT:Wr wI (fun _=>True) encI:=⟨fun _ _ _=>rfl,fun _ _ h=>absurd trivial h⟩
theorem Ic:Wr wB (fun _=>True) jO:=⟨fun _ _ _=>rfl,fun _ _ h=>absurd trivial h⟩
def yB (s:VJ):Prop:=s.size≤1024
theorem lY:Wr wT yB fO:=⟨fun a w h=>by unfold yB at h;unfold wT;rw[if_neg (by omega)],fun a w h=>by unfold yB at h;unfold wT;rw[if_pos (by omega)]⟩
theorem xK (Ls:List (List UInt8)):(Lib.join Ls [47]).length≤(Ls.map fun x=>x.length+1).sum:=by
 cases Ls with
 |nil=>simp[Lib.join]
 |cons a Ls=>
  induction Ls generalizing a with
  |nil=>rw[Lib.join_one];simp
  |cons b Ls ih=>
   rw[join_step]
   have:=ih b
   simp only[Uo,List.length_cons,Un,List.sum_cons] at this⊢
   omega
theorem jy {p:fJ} (h:Ef p=true) (hs:kC p=true):(gG p).size≤1024:=by
 have p0:p.parts≠[]:=by obtain⟨h1,_⟩:=oI.1 h;intro e;rw[e] at h1;simp at h1
 have e:(gG p).size=(gG p).data.toList.length:=by simp
 have h1:=xK (jY p)
 simp only[kC,TW] at hs
 have h2:((jY p).map fun x=>x.length+1).sum≤(p.parts.map fun x=>x.size+1).sum+4:=by
  simp only[jY,Vb,List.sum_append,Vj]
  have e1:((fun x:List UInt8=>x.length+1)∘fun x:VJ=>x.data.toList)=fun x=>x.size+1:=by funext x;simp
  rw[e1]
  split<;>simp[dots]
 rw[e,jS p0]
 simp only[List.length_cons]
 omega
def uH (p:fJ):Prop:=Ef p=true∧kC p=true
def Ag (p:fJ):List UInt8:=fO (gG p)
theorem Dc:Wr wP uH Ag:=by
 constructor
 ·rintro p w ⟨h1,h2⟩
  unfold wP
  rw[h1,h2]
  exact lY.good _ _ (jy h1 h2)
 ·intro p w h
  unfold wP
  rw[if_neg]
  simp only[Uf]
  exact h
def Ff (p:fJ):Prop:=p=lQ∨uH p
def mi (p:fJ):List UInt8:=if p.parts.length=0∧p.rest=false then fO noS else Ag p
theorem qO {p:fJ}:(p.parts.length=0∧p.rest=false)↔p=lQ:=by
 obtain⟨l,r⟩:=p
 simp[lQ]
theorem QJ:Wr wS Ff mi:=by
 constructor
 ·intro p w h
  unfold wS mi
  by_cases h0:p.parts.length=0∧p.rest=false
  ·rw[if_pos h0,if_pos h0];exact lY.good _ _ (by simp[yB,noS];decide)
  ·rw[if_neg h0,if_neg h0]
   rcases h with h|h
   ·exact absurd (qO.2 h) h0
   ·exact Dc.good _ _ h
 ·intro p w h
  unfold wS
  rw[if_neg fun h0=>h (.inl (qO.1 h0))]
  exact Dc.bad _ _ fun h1=>h (.inr h1)
theorem yx {α:Type} {f:α→Wt→Wt} {ok:α→Prop} {c:α→List UInt8} (h:Wr f ok c):∀(l:List α) (w:Wt),w.1=true→(l.foldl (fun w a=>f a w) w).1=true
 |[],_,hw=>hw
 |a::l,w,hw=>yx h l _ (h.stay a hw)
theorem PI {α:Type} {f:α→Wt→Wt} {ok:α→Prop} {c:α→List UInt8} (h:Wr f ok c):Wr (fun l w=>l.foldl (fun w a=>f a w) w) (fun l=>∀a∈l,ok a) (tK c):=by
 constructor
 ·intro l
  induction l with
  |nil=>intro w _;simp[tK]
  |cons a l ih=>
   intro w hl
   rw[List.foldl_cons,h.good a w (hl a (by simp)),ih _ fun b hb=>hl b (by simp[hb])]
   simp[tK]
 ·intro l
  induction l with
  |nil=>intro w hl;exact absurd (fun a ha=>by cases ha) hl
  |cons a l ih=>
   intro w hl
   rw[List.foldl_cons]
   by_cases ha:ok a
   ·exact ih _ fun h2=>hl fun b hb=>by
     rcases TS.1 hb with rfl|hb
     ·exact ha
     ·exact h2 b hb
   ·exact yx h l _ (h.bad a w ha)
theorem F8 {α:Type} {f:α→Wt→Wt} {ok:α→Prop} {c:α→List UInt8} (h:Wr f ok c) (n:Nat):Wr (wL n f) (fun l=>l.length≤n∧∀a∈l,ok a) (Cs c):=by
 constructor
 ·intro l w hl
  unfold wL
  rw[if_neg (by omega),(PI h).good l _ hl.2]
  simp[wU,Cs]
 ·intro l w hl
  unfold wL
  by_cases hn:n<l.length
  ·rw[if_pos hn]
  ·rw[if_neg hn]
   exact(PI h).bad l _ fun h2=>hl ⟨by omega,h2⟩
def wY (e:mg) (w:Wt):Wt:=wB e.xe (wB e.ex (wB e.kw (wI e.base w)))
def jJ (e:mg) (w:Wt):Wt:=wI e.fence (wI e.fnum (wT e.frm (wI e.prev (wI e.size (wW e.sum (wY e (wI e.act (wT e.path w))))))))
def jK (r:iR) (w:Wt):Wt:=wI r.how (wI r.num (wT r.to (wI r.last (wI r.first (wT r.frm w)))))
def jI (r:yH) (w:Wt):Wt:=wP r.right (wP r.left (wB r.excl w))
def iY (x:Ey) (w:Wt):Wt:=wS x.frm (wP x.path (wI x.kind w))
def Dq (x:Ah) (w:Wt):Wt:=wL 12 iY x.paths (wT x.parent (wT x.name w))
def J5 (e:mg):List UInt8:=encI e.base++jO e.kw++jO e.ex++jO e.xe
def vP (e:mg):List UInt8:=fO e.path++encI e.act++J5 e++L9 e.sum++encI e.size++encI e.prev++fO e.frm++encI e.fnum++encI e.fence
def vJ (r:iR):List UInt8:=fO r.frm++encI r.first++encI r.last++fO r.to++encI r.num++encI r.how
def uQ (r:yH):List UInt8:=jO r.excl++Ag r.left++Ag r.right
def vC (x:Ey):List UInt8:=encI x.kind++Ag x.path++mi x.frm
def vM (x:Ah):List UInt8:=fO x.name++fO x.parent++Cs vC x.paths
theorem QK:Wr wY (fun _=>True) J5:=((((jT.map mg.base).seq (Ic.map mg.kw)).seq (Ic.map mg.ex)).seq (Ic.map mg.xe)).iff fun a=>by simp
theorem Nh:Wr jJ (fun e=>yB e.path∧yB e.frm) vP:=
 (((((((((lY.map mg.path).seq (jT.map mg.act)).seq QK).seq (Rl.map mg.sum)).seq (jT.map mg.size)).seq (jT.map mg.prev)).seq (lY.map mg.frm)).seq (jT.map mg.fnum)).seq (jT.map mg.fence)).iff fun a=>by simp
theorem NT:Wr jK (fun e=>yB e.frm∧yB e.to) vJ:=
 ((((((lY.map iR.frm).seq (jT.map iR.first)).seq (jT.map iR.last)).seq (lY.map iR.to)).seq (jT.map iR.num)).seq (jT.map iR.how)).iff fun a=>by simp
theorem MX:Wr jI (fun e=>uH e.left∧uH e.right) uQ:=(((Ic.map yH.excl).seq (Dc.map yH.left)).seq (Dc.map yH.right)).iff fun a=>by simp
theorem MZ:Wr iY (fun e=>uH e.path∧Ff e.frm) vC:=(((jT.map Ey.kind).seq (Dc.map Ey.path)).seq (QJ.map Ey.frm)).iff fun a=>by simp
def GK (x:Ah):Prop:=yB x.name∧yB x.parent∧x.paths.length≤12∧∀e∈x.paths,uH e.path∧Ff e.frm
theorem Oz:Wr Dq GK vM:=(((lY.map Ah.name).seq (lY.map Ah.parent)).seq ((F8 MZ 12).map Ah.paths)).iff fun a=>by simp[GK,and_assoc]
def wF:Nat→iH→Wt→Wt
 |0,c=>wT c.client
 |1,c=>wT c.name
 |2,c=>wT c.path
 |3,c=>wI c.number
 |4,c=>wI c.fence
 |5,c=>wI c.ticks
 |6,c=>wT c.text
 |7,c=>Dq c.stream
 |8,c=>wL 16 jI c.rules
 |9,c=>wL 64 jJ c.edits
 |10,c=>wL 64 jK c.recs
 |_,_=>id
def okF:Nat→iH→Prop
 |0,c=>yB c.client
 |1,c=>yB c.name
 |2,c=>yB c.path
 |6,c=>yB c.text
 |7,c=>GK c.stream
 |8,c=>c.rules.length≤16∧∀e∈c.rules,uH e.left∧uH e.right
 |9,c=>c.edits.length≤64∧∀e∈c.edits,yB e.path∧yB e.frm
 |10,c=>c.recs.length≤64∧∀e∈c.recs,yB e.frm∧yB e.to
 |_,_=>True
def codeF:Nat→iH→List UInt8
 |0,c=>fO c.client
 |1,c=>fO c.name
 |2,c=>fO c.path
 |3,c=>encI c.number
 |4,c=>encI c.fence
 |5,c=>encI c.ticks
 |6,c=>fO c.text
 |7,c=>vM c.stream
 |8,c=>Cs uQ c.rules
 |9,c=>Cs vP c.edits
 |10,c=>Cs vJ c.recs
 |_,_=>[]
theorem Rx:∀f,Wr (wF f) (okF f) (codeF f)
 |0=>lY.map iH.client
 |1=>lY.map iH.name
 |2=>lY.map iH.path
 |3=>jT.map iH.number
 |4=>jT.map iH.fence
 |5=>jT.map iH.ticks
 |6=>lY.map iH.text
 |7=>Oz.map iH.stream
 |8=>(F8 MX 16).map iH.rules
 |9=>(F8 Nh 64).map iH.edits
 |10=>(F8 NT 64).map iH.recs
 |n+11=>⟨fun a w _=>by simp[wF,codeF],fun a w h=>absurd (by simp[okF]) h⟩
def Hz:List (Int×List Nat):=[(1,[7]),(2,[0,1,8]),(3,[0,6]),(4,[0,3,9,10]),(5,[0,3]),(6,[0,3,1]),(7,[0,3]),(8,[0,3]),(9,[0,2,5]),(10,[0,2,4,5]),(11,[0,2,4]),(12,[2]),(13,[5]),(14,[0,3])]
def uq (k:Int):Option (List Nat):=(Hz.find? fun e=>e.1=k).map (·.2)
def Lc (fs:List Nat) (c:iH) (w:Wt):Wt:=fs.foldl (fun w f=>wF f c w) w
def jr (fs:List Nat) (c:iH):List UInt8:=fs.flatMap fun f=>codeF f c
theorem Lr:∀fs,Wr (Lc fs) (fun c=>∀f∈fs,okF f c) (jr fs)
 |[]=>⟨fun a w _=>by simp[Lc,jr],fun a w h=>absurd (fun f hf=>by cases hf) h⟩
 |f::fs=>by
  have:=(Rx f).seq (Lr fs)
  refine⟨fun a w h=>?_,fun a w h=>?_⟩
  ·have h2:=this.good a w ⟨h f (by simp),fun g hg=>h g (by simp[hg])⟩
   simpa[Lc,jr] using h2
  ·exact this.bad a w fun h2=>h fun g hg=>by
    rcases TS.1 hg with rfl|hg
    ·exact h2.1
    ·exact h2.2 g hg
def Ba (c:iH):Option (List UInt8):=
 match uq c.kind with
 |none=>none
 |some fs=>if(Lc fs c (wI c.kind (false,[]))).1 then none else some (Lc fs c (wI c.kind (false,[]))).2
theorem zD {c:iH} {l:List UInt8}:Ba c=some l↔∃fs,uq c.kind=some fs∧(∀f∈fs,okF f c)∧l=encI c.kind++jr fs c:=by
 unfold Ba
 cases hk:uq c.kind with
 |none=>simp
 |some fs=>
  simp only[VH,exists_eq_left']
  have w:=(Lr fs)
  by_cases h:∀f∈fs,okF f c
  ·rw[w.good c _ h]
   simp only[wI,Um,if_false,List.nil_append,VH]
   exact⟨fun e=>⟨h,e.symm⟩,fun e=>e.2.symm⟩
  ·rw[w.bad c _ h]
   simp[h]
end Go.Proofs.YtpoodoknkbojgaaGreatDoor
