/- A part of the proof. -/
import Derived.Test.YtpoodoknkbojgaaGreatDoorRP16
import Derived.Test.YtpoodoknkbojgaaGreatDoorRC1
import Derived.Test.YtpoodoknkbojgaaGreatDoorRG3
set_option linter.all false
namespace Go.Proofs.YtpoodoknkbojgaaGreatDoor
open Go.Ab
def Pre {α:Type} (ok:α→Prop) (f:α→List UInt8):Prop:=∀a b x y,ok a→ok b→f a++x=f b++y→a=b∧x=y
def eY:Nat→Nat→List UInt8
 |0,n=>[UInt8.ofNat n]
 |k+1,n=>if n<128 then [UInt8.ofNat n] else UInt8.ofNat (n%128+128)::eY k (n/128)
def iH (n:Nat):List UInt8:=eY 9 n
theorem CW {a b:Nat} (ha:a<256) (hb:b<256) (h:UInt8.ofNat a=UInt8.ofNat b):a=b:=by
 have:=congrArg UInt8.toNat h
 simp only[UInt8.toNat_ofNat'] at this
 omega
theorem Ep:∀k,Pre (fun n=>n<2*128^k∨(k=0∧n<256)) (eY k)
 |0=>by
  intro a b x y ha hb h
  simp only[Nat.pow_zero] at ha hb
  simp only[eY,List.cons_append,List.nil_append,aaf] at h
  exact⟨CW (by omega) (by omega) h.1,h.2⟩
 |k+1=>by
  intro a b x y ha hb h
  have ha':a<2*128^(k+1):=by rcases ha with h|h<;>omega
  have hb':b<2*128^(k+1):=by rcases hb with h|h<;>omega
  rw[Nat.pow_succ] at ha' hb'
  simp only[eY] at h
  by_cases h1:a<128
  ·by_cases h2:b<128
   ·rw[if_pos h1,if_pos h2] at h
    simp only[List.cons_append,List.nil_append,aaf] at h
    exact⟨CW (by omega) (by omega) h.1,h.2⟩
   ·rw[if_pos h1,if_neg h2] at h
    simp only[List.cons_append,List.nil_append,aaf] at h
    have:=CW (by omega) (by omega) h.1
    omega
  ·by_cases h2:b<128
   ·rw[if_neg h1,if_pos h2] at h
    simp only[List.cons_append,List.nil_append,aaf] at h
    have:=CW (by omega) (by omega) h.1
    omega
   ·rw[if_neg h1,if_neg h2] at h
    simp only[List.cons_append,aaf] at h
    have e1:=CW (by omega) (by omega) h.1
    obtain⟨e2,e3⟩:=Ep k (a/128) (b/128) x y (.inl (by omega)) (.inl (by omega)) h.2
    exact⟨by omega,e3⟩
theorem pJ:Pre (fun n=>n<2^64) iH:=fun a b x y ha hb h=>
 Ep 9 a b x y (.inl (by have:(2:Nat)*128^9=2^64:=by decide
                        omega)) (.inl (by have:(2:Nat)*128^9=2^64:=by decide
                                          omega)) h
def zz (v:Int):Nat:=if 0≤v then(2*v).toNat else(-2*v-1).toNat
theorem Xh {a b:Int} (h:zz a=zz b):a=b:=by
 unfold zz at h
 split at h<;>split at h<;>omega
theorem PV {v:Int} (h:aV .i64 v):zz v<2^64:=by
 simp only[aV] at h
 unfold zz
 split<;>omega
theorem Pre.comp {α β:Type} {ok:β→Prop} {f:β→List UInt8} (h:Pre ok f) {g:α→β} {ok':α→Prop} (hg:∀a,ok' a→ok (g a)) (hi:∀a b,ok' a→ok' b→g a=g b→a=b):Pre ok' (fun a=>f (g a)):=fun a b x y ha hb e=>
 let⟨e1,e2⟩:=h _ _ x y (hg a ha) (hg b hb) e
 ⟨hi a b ha hb e1,e2⟩
theorem Pre.pair {α β:Type} {ok:α→Prop} {ok':β→Prop} {f:α→List UInt8} {g:β→List UInt8} (h:Pre ok f) (h':Pre ok' g):Pre (fun p:α×β=>ok p.1∧ok' p.2) (fun p=>f p.1++g p.2):=fun a b x y ha hb e=>by
 rw[aas,aas] at e
 obtain⟨e1,e2⟩:=h _ _ _ _ ha.1 hb.1 e
 obtain⟨e3,e4⟩:=h' _ _ _ _ ha.2 hb.2 e2
 exact⟨Prod.ext e1 e3,e4⟩
def encI (v:Int):List UInt8:=iH (zz v)
theorem Hr:Pre (aV .i64) encI:=pJ.comp (fun _ h=>PV h) fun _ _ _ _ h=>Xh h
def IR (v:Int):List UInt8:=iH v.toNat
theorem Jz:Pre (aV .u64) IR:=pJ.comp (fun v h=>by simp only[aV] at h;omega) fun a b ha hb h=>by simp only[aV] at ha hb;omega
def iC (b:Bool):List UInt8:=[if b then 1 else 0]
theorem Ej:Pre (fun _=>True) iC:=fun a b x y _ _ h=>by
 simp only[iC,List.cons_append,List.nil_append,aaf] at h
 refine⟨?_,h.2⟩
 cases a<;>cases b<;>simp_all
def gK (s:abW):List UInt8:=iH s.size++s.data.toList
theorem QY:Pre (fun s=>s.size≤1024) gK:=fun a b x y ha hb h=>by
 simp only[gK,aas] at h
 obtain⟨e1,e2⟩:=pJ _ _ _ _ (show a.size<2^64 by omega) (show b.size<2^64 by omega) h
 obtain⟨e3,e4⟩:=List.append_inj e2 (by simpa using e1)
 refine⟨?_,e4⟩
 obtain⟨⟨l⟩⟩:=a
 obtain⟨⟨m⟩⟩:=b
 simp only at e3
 rw[e3]
def sJ {α:Type} (f:α→List UInt8):List α→List UInt8
 |[]=>[]
 |a::l=>f a++sJ f l
def xk {α:Type} (f:α→List UInt8) (l:List α):List UInt8:=iH l.length++sJ f l
def gQ (p:fZ):Bool:=decide (5+(p.parts.map fun x=>x.size+1).sum≤200)
theorem KI {x:abW} (h:dJ x=true):∀c∈x.data.toList,c≠47:=by
 obtain⟨_,h3⟩:=Ho h
 have h2:byteAt x 0=42:=by
  simp only[dJ,aaj,aar,abm,Bool.not_eq_false',aae] at h
  exact h.1.2
 intro c hc e
 subst e
 obtain⟨k,hk⟩:=aaX hc
 have hb:=(E5 hk).2 rfl
 cases k with
 |zero=>rw[h2] at hb;cases hb
 |succ k=>
  have hk':k+1<x.size:=by have:=(aal.1 hk).1;simpa using this
  have:=h3 (k+1) (by omega) hk'
  rw[hb,QN] at this;cases this
theorem JR {x:abW} (h:iY x=true):∀c∈x.data.toList,c≠47:=by
 simp only[iY,abe] at h
 rcases h with h|h
 ·exact KI h
 ·exact U9 (Du h)
end Go.Proofs.YtpoodoknkbojgaaGreatDoor
namespace Go.Proofs.YtpoodoknkbojgaaGreatDoor
open Go.Ab
theorem join_step (a m:List UInt8) (r:List (List UInt8)):Lib.join (a::m::r) [47]=a++47::Lib.join (m::r) [47]:=by
 rw[Lib.join_cons,Lib.join_cons]
 simp[Lib.joinTail]
theorem wQ (m:List UInt8):∀A:List (List UInt8),A≠[]→Lib.join (A++[m]) [47]=Lib.join A [47]++47::m
 |[],h=>absurd rfl h
 |[a],_=>by rw[List.cons_append,List.nil_append,join_step,Lib.join_one,Lib.join_one]
 |a::b::r,_=>by
  have ih:=wQ m (b::r) (by simp)
  rw[List.cons_append] at ih
  rw[List.cons_append,List.cons_append,join_step,ih,join_step,aas,List.cons_append]
def dots:List UInt8:=[46,46,46]
def CY (p:fZ):List (List UInt8):=p.parts.map (·.data.toList)++(if p.rest then [dots] else [])
theorem zF (a b:abW):(a++b).data.toList=a.data.toList++b.data.toList:=by
 rw[ByteArray.data_append,Array.toList_append]
theorem yK {p:fZ} (h0:p.parts≠[]):(eF p).data.toList=47::47::Lib.join (CY p) [47]:=by
 have hj:(eX p.parts slash).data.toList=Lib.join (p.parts.map (·.data.toList)) [47]:=by simp[eX,slash]
 unfold eF CY
 cases p.rest
 ·simp only[aak,if_false,aaM]
  rw[zF,hj];rfl
 ·simp only[if_true]
  rw[zF,zF,hj,wQ _ _ (by simpa using h0)];rfl
theorem Dc {p:fZ} (h:G7 p=true):∀s∈p.parts,iY s=true:=by
 intro s hs
 obtain⟨i,hi,rfl⟩:=List.getElem_of_mem hs
 obtain⟨_,_,h3,h4,_⟩:=oC.1 h
 cases i with
 |zero=>
  rw[aam,aab hi,Option.getD_some] at h3
  simp[iY,h3]
 |succ i=>exact aaC.1 h4 _ (aaL.2 ⟨i,by simp;omega,by simp[Nat.add_comm]⟩)
theorem OI {x:abW} (h:iY x=true):x.data.toList≠dots:=by
 intro e
 have hx:x=⟨⟨dots⟩⟩:=by
  obtain⟨⟨l⟩⟩:=x
  simp only at e
  rw[e]
 rw[hx] at h
 revert h
 decide+kernel
theorem UY {a b:abW} (h:a.data.toList=b.data.toList):a=b:=by
 obtain⟨⟨l⟩⟩:=a
 obtain⟨⟨m⟩⟩:=b
 simp only at h
 rw[h]
instance:DecidableEq yX:=fun a b=>decidable_of_iff (a.excl=b.excl∧a.left=b.left∧a.right=b.right) (by cases a;cases b;simp)
structure DT where
 kind:Int
 path:fZ
 frm:fZ
 deriving DecidableEq
structure Dx where
 name:abW
 parent:abW
 paths:List DT
 deriving DecidableEq
structure cO where
 kind:Int
 client:abW
 name:abW
 path:abW
 number:Int
 fence:Int
 ticks:Int
 text:abW
 stream:Dx
 rules:List yX
 edits:List mV
 recs:List iI
 deriving DecidableEq
@[reducible] def eU (x:DT):List D:=[.v (.int .i64 x.kind), .ps 1 (x.path.parts.map encS), .v (.bool x.path.rest), .ps 1 (x.frm.parts.map encS), .v (.bool x.frm.rest)]
@[reducible] def LC (x:Dx):List D:=[.v (.string x.name), .v (.string x.parent), .ps 5 (x.paths.map eU)]
@[reducible] def dZ (c:cO):List D:=[.v (.int .i64 c.kind), .v (.string c.client), .v (.string c.name), .v (.string c.path), .v (.int .i64 c.number), .v (.int .i64 c.fence), .v (.int .i64 c.ticks), .v (.string c.text),
 .v (.string c.stream.name), .v (.string c.stream.parent), .ps 5 (c.stream.paths.map eU), .ps 5 (c.rules.map dX), .ps 12 (c.edits.map eu), .ps 6 (c.recs.map dM)]
@[reducible] def X0 (x:DT):AV:= .agg ((eU x).map C.d)
@[reducible] def UC (x:Dx):AV:= .agg ((LC x).map C.d)
@[reducible] def wK (c:cO):AV:= .agg ((dZ c).map C.d)
def mG:Dx:=⟨noS,noS,[]⟩
def df:cO:=⟨0,noS,noS,noS,0,0,0,noS,mG,[],[],[]⟩
abbrev Wt:=Bool×List UInt8
structure Wr {α:Type} (f:α→Wt→Wt) (ok:α→Prop) (code:α→List UInt8):Prop where
 good:∀a w,ok a→f a w=(w.1,w.2++code a)
 bad:∀a w,¬ok a→(f a w).1=true
namespace Wr
variable {α β:Type} {f g:α→Wt→Wt} {ok ok':α→Prop} {c c':α→List UInt8}
theorem stay (h:Wr f ok c) (a:α) {w:Wt} (hw:w.1=true):(f a w).1=true:=by
 by_cases h1:ok a
 ·rw[h.good a w h1];exact hw
 ·exact h.bad a w h1
theorem seq (h:Wr f ok c) (h':Wr g ok' c'):Wr (fun a w=>g a (f a w)) (fun a=>ok a∧ok' a) (fun a=>c a++c' a) where
 good a w ha:=by rw[h.good a w ha.1,h'.good a _ ha.2,aas]
 bad a w ha:=by
  by_cases h1:ok a
  ·rw[h.good a w h1];exact h'.bad a _ fun h2=>ha ⟨h1,h2⟩
  ·exact h'.stay a (h.bad a w h1)
theorem map (h:Wr f ok c) (k:β→α):Wr (fun b=>f (k b)) (fun b=>ok (k b)) (fun b=>c (k b)):=⟨fun b=>h.good (k b),fun b=>h.bad (k b)⟩
theorem iff (h:Wr f ok c) (e:∀a,ok a↔ok' a):Wr f ok' c:=⟨fun a w ha=>h.good a w ((e a).2 ha),fun a w ha=>h.bad a w fun h=>ha ((e a).1 h)⟩
theorem inv (h:Wr f ok c) {a:α} {w:Wt} (hf:(f a w).1=false):w.1=false∧ok a∧(f a w).2=w.2++c a:=by
 by_cases h1:ok a
 ·rw[h.good a w h1] at hf⊢;exact⟨hf,h1,rfl⟩
 ·rw[h.bad a w h1] at hf;cases hf
end Wr
def wU (n:Nat) (w:Wt):Wt:=(w.1,w.2++iH n)
def wW (n:Int) (w:Wt):Wt:=(w.1,w.2++IR n)
def wI (n:Int) (w:Wt):Wt:=(w.1,w.2++encI n)
def wB (b:Bool) (w:Wt):Wt:=(w.1,w.2++iC b)
def wT (s:abW) (w:Wt):Wt:=if 1024<s.size then(true,w.2) else(w.1,w.2++gK s)
def wP (p:fZ) (w:Wt):Wt:=if G7 p&&gQ p then wT (eF p) w else(true,w.2)
def wS (p:fZ) (w:Wt):Wt:=if p.parts.length=0∧p.rest=false then wT noS w else wP p w
def wL {α:Type} (n:Nat) (f:α→Wt→Wt) (l:List α) (w:Wt):Wt:=if n<l.length then(true,w.2) else l.foldl (fun w a=>f a w) (wU l.length w)
theorem XU:Wr wW (fun _=>True) IR:=⟨fun _ _ _=>rfl,fun _ _ h=>absurd trivial h⟩
theorem lX:Wr wI (fun _=>True) encI:=⟨fun _ _ _=>rfl,fun _ _ h=>absurd trivial h⟩
theorem MS:Wr wB (fun _=>True) iC:=⟨fun _ _ _=>rfl,fun _ _ h=>absurd trivial h⟩
def lG (s:abW):Prop:=s.size≤1024
theorem pF:Wr wT lG gK:=⟨fun a w h=>by unfold lG at h;unfold wT;rw[if_neg (by omega)],fun a w h=>by unfold lG at h;unfold wT;rw[if_pos (by omega)]⟩
theorem Dl (Ls:List (List UInt8)):(Lib.join Ls [47]).length≤(Ls.map fun x=>x.length+1).sum:=by
 cases Ls with
 |nil=>simp[Lib.join]
 |cons a Ls=>
  induction Ls generalizing a with
  |nil=>rw[Lib.join_one];simp
  |cons b Ls ih=>
   rw[join_step]
   have:=ih b
   simp only[aan,List.length_cons,aax,List.sum_cons] at this⊢
   omega
theorem oP {p:fZ} (h:G7 p=true) (hs:gQ p=true):(eF p).size≤1024:=by
 have p0:p.parts≠[]:=by obtain⟨h1,_⟩:=oC.1 h;intro e;rw[e] at h1;simp at h1
 have e:(eF p).size=(eF p).data.toList.length:=by simp
 have h1:=Dl (CY p)
 simp only[gQ,aae] at hs
 have h2:((CY p).map fun x=>x.length+1).sum≤(p.parts.map fun x=>x.size+1).sum+4:=by
  simp only[CY,aa2,List.sum_append,abl]
  have e1:((fun x:List UInt8=>x.length+1)∘fun x:abW=>x.data.toList)=fun x=>x.size+1:=by funext x;simp
  rw[e1]
  split<;>simp[dots]
 rw[e,yK p0]
 simp only[List.length_cons]
 omega
def kQ (p:fZ):Prop:=G7 p=true∧gQ p=true
def CE (p:fZ):List UInt8:=gK (eF p)
theorem Jd:Wr wP kQ CE:=by
 constructor
 ·rintro p w ⟨h1,h2⟩
  unfold wP
  rw[h1,h2]
  exact pF.good _ _ (oP h1 h2)
 ·intro p w h
  unfold wP
  rw[if_neg]
  simp only[aaj]
  exact h
def GI (p:fZ):Prop:=p=jM∨kQ p
def o9 (p:fZ):List UInt8:=if p.parts.length=0∧p.rest=false then gK noS else CE p
theorem pM {p:fZ}:(p.parts.length=0∧p.rest=false)↔p=jM:=by
 obtain⟨l,r⟩:=p
 simp[jM]
theorem XD:Wr wS GI o9:=by
 constructor
 ·intro p w h
  unfold wS o9
  by_cases h0:p.parts.length=0∧p.rest=false
  ·rw[if_pos h0,if_pos h0];exact pF.good _ _ (by simp[lG,noS];decide)
  ·rw[if_neg h0,if_neg h0]
   rcases h with h|h
   ·exact absurd (pM.2 h) h0
   ·exact Jd.good _ _ h
 ·intro p w h
  unfold wS
  rw[if_neg fun h0=>h (.inl (pM.1 h0))]
  exact Jd.bad _ _ fun h1=>h (.inr h1)
theorem Au {α:Type} {f:α→Wt→Wt} {ok:α→Prop} {c:α→List UInt8} (h:Wr f ok c):∀(l:List α) (w:Wt),w.1=true→(l.foldl (fun w a=>f a w) w).1=true
 |[],_,hw=>hw
 |a::l,w,hw=>Au h l _ (h.stay a hw)
theorem VC {α:Type} {f:α→Wt→Wt} {ok:α→Prop} {c:α→List UInt8} (h:Wr f ok c):Wr (fun l w=>l.foldl (fun w a=>f a w) w) (fun l=>∀a∈l,ok a) (sJ c):=by
 constructor
 ·intro l
  induction l with
  |nil=>intro w _;simp[sJ]
  |cons a l ih=>
   intro w hl
   rw[List.foldl_cons,h.good a w (hl a (by simp)),ih _ fun b hb=>hl b (by simp[hb])]
   simp[sJ]
 ·intro l
  induction l with
  |nil=>intro w hl;exact absurd (fun a ha=>by cases ha) hl
  |cons a l ih=>
   intro w hl
   rw[List.foldl_cons]
   by_cases ha:ok a
   ·exact ih _ fun h2=>hl fun b hb=>by
     rcases Z9.1 hb with rfl|hb
     ·exact ha
     ·exact h2 b hb
   ·exact Au h l _ (h.bad a w ha)
theorem Nv {α:Type} {f:α→Wt→Wt} {ok:α→Prop} {c:α→List UInt8} (h:Wr f ok c) (n:Nat):Wr (wL n f) (fun l=>l.length≤n∧∀a∈l,ok a) (xk c):=by
 constructor
 ·intro l w hl
  unfold wL
  rw[if_neg (by omega),(VC h).good l _ hl.2]
  simp[wU,xk]
 ·intro l w hl
  unfold wL
  by_cases hn:n<l.length
  ·rw[if_pos hn]
  ·rw[if_neg hn]
   exact(VC h).bad l _ fun h2=>hl ⟨by omega,h2⟩
def wY (e:mV) (w:Wt):Wt:=wB e.xe (wB e.ex (wB e.kw (wI e.base w)))
def lV (e:mV) (w:Wt):Wt:=wI e.fence (wI e.fnum (wT e.frm (wI e.prev (wI e.size (wW e.sum (wY e (wI e.act (wT e.path w))))))))
def lT (r:iI) (w:Wt):Wt:=wI r.how (wI r.num (wT r.to (wI r.last (wI r.first (wT r.frm w)))))
def lQ (r:yX) (w:Wt):Wt:=wP r.right (wP r.left (wB r.excl w))
def kU (x:DT) (w:Wt):Wt:=wS x.frm (wP x.path (wI x.kind w))
def Ik (x:Dx) (w:Wt):Wt:=wL 12 kU x.paths (wT x.parent (wT x.name w))
def Tn (e:mV):List UInt8:=encI e.base++iC e.kw++iC e.ex++iC e.xe
def uO (e:mV):List UInt8:=gK e.path++encI e.act++Tn e++IR e.sum++encI e.size++encI e.prev++gK e.frm++encI e.fnum++encI e.fence
def uZ (r:iI):List UInt8:=gK r.frm++encI r.first++encI r.last++gK r.to++encI r.num++encI r.how
def vV (r:yX):List UInt8:=iC r.excl++CE r.left++CE r.right
def vC (x:DT):List UInt8:=encI x.kind++CE x.path++o9 x.frm
def zD (x:Dx):List UInt8:=gK x.name++gK x.parent++xk vC x.paths
theorem Yi:Wr wY (fun _=>True) Tn:=((((lX.map mV.base).seq (MS.map mV.kw)).seq (MS.map mV.ex)).seq (MS.map mV.xe)).iff fun a=>by simp
theorem TM:Wr lV (fun e=>lG e.path∧lG e.frm) uO:=
 (((((((((pF.map mV.path).seq (lX.map mV.act)).seq Yi).seq (XU.map mV.sum)).seq (lX.map mV.size)).seq (lX.map mV.prev)).seq (pF.map mV.frm)).seq (lX.map mV.fnum)).seq (lX.map mV.fence)).iff fun a=>by simp
theorem Vw:Wr lT (fun e=>lG e.frm∧lG e.to) uZ:=
 ((((((pF.map iI.frm).seq (lX.map iI.first)).seq (lX.map iI.last)).seq (pF.map iI.to)).seq (lX.map iI.num)).seq (lX.map iI.how)).iff fun a=>by simp
theorem TW:Wr lQ (fun e=>kQ e.left∧kQ e.right) vV:=(((MS.map yX.excl).seq (Jd.map yX.left)).seq (Jd.map yX.right)).iff fun a=>by simp
theorem TS:Wr kU (fun e=>kQ e.path∧GI e.frm) vC:=(((lX.map DT.kind).seq (Jd.map DT.path)).seq (XD.map DT.frm)).iff fun a=>by simp
def MK (x:Dx):Prop:=lG x.name∧lG x.parent∧x.paths.length≤12∧∀e∈x.paths,kQ e.path∧GI e.frm
theorem TN:Wr Ik MK zD:=(((pF.map Dx.name).seq (pF.map Dx.parent)).seq ((Nv TS 12).map Dx.paths)).iff fun a=>by simp[MK,and_assoc]
def wF:Nat→cO→Wt→Wt
 |0,c=>wT c.client
 |1,c=>wT c.name
 |2,c=>wT c.path
 |3,c=>wI c.number
 |4,c=>wI c.fence
 |5,c=>wI c.ticks
 |6,c=>wT c.text
 |7,c=>Ik c.stream
 |8,c=>wL 16 lQ c.rules
 |9,c=>wL 64 lV c.edits
 |10,c=>wL 64 lT c.recs
 |_,_=>id
def okF:Nat→cO→Prop
 |0,c=>lG c.client
 |1,c=>lG c.name
 |2,c=>lG c.path
 |6,c=>lG c.text
 |7,c=>MK c.stream
 |8,c=>c.rules.length≤16∧∀e∈c.rules,kQ e.left∧kQ e.right
 |9,c=>c.edits.length≤64∧∀e∈c.edits,lG e.path∧lG e.frm
 |10,c=>c.recs.length≤64∧∀e∈c.recs,lG e.frm∧lG e.to
 |_,_=>True
def codeF:Nat→cO→List UInt8
 |0,c=>gK c.client
 |1,c=>gK c.name
 |2,c=>gK c.path
 |3,c=>encI c.number
 |4,c=>encI c.fence
 |5,c=>encI c.ticks
 |6,c=>gK c.text
 |7,c=>zD c.stream
 |8,c=>xk vV c.rules
 |9,c=>xk uO c.edits
 |10,c=>xk uZ c.recs
 |_,_=>[]
theorem Yc:∀f,Wr (wF f) (okF f) (codeF f)
 |0=>pF.map cO.client
 |1=>pF.map cO.name
 |2=>pF.map cO.path
 |3=>lX.map cO.number
 |4=>lX.map cO.fence
 |5=>lX.map cO.ticks
 |6=>pF.map cO.text
 |7=>TN.map cO.stream
 |8=>(Nv TW 16).map cO.rules
 |9=>(Nv TM 64).map cO.edits
 |10=>(Nv Vw 64).map cO.recs
 |n+11=>⟨fun a w _=>by simp[wF,codeF],fun a w h=>absurd (by simp[okF]) h⟩
def BP:List (Int×List Nat):=[(1,[7]),(2,[0,1,8]),(3,[0,6]),(4,[0,3,9,10]),(5,[0,3]),(6,[0,3,1]),(7,[0,3]),(8,[0,3]),(9,[0,2,5]),(10,[0,2,4,5]),(11,[0,2,4]),(12,[2]),(13,[5]),(14,[0,3])]
def nz (k:Int):Option (List Nat):=(BP.find? fun e=>e.1=k).map (·.2)
def RN (fs:List Nat) (c:cO) (w:Wt):Wt:=fs.foldl (fun w f=>wF f c w) w
def iT (fs:List Nat) (c:cO):List UInt8:=fs.flatMap fun f=>codeF f c
theorem JY:∀fs,Wr (RN fs) (fun c=>∀f∈fs,okF f c) (iT fs)
 |[]=>⟨fun a w _=>by simp[RN,iT],fun a w h=>absurd (fun f hf=>by cases hf) h⟩
 |f::fs=>by
  have:=(Yc f).seq (JY fs)
  refine⟨fun a w h=>?_,fun a w h=>?_⟩
  ·have h2:=this.good a w ⟨h f (by simp),fun g hg=>h g (by simp[hg])⟩
   simpa[RN,iT] using h2
  ·exact this.bad a w fun h2=>h fun g hg=>by
    rcases Z9.1 hg with rfl|hg
    ·exact h2.1
    ·exact h2.2 g hg
def zl (c:cO):Option (List UInt8):=
 match nz c.kind with
 |none=>none
 |some fs=>if(RN fs c (wI c.kind (false,[]))).1 then none else some (RN fs c (wI c.kind (false,[]))).2
theorem mW {c:cO} {l:List UInt8}:zl c=some l↔∃fs,nz c.kind=some fs∧(∀f∈fs,okF f c)∧l=encI c.kind++iT fs c:=by
 unfold zl
 cases hk:nz c.kind with
 |none=>simp
 |some fs=>
  simp only[abB,exists_eq_left']
  have w:=(JY fs)
  by_cases h:∀f∈fs,okF f c
  ·rw[w.good c _ h]
   simp only[wI,aak,if_false,List.nil_append,abB]
   exact⟨fun e=>⟨h,e.symm⟩,fun e=>e.2.symm⟩
  ·rw[w.bad c _ h]
   simp[h]
end Go.Proofs.YtpoodoknkbojgaaGreatDoor
namespace Go.Proofs.YtpoodoknkbojgaaGreatDoor
section
open Go.Ab
theorem Bo {H:Type} {d:DataW H}:∀{l:List (DataW H)},d∈l→Rows.uptoBulk d≤Rows.uptoBulkAll l
 |[],h=>by cases h
 |x::l,h=>by
  simp only[Rows.uptoBulkAll]
  rcases Z9.1 h with rfl|h
  ·omega
  ·have:=Bo h;omega
theorem bg {H:Type} {xs:List (DataW H×List MemPlace)} {i:Nat} {b:DataW H×List MemPlace} (h:xs[i]? =some b):Rows.uptoBulk b.1≤Rows.uptoBulkAll (xs.map (·.1)):=
 Bo (aaD.2 ⟨b,aah h,rfl⟩)
theorem H7 {H:Type}:∀{xs:List (DataW H)} {i j:Nat} {b c:DataW H},i<j→xs[i]? =some b→xs[j]? =some c→Rows.uptoBulk b+Rows.uptoBulk c≤Rows.uptoBulkAll xs
 |[],i,j,b,c,_,h,_=>by simp at h
 |x::l,0,j+1,b,c,_,hb,hc=>by
  simp at hb;subst hb
  have:=Bo (aah (by simpa using hc:l[j]? =some c))
  simp only[Rows.uptoBulkAll];omega
 |x::l,i+1,j+1,b,c,hij,hb,hc=>by
  have:=H7 (xs:=l) (i:=i) (j:=j) (by omega) (by simpa using hb) (by simpa using hc)
  simp only[Rows.uptoBulkAll];omega
theorem Fg {H:Type} {xs:List (DataW H×List MemPlace)} {i j:Nat} {b c:DataW H×List MemPlace} (hij:i<j) (hb:xs[i]? =some b) (hc:xs[j]? =some c):Rows.uptoBulk b.1+Rows.uptoBulk c.1≤Rows.uptoBulkAll (xs.map (·.1)):=
 H7 hij (by rw[aaH,hb];rfl) (by rw[aaH,hc];rfl)
def mE (e:mV):Nat:=e.path.size+e.frm.size+1
def mR (r:iI):Nat:=r.frm.size+r.to.size+1
theorem xX {α:Type} {m:α→Nat}:∀{l:List α} {x:α},x∈l→m x≤(l.map m).sum
 |[],x,h=>by cases h
 |y::l,x,h=>by
  simp only[aax,List.sum_cons]
  rcases Z9.1 h with rfl|h
  ·omega
  ·have:=xX (m:=m) h;omega
theorem qZ {α:Type} {m:α→Nat} (hm:∀x,1≤m x):∀l:List α,l.length≤(l.map m).sum
 |[]=>by simp
 |y::l=>by
  have:=qZ hm l
  have:=hm y
  simp only[aax,List.sum_cons,List.length_cons];omega
def mS (s:abW):Nat:=s.size+1
def mP (p:fZ):Nat:=(p.parts.map mS).sum+2
theorem TL {H:Type} {enc:TypeId×Value→H} {w:World} {fuel:Nat} {cs:List Value} {d:DataW H} {p:List MemPlace} (h:tr enc w fuel 53 cs=some (d,p)):∃(l:List abW) (v:Value),cs=[v]∧aS uo w (.ps 1 (l.map encS)) v∧(l.map mS).sum+1≤Rows.uptoBulk d:=
 Bj Tryz.underlying53 (by kernel_rfl) (by omega) (fun _ _ _ _ h=>by
  obtain⟨s,e,k⟩:=lm Tryz.underlying9 h
  subst e
  exact⟨s, .cons (.v _ rfl) .nil,by simp only[mS];omega⟩) h
theorem Gn {H:Type} {enc:TypeId×Value→H} {w:World} {fuel:Nat} {cs:List Value} {d:DataW H} {p:List MemPlace} (h:tr enc w fuel 55 cs=some (d,p)):∃(l:List abW) (v:Value) (b:Bool),cs=[v, .bool b]∧aS uo w (.ps 1 (l.map encS)) v∧mP ⟨l,b⟩≤Rows.uptoBulk d:=by
 obtain⟨hl,f,xs,hm,rfl⟩:=gZ Tryz.underlying55 h
 rw[show Tryz.prog.cellsOf 55=2 by kernel_rfl] at hl
 obtain⟨c0,c1,rfl⟩:∃c0 c1,cs=[c0,c1]:=by
  rcases cs with _|⟨a0,_|⟨a1,_|⟨az,cs⟩⟩⟩
  all_goals simp at hl
  exact⟨_,_,rfl⟩
 obtain⟨_,hg⟩:=gU hm
 obtain⟨b0,g0,e0⟩:=hg 0 _ rfl
 rw[show(([c0,c1]:List Value).drop 0).take (Tryz.prog.cellsOf 53)=[c0] by rw[show Tryz.prog.cellsOf 53=1 by kernel_rfl];rfl] at e0
 obtain⟨b1,g1,e1⟩:=hg 1 _ rfl
 rw[show(([c0,c1]:List Value).drop 1).take (Tryz.prog.cellsOf 4)=[c1] by rw[show Tryz.prog.cellsOf 4=1 by kernel_rfl];rfl] at e1
 obtain⟨l,v,h0,q0,k0⟩:=TL e0
 simp only[aaf,aao] at h0;subst h0
 have r0:=bg g0
 obtain⟨b,h1⟩:=uN Tryz.underlying4 e1
 simp only[aaf,aao] at h1;subst h1
 exact⟨l,_,b,rfl,q0,by simp only[Rows.uptoBulk,mP];omega⟩
end
section
open Go.Ab
variable [Dr]
@[reducible] def stA (a:Nat) (w:Wt):List (Nat×AO):=[(2000, .box [.ms a 1 0 w.2.length, .d (.v (.bool w.1))]),(a,aC 1 (w.2.map bU))]
@[reducible] def stB (a b:Nat) (w:Wt):List (Nat×AO):=[(2000, .box [.ms b 1 0 w.2.length, .d (.v (.bool w.1))]),(a, .dead),(b,aC 1 (w.2.map bU))]
def pl (v:AV):Prop:=(∀σ,bF σ v=v)∧∀dom,aA dom v
omit [Dr] in
theorem Fz (x:D):pl (.c (.d x)):=⟨fun _=>rfl,fun _=>trivial⟩
omit [Dr] in
theorem oD (l:List D):pl (.agg (l.map C.d)):=⟨fun σ=>congrArg AV.agg (KJ σ l),fun dom=>by simp[aA]⟩
omit [Dr] in
theorem Wl:pl (.tup []):=⟨fun _=>rfl,fun _=>trivial⟩
omit [Dr] in
theorem H6 (σ:Nat→Nat) (sz:Nat) (ys:List (List D)):aX σ (aC sz ys)=aC sz ys:=by
 simp only[aC,aX,abl]
 congr 1
 apply abn
 intro l _
 exact KJ σ l
omit [Dr] in
theorem MX (dom:Nat→Bool) (sz:Nat) (ys:List (List D)):aN dom (aC sz ys):=by
 simp only[aC,aN]
 induction ys with
 |nil=>trivial
 |cons y ys ih=>rw[aax,List.flatten_cons];exact au.2 ⟨by simp,ih⟩
theorem QX {P:Program} {f:FuncId} {xs:List AV} {r0:AV} {w w':Wt} (h:AC P f (.c (.ptr 2000 0)::xs) (stA 2001 w) (fun r st=>r=r0∧st=stB 2001 2002 w')) (hx:∀v∈xs,pl v) (hr:pl r0)
 {a b:Nat} (ha:a≠2000) (hb:b≠2000) (hab:a≠b):AC P f (.c (.ptr 2000 0)::xs) (stA a w) (fun r st=>r=r0∧st=stB a b w'):=by
 obtain⟨σ,τ,h1,h2,e0,ea,eb⟩:=VH ha hb hab
 have t0:τ 2000=2000:=by rw[←e0,h2,e0]
 have ta:τ a=2001:=by rw[←ea,h2]
 have tb:τ b=2002:=by rw[←eb,h2]
 refine P8 h1 h2 h ?_ (by simp) ?_ ?_ ?_ ?_ ?_
 ·intro p hp
  simp only[Z9,aad,aaw] at hp
  rcases hp with rfl|rfl
  ·simp[e0,Ab.get,aX,bP,ea]
  ·simp only[ea,Ab.get,Ne.symm ha,if_false,if_true,H6]
 ·intro p hp
  simp only[Z9,aad,aaw] at hp
  rcases hp with rfl|rfl
  ·simp[aN,ax,bi,ae,Ab.get]
  ·exact MX _ _ _
 ·intro id hid
  simp only[ae,Ab.get] at hid
  by_cases c0:2000=id
  ·subst c0;rw[t0];rfl
  ·by_cases c1:a=id
   ·subst c1;rw[ta];rfl
   ·simp[c0,c1] at hid
 ·rw[aax]
  congr 1
  ·simp[bF,bP,e0]
  ·conv=>lhs;rw[←List.map_id xs]
   exact(abn fun v hv=>((hx v hv).1 σ).symm)
 ·intro v hv
  rcases Z9.1 hv with rfl|hv
  ·simp[aA,bi,ae,Ab.get]
  ·exact(hx v hv).2 _
 ·rintro r0' st0 ⟨rfl,rfl⟩
  refine⟨r0',stB a b w',⟨rfl,rfl⟩,?_,?_,?_,(hr.1 τ).symm,hr.2 _,?_⟩
  ·intro p hp
   simp only[Z9,aad,aaw] at hp
   rcases hp with rfl|rfl|rfl
   ·simp[t0,Ab.get,aX,bP,tb]
   ·simp[ta,Ab.get,aX]
   ·simp only[tb,Ab.get,H6];rfl
  ·simp[Ne.symm ha,Ne.symm hb,hab]
  ·intro p hp
   simp only[Z9,aad,aaw] at hp
   rcases hp with rfl|rfl|rfl
   ·simp[aN,ax,bi,ae,Ab.get,Ne.symm hb,hab]
   ·trivial
   ·exact MX _ _ _
  ·intro id hid
   simp only[ae,Ab.get] at hid⊢
   by_cases c0:2000=id
   ·simp[c0]
   ·by_cases c1:a=id
    ·simp[c0,c1]
    ·simp[c0,c1] at hid
theorem bZ {P:Program} {x:X} {c:Code} {s:S} {Q:Exit→S→Prop} (h:T P x c s (fun e s=>∃s1,mZ x s s1∧Q e s1)):T P x c s Q:=
 BJ h fun _ _ ⟨s1,he,hq⟩ a w hs=>⟨s1,hq,he a w hs⟩
structure EC (P:Program) (f:FuncId) (xs:List AV) (g:Wt→Wt):Prop where
 ac:∀(a b:Nat) (w:Wt),a≠2000→b≠2000→a≠b→(g w).2.length≤1000000000→AC P f (.c (.ptr 2000 0)::xs) (stA a w) (fun r st=>r= .tup []∧st=stB a b (g w))
 mo:∀w,w.2.length≤(g w).2.length
theorem jU {P:Program} {f:FuncId} {xs:List AV} {g:Wt→Wt} (mo:∀w,w.2.length≤(g w).2.length) (hx:∀v∈xs,pl v)
 (h:∀w,(g w).2.length≤1000000000→AC P f (.c (.ptr 2000 0)::xs) (stA 2001 w) (fun r st=>r= .tup []∧st=stB 2001 2002 (g w))):EC P f xs g:=
 ⟨fun _ _ w ha hb hab hl=>QX (h w hl) hx Wl ha hb hab,mo⟩
end
section
open Go.Ab
theorem jy {s t:abW}:dF s t=true↔∃r,s=r++t:=by
 simp only[dF,aaj,aae]
 constructor
 ·rintro⟨h1,h2⟩
  refine⟨s.extract 0 (s.size-t.size),?_⟩
  conv=>rhs;arg 2;rw[←h2]
  rw[abu]
  simp
 ·rintro⟨r,rfl⟩
  refine⟨by rw[aa9];omega,?_⟩
  have:(r++t).size-t.size=r.size:=by rw[aa9];omega
  rw[this]
  exact KU r t
theorem Jk (s:abW):dF s s=true:=jy.2 ⟨ByteArray.empty,by simp⟩
theorem vI {a b c:abW} (h1:dF a b=true) (h2:dF b c=true):dF a c=true:=by
 obtain⟨r,rfl⟩:=jy.1 h1
 obtain⟨q,rfl⟩:=jy.1 h2
 exact jy.2 ⟨r++q,by rw[ByteArray.append_assoc]⟩
theorem yf {s t:abW} (h:dF s t=true):t.size≤s.size:=by
 simp only[dF,aaj,aae] at h;exact h.1
theorem ut {a:abW} {n k:Nat} (h:k<n) (hn:n≤a.size):byteAt (a.extract 0 n) k=byteAt a k:=by
 have h2:k<a.data.size:=by have:a.data.size=a.size:=rfl;omega
 simp only[byteAt,abz,aaF,Array.getElem?_extract]
 rw[if_pos (by have e:a.data.size=a.size:=rfl;omega)]
 simp
theorem Rk {c:abW} (hc:comp c=true) {n:Nat} (hn:n≤c.size):comp (c.extract 0 n)=decide (0<n):=by
 by_cases h:0<n
 ·rw[aaV h]
  obtain⟨c1,c2⟩:=SB hc
  have hs:(c.extract 0 n).size=n:=by rw[aby];omega
  refine UG (by omega) (by rw[ut h hn];exact c2) ?_
  intro k hk
  rw[ut (by omega) hn]
  exact Du hc k (by omega)
 ·have:n=0:=by omega
  subst this
  have e:c.extract 0 0=ByteArray.empty:=by simp
  rw[e]
  decide
theorem ET {x c:abW} (hx:dJ x=true) (hc:comp c=true):(Q6 x c).2=(dF c (JI x)&&decide ((JI x).size<c.size)):=by
 simp only[Q6,if_pos hx]
 cases h:dF c (JI x) with
 |false=>simp
 |true=>
  have:=yf h
  rw[if_pos rfl,Rk hc (by omega)]
  simp
  omega
theorem yY {x:abW} (h:iY x=true):(dJ x=true)∨(dJ x=false∧comp x=true):=by
 unfold iY at h
 cases hs:dJ x with
 |true=>exact .inl rfl
 |false=>rw[hs] at h;exact .inr ⟨rfl,h⟩
theorem IA {x:abW} (hx:iY x=true):gJ x x=true:=by
 rcases yY hx with h|⟨h,_⟩
 ·simp[gJ,h,Jk]
 ·simp[gJ,h]
theorem Gy {x y z:abW} (hx:iY x=true) (h1:gJ x y=true) (h2:gJ y z=true):gJ x z=true:=by
 cases hz:dJ z with
 |false=>
  simp[gJ,hz] at h2
  subst h2;exact h1
 |true=>
  cases hy:dJ y with
  |false=>
   simp[gJ,hy] at h1
   subst h1;exact h2
  |true=>
   have h3:dF (JI y) (JI z)=true:=by simpa[gJ,hy,hz] using h2
   rcases yY hx with h|⟨h,hc⟩
   ·have h4:dF (JI x) (JI y)=true:=by simpa[gJ,hy,h] using h1
    simpa[gJ,h,hz] using vI h4 h3
   ·have h4:(Q6 y x).2=true:=by simpa[gJ,hy,h] using h1
    rw[ET hy hc] at h4
    simp only[aaj,aae] at h4
    have h5:=yf h3
    have:(Q6 z x).2=true:=by
     rw[ET hz hc]
     simp only[aaj,aae]
     exact⟨vI h4.1 h3,by omega⟩
    simpa[gJ,h,hz] using this
def Nw (p:fZ):Prop:=∀i,i<p.parts.length→iY (p.parts.getD i noS)=true
structure Xw (p q:fZ):Prop where
 len:q.parts.length≤p.parts.length
 fix:q.rest=false→p.rest=false∧p.parts.length=q.parts.length
 rst:q.rest=true→p.parts.length=q.parts.length→p.rest=true
 ins:∀i,i<q.parts.length→gJ (p.parts.getD i noS) (q.parts.getD i noS)=true
theorem Xw.refl {p:fZ} (h:Nw p):Xw p p:=⟨aat _,fun h=>⟨h,rfl⟩,fun h _=>h,fun i hi=>IA (h i hi)⟩
theorem Xw.trans {p q r:fZ} (hp:Nw p) (h1:Xw p q) (h2:Xw q r):Xw p r:=by
 refine⟨aav h2.len h1.len,?_,?_,?_⟩
 ·intro hr
  obtain⟨a,b⟩:=h2.fix hr
  obtain⟨c,e⟩:=h1.fix a
  exact⟨c,by omega⟩
 ·intro hr hl
  have a:=h1.len
  have b:=h2.len
  exact h1.rst (h2.rst hr (by omega)) (by omega)
 ·intro i hi
  have b:=h2.len
  have a:=h1.len
  exact Gy (hp i (by omega)) (h1.ins i (by omega)) (h2.ins i hi)
structure G8 (e:mV):Prop where
 act:aV .i64 e.act
 base:aV .i64 e.base
 sum:aV .u64 e.sum
 size:aV .i64 e.size
 prev:aV .i64 e.prev
 fnum:aV .i64 e.fnum
 fence:aV .i64 e.fence
structure LH (r:iI):Prop where
 first:aV .i64 r.first
 last:aV .i64 r.last
 num:aV .i64 r.num
 how:aV .i64 r.how
structure DX (c:cO):Prop where
 kind:aV .i64 c.kind
 number:aV .i64 c.number
 fence:aV .i64 c.fence
 ticks:aV .i64 c.ticks
 paths:∀x∈c.stream.paths,aV .i64 x.kind
 edits:∀e∈c.edits,G8 e
 recs:∀r∈c.recs,LH r
theorem Ou:¬kQ jM:=by
 rintro⟨h,_⟩
 obtain⟨h1,_⟩:=oC.1 h
 simp[jM] at h1
theorem xy {p:fZ} (h:GI p):o9 p=gK (if p=jM then noS else eF p):=by
 unfold o9
 by_cases h0:p=jM
 ·rw[if_pos (pM.2 h0),if_pos h0]
 ·rw[if_neg fun h=>h0 (pM.1 h),if_neg h0];rfl
theorem OH {p:fZ} (h:G7 p=true):eF p≠noS:=by
 intro e
 have p0:p.parts≠[]:=by obtain⟨h1,_⟩:=oC.1 h;intro e;rw[e] at h1;simp at h1
 have:=yK p0
 rw[e] at this
 cases this
def eqF:Nat→cO→cO→Prop
 |0,c,d=>c.client=d.client
 |1,c,d=>c.name=d.name
 |2,c,d=>c.path=d.path
 |3,c,d=>c.number=d.number
 |4,c,d=>c.fence=d.fence
 |5,c,d=>c.ticks=d.ticks
 |6,c,d=>c.text=d.text
 |7,c,d=>c.stream=d.stream
 |8,c,d=>c.rules=d.rules
 |9,c,d=>c.edits=d.edits
 |10,c,d=>c.recs=d.recs
 |_,_,_=>True
theorem EF {c d:cO}:∀fs,(∀f∈fs,eqF f c d)→iT fs c=iT fs d
 |[],_=>rfl
 |f::fs,h=>by
  have e1:=h f (by simp)
  have e2:=EF fs fun g hg=>h g (by simp[hg])
  unfold iT at e2⊢
  rw[List.flatMap_cons,List.flatMap_cons,e2]
  congr 1
  revert e1
  rcases f with _|_|_|_|_|_|_|_|_|_|_|f<;>intro e1<;>simp only[eqF] at e1<;>simp only[codeF]<;>rw[e1]
def dG (c:cO):cO:=
 if c.kind=1 then {df with kind:=c.kind,stream:=c.stream}
 else if c.kind=12 then {df with kind:=c.kind,path:=c.path}
 else if c.kind=13 then {df with kind:=c.kind,ticks:=c.ticks}
 else if c.kind=2 then {df with kind:=c.kind,client:=c.client,name:=c.name,rules:=c.rules}
 else if c.kind=3 then {df with kind:=c.kind,client:=c.client,text:=c.text}
 else if c.kind=4 then {df with kind:=c.kind,client:=c.client,number:=c.number,edits:=c.edits,recs:=c.recs}
 else if c.kind=5∨c.kind=14∨c.kind=7∨c.kind=8 then {df with kind:=c.kind,client:=c.client,number:=c.number}
 else if c.kind=6 then {df with kind:=c.kind,client:=c.client,number:=c.number,name:=c.name}
 else if c.kind=9 then {df with kind:=c.kind,client:=c.client,path:=c.path,ticks:=c.ticks}
 else if c.kind=10 then {df with kind:=c.kind,client:=c.client,path:=c.path,fence:=c.fence,ticks:=c.ticks}
 else if c.kind=11 then {df with kind:=c.kind,client:=c.client,path:=c.path,fence:=c.fence}
 else {df with kind:=c.kind,client:=c.client}
theorem mD {k:Int} {fs:List Nat} (h:nz k=some fs):(k,fs)∈BP:=by
 unfold nz at h
 obtain⟨e,he,rfl⟩:=aap.1 h
 have:=List.find?_some he
 have hm:=List.mem_of_find?_eq_some he
 simp only[aae] at this
 subst this
 exact hm
end
end Go.Proofs.YtpoodoknkbojgaaGreatDoor
set_option linter.all false
namespace Go.Ab
variable [Dr]
def Xu (p:Bool×List C):Bool:=p.2.all MC
def O7:AO→Bool
 | .box cs=>cs.all MC
 | .arr _ xs=>xs.flatten.all MC
 | .map es=>es.all fun e=>Xu e.1&&Xu e.2
 | .dead=>true
 |_=>false
section
variable {P:Program} {x:X}
theorem NF {k k':K} (hb:k'.bl=k.bl) (hc:k'.cap=k.cap) (hd:k'.dom=k.dom) {p:Bool×List C} {v:Value} (h:Xu p=true) (hr:dC (ai k) p v):dC (ai k') p v:=by
 obtain⟨f,cs⟩:=p
 cases f with
 |true=>
  obtain⟨vs,e,hr⟩:=(show ∃vs:List Value,v= .agg vs.toArray∧aj (ai k) cs vs from hr)
  exact(show dC (ai k') (true,cs) v from⟨vs,e,vG hb hc hd h hr⟩)
 |false=>
  obtain⟨⟨y,e,hr1⟩,hn⟩:=(show(∃y,cs=[y]∧ai k y v)∧∀cs,v≠ .agg cs from hr)
  subst e
  simp[Xu] at h
  exact(show dC (ai k') (false,[y]) v from⟨⟨y,rfl,Gq hb hc hd h hr1⟩,hn⟩)
theorem aP.shut2 {bl:Nat→List Nat} {cap:Nat→Nat} {st:List (Nat×AO)} {w:World} {D:Nat} (hs:aP x bl cap st w) (hf:∀id o,get st id=some o→O7 o=true) (hM:¬(mkK x bl cap st w).M D) (hD:x.w0.heap.size≤D) (o:Obj):aP x bl cap st (w.putObj D o):=by
 have other:∀{id:Nat} {ob:AO} {b:Nat},get st id=some ob→ob.bf=true→b∈bl id→b≠D:=fun h1 h2 h3 e=>hM (.inl ⟨_,_,h1,h2,by rw[←e];exact h3⟩)
 refine⟨?_,hs.disj,hs.nodup,hs.new,fun b hb=>by simp only[World.putObj];simp;exact hs.lt b hb,?_,hs.keep,hs.xok⟩
 ·intro id ob ho
  have h0:=hs.objs id ob ho
  have hw:=hf id ob ho
  cases ob with
  |box cs=>
   obtain⟨b,T,vs,h1,h2,h3⟩:=h0
   simp only[mkK] at h1
   refine⟨b,T,vs,h1,?_,vG (k:=mkK x bl cap st w) (k':=mkK x bl cap st (w.putObj D o)) rfl rfl rfl hw h3⟩
   exact(World.putObj_heap_other (other ho rfl (by rw[h1];simp))).trans h2
  |arr sz xs=>
   obtain⟨h1,h2,h3,h4⟩:=h0
   refine⟨h1,h2,h3,?_⟩
   rcases h4 with h4|⟨b,T,vs,a1,a2,a3,a4⟩
   ·exact .inl h4
   ·simp only[mkK] at a1
    refine .inr ⟨b,T,vs,a1,(World.putObj_heap_other (other ho rfl (by rw[a1];simp))).trans a2,a3,vG (k:=mkK x bl cap st w) (k':=mkK x bl cap st (w.putObj D o)) rfl rfl rfl hw a4⟩
  |map es=>
   obtain⟨b,ents,clock,h1,h2,h3,h4⟩:=h0
   simp only[mkK] at h1
   refine⟨b,ents,clock,h1,(World.putObj_heap_other (other ho rfl (by rw[h1];simp))).trans h2,h3,?_⟩
   replace hw:(es.all fun e=>Xu e.1&&Xu e.2)=true:=hw
   clear h2 h3 ho
   induction h4 with
   |nil=>exact .nil
   |cons h _ ih=>
    simp only[List.all_cons,aaj] at hw
    exact .cons ⟨NF (k:=mkK x bl cap st w) (k':=mkK x bl cap st (w.putObj D o)) rfl rfl rfl hw.1.1 h.1,NF (k:=mkK x bl cap st w) (k':=mkK x bl cap st (w.putObj D o)) rfl rfl rfl hw.1.2 h.2⟩ (ih hw.2)
  |dead=>trivial
  |_=>simp[O7] at hw
 ·refine⟨by simp only[World.putObj];simp;exact hs.fr.size,fun b hb hm=>?_,hs.fr.os,hs.fr.output,hs.fr.tape,hs.fr.drawn⟩
  rw[World.putObj_heap_other (by omega)]
  exact hs.fr.heap b hb hm
def YV (P:Program) (rs:List ResultVar) (x:X) (R:AV→List (Nat×AO)→Prop):Exit→S→Prop:=fun e s=>
 (e= .ret∨e= .normal)∧∃s1,mZ x s s1∧(∀id o,get s1.st id=some o→O7 o=true)∧(∀i v,get s1.env i=some v→KN v=true)∧∃r obl,zx P rs s1=some (r,obl)∧All obl∧
   ∃st',Wq x (fun i=>i) s1.st st'∧aA (ae st') r∧R r st'
theorem PO {f:FuncId} {fn:Func} {c:Code} {args:List AV} {st:List (Nat×AO)} {R:AV→List (Nat×AO)→Prop} (hf:P.funcs[f]? =some fn) (hb:fn.body=some c)
 (hname:(fn.name=="runtime.NumGoroutine")=false) (hlen:args.length≤fn.ntmps)
 (h:∀x:X,x.rf=true→(∀id,x.d0 id→ae st id=true)→T P x c ⟨fn.ntmps,(List.range args.length).zip args,st⟩ (YV P fn.results.toList x R)):AC P f args st R:=by
 refine⟨⟨fn,hf,hname,by rw[hb];rfl⟩,fun bl cap F w us hs ha=>?_⟩
 refine callsIn_wide.1 (callsIn_of_wp_marks (n:=1) hf hb trivial (wpIn_wide.2 ?_))
 obtain⟨y,hy⟩:∃y:X,y={X.start bl cap F st w with rf:=true}:=⟨_,rfl⟩
 have hx:=h y (by rw[hy]) (fun id h=>by rw[hy] at h;exact h)
 have hl:=ha.length
 have hsx:aP y bl cap st w:=by rw[hy];exact⟨hs.objs,hs.disj,hs.nodup,hs.new,hs.lt,⟨hs.fr.size,hs.fr.heap,hs.fr.os,hs.fr.output,hs.fr.tape,hs.fr.drawn⟩,hs.keep,⟨hs.xok.lt,hs.xok.dis⟩⟩
 refine wp_mono (hx _ w ⟨bl,cap,hsx,?_, .nil _ _,?_⟩) ?_
 ·intro i v hv
  have hm:=get_mem hv
  obtain⟨j,hj,e⟩:=aaL.1 hm
  simp only[List.getElem_zip,List.getElem_range,aa1] at e
  obtain⟨rfl,rfl⟩:=e
  simp at hj
  obtain⟨u,hu,hr⟩:=ha.get (i:=j) (a:=args[j]) (by simp[hj])
  refine⟨u,?_,by rw[hy];exact hr⟩
  have hj':j<us.length:=by omega
  rw[Array.getElem?_append_left (by simpa using hj')]
  simpa using hu
 ·simp;omega
 ·rintro e a w' ⟨s',⟨he,s1,hent,hws,hwe,r,obl,hret,hobl,st',hsub,hcl,hR⟩,hsat⟩
  obtain⟨bl',cap',hs',henv,⟨Ds,d0,_,d2,d3⟩,_⟩:=hent _ _ hsat
  have e0:y.w0=w:=by rw[hy];rfl
  have leave:∀(Ds:List Nat) (w2:World),Ds.Nodup→(∀D∈Ds,¬(mkK y bl' cap' s1.st w2).M D∧w.heap.size≤D∧w2.heap[D]? =some (.deferred (some [])))→
   aP y bl' cap' s1.st w2→gB (mkK y bl' cap' s1.st w2) s1.env a.tmps→
   LeavesInM Fence.wide 1 P fn a.tmps (fun e w'=>∃r st' bl' cap' v,e= .returned v∧R r st'∧(st'.map (·.1)).Nodup∧aP (X.start bl cap F st w) bl' cap' st' w'∧af (mkK (X.start bl cap F st w) bl' cap' st' w') r v)
    (Ds.map fun D=>{target:= .collected D,args:= #[]}) .returning w2:=by
   intro Ds
   induction Ds with
   |nil=>
    intro w2 _ _ hs2 he2
    obtain⟨v,hv,hrv⟩:=Nu hs2 he2 hret hobl
    obtain⟨h1,_,h2⟩:=hs2.sub hsub
    have hrep:=ik (ρ:=fun i=>i) h2 hcl (by rw[aO];exact hrv)
    subst hy
    exact⟨v,hv,r,st',_,_,v,rfl,hR,hsub.inj,⟨h1.objs,h1.disj,h1.nodup,h1.new,h1.lt,⟨h1.fr.size,h1.fr.heap,h1.fr.os,h1.fr.output,h1.fr.tape,h1.fr.drawn⟩,h1.keep,hs.xok⟩,hrep⟩
   |cons D Ds ih=>
    intro w2 hnd hD hs2 he2
    obtain⟨hnm,hnd⟩:=List.nodup_cons.1 hnd
    obtain⟨hD0,hD1,hD2⟩:=hD D (by simp)
    refine⟨by simp, .inl ⟨D,_,rfl,run_takeDeferred hD2,ih _ hnd ?_ (hs2.shut2 hws hD0 (by rw[e0];exact hD1) _) ?_⟩⟩
    ·intro D' hD'
     obtain⟨h0,h1,h2⟩:=hD D' (by simp[hD'])
     exact⟨h0,h1,(World.putObj_heap_other (fun e=>hnm (by rw[←e];exact hD'))).trans h2⟩
    ·intro i v hv
     obtain⟨u,hu,hr⟩:=he2 i v hv
     exact⟨u,hu,TG (k:=mkK y bl' cap' s1.st w2) (k':=mkK y bl' cap' s1.st (w2.putObj D (Obj.deferred none))) rfl rfl rfl (hwe i v hv) hr⟩
  have:=leave Ds w' d2 (fun D hD=>by rw[←e0];exact d3 D hD) hs' henv
  rw[←d0] at this
  rcases he with rfl|rfl<;>exact this
end
end Go.Ab
namespace Go.Proofs.YtpoodoknkbojgaaGreatDoor
section
open Go.Ab Tys
variable [Dr]
variable [Dr]
@[reducible] def ZZ (L D:Nat) (lr:Loop):List (Nat×AO):=[(3000, .loop L D [] lr),(2001, .box [.mp 2002]),(2002, .map [])]
@[reducible] def Y9 (L D:Nat) (lr:Loop):List (Nat×AO):=[(3000, .loop L D [] lr),(2001, .box [.mp 2002]),(2002, .dead)]
def YL.kk:=p11 kB kM G6 Tryz.ntmps137 Qk Zu Ws XW VZ sQ Tryz.results137
set_option maxRecDepth 100000 in
set_option maxHeartbeats 4000000 in
open YL in
theorem DV (L D:Nat) (lr:Loop):AC Tryz.prog 137 [.c (.d (.v (.func (.yield L) #[] #[]))), .c (.ptr 2001 0)] (ZZ L D lr) (fun r st=>r= .tup []∧st=Y9 L D lr):=by
 refine dI Tryz.func137 Tryz.ntmps137 fun x hx=>?_
 refine jk ?_
 refine bu (wr:=false) 0 (by simp only[kk,Nat.reduceAdd,Nat.reduceLT,Nat.reduceEqDiff, ↓reduceIte,reduceCtorEq];first|done|rfl) (by first|exact trivial|(simp only[kO];omega)|(simp[All,aV];first|done|omega)) ?_
 refine dm (qN (i:=5) (id:=2002) (es:=[]) rfl rfl) ?_
 refine dQ ?_
 try refine nv ?_
 refine aW (ι:=Unit) (I:=fun _=>⟨15,[(6, .c (.ptr 6 0))],[(3000, .loop L D [] lr),(2001, .box [.mp 2002]),(2002, .dead),(6, .iter none [])]⟩) (Inv:=fun _=>True) (μ:=fun _=>0) () trivial ?_ ?_
 ·exact fM
 rintro⟨⟩ _
 refine jk ?_
 refine Vh (id:=6) (by simp) (by simp only[kV, ↓reduceIte,Nat.reduceEqDiff,reduceCtorEq];first|done|rfl) rfl ?_ ?_
 ·intro h0
  refine dQ ?_
  try refine nv ?_
  refine aU ?_ ?_
  ·intro h;cases h
  intro _
  try refine nv ?_
  refine rV ((Y9 L D lr)) ?_
  refine⟨?_,rfl⟩
  rfl
 ·intro l1 e l2 hsp
  simp at hsp
theorem QT {l:List (Nat×AO)} (h:∀p∈l,O7 p.2=true):∀id o,Ab.get l id=some o→O7 o=true:=fun id o hg=>h _ (get_mem hg)
theorem OB {l:List (Nat×AV)} (h:∀p∈l,KN p.2=true):∀id o,Ab.get l id=some o→KN o=true:=fun id o hg=>h _ (get_mem hg)
def z182.kk:=p9 kB kS Tryz.ntmps182 Tryz.underlying74 Qk XH VZ Y8 Tryz.results182
set_option maxRecDepth 100000 in
set_option maxHeartbeats 4000000 in
open z182 in
theorem wM:AC Tryz.prog 182 [.c (.d (.v (.slice none 0 0))), .c (.fn 137 [.ptr 2001 0])] [(2001, .box [.mp 2002]),(2002, .map [])]
 (fun r st=>r= .c (.d (.v (.slice none 0 0)))∧st=[(2001, .box [.mp 2002]),(2002, .dead)]):=by
 refine PO Tryz.func182 rfl rfl (by simp only[Tryz.ntmps182,List.length];omega) ?_
 intro x hrf hx
 simp only[List.range,List.range.loop,List.length,List.zip,List.zipWith,Nat.reduceAdd,Tryz.ntmps182]
 try refine nv ?_
 refine Jm (env0:=[]) 3000 [(2001, .box [.mp 2002]),(2002, .map [])] hrf (by simp only[kV, ↓reduceIte,Nat.reduceEqDiff,reduceCtorEq];first|done|rfl) (by simp only[G6,List.map];first|done|rfl) (by simp[Ab.get]) (by simp[Ab.get]) (by simp[aN,ax,bi,bC,ae,Ab.get]) (by simp[aA,bi,Cap.toC,ae,Ab.get]) trivial (fun i v h=>by cases h)
  (R:=fun L D lr v st'=>(lr.state= .ready∧lr.pending=none)∧st'=Y9 L D lr) ?_ ?_
 ·intro L D lr h1 h2 _ _ _ _
  exact(DV L D lr).mono fun _ _ h=>⟨⟨h1,h2⟩,h.2⟩
 ·rintro L D lr v st' ⟨⟨h1,h2⟩,rfl⟩
  refine⟨by simp[ae,Ab.get],⟨_,rfl,by rw[h1];simp,h2⟩,?_⟩
  simp only[kP,Nat.reduceEqDiff, ↓reduceIte,reduceCtorEq]
  try refine nv ?_
  refine⟨.inl rfl,⟨13,[(4, .c (.d (.v (.slice none 0 0))))],[(2001, .box [.mp 2002]),(2002, .dead)]⟩,?_,QT (by simp[O7,MC]),OB (by simp[KN,MC]),_,_,(by simp only[kR,Tryz.results182,iM,kk, ↓reduceIte,Nat.reduceEqDiff,reduceCtorEq];first|done|rfl),?_,[(2001, .box [.mp 2002]),(2002, .dead)],⟨by simp[Ab.get,aB],by simp,by simp[aN,ax,bi,ae,Ab.get],dK hx (by simp[ae,Ab.get])⟩,?_,rfl,rfl⟩
  ·exact fM
  ·trivial
  ·trivial
end
section
open Go.Ab
end
section
open Go.Ab Tys
variable [Dr]
end
section
open Go.Ab
section
variable {α:Type} {c:α→α→Int}
def Wv (c:α→α→Int) (x y:α):Prop:=¬c y x<0
theorem Cmp.le_refl (h:Cmp c) (x:α):Wv c x x:=by unfold Wv;rw[h.refl];omega
theorem Cmp.le_trans (h:Cmp c) {x y z:α} (h1:Wv c x y) (h2:Wv c y z):Wv c x z:=by
 unfold Wv at h1 h2⊢
 intro h3
 by_cases a:c y x=0
 ·rw[h.eqr y x z a] at h2;exact h2 h3
 ·have h4:c x y<0:=by
   by_cases b:c y x<0
   ·exact absurd b h1
   ·exact h.pos y x (by omega)
  exact h2 (h.trans z x y h3 h4)
abbrev NV (c:α→α→Int) (l:List α):Prop:=l.Pairwise (Wv c)
end
section
variable {d:gI} (hg:Good d.revs) (hN:d.revs.length≤512)
include hg hN
end
end
end Go.Proofs.YtpoodoknkbojgaaGreatDoor
