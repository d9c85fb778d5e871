/- A part of the proof. -/
import Derived.Test.YtpoodoknkbojgaaGreatDoorRC1
import Derived.Test.YtpoodoknkbojgaaGreatDoorRP55
import Derived.Test.YtpoodoknkbojgaaGreatDoorRAbEo
set_option linter.all false
namespace Go.Proofs.YtpoodoknkbojgaaGreatDoor
open Go.Ab
theorem vU {H:Type} {d:DataW H}:∀{l:List (DataW H)},d∈l→Rows.uptoBulk d≤Rows.uptoBulkAll l
 |[],h=>by cases h
 |x::l,h=>by
  simp only[Rows.uptoBulkAll]
  rcases TS.1 h with rfl|h
  ·omega
  ·have:=vU h;omega
theorem aW {H:Type} {xs:List (DataW H×List MemPlace)} {i:Nat} {b:DataW H×List MemPlace} (h:xs[i]? =some b):Rows.uptoBulk b.1≤Rows.uptoBulkAll (xs.map (·.1)):=
 vU (Uy.2 ⟨b,TZ h,rfl⟩)
theorem Eb {H:Type}:∀{xs:List (DataW H)} {i j:Nat} {b c:DataW H},i<j→xs[i]? =some b→xs[j]? =some c→Rows.uptoBulk b+Rows.uptoBulk c≤Rows.uptoBulkAll xs
 |[],i,j,b,c,_,h,_=>by simp at h
 |x::l,0,j+1,b,c,_,hb,hc=>by
  simp at hb;subst hb
  have:=vU (TZ (by simpa using hc:l[j]? =some c))
  simp only[Rows.uptoBulkAll];omega
 |x::l,i+1,j+1,b,c,hij,hb,hc=>by
  have:=Eb (xs:=l) (i:=i) (j:=j) (by omega) (by simpa using hb) (by simpa using hc)
  simp only[Rows.uptoBulkAll];omega
theorem Am {H:Type} {xs:List (DataW H×List MemPlace)} {i j:Nat} {b c:DataW H×List MemPlace} (hij:i<j) (hb:xs[i]? =some b) (hc:xs[j]? =some c):Rows.uptoBulk b.1+Rows.uptoBulk c.1≤Rows.uptoBulkAll (xs.map (·.1)):=
 Eb hij (by rw[UB,hb];rfl) (by rw[UB,hc];rfl)
def mE (e:mg):Nat:=e.path.size+e.frm.size+1
def mR (r:iR):Nat:=r.frm.size+r.to.size+1
theorem sF {α:Type} {m:α→Nat}:∀{l:List α} {x:α},x∈l→m x≤(l.map m).sum
 |[],x,h=>by cases h
 |y::l,x,h=>by
  simp only[Un,List.sum_cons]
  rcases TS.1 h with rfl|h
  ·omega
  ·have:=sF (m:=m) h;omega
theorem oz {α:Type} {m:α→Nat} (hm:∀x,1≤m x):∀l:List α,l.length≤(l.map m).sum
 |[]=>by simp
 |y::l=>by
  have:=oz hm l
  have:=hm y
  simp only[Un,List.sum_cons,List.length_cons];omega
def mS (s:VJ):Nat:=s.size+1
def mP (p:fJ):Nat:=(p.parts.map mS).sum+2
theorem OW {H:Type} {enc:TypeId×Value→H} {w:World} {fuel:Nat} {cs:List Value} {d:DataW H} {p:List MemPlace} (h:tr enc w fuel 53 cs=some (d,p)):∃(l:List VJ) (v:Value),cs=[v]∧aP rU w (.ps 1 (l.map encS)) v∧(l.map mS).sum+1≤Rows.uptoBulk d:=
 D9 Tryz.underlying53 (by kernel_rfl) (by omega) (fun _ _ _ _ h=>by
  obtain⟨s,e,k⟩:=jm Tryz.underlying9 h
  subst e
  exact⟨s, .cons (.v _ rfl) .nil,by simp only[mS];omega⟩) h
theorem BJ {H:Type} {enc:TypeId×Value→H} {w:World} {fuel:Nat} {cs:List Value} {d:DataW H} {p:List MemPlace} (h:tr enc w fuel 55 cs=some (d,p)):∃(l:List VJ) (v:Value) (b:Bool),cs=[v, .bool b]∧aP rU w (.ps 1 (l.map encS)) v∧mP ⟨l,b⟩≤Rows.uptoBulk d:=by
 obtain⟨hl,f,xs,hm,rfl⟩:=eG Tryz.underlying55 h
 rw[show Tryz.prog.cellsOf 55=2 by kernel_rfl] at hl
 obtain⟨c0,c1,rfl⟩:∃c0 c1,cs=[c0,c1]:=by
  rcases cs with _|⟨a0,_|⟨a1,_|⟨az,cs⟩⟩⟩
  all_goals simp at hl
  exact⟨_,_,rfl⟩
 obtain⟨_,hg⟩:=dW hm
 obtain⟨b0,g0,e0⟩:=hg 0 _ rfl
 rw[show(([c0,c1]:List Value).drop 0).take (Tryz.prog.cellsOf 53)=[c0] by rw[show Tryz.prog.cellsOf 53=1 by kernel_rfl];rfl] at e0
 obtain⟨b1,g1,e1⟩:=hg 1 _ rfl
 rw[show(([c0,c1]:List Value).drop 1).take (Tryz.prog.cellsOf 4)=[c1] by rw[show Tryz.prog.cellsOf 4=1 by kernel_rfl];rfl] at e1
 obtain⟨l,v,h0,q0,k0⟩:=OW e0
 simp only[TY,Ug] at h0;subst h0
 have r0:=aW g0
 obtain⟨b,h1⟩:=qj Tryz.underlying4 e1
 simp only[TY,Ug] at h1;subst h1
 exact⟨l,_,b,rfl,q0,by simp only[Rows.uptoBulk,mP];omega⟩
end Go.Proofs.YtpoodoknkbojgaaGreatDoor
set_option linter.all false
namespace Go.Ab
abbrev qC:=List (Nat×AO)
def LK:Cap→List Nat
 | .ptr id _=>[id]
 |_=>[]
def oJ:List Cap→List Nat
 |[]=>[]
 |c::cs=>LK c++oJ cs
def OQ:C→List Nat
 | .ptr id _=>[id]
 | .ep id _ _ _=>[id]
 | .ms id _ _ _=>[id]
 | .mp id=>[id]
 | .mv id _ _ _=>[id]
 | .fn _ caps=>oJ caps
 | .fb _ caps=>oJ caps
 | .d _=>[]
 | .pp _=>[]
def pg:List C→List Nat
 |[]=>[]
 |c::cs=>OQ c++pg cs
def vW:List (List C)→List Nat
 |[]=>[]
 |c::cs=>pg c++vW cs
def DY:List (Bool×List C)→List Nat
 |[]=>[]
 |p::ps=>pg p.2++DY ps
def yX:List ((Bool×List C)×(Bool×List C))→List Nat
 |[]=>[]
 |e::es=>pg e.1.2++(pg e.2.2++yX es)
def Gz:AV→List Nat
 | .c x=>OQ x
 | .agg cs=>pg cs
 | .tup vs=>DY vs
 | .cond _ x=>Gz x
def wQ:List AV→List Nat
 |[]=>[]
 |v::vs=>Gz v++wQ vs
def Gm:AO→Option (List Nat)
 | .box cs=>some (pg cs)
 | .arr _ xs=>some (vW xs)
 | .map es=>some (yX es)
 | .dead=>some []
 |_=>none
section
variable {dom:Nat→Bool}
theorem xC:∀{cs:List Cap},(∀i∈oJ cs,dom i=true)→au dom cs
 |[],_=>trivial
 |c::cs,h=>⟨by cases c<;>first|trivial|exact h _ (by simp[oJ,LK]),xC fun i hi=>h i (by simp[oJ,hi])⟩
theorem Gs {c:C} (h:∀i∈OQ c,dom i=true):bC dom c:=by
 cases c<;>first|trivial|exact h _ (by simp[OQ])|exact xC h
theorem jD:∀{cs:List C},(∀i∈pg cs,dom i=true)→ay dom cs
 |[],_=>trivial
 |c::cs,h=>⟨Gs fun i hi=>h i (by simp[pg,hi]),jD fun i hi=>h i (by simp[pg,hi])⟩
theorem zx:∀{cs:List (List C)},(∀i∈vW cs,dom i=true)→ay dom cs.flatten
 |[],_=>trivial
 |c::cs,h=>by rw[List.flatten_cons];exact ak.2 ⟨jD fun i hi=>h i (by simp[vW,hi]),zx fun i hi=>h i (by simp[vW,hi])⟩
theorem CW:∀{ps:List (Bool×List C)},(∀i∈DY ps,dom i=true)→bf dom ps
 |[],_=>trivial
 |p::ps,h=>⟨jD fun i hi=>h i (by simp[DY,hi]),CW fun i hi=>h i (by simp[DY,hi])⟩
theorem Ep:∀{es:List ((Bool×List C)×(Bool×List C))},(∀i∈yX es,dom i=true)→bf dom (es.map (·.1))∧bf dom (es.map (·.2))
 |[],_=>⟨trivial,trivial⟩
 |e::es,h=>by
  have:=Ep (es:=es) fun i hi=>h i (by simp[yX,hi])
  exact⟨⟨jD fun i hi=>h i (by simp[yX,hi]),this.1⟩,⟨jD fun i hi=>h i (by simp[yX,hi]),this.2⟩⟩
theorem wH:∀{v:AV},(∀i∈Gz v,dom i=true)→ax dom v
 | .c x,h=>Gs h
 | .agg cs,h=>jD h
 | .tup vs,h=>CW h
 | .cond b x,h=>wH (v:=x) h
theorem zX:∀{vs:List AV},(∀i∈wQ vs,dom i=true)→∀v∈vs,ax dom v
 |[],_,_,h=>by cases h
 |v::vs,h,y,hy=>by
  rcases TS.1 hy with rfl|hy
  ·exact wH fun i hi=>h i (by simp[wQ,hi])
  ·exact zX (fun i hi=>h i (by simp[wQ,hi])) y hy
theorem J8 {o:AO} {l:List Nat} (e:Gm o=some l) (h:∀i∈l,dom i=true):aH dom o:=by
 cases o<;>simp only[Gm] at e<;>first|cases e;done|skip
 ·cases e;exact jD h
 ·cases e;exact zx h
 ·cases e;exact Ep h
 ·trivial
end
def reach (st:qC):Nat→List Nat→qC→Option qC
 |0,_,_=>none
 |_+1,[],acc=>some acc
 |n+1,i::t,acc=>
  match get acc i with
  |some _=>reach st n t acc
  |none=>
   match get st i with
   |some o=>
    match Gm o with
    |some l=>reach st n (l++t) ((i,o)::acc)
    |none=>none
   |none=>none
theorem qH {i j:Nat} {o:AO} {acc:qC}:ae ((i,o)::acc) j=(decide (i=j)||ae acc j):=by
 simp only[ae,Ab.get]
 by_cases e:i=j
 ·simp[e]
 ·simp[e]
structure Reached (st:qC) (todo:List Nat) (acc:qC):Prop where
 mem:∀p∈acc,get st p.1=some p.2
 inj:(acc.map (·.1)).Nodup
 cl:∀p∈acc,∃l,Gm p.2=some l∧∀i∈l,ae acc i=true∨i∈todo
theorem xM {st:qC}:∀{n:Nat} {todo:List Nat} {acc r:qC},reach st n todo acc=some r→Reached st todo acc→
 Reached st [] r∧(∀i,ae acc i=true∨i∈todo→ae r i=true)
 |0,_,_,_,h,_=>by cases h
 |n+1,[],acc,r,h,hr=>by cases h;exact⟨hr,fun i hi=>hi.elim id fun h=>by cases h⟩
 |n+1,i::t,acc,r,h,hr=>by
  simp only[reach] at h
  split at h
  ·rename_i o ho
   have hi:ae acc i=true:=by simp[ae,ho]
   have hr':Reached st t acc:=⟨hr.mem,hr.inj,fun p hp=>let⟨l,a,b⟩:=hr.cl p hp;⟨l,a,fun j hj=>by
    rcases b j hj with h|h
    ·exact .inl h
    ·rcases TS.1 h with rfl|h
     ·exact .inl hi
     ·exact .inr h⟩⟩
   obtain⟨a,b⟩:=xM h hr'
   refine⟨a,fun j hj=>b j ?_⟩
   rcases hj with h|h
   ·exact .inl h
   ·rcases TS.1 h with rfl|h
    ·exact .inl hi
    ·exact .inr h
  ·rename_i hno
   split at h
   ·rename_i o ho
    split at h
    ·rename_i l hl
     have hr':Reached st (l++t) ((i,o)::acc):=by
      refine⟨?_,?_,?_⟩
      ·intro p hp
       rcases TS.1 hp with rfl|hp
       ·exact ho
       ·exact hr.mem p hp
      ·simp only[Un,List.nodup_cons]
       refine⟨fun hm=>?_,hr.inj⟩
       obtain⟨p,hp,e⟩:=Uy.1 hm
       have:=Bg (q:=p) hp
       rw[e] at this
       simp[ae,hno] at this
      ·intro p hp
       rcases TS.1 hp with rfl|hp
       ·exact⟨l,hl,fun j hj=> .inr (UR _ hj)⟩
       ·obtain⟨l',a,b⟩:=hr.cl p hp
        refine⟨l',a,fun j hj=>?_⟩
        rcases b j hj with h|h
        ·exact .inl (by rw[qH,h];simp)
        ·rcases TS.1 h with rfl|h
         ·exact .inl (by rw[qH];simp)
         ·exact .inr (UM _ h)
     obtain⟨a,b⟩:=xM h hr'
     refine⟨a,fun j hj=>b j ?_⟩
     rcases hj with h|h
     ·exact .inl (by rw[qH,h];simp)
     ·rcases TS.1 h with rfl|h
      ·exact .inl (by rw[qH];simp)
      ·exact .inr (UM _ h)
    ·cases h
   ·cases h
theorem yR {st r:qC} {n:Nat} {todo:List Nat} (h:reach st n todo []=some r):
 (∀p∈r,get st p.1=some p.2)∧(r.map (·.1)).Nodup∧(∀p∈r,aH (ae r) p.2)∧∀i∈todo,ae r i=true:=by
 obtain⟨a,b⟩:=xM h ⟨by simp,by simp,by simp⟩
 refine⟨a.mem,a.inj,fun p hp=>?_,fun i hi=>b i (.inr hi)⟩
 obtain⟨l,e,h⟩:=a.cl p hp
 exact J8 e fun i hi=>(h i hi).elim id fun h=>by cases h
section
universe u
variable {α:Type u}
def fN (n:Nat) (k:Nat→α):α:=match n with|0=>k 0|m+1=>k (m+1)
theorem xQ (n:Nat) (k:Nat→α):fN n k=k n:=by cases n<;>rfl
def fI (n:Int) (k:Int→α):α:=match n with| .ofNat m=>fN m fun m=>k (.ofNat m)| .negSucc m=>fN m fun m=>k (.negSucc m)
theorem Rt (n:Int) (k:Int→α):fI n k=k n:=by cases n<;>simp[fI,xQ]
def fU (l:List UInt8) (k:List UInt8→α):α:=match l with|[]=>k []|x::l=>fN x.toNat fun n=>fU l fun l=>k (UInt8.ofNat n::l)
theorem QU (l:List UInt8) (k:List UInt8→α):fU l k=k l:=by
 induction l generalizing k with
 |nil=>rfl
 |cons x l ih=>simp[fU,xQ,ih]
def fS (s:VJ) (k:VJ→α):α:=fU s.data.toList fun l=>k ⟨⟨l⟩⟩
theorem QP (s:VJ) (k:VJ→α):fS s k=k s:=by simp[fS,QU]
def fV (v:Value) (k:Value→α):α:=
 match v with
 | .int kd n=>fI n fun n=>k (.int kd n)
 | .bool true=>k (.bool true)
 | .bool false=>k (.bool false)
 | .string s=>fS s fun s=>k (.string s)
 |v=>k v
theorem Q7 (v:Value) (k:Value→α):fV v k=k v:=by
 cases v with
 |bool b=>cases b<;>rfl
 |_=>simp[fV,Rt,QP]
def fD (d:D) (k:D→α):α:=match d with| .v x=>fV x fun x=>k (.v x)|d=>k d
theorem Py (d:D) (k:D→α):fD d k=k d:=by cases d<;>simp[fD,Q7]
def MP (c:Cap) (k:Cap→α):α:=match c with| .ptr id off=>fN id fun id=>fN off fun off=>k (.ptr id off)| .d x=>fD x fun x=>k (.d x)|c=>k c
theorem Oc (c:Cap) (k:Cap→α):MP c k=k c:=by cases c<;>simp[MP,xQ,Py]
def fL {β:Type} (f:β→(β→α)→α) (l:List β) (k:List β→α):α:=match l with|[]=>k []|x::l=>f x fun x=>fL f l fun l=>k (x::l)
theorem qJ {β:Type} {f:β→(β→α)→α} (hf:∀x k,f x k=k x) (l:List β) (k:List β→α):fL f l k=k l:=by
 induction l generalizing k with
 |nil=>rfl
 |cons x l ih=>simp[fL,hf,ih]
def fC (c:C) (k:C→α):α:=
 match c with
 | .d x=>fD x fun x=>k (.d x)
 | .ptr id off=>fN id fun id=>fN off fun off=>k (.ptr id off)
 | .ep id sz i off=>fN id fun id=>fN sz fun sz=>fN i fun i=>fN off fun off=>k (.ep id sz i off)
 | .ms id sz off len=>fN id fun id=>fN sz fun sz=>fN off fun off=>fN len fun len=>k (.ms id sz off len)
 | .mv id sz off len=>fN id fun id=>fN sz fun sz=>fN off fun off=>fN len fun len=>k (.mv id sz off len)
 | .mp id=>fN id fun id=>k (.mp id)
 | .fn f caps=>fN f fun f=>fL MP caps fun caps=>k (.fn f caps)
 | .fb f caps=>fN f fun f=>fL MP caps fun caps=>k (.fb f caps)
 | .pp cs=>k (.pp cs)
theorem Dw (c:C) (k:C→α):fC c k=k c:=by cases c<;>simp[fC,xQ,Py,qJ Oc]
def fP (p:Bool×List C) (k:Bool×List C→α):α:=match p with|(true,cs)=>fL fC cs fun cs=>k (true,cs)|(false,cs)=>fL fC cs fun cs=>k (false,cs)
theorem PD (p:Bool×List C) (k:Bool×List C→α):fP p k=k p:=by obtain⟨b,cs⟩:=p;cases b<;>simp[fP,qJ Dw]
def SB (v:AV) (k:AV→α):α:=
 match v with
 | .c x=>fC x fun x=>k (.c x)
 | .agg cs=>fL fC cs fun cs=>k (.agg cs)
 | .tup vs=>fL fP vs fun vs=>k (.tup vs)
 |v=>k v
theorem PV (v:AV) (k:AV→α):SB v k=k v:=by cases v<;>simp[SB,Dw,qJ Dw,qJ PD]
def fE (e:oU) (k:oU→α):α:=fP e.1 fun a=>fP e.2 fun b=>k (a,b)
theorem QR (e:oU) (k:oU→α):fE e k=k e:=by simp[fE,PD]
def RV (o:AO) (k:AO→α):α:=
 match o with
 | .box cs=>fL fC cs fun cs=>k (.box cs)
 | .arr sz xs=>fN sz fun sz=>fL (fL fC) xs fun xs=>k (.arr sz xs)
 | .map es=>fL fE es fun es=>k (.map es)
 |o=>k o
theorem Qq (o:AO) (k:AO→α):RV o k=k o:=by cases o<;>simp[RV,xQ,qJ Dw,qJ (qJ Dw),qJ QR]
def fQ (p:Nat×AO) (k:Nat×AO→α):α:=fN p.1 fun i=>RV p.2 fun o=>k (i,o)
theorem QO (p:Nat×AO) (k:Nat×AO→α):fQ p k=k p:=by simp[fQ,xQ,Qq]
def JQ {β:Type} (l:List (Nat×β)) (i:Nat) (x:β) (k:List (Nat×β)→α):α:=
 match l with
 |[]=>k [(i,x)]
 |(j,y)::l=>if j=i then k ((i,x)::l) else JQ l i x fun l=>k ((j,y)::l)
theorem GM {β:Type} (l:List (Nat×β)) (i:Nat) (x:β) (k:List (Nat×β)→α):JQ l i x k=k (put l i x):=by
 induction l generalizing k with
 |nil=>rfl
 |cons p l ih=>
  obtain⟨j,y⟩:=p
  simp only[JQ,put]
  by_cases e:j=i
  ·simp[e]
  ·simp[e,ih]
def Kr (env:List (Nat×AV)) (d:Option Nat) (v:AV) (k:List (Nat×AV)→α):α:=match d with|some i=>JQ env i v k|none=>k env
theorem JR (env:List (Nat×AV)) (d:Option Nat) (v:AV) (k:List (Nat×AV)→α):Kr env d v k=k (cZ env d v):=by cases d<;>simp[Kr,cZ,GM]
def vF (st us:qC) (k:qC→α):α:=match us with|[]=>k st|(i,o)::us=>JQ st i o fun st=>vF st us k
theorem FZ (st us:qC) (k:qC→α):vF st us k=k (ag st us):=by
 induction us generalizing st with
 |nil=>rfl
 |cons p us ih=>obtain⟨i,o⟩:=p;simp[vF,ag,GM,ih]
end
end Go.Ab
