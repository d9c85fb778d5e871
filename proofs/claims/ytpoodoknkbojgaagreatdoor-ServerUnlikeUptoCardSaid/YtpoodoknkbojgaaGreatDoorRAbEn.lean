/- A part of the proof. -/
import Derived.Test.YtpoodoknkbojgaaGreatDoorRAbEv
set_option linter.all false
namespace Go.Ab
variable [Dr] {P:Program} {x:X}
theorem Kz {Q:Exit→S→Prop} {s:S} {ops l:List Oper} {d:Tmp} {T e:TypeId} {t:TI} {y z:Operand} {ty:TypeId} {pos:String} {after:Array Edge} {k k':IntKind} {m:Int} (hel:sQ P T=some e) (ht:ti P e=some t) (hd:d<s.n)
 (hy:ev s y=some (.c (.d (.v (.int k 0))))) (hz:ev s z=some (.c (.d (.v (.int k' m))))) (hid:get s.st d=none) (h0:0≤m) (hb:(t.bytes:Int)*m≤140737488355328) (h63:m≤9223372036854775807)
 (hk:TO P x ops l ⟨s.n,put s.env d (.c (.ms d t.size 0 0)),put s.st d (.arr t.size [])⟩ Q):TO P x ops (⟨some d, .makeSlice T y z,ty,pos,after,none⟩::l) s Q:=by
 rintro a w ⟨bl,cap,hs,henv,hdf,hsz⟩
 have h1:a.eval y= .int k 0:=dY (bF henv hy)
 have h2:a.eval z= .int k' m:=dY (bF henv hz)
 have hu:=eX hel
 obtain⟨i,u,zz,hi,hu',hz',g1,g2,g3,g4,g5,g6,g7⟩:=dC ht
 have hpos:0<t.size:=by omega
 have hrun:=run_make (P:=P) w T e i zz hu hi hz' k k' 0 m (Int.le_refl _) h0 (by rw[g2];omega) h63
 have hrun2:(execOp a.eval ⟨some d, .makeSlice T y z,ty,pos,after,none⟩).run P w= .ok (.value (.slice (some ⟨w.heap.size,0,none⟩) 0 m.toNat)) (w.alloc (.cells (madeCells zz.cells (m.toNat*i.size)) e)):=by
  simp only[execOp,h1,h2]
  exact dG hrun
 obtain⟨bl',cap',a1,a2,a3⟩:=og (x:=x) (id:=d) (n:=m.toNat) (T:=e) (xs:=[]) (cells:=madeCells zz.cells (m.toNat*i.size)) (w':=w.alloc (.cells (madeCells zz.cells (m.toNat*i.size)) e))
  hs hid (dE w _) (UJ) (by show _<(w.heap.push _).size;rw[Array.size_push];omega) hpos (by simp) (by simp) (by rw[size_madeCells,g1]) (by simp;exact .nil)
 refine wpList_plain rfl fun K hK=>?_
 unfold Oper.wp
 rw[hrun2]
 exact hK _ _ (hk _ _ ⟨bl',cap',a1,(henv.le a2).put (by rw[hsz];exact hd) a3,by rw[Act.put_defers];exact hdf.le a2,by rw[Act.bQ];exact hsz⟩)
end Go.Ab
set_option linter.all false
namespace Go.Ab
def je {α:Type} (P:Program):Sem α→Option α
 | .pure a=>some a
 | .program k=>je P (k P)
 | .mark _ k=>je P k
 |_=>none
theorem iq {α:Type} {P:Program} {s:Sem α} {r:α} (h:je P s=some r) (w:World):s.run P w= .ok r w:=by
 induction s with
 |pure a=>cases h;rfl
 |program k ih=>exact ih P h
 |mark m k ih=>exact ih h
 |_=>cases h
def gB (r:Option AV):Option Value:=match r with|some (.c (.d (.v u)))=>some u|_=>none
def one1 (v:Value):Option (AV×qC):=if v.oneCell' then some (.c (.d (.v v)),[]) else none
def plainO (e:Operand→Option AV):Option Operand→Option (Option Value)
 |none=>some none
 |some y=>(gB (e y)).map some
def zO (P:Program) (op:Op) (e:Operand→Option AV):Option Value:=
 match op with
 | .binOp op T x y _=>
   match gB (e x),gB (e y) with
   |some u,some v=>je P (do eqGuard op T x y u v;binOp op T u v)
   |_,_=>none
 | .unOp op T x=>
   match gB (e x) with
   |some u=>je P (Go.Op.unary op u)
   |none=>none
 | .convert S D x=>
   match gB (e x) with
   |some u=>je P (convert S D u)
   |none=>none
 | .slice T x lo hi mx=>
   match gB (e x),plainO e lo,plainO e hi,plainO e mx with
   |some u,some a,some b,some c=>je P (Instr.sliceAt T u a b c)
   |_,_,_,_=>none
 | .call {callee:= .builtin .cap,args:=⟨[x]⟩,argTypes:=⟨[T]⟩}=>
   match gB (e x) with
   |some u=>je P (Builtin.cap_ ⟨[T]⟩ 0 #[u])
   |none=>none
 |_=>none
def notNil (P:Program) (T:TypeId) (a:AV) (v:Value):Bool:=
 match P.underlying T,a,v with
 |some (.pointer _), .c (.ptr _ _), .pointer none=>true
 |some (.pointer _), .c (.ep _ _ _ _), .pointer none=>true
 |some (.pointer _), .c (.pp _), .pointer none=>true
 |some (.slice _), .c (.ms _ _ _ len), .slice none _ _=>!decide (len=0)
 |some (.map _ _), .c (.mp _), .map none=>true
 |some (.func _ _ _), .c (.fn _ _), .nilFunc=>true
 |some (.func _ _ _), .c (.fb _ _), .nilFunc=>true
 |_,_,_=>false
def KX (P:Program) (op:Op) (e:Operand→Option AV):Option Bool:=
 match op with
 | .binOp .eql T x y _=>
   match e x,gB (e y) with
   |some a,some v=>if notNil P T a v then some false else none
   |_,_=>none
 | .binOp .neq T x y _=>
   match e x,gB (e y) with
   |some a,some v=>if notNil P T a v then some true else none
   |_,_=>none
 |_=>none
def Nu (r:Option AV):Option Int:=match r with|some (.c (.d (.v (.int _ n))))=>some n|_=>none
def yN (e:Operand→Option AV) (d:Int):Option Operand→Option Int
 |none=>some d
 |some y=>Nu (e y)
def sK (P:Program) (op:Op) (id:Nat) (e:Operand→Option AV) (ob:Nat→Option AO):Option (AV×qC):=
 match op with
 | .slice T x lo hi none=>
   match e x,(sQ P T).bind (ti P) with
   |some (.c (.ms i sz off len)),some t=>
    match yN e 0 lo,yN e len hi with
    |some l,some h=>if sz=t.size∧0≤l∧l≤h∧h≤len then some (.c (.ms i sz (off+l.toNat) (h-l).toNat),[]) else none
    |_,_=>none
   |_,_=>none
 | .slice T x lo (some hi) (some mx)=>
   match e x,(sQ P T).bind (ti P),yN e 0 lo,Nu (e hi),Nu (e mx),ob id with
   |some (.c (.ms i sz off len)),some t,some l,some h,some m,none=>if sz=t.size∧0≤l∧l=h∧h=m∧m≤len then some (.c (.ms id sz 0 0),[(id, .arr sz [])]) else none
   |_,_,_,_,_,_=>none
 |_=>none
def IV (P:Program) (op:Op) (id:Nat) (e:Operand→Option AV) (ob:Nat→Option AO):Option (AV×qC):=
 match op with
 | .call {callee:= .builtin .append,args:=⟨[x,y]⟩,argTypes:=⟨[T,T']⟩}=>
   match e x,e y with
   |some (.c (.ms i sz 0 len)),some v=>
    match ob i with
    |some (.arr sz' xs)=>
     if len<xs.length then
      match di P T T' id (.c (.ms i sz 0 len)) v (fun j=>if i=j then some (.arr sz' (xs.take len)) else ob j) with
      |some out=>if jE P T T' id (.c (.ms i sz 0 len)) v (fun j=>if i=j then some (.arr sz' (xs.take len)) else ob j) then some (out.v,out.upd) else none
      |none=>none
     else none
    |_=>none
   |_,_=>none
 |_=>none
def Lh:List C→Option (List D)
 |[]=>some []
 | .d x::l=>
   match Lh l with
   |some r=>some (x::r)
   |none=>none
 |_=>none
def NK:List oU→Option (List mF)
 |[]=>some []
 |e::l=>
  match Lh e.1.2,Lh e.2.2,NK l with
  |some a,some b,some r=>some (((e.1.1,a),(e.2.1,b))::r)
  |_,_,_=>none
def rQ (P:Program) (op:Op) (id:Nat) (e:Operand→Option AV) (ob:Nat→Option AO):Option (AV×qC):=
 match op with
 | .range T y=>
   match e y,vY P T,ob id with
   |some (.c (.mp m)),some _,none=>
    match ob m with
    |some (.map es)=>
     match NK es with
     |some l=>some (.c (.ptr id 0),[(m, .dead),(id, .iter none l)])
     |none=>none
    |_=>none
   |_,_,_=>none
 | .next y false=>
   match e y with
   |some (.c (.ptr i 0))=>
    match ob i with
    |some (.iter _ [])=>some (.tup [(false,[.d (.v (.bool false))])],[])
    |_=>none
   |_=>none
 |_=>none
def Tu {α:Type} (a:Option α) (b:Option α):Option α:=match a with|some r=>some r|none=>b
def Ir (P:Program) (op:Op) (id:Nat) (e:Operand→Option AV) (ob:Nat→Option AO):Option (AV×qC):=
 match zO P op e with
 |some v=>one1 v
 |none=>
  match KX P op e with
  |some b=>some (B b,[])
  |none=>Tu (sK P op id e ob) (Tu (IV P op id e ob) (rQ P op id e ob))
section
variable {P:Program} {x:X} {bl:Nat→List Nat} {cap:Nat→Nat} {st:List (Nat×AO)} {w:World} {ρ:Operand→Value} {e:Operand→Option AV} {o:Oper} {id:Nat} {r:AV×qC}
variable [Dr]
omit [Dr] in
theorem CJ {a:Option AV} {u:Value} (h:gB a=some u):a=some (.c (.d (.v u))):=by
 unfold gB at h
 split at h
 ·cases h;rfl
 ·cases h
omit [Dr] in
theorem dK {k:K} {y:Operand} {u:Value} (h:gB (e y)=some u) (hr:∀v,e y=some v→af k v (ρ y)):ρ y=u:=df (hr _ (CJ h))
omit [Dr] in
theorem pK {k:K}:∀{lo:Option Operand} {a:Option Value},plainO e lo=some a→(∀y,lo=some y→∀v,e y=some v→af k v (ρ y))→lo.map ρ=a
 |none,a,h,_=>by cases h;rfl
 |some y,a,h,hr=>by
  simp only[plainO,Ud] at h
  obtain⟨u,hu,rfl⟩:=h
  simp[dK hu (hr y rfl)]
omit [Dr] in
theorem I5 {v:Value} (h:zO P o.op e=some v) (hr:∀y u,y∈o.op.operands→e y=some u→af (mkK x bl cap st w) u (ρ y)):(execOp ρ o).run P w= .ok (.value v) w:=by
 obtain⟨dst,op,type,pos,after,guard⟩:=o
 simp only at h hr
 unfold zO at h
 split at h
 ·rename_i op T y z T'
  split at h
  ·rename_i u u' h1 h2
   rw[←dK h1 (fun v hv=>hr y v (by simp[Op.operands]) hv),←dK h2 (fun v hv=>hr z v (by simp[Op.operands]) hv)] at h
   exact dG (iq h w)
  ·cases h
 ·rename_i op T y
  split at h
  ·rename_i u h1
   rw[←dK h1 (fun v hv=>hr y v (by simp[Op.operands]) hv)] at h
   exact dG (iq h w)
  ·cases h
 ·rename_i S D y
  split at h
  ·rename_i u h1
   rw[←dK h1 (fun v hv=>hr y v (by simp[Op.operands]) hv)] at h
   exact dG (iq h w)
  ·cases h
 ·rename_i T y lo hi mx
  split at h
  ·rename_i u a b c h1 h2 h3 h4
   rw[←dK h1 (fun v hv=>hr y v (by simp[Op.operands]) hv),←pK h2 (fun y hy v hv=>hr y v (by simp[Op.operands,hy]) hv),←pK h3 (fun y hy v hv=>hr y v (by simp[Op.operands,hy]) hv),
    ←pK h4 (fun y hy v hv=>hr y v (by simp[Op.operands,hy]) hv)] at h
   exact dG (iq h w)
  ·cases h
 ·rename_i y T
  split at h
  ·rename_i u h1
   rw[←dK h1 (fun v hv=>hr y v (by simp[Op.operands,Call.operands]) hv)] at h
   simp only[execOp,resolve,Sem.run_bind,Sem.run_pure,Result.andThen_ok,invoke,builtin]
   have e1:Array.map ρ (⟨[y]⟩:Array Operand)= #[ρ y]:=by simp
   rw[e1]
   have h1':(Builtin.cap_ ⟨[T]⟩ type #[ρ y]).run P w= .ok v w:=iq h w
   rw[h1'];rfl
  ·cases h
 ·cases h
omit [Dr] in
theorem wR {T:TypeId} {a:AV} {u v:Value} (h:notNil P T a v=true) (hr:af (mkK x bl cap st w) a u) (ox oy:Operand):
 (do eqGuard .eql T ox oy u v;binOp .eql T u v:Sem Value).run P w= .ok (.bool false) w∧(do eqGuard .neq T ox oy u v;binOp .neq T u v:Sem Value).run P w= .ok (.bool true) w:=by
 have key:∀{u v:Value},eqGuard .eql T ox oy u v=pure ()→eqGuard .neq T ox oy u v=pure ()→binOp .eql T u v=(do pure (.bool (←Op.equal T u v)))→binOp .neq T u v=(do pure (.bool (!(←Op.equal T u v))))→
  (∀d,(Op.equalIn (d+1) T u v).run P w= .ok false w)→
  (do eqGuard .eql T ox oy u v;binOp .eql T u v:Sem Value).run P w= .ok (.bool false) w∧(do eqGuard .neq T ox oy u v;binOp .neq T u v:Sem Value).run P w= .ok (.bool true) w:=by
  intro u v g1 g2 e1 e2 he
  have h1:(Op.equal T u v).run P w= .ok false w:=he 9999
  rw[e1,e2,g1,g2]
  simp only[Sem.run_bind,Result.andThen_ok,h1,Sem.run_pure,Vz,and_self]
 unfold notNil at h
 split at h
 ·rename_i hu
  obtain⟨_,b',_,rfl⟩:=hr
  exact key (by rfl) (by rfl) (by rfl) (by rfl) (fun d=>by simp only[Op.equalIn,Sem.run_bind,run_underlying hu,Result.andThen_ok,Sem.run_pure])
 ·rename_i hu
  obtain⟨_,b',_,rfl⟩:=hr
  exact key (by rfl) (by rfl) (by rfl) (by rfl) (fun d=>by simp only[Op.equalIn,Sem.run_bind,run_underlying hu,Result.andThen_ok,Sem.run_pure])
 ·rename_i hu
  obtain⟨b',o',rfl,_⟩:=hr
  exact key (by rfl) (by rfl) (by rfl) (by rfl) (fun d=>by simp only[Op.equalIn,Sem.run_bind,run_underlying hu,Result.andThen_ok,Sem.run_pure])
 ·rename_i hu
  obtain⟨_,hcap,⟨h0,a,rfl⟩|⟨h0,b',_,rfl⟩⟩:=hr
  ·simp only[Uh,UN] at h;omega
  ·exact key (by rfl) (by rfl) (by rfl) (by rfl) (fun d=>by simp only[Op.equalIn,Sem.run_bind,run_underlying hu,Result.andThen_ok,Sem.run_pure])
 ·rename_i hu
  obtain⟨_,b',bs,_,rfl⟩:=hr
  exact key (by rfl) (by rfl) (by rfl) (by rfl) (fun d=>by simp only[Op.equalIn,Sem.run_bind,run_underlying hu,Result.andThen_ok,Sem.run_pure])
 ·rename_i hu
  obtain⟨vs,rfl,_⟩:=hr
  exact key (by rfl) (by rfl) (by rfl) (by rfl) (fun d=>by simp only[Op.equalIn,Sem.run_bind,run_underlying hu,Result.andThen_ok,Sem.run_pure])
 ·rename_i hu
  obtain⟨vs,rfl,_⟩:=hr
  exact key (by rfl) (by rfl) (by rfl) (by rfl) (fun d=>by simp only[Op.equalIn,Sem.run_bind,run_underlying hu,Result.andThen_ok,Sem.run_pure])
 ·cases h
omit [Dr] in
theorem nK {k:K} {d l:Int}:∀{lo:Option Operand},yN e d lo=some l→(∀y,lo=some y→∀v,e y=some v→af k v (ρ y))→(lo.map ρ=none∧l=d)∨∃kd,lo.map ρ=some (.int kd l)
 |none,h,_=>by cases h;exact .inl ⟨rfl,rfl⟩
 |some y,h,hr=>by
  right
  simp only[yN] at h
  unfold Nu at h
  split at h
  ·rename_i kd n h1
   cases h
   exact⟨kd,by simp[df (hr y rfl _ h1)]⟩
  ·cases h
omit [Dr] in
theorem uy {len cp:Nat} {l h:Int} {lo hi:Option Value} (hlo:(lo=none∧l=0)∨∃kd,lo=some (.int kd l)) (hhi:(hi=none∧h=len)∨∃kd,hi=some (.int kd h)) (h0:0≤l) (h1:l≤h) (h2:h≤len) (h3:len≤cp):
 (Instr.sliceBounds true len cp lo hi none).run P w= .ok (l.toNat,h.toNat,cp) w:=by
 have c1:0≤h∧h≤(cp:Int):=by omega
 have c2:0≤l∧l≤((h.toNat:Nat):Int):=by omega
 rcases hlo with⟨rfl,rfl⟩|⟨kd,rfl⟩<;>rcases hhi with⟨rfl,rfl⟩|⟨kd',rfl⟩
 ·simp[Instr.sliceBounds]
 ·simp[Instr.sliceBounds,Instr.sliceBound,asIntOf,c1]
 ·have c3:0≤l∧l≤(len:Int):=by omega
  simp[Instr.sliceBounds,Instr.sliceBound,asIntOf,c3]
 ·have c4:(h.toNat:Int)=h:=by omega
  have c5:0≤l∧l≤h:=by omega
  simp[Instr.sliceBounds,Instr.sliceBound,asIntOf,c1,c2,c4,c5]
omit [Dr] in
theorem DF {len cp:Nat} {l:Int} {lo hi mx:Option Value} (hlo:(lo=none∧l=0)∨∃kd,lo=some (.int kd l)) (hhi:∃kd,hi=some (.int kd l)) (hmx:∃kd,mx=some (.int kd l)) (h0:0≤l) (h2:l≤cp):
 (Instr.sliceBounds true len cp lo hi mx).run P w= .ok (l.toNat,l.toNat,l.toNat) w:=by
 have c1:0≤l∧l≤(cp:Int):=by omega
 have c2:0≤l∧l≤((l.toNat:Nat):Int):=by omega
 obtain⟨k1,rfl⟩:=hhi
 obtain⟨k2,rfl⟩:=hmx
 rcases hlo with⟨rfl,rfl⟩|⟨kd,rfl⟩
 ·simp[Instr.sliceBounds,Instr.sliceBound,asIntOf]
 ·simp only[Instr.sliceBounds,Instr.sliceBound,asIntOf,Sem.run_bind,Sem.run_pure,Result.andThen_ok,c1,c2,and_self,if_true]
theorem Jc (hs:aA x bl cap st w) (h:sK P o.op id e (get st)=some r) (hr:∀y u,y∈o.op.operands→e y=some u→af (mkK x bl cap st w) u (ρ y)):Good x bl cap st w ⟨r.1,r.2,[]⟩ ((execOp ρ o).run P w):=by
 obtain⟨dst,op,type,pos,after,guard⟩:=o
 simp only at h hr
 unfold sK at h
 split at h
 ·rename_i T y lo hi
  split at h
  ·rename_i i sz off len t h1 ht
   rw[TU] at ht
   obtain⟨el,hel,ht⟩:=ht
   have hu:=eX hel
   split at h
   ·rename_i l h' hl hh
    split at h
    ·rename_i hc
     cases h
     obtain⟨c0,c1,c2,c3⟩:=hc
     have rl:=nK hl (fun y hy v hv=>hr y v (by simp[Op.operands,hy]) hv)
     have rh:=nK hh (fun y hy v hv=>hr y v (by simp[Op.operands,hy]) hv)
     obtain⟨hd,hcap,hv⟩:=hr y _ (by simp[Op.operands]) h1
     rcases hv with⟨hz,a,hv⟩|⟨hnz,b,hb,hv⟩
     ·have e1:len=0:=by omega
      subst e1
      have hbd:=uy (P:=P) (w:=w) (cp:=0) rl rh c1 c2 c3 (Ui _)
      have z1:l.toNat=0:=by omega
      have z2:h'.toNat=0:=by omega
      have z3:(h'-l).toNat=0:=by omega
      rw[z1,z2] at hbd
      have hrep:af (mkK x bl cap st w) (.c (.ms i sz (off+l.toNat) (h'-l).toNat)) (.slice a 0 0):=⟨hd,by omega, .inl ⟨by omega,a,rfl⟩⟩
      refine Good.pure hs rfl hrep ?_
      simp only[execOp]
      refine dG ?_
      simp only[hv,Instr.sliceAt,Sem.run_bind,run_underlying hu,Result.andThen_ok,Instr.slice,Option.map_none,hbd,aB w ht]
      simp
     ·have hbd:=uy (P:=P) (w:=w) (cp:=(mkK x bl cap st w).cap i-off) rl rh c1 c2 c3 (by omega)
      have hrep:af (mkK x bl cap st w) (.c (.ms i sz (off+l.toNat) (h'-l).toNat)) (.slice (if(mkK x bl cap st w).cap i-off=l.toNat then some ⟨b,off*sz,none⟩ else some ⟨b,(off+l.toNat)*sz,none⟩) (h'.toNat-l.toNat) ((mkK x bl cap st w).cap i-off-l.toNat)):=by
       refine⟨hd,by omega,?_⟩
       by_cases hml:(mkK x bl cap st w).cap i-off=l.toNat
       ·left
        rw[if_pos hml]
        refine⟨by omega,some ⟨b,off*sz,none⟩,?_⟩
        rw[show h'.toNat-l.toNat=0 by omega,show(mkK x bl cap st w).cap i-off-l.toNat=0 by omega]
       ·right
        rw[if_neg hml]
        refine⟨by omega,b,hb,?_⟩
        rw[show(h'-l).toNat=h'.toNat-l.toNat by omega,show(mkK x bl cap st w).cap i-(off+l.toNat)=(mkK x bl cap st w).cap i-off-l.toNat by omega]
      refine Good.pure hs rfl hrep ?_
      simp only[execOp]
      refine dG ?_
      have ea:(Addr.mk b (off*sz) none).add (l.toNat*t.size)=⟨b,(off+l.toNat)*sz,none⟩:=by rw[dO,c0,U9]
      simp only[hv,Instr.sliceAt,Sem.run_bind,run_underlying hu,Result.andThen_ok,Instr.slice,Option.map_none,hbd,aB w ht,Option.map_some,ea,Sem.run_pure]
    ·cases h
   ·cases h
  ·cases h
 ·rename_i T y lo hi mx
  split at h
  ·rename_i i sz off len t l h' m h1 ht hl hh hm hid
   rw[TU] at ht
   obtain⟨el,hel,ht⟩:=ht
   have hu:=eX hel
   obtain⟨_,_,_,_,_,_,_,_,_,g4,g5,_⟩:=dC ht
   split at h
   ·rename_i hc
    cases h
    obtain⟨c0,c1,rfl,rfl,c3⟩:=hc
    obtain⟨hd,hcap,hv⟩:=hr y _ (by simp[Op.operands]) h1
    have rl:=nK hl (fun y hy v hv=>hr y v (by simp[Op.operands,hy]) hv)
    have rh:∃kd,(some hi).map ρ=some (.int kd l):=by
     rcases nK (ρ:=ρ) (k:=mkK x bl cap st w) (lo:=some hi) (d:=l) (show yN e l (some hi)=_ from hh) (fun y hy v hv=>hr y v (by cases hy;simp[Op.operands]) hv) with⟨h,_⟩|h
     ·cases h
     ·exact h
    have rm:∃kd,(some mx).map ρ=some (.int kd l):=by
     rcases nK (ρ:=ρ) (k:=mkK x bl cap st w) (lo:=some mx) (d:=l) (show yN e l (some mx)=_ from hm) (fun y hy v hv=>hr y v (by cases hy;simp[Op.operands]) hv) with⟨h,_⟩|h
     ·cases h
     ·exact h
    have go:∀{a:Option Addr} {cp:Nat},ρ y= .slice a len cp→l≤cp→Good x bl cap st w ⟨.c (.ms id sz 0 0),[(id, .arr sz [])],[]⟩ ((execOp ρ ⟨dst, .slice T y lo (some hi) (some mx),type,pos,after,guard⟩).run P w):=by
     intro a cp hv hcp
     have hbd:=DF (P:=P) (w:=w) (len:=len) (cp:=cp) rl rh rm c1 hcp
     obtain⟨bl',cap',a1,a2,a3⟩:=kT a hs hid (sz:=sz) (by omega)
     refine⟨bl',cap',w, .slice a 0 0, .inl ?_,a1,a2,a3⟩
     simp only[execOp]
     refine dG ?_
     simp only[hv,Instr.sliceAt,Sem.run_bind,run_underlying hu,Result.andThen_ok,Instr.slice,hbd,aB w ht]
     simp
    rcases hv with⟨hz,a,hv⟩|⟨hnz,b,hb,hv⟩
    ·have e1:len=0:=by omega
     subst e1
     exact go hv (by omega)
    ·exact go hv (by omega)
   ·cases h
  ·cases h
 ·cases h
omit [Dr] in
theorem yM {T T' id i sz off len:Nat} {v:AV} {ob:Nat→Option AO} {out:Out} (h:di P T T' id (.c (.ms i sz off len)) v ob=some out):∃l,out.upd=(i, .dead)::l:=by
 unfold di at h
 split at h
 ·split at h
  ·split at h
   ·simp only at h
    split at h
    ·cases h;exact⟨_,rfl⟩
    ·cases h
   ·cases h
  ·cases h
 ·cases h
theorem trunc {i sz len:Nat} {xs:List (List C)} (hs:aA x bl cap st w) (hi:get st i=some (.arr sz xs)):
 aA x bl cap (put st i (.arr sz (xs.take len))) w∧(mkK x bl cap st w).le (mkK x bl cap (put st i (.arr sz (xs.take len))) w):=by
 have hon:iD (bl i) w w:=⟨rfl,fun _ _=>rfl,rfl,rfl,rfl,Ui _⟩
 have hle:=jv (x:=x) (cap:=cap) (o':= .arr sz (xs.take len)) hi rfl hon
 refine⟨hs.upd hi rfl hon ?_,hle⟩
 obtain⟨h0,h1,h2,h3⟩:=hs.objs i _ hi
 refine⟨by rw[UE];exact Ur (Nat.min_le_right _ _) h0,fun l hl=>h1 l (Vr hl),h2,?_⟩
 rcases h3 with h3|⟨b,T,vs,a1,a2,a3,a4⟩
 ·exact .inl h3
 ·refine .inr ⟨b,T,vs,a1,a2,a3,?_⟩
  have key:∀(n:Nat) (xs:List (List C)),(∀l∈xs,l.length=sz)→(xs.take n).flatten=xs.flatten.take ((xs.take n).length*sz):=by
   intro n xs
   induction xs generalizing n with
   |nil=>intro _;simp
   |cons y ys ih=>
    intro hl
    cases n with
    |zero=>simp
    |succ n=>
     have hy:=hl y (by simp)
     rw[List.take_succ_cons,List.flatten_cons,List.flatten_cons,List.length_cons,Uz,ih n fun l hm=>hl l (by simp[hm]),Nat.add_comm _ sz,←hy,List.take_length_add_append]
  rw[key len xs h1]
  have h4:=(a4.mono fun _ _=>ah.le hle).take ((xs.take len).length*sz)
  rw[List.take_take] at h4
  have:(xs.take len).length*sz≤xs.length*sz:=Ul _ (by rw[UE];exact Nat.min_le_right _ _)
  rwa [Nat.min_eq_left this] at h4
theorem OJ (hs:aA x bl cap st w) (h:IV P o.op id e (get st)=some r) (hr:∀y u,y∈o.op.operands→e y=some u→af (mkK x bl cap st w) u (ρ y)):Good x bl cap st w ⟨r.1,r.2,[]⟩ ((execOp ρ o).run P w):=by
 obtain⟨dst,op,type,pos,after,guard⟩:=o
 simp only at h hr
 unfold IV at h
 split at h
 ·rename_i y z T T'
  split at h
  ·rename_i i sz len v h1 h2
   split at h
   ·rename_i sz' xs hi
    split at h
    ·split at h
     ·rename_i out heff
      split at h
      ·rename_i hok
       cases h
       have e0:(fun j=>if i=j then some (AO.arr sz' (xs.take len)) else get st j)=get (put st i (.arr sz' (xs.take len))):=by funext j;rw[get_put]
       rw[e0] at heff hok
       obtain⟨hs',hle⟩:=trunc (len:=len) hs hi
       have hobl:=sS hok heff
       obtain⟨bl',cap',w',u,r1,r2,r3,r4⟩:=qQ (P:=P) (ty:=type) hs' heff hobl ((hr y _ (by simp[Op.operands,Call.operands]) h1).le hle) ((hr z _ (by simp[Op.operands,Call.operands]) h2).le hle)
       obtain⟨l,hl⟩:=yM heff
       have e1:ag (put st i (.arr sz' (xs.take len))) out.upd=ag st out.upd:=by rw[hl];simp only[ag,G7]
       rw[e1] at r2 r3 r4
       refine⟨bl',cap',w',u, .inl ?_,r2,hle.trans r3 (Ui _),r4⟩
       simp only[execOp,resolve,Sem.run_bind,Sem.run_pure,Result.andThen_ok,invoke,builtin]
       have e1:Array.map ρ (⟨[y,z]⟩:Array Operand)= #[ρ y,ρ z]:=by simp
       rw[e1]
       have h1':(Builtin.append_ ⟨[T,T']⟩ type #[ρ y,ρ z]).run P w= .ok u w':=r1
       rw[h1'];rfl
      ·cases h
     ·cases h
    ·cases h
   ·cases h
  ·cases h
 ·cases h
omit [Dr] in
theorem sO:∀{l:List C} {r:List D},Lh l=some r→l=r.map .d
 |[],r,h=>by cases h;rfl
 |c::l,r,h=>by
  cases c<;>simp only[Lh] at h<;>first|(cases h;done)|skip
  split at h
  ·rename_i r' hr'
   cases h
   rw[sO hr',Un]
  ·cases h
omit [Dr] in
theorem zi:∀{l:List oU} {r:List mF},NK l=some r→l=r.map yP
 |[],r,h=>by cases h;rfl
 |e::l,r,h=>by
  simp only[NK] at h
  split at h
  ·rename_i a b r' h1 h2 h3
   cases h
   obtain⟨⟨f,k⟩,⟨g,v⟩⟩:=e
   simp only at h1 h2
   rw[Un,←zi h3,sO h1,sO h2]
   rfl
  ·cases h
theorem Iq (hs:aA x bl cap st w) (h:rQ P o.op id e (get st)=some r) (hr:∀y u,y∈o.op.operands→e y=some u→af (mkK x bl cap st w) u (ρ y)):Good x bl cap st w ⟨r.1,r.2,[]⟩ ((execOp ρ o).run P w):=by
 obtain⟨dst,op,type,pos,after,guard⟩:=o
 simp only at h hr
 unfold rQ at h
 split at h
 ·rename_i T y
  split at h
  ·rename_i m KE h1 hT hid
   split at h
   ·rename_i es hm
    split at h
    ·rename_i l hl
     cases h
     rw[zi hl] at hm
     have hne:m≠id:=by intro e;rw[e,hid] at hm;cases hm
     have hk:=hs.kill hm
     have lk:=jR (x:=x) (bl:=bl) (cap:=cap) (w:=w) hm
     have hrep:=wG hs hm (hr y _ (by simp[Op.operands]) h1)
     have hid':get (put st m .dead) id=none:=by rw[aU hne];exact hid
     have he:iK P T id (.c (.d (.pm l))) (get (put st m .dead))=some ⟨.c (.ptr id 0),[(id, .iter none l)],[]⟩:=by unfold iK;rw[hT,hid']
     obtain⟨bl',cap',w',u,r1,r2,r3,r4⟩:=uC (P:=P) hk he hrep
     exact⟨bl',cap',w',u, .inl (dG r1),r2,lk.trans r3 (Ui _),r4⟩
    ·cases h
   ·cases h
  ·cases h
 ·rename_i y
  split at h
  ·rename_i i h1
   split at h
   ·rename_i cur hi
    cases h
    obtain⟨hdm,b,hb,hit⟩:=hr y _ (by simp[Op.operands]) h1
    obtain⟨b',hbl,hcase⟩:=hs.objs i _ hi
    simp only[mkK] at hb hbl
    rw[hbl] at hb;simp at hb;subst hb
    have hrep:af (mkK x bl cap st w) (.tup [(false,[.d (.v (.bool false))])]) (.tuple #[.bool false]):=⟨[.bool false],rfl, .cons (show bM _ (false,[_]) _ from⟨⟨_,rfl, .v _ rfl⟩,by simp⟩) .nil⟩
    rcases hcase with⟨hl,hc,since,seen,last,hh⟩|⟨mb,ents,clock,seen,hh,hM,hmb,hent,hall,hcur⟩
    ·simp only[mkK] at hh
     have hg:(getObj b').run P w= .ok (.mapIter none since seen last) w:=by simp only[getObj,Sem.run];rw[hh]
     exact Good.pure hs rfl hrep (by simp[execOp,hit,Instr.next,hg])
    ·simp only[mkK] at hh hmb
     have hg:(getObj b').run P w= .ok (.mapIter (some mb) clock seen clock) w:=by simp only[getObj,Sem.run];rw[hh]
     have hgm:(getObj mb).run P w= .ok (.map ents.toArray clock) w:=MapKept.run_getObj_map hmb
     have hL:(ents.filter fun e=>!seen.contains e.born)=[]:=hall.iJ
     have e1:ents.toArray.filter (fun e=>!seen.contains e.born)= #[]:=by rw[List.filter_toArray' (by simp),hL]
     have hguard:(!seen.isEmpty&&!ents.toArray.isEmpty&&ents.toArray.all fun e=>decide (e.born≥clock))=false:=by
      cases hE:ents with
      |nil=>simp
      |cons e es=>
       have:e.born<clock:=hent.lt e (by rw[hE];simp)
       have h2:((e::es).toArray.all fun e=>decide (e.born≥clock))=false:=by
        simp only[List.all_toArray,List.all_cons]
        rw[show decide (e.born≥clock)=false by simp;omega];simp
       rw[h2];simp
     refine Good.pure hs rfl hrep ?_
     simp only[execOp,hit,Instr.next,Sem.run_bind,hg,Result.andThen_ok,hgm]
     simp only[hguard,Um,if_false,e1]
     simp[choose,Sem.run,Question.forced]
   ·cases h
  ·cases h
 ·cases h
omit [Dr] in
theorem D8 {α:Type} {a b:Option α} {c:α} (h:Tu a b=some c):a=some c∨b=some c:=by
 cases a with
 |none=>exact .inr h
 |some y=>exact .inl h
theorem NZ (hs:aA x bl cap st w) (h:Ir P o.op id e (get st)=some r) (hr:∀y u,y∈o.op.operands→e y=some u→af (mkK x bl cap st w) u (ρ y)):Good x bl cap st w ⟨r.1,r.2,[]⟩ ((execOp ρ o).run P w):=by
 unfold Ir at h
 split at h
 ·rename_i v hv
  unfold one1 at h
  split at h
  ·rename_i h1
   cases h
   exact Good.pure hs rfl (show af _ (.c (.d (.v v))) v from aP.v v h1) (I5 hv hr)
  ·cases h
 ·split at h
  ·rename_i b hb
   cases h
   unfold KX at hb
   obtain⟨dst,op,type,pos,after,guard⟩:=o
   simp only at hb hr
   split at hb
   ·rename_i T y z T' hpe
    split at hb
    ·rename_i a v h1 h2
     split at hb
     ·rename_i hn
      cases hb
      have hz:=dK h2 (fun v hv=>hr z v (by simp[Op.operands]) hv)
      have:=(wR hn (hr y _ (by simp[Op.operands]) h1) y z).1
      rw[←hz] at this
      exact Good.pure hs rfl (show af _ (B false) (.bool false) from aP.v _ rfl) (dG this)
     ·cases hb
    ·cases hb
   ·rename_i T y z T' hpe
    split at hb
    ·rename_i a v h1 h2
     split at hb
     ·rename_i hn
      cases hb
      have hz:=dK h2 (fun v hv=>hr z v (by simp[Op.operands]) hv)
      have:=(wR hn (hr y _ (by simp[Op.operands]) h1) y z).2
      rw[←hz] at this
      exact Good.pure hs rfl (show af _ (B true) (.bool true) from aP.v _ rfl) (dG this)
     ·cases hb
    ·cases hb
   ·cases hb
  ·rcases D8 h with h|h
   ·exact Jc hs h hr
   ·rcases D8 h with h|h
    ·exact OJ hs h hr
    ·exact Iq hs h hr
omit [Dr] in
theorem uI {v:AV} {ob ob':Nat→Option AO} (h:∀id∈bz v,ob id=ob' id):jg v ob=jg v ob':=by
 unfold jg
 split
 ·rename_i j _ _ _;rw[h j (by simp[bz])]
 ·rfl
omit [Dr] in
theorem xI {T T' id:Nat} {u v:AV} {ob ob':Nat→Option AO} (hu:∀id∈bz u,ob id=ob' id) (hv:∀id∈bz v,ob id=ob' id):jE P T T' id u v ob=jE P T T' id u v ob':=by
 unfold jE
 rw[o6 hv,uI hv]
 have:∀id0 sz off len,u= .c (.ms id0 sz off len)→ob id0=ob' id0:=fun id0 sz off len e=>hu id0 (by rw[e];simp[bz])
 split
 ·split
  ·split
   ·split
    ·rw[this _ _ _ _ rfl]
    ·rfl
   ·rfl
  ·rfl
 ·rfl
omit [Dr] in
theorem FB {op:Op} {e':Operand→Option AV} {ob ob':Nat→Option AO} (he:∀y∈op.operands,e y=e' y) (hob:∀y∈op.operands,∀v,e y=some v→∀i∈bz v,ob i=ob' i) (hid:ob id=ob' id):Ir P op id e ob=Ir P op id e' ob':=by
 have hO:∀{lo:Option Operand},(∀y,lo=some y→e y=e' y)→plainO e lo=plainO e' lo:=by
  intro lo h;cases lo with
  |none=>rfl
  |some y=>simp[plainO,h y rfl]
 have hV:∀{lo:Option Operand} {d:Int},(∀y,lo=some y→e y=e' y)→yN e d lo=yN e' d lo:=by
  intro lo d h;cases lo with
  |none=>rfl
  |some y=>simp[yN,h y rfl]
 have h1:zO P op e=zO P op e':=by
  unfold zO
  split
  ·rename_i a b c d;rw[he b (by simp[Op.operands]),he c (by simp[Op.operands])]
  ·rename_i a b;rw[he b (by simp[Op.operands])]
  ·rename_i a b c;rw[he c (by simp[Op.operands])]
  ·rename_i T y lo hi mx;rw[he y (by simp[Op.operands]),hO fun z hz=>he z (by simp[Op.operands,hz]),hO fun z hz=>he z (by simp[Op.operands,hz]),hO fun z hz=>he z (by simp[Op.operands,hz])]
  ·rename_i y T;rw[he y (by simp[Op.operands,Call.operands])]
  ·rfl
 have h2:KX P op e=KX P op e':=by
  unfold KX
  split
  ·rename_i T y z T';rw[he y (by simp[Op.operands]),he z (by simp[Op.operands])]
  ·rename_i T y z T';rw[he y (by simp[Op.operands]),he z (by simp[Op.operands])]
  ·rfl
 have h3:sK P op id e ob=sK P op id e' ob':=by
  unfold sK
  split
  ·rename_i T y lo hi
   rw[he y (by simp[Op.operands]),hV fun z hz=>he z (by simp[Op.operands,hz])]
   split
   ·rw[hV (lo:=hi) fun z hz=>he z (by simp[Op.operands,hz])]
   ·rfl
  ·rename_i T y lo hi mx
   rw[he y (by simp[Op.operands]),he hi (by simp[Op.operands]),he mx (by simp[Op.operands]),hV fun z hz=>he z (by simp[Op.operands,hz]),hid]
  ·rfl
 have h4:IV P op id e ob=IV P op id e' ob':=by
  unfold IV
  split
  ·rename_i y z T T'
   have hy:=he y (by simp[Op.operands,Call.operands])
   have hz:=he z (by simp[Op.operands,Call.operands])
   rw[←hy,←hz]
   split
   ·rename_i i sz len v h1 h2
    have hi:ob i=ob' i:=hob y (by simp[Op.operands,Call.operands]) _ h1 i (by simp[bz])
    rw[←hi]
    split
    ·rename_i sz' xs hx
     have hff:∀j,j=i∨j∈bz v→(fun j=>if i=j then some (AO.arr sz' (xs.take len)) else ob j) j=(fun j=>if i=j then some (AO.arr sz' (xs.take len)) else ob' j) j:=by
      intro j hj
      show(if i=j then some (AO.arr sz' (xs.take len)) else ob j)=(if i=j then some (AO.arr sz' (xs.take len)) else ob' j)
      rcases hj with rfl|hj
      ·simp
      ·rw[hob z (by simp[Op.operands,Call.operands]) v h2 j hj]
     have h0:(fun j=>if i=j then some (AO.arr sz' (xs.take len)) else ob j) id=(fun j=>if i=j then some (AO.arr sz' (xs.take len)) else ob' j) id:=by
      show(if i=id then some (AO.arr sz' (xs.take len)) else ob id)=(if i=id then some (AO.arr sz' (xs.take len)) else ob' id)
      rw[hid]
     have hu:∀j∈bz (.c (.ms i sz 0 len)),(fun j=>if i=j then some (AO.arr sz' (xs.take len)) else ob j) j=(fun j=>if i=j then some (AO.arr sz' (xs.take len)) else ob' j) j:=
      fun j hj=>hff j (.inl (by simpa[bz] using hj))
     rw[mD h0 hu (fun j hj=>hff j (.inr hj)),xI hu (fun j hj=>hff j (.inr hj))]
    ·rfl
   ·rfl
  ·rfl
 have h5:rQ P op id e ob=rQ P op id e' ob':=by
  unfold rQ
  split
  ·rename_i T y
   rw[←he y (by simp[Op.operands]),←hid]
   split
   ·rename_i m _ hy _ _
    rw[hob y (by simp[Op.operands]) _ hy m (by simp[bz])]
   ·rfl
  ·rename_i y
   rw[←he y (by simp[Op.operands])]
   split
   ·rename_i i hy
    rw[hob y (by simp[Op.operands]) _ hy i (by simp[bz])]
   ·rfl
  ·rfl
 unfold Ir
 rw[h1,h2,h3,h4,h5]
end
end Go.Ab
