/- A part of the proof. -/
import Derived.Test.YtpoodoknkbojgaaGreatDoorRAbV
import Derived.Orders
set_option linter.all false
namespace Go.Ab
variable [Dr]
abbrev yg:=Bool×Nat
inductive Ct where
 |e (v:AV)
 |o (x:AO)
def look (s:S) (r:yg):Option Ct:=if r.1 then(get s.env r.2).map Ct.e else(get s.st r.2).map Ct.o
structure A1 where
 rd:List (yg×Option Ct)
 ew:Option (Nat×AV)
 sw:List (Nat×AO)
def A1.wr (A:A1) (r:yg):Option Ct:=
 if r.1 then
  match A.ew with
  |some (i,v)=>if i=r.2 then some (.e v) else none
  |none=>none
 else(get A.sw r.2).map Ct.o
def A1.app (A:A1) (s:S):S:=
 ⟨s.n,match A.ew with|some (i,v)=>put s.env i v|none=>s.env,ah s.st A.sw⟩
def A1.Fits (A:A1) (s:S):Prop:=∀p∈A.rd,look s p.1=p.2
def A1.MR (P:Program) (x:X) (n:Nat) (ops:Array Oper) (o:Oper) (A:A1):Prop:=
 ∀s a w,s.n=n→Sat x s a w→A.Fits s→∀(K:Act→World→Prop) (Q:Exit→Act→World→Prop),(∀a w,Sat x (A.app s) a w→K a w)→
  if Region.wanted o (yielded ops a.tmps) then o.wp P a w K Q else K (a.put o.dst undef) w
omit [Dr] in
theorem Jj {A:A1} (hn:(A.sw.map (·.1)).Nodup) (s:S) (r:yg):look (A.app s) r=(A.wr r).or (look s r):=by
 obtain⟨b,i⟩:=r
 cases b with
 |true=>
  simp only[look,A1.app,A1.wr,if_true]
  cases he:A.ew with
  |none=>simp
  |some p=>
   obtain⟨j,v⟩:=p
   simp only
   rw[get_put]
   by_cases e:j=i
   ·simp[e]
   ·simp[e]
 |false=>
  simp only[look,A1.app,A1.wr,aak,if_false]
  rw[nX hn]
  cases get A.sw i<;>rfl
theorem Sat.congr {x:X} {s s':S} (hn:s.n=s'.n) (h:∀r,look s r=look s' r) {a:Act} {w:World} (hs:Sat x s a w):Sat x s' a w:=by
 have he:∀i,get s.env i=get s'.env i:=fun i=>by
  have:=h (true,i)
  simp only[look,if_true] at this
  cases h1:get s.env i<;>cases h2:get s'.env i<;>simp_all
 have ho:∀i,get s.st i=get s'.st i:=fun i=>by
  have:=h (false,i)
  simp only[look,aak,if_false] at this
  cases h1:get s.st i<;>cases h2:get s'.st i<;>simp_all
 obtain⟨bl,cap,hS,hE,hd,hsz⟩:=hs
 have hMM:MM bl s.st=MM bl s'.st:=by funext b;simp only[MM,ho]
 have hK:mkK x bl cap s.st w=mkK x bl cap s'.st w:=by simp only[mkK,hMM,ho]
 refine⟨bl,cap,⟨?_,?_,?_,?_,?_,hS.fr,?_,hS.xok⟩,?_,by rw[←hK];exact hd,by rw[←hn];exact hsz⟩
 ·intro id o h;rw[←ho] at h;rw[←hK];exact hS.objs id o h
 ·intro i j p q b hi hj;rw[←ho] at hi hj;exact hS.disj i j p q b hi hj
 ·intro id o h;rw[←ho] at h;exact hS.nodup id o h
 ·intro b hb;rw[←hMM] at hb;exact hS.new b hb
 ·intro b hb;rw[←hMM] at hb;exact hS.lt b hb
 ·intro id hid;rw[←ho];exact hS.keep id hid
 ·rw[←hK];intro i v hv;rw[←he] at hv;exact hE i v hv
def jq (As:List A1) (s:S):Nat→S
 |0=>s
 |i+1=>
  match As[i]? with
  |some A=>A.app (jq As s i)
  |none=>jq As s i
def yM (As:List A1) (D:Nat→Bool) (r:yg) (acc:Option Ct) (i:Nat):Option Ct:=
 if D i then((As[i]?).bind fun A=>A.wr r).or acc else acc
def cont (As:List A1) (s:S) (D:Nat→Bool) (r:yg) (n:Nat):Option Ct:=(List.range n).foldl (yM As D r) (look s r)
def writes (As:List A1) (i:Nat) (r:yg):Prop:=∃A c,As[i]? =some A∧A.wr r=some c
omit [Dr] in
theorem nJ (As:List A1) (s:S) (D:Nat→Bool) (r:yg) (n:Nat):cont As s D r (n+1)=yM As D r (cont As s D r n) n:=by
 simp[cont,List.range_succ]
omit [Dr] in
theorem uf {As:List A1} {D:Nat→Bool} {r:yg} {acc:Option Ct} {i:Nat} (h:¬writes As i r):yM As D r acc i=acc:=by
 unfold yM
 split
 ·cases hA:As[i]? with
  |none=>rfl
  |some A=>
   cases hc:A.wr r with
   |none=>simp[hc]
   |some c=>exact absurd ⟨A,c,hA,hc⟩ h
 ·rfl
omit [Dr] in
theorem nY {As:List A1} {s:S} {D D':Nat→Bool} {r:yg}:∀{n:Nat},(∀i,i<n→writes As i r→D i=D' i)→cont As s D r n=cont As s D' r n
 |0,_=>rfl
 |n+1,h=>by
  rw[nJ,nJ,nY fun i hi=>h i (by omega)]
  by_cases hw:writes As n r
  ·unfold yM;rw[h n (by omega) hw]
  ·rw[uf hw,uf hw]
omit [Dr] in
theorem kY {As:List A1} {s:S} {D:Nat→Bool} {r:yg} {m:Nat}:∀{n:Nat},m≤n→(∀i,m≤i→i<n→writes As i r→D i=false)→cont As s D r n=cont As s D r m
 |0,hm,_=>by have:m=0:=by omega
             rw[this]
 |n+1,hm,h=>by
  by_cases e:m=n+1
  ·rw[e]
  ·rw[nJ,←kY (m:=m) (n:=n) (by omega) fun i h1 h2=>h i h1 (by omega)]
   by_cases hw:writes As n r
   ·unfold yM;rw[h n (by omega) (by omega) hw];simp
   ·exact uf hw
omit [Dr] in
theorem xQ {As:List A1} {s:S} (hn:∀A∈As,(A.sw.map (·.1)).Nodup) (r:yg):∀{i:Nat} {D:Nat→Bool},(∀k,k<i→D k=true)→cont As s D r i=look (jq As s i) r
 |0,_,_=>rfl
 |i+1,D,h=>by
  rw[nJ,xQ hn r (i:=i) (D:=D) fun k hk=>h k (by omega)]
  unfold yM
  rw[h i (by omega)]
  simp only[if_true,jq]
  cases hA:As[i]? with
  |none=>rfl
  |some A=>simp only[Option.bind_some];rw[Jj (hn A (aah hA))]
inductive Reach (ops:Array Oper):Nat→Nat→Prop
 |one {k i:Nat} {o:Oper} {e:Edge} (ho:ops[i]? =some o) (he:e∈o.after) (hb:Region.binds .any e=true) (hk:e.on=k):Reach ops k i
 |trans {k j i:Nat} (h:Reach ops k j) (h':Reach ops j i):Reach ops k i
def Closed (ops:Array Oper) (L:Array Bool):Prop:=∀(i:Nat) (o:Oper) (e:Edge),ops[i]? =some o→L.getD i true=true→e∈o.after→Region.binds .any e=true→L.getD e.on false=true
omit [Dr] in
theorem getD_in {L:Array Bool} {i:Nat} (h:i<L.size) (a b:Bool):L.getD i a=L.getD i b:=by
 simp[Array.getD,h]
omit [Dr] in
theorem Reach.closed {ops:Array Oper} {L:Array Bool} (hL:Closed ops L) (hsz:L.size=ops.size) {k i:Nat} (h:Reach ops k i):L.getD i false=true→L.getD k false=true:=by
 induction h with
 | @one k i o e ho he hb hk=>
   intro hi
   have hlt:i<ops.size:=(abq.1 ho).1
   rw[getD_in (by omega) false true] at hi
   rw[←hk];exact hL i o e ho hi he hb
 |trans _ _ ih1 ih2=>exact fun hi=>ih1 (ih2 hi)
omit [Dr] in
theorem mem_ready {ops:Array Oper} {L:Array Bool} {i:Nat} (h:i∈Region.ready .any ops L):
 i<ops.size∧L.getD i true=false∧∃o,ops[i]? =some o∧∀e∈o.after,Region.binds .any e=true→L.getD e.on false=true:=by
 simp only[Region.ready,aaU,aa3,aaj,aar] at h
 obtain⟨h1,h2,h3⟩:=h
 refine⟨h1,h2,ops[i],by simp[h1],?_⟩
 rw[aa8 h1] at h3
 simp only[Option.map_some,Option.getD_some,Array.all_eq_true,abe,aar] at h3
 intro e he hb
 obtain⟨j,hj,rfl⟩:=Array.mem_iff_getElem.1 he
 rcases h3 j hj with h|h
 ·rw[h] at hb;cases hb
 ·exact h
omit [Dr] in
theorem G9 {ops:Array Oper} {L:Array Bool} (hL:Closed ops L) (hsz:L.size=ops.size) {i:Nat} (hr:i∈Region.ready .any ops L) {k:Nat} (h:Reach ops k i):L.getD k false=true:=by
 obtain⟨h1,h2,o,ho,hall⟩:=mem_ready hr
 clear hr
 induction h with
 | @one k i o' e ho' he hb hk=>rw[ho] at ho';cases ho';rw[←hk];exact hall e he hb
 |trans h h' ih1 ih2=>exact h.closed hL hsz (ih2 h1 h2 ho)
omit [Dr] in
theorem filter_lt {p q:Nat→Bool}:∀{l:List Nat} {i:Nat},i∈l→p i=true→q i=false→(∀k,q k=true→p k=true)→(l.filter q).length<(l.filter p).length
 |[],i,h,_,_,_=>by cases h
 |x::l,i,h,hp,hq,hle=>by
  have hmono:(l.filter q).length≤(l.filter p).length:=by
   clear h
   induction l with
   |nil=>simp
   |cons y l ih=>
    simp only[abh]
    cases hy:q y with
    |true=>simp[hle y hy];exact ih
    |false=>simp only[aak,if_false];split<;>(try simp only[List.length_cons])<;>omega
  rcases Z9.1 h with rfl|h
  ·simp[abh,hp,hq];omega
  ·have ih:=filter_lt h hp hq hle
   simp only[abh]
   cases hx:q x with
   |true=>simp[hle x hx];exact ih
   |false=>simp only[aak,if_false];split<;>(try simp only[List.length_cons])<;>omega
structure Order (ops:Array Oper) (As:List A1) (s:S):Prop where
 len:As.length=ops.size
 back:∀(i:Nat) (o:Oper) (e:Edge),ops[i]? =some o→e∈o.after→Region.binds .any e=true→e.on<i
 nodup:∀A∈As,(A.sw.map (·.1)).Nodup
 fits:∀(i:Nat) (A:A1),As[i]? =some A→A.Fits (jq As s i)
 conf:∀(i k:Nat) (A:A1),As[i]? =some A→i≠k→∀r,writes As k r→((∃c,(r,c)∈A.rd)∨∃c,A.wr r=some c)→(k<i→Reach ops k i)∧(i<k→Reach ops i k)
omit [Dr] in
theorem WI (As:List A1) (s:S) (i:Nat):(jq As s i).n=s.n:=by
 induction i with
 |zero=>rfl
 |succ i ih=>
  simp only[jq]
  cases As[i]? with
  |none=>exact ih
  |some A=>exact ih
theorem AB {P:Program} {x:X} {ops:Array Oper} {As:List A1} {s0:S} (ho:Order ops As s0) (hsound:∀(i:Nat) (o:Oper) (A:A1),ops[i]? =some o→As[i]? =some A→A.MR P x s0.n ops o)
 {Q:Exit→S→Prop} (hQ:Q .normal (jq As s0 ops.size)):
 ∀(fuel:Nat) (L:Array Bool) (s:S) (a:Act) (w:World),L.size=ops.size→Closed ops L→s.n=s0.n→(∀r,look s r=cont As s0 (fun i=>L.getD i false) r ops.size)→
  ((List.range ops.size).filter fun i=>!L.getD i false).length≤fuel→Sat x s a w→wpAny P .any ops (Aq x Q) fuel L a w:=by
 have done:∀(L:Array Bool) (s:S) (a:Act) (w:World),L.size=ops.size→s.n=s0.n→(∀r,look s r=cont As s0 (fun i=>L.getD i false) r ops.size)→Sat x s a w→
  (∀i,i<ops.size→L.getD i false=true)→Aq x Q .normal a w:=by
  intro L s a w hsz hn hlook hs hall
  refine⟨_,hQ,Sat.congr (by rw[WI];exact hn) (fun r=>?_) hs⟩
  rw[hlook r]
  exact xQ ho.nodup r (fun k hk=>hall k hk)
 have allOf:∀(L:Array Bool),L.size=ops.size→Region.ready .any ops L=[]→∀i,i<ops.size→L.getD i false=true:=by
  intro L hsz hr i
  induction i using Nat.strongRecOn with
  |_ i ih=>
   intro hi
   cases hli:L.getD i false with
   |true=>rfl
   |false=>
    have:i∈Region.ready .any ops L:=by
     simp only[Region.ready,aaU,aa3,aaj,aar]
     refine⟨hi,by rw[getD_in (by omega) true false];exact hli,?_⟩
     rw[aa8 hi]
     simp only[Option.map_some,Option.getD_some,Array.all_eq_true,abe,aar]
     intro j hj
     cases hbd:Region.binds .any (ops[i].after[j]) with
     |false=>left;rfl
     |true=>
      right
      have hb:=ho.back i ops[i] (ops[i].after[j]) (by simp[hi]) (Array.getElem_mem hj) hbd
      exact ih _ hb (by omega)
    rw[hr] at this;cases this
 intro fuel
 induction fuel with
 |zero=>
  intro L s a w hsz hcl hn hlook hf hs
  have hall:∀i,i<ops.size→L.getD i false=true:=by
   intro i hi
   have:((List.range ops.size).filter fun i=>!L.getD i false)=[]:=abL.1 (by omega)
   rw[List.filter_eq_nil_iff] at this
   have:=this i (aa3.2 hi)
   simpa using this
  refine⟨?_,done L s a w hsz hn hlook hs hall⟩
  apply List.eq_nil_iff_forall_not_mem.2
  intro i hi
  obtain⟨h1,h2,_⟩:=mem_ready hi
  rw[getD_in (by omega) true false,hall i h1] at h2;cases h2
 |succ fuel ih=>
  intro L s a w hsz hcl hn hlook hf hs
  refine⟨fun hr=>done L s a w hsz hn hlook hs (allOf L hsz hr),?_⟩
  intro i hi
  obtain⟨h1,h2,o,hoi,hpre⟩:=mem_ready hi
  have hAi:∃A,As[i]? =some A:=⟨As[i]'(by rw[ho.len];exact h1),by simp[aab (by rw[ho.len];exact h1:i<As.length)]⟩
  obtain⟨A,hA⟩:=hAi
  have hli:L.getD i false=false:=by rw[getD_in (by omega) false true];exact h2
  have who:∀r,((∃c,(r,c)∈A.rd)∨∃c,A.wr r=some c)→∀k,k≠i→writes As k r→L.getD k false=decide (k<i):=by
   intro r hr k hk hw
   obtain⟨c1,c2⟩:=ho.conf i k A hA (Ne.symm hk) r hw hr
   by_cases hlt:k<i
   ·rw[G9 hcl hsz hi (c1 hlt)];simp[hlt]
   ·cases hlk:L.getD k false with
    |false=>simp[hlt]
    |true=>
     have:=(c2 (by omega)).closed hcl hsz hlk
     rw[hli] at this;cases this
  have hfits:A.Fits s:=by
   intro p hp
   obtain⟨r,c⟩:=p
   have ht:=ho.fits i A hA (r,c) hp
   simp only at ht⊢
   rw[hlook r,←ht]
   rw[←xQ ho.nodup r (i:=i) (D:=fun k=>decide (k<i)) (by intro k hk;simpa using hk)]
   rw[←kY (n:=ops.size) (m:=i) (D:=fun k=>decide (k<i)) (by omega) (by intro k hk _ _;simp;omega)]
   refine nY fun k hk hw=>?_
   by_cases e:k=i
   ·subst e;simp only[hli];simp
   ·exact who r (.inl ⟨c,hp⟩) k e hw
  unfold wpOp
  simp only[hoi]
  have hstep:=hsound i o A hoi hA s a w hn hs hfits (wpAny P .any ops (Aq x Q) fuel (L.setIfInBounds i true)) (Aq x Q) ?_
  ·split
   ·rename_i hw;rw[if_pos hw] at hstep;exact .inl hstep
   ·rename_i hw;rw[if_neg hw] at hstep;exact hstep
  intro a' w' hs'
  have hset:∀k d,(L.setIfInBounds i true).getD k d=if k=i then true else L.getD k d:=by
   intro k d
   rw[aaF,aaF,Array.getElem?_setIfInBounds]
   by_cases e:i=k
   ·subst e;simp[hsz,h1]
   ·simp[e,Ne.symm e]
  refine ih (L.setIfInBounds i true) (A.app s) a' w' (by simpa using hsz) ?_ hn ?_ ?_ hs'
  ·intro j oj e hj hLj he hb
   rw[hset] at hLj⊢
   by_cases hji:j=i
   ·subst hji
    rw[hoi] at hj;cases hj
    split
    ·rfl
    ·exact hpre e he hb
   ·rw[if_neg hji] at hLj
    split
    ·rfl
    ·exact hcl j oj e hj hLj he hb
  ·intro r
   rw[Jj (ho.nodup A (aah hA))]
   cases hc:A.wr r with
   |some c=>
    have hwr:(∃c,(r,c)∈A.rd)∨∃c,A.wr r=some c:= .inr ⟨c,hc⟩
    rw[show(some c).or (look s r)=some c from rfl]
    have e1:cont As s0 (fun k=>(L.setIfInBounds i true).getD k false) r ops.size=cont As s0 (fun k=>decide (k<i+1)) r ops.size:=by
     refine nY fun k hk hw=>?_
     simp only[hset]
     by_cases e:k=i
     ·subst e;simp
     ·rw[if_neg e,who r hwr k e hw]
      by_cases hlt:k<i
      ·simp[hlt];omega
      ·simp[hlt];omega
    rw[e1,kY (m:=i+1) (by omega) (by intro k hk _ _;simp;omega),nJ]
    unfold yM
    simp[hA,hc]
   |none=>
    simp only[Option.none_or]
    rw[hlook r]
    refine nY fun k hk hw=>?_
    simp only[hset]
    by_cases e:k=i
    ·subst e
     obtain⟨A',c,hA',hc'⟩:=hw
     rw[hA] at hA';cases hA';rw[hc] at hc';cases hc'
    ·rw[if_neg e]
  ·have hlt:((List.range ops.size).filter fun k=>!(L.setIfInBounds i true).getD k false).length<((List.range ops.size).filter fun k=>!L.getD k false).length:=by
    refine filter_lt (i:=i) (aa3.2 h1) (by rw[hli];rfl) (by rw[hset];simp) ?_
    intro k hk
    rw[hset] at hk
    by_cases e:k=i
    ·rw[if_pos e] at hk;cases hk
    ·rw[if_neg e] at hk;exact hk
   omega
end Go.Ab
namespace Go.Ab
def bT:AV→List Nat
 | .c (.ptr id _)=>[id]
 | .c (.ep id _ _ _)=>[id]
 | .c (.ms id _ _ _)=>[id]
 | .c (.mp id)=>[id]
 |_=>[]
section
variable {P:Program} {ob ob':Nat→Option AO}
theorem DW {T:TypeId} {v:AV} (h:∀id∈bT v,ob id=ob' id):iM P T v ob=iM P T v ob':=by
 unfold iM
 cases ti P T with
 |none=>rfl
 |some t=>cases v with
  |c y=>cases y<;>simp only[bT,aag,forall_eq] at h⊢ <;>rw[h]
  |_=>rfl
theorem Dn {T:TypeId} {v u:AV} (h:∀id∈bT v,ob id=ob' id):je P T v u ob=je P T v u ob':=by
 unfold je
 cases ti P T with
 |none=>rfl
 |some t=>cases cellsOf u with
  |none=>rfl
  |some cs=>cases v with
   |c y=>cases y<;>simp only[bT,aag,forall_eq] at h⊢ <;>rw[h]
   |_=>rfl
theorem FU {T:TypeId} {v:AV} (h:∀id∈bT v,ob id=ob' id):qH P T v ob=qH P T v ob':=by
 unfold qH
 split<;>first|rfl|(simp only[bT,aag,forall_eq] at h;rw[h])|(split<;>first|rfl|(simp only[bT,aag,forall_eq] at h;rw[h])|(split<;>first|rfl|(simp only[bT,aag,forall_eq] at h;rw[h])|(split<;>first|rfl|(simp only[bT,aag,forall_eq] at h;rw[h]))))
theorem sO {v:AV} (h:∀id∈bT v,ob id=ob' id):elemsOf v ob=elemsOf v ob':=by
 unfold elemsOf
 split<;>first|rfl|(simp only[bT,aag,forall_eq] at h;rw[h])|(split<;>first|rfl|(simp only[bT,aag,forall_eq] at h;rw[h])|(split<;>first|rfl|(simp only[bT,aag,forall_eq] at h;rw[h])|(split<;>first|rfl|(simp only[bT,aag,forall_eq] at h;rw[h]))))
theorem Gf {v:AV} (h:∀id∈bT v,ob id=ob' id):qo v ob=qo v ob':=by
 unfold qo
 split<;>first|rfl|(simp only[bT,aag,forall_eq] at h;rw[h])|(split<;>first|rfl|(simp only[bT,aag,forall_eq] at h;rw[h])|(split<;>first|rfl|(simp only[bT,aag,forall_eq] at h;rw[h])|(split<;>first|rfl|(simp only[bT,aag,forall_eq] at h;rw[h]))))
theorem o6 {T T' id:Nat} {u v:AV} (h0:ob id=ob' id) (hu:∀id∈bT u,ob id=ob' id) (hv:∀id∈bT v,ob id=ob' id):dS P T T' id u v ob=dS P T T' id u v ob':=by
 unfold dS
 rw[h0,sO hv]
 split<;>first|rfl|(simp only[bT,aag,forall_eq] at hu;rw[hu])|(split<;>first|rfl|(simp only[bT,aag,forall_eq] at hu;rw[hu])|(split<;>first|rfl|(simp only[bT,aag,forall_eq] at hu;rw[hu])|(split<;>first|rfl|(simp only[bT,aag,forall_eq] at hu;rw[hu]))))
theorem lM {T:TypeId} {m k v:AV} (h:∀id∈bT m,ob id=ob' id):dA P T m k v ob=dA P T m k v ob':=by
 unfold dA
 split<;>first|rfl|(simp only[bT,aag,forall_eq] at h;rw[h])|(split<;>first|rfl|(simp only[bT,aag,forall_eq] at h;rw[h])|(split<;>first|rfl|(simp only[bT,aag,forall_eq] at h;rw[h])|(split<;>first|rfl|(simp only[bT,aag,forall_eq] at h;rw[h]))))
theorem AU {v:AV} (h:∀id∈bT v,ob id=ob' id):jI v ob=jI v ob':=by
 unfold jI
 split<;>first|rfl|(simp only[bT,aag,forall_eq] at h;rw[h])|(split<;>first|rfl|(simp only[bT,aag,forall_eq] at h;rw[h])|(split<;>first|rfl|(simp only[bT,aag,forall_eq] at h;rw[h])|(split<;>first|rfl|(simp only[bT,aag,forall_eq] at h;rw[h]))))
theorem zh {T:TypeId} {m k:AV} {ok:Bool} (h:∀id∈bT m,ob id=ob' id):iw P T m k ok ob=iw P T m k ok ob':=by
 unfold iw;rw[Gf h]
theorem mO {e e':Operand→Option AV}:∀{ps:List (Nat×Operand)},(∀y∈ps.map (·.2),e y=e' y)→iP e ps=iP e' ps
 |[],_=>rfl
 |p::ps,h=>by
  simp only[iP]
  rw[h p.2 (by simp),mO fun y hy=>h y (by simp at hy⊢;exact .inr hy)]
theorem ou {e e':Operand→Option AV}:∀{ys:List Operand},(∀y∈ys,e y=e' y)→mQ e ys=mQ e' ys
 |[],_=>rfl
 |y::ys,h=>by
  simp only[mQ]
  rw[h y (by simp),ou fun z hz=>h z (by simp[hz])]
def Kz:Op→Bool
 | .move _| .assign _| .indexAddr _ _ _| .fieldAddr _ _ _=>true
 |_=>false
theorem xB {wr:Bool} {op:Op} {id:Nat} {e e':Operand→Option AV} (he:∀y∈op.operands,e y=e' y) (hob0:Kz op=false→∀y∈op.operands,∀v,e y=some v→∀i∈bT v,ob i=ob' i) (hid:ob id=ob' id):
 eff P wr op id e ob=eff P wr op id e' ob':=by
 have bnd:∀{y:Operand} {f g:AV→Option Out},y∈op.operands→(∀v,e y=some v→f v=g v)→(e y).bind f=(e' y).bind g:=by
  intro y f g hy h
  rw[←he y hy]
  cases hv:e y with
  |none=>rfl
  |some v=>exact h v hv
 have hob:Kz op=true∨∀y∈op.operands,∀v,e y=some v→∀i∈bT v,ob i=ob' i:=by
  cases h:Kz op
  ·exact .inr (hob0 h)
  ·exact .inl rfl
 clear hob0
 unfold eff
 split
 all_goals(simp only[Op.operands,Call.operands,Kz,aak,false_or] at bnd hob he)
 ·rw[he _ (by simp)]
 ·rw[he _ (by simp)]
 ·unfold nC;rw[hid]
 ·exact bnd (by simp) fun v _=>by unfold wZ;rw[hid]
 ·exact bnd (by simp) fun v hv=>DW (hob _ (by simp) v hv)
 ·exact bnd (by simp) fun v hv=>bnd (by simp) fun u _=>Dn (hob _ (by simp) v hv)
 ·exact bnd (by simp) fun v _=>rfl
 ·exact bnd (by simp) fun v _=>bnd (by simp) fun u _=>rfl
 ·exact bnd (by simp) fun v _=>rfl
 ·exact bnd (by simp) fun v _=>rfl
 ·exact bnd (by simp) fun v _=>rfl
 ·exact bnd (by simp) fun v _=>bnd (by simp) fun u _=>rfl
 ·exact bnd (by simp) fun v _=>bnd (by simp) fun u _=>rfl
 ·exact bnd (by simp) fun v _=>rfl
 ·exact bnd (by simp) fun v hv=>FU (hob _ (by simp) v hv)
 ·exact bnd (by simp) fun v hv=>bnd (by simp) fun u hu=>o6 hid (hob _ (by simp) v hv) (hob _ (by simp) u hu)
 ·exact bnd (by simp) fun v _=>bnd (by simp) fun u _=>rfl
 ·exact bnd (by simp) fun v _=>bnd (by simp) fun u _=>rfl
 ·rw[mO fun y hy=>he y (by simpa using hy)]
 ·rw[mO fun y hy=>he y (by simpa using hy)]
  congr 1;funext vs;unfold dY;rw[hid]
 ·exact bnd (by simp) fun v _=>bnd (by simp) fun u _=>by unfold fO;rw[hid]
 ·unfold fH;rw[hid]
 ·exact bnd (by simp) fun v _=>by unfold nV fH;rw[hid]
 ·exact bnd (by simp) fun v _=>bnd (by simp) fun u _=>bnd (by simp) fun t _=>rfl
 ·exact bnd (by simp) fun v _=>bnd (by simp) fun u _=>rfl
 ·exact bnd (by simp) fun v _=>bnd (by simp) fun u _=>rfl
 ·exact bnd (by simp) fun v _=>bnd (by simp) fun u _=>bnd (by simp) fun t _=>bnd (by simp) fun t' _=>rfl
 ·exact bnd (by simp) fun v _=>rfl
 ·exact bnd (by simp) fun v hv=>bnd (by simp) fun u _=>zh (hob _ (by simp) v hv)
 ·exact bnd (by simp) fun v hv=>bnd (by simp) fun u _=>bnd (by simp) fun t _=>lM (hob _ (by simp) v hv)
 ·exact bnd (by simp) fun v hv=>bnd (by simp) fun u _=>bnd (by simp) fun t _=>lM (hob _ (by simp) v hv)
 ·exact bnd (by simp) fun v _=>by unfold jR;rw[hid]
 ·exact bnd (by simp) fun v hv=>AU (hob _ (by simp) v hv)
 ·rw[ou fun y hy=>he y (by simpa using hy)]
 ·rw[ou fun y hy=>he y (by simpa using hy)]
 ·rfl
end
end Go.Ab
