/- A part of the proof. -/
import Derived.Test.YtpoodoknkbojgaaGreatDoorRAbY
set_option linter.all false
namespace Go.Ab
variable [Dr]
section
variable {P:Program} {x:X} {ops:List Oper} {o:Oper} {s:S}
theorem Ce {wr:Bool} {cs:List (Nat×AV)} {out:Out} (hnc:∀f as ats,o.op≠ .call {callee:= .value (.func f),args:=⟨as⟩,argTypes:=ats}) (hnt:∀t as ats,o.op≠ .call {callee:= .value (.tmp t),args:=⟨as⟩,argTypes:=ats}) (h:iy P wr ops cs o s=some out):
 step1 P wr ops o s=some (⟨s.n,dB s.env o.dst out.v,ah s.st out.upd⟩,out.obl):=by
 unfold iy at h
 unfold step1
 split at h
 ·rename_i hg
  rw[hg]
  simp only
  split at h
  ·rename_i c a b hop
   rw[hop]
   simp only
   split at h
   ·rename_i t u v h1 h2 h3
    rw[h1,h2,h3]
    simp only[h]
    unfold yZ at h
    split at h
    ·cases h;rfl
    ·cases h
   ·cases h
  ·rename_i f as ats hop;exact absurd hop (hnc f as ats)
  ·rename_i f as ats hop;exact absurd hop (hnt f as ats)
  ·rename_i hnp hncl hntl
   split
   ·rename_i c a b hop;exact absurd hop (hnp c a b)
   ·rw[h]
 ·rename_i j want hg
  rw[hg]
  simp only
  split at h
  ·cases h
  rename_i bs b hgv
  rw[hgv]
  simp only
  split at h
  ·rename_i c a b' hop
   rw[hop]
   simp only
   split at h
   ·rename_i t u v h1 h2 h3
    rw[h1,h2,h3]
    simp only
    split at h
    ·rename_i out' hp
     cases h
     rw[hp];rfl
    ·cases h
   ·cases h
  ·rename_i f as ats hop;exact absurd hop (hnc f as ats)
  ·rename_i f as ats hop;exact absurd hop (hnt f as ats)
  ·rename_i hnp hncl hntl
   split
   ·rename_i c a b' hop;exact absurd hop (hnp c a b')
   ·split at h
    ·rename_i v obl heff
     cases h
     rw[heff];rfl
    ·rename_i v u us obl heff
     cases h
     rw[heff]
    ·cases h
omit [Dr] in
theorem Iy {dom:Nat→Bool} {c:C} (h:bi (fun _=>false) c):bi dom c:=by
 cases c with
 |fn f caps=>
  have h':ak (fun _=>false) caps:=h
  show ak dom caps
  clear h
  induction caps with
  |nil=>trivial
  |cons c cs ih=>
   refine⟨?_,ih h'.2⟩
   have:=h'.1
   cases c<;>simp_all[aK]
 |fb f caps=>
  have h':ak (fun _=>false) caps:=h
  show ak dom caps
  clear h
  induction caps with
  |nil=>trivial
  |cons c cs ih=>
   refine⟨?_,ih h'.2⟩
   have:=h'.1
   cases c<;>simp_all[aK]
 |_=>simp_all[bi]
omit [Dr] in
theorem OT {dom:Nat→Bool}:∀{v:AV},aA (fun _=>false) v→aA dom v:=by
 have hC:∀{c:C},bi (fun _=>false) c→bi dom c:=fun h=>Iy h
 have hCs:∀{cs:List C},ax (fun _=>false) cs→ax dom cs:=by
  intro cs;induction cs with
  |nil=>intro _;trivial
  |cons c cs ih=>intro h;exact⟨hC h.1,ih h.2⟩
 intro v
 induction v with
 |c y=>exact hC
 |agg cs=>exact hCs
 |tup vs=>
  intro h
  simp only[aA] at*
  induction vs with
  |nil=>trivial
  |cons p ps ih=>exact⟨hCs h.1,ih h.2⟩
 |cond b y ih=>exact ih
theorem Ph {dom:Nat→Bool}:∀{v:AO},aN (fun _=>false) v→aN dom v:=by
 have hC:∀{c:C},bi (fun _=>false) c→bi dom c:=fun h=>Iy h
 have hCs:∀{cs:List C},ax (fun _=>false) cs→ax dom cs:=by
  intro cs;induction cs with
  |nil=>intro _;trivial
  |cons c cs ih=>intro h;exact⟨hC h.1,ih h.2⟩
 have hPs:∀{cs:List (Bool×List C)},bC (fun _=>false) cs→bC dom cs:=by
  intro cs;induction cs with
  |nil=>intro _;trivial
  |cons c cs ih=>intro h;exact⟨hCs h.1,ih h.2⟩
 intro v
 cases v with
 |box cs=>exact hCs
 |arr sz xs=>exact hCs
 |map es=>exact fun h=>⟨hPs h.1,hPs h.2⟩
 |mapx es j β=>exact fun h=>⟨hPs h.1,hPs h.2⟩
 |loop l D env r=>
  intro h
  have h':bz (fun _=>false) env:=h
  show bz dom env
  clear h
  induction env with
  |nil=>trivial
  |cons p ps ih=>exact⟨OT h'.1,ih h'.2⟩
 |_=>exact fun _=>trivial
omit [Dr] in
theorem EL:ae []=fun _=>false:=rfl
omit [Dr] in
theorem lu {k:K} {a:Act} (henv:gB k s.env a.tmps):∀{as:List Operand} {args:List AV},iy.evsAll s as=some args→All (kJ s as)→aj (af k) args (as.map a.eval)
 |[],args,h,_=>by cases h;exact .nil
 |y::ys,args,h,ho=>by
  simp only[iy.evsAll] at h
  split at h
  ·rename_i v vs h1 h2
   cases h
   simp only[evs,aap] at h1
   obtain⟨v',hv',rfl⟩:=h1
   exact .cons ((dH (bJ henv hv')).1 (nI ho y (by simp) v' hv')) (lu henv h2 (All.append ho).2)
  ·cases h
omit [Dr] in
theorem lJ {bl:Nat→List Nat} {cap:Nat→Nat} {a:Act} {w:World} {j:Nat} {want:Bool} {bs:List Bool} {b:Bool} (henv:gB (mkK x bl cap s.st w) s.env a.tmps) (hg:o.guard=some (j,want)) (hgv:qL ops s j=some (bs,b)):
 Region.wanted o (yielded ops.toArray a.tmps)=bG bs (if want then b else !b):=by
 have hy:(bG bs true=true→yielded ops.toArray a.tmps j=some b)∧(bG bs true=false→yielded ops.toArray a.tmps j=none):=by
  unfold qL at hgv
  split at hgv
  ·rename_i d hj
   split at hgv
   ·rename_i v hv
    split at hgv
    ·rename_i b' bs' hst
     cases hgv
     obtain⟨u,hu,hr⟩:=henv d v hv
     have:=dH hr
     rw[hst] at this
     have e:((ops.toArray[j]?).bind (·.dst)).bind (a.tmps[·]?)=some u:=by rw[abj,hj];exact hu
     constructor
     ·intro h1
      have:u= .bool b:=gG (this.1 h1)
      simp only[yielded,e,this]
     ·intro h1
      have h2:=this.2 h1
      simp only[yielded,e,h2,undef]
    ·cases hgv
   ·cases hgv
  ·cases hgv
 simp only[Region.wanted,hg]
 cases hc:bG bs true with
 |false=>
  rw[hy.2 hc]
  have:bG bs (if want then b else !b)=false:=by
   cases hh:bG bs (if want then b else !b) with
   |false=>rfl
   |true=>rw[(kZ.1 hh).1] at hc;cases hc
  rw[this];rfl
 |true=>
  rw[hy.1 hc]
  have:bG bs (if want then b else !b)=(if want then b else !b):=by
   rw[abk,kZ];simp[hc]
  rw[this]
  cases want<;>cases b<;>rfl
theorem qJ {wr:Bool} {cs:List (Nat×AV)} {out:Out} (h:iy P wr ops cs o s=some out) (ho:All out.obl) (hdst:jP o s.n=true) {a:Act} {w:World} (hsat:Sat x s a w)
 {K:Act→World→Prop} {Q:Exit→Act→World→Prop} (hK:∀a w,Sat x ⟨s.n,dB s.env o.dst out.v,ah s.st out.upd⟩ a w→K a w):
 if Region.wanted o (yielded ops.toArray a.tmps) then o.wp P a w K Q else K (a.put o.dst undef) w:=by
 have hd:∀i,o.dst=some i→i<s.n:=fun i hi=>by simpa[jP,hi] using hdst
 by_cases hcall:∃f as ats,o.op= .call {callee:= .value (.func f),args:=⟨as⟩,argTypes:=ats}
 ·obtain⟨f,as,ats,hop⟩:=hcall
  obtain⟨bl,cap,hs,henv,hdf,hsz⟩:=hsat
  have docall:∀{args:List AV} {r:AV} {v':AV},aj (af (mkK x bl cap s.st w)) args (as.map a.eval)→AC P f args [] (fun r' st'=>r'=r∧st'=[])→(∀a∈args,aA (fun _=>false) a)→
   (∀a w,Sat x ⟨s.n,dB s.env o.dst r,s.st⟩ a w→K a w)→o.wp P a w K Q:=by
   intro args r v' hargs hac hcl hk
   refine uK (st0:=[]) hop hd ⟨by simp,by simp,fun a ha=>by rw[EL];exact hcl a ha⟩ hac hs henv hdf hsz hargs ?_
   rintro r' st' ⟨rfl,rfl⟩
   exact⟨fun p hp=>absurd hp (by simp),hk⟩
  unfold iy at h
  rw[hop] at h
  split at h
  ·rename_i hg
   rw[if_pos (by simp[Region.wanted,hg])]
   simp only at h
   split at h
   ·rename_i args d hargs hdd
    split at h
    ·rename_i r hr
     unfold NZ at h
     split at h
     ·rename_i id sz off len
      split at h
      ·rename_i oo hoo
       cases h
       simp only[All] at ho
       obtain⟨ho1,ho2, -⟩:=ho
       refine uK (st0:=[(id,oo)]) hop hd ⟨by simpa using hoo,?_,?_⟩ ho1 hs henv hdf hsz (iq henv hargs) ?_
       ·intro p hp;simp at hp;subst hp;exact Ph ho2
       ·intro p hp;simp at hp;subst hp;simp[aA,bi,ae,Ab.get]
       ·rintro r' st' ⟨rfl,rfl⟩
        refine⟨fun p hp=>?_,fun a w h=>hK a w h⟩
        simp at hp;subst hp;simp[ae,Ab.get]
      ·cases h
     ·cases h
      simp only[All] at ho
      exact docall (v':=r) (iq henv hargs) ho.1 ho.2.1 (fun a w h=>hK a w h)
    ·cases h
   ·cases h
  ·rename_i j want hg
   split at h
   ·cases h
   rename_i bs b hgv
   simp only at h
   split at h
   ·rename_i args d hargs hdd
    split at h
    ·rename_i r hr
     cases h
     simp only[All] at ho
     have hy:(bG bs true=true→yielded ops.toArray a.tmps j=some b)∧(bG bs true=false→yielded ops.toArray a.tmps j=none):=by
      unfold qL at hgv
      split at hgv
      ·rename_i d hj
       split at hgv
       ·rename_i v hv
        split at hgv
        ·rename_i b' bs' hst
         cases hgv
         obtain⟨u,hu,hr⟩:=henv d v hv
         have:=dH hr
         rw[hst] at this
         have e:((ops.toArray[j]?).bind (·.dst)).bind (a.tmps[·]?)=some u:=by rw[abj,hj];exact hu
         constructor
         ·intro h1
          have:u= .bool b:=gG (this.1 h1)
          simp only[yielded,e,this]
         ·intro h1
          have h2:=this.2 h1
          simp only[yielded,e,h2,undef]
        ·cases hgv
       ·cases hgv
      ·cases hgv
     have hwant:Region.wanted o (yielded ops.toArray a.tmps)=bG bs (if want then b else !b):=by
      simp only[Region.wanted,hg]
      cases hc:bG bs true with
      |false=>
       rw[hy.2 hc]
       have:bG bs (if want then b else !b)=false:=by
        cases hh:bG bs (if want then b else !b) with
        |false=>rfl
        |true=>rw[(kZ.1 hh).1] at hc;cases hc
       rw[this];rfl
      |true=>
       rw[hy.1 hc]
       have:bG bs (if want then b else !b)=(if want then b else !b):=by
        rw[abk,kZ];simp[hc]
       rw[this]
       cases want<;>cases b<;>rfl
     rw[hwant]
     cases hG:bG bs (if want then b else !b) with
     |false=>
      rw[if_neg (by simp)]
      refine hK _ _ ⟨bl,cap,hs,henv.dB (fun i hi=>by rw[hsz];exact hd i hi) (And.intro (fun h'=>by rw[hG] at h';cases h') (fun _=>rfl)),by rw[Act.put_defers];exact hdf,by rw[Act.bK];exact hsz⟩
     |true=>
      rw[if_pos rfl]
      obtain⟨ho1,ho2⟩:=All.append (ho.1 hG)
      simp only[All] at ho2
      have hargs':=lu henv hargs ho1
      refine docall (v':=r) hargs' ho2.1 ho2.2.1 fun a w h=>hK a w ?_
      obtain⟨bl',cap',g1,g2,g3,g4⟩:=h
      refine⟨bl',cap',g1,?_,g3,g4⟩
      intro i v hv
      cases hdo:o.dst with
      |none=>rw[hdo] at hv g2;exact g2 i v hv
      |some d'=>
       rw[hdo] at hv g2
       simp only[dB] at hv g2
       rw[get_put] at hv
       by_cases e:d'=i
       ·subst e;simp at hv;subst hv
        obtain⟨u,hu,hru⟩:=g2 d' r (jb _ _ _)
        exact⟨u,hu,And.intro (fun _=>hru) (fun h'=>by rw[hG] at h';cases h')⟩
       ·simp only[e,if_false] at hv
        exact g2 i v (by rw[aZ e];exact hv)
    ·cases h
   ·cases h
 ·by_cases hcall2:∃t as ats,o.op= .call {callee:= .value (.tmp t),args:=⟨as⟩,argTypes:=ats}
  ·obtain⟨t,as,ats,hop⟩:=hcall2
   obtain⟨bl,cap,hs,henv,hdf,hsz⟩:=hsat
   have docall:∀{f:Nat} {fs:List AV} {args:List AV} {r:AV} {v:AV},af (mkK x bl cap s.st w) v (a.eval (.tmp t))→IY v=some (f,fs)→aj (af (mkK x bl cap s.st w)) args (as.map a.eval)→AC P f (args++fs) [] (fun r' st'=>r'=r∧st'=[])→(∀a∈args++fs,aA (fun _=>false) a)→
    (∀a w,Sat x ⟨s.n,dB s.env o.dst r,s.st⟩ a w→K a w)→o.wp P a w K Q:=by
    intro f fs args r v hv hf hargs hac hcl hk
    obtain⟨us,h1,h2⟩:=BB hf hv
    refine CB (st0:=[]) (fs:=us) hop hd ⟨by simp,by simp,fun a ha=>by rw[EL];exact hcl a ha⟩ hac hs henv hdf hsz h1 (hargs.append h2) ?_
    rintro r' st' ⟨rfl,rfl⟩
    exact⟨fun p hp=>absurd hp (by simp),hk⟩
   unfold iy at h
   rw[hop] at h
   split at h
   ·rename_i hg
    rw[if_pos (by simp[Region.wanted,hg])]
    simp only at h
    split at h
    ·rename_i f fs args d hfn hargs hdd
     split at h
     ·rename_i r hr
      cases h
      simp only[All] at ho
      rw[aac] at hfn
      obtain⟨v,hv,hf⟩:=hfn
      exact docall (bJ henv hv) hf (iq henv hargs) ho.1 ho.2.1 (fun a w h=>hK a w h)
     ·cases h
    ·cases h
   ·rename_i j want hg
    split at h
    ·cases h
    rename_i bs b hgv
    simp only at h
    split at h
    ·rename_i f fs args d hfn hargs hdd
     split at h
     ·rename_i r hr
      cases h
      simp only[All] at ho
      have hwant:=lJ henv hg hgv
      rw[hwant]
      cases hG:bG bs (if want then b else !b) with
      |false=>
       rw[if_neg (by simp)]
       refine hK _ _ ⟨bl,cap,hs,henv.dB (fun i hi=>by rw[hsz];exact hd i hi) (And.intro (fun h'=>by rw[hG] at h';cases h') (fun _=>rfl)),by rw[Act.put_defers];exact hdf,by rw[Act.bK];exact hsz⟩
      |true=>
       rw[if_pos rfl]
       obtain⟨ho1,ho2⟩:=All.append (ho.1 hG)
       simp only[All] at ho2
       have ho3:All (kJ s [.tmp t])∧All (kJ s as):=by
        have:kJ s (.tmp t::as)=kJ s [.tmp t]++kJ s as:=by simp[kJ]
        rw[this] at ho1;exact All.append ho1
       rw[aac] at hfn
       obtain⟨v,hv,hf⟩:=hfn
       simp only[evs,aap] at hv
       obtain⟨v',hv',rfl⟩:=hv
       refine docall ((dH (bJ henv hv')).1 (nI ho3.1 (.tmp t) (by simp) v' hv')) hf (lu henv hargs ho3.2) ho2.1 ho2.2.1 fun a w h=>hK a w ?_
       obtain⟨bl',cap',g1,g2,g3,g4⟩:=h
       refine⟨bl',cap',g1,?_,g3,g4⟩
       intro i v hv
       cases hdo:o.dst with
       |none=>rw[hdo] at hv g2;exact g2 i v hv
       |some d'=>
        rw[hdo] at hv g2
        simp only[dB] at hv g2
        rw[get_put] at hv
        by_cases e:d'=i
        ·subst e;simp at hv;subst hv
         obtain⟨u,hu,hru⟩:=g2 d' r (jb _ _ _)
         exact⟨u,hu,And.intro (fun _=>hru) (fun h'=>by rw[hG] at h';cases h')⟩
        ·simp only[e,if_false] at hv
         exact g2 i v (by rw[aZ e];exact hv)
     ·cases h
    ·cases h
  ·exact H9 (Ce (fun f as ats h=>hcall ⟨f,as,ats,h⟩) (fun t as ats h=>hcall2 ⟨t,as,ats,h⟩) h) ho hd hsat hK
end
def SA (acc:List (List Nat)) (o:Oper):List Nat:=((o.after.toList.filter fun e=>Region.binds .any e).flatMap fun e=>e.on::acc.getD e.on []).eraseDups
def WV:List Oper→List (List Nat)→List (List Nat)
 |[],acc=>acc
 |o::l,acc=>WV l (acc++[SA acc o])
def jc (A:A1):List yg×List yg:=(A.rd.map (·.1),(match A.ew with|some (i,_)=>[(true,i)]|none=>[])++A.sw.map fun p=>(false,p.1))
def clash (a b:List yg×List yg):Bool:=a.2.any (fun r=>b.1.contains r||b.2.contains r)||a.1.any fun r=>b.2.contains r
def VF (ns:List (List yg×List yg)) (an:List (List Nat)):Bool:=
 (List.range ns.length).all fun k=>(List.range k).all fun i=>!clash (ns.getD i ([],[])) (ns.getD k ([],[]))||(an.getD k []).contains i
def VV (l:List Oper):Bool:=l.zipIdx.all fun p=>p.1.after.toList.all fun e=>!Region.binds .any e||decide (e.on<p.2)
def oM (l:List Oper) (As:List A1):Bool:=VV l&&As.all (fun A=>decide (A.sw.map (·.1)).Nodup)&&VF (As.map jc) (WV l [])
omit [Dr] in
theorem MB (l0:List Oper):∀{l:List Oper} {acc:List (List Nat)},(∀j,l[j]? =l0[acc.length+j]?)→(∀i k,k∈acc.getD i []→Reach l0.toArray k i)→∀i k,k∈(WV l acc).getD i []→Reach l0.toArray k i
 |[],acc,_,h=>h
 |o::l,acc,hl,h=>by
  refine MB l0 (l:=l) (acc:=acc++[SA acc o]) (fun j=>?_) ?_
  ·have:=hl (j+1)
   simp only[List.getElem?_cons_succ] at this
   rw[this];simp[Nat.add_assoc,Nat.add_comm 1 j]
  ·intro i k hk
   by_cases hi:i<acc.length
   ·refine h i k ?_
    simpa[List.getD,aa7 hi] using hk
   ·by_cases e:i=acc.length
    ·subst e
     have ho:l0.toArray[acc.length]? =some o:=by have:=hl 0;simpa using this.symm
     have hk':k∈SA acc o:=by simpa[List.getD] using hk
     simp only[SA,List.mem_eraseDups,aaW,aaU] at hk'
     obtain⟨e,⟨he,hb⟩,hk'⟩:=hk'
     have h1:Reach l0.toArray e.on acc.length:= .one ho (by simpa using he) hb rfl
     rcases Z9.1 hk' with rfl|hk'
     ·exact h1
     ·exact .trans (h _ _ hk') h1
    ·simp[List.getD,aaB (show(acc++[SA acc o]).length≤i by simp;omega)] at hk
section
variable {P:Program} {x:X}
omit [Dr] in
theorem vN {As:List A1} {k:Nat} {r:yg} (h:writes As k r):r∈((As.map jc).getD k ([],[])).2:=by
 obtain⟨A,c,hA,hc⟩:=h
 have:(As.map jc).getD k ([],[])=jc A:=by simp[List.getD,hA]
 rw[this]
 obtain⟨b,i⟩:=r
 simp only[A1.wr] at hc
 simp only[jc,aay]
 cases b with
 |true=>
  simp only[if_true] at hc
  left
  split at hc
  ·split at hc
   ·rename_i j v hj e;rw[hj];simp[e]
   ·cases hc
  ·cases hc
 |false=>
  simp only[aak,if_false,aap] at hc
  obtain⟨o,ho,_⟩:=hc
  right
  exact aaD.2 ⟨_,get_mem ho,rfl⟩
omit [Dr] in
theorem Bc {l:List Oper} {As:List A1} {s:S} (hlen:As.length=l.length) (hfit:∀(i:Nat) (A:A1),As[i]? =some A→A.Fits (jq As s i)) (h:oM l As=true):Order l.toArray As s:=by
 simp only[oM,aaj] at h
 obtain⟨⟨h1,h2⟩,h3⟩:=h
 have hreach:=MB l (l:=l) (acc:=[]) (by simp) (by simp)
 have pair:∀i k,i<k→k<As.length→clash ((As.map jc).getD i ([],[])) ((As.map jc).getD k ([],[]))=true→Reach l.toArray i k:=by
  intro i k hik hk hc
  simp only[VF,aaC,aa3,aai,abe,aar] at h3
  rcases h3 k hk i hik with h|h
  ·rw[hc] at h;cases h
  ·exact hreach k i (by simpa using h)
 refine⟨by simpa using hlen,?_,?_,hfit,?_⟩
 ·intro i o e hi he hbd
  simp only[VV,aaC] at h1
  have:=h1 (o,i) (by rw[List.mem_zipIdx_iff_getElem?];simpa using hi) e (by simpa using he)
  simpa[hbd] using this
 ·intro A hA
  simp only[aaC] at h2
  simpa using h2 A hA
 ·intro i k A hA hne r hw hr
  have hi:i<As.length:=(aal.1 hA).1
  have hk:k<As.length:=by obtain⟨A',_,hA',_⟩:=hw;exact(aal.1 hA').1
  have hgi:(As.map jc).getD i ([],[])=jc A:=by simp[List.getD,hA]
  have hwk:=vN hw
  have hi':r∈(jc A).1∨r∈(jc A).2:=by
   rcases hr with⟨c,hc⟩|⟨c,hc⟩
   ·exact .inl (aaD.2 ⟨_,hc,rfl⟩)
   ·right;have:=vN (As:=As) (k:=i) (r:=r) ⟨A,c,hA,hc⟩;rw[hgi] at this;exact this
  constructor
  ·intro hlt
   refine pair k i hlt hi ?_
   simp only[clash,abe,List.any_eq_true]
   left
   refine⟨r,hwk,?_⟩
   rw[hgi]
   rcases hi' with h|h
   ·exact .inl (by simpa using h)
   ·exact .inr (by simpa using h)
  ·intro hlt
   refine pair i k hlt hk ?_
   simp only[clash,abe,List.any_eq_true]
   rw[hgi]
   rcases hi' with h|h
   ·exact .inr ⟨r,h,by simpa using hwk⟩
   ·exact .inl ⟨r,h, .inr (by simpa using hwk)⟩
omit [Dr] in
theorem H8 {ops:List Oper} {o:Oper} {s s':S} {out:Out} (hn:s'.n=s.n):(TR ops o s out).app s'=⟨s.n,dB s'.env o.dst out.v,ah s'.st out.upd⟩:=by
 simp only[A1.app,TR,hn]
 cases o.dst<;>rfl
theorem Gt {wr:Bool} {ops:List Oper} {cs:List (Nat×AV)}:∀{l:List Oper} {s s':S} {As:List A1} {ps:List Prop},GY P wr ops cs l s=some (As,ps,s')→All ps→
 As.length=l.length∧jq As s l.length=s'∧(∀(i:Nat) (A:A1),As[i]? =some A→A.Fits (jq As s i))∧∀(i:Nat) (o:Oper) (A:A1),l[i]? =some o→As[i]? =some A→A.MR P x s.n ops.toArray o
 |[],s,s',As,ps,h,_=>by cases h;exact⟨rfl,rfl,by simp,by simp⟩
 |o::l,s,s',As,ps,h,hp=>by
  simp only[GY] at h
  split at h
  ·rename_i hd
   split at h
   ·rename_i out hout
    split at h
    ·rename_i As' ps' s'' hrec
     cases h
     obtain⟨p1,p2⟩:=All.append hp
     obtain⟨i1,i2,i3,i4⟩:=Gt hrec p2
     have shift:∀i,jq (TR ops o s out::As') s (i+1)=jq As' ⟨s.n,dB s.env o.dst out.v,ah s.st out.upd⟩ i:=by
      intro i
      induction i with
      |zero=>simp only[jq,List.getElem?_cons_zero];exact H8 rfl
      |succ i ih=>
       rw[jq,ih]
       simp only[List.getElem?_cons_succ]
       rfl
     refine⟨by simp[i1],by rw[List.length_cons,shift];exact i2,?_,?_⟩
     ·intro i A hA
      cases i with
      |zero=>simp at hA;subst hA;intro p hp;exact(reads_self hp).symm
      |succ i=>rw[shift];exact i3 i A (by simpa using hA)
     ·intro i o' A ho' hA
      cases i with
      |zero=>
       simp at ho' hA;subst ho';subst hA
       intro s1 a w hnn hs1 hf K Q hk
       have hloc:=yO (P:=P) (wr:=wr) (cs:=cs) (ops:=ops) (o:=o) (s:=s) (s':=s1) hf
       rw[hout] at hloc
       refine qJ hloc p1 (by rw[hnn];exact hd) hs1 fun a w h=>hk a w ?_
       rw[H8 hnn,←hnn];exact h
      |succ i=>exact i4 i o' A (by simpa using ho') (by simpa using hA)
    ·cases h
   ·cases h
  ·cases h
where
 reads_self {ops:List Oper} {o:Oper} {s:S} {p:yg×Option Ct} (h:p∈readsOf ops o s):p.2=look s p.1:=by
  simp only[readsOf,aay,aaW] at h
  rcases h with(⟨y,_,h⟩|h)|h
  ·split at h
   ·simp only[Z9] at h
    rcases h with rfl|h
    ·rfl
    ·split at h
     ·cases h
     ·split at h
      ·simp only[aaD] at h
       obtain⟨id,_,rfl⟩:=h;rfl
      ·cases h
   ·cases h
  ·split at h
   ·split at h
    ·simp at h;subst h;rfl
    ·cases h
   ·cases h
  ·simp at h;subst h;rfl
omit [Dr] in
theorem tH {n:Nat}:((List.range n).filter fun i=>!(Array.replicate n false).getD i false).length≤n:=by
 have:=List.length_filter_le (fun i=>!(Array.replicate n false).getD i false) (List.range n)
 simpa using this
theorem JO {wr:Bool} {id:Nat} {l:List Oper} {s s':S} {Q:Exit→S→Prop} (cs:List (Nat×AV)) {As:List A1} {ps:List Prop} (hm:P.follows .mixedOrders=true)
 (h:GY P wr l cs l s=some (As,ps,s')) (ho:All ps) (hc:oM l As=true) (hQ:Q .normal s'):T P x (.region id l.toArray true) s Q:=by
 obtain⟨h1,h2,h3,h4⟩:=Gt (x:=x) h ho
 have hord:=Bc h1 h3 hc
 intro a w hs
 refine wp_region_any hm ?_
 refine AB hord (fun i o A hi hA=>h4 i o A (by simpa using hi) hA) (by simpa[h2] using hQ) _ _ s a _ (by simp) ?_ rfl ?_ ?_ (hs.drew _ (by first|exact Nat.le_succ _|exact Nat.le_add_right _ _|(simp;done)|omega))
 ·intro i o e hi hL he hb
  have hlt:i<l.length:=by simpa using(abq.1 hi).1
  rw[getD_in (by simpa using hlt) true false] at hL
  simp[Array.getD,hlt] at hL
 ·intro r
  have hz:∀i,(Array.replicate l.toArray.size false).getD i false=false:=by
   intro i;simp[Array.getD]
  have:cont As s (fun i=>(Array.replicate l.toArray.size false).getD i false) r l.toArray.size=cont As s (fun i=>(Array.replicate l.toArray.size false).getD i false) r 0:=
   kY (aaA _) (fun i _ _ _=>hz i)
  rw[this];rfl
 ·exact tH
end
end Go.Ab
