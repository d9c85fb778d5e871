/- A part of the proof. -/
import Derived.Test.YtcpgicfphakdaaaGreatDoorRAbCe
import Derived.Test.YtcpgicfphakdaaaGreatDoorRP14
set_option maxRecDepth 100000
set_option maxHeartbeats 8000000
set_option linter.all false
namespace Go.Proofs.YtcpgicfphakdaaaGreatDoor
open Go.Ab Tys
variable [Dr]
def z94.kk:=p8 kB kG Tryz.ntmps94 iK kW uz nT Tryz.results94
open z94 in
theorem L6 (v:Rev):AC Tryz.prog 94 [LG v] [] (fun r st=>r=B (gone v)∧st=[]):=by
 refine dA Tryz.func94 Tryz.ntmps94 fun x hx=>?_
 try refine nv ?_
 refine rA [] ?_
 refine⟨?_,rfl⟩
 simp[gone,cond_eq_ite]
def z43.kk:=RJ kB kS Tryz.ntmps43 pM iK oC oI jq gU uz vT nT kC Tryz.results43
open z43 in
theorem uu (v:Rev):AC Tryz.prog 43 [LG v] [] (fun r st=>r=D9 (fileOf v)∧st=[]):=by
 refine dA Tryz.func43 Tryz.ntmps43 fun x hx=>?_
 try refine nv ?_
 refine rA [] ?_
 refine⟨?_,rfl⟩
 simp[fileOf]
def z58.kk:=p2 (p16 kB kS Tryz.ntmps58 OH Zz iK Du FC jq gU ED kW EY Ul EO EN) (p16 SY Ak EW Lr MO KQ EE Uy uz X9 ab7 nT PE Qz kC Tryz.results58)
open z58 in
theorem Es (c:oD) (e:Nq):AC Tryz.prog 58 [Vb c,acN e] [] (fun r st=>r=LG (made c e)∧st=[]):=by
 refine dA Tryz.func58 Tryz.ntmps58 fun x hx=>?_
 (repeat (first|(with_reducible first|refine na ?_|refine nb ?_|refine nc ?_|refine nd ?_|refine ne ?_|refine nf ?_|refine ng ?_|refine nh ?_|refine ni ?_|refine nj ?_|refine nk ?_|refine nl ?_|refine nm (by decide) ?_|refine nn ?_)|refine dw (wr:=true) 400 (by simp only[kk,Nat.reduceAdd,Nat.reduceLT,Nat.reduceEqDiff, ↓reduceIte,reduceCtorEq];first|done|rfl) (by first|exact trivial|(simp only[kO];omega)|(simp[All,dG];first|done|omega)|(simp+contextual [All,dG];first|done|grind)) ?_))
 refine rA [] ?_
 refine⟨?_,rfl⟩
 simp[made,wr]
def z31.kk:=p11 kB kS Tryz.ntmps31 Tryz.underlying27 ny iK nI x8 uB nT Tryz.results31
open z31 in
theorem MW (d:bJ) (p:ByteArray) (hd:d.revs.length≤1000000):AC Tryz.prog 31 [uY d,Str p] [] (fun r st=>r= .tup [PQ ((dD d p).getD af),pB (dD d p).isSome]∧st=[]):=by
 have hL:(log d p).length≤d.revs.length:=List.length_filter_le ..
 refine dA Tryz.func31 Tryz.ntmps31 fun x hx=>?_
 (repeat (first|refine nv ?_|refine cf (Sl d p hd) ?_))
 refine aj ?_ ?_
 ·intro h
  have h':log d p=[]:=by simpa using h
  try refine nv ?_
  refine rA [] ?_
  refine⟨?_,rfl⟩
  simp[dD,h',af]
 ·intro h
  have h':log d p≠[]:=by simpa using h
  have hl:0<(log d p).length:=List.length_pos_iff.2 h'
  have hlast:dD d p=some ((log d p).getD ((log d p).length-1) af):=by
   rw[dD,List.getLast?_eq_getElem?,List.getD_eq_getElem?_getD,List.getElem?_eq_getElem (by omega:(log d p).length-1<(log d p).length)];rfl
  have hi:((((log d p).length:Nat):Int)-1).toNat=(log d p).length-1:=by omega
  have he:=bg aI (log d p) ((log d p).length-1) af (by omega)
  refine bC ?_
  refine gx (p2 @hi @he) ?_
  refine bC ?_
  refine rA [] ?_
  refine⟨?_,rfl⟩
  simp[hlast]
def z91.kk:=p13 kB kS Tryz.ntmps91 Tryz.underlying27 ny iK nI gU x8 uz uB nT Tryz.results91
open z91 in
theorem wQ (d:bJ) (p:ByteArray) (n:Int) (hd:d.revs.length≤1000000):AC Tryz.prog 91 [uY d,Str p,I .i64 n] [] (fun r st=>r= .tup [PQ ((lF d p n).getD af),pB (lF d p n).isSome]∧st=[]):=by
 have hL:(log d p).length≤d.revs.length:=List.length_filter_le ..
 refine dA Tryz.func91 Tryz.ntmps91 fun x hx=>?_
 (repeat (first|refine nv ?_|refine cf (Sl d p hd) ?_))
 refine ax (ι:=Nat) (I:=fun k=>⟨25,[(2,I .i64 n),(6, .c (.ptr 6 0)),(12,wW (log d p)),(13,I .i64 (log d p).length),(14,I .i64 k)],[(6, .box ((aI af).map C.d))]⟩)
  (Inv:=fun k=>k≤(log d p).length∧((log d p).take k).find? (fun v=>decide (v.num=n))=none) (μ:=fun k=>(log d p).length-k) 0 ⟨by omega,by simp⟩ ?_ ?_
 ·(refine bI (fun i=>i) rfl ?_ ⟨?_,?_,?_,di hx (by simp[ae,Ab.get])⟩<;>first|(simp only[kE,aK, ↓reduceIte,Nat.reduceEqDiff,reduceCtorEq,af];done)|simp[aW,aA,ag,Ab.get,aH,cu,aB,bD,aS,aQ,aU,aP,aT,ae,List.flatten,af])
 ·rintro k ⟨hk,hbefore⟩
  try refine nv ?_
  refine aj ?_ ?_
  ·intro hlt
   have hlt':k<(log d p).length:=by simpa using hlt
   obtain⟨v,hv,he,htk⟩:=round aI (log d p) k af hlt'
   have hsplit:log d p=(log d p).take k++v::(log d p).drop (k+1):=by
    rw[←List.take_append_drop (k+1) (log d p),htk];simp[List.take_append,List.drop_append,Nat.min_eq_left (Nat.le_of_lt hlt')]
   refine bC ?_
   refine gx @he ?_
   try refine nv ?_
   refine aj ?_ ?_
   ·intro heq
    have heq':v.num=n:=by simpa using heq
    have hg:lF d p n=some v:=by rw[lF,hsplit,List.find?_append,hbefore];simp[heq']
    try refine nv ?_
    refine rA [] ?_
    refine⟨?_,rfl⟩
    simp[hg]
   ·intro hne
    have hne':¬v.num=n:=by simpa using hne
    try refine nv ?_
    refine⟨k+1,⟨by omega,?_⟩,by omega,?_⟩
    ·rw[htk,List.find?_append,hbefore];simp[hne']
    ·(refine bI (fun i=>i) rfl ?_ ⟨?_,?_,?_,di hx (by simp[ae,Ab.get])⟩<;>first|(simp only[kE,aK, ↓reduceIte,Nat.reduceEqDiff,reduceCtorEq,af];done)|simp[aW,aA,ag,Ab.get,aH,cu,aB,bD,aS,aQ,aU,aP,aT,ae,List.flatten,af])
  ·intro hge
   have hge':k=(log d p).length:=by have:¬k<(log d p).length:=by simpa using hge
                                    omega
   have hg:lF d p n=none:=by rw[hge',List.take_length] at hbefore;exact hbefore
   try refine nv ?_
   refine rA [] ?_
   refine⟨?_,rfl⟩
   simp[hg,af]
def z38.kk:=p10 kB kG Tryz.ntmps38 ny iK gU uz uB nT Tryz.results38
open z38 in
theorem UF (d:bJ) (p:ByteArray) (hd:d.revs.length≤1000000):AC Tryz.prog 38 [uY d,Str p] [] (fun r st=>r= .tup [pB (live d p),pI (dh d p)]∧st=[]):=by
 refine dA Tryz.func38 Tryz.ntmps38 fun x hx=>?_
 (repeat (first|refine nv ?_|refine cf (MW d p hd) ?_))
 refine dr ([(17,B (gone ((dD d p).getD af)))]) ?_ ?_
 ·exact iw @L6
 refine bC ?_
 refine rA [] ?_
 refine⟨?_,rfl⟩
 cases h:dD d p<;>simp[live,dh,h]
def z85.kk:=p15 kB kS Tryz.ntmps85 ny iK jq gU kW EO EN uz uB nT kC Tryz.results85
open z85 in
theorem Uk (d:bJ) (v:Rev) (hd:d.revs.length≤1000000):AC Tryz.prog 85 [uY d,LG v] [] (fun r st=>r= .tup [PQ ((jG d v).getD af),pB (jG d v).isSome]∧st=[]):=by
 refine dA Tryz.func85 Tryz.ntmps85 fun x hx=>?_
 try refine nv ?_
 refine aj ?_ ?_
 ·intro h
  have h':v.act=1:=by simpa using h
  try refine nv ?_
  refine rA [] ?_
  refine⟨?_,rfl⟩
  simp[jG,h',af]
 ·intro h
  have h':¬v.act=1:=by simpa using h
  try refine nv ?_
  refine aj ?_ ?_
  ·intro h4
   have h4':v.act=4:=by simpa using h4
   (repeat (first|refine nv ?_|refine cf (wQ d v.frm v.fnum hd) ?_))
   refine rA [] ?_
   refine⟨?_,rfl⟩
   simp[jG,h4']
  ·intro h4
   have h4':¬v.act=4:=by simpa using h4
   refine bC ?_
   refine dw (wr:=true) 400 (by simp only[kk,Nat.reduceAdd,Nat.reduceLT,Nat.reduceEqDiff, ↓reduceIte,reduceCtorEq];first|done|rfl) (by first|exact trivial|(simp only[kO];omega)|(simp[All,dG];first|done|omega)|(simp+contextual [All,dG];first|done|grind)) ?_
   (repeat (first|refine nv ?_|refine cf (wQ d v.path (wr (v.num-1)) hd) ?_))
   refine rA [] ?_
   refine⟨?_,rfl⟩
   simp[jG,h',h4']
def z33.kk:=p2 (p9 kB kG kS Tryz.ntmps33 ny pM iK oC oI) (p9 jq gU ED uz uB vT nT kC Tryz.results33)
open z33 in
theorem Ir (d:bJ) (v:Rev) (hd:d.revs.length≤1000000):AC Tryz.prog 33 [uY d,LG v] [] (fun r st=>r=D9 (first d v)∧st=[]):=by
 refine dA Tryz.func33 Tryz.ntmps33 fun x hx=>?_
 try refine nv ?_
 refine ax (ι:=Rev) (I:=fun u=>⟨28,[(2, .c (.ptr 2 0)),(3, .c (.ptr 3 0)),(4, .c (.ptr 4 0))],[(2, .box ((lL d).map C.d)),(3, .box ((aI u).map C.d)),(4, .box ((dW xH).map C.d))]⟩)
  (Inv:=fun u=>first d u=first d v) (μ:=fun u=>cnt d u.chg) v rfl ?_ ?_
 ·(refine bI (fun i=>i) rfl ?_ ⟨?_,?_,?_,di hx (by simp[ae,Ab.get])⟩<;>first|(simp only[kE,aK, ↓reduceIte,Nat.reduceEqDiff,reduceCtorEq,xH];done)|simp[aW,aA,ag,Ab.get,aH,cu,aB,bD,aS,aQ,aU,aP,aT,ae,List.flatten,xH])
 ·intro u hu
  refine bC ?_
  refine gg ?_
  refine mZ [] (by simp) (by simp only[iH,kk,Nat.reduceAdd,Nat.reduceLT,Nat.reduceEqDiff, ↓reduceIte,reduceCtorEq];first|done|rfl) ⟨by simp,by simp,by simp[aH,cu,aB,aG,bG]⟩ (Uk d u hd) ?_
  rintro r st' ⟨rfl,rfl⟩
  refine⟨by simp[lW],?_⟩
  simp only[kP,Nat.reduceEqDiff, ↓reduceIte,reduceCtorEq]
  cases hp:jG d u with
  |none=>
   refine BP (wr:=false) (by simp only[kk,Nat.reduceAdd,Nat.reduceLT,Nat.reduceEqDiff, ↓reduceIte,reduceCtorEq,Option.isSome];first|done|rfl) ?_
   try refine nv ?_
   refine aj ?_ ?_
   ·intro _
    try refine nv ?_
    refine rA [] ?_
    refine⟨?_,rfl⟩
    rw[←hu,iq hp];simp[fileOf]
   ·intro h;simp at h
  |some u'=>
   refine BP (wr:=false) (by simp only[kk,Nat.reduceAdd,Nat.reduceLT,Nat.reduceEqDiff, ↓reduceIte,reduceCtorEq,Option.isSome];first|done|rfl) ?_
   try refine nv ?_
   refine aj ?_ ?_
   ·intro h
    have hc:u.chg≤u'.chg:=by simpa using h
    try refine nv ?_
    refine rA [] ?_
    refine⟨?_,rfl⟩
    rw[←hu,UO hp hc];simp[fileOf]
   ·intro h
    have hc:u'.chg<u.chg:=by simpa using h
    try refine nv ?_
    refine⟨u',?_,cnt_lt (yD hp) hc,?_⟩
    ·rw[←hu,zD hp hc]
    ·(refine bI (fun i=>i) rfl ?_ ⟨?_,?_,?_,di hx (by simp[ae,Ab.get])⟩<;>first|(simp only[kE,aK, ↓reduceIte,Nat.reduceEqDiff,reduceCtorEq,xH];done)|simp[aW,aA,ag,Ab.get,aH,cu,aB,bD,aS,aQ,aU,aP,aT,ae,List.flatten,xH])
end Go.Proofs.YtcpgicfphakdaaaGreatDoor
namespace Go.Ab
variable [Dr] {P:Program} {x:X} {bl:Nat→List Nat} {cap:Nat→Nat} {st:List (Nat×AO)} {w:World}
theorem P9 (hs:bK x bl cap st w) {id sz off len:Nat} {ys:List (List D)} (hid:get st id=some (.arr sz (ys.map fun l=>l.map C.d))) {v:Value} (hlen:off+len≤ys.length)
 (hr:ay (mkK x bl cap st w) (.mv id sz off len) v):bU (mkK x bl cap (put st id .dead) w).M w (.ps sz ((ys.drop off).take len)) v:=by
 have hle:=iF (x:=x) (bl:=bl) (cap:=cap) (w:=w) hid
 obtain⟨h0,h1,hsz,h2⟩:=hs.objs id _ hid
 obtain⟨hd,hcap,cp,hcp,hh⟩:=hr
 simp only[mkK,List.length_map] at h0 hcap
 have hzl:((ys.drop off).take len).length=len:=by rw[List.length_take,List.length_drop];omega
 rcases hh with⟨hz,a,rfl⟩|⟨hz,b,hb,rfl⟩
 ·rw[List.eq_nil_of_length_eq_zero (l:=(ys.drop off).take len) (by omega)];exact .nil _ _ _
 ·simp only[mkK] at hb
  rcases h2 with⟨_,h2⟩|⟨b',T,vs,h2,h3,h4,h5⟩
  ·simp only[mkK] at h2;rw[h2] at hb;cases hb
  simp only[mkK] at h2 h3 h4
  rw[hb] at h2;simp at h2;subst h2
  have hl:∀l∈ys,l.length=sz:=fun l hl=>by have:=h1 (l.map C.d) (List.mem_map_of_mem (f:=fun l=>l.map C.d) hl);simpa using this
  have hlc:∀l∈(ys.map fun l=>l.map C.d),l.length=sz:=h1
  have hmul:ys.length*sz≤cap id*sz:=Nat.mul_le_mul_right _ h0
  rw[List.length_map] at h5
  have hm:∀{i j:Nat},i<len→j<sz→off*sz+i*sz+j=(off+i)*sz+j∧(off+i)*sz+sz≤ys.length*sz:=fun {i j} hi hj=>by
   have:=Nat.mul_le_mul_right sz (show off+i+1≤ys.length by omega)
   rw[Nat.succ_mul] at this
   exact⟨by rw[Nat.add_mul],this⟩
  have key:bU (mkK x bl cap (put st id .dead) w).M w (.ps sz ((ys.drop off).take len)) (.slice (some ⟨b,off*sz,none⟩) ((ys.drop off).take len).length cp):=by
   refine .ps sz _ b (off*sz) cp (fun i j=>(vs[off*sz+i*sz+j]?).getD undef) (lV hs hid rfl (by rw[hb];simp)) (fun l h=>hl l (List.mem_of_mem_drop (List.mem_of_mem_take h))) ?_ ?_ (by omega) (lt_of_heap h3)
   ·intro i j hi hj
    obtain⟨e,hm⟩:=hm (by omega:i<len) hj
    rw[oh h3,e,List.getElem?_eq_getElem (by omega)];rfl
   ·intro i j hi hj
    obtain⟨e,hm⟩:=hm (by omega:i<len) hj
    have hf:=Fg hlc (i:=off+i) (r:=j) (by simp;omega) hj
    have hg:(ys.map fun l=>l.map C.d).getD (off+i) []=(((ys.drop off).take len).getD i []).map C.d:=by
     simp only[List.getD,List.getElem?_map,List.getElem?_take,List.getElem?_drop,if_pos (by omega:i<len)]
     rw[List.getElem?_eq_getElem (by omega)];rfl
    have hlen:=hl (((ys.drop off).take len).getD i []) (by rw[List.getD_eq_getElem?_getD,List.getElem?_take,if_pos (by omega),List.getElem?_drop,List.getElem?_eq_getElem (by omega)];simp)
    rw[hg,List.getElem?_map,l9 (l:=((ys.drop off).take len).getD i []) (by omega)] at hf
    obtain⟨u,hu,hru⟩:=h5.get hf
    rw[List.getElem?_take,if_pos (by omega),←e] at hu
    show bU _ _ _ ((vs[off*sz+i*sz+j]?).getD undef)
    rw[hu]
    exact bU.stable hru hle.heap hle.M
  rwa [hzl] at key
def ZN (id sz:Nat) (ys:List (List D)):C→C
 | .mv i s off len=>if i=id∧s=sz∧off+len≤ys.length then .d (.ps sz ((ys.drop off).take len)) else .mv i s off len
 |c=>c
theorem A8 {s:S} {bid id sz sz2:Nat} {xs xs':List (List C)} {ys:List (List D)} (hne:bid≠id) (hb:get s.st bid=some (.arr sz xs)) (hid:get s.st id=some (.arr sz2 (ys.map fun l=>l.map C.d)))
 (hx:xs.map (fun l=>l.map (ZN id sz2 ys))=xs'):yQ x s ⟨s.n,s.env,put (put s.st id .dead) bid (.arr sz xs')⟩:=by
 subst hx
 rintro a w ⟨bl,cap,hs,henv,hd,hsz⟩
 have hle:=iF (x:=x) (bl:=bl) (cap:=cap) (w:=w) hid
 have hk:=hs.kill hid
 have hb':get (put s.st id .dead) bid=some (.arr sz xs):=by rw[bY (Ne.symm hne)];exact hb
 obtain⟨g1,g2,g3,g4⟩:=hs.objs bid _ hb
 have hon:jZ (bl bid) w w:=⟨rfl,fun _ _=>rfl,rfl,rfl,rfl,Nat.le_refl _⟩
 have hle2:=mY (x:=x) (cap:=cap) (o':= .arr sz (xs.map fun l=>l.map (ZN id sz2 ys))) hb' rfl hon
 refine⟨bl,cap,hk.upd hb' rfl hon ⟨by simpa[mkK] using g1,?_,g3,?_⟩,(henv.le hle).le hle2,(hd.le hle).le hle2,hsz⟩
 ·intro l hl
  obtain⟨l',h',rfl⟩:=List.mem_map.1 hl
  rw[List.length_map];exact g2 _ h'
 ·rcases g4 with g4|⟨b,T,vs,h1,h2,h3,h4⟩
  ·exact .inl g4
  ·refine .inr ⟨b,T,vs,h1,h2,h3,?_⟩
   rw[show(xs.map fun l=>l.map (ZN id sz2 ys)).flatten=xs.flatten.map (ZN id sz2 ys) from by rw[List.map_flatten],aN.mO,List.length_map]
   refine h4.mono fun c v hr=>?_
   refine ay.le hle2 ?_
   cases c with
   |mv i s' off len=>
    by_cases h:i=id∧s'=sz2∧off+len≤ys.length
    ·obtain⟨rfl,rfl,h⟩:=h
     rw[ZN,if_pos ⟨rfl,rfl,h⟩]
     exact P9 hs hid h hr
    ·rw[ZN,if_neg h];exact ay.le hle hr
   |_=>exact ay.le hle hr
end Go.Ab
namespace Go.Proofs.YtcpgicfphakdaaaGreatDoor
open Go.Ab
def vN (l:List ByteArray) (i n:Nat):List ByteArray:=(l.drop i).take n
theorem pU {l:List ByteArray} {i n:Nat}:(vN l i n).length=min n (l.length-i):=by simp[vN]
def rep (l:List ByteArray) (a e:Nat) (z:List ByteArray):List ByteArray:=l.take a++(z++l.drop e)
theorem Ig {l:List ByteArray} {a e:Nat} (h:a≤e):l.take a++(vN l a (e-a)++l.drop e)=l:=by
 have h2:vN l a (e-a)++l.drop e=l.drop a:=by
  have:=List.take_append_drop (e-a) (l.drop a)
  rw[List.drop_drop,show a+(e-a)=e by omega] at this
  exact this
 rw[h2,List.take_append_drop]
section
variable {l z:List ByteArray} {a e:Nat} (hae:a≤e) (he:e≤l.length) (hz:z.length=e-a)
include hae he hz
theorem TY:(rep l a e z).length=l.length:=by
 simp only[rep,List.length_append,List.length_take,List.length_drop];omega
theorem vF {i n:Nat} (h:i+n≤a):vN (rep l a e z) i n=vN l i n:=by
 unfold vN rep
 rw[List.drop_append_of_le_length (by simp;omega),List.take_append_of_le_length (by simp;omega),List.drop_take,List.take_take]
 congr 1
 omega
theorem WQ {i n:Nat} (h:e≤i):vN (rep l a e z) i n=vN l i n:=by
 unfold vN rep
 have h1:(l.take a++z).length=e:=by simp;omega
 rw[←List.append_assoc,List.drop_append,List.drop_of_length_le (by omega),List.nil_append,h1,List.drop_drop]
 congr 2
 omega
theorem MQ {n:Nat} (h:n=e-a∨(e=l.length∧e-a≤n)):vN (rep l a e z) a n=z:=by
 unfold vN rep
 have h1:(l.take a).length=a:=by simp;omega
 rw[List.drop_append,List.drop_of_length_le (by omega),List.nil_append,h1,Nat.sub_self,List.drop_zero]
 rcases h with h|⟨h,h2⟩
 ·rw[List.take_append_of_le_length (by omega),List.take_of_length_le (by omega)]
 ·rw[h,List.drop_length,List.append_nil,List.take_of_length_le (by omega)]
omit he hz in
theorem Bl (hp:z.Perm (vN l a (e-a))):(rep l a e z).Perm l:=by
 have:=Ig (l:=l) hae
 conv=>rhs;rw[←this]
 exact List.Perm.append_left _ (List.Perm.append_right _ hp)
end
def Blk (bs:Nat) (l:List ByteArray):Prop:=∀k,aO pC (vN l (k*bs) bs)
theorem Blk.whole {bs:Nat} {l:List ByteArray} (h:Blk bs l) (hb:l.length≤bs):aO pC l:=by
 have:=h 0
 rw[Nat.zero_mul] at this
 simpa[vN,List.take_of_length_le hb] using this
theorem VS.perm {l m:List ByteArray} (h:VS l) (p:m.Perm l):VS m:=fun s hs=>h s (p.mem_iff.1 hs)
theorem KW {l:List ByteArray} {i n:Nat} (h:l.length≤i):vN l i n=[]:=by simp[vN,List.drop_of_length_le h]
theorem abU {P A B:List ByteArray} {e0 z:ByteArray} {i:Nat} (h:i=P.length+A.length):(P++(A++e0::B)).getD i z=e0:=by
 rw[show P++(A++e0::B)=(P++A)++e0::B by simp]
 exact pW (by simp[h])
def yS (l:List Rev):List ByteArray:=l.foldl (fun acc v=>nD acc v.path) []
theorem WN (l:List Rev) (v:Rev):yS (l++[v])=nD (yS l) v.path:=by simp[yS,List.foldl_append]
theorem Xf {κ:Type} [DecidableEq κ] {l:List κ} {k x:κ} (h:x∈nD l k):x∈l∨x=k:=by
 unfold nD at h
 split at h
 ·exact .inl h
 ·simpa using h
theorem XC {κ:Type} [DecidableEq κ] (l:List κ) (k:κ):(nD l k).length≤l.length+1:=by
 unfold nD;split<;>simp
theorem O5:∀(l:List Rev) (acc:List ByteArray) (p:ByteArray),p∈l.foldl (fun acc v=>nD acc v.path) acc→p∈acc∨∃v∈l,v.path=p
 |[],_,_,h=> .inl h
 |v::l,acc,p,h=>by
  rcases O5 l _ p h with h|⟨u,h1,h2⟩
  ·rcases Xf h with h|h
   ·exact .inl h
   ·exact .inr ⟨v,by simp,h.symm⟩
  ·exact .inr ⟨u,by simp[h1],h2⟩
theorem Qg {l:List Rev} {p:ByteArray} (h:p∈yS l):∃v∈l,v.path=p:=by
 rcases O5 l [] p h with h|h
 ·cases h
 ·exact h
theorem NP:∀(l:List Rev) (acc:List ByteArray),(l.foldl (fun acc v=>nD acc v.path) acc).length≤acc.length+l.length
 |[],_=>Nat.le_refl _
 |v::l,acc=>by
  have h1:=NP l (nD acc v.path)
  have h2:=XC acc v.path
  simp only[List.foldl_cons,List.length_cons] at h1⊢;omega
theorem Pz (l:List Rev):(yS l).length≤l.length:=by have:=NP l [];simpa[yS] using this
def yZ:Nat→List ByteArray→List ByteArray
 |0,l=>l
 |k+1,l=>if ord (l.getD (k+1) noS) (l.getD k noS)<0 then yZ k ((l.set (k+1) (l.getD k noS)).set k (l.getD (k+1) noS)) else l
def BH (l:List ByteArray):Nat→List ByteArray
 |0=>l
 |k+1=>yZ k (BH l k)
def jL (d:bJ):List ByteArray:=BH (yS d.revs) (yS d.revs).length
theorem acK {P:ByteArray→Prop} {t:List ByteArray} {v w:ByteArray} {i j:Nat} (hv:P v) (hw:P w) (h:∀r∈t,P r):∀r∈(t.set j w).set i v,P r:=by
 intro r hr
 rcases List.mem_or_eq_of_mem_set hr with hr|rfl
 ·rcases List.mem_or_eq_of_mem_set hr with hr|rfl
  ·exact h r hr
  ·exact hw
 ·exact hv
theorem JQ:∀(k:Nat) (l:List ByteArray),(yZ k l).length=l.length
 |0,l=>rfl
 |k+1,l=>by
  simp only[yZ]
  split
  ·rw[JQ k];simp
  ·rfl
theorem yj (l:List ByteArray):∀k,(BH l k).length=l.length
 |0=>rfl
 |k+1=>by rw[BH,JQ,yj l k]
theorem I9 {P:ByteArray→Prop}:∀(k:Nat) (l:List ByteArray),k<l.length→(∀r∈l,P r)→∀r∈yZ k l,P r
 |0,l,_,h=>h
 |k+1,l,hk,h=>by
  simp only[yZ]
  have g:∀i,i<l.length→P (l.getD i noS):=fun i hi=>by rw[List.getD_eq_getElem?_getD,List.getElem?_eq_getElem hi];exact h _ (List.getElem_mem hi)
  split
  ·exact I9 k _ (by simp;omega) (acK (g (k+1) hk) (g k (by omega)) h)
  ·exact h
theorem KE {P:ByteArray→Prop} {l:List ByteArray} (h:∀r∈l,P r):∀k,k≤l.length→∀r∈BH l k,P r
 |0,_=>h
 |k+1,hk=>I9 k _ (by rw[yj];omega) (KE h k (by omega))
theorem zS {d:bJ} {p:ByteArray} (h:p∈jL d):∃v∈d.revs,v.path=p:=
 KE (P:=fun p=>∃v∈d.revs,v.path=p) (fun _ hr=>Qg hr) _ (Nat.le_refl _) p h
theorem H5 (d:bJ):(jL d).length≤d.revs.length:=by unfold jL;rw[yj];exact Pz _
theorem xO:∀t:List UInt8,Lib.join (bZ t) [47]=t
 |[]=>by simp[bZ,Lib.join_one]
 |a::l=>by
  have ih:=xO l
  simp only[bZ]
  obtain⟨h,t,e⟩:=gX l
  split
  ·rename_i ha
   subst ha
   rw[e] at ih⊢
   rw[Lib.join_cons]
   simp only[Lib.joinTail,List.nil_append]
   rw[Lib.join_cons] at ih
   cases t with
   |nil=>simpa[Lib.joinTail] using ih
   |cons b t=>simpa[Lib.joinTail] using ih
  ·rw[e] at ih⊢
   simp only
   rw[Lib.join_cons] at ih⊢
   rw[←ih];rfl
theorem Y2 {x y:ByteArray} {l:List ByteArray} (hx:aJ x=some l) (hy:aJ y=some l):x=y:=by
 have key:∀s:ByteArray,aJ s=some l→s=dV++s.extract 2 s.size∧l=split (s.extract 2 s.size):=by
  intro s h
  unfold aJ at h
  split at h
  ·rename_i l' hp
   split at h
   ·cases h
   ·cases h
    unfold iT at hp
    split at hp
    ·rename_i hd
     split at hp
     ·cases hp
      simp only[hasPrefix,Bool.and_eq_true,decide_eq_true_eq] at hd
      refine⟨?_,rfl⟩
      have h2:s.extract 0 2=dV:=hd.2
      conv=>rhs;arg 1;rw[←h2]
      rw[ByteArray.extract_append_extract]
      simp
     ·cases hp
    ·cases hp
  ·cases h
 obtain⟨a1,a2⟩:=key x hx
 obtain⟨b1,b2⟩:=key y hy
 have e:x.extract 2 x.size=y.extract 2 y.size:=by
  rw[rC] at a2 b2
  rw[a2] at b2
  have h1:=congrArg (List.map fun b:ByteArray=>b.data.toList) b2
  rw[List.map_map,List.map_map] at h1
  have h2:∀L:List (List UInt8),L.map ((fun b:ByteArray=>b.data.toList)∘D8)=L:=fun L=>by
   conv=>rhs;rw[←List.map_id L]
   exact List.map_congr_left fun _ _=>rfl
  rw[h2,h2] at h1
  have h3:=congrArg (fun L=>Lib.join L [47]) h1
  simp only[xO] at h3
  exact ByteArray.ext (Array.ext' h3)
 rw[a1,b1,e]
theorem aah {x y:ByteArray} (hx:(aJ x).isSome=true) (hy:(aJ y).isSome=true) (h1:IG pC x y) (h2:IG pC y x):x=y:=by
 obtain⟨a,ha⟩:=Option.isSome_iff_exists.1 hx
 obtain⟨b,hb⟩:=Option.isSome_iff_exists.1 hy
 have h0:pC x y=0:=by
  unfold IG at h1 h2
  by_cases h:0<pC x y
  ·exact absurd (fH.pos x y h) h1
  ·omega
 rw[pC,ha,hb] at h0
 simp only[Option.getD_some] at h0
 have:=cmpL_eq a b h0
 subst this
 exact Y2 ha hb
theorem QL {l m:List ByteArray} (hV:VS m) (p:l.Perm m) (hl:aO pC l) (hm:aO pC m):l=m:=
 p.eq_of_pairwise (fun a b ha hb h1 h2=>aah (hV a (p.mem_iff.1 ha)).1 (hV b hb).1 h1 h2) hl hm
theorem DZ:∀(k:Nat) (w:List ByteArray) (e0:ByteArray) (S:List ByteArray),w.length=k→VS (w++[e0])→aO pC w→∃z,z.Perm (w++[e0])∧aO pC z∧yZ k (w++e0::S)=z++S
 |0,w,e0,S,hw,_,_=>by
  have:w=[]:=List.length_eq_zero_iff.1 hw
  subst this
  exact⟨[e0],List.Perm.refl _,by simp,rfl⟩
 |k+1,w,e0,S,hw,hV,hs=>by
  obtain⟨w',y,rfl⟩:∃w' y,w=w'++[y]:=by
   refine⟨w.take k,w.getD k noS,?_⟩
   have:w.take (k+1)=w:=List.take_of_length_le (by omega)
   conv=>lhs;rw[←this]
   rw[List.take_add_one,List.getElem?_eq_getElem (by omega)]
   simp[List.getD_eq_getElem?_getD,List.getElem?_eq_getElem (by omega:k<w.length)]
  have hw':w'.length=k:=by simpa using hw
  have he:(aJ e0).isSome=true:=(hV e0 (by simp)).1
  have hy:(aJ y).isSome=true:=(hV y (by simp)).1
  have g1:(w'++[y]++e0::S).getD (k+1) noS=e0:=pW (by simp[hw'])
  have g2:(w'++[y]++e0::S).getD k noS=y:=by
   rw[show w'++[y]++e0::S=w'++y::(e0::S) by simp]
   exact pW hw'.symm
  rw[aO,List.pairwise_append] at hs
  simp only[yZ,g1,g2]
  rw[←XQ he hy]
  split
  ·rename_i hlt
   have e1:((w'++[y]++e0::S).set (k+1) y).set k e0=w'++e0::(y::S):=by
    rw[rD (by simp[hw'])]
    rw[show w'++[y]++y::S=w'++y::(y::S) by simp]
    exact rD hw'.symm
   rw[e1]
   obtain⟨z,z1,z2,z3⟩:=DZ k w' e0 (y::S) hw' (fun s hs=>hV s (by simp only[List.mem_append] at hs⊢;rcases hs with h|h;exact .inl (.inl h);exact .inr h)) hs.1
   rw[z3]
   refine⟨z++[y],?_,?_,by simp⟩
   ·refine(List.Perm.append_right _ z1).trans ?_
    rw[List.append_assoc,List.append_assoc]
    exact List.Perm.append_left _ List.perm_append_comm
   ·rw[aO,List.pairwise_append]
    refine⟨z2,by simp,?_⟩
    intro p hp q hq
    simp only[List.mem_singleton] at hq
    subst hq
    rcases List.mem_append.1 (z1.mem_iff.1 hp) with h|h
    ·exact hs.2.2 p h q (by simp)
    ·simp only[List.mem_singleton] at h
     subst h
     exact fH.le_of_lt hlt
  ·rename_i hlt
   refine⟨w'++[y]++[e0],List.Perm.refl _,?_,by simp⟩
   rw[aO,List.pairwise_append]
   refine⟨by rw[List.pairwise_append];exact hs,by simp,?_⟩
   intro p hp q hq
   simp only[List.mem_singleton] at hq
   subst hq
   rcases List.mem_append.1 hp with h|h
   ·exact fH.le_trans (hs.2.2 p h y (by simp)) hlt
   ·simp only[List.mem_singleton] at h
    subst h
    exact hlt
theorem Dp {l:List ByteArray} (hV:VS l):∀k,k≤l.length→∃z,z.Perm (l.take k)∧aO pC z∧BH l k=z++l.drop k
 |0,_=>⟨[],by simp,List.Pairwise.nil,by simp[BH]⟩
 |k+1,hk=>by
  obtain⟨z,z1,z2,z3⟩:=Dp hV k (by omega)
  have hlz:z.length=k:=by rw[z1.length_eq];simp;omega
  rw[BH,z3,List.drop_eq_getElem_cons (by omega:k<l.length)]
  obtain⟨y,y1,y2,y3⟩:=DZ k z l[k] (l.drop (k+1)) hlz (fun s hs=>by
   rcases List.mem_append.1 hs with h|h
   ·exact hV s (List.mem_of_mem_take (z1.mem_iff.1 h))
   ·simp only[List.mem_singleton] at h
    subst h
    exact hV _ (List.getElem_mem _)) z2
  refine⟨y,?_,y2,y3⟩
  rw[List.take_add_one,List.getElem?_eq_getElem (by omega)]
  exact y1.trans (List.Perm.append_right _ z1)
theorem MF {d:bJ} (hV:VS (yS d.revs)):(jL d).Perm (yS d.revs)∧aO pC (jL d):=by
 obtain⟨z,z1,z2,z3⟩:=Dp hV (yS d.revs).length (Nat.le_refl _)
 rw[List.take_length] at z1
 rw[List.drop_length,List.append_nil] at z3
 unfold jL
 rw[z3]
 exact⟨z1,z2⟩
theorem V3 {d:bJ} (hV:VS (yS d.revs)) {l:List ByteArray} (p:l.Perm (yS d.revs)) (hl:aO pC l):l=jL d:=by
 obtain⟨h1,h2⟩:=MF hV
 exact QL (hV.perm h1) (p.trans h1.symm) hl h2
structure vS (d:bJ) (k:Nat) (la:List (ByteArray×Int)):Prop where
 keys:la.map (·.1)=yS (d.revs.take k)
 look:∀p i,ai la p=some i→∃(j:Nat) (v:Rev),i=(j:Int)∧j<k∧d.revs[j]? =some v∧v.path=p∧∀(m:Nat) (u:Rev),m<k→d.revs[m]? =some u→u.path=p→m≤j
theorem G8 {κ ν:Type} [DecidableEq κ]:∀{m:List (κ×ν)} {k:κ},ai m k=none↔¬k∈m.map (·.1)
 |[],k=>by simp[ai]
 |(a,b)::m,k=>by
  simp only[ai,List.map_cons,List.mem_cons,not_or]
  by_cases h:k=a
  ·subst h;simp
  ·rw[if_neg h,G8];simp[h]
theorem yB {κ ν:Type} [DecidableEq κ]:∀(m:List (κ×ν)) (k:κ) (v:ν),(fV m k v).map (·.1)=nD (m.map (·.1)) k
 |[],k,v=>by simp[fV,nD]
 |(a,b)::m,k,v=>by
  have ih:=yB m k v
  simp only[fV,nD] at ih⊢
  by_cases h:k=a
  ·subst h;simp
  ·rw[if_neg h]
   simp only[List.map_cons,List.mem_cons,h,false_or]
   rw[ih]
   split<;>simp
theorem vS.zero (d:bJ):vS d 0 []:=⟨rfl,fun p i h=>by simp[ai] at h⟩
theorem vS.step {d:bJ} {k:Nat} {la:List (ByteArray×Int)} {v:Rev} (h:vS d k la) (hv:d.revs[k]? =some v):vS d (k+1) (fV la v.path k):=by
 constructor
 ·rw[yB,h.keys,List.take_add_one,hv]
  exact(WN _ v).symm
 ·intro p i hi
  rw[fA] at hi
  split at hi
  ·rename_i e
   cases hi
   exact⟨k,v,rfl,by omega,hv,e.symm,fun m u hm _ _=>by omega⟩
  ·rename_i e
   obtain⟨j,w,h1,h2,h3,h4,h5⟩:=h.look p i hi
   refine⟨j,w,h1,by omega,h3,h4,fun m u hm hu hp=>?_⟩
   by_cases e2:m=k
   ·subst e2;rw[hv] at hu;cases hu;exact absurd hp.symm e
   ·exact h5 m u (by omega) hu hp
theorem vS.bd {d:bJ} {k:Nat} {la:List (ByteArray×Int)} (h:vS d k la) {p:ByteArray} {i:Int} (hi:ai la p=some i):0≤i∧i<(d.revs.length:Int):=by
 obtain⟨j,v,rfl,_,h3,_⟩:=h.look p i hi
 have:=(List.getElem?_eq_some_iff.1 h3).1
 omega
theorem vS.num {d:bJ} (hg:Good d.revs) {k:Nat} {la:List (ByteArray×Int)} {v:Rev} (h:vS d k la) (hv:d.revs[k]? =some v) {i:Int} (hi:ai la v.path=some i):(d.revs.getD i.toNat af).num<v.num:=by
 obtain⟨j,w,rfl,h2,h3,h4,_⟩:=h.look v.path i hi
 rw[Int.toNat_natCast,List.getD_eq_getElem?_getD,h3]
 exact(hg.path j k w v h2 h3 hv h4).2
theorem Oo:∀(l:List Rev) (acc:List ByteArray) (p:ByteArray),(p∈acc∨∃v∈l,v.path=p)→p∈l.foldl (fun acc v=>nD acc v.path) acc
 |[],acc,p,h=>by rcases h with h|⟨_,h,_⟩;exact h;cases h
 |v::l,acc,p,h=>by
  refine Oo l _ p ?_
  rw[wG]
  rcases h with h|⟨u,h1,h2⟩
  ·exact .inl (.inl h)
  ·rcases List.mem_cons.1 h1 with rfl|h1
   ·exact .inl (.inr h2.symm)
   ·exact .inr ⟨u,h1,h2⟩
theorem Gj:∀(l:List Rev) (acc:List ByteArray),acc.Nodup→(l.foldl (fun acc v=>nD acc v.path) acc).Nodup
 |[],_,h=>h
 |v::l,acc,h=>Gj l _ (by
  show(nD acc v.path).Nodup
  unfold nD
  split
  ·exact h
  ·rename_i hn
   rw[List.nodup_append]
   exact⟨h,by simp,fun a ha b hb=>by simp at hb;subst hb;rintro rfl;exact hn ha⟩)
theorem vS.last {d:bJ} {la:List (ByteArray×Int)} (h:vS d d.revs.length la) (p:ByteArray):
 (ai la p=none∧dD d p=none)∨∃(j:Nat) (v:Rev),ai la p=some (j:Int)∧d.revs[j]? =some v∧dD d p=some v:=by
 cases ha:ai la p with
 |none=>
  refine .inl ⟨rfl,?_⟩
  have:=G8.1 ha
  rw[h.keys,List.take_length] at this
  cases hl:dD d p with
  |none=>rfl
  |some v=>
   obtain⟨j,h1,h2,_⟩:=fQ hl
   exact absurd (Oo d.revs [] p (.inr ⟨v,List.mem_of_getElem? h1,h2⟩)) this
 |some i=>
  obtain⟨j,v,rfl,h2,h3,h4,h5⟩:=h.look p i ha
  refine .inr ⟨j,v,rfl,h3,?_⟩
  cases hl:dD d p with
  |none=>exact absurd h4 (last_none hl v (List.mem_of_getElem? h3))
  |some w=>
   obtain⟨m,m1,m2,m3⟩:=fQ hl
   have a:=m3 j v h3 h4
   have b:=h5 m w (List.getElem?_eq_some_iff.1 m1).1 m1 m2
   have:j=m:=by omega
   subst this
   rw[h3] at m1;cases m1;rfl
end Go.Proofs.YtcpgicfphakdaaaGreatDoor
namespace Go.Proofs.YtcpgicfphakdaaaGreatDoor
open Go.Ab Tys
variable [Dr]
def Plus {κ:Type} (a b c:List κ):Prop:=∀k,k∈a↔k∈b∨k∈c
theorem Plus.nil {κ:Type} {a b:List κ} (h:Plus a b []):∀k,k∈a↔k∈b:=fun k=>by rw[h k];simp
@[reducible] def vL (l:List Int):Bool×List D:=(false,[.ps 1 (l.map eI)])
@[reducible] def qK (L:iE) (la:List (ByteArray×Int)) (me:List (Int×List Int)):List D:=
 [.ps 12 (L.revs.map aI), .pm (bM kF vI L.index), .pm (bM Ed vI la), .ps 1 (L.prev.map eI), .ps 1 (L.fst.map eI), .pm (bM kN vL me), .ps 1 (L.car.map iW), .ps 1 (L.con.map iW), .ps 1 (L.cre.map iW)]
def z41.kk:=p2 (p9 kB kG kM Tryz.ntmps41 pM qW zt yI qR) (p8 DT Jp uz vT IR WP AX Tryz.results41)
open z41 in
theorem J5 (L:iE) (hL:xK L) (la:List (ByteArray×Int)) (me:List (Int×List Int)) (f:bf):
 AC Tryz.prog 41 [.c (.pp (qK L la me)),D9 f] [] (fun r st=>(∃i:Int,r= .tup [pI i,pB (qH L f).isSome]∧∀k,qH L f=some k→i=k)∧st=[]):=by
 cases hk:ai L.index f with
 |none=>
  have hm:qH L f=none:=by simp[qH,hk]
  rw[hm]
  cases hf:L.fst with
  |nil=>
   refine dA Tryz.func41 Tryz.ntmps41 fun x hx=>?_
   try refine nv ?_
   refine BO (wr:=false) ([]:List (Nat×AV)) (by simp only[kD,kk,Nat.reduceAdd,Nat.reduceLT,Nat.reduceEqDiff, ↓reduceIte,reduceCtorEq,lH,hk,Option.map_none,Option.isSome];first|done|rfl) ?_ ?_
   ·exact iw @xU
   refine bC ?_
   refine dx ([]) (p2 @hf @List.getD_nil.{0}) ?_ ?_
   ·exact vO
   try refine nv ?_
   refine rA [] ?_
   refine⟨?_,rfl⟩
   exact⟨0,rfl,fun k h=>by cases h⟩
  |cons a l=>
   refine dA Tryz.func41 Tryz.ntmps41 fun x hx=>?_
   try refine nv ?_
   refine BO (wr:=false) ([]:List (Nat×AV)) (by simp only[kD,kk,Nat.reduceAdd,Nat.reduceLT,Nat.reduceEqDiff, ↓reduceIte,reduceCtorEq,lH,hk,Option.map_none,Option.isSome];first|done|rfl) ?_ ?_
   ·exact iw @xU
   refine bC ?_
   refine dx ([]) (p2 @hf @Int.toNat_zero) ?_ ?_
   ·exact vO
   try refine nv ?_
   refine rA [] ?_
   refine⟨?_,rfl⟩
   exact⟨0,rfl,fun k h=>by cases h⟩
 |some i=>
  obtain⟨i1,i2⟩:=hL.ix _ _ hk
  have hcl:=hL.fst
  have hil:i.toNat<L.fst.length:=by omega
  have hi2:i<(L.fst.length:Int):=by omega
  have eg:=bg eI L.fst i.toNat 0 hil
  refine dA Tryz.func41 Tryz.ntmps41 fun x hx=>?_
  try refine nv ?_
  refine BO (wr:=false) ([]:List (Nat×AV)) (by simp only[kD,kk,Nat.reduceAdd,Nat.reduceLT,Nat.reduceEqDiff, ↓reduceIte,reduceCtorEq,lH,hk,Option.isSome];first|done|rfl) ?_ ?_
  ·exact iw @xU
  refine bC ?_
  refine dx ([]) @eg ?_ ?_
  ·exact vO
  try refine nv ?_
  refine rA [] ?_
  refine⟨?_,rfl⟩
  refine⟨i,?_,fun k h=>?_⟩
  ·simp only[qH,hk]
   generalize L.fst.getD i.toNat 0=z
   by_cases h:0≤z<;>simp[h]
  ·simp only[qH,hk] at h
   split at h
   ·cases h;rfl
   ·cases h
end Go.Proofs.YtcpgicfphakdaaaGreatDoor
namespace Go.Proofs.YtcpgicfphakdaaaGreatDoor
open Go.Ab
variable [Dr]
@[reducible] def vV {β:Type} (g:Value×List β):Bool×List D:=(false,[.v g.1])
def wK {κ β:Type} (G:List (κ×(Value×List β))):List (κ×List β):=G.map fun g=>(g.1,g.2.2)
def iP {κ β:Type} (enc:β→List D) (G:List (κ×(Value×List β))):List (Value×List (List D)):=G.map fun g=>(g.2.1,g.2.2.map enc)
theorem jk {κ β:Type} [DecidableEq κ] (G:List (κ×(Value×List β))) (k:κ):ai (wK G) k=(ai G k).map (·.2):=by
 induction G with
 |nil=>rfl
 |cons g G ih=>simp only[wK,List.map_cons,ai] at ih⊢;split<;>simp_all
theorem qM {κ β:Type} [DecidableEq κ] (G:List (κ×(Value×List β))) (k:κ) (v:Value) (ys:List β):wK (fV G k (v,ys))=fV (wK G) k ys:=by
 induction G with
 |nil=>rfl
 |cons g G ih=>simp only[wK,List.map_cons,fV] at ih⊢;split<;>simp_all
theorem xq {κ ν:Type} [DecidableEq κ]:∀{m:List (κ×ν)} {k:κ} {v:ν},ai m k=some v→∃A B,m=A++(k,v)::B∧∀p∈A,p.1≠k
 |[],_,_,h=>by simp[ai] at h
 |(a,b)::m,k,v,h=>by
  simp only[ai] at h
  split at h
  ·rename_i e;cases h;subst e;exact⟨[],m,rfl,by simp⟩
  ·rename_i e
   obtain⟨A,B,rfl,hA⟩:=xq h
   refine⟨(a,b)::A,B,rfl,?_⟩
   intro p hp
   rcases List.mem_cons.1 hp with rfl|hp
   ·exact fun h=>e h.symm
   ·exact hA p hp
theorem Ii {κ ν:Type} [DecidableEq κ]:∀{A B:List (κ×ν)} {k:κ} {v x:ν},(∀p∈A,p.1≠k)→fV (A++(k,v)::B) k x=A++(k,x)::B
 |[],B,k,v,x,_=>by simp[fV]
 |(a,b)::A,B,k,v,x,h=>by
  simp only[List.cons_append,fV]
  rw[if_neg (fun e=>h (a,b) List.mem_cons_self e.symm),Ii (fun p hp=>h p (List.mem_cons_of_mem _ hp))]
theorem J9 {κ ν:Type} [DecidableEq κ]:∀{m:List (κ×ν)} {k:κ} {x:ν},ai m k=none→fV m k x=m++[(k,x)]
 |[],_,_,_=>rfl
 |(a,b)::m,k,x,h=>by
  simp only[ai] at h
  split at h
  ·cases h
  ·rename_i e;simp only[fV];rw[if_neg e,J9 h];rfl
theorem BL {κ β:Type} [DecidableEq κ] (enc:β→List D) {G:List (κ×(Value×List β))} {k:κ} {v x:Value} {ys zs:List β} {ps ps':List (Value×List (List D))} (h:ai G k=some (v,ys)) (hp:ps.Perm (iP enc G)) (hp':((v,ys.map enc)::ps').Perm ps):
 ((x,zs.map enc)::ps').Perm (iP enc (fV G k (x,zs))):=by
 obtain⟨A,B,rfl,hA⟩:=xq h
 rw[Ii hA]
 have h1:=hp'.trans hp
 simp only[iP,List.map_append,List.map_cons] at h1⊢
 have h2:((v,ys.map enc)::ps').Perm ((v,ys.map enc)::(A.map (fun g=>(g.2.1,g.2.2.map enc))++B.map (fun g=>(g.2.1,g.2.2.map enc)))):=h1.trans List.perm_middle
 exact((List.Perm.cons_inv h2).cons _).trans List.perm_middle.symm
theorem Gw {κ β:Type} [DecidableEq κ] (enc:β→List D) {G:List (κ×(Value×List β))} {k:κ} {x:Value} {zs:List β} {ps:List (Value×List (List D))} (h:ai G k=none) (hp:ps.Perm (iP enc G)):
 ((x,zs.map enc)::ps).Perm (iP enc (fV G k (x,zs))):=by
 rw[J9 h]
 simp only[iP,List.map_append,List.map_cons,List.map_nil]
 exact(hp.cons _).trans (List.perm_append_comm (l₁:=[(x,zs.map enc)]))
section
variable {x:X} {κ β:Type} [DecidableEq κ] {ke:κ→Bool×List D} (hk:∀a b,jE ((ke a).2.map C.d) ((ke b).2.map C.d)=decide (a=b))
include hk
theorem Ib (w:Bool×List C) (v:Value×List β) (k:κ):∀{A B:List (κ×(Value×List β))},(∀p∈A,p.1≠k)→dH (jV (ke k)) w ((bM ke vV (A++(k,v)::B)).map fC)=((bM ke vV (A++(k,v)::B)).map fC).set A.length (jV (ke k),w)
 |[],B,_=>by
  have:jE (jV (ke k)).2 (jV (ke k)).2=decide (k=k):=hk _ _
  simp only[List.nil_append,bM,List.map_cons,dH,fC,this];simp
 |a::A,B,h=>by
  have:jE (jV (ke k)).2 (jV (ke a.1)).2=decide (k=a.1):=hk _ _
  have hne:¬k=a.1:=fun e=>h a List.mem_cons_self e.symm
  simp only[List.cons_append,bM,List.map_cons,dH,fC,this,hne,decide_false,Bool.false_eq_true,if_false,List.length_cons,List.set_cons_succ]
  congr 1
  exact Ib w v k (fun p hp=>h p (List.mem_cons_of_mem _ hp))
theorem WY (enc:β→List D) {s:S} {mid pid pid' aid sz:Nat} {G:List (κ×(Value×List β))} {k:κ} {v:Value} {ys:List β} {ps:List (Value×List (List D))} (hm:get s.st mid=some (.map ((bM ke vV G).map fC)))
 (hp:get s.st pid=some (.pool sz ps)) (hpm:ps.Perm (iP enc G)) (hkG:ai G k=some (v,ys)) (hp':get s.st pid'=none) (ha:get s.st aid=none) (hne:pid'≠aid):
 ∃ps',((v,ys.map enc)::ps').Perm ps∧yQ x s ⟨s.n,s.env,put (put (put (put s.st pid .dead) pid' (.pool sz ps')) aid (.arr sz ((ys.map enc).map fun l=>l.map C.d))) mid (.map (dH (jV (ke k)) (false,[.ms aid sz 0 ys.length]) ((bM ke vV G).map fC)))⟩:=by
 obtain⟨A,B,rfl,hA⟩:=xq hkG
 have hin:(v,ys.map enc)∈ps:=hpm.mem_iff.2 (by simp[iP])
 obtain⟨i,hi⟩:=List.getElem?_of_mem hin
 have hil:=(List.getElem?_eq_some_iff.1 hi).1
 have hpe:((v,ys.map enc)::ps.eraseIdx i).Perm ps:=by
  have h0:ps[i]=(v,ys.map enc):=(List.getElem?_eq_some_iff.1 hi).2
  have e:ps=ps.take i++(v,ys.map enc)::ps.drop (i+1):=by
   conv=>lhs;rw[←List.take_append_drop i ps,List.drop_eq_getElem_cons hil,h0]
  rw[List.eraseIdx_eq_take_drop_succ]
  conv=>rhs;rw[e]
  exact List.perm_middle.symm
 have hj:((bM ke vV (A++(k,(v,ys))::B)).map fC)[A.length]? =some (jV (ke k),(false,[.d (.v v)])):=by
  simp[bM,fC,jV]
 have:=RD (x:=x) (s:=s) (pid':=pid') (aid:=aid) hm hj hp hi hp' ha hne
 rw[←Ib hk] at this
 ·refine⟨_,hpe,?_⟩
  simpa using this
 ·exact hA
theorem Ew {P:Program} {ops l:List Oper} {Q:Exit→S→Prop} (enc:β→List D) {s:S} {mid pid pid' aid sz:Nat} {G:List (κ×(Value×List β))} {k:κ} {v:Value} {ys:List β} {ps:List (Value×List (List D))} (hm:get s.st mid=some (.map ((bM ke vV G).map fC)))
 (hp:get s.st pid=some (.pool sz ps)) (hpm:ps.Perm (iP enc G)) (hkG:ai G k=some (v,ys)) (hp':get s.st pid'=none) (ha:get s.st aid=none) (hne:pid'≠aid)
 (h:∀ps',((v,ys.map enc)::ps').Perm ps→TO P x ops l ⟨s.n,s.env,put (put (put (put s.st pid .dead) pid' (.pool sz ps')) aid (.arr sz ((ys.map enc).map fun l=>l.map C.d))) mid (.map (dH (jV (ke k)) (false,[.ms aid sz 0 ys.length]) ((bM ke vV G).map fC)))⟩ Q):TO P x ops l s Q:=by
 obtain⟨ps',h1,h2⟩:=WY (x:=x) hk enc hm hp hpm hkG hp' ha hne
 exact bz h2 (h ps' h1)
theorem qI (enc:β→List D) {s:S} {mid pid pid' aid sz n:Nat} {G:List (κ×(Value×List β))} {k:κ} {ys:List β} {ps:List (Value×List (List D))} (hm:get s.st mid=some (.map (dH (jV (ke k)) (false,[.ms aid sz 0 n]) ((bM ke vV G).map fC))))
 (hp:get s.st pid=some (.pool sz ps)) (ha:get s.st aid=some (.arr sz ((ys.map enc).map fun l=>l.map C.d))) (hn:n=ys.length) (hy:ys≠[]) (hp':get s.st pid'=none):
 ∀a w,Sat x s a w→∃v,Sat x ⟨s.n,s.env,put (put (put (put s.st pid .dead) aid .dead) pid' (.pool sz ((v,ys.map enc)::ps))) mid (.map ((bM ke vV (fV G k (v,ys))).map fC))⟩ a w:=by
 intro a w hs
 obtain⟨v,h⟩:=QR (x:=x) (pid':=pid') hm (sK _ _ _) hp ha (by simpa using hn) (by simpa using hy) hp' hs
 rw[Ab.oP,show((false,[C.d (.v v)]):Bool×List C)=jV (vV (v,ys)) from rfl,G5 hk] at h
 exact⟨v,h⟩
end
theorem TM (p:ByteArray) (n:Int) (w:Bool×List C):∀es:List uj,(∀e∈es,e.1.1=true∧cZ [.str, .int .i64] e.1.2)→∀e∈dH (true,[C.d (.v (.string p)),C.d (.v (.int .i64 n))]) w es,e.1.1=true∧cZ [.str, .int .i64] e.1.2
 |[],_=>by intro e he;simp[dH] at he;subst he;simp[cZ]
 |a::es,h=>by
  intro e he
  simp only[dH] at he
  split at he
  ·rcases List.mem_cons.1 he with rfl|he
   ·simp[cZ]
   ·exact h e (List.mem_cons_of_mem _ he)
  ·rcases List.mem_cons.1 he with rfl|he
   ·exact h _ List.mem_cons_self
   ·exact TM p n w es (fun e he=>h e (List.mem_cons_of_mem _ he)) e he
theorem Ho {κ β:Type} {ke:κ→Bool×List D} (enc:β→List D) (sz:Nat) (G:List (κ×(Value×List β))):
 ((bM ke vV G).map fC)=((G.map fun g=>(ke g.1,g.2.1,g.2.2.map enc)).map fun g=>(jV g.1,(false,[C.d (.v g.2.1)])))∧
 ((G.map fun g=>(ke g.1,g.2.1,g.2.2.map enc)).map fun g=>(g.1,(false,[D.ps sz g.2.2])))=bM ke (fun l=>(false,[.ps sz (l.map enc)])) (wK G):=by
 constructor
 ·simp only[bM,List.map_map];exact List.map_congr_left fun g _=>rfl
 ·simp only[bM,wK,List.map_map];exact List.map_congr_left fun g _=>rfl
theorem MI {κ β:Type} {ke:κ→Bool×List D} (enc:β→List D) {G:List (κ×(Value×List β))} {ps:List (Value×List (List D))} (hp:ps.Perm (iP enc G)):∀g∈(G.map fun g=>(ke g.1,g.2.1,g.2.2.map enc)),g.2∈ps:=by
 intro g hg
 obtain⟨a,ha,rfl⟩:=List.mem_map.1 hg
 exact hp.mem_iff.2 (List.mem_map.2 ⟨a,ha,rfl⟩)
end Go.Proofs.YtcpgicfphakdaaaGreatDoor
namespace Go.Proofs.YtcpgicfphakdaaaGreatDoor
open Go.Ab
theorem oM {d:bJ} (hg:Good d.revs) (hN:d.revs.length≤512) (f:bf):line d f=jD d f:=by
 rw[Am hg hN,line]
 refine List.filter_congr fun u _=>?_
 rw[Bool.eq_iff_iff]
 simp[BX]
theorem Vg {d:bJ} (hg:Good d.revs) {p:ByteArray} {u w:Rev} (hu:dD d p=some u) (h5:u.act=5) (hw:lF d p (u.num-1)=some w):w∈d.revs∧¬w.act=5:=by
 obtain⟨i,hi,ep,_⟩:=fQ hu
 obtain⟨j,x,_,hj,xp,xn,_,x5,_⟩:=hg.prv i u hi (by omega) (by omega)
 obtain⟨k,hk,ek⟩:=(iQ hg).1 hw
 have e:fileOf x=fileOf w:=by rw[ek];simp only[fileOf];rw[xp,xn,ep]
 have:=bQ hg hj hk e
 subst this
 rw[hj] at hk;cases hk
 exact⟨List.mem_of_getElem? hj,x5⟩
theorem qA {d:bJ} {p:ByteArray} {u:Rev} (hu:dD d p=some u):u∈d.revs∧u.path=p:=by
 obtain⟨i,hi,ep,_⟩:=fQ hu
 exact⟨List.mem_of_getElem? hi,ep⟩
theorem A7 {d:bJ} {u:Rev} (hu:u∈d.revs):∃v,dD d u.path=some v:=by
 cases h:dD d u.path with
 |some v=>exact⟨v,rfl⟩
 |none=>
  have:=(N7 (fun v:Rev=>decide (v.path=u.path)) d.revs).2 h u hu
  simp at this
theorem sQ {d:bJ} {f:bf} {u:Rev}:u∈line d f↔u∈d.revs∧¬u.act=5∧first d u=f:=by
 simp[line,BX]
theorem Ut {d:bJ} {u:Rev} (hu:u∈d.revs) (h5:¬u.act=5):0<(line d (first d u)).length:=
 List.length_pos_iff.2 fun h=>by have:=sQ.2 ⟨hu,h5,rfl⟩;rw[h] at this;cases this
def Qr (d:bJ) (t:ByteArray):Option Rev:=match dD d t with|none=>none|some u=>if u.act=5 then lF d t (u.num-1) else some u
theorem LH {d:bJ} (hg:Good d.revs) {t:ByteArray} {u:Rev} (h:Qr d t=some u):u∈d.revs∧¬u.act=5:=by
 unfold Qr at h
 cases hl:dD d t with
 |none=>rw[hl] at h;cases h
 |some v=>
  rw[hl] at h
  simp only at h
  by_cases h5:v.act=5
  ·rw[if_pos h5] at h;exact Vg hg hl h5 h
  ·rw[if_neg h5] at h;cases h;exact⟨(qA hl).1,h5⟩
def jr (d:bJ) (u:Rev):Rev:=(line d (first d u)).getD ((line d (first d u)).length-1) af
theorem Kw {d:bJ} {u:Rev} (hu:u∈d.revs) (h5:¬u.act=5):jr d u∈d.revs∧¬(jr d u).act=5∧first d (jr d u)=first d u:=by
 have h:=Ut hu h5
 have hm:jr d u∈line d (first d u):=by
  unfold jr
  rw[List.getD_eq_getElem?_getD,List.getElem?_eq_getElem (by omega)]
  exact List.getElem_mem _
 exact sQ.1 hm
def zg (d:bJ) (m:List eQ) (self:bf) (q:ByteArray):Option Rev:=
 if(oW m q).2=true then
  match Qr d (oW m q).1 with
  |none=>none
  |some u=>if ¬first d u=self∧(dD d (jr d u).path).getD af=jr d u then some (jr d u) else none
 else none
def Au (d:bJ) (m:List eQ) (ln:List Rev):Nat→Option (Rev×ByteArray)
 |0=>none
 |k+1=>
  if k+1<ln.length∧(ln.getD (k+1) af).path=(ln.getD k af).path then Au d m ln k
  else match zg d m (fileOf (ln.getD 0 af)) (ln.getD k af).path with
   |some w=>some (w,(ln.getD k af).path)
   |none=>Au d m ln k
def xw (d:bJ) (m:List eQ) (ln:List Rev):Option (Rev×ByteArray):=Au d m ln ln.length
theorem Rx {d:bJ} (hg:Good d.revs) {m:List eQ} {self:bf} {q:ByteArray} {w:Rev} (h:zg d m self q=some w):dD d w.path=some w∧¬w.act=5∧¬first d w=self:=by
 unfold zg at h
 split at h
 ·cases hu:Qr d (oW m q).1 with
  |none=>rw[hu] at h;cases h
  |some u=>
   rw[hu] at h
   simp only at h
   split at h
   ·rename_i hc
    cases h
    obtain⟨u1,u2⟩:=LH hg hu
    obtain⟨m1,m2,m3⟩:=Kw u1 u2
    refine⟨?_,m2,by rw[m3];exact hc.1⟩
    obtain⟨v,hv⟩:=A7 m1
    have:=hc.2
    rw[hv] at this⊢
    exact congrArg some this
   ·cases h
 ·cases h
theorem yM {d:bJ} (hg:Good d.revs) {m:List eQ} {ln:List Rev} {w:Rev} {q:ByteArray}:∀{k:Nat},Au d m ln k=some (w,q)→dD d w.path=some w∧¬w.act=5∧¬first d w=fileOf (ln.getD 0 af)
 |k+1,h=>by
  rw[Au] at h
  split at h
  ·exact yM hg h
  ·cases ht:zg d m (fileOf (ln.getD 0 af)) (ln.getD k af).path with
   |none=>rw[ht] at h;exact yM hg h
   |some x=>
    rw[ht] at h
    simp only[Option.some.injEq,Prod.mk.injEq] at h
    obtain⟨rfl,_⟩:=h
    exact Rx hg ht
structure BrI (d:bJ) (p:ByteArray) (v:Rev) (fs:Int):Prop where
 lo:1≤fs
 le:fs≤v.num
 run:∀n:Int,fs≤n→n≤v.num→Xc d p n=some (first d v)
section
variable {d:bJ} (hg:Good d.revs) (hN:d.revs.length≤512)
include hg hN
theorem VW {p:ByteArray} {v:Rev} (hv:dD d p=some v) (v5:¬v.act=5):BrI d p v v.num:=by
 obtain⟨i,hi,ep,_⟩:=fQ hv
 refine⟨(hg.num i v hi).1,Int.le_refl _,fun n h1 h2=>?_⟩
 have e:n=v.num:=by omega
 subst e
 rw[←ep]
 exact(Be hg).2 ⟨i,v,hi,rfl,v5,rfl⟩
theorem YU {p:ByteArray} {v u:Rev} {fs:Int} (hv:dD d p=some v) (h:BrI d p v fs) (hu:u∈line d (first d v)) (hp:u.path=p) (hn:fs-1≤u.num):BrI d p v u.num:=by
 obtain⟨i,hi,ep,hmax⟩:=fQ hv
 obtain⟨m1,m2,m3⟩:=sQ.1 hu
 obtain⟨j,hj⟩:=List.getElem?_of_mem m1
 have hle:u.num≤v.num:=by
  have hji:=hmax j u hj hp
  rcases Nat.lt_or_ge j i with h|h
  ·have:=(hg.path j i u v h hj hi (by rw[hp,ep])).2;omega
  ·have:j=i:=by omega
   subst this;rw[hj] at hi;cases hi;omega
 refine⟨(hg.num j u hj).1,hle,fun n h1 h2=>?_⟩
 by_cases h3:fs≤n
 ·exact h.run n h3 h2
 ·have e:n=u.num:=by omega
  subst e
  rw[←hp]
  exact(Be hg).2 ⟨j,u,hj,rfl,m2,m3⟩
end
theorem getD_at {α:Type} {l:List α} {i:Nat} {z:α} (h:i<l.length):l[i]? =some (l.getD i z):=by
 rw[List.getD_eq_getElem?_getD,List.getElem?_eq_getElem h];rfl
def VV (p:ByteArray) (ln:List Rev):Nat→Int→Int
 |0,fs=>fs
 |k+1,fs=>if(ln.getD k af).path=p∧fs-1≤(ln.getD k af).num then VV p ln k (ln.getD k af).num else fs
theorem abA {d:bJ} (hg:Good d.revs) (hN:d.revs.length≤512) {p:ByteArray} {v:Rev} (hv:dD d p=some v):∀(k:Nat) (fs:Int),k≤(line d (first d v)).length→BrI d p v fs→BrI d p v (VV p (line d (first d v)) k fs)
 |0,_,_,h=>h
 |k+1,fs,hk,h=>by
  rw[VV]
  split
  ·rename_i hc
   refine abA hg hN hv k _ (by omega) (YU hg hN hv h ?_ hc.1 hc.2)
   rw[List.getD_eq_getElem?_getD,List.getElem?_eq_getElem (by omega)]
   exact List.getElem_mem _
  ·exact h
def wM (rest:List bf) (ln:List Rev) (p:ByteArray):Nat→Nat→Nat
 |0,i=>i
 |n+1,i=>if i+1<ln.length∧fileOf (ln.getD (i+1) af)∈rest∧(ln.getD (i+1) af).path=p then wM rest ln p n (i+1) else i
theorem Iq (rest:List bf) (ln:List Rev) (p:ByteArray) (n i:Nat):wM rest ln p (n+1) i=if i+1<ln.length∧fileOf (ln.getD (i+1) af)∈rest∧(ln.getD (i+1) af).path=p then wM rest ln p n (i+1) else i:=rfl
theorem AB (rest:List bf) (ln:List Rev) (p:ByteArray):∀n i,i≤wM rest ln p n i
 |0,_=>Nat.le_refl _
 |n+1,i=>by
  rw[wM];split
  ·exact Nat.le_trans (by omega) (AB rest ln p n (i+1))
  ·exact Nat.le_refl _
theorem LK (rest:List bf) (ln:List Rev) (p:ByteArray):∀n i,i<ln.length→wM rest ln p n i<ln.length
 |0,_,h=>h
 |n+1,i,h=>by
  rw[wM];split
  ·rename_i hc;exact LK rest ln p n (i+1) hc.1
  ·exact h
theorem Cc (rest:List bf) (ln:List Rev) (p:ByteArray):∀n i,(ln.getD i af).path=p→∀k,i≤k→k≤wM rest ln p n i→(ln.getD k af).path=p
 |0,i,h,k,h1,h2=>by rw[wM] at h2;rw[show k=i by omega];exact h
 |n+1,i,h,k,h1,h2=>by
  rw[wM] at h2
  split at h2
  ·rename_i hc
   by_cases e:k=i
   ·rw[e];exact h
   ·exact Cc rest ln p n (i+1) hc.2.2 k (by omega) h2
  ·rw[show k=i by omega];exact h
theorem DJ (rest:List bf) (ln:List Rev) (p:ByteArray):∀n i,ln.length≤n+i→wM rest ln p (n+1) i=wM rest ln p n i
 |0,i,h=>by rw[Iq,if_neg (by omega)];rfl
 |n+1,i,h=>by
  rw[Iq _ _ _ (n+1) i,Iq _ _ _ n i]
  split
  ·exact DJ rest ln p n (i+1) (by omega)
  ·rfl
def qB (rest:List bf) (ln:List Rev) (p:ByteArray) (i:Nat):Nat:=wM rest ln p ln.length i
theorem Wu {rest:List bf} {ln:List Rev} {p:ByteArray} {i:Nat} (h:i+1<ln.length∧fileOf (ln.getD (i+1) af)∈rest∧(ln.getD (i+1) af).path=p):qB rest ln p i=qB rest ln p (i+1):=by
 unfold qB
 have e:ln.length=(ln.length-1)+1:=by omega
 conv=>lhs;rw[e,Iq,if_pos h]
 rw[←DJ rest ln p (ln.length-1) (i+1) (by omega),←e]
theorem Vd {rest:List bf} {ln:List Rev} {p:ByteArray} {i:Nat} (h:¬(i+1<ln.length∧fileOf (ln.getD (i+1) af)∈rest∧(ln.getD (i+1) af).path=p)):qB rest ln p i=i:=by
 unfold qB
 cases hl:ln.length with
 |zero=>rfl
 |succ n=>rw[Iq,if_neg h]
def runT (f:bf) (ln:List Rev) (w:Rev) (mv:ByteArray) (i j:Nat):pz:=
 ⟨if(ln.getD j af).act=3 then 3 else 2,f.path,f.num,(ln.getD i af).path,(ln.getD i af).num,(ln.getD j af).num,w.path,w.num,if 0<i then(ln.getD (i-1) af).path else noS,if 0<i then(ln.getD (i-1) af).num else 0,mv⟩
def wz (f:bf) (rest:List bf) (ln:List Rev) (w:Rev) (mv:ByteArray):Nat→Nat→List pz
 |0,_=>[]
 |n+1,i=>
  if i<ln.length then
   if fileOf (ln.getD i af)∈rest then runT f ln w mv i (qB rest ln (ln.getD i af).path i)::wz f rest ln w mv n (qB rest ln (ln.getD i af).path i+1)
   else wz f rest ln w mv n (i+1)
  else []
theorem Dl (f:bf) (rest:List bf) (ln:List Rev) (w:Rev) (mv:ByteArray) (n i:Nat):wz f rest ln w mv (n+1) i=if i<ln.length then
 if fileOf (ln.getD i af)∈rest then runT f ln w mv i (qB rest ln (ln.getD i af).path i)::wz f rest ln w mv n (qB rest ln (ln.getD i af).path i+1)
 else wz f rest ln w mv n (i+1)
 else []:=rfl
theorem rH (f:bf) (rest:List bf) (ln:List Rev) (w:Rev) (mv:ByteArray):∀n i,ln.length≤n+i→wz f rest ln w mv (n+1) i=wz f rest ln w mv n i
 |0,i,h=>by rw[Dl,if_neg (by omega)];rfl
 |n+1,i,h=>by
  rw[Dl _ _ _ _ _ (n+1) i,Dl _ _ _ _ _ n i]
  have he:=AB rest ln (ln.getD i af).path ln.length i
  rw[rH f rest ln w mv n (qB rest ln (ln.getD i af).path i+1) (by unfold qB;omega),rH f rest ln w mv n (i+1) (by omega)]
def ut (f:bf) (rest:List bf) (ln:List Rev) (w:Rev) (mv:ByteArray) (i:Nat):List pz:=wz f rest ln w mv ln.length i
theorem Zf {f:bf} {rest:List bf} {ln:List Rev} {w:Rev} {mv:ByteArray} {i:Nat} (h:ln.length≤i):ut f rest ln w mv i=[]:=by
 unfold ut
 cases hl:ln.length with
 |zero=>rfl
 |succ n=>rw[Dl,if_neg (by omega)]
theorem VH {f:bf} {rest:List bf} {ln:List Rev} {w:Rev} {mv:ByteArray} {i:Nat} (h:i<ln.length) (hn:¬fileOf (ln.getD i af)∈rest):ut f rest ln w mv i=ut f rest ln w mv (i+1):=by
 unfold ut
 have e:ln.length=(ln.length-1)+1:=by omega
 conv=>lhs;rw[e,Dl,if_pos h,if_neg hn]
 rw[←rH f rest ln w mv (ln.length-1) (i+1) (by omega),←e]
theorem XO {f:bf} {rest:List bf} {ln:List Rev} {w:Rev} {mv:ByteArray} {i:Nat} (h:i<ln.length) (hn:fileOf (ln.getD i af)∈rest):ut f rest ln w mv i=runT f ln w mv i (qB rest ln (ln.getD i af).path i)::ut f rest ln w mv (qB rest ln (ln.getD i af).path i+1):=by
 unfold ut
 have e:ln.length=(ln.length-1)+1:=by omega
 have he:=AB rest ln (ln.getD i af).path ln.length i
 conv=>lhs;rw[e,Dl,if_pos h,if_pos hn]
 rw[←rH f rest ln w mv (ln.length-1) (qB rest ln (ln.getD i af).path i+1) (by unfold qB;omega),←e]
noncomputable def uq (d:bJ) (s:bf):Option (Rev×ByteArray)→List bf
 |some (w,_)=>(lm d s (fileOf w)).getD []
 |none=>[]
def NT (d:bJ) (m:List eQ) (p t:ByteArray) (w:Rev) (q:ByteArray):ByteArray:=
 if ¬q=p∧(oW m q).1=w.path∧¬t=w.path∧live d t=false then t else noS
def brT (d:bJ) (p t:ByteArray) (v:Rev):pz:=
 ⟨1,(first d v).path,(first d v).num,p,VV p (line d (first d v)) (line d (first d v)).length v.num,v.num,t,dh d t,noS,0,noS⟩
noncomputable def l7 (d:bJ) (m:List eQ) (p:ByteArray):List pz:=
 let v:=(dD d p).getD af
 let t:=(oW m p).1
 if(oW m p).2=false∨v.act=5 then []
 else
  let tg:=xw d m (line d (first d v))
  let rest:=uq d (fileOf v) tg
  match tg with
  |none=>if v.act=3∨live d t=true then [] else [brT d p t v]
  |some (w,q)=>
   if w.act=3 then(if v.act=3∨live d t=true∨rest=[] then [] else [brT d p t v])
   else ut (first d v) rest (line d (first d v)) w (NT d m p t w q) 0
noncomputable def zu (d:bJ) (m:List eQ):List pz:=(jL d).flatMap (l7 d m)
section
variable {d:bJ} (hg:Good d.revs) (hN:d.revs.length≤512) (hf:tV d) (hpt:Jn d)
include hg hN hf hpt
theorem QQ {f:bf} {rest:List bf} {w:Rev} {mv:ByteArray} (hw:dD d w.path=some w) (w3:¬w.act=3) (w5:¬w.act=5) (hwl:¬first d w=f)
 (hm:mv=noS∨(aJ mv).isSome=true∧live d mv=false∧¬mv=w.path):∀(n i:Nat),∀x∈wz f rest (jD d f) w mv n i,Ou d x
 |0,i,x,h=>by cases h
 |n+1,i,x,h=>by
  rw[wz] at h
  split at h
  ·rename_i hi
   split at h
   ·rcases List.mem_cons.1 h with rfl|h
    ·have hj:=LK rest (jD d f) ((jD d f).getD i af).path (jD d f).length i hi
     have ha:(jD d f)[i]? =some ((jD d f).getD i af):=by exact getD_at hi
     have hb:(jD d f)[qB rest (jD d f) ((jD d f).getD i af).path i]? =some ((jD d f).getD (qB rest (jD d f) ((jD d f).getD i af).path i) af):=by
      exact getD_at hj
     refine Sm hg hN hf hpt (AB rest _ _ _ _) ha hb ?_ hw w3 w5 hwl hm _ _ rfl
     intro k u h1 h2 hu
     have:=Cc rest (jD d f) ((jD d f).getD i af).path (jD d f).length i rfl k h1 h2
     rw[List.getD_eq_getElem?_getD,hu] at this
     exact this
    ·exact QQ hw w3 w5 hwl hm n _ x h
   ·exact QQ hw w3 w5 hwl hm n _ x h
  ·cases h
theorem acw {m:List eQ} {p:ByteArray} (hp:∃v∈d.revs,v.path=p):∀x∈l7 d m p,Ou d x:=by
 intro x hx
 obtain⟨v0,hv0,rfl⟩:=hp
 obtain⟨v,hv⟩:=A7 hv0
 obtain⟨vm,vp⟩:=qA hv
 unfold l7 at hx
 rw[hv] at hx
 simp only[Option.getD_some] at hx
 split at hx
 ·cases hx
 rename_i hc
 rw[not_or] at hc
 obtain⟨hc1,v5⟩:=hc
 have hby:(aJ (oW m v0.path).1).isSome=true:=by
  refine aa4 ?_
  cases hb:(oW m v0.path).2 with
  |true=>rfl
  |false=>exact absurd hb hc1
 have hbr:¬v.act=3→¬live d (oW m v0.path).1=true→Ou d (brT d v0.path (oW m v0.path).1 v):=by
  intro v3 hl
  have hI:=abA hg hN hv _ _ (Nat.le_refl _) (VW hg hN hv v5)
  exact Ns hg hN hv v3 v5 (by simpa using hl) hby hI.lo hI.le hI.run
 split at hx
 ·split at hx
  ·cases hx
  ·rename_i h
   rw[not_or] at h
   simp only[List.mem_singleton] at hx
   subst hx
   exact hbr h.1 h.2
 ·rename_i w q htg
  split at hx
  ·split at hx
   ·cases hx
   ·rename_i h
    rw[not_or,not_or] at h
    simp only[List.mem_singleton] at hx
    subst hx
    exact hbr h.1 h.2.1
  ·rename_i w3
   obtain⟨t1,t2,t3⟩:=yM hg htg
   have hln:=oM hg hN (first d v)
   have h0:fileOf ((line d (first d v)).getD 0 af)=first d v:=by
    have:=Ut vm v5
    have h1:(jD d (first d v))[0]? =some ((line d (first d v)).getD 0 af):=by
     rw[←hln,List.getD_eq_getElem?_getD,List.getElem?_eq_getElem this];rfl
    exact Kq hg hN h1
   rw[h0] at t3
   unfold ut at hx
   rw[hln] at hx
   refine QQ hg hN hf hpt t1 w3 t2 t3 ?_ _ _ x hx
   unfold NT
   split
   ·rename_i hc
    exact .inr ⟨hby,hc.2.2.2,hc.2.2.1⟩
   ·exact .inl rfl
theorem abQ (m:List eQ):∀x∈zu d m,Ou d x:=by
 intro x hx
 obtain⟨p,hp,hx⟩:=List.mem_flatMap.1 hx
 exact acw hg hN hf hpt (zS hp) x hx
end
def atR (d:bJ) (j:Nat):Rev:=d.revs.getD j af
theorem Iy {d:bJ} {j:Nat} {u:Rev} (h:d.revs[j]? =some u):atR d j=u:=by rw[atR,List.getD_eq_getElem?_getD,h];rfl
theorem je {d:bJ} {j:Nat} (h:j<d.revs.length):d.revs[j]? =some (atR d j):=by rw[atR,List.getD_eq_getElem?_getD,List.getElem?_eq_getElem h];rfl
structure Qe (d:bJ) (L:iE) (me:List (Int×List Int)) (f:bf) (key:Int) (is:List Nat):Prop where
 ln:line d f=is.map (atR d)
 lt:∀j∈is,j<d.revs.length
 len:is.length≤512
 me:ai me key=some (is.map fun j:Nat=>(j:Int))
 act:∀j∈is,¬(atR d j).act=5
 fir:∀j∈is,first d (atR d j)=f
 fst:∀j∈is,L.fst.getD j 0=key
 ord:is.Pairwise (· <·)
 key:0≤key
 abz:∀j,is[0]? =some j→L.prev.getD j 0= -1
 prevS:∀(k j i:Nat),is[k]? =some j→is[k+1]? =some i→L.prev.getD i 0=(j:Int)
section
variable {d:bJ} (hg:Good d.revs) (hN:d.revs.length≤512) {L:iE} {me:List (Int×List Int)} (hI:lq d d.revs.length L me)
include hg hN hI
theorem ZE {i:Nat} {v:Rev} (hv:d.revs[i]? =some v) (v5:¬v.act=5):∃is,Qe d L me (first d v) (L.fst.getD i 0) is∧i∈is:=by
 have hi:=(List.getElem?_eq_some_iff.1 hv).1
 have h0:=(hI.fm i v hi hv v5).1
 have hmem:∀j,j∈(List.range d.revs.length).filter (fun j=>decide (L.fst.getD j 0=L.fst.getD i 0))→j<d.revs.length∧¬(atR d j).act=5∧first d (atR d j)=first d v∧L.fst.getD j 0=L.fst.getD i 0:=by
  intro j hj
  rw[List.mem_filter,List.mem_range,decide_eq_true_eq] at hj
  obtain⟨h1,h2⟩:=hj
  have hu:=je h1
  have h5:¬(atR d j).act=5:=by
   intro h5
   rw[(hI.f5 j _ h1 hu h5).1] at h2
   omega
  exact⟨h1,h5,(uZ hg hN hI hu hv h5 v5).1 h2,h2⟩
 have hln:line d (first d v)=((List.range d.revs.length).filter fun j=>decide (L.fst.getD j 0=L.fst.getD i 0)).map (atR d):=by
  unfold line
  conv=>lhs;rw[Jd d.revs af]
  rw[List.filter_map]
  show((List.range d.revs.length).filter (BX d (first d v)∘atR d)).map (atR d)=_
  congr 1
  refine List.filter_congr fun j hj=>?_
  have hj:=List.mem_range.1 hj
  have hu:=je hj
  simp only[Function.comp,BX]
  rw[Bool.eq_iff_iff]
  simp only[Bool.and_eq_true,Bool.not_eq_true',decide_eq_false_iff_not,decide_eq_true_eq]
  constructor
  ·rintro⟨h5,hf⟩;exact(uZ hg hN hI hu hv h5 v5).2 hf
  ·intro h
   have:=hmem j (List.mem_filter.2 ⟨List.mem_range.2 hj,by simpa using h⟩)
   exact⟨this.2.1,this.2.2.1⟩
 have hord:((List.range d.revs.length).filter fun j=>decide (L.fst.getD j 0=L.fst.getD i 0)).Pairwise (· <·):=List.Pairwise.filter _ List.pairwise_lt_range
 have hin:i∈(List.range d.revs.length).filter fun j=>decide (L.fst.getD j 0=L.fst.getD i 0):=List.mem_filter.2 ⟨List.mem_range.2 hi,by simp⟩
 have hlen:((List.range d.revs.length).filter fun j=>decide (L.fst.getD j 0=L.fst.getD i 0)).length≤512:=Nat.le_trans (List.length_filter_le ..) (by simpa using hN)
 have hm:=hI.mem (L.fst.getD i 0) h0
 have hin2:∀j,j<d.revs.length→L.fst.getD j 0=L.fst.getD i 0→j∈(List.range d.revs.length).filter fun j=>decide (L.fst.getD j 0=L.fst.getD i 0):=fun j h1 h2=>List.mem_filter.2 ⟨List.mem_range.2 h1,by simpa using h2⟩
 generalize (List.range d.revs.length).filter (fun j=>decide (L.fst.getD j 0=L.fst.getD i 0))=is at hmem hln hord hin hm hlen hin2
 refine⟨is,⟨hln,fun j hj=>(hmem j hj).1,hlen,?_,fun j hj=>(hmem j hj).2.1,fun j hj=>(hmem j hj).2.2.1,fun j hj=>(hmem j hj).2.2.2,hord,h0,?_,?_⟩,hin⟩
 ·cases ha:ai me (L.fst.getD i 0) with
  |some l=>rw[ha] at hm;exact congrArg some hm
  |none=>
   rw[ha] at hm
   have:is=[]:=List.map_eq_nil_iff.1 hm.symm
   rw[this] at hin;cases hin
 ·intro j hj
  have hjm:=List.mem_of_getElem? hj
  obtain⟨h1,h2,h3,h4⟩:=hmem j hjm
  rcases hI.pm j _ h1 (je h1) h2 with⟨u,w,a1,a2,a3,a4,a5,a6,a7,a8⟩|⟨_,a2,_⟩
  ·exfalso
   have hu:=hin2 u (by omega) (by rw[←a8];exact h4)
   obtain⟨k,hk⟩:=List.getElem?_of_mem hu
   obtain⟨k1,k2⟩:=List.getElem?_eq_some_iff.1 hk
   obtain⟨z1,z2⟩:=List.getElem?_eq_some_iff.1 hj
   rcases Nat.eq_zero_or_pos k with rfl|hp
   ·rw[hj] at hk;cases hk;omega
   ·have:=List.pairwise_iff_getElem.1 hord 0 k z1 k1 hp
    omega
  ·exact a2
 ·intro k j i' hj hi'
  have hjm:=List.mem_of_getElem? hj
  have him:=List.mem_of_getElem? hi'
  obtain⟨h1,h2,h3,h4⟩:=hmem j hjm
  obtain⟨g1,g2,g3,g4⟩:=hmem i' him
  have e:=oM hg hN (first d v)
  have c1:(jD d (first d v))[k]? =some (atR d j):=by rw[←e,hln,List.getElem?_map,hj];rfl
  have c2:(jD d (first d v))[k+1]? =some (atR d i'):=by rw[←e,hln,List.getElem?_map,hi'];rfl
  have hnx:=Xp d (first d v) k _ _ c1 c2
  obtain⟨_,n1,nb⟩:=(Cb hg hN (je g1)).1 hnx
  rcases hI.pm i' _ g1 (je g1) g2 with⟨u,w,a1,a2,a3,a4,a5,a6,a7,a8⟩|⟨a1,_,_⟩
  ·have:=bQ hg a3 (je h1) (by rw[a5,nb])
   rw[a1,this]
  ·exact absurd a1 n1
theorem TG {i:Nat} {v:Rev} (hv:d.revs[i]? =some v) (v5:¬v.act=5) (hl:dD d v.path=some v) {is:List Nat} (h:Qe d L me (first d v) (L.fst.getD i 0) is) (hin:i∈is):0<is.length∧is[is.length-1]? =some i:=by
 obtain⟨j,j1,j2,j3⟩:=fQ hl
 have ej:j=i:=bQ hg j1 hv rfl
 subst ej
 obtain⟨k,hk⟩:=List.getElem?_of_mem hin
 have hkl:=(List.getElem?_eq_some_iff.1 hk).1
 refine⟨by omega,?_⟩
 by_cases e:k=is.length-1
 ·rw[←e];exact hk
 ·exfalso
  have hk1:k+1<is.length:=by omega
  have hx:is[k+1]? =some is[k+1]:=List.getElem?_eq_getElem hk1
  generalize is[k+1]=x at hx
  have hxm:=List.mem_of_getElem? hx
  have hpv:=h.prevS k j x hk hx
  have g1:=h.lt x hxm
  have g2:=h.act x hxm
  have hlt:j<x:=by
   obtain⟨z1,z2⟩:=List.getElem?_eq_some_iff.1 hk
   obtain⟨y1,y2⟩:=List.getElem?_eq_some_iff.1 hx
   have:=List.pairwise_iff_getElem.1 h.ord k (k+1) z1 y1 (by omega)
   omega
  rcases hI.pm x _ g1 (je g1) g2 with⟨u,w,a1,a2,a3,a4,a5,a6,a7,a8⟩|⟨_,a1,_⟩
  ·rw[hpv] at a1
   have e:u=j:=by omega
   subst e
   rw[hv] at a3;cases a3
   by_cases h4:(atR d x).act=4
   ·obtain⟨y,w,b1,b2,b3,b4⟩:=hg.away x _ (je g1) h4
    have hb:df (atR d x)=⟨(atR d x).frm,(atR d x).fnum⟩:=by simp[df,h4]
    rw[hb] at a5
    simp only[fileOf,bf.mk.injEq] at a5
    have hyu:=j3 y w b1 (by rw[b2];exact a5.1.symm)
    rcases Nat.lt_or_ge y u with hh|hh
    ·have:=(hg.path y u w v hh b1 hv (by rw[b2];exact a5.1.symm)).2
     omega
    ·have:y=u:=by omega
     subst this
     rw[hv] at b1;cases b1;exact v5 b4
   ·have hb:df (atR d x)=⟨(atR d x).path,(atR d x).num-1⟩:=by simp[df,h4,a6]
    rw[hb] at a5
    simp only[fileOf,bf.mk.injEq] at a5
    have:=j3 x _ (je g1) a5.1.symm
    omega
  ·rw[hpv] at a1;omega
end
def qP (d:bJ) (m:List eQ) (ln:List Rev):Nat→Option (Rev×ByteArray)
 |0=>none
 |k+1=>
  if 0<k∧(ln.getD (k-1) af).path=(ln.getD k af).path then qP d m ln k
  else match zg d m (fileOf (ln.getD 0 af)) (ln.getD k af).path with
   |some w=>some (w,(ln.getD k af).path)
   |none=>qP d m ln k
def orT (d:bJ) (m:List eQ) (f:bf) (q:ByteArray) (X:Option (Rev×ByteArray)):Option (Rev×ByteArray):=match zg d m f q with|some w=>some (w,q)|none=>X
theorem Ti (d:bJ) (m:List eQ) (ln:List Rev) (k:Nat):Au d m ln (k+1)=if k+1<ln.length∧(ln.getD (k+1) af).path=(ln.getD k af).path then Au d m ln k else orT d m (fileOf (ln.getD 0 af)) (ln.getD k af).path (Au d m ln k):=by
 rw[Au,orT]<;>(split<;>first|rfl|(cases zg d m (fileOf (ln.getD 0 af)) (ln.getD k af).path<;>rfl))
theorem abf (d:bJ) (m:List eQ) (ln:List Rev) (k:Nat):qP d m ln (k+1)=if 0<k∧(ln.getD (k-1) af).path=(ln.getD k af).path then qP d m ln k else orT d m (fileOf (ln.getD 0 af)) (ln.getD k af).path (qP d m ln k):=by
 rw[qP,orT]
theorem abH (d:bJ) (m:List eQ) (ln:List Rev):∀k,k≤ln.length→
 (¬(k<ln.length∧0<k∧(ln.getD (k-1) af).path=(ln.getD k af).path)→Au d m ln k=qP d m ln k)∧
 ((k<ln.length∧0<k∧(ln.getD (k-1) af).path=(ln.getD k af).path)→orT d m (fileOf (ln.getD 0 af)) (ln.getD (k-1) af).path (Au d m ln k)=qP d m ln k)
 |0,_=>⟨fun _=>rfl,fun h=>by omega⟩
 |k+1,hk=>by
  obtain⟨ih1,ih2⟩:=abH d m ln k (by omega)
  have hkl:k<ln.length:=by omega
  simp only[Nat.add_sub_cancel]
  have hL:=abf d m ln k
  have hs2:(0<k∧(ln.getD (k-1) af).path=(ln.getD k af).path)→orT d m (fileOf (ln.getD 0 af)) (ln.getD k af).path (Au d m ln k)=qP d m ln (k+1):=fun hs=>by
   rw[hL,if_pos hs,←ih2 ⟨hkl,hs⟩,hs.2]
  have hs3:¬(0<k∧(ln.getD (k-1) af).path=(ln.getD k af).path)→orT d m (fileOf (ln.getD 0 af)) (ln.getD k af).path (Au d m ln k)=qP d m ln (k+1):=fun hs=>by
   rw[hL,if_neg hs,ih1 (fun h=>hs h.2)]
  have hb:orT d m (fileOf (ln.getD 0 af)) (ln.getD k af).path (Au d m ln k)=qP d m ln (k+1):=by
   by_cases hs:0<k∧(ln.getD (k-1) af).path=(ln.getD k af).path
   ·exact hs2 hs
   ·exact hs3 hs
  constructor
  ·intro h
   rw[Ti,if_neg (by rintro⟨a,b⟩;exact h ⟨a,by omega,b.symm⟩)]
   exact hb
  ·rintro⟨a,_,b⟩
   rw[Ti,if_pos ⟨a,b.symm⟩]
   exact hb
theorem abZ (d:bJ) (m:List eQ) (ln:List Rev):qP d m ln ln.length=xw d m ln:=((abH d m ln ln.length (Nat.le_refl _)).1 (fun h=>by omega)).symm
theorem Va {d:bJ} {m:List eQ} {ln:List Rev} {k:Nat} (h:0<k) (he:(ln.getD (k-1) af).path=(ln.getD k af).path):qP d m ln (k+1)=qP d m ln k:=by
 rw[qP,if_pos ⟨h,he⟩]
theorem UV {d:bJ} {m:List eQ} {ln:List Rev} {k:Nat} (h:¬(0<k∧(ln.getD (k-1) af).path=(ln.getD k af).path)) (ht:zg d m (fileOf (ln.getD 0 af)) (ln.getD k af).path=none):qP d m ln (k+1)=qP d m ln k:=by
 rw[qP,if_neg h,ht]
theorem Q4 {d:bJ} {m:List eQ} {ln:List Rev} {k:Nat} {w:Rev} (h:¬(0<k∧(ln.getD (k-1) af).path=(ln.getD k af).path)) (ht:zg d m (fileOf (ln.getD 0 af)) (ln.getD k af).path=some w):qP d m ln (k+1)=some (w,(ln.getD k af).path):=by
 rw[qP,if_neg h,ht]
def ZO (ln:List Rev) (p:ByteArray):Nat→Nat
 |0=>0
 |k+1=>if(ln.getD k af).path=p then ZO ln p k else k+1
theorem XA {d:bJ} (hg:Good d.revs) (hN:d.revs.length≤512) (hf:tV d) {f:bf} {p:ByteArray}:∀k,k<(line d f).length→((line d f).getD k af).path=p→VV p (line d f) k ((line d f).getD k af).num=((line d f).getD (ZO (line d f) p k) af).num
 |0,_,_=>rfl
 |k+1,hk,hp=>by
  have ih:=XA hg hN hf (f:=f) (p:=p) k (by omega)
  rw[VV,ZO]
  by_cases hq:((line d f).getD k af).path=p
  ·have e:=oM hg hN f
   have b1:(jD d f)[k]? =some ((line d f).getD k af):=by rw[←e];exact getD_at (by omega)
   have b2:(jD d f)[k+1]? =some ((line d f).getD (k+1) af):=by rw[←e];exact getD_at hk
   have hn:=CJ hg hN hf b1 b2 (by rw[hp,hq])
   rw[if_pos hq,if_pos ⟨hq,by omega⟩,ih hq]
  ·rw[if_neg hq,if_neg (fun h=>hq h.1)]
theorem Xe {p:ByteArray} {ln:List Rev} {k:Nat} (hk:ln.length=k+1) (hp:(ln.getD k af).path=p):VV p ln ln.length (ln.getD k af).num=VV p ln k (ln.getD k af).num:=by
 rw[hk,VV,if_pos ⟨hp,by omega⟩]
section
variable {d:bJ} (hg:Good d.revs) (hN:d.revs.length≤512) {L:iE} {me:List (Int×List Int)} (hI:lq d d.revs.length L me) {la:List (ByteArray×Int)} (hla:vS d d.revs.length la)
include hg hN hI hla
theorem ads (t:ByteArray):(ai la t=none∧Qr d t=none)∨∃(j:Nat) (v:Rev),ai la t=some (j:Int)∧d.revs[j]? =some v∧dD d t=some v∧
 ((¬v.act=5∧Qr d t=some v)∨(v.act=5∧((ai L.index ⟨t,v.num-1⟩=none∧Qr d t=none)∨∃(i:Nat) (u:Rev),ai L.index ⟨t,v.num-1⟩=some (i:Int)∧d.revs[i]? =some u∧¬u.act=5∧Qr d t=some u))):=by
 rcases hla.last t with⟨h1,h2⟩|⟨j,v,h1,h2,h3⟩
 ·exact .inl ⟨h1,by unfold Qr;rw[h2]⟩
 ·refine .inr ⟨j,v,h1,h2,h3,?_⟩
  by_cases h5:v.act=5
  ·refine .inr ⟨h5,?_⟩
   have hu:Qr d t=lF d t (v.num-1):=by unfold Qr;rw[h3];simp only;rw[if_pos h5]
   cases hk:ai L.index ⟨t,v.num-1⟩ with
   |none=>
    refine .inl ⟨rfl,?_⟩
    rw[hu]
    cases hc:lF d t (v.num-1) with
    |none=>rfl
    |some w=>
     obtain⟨i,i1,i2⟩:=(iQ hg).1 hc
     rw[(hI.ix _ (i:Int)).2 ⟨i,w,rfl,(List.getElem?_eq_some_iff.1 i1).1,i1,i2⟩] at hk
     cases hk
   |some x=>
    obtain⟨i,u,rfl,i1,i2,i3⟩:=(hI.ix _ _).1 hk
    have hc:Qr d t=some u:=by rw[hu];exact(iQ hg).2 ⟨i,i2,i3⟩
    exact .inr ⟨i,u,rfl,i2,(LH hg hc).2,hc⟩
  ·exact .inl ⟨h5,by unfold Qr;rw[h3];simp only;rw[if_neg h5]⟩
theorem aep {i:Nat} {u:Rev} (hu:d.revs[i]? =some u) (u5:¬u.act=5):∃is,Qe d L me (first d u) (L.fst.getD i 0) is∧0<is.length∧∃(w:Nat) (j:Nat),is[is.length-1]? =some w∧atR d w=jr d u∧w<d.revs.length∧ai la (jr d u).path=some (j:Int)∧j<d.revs.length∧
 (j=w↔(dD d (jr d u).path).getD af=jr d u):=by
 obtain⟨is,h,hin⟩:=ZE hg hN hI hu u5
 have hp:0<is.length:=List.length_pos_of_mem hin
 have hw:is[is.length-1]? =some (is[is.length-1]):=List.getElem?_eq_getElem (by omega)
 generalize is[is.length-1]=w at hw
 have hwm:=List.mem_of_getElem? hw
 have hwl:=h.lt w hwm
 have hlw:atR d w=jr d u:=by
  unfold jr
  rw[h.ln,List.length_map,List.getD_eq_getElem?_getD,List.getElem?_map,hw];rfl
 refine⟨is,h,hp,w,?_⟩
 have hr:=je hwl
 rw[hlw] at hr
 rcases hla.last (jr d u).path with⟨_,h2⟩|⟨j,v,h1,h2,h3⟩
 ·exact absurd rfl (last_none h2 _ (List.mem_of_getElem? hr))
 ·refine⟨j,hw,hlw,hwl,h1,(List.getElem?_eq_some_iff.1 h2).1,?_⟩
  rw[h3,Option.getD_some]
  constructor
  ·rintro rfl
   rw[hr] at h2;cases h2;rfl
  ·intro e
   exact bQ hg h2 hr (by rw[e])
end
theorem Y7 {is:List Nat} {i:Nat} (ho:is.Pairwise (· <·)) (hl:is[is.length-1]? =some i):∀x∈is,x≤i:=by
 intro x hx
 obtain⟨k,hk⟩:=List.getElem?_of_mem hx
 obtain⟨k1,k2⟩:=List.getElem?_eq_some_iff.1 hk
 obtain⟨z1,z2⟩:=List.getElem?_eq_some_iff.1 hl
 by_cases e:k=is.length-1
 ·subst e;omega
 ·have:=List.pairwise_iff_getElem.1 ho k (is.length-1) k1 z1 (by omega)
  omega
theorem upto_all {is:List Nat} {i:Nat} (ho:is.Pairwise (· <·)) (hl:is[is.length-1]? =some i):upto (is.map fun x:Nat=>(x:Int)) (i:Int)=is.map fun x:Nat=>(x:Int):=by
 rw[wF ho (List.mem_of_getElem? hl),List.filter_eq_self.2 fun x hx=>decide_eq_true (Y7 ho hl x hx)]
section
variable {d:bJ} (hg:Good d.revs) (hN:d.revs.length≤512) {L:iE} {me:List (Int×List Int)} (hr:jJ d d.revs.length L me) {i j:Nat} {v w:Rev} (hv:d.revs[i]? =some v) (v5:¬v.act=5) (hw:d.revs[j]? =some w) (w5:¬w.act=5) {is:List Nat} (hx:Qe d L me (first d v) (L.fst.getD i 0) is) (hl:is[is.length-1]? =some i)
include hg hN hr hv v5 hw w5 hx hl
theorem Uf:(lm d (fileOf v) (fileOf w)).getD []=(is.filter fun e:Nat=>gZ L (j:Int) (e:Int)).map fun e=>fileOf (atR d e):=by
 have h1:jQ d (fileOf v).path (fileOf v).num=some v:=(gW hg).2 ⟨i,hv,rfl,v5⟩
 have h2:jQ d (fileOf w).path (fileOf w).num=some w:=(gW hg).2 ⟨j,hw,rfl,w5⟩
 have h3:(lm d (fileOf v) (fileOf w)).getD []=FY d v (fileOf w):=by unfold lm;rw[h1,h2];rfl
 rw[h3,←YC hg hN hr hv hw v5 w5,LJ,Int.toNat_natCast,hx.me,Option.getD_some,upto_all hx.ord hl,List.filter_map,List.map_map]
 have hI:=hr.inv hg
 refine List.map_congr_left fun e _=>?_
 simp only[Function.comp,Int.toNat_natCast,hI.revs];rfl
theorem WH {e:Nat} (he:e∈is):gZ L (j:Int) (e:Int)=true↔fileOf (atR d e)∈(lm d (fileOf v) (fileOf w)).getD []:=by
 rw[Uf hg hN hr hv v5 hw w5 hx hl,List.mem_map]
 constructor
 ·intro h;exact⟨e,List.mem_filter.2 ⟨he,h⟩,rfl⟩
 ·rintro⟨x,h1,h2⟩
  obtain⟨h1,h3⟩:=List.mem_filter.1 h1
  have:=bQ hg (je (hx.lt x h1)) (je (hx.lt e he)) h2
  subst this;exact h3
theorem YJ:(lm d (fileOf v) (fileOf w)).getD []=[]↔¬true∈is.map fun e:Nat=>gZ L (j:Int) (e:Int):=by
 rw[Uf hg hN hr hv v5 hw w5 hx hl,List.map_eq_nil_iff,List.filter_eq_nil_iff]
 simp
end
end Go.Proofs.YtcpgicfphakdaaaGreatDoor
