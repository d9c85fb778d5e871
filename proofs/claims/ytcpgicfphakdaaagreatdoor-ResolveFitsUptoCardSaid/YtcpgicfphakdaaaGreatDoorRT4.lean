/- A part of the proof. -/
import Derived.Test.YtcpgicfphakdaaaGreatDoorRT1
import Derived.Test.YtcpgicfphakdaaaGreatDoorRU9
set_option maxRecDepth 100000
set_option maxHeartbeats 8000000
set_option linter.all false
namespace Go.Proofs.YtcpgicfphakdaaaGreatDoor
open Go.Ab Tys
variable [Dr]
@[reducible] def vRv (v:Rev):Bool×List D:=(true,aA v)
@[reducible] def Xe (e:ou):Bool×List D:=(true,bK e)
@[reducible] def Zc (f:bJ):Bool×List D:=(true,iR f)
@[reducible] def agt (d:aW) (c:iZ):AO:= .box [.d (.ps 12 (d.revs.map aA)), .d (.ps 6 (d.recs.map af)), .d (.v (.int .i64 c.num)), .d (.v (.string c.client)), .d (.v (.string c.text)), .d (.ps 12 (c.edits.map bK)), .d (.ps 6 (c.recs.map af)), .mp 2001, .mp 2002, .mp 2003]
@[reducible] def ku (d:aW) (c:iZ) (L:List (akK×Rev)) (E:List (akK×ou)) (N:List (bJ×bJ)):List (Nat×AO):=
 [(2000,agt d c),(2001, .map ((bz pV vRv L).map dJ)),(2002, .map ((bz pV Xe E).map dJ)),(2003, .map ((bz kF Zc N).map dJ))]
theorem IJ (m:List (akK×Rev)) (p:akK):dC [C.d (.v (.string p))] ((bz pV vRv m).map dJ)=(ai m p).map fun v=>(true,(aA v).map C.d):=gX (ve:=vRv) Ce m p
theorem Yh (m:List (akK×Rev)):∀e∈(bz pV vRv m).map dJ,e.1.1=false∧cu [.str] e.1.2:=by
 intro e he
 simp only[bz,agh] at he
 obtain⟨_,⟨f,_,rfl⟩,rfl⟩:=he
 exact⟨rfl,by simp[dJ,jY,cu]⟩
theorem YE (m:List (akK×ou)):∀e∈(bz pV Xe m).map dJ,e.1.1=false∧cu [.str] e.1.2:=by
 intro e he
 simp only[bz,agh] at he
 obtain⟨_,⟨f,_,rfl⟩,rfl⟩:=he
 exact⟨rfl,by simp[dJ,jY,cu]⟩
def z226.kk:=p4 kB kG Tryz.ntmps226 Tryz.results226
open z226 in
theorem LU (a:Int):AC Tryz.prog 226 [I .i64 a] [] (fun r st=>r=B (!decide (a=3)&&!decide (a=5))∧st=[]):=by
 refine df Tryz.func226 Tryz.ntmps226 fun x hx=>?_
 try refine nv ?_
 refine rA [] ?_
 refine⟨?_,rfl⟩
 by_cases h:a=3<;>simp[h]
def aiB.kk:=p16 kB kG kM Tryz.ntmps225 rE dM D8 iF EY Pm XK yR mG iq jB Tryz.results225
def Cj (N:List (bJ×bJ)) (v:Rev):bJ:=if v.act=1 then fileOf v else if v.act=4 then(ai N ⟨v.frm,v.fnum⟩).getD uI else(ai N ⟨v.path,v.num-1⟩).getD uI
def air.kk:=p2 (p12 kB kS kM Tryz.ntmps110 rE oG dM JE kQ kT jg fK) (p12 iF Bj AP yV Vf aaT yR mG xK iq jB Tryz.results110)
open air in
theorem JW (d:aW) (c:iZ) (L:List (akK×Rev)) (E:List (akK×ou)) (N:List (bJ×bJ)) (v:Rev) (hv: -1000000≤v.num∧v.num≤1000000):
 AC Tryz.prog 110 [.c (.ptr 2000 0),BL v] (ku d c L E N) (fun r st=>r=BO (Cj N v)∧st=ku d c L E N):=by
 have hty:∀e∈(bz kF Zc N).map dJ,e.1.1=true∧cu [.str, .int .i64] e.1.2:=by
  intro e he
  simp only[bz,agh] at he
  obtain⟨_,⟨f,_,rfl⟩,rfl⟩:=he
  exact⟨rfl,by simp[dJ,jY,cu]⟩
 have hlk:∀(p:akK) (n:Int),(dC [C.d (.v (.string p)),C.d (.v (.int .i64 n))] ((bz kF Zc N).map dJ)).getD (true,[C.d (.v (.string ByteArray.empty)),C.d (.v (.int .i64 0))])=(true,(iR ((ai N ⟨p,n⟩).getD uI)).map C.d):=by
  intro p n
  rw[show dC [C.d (.v (.string p)),C.d (.v (.int .i64 n))] ((bz kF Zc N).map dJ)=(ai N ⟨p,n⟩).map fun v=>(true,(iR v).map C.d) from gX (ve:=Zc) yQ N ⟨p,n⟩]
  cases ai N ⟨p,n⟩<;>rfl
 refine df Tryz.func110 Tryz.ntmps110 fun x hx=>?_
 try refine nv ?_
 refine aj ?_ ?_
 ·intro h1
  have h1':v.act=1:=by simpa using h1
  try refine nv ?_
  refine rA ((ku d c L E N)) ?_
  refine⟨?_,rfl⟩
  simp only[Cj,h1',if_true];rfl
 intro h1
 have h1':¬v.act=1:=by simpa using h1
 try refine nv ?_
 refine aj ?_ ?_
 ·intro h4
  have h4':v.act=4:=by simpa using h4
  refine aZ ?_
  refine dx ([]) @hlk ?_ ?_
  ·exact eQ @hty
  refine aZ ?_
  refine rA ((ku d c L E N)) ?_
  refine⟨?_,rfl⟩
  rw[Cj,if_neg h1',if_pos h4'];rfl
 intro h4
 have h4':¬v.act=4:=by simpa using h4
 refine aZ ?_
 refine dx ([]) @hlk ?_ ?_
 ·exact eQ @hty
 refine aZ ?_
 refine rA ((ku d c L E N)) ?_
 refine⟨?_,rfl⟩
 rw[Cj,if_neg h1',if_neg h4'];rfl
def z54.kk:=p3 (p13 kB kS kM Tryz.ntmps54 rE qM wY dM pY mJ uB D8 jg) (p13 fK yB iF nH xP Bj AP A7 nR nM sN vC uP) (p13 EU EY Pm XK yR mG Au Gh iq y7 wo jB Tryz.results54)
open z54 in
theorem XZ (d:aW) (c:iZ) (L:List (akK×Rev)) (E:List (akK×ou)) (N:List (bJ×bJ)) (e:ou) (hb: -1000000≤((ai L e.path).getD ag).num∧((ai L e.path).getD ag).num≤1000000):
 AC Tryz.prog 54 [.c (.ptr 2000 0),Z7 e] (ku d c L E N) (fun r st=>r=BL ⟨e.path,((ai L e.path).getD ag).num+1,c.num,e.act,e.base,e.kw,e.ex,e.xe,e.sum,e.size,e.frm,e.fnum⟩∧st=ku d c L E N):=by
 have hty:=Yh L
 have hlk:(dC [C.d (.v (.string e.path))] ((bz pV vRv L).map dJ)).getD (true,(aA ag).map C.d)=(true,(aA ((ai L e.path).getD ag)).map C.d):=by
  rw[IJ];cases ai L e.path<;>rfl
 generalize (ai L e.path).getD ag=u at hlk hb⊢
 simp only[List.map,ag] at hlk
 refine df Tryz.func54 Tryz.ntmps54 fun x hx=>?_
 try refine nv ?_
 refine dx ([]) @hlk ?_ ?_
 ·exact eQ @hty
 refine aZ ?_
 refine rA ((ku d c L E N)) ?_
 refine⟨?_,rfl⟩
 rfl
def orI:List Int→Int
 |[]=>0
 |a::l=>if a=0 then orI l else a
def ai0.kk:=p7 kB Tryz.ntmps118 Tryz.underlying55 uf mG DU Tryz.results118
open ai0 in
theorem ahe (l:List Int) (hl:l.length≤1000):AC Tryz.prog 118 [.c (.d (.ps 1 (l.map fun i=>[.v (.int .i64 i)])))] [] (fun r st=>r=I .i64 (orI l)∧st=[]):=by
 refine df Tryz.func118 Tryz.ntmps118 fun x hx=>?_
 try refine nv ?_
 refine au (ι:=Nat) (I:=fun k=>⟨18,[(3,I .i64 0),(6, .c (.d (.ps 1 (l.map fun i=>[.v (.int .i64 i)])))),(7,I .i64 l.length),(8,I .i64 k)],[]⟩)
  (Inv:=fun k=>k≤l.length∧orI l=orI (l.drop k)) (μ:=fun k=>l.length-k) 0 (by simp) ?_ ?_
 ·exact bQ
 rintro k ⟨hk,ho⟩
 try refine nv ?_
 refine aj ?_ ?_
 ·intro hlt
  have hlt':k<l.length:=by simpa using hlt
  obtain⟨v,hv,he,htk⟩:=round (fun i:Int=>[D.v (.int .i64 i)]) l k 0 hlt'
  have hd:l.drop k=v::l.drop (k+1):=by
   rw[aiu hlt']
   congr 1
   rw[adH hlt'] at hv;simpa using hv
  rw[hd,orI] at ho
  try refine nx @he ?_
  refine aj ?_ ?_
  ·intro h
   have h:¬v=0:=by simpa using h
   rw[if_neg h] at ho
   try refine nv ?_
   refine rA [] ?_
   refine⟨?_,rfl⟩
   rw[ho]
  ·intro h
   have h:v=0:=by simpa using h
   rw[if_pos h] at ho
   try refine nv ?_
   refine⟨k+1,⟨by omega,ho⟩,by omega,?_⟩
   exact bQ
 ·intro hge
  have hge':k=l.length:=by have:¬k<l.length:=by simpa using hge
                           omega
  subst hge'
  rw[akv] at ho
  try refine nv ?_
  refine rA [] ?_
  refine⟨?_,rfl⟩
  rw[ho];rfl
def oP (a b:akK):Int:=if(aG a).isSome&&(aG b).isSome then ord a b else 0
def z119.kk:=p3 kB Tryz.ntmps119 Tryz.results119
open z119 in
theorem zG (a b:akK) (ha:a.size≤100000) (hb:b.size≤100000):AC Tryz.prog 119 [Str a,Str b] [] (fun r st=>r=I .i64 (oP a b)∧st=[]):=by
 have h1:=zJ a b ha hb
 rw[show(if((aG a).isSome&&(aG b).isSome)=true then ord a b else 0)=oP a b from rfl] at h1
 refine df Tryz.func119 Tryz.ntmps119 fun x hx=>?_
 (repeat (first|refine nv ?_|refine cf (h1) ?_))
 refine rA [] ?_
 refine⟨?_,rfl⟩
 rfl
def cmR (a b:dZ):Int:=orI [oP a.to b.to,vY a.num b.num,oP a.frm b.frm,vY a.first b.first]
def z56.kk:=MP kB kS Tryz.ntmps56 lq uf uY BC rQ xY mG DU sD jB Tryz.results56
open z56 in
theorem Iq (a b:dZ) (ha:IM a) (hb:IM b):AC Tryz.prog 56 [.agg ((af a).map C.d), .agg ((af b).map C.d)] [] (fun r st=>r=I .i64 (cmR a b)∧st=[]):=by
 have h1:=zG a.to b.to ha.2 hb.2
 have h2:=FT a.num b.num
 have h3:=zG a.frm b.frm ha.1 hb.1
 have h4:=FT a.first b.first
 have h5:=V6 (id:=25) (fun r (h:r=I .i64 (cmR a b))=>by rw[h];trivial) (ahe [oP a.to b.to,vY a.num b.num,oP a.frm b.frm,vY a.first b.first] (by simp))
 simp only[List.map,List.length_cons,List.length_nil] at h5
 refine df Tryz.func56 Tryz.ntmps56 fun x hx=>?_
 try refine nv ?_
 refine dr ([(9,I .i64 (oP a.to b.to)),(14,I .i64 (vY a.num b.num)),(19,I .i64 (oP a.frm b.frm)),(24,I .i64 (vY a.first b.first)),(26,I .i64 (cmR a b))]) ?_ ?_
 ·exact ob5 @h1 @h2 @h3 @h4 @h5
 try refine nv ?_
 refine rA [] ?_
 refine⟨?_,rfl⟩
 rfl
@[reducible] def wC (L:jA) (el:List jq) (em:List xX):List (Nat×AO):=
 [(1000,acu L),(1001, .map ((bz kF vI L.index).map dJ)),(1002, .map (el.map dJ)),(1003,ay 1 (L.prev.map eI)),(1004,ay 1 (L.fst.map eI)),(1005, .map em),(1006,ay 1 (L.car.map jP)),(1007,ay 1 (L.con.map jP)),(1008,ay 1 (L.cre.map jP))]
theorem yS (l:List Int) (i:Nat) (v:Int):((l.map eI).map fun l=>l.map C.d).set i (C.d (.v (.int .i64 v))::List.drop 1 (((l.map eI).map fun l=>l.map C.d).getD i []))=((l.set i v).map eI).map fun l=>l.map C.d:=
 IQ eI l i v 1 (fun _=>rfl)
theorem qR (l:List Int) (i:Nat) (v:Int):((l.map eI).map fun l=>l.map C.d).set i [C.d (.v (.int .i64 v))]=((l.set i v).map eI).map fun l=>l.map C.d:=by
 simp[List.map_set]
theorem dQ (dom:Nat→Bool) (y:D) (v:Bool×List C):∀es:List jq,bM dom ((dF (false,[C.d y]) v (es.map dJ)).map (fun x=>x.1))=True
 |[]=>by simp[dF,bM,aB,cZ]
 |e::es=>by
  have ih:=dQ dom y v es
  simp only[agV,dF]
  split
  ·simp only[agV,bM,Xo];simp[aB,cZ]
  ·simp only[agV,bM,ih,ahu];exact eq_true (RX _ _)
theorem dP (dom:Nat→Bool) (y:D) (q:C):∀es:List jq,bM dom ((dF (false,[C.d y]) (false,[q]) (es.map dJ)).map (fun x=>x.2))=cZ dom q
 |[]=>by simp[dF,bM,aB]
 |e::es=>by
  have ih:=dP dom y q es
  simp only[agV,dF]
  split
  ·simp only[agV,bM,Yi];simp[aB]
  ·simp only[agV,bM,ih];exact propext ⟨fun h=>h.2,fun h=>⟨RX _ _,h⟩⟩
theorem Jo (k v:Bool×List C):∀es:List xX,kK k.2 k.2=true→dC k.2 (dF k v es)=some v
 |[],h=>by simp[dF,dC,h]
 |e::es,h=>by
  simp only[dF]
  by_cases c:kK k.2 e.1.2=true
  ·rw[if_pos c];simp[dC,h]
  ·rw[if_neg c];simp only[dC];rw[if_neg c];exact Jo k v es h
theorem Qg (k v w:Bool×List C):∀es:List xX,kK k.2 k.2=true→dF k w (dF k v es)=dF k w es
 |[],h=>by simp[dF,h]
 |e::es,h=>by
  simp only[dF]
  by_cases c:kK k.2 e.1.2=true
  ·rw[if_pos c];simp[dF,h,c]
  ·rw[if_neg c];simp only[dF];rw[if_neg c,Qg k v w es h]
   simp[c]
def z64.kk:=p3 (p13 kB kG kS kM Tryz.ntmps64 Tryz.underlying55 oG dM vG jQ uf kQ kT) (p13 jg fK iF Bj AP vS BJ Bd vP I8 J7 yV Om) (p11 YF qU mG xK iq DU Y3 jB afg Em Tryz.results64)
open z64 in
theorem Zp (L:jA) (hL:zi L) (el em:List jq) (i:Nat) (v:Rev) (hv:L.revs[i]? =some v) (h5:v.act=5) (hn:1≤v.num∧v.num≤1000000):
 AC Tryz.prog 64 [.c (.ptr 1000 0),I .i64 i] (jZ L el em) (fun _ st=>st=jZ (bD L i v) el em):=by
 have hil:i<L.revs.length:=(adK.1 hv).1
 have er:(L.revs.map aA).getD i []=aA v:=by rw[bH aA L.revs i ag hil,List.getD,hv];rfl
 have hN:=hL.n
 have hp:=hL.prev
 have hf:=hL.fst
 have ep:=uG eI L.prev i 0 (by omega)
 have ef:=uG eI L.fst i 0 (by omega)
 refine df Tryz.func64 Tryz.ntmps64 fun x hx=>?_
 refine aZ ?_
 refine dx ([]) (p2 @yS @qR) ?_ ?_
 ·exact qP
 try refine nx (p2 @er @h5) ?_
 refine aj ?_ ?_
 rotate_left
 ·intro h;cases h
 intro _
 try refine nv ?_
 have hE:bD L i v=⟨L.revs,L.index,L.prev.set i (-1),L.fst.set i (-1),L.car,L.con,L.cre⟩:=by simp[bD,h5]
 rw[hE]
 generalize L.prev.set i (-1)=P'
 generalize L.fst.set i (-1)=F'
 refine rV ((jZ ⟨L.revs,L.index,P',F',L.car,L.con,L.cre⟩ el em)) ?_
 rfl
open z64 in
theorem Y1 (L:jA) (hL:zi L) (el em:List jq) (i:Nat) (v:Rev) (hv:L.revs[i]? =some v) (h5:¬v.act=5) (hn:1≤v.num∧v.num≤1000000) (hk:ai L.index (di v)=none)
 (hty:∀e∈em.map dJ,e.1.1=false∧cu [.int .i64] e.1.2) (hfi:dC [C.d (.v (.int .i64 i))] (em.map dJ)=none):
 AC Tryz.prog 64 [.c (.ptr 1000 0),I .i64 i] (jZ L el em) (fun _ st=>st=wC (bD L i v) el (dF (false,[C.d (.v (.int .i64 i))]) (false,[.ms 115 1 0 1]) (em.map dJ))++[(115,ay 1 ([(i:Int)].map eI))]):=by
 have hil:i<L.revs.length:=(adK.1 hv).1
 have er:(L.revs.map aA).getD i []=aA v:=by rw[bH aA L.revs i ag hil,List.getD,hv];rfl
 have hN:=hL.n
 have hp:=hL.prev
 have hf:=hL.fst
 have ep:=uG eI L.prev i 0 (by omega)
 have ef:=uG eI L.fst i 0 (by omega)
 have ef0:=uG eI (L.fst.set i i) 0 0 (by simp;omega)
 have efi:(List.map (fun l=>List.map C.d l) (List.map eI (L.fst.set i i))).getD i []=[C.d (.v (.int .i64 i))]:=by rw[uG eI (L.fst.set i i) i 0 (by simp;omega)];simp[List.getD,show i<L.fst.length by omega]
 refine df Tryz.func64 Tryz.ntmps64 fun x hx=>?_
 refine aZ ?_
 refine dx ([]) (p2 @yS @qR) ?_ ?_
 ·exact qP
 try refine nx @er ?_
 refine aj ?_ ?_
 ·intro h;exact absurd (by simpa using h) h5
 intro _
 try refine nx @er ?_
 refine aj ?_ ?_
 ·intro h
  have hb:di v=⟨ByteArray.empty,0⟩:=by simp[di,show v.act=1 by simpa using h,uI]
  rw[hb] at hk
  (repeat (first|refine Io ?_|refine Gl (wr:=false) (by simp only[kk,Nat.reduceAdd,Nat.reduceLT,Nat.reduceEqDiff, ↓reduceIte,reduceCtorEq,yS,qR,List.set_set];first|done|rfl) ?_))
  refine Bg (wr:=false) ([]:List (Nat×AV)) (by simp only[kD,kk,Nat.reduceAdd,Nat.reduceLT,Nat.reduceEqDiff, ↓reduceIte,reduceCtorEq,nY,hk,Option.map_none,Option.isSome];first|done|rfl) ?_ ?_
  ·exact eQ @zU
  try refine nx (p2 @ef0 @Int.toNat_zero) ?_
  refine aj ?_ ?_
  ·intro h;cases h
  intro _
  try refine nx @efi ?_
  refine Bg (wr:=false) ([]:List (Nat×AV)) (by simp only[kD,kk,Nat.reduceAdd,Nat.reduceLT,Nat.reduceEqDiff, ↓reduceIte,reduceCtorEq,hfi,Option.getD];first|done|rfl) ?_ ?_
  ·exact eQ @hty
  refine aZ ?_
  have hE:bD L i v=⟨L.revs,L.index,L.prev.set i (-1),L.fst.set i i,L.car,L.con,L.cre⟩:=by simp[bD,h5,nX,jc,uF,hb,hk]
  rw[hE]
  generalize L.prev.set i (-1)=P'
  generalize L.fst.set i (i:Int)=F'
  refine wP (by first|exact .inl rfl|exact .inr rfl) (by simp only[kR,Tryz.results64, ↓reduceIte,Nat.reduceEqDiff,reduceCtorEq];first|done|rfl) (by first|exact trivial|(simp only[kO];omega)|(simp[All,dB];first|done|omega)|(simp+contextual [All,dB];first|done|grind)) (wC ⟨L.revs,L.index,P',F',L.car,L.con,L.cre⟩ el (dF (false,[C.d (.v (.int .i64 i))]) (false,[.ms 115 1 0 1]) (em.map dJ))++[(115,ay 1 ([(i:Int)].map eI))]) ⟨by simp[Ab.get,ax,dQ,dP],by simp,by simp[bF,aS,aO,aQ,aT,aP,ah,aB,cZ,ae,Ab.get,dQ,dP],bW hx (by simp[ae,Ab.get,dQ,dP])⟩ (by simp[aJ,bM,aB,cZ,ae,Ab.get,dQ,dP]) ?_
  rfl
 intro _
 try refine nx @er ?_
 refine aj ?_ ?_
 ·intro h
  have hb:di v=⟨v.frm,v.fnum⟩:=by simp[di,show v.act=4 by simpa using h]
  rw[hb] at hk
  (repeat (first|refine Io ?_|refine Gl (wr:=false) (by simp only[kk,Nat.reduceAdd,Nat.reduceLT,Nat.reduceEqDiff, ↓reduceIte,reduceCtorEq,yS,qR,List.set_set];first|done|rfl) ?_))
  refine Bg (wr:=false) ([]:List (Nat×AV)) (by simp only[kD,kk,Nat.reduceAdd,Nat.reduceLT,Nat.reduceEqDiff, ↓reduceIte,reduceCtorEq,nY,hk,Option.map_none,Option.isSome];first|done|rfl) ?_ ?_
  ·exact eQ @zU
  try refine nx (p2 @ef0 @Int.toNat_zero) ?_
  refine aj ?_ ?_
  ·intro h;cases h
  intro _
  try refine nx @efi ?_
  refine Bg (wr:=false) ([]:List (Nat×AV)) (by simp only[kD,kk,Nat.reduceAdd,Nat.reduceLT,Nat.reduceEqDiff, ↓reduceIte,reduceCtorEq,hfi,Option.getD];first|done|rfl) ?_ ?_
  ·exact eQ @hty
  refine aZ ?_
  have hE:bD L i v=⟨L.revs,L.index,L.prev.set i (-1),L.fst.set i i,L.car,L.con,L.cre⟩:=by simp[bD,h5,nX,jc,uF,hb,hk]
  rw[hE]
  generalize L.prev.set i (-1)=P'
  generalize L.fst.set i (i:Int)=F'
  refine wP (by first|exact .inl rfl|exact .inr rfl) (by simp only[kR,Tryz.results64, ↓reduceIte,Nat.reduceEqDiff,reduceCtorEq];first|done|rfl) (by first|exact trivial|(simp only[kO];omega)|(simp[All,dB];first|done|omega)|(simp+contextual [All,dB];first|done|grind)) (wC ⟨L.revs,L.index,P',F',L.car,L.con,L.cre⟩ el (dF (false,[C.d (.v (.int .i64 i))]) (false,[.ms 115 1 0 1]) (em.map dJ))++[(115,ay 1 ([(i:Int)].map eI))]) ⟨by simp[Ab.get,ax,dQ,dP],by simp,by simp[bF,aS,aO,aQ,aT,aP,ah,aB,cZ,ae,Ab.get,dQ,dP],bW hx (by simp[ae,Ab.get,dQ,dP])⟩ (by simp[aJ,bM,aB,cZ,ae,Ab.get,dQ,dP]) ?_
  rfl
 ·intro h
  have hb:di v=⟨v.path,v.num-1⟩:=by simp_all[di]
  rw[hb] at hk
  (repeat (first|refine Io ?_|refine Gl (wr:=false) (by simp only[kk,Nat.reduceAdd,Nat.reduceLT,Nat.reduceEqDiff, ↓reduceIte,reduceCtorEq,yS,qR,List.set_set];first|done|rfl) ?_))
  refine Bg (wr:=false) ([]:List (Nat×AV)) (by simp only[kD,kk,Nat.reduceAdd,Nat.reduceLT,Nat.reduceEqDiff, ↓reduceIte,reduceCtorEq,nY,hk,Option.map_none,Option.isSome];first|done|rfl) ?_ ?_
  ·exact eQ @zU
  try refine nx (p2 @ef0 @Int.toNat_zero) ?_
  refine aj ?_ ?_
  ·intro h;cases h
  intro _
  try refine nx @efi ?_
  refine Bg (wr:=false) ([]:List (Nat×AV)) (by simp only[kD,kk,Nat.reduceAdd,Nat.reduceLT,Nat.reduceEqDiff, ↓reduceIte,reduceCtorEq,hfi,Option.getD];first|done|rfl) ?_ ?_
  ·exact eQ @hty
  refine aZ ?_
  have hE:bD L i v=⟨L.revs,L.index,L.prev.set i (-1),L.fst.set i i,L.car,L.con,L.cre⟩:=by simp[bD,h5,nX,jc,uF,hb,hk]
  rw[hE]
  generalize L.prev.set i (-1)=P'
  generalize L.fst.set i (i:Int)=F'
  refine wP (by first|exact .inl rfl|exact .inr rfl) (by simp only[kR,Tryz.results64, ↓reduceIte,Nat.reduceEqDiff,reduceCtorEq];first|done|rfl) (by first|exact trivial|(simp only[kO];omega)|(simp[All,dB];first|done|omega)|(simp+contextual [All,dB];first|done|grind)) (wC ⟨L.revs,L.index,P',F',L.car,L.con,L.cre⟩ el (dF (false,[C.d (.v (.int .i64 i))]) (false,[.ms 115 1 0 1]) (em.map dJ))++[(115,ay 1 ([(i:Int)].map eI))]) ⟨by simp[Ab.get,ax,dQ,dP],by simp,by simp[bF,aS,aO,aQ,aT,aP,ah,aB,cZ,ae,Ab.get,dQ,dP],bW hx (by simp[ae,Ab.get,dQ,dP])⟩ (by simp[aJ,bM,aB,cZ,ae,Ab.get,dQ,dP]) ?_
  rfl
end Go.Proofs.YtcpgicfphakdaaaGreatDoor
