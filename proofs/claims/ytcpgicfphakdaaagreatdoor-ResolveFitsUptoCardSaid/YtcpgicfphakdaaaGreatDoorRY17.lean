/- A part of the proof. -/
import Derived.Test.YtcpgicfphakdaaaGreatDoorRP50
set_option maxRecDepth 100000
set_option maxHeartbeats 16000000
set_option linter.all false
namespace Go.Proofs.YtcpgicfphakdaaaGreatDoor
open Go.Ab Tys
variable [Dr]
section
variable (d:aW) (c:iZ) (L:List (akK×Rev)) (E:List (akK×ou)) (N:List (bJ×bJ))
def aif.kk:=p3 (p11 kB kG Tryz.ntmps111 Tryz.underlying27 Tryz.underlying28 Tryz.underlying60 rE iH dM pY lq) (p11 mJ jQ pW vT DV uB kW yB A7 lQ qx) (p11 yR qU wu mG ny iq BP y7 sD wo Tryz.results111)
open aif in
theorem ZW (hd:d.revs.length≤1000000) (h1:1≤c.edits.length∧c.edits.length≤64) (h2:c.recs.length≤64) (h3:1≤c.num∧c.num≤1073741824) (h4:∀v∈d.revs,v.chg<c.num):
 AC Tryz.prog 111 [.c (.ptr 2000 0)] (ku d c L E N) (fun r st=>r=I .i64 0∧st=ku d c L E N):=by
 refine df Tryz.func111 Tryz.ntmps111 fun x hx=>?_
 try refine nv ?_
 refine dr ([]) ?_ ?_
 ·exact qP
 try refine nv ?_
 refine aj ?_ ?_
 ·intro h;exfalso
  have hne:c.edits≠[]:=by intro e;rw[e] at h1;simp at h1
  simp[hne] at h;omega
 intro _
 try refine nv ?_
 refine aj ?_ ?_
 ·intro h;exfalso;simp at h;omega
 intro _
 try refine nv ?_
 refine au (ι:=Nat) (I:=fun k=>⟨56,[(5,I .i64 c.num),(45,qI d.revs),(46,I .i64 d.revs.length),(47,I .i64 k)],ku d c L E N⟩)
  (Inv:=fun k=>k≤d.revs.length) (μ:=fun k=>d.revs.length-k) 0 (by omega) ?_ ?_
 ·exact bQ
 intro k hk
 try refine nv ?_
 refine aj ?_ ?_
 ·intro hlt
  have hlt':k<d.revs.length:=by simpa using hlt
  obtain⟨v,hv,he,_⟩:=round aA d.revs k ag hlt'
  have hvc:=h4 v (aem hv)
  try refine nx @he ?_
  refine aj ?_ ?_
  ·intro h;exfalso;simp at h;omega
  intro _
  try refine nv ?_
  refine⟨k+1,by omega,by omega,?_⟩
  exact bQ
 intro _
 try refine nv ?_
 refine rA ((ku d c L E N)) ?_
 refine⟨?_,rfl⟩
 rfl
def aiw.kk:=p2 (p16 kB kG Tryz.ntmps115 Tryz.underlying27 Tryz.underlying28 Tryz.underlying60 rE iH dM pY lq mJ jQ pW vT DV) (U6 uB kW DW lQ qx yR qU wu ny iq BP y7 sD wo Tryz.results115)
open aiw in
theorem aak (hd:d.revs.length≤1000000) (hr:d.recs.length≤1000000) (he:c.edits.length≤1000000) (h2:c.recs.length≤1000000):
 AC Tryz.prog 115 [.c (.ptr 2000 0)] (ku d c L E N) (fun r st=>((r=I .i64 0∧d.revs.length+c.edits.length≤512∧d.recs.length+c.recs.length≤512)∨r=I .i64 110)∧st=ku d c L E N):=by
 refine df Tryz.func115 Tryz.ntmps115 fun x hx=>?_
 try refine nv ?_
 refine dr ([]) ?_ ?_
 ·exact qP
 refine aZ ?_
 refine aj ?_ ?_
 ·intro _
  try refine nv ?_
  refine rA ((ku d c L E N)) ?_
  refine⟨?_,rfl⟩
  exact .inr rfl
 intro h
 try refine nv ?_
 refine rA ((ku d c L E N)) ?_
 refine⟨?_,rfl⟩
 refine .inl ⟨rfl,?_⟩
 simp at h
 omega
theorem afO (m:List (akK×Int)):∀e∈(bz pV vI m).map dJ,e.1.1=false∧cu [.str] e.1.2:=by
 intro e he
 simp only[bz,agh] at he
 obtain⟨_,⟨f,_,rfl⟩,rfl⟩:=he
 exact⟨rfl,by simp[dJ,jY,cu]⟩
theorem Yp (m:List (akK×Int)) (p:akK):(dC [C.d (.v (.string p))] ((bz pV vI m).map dJ)).getD (false,[C.d (.v (.int .i64 0))])=(false,[C.d (.v (.int .i64 ((ai m p).getD 0)))]):=by
 rw[show dC [C.d (.v (.string p))] ((bz pV vI m).map dJ)=(ai m p).map fun v=>(false,[C.d (.v (.int .i64 v))]) from gX (ve:=vI) Ce m p]
 cases ai m p<;>rfl
def ahR.kk:=p2 (p13 kB kM Tryz.ntmps113 Tryz.underlying60 rE pY mJ vT uB Ac lQ nR nM) (p13 uP EY L6 KW Q4 yR mG BP y7 wo Va jB Tryz.results113)
open ahR in
theorem VE (hlen:c.edits.length≤1000000) (h5:∀e∈c.edits,e.act=5→(ai (QN c.edits) e.path).getD 0=1) (h4:∀e∈c.edits,e.act=4→∃y,ai E e.frm=some y∧y.act=5):
 AC Tryz.prog 113 [.c (.ptr 2000 0)] (ku d c L E N) (fun r st=>r=I .i64 0∧st=ku d c L E N):=by
 refine df Tryz.func113 Tryz.ntmps113 fun x hx=>?_
 try refine nv ?_
 refine au (ι:=Nat) (I:=fun k=>⟨59,[(0, .c (.ptr 2000 0)),(3, .c (.mp 1010)),(13, .c (.d (.ps 12 (c.edits.map bK)))),(14,I .i64 c.edits.length),(15,I .i64 k)],ku d c L E N++[(1010, .map ((bz pV vI (QN (c.edits.take k))).map dJ))]⟩)
  (Inv:=fun k=>k≤c.edits.length) (μ:=fun k=>c.edits.length-k) 0 (by omega) ?_ ?_
 ·rw[show QN (c.edits.take 0)=[] from rfl]
  exact uZ (fun i=>if i=1010 then 8 else i)
 intro k hk
 try refine nv ?_
 refine aj ?_ ?_
 ·intro hlt
  have hlt':k<c.edits.length:=by simpa using hlt
  obtain⟨z,hz,he,htk⟩:=round bK c.edits k bZ hlt'
  have hs1:QN (c.edits.take (k+1))=if z.act=4 then eH (QN (c.edits.take k)) z.frm ((ai (QN (c.edits.take k)) z.frm).getD 0+1) else QN (c.edits.take k):=by rw[htk,acN]
  have hbd:=agv (c.edits.take k) z.frm
  have htl:(c.edits.take k).length≤1000000:=by simp;omega
  generalize QN (c.edits.take k)=A at hs1 hbd⊢
  have hlk:=Yp A z.frm
  have hty:=afO A
  have hins:dF (false,[C.d (.v (.string z.frm))]) (false,[C.d (.v (.int .i64 ((ai A z.frm).getD 0+1)))]) ((bz pV vI A).map dJ)=(bz pV vI (eH A z.frm ((ai A z.frm).getD 0+1))).map dJ:=ut (ve:=vI) Ce A z.frm ((ai A z.frm).getD 0+1)
  generalize (ai A z.frm).getD 0=n9 at hs1 hbd hlk hins
  try refine nx @he ?_
  refine aj ?_ ?_
  ·intro h
   have z4:z.act=4:=by simpa using h
   rw[if_pos z4] at hs1
   refine aZ ?_
   refine gy (p2 @hlk @hins) ?_ ?_
   ·exact eQ @hty
   try refine nv ?_
   refine⟨k+1,by omega,by omega,?_⟩
   rw[hs1]
   exact uZ (fun i=>i)
  intro h
  have z4:¬z.act=4:=by simpa using h
  rw[if_neg z4] at hs1
  try refine nv ?_
  refine⟨k+1,by omega,by omega,?_⟩
  rw[hs1]
  exact uZ (fun i=>i)
 intro hge
 have hk':k=c.edits.length:=by have:¬k<c.edits.length:=by simpa using hge
                               omega
 rw[hk',afu]
 generalize hA:QN c.edits=A at h5
 have hty:=afO A
 try refine nv ?_
 refine au (ι:=Nat) (I:=fun k=>⟨59,[(0, .c (.ptr 2000 0)),(3, .c (.mp 1010)),(32, .c (.d (.ps 12 (c.edits.map bK)))),(33,I .i64 c.edits.length),(34,I .i64 k)],ku d c L E N++[(1010, .map ((bz pV vI A).map dJ))]⟩)
  (Inv:=fun k=>k≤c.edits.length) (μ:=fun k=>c.edits.length-k) 0 (by omega) ?_ ?_
 ·exact uZ (fun i=>i)
 intro k hk
 try refine nv ?_
 refine aj ?_ ?_
 rotate_left
 ·intro _
  try refine nv ?_
  refine rA ((ku d c L E N)) ?_
  refine⟨?_,rfl⟩
  rfl
 intro hlt
 have hlt':k<c.edits.length:=by simpa using hlt
 obtain⟨z,hz,he,htk⟩:=round bK c.edits k bZ hlt'
 have hzm:=aem hz
 try refine nx @he ?_
 refine aj ?_ ?_
 ·intro h
  have z5:z.act=5:=by simpa using h
  have hlk:=Yp A z.path
  rw[h5 z hzm z5] at hlk
  refine aZ ?_
  refine gy @hlk ?_ ?_
  ·exact eQ @hty
  try refine nv ?_
  refine aj ?_ ?_
  ·intro h;cases h
  intro _
  try refine nv ?_
  refine⟨k+1,by omega,by omega,?_⟩
  exact uZ (fun i=>i)
 intro h
 have z5:¬z.act=5:=by simpa using h
 try refine nv ?_
 refine aj ?_ ?_
 ·intro h
  have z4:z.act=4:=by simpa using h
  obtain⟨y,hy,y5⟩:=h4 z hzm z4
  have hlk:dC [C.d (.v (.string z.frm))] ((bz pV Xe E).map dJ)=some (true,(bK y).map C.d):=by
   rw[show dC [C.d (.v (.string z.frm))] ((bz pV Xe E).map dJ)=(ai E z.frm).map fun v=>(true,(bK v).map C.d) from gX (ve:=Xe) Ce E z.frm,hy];rfl
  have htyE:=YE E
  refine aZ ?_
  refine Bg (wr:=false) ([]:List (Nat×AV)) (by simp only[kD,kk,Nat.reduceAdd,Nat.reduceLT,Nat.reduceEqDiff, ↓reduceIte,reduceCtorEq,hlk,Option.getD];first|done|rfl) ?_ ?_
  ·exact eQ @htyE
  try refine nv ?_
  refine aj ?_ ?_
  ·intro h;exfalso;simp[y5] at h
  intro _
  try refine nv ?_
  refine⟨k+1,by omega,by omega,?_⟩
  exact uZ (fun i=>i)
 intro _
 try refine nv ?_
 refine⟨k+1,by omega,by omega,?_⟩
 exact uZ (fun i=>i)
end
@[reducible] def Fe (d:aW) (c:iZ) (z:ou):Rev:=⟨z.path,bf d z.path+1,c.num,z.act,z.base,z.kw,z.ex,z.xe,z.sum,z.size,z.frm,z.fnum⟩
def vM (r:dZ):Nat→List akK
 |0=>[]
 |_+1=>if r.how=3 then [] else [r.to]
section
variable (d:aW) (c:iZ) (L:List (akK×Rev)) (E:List (akK×ou)) (N:List (bJ×bJ))
theorem ahc:∀e∈(bz kF Zc N).map dJ,e.1.1=true∧cu [.str, .int .i64] e.1.2:=by
 intro e he
 simp only[bz,agh] at he
 obtain⟨_,⟨f,_,rfl⟩,rfl⟩:=he
 exact⟨rfl,by simp[dJ,jY,cu]⟩
theorem Yg (hN:∀p n,ai N ⟨p,n⟩=yf d p n) {p:akK} {n:Int} {f:bJ} (h:yf d p n=some f):dC [C.d (.v (.string p)),C.d (.v (.int .i64 n))] ((bz kF Zc N).map dJ)=some (true,(iR f).map C.d):=by
 rw[show dC [C.d (.v (.string p)),C.d (.v (.int .i64 n))] ((bz kF Zc N).map dJ)=(ai N ⟨p,n⟩).map fun v=>(true,(iR v).map C.d) from gX (ve:=Zc) yQ N ⟨p,n⟩,hN,h];rfl
def z227.kk:=p3 (p11 kB kG kS kM Tryz.ntmps227 Tryz.underlying27 rE iH oG dM lq) (p11 jQ ach DV JE kW kQ kT uY BC D9 yV) (p11 Vf aaT yR qU mG ny xK iq sD jB Tryz.results227)
open z227 in
theorem Vs (hN:∀p n,ai N ⟨p,n⟩=yf d p n) (hd:d.revs.length≤1000000) (r:dZ) (tg:bJ) (s:Rev) (f:bJ) (hs:iE d r.frm r.last=some s) (h1:1≤r.first) (h2:r.first≤r.last) (h3:r.last≤d.revs.length) (hrun:∀x:Int,r.first≤x→x≤r.last→yf d r.frm x=some f) (htg:¬tg=f):
 AC Tryz.prog 227 [.c (.ptr 2000 0),ab5 r,BO tg] (ku d c L E N) (fun q st=>q= .tup [CY s,pB true]∧st=ku d c L E N):=by
 have hG:=QH d hd r.frm r.last
 rw[hs] at hG
 simp only[Option.getD_some,Option.isSome_some] at hG
 have hty:=ahc N
 have hlk:=Yg d N hN (hrun r.last h2 (akA _))
 have htg2:¬(f.path=tg.path∧f.num=tg.num):=fun h=>htg (by obtain⟨a,b⟩:=f;obtain⟨a',b'⟩:=tg;simp only at h;rw[h.1,h.2])
 refine df Tryz.func227 Tryz.ntmps227 fun x hx=>?_
 try refine nv ?_
 refine dr ([(23, .tup [CY s,pB true])]) ?_ ?_
 ·exact eQ @hG
 refine aZ ?_
 refine dr ([]) ?_ ?_
 ·exact qP
 try refine nv ?_
 refine aj ?_ ?_
 ·intro h;exfalso;simp at h;omega
 intro _
 refine aZ ?_
 refine Bg (wr:=false) ([]:List (Nat×AV)) (by simp only[kD,kk,Nat.reduceAdd,Nat.reduceLT,Nat.reduceEqDiff, ↓reduceIte,reduceCtorEq,hlk,Option.getD,Option.isSome];first|done|rfl) ?_ ?_
 ·exact eQ @hty
 try refine nv ?_
 refine aj ?_ ?_
 ·intro h;exfalso;simp at h;exact htg2 h
 intro _
 try refine nv ?_
 refine au (ι:=Nat) (I:=fun k=>⟨105,[(0, .c (.ptr 2000 0)),(4, .c (.ptr 4 0)),(6, .c (.ptr 6 0)),(8, .c (.ptr 8 0)),(10, .c (.ptr 10 0)),(11,I .i64 (r.first+k))],ku d c L E N++[(4, .box ((af r).map C.d)),(6, .box ((aA ag).map C.d)),(8, .box ((aA s).map C.d)),(10, .box ((iR f).map C.d))]⟩)
  (Inv:=fun k=>r.first+(k:Int)≤r.last) (μ:=fun k=>(r.last-r.first).toNat-k) 0 (by omega) ?_ ?_
 ·(refine bi (fun i=>i) rfl ?_ ⟨?_,?_,?_,bW hx (by simp[ae,Ab.get])⟩<;>first|(simp only[kE,ay, ↓reduceIte,Nat.reduceEqDiff,reduceCtorEq,ag,bM];done)|simp[aH,ax,ah,Ab.get,aJ,cZ,aB,bF,aS,aO,aQ,aT,aP,ae,List.flatten,ag,bM])
 intro k hk
 try refine nv ?_
 refine aj ?_ ?_
 rotate_left
 ·intro _
  try refine nv ?_
  refine rA ((ku d c L E N)) ?_
  exact⟨rfl,rfl⟩
 intro hlt
 have hlt':r.first+(k:Int)<r.last:=by simpa using hlt
 have hlk2:=Yg d N hN (hrun (r.first+k) (by omega) (by omega))
 refine aZ ?_
 refine Bg (wr:=false) ([]:List (Nat×AV)) (by simp only[kD,kk,Nat.reduceAdd,Nat.reduceLT,Nat.reduceEqDiff, ↓reduceIte,reduceCtorEq,hlk2,Option.getD,Option.isSome];first|done|rfl) ?_ ?_
 ·exact eQ @hty
 try refine nv ?_
 refine aj ?_ ?_
 ·intro h;exfalso;simp at h
 intro _
 have e1:r.first+(k:Int)+1=r.first+((k:Int)+1):=by omega
 try refine nv ?_
 refine⟨k+1,by omega,by omega,?_⟩
 (refine bi (fun i=>i) rfl ?_ ⟨?_,?_,?_,bW hx (by simp[ae,Ab.get])⟩<;>first|(simp only[kE,ay, ↓reduceIte,Nat.reduceEqDiff,reduceCtorEq,bM,e1];done)|simp[aH,ax,ah,Ab.get,aJ,cZ,aB,bF,aS,aO,aQ,aT,aP,ae,List.flatten,bM,e1])
def z171.kk:=p2 (U6 kB kG kM Tryz.ntmps171 rE qM wY dM mJ UJ TR D8 nH xP nR) (MP nM sN vC EY Pm XK yR mG Au Gh iq wo jB Tryz.results171)
open z171 in
theorem abt (hL:∀p,ai L p=aU d p) (z:ou) (h2:z.act=2) (h:z.base=((aU d z.path).getD ag).base∧z.kw=((aU d z.path).getD ag).kw∧z.ex=((aU d z.path).getD ag).ex∧z.xe=((aU d z.path).getD ag).xe∧z.sum=((aU d z.path).getD ag).sum∧z.size=((aU d z.path).getD ag).size):
 AC Tryz.prog 171 [.c (.ptr 2000 0),Z7 z] (ku d c L E N) (fun q st=>q=B true∧st=ku d c L E N):=by
 have hty:=Yh L
 have hlk:(dC [C.d (.v (.string z.path))] ((bz pV vRv L).map dJ)).getD (true,(aA ag).map C.d)=(true,(aA ((aU d z.path).getD ag)).map C.d):=by
  rw[IJ,hL];cases aU d z.path<;>rfl
 generalize (aU d z.path).getD ag=u at hlk h
 obtain⟨g1,g2,g3,g4,g5,g6⟩:=h
 simp only[List.map,ag] at hlk
 refine df Tryz.func171 Tryz.ntmps171 fun x hx=>?_
 try refine nv ?_
 refine dx ([]) @hlk ?_ ?_
 ·exact eQ @hty
 try refine nv ?_
 refine rA ((ku d c L E N)) ?_
 refine⟨?_,rfl⟩
 simp[h2,g1,g2,g3,g4,g5,g6]
def aiO.kk:=p3 (p12 kB kG kM Tryz.ntmps170 rE qM wY dM lq mJ UJ TR) (p12 Ac iF nH xP rQ xY BA nM sN vC yE EY) (p11 L6 Q4 yR mG Au Gh iq sD wo jB Tryz.results170)
open aiO in
theorem aaw (hL:∀p,ai L p=aU d p) (hN:∀p n,ai N ⟨p,n⟩=yf d p n) (hg:Good d.revs) (hd:d.revs.length≤512) (r:dZ) (z:ou) (s:Rev) (f:bJ) (hz:ai E r.to=some z) (hP:agc d z r s f) (hpv:z.prev=bf d z.path):
 AC Tryz.prog 170 [.c (.ptr 2000 0),ab5 r] (ku d c L E N) (fun q st=>q=B true∧st=ku d c L E N):=by
 have hty:=YE E
 have hlk:dC [C.d (.v (.string r.to))] ((bz pV Xe E).map dJ)=some (true,(bK z).map C.d):=by
  rw[show dC [C.d (.v (.string r.to))] ((bz pV Xe E).map dJ)=(ai E r.to).map fun v=>(true,(bK v).map C.d) from gX (ve:=Xe) Ce E r.to,hz];rfl
 have hln:=jV hg z.path
 have hll:((ai L z.path).getD ag).num=bf d z.path:=by rw[hL];rfl
 have hcr:=XZ d c L E N z (by rw[hll];omega)
 rw[hll] at hcr
 have hlo:=JW d c L E N (Fe d c z) (by simp only;omega)
 have htl:Cj N (Fe d c z)=if z.act=1 then(⟨z.path,bf d z.path+1⟩:bJ) else if z.act=4 then(yf d z.frm z.fnum).getD uI else(yf d z.path (bf d z.path)).getD uI:=by
  unfold Cj
  simp only[hN,fileOf,Int.add_sub_cancel]
 have htg:=hP.tgt
 rw[←htl] at htg
 generalize Cj N (Fe d c z)=tg at hlo htg
 have hso:=Vs d c L E N hN (by omega) r tg s f hP.src hP.lo hP.le hP.hi hP.run htg
 have hh:=hP.how
 have hc:=hP.copy
 have h5:=hP.a5
 have hn:=hP.num
 refine df Tryz.func170 Tryz.ntmps170 fun x hx=>?_
 try refine nv ?_
 refine Bg (wr:=false) ([]:List (Nat×AV)) (by simp only[kD,kk,Nat.reduceAdd,Nat.reduceLT,Nat.reduceEqDiff, ↓reduceIte,reduceCtorEq,hlk,Option.getD,Option.isSome];first|done|rfl) ?_ ?_
 ·exact eQ @hty
 try refine nv ?_
 refine aj ?_ ?_
 ·intro h;exfalso;simp[h5] at h;omega
 intro _
 refine aZ ?_
 refine uN (wr:=false) [(49,BL (Fe d c z)),(50,BO tg),(51, .tup [CY s,pB true])] [(49,(ku d c L E N,none)),(50,(ku d c L E N,none)),(51,(ku d c L E N,none))] (by kernel_rfl) (by simp only[wZ.eq_1,wZ.eq_2,uQ.eq_def,H8.eq_def,tZ.eq_def,Option.getD,kD,kk,Nat.reduceAdd,Nat.reduceLT,Nat.reduceEqDiff, ↓reduceIte,reduceCtorEq];first|done|rfl) ?_ (by kernel_rfl) ?_
 ·(simp only[All,List.cons_append,List.nil_append,dB,afr,agW,ajr,forall_eq_or_imp,forall_eq,ahu,ajG,implies_true,ae1,List.length_cons,List.length_nil];repeat' (first|exact trivial|exact hcr|exact hlo|exact hso|refine And.intro ?_ ?_|(rintro _ ⟨⟩;done)|assumption|rfl|omega|(simp[bF,aS,aO,aQ,aT,aP,ah,aB,cZ,aJ,bM,ae,Ab.get];done)))
 try refine nv ?_
 refine aj ?_ ?_
 ·intro h;cases h
 intro _
 try refine nv ?_
 refine aj ?_ ?_
 ·intro h
  have h1:r.how=1:=by simpa using h
  have hc:=hc h1
  try refine nv ?_
  refine aj ?_ ?_
  ·intro h3
   have h3:s.act=3:=by simpa using h3
   rw[if_pos h3] at hc
   try refine nv ?_
   refine rA ((ku d c L E N)) ?_
   refine⟨?_,rfl⟩
   simp[hc]
  intro h3
  have h3:¬s.act=3:=by simpa using h3
  rw[if_neg h3] at hc
  obtain⟨g0,g1,g2,g3,g4,g5,g6⟩:=hc
  try refine nv ?_
  refine rA ((ku d c L E N)) ?_
  refine⟨?_,rfl⟩
  simp[g0,g1,g2,g3,g4,g5,g6]
 intro _
 try refine nv ?_
 refine rA ((ku d c L E N)) ?_
 refine⟨?_,rfl⟩
 rfl
def ai7.kk:=p2 (U6 kB kG kM Tryz.ntmps114 Tryz.underlying28 rE pY lq mJ pW uB Ac qx rQ BA) (MP EY agy L6 agX Q4 yR wu mG IP y7 sD wo jB Tryz.results114)
open ai7 in
theorem PL (hL:∀p,ai L p=aU d p) (hN:∀p n,ai N ⟨p,n⟩=yf d p n) (hg:Good d.revs) (hd:d.revs.length≤512) (r:dZ) (z:ou) (s:Rev) (f:bJ) (hrc:c.recs=[r]) (hz:ai E r.to=some z) (hP:agc d z r s f) (hpv:z.prev=bf d z.path):
 AC Tryz.prog 114 [.c (.ptr 2000 0)] (ku d c L E N) (fun q st=>q=I .i64 0∧st=ku d c L E N):=by
 obtain⟨cn,cc,ct,ce,cr⟩:=c
 simp only at hrc
 subst hrc
 have hir:=aaw d ⟨cn,cc,ct,ce,[r]⟩ L E N hL hN hg hd r z s f hz hP hpv
 have hty:=YE E
 have hlk:dC [C.d (.v (.string r.to))] ((bz pV Xe E).map dJ)=some (true,(bK z).map C.d):=by
  rw[show dC [C.d (.v (.string r.to))] ((bz pV Xe E).map dJ)=(ai E r.to).map fun v=>(true,(bK v).map C.d) from gX (ve:=Xe) Ce E r.to,hz];rfl
 have htW:∀W:List akK,∀e∈(fG pV W).map dJ,e.1.1=false∧cu [.str] e.1.2:=by
  intro W e he
  simp only[fG,agh] at he
  obtain⟨_,⟨f,_,rfl⟩,rfl⟩:=he
  exact⟨rfl,by simp[dJ,jY,cu]⟩
 have e00:Int.toNat ((0:Nat):Int)=0:=rfl
 have w0:vM r 0=[]:=rfl
 have w1:vM r 1=if r.how=3 then [] else [r.to]:=rfl
 refine df Tryz.func114 Tryz.ntmps114 fun x hx=>?_
 try refine nv ?_
 refine au (ι:=Nat) (I:=fun k=>⟨77,[(0, .c (.ptr 2000 0)),(3, .c (.mp 1010)),(13, .c (.d (.ps 6 [af r]))),(14,I .i64 1),(15,I .i64 k)],ku d ⟨cn,cc,ct,ce,[r]⟩ L E N++[(1010, .map ((fG pV (vM r k)).map dJ))]⟩)
  (Inv:=fun k=>k≤1) (μ:=fun k=>1-k) 0 (by omega) ?_ ?_
 ·rw[w0]
  exact uZ (fun i=>if i=1010 then 8 else i)
 intro k hk
 try refine nv ?_
 refine aj ?_ ?_
 ·intro hlt
  have hlt':k=0:=by have:((k:Nat):Int)<1:=by simpa using hlt
                    omega
  subst hlt'
  have hin:¬r.how=3→dF (false,[C.d (.v (.string r.to))]) (false,[C.d (.v (.bool true))]) ((fG pV (vM r 0)).map dJ)=(fG pV (vM r 1)).map dJ:=fun h=>by rw[w0,w1,if_neg h];rfl
  have hig:r.how=3→vM r 1=vM r 0:=fun h=>by rw[w0,w1,if_pos h]
  have htw0:=htW (vM r 0)
  generalize vM r 0=W0 at hin hig htw0⊢
  generalize hW1:vM r 1=W1 at hin hig
  try refine nx (p2 @e00 @List.getD_cons_zero.{0}) ?_
  refine aj ?_ ?_
  ·intro h
   have h3:¬r.how=3:=by simpa using h
   have hin:=hin h3
   refine aZ ?_
   refine gy @hin ?_ ?_
   ·exact eQ @htw0
   try refine nv ?_
   refine⟨1,by omega,by omega,?_⟩
   rw[hW1]
   exact uZ (fun i=>i)
  intro h
  have h3:r.how=3:=by simpa using h
  try refine nv ?_
  refine⟨1,by omega,by omega,?_⟩
  rw[hW1,hig h3]
  exact uZ (fun i=>i)
 intro hge
 have hk1:k=1:=by have:¬((k:Nat):Int)<1:=by simpa using hge
                  omega
 subst hk1
 have hk3:r.how=3→dC [C.d (.v (.string r.to))] ((fG pV (vM r 1)).map dJ)=none:=fun h=>by rw[w1,if_pos h];rfl
 have hk4:¬r.how=3→dC [C.d (.v (.string r.to))] ((fG pV (vM r 1)).map dJ)=some (false,[C.d (.v (.bool true))]):=fun h=>by rw[w1,if_neg h];simp[fG,dJ,jY,dC,kK,DD]
 have htw:=htW (vM r 1)
 generalize vM r 1=W at hk3 hk4 htw⊢
 try refine nv ?_
 refine au (ι:=Nat) (I:=fun k=>⟨77,[(0, .c (.ptr 2000 0)),(3, .c (.mp 1010)),(30, .c (.d (.ps 6 [af r]))),(31,I .i64 1),(32,I .i64 k)],ku d ⟨cn,cc,ct,ce,[r]⟩ L E N++[(1010, .map ((fG pV W).map dJ))]⟩)
  (Inv:=fun k=>k≤1) (μ:=fun k=>1-k) 0 (by omega) ?_ ?_
 ·exact uZ (fun i=>i)
 intro k hk
 try refine nv ?_
 refine aj ?_ ?_
 rotate_left
 ·intro _
  try refine nv ?_
  refine rA ((ku d ⟨cn,cc,ct,ce,[r]⟩ L E N)) ?_
  refine⟨?_,rfl⟩
  rfl
 intro hlt
 have hlt':k=0:=by have:((k:Nat):Int)<1:=by simpa using hlt
                   omega
 subst hlt'
 try refine nx (p2 @e00 @List.getD_cons_zero.{0}) ?_
 refine dr ([(50,I .i64 0)]) ?_ ?_
 ·exact qP
 try refine nv ?_
 refine aj ?_ ?_
 ·intro h;simp at h
 intro _
 by_cases h3:r.how=3
 ·have hlk2:=hk3 h3
  have hun:=abt d ⟨cn,cc,ct,ce,[r]⟩ L E N hL z (hP.ign h3).1 (hP.ign h3).2
  refine aZ ?_
  refine uN (wr:=false) [(55,B true),(72,B true)] [(55,(ku d ⟨cn,cc,ct,ce,[r]⟩ L E N,none)),(72,(ku d ⟨cn,cc,ct,ce,[r]⟩ L E N,none))] (by kernel_rfl) (by simp only[wZ.eq_1,wZ.eq_2,uQ.eq_def,H8.eq_def,tZ.eq_def,Option.getD,kD,kk,Nat.reduceAdd,Nat.reduceLT,Nat.reduceEqDiff, ↓reduceIte,reduceCtorEq,hlk,hlk2];first|done|rfl) ?_ (by kernel_rfl) ?_
  ·(simp only[All,List.cons_append,List.nil_append,dB,afr,agW,ajr,forall_eq_or_imp,forall_eq,ahu,ajG,implies_true,ae1,List.length_cons,List.length_nil];repeat' (first|exact trivial|exact hir|exact hun|exact hty|exact htw|exact fun _=>⟨by simp[cu],htw⟩|exact fun _=>⟨by simp[cu],hty⟩|refine And.intro ?_ ?_|(rintro _ ⟨⟩;done)|assumption|rfl|omega|(simp[bF,aS,aO,aQ,aT,aP,ah,aB,cZ,aJ,bM,ae,Ab.get];done)))
  try refine nv ?_
  refine aj ?_ ?_
  ·intro h;cases h
  intro _
  try refine nv ?_
  refine⟨1,by omega,by omega,?_⟩
  exact uZ (fun i=>i)
 ·have hlk2:=hk4 h3
  refine aZ ?_
  refine uN (wr:=false) [(55,B true),(72,B true)] [(55,(ku d ⟨cn,cc,ct,ce,[r]⟩ L E N,none))] (by kernel_rfl) (by simp only[wZ.eq_1,wZ.eq_2,uQ.eq_def,H8.eq_def,tZ.eq_def,Option.getD,kD,kk,Nat.reduceAdd,Nat.reduceLT,Nat.reduceEqDiff, ↓reduceIte,reduceCtorEq,hlk,hlk2];first|done|rfl) ?_ (by kernel_rfl) ?_
  ·(simp only[All,List.cons_append,List.nil_append,dB,afr,agW,ajr,forall_eq_or_imp,forall_eq,ahu,ajG,implies_true,ae1,List.length_cons,List.length_nil];repeat' (first|exact trivial|exact hir|exact hty|exact htw|exact fun _=>⟨by simp[cu],htw⟩|exact fun _=>⟨by simp[cu],hty⟩|refine And.intro ?_ ?_|(rintro _ ⟨⟩;done)|assumption|rfl|omega|(simp[bF,aS,aO,aQ,aT,aP,ah,aB,cZ,aJ,bM,ae,Ab.get];done)))
  try refine nv ?_
  refine aj ?_ ?_
  ·intro h;cases h
  intro _
  try refine nv ?_
  refine⟨1,by omega,by omega,?_⟩
  exact uZ (fun i=>i)
end
end Go.Proofs.YtcpgicfphakdaaaGreatDoor
