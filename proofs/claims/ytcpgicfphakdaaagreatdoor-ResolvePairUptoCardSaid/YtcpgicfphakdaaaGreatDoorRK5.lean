/- A part of the proof. -/
import Derived.Test.YtcpgicfphakdaaaGreatDoorRT3
import Derived.Test.YtcpgicfphakdaaaGreatDoorRU6
set_option maxRecDepth 100000
set_option maxHeartbeats 8000000
set_option linter.all false
namespace Go.Proofs.YtcpgicfphakdaaaGreatDoor
section
open Go.Ab Tys
variable [zg]
theorem Sl {n:Nat} {p q:bV} (hp:PB n p) (hq:PB n q):∀k,∀s∈jM p q k,s.size≤n
 |0,s,h=>by simp[jM] at h
 |k+1,s,h=>by
  simp only[jM,afs,aft] at h
  rcases h with h|rfl
  ·exact Sl hp hq k s h
  ·split
   ·exact hp.get k
   ·exact hq.get k
theorem SN {n:Nat} {p q m:bV} (hp:PB n p) (hq:PB n q) (h:zh p q=some m):PB n m:=by
 unfold zh at h
 split at h
 ·cases h
 ·split at h
  ·cases h
   exact⟨by simp only[oQ];exact hp.1,Sl hp hq _⟩
  ·cases h
theorem LY {n:Nat} {p q m:bV} (hp:PB n p) (hq:PB n q) (h:lK p q=some m):PB n m:=by
 unfold lK at h
 split at h
 ·split at h
  ·exact SN hq hp h
  ·exact SN hp hq h
 ·cases h
theorem TD {n:Nat} {p q:bV} (h1:1≤n) (hq:PB n q):∀k,∀b∈EK p q k,PB n b
 |0,b,h=>by simp[EK] at h
 |k+1,b,h=>by
  simp only[EK,afs] at h
  rcases h with h|h
  ·exact TD h1 hq k b h
  ·split at h
   ·simp only[aft] at h
    subst h
    refine⟨by simpa using h1,?_⟩
    intro s hs
    simp only[aft] at hs
    subst hs
    have:=hq.get k
    rw[aj3];omega
   ·cases h
theorem QV {n:Nat} {p q:bV} {l:List bV} (h1:1≤n) (hp:PB n p) (hq:PB n q) (h:l7 p q=some l):l.length≤n+1∧∀b∈l,PB n b:=by
 unfold l7 at h
 split at h
 ·cases h
  constructor
  ·have:=Oi p q p.parts.length
   have:=hp.1
   rw[afI];split<;>simp<;>omega
  ·intro b hb
   rcases afs.1 hb with hb|hb
   ·exact TD h1 hq _ b hb
   ·split at hb
    ·simp only[aft] at hb
     subst hb
     exact⟨by simp only[ajz];have:=hq.1;omega,fun s hs=>hq.2 s (akc hs)⟩
    ·cases hb
 ·cases h
theorem QK {n:Nat} {p:bV} {l:List bV} (hp:PB n p) (hl:∀b∈l,PB n b):∀k,∀s∈qH p.parts l k,s.size≤2*n
 |0,s,h=>by simp[qH] at h
 |k+1,s,h=>by
  simp only[qH,afs,aft] at h
  rcases h with h|rfl
  ·exact QK hp hl k s h
  ·have a:=hp.get k
   have c:=zI (p.parts.getD k noS)
   split
   ·have b:((l.getD (aK (p.parts.take k)) dG).parts.getD 0 noS).size≤n:=by
     rw[adI (l:=l)]
     cases e:l[aK (p.parts.take k)]? with
     |none=>exact aj8 _
     |some b=>exact(hl b (aem e)).get 0
    rw[ajH];omega
   ·omega
theorem ae4 {n:Nat} {l:List bV} (hl:∀b∈l,PB n b) (k:Nat):PB n (l.getD k dG):=by
 rw[adI]
 cases e:l[k]? with
 |none=>exact⟨aj8 _,fun s hs=>by simp[dG] at hs⟩
 |some b=>exact hl b (aem e)
theorem Yx {n:Nat} {p:bV} (hs:∀s∈p.parts,s.size≤n) (hn:12≤n):PB n (Me p).1:=by
 unfold Me
 split
 ·exact⟨aj8 _,fun s hs=>by simp[dG] at hs⟩
 ·rename_i h;exact⟨by simp only;omega,hs⟩
theorem uU (n:Nat):PB n dG:=⟨aj8 _,fun s hs=>by simp[dG] at hs⟩
theorem Zm {n:Nat} {p:bV} {l:List bV} (hn:12≤n) (hp:PB n p) (hl:∀b∈l,PB n b):PB (2*n) (jL p l).1:=by
 unfold jL
 split
 ·split
  ·split
   ·split
    ·split
     ·refine Yx ?_ (by omega)
      intro s hs
      rcases afs.1 hs with h|h
      ·exact QK hp hl _ s h
      ·have:=(ae4 hl (aK p.parts)).2 s h;omega
     ·exact uU _
    ·exact Yx (QK hp hl _) (by omega)
   ·exact uU _
  ·exact uU _
 ·exact uU _
@[reducible] def acv:List C:=[.d (.v (.bool false)),Lt, .d (.v (.bool false)),Lt, .d (.v (.bool false))]
@[reducible] def aiL (x:MB×Bool×Int):AV:= .tup [if x.2.1 then af8 x.1 else(true,acv),pB x.2.1,pI x.2.2]
structure EB (n:Nat) (e:fA):Prop where
 left:PB n e.left
 right:PB n e.right
 len:e.holes.length≤n
 holes:∀h∈e.holes,PB n h
end
section
open Go.Ab Tys
variable [Dr]
def aiT.kk:=p11 kB kG Tryz.ntmps125 Tryz.underlying4 FH iW Af xN NC nU Tryz.results125
open aiT in
theorem Di (r:MB) (hl:PB 1000000 r.left) (hr:PB 1000000 r.right):AC Tryz.prog 125 [QY r] [] (fun x st=>x=I .i64 (iQ r)∧st=[]):=by
 have h3:=A8 r.left hl
 have h4:=A8 r.right hr
 have hR:iQ r=if iU r.left then(if iU r.right then(if aK r.left.parts=aK r.right.parts∧r.left.rest=r.right.rest then 0 else 42) else 41) else 40:=rfl
 have o1:iU r.left=decide (dm r.left=0):=rfl
 have o2:iU r.right=decide (dm r.right=0):=rfl
 obtain⟨ex,lf,rg⟩:=r
 simp only at h3 h4 o1 o2 hR
 generalize iQ ⟨ex,lf,rg⟩=R at hR
 rw[o1] at h3 hR
 rw[o2] at h4 hR
 generalize dm lf=el at h3 hR
 generalize dm rg=er at h4 hR
 obtain⟨ps,rp⟩:=lf
 obtain⟨qs,rq⟩:=rg
 simp only at h3 h4 hR
 by_cases e:el=0
 rotate_left
 ·rw[ahK e,if_neg (by simp)] at hR
  simp only[ahK e,aka,agF,if_false] at h3
  refine df Tryz.func125 Tryz.ntmps125 fun x hx=>?_
  (repeat (first|refine nv ?_|refine cf (h3) ?_))
  refine aj ?_ ?_
  rotate_left
  ·intro h;exact absurd (by simpa using h) e
  intro _
  try refine nv ?_
  refine rA [] ?_
  refine⟨?_,rfl⟩
  rw[hR]
 rw[ajk e,if_pos rfl] at hR
 simp only[e,akJ,ajq,if_true] at h3
 by_cases e2:er=0
 rotate_left
 ·rw[ahK e2,if_neg (by simp)] at hR
  simp only[ahK e2,aka,agF,if_false] at h4
  refine df Tryz.func125 Tryz.ntmps125 fun x hx=>?_
  (repeat (first|refine nv ?_|refine cf (h3) ?_))
  refine aj ?_ ?_
  ·intro h;simp at h
  intro _
  (repeat (first|refine nv ?_|refine cf (h4) ?_))
  refine aj ?_ ?_
  rotate_left
  ·intro h;exact absurd (by simpa using h) e2
  intro _
  try refine nv ?_
  refine rA [] ?_
  refine⟨?_,rfl⟩
  rw[hR]
 rw[ajk e2,if_pos rfl] at hR
 simp only[e2,akJ,ajq,if_true] at h4
 refine df Tryz.func125 Tryz.ntmps125 fun x hx=>?_
 (repeat (first|refine nv ?_|refine cf (h3) ?_))
 refine aj ?_ ?_
 ·intro h;simp at h
 intro _
 (repeat (first|refine nv ?_|refine cf (h4) ?_))
 refine aj ?_ ?_
 ·intro h;simp at h
 intro _
 try refine nv ?_
 have hc:(bif !decide ((aK ps:Int)=aK qs) then true else !(rp==rq))=!decide (aK ps=aK qs∧rp=rq):=by
  rw[show decide ((aK ps:Int)=aK qs)=decide (aK ps=aK qs) from ajs.2 (by omega)]
  by_cases a:aK ps=aK qs<;>cases rp<;>cases rq<;>simp[a]
 refine aj ?_ ?_
 ·intro h
  rw[hc] at h
  rw[if_neg (by intro e;rw[ajk e] at h;cases h)] at hR
  try refine nv ?_
  refine rA [] ?_
  refine⟨?_,rfl⟩
  rw[hR]
 ·intro h
  rw[hc] at h
  have h9:decide (aK ps=aK qs∧rp=rq)=true:=by simpa only[Bool.not_eq_false'] using h
  rw[if_pos (agw h9)] at hR
  try refine nv ?_
  refine rA [] ?_
  refine⟨?_,rfl⟩
  rw[hR]
def z127.kk:=p12 kB Tryz.ntmps127 Tryz.underlying77 Jb iW Pe Eh DZ QT nU Pj Tryz.results127
open z127 in
theorem VO (g:Mc) (hb:PB 1000000 g.base) (hh:g.holes.length≤1000000) (hs:∀h∈g.holes,PB 1000000 h):AC Tryz.prog 127 [WN g] [] (fun x st=>x=I .i64 (nS g)∧st=[]):=by
 have h1:=lX g.base hb
 have hR:nS g=if iU g.base then(if g.holes.all iU then(if 64<g.holes.length then 52 else 0) else 51) else 50:=rfl
 have o1:iU g.base=decide (dm g.base=0):=rfl
 obtain⟨b,hs'⟩:=g
 simp only at h1 o1 hR hh hs
 generalize nS ⟨b,hs'⟩=R at hR
 generalize dm b=el at h1 o1
 obtain⟨ps,rp⟩:=b
 refine df Tryz.func127 Tryz.ntmps127 fun x hx=>?_
 (repeat (first|refine nv ?_|refine cf (h1) ?_))
 refine aj ?_ ?_
 ·intro h
  have e:¬el=0:=by simpa using h
  rw[o1,ahK e,if_neg (by simp)] at hR
  try refine nv ?_
  refine rA [] ?_
  refine⟨?_,rfl⟩
  rw[hR]
 intro h
 have e:el=0:=by simpa using h
 rw[o1,ajk e,if_pos rfl] at hR
 try refine nv ?_
 refine au (ι:=Nat) (I:=fun k=>⟨24,[(1, .c (.ptr 1 0)),(10,jR hs'),(11,I .i64 hs'.length),(12,I .i64 k)],[(1, .box ((FU ⟨⟨ps,rp⟩,hs'⟩).map C.d))]⟩)
  (Inv:=fun k=>k≤hs'.length∧(hs'.take k).all iU=true) (μ:=fun k=>hs'.length-k) 0 ⟨by omega,rfl⟩ ?_ ?_
 ·exact bQ
 rintro k ⟨hk,hall⟩
 try refine nv ?_
 refine aj ?_ ?_
 ·intro hlt
  have hlt':k<hs'.length:=by simpa using hlt
  obtain⟨v,hv,he,htk⟩:=round bU hs' k dG hlt'
  have hck:=lX v (hs v (aem hv))
  have o3:iU v=decide (dm v=0):=rfl
  generalize dm v=ev at hck o3
  (repeat (first|refine nx @he ?_|refine cf (hck) ?_))
  refine aj ?_ ?_
  ·intro hb
   have e:¬ev=0:=by simpa using hb
   have hn:¬hs'.all iU=true:=by
    intro e2
    rw[agr] at e2
    have:=e2 v (aem hv)
    rw[o3,ahK e] at this;cases this
   rw[if_neg hn] at hR
   try refine nv ?_
   refine rA [] ?_
   refine⟨?_,rfl⟩
   rw[hR]
  ·intro hb
   have e:ev=0:=by simpa using hb
   try refine nv ?_
   refine⟨k+1,⟨by omega,by rw[htk,ajY,hall];simp[o3,e]⟩,by omega,?_⟩
   exact bQ
 intro hge
 have hk':k=hs'.length:=by have:¬k<hs'.length:=by simpa using hge
                           omega
 rw[hk',afu] at hall
 rw[if_pos hall] at hR
 try refine nv ?_
 have hLI:decide ((64:Int)<(hs'.length:Nat))=decide (64<hs'.length):=ajs.2 (by omega)
 refine aj ?_ ?_
 ·intro h
  rw[hLI] at h
  rw[if_pos (agw h)] at hR
  try refine nv ?_
  refine rA [] ?_
  refine⟨?_,rfl⟩
  rw[hR]
 ·intro h
  rw[hLI] at h
  rw[if_neg (ajJ h)] at hR
  try refine nv ?_
  refine rA [] ?_
  refine⟨?_,rfl⟩
  rw[hR]
def ah7.kk:=MP kB kS Tryz.ntmps126 FH iW KG Af xN Iu IV NC nU WZ Tryz.results126
open ah7 in
theorem UD (e:fA):AC Tryz.prog 126 [adQ e] [] (fun r st=>r=QY e.line∧st=[]):=by
 refine df Tryz.func126 Tryz.ntmps126 fun x hx=>?_
 try refine nv ?_
 refine rA [] ?_
 refine⟨?_,rfl⟩
 rfl
def z63.kk:=U6 kB kS Tryz.ntmps63 Jb iW KG Eh DZ Iu Ir QT nU Pj WZ Tryz.results63
open z63 in
theorem LK (e:fA):AC Tryz.prog 63 [adQ e] [] (fun r st=>r=WN e.F7∧st=[]):=by
 refine df Tryz.func63 Tryz.ntmps63 fun x hx=>?_
 try refine nv ?_
 refine rA [] ?_
 refine⟨?_,rfl⟩
 rfl
def z60.kk:=p6 kB kG Tryz.ntmps60 KG WZ Tryz.results60
open z60 in
theorem VU (e0:fA) (hl:PB 1000000 e0.left) (hr:PB 1000000 e0.right) (hh:e0.holes.length≤1000000) (hs:∀h∈e0.holes,PB 1000000 h):AC Tryz.prog 60 [adQ e0] [] (fun r st=>r=B (Gt e0)∧st=[]):=by
 have h1:=Di e0.line hl hr
 have h2:=VO e0.F7 hl hh hs
 have h3:=UD e0
 have h4:=LK e0
 have hE:Gt e0=(decide (iQ e0.line=0)&&decide (nS e0.F7=0)):=rfl
 generalize Gt e0=E at hE
 generalize iQ e0.line=c1 at h1 hE
 generalize nS e0.F7=c2 at h2 hE
 refine df Tryz.func60 Tryz.ntmps60 fun x hx=>?_
 (repeat (first|refine nv ?_|refine cf (h3) ?_|refine cf (h1) ?_))
 refine so ([(9,WN e0.F7)]) ?_ ?_
 ·exact eQ @h4
 try refine nv ?_
 refine so ([(10,I .i64 c2)]) ?_ ?_
 ·exact eQ @h2
 try refine nv ?_
 refine rA [] ?_
 refine⟨?_,rfl⟩
 rw[hE]
 cases decide (c1=0)<;>rfl
end
end Go.Proofs.YtcpgicfphakdaaaGreatDoor
