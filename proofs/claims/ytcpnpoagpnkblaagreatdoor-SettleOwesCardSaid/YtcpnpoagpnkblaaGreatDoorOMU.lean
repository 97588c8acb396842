/- Texts of this work put together, their blanks and comments taken out: Surp. -/
import Derived.Test.YtcpnpoagpnkblaaGreatDoorOMS
import Derived.Test.YtcpnpoagpnkblaaGreatDoorOMI
set_option linter.unusedVariables false
set_option linter.unusedSimpArgs false
section
section
/- ResultSurplus: what an accepted block gains. -/
set_option maxHeartbeats 2000000
namespace Rf
open Go
abbrev rowF(r:List (List UInt8)):FV:=.list 1 (r.map sF)
abbrev iF(z:Int):FV:=.int .i64 z
theorem q2f{P:List (List (List UInt8))}{i:Nat}(h:i<P.length):at' (P.map rowF) i 0=some (.list 1 (P[i].map sF)):=by rw[q2a,Ag h];rfl
theorem iF_at{q:List Int}{i:Nat}(h:i<q.length):at' (q.map iF) i 0=some (.int .i64 q[i]):=by rw[q2a,Ag h];rfl
theorem q9x(a b:Nat):(if(a:Int)<(b:Int)then(a:Int)else(b:Int))=((min a b:Nat):Int):=by
 split <;> omega
def Few(r:List (List UInt8)):Prop:=r.length<=256/\∀t,t∈r->t.length<=256
noncomputable def sumR(pc:Rat):List (List UInt8)->List Int->Rat->Option Rat
 |t::ts,q::qs,acc=>(pr t).bind λr=>sumR pc ts qs (acc+(r-pc)*(q:Rat))
 |_,_,acc=>some acc
def sgn(b:Bool)(r:Rat):Rat:=bif b then -r else r
noncomputable def surpR(b:Bool):Option Rat->List FV
 |none=>[.str (txt []),.int .i64 10]
 |some s=>[sF (qx (sgn b s)),.int .i64 0]
theorem Bd.sgn{k:Nat}{r:Rat}(h:Bd k r)(b:Bool):Bd k (sgn b r):=by
 cases b
 ·exact h
 ·exact h.neg
theorem qat{z:Int}(h1:-100000<=z)(h2:z<=100000):Bd 1024 (z:Rat):=by
 refine(Bd.int (k:=17) ?_ (by omega)).mono (by omega);have:(2:Nat)^17=131072:=rfl;omega
theorem q89:Bd 1 (0:Rat):=⟨by decide,by decide⟩
section
variable {s0:List UInt8} {x1 x2 x4 x6 x7:Int} {b:Bool} {q:List Int} {P:List (List (List UInt8))}
structure SOk(x2 x4:Int)(q:List Int)(P:List (List (List UInt8))):Prop where
 qe:-100000<=x4/\x4<=100000
 qty:∀x,x∈q->-100000<=x/\x<=100000
 few:P.length<=256/\∀r,r∈P->Few r
 len:P.length=q.length
 zone:∀r,r∈P->0<=x2/\x2<(r.length:Int)
def q3n(x2:Int)(P:List (List (List UInt8))):List (List UInt8):=P.map λr=>r.getD x2.toNat []
theorem qgz(h:SOk x2 x4 q P){i:Nat}(hi:i<P.length):ix x2 (P[i].map sF).length=some x2.toNat/\at' (P[i].map sF) x2.toNat 0=some (sF (P[i].getD x2.toNat []))/\(P[i].getD x2.toNat []).length<=256:=by
 obtain⟨h0,h1⟩:=h.zone P[i] (Ah hi);have hz:x2.toNat<P[i].length:=by omega
 refine⟨by rw[Aa,ix_int h0 h1],?_,?_⟩
 ·rw[q8s hz,AG,Ag hz];rfl
 ·rw[AG,Ag hz];exact(h.few.2 _ (Ah hi)).2 _ (Ah hz)
theorem qe7{i:Nat}(hi:i<P.length):(q3n x2 P).drop i=P[i].getD x2.toNat []::(q3n x2 P).drop (i+1):=by
 have:i<(q3n x2 P).length:=by simp[q3n];exact hi
 rw[AY this];congr 1;simp[q3n]
theorem surp_loop(h:SOk x2 x4 q P):∀(d i:Nat) (acc:Rat) (da:Nat),i+d=P.length->Bd (1+4099*i) acc->dn da=acc.den->∃n0,∀n m,n0<=n->n0<=m ->
  q7v.l6 n [] m [sF s0,iF x1,iF x2,.bool b,iF x4,.list 1 (q.map iF),iF x6,iF x7,zl (acc).num,zb (acc).num,nL (da),.bool false,.list 1 (P.map rowF),.int .i64 (P.length:Int),.int .i64 (i:Int)]=some (surpR b (sumR (x4:Rat) ((q3n x2 P).drop i) (q.drop i) acc)):=by
 have hp:=h.qe;have hP:=h.few.1;intro d
 induction d with
 |zero =>
  intro i acc da hi hb hd;have e1:(q3n x2 P).drop i=[]:=AN (by simp[q3n];omega);obtain⟨n1,h1⟩:=qbc (k:=1+4099*i) (by omega) (by omega) hb hd;obtain⟨n2,h2⟩:=rneg_ev (k:=1+4099*i) (by omega) hb hd;obtain⟨n3,h3⟩:=qbc (k:=1+4099*i) (q:=-acc) (by omega) (by omega) hb.neg (qb _);refine⟨n1+n2+n3+1,λn m hn hm=>?_⟩;obtain⟨m,rfl⟩:=qSx m;rw[q7v.q2o,Ad,Ab,e1];cases b
  ·rw[Ab];simp (disch:=omega) only[h1,rr];rfl
  ·rw[Ac]
   try simp (disch:=omega) only[h2,rr]
   try simp (disch:=omega) only[h3,rr]
   rfl
 |succ d ih =>
  intro i acc da hi hb hd;have hil:i<P.length:=by omega
  have hiq:i<q.length:=by have:=h.len;omega
  obtain⟨z1,z2,z3⟩:=qgz h hil;have e1:=qe7 (x2:=x2) hil;have e2:q.drop i=q[i]::q.drop (i+1):=AY hiq;have hq:=h.qty _ (Ah hiq);have head:∀n m,q7v.l6 n [] (m+1) [sF s0,iF x1,iF x2,.bool b,iF x4,.list 1 (q.map iF),iF x6,iF x7,zl (acc).num,zb (acc).num,nL (da),.bool false,.list 1 (P.map rowF),.int .i64 (P.length:Int),.int .i64 (i:Int)]=_:=λn m=>by
   rw[q7v.q2o,Af,Ac,Aa,q9 hil,Ae,q2f hil,qy,Ae,z1,Ae,z2,q2k,Ae]
  rw[e1,e2,sumR];cases hpr:pr (P[i].getD x2.toNat [])with
  |none =>
   obtain⟨n1,h1⟩:=qj9 hpr (by omega);refine⟨n1+1,λn m hn hm=>?_⟩;obtain⟨m,rfl⟩:=qSx m;rw[head]
   try simp (disch:=omega) only[h1,rr]
   try simp only[show((10:Int) !=0)=true from rfl,rr]
   rfl
  |some r =>
   have br:Bd 1024 r:=(qad hpr).mono (by omega);have bx:=qat hp.1 hp.2;have bq:=qat hq.1 hq.2;have bs:Bd 2049 (r-x4):=(br.sub bx).mono (by omega);have bm:Bd 4098 ((r-x4)*(q[i]:Rat)):=(bs.mul (bq.mono (show 1024<=2049 by omega))).mono (by omega);have ba:Bd (1+4099*(i+1)) (acc+(r-x4)*(q[i]:Rat)):=(hb.add bm).mono (by omega);obtain⟨n1,h1⟩:=qj8 hpr (by omega);obtain⟨n2,h2⟩:=of_ev (z:=x4);obtain⟨n3,h3⟩:=rsub_ev (k:=1024) (by omega) (by omega) br bx (qb _) (qb _);obtain⟨n4,h4⟩:=of_ev (z:=q[i]);obtain⟨n5,h5⟩:=rmul_ev (k:=2049) (by omega) (by omega) bs (bq.mono (show 1024<=2049 by omega)) (qb _) (qb _);obtain⟨n6,h6⟩:=radd_ev (k:=1+4099*i+4098) (by omega) (by omega) (hb.mono (by omega)) (bm.mono (by omega)) hd (qb _);obtain⟨n7,h7⟩:=ih (i+1) _ _ (by omega) ba (qb _);refine⟨n1+n2+n3+n4+n5+n6+n7+1,λn m hn hm=>?_⟩;obtain⟨m,rfl⟩:=qSx m;rw[head]
   try simp (disch:=omega) only[h1,rr]
   try simp only[show((0:Int) !=0)=false from rfl,rr]
   try simp (disch:=omega) only[h2,rr]
   try simp (disch:=omega) only[h3,rr]
   rw[Aa,q9 hiq,Ae,iF_at hiq,qi,Ae]
   try simp (disch:=omega) only[h4,rr]
   try simp (disch:=omega) only[h5,rr]
   try simp (disch:=omega) only[h6,rr]
   rw[qc];exact h7 n m (by omega) (by omega)
theorem qrz(h:SOk x2 x4 q P):∀(d i:Nat) (acc:Rat),i+d=P.length->Bd (1+4099*i) acc->∃n0,∀n m,n0<=n->n0<=m ->
  q3f.l10 n [] m [sF s0,iF x1,iF x2,.bool b,iF x4,.list 1 (q.map iF),iF x6,iF x7,zb (sgn b acc).num,wl (sgn b acc).num,.bool false,wL (sgn b acc).den,.list 1 (P.map rowF),.int .i64 (i:Int)]=some (surpR b (sumR (x4:Rat) ((q3n x2 P).drop i) (q.drop i) acc)):=by
 have hp:=h.qe;have hP:=h.few.1;intro d
 induction d with
 |zero =>
  intro i acc hi hb;have e1:(q3n x2 P).drop i=[]:=AN (by simp[q3n];omega);obtain⟨n1,h1⟩:=qcy (k:=1+4099*i) (by omega) (hb.sgn b) (qb _);refine⟨n1+1,λn m hn hm=>?_⟩;obtain⟨m,rfl⟩:=qSx m;rw[q3f.q4d,Aa,Ad,Ab,e1];simp (disch:=omega) only[h1,rr];rfl
 |succ d ih =>
  intro i acc hi hb;have hil:i<P.length:=by omega
  have hiq:i<q.length:=by have:=h.len;omega
  obtain⟨z1,z2,z3⟩:=qgz h hil;have e1:=qe7 (x2:=x2) hil;have e2:q.drop i=q[i]::q.drop (i+1):=AY hiq;have hq:=h.qty _ (Ah hiq);have head:∀n m,q3f.l10 n [] (m+1) [sF s0,iF x1,iF x2,.bool b,iF x4,.list 1 (q.map iF),iF x6,iF x7,zb (sgn b acc).num,wl (sgn b acc).num,.bool false,wL (sgn b acc).den,.list 1 (P.map rowF),.int .i64 (i:Int)]=_:=λn m=>by
   rw[q3f.q4d,Aa,Af,Ac,q9 hil,Ae,q2f hil,qy,Ae,z1,Ae,z2,q2k,Ae]
  rw[e1,e2,sumR];cases hpr:pr (P[i].getD x2.toNat [])with
  |none =>
   obtain⟨n1,h1⟩:=qjc hpr (by omega);refine⟨n1+1,λn m hn hm=>?_⟩;obtain⟨m,rfl⟩:=qSx m;rw[head]
   try simp (disch:=omega) only[h1,rr]
   try simp only[show((10:Int) !=0)=true from rfl,rr]
   rfl
  |some r =>
   have br:Bd 1024 r:=(qad hpr).mono (by omega);have bx:=qat hp.1 hp.2;have bq:=qat hq.1 hq.2;have bs:Bd 2049 (r-x4):=(br.sub bx).mono (by omega);have bm:Bd 4098 ((r-x4)*(q[i]:Rat)):=(bs.mul (bq.mono (show 1024<=2049 by omega))).mono (by omega);have ba:Bd (1+4099*(i+1)) (acc+(r-x4)*(q[i]:Rat)):=(hb.add bm).mono (by omega);obtain⟨n1,h1⟩:=qjb hpr (by omega);obtain⟨n2,h2⟩:=qac (z:=x4);obtain⟨n3,h3⟩:=qfi (k:=1024) (by omega) br bx (qb _) (qb _);obtain⟨n4,h4⟩:=qac (z:=q[i]);obtain⟨n7,h7⟩:=ih (i+1) _ (by omega) ba;cases b
   ·have bm':Bd (1+4099*i+4098) ((r-x4)*(q[i]:Rat)):=bm.mono (by omega);obtain⟨n5,h5⟩:=qcx (k:=2049) (by omega) bs (bq.mono (show 1024<=2049 by omega)) (qb _) (qb _);obtain⟨n6,h6⟩:=qcw (q:=sgn false acc) (k:=1+4099*i+4098) (by omega) (hb.mono (by omega)) bm' (qb _) (qb _);refine⟨n1+n2+n3+n4+n5+n6+n7+1,λn m hn hm=>?_⟩;obtain⟨m,rfl⟩:=qSx m;rw[head]
    try simp (disch:=omega) only[h1,rr]
    try simp only[show((0:Int) !=0)=false from rfl,rr]
    try simp (disch:=omega) only[h2,rr]
    try simp (disch:=omega) only[h3,rr]
    rw[Aa,q9 hiq];simp only[Ae,iF_at hiq,qi]
    try simp (disch:=omega) only[h4,rr]
    try simp (disch:=omega) only[h5,rr]
    try simp (disch:=omega) only[h6,rr]
    rw[qc];exact h7 n m (by omega) (by omega)
   ·have bn:Bd 2049 (-(r-x4)):=bs.neg;have bm':Bd (1+4099*i+4098) (-(r-x4)*(q[i]:Rat)):=(bn.mul (bq.mono (show 1024<=2049 by omega))).mono (by omega);obtain⟨n8,h8⟩:=qfj (q:=r-x4) (qb _);obtain⟨n5,h5⟩:=qcx (k:=2049) (by omega) bn (bq.mono (show 1024<=2049 by omega)) (qb _) (qb _);obtain⟨n6,h6⟩:=qcw (q:=sgn true acc) (k:=1+4099*i+4098) (by omega) ((hb.sgn true).mono (by omega)) bm' (qb _) (qb _);have es:sgn true acc+-(r-x4)*(q[i]:Rat)=sgn true (acc+(r-x4)*(q[i]:Rat)):=by
     simp only[sgn,Ac];rw[Rat.neg_mul,Rat.neg_add]
    rw[es]at h6;refine⟨n1+n2+n3+n4+n5+n6+n7+n8+1,λn m hn hm=>?_⟩;obtain⟨m,rfl⟩:=qSx m;rw[head]
    try simp (disch:=omega) only[h1,rr]
    try simp only[show((0:Int) !=0)=false from rfl,rr]
    try simp (disch:=omega) only[h2,rr]
    try simp (disch:=omega) only[h3,rr]
    try simp (disch:=omega) only[h8,rr]
    rw[Aa,q9 hiq];simp only[Ae,iF_at hiq,qi]
    try simp (disch:=omega) only[h4,rr]
    try simp (disch:=omega) only[h5,rr]
    try simp (disch:=omega) only[h6,rr]
    rw[qc];exact h7 n m (by omega) (by omega)
end
end Rf
end
section
set_option maxHeartbeats 2000000
namespace Rf
open Go
section
variable {s0:List UInt8} {x1 x2 x4 x6 x7:Int} {b:Bool} {q:List Int} {P:List (List (List UInt8))}
def oddZ(x2:Int)(r:List (List UInt8)):Bool:=!(decide (0<=x2)&&decide (x2<(r.length:Int)))
theorem odd_run{n:Nat}{r:List (List UInt8)}{F:List FV}(hl:r.length<=9000000000000000):evF En (n+2) 174 [rowF r,sF s0,iF x1,iF x2,.bool b,iF x4,.list 1 F,iF x6,iF x7]=some [sF s0,iF x1,iF x2,.bool b,iF x4,.list 1 F,iF x6,iF x7,.bool (oddZ x2 r)]:=by
 rw[qqv,qqu,Aa,qk];unfold oddZ;by_cases h:0<=x2
 ·rw[Af h,Ac];simp only[rr];have:decide (x2<=(r.length:Int)-1)=decide (x2<(r.length:Int)):=by
   rw[Bm,As,As];omega
  rw[this,AB]
 ·rw[Ad h,Ab];simp only[rr];rw[Ck]
theorem idx_loop{F:List FV}(hl:P.length<=9000000000000)(hr:∀r,r∈P->r.length<=9000000000000000):∀(d i:Nat),i+d=P.length->∃k:Int,(decide (k≥0)=(P.drop i).any (oddZ x2))/\∀n m,2<=n->d<m ->
  q8o.l2 n [] m [sF s0,iF x1,iF x2,.bool b,iF x4,.list 1 F,iF x6,iF x7,.list 1 (P.map rowF),.int .i64 (P.length:Int),.int .i64 (i:Int)]=some [sF s0,iF x1,iF x2,.bool b,iF x4,.list 1 F,iF x6,iF x7,.int .i64 k]:=by
 intro d
 induction d with
 |zero =>
  intro i hi;refine⟨-1,by rw[AN (by omega)];rfl,λn m hn hm=>?_⟩;obtain⟨m,rfl⟩:=qSx m;rw[q8o.qt,Ad,Ab]
 |succ d ih =>
  intro i hi;have hil:i<P.length:=by omega
  have e1:P.drop i=P[i]::P.drop (i+1):=AY hil;cases ho:oddZ x2 P[i]with
  |true =>
   refine⟨i,by rw[e1,DO,ho,Dc,Af],λn m hn hm=>?_⟩;obtain⟨m,rfl⟩:=qSx m;obtain⟨n,rfl⟩:∃k,n=k+2:=⟨n-2,by omega⟩;rw[q8o.qt,Af,Ac,Aa,q9 hil,Ae,q2f hil,qy,Ae,odd_run (hr _ (Ah hil)),ho];simp only[rr]
  |false =>
   obtain⟨k,h1,h2⟩:=ih (i+1) (by omega);refine⟨k,by rw[e1,DO,ho,BR,h1],λn m hn hm=>?_⟩;obtain⟨m,rfl⟩:=qSx m;obtain⟨n,rfl⟩:∃k,n=k+2:=⟨n-2,by omega⟩;rw[q8o.qt,Af,Ac,Aa,q9 hil,Ae,q2f hil,qy,Ae,odd_run (hr _ (Ah hil)),ho];simp only[rr];rw[qc];exact h2 (n+2) m hn (by omega)
theorem qs0{F:List FV}(hl:P.length<=9000000000000)(hr:∀r,r∈P->r.length<=9000000000000000):Ev En 175 [.list 1 (P.map rowF),sF s0,iF x1,iF x2,.bool b,iF x4,.list 1 F,iF x6,iF x7] [sF s0,iF x1,iF x2,.bool b,iF x4,.list 1 F,iF x6,iF x7,.bool (P.any (oddZ x2))]:=by
 obtain⟨k,hk,hidx⟩:=idx_loop (s0:=s0) (x1:=x1) (x2:=x2) (x4:=x4) (x6:=x6) (x7:=x7) (b:=b) (P:=P) (F:=F) hl hr P.length 0 (by omega);rw[Av]at hk;refine Ev.of (P.length+6) λn hn=>?_;obtain⟨n,rfl⟩:=qSx n;have hi:=hidx n n (by omega) (by omega);rw[show((0:Nat):Int)=0 from rfl]at hi;rw[qqw,qqx,Aa,hi,<- hk];rfl
noncomputable def q72(x2 x4:Int)(q:List Int)(P:List (List (List UInt8)))(b:Bool):List FV :=
 if P.length=q.length/\P.any (oddZ x2)=false then surpR b (sumR (x4:Rat) (q3n x2 P) q 0)else [.str (txt []),.int .i64 120]
structure POk(x4:Int)(q:List Int)(P:List (List (List UInt8))):Prop where
 qe:-100000<=x4/\x4<=100000
 qty:∀x,x∈q->-100000<=x/\x<=100000
 few:P.length<=256/\∀r,r∈P->Few r
 qlen:q.length<=256
theorem POk.s(h:POk x4 q P)(hl:P.length=q.length)(ho:P.any (oddZ x2)=false):SOk x2 x4 q P where
 qe:=h.qe
 qty:=h.qty
 few:=h.few
 len:=hl
 zone:=λr hr=>by
  have:=DY.1 ho r hr;simp only[oddZ,Ch,Bool.not_eq_false,Ai,As]at this;exact this
theorem len_ne{a c:Nat}(h:a≠c):((a:Int) !=(c:Int))=true:=by simp;omega
theorem len_eq{a c:Nat}(h:a=c):((a:Int) !=(c:Int))=false:=by simp;omega
theorem surp_ev(h:POk x4 q P):Ev En 117 [sF s0,iF x1,iF x2,.bool b,iF x4,.list 1 (q.map iF),iF x6,iF x7,.list 1 (P.map rowF)] (q72 x2 x4 q P b):=by
 have hP:=h.few.1;by_cases hl:P.length=q.length
 ·obtain⟨n2,h2⟩:=qs0 (s0:=s0) (x1:=x1) (x2:=x2) (x4:=x4) (x6:=x6) (x7:=x7) (b:=b) (P:=P) (F:=q.map iF) (by omega) (λr hr=>by have:=(h.few.2 r hr).1;omega);have head:∀n,n2<=n->evF En (n+1) 117 [sF s0,iF x1,iF x2,.bool b,iF x4,.list 1 (q.map iF),iF x6,iF x7,.list 1 (P.map rowF)] =
    (bif P.any (oddZ x2)then some [.str { data:=#[] },.int .i64 120]
     else q7v.l6 n [] n [sF s0,iF x1,iF x2,.bool b,iF x4,.list 1 (q.map iF),iF x6,iF x7,.list 1 [],.bool false,.list 1 [],.bool false,.list 1 (P.map rowF),.int .i64 (P.length:Int),.int .i64 0]):=λn hn=>by
   rw[qka,Aa,Aa,len_eq hl,Ab,h2 n hn];rfl
  cases ho:P.any (oddZ x2)with
  |true =>
   refine Ev.of n2 λn hn=>?_;rw[head n hn,ho,Ac];unfold q72;rw[if_neg (λq=>by rw[ho]at q;cases q.2)];rfl
  |false =>
   obtain⟨n1,h1⟩:=surp_loop (s0:=s0) (x1:=x1) (x6:=x6) (x7:=x7) (b:=b) (h.s (x2:=x2) hl ho) P.length 0 0 0 (by omega) q89 rfl;refine Ev.of (n2+n1) λn hn=>?_;have g1:=h1 n n (by omega) (by omega);rw[show((0:Nat):Int)=0 from rfl]at g1;rw[show zl (0:Rat).num=nL 0 from rfl,show zb (0:Rat).num=.bool false from rfl,q3m,Av,Av]at g1;rw[head n (by omega),ho,Ab];unfold q72;rw[if_pos ⟨hl,ho⟩];exact g1
 ·refine Ev.of 0 λn hn=>?_;rw[qka,Aa,Aa,len_ne hl,Ac];unfold q72;rw[if_neg (λq=>hl q.1)];rfl
theorem ql6{n:Nat}{F:List FV}(hl:P.length<=9000000000000):∀(d i m:Nat),i+d=P.length->d<m ->
  q3f.l4 n [] m [sF s0,iF x1,iF x2,.bool b,iF x4,.list 1 F,iF x6,iF x7,.list 1 (P.map rowF),.int .i64 (i:Int)]=bif(P.drop i).any (oddZ x2)then some [.str (txt []),.int .i64 120]
   else(evF En n 12 [.int .i64 0]).bind λr2=>(asBool (r2[0]?)).bind λc3=>(asLst 1 (r2[1]?)).bind λv4=>(asBool (r2[2]?)).bind λc5=>(asLst 1 (r2[3]?)).bind λv6=>q3f.l10 n [] n [sF s0,iF x1,iF x2,.bool b,iF x4,.list 1 F,iF x6,iF x7,.bool c3,.list 1 v4,.bool c5,.list 1 v6,.list 1 (P.map rowF),.int .i64 0]:=by
 intro d
 induction d with
 |zero =>
  intro i m hi hm;obtain⟨m,rfl⟩:=qSx m;rw[q3f.q14,Aa,Ad,Ab,AN (by omega)];rfl
 |succ d ih =>
  intro i m hi hm;obtain⟨m,rfl⟩:=qSx m;have hil:i<P.length:=by omega
  have e1:P.drop i=P[i]::P.drop (i+1):=AY hil;rw[q3f.q14,Aa,Af,Ac,e1,DO];have ho:oddZ x2 P[i]=!(decide (0<=x2)&&decide (x2<(P[i].length:Int))):=rfl;by_cases h1:x2<0
  ·rw[Af h1,Ac,ho,Ad];rfl
  ·rw[Ad h1,Ab,q9 hil,Ae,q2f hil,qy,Ae,Aa];by_cases h2:(P[i].length:Int)<=x2
   ·rw[Af,Ac,ho,Af,Ad];rfl
   ·rw[Ad,Ab,ho,Af,Af,qc,ih (i+1) m (by omega) (by omega)];rfl
theorem wsurp_ev(h:POk x4 q P):Ev En 61 [sF s0,iF x1,iF x2,.bool b,iF x4,.list 1 (q.map iF),iF x6,iF x7,.list 1 (P.map rowF)] (q72 x2 x4 q P b):=by
 have hP:=h.few.1;by_cases hl:P.length=q.length
 ·cases ho:P.any (oddZ x2)with
  |true =>
   refine Ev.of (P.length+6) λn hn=>?_;have:=ql6 (n:=n) (s0:=s0) (x1:=x1) (x2:=x2) (x4:=x4) (x6:=x6) (x7:=x7) (b:=b) (P:=P) (F:=q.map iF) (by omega) P.length 0 n (by omega) (by omega);rw[show((0:Nat):Int)=0 from rfl,Av,ho,Ac]at this;rw[qgb,Aa,Aa,len_eq hl,Ab,this];unfold q72;rw[if_neg (λq=>by rw[ho]at q;cases q.2)]
  |false =>
   obtain⟨n1,h1⟩:=qrz (s0:=s0) (x1:=x1) (x6:=x6) (x7:=x7) (b:=b) (h.s (x2:=x2) hl ho) P.length 0 0 (by omega) q89;have hs:sgn b 0=0:=by cases b <;> rfl
   rw[hs]at h1;obtain⟨n2,h2⟩:=qac (z:=0);refine Ev.of (P.length+n1+n2+6) λn hn=>?_;have g1:=h1 n n (by omega) (by omega);rw[show((0:Nat):Int)=0 from rfl,Av,Av]at g1;have:=ql6 (n:=n) (s0:=s0) (x1:=x1) (x2:=x2) (x4:=x4) (x6:=x6) (x7:=x7) (b:=b) (P:=P) (F:=q.map iF) (by omega) P.length 0 n (by omega) (by omega);rw[show((0:Nat):Int)=0 from rfl,Av,ho,Ab]at this;rw[qgb,Aa,Aa,len_eq hl,Ab,this];simp (disch:=omega) only[h2,rr];unfold q72;rw[if_pos ⟨hl,ho⟩];exact g1
 ·refine Ev.of 0 λn hn=>?_;rw[qgb,Aa,Aa,len_ne hl,Ac];unfold q72;rw[if_neg (λq=>hl q.1)];rfl
theorem sum_bd(h:SOk x2 x4 q P):∀(d i:Nat) (acc s:Rat),i+d=P.length->Bd (1+4099*i) acc->sumR (x4:Rat) ((q3n x2 P).drop i) (q.drop i) acc=some s->Bd (1+4099*256) s:=by
 have hp:=h.qe;have hP:=h.few.1;intro d
 induction d with
 |zero =>
  intro i acc s hi hb hs;have e1:(q3n x2 P).drop i=[]:=AN (by simp[q3n];omega);rw[e1,sumR]at hs;cases hs
  ·exact hb.mono (by omega)
  ·intro _ _ _ _ h;cases h
 |succ d ih =>
  intro i acc s hi hb hs;have hil:i<P.length:=by omega
  have hiq:i<q.length:=by have:=h.len;omega
  obtain⟨z1,z2,z3⟩:=qgz h hil;have e1:=qe7 (x2:=x2) hil;have e2:q.drop i=q[i]::q.drop (i+1):=AY hiq;have hq:=h.qty _ (Ah hiq);rw[e1,e2,sumR]at hs;cases hpr:pr (P[i].getD x2.toNat [])with
  |none=>rw[hpr]at hs;cases hs
  |some r =>
   rw[hpr,Ae]at hs;have br:Bd 1024 r:=(qad hpr).mono (by omega);have bx:=qat hp.1 hp.2;have bq:=qat hq.1 hq.2;have bs:Bd 2049 (r-x4):=(br.sub bx).mono (by omega);have bm:Bd 4098 ((r-x4)*(q[i]:Rat)):=(bs.mul (bq.mono (show 1024<=2049 by omega))).mono (by omega);have ba:Bd (1+4099*(i+1)) (acc+(r-x4)*(q[i]:Rat)):=(hb.add bm).mono (by omega);exact ih (i+1) _ s (by omega) ba hs
end
theorem Fits.qh0{x:FV}(h:Fits .str x):∃l:List UInt8,x=sF l/\l.length<=140737488351232:=by
 obtain⟨s,rfl,hs⟩:=h.q5b;exact⟨s.data.toList,rfl,by rw[Bw];exact hs⟩
theorem Fits.qii{x:FV}(h:Fits (.lst false 16 [.str]) x):∃r:List (List UInt8),x=rowF r/\r.length<=140737488355328:=by
 obtain⟨l,rfl,hl,_⟩:=h.q8y sF (R:=λ_=>True) λcs hcs=>by
  obtain⟨y,r,rfl,hy,hr⟩:=hcs.cons_inv;obtain rfl:=hr.q88;obtain⟨t,rfl,_⟩:=hy.qh0;exact⟨t,rfl,trivial⟩
 exact⟨l,rfl,by omega⟩
end Rf
end
end
