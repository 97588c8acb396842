/- Texts of this work put together, their blanks and comments taken out: Surp. -/
import Derived.Test.YtcpnpoagpnkblaaGreatDoorVMS
import Derived.Test.YtcpnpoagpnkblaaGreatDoorVMI
set_option linter.unusedVariables false
set_option linter.unusedSimpArgs false
section
section
/- ResultSurplus: what an accepted block gains. -/
set_option maxHeartbeats 2000000
namespace Rf
open Go
abbrev rowF(r:List (List UInt8)):FV:=.list 1 (r.map sF)
abbrev iF(z:Int):FV:=.int .i64 z
theorem q3a{P:List (List (List UInt8))}{i:Nat}(h:i<P.length):at' (P.map rowF) i 0=some (.list 1 (P[i].map sF)):=by rw[q21,List.getElem?_eq_getElem h];rfl
theorem iF_at{q:List Int}{i:Nat}(h:i<q.length):at' (q.map iF) i 0=some (.int .i64 q[i]):=by rw[q21,List.getElem?_eq_getElem h];rfl
def Few(r:List (List UInt8)):Prop:=r.length<=256/\∀t,t∈r->t.length<=256
noncomputable def sumR(pc:Rat):List (List UInt8)->List Int->Rat->Option Rat
 |t::ts,q::qs,acc=>(pr t).bind λr=>sumR pc ts qs (acc+(r-pc)*(q:Rat))
 |_,_,acc=>some acc
def sgn(b:Bool)(r:Rat):Rat:=bif b then -r else r
noncomputable def surpR(b:Bool):Option Rat->List FV
 |none=>[.str (txt []),.int .i64 10]
 |some s=>[sF (qx (sgn b s)),.int .i64 0]
theorem Bd.sgn{k:Nat}{r:Rat}(h:Bd k r)(b:Bool):Bd k (sgn b r):=by
 cases b
 ·exact h
 ·exact h.neg
theorem q94{z:Int}(h1:-100000<=z)(h2:z<=100000):Bd 1024 (z:Rat):=by
 refine(Bd.int (k:=17) ?_ (by omega)).mono (by omega);have:(2:Nat)^17=131072:=rfl;omega
theorem qaz:Bd 1 (0:Rat):=⟨by decide,by decide⟩
section
variable {s0:List UInt8} {x1 x2 x4 x6 x7:Int} {b:Bool} {q:List Int} {P:List (List (List UInt8))}
structure SOk(x2 x4:Int)(q:List Int)(P:List (List (List UInt8))):Prop where
 qo:-100000<=x4/\x4<=100000
 qty:∀x,x∈q->-100000<=x/\x<=100000
 few:P.length<=256/\∀r,r∈P->Few r
 len:P.length=q.length
 zone:∀r,r∈P->0<=x2/\x2<(r.length:Int)
def q2v(x2:Int)(P:List (List (List UInt8))):List (List UInt8):=P.map λr=>r.getD x2.toNat []
theorem qeh(h:SOk x2 x4 q P){i:Nat}(hi:i<P.length):ix x2 (P[i].map sF).length=some x2.toNat/\at' (P[i].map sF) x2.toNat 0=some (sF (P[i].getD x2.toNat []))/\(P[i].getD x2.toNat []).length<=256:=by
 obtain⟨h0,h1⟩:=h.zone P[i] (List.getElem_mem hi);have hz:x2.toNat<P[i].length:=by omega
 refine⟨by rw[List.length_map,ix_int h0 h1],?_,?_⟩
 ·rw[sF_at hz,List.getD_eq_getElem?_getD,List.getElem?_eq_getElem hz];rfl
 ·rw[List.getD_eq_getElem?_getD,List.getElem?_eq_getElem hz];exact(h.few.2 _ (List.getElem_mem hi)).2 _ (List.getElem_mem hz)
theorem qc7{i:Nat}(hi:i<P.length):(q2v x2 P).drop i=P[i].getD x2.toNat []::(q2v x2 P).drop (i+1):=by
 have:i<(q2v x2 P).length:=by simp[q2v];exact hi
 rw[List.drop_eq_getElem_cons this];congr 1;simp[q2v]
theorem surp_loop(h:SOk x2 x4 q P):∀(d i:Nat) (acc:Rat) (da:Nat),i+d=P.length->Bd (1+4099*i) acc->dn da=acc.den->∃n0,∀n m,n0<=n->n0<=m ->
  q60.l6 n [] m [sF s0,iF x1,iF x2,.bool b,iF x4,.list 1 (q.map iF),iF x6,iF x7,zl (acc).num,zb (acc).num,nL (da),.bool false,.list 1 (P.map rowF),.int .i64 (P.length:Int),.int .i64 (i:Int)]=some (surpR b (sumR (x4:Rat) ((q2v x2 P).drop i) (q.drop i) acc)):=by
 have hp:=h.qo;have hP:=h.few.1;intro d
 induction d with
 |zero =>
  intro i acc da hi hb hd;have e1:(q2v x2 P).drop i=[]:=List.drop_of_length_le (by simp[q2v];omega);obtain⟨n1,h1⟩:=q9m (k:=1+4099*i) (by omega) (by omega) hb hd;obtain⟨n2,h2⟩:=rneg_ev (k:=1+4099*i) (by omega) hb hd;obtain⟨n3,h3⟩:=q9m (k:=1+4099*i) (q:=-acc) (by omega) (by omega) hb.neg (qj _);refine⟨n1+n2+n3+1,λn m hn hm=>?_⟩;obtain⟨m,rfl⟩:=qSx m (by omega);rw[q60.q2p,decide_eq_false (by omega),cond_false,e1];cases b
  ·rw[cond_false];simp (disch:=omega) only[h1,Option.bind_some,List.getElem?_cons_zero,qg];rfl
  ·rw[cond_true]
   try simp (disch:=omega) only[h2,Option.bind_some,List.getElem?_cons_zero,List.getElem?_cons_succ,q9,qa]
   try simp (disch:=omega) only[h3,Option.bind_some,List.getElem?_cons_zero,qg]
   rfl
 |succ d ih =>
  intro i acc da hi hb hd;have hil:i<P.length:=by omega
  have hiq:i<q.length:=by have:=h.len;omega
  obtain⟨z1,z2,z3⟩:=qeh h hil;have e1:=qc7 (x2:=x2) hil;have e2:q.drop i=q[i]::q.drop (i+1):=List.drop_eq_getElem_cons hiq;have hq:=h.qty _ (List.getElem_mem hiq);have head:∀n m,q60.l6 n [] (m+1) [sF s0,iF x1,iF x2,.bool b,iF x4,.list 1 (q.map iF),iF x6,iF x7,zl (acc).num,zb (acc).num,nL (da),.bool false,.list 1 (P.map rowF),.int .i64 (P.length:Int),.int .i64 (i:Int)]=_:=λn m=>by
   rw[q60.q2p,decide_eq_true (by omega),cond_true,List.length_map,qc hil,Option.bind_some,q3a hil,q9,Option.bind_some,z1,Option.bind_some,z2,qg,Option.bind_some]
  rw[e1,e2,sumR];cases hpr:pr (P[i].getD x2.toNat [])with
  |none =>
   obtain⟨n1,h1⟩:=qgl hpr (by omega);refine⟨n1+1,λn m hn hm=>?_⟩;obtain⟨m,rfl⟩:=qSx m (by omega);rw[head]
   try simp (disch:=omega) only[h1,Option.bind_some,List.getElem?_cons_zero,List.getElem?_cons_succ,q9,qb,qa]
   try simp (disch:=omega) only[show((10:Int) !=0)=true from rfl,cond_true]
   rfl
  |some r =>
   have br:Bd 1024 r:=(q8j hpr).mono (by omega);have bx:=q94 hp.1 hp.2;have bq:=q94 hq.1 hq.2;have bs:Bd 2049 (r-x4):=(br.sub bx).mono (by omega);have bm:Bd 4098 ((r-x4)*(q[i]:Rat)):=(bs.mul (bq.mono (show 1024<=2049 by omega))).mono (by omega);have ba:Bd (1+4099*(i+1)) (acc+(r-x4)*(q[i]:Rat)):=(hb.add bm).mono (by omega);obtain⟨n1,h1⟩:=qgk hpr (by omega);obtain⟨n2,h2⟩:=of_ev (z:=x4) (by omega) (by omega);obtain⟨n3,h3⟩:=rsub_ev (k:=1024) (by omega) (by omega) br bx (qj _) (qj _);obtain⟨n4,h4⟩:=of_ev (z:=q[i]) (by omega) (by omega);obtain⟨n5,h5⟩:=rmul_ev (k:=2049) (by omega) (by omega) bs (bq.mono (show 1024<=2049 by omega)) (qj _) (qj _);obtain⟨n6,h6⟩:=radd_ev (k:=1+4099*i+4098) (by omega) (by omega) (hb.mono (by omega)) (bm.mono (by omega)) hd (qj _);obtain⟨n7,h7⟩:=ih (i+1) _ _ (by omega) ba (qj _);refine⟨n1+n2+n3+n4+n5+n6+n7+1,λn m hn hm=>?_⟩;obtain⟨m,rfl⟩:=qSx m (by omega);rw[head]
   try simp (disch:=omega) only[h1,Option.bind_some,List.getElem?_cons_zero,List.getElem?_cons_succ,q9,qb,qa]
   try simp (disch:=omega) only[show((0:Int) !=0)=false from rfl,cond_false]
   try simp (disch:=omega) only[h2,Option.bind_some,List.getElem?_cons_zero,List.getElem?_cons_succ,q9,qa]
   try simp (disch:=omega) only[h3,Option.bind_some,List.getElem?_cons_zero,List.getElem?_cons_succ,q9,qa]
   rw[List.length_map,qc hiq,Option.bind_some,iF_at hiq,qb,Option.bind_some]
   try simp (disch:=omega) only[h4,Option.bind_some,List.getElem?_cons_zero,List.getElem?_cons_succ,q9,qa]
   try simp (disch:=omega) only[h5,Option.bind_some,List.getElem?_cons_zero,List.getElem?_cons_succ,q9,qa]
   try simp (disch:=omega) only[h6,Option.bind_some,List.getElem?_cons_zero,List.getElem?_cons_succ,q9,qa]
   rw[qi (by omega)];exact h7 n m (by omega) (by omega)
theorem wsurp_loop(h:SOk x2 x4 q P):∀(d i:Nat) (acc:Rat),i+d=P.length->Bd (1+4099*i) acc->∃n0,∀n m,n0<=n->n0<=m ->
  q6t.l10 n [] m [sF s0,iF x1,iF x2,.bool b,iF x4,.list 1 (q.map iF),iF x6,iF x7,zb (sgn b acc).num,wl (sgn b acc).num,.bool false,wL (sgn b acc).den,.list 1 (P.map rowF),.int .i64 (i:Int)]=some (surpR b (sumR (x4:Rat) ((q2v x2 P).drop i) (q.drop i) acc)):=by
 have hp:=h.qo;have hP:=h.few.1;intro d
 induction d with
 |zero =>
  intro i acc hi hb;have e1:(q2v x2 P).drop i=[]:=List.drop_of_length_le (by simp[q2v];omega);obtain⟨n1,h1⟩:=qay (k:=1+4099*i) (by omega) (hb.sgn b) (qj _);refine⟨n1+1,λn m hn hm=>?_⟩;obtain⟨m,rfl⟩:=qSx m (by omega);rw[q6t.q6u,List.length_map,decide_eq_false (by omega),cond_false,e1];simp (disch:=omega) only[h1,Option.bind_some,List.getElem?_cons_zero,qg];rfl
 |succ d ih =>
  intro i acc hi hb;have hil:i<P.length:=by omega
  have hiq:i<q.length:=by have:=h.len;omega
  obtain⟨z1,z2,z3⟩:=qeh h hil;have e1:=qc7 (x2:=x2) hil;have e2:q.drop i=q[i]::q.drop (i+1):=List.drop_eq_getElem_cons hiq;have hq:=h.qty _ (List.getElem_mem hiq);have head:∀n m,q6t.l10 n [] (m+1) [sF s0,iF x1,iF x2,.bool b,iF x4,.list 1 (q.map iF),iF x6,iF x7,zb (sgn b acc).num,wl (sgn b acc).num,.bool false,wL (sgn b acc).den,.list 1 (P.map rowF),.int .i64 (i:Int)]=_:=λn m=>by
   rw[q6t.q6u,List.length_map,decide_eq_true (by omega),cond_true,qc hil,Option.bind_some,q3a hil,q9,Option.bind_some,z1,Option.bind_some,z2,qg,Option.bind_some]
  rw[e1,e2,sumR];cases hpr:pr (P[i].getD x2.toNat [])with
  |none =>
   obtain⟨n1,h1⟩:=qm4 hpr (by omega);refine⟨n1+1,λn m hn hm=>?_⟩;obtain⟨m,rfl⟩:=qSx m (by omega);rw[head]
   try simp (disch:=omega) only[h1,Option.bind_some,List.getElem?_cons_zero,List.getElem?_cons_succ,q9,qb,qa]
   try simp (disch:=omega) only[show((10:Int) !=0)=true from rfl,cond_true]
   rfl
  |some r =>
   have br:Bd 1024 r:=(q8j hpr).mono (by omega);have bx:=q94 hp.1 hp.2;have bq:=q94 hq.1 hq.2;have bs:Bd 2049 (r-x4):=(br.sub bx).mono (by omega);have bm:Bd 4098 ((r-x4)*(q[i]:Rat)):=(bs.mul (bq.mono (show 1024<=2049 by omega))).mono (by omega);have ba:Bd (1+4099*(i+1)) (acc+(r-x4)*(q[i]:Rat)):=(hb.add bm).mono (by omega);obtain⟨n1,h1⟩:=qgm hpr (by omega);obtain⟨n2,h2⟩:=q9o (z:=x4) (by omega) (by omega);obtain⟨n3,h3⟩:=qgp (k:=1024) (by omega) br bx (qj _) (qj _);obtain⟨n4,h4⟩:=q9o (z:=q[i]) (by omega) (by omega);obtain⟨n7,h7⟩:=ih (i+1) _ (by omega) ba;cases b
   ·have bm':Bd (1+4099*i+4098) ((r-x4)*(q[i]:Rat)):=bm.mono (by omega);obtain⟨n5,h5⟩:=qax (k:=2049) (by omega) bs (bq.mono (show 1024<=2049 by omega)) (qj _) (qj _);obtain⟨n6,h6⟩:=qdp (q:=sgn false acc) (k:=1+4099*i+4098) (by omega) (hb.mono (by omega)) bm' (qj _) (qj _);refine⟨n1+n2+n3+n4+n5+n6+n7+1,λn m hn hm=>?_⟩;obtain⟨m,rfl⟩:=qSx m (by omega);rw[head]
    try simp (disch:=omega) only[h1,Option.bind_some,List.getElem?_cons_zero,List.getElem?_cons_succ,q9,qb,qa,cond_false]
    try simp (disch:=omega) only[show((0:Int) !=0)=false from rfl,cond_false]
    try simp (disch:=omega) only[h2,Option.bind_some,List.getElem?_cons_zero,List.getElem?_cons_succ,q9,qa]
    try simp (disch:=omega) only[h3,Option.bind_some,List.getElem?_cons_zero,List.getElem?_cons_succ,q9,qa]
    rw[List.length_map,qc hiq];simp only[Option.bind_some,iF_at hiq,qb]
    try simp (disch:=omega) only[h4,Option.bind_some,List.getElem?_cons_zero,List.getElem?_cons_succ,q9,qa]
    try simp (disch:=omega) only[h5,Option.bind_some,List.getElem?_cons_zero,List.getElem?_cons_succ,q9,qa]
    try simp (disch:=omega) only[h6,Option.bind_some,List.getElem?_cons_zero,List.getElem?_cons_succ,q9,qa]
    rw[qi (by omega)];exact h7 n m (by omega) (by omega)
   ·have bn:Bd 2049 (-(r-x4)):=bs.neg;have bm':Bd (1+4099*i+4098) (-(r-x4)*(q[i]:Rat)):=(bn.mul (bq.mono (show 1024<=2049 by omega))).mono (by omega);obtain⟨n8,h8⟩:=qh0 (q:=r-x4) (qj _);obtain⟨n5,h5⟩:=qax (k:=2049) (by omega) bn (bq.mono (show 1024<=2049 by omega)) (qj _) (qj _);obtain⟨n6,h6⟩:=qdp (q:=sgn true acc) (k:=1+4099*i+4098) (by omega) ((hb.sgn true).mono (by omega)) bm' (qj _) (qj _);have es:sgn true acc+-(r-x4)*(q[i]:Rat)=sgn true (acc+(r-x4)*(q[i]:Rat)):=by
     simp only[sgn,cond_true];rw[Rat.neg_mul,Rat.neg_add]
    rw[es]at h6;refine⟨n1+n2+n3+n4+n5+n6+n7+n8+1,λn m hn hm=>?_⟩;obtain⟨m,rfl⟩:=qSx m (by omega);rw[head]
    try simp (disch:=omega) only[h1,Option.bind_some,List.getElem?_cons_zero,List.getElem?_cons_succ,q9,qb,qa,cond_true]
    try simp (disch:=omega) only[show((0:Int) !=0)=false from rfl,cond_false]
    try simp (disch:=omega) only[h2,Option.bind_some,List.getElem?_cons_zero,List.getElem?_cons_succ,q9,qa]
    try simp (disch:=omega) only[h3,Option.bind_some,List.getElem?_cons_zero,List.getElem?_cons_succ,q9,qa]
    try simp (disch:=omega) only[h8,Option.bind_some,List.getElem?_cons_zero,List.getElem?_cons_succ,q9,qa]
    rw[List.length_map,qc hiq];simp only[Option.bind_some,iF_at hiq,qb]
    try simp (disch:=omega) only[h4,Option.bind_some,List.getElem?_cons_zero,List.getElem?_cons_succ,q9,qa]
    try simp (disch:=omega) only[h5,Option.bind_some,List.getElem?_cons_zero,List.getElem?_cons_succ,q9,qa]
    try simp (disch:=omega) only[h6,Option.bind_some,List.getElem?_cons_zero,List.getElem?_cons_succ,q9,qa]
    rw[qi (by omega)];exact h7 n m (by omega) (by omega)
end
end Rf
end
section
set_option maxHeartbeats 2000000
namespace Rf
open Go
section
variable {s0:List UInt8} {x1 x2 x4 x6 x7:Int} {b:Bool} {q:List Int} {P:List (List (List UInt8))}
def oddZ(x2:Int)(r:List (List UInt8)):Bool:=!(decide (0<=x2)&&decide (x2<(r.length:Int)))
theorem odd_run{n:Nat}{r:List (List UInt8)}{F:List FV}(hl:r.length<=9000000000000000):evF En (n+2) 174 [rowF r,sF s0,iF x1,iF x2,.bool b,iF x4,.list 1 F,iF x6,iF x7]=some [sF s0,iF x1,iF x2,.bool b,iF x4,.list 1 F,iF x6,iF x7,.bool (oddZ x2 r)]:=by
 rw[qmy,qmx,List.length_map,qq (by omega) (by omega)];unfold oddZ;by_cases h:0<=x2
 ·rw[decide_eq_true h,cond_true];simp (disch:=omega) only[Option.bind_some,List.getElem?_cons_zero,qa];have:decide (x2<=(r.length:Int)-1)=decide (x2<(r.length:Int)):=by
   rw[Bool.eq_iff_iff,decide_eq_true_eq,decide_eq_true_eq];omega
  rw[this,Bool.true_and]
 ·rw[decide_eq_false h,cond_false];simp (disch:=omega) only[Option.bind_some,List.getElem?_cons_zero,qa];rw[Bool.false_and]
theorem idx_loop{F:List FV}(hl:P.length<=9000000000000)(hr:∀r,r∈P->r.length<=9000000000000000):∀(d i:Nat),i+d=P.length->∃k:Int,(decide (k≥0)=(P.drop i).any (oddZ x2))/\∀n m,2<=n->d<m ->
  q6v.l2 n [] m [sF s0,iF x1,iF x2,.bool b,iF x4,.list 1 F,iF x6,iF x7,.list 1 (P.map rowF),.int .i64 (P.length:Int),.int .i64 (i:Int)]=some [sF s0,iF x1,iF x2,.bool b,iF x4,.list 1 F,iF x6,iF x7,.int .i64 k]:=by
 intro d
 induction d with
 |zero =>
  intro i hi;refine⟨-1,by rw[List.drop_of_length_le (by omega)];rfl,λn m hn hm=>?_⟩;obtain⟨m,rfl⟩:=qSx m (by omega);rw[q6v.qu,decide_eq_false (by omega),cond_false]
 |succ d ih =>
  intro i hi;have hil:i<P.length:=by omega
  have e1:P.drop i=P[i]::P.drop (i+1):=List.drop_eq_getElem_cons hil;cases ho:oddZ x2 P[i]with
  |true =>
   refine⟨i,by rw[e1,List.any_cons,ho,Bool.true_or,decide_eq_true (by omega)],λn m hn hm=>?_⟩;obtain⟨m,rfl⟩:=qSx m (by omega);obtain⟨n,rfl⟩:∃k,n=k+2:=⟨n-2,by omega⟩;rw[q6v.qu,decide_eq_true (by omega),cond_true,List.length_map,qc hil,Option.bind_some,q3a hil,q9,Option.bind_some,odd_run (hr _ (List.getElem_mem hil)),ho];simp (disch:=omega) only[Option.bind_some,List.getElem?_cons_zero,List.getElem?_cons_succ,q9,qb,qa,qg,cond_true]
  |false =>
   obtain⟨k,h1,h2⟩:=ih (i+1) (by omega);refine⟨k,by rw[e1,List.any_cons,ho,Bool.false_or,h1],λn m hn hm=>?_⟩;obtain⟨m,rfl⟩:=qSx m (by omega);obtain⟨n,rfl⟩:∃k,n=k+2:=⟨n-2,by omega⟩;rw[q6v.qu,decide_eq_true (by omega),cond_true,List.length_map,qc hil,Option.bind_some,q3a hil,q9,Option.bind_some,odd_run (hr _ (List.getElem_mem hil)),ho];simp (disch:=omega) only[Option.bind_some,List.getElem?_cons_zero,List.getElem?_cons_succ,q9,qb,qa,qg,cond_false];rw[qi (by omega)];exact h2 (n+2) m hn (by omega)
theorem qo1{F:List FV}(hl:P.length<=9000000000000)(hr:∀r,r∈P->r.length<=9000000000000000):Ev En 175 [.list 1 (P.map rowF),sF s0,iF x1,iF x2,.bool b,iF x4,.list 1 F,iF x6,iF x7] [sF s0,iF x1,iF x2,.bool b,iF x4,.list 1 F,iF x6,iF x7,.bool (P.any (oddZ x2))]:=by
 obtain⟨k,hk,hidx⟩:=idx_loop (s0:=s0) (x1:=x1) (x2:=x2) (x4:=x4) (x6:=x6) (x7:=x7) (b:=b) (P:=P) (F:=F) hl hr P.length 0 (by omega);rw[List.drop_zero]at hk;refine Ev.of (P.length+6) λn hn=>?_;obtain⟨n,rfl⟩:=qSx n (by omega);have hi:=hidx n n (by omega) (by omega);rw[show((0:Nat):Int)=0 from rfl]at hi;rw[qmz,qn0,List.length_map,hi,<- hk];rfl
noncomputable def q95(x2 x4:Int)(q:List Int)(P:List (List (List UInt8)))(b:Bool):List FV :=
 if P.length=q.length/\P.any (oddZ x2)=false then surpR b (sumR (x4:Rat) (q2v x2 P) q 0)else [.str (txt []),.int .i64 120]
structure POk(x4:Int)(q:List Int)(P:List (List (List UInt8))):Prop where
 qo:-100000<=x4/\x4<=100000
 qty:∀x,x∈q->-100000<=x/\x<=100000
 few:P.length<=256/\∀r,r∈P->Few r
 qlen:q.length<=256
theorem POk.s(h:POk x4 q P)(hl:P.length=q.length)(ho:P.any (oddZ x2)=false):SOk x2 x4 q P where
 qo:=h.qo
 qty:=h.qty
 few:=h.few
 len:=hl
 zone:=λr hr=>by
  have:=List.any_eq_false.1 ho r hr;simp only[oddZ,Bool.not_eq_true',Bool.not_eq_false,Bool.and_eq_true,decide_eq_true_eq]at this;exact this
theorem len_ne{a c:Nat}(h:a≠c):((a:Int) !=(c:Int))=true:=by simp;omega
theorem len_eq{a c:Nat}(h:a=c):((a:Int) !=(c:Int))=false:=by simp;omega
theorem surp_ev(h:POk x4 q P):Ev En 117 [sF s0,iF x1,iF x2,.bool b,iF x4,.list 1 (q.map iF),iF x6,iF x7,.list 1 (P.map rowF)] (q95 x2 x4 q P b):=by
 have hP:=h.few.1;by_cases hl:P.length=q.length
 ·obtain⟨n2,h2⟩:=qo1 (s0:=s0) (x1:=x1) (x2:=x2) (x4:=x4) (x6:=x6) (x7:=x7) (b:=b) (P:=P) (F:=q.map iF) (by omega) (λr hr=>by have:=(h.few.2 r hr).1;omega);have head:∀n,n2<=n->evF En (n+1) 117 [sF s0,iF x1,iF x2,.bool b,iF x4,.list 1 (q.map iF),iF x6,iF x7,.list 1 (P.map rowF)] =
    (bif P.any (oddZ x2)then some [.str { data:=#[] },.int .i64 120]
     else q60.l6 n [] n [sF s0,iF x1,iF x2,.bool b,iF x4,.list 1 (q.map iF),iF x6,iF x7,.list 1 [],.bool false,.list 1 [],.bool false,.list 1 (P.map rowF),.int .i64 (P.length:Int),.int .i64 0]):=λn hn=>by
   rw[qhf,List.length_map,List.length_map,len_eq hl,cond_false,h2 n hn];rfl
  cases ho:P.any (oddZ x2)with
  |true =>
   refine Ev.of n2 λn hn=>?_;rw[head n hn,ho,cond_true];unfold q95;rw[if_neg (λq=>by rw[ho]at q;cases q.2)];rfl
  |false =>
   obtain⟨n1,h1⟩:=surp_loop (s0:=s0) (x1:=x1) (x6:=x6) (x7:=x7) (b:=b) (h.s (x2:=x2) hl ho) P.length 0 0 0 (by omega) qaz rfl;refine Ev.of (n2+n1) λn hn=>?_;have g1:=h1 n n (by omega) (by omega);rw[show((0:Nat):Int)=0 from rfl]at g1;rw[show zl (0:Rat).num=nL 0 from rfl,show zb (0:Rat).num=.bool false from rfl,q2u,List.drop_zero,List.drop_zero]at g1;rw[head n (by omega),ho,cond_false];unfold q95;rw[if_pos ⟨hl,ho⟩];exact g1
 ·refine Ev.of 0 λn hn=>?_;rw[qhf,List.length_map,List.length_map,len_ne hl,cond_true];unfold q95;rw[if_neg (λq=>hl q.1)];rfl
theorem sum_bd(h:SOk x2 x4 q P):∀(d i:Nat) (acc s:Rat),i+d=P.length->Bd (1+4099*i) acc->sumR (x4:Rat) ((q2v x2 P).drop i) (q.drop i) acc=some s->Bd (1+4099*256) s:=by
 have hp:=h.qo;have hP:=h.few.1;intro d
 induction d with
 |zero =>
  intro i acc s hi hb hs;have e1:(q2v x2 P).drop i=[]:=List.drop_of_length_le (by simp[q2v];omega);rw[e1,sumR]at hs;cases hs
  ·exact hb.mono (by omega)
  ·intro _ _ _ _ h;cases h
 |succ d ih =>
  intro i acc s hi hb hs;have hil:i<P.length:=by omega
  have hiq:i<q.length:=by have:=h.len;omega
  obtain⟨z1,z2,z3⟩:=qeh h hil;have e1:=qc7 (x2:=x2) hil;have e2:q.drop i=q[i]::q.drop (i+1):=List.drop_eq_getElem_cons hiq;have hq:=h.qty _ (List.getElem_mem hiq);rw[e1,e2,sumR]at hs;cases hpr:pr (P[i].getD x2.toNat [])with
  |none=>rw[hpr]at hs;cases hs
  |some r =>
   rw[hpr,Option.bind_some]at hs;have br:Bd 1024 r:=(q8j hpr).mono (by omega);have bx:=q94 hp.1 hp.2;have bq:=q94 hq.1 hq.2;have bs:Bd 2049 (r-x4):=(br.sub bx).mono (by omega);have bm:Bd 4098 ((r-x4)*(q[i]:Rat)):=(bs.mul (bq.mono (show 1024<=2049 by omega))).mono (by omega);have ba:Bd (1+4099*(i+1)) (acc+(r-x4)*(q[i]:Rat)):=(hb.add bm).mono (by omega);exact ih (i+1) _ s (by omega) ba hs
end
end Rf
end
end
