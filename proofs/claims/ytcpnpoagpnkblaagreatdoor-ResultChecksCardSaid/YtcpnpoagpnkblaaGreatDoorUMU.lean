/- Texts of this work put together, their blanks and comments taken out: Surp. -/
import Derived.Test.YtcpnpoagpnkblaaGreatDoorUMS
import Derived.Test.YtcpnpoagpnkblaaGreatDoorUMI
set_option linter.unusedVariables false
set_option linter.unusedSimpArgs false
section
section
/- ResultSurplus: what an accepted block gains. -/
set_option maxHeartbeats 2000000
namespace Rf
open Go
abbrev rowF(r:List (List UInt8)):FV:=.list 1 (r.map sF)
abbrev iF(z:Int):FV:=.int .i64 z
theorem q36{P:List (List (List UInt8))}{i:Nat}(h:i<P.length):at' (P.map rowF) i 0=some (.list 1 (P[i].map sF)):=by rw[q23,List.getElem?_eq_getElem h];rfl
theorem iF_at{q:List Int}{i:Nat}(h:i<q.length):at' (q.map iF) i 0=some (.int .i64 q[i]):=by rw[q23,List.getElem?_eq_getElem h];rfl
theorem q7z(a b:Nat):(if(a:Int)<(b:Int)then(a:Int)else(b:Int))=((min a b:Nat):Int):=by
 split <;> omega
def Few(r:List (List UInt8)):Prop:=r.length<=256/\∀t,t∈r->t.length<=256
theorem long_loop{n:Nat}{r:List (List UInt8)}(hl:r.length<=9000000000000000):∀(d i m v:Nat),i+d=r.length->d<m->v<=1048576+256 ->
  ∃w:Nat,q3c.l3 n [] m [rowF r,.int .i64 (v:Int),.int .i64 (i:Int)]=some [.int .i64 (w:Int)]/\w<=1048576+256/\v<=w/\(w<=256->∀t,t∈r.drop i->t.length<=256):=by
 intro d
 induction d with
 |zero =>
  intro i m v hi hm hv;obtain⟨m,rfl⟩:=qSx m (by omega);refine⟨v,?_,hv,Nat.le_refl _,λ_ t ht=>?_⟩
  ·rw[q3c.qy,List.length_map,decide_eq_false (by omega),cond_false]
  ·rw[List.drop_of_length_le (by omega)]at ht;simp at ht
 |succ d ih =>
  intro i m v hi hm hv;obtain⟨m,rfl⟩:=qSx m (by omega);have hir:i<r.length:=by omega
  rw[q3c.qy,List.length_map,decide_eq_true (by omega),cond_true];by_cases h:v<=256
  ·obtain⟨w,h1,h2,h3,h4⟩:=ih (i+1) m (v+min 1048576 r[i].length) (by omega) (by omega) (by omega);refine⟨w,?_,h2,by omega,λhw t ht=>?_⟩
   ·rw[decide_eq_true (by omega),cond_true,qc hir,Option.bind_some,sF_at hir,qn,Option.bind_some,q1i,show(1048576:Int)=((1048576:Nat):Int) from rfl,q7z,q29 (by omega),qi (by omega)];exact h1
   ·rw[List.drop_eq_getElem_cons hir]at ht;rcases List.mem_cons.1 ht with rfl | ht
    ·omega
    ·exact h4 hw t ht
  ·refine⟨v,?_,hv,Nat.le_refl _,λhw=>by omega⟩;rw[decide_eq_false (by omega),cond_false]
theorem long_ev{r:List (List UInt8)}(hl:r.length<=9000000000000000):∃w:Nat,Ev En 54 [rowF r] [.int .i64 (w:Int)]/\w<=1048576+256/\(w<=256->Few r):=by
 have key:∀n,r.length<n->∃w:Nat,q3c.l3 n [] n [rowF r,.int .i64 ((min 1048576 r.length:Nat):Int),.int .i64 0]=some [.int .i64 (w:Int)]/\w<=1048576+256/\min 1048576 r.length<=w/\(w<=256->∀t,t∈r.drop 0->t.length<=256) :=
  λn hn=>long_loop hl r.length 0 n _ (by omega) hn (by omega)
 have det:∀n,r.length<n->∀m,r.length<m->q3c.l3 n [] n [rowF r,.int .i64 ((min 1048576 r.length:Nat):Int),.int .i64 0]=q3c.l3 m [] m [rowF r,.int .i64 ((min 1048576 r.length:Nat):Int),.int .i64 0]:=by
  have gen:∀(d i v m m' n n':Nat),i+d=r.length->d<m->d<m'->v<=1048576+256->q3c.l3 n [] m [rowF r,.int .i64 (v:Int),.int .i64 (i:Int)]=q3c.l3 n' [] m' [rowF r,.int .i64 (v:Int),.int .i64 (i:Int)]:=by
   intro d
   induction d with
   |zero =>
    intro i v m m' n n' hi hm hm' hv;obtain⟨m,rfl⟩:=qSx m (by omega);obtain⟨m',rfl⟩:∃k,m'=k+1:=⟨m'-1,by omega⟩;rw[q3c.qy,q3c.qy,List.length_map,decide_eq_false (by omega),cond_false,cond_false]
   |succ d ih =>
    intro i v m m' n n' hi hm hm' hv;obtain⟨m,rfl⟩:=qSx m (by omega);obtain⟨m',rfl⟩:∃k,m'=k+1:=⟨m'-1,by omega⟩;have hir:i<r.length:=by omega
    rw[q3c.qy,q3c.qy,List.length_map,decide_eq_true (by omega),cond_true,cond_true];by_cases h:v<=256
    ·rw[decide_eq_true (by omega),cond_true,cond_true,qc hir,Option.bind_some,Option.bind_some,sF_at hir,qn,Option.bind_some,Option.bind_some,q1i,show(1048576:Int)=((1048576:Nat):Int) from rfl,q7z,q29 (by omega),qi (by omega)];exact ih (i+1) _ m m' n n' (by omega) (by omega) (by omega) (by omega)
    ·rw[decide_eq_false (by omega),cond_false,cond_false]
  intro n hn m hm;exact gen r.length 0 _ n m n m (by omega) hn hm (by omega)
 obtain⟨w,h1,h2,h3,h4⟩:=key (r.length+1) (by omega);refine⟨w,Ev.of (r.length+1) λn hn=>?_,h2,λhw=>⟨by omega,λt ht=>h4 hw t (by simpa using ht)⟩⟩;rw[qn9,List.length_map,show(1048576:Int)=((1048576:Nat):Int) from rfl,q7z,det n (by omega) (r.length+1) (by omega)];exact h1
noncomputable def sumR(pc:Rat):List (List UInt8)->List Int->Rat->Option Rat
 |t::ts,q::qs,acc=>(pr t).bind λr=>sumR pc ts qs (acc+(r-pc)*(q:Rat))
 |_,_,acc=>some acc
def sgn(b:Bool)(r:Rat):Rat:=bif b then -r else r
noncomputable def surpR(b:Bool):Option Rat->List FV
 |none=>[.str (txt []),.int .i64 10]
 |some s=>[sF (qz (sgn b s)),.int .i64 0]
theorem Bd.sgn{k:Nat}{r:Rat}(h:Bd k r)(b:Bool):Bd k (sgn b r):=by
 cases b
 ·exact h
 ·exact h.neg
theorem q9r{z:Int}(h1:-100000<=z)(h2:z<=100000):Bd 1024 (z:Rat):=by
 refine(Bd.int (k:=17) ?_ (by omega)).mono (by omega);have:(2:Nat)^17=131072:=rfl;omega
theorem q75:Bd 1 (0:Rat):=⟨by decide,by decide⟩
section
variable {s0:List UInt8} {x1 x2 x4 x6 x7:Int} {b:Bool} {q:List Int} {P:List (List (List UInt8))}
structure SOk(x2 x4:Int)(q:List Int)(P:List (List (List UInt8))):Prop where
 qk:-100000<=x4/\x4<=100000
 qty:∀x,x∈q->-100000<=x/\x<=100000
 few:P.length<=256/\∀r,r∈P->Few r
 len:P.length=q.length
 zone:∀r,r∈P->0<=x2/\x2<(r.length:Int)
def q33(x2:Int)(P:List (List (List UInt8))):List (List UInt8):=P.map λr=>r.getD x2.toNat []
theorem qen(h:SOk x2 x4 q P){i:Nat}(hi:i<P.length):ix x2 (P[i].map sF).length=some x2.toNat/\at' (P[i].map sF) x2.toNat 0=some (sF (P[i].getD x2.toNat []))/\(P[i].getD x2.toNat []).length<=256:=by
 obtain⟨h0,h1⟩:=h.zone P[i] (List.getElem_mem hi);have hz:x2.toNat<P[i].length:=by omega
 refine⟨by rw[List.length_map,ix_int h0 h1],?_,?_⟩
 ·rw[sF_at hz,List.getD_eq_getElem?_getD,List.getElem?_eq_getElem hz];rfl
 ·rw[List.getD_eq_getElem?_getD,List.getElem?_eq_getElem hz];exact(h.few.2 _ (List.getElem_mem hi)).2 _ (List.getElem_mem hz)
theorem qcd{i:Nat}(hi:i<P.length):(q33 x2 P).drop i=P[i].getD x2.toNat []::(q33 x2 P).drop (i+1):=by
 have:i<(q33 x2 P).length:=by simp[q33];exact hi
 rw[List.drop_eq_getElem_cons this];congr 1;simp[q33]
theorem surp_loop(h:SOk x2 x4 q P):∀(d i:Nat) (acc:Rat) (da:Nat),i+d=P.length->Bd (1+4099*i) acc->dn da=acc.den->∃n0,∀n m,n0<=n->n0<=m ->
  q6s.l6 n [] m [sF s0,iF x1,iF x2,.bool b,iF x4,.list 1 (q.map iF),iF x6,iF x7,zl (acc).num,zb (acc).num,nL (da),.bool false,.list 1 (P.map rowF),.int .i64 (P.length:Int),.int .i64 (i:Int)]=some (surpR b (sumR (x4:Rat) ((q33 x2 P).drop i) (q.drop i) acc)):=by
 have hp:=h.qk;have hP:=h.few.1;intro d
 induction d with
 |zero =>
  intro i acc da hi hb hd;have e1:(q33 x2 P).drop i=[]:=List.drop_of_length_le (by simp[q33];omega);obtain⟨n1,h1⟩:=qa8 (k:=1+4099*i) (by omega) (by omega) hb hd;obtain⟨n2,h2⟩:=rneg_ev (k:=1+4099*i) (by omega) hb hd;obtain⟨n3,h3⟩:=qa8 (k:=1+4099*i) (q:=-acc) (by omega) (by omega) hb.neg (qj _);refine⟨n1+n2+n3+1,λn m hn hm=>?_⟩;obtain⟨m,rfl⟩:=qSx m (by omega);rw[q6s.q2m,decide_eq_false (by omega),cond_false,e1];cases b
  ·rw[cond_false];simp (disch:=omega) only[h1,Option.bind_some,List.getElem?_cons_zero,qn];rfl
  ·rw[cond_true]
   try simp (disch:=omega) only[h2,Option.bind_some,List.getElem?_cons_zero,List.getElem?_cons_succ,q9,qa]
   try simp (disch:=omega) only[h3,Option.bind_some,List.getElem?_cons_zero,qn]
   rfl
 |succ d ih =>
  intro i acc da hi hb hd;have hil:i<P.length:=by omega
  have hiq:i<q.length:=by have:=h.len;omega
  obtain⟨z1,z2,z3⟩:=qen h hil;have e1:=qcd (x2:=x2) hil;have e2:q.drop i=q[i]::q.drop (i+1):=List.drop_eq_getElem_cons hiq;have hq:=h.qty _ (List.getElem_mem hiq);have head:∀n m,q6s.l6 n [] (m+1) [sF s0,iF x1,iF x2,.bool b,iF x4,.list 1 (q.map iF),iF x6,iF x7,zl (acc).num,zb (acc).num,nL (da),.bool false,.list 1 (P.map rowF),.int .i64 (P.length:Int),.int .i64 (i:Int)]=_:=λn m=>by
   rw[q6s.q2m,decide_eq_true (by omega),cond_true,List.length_map,qc hil,Option.bind_some,q36 hil,q9,Option.bind_some,z1,Option.bind_some,z2,qn,Option.bind_some]
  rw[e1,e2,sumR];cases hpr:pr (P[i].getD x2.toNat [])with
  |none =>
   obtain⟨n1,h1⟩:=qgu hpr (by omega);refine⟨n1+1,λn m hn hm=>?_⟩;obtain⟨m,rfl⟩:=qSx m (by omega);rw[head]
   try simp (disch:=omega) only[h1,Option.bind_some,List.getElem?_cons_zero,List.getElem?_cons_succ,q9,qb,qa]
   try simp (disch:=omega) only[show((10:Int) !=0)=true from rfl,cond_true]
   rfl
  |some r =>
   have br:Bd 1024 r:=(q98 hpr).mono (by omega);have bx:=q9r hp.1 hp.2;have bq:=q9r hq.1 hq.2;have bs:Bd 2049 (r-x4):=(br.sub bx).mono (by omega);have bm:Bd 4098 ((r-x4)*(q[i]:Rat)):=(bs.mul (bq.mono (show 1024<=2049 by omega))).mono (by omega);have ba:Bd (1+4099*(i+1)) (acc+(r-x4)*(q[i]:Rat)):=(hb.add bm).mono (by omega);obtain⟨n1,h1⟩:=qgt hpr (by omega);obtain⟨n2,h2⟩:=of_ev (z:=x4) (by omega) (by omega);obtain⟨n3,h3⟩:=rsub_ev (k:=1024) (by omega) (by omega) br bx (qj _) (qj _);obtain⟨n4,h4⟩:=of_ev (z:=q[i]) (by omega) (by omega);obtain⟨n5,h5⟩:=rmul_ev (k:=2049) (by omega) (by omega) bs (bq.mono (show 1024<=2049 by omega)) (qj _) (qj _);obtain⟨n6,h6⟩:=radd_ev (k:=1+4099*i+4098) (by omega) (by omega) (hb.mono (by omega)) (bm.mono (by omega)) hd (qj _);obtain⟨n7,h7⟩:=ih (i+1) _ _ (by omega) ba (qj _);refine⟨n1+n2+n3+n4+n5+n6+n7+1,λn m hn hm=>?_⟩;obtain⟨m,rfl⟩:=qSx m (by omega);rw[head]
   try simp (disch:=omega) only[h1,Option.bind_some,List.getElem?_cons_zero,List.getElem?_cons_succ,q9,qb,qa]
   try simp (disch:=omega) only[show((0:Int) !=0)=false from rfl,cond_false]
   try simp (disch:=omega) only[h2,Option.bind_some,List.getElem?_cons_zero,List.getElem?_cons_succ,q9,qa]
   try simp (disch:=omega) only[h3,Option.bind_some,List.getElem?_cons_zero,List.getElem?_cons_succ,q9,qa]
   rw[List.length_map,qc hiq,Option.bind_some,iF_at hiq,qb,Option.bind_some]
   try simp (disch:=omega) only[h4,Option.bind_some,List.getElem?_cons_zero,List.getElem?_cons_succ,q9,qa]
   try simp (disch:=omega) only[h5,Option.bind_some,List.getElem?_cons_zero,List.getElem?_cons_succ,q9,qa]
   try simp (disch:=omega) only[h6,Option.bind_some,List.getElem?_cons_zero,List.getElem?_cons_succ,q9,qa]
   rw[qi (by omega)];exact h7 n m (by omega) (by omega)
theorem qoa(h:SOk x2 x4 q P):∀(d i:Nat) (acc:Rat),i+d=P.length->Bd (1+4099*i) acc->∃n0,∀n m,n0<=n->n0<=m ->
  q2v.l10 n [] m [sF s0,iF x1,iF x2,.bool b,iF x4,.list 1 (q.map iF),iF x6,iF x7,zb (sgn b acc).num,wl (sgn b acc).num,.bool false,wL (sgn b acc).den,.list 1 (P.map rowF),.int .i64 (i:Int)]=some (surpR b (sumR (x4:Rat) ((q33 x2 P).drop i) (q.drop i) acc)):=by
 have hp:=h.qk;have hP:=h.few.1;intro d
 induction d with
 |zero =>
  intro i acc hi hb;have e1:(q33 x2 P).drop i=[]:=List.drop_of_length_le (by simp[q33];omega);obtain⟨n1,h1⟩:=qaa (k:=1+4099*i) (by omega) (hb.sgn b) (qj _);refine⟨n1+1,λn m hn hm=>?_⟩;obtain⟨m,rfl⟩:=qSx m (by omega);rw[q2v.q4s,List.length_map,decide_eq_false (by omega),cond_false,e1];simp (disch:=omega) only[h1,Option.bind_some,List.getElem?_cons_zero,qn];rfl
 |succ d ih =>
  intro i acc hi hb;have hil:i<P.length:=by omega
  have hiq:i<q.length:=by have:=h.len;omega
  obtain⟨z1,z2,z3⟩:=qen h hil;have e1:=qcd (x2:=x2) hil;have e2:q.drop i=q[i]::q.drop (i+1):=List.drop_eq_getElem_cons hiq;have hq:=h.qty _ (List.getElem_mem hiq);have head:∀n m,q2v.l10 n [] (m+1) [sF s0,iF x1,iF x2,.bool b,iF x4,.list 1 (q.map iF),iF x6,iF x7,zb (sgn b acc).num,wl (sgn b acc).num,.bool false,wL (sgn b acc).den,.list 1 (P.map rowF),.int .i64 (i:Int)]=_:=λn m=>by
   rw[q2v.q4s,List.length_map,decide_eq_true (by omega),cond_true,qc hil,Option.bind_some,q36 hil,q9,Option.bind_some,z1,Option.bind_some,z2,qn,Option.bind_some]
  rw[e1,e2,sumR];cases hpr:pr (P[i].getD x2.toNat [])with
  |none =>
   obtain⟨n1,h1⟩:=qgx hpr (by omega);refine⟨n1+1,λn m hn hm=>?_⟩;obtain⟨m,rfl⟩:=qSx m (by omega);rw[head]
   try simp (disch:=omega) only[h1,Option.bind_some,List.getElem?_cons_zero,List.getElem?_cons_succ,q9,qb,qa]
   try simp (disch:=omega) only[show((10:Int) !=0)=true from rfl,cond_true]
   rfl
  |some r =>
   have br:Bd 1024 r:=(q98 hpr).mono (by omega);have bx:=q9r hp.1 hp.2;have bq:=q9r hq.1 hq.2;have bs:Bd 2049 (r-x4):=(br.sub bx).mono (by omega);have bm:Bd 4098 ((r-x4)*(q[i]:Rat)):=(bs.mul (bq.mono (show 1024<=2049 by omega))).mono (by omega);have ba:Bd (1+4099*(i+1)) (acc+(r-x4)*(q[i]:Rat)):=(hb.add bm).mono (by omega);obtain⟨n1,h1⟩:=qgw hpr (by omega);obtain⟨n2,h2⟩:=qa9 (z:=x4) (by omega) (by omega);obtain⟨n3,h3⟩:=qgv (k:=1024) (by omega) br bx (qj _) (qj _);obtain⟨n4,h4⟩:=qa9 (z:=q[i]) (by omega) (by omega);obtain⟨n7,h7⟩:=ih (i+1) _ (by omega) ba;cases b
   ·have bm':Bd (1+4099*i+4098) ((r-x4)*(q[i]:Rat)):=bm.mono (by omega);obtain⟨n5,h5⟩:=qbi (k:=2049) (by omega) bs (bq.mono (show 1024<=2049 by omega)) (qj _) (qj _);obtain⟨n6,h6⟩:=qbh (q:=sgn false acc) (k:=1+4099*i+4098) (by omega) (hb.mono (by omega)) bm' (qj _) (qj _);refine⟨n1+n2+n3+n4+n5+n6+n7+1,λn m hn hm=>?_⟩;obtain⟨m,rfl⟩:=qSx m (by omega);rw[head]
    try simp (disch:=omega) only[h1,Option.bind_some,List.getElem?_cons_zero,List.getElem?_cons_succ,q9,qb,qa,cond_false]
    try simp (disch:=omega) only[show((0:Int) !=0)=false from rfl,cond_false]
    try simp (disch:=omega) only[h2,Option.bind_some,List.getElem?_cons_zero,List.getElem?_cons_succ,q9,qa]
    try simp (disch:=omega) only[h3,Option.bind_some,List.getElem?_cons_zero,List.getElem?_cons_succ,q9,qa]
    rw[List.length_map,qc hiq];simp only[Option.bind_some,iF_at hiq,qb]
    try simp (disch:=omega) only[h4,Option.bind_some,List.getElem?_cons_zero,List.getElem?_cons_succ,q9,qa]
    try simp (disch:=omega) only[h5,Option.bind_some,List.getElem?_cons_zero,List.getElem?_cons_succ,q9,qa]
    try simp (disch:=omega) only[h6,Option.bind_some,List.getElem?_cons_zero,List.getElem?_cons_succ,q9,qa]
    rw[qi (by omega)];exact h7 n m (by omega) (by omega)
   ·have bn:Bd 2049 (-(r-x4)):=bs.neg;have bm':Bd (1+4099*i+4098) (-(r-x4)*(q[i]:Rat)):=(bn.mul (bq.mono (show 1024<=2049 by omega))).mono (by omega);obtain⟨n8,h8⟩:=qdi (q:=r-x4) (qj _);obtain⟨n5,h5⟩:=qbi (k:=2049) (by omega) bn (bq.mono (show 1024<=2049 by omega)) (qj _) (qj _);obtain⟨n6,h6⟩:=qbh (q:=sgn true acc) (k:=1+4099*i+4098) (by omega) ((hb.sgn true).mono (by omega)) bm' (qj _) (qj _);have es:sgn true acc+-(r-x4)*(q[i]:Rat)=sgn true (acc+(r-x4)*(q[i]:Rat)):=by
     simp only[sgn,cond_true];rw[Rat.neg_mul,Rat.neg_add]
    rw[es]at h6;refine⟨n1+n2+n3+n4+n5+n6+n7+n8+1,λn m hn hm=>?_⟩;obtain⟨m,rfl⟩:=qSx m (by omega);rw[head]
    try simp (disch:=omega) only[h1,Option.bind_some,List.getElem?_cons_zero,List.getElem?_cons_succ,q9,qb,qa,cond_true]
    try simp (disch:=omega) only[show((0:Int) !=0)=false from rfl,cond_false]
    try simp (disch:=omega) only[h2,Option.bind_some,List.getElem?_cons_zero,List.getElem?_cons_succ,q9,qa]
    try simp (disch:=omega) only[h3,Option.bind_some,List.getElem?_cons_zero,List.getElem?_cons_succ,q9,qa]
    try simp (disch:=omega) only[h8,Option.bind_some,List.getElem?_cons_zero,List.getElem?_cons_succ,q9,qa]
    rw[List.length_map,qc hiq];simp only[Option.bind_some,iF_at hiq,qb]
    try simp (disch:=omega) only[h4,Option.bind_some,List.getElem?_cons_zero,List.getElem?_cons_succ,q9,qa]
    try simp (disch:=omega) only[h5,Option.bind_some,List.getElem?_cons_zero,List.getElem?_cons_succ,q9,qa]
    try simp (disch:=omega) only[h6,Option.bind_some,List.getElem?_cons_zero,List.getElem?_cons_succ,q9,qa]
    rw[qi (by omega)];exact h7 n m (by omega) (by omega)
end
end Rf
end
section
set_option maxHeartbeats 2000000
namespace Rf
open Go
section
variable {s0:List UInt8} {x1 x2 x4 x6 x7:Int} {b:Bool} {q:List Int} {P:List (List (List UInt8))}
def oddZ(x2:Int)(r:List (List UInt8)):Bool:=!(decide (0<=x2)&&decide (x2<(r.length:Int)))
theorem odd_run{n:Nat}{r:List (List UInt8)}{F:List FV}(hl:r.length<=9000000000000000):evF En (n+2) 174 [rowF r,sF s0,iF x1,iF x2,.bool b,iF x4,.list 1 F,iF x6,iF x7]=some [sF s0,iF x1,iF x2,.bool b,iF x4,.list 1 F,iF x6,iF x7,.bool (oddZ x2 r)]:=by
 rw[qnb,qna,List.length_map,qm (by omega) (by omega)];unfold oddZ;by_cases h:0<=x2
 ·rw[decide_eq_true h,cond_true];simp (disch:=omega) only[Option.bind_some,List.getElem?_cons_zero,qa];have:decide (x2<=(r.length:Int)-1)=decide (x2<(r.length:Int)):=by
   rw[Bool.eq_iff_iff,decide_eq_true_eq,decide_eq_true_eq];omega
  rw[this,Bool.true_and]
 ·rw[decide_eq_false h,cond_false];simp (disch:=omega) only[Option.bind_some,List.getElem?_cons_zero,qa];rw[Bool.false_and]
theorem idx_loop{F:List FV}(hl:P.length<=9000000000000)(hr:∀r,r∈P->r.length<=9000000000000000):∀(d i:Nat),i+d=P.length->∃k:Int,(decide (k≥0)=(P.drop i).any (oddZ x2))/\∀n m,2<=n->d<m ->
  q7n.l2 n [] m [sF s0,iF x1,iF x2,.bool b,iF x4,.list 1 F,iF x6,iF x7,.list 1 (P.map rowF),.int .i64 (P.length:Int),.int .i64 (i:Int)]=some [sF s0,iF x1,iF x2,.bool b,iF x4,.list 1 F,iF x6,iF x7,.int .i64 k]:=by
 intro d
 induction d with
 |zero =>
  intro i hi;refine⟨-1,by rw[List.drop_of_length_le (by omega)];rfl,λn m hn hm=>?_⟩;obtain⟨m,rfl⟩:=qSx m (by omega);rw[q7n.qv,decide_eq_false (by omega),cond_false]
 |succ d ih =>
  intro i hi;have hil:i<P.length:=by omega
  have e1:P.drop i=P[i]::P.drop (i+1):=List.drop_eq_getElem_cons hil;cases ho:oddZ x2 P[i]with
  |true =>
   refine⟨i,by rw[e1,List.any_cons,ho,Bool.true_or,decide_eq_true (by omega)],λn m hn hm=>?_⟩;obtain⟨m,rfl⟩:=qSx m (by omega);obtain⟨n,rfl⟩:∃k,n=k+2:=⟨n-2,by omega⟩;rw[q7n.qv,decide_eq_true (by omega),cond_true,List.length_map,qc hil,Option.bind_some,q36 hil,q9,Option.bind_some,odd_run (hr _ (List.getElem_mem hil)),ho];simp (disch:=omega) only[Option.bind_some,List.getElem?_cons_zero,List.getElem?_cons_succ,q9,qb,qa,qn,cond_true]
  |false =>
   obtain⟨k,h1,h2⟩:=ih (i+1) (by omega);refine⟨k,by rw[e1,List.any_cons,ho,Bool.false_or,h1],λn m hn hm=>?_⟩;obtain⟨m,rfl⟩:=qSx m (by omega);obtain⟨n,rfl⟩:∃k,n=k+2:=⟨n-2,by omega⟩;rw[q7n.qv,decide_eq_true (by omega),cond_true,List.length_map,qc hil,Option.bind_some,q36 hil,q9,Option.bind_some,odd_run (hr _ (List.getElem_mem hil)),ho];simp (disch:=omega) only[Option.bind_some,List.getElem?_cons_zero,List.getElem?_cons_succ,q9,qb,qa,qn,cond_false];rw[qi (by omega)];exact h2 (n+2) m hn (by omega)
theorem qob{F:List FV}(hl:P.length<=9000000000000)(hr:∀r,r∈P->r.length<=9000000000000000):Ev En 175 [.list 1 (P.map rowF),sF s0,iF x1,iF x2,.bool b,iF x4,.list 1 F,iF x6,iF x7] [sF s0,iF x1,iF x2,.bool b,iF x4,.list 1 F,iF x6,iF x7,.bool (P.any (oddZ x2))]:=by
 obtain⟨k,hk,hidx⟩:=idx_loop (s0:=s0) (x1:=x1) (x2:=x2) (x4:=x4) (x6:=x6) (x7:=x7) (b:=b) (P:=P) (F:=F) hl hr P.length 0 (by omega);rw[List.drop_zero]at hk;refine Ev.of (P.length+6) λn hn=>?_;obtain⟨n,rfl⟩:=qSx n (by omega);have hi:=hidx n n (by omega) (by omega);rw[show((0:Nat):Int)=0 from rfl]at hi;rw[qnc,qnd,List.length_map,hi,<- hk];rfl
noncomputable def q61(x2 x4:Int)(q:List Int)(P:List (List (List UInt8)))(b:Bool):List FV :=
 if P.length=q.length/\P.any (oddZ x2)=false then surpR b (sumR (x4:Rat) (q33 x2 P) q 0)else [.str (txt []),.int .i64 120]
structure POk(x4:Int)(q:List Int)(P:List (List (List UInt8))):Prop where
 qk:-100000<=x4/\x4<=100000
 qty:∀x,x∈q->-100000<=x/\x<=100000
 few:P.length<=256/\∀r,r∈P->Few r
 qlen:q.length<=256
theorem POk.s(h:POk x4 q P)(hl:P.length=q.length)(ho:P.any (oddZ x2)=false):SOk x2 x4 q P where
 qk:=h.qk
 qty:=h.qty
 few:=h.few
 len:=hl
 zone:=λr hr=>by
  have:=List.any_eq_false.1 ho r hr;simp only[oddZ,Bool.not_eq_true',Bool.not_eq_false,Bool.and_eq_true,decide_eq_true_eq]at this;exact this
theorem len_ne{a c:Nat}(h:a≠c):((a:Int) !=(c:Int))=true:=by simp;omega
theorem len_eq{a c:Nat}(h:a=c):((a:Int) !=(c:Int))=false:=by simp;omega
theorem surp_ev(h:POk x4 q P):Ev En 117 [sF s0,iF x1,iF x2,.bool b,iF x4,.list 1 (q.map iF),iF x6,iF x7,.list 1 (P.map rowF)] (q61 x2 x4 q P b):=by
 have hP:=h.few.1;by_cases hl:P.length=q.length
 ·obtain⟨n2,h2⟩:=qob (s0:=s0) (x1:=x1) (x2:=x2) (x4:=x4) (x6:=x6) (x7:=x7) (b:=b) (P:=P) (F:=q.map iF) (by omega) (λr hr=>by have:=(h.few.2 r hr).1;omega);have head:∀n,n2<=n->evF En (n+1) 117 [sF s0,iF x1,iF x2,.bool b,iF x4,.list 1 (q.map iF),iF x6,iF x7,.list 1 (P.map rowF)] =
    (bif P.any (oddZ x2)then some [.str { data:=#[] },.int .i64 120]
     else q6s.l6 n [] n [sF s0,iF x1,iF x2,.bool b,iF x4,.list 1 (q.map iF),iF x6,iF x7,.list 1 [],.bool false,.list 1 [],.bool false,.list 1 (P.map rowF),.int .i64 (P.length:Int),.int .i64 0]):=λn hn=>by
   rw[qhm,List.length_map,List.length_map,len_eq hl,cond_false,h2 n hn];rfl
  cases ho:P.any (oddZ x2)with
  |true =>
   refine Ev.of n2 λn hn=>?_;rw[head n hn,ho,cond_true];unfold q61;rw[if_neg (λq=>by rw[ho]at q;cases q.2)];rfl
  |false =>
   obtain⟨n1,h1⟩:=surp_loop (s0:=s0) (x1:=x1) (x6:=x6) (x7:=x7) (b:=b) (h.s (x2:=x2) hl ho) P.length 0 0 0 (by omega) q75 rfl;refine Ev.of (n2+n1) λn hn=>?_;have g1:=h1 n n (by omega) (by omega);rw[show((0:Nat):Int)=0 from rfl]at g1;rw[show zl (0:Rat).num=nL 0 from rfl,show zb (0:Rat).num=.bool false from rfl,qeo,List.drop_zero,List.drop_zero]at g1;rw[head n (by omega),ho,cond_false];unfold q61;rw[if_pos ⟨hl,ho⟩];exact g1
 ·refine Ev.of 0 λn hn=>?_;rw[qhm,List.length_map,List.length_map,len_ne hl,cond_true];unfold q61;rw[if_neg (λq=>hl q.1)];rfl
theorem qib{n:Nat}{F:List FV}(hl:P.length<=9000000000000):∀(d i m:Nat),i+d=P.length->d<m ->
  q2v.l4 n [] m [sF s0,iF x1,iF x2,.bool b,iF x4,.list 1 F,iF x6,iF x7,.list 1 (P.map rowF),.int .i64 (i:Int)]=bif(P.drop i).any (oddZ x2)then some [.str (txt []),.int .i64 120]
   else(evF En n 12 [.int .i64 0]).bind λr2=>(asBool (r2[0]?)).bind λc3=>(asLst 1 (r2[1]?)).bind λv4=>(asBool (r2[2]?)).bind λc5=>(asLst 1 (r2[3]?)).bind λv6=>q2v.l10 n [] n [sF s0,iF x1,iF x2,.bool b,iF x4,.list 1 F,iF x6,iF x7,.bool c3,.list 1 v4,.bool c5,.list 1 v6,.list 1 (P.map rowF),.int .i64 0]:=by
 intro d
 induction d with
 |zero =>
  intro i m hi hm;obtain⟨m,rfl⟩:=qSx m (by omega);rw[q2v.q13,List.length_map,decide_eq_false (by omega),cond_false,List.drop_of_length_le (by omega)];rfl
 |succ d ih =>
  intro i m hi hm;obtain⟨m,rfl⟩:=qSx m (by omega);have hil:i<P.length:=by omega
  have e1:P.drop i=P[i]::P.drop (i+1):=List.drop_eq_getElem_cons hil;rw[q2v.q13,List.length_map,decide_eq_true (by omega),cond_true,e1,List.any_cons];have ho:oddZ x2 P[i]=!(decide (0<=x2)&&decide (x2<(P[i].length:Int))):=rfl;by_cases h1:x2<0
  ·rw[decide_eq_true h1,cond_true,ho,decide_eq_false (by omega)];rfl
  ·rw[decide_eq_false h1,cond_false,qc hil,Option.bind_some,q36 hil,q9,Option.bind_some,List.length_map];by_cases h2:(P[i].length:Int)<=x2
   ·rw[decide_eq_true (by omega),cond_true,ho,decide_eq_true (by omega),decide_eq_false (by omega)];rfl
   ·rw[decide_eq_false (by omega),cond_false,ho,decide_eq_true (by omega),decide_eq_true (by omega),qi (by omega),ih (i+1) m (by omega) (by omega)];rfl
theorem wsurp_ev(h:POk x4 q P):Ev En 61 [sF s0,iF x1,iF x2,.bool b,iF x4,.list 1 (q.map iF),iF x6,iF x7,.list 1 (P.map rowF)] (q61 x2 x4 q P b):=by
 have hP:=h.few.1;by_cases hl:P.length=q.length
 ·cases ho:P.any (oddZ x2)with
  |true =>
   refine Ev.of (P.length+6) λn hn=>?_;have:=qib (n:=n) (s0:=s0) (x1:=x1) (x2:=x2) (x4:=x4) (x6:=x6) (x7:=x7) (b:=b) (P:=P) (F:=q.map iF) (by omega) P.length 0 n (by omega) (by omega);rw[show((0:Nat):Int)=0 from rfl,List.drop_zero,ho,cond_true]at this;rw[qe6,List.length_map,List.length_map,len_eq hl,cond_false,this];unfold q61;rw[if_neg (λq=>by rw[ho]at q;cases q.2)]
  |false =>
   obtain⟨n1,h1⟩:=qoa (s0:=s0) (x1:=x1) (x6:=x6) (x7:=x7) (b:=b) (h.s (x2:=x2) hl ho) P.length 0 0 (by omega) q75;have hs:sgn b 0=0:=by cases b <;> rfl
   rw[hs]at h1;obtain⟨n2,h2⟩:=qa9 (z:=0) (by omega) (by omega);refine Ev.of (P.length+n1+n2+6) λn hn=>?_;have g1:=h1 n n (by omega) (by omega);rw[show((0:Nat):Int)=0 from rfl,List.drop_zero,List.drop_zero]at g1;have:=qib (n:=n) (s0:=s0) (x1:=x1) (x2:=x2) (x4:=x4) (x6:=x6) (x7:=x7) (b:=b) (P:=P) (F:=q.map iF) (by omega) P.length 0 n (by omega) (by omega);rw[show((0:Nat):Int)=0 from rfl,List.drop_zero,ho,cond_false]at this;rw[qe6,List.length_map,List.length_map,len_eq hl,cond_false,this];simp (disch:=omega) only[h2,Option.bind_some,List.getElem?_cons_zero,List.getElem?_cons_succ,q9,qa];unfold q61;rw[if_pos ⟨hl,ho⟩];exact g1
 ·refine Ev.of 0 λn hn=>?_;rw[qe6,List.length_map,List.length_map,len_ne hl,cond_true];unfold q61;rw[if_neg (λq=>hl q.1)];rfl
theorem sum_bd(h:SOk x2 x4 q P):∀(d i:Nat) (acc s:Rat),i+d=P.length->Bd (1+4099*i) acc->sumR (x4:Rat) ((q33 x2 P).drop i) (q.drop i) acc=some s->Bd (1+4099*256) s:=by
 have hp:=h.qk;have hP:=h.few.1;intro d
 induction d with
 |zero =>
  intro i acc s hi hb hs;have e1:(q33 x2 P).drop i=[]:=List.drop_of_length_le (by simp[q33];omega);rw[e1,sumR]at hs;cases hs
  ·exact hb.mono (by omega)
  ·intro _ _ _ _ h;cases h
 |succ d ih =>
  intro i acc s hi hb hs;have hil:i<P.length:=by omega
  have hiq:i<q.length:=by have:=h.len;omega
  obtain⟨z1,z2,z3⟩:=qen h hil;have e1:=qcd (x2:=x2) hil;have e2:q.drop i=q[i]::q.drop (i+1):=List.drop_eq_getElem_cons hiq;have hq:=h.qty _ (List.getElem_mem hiq);rw[e1,e2,sumR]at hs;cases hpr:pr (P[i].getD x2.toNat [])with
  |none=>rw[hpr]at hs;cases hs
  |some r =>
   rw[hpr,Option.bind_some]at hs;have br:Bd 1024 r:=(q98 hpr).mono (by omega);have bx:=q9r hp.1 hp.2;have bq:=q9r hq.1 hq.2;have bs:Bd 2049 (r-x4):=(br.sub bx).mono (by omega);have bm:Bd 4098 ((r-x4)*(q[i]:Rat)):=(bs.mul (bq.mono (show 1024<=2049 by omega))).mono (by omega);have ba:Bd (1+4099*(i+1)) (acc+(r-x4)*(q[i]:Rat)):=(hb.add bm).mono (by omega);exact ih (i+1) _ s (by omega) ba hs
end
theorem Fits.qcw{x:FV}(h:Fits .str x):∃l:List UInt8,x=sF l/\l.length<=140737488351232:=by
 obtain⟨s,rfl,hs⟩:=h.q4l;exact⟨s.data.toList,rfl,by rw[Array.length_toList];exact hs⟩
theorem Fits.qg0{x:FV}(h:Fits (.lst false 16 [.str]) x):∃r:List (List UInt8),x=rowF r/\r.length<=140737488355328:=by
 obtain⟨l,rfl,hl,_⟩:=h.q7y sF (R:=λ_=>True) λcs hcs=>by
  obtain⟨y,r,rfl,hy,hr⟩:=hcs.cons_inv;obtain rfl:=hr.q52;obtain⟨t,rfl,_⟩:=hy.qcw;exact⟨t,rfl,trivial⟩
 exact⟨l,rfl,by omega⟩
end Rf
end
end
