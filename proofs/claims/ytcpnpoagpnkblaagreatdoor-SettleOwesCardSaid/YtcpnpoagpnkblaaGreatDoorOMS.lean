/- Texts of this work put together, their blanks and comments taken out: Rat, RefR. -/
import Derived.Test.YtcpnpoagpnkblaaGreatDoorOMR
import Derived.Test.YtcpnpoagpnkblaaGreatDoorOMI
set_option linter.unusedVariables false
set_option linter.unusedSimpArgs false
set_option maxHeartbeats 2000000
namespace Rf
open Go
section
theorem q3s(n:Nat):zl (n:Int)=nL n:=rfl
theorem q3m:nL 0=.list 1 []:=by unfold nL;rw[q18];rfl
def dn(d:Nat):Nat:=if d=0 then 1 else d
theorem dn_pos{d:Nat}(h:d≠0):dn d=d:=by unfold dn;rw[if_neg h]
theorem qb(q:Rat):dn q.den=q.den:=dn_pos q.den_nz
theorem dn_lt{d k:Nat}(h:dn d<2^k):d<2^k:=by unfold dn at h;split at h <;> omega
theorem q7l:Ev En 146 [] [nL 1,.bool false]:=by
 obtain⟨n1,h1⟩:=qda (z:=1);refine Ev.of n1 λn hn=>?_;rw[qv7];simp (disch:=omega) only[h1,rr];rfl
theorem qmx{d k:Nat}(hk:k<=100000000000)(hd:d<2^k):Ev En 145 [nL d,.bool false] [.int .i64 (if d=0 then 0 else 1)]:=by
 have h:=qdd (z:=(d:Int)) hk hd;rw[q3s,q1z]at h;by_cases h0:d=0
 ·subst h0;exact h
 ·rw[if_neg h0];rwa[Cl (by omega)]at h
theorem q5j{l:List FV}{b:Bool}{d k:Nat}(hk:k<=100000000000)(hd:d<2^k):Ev En 140 [.list 1 l,.bool b,nL d,.bool false] [nL (dn d),.bool false]:=by
 obtain⟨n1,h1⟩:=qmx hk hd;obtain⟨n2,h2⟩:=q7l;refine Ev.of (n1+n2) λn hn=>?_;rw[qv8];unfold dn;by_cases h0:d=0
 ·subst h0;simp (disch:=omega) only[h1,h2,AW,Bi,rr]
 ·rw[if_neg h0]at h1 ⊢;simp (disch:=omega) only[h1,show((1:Int)==0)=false from rfl,rr]
theorem of_ev{z:Int}(h1:-9223372036854775808<=z:=by omega)(h2:z<=9223372036854775807:=by omega):Ev En 111 [.int .i64 z] [zl ((z:Rat)).num,zb ((z:Rat)).num,nL ((z:Rat)).den,.bool false]:=by
 obtain⟨n1,g1⟩:=qda h1 h2;obtain⟨n2,g2⟩:=q7l;refine Ev.of (n1+n2) λn hn=>?_;rw[rat_Of_eq];simp (disch:=omega) only[g1,g2,rr];rfl
theorem qhy{k:Nat}(h:1<=k):1<2^k:=EH (by omega)
theorem qjm{a b:Int}(hb:0<b):(Rat.divInt a b).num=a.tdiv (Nat.gcd a.natAbs b.natAbs:Nat)/\((Rat.divInt a b).den:Int)=b.tdiv (Nat.gcd a.natAbs b.natAbs:Nat):=by
 have hg:b.gcd a=Nat.gcd a.natAbs b.natAbs:=by rw[Int.gcd,Cz]
 have d1:((b.gcd a:Nat):Int) ∣ a:=Int.gcd_dvd_right _ _;have d2:((b.gcd a:Nat):Int) ∣ b:=Int.gcd_dvd_left _ _;rw[<- hg];constructor
 ·rw[Rat.num_divInt,Cl hb,Int.one_mul,FP d1]
 ·rw[Rat.den_divInt,if_neg (by omega),FP d2];have:((b.natAbs:Nat):Int)=b:=by omega
  rw[Int.natCast_ediv,this]
theorem qb1{a b:Int}{k:Nat}(hk:k<=100000000000)(hk1:1<=k)(h0:b≠0)(ha:a.natAbs<2^k)(hb:b.natAbs<2^k) :
  Ev En 178 [zl a,zb a,zl b,zb b] [zl (Rat.divInt a b).num,zb (Rat.divInt a b).num,nL (Rat.divInt a b).den,.bool false,.int .i64 0]:=by
 obtain⟨n1,h1⟩:=qdd hk hb;have key:∀(a b:Int),0<b->a.natAbs<2^k->b.natAbs<2^k->∃n0,∀n,n0<=n ->
   ((evF En n 218 [zl a,zb a]).bind λr8=>(asLst 1 (r8[0]?)).bind λv9=>(evF En n 218 [zl b,zb b]).bind λr10=>(asLst 1 (r10[0]?)).bind λv11=>(evF En n 219 [.list 1 v9,.list 1 v11]).bind λr12=>(asLst 1 (r12[0]?)).bind λv13=>(evF En n 199 [.bool false,.list 1 v13]).bind λr14=>(asLst 1 (r14[0]?)).bind λv15=>(asBool (r14[1]?)).bind λc16=>(evF En n 146 []).bind λr17=>(asLst 1 (r17[0]?)).bind λv18=>(asBool (r17[1]?)).bind λc19=>(evF En n 142 [.list 1 v15,.bool c16,.list 1 v18,.bool c19]).bind λr20=>(asInt .i64 (r20[0]?)).bind λn21 =>
   (bif(n21 !=0)then(evF En n 143 [zl a,zb a,.list 1 v15,.bool c16]).bind λr22=>(asLst 1 (r22[0]?)).bind λv23=>(asBool (r22[1]?)).bind λc24=>(asLst 1 (r22[2]?)).bind λv25=>(asBool (r22[3]?)).bind λc26=>(asInt .i64 (r22[4]?)).bind λn27=>(evF En n 143 [zl b,zb b,.list 1 v15,.bool c16]).bind λr28=>(asLst 1 (r28[0]?)).bind λv29=>(asBool (r28[1]?)).bind λc30=>(asLst 1 (r28[2]?)).bind λv31=>(asBool (r28[3]?)).bind λc32=>(asInt .i64 (r28[4]?)).bind λn33=>some [.list 1 v23,.bool c24,.list 1 v29,.bool c30,.int .i64 0]
    else some [zl a,zb a,zl b,zb b,.int .i64 0]))=some [zl (Rat.divInt a b).num,zb (Rat.divInt a b).num,nL (Rat.divInt a b).den,.bool false,.int .i64 0]:=by
  intro a b hb0 ha hb;obtain⟨e1,e2⟩:=qjm (a:=a) hb0;have hg0:0<Nat.gcd a.natAbs b.natAbs:=FJ _ (by omega);have hgb:Nat.gcd a.natAbs b.natAbs<2^k:=BG (Nat.le_of_dvd (by omega) (Nat.gcd_dvd_right _ _)) hb;have la:=q4i ha hk;have lb:=q4i hb hk;obtain⟨n2,h2⟩:=nabs_ev (z:=a);obtain⟨n3,h3⟩:=nabs_ev (z:=b);obtain⟨n4,h4⟩:=natGcd_ev (x:=a.natAbs) (y:=b.natAbs) (by omega) (by omega);obtain⟨n5,h5⟩:=q63 (s:=false) hk hgb;obtain⟨n6,h6⟩:=q7l;have hs:sg false (Nat.gcd a.natAbs b.natAbs)=((Nat.gcd a.natAbs b.natAbs:Nat):Int):=by simp[sg]
  rw[hs]at h5;generalize Nat.gcd a.natAbs b.natAbs=g at *
  obtain⟨n7,h7⟩:=qdc (z:=(g:Int)) (w:=1) hk hgb (qhy hk1);obtain⟨n8,h8⟩:=qd9 (z:=a) (w:=(g:Int)) hk (by omega) ha hgb;obtain⟨n9,h9⟩:=qd9 (z:=b) (w:=(g:Int)) hk (by omega) hb hgb;have z1:zl (1:Int)=nL 1:=rfl;have z2:zb (1:Int)=.bool false:=rfl;rw[z1,z2]at h7;rw[<- e1]at h8;rw[<- e2]at h9;refine⟨n2+n3+n4+n5+n6+n7+n8+n9,λn hn=>?_⟩;simp (disch:=omega) only[h2,h3,h4,h5,h6,h7,rr];by_cases hg1:g=1
  ·subst hg1;rw[show((q24 ((1:Nat):Int) 1) !=0)=false from rfl];simp only[Ab];rw[show(((1:Nat):Int))=1 from rfl,Int.tdiv_one]at e1 e2;have f1:zl b=nL (Rat.divInt a b).den:=by rw[<- q3s,e2]
   have f2:zb b=.bool false:=by rw[<- q1z (Rat.divInt a b).den,e2]
   rw[e1,f1,f2]
  ·have:(q24 (g:Int) 1 !=0)=true:=by
    unfold q24;rw[if_neg (by omega),if_pos (by omega)];rfl
   rw[this];have f2:FV.bool (decide (((Rat.divInt a b).den:Int)<0))=.bool false:=q1z _;simp (disch:=omega) only[h8,h9,rr];rw[f2];rfl
 rcases EX h0 with h | h
 ·obtain⟨n2,h2⟩:=qep hk ha;obtain⟨n3,h3⟩:=qep hk hb;obtain⟨n4,h4⟩:=key (-a) (-b) (by omega) (by rw[BA];exact ha) (by rw[BA];exact hb);rw[Rat.neg_divInt_neg]at h4;refine Ev.of (n1+n2+n3+n4) λn hn=>?_;rw[qhz];rw[CO h]at h1;simp (disch:=omega) only[h1,h2,h3,show((-1:Int)==0)=false from rfl,show((-1:Int)==-1)=true from rfl,rr];exact h4 n (by omega)
 ·obtain⟨n4,h4⟩:=key a b h ha hb;refine Ev.of (n1+n4) λn hn=>?_;rw[qhz];rw[Cl h]at h1;simp (disch:=omega) only[h1,show((1:Int)==0)=false from rfl,show((1:Int)==-1)=false from rfl,rr];exact h4 n (by omega)
theorem make_zero{a:Int}{l:List FV}{b:Bool}:Ev En 178 [.list 1 l,.bool b,nL 0,.bool false] [.list 1 [],.bool false,.list 1 [],.bool false,.int .i64 12]:=by
 obtain⟨n1,h1⟩:=qmx (d:=0) (k:=1) (by omega) (by omega);refine Ev.of n1 λn hn=>?_;rw[qhz];simp (disch:=omega) only[h1,AW,Bi,rr]
theorem q5k{q:Rat}{k d:Nat}(h:Bd k q)(hd:dn d=q.den):d<2^k:=dn_lt (hd▸h.2)
theorem rsign_ev{q:Rat}{k:Nat}(hk:k<=100000000000)(h:Bd k q){l:List FV}{b:Bool}:Ev En 115 [zl q.num,zb q.num,.list 1 l,.bool b] [.int .i64 q.num.sign]:=by
 obtain⟨n1,h1⟩:=qdd hk h.1;refine Ev.of n1 λn hn=>?_;rw[qv9];simp (disch:=omega) only[h1,rr]
theorem rneg_ev{q:Rat}{k d:Nat}(hk:k<=100000000000)(h:Bd k q)(hd:dn d=q.den):Ev En 169 [zl (q).num,zb (q).num,nL (d),.bool false] [zl (-q).num,zb (-q).num,nL (-q).den,.bool false]:=by
 obtain⟨n1,h1⟩:=qep hk h.1;obtain⟨n2,h2⟩:=q5j (l:=(dg 4294967296 q.num.natAbs).map d32) (b:=decide (q.num<0)) hk (q5k h hd);rw[hd]at h2;refine Ev.of (n1+n2) λn hn=>?_;rw[qva];simp (disch:=omega) only[h1,h2,rr];rfl
theorem rmul_ev{q r:Rat}{k d e:Nat}(hk:k+k<=100000000000)(hk1:1<=k)(h:Bd k q)(h':Bd k r)(hd:dn d=q.den)(he:dn e=r.den):Ev En 154 [zl (q).num,zb (q).num,nL (d),.bool false,zl (r).num,zb (r).num,nL (e),.bool false] [zl (q*r).num,zb (q*r).num,nL (q*r).den,.bool false]:=by
 obtain⟨n1,h1⟩:=q7b hk h.1 h'.1;obtain⟨n2,h2⟩:=q5j (l:=(dg 4294967296 q.num.natAbs).map d32) (b:=decide (q.num<0)) (by omega:k<=100000000000) (q5k h hd);obtain⟨n3,h3⟩:=q5j (l:=(dg 4294967296 r.num.natAbs).map d32) (b:=decide (r.num<0)) (by omega:k<=100000000000) (q5k h' he);rw[hd]at h2;rw[he]at h3;obtain⟨n4,h4⟩:=q7b (z:=(q.den:Int)) (w:=(r.den:Int)) hk h.2 h'.2;rw[q3s,q1z,q3s,q1z]at h4;obtain⟨n5,h5⟩:=qb1 (a:=q.num*r.num) (b:=(q.den:Int)*r.den) (k:=k+k) hk (by omega) (q9h q r) (by rw[Cd];exact q4p h.1 h'.1) (by rw[Cd];exact q4p h.2 h'.2);rw[<- qfy]at h5;refine Ev.of (n1+n2+n3+n4+n5) λn hn=>?_;rw[qvb]
 try simp (disch:=omega) only[h1,rr]
 try simp (disch:=omega) only[h2,rr]
 try simp (disch:=omega) only[h3,rr]
 try simp (disch:=omega) only[h4,rr]
 try simp (disch:=omega) only[h5,rr]
theorem qbg{k:Nat}{r s:Rat}(h:Bd k r)(h':Bd k s):(r.num*s.den).natAbs<2^(k+k)/\(s.num*r.den).natAbs<2^(k+k):=qmy h h'
theorem rcmp_ev{q r:Rat}{k d e:Nat}(hk:k+k<=100000000000)(h:Bd k q)(h':Bd k r)(hd:dn d=q.den)(he:dn e=r.den):Ev En 116 [zl (q).num,zb (q).num,nL (d),.bool false,zl (r).num,zb (r).num,nL (e),.bool false] [.int .i64 (q24 (q.num*r.den) (r.num*q.den))]:=by
 obtain⟨c1,c2⟩:=qbg h h';obtain⟨n2,h2⟩:=q5j (l:=(dg 4294967296 q.num.natAbs).map d32) (b:=decide (q.num<0)) (by omega:k<=100000000000) (q5k h hd);obtain⟨n3,h3⟩:=q5j (l:=(dg 4294967296 r.num.natAbs).map d32) (b:=decide (r.num<0)) (by omega:k<=100000000000) (q5k h' he);rw[hd]at h2;rw[he]at h3;obtain⟨n1,h1⟩:=q7b (z:=q.num) (w:=(r.den:Int)) hk h.1 h'.2;rw[q3s,q1z]at h1;obtain⟨n4,h4⟩:=q7b (z:=r.num) (w:=(q.den:Int)) hk h'.1 h.2;rw[q3s,q1z]at h4;obtain⟨n5,h5⟩:=qdc hk c1 c2;refine Ev.of (n1+n2+n3+n4+n5) λn hn=>?_;rw[qvc]
 try simp (disch:=omega) only[h3,rr]
 try simp (disch:=omega) only[h1,rr]
 try simp (disch:=omega) only[h2,rr]
 try simp (disch:=omega) only[h4,rr]
 try simp (disch:=omega) only[h5,rr]
theorem qch{d k:Nat}(hk:k<=100000000000)(hk1:1<=k)(hd:d<2^k)(h0:d≠0):∃n0,∀n,n0<=n->evF En n 142 [nL d,.bool false,nL 1,.bool false]=some [.int .i64 (if d=1 then 0 else 1)]:=by
 obtain⟨n7,h7⟩:=qdc (z:=(d:Int)) (w:=1) hk hd (qhy hk1);rw[q3s,q1z,show zl (1:Int)=nL 1 from rfl,show zb (1:Int)=.bool false from rfl]at h7;refine⟨n7,λn hn=>?_⟩;rw[h7 n hn];unfold q24;rw[if_neg (by omega)];by_cases h:d=1
 ·subst h;rfl
 ·rw[if_pos (by omega),if_neg h]
theorem qer{q r:Rat}(hq:q.den=1)(hr:r.den=1):(q+r).num=q.num+r.num/\(q+r).den=1/\(q-r).num=q.num-r.num/\(q-r).den=1:=by
 obtain⟨y,rfl⟩:∃y:Int,q=y:=⟨q.num,Rat.ext rfl hq⟩;obtain⟨z,rfl⟩:∃y:Int,r=y:=⟨r.num,Rat.ext rfl hr⟩;rw[<- CB,<- Rat.intCast_sub];exact⟨rfl,rfl,rfl,rfl⟩
theorem radd_ev{q r:Rat}{k d e:Nat}(hk:k+k+1<=100000000000)(hk1:1<=k)(h:Bd k q)(h':Bd k r)(hd:dn d=q.den)(he:dn e=r.den):Ev En 113 [zl (q).num,zb (q).num,nL (d),.bool false,zl (r).num,zb (r).num,nL (e),.bool false] [zl (q+r).num,zb (q+r).num,nL (q+r).den,.bool false]:=by
 obtain⟨c1,c2⟩:=qbg h h';obtain⟨n2,h2⟩:=q5j (l:=(dg 4294967296 q.num.natAbs).map d32) (b:=decide (q.num<0)) (by omega:k<=100000000000) (q5k h hd);obtain⟨n3,h3⟩:=q5j (l:=(dg 4294967296 r.num.natAbs).map d32) (b:=decide (r.num<0)) (by omega:k<=100000000000) (q5k h' he);rw[hd]at h2;rw[he]at h3;obtain⟨n1,h1⟩:=q7l;obtain⟨n4,h4⟩:=qch (by omega) hk1 h.2 q.den_nz;obtain⟨n5,h5⟩:=qch (by omega) hk1 h'.2 r.den_nz;obtain⟨n6,h6⟩:=q7b (z:=q.num) (w:=(r.den:Int)) (by omega) h.1 h'.2;obtain⟨n7,h7⟩:=q7b (z:=r.num) (w:=(q.den:Int)) (by omega) h'.1 h.2;obtain⟨n8,h8⟩:=q7b (z:=(q.den:Int)) (w:=(r.den:Int)) (by omega) h.2 h'.2;rw[q3s,q1z]at h6 h7;rw[q3s,q1z,q3s,q1z]at h8;obtain⟨n9,h9⟩:=qae (k:=k+k) (by omega) c1 c2;have cs:(q.num*r.den+r.num*q.den).natAbs<2^(k+k+1):=by rw[Ax];omega
 have cd:((q.den:Int)*r.den).natAbs<2^(k+k+1):=by rw[Cd,Ax];have:=q4p h.2 h'.2;simp only[CC];omega
 obtain⟨n10,h10⟩:=qb1 hk (by omega) (q9h q r) cs cd;rw[<- qfz]at h10;by_cases e1:q.den=1
 ·by_cases e2:r.den=1
  ·obtain⟨n11,h11⟩:=qae (z:=q.num) (w:=r.num) (k:=k) (by omega) h.1 h'.1;refine Ev.of (n1+n2+n3+n4+n5+n11+1) λn hn=>?_;obtain⟨n,rfl⟩:=qSx n;rw[qi0,qh6];rw[e1]at h2 h4;rw[e2]at h3 h5
   try simp (disch:=omega) only[h2,rr]
   try simp (disch:=omega) only[h1,rr]
   try simp (disch:=omega) only[h4,AW,Bi,rr]
   try simp (disch:=omega) only[h3,rr]
   try simp (disch:=omega) only[h1,rr]
   try simp (disch:=omega) only[h5,AW,Bi,rr]
   try simp (disch:=omega) only[h11,rr]
   try simp (disch:=omega) only[h1,rr]
   have a1:=(qer e1 e2).1;have a2:=(qer e1 e2).2.1;rw[a1,a2]
  ·refine Ev.of (n1+n2+n3+n4+n5+n6+n7+n8+n9+n10+1) λn hn=>?_;obtain⟨n,rfl⟩:=qSx n;rw[qi0,qh6];rw[if_pos e1]at h4;rw[if_neg e2]at h5
   try simp (disch:=omega) only[h2,rr]
   try simp (disch:=omega) only[h1,rr]
   try simp (disch:=omega) only[h4,Bi,rr]
   try simp (disch:=omega) only[h3,rr]
   try simp (disch:=omega) only[h1,rr]
   try simp (disch:=omega) only[h5,show((1:Int)==0)=false from rfl,rr]
   try simp (disch:=omega) only[h3,rr]
   try simp (disch:=omega) only[h6,rr]
   try simp (disch:=omega) only[h2,rr]
   try simp (disch:=omega) only[h7,rr]
   try simp (disch:=omega) only[h9,rr]
   try simp (disch:=omega) only[h8,rr]
   try simp (disch:=omega) only[h10,rr]
 ·refine Ev.of (n1+n2+n3+n4+n5+n6+n7+n8+n9+n10+1) λn hn=>?_;obtain⟨n,rfl⟩:=qSx n;rw[qi0,qh6];rw[if_neg e1]at h4
  try simp (disch:=omega) only[h2,rr]
  try simp (disch:=omega) only[h1,rr]
  try simp (disch:=omega) only[h4,show((1:Int)==0)=false from rfl,rr]
  try simp (disch:=omega) only[h3,rr]
  try simp (disch:=omega) only[h1,rr]
  try simp (disch:=omega) only[h5,show((1:Int)==0)=false from rfl,rr]
  try simp (disch:=omega) only[h3,rr]
  try simp (disch:=omega) only[h6,rr]
  try simp (disch:=omega) only[h2,rr]
  try simp (disch:=omega) only[h7,rr]
  try simp (disch:=omega) only[h9,rr]
  try simp (disch:=omega) only[h8,rr]
  try simp (disch:=omega) only[h10,rr]
theorem rsub_ev{q r:Rat}{k d e:Nat}(hk:k+k+1<=100000000000)(hk1:1<=k)(h:Bd k q)(h':Bd k r)(hd:dn d=q.den)(he:dn e=r.den):Ev En 112 [zl (q).num,zb (q).num,nL (d),.bool false,zl (r).num,zb (r).num,nL (e),.bool false] [zl (q-r).num,zb (q-r).num,nL (q-r).den,.bool false]:=by
 obtain⟨c1,c2⟩:=qbg h h';obtain⟨n2,h2⟩:=q5j (l:=(dg 4294967296 q.num.natAbs).map d32) (b:=decide (q.num<0)) (by omega:k<=100000000000) (q5k h hd);obtain⟨n3,h3⟩:=q5j (l:=(dg 4294967296 r.num.natAbs).map d32) (b:=decide (r.num<0)) (by omega:k<=100000000000) (q5k h' he);rw[hd]at h2;rw[he]at h3;obtain⟨n1,h1⟩:=q7l;obtain⟨n4,h4⟩:=qch (by omega) hk1 h.2 q.den_nz;obtain⟨n5,h5⟩:=qch (by omega) hk1 h'.2 r.den_nz;obtain⟨n6,h6⟩:=q7b (z:=q.num) (w:=(r.den:Int)) (by omega) h.1 h'.2;obtain⟨n7,h7⟩:=q7b (z:=r.num) (w:=(q.den:Int)) (by omega) h'.1 h.2;obtain⟨n8,h8⟩:=q7b (z:=(q.den:Int)) (w:=(r.den:Int)) (by omega) h.2 h'.2;rw[q3s,q1z]at h6 h7;rw[q3s,q1z,q3s,q1z]at h8;obtain⟨n9,h9⟩:=qdb (k:=k+k) (by omega) c1 c2;have cs:(q.num*r.den-r.num*q.den).natAbs<2^(k+k+1):=by rw[Ax];omega
 have cd:((q.den:Int)*r.den).natAbs<2^(k+k+1):=by rw[Cd,Ax];have:=q4p h.2 h'.2;simp only[CC];omega
 obtain⟨n10,h10⟩:=qb1 hk (by omega) (q9h q r) cs cd;rw[<- qvd]at h10;by_cases e1:q.den=1
 ·by_cases e2:r.den=1
  ·obtain⟨n11,h11⟩:=qdb (z:=q.num) (w:=r.num) (k:=k) (by omega) h.1 h'.1;refine Ev.of (n1+n2+n3+n4+n5+n11+1) λn hn=>?_;obtain⟨n,rfl⟩:=qSx n;rw[qi1,qi2];rw[e1]at h2 h4;rw[e2]at h3 h5
   try simp (disch:=omega) only[h2,rr]
   try simp (disch:=omega) only[h1,rr]
   try simp (disch:=omega) only[h4,AW,Bi,rr]
   try simp (disch:=omega) only[h3,rr]
   try simp (disch:=omega) only[h1,rr]
   try simp (disch:=omega) only[h5,AW,Bi,rr]
   try simp (disch:=omega) only[h11,rr]
   try simp (disch:=omega) only[h1,rr]
   have a1:=(qer e1 e2).2.2.1;have a2:=(qer e1 e2).2.2.2;rw[a1,a2]
  ·refine Ev.of (n1+n2+n3+n4+n5+n6+n7+n8+n9+n10+1) λn hn=>?_;obtain⟨n,rfl⟩:=qSx n;rw[qi1,qi2];rw[if_pos e1]at h4;rw[if_neg e2]at h5
   try simp (disch:=omega) only[h2,rr]
   try simp (disch:=omega) only[h1,rr]
   try simp (disch:=omega) only[h4,Bi,rr]
   try simp (disch:=omega) only[h3,rr]
   try simp (disch:=omega) only[h1,rr]
   try simp (disch:=omega) only[h5,show((1:Int)==0)=false from rfl,rr]
   try simp (disch:=omega) only[h3,rr]
   try simp (disch:=omega) only[h6,rr]
   try simp (disch:=omega) only[h2,rr]
   try simp (disch:=omega) only[h7,rr]
   try simp (disch:=omega) only[h9,rr]
   try simp (disch:=omega) only[h8,rr]
   try simp (disch:=omega) only[h10,rr]
 ·refine Ev.of (n1+n2+n3+n4+n5+n6+n7+n8+n9+n10+1) λn hn=>?_;obtain⟨n,rfl⟩:=qSx n;rw[qi1,qi2];rw[if_neg e1]at h4
  try simp (disch:=omega) only[h2,rr]
  try simp (disch:=omega) only[h1,rr]
  try simp (disch:=omega) only[h4,show((1:Int)==0)=false from rfl,rr]
  try simp (disch:=omega) only[h3,rr]
  try simp (disch:=omega) only[h1,rr]
  try simp (disch:=omega) only[h5,show((1:Int)==0)=false from rfl,rr]
  try simp (disch:=omega) only[h3,rr]
  try simp (disch:=omega) only[h6,rr]
  try simp (disch:=omega) only[h2,rr]
  try simp (disch:=omega) only[h7,rr]
  try simp (disch:=omega) only[h9,rr]
  try simp (disch:=omega) only[h8,rr]
  try simp (disch:=omega) only[h10,rr]
theorem qbc{q:Rat}{k d:Nat}(hk:k<=1000000000)(hk1:1<=k)(h:Bd k q)(hd:dn d=q.den):Ev En 167 [zl (q).num,zb (q).num,nL (d),.bool false] [sF (qx q)]:=by
 obtain⟨n2,h2⟩:=q5j (l:=(dg 4294967296 q.num.natAbs).map d32) (b:=decide (q.num<0)) (by omega:k<=100000000000) (q5k h hd);rw[hd]at h2;obtain⟨n3,h3⟩:=q7l;obtain⟨n4,h4⟩:=qch (by omega) hk1 h.2 q.den_nz;obtain⟨n5,h5⟩:=qhs (by omega) h.1;have l1:=qg1 h.1;have l2:=q9i h.2;by_cases h1:q.den=1
 ·refine Ev.of (n2+n3+n4+n5) λn hn=>?_;rw[qmz];rw[if_pos h1]at h4;simp (disch:=omega) only[h2,h3,h4,h5,Bi,rr];unfold qx;rw[if_pos h1]
 ·have hd':d=q.den:=by
   unfold dn at hd;split at hd <;> omega
  subst hd';obtain⟨n6,h6⟩:=qhs (z:=(q.den:Int)) (by omega:k<=10000000000) h.2;rw[q3s,q1z]at h6;refine Ev.of (n2+n3+n4+n5+n6) λn hn=>?_;rw[qmz];rw[if_neg h1]at h4;simp (disch:=omega) only[h2,h3,h4,h5,h6,show((1:Int)==0)=false from rfl,rr];have ez:qu (q.den:Int)=ql q.den:=by unfold qu;rw[if_neg (by omega)];rfl
  rw[ez,q1c,Ad,Ab,show({ data:=#[47] }:ByteArray)=txt [47] from rfl,q5m,q1c,q1c,Ad (by simp;omega),Ab,q5m];unfold qx;rw[if_neg h1];simp
theorem qj8{l:List UInt8}{q:Rat}(h:pr l=some q)(hl:l.length<=100000000):Ev En 118 [sF l] [zl (q).num,zb (q).num,nL (q).den,.bool false,.int .i64 0]:=by
 have e:=q9j.1 h;have hb:=qad h;have hl1:1<=l.length:=by
  rw[e];unfold qx;have:=qg3 q.num.natAbs;split <;> (unfold qu;split <;> simp <;> omega)
 have hcut:=λn=>@cut_run n l;obtain⟨n3,h3⟩:=q7l;obtain⟨n5,h5⟩:=qbc (by omega) (by omega) hb (qb q);have hne:(!((txt (qx q)).toList==(txt l).toList))=false:=by rw[q3d,e,Af rfl];rfl
 by_cases h1:q.den=1
 ·have e1:l=qu q.num:=by rw[e];unfold qx;rw[if_pos h1]
  have hno:47 ∉ l:=by rw[e1];exact q9k _
  have hnc:l.contains 47=false:=by simpa using hno
  obtain⟨c1,c2⟩:=qes hno;rw[c1,c2,hnc]at hcut;obtain⟨n1,g1⟩:=qce (q4q.2 e1) (by omega);obtain⟨n2,g2⟩:=qb1 (a:=q.num) (b:=1) (k:=4*l.length) (by omega) (by omega) (by omega) hb.1 (qhy (by omega));have eq1:Rat.divInt q.num 1=q:=by
   have:=Cp q;rwa[h1]at this
  rw[eq1,show zl (1:Int)=nL 1 from rfl,show zb (1:Int)=.bool false from rfl]at g2;refine Ev.of (n1+n2+n3+n5+4) λn hn=>?_;obtain⟨n,rfl⟩:∃m,n=m+4:=⟨n-4,by omega⟩;rw[qb2,hcut]
  try simp (disch:=omega) only[g1,rr]
  try simp (disch:=omega) only[h3,rr]
  try simp only[show((0:Int) !=0)=false from rfl,rr]
  try simp (disch:=omega) only[g2,show((0:Int) !=0)=false from rfl,rr]
  try simp (disch:=omega) only[h5,hne,rr]
 ·have e1:l=qu q.num++47::ql q.den:=by rw[e];unfold qx;rw[if_neg h1]
  have hnc:l.contains 47=true:=by rw[e1];simp
  obtain⟨c1,c2⟩:=qdn (b:=ql q.den) (q9k q.num);rw[<- e1]at c1 c2;have ll:l.length=(qu q.num).length+1+(ql q.den).length:=by rw[e1];simp;omega
  rw[c1,c2,hnc]at hcut;obtain⟨n1,g1⟩:=qce (l:=qu q.num) (q4q.2 rfl) (by omega);have ez:ql q.den=qu (q.den:Int):=by unfold qu;rw[if_neg (by omega)];rfl
  obtain⟨n4,g4⟩:=qce (l:=ql q.den) (q4q.2 ez) (by omega);obtain⟨n2,g2⟩:=qb1 (a:=q.num) (b:=(q.den:Int)) (k:=4*l.length) (by omega) (by omega) (by have:=q.den_nz;omega) hb.1 hb.2;rw[Cp]at g2;refine Ev.of (n1+n2+n3+n4+n5+4) λn hn=>?_;obtain⟨n,rfl⟩:∃m,n=m+4:=⟨n-4,by omega⟩;rw[qb2,hcut]
  try simp (disch:=omega) only[g1,rr]
  try simp (disch:=omega) only[h3,Bi,rr]
  try simp (disch:=omega) only[g4,rr]
  try simp only[show((0:Int) !=0)=false from rfl,rr]
  try simp (disch:=omega) only[g2,rr]
  try simp only[show((0:Int) !=0)=false from rfl,rr]
  try simp (disch:=omega) only[h5,hne,rr]
theorem qj9{l:List UInt8}(h:pr l=none)(hl:l.length<=100000000):Ev En 118 [sF l] [.list 1 [],.bool false,.list 1 [],.bool false,.int .i64 10]:=by
 have hno:=pr_none.1 h;have hcut:=λn=>@cut_run n l;obtain⟨n3,h3⟩:=q7l;obtain⟨la,lb⟩:=cut_len l;have hne:∀q:Rat,(!((txt (qx q)).toList==(txt l).toList))=true:=λq=>by rw[q3d,Ad (λe=>hno q e.symm)];rfl
 cases ha:pz (cutA l)with
 |none =>
  obtain⟨n1,g1⟩:=qmp ha;refine Ev.of (n1+n3+4) λn hn=>?_;obtain⟨n,rfl⟩:∃m,n=m+4:=⟨n-4,by omega⟩;rw[qb2,hcut]
  try simp (disch:=omega) only[g1,rr]
  try simp (disch:=omega) only[h3,rr]
  try simp only[show((10:Int) !=0)=true from rfl,show((10:Int)==0)=false from rfl,rr]
  cases l.contains 47 <;> rfl
 |some a =>
  obtain⟨n1,g1⟩:=qce ha;have ba:a.natAbs<2^(4*l.length+1):=AP (qaj ha) (AX (by omega) (by omega));by_cases h47:47∈l
  ·have hnc:l.contains 47=true:=by simpa using h47
   rw[hnc]at hcut;cases hb:pz (cutB l)with
   |none =>
    obtain⟨n2,g2⟩:=qmp hb;refine Ev.of (n1+n2+n3+4) λn hn=>?_;obtain⟨n,rfl⟩:∃m,n=m+4:=⟨n-4,by omega⟩;rw[qb2,hcut]
    try simp (disch:=omega) only[g1,rr]
    try simp (disch:=omega) only[h3,Bi,rr]
    try simp (disch:=omega) only[g2,show((10:Int) !=0)=true from rfl,rr]
   |some b =>
    obtain⟨n2,g2⟩:=qce hb;have bb:b.natAbs<2^(4*l.length+1):=AP (qaj hb) (AX (by omega) (by omega));by_cases h0:b=0
    ·subst h0;obtain⟨n4,g4⟩:=make_zero (a:=a) (l:=(dg 4294967296 a.natAbs).map d32) (b:=decide (a<0));refine Ev.of (n1+n2+n3+n4+4) λn hn=>?_;obtain⟨n,rfl⟩:∃m,n=m+4:=⟨n-4,by omega⟩;rw[qb2,hcut];rw[show zl (0:Int)=nL 0 from rfl,show zb (0:Int)=.bool false from rfl]at g2
     try simp (disch:=omega) only[g1,rr]
     try simp (disch:=omega) only[h3,Bi,rr]
     try simp (disch:=omega) only[g2,rr]
     try simp only[show((0:Int) !=0)=false from rfl,rr]
     try simp (disch:=omega) only[g4,show((12:Int) !=0)=true from rfl,rr]
    ·obtain⟨n4,g4⟩:=qb1 (by omega) (by omega) h0 ba bb;obtain⟨m1,m2⟩:=qdo a b h0;have hbd:Bd (4*l.length+1) (Rat.divInt a b):=⟨by omega,by omega⟩;obtain⟨n5,g5⟩:=qbc (by omega) (by omega) hbd (qb _);refine Ev.of (n1+n2+n3+n4+n5+4) λn hn=>?_;obtain⟨n,rfl⟩:∃m,n=m+4:=⟨n-4,by omega⟩;rw[qb2,hcut]
     try simp (disch:=omega) only[g1,rr]
     try simp (disch:=omega) only[h3,Bi,rr]
     try simp (disch:=omega) only[g2,rr]
     try simp only[show((0:Int) !=0)=false from rfl,rr]
     try simp (disch:=omega) only[g4,rr]
     try simp only[show((0:Int) !=0)=false from rfl,rr]
     try simp (disch:=omega) only[g5,hne,rr]
  ·have hnc:l.contains 47=false:=by simpa using h47
   rw[hnc]at hcut;obtain⟨c1,c2⟩:=qes h47;rw[c1]at ha;exfalso;refine hno (a:Rat) ?_;unfold qx;rw[if_pos (show((a:Rat)).den=1 from rfl)];exact q4q.1 ha
end
section
theorem qdg:Ev En 40 [.int .i64 1] [.bool false,wL 1]:=by
 have:=qde (z:=1);rwa[show zb (1:Int)=.bool false from rfl,show wl (1:Int)=wL 1 from rfl]at this
theorem q6m{l:List FV}{b:Bool}{d:Nat}:Ev En 43 [.bool b,.list 1 l,.bool false,wL d] [.bool false,wL (dn d)]:=by
 obtain⟨n2,h2⟩:=qdg;refine Ev.of (n2+1) λn hn=>?_;obtain⟨n,rfl⟩:=qSx n;rw[qpi,qjl];unfold dn;by_cases h0:d=0
 ·subst h0;simp (disch:=omega) only[h2,AW,Bi,rr]
 ·rw[if_neg h0,if_neg h0];simp only[show((1:Int)==0)=false from rfl,rr]
theorem qac{z:Int}(h1:-9223372036854775808<=z:=by omega)(h2:z<=9223372036854775807:=by omega):Ev En 12 [.int .i64 z] [zb ((z:Rat)).num,wl ((z:Rat)).num,.bool false,wL ((z:Rat)).den]:=by
 obtain⟨n1,g1⟩:=qde h1 h2;obtain⟨n2,g2⟩:=qdg;refine Ev.of (n1+n2) λn hn=>?_;rw[qpj]
 try simp (disch:=omega) only[g1,rr]
 try simp (disch:=omega) only[g2,rr]
 rfl
theorem qdj{a b:Int}{k:Nat}(hk:k<=100000000000)(h0:b≠0)(ha:a.natAbs<2^k)(hb:b.natAbs<2^k) :
  Ev En 79 [zb a,wl a,zb b,wl b] [zb (Rat.divInt a b).num,wl (Rat.divInt a b).num,.bool false,wL (Rat.divInt a b).den,.int .i64 0]:=by
 have key:∀(a b:Int),0<b->a.natAbs<2^k->b.natAbs<2^k->∃n0,∀n,n0<=n ->
   ((evF En n 135 [wl a,wl b]).bind λr10=>(asLst 1 (r10[0]?)).bind λv11=>(evF En n 80 [.bool false,.list 1 v11]).bind λr12=>(asBool (r12[0]?)).bind λc13=>(asLst 1 (r12[1]?)).bind λv14=>(evF En n 136 [zb a,wl a,.bool c13,.list 1 v14]).bind λr15=>(asBool (r15[0]?)).bind λc16=>(asLst 1 (r15[1]?)).bind λv17=>(asBool (r15[2]?)).bind λc18=>(asLst 1 (r15[3]?)).bind λv19=>(asInt .i64 (r15[4]?)).bind λn20=>(evF En n 136 [zb b,wl b,.bool c13,.list 1 v14]).bind λr21=>(asBool (r21[0]?)).bind λc22=>(asLst 1 (r21[1]?)).bind λv23=>(asBool (r21[2]?)).bind λc24=>(asLst 1 (r21[3]?)).bind λv25=>(asInt .i64 (r21[4]?)).bind λn26=>some [.bool c16,.list 1 v17,.bool c22,.list 1 v23,.int .i64 0])=some [zb (Rat.divInt a b).num,wl (Rat.divInt a b).num,.bool false,wL (Rat.divInt a b).den,.int .i64 0]:=by
  intro a b hb0 ha hb;obtain⟨e1,e2⟩:=qjm (a:=a) hb0;have hg0:0<Nat.gcd a.natAbs b.natAbs:=FJ _ (by omega);have hgb:Nat.gcd a.natAbs b.natAbs<2^k:=BG (Nat.le_of_dvd (by omega) (Nat.gcd_dvd_right _ _)) hb;have la:=q7q ha hk;have lb:=q7q hb hk;obtain⟨n4,h4⟩:=wgcd_ev (x:=a.natAbs) (y:=b.natAbs) (by omega) (by omega);obtain⟨n5,h5⟩:=q4f (s:=false) (x:=Nat.gcd a.natAbs b.natAbs);have hs:sg false (Nat.gcd a.natAbs b.natAbs)=((Nat.gcd a.natAbs b.natAbs:Nat):Int):=by simp[sg]
  rw[hs]at h5;generalize Nat.gcd a.natAbs b.natAbs=g at *
  obtain⟨n8,h8⟩:=wqr_ev (z:=a) (w:=(g:Int)) hk (by omega) ha hgb;obtain⟨n9,h9⟩:=wqr_ev (z:=b) (w:=(g:Int)) hk (by omega) hb hgb;rw[<- e1]at h8;rw[<- e2]at h9;have f2:FV.bool (decide (((Rat.divInt a b).den:Int)<0))=.bool false:=q1z _;refine⟨n4+n5+n8+n9,λn hn=>?_⟩
  try simp (disch:=omega) only[h4,rr]
  try simp (disch:=omega) only[h5,rr]
  try simp (disch:=omega) only[h8,rr]
  try simp (disch:=omega) only[h9,rr]
  rw[f2];rfl
 rcases EX h0 with h | h
 ·obtain⟨n2,h2⟩:=qdk (z:=a);obtain⟨n3,h3⟩:=qdk (z:=b);obtain⟨n4,h4⟩:=key (-a) (-b) (by omega) (by rw[BA];exact ha) (by rw[BA];exact hb);rw[Rat.neg_divInt_neg]at h4;refine Ev.of (n2+n3+n4+1) λn hn=>?_;obtain⟨n,rfl⟩:=qSx n;rw[qfx,q8k,CO h]
  try simp only[show((-1:Int)==0)=false from rfl,show decide ((-1:Int)<0)=true from rfl,rr]
  try simp (disch:=omega) only[h2,rr]
  try simp (disch:=omega) only[h3,rr]
  exact h4 (n+1) (by omega)
 ·obtain⟨n4,h4⟩:=key a b h ha hb;refine Ev.of (n4+1) λn hn=>?_;obtain⟨n,rfl⟩:=qSx n;rw[qfx,q8k,Cl h]
  try simp only[show((1:Int)==0)=false from rfl,show decide ((1:Int)<0)=false from rfl,rr]
  exact h4 (n+1) (by omega)
theorem qjn{l:List FV}{b:Bool}:Ev En 79 [.bool b,.list 1 l,.bool false,wL 0] [.bool false,.list 1 [],.bool false,.list 1 [],.int .i64 12]:=by
 refine Ev.of 1 λn hn=>?_;obtain⟨n,rfl⟩:=qSx n;rw[qfx,qjl];simp (disch:=omega) only[AW,Bi,rr]
theorem qjo{a b:Int}{k:Nat}(hk:k<=100000000000)(h0:b≠0)(ha:a.natAbs<2^k)(hb:b.natAbs<2^k) :
  Ev En 41 [zb a,wl a,zb b,wl b] [zb (Rat.divInt a b).num,wl (Rat.divInt a b).num,.bool false,wL (Rat.divInt a b).den]:=by
 obtain⟨n1,h1⟩:=qdj hk h0 ha hb;refine Ev.of n1 λn hn=>?_;rw[qpk];simp (disch:=omega) only[h1,rr]
theorem qp7{n:Nat}{q:Rat}{l:List FV}{b:Bool}:evF En (n+2) 38 [zb q.num,wl q.num,.bool b,.list 1 l]=some [.int .i64 q.num.sign]:=by
 rw[qpl,q8k];simp only[rr]
theorem qfj{q:Rat}{d:Nat}(hd:dn d=q.den):Ev En 39 [zb (q).num,wl (q).num,.bool false,wL (d)] [zb (-q).num,wl (-q).num,.bool false,wL (-q).den]:=by
 obtain⟨n1,h1⟩:=qdk (z:=q.num);obtain⟨n2,h2⟩:=q6m (l:=(dg 1000000000 q.num.natAbs).map d64) (b:=decide (q.num<0)) (d:=d);rw[hd]at h2;refine Ev.of (n1+n2) λn hn=>?_;rw[qpm]
 try simp (disch:=omega) only[h1,rr]
 try simp (disch:=omega) only[h2,rr]
 rfl
theorem qcx{q r:Rat}{k d e:Nat}(hk:k+k<=100000000000)(h:Bd k q)(h':Bd k r)(hd:dn d=q.den)(he:dn e=r.den):Ev En 13 [zb (q).num,wl (q).num,.bool false,wL (d),zb (r).num,wl (r).num,.bool false,wL (e)] [zb (q*r).num,wl (q*r).num,.bool false,wL (q*r).den]:=by
 obtain⟨n1,h1⟩:=q9g hk h.1 h'.1;obtain⟨n2,h2⟩:=q6m (l:=(dg 1000000000 q.num.natAbs).map d64) (b:=decide (q.num<0)) (d:=d);obtain⟨n3,h3⟩:=q6m (l:=(dg 1000000000 r.num.natAbs).map d64) (b:=decide (r.num<0)) (d:=e);rw[hd]at h2;rw[he]at h3;obtain⟨n4,h4⟩:=q9g (z:=(q.den:Int)) (w:=(r.den:Int)) hk h.2 h'.2;rw[q42,q1z,q42,q1z]at h4;obtain⟨n5,h5⟩:=qjo (a:=q.num*r.num) (b:=(q.den:Int)*r.den) (k:=k+k) hk (q9h q r) (by rw[Cd];exact q4p h.1 h'.1) (by rw[Cd];exact q4p h.2 h'.2);rw[<- qfy]at h5;refine Ev.of (n1+n2+n3+n4+n5) λn hn=>?_;rw[qpn]
 try simp (disch:=omega) only[h1,rr]
 try simp (disch:=omega) only[h2,rr]
 try simp (disch:=omega) only[h3,rr]
 try simp (disch:=omega) only[h4,rr]
 try simp (disch:=omega) only[h5,rr]
theorem qja{q r:Rat}{k d e:Nat}(hk:k+k<=100000000000)(h:Bd k q)(h':Bd k r)(hd:dn d=q.den)(he:dn e=r.den):Ev En 32 [zb (q).num,wl (q).num,.bool false,wL (d),zb (r).num,wl (r).num,.bool false,wL (e)] [.int .i64 (q24 (q.num*r.den) (r.num*q.den))]:=by
 obtain⟨c1,c2⟩:=qbg h h';obtain⟨n2,h2⟩:=q6m (l:=(dg 1000000000 q.num.natAbs).map d64) (b:=decide (q.num<0)) (d:=d);obtain⟨n3,h3⟩:=q6m (l:=(dg 1000000000 r.num.natAbs).map d64) (b:=decide (r.num<0)) (d:=e);rw[hd]at h2;rw[he]at h3;obtain⟨n1,h1⟩:=q9g (z:=q.num) (w:=(r.den:Int)) hk h.1 h'.2;rw[q42,q1z]at h1;obtain⟨n4,h4⟩:=q9g (z:=r.num) (w:=(q.den:Int)) hk h'.1 h.2;rw[q42,q1z]at h4;obtain⟨n5,h5⟩:=wcmp_z hk c1 c2;refine Ev.of (n1+n2+n3+n4+n5) λn hn=>?_;rw[qpo]
 try simp (disch:=omega) only[h3,rr]
 try simp (disch:=omega) only[h1,rr]
 try simp (disch:=omega) only[h2,rr]
 try simp (disch:=omega) only[h4,rr]
 try simp (disch:=omega) only[h5,rr]
theorem qcw{q r:Rat}{k d e:Nat}(hk:k+k+1<=100000000000)(h:Bd k q)(h':Bd k r)(hd:dn d=q.den)(he:dn e=r.den):Ev En 37 [zb (q).num,wl (q).num,.bool false,wL (d),zb (r).num,wl (r).num,.bool false,wL (e)] [zb (q+r).num,wl (q+r).num,.bool false,wL (q+r).den]:=by
 obtain⟨c1,c2⟩:=qbg h h';obtain⟨n2,h2⟩:=q6m (l:=(dg 1000000000 q.num.natAbs).map d64) (b:=decide (q.num<0)) (d:=d);obtain⟨n3,h3⟩:=q6m (l:=(dg 1000000000 r.num.natAbs).map d64) (b:=decide (r.num<0)) (d:=e);rw[hd]at h2;rw[he]at h3;obtain⟨n6,h6⟩:=q9g (z:=q.num) (w:=(r.den:Int)) (by omega) h.1 h'.2;obtain⟨n7,h7⟩:=q9g (z:=r.num) (w:=(q.den:Int)) (by omega) h'.1 h.2;obtain⟨n8,h8⟩:=q9g (z:=(q.den:Int)) (w:=(r.den:Int)) (by omega) h.2 h'.2;rw[q42,q1z]at h6 h7;rw[q42,q1z,q42,q1z]at h8;obtain⟨n9,h9⟩:=qdf (k:=k+k) (by omega) c1 c2;have cs:(q.num*r.den+r.num*q.den).natAbs<2^(k+k+1):=by rw[Ax];omega
 have cd:((q.den:Int)*r.den).natAbs<2^(k+k+1):=by rw[Cd,Ax];have:=q4p h.2 h'.2;simp only[CC];omega
 obtain⟨n10,h10⟩:=qjo hk (q9h q r) cs cd;rw[<- qfz]at h10;refine Ev.of (n2+n3+n6+n7+n8+n9+n10) λn hn=>?_;rw[qpp]
 try simp (disch:=omega) only[h3,rr]
 try simp (disch:=omega) only[h6,rr]
 try simp (disch:=omega) only[h2,rr]
 try simp (disch:=omega) only[h7,rr]
 try simp (disch:=omega) only[h9,rr]
 try simp (disch:=omega) only[h2,rr]
 try simp (disch:=omega) only[h3,rr]
 try simp (disch:=omega) only[h8,rr]
 try simp (disch:=omega) only[h10,rr]
theorem qfi{q r:Rat}{k d e:Nat}(hk:k+k+1<=100000000000)(h:Bd k q)(h':Bd k r)(hd:dn d=q.den)(he:dn e=r.den):Ev En 92 [zb (q).num,wl (q).num,.bool false,wL (d),zb (r).num,wl (r).num,.bool false,wL (e)] [zb (q-r).num,wl (q-r).num,.bool false,wL (q-r).den]:=by
 obtain⟨n1,h1⟩:=qfj he;obtain⟨n2,h2⟩:=qcw (r:=-r) hk h h'.neg hd (qb _);rw[<- Rat.sub_eq_add_neg]at h2;refine Ev.of (n1+n2) λn hn=>?_;rw[qpq]
 try simp (disch:=omega) only[h1,rr]
 try simp (disch:=omega) only[h2,rr]
theorem qjp{d:Nat}:(qu (d:Int)=[49])↔d=1:=by
 have e1:([49]:List UInt8)=qu ((1:Nat):Int):=by
  unfold qu;rw[if_neg (by omega)];show _=ql 1;unfold ql;rw[if_neg (by omega),q3h,q18];rfl
 rw[e1];constructor
 ·intro h;have:=qdl h;omega
 ·intro h;rw[h]
theorem qcy{q:Rat}{k d:Nat}(hk:k<=1000000000)(h:Bd k q)(hd:dn d=q.den):Ev En 14 [zb (q).num,wl (q).num,.bool false,wL (d)] [sF (qx q)]:=by
 obtain⟨n2,h2⟩:=q6m (l:=(dg 1000000000 q.num.natAbs).map d64) (b:=decide (q.num<0)) (d:=d);rw[hd]at h2;obtain⟨n5,h5⟩:=qg0 (by omega) h.1;obtain⟨n6,h6⟩:=qg0 (z:=(q.den:Int)) (by omega:k<=100000000000) h.2;rw[q42,q1z]at h6;have l1:=qg1 h.1;have l2:=q9i h.2;refine Ev.of (n2+n5+n6) λn hn=>?_;rw[qpr]
 try simp (disch:=omega) only[h2,rr]
 try simp (disch:=omega) only[h6,rr]
 rw[show({ data:=#[49] }:ByteArray)=txt [49] from rfl,q3d];unfold qx;by_cases h1:q.den=1
 ·rw[Af (qjp.2 h1),if_pos h1]
  try simp (disch:=omega) only[h5,rr]
 ·rw[Ad (λe=>h1 (qjp.1 e)),if_neg h1]
  try simp (disch:=omega) only[h5,rr]
  have ez:qu (q.den:Int)=ql q.den:=by unfold qu;rw[if_neg (by omega)];rfl
  rw[ez,q1c,Ad,Ab,show({ data:=#[47] }:ByteArray)=txt [47] from rfl,q5m,q1c,q1c,Ad (by simp;omega),Ab,q5m];simp
theorem qjq{n:Nat}{l:List UInt8}{b0 b2:Bool}{l1 l3:List FV}(hl:l.length<=1000000000):∀(d i m:Nat),i+d<=l.length->(∀t,i<=t->t<i+d->l[t]?≠some 47)->d<=m ->
  q7r.l2 n [] m [.bool b0,.list 1 l1,.bool b2,.list 1 l3,sF l,.int .i64 (i:Int)]=q7r.l2 n [] (m-d) [.bool b0,.list 1 l1,.bool b2,.list 1 l3,sF l,.int .i64 ((i+d:Nat):Int)]:=by
 intro d
 induction d with
 |zero=>intro i m hi hn hm;rw[Em,Ay]
 |succ d ih =>
  intro i m hi hn hm;obtain⟨m,rfl⟩:=qSx m;have hil:i<l.length:=by omega
  have h47:((((l[i]).toNat:Nat):Int) !=47)=true:=by
   rw[CG];intro q;have:l[i]=47:=Dt.1 (show l[i].toNat=47 by omega);exact hn i (Ak _) (by omega) (by rw[Ag hil,this])
  conv=>lhs;rw[q7r.qt]
  rw[q1c,Af,Ac,q4g,Ag hil,AD,Ae,h47,Ac,qc,ih (i+1) m (by omega) (λt h1 h2=>hn t (by omega) (by omega)) (by omega),show m+1-(d+1)=m-d by omega,show i+1+d=i+(d+1) by omega]
theorem no47_at{a:List UInt8}(h:47 ∉ a){r:List UInt8}{t:Nat}(ht:t<a.length):(a++r)[t]?≠some 47:=by
 rw[Da ht,Ag ht];intro q;exact h (Eo q▸Ah ht)
theorem qjr{n:Nat}{l:List UInt8}(h:47 ∉ l)(hl:l.length<=1000000000:=by omega)(hn:l.length<n:=by omega):evF En (n+1) 22 [sF l]=(evF En n 77 [sF l]).bind λr25=>(asBool (r25[0]?)).bind λc26=>(asLst 1 (r25[1]?)).bind λv27=>(asInt .i64 (r25[2]?)).bind λn28 =>
  (bif(n28 !=0)then some [.bool false,.list 1 [],.bool false,.list 1 [],.int .i64 10]
   else(evF En n 40 [.int .i64 1]).bind λr29=>(asBool (r29[0]?)).bind λc30=>(asLst 1 (r29[1]?)).bind λv31=>some [.bool c26,.list 1 v27,.bool c30,.list 1 v31,.int .i64 0]):=by
 have hs:=qjq (n:=n) (l:=l) (b0:=false) (b2:=false) (l1:=[]) (l3:=[]) hl l.length 0 n (by omega) (λt _ ht=>by have:=no47_at h (r:=[]) (t:=t) (by omega);simpa using this) (by omega);obtain⟨m,hm⟩:∃m,n-l.length=m+1:=⟨n-l.length-1,by omega⟩;rw[qjs];rw[show((0:Nat):Int)=0 from rfl,AJ,hm]at hs;rw[hs,q7r.qt,q1c,Ad,Ab,q1v (Ak _),Ae,q5n,Bj,Av,Bi];simp only[Ac]
theorem qbh{n:Nat}{l:List UInt8}(h:47∈l)(hl:l.length<=1000000000:=by omega)(hn:l.length<n:=by omega):evF En (n+1) 22 [sF l]=(evF En n 77 [sF (cutA l)]).bind λr2=>(asBool (r2[0]?)).bind λc3=>(asLst 1 (r2[1]?)).bind λv4=>(asInt .i64 (r2[2]?)).bind λn5 =>
  (bif(n5 !=0)then some [.bool false,.list 1 [],.bool false,.list 1 [],.int .i64 10]
   else(evF En n 78 [sF (cutB l)]).bind λr10=>(asLst 1 (r10[0]?)).bind λv11=>(asInt .i64 (r10[1]?)).bind λn12=>(evF En n 80 [.bool false,.list 1 v11]).bind λr13=>(asBool (r13[0]?)).bind λc14=>(asLst 1 (r13[1]?)).bind λv15=>(evF En n 79 [.bool c3,.list 1 v4,.bool c14,.list 1 v15]).bind λr16=>(asBool (r16[0]?)).bind λc17=>(asLst 1 (r16[1]?)).bind λv18=>(asBool (r16[2]?)).bind λc19=>(asLst 1 (r16[3]?)).bind λv20=>(asInt .i64 (r16[4]?)).bind λn21 =>
     (bif(n12 !=0)then some [.bool false,.list 1 [],.bool false,.list 1 [],.int .i64 10]
      else
      (bif(n21 !=0)then some [.bool false,.list 1 [],.bool false,.list 1 [],.int .i64 10]
       else(evF En n 14 [.bool c17,.list 1 v18,.bool c19,.list 1 v20]).bind λr22=>(asStr (r22[0]?)).bind λu23 =>
       (bif(!(u23.toList==(txt l).toList))then some [.bool false,.list 1 [],.bool false,.list 1 [],.int .i64 10]
        else some [.bool c17,.list 1 v18,.bool c19,.list 1 v20,.int .i64 0])))):=by
 have hj:=qdm h;have hno:=cutA_no l;generalize cutA l=a at *
 generalize cutB l=b at *
 subst hj;simp only[Bb,Aq]at hl hn;have hs:=qjq (n:=n) (l:=a++47::b) (b0:=false) (b2:=false) (l1:=[]) (l3:=[]) (by simp;omega) a.length 0 n (by simp) (λt _ ht=>no47_at hno (by omega)) (by omega);obtain⟨m,hm⟩:∃m,n-a.length=m+1:=⟨n-a.length-1,by omega⟩;rw[qjs];rw[show((0:Nat):Int)=0 from rfl,AJ,hm]at hs;have ea:((a++47::b).take a.length).drop 0=a:=by rw[Av,List.take_left]
 have eb:((a++47::b).take (a++47::b).length).drop (a.length+1)=b:=by
  rw[Bj,show a++47::b=(a++[47])++b by simp,show a.length+1=(a++[47]).length by simp,List.drop_left]
 have e47:(a++47::b)[a.length]?=some 47:=by rw[CT (Ak _),Cn];rfl
 rw[hs,q7r.qt,q1c,Af (by simp;omega),Ac,q4g,e47,AD,Ae,show((((47:UInt8).toNat:Nat):Int) !=47)=false from rfl,Ab,q1v (by simp),Ae,q5n,ea,
  show(((a.length:Nat):Int)==((a++47::b).length:Int))=false from Bn.2 (by simp;omega),qc,q1v (by simp)]
 simp only[Ab,Ae,q5n,eb]
theorem qjb{l:List UInt8}{q:Rat}(h:pr l=some q)(hl:l.length<=100000000):Ev En 22 [sF l] [zb (q).num,wl (q).num,.bool false,wL (q).den,.int .i64 0]:=by
 have e:=q9j.1 h;have hb:=qad h;obtain⟨n3,h3⟩:=qdg;by_cases h1:q.den=1
 ·have e1:l=qu q.num:=by rw[e];unfold qx;rw[if_pos h1]
  have hno:47 ∉ l:=by rw[e1];exact q9k _
  obtain⟨n1,g1⟩:=qg2 (q4q.2 e1) (by omega);refine Ev.of (n1+n3+l.length+1) λn hn=>?_;rw[qjr hno]
  try simp (disch:=omega) only[g1,rr]
  try simp (disch:=omega) only[h3,show((0:Int) !=0)=false from rfl,rr]
  rw[h1]
 ·have e1:l=qu q.num++47::ql q.den:=by rw[e];unfold qx;rw[if_neg h1]
  have hin:47∈l:=by rw[e1];simp
  obtain⟨c1,c2⟩:=qdn (b:=ql q.den) (q9k q.num);rw[<- e1]at c1 c2;have ll:l.length=(qu q.num).length+1+(ql q.den).length:=by rw[e1];simp;omega
  obtain⟨n1,g1⟩:=qg2 (l:=qu q.num) (q4q.2 rfl) (by omega);obtain⟨n4,g4⟩:=qbi (l:=ql q.den) (q6n _) (by omega);rw[q6o]at g4;obtain⟨n5,g5⟩:=q4f (s:=false) (x:=q.den);have hs:sg false q.den=(q.den:Int):=by simp[sg]
  rw[hs,q1z,q42]at g5;obtain⟨n2,g2⟩:=qdj (a:=q.num) (b:=(q.den:Int)) (k:=4*l.length) (by omega) (by have:=q.den_nz;omega) hb.1 hb.2;rw[Cp,q1z,q42]at g2;obtain⟨n6,g6⟩:=qcy (by omega) hb (qb q);have hne:(!((txt (qx q)).toList==(txt l).toList))=false:=by rw[q3d,e,Af rfl];rfl
  refine Ev.of (n1+n2+n4+n5+n6+l.length+1) λn hn=>?_;rw[qbh hin,c1,c2]
  try simp (disch:=omega) only[g1,rr]
  try simp only[show((0:Int) !=0)=false from rfl,rr]
  try simp (disch:=omega) only[g4,rr]
  try simp (disch:=omega) only[g5,rr]
  try simp (disch:=omega) only[g2,rr]
  try simp only[show((0:Int) !=0)=false from rfl,rr]
  try simp (disch:=omega) only[g6,hne,rr]
theorem qjc{l:List UInt8}(h:pr l=none)(hl:l.length<=100000000):Ev En 22 [sF l] [.bool false,.list 1 [],.bool false,.list 1 [],.int .i64 10]:=by
 have hno:=pr_none.1 h;obtain⟨la,lb⟩:=cut_len l;have hne:∀q:Rat,(!((txt (qx q)).toList==(txt l).toList))=true:=λq=>by rw[q3d,Ad (λe=>hno q e.symm)];rfl
 by_cases h47:47∈l
 ·cases ha:pz (cutA l)with
  |none =>
   obtain⟨n1,g1⟩:=qjt ha;refine Ev.of (n1+l.length+1) λn hn=>?_;rw[qbh h47]
   try simp (disch:=omega) only[g1,show((10:Int) !=0)=true from rfl,rr]
  |some a =>
   obtain⟨n1,g1⟩:=qg2 ha (by omega);have ba:a.natAbs<2^(4*l.length+1):=AP (qaj ha) (AX (by omega) (by omega));by_cases hc:canon (cutB l)
   ·have bb:vD (cutB l)<2^(4*l.length+1):=AP (vD_lt2 hc.2.1) (AX (by omega) (by omega));obtain⟨n4,g4⟩:=qbi (l:=cutB l) hc (by omega);generalize vD (cutB l)=v at *
    obtain⟨n5,g5⟩:=q4f (s:=false) (x:=v);have hs:sg false v=(v:Int):=by simp[sg]
    rw[hs,q1z,q42]at g5;by_cases h0:v=0
    ·subst h0;obtain⟨n2,g2⟩:=qjn (l:=(dg 1000000000 a.natAbs).map d64) (b:=decide (a<0));refine Ev.of (n1+n2+n4+n5+l.length+1) λn hn=>?_;rw[qbh h47]
     try simp (disch:=omega) only[g1,rr]
     try simp only[show((0:Int) !=0)=false from rfl,rr]
     try simp (disch:=omega) only[g4,rr]
     try simp (disch:=omega) only[g5,rr]
     try simp (disch:=omega) only[g2,show((0:Int) !=0)=false from rfl,show((12:Int) !=0)=true from rfl,rr]
    ·obtain⟨n2,g2⟩:=qdj (a:=a) (b:=(v:Int)) (by omega) (by omega) ba bb;obtain⟨m1,m2⟩:=qdo a (v:Int) (by omega);have hbd:Bd (4*l.length+1) (Rat.divInt a v):=⟨by omega,by simp only[CC]at m2;omega⟩;rw[q1z,q42]at g2;obtain⟨n6,g6⟩:=qcy (by omega) hbd (qb _);refine Ev.of (n1+n2+n4+n5+n6+l.length+1) λn hn=>?_;rw[qbh h47]
     try simp (disch:=omega) only[g1,rr]
     try simp only[show((0:Int) !=0)=false from rfl,rr]
     try simp (disch:=omega) only[g4,rr]
     try simp (disch:=omega) only[g5,rr]
     try simp (disch:=omega) only[g2,rr]
     try simp only[show((0:Int) !=0)=false from rfl,rr]
     try simp (disch:=omega) only[g6,hne,rr]
   ·obtain⟨n4,g4⟩:=qdp (l:=cutB l) hc (by omega);obtain⟨n5,g5⟩:=q4f (s:=false) (x:=0);have hs:sg false 0=((0:Nat):Int):=by simp[sg]
    rw[hs,q1z,q42,qbj]at g5;obtain⟨n2,g2⟩:=qjn (l:=(dg 1000000000 a.natAbs).map d64) (b:=decide (a<0));rw[qbj]at g2;refine Ev.of (n1+n2+n4+n5+l.length+1) λn hn=>?_;rw[qbh h47]
    try simp (disch:=omega) only[g1,rr]
    try simp only[show((0:Int) !=0)=false from rfl,rr]
    try simp (disch:=omega) only[g4,rr]
    try simp (disch:=omega) only[g5,rr]
    try simp (disch:=omega) only[g2,show((10:Int) !=0)=true from rfl,rr]
 ·have hz:pz l=none:=by
   rw[pz_none];intro a q;refine hno (a:Rat) ?_;unfold qx;rw[if_pos (show((a:Rat)).den=1 from rfl)];exact q
  obtain⟨n1,g1⟩:=qjt hz;refine Ev.of (n1+l.length+1) λn hn=>?_;rw[qjr h47]
  try simp (disch:=omega) only[g1,show((10:Int) !=0)=true from rfl,rr]
end
end Rf
