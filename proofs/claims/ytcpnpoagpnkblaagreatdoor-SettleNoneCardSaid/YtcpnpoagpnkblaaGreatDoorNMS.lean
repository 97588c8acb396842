/- Merged: Rat RefR Thw Res1 Pv Bal Lnk Lup Surp. -/
import Derived.Test.YtcpnpoagpnkblaaGreatDoorNMP
import Derived.Test.YtcpnpoagpnkblaaGreatDoorNMI
import Derived.Test.YtcpnpoagpnkblaaGreatDoorNMC
import Derived.Laws.Sem
import Derived.Test.YtcpnpoagpnkblaaGreatDoorNMG
set_option linter.unusedVariables false
set_option linter.unusedSimpArgs false
set_option maxHeartbeats 2000000
namespace Rf
open Go
section
theorem q3o(n:Nat):zl (n:Int)=nL n:=rfl
theorem q3h:nL 0=.list 1 []:=by unfold nL;rw[q17];rfl
def dn(d:Nat):Nat:=if d=0 then 1 else d
theorem dn_pos{d:Nat}(h:d≠0):dn d=d:=by unfold dn;rw[if_neg h]
theorem qc(q:Rat):dn q.den=q.den:=dn_pos q.den_nz
theorem dn_lt{d k:Nat}(h:dn d<2^k):d<2^k:=by unfold dn at h;split at h <;> omega
theorem q7d:Ev En 146 [] [nL 1,.bool false]:=by
 obtain⟨n1,h1⟩:=qcz (z:=1);refine Ev.of n1 λn hn=>?_;rw[qtz];simp (disch:=omega) only[h1,rr];rfl
theorem qlw{d k:Nat}(hk:k<=100000000000)(hd:d<2^k):Ev En 145 [nL d,.bool false] [.int .i64 (if d=0 then 0 else 1)]:=by
 have h:=qd2 (z:=(d:Int)) hk hd;rw[q3o,q1u]at h;by_cases h0:d=0
 ·subst h0;exact h
 ·rw[if_neg h0];rwa[Ck (by omega)]at h
theorem q5a{l:List FV}{b:Bool}{d k:Nat}(hk:k<=100000000000)(hd:d<2^k):Ev En 140 [.list 1 l,.bool b,nL d,.bool false] [nL (dn d),.bool false]:=by
 obtain⟨n1,h1⟩:=qlw hk hd;obtain⟨n2,h2⟩:=q7d;refine Ev.of (n1+n2) λn hn=>?_;rw[qu0];unfold dn;by_cases h0:d=0
 ·subst h0;simp (disch:=omega) only[h1,h2,Ba,Bi,rr]
 ·rw[if_neg h0]at h1 ⊢;simp (disch:=omega) only[h1,show((1:Int)==0)=false from rfl,rr]
theorem of_ev{z:Int}(h1:-9223372036854775808<=z:=by omega)(h2:z<=9223372036854775807:=by omega):Ev En 111 [.int .i64 z] [zl ((z:Rat)).num,zb ((z:Rat)).num,nL ((z:Rat)).den,.bool false]:=by
 obtain⟨n1,g1⟩:=qcz h1 h2;obtain⟨n2,g2⟩:=q7d;refine Ev.of (n1+n2) λn hn=>?_;rw[rat_Of_eq];simp (disch:=omega) only[g1,g2,rr];rfl
theorem qh9{k:Nat}(h:1<=k):1<2^k:=Ey (by omega)
theorem qiw{a b:Int}(hb:0<b):(Rat.divInt a b).num=a.tdiv (Nat.gcd a.natAbs b.natAbs:Nat)/\((Rat.divInt a b).den:Int)=b.tdiv (Nat.gcd a.natAbs b.natAbs:Nat):=by
 have hg:b.gcd a=Nat.gcd a.natAbs b.natAbs:=by rw[Int.gcd,Cz]
 have d1:((b.gcd a:Nat):Int) ∣ a:=Int.gcd_dvd_right _ _;have d2:((b.gcd a:Nat):Int) ∣ b:=Int.gcd_dvd_left _ _;rw[<- hg];constructor
 ·rw[Rat.num_divInt,Ck hb,Int.one_mul,FF d1]
 ·rw[Rat.den_divInt,if_neg (by omega),FF d2];have:((b.natAbs:Nat):Int)=b:=by omega
  rw[Int.natCast_ediv,this]
theorem qaq{a b:Int}{k:Nat}(hk:k<=100000000000)(hk1:1<=k)(h0:b≠0)(ha:a.natAbs<2^k)(hb:b.natAbs<2^k) :
  Ev En 178 [zl a,zb a,zl b,zb b] [zl (Rat.divInt a b).num,zb (Rat.divInt a b).num,nL (Rat.divInt a b).den,.bool false,.int .i64 0]:=by
 obtain⟨n1,h1⟩:=qd2 hk hb;have key:∀(a b:Int),0<b->a.natAbs<2^k->b.natAbs<2^k->∃n0,∀n,n0<=n ->
   ((evF En n 218 [zl a,zb a]).bind λr8=>(asLst 1 (r8[0]?)).bind λv9=>(evF En n 218 [zl b,zb b]).bind λr10=>(asLst 1 (r10[0]?)).bind λv11=>(evF En n 219 [.list 1 v9,.list 1 v11]).bind λr12=>(asLst 1 (r12[0]?)).bind λv13=>(evF En n 199 [.bool false,.list 1 v13]).bind λr14=>(asLst 1 (r14[0]?)).bind λv15=>(asBool (r14[1]?)).bind λc16=>(evF En n 146 []).bind λr17=>(asLst 1 (r17[0]?)).bind λv18=>(asBool (r17[1]?)).bind λc19=>(evF En n 142 [.list 1 v15,.bool c16,.list 1 v18,.bool c19]).bind λr20=>(asInt .i64 (r20[0]?)).bind λn21 =>
   (bif(n21 !=0)then(evF En n 143 [zl a,zb a,.list 1 v15,.bool c16]).bind λr22=>(asLst 1 (r22[0]?)).bind λv23=>(asBool (r22[1]?)).bind λc24=>(asLst 1 (r22[2]?)).bind λv25=>(asBool (r22[3]?)).bind λc26=>(asInt .i64 (r22[4]?)).bind λn27=>(evF En n 143 [zl b,zb b,.list 1 v15,.bool c16]).bind λr28=>(asLst 1 (r28[0]?)).bind λv29=>(asBool (r28[1]?)).bind λc30=>(asLst 1 (r28[2]?)).bind λv31=>(asBool (r28[3]?)).bind λc32=>(asInt .i64 (r28[4]?)).bind λn33=>some [.list 1 v23,.bool c24,.list 1 v29,.bool c30,.int .i64 0]
    else some [zl a,zb a,zl b,zb b,.int .i64 0]))=some [zl (Rat.divInt a b).num,zb (Rat.divInt a b).num,nL (Rat.divInt a b).den,.bool false,.int .i64 0]:=by
  intro a b hb0 ha hb;obtain⟨e1,e2⟩:=qiw (a:=a) hb0;have hg0:0<Nat.gcd a.natAbs b.natAbs:=Fz _ (by omega);have hgb:Nat.gcd a.natAbs b.natAbs<2^k:=BI (Nat.le_of_dvd (by omega) (Nat.gcd_dvd_right _ _)) hb;have la:=q4b ha hk;have lb:=q4b hb hk;obtain⟨n2,h2⟩:=nabs_ev (z:=a);obtain⟨n3,h3⟩:=nabs_ev (z:=b);obtain⟨n4,h4⟩:=natGcd_ev (x:=a.natAbs) (y:=b.natAbs) (by omega) (by omega);obtain⟨n5,h5⟩:=q5p (s:=false) hk hgb;obtain⟨n6,h6⟩:=q7d;have hs:sg false (Nat.gcd a.natAbs b.natAbs)=((Nat.gcd a.natAbs b.natAbs:Nat):Int):=by simp[sg]
  rw[hs]at h5;generalize Nat.gcd a.natAbs b.natAbs=g at *
  obtain⟨n7,h7⟩:=qd1 (z:=(g:Int)) (w:=1) hk hgb (qh9 hk1);obtain⟨n8,h8⟩:=qcy (z:=a) (w:=(g:Int)) hk (by omega) ha hgb;obtain⟨n9,h9⟩:=qcy (z:=b) (w:=(g:Int)) hk (by omega) hb hgb;have z1:zl (1:Int)=nL 1:=rfl;have z2:zb (1:Int)=.bool false:=rfl;rw[z1,z2]at h7;rw[<- e1]at h8;rw[<- e2]at h9;refine⟨n2+n3+n4+n5+n6+n7+n8+n9,λn hn=>?_⟩;simp (disch:=omega) only[h2,h3,h4,h5,h6,h7,rr];by_cases hg1:g=1
  ·subst hg1;rw[show((q20 ((1:Nat):Int) 1) !=0)=false from rfl];simp only[Ab];rw[show(((1:Nat):Int))=1 from rfl,Int.tdiv_one]at e1 e2;have f1:zl b=nL (Rat.divInt a b).den:=by rw[<- q3o,e2]
   have f2:zb b=.bool false:=by rw[<- q1u (Rat.divInt a b).den,e2]
   rw[e1,f1,f2]
  ·have:(q20 (g:Int) 1 !=0)=true:=by
    unfold q20;rw[if_neg (by omega),if_pos (by omega)];rfl
   rw[this];have f2:FV.bool (decide (((Rat.divInt a b).den:Int)<0))=.bool false:=q1u _;simp (disch:=omega) only[h8,h9,rr];rw[f2];rfl
 rcases EP h0 with h | h
 ·obtain⟨n2,h2⟩:=qe6 hk ha;obtain⟨n3,h3⟩:=qe6 hk hb;obtain⟨n4,h4⟩:=key (-a) (-b) (by omega) (by rw[BC];exact ha) (by rw[BC];exact hb);rw[Rat.neg_divInt_neg]at h4;refine Ev.of (n1+n2+n3+n4) λn hn=>?_;rw[qha];rw[CN h]at h1;simp (disch:=omega) only[h1,h2,h3,show((-1:Int)==0)=false from rfl,show((-1:Int)==-1)=true from rfl,rr];exact h4 n (by omega)
 ·obtain⟨n4,h4⟩:=key a b h ha hb;refine Ev.of (n1+n4) λn hn=>?_;rw[qha];rw[Ck h]at h1;simp (disch:=omega) only[h1,show((1:Int)==0)=false from rfl,show((1:Int)==-1)=false from rfl,rr];exact h4 n (by omega)
theorem make_zero{a:Int}{l:List FV}{b:Bool}:Ev En 178 [.list 1 l,.bool b,nL 0,.bool false] [.list 1 [],.bool false,.list 1 [],.bool false,.int .i64 12]:=by
 obtain⟨n1,h1⟩:=qlw (d:=0) (k:=1) (by omega) (by omega);refine Ev.of n1 λn hn=>?_;rw[qha];simp (disch:=omega) only[h1,Ba,Bi,rr]
theorem q5b{q:Rat}{k d:Nat}(h:Bd k q)(hd:dn d=q.den):d<2^k:=dn_lt (hd▸h.2)
theorem rsign_ev{q:Rat}{k:Nat}(hk:k<=100000000000)(h:Bd k q){l:List FV}{b:Bool}:Ev En 115 [zl q.num,zb q.num,.list 1 l,.bool b] [.int .i64 q.num.sign]:=by
 obtain⟨n1,h1⟩:=qd2 hk h.1;refine Ev.of n1 λn hn=>?_;rw[qu1];simp (disch:=omega) only[h1,rr]
theorem rneg_ev{q:Rat}{k d:Nat}(hk:k<=100000000000)(h:Bd k q)(hd:dn d=q.den):Ev En 169 [zl (q).num,zb (q).num,nL (d),.bool false] [zl (-q).num,zb (-q).num,nL (-q).den,.bool false]:=by
 obtain⟨n1,h1⟩:=qe6 hk h.1;obtain⟨n2,h2⟩:=q5a (l:=(dg 4294967296 q.num.natAbs).map d32) (b:=decide (q.num<0)) hk (q5b h hd);rw[hd]at h2;refine Ev.of (n1+n2) λn hn=>?_;rw[qu2];simp (disch:=omega) only[h1,h2,rr];rfl
theorem rmul_ev{q r:Rat}{k d e:Nat}(hk:k+k<=100000000000)(hk1:1<=k)(h:Bd k q)(h':Bd k r)(hd:dn d=q.den)(he:dn e=r.den):Ev En 154 [zl (q).num,zb (q).num,nL (d),.bool false,zl (r).num,zb (r).num,nL (e),.bool false] [zl (q*r).num,zb (q*r).num,nL (q*r).den,.bool false]:=by
 obtain⟨n1,h1⟩:=q70 hk h.1 h'.1;obtain⟨n2,h2⟩:=q5a (l:=(dg 4294967296 q.num.natAbs).map d32) (b:=decide (q.num<0)) (by omega:k<=100000000000) (q5b h hd);obtain⟨n3,h3⟩:=q5a (l:=(dg 4294967296 r.num.natAbs).map d32) (b:=decide (r.num<0)) (by omega:k<=100000000000) (q5b h' he);rw[hd]at h2;rw[he]at h3;obtain⟨n4,h4⟩:=q70 (z:=(q.den:Int)) (w:=(r.den:Int)) hk h.2 h'.2;rw[q3o,q1u,q3o,q1u]at h4;obtain⟨n5,h5⟩:=qaq (a:=q.num*r.num) (b:=(q.den:Int)*r.den) (k:=k+k) hk (by omega) (q97 q r) (by rw[Ce];exact q4h h.1 h'.1) (by rw[Ce];exact q4h h.2 h'.2);rw[<- qfd]at h5;refine Ev.of (n1+n2+n3+n4+n5) λn hn=>?_;rw[qu3]
 try simp (disch:=omega) only[h1,rr]
 try simp (disch:=omega) only[h2,rr]
 try simp (disch:=omega) only[h3,rr]
 try simp (disch:=omega) only[h4,rr]
 try simp (disch:=omega) only[h5,rr]
theorem qb5{k:Nat}{r s:Rat}(h:Bd k r)(h':Bd k s):(r.num*s.den).natAbs<2^(k+k)/\(s.num*r.den).natAbs<2^(k+k):=qlx h h'
theorem rcmp_ev{q r:Rat}{k d e:Nat}(hk:k+k<=100000000000)(h:Bd k q)(h':Bd k r)(hd:dn d=q.den)(he:dn e=r.den):Ev En 116 [zl (q).num,zb (q).num,nL (d),.bool false,zl (r).num,zb (r).num,nL (e),.bool false] [.int .i64 (q20 (q.num*r.den) (r.num*q.den))]:=by
 obtain⟨c1,c2⟩:=qb5 h h';obtain⟨n2,h2⟩:=q5a (l:=(dg 4294967296 q.num.natAbs).map d32) (b:=decide (q.num<0)) (by omega:k<=100000000000) (q5b h hd);obtain⟨n3,h3⟩:=q5a (l:=(dg 4294967296 r.num.natAbs).map d32) (b:=decide (r.num<0)) (by omega:k<=100000000000) (q5b h' he);rw[hd]at h2;rw[he]at h3;obtain⟨n1,h1⟩:=q70 (z:=q.num) (w:=(r.den:Int)) hk h.1 h'.2;rw[q3o,q1u]at h1;obtain⟨n4,h4⟩:=q70 (z:=r.num) (w:=(q.den:Int)) hk h'.1 h.2;rw[q3o,q1u]at h4;obtain⟨n5,h5⟩:=qd1 hk c1 c2;refine Ev.of (n1+n2+n3+n4+n5) λn hn=>?_;rw[qu4]
 try simp (disch:=omega) only[h3,rr]
 try simp (disch:=omega) only[h1,rr]
 try simp (disch:=omega) only[h2,rr]
 try simp (disch:=omega) only[h4,rr]
 try simp (disch:=omega) only[h5,rr]
theorem qbz{d k:Nat}(hk:k<=100000000000)(hk1:1<=k)(hd:d<2^k)(h0:d≠0):∃n0,∀n,n0<=n->evF En n 142 [nL d,.bool false,nL 1,.bool false]=some [.int .i64 (if d=1 then 0 else 1)]:=by
 obtain⟨n7,h7⟩:=qd1 (z:=(d:Int)) (w:=1) hk hd (qh9 hk1);rw[q3o,q1u,show zl (1:Int)=nL 1 from rfl,show zb (1:Int)=.bool false from rfl]at h7;refine⟨n7,λn hn=>?_⟩;rw[h7 n hn];unfold q20;rw[if_neg (by omega)];by_cases h:d=1
 ·subst h;rfl
 ·rw[if_pos (by omega),if_neg h]
theorem qe8{q r:Rat}(hq:q.den=1)(hr:r.den=1):(q+r).num=q.num+r.num/\(q+r).den=1/\(q-r).num=q.num-r.num/\(q-r).den=1:=by
 obtain⟨y,rfl⟩:∃y:Int,q=y:=⟨q.num,Rat.ext rfl hq⟩;obtain⟨z,rfl⟩:∃y:Int,r=y:=⟨r.num,Rat.ext rfl hr⟩;rw[<- DB,<- Rat.intCast_sub];exact⟨rfl,rfl,rfl,rfl⟩
theorem radd_ev{q r:Rat}{k d e:Nat}(hk:k+k+1<=100000000000)(hk1:1<=k)(h:Bd k q)(h':Bd k r)(hd:dn d=q.den)(he:dn e=r.den):Ev En 113 [zl (q).num,zb (q).num,nL (d),.bool false,zl (r).num,zb (r).num,nL (e),.bool false] [zl (q+r).num,zb (q+r).num,nL (q+r).den,.bool false]:=by
 obtain⟨c1,c2⟩:=qb5 h h';obtain⟨n2,h2⟩:=q5a (l:=(dg 4294967296 q.num.natAbs).map d32) (b:=decide (q.num<0)) (by omega:k<=100000000000) (q5b h hd);obtain⟨n3,h3⟩:=q5a (l:=(dg 4294967296 r.num.natAbs).map d32) (b:=decide (r.num<0)) (by omega:k<=100000000000) (q5b h' he);rw[hd]at h2;rw[he]at h3;obtain⟨n1,h1⟩:=q7d;obtain⟨n4,h4⟩:=qbz (by omega) hk1 h.2 q.den_nz;obtain⟨n5,h5⟩:=qbz (by omega) hk1 h'.2 r.den_nz;obtain⟨n6,h6⟩:=q70 (z:=q.num) (w:=(r.den:Int)) (by omega) h.1 h'.2;obtain⟨n7,h7⟩:=q70 (z:=r.num) (w:=(q.den:Int)) (by omega) h'.1 h.2;obtain⟨n8,h8⟩:=q70 (z:=(q.den:Int)) (w:=(r.den:Int)) (by omega) h.2 h'.2;rw[q3o,q1u]at h6 h7;rw[q3o,q1u,q3o,q1u]at h8;obtain⟨n9,h9⟩:=qa4 (k:=k+k) (by omega) c1 c2;have cs:(q.num*r.den+r.num*q.den).natAbs<2^(k+k+1):=by rw[Ax];omega
 have cd:((q.den:Int)*r.den).natAbs<2^(k+k+1):=by rw[Ce,Ax];have:=q4h h.2 h'.2;simp only[CC];omega
 obtain⟨n10,h10⟩:=qaq hk (by omega) (q97 q r) cs cd;rw[<- qfe]at h10;by_cases e1:q.den=1
 ·by_cases e2:r.den=1
  ·obtain⟨n11,h11⟩:=qa4 (z:=q.num) (w:=r.num) (k:=k) (by omega) h.1 h'.1;refine Ev.of (n1+n2+n3+n4+n5+n11+1) λn hn=>?_;obtain⟨n,rfl⟩:=qSx n;rw[qhb,qgg];rw[e1]at h2 h4;rw[e2]at h3 h5
   try simp (disch:=omega) only[h2,rr]
   try simp (disch:=omega) only[h1,rr]
   try simp (disch:=omega) only[h4,Ba,Bi,rr]
   try simp (disch:=omega) only[h3,rr]
   try simp (disch:=omega) only[h1,rr]
   try simp (disch:=omega) only[h5,Ba,Bi,rr]
   try simp (disch:=omega) only[h11,rr]
   try simp (disch:=omega) only[h1,rr]
   have a1:=(qe8 e1 e2).1;have a2:=(qe8 e1 e2).2.1;rw[a1,a2]
  ·refine Ev.of (n1+n2+n3+n4+n5+n6+n7+n8+n9+n10+1) λn hn=>?_;obtain⟨n,rfl⟩:=qSx n;rw[qhb,qgg];rw[if_pos e1]at h4;rw[if_neg e2]at h5
   try simp (disch:=omega) only[h2,rr]
   try simp (disch:=omega) only[h1,rr]
   try simp (disch:=omega) only[h4,Bi,rr]
   try simp (disch:=omega) only[h3,rr]
   try simp (disch:=omega) only[h1,rr]
   try simp (disch:=omega) only[h5,show((1:Int)==0)=false from rfl,rr]
   try simp (disch:=omega) only[h3,rr]
   try simp (disch:=omega) only[h6,rr]
   try simp (disch:=omega) only[h2,rr]
   try simp (disch:=omega) only[h7,rr]
   try simp (disch:=omega) only[h9,rr]
   try simp (disch:=omega) only[h8,rr]
   try simp (disch:=omega) only[h10,rr]
 ·refine Ev.of (n1+n2+n3+n4+n5+n6+n7+n8+n9+n10+1) λn hn=>?_;obtain⟨n,rfl⟩:=qSx n;rw[qhb,qgg];rw[if_neg e1]at h4
  try simp (disch:=omega) only[h2,rr]
  try simp (disch:=omega) only[h1,rr]
  try simp (disch:=omega) only[h4,show((1:Int)==0)=false from rfl,rr]
  try simp (disch:=omega) only[h3,rr]
  try simp (disch:=omega) only[h1,rr]
  try simp (disch:=omega) only[h5,show((1:Int)==0)=false from rfl,rr]
  try simp (disch:=omega) only[h3,rr]
  try simp (disch:=omega) only[h6,rr]
  try simp (disch:=omega) only[h2,rr]
  try simp (disch:=omega) only[h7,rr]
  try simp (disch:=omega) only[h9,rr]
  try simp (disch:=omega) only[h8,rr]
  try simp (disch:=omega) only[h10,rr]
theorem rsub_ev{q r:Rat}{k d e:Nat}(hk:k+k+1<=100000000000)(hk1:1<=k)(h:Bd k q)(h':Bd k r)(hd:dn d=q.den)(he:dn e=r.den):Ev En 112 [zl (q).num,zb (q).num,nL (d),.bool false,zl (r).num,zb (r).num,nL (e),.bool false] [zl (q-r).num,zb (q-r).num,nL (q-r).den,.bool false]:=by
 obtain⟨c1,c2⟩:=qb5 h h';obtain⟨n2,h2⟩:=q5a (l:=(dg 4294967296 q.num.natAbs).map d32) (b:=decide (q.num<0)) (by omega:k<=100000000000) (q5b h hd);obtain⟨n3,h3⟩:=q5a (l:=(dg 4294967296 r.num.natAbs).map d32) (b:=decide (r.num<0)) (by omega:k<=100000000000) (q5b h' he);rw[hd]at h2;rw[he]at h3;obtain⟨n1,h1⟩:=q7d;obtain⟨n4,h4⟩:=qbz (by omega) hk1 h.2 q.den_nz;obtain⟨n5,h5⟩:=qbz (by omega) hk1 h'.2 r.den_nz;obtain⟨n6,h6⟩:=q70 (z:=q.num) (w:=(r.den:Int)) (by omega) h.1 h'.2;obtain⟨n7,h7⟩:=q70 (z:=r.num) (w:=(q.den:Int)) (by omega) h'.1 h.2;obtain⟨n8,h8⟩:=q70 (z:=(q.den:Int)) (w:=(r.den:Int)) (by omega) h.2 h'.2;rw[q3o,q1u]at h6 h7;rw[q3o,q1u,q3o,q1u]at h8;obtain⟨n9,h9⟩:=qd0 (k:=k+k) (by omega) c1 c2;have cs:(q.num*r.den-r.num*q.den).natAbs<2^(k+k+1):=by rw[Ax];omega
 have cd:((q.den:Int)*r.den).natAbs<2^(k+k+1):=by rw[Ce,Ax];have:=q4h h.2 h'.2;simp only[CC];omega
 obtain⟨n10,h10⟩:=qaq hk (by omega) (q97 q r) cs cd;rw[<- qu5]at h10;by_cases e1:q.den=1
 ·by_cases e2:r.den=1
  ·obtain⟨n11,h11⟩:=qd0 (z:=q.num) (w:=r.num) (k:=k) (by omega) h.1 h'.1;refine Ev.of (n1+n2+n3+n4+n5+n11+1) λn hn=>?_;obtain⟨n,rfl⟩:=qSx n;rw[qhc,qhd];rw[e1]at h2 h4;rw[e2]at h3 h5
   try simp (disch:=omega) only[h2,rr]
   try simp (disch:=omega) only[h1,rr]
   try simp (disch:=omega) only[h4,Ba,Bi,rr]
   try simp (disch:=omega) only[h3,rr]
   try simp (disch:=omega) only[h1,rr]
   try simp (disch:=omega) only[h5,Ba,Bi,rr]
   try simp (disch:=omega) only[h11,rr]
   try simp (disch:=omega) only[h1,rr]
   have a1:=(qe8 e1 e2).2.2.1;have a2:=(qe8 e1 e2).2.2.2;rw[a1,a2]
  ·refine Ev.of (n1+n2+n3+n4+n5+n6+n7+n8+n9+n10+1) λn hn=>?_;obtain⟨n,rfl⟩:=qSx n;rw[qhc,qhd];rw[if_pos e1]at h4;rw[if_neg e2]at h5
   try simp (disch:=omega) only[h2,rr]
   try simp (disch:=omega) only[h1,rr]
   try simp (disch:=omega) only[h4,Bi,rr]
   try simp (disch:=omega) only[h3,rr]
   try simp (disch:=omega) only[h1,rr]
   try simp (disch:=omega) only[h5,show((1:Int)==0)=false from rfl,rr]
   try simp (disch:=omega) only[h3,rr]
   try simp (disch:=omega) only[h6,rr]
   try simp (disch:=omega) only[h2,rr]
   try simp (disch:=omega) only[h7,rr]
   try simp (disch:=omega) only[h9,rr]
   try simp (disch:=omega) only[h8,rr]
   try simp (disch:=omega) only[h10,rr]
 ·refine Ev.of (n1+n2+n3+n4+n5+n6+n7+n8+n9+n10+1) λn hn=>?_;obtain⟨n,rfl⟩:=qSx n;rw[qhc,qhd];rw[if_neg e1]at h4
  try simp (disch:=omega) only[h2,rr]
  try simp (disch:=omega) only[h1,rr]
  try simp (disch:=omega) only[h4,show((1:Int)==0)=false from rfl,rr]
  try simp (disch:=omega) only[h3,rr]
  try simp (disch:=omega) only[h1,rr]
  try simp (disch:=omega) only[h5,show((1:Int)==0)=false from rfl,rr]
  try simp (disch:=omega) only[h3,rr]
  try simp (disch:=omega) only[h6,rr]
  try simp (disch:=omega) only[h2,rr]
  try simp (disch:=omega) only[h7,rr]
  try simp (disch:=omega) only[h9,rr]
  try simp (disch:=omega) only[h8,rr]
  try simp (disch:=omega) only[h10,rr]
theorem qb1{q:Rat}{k d:Nat}(hk:k<=1000000000)(hk1:1<=k)(h:Bd k q)(hd:dn d=q.den):Ev En 167 [zl (q).num,zb (q).num,nL (d),.bool false] [sF (qy q)]:=by
 obtain⟨n2,h2⟩:=q5a (l:=(dg 4294967296 q.num.natAbs).map d32) (b:=decide (q.num<0)) (by omega:k<=100000000000) (q5b h hd);rw[hd]at h2;obtain⟨n3,h3⟩:=q7d;obtain⟨n4,h4⟩:=qbz (by omega) hk1 h.2 q.den_nz;obtain⟨n5,h5⟩:=qh4 (by omega) h.1;have l1:=qfg h.1;have l2:=q98 h.2;by_cases h1:q.den=1
 ·refine Ev.of (n2+n3+n4+n5) λn hn=>?_;rw[qly];rw[if_pos h1]at h4;simp (disch:=omega) only[h2,h3,h4,h5,Bi,rr];unfold qy;rw[if_pos h1]
 ·have hd':d=q.den:=by
   unfold dn at hd;split at hd <;> omega
  subst hd';obtain⟨n6,h6⟩:=qh4 (z:=(q.den:Int)) (by omega:k<=10000000000) h.2;rw[q3o,q1u]at h6;refine Ev.of (n2+n3+n4+n5+n6) λn hn=>?_;rw[qly];rw[if_neg h1]at h4;simp (disch:=omega) only[h2,h3,h4,h5,h6,show((1:Int)==0)=false from rfl,rr];have ez:qu (q.den:Int)=qk q.den:=by unfold qu;rw[if_neg (by omega)];rfl
  rw[ez,q1g,Ad,Ab,show({ data:=#[47] }:ByteArray)=txt [47] from rfl,q5d,q1g,q1g,Ad (by simp;omega),Ab,q5d];unfold qy;rw[if_neg h1];simp
theorem qij{l:List UInt8}{q:Rat}(h:pr l=some q)(hl:l.length<=100000000):Ev En 118 [sF l] [zl (q).num,zb (q).num,nL (q).den,.bool false,.int .i64 0]:=by
 have e:=q99.1 h;have hb:=qa3 h;have hl1:1<=l.length:=by
  rw[e];unfold qy;have:=qfi q.num.natAbs;split <;> (unfold qu;split <;> simp <;> omega)
 have hcut:=λn=>@cut_run n l;obtain⟨n3,h3⟩:=q7d;obtain⟨n5,h5⟩:=qb1 (by omega) (by omega) hb (qc q);have hne:(!((txt (qy q)).toList==(txt l).toList))=false:=by rw[q37,e,Af rfl];rfl
 by_cases h1:q.den=1
 ·have e1:l=qu q.num:=by rw[e];unfold qy;rw[if_pos h1]
  have hno:47 ∉ l:=by rw[e1];exact q9a _
  have hnc:l.contains 47=false:=by simpa using hno
  obtain⟨c1,c2⟩:=qe9 hno;rw[c1,c2,hnc]at hcut;obtain⟨n1,g1⟩:=qbw (q4i.2 e1) (by omega);obtain⟨n2,g2⟩:=qaq (a:=q.num) (b:=1) (k:=4*l.length) (by omega) (by omega) (by omega) hb.1 (qh9 (by omega));have eq1:Rat.divInt q.num 1=q:=by
   have:=Cp q;rwa[h1]at this
  rw[eq1,show zl (1:Int)=nL 1 from rfl,show zb (1:Int)=.bool false from rfl]at g2;refine Ev.of (n1+n2+n3+n5+4) λn hn=>?_;obtain⟨n,rfl⟩:∃m,n=m+4:=⟨n-4,by omega⟩;rw[qar,hcut]
  try simp (disch:=omega) only[g1,rr]
  try simp (disch:=omega) only[h3,rr]
  try simp only[show((0:Int) !=0)=false from rfl,rr]
  try simp (disch:=omega) only[g2,show((0:Int) !=0)=false from rfl,rr]
  try simp (disch:=omega) only[h5,hne,rr]
 ·have e1:l=qu q.num++47::qk q.den:=by rw[e];unfold qy;rw[if_neg h1]
  have hnc:l.contains 47=true:=by rw[e1];simp
  obtain⟨c1,c2⟩:=qdc (b:=qk q.den) (q9a q.num);rw[<- e1]at c1 c2;have ll:l.length=(qu q.num).length+1+(qk q.den).length:=by rw[e1];simp;omega
  rw[c1,c2,hnc]at hcut;obtain⟨n1,g1⟩:=qbw (l:=qu q.num) (q4i.2 rfl) (by omega);have ez:qk q.den=qu (q.den:Int):=by unfold qu;rw[if_neg (by omega)];rfl
  obtain⟨n4,g4⟩:=qbw (l:=qk q.den) (q4i.2 ez) (by omega);obtain⟨n2,g2⟩:=qaq (a:=q.num) (b:=(q.den:Int)) (k:=4*l.length) (by omega) (by omega) (by have:=q.den_nz;omega) hb.1 hb.2;rw[Cp]at g2;refine Ev.of (n1+n2+n3+n4+n5+4) λn hn=>?_;obtain⟨n,rfl⟩:∃m,n=m+4:=⟨n-4,by omega⟩;rw[qar,hcut]
  try simp (disch:=omega) only[g1,rr]
  try simp (disch:=omega) only[h3,Bi,rr]
  try simp (disch:=omega) only[g4,rr]
  try simp only[show((0:Int) !=0)=false from rfl,rr]
  try simp (disch:=omega) only[g2,rr]
  try simp only[show((0:Int) !=0)=false from rfl,rr]
  try simp (disch:=omega) only[h5,hne,rr]
theorem qik{l:List UInt8}(h:pr l=none)(hl:l.length<=100000000):Ev En 118 [sF l] [.list 1 [],.bool false,.list 1 [],.bool false,.int .i64 10]:=by
 have hno:=pr_none.1 h;have hcut:=λn=>@cut_run n l;obtain⟨n3,h3⟩:=q7d;obtain⟨la,lb⟩:=cut_len l;have hne:∀q:Rat,(!((txt (qy q)).toList==(txt l).toList))=true:=λq=>by rw[q37,Ad (λe=>hno q e.symm)];rfl
 cases ha:pz (cutA l)with
 |none =>
  obtain⟨n1,g1⟩:=qln ha;refine Ev.of (n1+n3+4) λn hn=>?_;obtain⟨n,rfl⟩:∃m,n=m+4:=⟨n-4,by omega⟩;rw[qar,hcut]
  try simp (disch:=omega) only[g1,rr]
  try simp (disch:=omega) only[h3,rr]
  try simp only[show((10:Int) !=0)=true from rfl,show((10:Int)==0)=false from rfl,rr]
  cases l.contains 47 <;> rfl
 |some a =>
  obtain⟨n1,g1⟩:=qbw ha;have ba:a.natAbs<2^(4*l.length+1):=AR (qa9 ha) (AW (by omega) (by omega));by_cases h47:47∈l
  ·have hnc:l.contains 47=true:=by simpa using h47
   rw[hnc]at hcut;cases hb:pz (cutB l)with
   |none =>
    obtain⟨n2,g2⟩:=qln hb;refine Ev.of (n1+n2+n3+4) λn hn=>?_;obtain⟨n,rfl⟩:∃m,n=m+4:=⟨n-4,by omega⟩;rw[qar,hcut]
    try simp (disch:=omega) only[g1,rr]
    try simp (disch:=omega) only[h3,Bi,rr]
    try simp (disch:=omega) only[g2,show((10:Int) !=0)=true from rfl,rr]
   |some b =>
    obtain⟨n2,g2⟩:=qbw hb;have bb:b.natAbs<2^(4*l.length+1):=AR (qa9 hb) (AW (by omega) (by omega));by_cases h0:b=0
    ·subst h0;obtain⟨n4,g4⟩:=make_zero (a:=a) (l:=(dg 4294967296 a.natAbs).map d32) (b:=decide (a<0));refine Ev.of (n1+n2+n3+n4+4) λn hn=>?_;obtain⟨n,rfl⟩:∃m,n=m+4:=⟨n-4,by omega⟩;rw[qar,hcut];rw[show zl (0:Int)=nL 0 from rfl,show zb (0:Int)=.bool false from rfl]at g2
     try simp (disch:=omega) only[g1,rr]
     try simp (disch:=omega) only[h3,Bi,rr]
     try simp (disch:=omega) only[g2,rr]
     try simp only[show((0:Int) !=0)=false from rfl,rr]
     try simp (disch:=omega) only[g4,show((12:Int) !=0)=true from rfl,rr]
    ·obtain⟨n4,g4⟩:=qaq (by omega) (by omega) h0 ba bb;obtain⟨m1,m2⟩:=qdd a b h0;have hbd:Bd (4*l.length+1) (Rat.divInt a b):=⟨by omega,by omega⟩;obtain⟨n5,g5⟩:=qb1 (by omega) (by omega) hbd (qc _);refine Ev.of (n1+n2+n3+n4+n5+4) λn hn=>?_;obtain⟨n,rfl⟩:∃m,n=m+4:=⟨n-4,by omega⟩;rw[qar,hcut]
     try simp (disch:=omega) only[g1,rr]
     try simp (disch:=omega) only[h3,Bi,rr]
     try simp (disch:=omega) only[g2,rr]
     try simp only[show((0:Int) !=0)=false from rfl,rr]
     try simp (disch:=omega) only[g4,rr]
     try simp only[show((0:Int) !=0)=false from rfl,rr]
     try simp (disch:=omega) only[g5,hne,rr]
  ·have hnc:l.contains 47=false:=by simpa using h47
   rw[hnc]at hcut;obtain⟨c1,c2⟩:=qe9 h47;rw[c1]at ha;exfalso;refine hno (a:Rat) ?_;unfold qy;rw[if_pos (show((a:Rat)).den=1 from rfl)];exact q4i.1 ha
end
section
theorem qd5:Ev En 40 [.int .i64 1] [.bool false,wL 1]:=by
 have:=qd3 (z:=1);rwa[show zb (1:Int)=.bool false from rfl,show wl (1:Int)=wL 1 from rfl]at this
theorem q6a{l:List FV}{b:Bool}{d:Nat}:Ev En 43 [.bool b,.list 1 l,.bool false,wL d] [.bool false,wL (dn d)]:=by
 obtain⟨n2,h2⟩:=qd5;refine Ev.of (n2+1) λn hn=>?_;obtain⟨n,rfl⟩:=qSx n;rw[qog,qiv];unfold dn;by_cases h0:d=0
 ·subst h0;simp (disch:=omega) only[h2,Ba,Bi,rr]
 ·rw[if_neg h0,if_neg h0];simp only[show((1:Int)==0)=false from rfl,rr]
theorem qa2{z:Int}(h1:-9223372036854775808<=z:=by omega)(h2:z<=9223372036854775807:=by omega):Ev En 12 [.int .i64 z] [zb ((z:Rat)).num,wl ((z:Rat)).num,.bool false,wL ((z:Rat)).den]:=by
 obtain⟨n1,g1⟩:=qd3 h1 h2;obtain⟨n2,g2⟩:=qd5;refine Ev.of (n1+n2) λn hn=>?_;rw[qoh]
 try simp (disch:=omega) only[g1,rr]
 try simp (disch:=omega) only[g2,rr]
 rfl
theorem qd8{a b:Int}{k:Nat}(hk:k<=100000000000)(h0:b≠0)(ha:a.natAbs<2^k)(hb:b.natAbs<2^k) :
  Ev En 79 [zb a,wl a,zb b,wl b] [zb (Rat.divInt a b).num,wl (Rat.divInt a b).num,.bool false,wL (Rat.divInt a b).den,.int .i64 0]:=by
 have key:∀(a b:Int),0<b->a.natAbs<2^k->b.natAbs<2^k->∃n0,∀n,n0<=n ->
   ((evF En n 135 [wl a,wl b]).bind λr10=>(asLst 1 (r10[0]?)).bind λv11=>(evF En n 80 [.bool false,.list 1 v11]).bind λr12=>(asBool (r12[0]?)).bind λc13=>(asLst 1 (r12[1]?)).bind λv14=>(evF En n 136 [zb a,wl a,.bool c13,.list 1 v14]).bind λr15=>(asBool (r15[0]?)).bind λc16=>(asLst 1 (r15[1]?)).bind λv17=>(asBool (r15[2]?)).bind λc18=>(asLst 1 (r15[3]?)).bind λv19=>(asInt .i64 (r15[4]?)).bind λn20=>(evF En n 136 [zb b,wl b,.bool c13,.list 1 v14]).bind λr21=>(asBool (r21[0]?)).bind λc22=>(asLst 1 (r21[1]?)).bind λv23=>(asBool (r21[2]?)).bind λc24=>(asLst 1 (r21[3]?)).bind λv25=>(asInt .i64 (r21[4]?)).bind λn26=>some [.bool c16,.list 1 v17,.bool c22,.list 1 v23,.int .i64 0])=some [zb (Rat.divInt a b).num,wl (Rat.divInt a b).num,.bool false,wL (Rat.divInt a b).den,.int .i64 0]:=by
  intro a b hb0 ha hb;obtain⟨e1,e2⟩:=qiw (a:=a) hb0;have hg0:0<Nat.gcd a.natAbs b.natAbs:=Fz _ (by omega);have hgb:Nat.gcd a.natAbs b.natAbs<2^k:=BI (Nat.le_of_dvd (by omega) (Nat.gcd_dvd_right _ _)) hb;have la:=q7i ha hk;have lb:=q7i hb hk;obtain⟨n4,h4⟩:=wgcd_ev (x:=a.natAbs) (y:=b.natAbs) (by omega) (by omega);obtain⟨n5,h5⟩:=q47 (s:=false) (x:=Nat.gcd a.natAbs b.natAbs);have hs:sg false (Nat.gcd a.natAbs b.natAbs)=((Nat.gcd a.natAbs b.natAbs:Nat):Int):=by simp[sg]
  rw[hs]at h5;generalize Nat.gcd a.natAbs b.natAbs=g at *
  obtain⟨n8,h8⟩:=wqr_ev (z:=a) (w:=(g:Int)) hk (by omega) ha hgb;obtain⟨n9,h9⟩:=wqr_ev (z:=b) (w:=(g:Int)) hk (by omega) hb hgb;rw[<- e1]at h8;rw[<- e2]at h9;have f2:FV.bool (decide (((Rat.divInt a b).den:Int)<0))=.bool false:=q1u _;refine⟨n4+n5+n8+n9,λn hn=>?_⟩
  try simp (disch:=omega) only[h4,rr]
  try simp (disch:=omega) only[h5,rr]
  try simp (disch:=omega) only[h8,rr]
  try simp (disch:=omega) only[h9,rr]
  rw[f2];rfl
 rcases EP h0 with h | h
 ·obtain⟨n2,h2⟩:=qd9 (z:=a);obtain⟨n3,h3⟩:=qd9 (z:=b);obtain⟨n4,h4⟩:=key (-a) (-b) (by omega) (by rw[BC];exact ha) (by rw[BC];exact hb);rw[Rat.neg_divInt_neg]at h4;refine Ev.of (n2+n3+n4+1) λn hn=>?_;obtain⟨n,rfl⟩:=qSx n;rw[qfc,q8c,CN h]
  try simp only[show((-1:Int)==0)=false from rfl,show decide ((-1:Int)<0)=true from rfl,rr]
  try simp (disch:=omega) only[h2,rr]
  try simp (disch:=omega) only[h3,rr]
  exact h4 (n+1) (by omega)
 ·obtain⟨n4,h4⟩:=key a b h ha hb;refine Ev.of (n4+1) λn hn=>?_;obtain⟨n,rfl⟩:=qSx n;rw[qfc,q8c,Ck h]
  try simp only[show((1:Int)==0)=false from rfl,show decide ((1:Int)<0)=false from rfl,rr]
  exact h4 (n+1) (by omega)
theorem qix{l:List FV}{b:Bool}:Ev En 79 [.bool b,.list 1 l,.bool false,wL 0] [.bool false,.list 1 [],.bool false,.list 1 [],.int .i64 12]:=by
 refine Ev.of 1 λn hn=>?_;obtain⟨n,rfl⟩:=qSx n;rw[qfc,qiv];simp (disch:=omega) only[Ba,Bi,rr]
theorem qiy{a b:Int}{k:Nat}(hk:k<=100000000000)(h0:b≠0)(ha:a.natAbs<2^k)(hb:b.natAbs<2^k) :
  Ev En 41 [zb a,wl a,zb b,wl b] [zb (Rat.divInt a b).num,wl (Rat.divInt a b).num,.bool false,wL (Rat.divInt a b).den]:=by
 obtain⟨n1,h1⟩:=qd8 hk h0 ha hb;refine Ev.of n1 λn hn=>?_;rw[qoi];simp (disch:=omega) only[h1,rr]
theorem qo6{n:Nat}{q:Rat}{l:List FV}{b:Bool}:evF En (n+2) 38 [zb q.num,wl q.num,.bool b,.list 1 l]=some [.int .i64 q.num.sign]:=by
 rw[qoj,q8c];simp only[rr]
theorem qez{q:Rat}{d:Nat}(hd:dn d=q.den):Ev En 39 [zb (q).num,wl (q).num,.bool false,wL (d)] [zb (-q).num,wl (-q).num,.bool false,wL (-q).den]:=by
 obtain⟨n1,h1⟩:=qd9 (z:=q.num);obtain⟨n2,h2⟩:=q6a (l:=(dg 1000000000 q.num.natAbs).map d64) (b:=decide (q.num<0)) (d:=d);rw[hd]at h2;refine Ev.of (n1+n2) λn hn=>?_;rw[qok]
 try simp (disch:=omega) only[h1,rr]
 try simp (disch:=omega) only[h2,rr]
 rfl
theorem qcm{q r:Rat}{k d e:Nat}(hk:k+k<=100000000000)(h:Bd k q)(h':Bd k r)(hd:dn d=q.den)(he:dn e=r.den):Ev En 13 [zb (q).num,wl (q).num,.bool false,wL (d),zb (r).num,wl (r).num,.bool false,wL (e)] [zb (q*r).num,wl (q*r).num,.bool false,wL (q*r).den]:=by
 obtain⟨n1,h1⟩:=q96 hk h.1 h'.1;obtain⟨n2,h2⟩:=q6a (l:=(dg 1000000000 q.num.natAbs).map d64) (b:=decide (q.num<0)) (d:=d);obtain⟨n3,h3⟩:=q6a (l:=(dg 1000000000 r.num.natAbs).map d64) (b:=decide (r.num<0)) (d:=e);rw[hd]at h2;rw[he]at h3;obtain⟨n4,h4⟩:=q96 (z:=(q.den:Int)) (w:=(r.den:Int)) hk h.2 h'.2;rw[q3y,q1u,q3y,q1u]at h4;obtain⟨n5,h5⟩:=qiy (a:=q.num*r.num) (b:=(q.den:Int)*r.den) (k:=k+k) hk (q97 q r) (by rw[Ce];exact q4h h.1 h'.1) (by rw[Ce];exact q4h h.2 h'.2);rw[<- qfd]at h5;refine Ev.of (n1+n2+n3+n4+n5) λn hn=>?_;rw[qol]
 try simp (disch:=omega) only[h1,rr]
 try simp (disch:=omega) only[h2,rr]
 try simp (disch:=omega) only[h3,rr]
 try simp (disch:=omega) only[h4,rr]
 try simp (disch:=omega) only[h5,rr]
theorem qil{q r:Rat}{k d e:Nat}(hk:k+k<=100000000000)(h:Bd k q)(h':Bd k r)(hd:dn d=q.den)(he:dn e=r.den):Ev En 32 [zb (q).num,wl (q).num,.bool false,wL (d),zb (r).num,wl (r).num,.bool false,wL (e)] [.int .i64 (q20 (q.num*r.den) (r.num*q.den))]:=by
 obtain⟨c1,c2⟩:=qb5 h h';obtain⟨n2,h2⟩:=q6a (l:=(dg 1000000000 q.num.natAbs).map d64) (b:=decide (q.num<0)) (d:=d);obtain⟨n3,h3⟩:=q6a (l:=(dg 1000000000 r.num.natAbs).map d64) (b:=decide (r.num<0)) (d:=e);rw[hd]at h2;rw[he]at h3;obtain⟨n1,h1⟩:=q96 (z:=q.num) (w:=(r.den:Int)) hk h.1 h'.2;rw[q3y,q1u]at h1;obtain⟨n4,h4⟩:=q96 (z:=r.num) (w:=(q.den:Int)) hk h'.1 h.2;rw[q3y,q1u]at h4;obtain⟨n5,h5⟩:=wcmp_z hk c1 c2;refine Ev.of (n1+n2+n3+n4+n5) λn hn=>?_;rw[qom]
 try simp (disch:=omega) only[h3,rr]
 try simp (disch:=omega) only[h1,rr]
 try simp (disch:=omega) only[h2,rr]
 try simp (disch:=omega) only[h4,rr]
 try simp (disch:=omega) only[h5,rr]
theorem qcl{q r:Rat}{k d e:Nat}(hk:k+k+1<=100000000000)(h:Bd k q)(h':Bd k r)(hd:dn d=q.den)(he:dn e=r.den):Ev En 37 [zb (q).num,wl (q).num,.bool false,wL (d),zb (r).num,wl (r).num,.bool false,wL (e)] [zb (q+r).num,wl (q+r).num,.bool false,wL (q+r).den]:=by
 obtain⟨c1,c2⟩:=qb5 h h';obtain⟨n2,h2⟩:=q6a (l:=(dg 1000000000 q.num.natAbs).map d64) (b:=decide (q.num<0)) (d:=d);obtain⟨n3,h3⟩:=q6a (l:=(dg 1000000000 r.num.natAbs).map d64) (b:=decide (r.num<0)) (d:=e);rw[hd]at h2;rw[he]at h3;obtain⟨n6,h6⟩:=q96 (z:=q.num) (w:=(r.den:Int)) (by omega) h.1 h'.2;obtain⟨n7,h7⟩:=q96 (z:=r.num) (w:=(q.den:Int)) (by omega) h'.1 h.2;obtain⟨n8,h8⟩:=q96 (z:=(q.den:Int)) (w:=(r.den:Int)) (by omega) h.2 h'.2;rw[q3y,q1u]at h6 h7;rw[q3y,q1u,q3y,q1u]at h8;obtain⟨n9,h9⟩:=qd4 (k:=k+k) (by omega) c1 c2;have cs:(q.num*r.den+r.num*q.den).natAbs<2^(k+k+1):=by rw[Ax];omega
 have cd:((q.den:Int)*r.den).natAbs<2^(k+k+1):=by rw[Ce,Ax];have:=q4h h.2 h'.2;simp only[CC];omega
 obtain⟨n10,h10⟩:=qiy hk (q97 q r) cs cd;rw[<- qfe]at h10;refine Ev.of (n2+n3+n6+n7+n8+n9+n10) λn hn=>?_;rw[qon]
 try simp (disch:=omega) only[h3,rr]
 try simp (disch:=omega) only[h6,rr]
 try simp (disch:=omega) only[h2,rr]
 try simp (disch:=omega) only[h7,rr]
 try simp (disch:=omega) only[h9,rr]
 try simp (disch:=omega) only[h2,rr]
 try simp (disch:=omega) only[h3,rr]
 try simp (disch:=omega) only[h8,rr]
 try simp (disch:=omega) only[h10,rr]
theorem qey{q r:Rat}{k d e:Nat}(hk:k+k+1<=100000000000)(h:Bd k q)(h':Bd k r)(hd:dn d=q.den)(he:dn e=r.den):Ev En 92 [zb (q).num,wl (q).num,.bool false,wL (d),zb (r).num,wl (r).num,.bool false,wL (e)] [zb (q-r).num,wl (q-r).num,.bool false,wL (q-r).den]:=by
 obtain⟨n1,h1⟩:=qez he;obtain⟨n2,h2⟩:=qcl (r:=-r) hk h h'.neg hd (qc _);rw[<- Rat.sub_eq_add_neg]at h2;refine Ev.of (n1+n2) λn hn=>?_;rw[qoo]
 try simp (disch:=omega) only[h1,rr]
 try simp (disch:=omega) only[h2,rr]
theorem qiz{d:Nat}:(qu (d:Int)=[49])↔d=1:=by
 have e1:([49]:List UInt8)=qu ((1:Nat):Int):=by
  unfold qu;rw[if_neg (by omega)];show _=qk 1;unfold qk;rw[if_neg (by omega),q3c,q17];rfl
 rw[e1];constructor
 ·intro h;have:=qda h;omega
 ·intro h;rw[h]
theorem qcn{q:Rat}{k d:Nat}(hk:k<=1000000000)(h:Bd k q)(hd:dn d=q.den):Ev En 14 [zb (q).num,wl (q).num,.bool false,wL (d)] [sF (qy q)]:=by
 obtain⟨n2,h2⟩:=q6a (l:=(dg 1000000000 q.num.natAbs).map d64) (b:=decide (q.num<0)) (d:=d);rw[hd]at h2;obtain⟨n5,h5⟩:=qff (by omega) h.1;obtain⟨n6,h6⟩:=qff (z:=(q.den:Int)) (by omega:k<=100000000000) h.2;rw[q3y,q1u]at h6;have l1:=qfg h.1;have l2:=q98 h.2;refine Ev.of (n2+n5+n6) λn hn=>?_;rw[qop]
 try simp (disch:=omega) only[h2,rr]
 try simp (disch:=omega) only[h6,rr]
 rw[show({ data:=#[49] }:ByteArray)=txt [49] from rfl,q37];unfold qy;by_cases h1:q.den=1
 ·rw[Af (qiz.2 h1),if_pos h1]
  try simp (disch:=omega) only[h5,rr]
 ·rw[Ad (λe=>h1 (qiz.1 e)),if_neg h1]
  try simp (disch:=omega) only[h5,rr]
  have ez:qu (q.den:Int)=qk q.den:=by unfold qu;rw[if_neg (by omega)];rfl
  rw[ez,q1g,Ad,Ab,show({ data:=#[47] }:ByteArray)=txt [47] from rfl,q5d,q1g,q1g,Ad (by simp;omega),Ab,q5d];simp
theorem qj0{n:Nat}{l:List UInt8}{b0 b2:Bool}{l1 l3:List FV}(hl:l.length<=1000000000):∀(d i m:Nat),i+d<=l.length->(∀t,i<=t->t<i+d->l[t]?≠some 47)->d<=m ->
  q7j.l2 n [] m [.bool b0,.list 1 l1,.bool b2,.list 1 l3,sF l,.int .i64 (i:Int)]=q7j.l2 n [] (m-d) [.bool b0,.list 1 l1,.bool b2,.list 1 l3,sF l,.int .i64 ((i+d:Nat):Int)]:=by
 intro d
 induction d with
 |zero=>intro i m hi hn hm;rw[Ec,Ay]
 |succ d ih =>
  intro i m hi hn hm;obtain⟨m,rfl⟩:=qSx m;have hil:i<l.length:=by omega
  have h47:((((l[i]).toNat:Nat):Int) !=47)=true:=by
   rw[CF];intro q;have:l[i]=47:=Do.1 (show l[i].toNat=47 by omega);exact hn i (Ak _) (by omega) (by rw[Ag hil,this])
  conv=>lhs;rw[q7j.qt]
  rw[q1g,Af,Ac,q48,Ag hil,AE,Ae,h47,Ac,qd (by omega),ih (i+1) m (by omega) (λt h1 h2=>hn t (by omega) (by omega)) (by omega),show m+1-(d+1)=m-d by omega,show i+1+d=i+(d+1) by omega]
theorem no47_at{a:List UInt8}(h:47 ∉ a){r:List UInt8}{t:Nat}(ht:t<a.length):(a++r)[t]?≠some 47:=by
 rw[Dn ht,Ag ht];intro q;exact h (Ed q▸Ah ht)
theorem qj1{n:Nat}{l:List UInt8}(h:47 ∉ l)(hl:l.length<=1000000000:=by omega)(hn:l.length<n:=by omega):evF En (n+1) 22 [sF l]=(evF En n 77 [sF l]).bind λr25=>(asBool (r25[0]?)).bind λc26=>(asLst 1 (r25[1]?)).bind λv27=>(asInt .i64 (r25[2]?)).bind λn28 =>
  (bif(n28 !=0)then some [.bool false,.list 1 [],.bool false,.list 1 [],.int .i64 10]
   else(evF En n 40 [.int .i64 1]).bind λr29=>(asBool (r29[0]?)).bind λc30=>(asLst 1 (r29[1]?)).bind λv31=>some [.bool c26,.list 1 v27,.bool c30,.list 1 v31,.int .i64 0]):=by
 have hs:=qj0 (n:=n) (l:=l) (b0:=false) (b2:=false) (l1:=[]) (l3:=[]) hl l.length 0 n (by omega) (λt _ ht=>by have:=no47_at h (r:=[]) (t:=t) (by omega);simpa using this) (by omega);obtain⟨m,hm⟩:∃m,n-l.length=m+1:=⟨n-l.length-1,by omega⟩;rw[qj2];rw[show((0:Nat):Int)=0 from rfl,AG,hm]at hs;rw[hs,q7j.qt,q1g,Ad,Ab,q1s (Ak _),Ae,q5e,Bj,Au,Bi];simp only[Ac]
theorem qb6{n:Nat}{l:List UInt8}(h:47∈l)(hl:l.length<=1000000000:=by omega)(hn:l.length<n:=by omega):evF En (n+1) 22 [sF l]=(evF En n 77 [sF (cutA l)]).bind λr2=>(asBool (r2[0]?)).bind λc3=>(asLst 1 (r2[1]?)).bind λv4=>(asInt .i64 (r2[2]?)).bind λn5 =>
  (bif(n5 !=0)then some [.bool false,.list 1 [],.bool false,.list 1 [],.int .i64 10]
   else(evF En n 78 [sF (cutB l)]).bind λr10=>(asLst 1 (r10[0]?)).bind λv11=>(asInt .i64 (r10[1]?)).bind λn12=>(evF En n 80 [.bool false,.list 1 v11]).bind λr13=>(asBool (r13[0]?)).bind λc14=>(asLst 1 (r13[1]?)).bind λv15=>(evF En n 79 [.bool c3,.list 1 v4,.bool c14,.list 1 v15]).bind λr16=>(asBool (r16[0]?)).bind λc17=>(asLst 1 (r16[1]?)).bind λv18=>(asBool (r16[2]?)).bind λc19=>(asLst 1 (r16[3]?)).bind λv20=>(asInt .i64 (r16[4]?)).bind λn21 =>
     (bif(n12 !=0)then some [.bool false,.list 1 [],.bool false,.list 1 [],.int .i64 10]
      else
      (bif(n21 !=0)then some [.bool false,.list 1 [],.bool false,.list 1 [],.int .i64 10]
       else(evF En n 14 [.bool c17,.list 1 v18,.bool c19,.list 1 v20]).bind λr22=>(asStr (r22[0]?)).bind λu23 =>
       (bif(!(u23.toList==(txt l).toList))then some [.bool false,.list 1 [],.bool false,.list 1 [],.int .i64 10]
        else some [.bool c17,.list 1 v18,.bool c19,.list 1 v20,.int .i64 0])))):=by
 have hj:=qdb h;have hno:=cutA_no l;generalize cutA l=a at *
 generalize cutB l=b at *
 subst hj;simp only[AZ,Aq]at hl hn;have hs:=qj0 (n:=n) (l:=a++47::b) (b0:=false) (b2:=false) (l1:=[]) (l3:=[]) (by simp;omega) a.length 0 n (by simp) (λt _ ht=>no47_at hno (by omega)) (by omega);obtain⟨m,hm⟩:∃m,n-a.length=m+1:=⟨n-a.length-1,by omega⟩;rw[qj2];rw[show((0:Nat):Int)=0 from rfl,AG,hm]at hs;have ea:((a++47::b).take a.length).drop 0=a:=by rw[Au,List.take_left]
 have eb:((a++47::b).take (a++47::b).length).drop (a.length+1)=b:=by
  rw[Bj,show a++47::b=(a++[47])++b by simp,show a.length+1=(a++[47]).length by simp,List.drop_left]
 have e47:(a++47::b)[a.length]?=some 47:=by rw[CQ (Ak _),Cn];rfl
 rw[hs,q7j.qt,q1g,Af (by simp;omega),Ac,q48,e47,AE,Ae,show((((47:UInt8).toNat:Nat):Int) !=47)=false from rfl,Ab,q1s (by simp),Ae,q5e,ea,
  show(((a.length:Nat):Int)==((a++47::b).length:Int))=false from Bq.2 (by simp;omega),qd (by omega),q1s (by simp)]
 simp only[Ab,Ae,q5e,eb]
theorem qim{l:List UInt8}{q:Rat}(h:pr l=some q)(hl:l.length<=100000000):Ev En 22 [sF l] [zb (q).num,wl (q).num,.bool false,wL (q).den,.int .i64 0]:=by
 have e:=q99.1 h;have hb:=qa3 h;obtain⟨n3,h3⟩:=qd5;by_cases h1:q.den=1
 ·have e1:l=qu q.num:=by rw[e];unfold qy;rw[if_pos h1]
  have hno:47 ∉ l:=by rw[e1];exact q9a _
  obtain⟨n1,g1⟩:=qfh (q4i.2 e1) (by omega);refine Ev.of (n1+n3+l.length+1) λn hn=>?_;rw[qj1 hno]
  try simp (disch:=omega) only[g1,rr]
  try simp (disch:=omega) only[h3,show((0:Int) !=0)=false from rfl,rr]
  rw[h1]
 ·have e1:l=qu q.num++47::qk q.den:=by rw[e];unfold qy;rw[if_neg h1]
  have hin:47∈l:=by rw[e1];simp
  obtain⟨c1,c2⟩:=qdc (b:=qk q.den) (q9a q.num);rw[<- e1]at c1 c2;have ll:l.length=(qu q.num).length+1+(qk q.den).length:=by rw[e1];simp;omega
  obtain⟨n1,g1⟩:=qfh (l:=qu q.num) (q4i.2 rfl) (by omega);obtain⟨n4,g4⟩:=qb7 (l:=qk q.den) (q6b _) (by omega);rw[q6c]at g4;obtain⟨n5,g5⟩:=q47 (s:=false) (x:=q.den);have hs:sg false q.den=(q.den:Int):=by simp[sg]
  rw[hs,q1u,q3y]at g5;obtain⟨n2,g2⟩:=qd8 (a:=q.num) (b:=(q.den:Int)) (k:=4*l.length) (by omega) (by have:=q.den_nz;omega) hb.1 hb.2;rw[Cp,q1u,q3y]at g2;obtain⟨n6,g6⟩:=qcn (by omega) hb (qc q);have hne:(!((txt (qy q)).toList==(txt l).toList))=false:=by rw[q37,e,Af rfl];rfl
  refine Ev.of (n1+n2+n4+n5+n6+l.length+1) λn hn=>?_;rw[qb6 hin,c1,c2]
  try simp (disch:=omega) only[g1,rr]
  try simp only[show((0:Int) !=0)=false from rfl,rr]
  try simp (disch:=omega) only[g4,rr]
  try simp (disch:=omega) only[g5,rr]
  try simp (disch:=omega) only[g2,rr]
  try simp only[show((0:Int) !=0)=false from rfl,rr]
  try simp (disch:=omega) only[g6,hne,rr]
theorem qin{l:List UInt8}(h:pr l=none)(hl:l.length<=100000000):Ev En 22 [sF l] [.bool false,.list 1 [],.bool false,.list 1 [],.int .i64 10]:=by
 have hno:=pr_none.1 h;obtain⟨la,lb⟩:=cut_len l;have hne:∀q:Rat,(!((txt (qy q)).toList==(txt l).toList))=true:=λq=>by rw[q37,Ad (λe=>hno q e.symm)];rfl
 by_cases h47:47∈l
 ·cases ha:pz (cutA l)with
  |none =>
   obtain⟨n1,g1⟩:=qj3 ha;refine Ev.of (n1+l.length+1) λn hn=>?_;rw[qb6 h47]
   try simp (disch:=omega) only[g1,show((10:Int) !=0)=true from rfl,rr]
  |some a =>
   obtain⟨n1,g1⟩:=qfh ha (by omega);have ba:a.natAbs<2^(4*l.length+1):=AR (qa9 ha) (AW (by omega) (by omega));by_cases hc:canon (cutB l)
   ·have bb:vD (cutB l)<2^(4*l.length+1):=AR (vD_lt2 hc.2.1) (AW (by omega) (by omega));obtain⟨n4,g4⟩:=qb7 (l:=cutB l) hc (by omega);generalize vD (cutB l)=v at *
    obtain⟨n5,g5⟩:=q47 (s:=false) (x:=v);have hs:sg false v=(v:Int):=by simp[sg]
    rw[hs,q1u,q3y]at g5;by_cases h0:v=0
    ·subst h0;obtain⟨n2,g2⟩:=qix (l:=(dg 1000000000 a.natAbs).map d64) (b:=decide (a<0));refine Ev.of (n1+n2+n4+n5+l.length+1) λn hn=>?_;rw[qb6 h47]
     try simp (disch:=omega) only[g1,rr]
     try simp only[show((0:Int) !=0)=false from rfl,rr]
     try simp (disch:=omega) only[g4,rr]
     try simp (disch:=omega) only[g5,rr]
     try simp (disch:=omega) only[g2,show((0:Int) !=0)=false from rfl,show((12:Int) !=0)=true from rfl,rr]
    ·obtain⟨n2,g2⟩:=qd8 (a:=a) (b:=(v:Int)) (by omega) (by omega) ba bb;obtain⟨m1,m2⟩:=qdd a (v:Int) (by omega);have hbd:Bd (4*l.length+1) (Rat.divInt a v):=⟨by omega,by simp only[CC]at m2;omega⟩;rw[q1u,q3y]at g2;obtain⟨n6,g6⟩:=qcn (by omega) hbd (qc _);refine Ev.of (n1+n2+n4+n5+n6+l.length+1) λn hn=>?_;rw[qb6 h47]
     try simp (disch:=omega) only[g1,rr]
     try simp only[show((0:Int) !=0)=false from rfl,rr]
     try simp (disch:=omega) only[g4,rr]
     try simp (disch:=omega) only[g5,rr]
     try simp (disch:=omega) only[g2,rr]
     try simp only[show((0:Int) !=0)=false from rfl,rr]
     try simp (disch:=omega) only[g6,hne,rr]
   ·obtain⟨n4,g4⟩:=qde (l:=cutB l) hc (by omega);obtain⟨n5,g5⟩:=q47 (s:=false) (x:=0);have hs:sg false 0=((0:Nat):Int):=by simp[sg]
    rw[hs,q1u,q3y,qb8]at g5;obtain⟨n2,g2⟩:=qix (l:=(dg 1000000000 a.natAbs).map d64) (b:=decide (a<0));rw[qb8]at g2;refine Ev.of (n1+n2+n4+n5+l.length+1) λn hn=>?_;rw[qb6 h47]
    try simp (disch:=omega) only[g1,rr]
    try simp only[show((0:Int) !=0)=false from rfl,rr]
    try simp (disch:=omega) only[g4,rr]
    try simp (disch:=omega) only[g5,rr]
    try simp (disch:=omega) only[g2,show((10:Int) !=0)=true from rfl,rr]
 ·have hz:pz l=none:=by
   rw[pz_none];intro a q;refine hno (a:Rat) ?_;unfold qy;rw[if_pos (show((a:Rat)).den=1 from rfl)];exact q
  obtain⟨n1,g1⟩:=qj3 hz;refine Ev.of (n1+l.length+1) λn hn=>?_;rw[qj1 h47]
  try simp (disch:=omega) only[g1,show((10:Int) !=0)=true from rfl,rr]
end
section
def flatTok:Tok->Bool
 |.int _ | .bool | .str | .lst _ | .own _=>true
 |_=>false
theorem FRep.vrep{w:World}{S S':Nat->Prop}{g:Gh}{sz:Nat}{xs:List FV}(h:VRep w S g sz xs)(hS:∀b,S b->S' b)(hg:g.nil=false->S' g.blk):FRep w S' (.list sz xs) (.slice g.base xs.length g.cap):=by
 obtain⟨h1,h2⟩:=h;by_cases hn:g.nil=true
 ·rw[if_pos hn]at h2;obtain⟨rfl,h3⟩:=h2;exact FRep.q30.2 ⟨_,_,0,0,rfl,h1,λh=>absurd rfl h,by simp,λi j x c h=>by simp at h⟩
 ·rw[if_neg hn]at h2;obtain⟨vals,e,h3,h4,h5⟩:=h2;have hn':g.nil=false:=by simpa using hn
  exact FRep.q30.2 ⟨_,_,g.blk,g.off,rfl,h1,λ_=>⟨by simp[Gh.base,hn'],hg hn'⟩,h5.mono (λ_ _=>rfl) hS rfl⟩
theorem qe3{w:World}{S S':Nat->Prop}(hS:∀b,S b->S' b):∀ {T:List Tok} {V:List Value} {L:List FV} {acc G:GA},T.all flatTok=true->TRep w S T V L acc G->(∀b,q27 G b->S' b) ->
  All2 (FRep w S') L V/\L.length=T.length/\∀c,c∈L->c.flat=true
 |[],V,L,acc,G,_,h,_=>by
  obtain⟨rfl,rfl,rfl⟩:=h;exact⟨.nil,rfl,λc hc=>by simp at hc⟩
 |t::T,V,L,acc,G,ht,h,hG=>by
  simp only[Bk,Ai]at ht;obtain⟨h0,ht⟩:=ht;have leaf:(∃v V' x L',V=v::V'/\L=x::L'/\leafT t x/\FRep w S x v/\TRep w S T V' L' acc G)->All2 (FRep w S') L V/\L.length=(t::T).length/\∀c,c∈L->c.flat=true:=by
   rintro⟨v,V',x,L',rfl,rfl,h3,h4,h5⟩;obtain⟨k1,k2,k3⟩:=qe3 hS ht h5 hG;refine⟨.cons (h4.mono (λ_ _=>rfl) hS) k1,by simp[k2],λc hc=>?_⟩;rcases Ar.1 hc with rfl | hc
   ·exact q9q h3
   ·exact k3 c hc
  cases t with
  |int k=>exact leaf h
  |bool=>exact leaf h
  |str=>exact leaf h
  |lst sz=>exact leaf h
  |own sz =>
   obtain⟨g,xs,V',L',rfl,rfl,hv,hT⟩:=h;obtain⟨k1,k2,k3⟩:=qe3 hS ht hT hG;obtain⟨r,hr⟩:=hT.pre;have hat:G[acc.length]?=some (g,(some (sz,xs.length),none)):=by
    rw[hr,Ap,CQ (Ak _)];simp
   refine⟨.cons (FRep.vrep hv hS λhn=>hG _ ⟨acc.length,g,_,hat,hn,rfl⟩) k1,by simp[k2],λc hc=>?_⟩
   ·rcases Ar.1 hc with rfl | hc
    ·rfl
    ·exact k3 c hc
  |_=>simp[flatTok]at h0
theorem VRep.keep{w w':World}{S:Nat->Prop}{g:Gh}{sz:Nat}{xs:List FV}(h:VRep w S g sz xs)(hw:∀b,b<w.heap.size->w'.heap[b]?=w.heap[b]?)(hS:∀b,S b->b<w.heap.size):VRep w' S g sz xs:=by
 obtain⟨h1,h2⟩:=h;refine⟨h1,?_⟩;split
 ·rename_i hn;rw[if_pos hn]at h2;exact h2
 ·rename_i hn;rw[if_neg hn]at h2;obtain⟨vals,e,h3,h4,h5⟩:=h2;have hlt:g.blk<w.heap.size:=by
   rcases Dj g.blk w.heap.size with q | q
   ·exact q
   ·rw[Dd q]at h3;cases h3
  exact⟨vals,e,by rw[hw _ hlt];exact h3,h4,h5.mono (λb hb=>hw b (hS b hb)) (λ_ h=>h) (hw _ hlt)⟩
theorem qap{w w':World}{S:Nat->Prop}(hw:∀b,b<w.heap.size->w'.heap[b]?=w.heap[b]?)(hS:∀b,S b->b<w.heap.size){U:List Tok}{R:List Value}{L2:List FV} :
  ∀ {T:List Tok} {V:List Value} {L:List FV} {acc G:GA},T.all flatTok=true->TRep w S T V L acc G->TRep w' S U R L2 G G->TRep w' S (T++U) (V++R) (L++L2) acc G
 |[],V,L,acc,G,_,h,hU=>by
  obtain⟨rfl,rfl,rfl⟩:=h;exact hU
 |t::T,V,L,acc,G,ht,h,hU=>by
  simp only[Bk,Ai]at ht;obtain⟨h0,ht⟩:=ht;cases t with
  |int k=>obtain⟨v,V',x,L',rfl,rfl,h3,h4,h5⟩:=h;exact⟨v,_,x,_,rfl,rfl,h3,h4.mono (λb hb=>hw b (hS b hb)) (λ_ h=>h),qap hw hS ht h5 hU⟩
  |bool=>obtain⟨v,V',x,L',rfl,rfl,h3,h4,h5⟩:=h;exact⟨v,_,x,_,rfl,rfl,h3,h4.mono (λb hb=>hw b (hS b hb)) (λ_ h=>h),qap hw hS ht h5 hU⟩
  |str=>obtain⟨v,V',x,L',rfl,rfl,h3,h4,h5⟩:=h;exact⟨v,_,x,_,rfl,rfl,h3,h4.mono (λb hb=>hw b (hS b hb)) (λ_ h=>h),qap hw hS ht h5 hU⟩
  |lst sz=>obtain⟨v,V',x,L',rfl,rfl,h3,h4,h5⟩:=h;exact⟨v,_,x,_,rfl,rfl,h3,h4.mono (λb hb=>hw b (hS b hb)) (λ_ h=>h),qap hw hS ht h5 hU⟩
  |own sz =>
   obtain⟨g,xs,V',L',rfl,rfl,hv,hT⟩:=h;exact⟨g,xs,_,_,rfl,rfl,hv.keep hw hS,qap hw hS ht hT hU⟩
  |_=>simp[flatTok]at h0
theorem thaw{P:Program}{f:FuncId}{k:Nat}{T:List Tok}{i j:FnI}(hi1:i.tin=[.fpt k])(hi2:i.tout=[.skip,.bool])(hj1:j.tin=.obj k::T)(hj2:j.tout=.obj k::(T++[.bool]))(hT:T.all flatTok=true)(hk:T.length=k)
  {L:List FV} {b:Bool} (h:q2w P f i [.ref k (.agg L)] [.bool b]):q2w P f j L (L++[.bool b]):=by
 intro w S V G hS htab hR hgo;rw[hj1]at hR;obtain⟨g,vals,e,V',rfl,hn,hb,hsz,hT0⟩:=hR;have hlenV:∀ {T:List Tok} {V:List Value} {L:List FV} {acc G:GA},T.all flatTok=true->TRep w S T V L acc G->V.length=T.length:=by
  intro T V L acc G ht h;obtain⟨k1,k2,_⟩:=qe3 (S':=λ_=>True) (λ_ _=>trivial) ht h (λ_ _=>trivial);rw[<- k1.len,k2]
 have hV':V'=[]:=by
  have:=hlenV hT hT0;simp at this;exact BH (by omega)
 subst hV';rw[AN]at hT0;have hblk:g.blk<w.heap.size:=by
  rcases Dj g.blk w.heap.size with q | q
  ·exact q
  ·rw[Dd q]at hb;cases hb
 have hgiv:∀c,q27 G c->c<w.heap.size:=λc ⟨i,g',sh,q1,q2,q3⟩=>by
  subst q3;exact(hgo.own i g' sh q1 q2).1
 have hg0:q27 G g.blk:=by
  obtain⟨r,hr⟩:=hT0.pre;have hat:G[0]?=some (g,(none,some (.n k))):=by rw[hr];rfl
  exact⟨0,g,_,hat,hn,rfl⟩
 let S1:Nat->Prop:=λc=>S c\/q27 G c
 have hS1:∀c,S1 c->c<w.heap.size:=λc hc=>hc.elim (hS c) (hgiv c);obtain⟨k1,k2,k3⟩:=qe3 (S':=S1) (λc h=>.inl h) hT hT0 (λc h=>.inr h);have hrep:FRep w S1 (.ref k (.agg L)) (.pointer (some ⟨g.blk,0,none⟩)):=by
  refine FRep.qfk.2 ⟨g.blk,0,rfl,.inr hg0,λy hy=>?_,λi j y c h1 h2=>?_⟩
  ·rw[BK.1 hy];exact⟨by simp[FV.cells,k2,hk],k3⟩
  ·cases i with
   |succ i=>simp at h1
   |zero =>
    simp only[Aj,AH]at h1;subst h1;obtain⟨v,q1,q2⟩:=k1.get j c h2;refine⟨v,?_,q2⟩;rw[q5c hb,show 0+(0*k+j)=j by omega,<- BA];exact q1
 have htab1:Tabs w S1:=λg' cs hg'=>by
  obtain⟨q1,q2⟩:=htab g' cs hg';exact⟨.inl q1,q2⟩
 have:=h w S1 [.pointer (some ⟨g.blk,0,none⟩)] [] hS1 htab1 (by rw[hi1];exact⟨_,[],_,[],rfl,rfl,rfl,hrep,rfl,rfl,rfl⟩) ⟨λi g sh h=>by simp at h,λi j g g' sh sh' h=>by simp at h⟩;refine this.mono ?_;rintro e' w' ⟨S',fin',R,rfl,hU,hkp,_⟩;rw[hi2]at hU;obtain⟨v,V',hv1,hU⟩:=hU;simp only[BP,AY]at hv1;obtain⟨_,rfl⟩:=hv1;obtain⟨v2,V2,x,L',rfl,hx,hl,hr,hU2⟩:=hU;cases hx;obtain⟨rfl,_,_⟩:=hU2;cases hr;have hw:∀c,c<w.heap.size->w'.heap[c]?=w.heap[c]?:=λc hc=>hkp.block c hc λ⟨i,g,sh,q,_⟩=>by simp at q
 refine⟨S,G,[.bool b],rfl,?_,⟨hkp.size,λc hc _=>hw c hc,hkp.os,hkp.tape,hkp.output,λc hc=>AR (hS c hc) hkp.size,λ_ h=>h,λ_ h=>.inl h,htab,λc ⟨i,g,sh,q1,q2,q3⟩=>by subst q3;exact(hgo.own i g sh q1 q2).2.1⟩,?_⟩
 ·rw[hj2];refine⟨g,vals,e,[.bool b],rfl,hn,by rw[hw _ hblk];exact hb,hsz,?_⟩;exact qap hw hS hT hT0 ⟨_,[],_,[],rfl,rfl,trivial,.bool b,rfl,rfl,rfl⟩
 ·exact⟨λi g sh h1 h2=>let q:=hgo.own i g sh h1 h2;⟨AR q.1 hkp.size,q.2.1,.inl ⟨i,g,sh,h1,h2,rfl⟩⟩,hgo.inj⟩
end
section
structure BlkV where
 who:ByteArray
 seq:Int
 zone:Int
 buy:Bool
 qh:Int
 qty:List Int
 pq:Int
 gq:Int
 deriving Inhabited
def q41(a b:BlkV):Bool:=decide (b.who=a.who)&&(b.seq==a.pq)
def pW(bs:List BlkV):Nat->Nat->Bool
 |0,_=>false
 |k+1,i=>match bs[i]? with
  |none=>false
  |some b=>if b.pq<=0 then true else match bs.findIdx? (q41 b)with
   |none=>false
   |some j=>if j=i then false else pW bs k j
def rN(bs:List BlkV)(i:Nat)(b:BlkV):Option Nat:=(List.range bs.length).find? λj=>j !=i&&((bs[j]?).map (q41 b)).getD false
def rW(bs:List BlkV):Nat->Nat->Bool
 |0,_=>false
 |k+1,i=>match bs[i]? with
  |none=>false
  |some b=>if b.pq<=0 then true else match rN bs i b with
   |none=>false
   |some j=>rW bs k j
def Uniq(bs:List BlkV):Prop:=∀(i j:Nat) (a b:BlkV),bs[i]?=some a->bs[j]?=some b->a.who=b.who->a.seq=b.seq->i=j
theorem qan{a b:BlkV}:q41 a b=true↔b.who=a.who/\b.seq=a.pq:=by
 simp[q41]
theorem qdv{bs:List BlkV}{i j:Nat}{b:BlkV}(h:rN bs i b=some j):j≠i/\∃c,bs[j]?=some c/\q41 b c=true:=by
 have h1:=List.find?_some h;simp only[Ai,CF,ne_eq]at h1;refine⟨h1.1,?_⟩;cases hc:bs[j]? with
 |none=>rw[hc]at h1;simp at h1
 |some c=>rw[hc]at h1;exact⟨c,rfl,by simpa using h1.2⟩
theorem rN_none{bs:List BlkV}{i:Nat}{b:BlkV}(h:rN bs i b=none){j:Nat}{c:BlkV}(hj:bs[j]?=some c)(hne:j≠i):q41 b c=false:=by
 have h1:=List.find?_eq_none.1 h j (by rw[Cs];exact(Am.1 hj).1);rw[hj]at h1;simpa[hne]using h1
theorem qkh{bs:List BlkV}(hu:Uniq bs):∀k i,pW bs k i=rW bs k i
 |0,_=>rfl
 |k+1,i=>by
  unfold pW rW;cases hb:bs[i]? with
  |none=>rfl
  |some b =>
   simp only;by_cases hp:b.pq<=0
   ·rw[if_pos hp,if_pos hp]
   rw[if_neg hp,if_neg hp];cases hf:bs.findIdx? (q41 b)with
   |none =>
    rw[Fe]at hf;cases hr:rN bs i b with
    |none=>rfl
    |some j =>
     obtain⟨_,c,hc,hpc⟩:=qdv hr;rw[hf c (AQ hc)]at hpc;cases hpc
   |some j =>
    rw[Ej]at hf;obtain⟨hjl,hj,_⟩:=hf;have hjs:bs[j]?=some bs[j]:=Ag hjl;obtain⟨q1,q2⟩:=qan.1 hj;by_cases hji:j=i
    ·subst hji;rw[hjs]at hb;cases hb;simp only[if_pos];cases hr:rN bs j bs[j]with
     |none=>rfl
     |some m =>
      obtain⟨hne,c,hc,hpc⟩:=qdv hr;obtain⟨r1,r2⟩:=qan.1 hpc;exact absurd (hu m j c bs[j] hc hjs r1 (r2.trans q2.symm)) hne
    ·simp only[if_neg hji];cases hr:rN bs i b with
     |none =>
      have:=rN_none hr hjs hji;rw[hj]at this;cases this
     |some m =>
      obtain⟨hne,c,hc,hpc⟩:=qdv hr;obtain⟨r1,r2⟩:=qan.1 hpc;have:m=j:=hu m j c bs[j] hc hjs (r1.trans q1.symm) (r2.trans q2.symm);subst this;exact qkh hu k m
def nmLt(a:ByteArray)(m:Int)(b:ByteArray)(n:Int):Prop:=a.toList<b.toList\/a=b/\m<n
theorem nmLt_tr{a b c:ByteArray}{m n k:Int}(h:nmLt a m b n)(h':nmLt b n c k):nmLt a m c k:=by
 rcases h with h | ⟨rfl,h⟩
 ·rcases h' with h' | ⟨rfl,h'⟩
  ·exact Or.inl (EX h h')
  ·exact Or.inl h
 ·rcases h' with h' | ⟨rfl,h'⟩
  ·exact Or.inl h'
  ·exact Or.inr ⟨rfl,by omega⟩
theorem qmf{a:ByteArray}{m:Int}(h:nmLt a m a m):False:=by
 rcases h with h | ⟨_,h⟩
 ·exact List.lt_irrefl _ h
 ·omega
def Rise{α:Type}(who:α->ByteArray)(seq:α->Int)(l:List α):Prop:=∀(i:Nat) (a b:α),l[i]?=some a->l[i+1]?=some b->nmLt (who a) (seq a) (who b) (seq b)
theorem Rise.lt{α:Type}{who:α->ByteArray}{seq:α->Int}{l:List α}(h:Rise who seq l):∀(d i:Nat) (a b:α),l[i]?=some a->l[i+d+1]?=some b->nmLt (who a) (seq a) (who b) (seq b)
 |0,i,a,b,ha,hb=>h i a b ha hb
 |d+1,i,a,b,ha,hb=>by
  have hlt:i+d+1<l.length:=by have:=(Am.1 hb).1;omega
  have h1:=h.lt d i a l[i+d+1] ha (Ag hlt);have h2:=h (i+d+1) l[i+d+1] b (Ag hlt) hb;exact nmLt_tr h1 h2
theorem Rise.uniq{bs:List BlkV}(h:Rise BlkV.who BlkV.seq bs):Uniq bs:=by
 intro i j a b ha hb e1 e2;rcases Nat.lt_trichotomy i j with hij | hij | hij
 ·have:=h.lt (j-i-1) i a b ha (by rw[show i+(j-i-1)+1=j by omega];exact hb);rw[e1,e2]at this;exact(qmf this).elim
 ·exact hij
 ·have:=h.lt (i-j-1) j b a hb (by rw[show j+(i-j-1)+1=i by omega];exact ha);rw[e1,e2]at this;exact(qmf this).elim
end
end Rf
section
namespace Rf
open Go
abbrev Txt:=List UInt8
structure StpV where
 who:ByteArray
 seq:Int
 zone:Int
 hour:Int
 buy:Bool
 qty:Int
 qh:Int
 deriving Inhabited
structure qw where
 src:Int
 dst:Int
 cap:Int
 deriving Inhabited
structure q11 where
 qa:Int
 qe:Int
 lq:List qw
 low:Int
 high:Int
 deriving Inhabited
structure ResV where
 aq:List Bool
 x:List Txt
 f:List (List Txt)
 p:List (List Txt)
 ql:Txt
 uq:Txt
 q80:Bool
 nodes:Int
 deriving Inhabited
def qn(n lo hi:Int):Bool:=decide (lo<=n)&&decide (n<=hi)
def q3k(g:q11)(l:qw):Bool:=qn l.src 0 (g.qa-1)&&qn l.dst 0 (g.qa-1)&&l.src !=l.dst&&qn l.cap 0 1000
def q39(g:q11):Bool:=qn g.qa 1 3&&qn g.qe 1 3&&decide (g.lq.length<=3)&&g.lq.all (q3k g)&&qn g.low (-100000) g.high&&decide (g.high<=100000)
def q3s(g:q11)(s:StpV):Bool:=qn s.zone 0 (g.qa-1)&&qn s.hour 0 (g.qe-1)&&qn s.qty 1 1000&&qn s.qh g.low g.high
def q3j(g:q11)(b:BlkV):Bool:=qn b.zone 0 (g.qa-1)&&qn b.qh g.low g.high&&decide ((b.qty.length:Int)=g.qe)&&b.qty.all (λq=>qn q 0 1000)&&b.qty.any (λq=>decide (0<q))
def nmB(a:ByteArray)(m:Int)(b:ByteArray)(n:Int):Bool:=Op.bytesLess a.toList b.toList||a.toList==b.toList&&decide (m<n)
def q6s(ss:List StpV):Bool:=(List.range' 1 (ss.length-1)).all λi=>match ss[i-1]?,ss[i]? with | some a,some b=>nmB a.who a.seq b.who b.seq | _,_=>true
def q5m(bs:List BlkV):Bool:=(List.range' 1 (bs.length-1)).all λi=>match bs[i-1]?,bs[i]? with | some a,some b=>nmB a.who a.seq b.who b.seq | _,_=>true
def q2l(g:q11)(ss:List StpV)(bs:List BlkV):Bool :=
 q39 g&&decide (ss.length<=32)&&decide (bs.length<=12)&&ss.all (q3s g)&&bs.all (q3j g)&&q6s ss&&q5m bs&&(List.range' 0 bs.length).all (pW bs (bs.length+1))
noncomputable def rd(t:Txt):Rat:=(pr t).getD 0
noncomputable def ResV.xAt(r:ResV)(i:Nat):Rat:=rd (r.x.getD i [])
noncomputable def ResV.fAt(r:ResV)(h i:Nat):Rat:=rd ((r.f.getD h []).getD i [])
noncomputable def ResV.pAt(r:ResV)(h z:Nat):Rat:=rd ((r.p.getD h []).getD z [])
def q50(g:q11)(ss:List StpV)(bs:List BlkV)(r:ResV):Bool :=
 q2l g ss bs&&decide (r.aq.length=bs.length)&&decide (r.x.length=ss.length)&&decide ((r.f.length:Int)=g.qe)&&decide ((r.p.length:Int)=g.qe)&&decide (0<=r.nodes) &&
  (List.range' 0 g.qe.toNat).all λh=>decide ((r.f.getD h []).length=g.lq.length)&&decide (((r.p.getD h []).length:Int)=g.qa)
noncomputable def isNum(t:Txt):Bool:=(pr t).isSome
noncomputable def q24(r:ResV):Bool:=r.x.all isNum&&isNum r.ql&&isNum r.uq&&r.f.all (·.all isNum)&&r.p.all (·.all isNum)
def inR(q:Rat)(lo hi:Int):Bool:=decide ((lo:Rat)<=q)&&decide (q<=(hi:Rat))
noncomputable def q60(g:q11)(ss:List StpV)(r:ResV):Bool :=
 ((List.range' 0 ss.length).all λi=>inR (r.xAt i) 0 (ss.getD i default).qty) &&
  (List.range' 0 g.qe.toNat).all λh=>((List.range' 0 g.lq.length).all λi=>inR (r.fAt h i) (-(g.lq.getD i default).cap) (g.lq.getD i default).cap)&&(List.range' 0 g.qa.toNat).all λz=>inR (r.pAt h z) g.low g.high
def netAt(bs:List BlkV)(ac:List Bool)(h z:Nat):Nat->Int
 |0=>0
 |n+1=>netAt bs ac h z n+match bs[n]?,ac[n]? with
  |some b,some true=>if b.zone=(z:Int)/\h<b.qty.length then(if b.buy then -(b.qty.getD h 0)else b.qty.getD h 0)else 0
  |_,_=>0
def netV(bs:List BlkV)(ac:List Bool)(h z:Nat):Int:=netAt bs ac h z (min bs.length ac.length)
noncomputable def q8q(ss:List StpV)(r:ResV)(h z:Nat)(n:Rat)(i:Nat):Rat :=
 match ss[i]? with
 |some s=>if s.hour=(h:Int)/\s.zone=(z:Int)then(if s.buy then n-r.xAt i else n+r.xAt i)else n
 |none=>n
noncomputable def q56(ss:List StpV)(bs:List BlkV)(r:ResV)(h z:Nat):Rat:=(List.range' 0 ss.length).foldl (q8q ss r h z) ((netV bs r.aq h z:Int):Rat)
noncomputable def q73(ls:List qw)(r:ResV)(h z:Nat)(n:Rat)(i:Nat):Rat :=
 match ls[i]? with
 |some l=>let a:=if l.src=(z:Int)then n+r.fAt h i else n
  if l.dst=(z:Int)then a-r.fAt h i else a
 |none=>n
noncomputable def expV(ls:List qw)(r:ResV)(h z:Nat):Rat:=(List.range' 0 ls.length).foldl (q73 ls r h z) 0
noncomputable def balV(g:q11)(ss:List StpV)(bs:List BlkV)(r:ResV):Bool :=
 (List.range' 0 g.qe.toNat).all λh=>(List.range' 0 g.qa.toNat).all λz=>decide (q56 ss bs r h z=expV g.lq r h z)
noncomputable def q8r(ss:List StpV)(r:ResV)(i:Nat):Bool :=
 match ss[i]? with
 |some s=>let p:=r.pAt s.hour.toNat s.zone.toNat
  !(decide (0<r.xAt i)&&(bif s.buy then decide ((s.qh:Rat)<p)else decide (p<(s.qh:Rat))))&&!(decide (r.xAt i<(s.qty:Rat))&&(bif s.buy then decide (p<(s.qh:Rat))else decide ((s.qh:Rat)<p)))
 |none=>true
noncomputable def q75(ss:List StpV)(r:ResV):Bool:=(List.range' 0 ss.length).all (q8r ss r)
noncomputable def q77(ls:List qw)(r:ResV)(h i:Nat):Bool :=
 match ls[i]? with
 |some l=>let a:=r.pAt h l.src.toNat
  let b:=r.pAt h l.dst.toNat
  !(decide (((-l.cap:Int):Rat)<r.fAt h i)&&decide (b<a))&&!(decide (r.fAt h i<(l.cap:Rat))&&decide (a<b))
 |none=>true
noncomputable def q76(g:q11)(r:ResV):Bool:=(List.range' 0 g.qe.toNat).all λh=>(List.range' 0 g.lq.length).all (q77 g.lq r h)
def AccV(bs:List BlkV)(ac:List Bool)(i:Nat)(b:BlkV):Prop:=bs[i]?=some b/\ac[i]?=some true
def LinkAt(bs:List BlkV)(ac:List Bool)(i:Nat):Prop :=
 ∀b,AccV bs ac i b->(b.pq<=0\/∃j c,AccV bs ac j c/\c.who=b.who/\c.seq=b.pq)/\∀j c,j≠i->AccV bs ac j c->c.who=b.who->0<b.gq->c.gq≠b.gq
open Classical in
noncomputable def q4f(bs:List BlkV)(ac:List Bool):Bool:=decide (bs.length=ac.length)&&decide (∀i,LinkAt bs ac i)
noncomputable def gainV(b:BlkV)(r:ResV):Rat:=(List.range' 0 b.qty.length).foldl (λn h=>n+(r.pAt h b.zone.toNat-(b.qh:Rat))*((b.qty.getD h 0:Int):Rat)) 0
noncomputable def q6d(b:BlkV)(r:ResV):Rat:=bif b.buy then -(gainV b r)else gainV b r
noncomputable def q9b(bs:List BlkV)(r:ResV):Bool:=(List.range' 0 bs.length).all λi=>match bs[i]?,r.aq[i]? with
 |some b,some true=>decide (0<=q6d b r)
 |_,_=>true
def q29(buy:Bool)(p:Int):Int:=bif buy then p else -p
noncomputable def welS(ss:List StpV)(r:ResV):Rat:=(List.range' 0 ss.length).foldl (λn i=>match ss[i]? with | some s=>n+r.xAt i*((q29 s.buy s.qh:Int):Rat) | none=>n) 0
noncomputable def welB(bs:List BlkV)(r:ResV)(n0:Rat):Rat:=(List.range' 0 (min r.aq.length bs.length)).foldl (λn i=>match bs[i]?,r.aq[i]? with
 |some b,some true=>b.qty.foldl (λ(n:Rat) (q:Int)=>n+(q:Rat)*((q29 b.buy b.qh:Int):Rat)) n
 |_,_=>n) n0
noncomputable def welV(ss:List StpV)(bs:List BlkV)(r:ResV):Rat:=welB bs r (welS ss r)
noncomputable def q9c(ss:List StpV)(bs:List BlkV)(r:ResV):Bool:=decide (qy (welV ss bs r)=r.ql)
noncomputable def upV(r:ResV):Bool:=decide (rd r.ql<=rd r.uq)&&(!r.q80||decide (r.uq=r.ql))
noncomputable def chkV(g:q11)(ss:List StpV)(bs:List BlkV)(r:ResV):Int :=
 if q50 g ss bs r=false then 1 else if q24 r=false then 2 else if q60 g ss r=false then 3 else if balV g ss bs r=false then 4 else if q75 ss r=false then 5 else if q76 g r=false then 6
 else if q4f bs r.aq=false then 7 else if q9b bs r=false then 8 else if q9c ss bs r=false then 9 else if upV r=false then 10 else 0
end Rf
end
namespace Rf
open Go
section
theorem q9t{α:Type}(L:List α)(i j:Nat)(v d:α)(hi:i<L.length):(L.set i v).getD j d=if i=j then v else L.getD j d:=by
 rw[AD,AD,ET];by_cases h:i=j
 ·subst h;simp[hi]
 ·simp[h]
section
variable {ss:List StpV} {ls:List qw} {r:ResV} {h:Nat}
noncomputable def stepP(ss:List StpV)(r:ResV)(h:Nat)(L:List Rat)(i:Nat):List Rat:=match ss[i]? with
 |some s=>if s.hour=(h:Int)then(if s.buy then L.set s.zone.toNat (L.getD s.zone.toNat 0-r.xAt i)else L.set s.zone.toNat (L.getD s.zone.toNat 0+r.xAt i))else L
 |none=>L
noncomputable def lineP(ls:List qw)(r:ResV)(h:Nat)(L:List Rat)(i:Nat):List Rat:=match ls[i]? with
 |some l=>(L.set l.src.toNat (L.getD l.src.toNat 0-r.fAt h i)).set l.dst.toNat ((L.set l.src.toNat (L.getD l.src.toNat 0-r.fAt h i)).getD l.dst.toNat 0+r.fAt h i)
 |none=>L
theorem ql3(L:List Rat)(i:Nat):(stepP ss r h L i).length=L.length:=by
 unfold stepP;split
 ·split
  ·split <;> simp
  ·rfl
 ·rfl
theorem ql2(L:List Rat)(i:Nat):(lineP ls r h L i).length=L.length:=by
 unfold lineP;split
 ·simp
 ·rfl
theorem stepP_at{Z:Nat}(hz:∀s,s∈ss->0<=s.zone/\s.zone<(Z:Int)){L:List Rat}(hL:L.length=Z)(i:Nat){z:Nat}(hzl:z<Z):(stepP ss r h L i).getD z 0=q8q ss r h z (L.getD z 0) i:=by
 unfold stepP q8q;cases hs:ss[i]? with
 |none=>rfl
 |some s =>
  obtain⟨h0,h1⟩:=hz s (AQ hs);have hlt:s.zone.toNat<L.length:=by omega
  have he:(s.zone.toNat=z)↔(s.zone=(z:Int)):=by omega
  simp only;by_cases hh:s.hour=(h:Int)
  ·rw[if_pos hh];by_cases hzz:s.zone=(z:Int)
   ·have hb:s.hour=(h:Int)/\s.zone=(z:Int):=⟨hh,hzz⟩;rw[if_pos hb];have:=he.2 hzz;cases s.buy
    ·simp only[Bs,BM];rw[q9t _ _ _ _ _ hlt,if_pos this,this]
    ·simp only[Ba];rw[q9t _ _ _ _ _ hlt,if_pos this,this]
   ·have hb:¬ (s.hour=(h:Int)/\s.zone=(z:Int)):=λq=>hzz q.2;rw[if_neg hb];have hne:s.zone.toNat≠z:=λq=>hzz (he.1 q);cases s.buy
    ·simp only[Bs,BM];rw[q9t _ _ _ _ _ hlt,if_neg hne]
    ·simp only[Ba];rw[q9t _ _ _ _ _ hlt,if_neg hne]
  ·have hb:¬ (s.hour=(h:Int)/\s.zone=(z:Int)):=λq=>hh q.1;rw[if_neg hh,if_neg hb]
theorem lineP_at{Z:Nat}(hz:∀l,l∈ls->0<=l.src/\l.src<(Z:Int)/\0<=l.dst/\l.dst<(Z:Int)){L:List Rat}(hL:L.length=Z)(i:Nat){z:Nat}(hzl:z<Z){a b:Rat}(hab:L.getD z 0=a-b) :
  (lineP ls r h L i).getD z 0=a-q73 ls r h z b i:=by
 unfold lineP q73;cases hs:ls[i]? with
 |none=>exact hab
 |some l =>
  obtain⟨h0,h1,h2,h3⟩:=hz l (AQ hs);have hlt:l.src.toNat<L.length:=by omega
  have hlt2:l.dst.toNat<(L.set l.src.toNat (L.getD l.src.toNat 0-r.fAt h i)).length:=by rw[Fh];omega
  have he:(l.src.toNat=z)↔(l.src=(z:Int)):=by omega
  have he2:(l.dst.toNat=z)↔(l.dst=(z:Int)):=by omega
  simp only;rw[q9t _ _ _ _ _ hlt2];by_cases hd:l.dst=(z:Int)
  ·rw[if_pos (he2.2 hd),if_pos hd,he2.2 hd,q9t _ _ _ _ _ hlt];by_cases hsr:l.src=(z:Int)
   ·rw[if_pos (he.2 hsr),if_pos hsr,he.2 hsr,hab]
    grind
   ·have hb:¬ l.src.toNat=z:=λq=>hsr (he.1 q);rw[if_neg hb,if_neg hsr,hab]
    grind
  ·have hb2:¬ l.dst.toNat=z:=λq=>hd (he2.1 q);rw[if_neg hb2,if_neg hd,q9t _ _ _ _ _ hlt];by_cases hsr:l.src=(z:Int)
   ·rw[if_pos (he.2 hsr),if_pos hsr,he.2 hsr,hab]
    grind
   ·have hb:¬ l.src.toNat=z:=λq=>hsr (he.1 q);rw[if_neg hb,if_neg hsr,hab]
theorem qls{Z:Nat}(hz:∀s,s∈ss->0<=s.zone/\s.zone<(Z:Int)){z:Nat}(hzl:z<Z):∀(l:List Nat) (L:List Rat),L.length=Z->(l.foldl (stepP ss r h) L).length=Z/\(l.foldl (stepP ss r h) L).getD z 0=l.foldl (q8q ss r h z) (L.getD z 0)
 |[],L,hL=>⟨hL,rfl⟩
 |i::l,L,hL=>by
  rw[Bf,Bf,<- stepP_at hz hL i hzl];exact qls hz hzl l _ ((ql3 L i).trans hL)
theorem qlt{Z:Nat}(hz:∀l,l∈ls->0<=l.src/\l.src<(Z:Int)/\0<=l.dst/\l.dst<(Z:Int)){z:Nat}(hzl:z<Z){a:Rat}:∀(l:List Nat) (L:List Rat) (b:Rat),L.length=Z->L.getD z 0=a-b->(l.foldl (lineP ls r h) L).getD z 0=a-l.foldl (q73 ls r h z) b
 |[],L,b,hL,hab=>hab
 |i::l,L,b,hL,hab=>by
  rw[Bf,Bf];exact qlt hz hzl l _ _ ((ql2 L i).trans hL) (lineP_at hz hL i hzl hab)
theorem left_at{Z:Nat}{bs:List BlkV}(hs:∀s,s∈ss->0<=s.zone/\s.zone<(Z:Int))(hl:∀l,l∈ls->0<=l.src/\l.src<(Z:Int)/\0<=l.dst/\l.dst<(Z:Int)){L:List Rat}(hL:L.length=Z){z:Nat}(hzl:z<Z)
  (h0:L.getD z 0=((netV bs r.aq h z:Int):Rat)):((List.range' 0 ls.length).foldl (lineP ls r h) ((List.range' 0 ss.length).foldl (stepP ss r h) L)).getD z 0=q56 ss bs r h z-expV ls r h z:=by
 obtain⟨q1,q2⟩:=qls (r:=r) (h:=h) hs hzl (List.range' 0 ss.length) L hL;refine qlt hl hzl _ _ 0 q1 ?_;rw[q2,h0];unfold q56
 grind
end
theorem cmp_lt{q r:Rat}:(q20 (q.num*r.den) (r.num*q.den)<0)↔q<r:=by
 rw[Rat.lt_iff];unfold q20;split
 ·rename_i h;exact⟨λ_=>h,λ_=>by omega⟩
 ·rename_i h;constructor
  ·intro q;split at q <;> omega
  ·intro q;exact absurd q h
theorem cmp_gt{q r:Rat}:(0<q20 (q.num*r.den) (r.num*q.den))↔r<q:=by
 rw[Rat.lt_iff];unfold q20;split
 ·rename_i h;constructor
  ·intro q;omega
  ·intro q;omega
 ·split
  ·rename_i h h';exact⟨λ_=>h',λ_=>by omega⟩
  ·rename_i h h';constructor
   ·intro q;omega
   ·intro q;exact absurd q h'
theorem cmp_le{q r:Rat}:(q20 (q.num*r.den) (r.num*q.den)<=0)↔q<=r:=by
 rw[<- Cu,<- cmp_gt];omega
theorem cmp_ge{q r:Rat}:(0<=q20 (q.num*r.den) (r.num*q.den))↔r<=q:=by
 rw[<- Cu,<- cmp_lt];omega
theorem cmp_eq{q r:Rat}:(q20 (q.num*r.den) (r.num*q.den)=0)↔q=r:=by
 constructor
 ·intro h;exact Rat.le_antisymm (cmp_le.1 (by omega)) (cmp_ge.1 (by omega))
 ·intro h;subst h;unfold q20;rw[if_neg (by omega),if_neg (by omega)]
theorem sgn_neg{q:Rat}:(q.num.sign<0)↔q<0:=by
 rw[Int.sign_neg_iff];constructor
 ·intro h;rw[<- Ch,<- DD];omega
 ·intro h;rw[<- Ch,<- DD]at h;omega
theorem sgn_pos{q:Rat}:(0<q.num.sign)↔0<q:=by
 rw[Int.sign_pos_iff];constructor
 ·intro h;have h1:0<=q:=DD.1 (by omega);have h2:q≠0:=λe=>by rw[e]at h;exact absurd h (by decide)
  exact Ch.1 λh3=>h2 (Rat.le_antisymm h3 h1)
 ·intro h;have h1:0<=q.num:=DD.2 (Rat.le_of_lt h);have h2:q.num≠0:=λe=>by rw[Rat.num_eq_zero.1 e]at h;exact absurd h (by decide)
  omega
theorem sgn_zero{q:Rat}:(q.num.sign=0)↔q=0:=by
 rw[Fx];exact Rat.num_eq_zero
theorem qsv{a b:Rat}:a-b=0↔a=b:=by
 constructor
 ·intro h;have:a=(a-b)+b:=by grind
  rw[this,h]
  grind
 ·intro h;subst h
  grind
end
section
structure Blk where
 who:ByteArray
 seq:Int
 zone:Int
 buy:Bool
 qh:Int
 qty:List FV
 pq:Int
 gq:Int
def Blk.fv(b:Blk):FV:=.agg [.str b.who,.int .i64 b.seq,.int .i64 b.zone,.bool b.buy,.int .i64 b.qh,.list 1 b.qty,.int .i64 b.pq,.int .i64 b.gq]
section
variable {bs:List Blk} {ac:List Bool}
def Acc(bs:List Blk)(ac:List Bool)(i:Nat)(b:Blk):Prop:=bs[i]?=some b/\ac[i]?=some true
def cnt(bs:List Blk)(ac:List Bool)(p:Blk->Bool)(n:Nat):Nat:=((bs.zip ac).take n).countP λx=>x.2&&p x.1
theorem cnt_le(p:Blk->Bool)(n:Nat):cnt bs ac p n<=n:=by
 unfold cnt;exact Bb List.countP_le_length (by simp;omega)
theorem cnt_succ{p:Blk->Bool}{i:Nat}{b:Blk}{a:Bool}(hb:bs[i]?=some b)(ha:ac[i]?=some a):cnt bs ac p (i+1)=cnt bs ac p i+(if a&&p b then 1 else 0):=by
 unfold cnt;rw[Dw];have:(bs.zip ac)[i]?=some (b,a):=CL.2 ⟨hb,ha⟩;rw[this,List.countP_append];simp[List.countP_cons]
theorem qib{p:Blk->Bool}{n:Nat}:cnt bs ac p n=0↔∀i b,i<n->Acc bs ac i b->p b=false:=by
 unfold cnt;rw[List.countP_eq_zero];constructor
 ·intro h i b hi ⟨h1,h2⟩;have hz:(bs.zip ac)[i]?=some (b,true):=CL.2 ⟨h1,h2⟩;have:(b,true)∈(bs.zip ac).take n:=AQ (i:=i) (by rw[CM hi];exact hz);have:=h _ this;simpa using this
 ·intro h x hx;obtain⟨i,hi⟩:=Bu.1 hx;rw[Dl]at hi;split at hi
  ·rename_i hlt;obtain⟨q1,q2⟩:=CL.1 hi;cases hb:x.2 with
   |false=>simp
   |true=>rw[hb]at q2;simp[h i x.1 hlt ⟨q1,q2⟩]
  ·cases hi
theorem qic{p:Blk->Bool}{n i:Nat}{b:Blk}(hi:i<n)(ha:Acc bs ac i b)(hp:p b=true):1<cnt bs ac p n↔∃j c,j<n/\j≠i/\Acc bs ac j c/\p c=true:=by
 have hz:(bs.zip ac)[i]?=some (b,true):=CL.2 ⟨ha.1,ha.2⟩;have hlt:i<(bs.zip ac).length:=(Am.1 hz).1;have hsplit:(bs.zip ac).take n=(bs.zip ac).take i++(b,true)::((bs.zip ac).take n).drop (i+1):=by
  have h1:((bs.zip ac).take n).take i=(bs.zip ac).take i:=by rw[List.take_take];congr 1;omega
  have h2:((bs.zip ac).take n)[i]?=some (b,true):=by rw[CM hi];exact hz
  rw[<- h1]
  conv=>lhs;rw[<- BX i ((bs.zip ac).take n)]
  congr 1;have hlt2:=(Am.1 h2).1;rw[Bc hlt2];congr 1;exact(Am.1 h2).2
 unfold cnt;rw[hsplit,List.countP_append,List.countP_cons];simp only[AA,hp,Ba];constructor
 ·intro h;have:0<((bs.zip ac).take i).countP (λx=>x.2&&p x.1)\/0<(((bs.zip ac).take n).drop (i+1)).countP (λx=>x.2&&p x.1):=by omega
  rcases this with h | h
  ·obtain⟨x,hx,hpx⟩:=DW.1 h;obtain⟨j,hj⟩:=Bu.1 hx;rw[Dl]at hj;split at hj
   ·rename_i hji;obtain⟨q1,q2⟩:=CL.1 hj;simp only[Ai]at hpx;exact⟨j,x.1,by omega,by omega,⟨q1,by rw[q2,hpx.1]⟩,hpx.2⟩
   ·cases hj
  ·obtain⟨x,hx,hpx⟩:=DW.1 h;obtain⟨j,hj⟩:=Bu.1 hx;rw[CB,Dl]at hj;split at hj
   ·rename_i hji;obtain⟨q1,q2⟩:=CL.1 hj;simp only[Ai]at hpx;exact⟨i+1+j,x.1,by omega,by omega,⟨q1,by rw[q2,hpx.1]⟩,hpx.2⟩
   ·cases hj
 ·rintro⟨j,c,hj,hne,⟨q1,q2⟩,hpc⟩;have hzj:(bs.zip ac)[j]?=some (c,true):=CL.2 ⟨q1,q2⟩;rcases EL hne with h | h
  ·have:0<((bs.zip ac).take i).countP (λx=>x.2&&p x.1):=DW.2 ⟨(c,true),AQ (i:=j) (by rw[CM h];exact hzj),by simp[hpc]⟩;omega
  ·have:0<(((bs.zip ac).take n).drop (i+1)).countP (λx=>x.2&&p x.1) :=
    DW.2 ⟨(c,true),AQ (i:=j-(i+1)) (by rw[CB,show i+1+(j-(i+1))=j by omega,CM hj];exact hzj),by simp[hpc]⟩
   omega
def OkAt(bs:List Blk)(ac:List Bool)(i:Nat):Prop :=
 ∀b,Acc bs ac i b->(b.pq<=0\/∃j c,Acc bs ac j c/\c.who=b.who/\c.seq=b.pq)/\∀j c,j≠i->Acc bs ac j c->c.who=b.who->0<b.gq->c.gq≠b.gq
def gk(w:ByteArray)(g:Int):FV:=.agg [.str w,.int .i64 g]
theorem keq_gk(w v:ByteArray)(g h:Int):keq (gk w g) (gk v h)=(decide (w=v)&&(g==h)):=by
 simp[keq,gk,FV.cells,keqs,keq1,toList_eq]
def q8a(e:List FV)(f:ByteArray->Int->Nat):Prop:=∀w g,mgetD e (gk w g) (.int .i64 0)=.int .i64 (f w g)
def isG(w:ByteArray)(g:Int)(b:Blk):Bool:=decide (b.who=w)&&(b.gq==g)
def isN(w:ByteArray)(g:Int)(b:Blk):Bool:=decide (b.who=w)&&(b.seq==g)
theorem qid{e:List FV}{x:Int}{f f':ByteArray->Int->Nat}{w:ByteArray}{g:Int}(h:q8a e f)(hf:∀v k,f' v k=f v k+(if(decide (w=v)&&(g==k))=true then 1 else 0)) :
  q8a (mput e (gk w g) (.int .i64 ((f w g+1:Nat):Int)) x) f':=λv k=>by
 rw[qie,keq_gk];have h1:=hf v k;cases hk:(decide (v=w)&&(k==g))with
 |true =>
  simp only[Ai,At,Bv]at hk;obtain⟨rfl,rfl⟩:=hk;simp at h1;rw[Ac,h1]
 |false =>
  have:(decide (w=v)&&(g==k))=false:=by
   rw[<- hk,Bm];simp only[Ai,At,Bv];constructor <;> (rintro⟨rfl,rfl⟩;exact⟨rfl,rfl⟩)
  rw[this]at h1;simp at h1;rw[Ab,h1];exact h v k
theorem l5_run(hl:ac.length=bs.length)(hb:bs.length<=140737488351232)(n:Nat):∀(d i m:Nat) (e2:List FV) (x2:Int) (e3:List FV) (x3:Int),i+d=bs.length->d<m->MWf e2 x2->MWf e3 x3->q8a e2 (λw g=>cnt bs ac (isG w g) i) ->
  q8a e3 (λw g=>cnt bs ac (isN w g) i)->∃f2 y2 f3 y3,q8a f2 (λw g=>cnt bs ac (isG w g) bs.length)/\q8a f3 (λw g=>cnt bs ac (isN w g) bs.length) /\
   q2r.l5 n [] m [.list 8 (bs.map Blk.fv),.list 1 (ac.map .bool),.list 3 e2,.int .i64 x2,.list 3 e3,.int .i64 x3,.list 8 (bs.map Blk.fv),.int .i64 (bs.length:Int),.int .i64 (i:Int)] =
    q2r.l12 n [] n [.list 1 (ac.map .bool),.list 3 f2,.int .i64 y2,.list 3 f3,.int .i64 y3,.list 8 (bs.map Blk.fv),.int .i64 (bs.length:Int),.int .i64 0]
 |0,i,m+1,e2,x2,e3,x3,hi,hm,w2,w3,c2,c3=>by
  have:i=bs.length:=by omega
  subst this;refine⟨e2,x2,e3,x3,c2,c3,?_⟩;rw[q2r.q1h];simp
 |d+1,i,m+1,e2,x2,e3,x3,hi,hm,w2,w3,c2,c3=>by
  have hib:i<bs.length:=by omega
  have hia:i<ac.length:=by omega
  have hbi:bs[i]?=some bs[i]:=Ag hib;have hai:ac[i]?=some ac[i]:=Ag hia;rw[q2r.q1h];have hlt:decide ((i:Int)<(bs.length:Int))=true:=by simpa using hib
  have hix:ix (i:Int) (bs.map Blk.fv).length=some i:=q9 (by simpa using hib);have hix2:ix (i:Int) (ac.map FV.bool).length=some i:=q9 (by simpa using hia);simp only[hlt,Ac,hix,hix2,Ae,q26,hbi,hai,Blk.fv,FV.cells,Aj,AP,q2j,qi,q3x,qx];have hs:=λp=>cnt_succ (p:=p) hbi hai;rw[qd (by omega)];cases ha:ac[i]with
  |false =>
   simp only[Ab];have hs':∀p,cnt bs ac p (i+1)=cnt bs ac p i:=λp=>by have:=hs p;rw[ha]at this;simpa using this
   refine l5_run hl hb n d (i+1) m e2 x2 e3 x3 (by omega) (by omega) w2 w3 (λw g=>(c2 w g).trans (by simp only[hs'])) (λw g=>(c3 w g).trans (by simp only[hs']))
  |true =>
   simp only[Ac];have hs':∀p,cnt bs ac p (i+1)=cnt bs ac p i+if p bs[i]then 1 else 0:=λp=>by have:=hs p;rw[ha]at this;simpa using this
   rw[show(FV.agg [.str bs[i].who,.int .i64 bs[i].gq])=gk bs[i].who bs[i].gq from rfl,show(FV.agg [.str bs[i].who,.int .i64 bs[i].seq])=gk bs[i].who bs[i].seq from rfl];simp only[c2 bs[i].who bs[i].gq,c3 bs[i].who bs[i].seq,q7c,FV.cells,Aj,qi,Ae,qif,Ac,qew _ _ _ w2,qew _ _ _ w3];have k2:=cnt_le (bs:=bs) (ac:=ac) (isG bs[i].who bs[i].gq) i;have k3:=cnt_le (bs:=bs) (ac:=ac) (isN bs[i].who bs[i].seq) i;rw[qd (by omega),qd (by omega)];refine l5_run hl hb n d (i+1) m _ _ _ _ (by omega) (by omega) w2.put w3.put (qid c2 λv k=>?_) (qid c3 λv k=>?_)
   ·rw[hs'];rfl
   ·rw[hs'];rfl
def okP(bs:List Blk)(ac:List Bool)(i:Nat):Prop :=
 ∀b,Acc bs ac i b->¬ (0<b.gq/\1<cnt bs ac (isG b.who b.gq) bs.length)/\¬ (0<b.pq/\cnt bs ac (isN b.who b.pq) bs.length=0)
theorem okP_iff(hl:ac.length=bs.length)(i:Nat):okP bs ac i↔OkAt bs ac i:=by
 have hlt:∀ {j c},Acc bs ac j c->j<bs.length:=λh=>(Am.1 h.1).1;constructor
 ·intro h b hb;obtain⟨h1,h2⟩:=h b hb;refine⟨?_,λj c hj hc hw hg he=>h1 ⟨hg,(qic (hlt hb) hb (by simp[isG])).2 ⟨j,c,hlt hc,hj,hc,by simp[isG,hw,he]⟩⟩⟩;by_cases hp:b.pq<=0
  ·exact .inl hp
  ·right;apply BU;intro hn;refine h2 ⟨by omega,qib.2 λj c _ hc=>?_⟩;apply AI.2;intro hq;simp only[isN,Ai,At,Bv]at hq;exact hn ⟨j,c,hc,hq.1,hq.2⟩
 ·intro h b hb;obtain⟨h1,h2⟩:=h b hb;refine⟨λ⟨hg,hc⟩=>?_,λ⟨hp,hc⟩=>?_⟩
  ·obtain⟨j,c,_,hj,hc,hq⟩:=(qic (hlt hb) hb (by simp[isG])).1 hc;simp only[isG,Ai,At,Bv]at hq;exact h2 j c hj hc hq.1 hg hq.2
  ·rcases h1 with h1 | ⟨j,c,hc',hw,he⟩
   ·omega
   ·have:=qib.1 hc j c (hlt hc') hc';simp[isN,hw,he]at this
theorem l12_run(hl:ac.length=bs.length)(hb:bs.length<=140737488351232)(n:Nat){e2 e3:List FV}{x2 x3:Int}(c2:q8a e2 (λw g=>cnt bs ac (isG w g) bs.length))(c3:q8a e3 (λw g=>cnt bs ac (isN w g) bs.length)) :
  ∀(d i m:Nat),i+d=bs.length->d<m->∃r,q2r.l12 n [] m [.list 1 (ac.map .bool),.list 3 e2,.int .i64 x2,.list 3 e3,.int .i64 x3,.list 8 (bs.map Blk.fv),.int .i64 (bs.length:Int),.int .i64 (i:Int)]=some [.bool r] /\
   (r=true↔∀j,i<=j->okP bs ac j)
 |0,i,m+1,hi,hm=>by
  have:i=bs.length:=by omega
  subst this;refine⟨true,by rw[q2r.q58];simp,by simp;intro j hj b hb;exact absurd (Am.1 hb.1).1 (by omega)⟩
 |d+1,i,m+1,hi,hm=>by
  have hib:i<bs.length:=by omega
  have hia:i<ac.length:=by omega
  have hbi:bs[i]?=some bs[i]:=Ag hib;have hai:ac[i]?=some ac[i]:=Ag hia;obtain⟨r,hr,hiff⟩:=l12_run hl hb n c2 c3 d (i+1) m (by omega) (by omega);have step:∀ {p:Prop},(okP bs ac i↔p)->((∀j,i<=j->okP bs ac j)↔(p/\r=true)):=λhp=>by
   rw[hiff,<- hp];constructor
   ·exact λh=>⟨h i (Ak _),λj hj=>h j (by omega)⟩
   ·rintro⟨h1,h2⟩ j hj;rcases EM hj with rfl | hj
    ·exact h1
    ·exact h2 j hj
  rw[q2r.q58];have hlt:decide ((i:Int)<(bs.length:Int))=true:=by simpa using hib
  have hix:ix (i:Int) (bs.map Blk.fv).length=some i:=q9 (by simpa using hib);have hix2:ix (i:Int) (ac.map FV.bool).length=some i:=q9 (by simpa using hia);simp only[hlt,Ac,hix,hix2,Ae,q26,hbi,hai,Blk.fv,FV.cells,Aj,AP,q2j,qi,q3x,qx];rw[qd (by omega)];cases ha:ac[i]with
  |false =>
   simp only[Ab];refine⟨r,hr,?_⟩;rw[step (p:=True) ⟨λ_=>trivial,λ_ b hb=>by have:=hb.2;rw[hai,ha]at this;cases this⟩];simp
  |true =>
   simp only[Ac];rw[show(FV.agg [.str bs[i].who,.int .i64 bs[i].gq])=gk bs[i].who bs[i].gq from rfl,show(FV.agg [.str bs[i].who,.int .i64 bs[i].pq])=gk bs[i].who bs[i].pq from rfl];simp only[c2 bs[i].who bs[i].gq,c3 bs[i].who bs[i].pq,q7c,FV.cells,Aj,qi,Ae];have hacc:Acc bs ac i bs[i]:=⟨hbi,by rw[hai,ha]⟩;have hok:okP bs ac i↔¬ (0<bs[i].gq/\1<cnt bs ac (isG bs[i].who bs[i].gq) bs.length)/\¬ (0<bs[i].pq/\cnt bs ac (isN bs[i].who bs[i].pq) bs.length=0) :=
    ⟨λh=>h _ hacc,λh b hb=>by have:=hb.1;rw[hbi]at this;cases this;exact h⟩
   have hstep:=step hok;have e0:∀k:Nat,((k:Int)==0)=decide (k=0):=λk=>by rw[Bm];simp
   rw[hr];by_cases g1:0<bs[i].gq <;> by_cases g2:1<cnt bs ac (isG bs[i].who bs[i].gq) bs.length <;> by_cases g3:0<bs[i].pq <;> by_cases g4:cnt bs ac (isN bs[i].who bs[i].pq) bs.length=0 <;>
    simp only[g1,g2,g3,g4,CU,DX,DY,and_false,CV,DZ]at hstep <;>
    simp[g1,g2,g3,g4,hstep,e0,show((1:Int)<(cnt bs ac (isG bs[i].who bs[i].gq) bs.length:Int))↔1<cnt bs ac (isG bs[i].who bs[i].gq) bs.length by omega]
theorem qo4(hl:ac.length=bs.length)(hb:bs.length<=140737488351232){n:Nat}(hn:bs.length+1<n):∃r,evF En n 20 [.list 8 (bs.map Blk.fv),.list 1 (ac.map .bool)]=some [.bool r]/\(r=true↔∀j,OkAt bs ac j):=by
 obtain⟨n,rfl⟩:=qSx n;rw[qig];obtain⟨f2,y2,f3,y3,c2,c3,h⟩:=l5_run hl hb n bs.length 0 n [] 0 [] 0 (by omega) (by omega) trivial trivial (λw g=>by simp[mgetD,cnt]) (λw g=>by simp[mgetD,cnt]);obtain⟨r,h1,h2⟩:=l12_run hl hb n (x2:=y2) (x3:=y3) c2 c3 bs.length 0 n (by omega) (by omega);refine⟨r,?_,?_⟩
 ·simp only[Aa,hl,CW,Ab];exact h.trans h1
 ·rw[h2];exact⟨λh j=>(okP_iff hl j).1 (h j (BL _)),λh j _=>(okP_iff hl j).2 (h j)⟩
theorem qex{i:Nat}(h:i<bs.length)(ha:i<ac.length):Acc bs ac i bs[i]↔ac[i]=true:=by
 unfold Acc;rw[Ag h,Ag ha];simp
theorem l10_run(hl:ac.length=bs.length)(hb:bs.length<=140737488351232)(n i:Nat)(b:Blk):∀(d j m m0:Nat) (met:Bool),j+d=bs.length->d<m ->
  (∃k c,j<=k/\k≠i/\Acc bs ac k c/\c.who=b.who/\0<b.gq/\c.gq=b.gq) /\
   q2d.l10 n [m0] m [.str b.who,.int .i64 b.seq,.int .i64 b.zone,.bool b.buy,.int .i64 b.qh,.list 1 b.qty,.int .i64 b.pq,.int .i64 b.gq,.list 8 (bs.map Blk.fv),.list 1 (ac.map .bool),.int .i64 (i:Int),.bool met,.int .i64 (j:Int)]=some [.bool false] \/
  ¬ (∃k c,j<=k/\k≠i/\Acc bs ac k c/\c.who=b.who/\0<b.gq/\c.gq=b.gq) /\
   (((met=true\/∃k c,j<=k/\Acc bs ac k c/\c.who=b.who/\c.seq=b.pq) /\
    q2d.l10 n [m0] m [.str b.who,.int .i64 b.seq,.int .i64 b.zone,.bool b.buy,.int .i64 b.qh,.list 1 b.qty,.int .i64 b.pq,.int .i64 b.gq,.list 8 (bs.map Blk.fv),.list 1 (ac.map .bool),.int .i64 (i:Int),.bool met,.int .i64 (j:Int)] =
     q2d.l4 n [] m0 [.list 8 (bs.map Blk.fv),.list 1 (ac.map .bool),.int .i64 (w6 ((i:Int)+1))]) \/
    (¬ (met=true\/∃k c,j<=k/\Acc bs ac k c/\c.who=b.who/\c.seq=b.pq) /\
    q2d.l10 n [m0] m [.str b.who,.int .i64 b.seq,.int .i64 b.zone,.bool b.buy,.int .i64 b.qh,.list 1 b.qty,.int .i64 b.pq,.int .i64 b.gq,.list 8 (bs.map Blk.fv),.list 1 (ac.map .bool),.int .i64 (i:Int),.bool met,.int .i64 (j:Int)]=some [.bool false]))
 |0,j,m+1,m0,met,hj,hm=>by
  have:j=bs.length:=by omega
  subst this;have no:∀ {k c},bs.length<=k->¬ Acc bs ac k c:=λhk h=>absurd (Am.1 h.1).1 (by omega);refine .inr ⟨λ⟨k,c,hk,_,h,_⟩=>no hk h,?_⟩;rw[q2d.q45];cases met with
  |true=>exact .inl ⟨.inl rfl,by simp⟩
  |false=>exact .inr ⟨λh=>by
                    rcases h with h | ⟨k,c,hk,h,_⟩;· cases h
                    ·exact no hk h,by simp⟩
 |d+1,j,m+1,m0,met,hj,hm=>by
  have hib:j<bs.length:=by omega
  have hia:j<ac.length:=by omega
  have hbi:bs[j]?=some bs[j]:=Ag hib;have hai:ac[j]?=some ac[j]:=Ag hia;have hlt:decide ((j:Int)<((bs.map Blk.fv).length:Int))=true:=by simpa using hib
  have hix:ix (j:Int) (bs.map Blk.fv).length=some j:=q9 (by simpa using hib);have hix2:ix (j:Int) (ac.map FV.bool).length=some j:=q9 (by simpa using hia);have ih:=λmet=>l10_run hl hb n i b d (j+1) m m0 met (by omega) (by omega);rw[q2d.q45];simp only[hlt,Ac,hix,hix2,Ae,q26,hbi,hai,Blk.fv,FV.cells,Aj,AP,q2j,qi,q3x,toList_eq];rw[qd (by omega)];have splitE:∀ {p:Nat->Blk->Prop},(∃k c,j<=k/\p k c/\Acc bs ac k c)↔((ac[j]=true/\p j bs[j])\/∃k c,j+1<=k/\p k c/\Acc bs ac k c):=by
   intro p;constructor
   ·rintro⟨k,c,hk,hp,h⟩;rcases EM hk with rfl | hk
    ·have:=h.1;rw[hbi]at this;cases this;exact .inl ⟨(qex hib hia).1 h,hp⟩
    ·exact .inr ⟨k,c,hk,hp,h⟩
   ·rintro(⟨h1,h2⟩ | ⟨k,c,hk,hp,h⟩)
    ·exact⟨j,_,Ak _,h2,(qex hib hia).2 h1⟩
    ·exact⟨k,c,by omega,hp,h⟩
  have e1:(∃k c,j<=k/\k≠i/\Acc bs ac k c/\c.who=b.who/\0<b.gq/\c.gq=b.gq)↔((ac[j]=true/\j≠i/\bs[j].who=b.who/\0<b.gq/\bs[j].gq=b.gq)\/∃k c,j+1<=k/\k≠i/\Acc bs ac k c/\c.who=b.who/\0<b.gq/\c.gq=b.gq):=by
   have:=splitE (p:=λk c=>k≠i/\c.who=b.who/\0<b.gq/\c.gq=b.gq);constructor
   ·rintro⟨k,c,h1,h2,h3,h4⟩;rcases this.1 ⟨k,c,h1,⟨h2,h4⟩,h3⟩ with h | ⟨k,c,h1,⟨h2,h4⟩,h3⟩
    ·exact .inl h
    ·exact .inr ⟨k,c,h1,h2,h3,h4⟩
   ·rintro(h | ⟨k,c,h1,h2,h3,h4⟩)
    ·obtain⟨k,c,h1,⟨h2,h4⟩,h3⟩:=this.2 (.inl h);exact⟨k,c,h1,h2,h3,h4⟩
    ·exact⟨k,c,by omega,h2,h3,h4⟩
  have e2:(∃k c,j<=k/\Acc bs ac k c/\c.who=b.who/\c.seq=b.pq)↔((ac[j]=true/\bs[j].who=b.who/\bs[j].seq=b.pq)\/∃k c,j+1<=k/\Acc bs ac k c/\c.who=b.who/\c.seq=b.pq):=by
   have:=splitE (p:=λ_ c=>c.who=b.who/\c.seq=b.pq);constructor
   ·rintro⟨k,c,h1,h3,h4⟩;rcases this.1 ⟨k,c,h1,h4,h3⟩ with h | ⟨k,c,h1,h4,h3⟩
    ·exact .inl h
    ·exact .inr ⟨k,c,h1,h3,h4⟩
   ·rintro(h | ⟨k,c,h1,h3,h4⟩)
    ·obtain⟨k,c,h1,h4,h3⟩:=this.2 (.inl h);exact⟨k,c,h1,h3,h4⟩
    ·exact⟨k,c,by omega,h3,h4⟩
  rw[e1,e2];clear e1 e2 splitE;cases ha:ac[j]with
  |false =>
   simp only[AX,Ac,Bs,DX,false_or];exact ih met
  |true =>
   simp only[Ao,Ab,CU];by_cases hw:bs[j].who=b.who
   ·have hx:((j:Int) !=(i:Int))=decide (j≠i):=by rw[Bm];simp;omega
    have hgg':(bs[j].gq==b.gq)=decide (bs[j].gq=b.gq):=by rw[Bm];simp
    have hs':(bs[j].seq==b.pq)=decide (bs[j].seq=b.pq):=by rw[Bm];simp
    have ih1:=ih true;have ih2:=ih false;clear ih hix hix2 hlt hbi hai ha;simp only[hx,hgg',hs',hw,DA,Ao,Ab,CU,gt_iff_lt];generalize bs[j].gq=g1 at *
    generalize bs[j].seq=s1 at *
    by_cases hij:j=i <;> by_cases hg:0<b.gq <;> by_cases hgg:g1=b.gq <;> by_cases hs:s1=b.pq <;> cases met <;>
     simp only[ne_eq,hij,hg,hgg,hs,DA,decide_false,Ac,Ab,CU,DX,DY,and_false,true_or,false_or,or_true,or_false,CV,DZ,Bs]at ih1 ih2 ⊢ <;> first | exact ih1 | exact ih2
   ·simp only[hw,decide_false,AX,Ac,DX,and_false,false_or];exact ih met
theorem l4_run(hl:ac.length=bs.length)(hb:bs.length<=140737488351232){n:Nat}(hn:bs.length<n):∀(d i m:Nat),i+d=bs.length->d<m->∃r,q2d.l4 n [] m [.list 8 (bs.map Blk.fv),.list 1 (ac.map .bool),.int .i64 (i:Int)]=some [.bool r]/\(r=true↔∀j,i<=j->OkAt bs ac j)
 |0,i,m+1,hi,hm=>by
  have:i=bs.length:=by omega
  subst this;refine⟨true,by rw[q2d.q13];simp,by simp;intro j hj b hb;exact absurd (Am.1 hb.1).1 (by omega)⟩
 |d+1,i,m+1,hi,hm=>by
  have hib:i<bs.length:=by omega
  have hia:i<ac.length:=by omega
  have hbi:bs[i]?=some bs[i]:=Ag hib;have hai:ac[i]?=some ac[i]:=Ag hia;obtain⟨r,hr,hiff⟩:=l4_run hl hb hn d (i+1) m (by omega) (by omega);have step:∀ {p:Prop},(OkAt bs ac i↔p)->((∀j,i<=j->OkAt bs ac j)↔(p/\r=true)):=λhp=>by
   rw[hiff,<- hp];constructor
   ·exact λh=>⟨h i (Ak _),λj hj=>h j (by omega)⟩
   ·rintro⟨h1,h2⟩ j hj;rcases EM hj with rfl | hj
    ·exact h1
    ·exact h2 j hj
  have hlt:decide ((i:Int)<((bs.map Blk.fv).length:Int))=true:=by simpa using hib
  have hix:ix (i:Int) (bs.map Blk.fv).length=some i:=q9 (by simpa using hib);have hix2:ix (i:Int) (ac.map FV.bool).length=some i:=q9 (by simpa using hia);rw[q2d.q13];simp only[hlt,Ac,hix,hix2,Ae,q26,hbi,hai,Blk.fv,FV.cells,Aj,AP,q2j,qi,q3x,qx];cases ha:ac[i]with
  |false =>
   simp only[AX,Ac];rw[qd (by omega)];refine⟨r,hr,?_⟩;rw[step (p:=True) ⟨λ_=>trivial,λ_ b hb=>by have:=hb.2;rw[hai,ha]at this;cases this⟩];simp
  |true =>
   simp only[Ao,Ab];have hacc:Acc bs ac i bs[i]:=(qex hib hia).2 ha;have hone:OkAt bs ac i↔(bs[i].pq<=0\/∃j c,Acc bs ac j c/\c.who=bs[i].who/\c.seq=bs[i].pq)/\∀j c,j≠i->Acc bs ac j c->c.who=bs[i].who->0<bs[i].gq->c.gq≠bs[i].gq :=
    ⟨λh=>h _ hacc,λh b hb=>by have:=hb.1;rw[hbi]at this;cases this;exact h⟩
   have hstep:=step hone;have key:=l10_run hl hb n i bs[i] bs.length 0 n m (decide (bs[i].pq<=0)) (by omega) hn;rw[qd (by omega),hr]at key;rcases key with⟨⟨k,c,_,k1,k2,k3,k4,k5⟩,h⟩ | ⟨hno,⟨hmet,h⟩ | ⟨hmet,h⟩⟩
   ·refine⟨false,h,?_⟩;rw[hstep];simp only[Bs,false_iff];rintro⟨⟨_,q⟩,_⟩;exact q k c k1 k2 k3 k4 k5
   ·refine⟨r,h,?_⟩;rw[hstep];refine⟨λhr=>⟨⟨?_,λj c h1 h2 h3 h4 h5=>hno ⟨j,c,BL _,h1,h2,h3,h4,h5⟩⟩,hr⟩,λh=>h.2⟩;rcases hmet with h1 | ⟨k,c,_,h1⟩
    ·exact .inl (by simpa using h1)
    ·exact .inr ⟨k,c,h1⟩
   ·refine⟨false,h,?_⟩;rw[hstep];simp only[Bs,false_iff];rintro⟨⟨q,_⟩,_⟩;apply hmet;rcases q with q | ⟨j,c,q⟩
    ·exact .inl (by simpa using q)
    ·exact .inr ⟨j,c,BL _,q⟩
theorem ref_run(hl:ac.length=bs.length)(hb:bs.length<=140737488351232){n:Nat}(hn:bs.length+1<n):∃r,evF En n 21 [.list 8 (bs.map Blk.fv),.list 1 (ac.map .bool)]=some [.bool r]/\(r=true↔∀j,OkAt bs ac j):=by
 obtain⟨n,rfl⟩:=qSx n;rw[qih];obtain⟨r,h1,h2⟩:=l4_run hl hb (n:=n) (by omega) bs.length 0 n (by omega) (by omega);refine⟨r,?_,?_⟩
 ·simp only[Aa,hl,CW,Ab];exact h1
 ·rw[h2];exact⟨λh j=>h j (BL _),λh j _=>h j⟩
end
def BlkV.blk(b:BlkV):Blk:=⟨b.who,b.seq,b.zone,b.buy,b.qh,b.qty.map λq=>.int .i64 q,b.pq,b.gq⟩
def BlkV.fv(b:BlkV):FV:=b.blk.fv
theorem blk_fv(bs:List BlkV):bs.map BlkV.fv=(bs.map BlkV.blk).map Blk.fv:=by rw[Ct];rfl
section
variable {bs:List BlkV} {ac:List Bool}
theorem qa1{i:Nat}{c:Blk}:Acc (bs.map BlkV.blk) ac i c↔∃b,AccV bs ac i b/\b.blk=c:=by
 unfold Acc AccV;rw[Br];constructor
 ·rintro⟨h1,h2⟩;cases hb:bs[i]? with
  |none=>rw[hb]at h1;cases h1
  |some b=>rw[hb]at h1;cases h1;exact⟨b,⟨rfl,h2⟩,rfl⟩
 ·rintro⟨b,⟨h1,h2⟩,rfl⟩;exact⟨by rw[h1];rfl,h2⟩
theorem qii{i:Nat}:OkAt (bs.map BlkV.blk) ac i↔LinkAt bs ac i:=by
 unfold OkAt LinkAt;constructor
 ·intro h b hb;obtain⟨h1,h2⟩:=h b.blk (qa1.2 ⟨b,hb,rfl⟩);refine⟨h1.imp id λ⟨j,c,hc,e1,e2⟩=>?_,λj c hj hc e1 e2=>h2 j c.blk hj (qa1.2 ⟨c,hc,rfl⟩) e1 e2⟩;obtain⟨c',hc',rfl⟩:=qa1.1 hc;exact⟨j,c',hc',e1,e2⟩
 ·intro h c hc;obtain⟨b,hb,rfl⟩:=qa1.1 hc;obtain⟨h1,h2⟩:=h b hb;refine⟨h1.imp id λ⟨j,c,hc,e1,e2⟩=>⟨j,c.blk,qa1.2 ⟨c,hc,rfl⟩,e1,e2⟩,λj c hj hc e1 e2=>?_⟩;obtain⟨c',hc',rfl⟩:=qa1.1 hc;exact h2 j c' hj hc' e1 e2
theorem link_ne{f:Nat}(hl:bs.length≠ac.length):q4f bs ac=false:=by
 unfold q4f;rw[Ad hl,Cj]
theorem link_eq(hl:bs.length=ac.length){r:Bool}(h:r=true↔∀j,OkAt (bs.map BlkV.blk) ac j):r=q4f bs ac:=by
 unfold q4f;rw[Af hl,AA,Bm,h];simp only[At];exact⟨λq i=>qii.1 (q i),λq i=>qii.2 (q i)⟩
theorem linked_ev(hb:bs.length<=1000000):Ev En 20 [.list 8 (bs.map BlkV.fv),.list 1 (ac.map .bool)] [.bool (q4f bs ac)]:=by
 by_cases hl:bs.length=ac.length
 ·refine⟨bs.length+2,λn hn=>?_⟩;obtain⟨r,h1,h2⟩:=qo4 (bs:=bs.map BlkV.blk) (ac:=ac) (by rw[Aa];exact hl.symm) (by rw[Aa];omega) (n:=n) (by rw[Aa];omega);rw[blk_fv,h1,link_eq hl h2]
 ·refine Ev.of 0 λn _=>?_;rw[qig,link_ne (f:=0) hl,Aa,Aa,show((bs.length:Int) !=(ac.length:Int))=true by simp;omega,Ac]
theorem qo5(hb:bs.length<=1000000):Ev En 21 [.list 8 (bs.map BlkV.fv),.list 1 (ac.map .bool)] [.bool (q4f bs ac)]:=by
 by_cases hl:bs.length=ac.length
 ·refine⟨bs.length+2,λn hn=>?_⟩;obtain⟨r,h1,h2⟩:=ref_run (bs:=bs.map BlkV.blk) (ac:=ac) (by rw[Aa];exact hl.symm) (by rw[Aa];omega) (n:=n) (by rw[Aa];omega);rw[blk_fv,h1,link_eq hl h2]
 ·refine Ev.of 0 λn _=>?_;rw[qih,link_ne (f:=0) hl,Aa,Aa,show((bs.length:Int) !=(ac.length:Int))=true by simp;omega,Ac]
end
end
section
def runL{σ:Type}(g:Nat->σ->Option σ):Nat->Nat->σ->Option σ
 |0,_,s=>some s
 |d+1,i,s=>match g i s with
  |some s'=>runL g d (i+1) s'
  |none=>none
theorem loop_run{σ:Type}{F:Nat->Nat->σ->Res}{len:Nat}{g:Nat->σ->Option σ}{fin:σ->Res}{stop:Res}(I:Nat->σ->Prop)
  (hs:∀m i s,i<len->I i s->F (m+1) i s=match g i s with | some s'=>F m (i+1) s' | none=>stop)
  (hI:∀i s s',i<len->I i s->g i s=some s'->I (i+1) s')
  (he:∀m s,I len s->F (m+1) len s=fin s):∀(d i m:Nat) (s:σ),i+d=len->d<m->I i s->F m i s=match runL g d i s with | some s=>fin s | none=>stop:=by
 intro d
 induction d with
 |zero =>
  intro i m s hi hm h;obtain⟨m,rfl⟩:=qSx m;obtain rfl:i=len:=by omega
  exact he m s h
 |succ d ih =>
  intro i m s hi hm h;obtain⟨m,rfl⟩:=qSx m;rw[hs m i s (by omega) h];unfold runL;cases hg:g i s with
  |none=>rfl
  |some s'=>exact ih (i+1) m s' (by omega) (by omega) (hI i s s' (by omega) h hg)
theorem q1w{F:Nat->Nat->Res}{len:Nat}{P:Nat->Bool}{fin stop:Res}
  (hs:∀m i,i<len->F (m+1) i=bif P i then F m (i+1)else stop)
  (he:∀m,F (m+1) len=fin):∀(d i m:Nat),i+d=len->d<m->F m i=bif(List.range' i d).all P then fin else stop:=by
 intro d
 induction d with
 |zero =>
  intro i m hi hm;obtain⟨m,rfl⟩:=qSx m;obtain rfl:i=len:=by omega
  exact he m
 |succ d ih =>
  intro i m hi hm;obtain⟨m,rfl⟩:=qSx m;rw[hs m i (by omega),ih (i+1) m (by omega) (by omega),BS,Bk];cases P i <;> rfl
theorem q5v{σ:Type}{F:Nat->Nat->σ->Res}{len:Nat}{g:Nat->σ->σ}{fin:σ->Res}(I:Nat->σ->Prop)
  (hs:∀m i s,i<len->I i s->F (m+1) i s=F m (i+1) (g i s))
  (hI:∀i s,i<len->I i s->I (i+1) (g i s))
  (he:∀m s,I len s->F (m+1) len s=fin s):∀(d i m:Nat) (s:σ),i+d=len->d<m->I i s->F m i s=fin ((List.range' i d).foldl (λs j=>g j s) s)/\I len ((List.range' i d).foldl (λs j=>g j s) s):=by
 intro d
 induction d with
 |zero =>
  intro i m s hi hm h;obtain⟨m,rfl⟩:=qSx m;obtain rfl:i=len:=by omega
  exact⟨he m s h,h⟩
 |succ d ih =>
  intro i m s hi hm h;obtain⟨m,rfl⟩:=qSx m;rw[hs m i s (by omega) h,BS,Bf];exact ih (i+1) m _ (by omega) (by omega) (hI i s (by omega) h)
theorem qc8{P:Nat->Bool}{n:Nat}:(List.range' 0 n).all P=true↔∀i,i<n->P i=true:=by
 rw[Av];constructor
 ·intro h i hi;exact h i (by rw[Cg];omega)
 ·intro h i hi;rw[Cg]at hi;exact h i (by omega)
theorem qcf{P Q:Nat->Bool}{n:Nat}(h:∀i,i<n->P i=Q i):(List.range' 0 n).all P=(List.range' 0 n).all Q:=by
 rw[Bm,qc8,qc8];exact⟨λq i hi=>by rw[<- h i hi];exact q i hi,λq i hi=>by rw[h i hi];exact q i hi⟩
end
end Rf
section
section
/- ResultSurplus: what an accepted block gains. -/
set_option maxHeartbeats 2000000
namespace Rf
open Go
abbrev rowF(r:List (List UInt8)):FV:=.list 1 (r.map sF)
abbrev iF(z:Int):FV:=.int .i64 z
theorem q2h{P:List (List (List UInt8))}{i:Nat}(h:i<P.length):at' (P.map rowF) i 0=some (.list 1 (P[i].map sF)):=by rw[q26,Ag h];rfl
theorem iF_at{q:List Int}{i:Nat}(h:i<q.length):at' (q.map iF) i 0=some (.int .i64 q[i]):=by rw[q26,Ag h];rfl
def Few(r:List (List UInt8)):Prop:=r.length<=256/\∀t,t∈r->t.length<=256
noncomputable def sumR(pc:Rat):List (List UInt8)->List Int->Rat->Option Rat
 |t::ts,q::qs,acc=>(pr t).bind λr=>sumR pc ts qs (acc+(r-pc)*(q:Rat))
 |_,_,acc=>some acc
def sgn(b:Bool)(r:Rat):Rat:=bif b then -r else r
noncomputable def surpR(b:Bool):Option Rat->List FV
 |none=>[.str (txt []),.int .i64 10]
 |some s=>[sF (qy (sgn b s)),.int .i64 0]
theorem Bd.sgn{k:Nat}{r:Rat}(h:Bd k r)(b:Bool):Bd k (sgn b r):=by
 cases b
 ·exact h
 ·exact h.neg
theorem qal{z:Int}(h1:-100000<=z)(h2:z<=100000):Bd 1024 (z:Rat):=by
 refine(Bd.int (k:=17) ?_ (by omega)).mono;have:(2:Nat)^17=131072:=rfl;omega
theorem q82:Bd 1 (0:Rat):=⟨by decide,by decide⟩
section
variable {s0:List UInt8} {x1 x2 x4 x6 x7:Int} {b:Bool} {q:List Int} {P:List (List (List UInt8))}
structure SOk(x2 x4:Int)(q:List Int)(P:List (List (List UInt8))):Prop where
 qh:-100000<=x4/\x4<=100000
 qty:∀x,x∈q->-100000<=x/\x<=100000
 few:P.length<=256/\∀r,r∈P->Few r
 len:P.length=q.length
 zone:∀r,r∈P->0<=x2/\x2<(r.length:Int)
def q3i(x2:Int)(P:List (List (List UInt8))):List (List UInt8):=P.map λr=>r.getD x2.toNat []
theorem qgd(h:SOk x2 x4 q P){i:Nat}(hi:i<P.length):ix x2 (P[i].map sF).length=some x2.toNat/\at' (P[i].map sF) x2.toNat 0=some (sF (P[i].getD x2.toNat []))/\(P[i].getD x2.toNat []).length<=256:=by
 obtain⟨h0,h1⟩:=h.zone P[i] (Ah hi);have hz:x2.toNat<P[i].length:=by omega
 refine⟨by rw[Aa,ix_int h0 h1],?_,?_⟩
 ·rw[q9n hz,AD,Ag hz];rfl
 ·rw[AD,Ag hz];exact(h.few.2 _ (Ah hi)).2 _ (Ah hz)
theorem qdr{i:Nat}(hi:i<P.length):(q3i x2 P).drop i=P[i].getD x2.toNat []::(q3i x2 P).drop (i+1):=by
 have:i<(q3i x2 P).length:=by simp[q3i];exact hi
 rw[Bc this];congr 1;simp[q3i]
theorem surp_loop(h:SOk x2 x4 q P):∀(d i:Nat) (acc:Rat) (da:Nat),i+d=P.length->Bd (1+4099*i) acc->dn da=acc.den->∃n0,∀n m,n0<=n->n0<=m ->
  q7p.l6 n [] m [sF s0,iF x1,iF x2,.bool b,iF x4,.list 1 (q.map iF),iF x6,iF x7,zl (acc).num,zb (acc).num,nL (da),.bool false,.list 1 (P.map rowF),.int .i64 (P.length:Int),.int .i64 (i:Int)]=some (surpR b (sumR (x4:Rat) ((q3i x2 P).drop i) (q.drop i) acc)):=by
 have hp:=h.qh;have hP:=h.few.1;intro d
 induction d with
 |zero =>
  intro i acc da hi hb hd;have e1:(q3i x2 P).drop i=[]:=AO (by simp[q3i];omega);obtain⟨n1,h1⟩:=qb1 (k:=1+4099*i) (by omega) (by omega) hb hd;obtain⟨n2,h2⟩:=rneg_ev (k:=1+4099*i) (by omega) hb hd;obtain⟨n3,h3⟩:=qb1 (k:=1+4099*i) (q:=-acc) (by omega) (by omega) hb.neg (qc _);refine⟨n1+n2+n3+1,λn m hn hm=>?_⟩;obtain⟨m,rfl⟩:=qSx m;rw[q7p.q2n,Ad,Ab,e1];cases b
  ·rw[Ab];simp (disch:=omega) only[h1,rr];rfl
  ·rw[Ac]
   try simp (disch:=omega) only[h2,rr]
   try simp (disch:=omega) only[h3,rr]
   rfl
 |succ d ih =>
  intro i acc da hi hb hd;have hil:i<P.length:=by omega
  have hiq:i<q.length:=by have:=h.len;omega
  obtain⟨z1,z2,z3⟩:=qgd h hil;have e1:=qdr (x2:=x2) hil;have e2:q.drop i=q[i]::q.drop (i+1):=Bc hiq;have hq:=h.qty _ (Ah hiq);have head:∀n m,q7p.l6 n [] (m+1) [sF s0,iF x1,iF x2,.bool b,iF x4,.list 1 (q.map iF),iF x6,iF x7,zl (acc).num,zb (acc).num,nL (da),.bool false,.list 1 (P.map rowF),.int .i64 (P.length:Int),.int .i64 (i:Int)]=_:=λn m=>by
   rw[q7p.q2n,Af,Ac,Aa,q9 hil,Ae,q2h hil,qx,Ae,z1,Ae,z2,q2j,Ae]
  rw[e1,e2,sumR];cases hpr:pr (P[i].getD x2.toNat [])with
  |none =>
   obtain⟨n1,h1⟩:=qik hpr (by omega);refine⟨n1+1,λn m hn hm=>?_⟩;obtain⟨m,rfl⟩:=qSx m;rw[head]
   try simp (disch:=omega) only[h1,rr]
   try simp only[show((10:Int) !=0)=true from rfl,rr]
   rfl
  |some r =>
   have br:Bd 1024 r:=(qa3 hpr).mono;have bx:=qal hp.1 hp.2;have bq:=qal hq.1 hq.2;have bs:Bd 2049 (r-x4):=(br.sub bx).mono;have bm:Bd 4098 ((r-x4)*(q[i]:Rat)):=(bs.mul (bq.mono (show 1024<=2049 by omega))).mono;have ba:Bd (1+4099*(i+1)) (acc+(r-x4)*(q[i]:Rat)):=(hb.add bm).mono;obtain⟨n1,h1⟩:=qij hpr (by omega);obtain⟨n2,h2⟩:=of_ev (z:=x4);obtain⟨n3,h3⟩:=rsub_ev (k:=1024) (by omega) (by omega) br bx (qc _) (qc _);obtain⟨n4,h4⟩:=of_ev (z:=q[i]);obtain⟨n5,h5⟩:=rmul_ev (k:=2049) (by omega) (by omega) bs (bq.mono (show 1024<=2049 by omega)) (qc _) (qc _);obtain⟨n6,h6⟩:=radd_ev (k:=1+4099*i+4098) (by omega) (by omega) (hb.mono) (bm.mono) hd (qc _);obtain⟨n7,h7⟩:=ih (i+1) _ _ (by omega) ba (qc _);refine⟨n1+n2+n3+n4+n5+n6+n7+1,λn m hn hm=>?_⟩;obtain⟨m,rfl⟩:=qSx m;rw[head]
   try simp (disch:=omega) only[h1,rr]
   try simp only[show((0:Int) !=0)=false from rfl,rr]
   try simp (disch:=omega) only[h2,rr]
   try simp (disch:=omega) only[h3,rr]
   rw[Aa,q9 hiq,Ae,iF_at hiq,qi,Ae]
   try simp (disch:=omega) only[h4,rr]
   try simp (disch:=omega) only[h5,rr]
   try simp (disch:=omega) only[h6,rr]
   rw[qd (by omega)];exact h7 n m (by omega) (by omega)
theorem qqt(h:SOk x2 x4 q P):∀(d i:Nat) (acc:Rat),i+d=P.length->Bd (1+4099*i) acc->∃n0,∀n m,n0<=n->n0<=m ->
  q38.l10 n [] m [sF s0,iF x1,iF x2,.bool b,iF x4,.list 1 (q.map iF),iF x6,iF x7,zb (sgn b acc).num,wl (sgn b acc).num,.bool false,wL (sgn b acc).den,.list 1 (P.map rowF),.int .i64 (i:Int)]=some (surpR b (sumR (x4:Rat) ((q3i x2 P).drop i) (q.drop i) acc)):=by
 have hp:=h.qh;have hP:=h.few.1;intro d
 induction d with
 |zero =>
  intro i acc hi hb;have e1:(q3i x2 P).drop i=[]:=AO (by simp[q3i];omega);obtain⟨n1,h1⟩:=qcn (k:=1+4099*i) (by omega) (hb.sgn b) (qc _);refine⟨n1+1,λn m hn hm=>?_⟩;obtain⟨m,rfl⟩:=qSx m;rw[q38.q45,Aa,Ad,Ab,e1];simp (disch:=omega) only[h1,rr];rfl
 |succ d ih =>
  intro i acc hi hb;have hil:i<P.length:=by omega
  have hiq:i<q.length:=by have:=h.len;omega
  obtain⟨z1,z2,z3⟩:=qgd h hil;have e1:=qdr (x2:=x2) hil;have e2:q.drop i=q[i]::q.drop (i+1):=Bc hiq;have hq:=h.qty _ (Ah hiq);have head:∀n m,q38.l10 n [] (m+1) [sF s0,iF x1,iF x2,.bool b,iF x4,.list 1 (q.map iF),iF x6,iF x7,zb (sgn b acc).num,wl (sgn b acc).num,.bool false,wL (sgn b acc).den,.list 1 (P.map rowF),.int .i64 (i:Int)]=_:=λn m=>by
   rw[q38.q45,Aa,Af,Ac,q9 hil,Ae,q2h hil,qx,Ae,z1,Ae,z2,q2j,Ae]
  rw[e1,e2,sumR];cases hpr:pr (P[i].getD x2.toNat [])with
  |none =>
   obtain⟨n1,h1⟩:=qin hpr (by omega);refine⟨n1+1,λn m hn hm=>?_⟩;obtain⟨m,rfl⟩:=qSx m;rw[head]
   try simp (disch:=omega) only[h1,rr]
   try simp only[show((10:Int) !=0)=true from rfl,rr]
   rfl
  |some r =>
   have br:Bd 1024 r:=(qa3 hpr).mono;have bx:=qal hp.1 hp.2;have bq:=qal hq.1 hq.2;have bs:Bd 2049 (r-x4):=(br.sub bx).mono;have bm:Bd 4098 ((r-x4)*(q[i]:Rat)):=(bs.mul (bq.mono (show 1024<=2049 by omega))).mono;have ba:Bd (1+4099*(i+1)) (acc+(r-x4)*(q[i]:Rat)):=(hb.add bm).mono;obtain⟨n1,h1⟩:=qim hpr (by omega);obtain⟨n2,h2⟩:=qa2 (z:=x4);obtain⟨n3,h3⟩:=qey (k:=1024) (by omega) br bx (qc _) (qc _);obtain⟨n4,h4⟩:=qa2 (z:=q[i]);obtain⟨n7,h7⟩:=ih (i+1) _ (by omega) ba;cases b
   ·have bm':Bd (1+4099*i+4098) ((r-x4)*(q[i]:Rat)):=bm.mono;obtain⟨n5,h5⟩:=qcm (k:=2049) (by omega) bs (bq.mono (show 1024<=2049 by omega)) (qc _) (qc _);obtain⟨n6,h6⟩:=qcl (q:=sgn false acc) (k:=1+4099*i+4098) (by omega) (hb.mono) bm' (qc _) (qc _);refine⟨n1+n2+n3+n4+n5+n6+n7+1,λn m hn hm=>?_⟩;obtain⟨m,rfl⟩:=qSx m;rw[head]
    try simp (disch:=omega) only[h1,rr]
    try simp only[show((0:Int) !=0)=false from rfl,rr]
    try simp (disch:=omega) only[h2,rr]
    try simp (disch:=omega) only[h3,rr]
    rw[Aa,q9 hiq];simp only[Ae,iF_at hiq,qi]
    try simp (disch:=omega) only[h4,rr]
    try simp (disch:=omega) only[h5,rr]
    try simp (disch:=omega) only[h6,rr]
    rw[qd (by omega)];exact h7 n m (by omega) (by omega)
   ·have bn:Bd 2049 (-(r-x4)):=bs.neg;have bm':Bd (1+4099*i+4098) (-(r-x4)*(q[i]:Rat)):=(bn.mul (bq.mono (show 1024<=2049 by omega))).mono;obtain⟨n8,h8⟩:=qez (q:=r-x4) (qc _);obtain⟨n5,h5⟩:=qcm (k:=2049) (by omega) bn (bq.mono (show 1024<=2049 by omega)) (qc _) (qc _);obtain⟨n6,h6⟩:=qcl (q:=sgn true acc) (k:=1+4099*i+4098) (by omega) ((hb.sgn true).mono) bm' (qc _) (qc _);have es:sgn true acc+-(r-x4)*(q[i]:Rat)=sgn true (acc+(r-x4)*(q[i]:Rat)):=by
     simp only[sgn,Ac];rw[Rat.neg_mul,Rat.neg_add]
    rw[es]at h6;refine⟨n1+n2+n3+n4+n5+n6+n7+n8+1,λn m hn hm=>?_⟩;obtain⟨m,rfl⟩:=qSx m;rw[head]
    try simp (disch:=omega) only[h1,rr]
    try simp only[show((0:Int) !=0)=false from rfl,rr]
    try simp (disch:=omega) only[h2,rr]
    try simp (disch:=omega) only[h3,rr]
    try simp (disch:=omega) only[h8,rr]
    rw[Aa,q9 hiq];simp only[Ae,iF_at hiq,qi]
    try simp (disch:=omega) only[h4,rr]
    try simp (disch:=omega) only[h5,rr]
    try simp (disch:=omega) only[h6,rr]
    rw[qd (by omega)];exact h7 n m (by omega) (by omega)
end
end Rf
end
section
set_option maxHeartbeats 2000000
namespace Rf
open Go
section
variable {s0:List UInt8} {x1 x2 x4 x6 x7:Int} {b:Bool} {q:List Int} {P:List (List (List UInt8))}
def oddZ(x2:Int)(r:List (List UInt8)):Bool:=!(decide (0<=x2)&&decide (x2<(r.length:Int)))
theorem odd_run{n:Nat}{r:List (List UInt8)}{F:List FV}(hl:r.length<=9000000000000000):evF En (n+2) 174 [rowF r,sF s0,iF x1,iF x2,.bool b,iF x4,.list 1 F,iF x6,iF x7]=some [sF s0,iF x1,iF x2,.bool b,iF x4,.list 1 F,iF x6,iF x7,.bool (oddZ x2 r)]:=by
 rw[qpr,qpq,Aa,qo];unfold oddZ;by_cases h:0<=x2
 ·rw[Af h,Ac];simp only[rr];have:decide (x2<=(r.length:Int)-1)=decide (x2<(r.length:Int)):=by
   rw[Bm,At,At];omega
  rw[this,AA]
 ·rw[Ad h,Ab];simp only[rr];rw[Cj]
theorem idx_loop{F:List FV}(hl:P.length<=9000000000000)(hr:∀r,r∈P->r.length<=9000000000000000):∀(d i:Nat),i+d=P.length->∃k:Int,(decide (k≥0)=(P.drop i).any (oddZ x2))/\∀n m,2<=n->d<m ->
  q8g.l2 n [] m [sF s0,iF x1,iF x2,.bool b,iF x4,.list 1 F,iF x6,iF x7,.list 1 (P.map rowF),.int .i64 (P.length:Int),.int .i64 (i:Int)]=some [sF s0,iF x1,iF x2,.bool b,iF x4,.list 1 F,iF x6,iF x7,.int .i64 k]:=by
 intro d
 induction d with
 |zero =>
  intro i hi;refine⟨-1,by rw[AO (by omega)];rfl,λn m hn hm=>?_⟩;obtain⟨m,rfl⟩:=qSx m;rw[q8g.qt,Ad,Ab]
 |succ d ih =>
  intro i hi;have hil:i<P.length:=by omega
  have e1:P.drop i=P[i]::P.drop (i+1):=Bc hil;cases ho:oddZ x2 P[i]with
  |true =>
   refine⟨i,by rw[e1,DG,ho,CY,Af],λn m hn hm=>?_⟩;obtain⟨m,rfl⟩:=qSx m;obtain⟨n,rfl⟩:∃k,n=k+2:=⟨n-2,by omega⟩;rw[q8g.qt,Af,Ac,Aa,q9 hil,Ae,q2h hil,qx,Ae,odd_run (hr _ (Ah hil)),ho];simp only[rr]
  |false =>
   obtain⟨k,h1,h2⟩:=ih (i+1) (by omega);refine⟨k,by rw[e1,DG,ho,BT,h1],λn m hn hm=>?_⟩;obtain⟨m,rfl⟩:=qSx m;obtain⟨n,rfl⟩:∃k,n=k+2:=⟨n-2,by omega⟩;rw[q8g.qt,Af,Ac,Aa,q9 hil,Ae,q2h hil,qx,Ae,odd_run (hr _ (Ah hil)),ho];simp only[rr];rw[qd (by omega)];exact h2 (n+2) m hn (by omega)
theorem qqu{F:List FV}(hl:P.length<=9000000000000)(hr:∀r,r∈P->r.length<=9000000000000000):Ev En 175 [.list 1 (P.map rowF),sF s0,iF x1,iF x2,.bool b,iF x4,.list 1 F,iF x6,iF x7] [sF s0,iF x1,iF x2,.bool b,iF x4,.list 1 F,iF x6,iF x7,.bool (P.any (oddZ x2))]:=by
 obtain⟨k,hk,hidx⟩:=idx_loop (s0:=s0) (x1:=x1) (x2:=x2) (x4:=x4) (x6:=x6) (x7:=x7) (b:=b) (P:=P) (F:=F) hl hr P.length 0 (by omega);rw[Au]at hk;refine Ev.of (P.length+6) λn hn=>?_;obtain⟨n,rfl⟩:=qSx n;have hi:=hidx n n (by omega) (by omega);rw[show((0:Nat):Int)=0 from rfl]at hi;rw[qps,qpt,Aa,hi,<- hk];rfl
noncomputable def q6q(x2 x4:Int)(q:List Int)(P:List (List (List UInt8)))(b:Bool):List FV :=
 if P.length=q.length/\P.any (oddZ x2)=false then surpR b (sumR (x4:Rat) (q3i x2 P) q 0)else [.str (txt []),.int .i64 120]
structure POk(x4:Int)(q:List Int)(P:List (List (List UInt8))):Prop where
 qh:-100000<=x4/\x4<=100000
 qty:∀x,x∈q->-100000<=x/\x<=100000
 few:P.length<=256/\∀r,r∈P->Few r
 qlen:q.length<=256
theorem POk.s(h:POk x4 q P)(hl:P.length=q.length)(ho:P.any (oddZ x2)=false):SOk x2 x4 q P where
 qh:=h.qh
 qty:=h.qty
 few:=h.few
 len:=hl
 zone:=λr hr=>by
  have:=DP.1 ho r hr;simp only[oddZ,Cm,Bool.not_eq_false,Ai,At]at this;exact this
theorem len_ne{a c:Nat}(h:a≠c):((a:Int) !=(c:Int))=true:=by simp;omega
theorem len_eq{a c:Nat}(h:a=c):((a:Int) !=(c:Int))=false:=by simp;omega
theorem surp_ev(h:POk x4 q P):Ev En 117 [sF s0,iF x1,iF x2,.bool b,iF x4,.list 1 (q.map iF),iF x6,iF x7,.list 1 (P.map rowF)] (q6q x2 x4 q P b):=by
 have hP:=h.few.1;by_cases hl:P.length=q.length
 ·obtain⟨n2,h2⟩:=qqu (s0:=s0) (x1:=x1) (x2:=x2) (x4:=x4) (x6:=x6) (x7:=x7) (b:=b) (P:=P) (F:=q.map iF) (by omega) (λr hr=>by have:=(h.few.2 r hr).1;omega);have head:∀n,n2<=n->evF En (n+1) 117 [sF s0,iF x1,iF x2,.bool b,iF x4,.list 1 (q.map iF),iF x6,iF x7,.list 1 (P.map rowF)] =
    (bif P.any (oddZ x2)then some [.str { data:=#[] },.int .i64 120]
     else q7p.l6 n [] n [sF s0,iF x1,iF x2,.bool b,iF x4,.list 1 (q.map iF),iF x6,iF x7,.list 1 [],.bool false,.list 1 [],.bool false,.list 1 (P.map rowF),.int .i64 (P.length:Int),.int .i64 0]):=λn hn=>by
   rw[qje,Aa,Aa,len_eq hl,Ab,h2 n hn];rfl
  cases ho:P.any (oddZ x2)with
  |true =>
   refine Ev.of n2 λn hn=>?_;rw[head n hn,ho,Ac];unfold q6q;rw[if_neg (λq=>by rw[ho]at q;cases q.2)];rfl
  |false =>
   obtain⟨n1,h1⟩:=surp_loop (s0:=s0) (x1:=x1) (x6:=x6) (x7:=x7) (b:=b) (h.s (x2:=x2) hl ho) P.length 0 0 0 (by omega) q82 rfl;refine Ev.of (n2+n1) λn hn=>?_;have g1:=h1 n n (by omega) (by omega);rw[show((0:Nat):Int)=0 from rfl]at g1;rw[show zl (0:Rat).num=nL 0 from rfl,show zb (0:Rat).num=.bool false from rfl,q3h,Au,Au]at g1;rw[head n (by omega),ho,Ab];unfold q6q;rw[if_pos ⟨hl,ho⟩];exact g1
 ·refine Ev.of 0 λn hn=>?_;rw[qje,Aa,Aa,len_ne hl,Ac];unfold q6q;rw[if_neg (λq=>hl q.1)];rfl
theorem qk8{n:Nat}{F:List FV}(hl:P.length<=9000000000000):∀(d i m:Nat),i+d=P.length->d<m ->
  q38.l4 n [] m [sF s0,iF x1,iF x2,.bool b,iF x4,.list 1 F,iF x6,iF x7,.list 1 (P.map rowF),.int .i64 (i:Int)]=bif(P.drop i).any (oddZ x2)then some [.str (txt []),.int .i64 120]
   else(evF En n 12 [.int .i64 0]).bind λr2=>(asBool (r2[0]?)).bind λc3=>(asLst 1 (r2[1]?)).bind λv4=>(asBool (r2[2]?)).bind λc5=>(asLst 1 (r2[3]?)).bind λv6=>q38.l10 n [] n [sF s0,iF x1,iF x2,.bool b,iF x4,.list 1 F,iF x6,iF x7,.bool c3,.list 1 v4,.bool c5,.list 1 v6,.list 1 (P.map rowF),.int .i64 0]:=by
 intro d
 induction d with
 |zero =>
  intro i m hi hm;obtain⟨m,rfl⟩:=qSx m;rw[q38.q13,Aa,Ad,Ab,AO (by omega)];rfl
 |succ d ih =>
  intro i m hi hm;obtain⟨m,rfl⟩:=qSx m;have hil:i<P.length:=by omega
  have e1:P.drop i=P[i]::P.drop (i+1):=Bc hil;rw[q38.q13,Aa,Af,Ac,e1,DG];have ho:oddZ x2 P[i]=!(decide (0<=x2)&&decide (x2<(P[i].length:Int))):=rfl;by_cases h1:x2<0
  ·rw[Af h1,Ac,ho,Ad];rfl
  ·rw[Ad h1,Ab,q9 hil,Ae,q2h hil,qx,Ae,Aa];by_cases h2:(P[i].length:Int)<=x2
   ·rw[Af,Ac,ho,Af,Ad];rfl
   ·rw[Ad,Ab,ho,Af,Af,qd (by omega),ih (i+1) m (by omega) (by omega)];rfl
theorem wsurp_ev(h:POk x4 q P):Ev En 61 [sF s0,iF x1,iF x2,.bool b,iF x4,.list 1 (q.map iF),iF x6,iF x7,.list 1 (P.map rowF)] (q6q x2 x4 q P b):=by
 have hP:=h.few.1;by_cases hl:P.length=q.length
 ·cases ho:P.any (oddZ x2)with
  |true =>
   refine Ev.of (P.length+6) λn hn=>?_;have:=qk8 (n:=n) (s0:=s0) (x1:=x1) (x2:=x2) (x4:=x4) (x6:=x6) (x7:=x7) (b:=b) (P:=P) (F:=q.map iF) (by omega) P.length 0 n (by omega) (by omega);rw[show((0:Nat):Int)=0 from rfl,Au,ho,Ac]at this;rw[qfr,Aa,Aa,len_eq hl,Ab,this];unfold q6q;rw[if_neg (λq=>by rw[ho]at q;cases q.2)]
  |false =>
   obtain⟨n1,h1⟩:=qqt (s0:=s0) (x1:=x1) (x6:=x6) (x7:=x7) (b:=b) (h.s (x2:=x2) hl ho) P.length 0 0 (by omega) q82;have hs:sgn b 0=0:=by cases b <;> rfl
   rw[hs]at h1;obtain⟨n2,h2⟩:=qa2 (z:=0);refine Ev.of (P.length+n1+n2+6) λn hn=>?_;have g1:=h1 n n (by omega) (by omega);rw[show((0:Nat):Int)=0 from rfl,Au,Au]at g1;have:=qk8 (n:=n) (s0:=s0) (x1:=x1) (x2:=x2) (x4:=x4) (x6:=x6) (x7:=x7) (b:=b) (P:=P) (F:=q.map iF) (by omega) P.length 0 n (by omega) (by omega);rw[show((0:Nat):Int)=0 from rfl,Au,ho,Ab]at this;rw[qfr,Aa,Aa,len_eq hl,Ab,this];simp (disch:=omega) only[h2,rr];unfold q6q;rw[if_pos ⟨hl,ho⟩];exact g1
 ·refine Ev.of 0 λn hn=>?_;rw[qfr,Aa,Aa,len_ne hl,Ac];unfold q6q;rw[if_neg (λq=>hl q.1)];rfl
theorem sum_bd(h:SOk x2 x4 q P):∀(d i:Nat) (acc s:Rat),i+d=P.length->Bd (1+4099*i) acc->sumR (x4:Rat) ((q3i x2 P).drop i) (q.drop i) acc=some s->Bd (1+4099*256) s:=by
 have hp:=h.qh;have hP:=h.few.1;intro d
 induction d with
 |zero =>
  intro i acc s hi hb hs;have e1:(q3i x2 P).drop i=[]:=AO (by simp[q3i];omega);rw[e1,sumR]at hs;cases hs
  ·exact hb.mono
  ·intro _ _ _ _ h;cases h
 |succ d ih =>
  intro i acc s hi hb hs;have hil:i<P.length:=by omega
  have hiq:i<q.length:=by have:=h.len;omega
  obtain⟨z1,z2,z3⟩:=qgd h hil;have e1:=qdr (x2:=x2) hil;have e2:q.drop i=q[i]::q.drop (i+1):=Bc hiq;have hq:=h.qty _ (Ah hiq);rw[e1,e2,sumR]at hs;cases hpr:pr (P[i].getD x2.toNat [])with
  |none=>rw[hpr]at hs;cases hs
  |some r =>
   rw[hpr,Ae]at hs;have br:Bd 1024 r:=(qa3 hpr).mono;have bx:=qal hp.1 hp.2;have bq:=qal hq.1 hq.2;have bs:Bd 2049 (r-x4):=(br.sub bx).mono;have bm:Bd 4098 ((r-x4)*(q[i]:Rat)):=(bs.mul (bq.mono (show 1024<=2049 by omega))).mono;have ba:Bd (1+4099*(i+1)) (acc+(r-x4)*(q[i]:Rat)):=(hb.add bm).mono;exact ih (i+1) _ s (by omega) ba hs
end
end Rf
end
end
