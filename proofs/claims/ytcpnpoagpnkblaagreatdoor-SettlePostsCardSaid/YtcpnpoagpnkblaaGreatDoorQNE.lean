/- Texts of this work put together, their blanks and comments taken out: Rnd, EnvD, EqSet. -/
import Derived.Test.YtcpnpoagpnkblaaGreatDoorQMS
import Derived.Test.YtcpnpoagpnkblaaGreatDoorQMW
import Derived.Test.YtcpnpoagpnkblaaGreatDoorQMZ
import Derived.Test.YtcpnpoagpnkblaaGreatDoorQMG
import Derived.Lib.SlicesCompact
import Derived.Test.YtcpnpoagpnkblaaGreatDoorQMH
import Derived.KernelRfl
set_option linter.unusedVariables false
set_option linter.unusedSimpArgs false
set_option maxHeartbeats 4000000
set_option maxRecDepth 100000
namespace Rf
open Go
def q1e(q:Rat):Int:=q.num / (q.den:Int)
def q2b(q:Rat):Int:=q.num%(q.den:Int)
def q2c(q:Rat):Int:=if(q.den:Int)<q2b q+q2b q\/q2b q+q2b q=(q.den:Int)/\q1e q%2≠0 then q1e q+1 else q1e q
theorem qd2{z w:Int}(hw:0<w):z / w=(if z.tmod w<0 then z.tdiv w-1 else z.tdiv w)/\z%w=(if z.tmod w<0 then z.tmod w+w else z.tmod w):=by
 have h1:=Int.mul_tdiv_add_tmod z w;have h2:z.tmod w<w:=Ed z hw;have h3:=Ed (-z) hw;rw[EP]at h3;by_cases ht:z.tmod w<0
 ·rw[if_pos ht,if_pos ht];exact(Fz hw).2 ⟨by rw[Int.mul_sub,Int.mul_one];omega,by omega,by omega⟩
 ·rw[if_neg ht,if_neg ht];exact(Fz hw).2 ⟨by omega,by omega,h2⟩
theorem qfa{z w:Int}{k:Nat}(hz:z.natAbs<2^k):(z.tdiv w).natAbs<2^k:=by
 rw[Int.natAbs_tdiv];exact BF (Dl _ _) hz
theorem qfb{z w:Int}{k:Nat}(hz:z.natAbs<2^k):(z.tmod w).natAbs<2^k:=by
 rw[Int.natAbs_tmod];exact BF (Nat.mod_le _ _) hz
theorem qfc{z w:Int}{k:Nat}(h0:0<w)(hz:z.natAbs<2^k):(z / w).natAbs<2^(k+1):=by
 have h:=qfa (w:=w) hz;rw[(qd2 h0).1,Ax];split <;> omega
theorem two_bd{k:Nat}(hk:1<=k):2<=2^k:=AV (n:=2) (by omega) hk
theorem dm_ev{z w:Int}{k:Nat}(hk:k+1<=100000000000)(h0:0<w)(hz:z.natAbs<2^k)(hw:w.natAbs<2^k) :
  Ev En 139 [zl z,zb z,zl w,zb w] [zl (z / w),zb (z / w),zl (z%w),zb (z%w),.int .i64 0]:=by
 obtain⟨e1,e2⟩:=qd2 (z:=z) h0;have hq:=qfa (w:=w) hz;have hr:=qfb (w:=w) hz;obtain⟨n1,h1⟩:=qd3 (by omega) (by omega) hz hw;obtain⟨n2,h2⟩:=zero_ev (s:=decide (z.tmod w<0)) (by omega:k<=100000000000) hr;obtain⟨n3,h3⟩:=qd4 (z:=1) (by omega) (by omega);obtain⟨n4,h4⟩:=qd5 (z:=z.tdiv w) (w:=1) hk hq (by omega);obtain⟨n5,h5⟩:=qa8 (z:=z.tmod w) (w:=w) hk hr hw;refine Ev.of (n1+n2+n3+n4+n5) λn hn=>?_;rw[qoo]
 try simp (disch:=omega) only[h1,rr]
 try simp (disch:=omega) only[show((0:Int)==0)=true from rfl,rr]
 try simp (disch:=omega) only[h2,rr]
 by_cases ht:z.tmod w<0
 ·rw[if_pos ht]at e1 e2;rw[e1,e2,Ad (p:=(z.tmod w).natAbs=0) (by omega),AX,Ac,Af ht,Ad (by omega),show(!(true==false))=true from rfl,Ac]
  try simp (disch:=omega) only[h3,rr]
  try simp (disch:=omega) only[h4,rr]
  rw[<- show zb (z.tmod w)=.bool true from by unfold zb;rw[Af ht],<- show zb w=.bool false from by unfold zb;rw[Ad (by omega)]]
  try simp (disch:=omega) only[h5,rr]
 ·rw[if_neg ht]at e1 e2;rw[e1,e2,Ad ht,Ad (p:=w<0) (by omega),show(!(false==false))=false from rfl,Ab];cases decide ((z.tmod w).natAbs=0) <;> (unfold zb;rw[Ad ht];rfl)
theorem den_pos(q:Rat):0<(q.den:Int):=by have:=q.den_pos;omega
theorem rest_bd(q:Rat):0<=q2b q/\q2b q<(q.den:Int):=⟨Int.emod_nonneg _ (by have:=den_pos q;omega),Int.emod_lt_of_pos _ (den_pos q)⟩
theorem odd_t(z:Int):(z.tmod 2).sign≠0↔z%2≠0:=by
 have h:=(qd2 (z:=z) (w:=2) (by omega)).2;have h2:=Ed z (b:=2) (by omega);have h3:=Ed (-z) (b:=2) (by omega);rw[EP]at h3;rw[h,Ne,FA];split <;> omega
theorem cmpZi_gt{z w:Int}:decide (q20 z w>0)=decide (w<z):=by
 rw[BW];unfold q20;split <;> (try split) <;> omega
theorem cmpZi_eq{z w:Int}:(q20 z w==0)=decide (z=w):=by
 rw[Bm,Bu,At];unfold q20;split <;> (try split) <;> omega
theorem round_ev{q:Rat}{k d:Nat}(hk:k+2<=100000000000)(hk1:1<=k)(h:Bd k q)(hd:dn d=q.den):Ev En 83 [zl (q).num,zb (q).num,nL (d),.bool false] [zl (q2c q),zb (q2c q)]:=by
 obtain⟨r0,r1⟩:=rest_bd q;have two:=two_bd hk1;have hden:q.den<2^k:=h.2;obtain⟨n1,h1⟩:=q5b (l:=(dg 4294967296 q.num.natAbs).map d32) (b:=decide (q.num<0)) (by omega:k<=100000000000) (q5c h hd);rw[hd]at h1;obtain⟨n2,h2⟩:=dm_ev (z:=q.num) (w:=(q.den:Int)) (by omega:k+1<=100000000000) (den_pos q) h.1 hden;rw[q3o,q1v]at h2;obtain⟨n3,h3⟩:=qa8 (z:=q2b q) (w:=q2b q) (by omega:k+1<=100000000000) (by omega) (by omega);obtain⟨n4,h4⟩:=qd6 (z:=q2b q+q2b q) (w:=(q.den:Int)) (k:=k+1) (by omega) (by rw[Ax];omega) (by rw[Ax];omega);rw[q3o,q1v]at h4;have hf:(q1e q).natAbs<2^(k+1):=qfc (den_pos q) h.1;obtain⟨n5,h5⟩:=qd4 (z:=2) (by omega) (by omega);obtain⟨n6,h6⟩:=qd3 (z:=q1e q) (w:=2) (k:=k+1) (by omega) (by omega) hf (by rw[Ax];omega);obtain⟨n7,h7⟩:=q7f;obtain⟨n8,h8⟩:=qa8 (z:=q1e q) (w:=1) (k:=k+1) (by omega) hf (by rw[Ax];omega);rw[show zl (1:Int)=nL 1 from rfl,show zb (1:Int)=.bool false from rfl]at h8;obtain⟨n9,h9⟩:=qd7 (z:=(q1e q).tmod 2) (k:=k+1) (by omega) (qfb hf)
 have up:∀n,n1+n2+n3+n4+n5+n6+n7+n8+n9<=n->(do
   let r26 <- evF En n 146 []
   let v27 <- asLst 1 (r26[0]?)
   let c28 <- asBool (r26[1]?)
   let r29 <- evF En n 141 [zl (q1e q),zb (q1e q),.list 1 v27,.bool c28]
   let v30 <- asLst 1 (r29[0]?)
   let c31 <- asBool (r29[1]?)
   some [.list 1 v30,.bool c31])=some [zl (q1e q+1),zb (q1e q+1)]:=by
  intro n hn;show(evF En n 146 []).bind _=_
  try simp (disch:=omega) only[h7,rr]
  show(evF En n 141 [zl (q1e q),zb (q1e q),nL 1,.bool false]).bind _=_
  try simp (disch:=omega) only[h8,rr]
  rfl
 refine Ev.of (n1+n2+n3+n4+n5+n6+n7+n8+n9) λn hn=>?_;rw[qop]
 try simp (disch:=omega) only[h1,rr]
 try simp (disch:=omega) only[h2,rr]
 try simp (disch:=omega) only[show evF En n 141 [zl (q.num%(q.den:Int)),zb (q.num%(q.den:Int)),zl (q.num%(q.den:Int)),zb (q.num%(q.den:Int))]=some _ from h3 n (by omega),rr]
 try simp (disch:=omega) only[h4,rr]
 try simp (disch:=omega) only[h5,rr]
 try simp (disch:=omega) only[show evF En n 143 [zl (q.num / (q.den:Int)),zb (q.num / (q.den:Int)),zl (2:Int),zb (2:Int)]=some _ from h6 n (by omega),rr]
 rw[cmpZi_gt];unfold q2c;by_cases c1:(q.den:Int)<q2b q+q2b q
 ·rw[Af c1,Ac,if_pos (.inl c1)];exact up n hn
 ·rw[Ad c1,Ab,cmpZi_eq];by_cases c2:q2b q+q2b q=(q.den:Int)
  ·rw[Af c2,Ac]
   try simp (disch:=omega) only[h9,rr]
   by_cases c3:q1e q%2=0
   ·have c4:((q1e q).tmod 2).sign=0:=Ee λh=>(odd_t _).1 h c3;rw[c4,show((0:Int) !=0)=false from rfl,Ab,if_neg (by omega)];rfl
   ·have c4:((q1e q).tmod 2).sign≠0:=(odd_t _).2 c3;rw[show(((q1e q).tmod 2).sign !=0)=true from by simpa using c4,Ac,if_pos (.inr ⟨c2,c3⟩)];exact up n hn
  ·rw[Ad c2,Ab,if_neg (by omega)];rfl
theorem wdm_ev{z w:Int}{k:Nat}(hk:k<=100000000000)(h0:0<w)(hz:z.natAbs<2^k)(hw:w.natAbs<2^k) :
  Ev En 93 [zb z,wl z,zb w,wl w] [zb (z / w),wl (z / w),zb (z%w),wl (z%w),.int .i64 0]:=by
 obtain⟨e1,e2⟩:=qd2 (z:=z) h0;have hq:=qfa (w:=w) hz;have hr:=qfb (w:=w) hz;obtain⟨n1,h1⟩:=wqr_ev hk (by omega) hz hw;obtain⟨n3,h3⟩:=qd8 (z:=1) (by omega) (by omega);obtain⟨n4,h4⟩:=wsub_z (z:=z.tdiv w) (w:=1) hk hq (by omega);obtain⟨n5,h5⟩:=qd9 (z:=z.tmod w) (w:=w) hk hr hw;have sw:w.sign=1:=Cj h0;refine Ev.of (n1+n3+n4+n5+1) λn hn=>?_;obtain⟨n,rfl⟩:=qSx n (by omega);have g1:=q8f (n:=n) (z:=z.tmod w);have g2:=q8f (n:=n) (z:=w);rw[qoq]
 try simp (disch:=omega) only[h1,rr]
 try simp (disch:=omega) only[show((0:Int)==0)=true from rfl,rr]
 try simp (disch:=omega) only[g1,rr]
 by_cases ht:z.tmod w<0
 ·rw[if_pos ht]at e1 e2;rw[e1,e2,CL ht,show((-1:Int) !=0)=true from rfl,Ac];rw[CL ht]at g1;rw[sw]at g2
  try simp (disch:=omega) only[g1,rr]
  try simp (disch:=omega) only[g2,rr]
  try simp (disch:=omega) only[show((-1:Int) !=1)=true from rfl,rr]
  try simp (disch:=omega) only[h3,rr]
  try simp (disch:=omega) only[h4,rr]
  try simp (disch:=omega) only[h5,rr]
 ·rw[if_neg ht]at e1 e2;rw[e1,e2];by_cases tz:z.tmod w=0
  ·rw[tz,show(0:Int).sign=0 from rfl,show((0:Int) !=0)=false from rfl,Ab]
  ·have sp:(z.tmod w).sign=1:=Cj (by omega);rw[sp,show((1:Int) !=0)=true from rfl,Ac];rw[sp]at g1;rw[sw]at g2
   try simp (disch:=omega) only[g1,rr]
   try simp (disch:=omega) only[g2,rr]
   try simp (disch:=omega) only[show((1:Int) !=1)=false from rfl,rr]
theorem wfloor_ev{q:Rat}{k d:Nat}(hk:k<=100000000000)(h:Bd k q)(hd:dn d=q.den):Ev En 91 [zb (q).num,wl (q).num,.bool false,wL (d)] [zb (q1e q),wl (q1e q)]:=by
 obtain⟨n1,h1⟩:=q6d (l:=(dg 1000000000 q.num.natAbs).map d64) (b:=decide (q.num<0)) (d:=d);rw[hd]at h1;obtain⟨n2,h2⟩:=wdm_ev (z:=q.num) (w:=(q.den:Int)) hk (den_pos q) h.1 h.2;rw[q3z,q1v]at h2;refine Ev.of (n1+n2) λn hn=>?_;rw[qor]
 try simp (disch:=omega) only[h1,rr]
 try simp (disch:=omega) only[h2,rr]
 rfl
theorem rest_eq(q:Rat):(q-(q1e q:Rat))*((q.den:Int):Rat)=(q2b q:Rat):=by
 have e:(q.num:Rat)=((q.den:Int):Rat)*(q1e q:Rat)+(q2b q:Rat):=by
  rw[<- Rat.intCast_mul,<- DD];unfold q1e q2b;rw[Int.mul_ediv_add_emod]
 have p:((0:Int):Rat)<((q.den:Int):Rat):=DE.2 (den_pos q);have e2:q*((q.den:Int):Rat)=(q.num:Rat):=by
  have e3:(q.num:Rat) / ((q.den:Int):Rat)=q:=by rw[<- Rat.divInt_eq_div,Co]
  have ne:((q.den:Int):Rat)≠0:=λh=>by rw[h]at p;exact absurd p (by decide)
  calc q*((q.den:Int):Rat)=(q.num:Rat) / ((q.den:Int):Rat)*((q.den:Int):Rat):=by rw[e3]
   _=(q.num:Rat):=Rat.div_mul_cancel ne
 grind
theorem half_gt(q:Rat):((1:Int):Rat)<(q-(q1e q:Rat))*((2:Int):Rat)↔(q.den:Int)<q2b q+q2b q:=by
 have p:((0:Int):Rat)<((q.den:Int):Rat):=DE.2 (den_pos q);have e:=rest_eq q;rw[<- FB (c:=((q.den:Int):Rat)) p,<- DE,DD,<- e,show((1:Int):Rat)=1 from rfl,show((2:Int):Rat)=2 from rfl];constructor <;> intro h <;> grind
theorem half_lt(q:Rat):(q-(q1e q:Rat))*((2:Int):Rat)<((1:Int):Rat)↔q2b q+q2b q<(q.den:Int):=by
 have p:((0:Int):Rat)<((q.den:Int):Rat):=DE.2 (den_pos q);have e:=rest_eq q;rw[<- FB (c:=((q.den:Int):Rat)) p,<- DE,DD,<- e,show((1:Int):Rat)=1 from rfl,show((2:Int):Rat)=2 from rfl];constructor <;> intro h <;> grind
theorem wround_ev{q:Rat}{k d:Nat}(hk:16*k+100<=100000000000)(hk1:1<=k)(h:Bd k q)(hd:dn d=q.den):Ev En 24 [zb (q).num,wl (q).num,.bool false,wL (d)] [zb (q2c q),wl (q2c q)]:=by
 have two:=two_bd hk1;have hf:(q1e q).natAbs<2^(k+1):=qfc (den_pos q) h.1;have bf:Bd (k+1) (q1e q:Rat):=Bd.int (k:=k+1) hf (by omega);have b2:Bd (k+1) ((2:Int):Rat):=Bd.int (k:=k+1) (by rw[Ax];omega) (by omega);have b1:Bd (k+1) ((1:Int):Rat):=Bd.int (k:=k+1) (by rw[Ax];omega) (by omega);have bq:Bd (k+1) q:=h.mono (by omega);have bx:=bq.sub bf;have by2:=bx.mul b2;obtain⟨n1,h1⟩:=wfloor_ev (by omega:k<=100000000000) h hd;obtain⟨n2,h2⟩:=qda;obtain⟨n3,h3⟩:=qf4 (k:=k+1) (d:=d) (e:=1) (by omega) bq bf hd rfl;rw[show zb ((q1e q:Rat)).num=zb (q1e q) from rfl,show wl ((q1e q:Rat)).num=wl (q1e q) from rfl]at h3;obtain⟨n4,h4⟩:=qa6 (z:=2) (by omega) (by omega);obtain⟨n5,h5⟩:=qcr (k:=k+1+(k+1)+1) (by omega) bx (b2.mono (by omega)) (qb _) (qb _);obtain⟨n6,h6⟩:=qa6 (z:=1) (by omega) (by omega);obtain⟨n7,h7⟩:=qiw (k:=k+1+(k+1)+1+(k+1)) (by omega) by2 (b1.mono (by omega)) (qb _) (qb _);obtain⟨n8,h8⟩:=qd8 (z:=2) (by omega) (by omega);obtain⟨n9,h9⟩:=wdm_ev (z:=q1e q) (w:=2) (k:=k+1) (by omega) (by omega) hf (by rw[Ax];omega);obtain⟨m1,g1⟩:=qd9 (z:=q1e q) (w:=1) (k:=k+1) (by omega) hf (by rw[Ax];omega);rw[show zb (1:Int)=.bool false from rfl,show wl (1:Int)=wL 1 from rfl]at g1;have c:=q59 (q:=(q-(q1e q:Rat))*((2:Int):Rat)) (r:=((1:Int):Rat));have c':=q4e (q:=(q-(q1e q:Rat))*((2:Int):Rat)) (r:=((1:Int):Rat));unfold cmpQ at c c';rw[BW,half_gt]at c;rw[BW,half_lt]at c';refine Ev.of (n1+n2+n3+n4+n5+n6+n7+n8+n9+m1+1) λn hn=>?_;obtain⟨n,rfl⟩:=qSx n (by omega);have g2:=q8f (n:=n) (z:=q1e q%2);rw[qos]
 try simp (disch:=omega) only[h1,rr]
 try simp (disch:=omega) only[h2,rr]
 try simp (disch:=omega) only[h3,rr]
 try simp (disch:=omega) only[h4,rr]
 try simp (disch:=omega) only[h5,rr]
 try simp (disch:=omega) only[h6,rr]
 try simp (disch:=omega) only[h7,rr]
 try simp (disch:=omega) only[h8,rr]
 try simp (disch:=omega) only[h9,rr]
 revert h7 c c';generalize q20 ((((q-(q1e q:Rat))*((2:Int):Rat)).num)*(((1:Int):Rat).den:Int)) ((((1:Int):Rat).num)*(((q-(q1e q:Rat))*((2:Int):Rat)).den:Int))=C;intro h7 c c';unfold q2c;by_cases c1:(q.den:Int)<q2b q+q2b q
 ·rw[Af (c.2 c1),Ac,if_pos (.inl c1)]
  try simp (disch:=omega) only[h2,rr]
  try simp (disch:=omega) only[g1,rr]
 ·rw[Ad (λx=>c1 (c.1 x)),Ab];by_cases c2:q2b q+q2b q=(q.den:Int)
  ·have c0:C=0:=by
    have d1:¬ C>0:=λx=>c1 (c.1 x);have d2:¬ C<0:=λx=>by have:=c'.1 x;omega
    omega
   rw[c0,show((0:Int)==0)=true from rfl,Ac]
   try simp (disch:=omega) only[g2,rr]
   by_cases c3:q1e q%2=0
   ·rw[c3,show(0:Int).sign=0 from rfl,show((0:Int) !=0)=false from rfl,Ab,if_neg (by omega)]
   ·have c4:q1e q%2=1:=by omega
    rw[c4,show(1:Int).sign=1 from rfl,show((1:Int) !=0)=true from rfl,Ac,if_pos (.inr ⟨c2,by omega⟩)]
    try simp (disch:=omega) only[h2,rr]
    try simp (disch:=omega) only[g1,rr]
  ·have c0:C≠0:=λx=>by
    have d1:¬ q2b q+q2b q<(q.den:Int):=λy=>by have:=c'.2 y;omega
    omega
   rw[show(C==0)=false from by simpa using c0,Ab,if_neg (by omega)]
end Rf
section
namespace Rf
open Go
def q5s(r:Nat):Bool:=(decide (97<=r)&&decide (r<=122))||(decide (945<=r)&&decide (r<=969))
def nameF(s:ByteArray):Nat->Nat->Nat->Bool
 |0,_,n=>decide (1<=n)&&decide (n<=8)
 |b+1,pos,n=>if pos<s.size then(if q5s (Utf8.decode s pos).1 then nameF s b (pos+(Utf8.decode s pos).2) (n+1)else false)else decide (1<=n)&&decide (n<=8)
def q2v(s:ByteArray):Bool:=nameF s s.size 0 0
def nameExt:List FV->Option (List FV)
 |[.str s]=>if s.size<=1099511627776 then some [.bool (q2v s)]else none
 |_=>none
def itoaExt:List FV->Option (List FV)
 |[.int .i64 z]=>if 0<=z/\z<100 then some [.str (txt (qk z.toNat))]else none
 |_=>none
def sortL(l:List (List UInt8)):List (List UInt8):=l.mergeSort λx y=>decide (x<=y)
def sortExt:List FV->Option (List FV)
 |[.list 1 xs]=>if xs.all q6c=true/\xs.length<=1099511627776 then some [.list 1 ((sortL (xs.map byts)).map sF)]else none
 |_=>none
def qbq:List FV->Option (List FV)
 |[.list 1 xs]=>if xs.all q6c=true/\xs.length<=1099511627776 then some [.list 1 ((Lib.compact (xs.map byts)).map sF)]else none
 |_=>none
def enT(x:List UInt8×List UInt8):FV:=.agg [sF x.1,sF x.2]
open Classical in
noncomputable def sameExt:List FV->Option (List FV)
 |[.list 2 xs,.list 2 ys]=>if ∃l:List (List UInt8×List UInt8),xs=l.map enT/\ys=l.map enT/\l.length<=1000000000 then some [.bool true]else none
 |_=>none
def rndF:List Nat:=[83,84,85,24,25,43,79,26]
noncomputable def extD:XT:=(36,sameExt)::(86,qbq)::(81,sortExt)::(90,itoaExt)::(87,nameExt)::(97,nameExt)::(lims EnB [15,17]++(lims En rndF++extN))
noncomputable def EnD:Env:=⟨Go.Proofs.Tryz.prog,fcT,tyT,fnT,λf=>lookN f extD⟩
theorem envOkD:q15 EnD:=⟨λ_ _ h=>qct qcu h,λ_ _ h=>Av.1 qcv _ (q96 h),λ_ _ h=>qcw qcx h,Checked.mixed Go.Proofs.Tryz.checked⟩
end Rf
end
namespace Rf
open Go
variable (n m:Nat)
variable (E6 E7 D6 F0 C7 E8 B C0 t C4 I H D4 B1 D0 A5 B7 D1 D5 E0 E3:Bool)
variable (c a b d r e h v u p A1 k i x A4 A9 q o B9 C5 B2 E1 E2:List FV)
variable (B6:Nat)
variable (C6 C8 E l F J A8 C z D3 C3 C2 B0 D9 D7:ByteArray)
variable (j D s f G E9 F1 w A0 y A7 B4 g A A2 B3 A6 B8 A3 B5 E4 C9 C1 D2 E5 D8:Int)
noncomputable def q1o.l5(n:Nat):=Lp EnD n 23 [1,1,1,0,1,0]
noncomputable def q1o.l10(n:Nat):=Lp EnD n 23 [1,1,1,1,0,1,0]
noncomputable def q1o.l19(n:Nat):=Lp EnD n 23 [1,1,1,1,1,1,1,1,1,0,1,0]
noncomputable def q1o.l27(n:Nat):=Lp EnD n 23 [1,1,1,1,1,1,1,1,1,1,0,1,0]
theorem q1o.q1n:q1o.l5 n [] (m+1) (k5 j D b f G (k8 e h v u C z H g [.list 7 x,.list 8 A4,iL A9,.list 7 q,iI B8,iI A3])) =
(cond (A3<B8) ((ix A3 q.length).bind λK=> (asStr (at' q K 0)).bind λM=> (asInt .i64 (at' q K 1)).bind λN=> (asInt .i64 (at' q K 2)).bind λO=> (asInt .i64 (at' q K 3)).bind λP=> (asBool (at' q K 4)).bind λQ=> (asInt .i64 (at' q K 5)).bind λR=> (asInt .i64 (at' q K 6)).bind λS=>
(cond (Nat.ble (A9.length+(qd 1 (.str { data:=#[] }) [(0,(.str M))]).length) 8796093022208) (q1o.l5 n [] m (k5 j D b f G (k8 e h v u C z H g [.list 7 x,.list 8 A4,iL (A9++(qd 1 (.str { data:=#[] }) [(0,(.str M))])),.list 7 q,iI B8,iI (IntKind.wrap .i64 (A3+1))]))) none)) (q1o.l10 n [] n (k5 j D b f G (k8 e h v u C z H g [.list 7 x,.list 8 A4,iL A9,.list 8 A4,iI (A4.length:Int),iI 0])))):=by kernel_rfl
theorem q1o.q47:q1o.l10 n [] (m+1) (k5 j D b f G (k8 e h v u C z H g [.list 7 x,.list 8 A4,iL A9,.list 8 q,iI B8,iI A3])) =
(cond (A3<B8) ((ix A3 q.length).bind λK=> (asStr (at' q K 0)).bind λM=> (asInt .i64 (at' q K 1)).bind λR=> (asInt .i64 (at' q K 2)).bind λS=> (asBool (at' q K 3)).bind λT=> (asInt .i64 (at' q K 4)).bind λU=> (asLst 1 (at' q K 5)).bind λV=> (asInt .i64 (at' q K 6)).bind λW=> (asInt .i64 (at' q K 7)).bind λX=>
(cond (Nat.ble (A9.length+(qd 1 (.str { data:=#[] }) [(0,(.str M))]).length) 8796093022208) (q1o.l10 n [] m (k5 j D b f G (k8 e h v u C z H g [.list 7 x,.list 8 A4,iL (A9++(qd 1 (.str { data:=#[] }) [(0,(.str M))])),.list 8 q,iI B8,iI (IntKind.wrap .i64 (A3+1))]))) none)) ((evF EnD n 81 [iL A9]).bind λO=> (asLst 1 O[0]?).bind λP=>(evF EnD n 86 [iL P]).bind λQ=> (asLst 1 Q[0]?).bind λN=>q1o.l19 n [] n (k5 j D b f G (k8 e h v u C z H g [.list 2 [],iL [],.bool false,.list 7 x,.list 8 A4,iL N,iI (N.length:Int),iI 0])))):=by kernel_rfl
theorem q1o.q4l:q1o.l19 n [] (m+1) (k5 j D b f G (k8 e h v u C z H g [.list 2 x,iL A4,.bool A5,.list 7 q,.list 8 o,iL B9,iI B5,iI E4])) =
(cond (E4<B5) ((ix E4 B9.length).bind λO=> (asStr (at' B9 O 0)).bind λM=> (evF EnD n 87 [.str M]).bind λP=> (asBool P[0]?).bind λQ=>
(cond (!Q) (some [.list 2 [],iI 1]) ((evF EnD n 88 (.list 7 q::.list 8 o::k8 e h v u C z H g [.str M])).bind λK=> (asLst 1 K[0]?).bind λR=>(asBool K[1]?).bind λS=>(asLst 1 K[2]?).bind λT=>(asBool K[3]?).bind λU=>(asBool K[4]?).bind λY=>
(cond (((4+M.size):Int)>9223372036854775807) none ((evF EnD n 82 (.str ({ data:=#[119,104,111,45] }++M)::iL R::kQ S T U A4 [.bool A5,.list 2 x])).bind λN=> (asLst 1 N[0]?).bind λV=>(asBool N[1]?).bind λW=>(asLst 2 N[2]?).bind λX=>q1o.l19 n [] m (k5 j D b f G (k8 e h v u C z H g [.list 2 X,iL V,.bool W,.list 7 q,.list 8 o,iL B9,iI B5,iI (IntKind.wrap .i64 (E4+1))]))))))) (q1o.l27 n [] n (k8 e h v u C z H g [.list 2 x,iL A4,.bool A5,.list 3 b,iI (b.length:Int),iI 0]))):=by kernel_rfl
theorem q1o.l27_eq:q1o.l27 n [] (m+1) (k8 c a b d E l B w [.list 2 u,iL p,.bool I,.list 3 k,iI g,iI A]) =
(cond (A<g) ((ix A k.length).bind λM=> (asInt .i64 (at' k M 0)).bind λQ=> (asInt .i64 (at' k M 1)).bind λR=> (asInt .i64 (at' k M 2)).bind λS=> (evF EnD n 89 (iI Q::iI R::iI S::k8 c a b d E l B w [iI A])).bind λK=> (asLst 1 K[0]?).bind λT=>(asBool K[1]?).bind λU=>(asLst 1 K[2]?).bind λV=>(asBool K[3]?).bind λW=>(asBool K[4]?).bind λc9=>(evF EnD n 90 [iI A]).bind λX=> (asStr X[0]?).bind λO=>
(cond (((5+O.size):Int)>9223372036854775807) none ((evF EnD n 82 (.str ({ data:=#[108,105,110,101,45] }++O)::iL T::kQ U V W p [.bool I,.list 2 u])).bind λN=> (asLst 1 N[0]?).bind λY=>(asBool N[1]?).bind λZ=>(asLst 2 N[2]?).bind λv15=>q1o.l27 n [] m (k8 c a b d E l B w [.list 2 v15,iL Y,.bool Z,.list 3 k,iI g,iI (IntKind.wrap .i64 (A+1))])))) ((evF EnD n 85 [iL p,.bool I]).bind λr16=> (asStr r16[0]?).bind λP=>
(cond (Nat.ble (u.length+(qd 1 (.agg [.str { data:=#[] },.str { data:=#[] }]) [(0,(.agg [.str { data:=#[114,111,117,110,100] },.str P]))]).length) 4398046511104) (some [.list 2 (u++(qd 1 (.agg [.str { data:=#[] },.str { data:=#[] }]) [(0,(.agg [.str { data:=#[114,111,117,110,100] },.str P]))])),iI 0]) none))):=by kernel_rfl
theorem qrk:evF EnD (n+1) 23 (k15 j D b f G e h v u p A1 D3 C3 B1 A2 [])=(evF EnD n 15 (k15 j D b f G e h v u p A1 D3 C3 B1 A2 [])).bind λK=> (asInt .i64 (K[0]?)).bind λM=>
(cond (M !=0) (some [.list 2 [],iI 1]) (q1o.l5 n [] n (k5 j D b f G (k8 v u p A1 D3 C3 B1 A2 [.list 7 e,.list 8 h,iL [],.list 7 e,iI (e.length:Int),iI 0])))):=by kernel_rfl
noncomputable def q41.l7(n:Nat):=Lp EnD n 27 [1,1,1,1,1,0,1,0]
noncomputable def q41.l18(n:Nat):=Lp EnD n 27 [1,1,1,1,1,1,0,1,0]
theorem q41.q2s:q41.l7 n [] (m+1) (k5 j D b f G (k8 e h v u C z H g (kQ B1 A4 A5 q [.list 7 o,.list 8 B9,iL C5,.list 2 B2,iI C9]))) =
(cond (C9<(C5.length:Int)) ((ix C9 C5.length).bind λW=> (asStr (at' C5 W 0)).bind λX=> (evF EnD n 97 [.str X]).bind λY=> (asBool Y[0]?).bind λZ=>
(cond (!Z) (some [.list 2 [],iI 1]) ((ix C9 C5.length).bind λi4=> (asStr (at' C5 i4 0)).bind λu5=> (evF EnD n 33 (.list 7 o::.list 8 B9::k8 e h v u C z H g [.str u5])).bind λQ=> (asStr Q[0]?).bind λu7=>(asInt .i64 Q[1]?).bind λn8=>(evF EnD n 22 [.str u7]).bind λK=> (asBool K[0]?).bind λc10=>(asLst 1 K[1]?).bind λv11=>(asBool K[2]?).bind λc12=>(asLst 1 K[3]?).bind λv13=>(asInt .i64 K[4]?).bind λn14=>(evF EnD n 24 (kQ c10 v11 c12 v13 [])).bind λR=> (asBool R[0]?).bind λS=>(asLst 1 R[1]?).bind λT=>(evF EnD n 12 [iI 1]).bind λN=> (asBool N[0]?).bind λc19=>(asLst 1 N[1]?).bind λv20=>(asBool N[2]?).bind λc21=>(asLst 1 N[3]?).bind λv22=>(evF EnD n 43 (kQ c19 v20 c21 v22 [])).bind λU=> (asBool U[0]?).bind λc24=>(asLst 1 U[1]?).bind λv25=>(evF EnD n 79 (kQ S T c24 v25 [])).bind λM=> (asBool M[0]?).bind λc27=>(asLst 1 M[1]?).bind λv28=>(asBool M[2]?).bind λc29=>(asLst 1 M[3]?).bind λv30=>(asInt .i64 M[4]?).bind λn31=>(evF EnD n 37 (kQ B1 A4 A5 q (kQ c27 v28 c29 v30 []))).bind λO=> (asBool O[0]?).bind λc33=>(asLst 1 O[1]?).bind λv34=>(asBool O[2]?).bind λc35=>(asLst 1 O[3]?).bind λv36=>(ix C9 C5.length).bind λi37=> (asStr (at' C5 i37 0)).bind λP=>
(cond (((4+P.size):Int)>9223372036854775807) none ((evF EnD n 25 [.bool S,iL T]).bind λr39=> (asStr r39[0]?).bind λV=>
(cond (Nat.ble (B2.length+(qd 1 (.agg [.str { data:=#[] },.str { data:=#[] }]) [(0,(.agg [.str ({ data:=#[119,104,111,45] }++P),.str V]))]).length) 4398046511104) (q41.l7 n [] m (k5 j D b f G (k8 e h v u C z H g (kQ c33 v34 c35 v36 [.list 7 o,.list 8 B9,iL C5,.list 2 (B2++(qd 1 (.agg [.str { data:=#[] },.str { data:=#[] }]) [(0,(.agg [.str ({ data:=#[119,104,111,45] }++P),.str V]))])),iI (IntKind.wrap .i64 (C9+1))])))) none)))))) (q41.l18 n [] n (k5 j D b f G (k8 e h v u C z H g (kQ B1 A4 A5 q [.list 2 B2,iI 0]))))):=by kernel_rfl
theorem q41.q7q:q41.l18 n [] (m+1) (k5 j D b f G (k8 e h v u C z H g (kQ B1 A4 A5 q [.list 2 o,iI A3]))) =
(cond (A3<(b.length:Int)) ((evF EnD n 35 (k5 j D b f G (k8 e h v u C z H g [iI A3]))).bind λS=> (asStr S[0]?).bind λZ=>(asInt .i64 S[1]?).bind λn2=>(evF EnD n 22 [.str Z]).bind λK=> (asBool K[0]?).bind λc4=>(asLst 1 K[1]?).bind λv5=>(asBool K[2]?).bind λc6=>(asLst 1 K[3]?).bind λv7=>(asInt .i64 K[4]?).bind λn8=>(evF EnD n 24 (kQ c4 v5 c6 v7 [])).bind λT=> (asBool T[0]?).bind λU=>(asLst 1 T[1]?).bind λV=>(evF EnD n 12 [iI 1]).bind λN=> (asBool N[0]?).bind λc13=>(asLst 1 N[1]?).bind λv14=>(asBool N[2]?).bind λc15=>(asLst 1 N[3]?).bind λv16=>(evF EnD n 43 (kQ c13 v14 c15 v16 [])).bind λW=> (asBool W[0]?).bind λc18=>(asLst 1 W[1]?).bind λv19=>(evF EnD n 79 (kQ U V c18 v19 [])).bind λM=> (asBool M[0]?).bind λc21=>(asLst 1 M[1]?).bind λv22=>(asBool M[2]?).bind λc23=>(asLst 1 M[3]?).bind λv24=>(asInt .i64 M[4]?).bind λn25=>(evF EnD n 37 (kQ B1 A4 A5 q (kQ c21 v22 c23 v24 []))).bind λO=> (asBool O[0]?).bind λc27=>(asLst 1 O[1]?).bind λv28=>(asBool O[2]?).bind λc29=>(asLst 1 O[3]?).bind λv30=>(bd (IntKind.wrap .i64 (A3+1)) 10).bind λP=> (bd A3 P).bind λR=>
(cond (((5+(({ data:=#[48,49,50,51,52,53,54,55,56,57] }:ByteArray).extract R P).size):Int)>9223372036854775807) none ((evF EnD n 25 [.bool U,iL V]).bind λr33=> (asStr r33[0]?).bind λX=>
(cond (Nat.ble (o.length+(qd 1 (.agg [.str { data:=#[] },.str { data:=#[] }]) [(0,(.agg [.str ({ data:=#[108,105,110,101,45] }++(({ data:=#[48,49,50,51,52,53,54,55,56,57] }:ByteArray).extract R P)),.str X]))]).length) 4398046511104) (q41.l18 n [] m (k5 j D b f G (k8 e h v u C z H g (kQ c27 v28 c29 v30 [.list 2 (o++(qd 1 (.agg [.str { data:=#[] },.str { data:=#[] }]) [(0,(.agg [.str ({ data:=#[108,105,110,101,45] }++(({ data:=#[48,49,50,51,52,53,54,55,56,57] }:ByteArray).extract R P)),.str X]))])),iI (IntKind.wrap .i64 (A3+1))])))) none)))) ((evF EnD n 39 (kQ B1 A4 A5 q [])).bind λQ=> (asBool Q[0]?).bind λc36=>(asLst 1 Q[1]?).bind λv37=>(asBool Q[2]?).bind λc38=>(asLst 1 Q[3]?).bind λv39=>(evF EnD n 14 (kQ c36 v37 c38 v39 [])).bind λr40=> (asStr r40[0]?).bind λY=>
(cond (Nat.ble (o.length+(qd 1 (.agg [.str { data:=#[] },.str { data:=#[] }]) [(0,(.agg [.str { data:=#[114,111,117,110,100] },.str Y]))]).length) 4398046511104) (some [.list 2 (o++(qd 1 (.agg [.str { data:=#[] },.str { data:=#[] }]) [(0,(.agg [.str { data:=#[114,111,117,110,100] },.str Y]))])),iI 0]) none))):=by kernel_rfl
theorem qrl:evF EnD (n+1) 27 (k15 j D b f G e h v u p A1 D3 C3 B1 A2 [])=(evF EnD n 17 (k15 j D b f G e h v u p A1 D3 C3 B1 A2 [])).bind λM=> (asInt .i64 (M[0]?)).bind λN=>
(cond (N !=0) (some [.list 2 [],iI 1]) ((evF EnD n 28 [.list 7 e,.list 8 h]).bind λO=> (asLst 1 O[0]?).bind λP=>(evF EnD n 12 [iI 0]).bind λK=> (asBool K[0]?).bind λQ=>(asLst 1 K[1]?).bind λR=>(asBool K[2]?).bind λS=>(asLst 1 K[3]?).bind λT=>q41.l7 n [] n (k5 j D b f G (k8 v u p A1 D3 C3 B1 A2 (kQ Q R S T [.list 7 e,.list 8 h,iL P,.list 2 (qd 0 (.agg [.str { data:=#[] },.str { data:=#[] }]) []),iI 0]))))):=by kernel_rfl
noncomputable def q1m.l3(n:Nat):=Lp EnD n 28 [1,1,0,1,0]
noncomputable def q1m.l7(n:Nat):=Lp EnD n 28 [1,1,1,0,1,0]
noncomputable def q1m.l12(n:Nat):=Lp EnD n 28 [1,1,1,1,1,0,1,0]
noncomputable def q1m.l15(n:Nat):=Lp EnD n 28 [1,1,1,1,1,0,1,0,0,1,0,0,1,0,0]
theorem q1m.qm:q1m.l3 n [] (m+1) [.list 7 c,.list 8 a,iL b,iI f] =
(cond (f<(c.length:Int)) ((ix f c.length).bind λM=> (asStr (at' c M 0)).bind λK=>
(cond (Nat.ble (b.length+(qd 1 (.str { data:=#[] }) [(0,(.str K))]).length) 8796093022208) (q1m.l3 n [] m [.list 7 c,.list 8 a,iL (b++(qd 1 (.str { data:=#[] }) [(0,(.str K))])),iI (IntKind.wrap .i64 (f+1))]) none)) (q1m.l7 n [] n [.list 8 a,iL b,iI 0])):=by kernel_rfl
theorem q1m.q2s:q1m.l7 n [] (m+1) [.list 8 c,iL a,iI s] =
(cond (s<(c.length:Int)) ((ix s c.length).bind λM=> (asStr (at' c M 0)).bind λK=>
(cond (Nat.ble (a.length+(qd 1 (.str { data:=#[] }) [(0,(.str K))]).length) 8796093022208) (q1m.l7 n [] m [.list 8 c,iL (a++(qd 1 (.str { data:=#[] }) [(0,(.str K))])),iI (IntKind.wrap .i64 (s+1))]) none)) (q1m.l12 n [] n [iL a,iL (qd 0 (.str { data:=#[] }) []),iI 0])):=by kernel_rfl
theorem q1m.q3w:q1m.l12 n [] (m+1) [iL c,iL a,iI s] =
(cond (s<(c.length:Int)) (q1m.l15 n [m] n [iL c,iL a,iI s,iI 0]) (some [iL a])):=by kernel_rfl
theorem q1m.qbp:q1m.l15 n [B6] (m+1) [iL c,iL a,iI s,iI f] =
(cond (f<(a.length:Int)) ((ix f a.length).bind λX=> (asStr (at' a X 0)).bind λY=> (ix s c.length).bind λZ=> (asStr (at' c Z 0)).bind λu3=>
(cond (Go.Op.bytesLess Y.toList u3.toList) (q1m.l15 n [B6] m [iL c,iL a,iI s,iI (IntKind.wrap .i64 (f+1))]) (cond (f<(a.length:Int)) ((ix f a.length).bind λi4=> (asStr (at' a i4 0)).bind λu5=> (ix s c.length).bind λi6=> (asStr (at' c i6 0)).bind λu7=>
(cond (u5.toList==u7.toList) (q1m.l12 n [] B6 [iL c,iL a,iI (IntKind.wrap .i64 (s+1))]) ((bd f a.length).bind λK=>
(cond (Nat.ble ((qd 0 (.str { data:=#[] }) []).length+(List.drop 0 (List.take K a)).length) 8796093022208) ((ix s c.length).bind λi9=> (asStr (at' c i9 0)).bind λP=>
(cond (Nat.ble (((qd 0 (.str { data:=#[] }) [])++(List.drop 0 (List.take K a))).length+(qd 1 (.str { data:=#[] }) [(0,(.str P))]).length) 8796093022208) ((bd f a.length).bind λT=>
(cond (Nat.ble ((((qd 0 (.str { data:=#[] }) [])++(List.drop 0 (List.take K a)))++(qd 1 (.str { data:=#[] }) [(0,(.str P))])).length+(List.drop T (List.take a.length a)).length) 8796093022208) (q1m.l12 n [] B6 [iL c,iL ((((qd 0 (.str { data:=#[] }) [])++(List.drop 0 (List.take K a)))++(qd 1 (.str { data:=#[] }) [(0,(.str P))]))++(List.drop T (List.take a.length a))),iI (IntKind.wrap .i64 (s+1))]) none)) none)) none)))) ((bd f a.length).bind λM=>
(cond (Nat.ble ((qd 0 (.str { data:=#[] }) []).length+(List.drop 0 (List.take M a)).length) 8796093022208) ((ix s c.length).bind λi13=> (asStr (at' c i13 0)).bind λQ=>
(cond (Nat.ble (((qd 0 (.str { data:=#[] }) [])++(List.drop 0 (List.take M a))).length+(qd 1 (.str { data:=#[] }) [(0,(.str Q))]).length) 8796093022208) ((bd f a.length).bind λU=>
(cond (Nat.ble ((((qd 0 (.str { data:=#[] }) [])++(List.drop 0 (List.take M a)))++(qd 1 (.str { data:=#[] }) [(0,(.str Q))])).length+(List.drop U (List.take a.length a)).length) 8796093022208) (q1m.l12 n [] B6 [iL c,iL ((((qd 0 (.str { data:=#[] }) [])++(List.drop 0 (List.take M a)))++(qd 1 (.str { data:=#[] }) [(0,(.str Q))]))++(List.drop U (List.take a.length a))),iI (IntKind.wrap .i64 (s+1))]) none)) none)) none))))) (cond (f<(a.length:Int)) ((ix f a.length).bind λi16=> (asStr (at' a i16 0)).bind λu17=> (ix s c.length).bind λi18=> (asStr (at' c i18 0)).bind λu19=>
(cond (u17.toList==u19.toList) (q1m.l12 n [] B6 [iL c,iL a,iI (IntKind.wrap .i64 (s+1))]) ((bd f a.length).bind λN=>
(cond (Nat.ble ((qd 0 (.str { data:=#[] }) []).length+(List.drop 0 (List.take N a)).length) 8796093022208) ((ix s c.length).bind λi21=> (asStr (at' c i21 0)).bind λR=>
(cond (Nat.ble (((qd 0 (.str { data:=#[] }) [])++(List.drop 0 (List.take N a))).length+(qd 1 (.str { data:=#[] }) [(0,(.str R))]).length) 8796093022208) ((bd f a.length).bind λV=>
(cond (Nat.ble ((((qd 0 (.str { data:=#[] }) [])++(List.drop 0 (List.take N a)))++(qd 1 (.str { data:=#[] }) [(0,(.str R))])).length+(List.drop V (List.take a.length a)).length) 8796093022208) (q1m.l12 n [] B6 [iL c,iL ((((qd 0 (.str { data:=#[] }) [])++(List.drop 0 (List.take N a)))++(qd 1 (.str { data:=#[] }) [(0,(.str R))]))++(List.drop V (List.take a.length a))),iI (IntKind.wrap .i64 (s+1))]) none)) none)) none)))) ((bd f a.length).bind λO=>
(cond (Nat.ble ((qd 0 (.str { data:=#[] }) []).length+(List.drop 0 (List.take O a)).length) 8796093022208) ((ix s c.length).bind λi25=> (asStr (at' c i25 0)).bind λS=>
(cond (Nat.ble (((qd 0 (.str { data:=#[] }) [])++(List.drop 0 (List.take O a))).length+(qd 1 (.str { data:=#[] }) [(0,(.str S))]).length) 8796093022208) ((bd f a.length).bind λW=>
(cond (Nat.ble ((((qd 0 (.str { data:=#[] }) [])++(List.drop 0 (List.take O a)))++(qd 1 (.str { data:=#[] }) [(0,(.str S))])).length+(List.drop W (List.take a.length a)).length) 8796093022208) (q1m.l12 n [] B6 [iL c,iL ((((qd 0 (.str { data:=#[] }) [])++(List.drop 0 (List.take O a)))++(qd 1 (.str { data:=#[] }) [(0,(.str S))]))++(List.drop W (List.take a.length a))),iI (IntKind.wrap .i64 (s+1))]) none)) none)) none)))):=by kernel_rfl
theorem qr5:evF EnD (n+1) 28 [.list 7 c,.list 8 a]=q1m.l3 n [] n [.list 7 c,.list 8 a,iL (qd 0 (.str { data:=#[] }) []),iI 0]:=by kernel_rfl
theorem qrm:evF EnD (n+1) 31 (.list 7 c::.list 8 a::k8 b d r e F J t y [.str z])=(evF EnD n 88 (.list 7 c::.list 8 a::k8 b d r e F J t y [.str z])).bind λK=> (asLst 1 K[0]?).bind λN=>(asBool K[1]?).bind λO=>(asLst 1 K[2]?).bind λP=>(asBool K[3]?).bind λQ=>(asBool K[4]?).bind λR=>(evF EnD n 99 [iL N,.bool O,iL P,.bool Q,.bool R]).bind λM=> (asStr M[0]?).bind λS=>(asInt .i64 M[1]?).bind λT=>some [.str S,iI T]:=by kernel_rfl
noncomputable def q19.l3(n:Nat):=Lp EnD n 33 [1,1,0,1,0]
noncomputable def q19.l17(n:Nat):=Lp EnD n 33 [1,1,1,0,1,0]
noncomputable def q19.l24(n:Nat):=Lp EnD n 33 [1,1,1,0,1,0,0,1,0,0,1,1,1,1,0]
theorem q19.qm:q19.l3 n [] (m+1) (k8 c a b d E l B w (kQ t p I k [.list 7 i,.list 8 x,.str B0,iI B3])) =
(cond (B3<(i.length:Int)) ((ix B3 i.length).bind λK=> (asStr (at' i K 0)).bind λu1=> (asInt .i64 (at' i K 1)).bind λn2=> (asInt .i64 (at' i K 2)).bind λn3=> (asInt .i64 (at' i K 3)).bind λn4=> (asBool (at' i K 4)).bind λc5=> (asInt .i64 (at' i K 5)).bind λn6=> (asInt .i64 (at' i K 6)).bind λn7=>
(cond (!(u1.toList==B0.toList)) (q19.l3 n [] m (k8 c a b d E l B w (kQ t p I k [.list 7 i,.list 8 x,.str B0,iI (IntKind.wrap .i64 (B3+1))]))) (cond (B3≥(a.length:Int)) (some [.str { data:=#[] },iI 120]) ((ix B3 a.length).bind λi8=> (asStr (at' a i8 0)).bind λu9=> (evF EnD n 22 [.str u9]).bind λM=> (asBool M[0]?).bind λT=>(asLst 1 M[1]?).bind λU=>(asBool M[2]?).bind λV=>(asLst 1 M[3]?).bind λW=>(asInt .i64 M[4]?).bind λn15=>(evF EnD n 101 (k8 c a b d E l B w [iI n4,iI n3])).bind λN=> (asBool N[0]?).bind λX=>(asLst 1 N[1]?).bind λY=>(asBool N[2]?).bind λZ=>(asLst 1 N[3]?).bind λv20=>(asBool N[4]?).bind λc21=>
(cond (n15 !=0) (some [.str { data:=#[] },iI 120]) (cond (!c21) (some [.str { data:=#[] },iI 120]) (cond c5 ((evF EnD n 39 (kQ T U V W [])).bind λO=> (asBool O[0]?).bind λc23=>(asLst 1 O[1]?).bind λv24=>(asBool O[2]?).bind λc25=>(asLst 1 O[3]?).bind λv26=>(evF EnD n 13 (kQ c23 v24 c25 v26 (kQ X Y Z v20 []))).bind λP=> (asBool P[0]?).bind λc28=>(asLst 1 P[1]?).bind λv29=>(asBool P[2]?).bind λc30=>(asLst 1 P[3]?).bind λv31=>(evF EnD n 37 (kQ t p I k (kQ c28 v29 c30 v31 []))).bind λQ=> (asBool Q[0]?).bind λc33=>(asLst 1 Q[1]?).bind λv34=>(asBool Q[2]?).bind λc35=>(asLst 1 Q[3]?).bind λv36=>q19.l3 n [] m (k8 c a b d E l B w (kQ c33 v34 c35 v36 [.list 7 i,.list 8 x,.str B0,iI (IntKind.wrap .i64 (B3+1))]))) ((evF EnD n 13 (kQ T U V W (kQ X Y Z v20 []))).bind λR=> (asBool R[0]?).bind λc38=>(asLst 1 R[1]?).bind λv39=>(asBool R[2]?).bind λc40=>(asLst 1 R[3]?).bind λv41=>(evF EnD n 37 (kQ t p I k (kQ c38 v39 c40 v41 []))).bind λS=> (asBool S[0]?).bind λc43=>(asLst 1 S[1]?).bind λv44=>(asBool S[2]?).bind λc45=>(asLst 1 S[3]?).bind λv46=>q19.l3 n [] m (k8 c a b d E l B w (kQ c43 v44 c45 v46 [.list 7 i,.list 8 x,.str B0,iI (IntKind.wrap .i64 (B3+1))])))))))))) (q19.l17 n [] n (k8 c a b d E l B w (kQ t p I k [.list 8 x,.str B0,iI 0])))):=by kernel_rfl
theorem q19.l17_eq:q19.l17 n [] (m+1) (k8 c a b d E l B w (kQ t p I k [.list 8 i,.str C2,iI A2])) =
(cond (A2<(i.length:Int)) ((ix A2 i.length).bind λK=> (asStr (at' i K 0)).bind λM=> (asInt .i64 (at' i K 1)).bind λN=> (asInt .i64 (at' i K 2)).bind λO=> (asBool (at' i K 3)).bind λP=> (asInt .i64 (at' i K 4)).bind λQ=> (asLst 1 (at' i K 5)).bind λR=> (asInt .i64 (at' i K 6)).bind λS=> (asInt .i64 (at' i K 7)).bind λT=>
(cond (!(M.toList==C2.toList)) (q19.l17 n [] m (k8 c a b d E l B w (kQ t p I k [.list 8 i,.str C2,iI (IntKind.wrap .i64 (A2+1))]))) (cond (A2≥(c.length:Int)) (some [.str { data:=#[] },iI 120]) (q19.l24 n [m] n (k8 c a b d E l B w (kQ t p I k (kB M N O P Q R S T [.list 8 i,.str C2,iI A2,iI 0]))))))) ((evF EnD n 14 (kQ t p I k [])).bind λU=> (asStr U[0]?).bind λV=>some [.str V,iI 0])):=by kernel_rfl
theorem q19.qdy:q19.l24 n [B6] (m+1) (k8 c a b d E l B w (kQ t p I k (kB C3 A A2 A5 A6 o A3 B5 [.list 8 B2,.str D7,iI C1,iI D2]))) =
(cond (D2<(o.length:Int)) ((ix C1 c.length).bind λi0=> (asBool (at' c i0 0)).bind λc1=>
(cond c1 ((evF EnD n 101 (k8 c a b d E l B w [iI D2,iI A2])).bind λK=> (asBool K[0]?).bind λS=>(asLst 1 K[1]?).bind λT=>(asBool K[2]?).bind λU=>(asLst 1 K[3]?).bind λV=>(asBool K[4]?).bind λc7=>
(cond (!c7) (some [.str { data:=#[] },iI 120]) ((ix D2 o.length).bind λi8=> (asInt .i64 (at' o i8 0)).bind λn9=> (evF EnD n 12 [iI n9]).bind λM=> (asBool M[0]?).bind λW=>(asLst 1 M[1]?).bind λX=>(asBool M[2]?).bind λY=>(asLst 1 (M[3]?)).bind λZ=>
(cond A5 ((evF EnD n 39 (kQ W X Y Z [])).bind λN=> (asBool N[0]?).bind λc16=>(asLst 1 N[1]?).bind λv17=>(asBool N[2]?).bind λc18=>(asLst 1 N[3]?).bind λv19=>(evF EnD n 13 (kQ c16 v17 c18 v19 (kQ S T U V []))).bind λO=> (asBool O[0]?).bind λc21=>(asLst 1 O[1]?).bind λv22=>(asBool O[2]?).bind λc23=>(asLst 1 O[3]?).bind λv24=>(evF EnD n 37 (kQ t p I k (kQ c21 v22 c23 v24 []))).bind λP=> (asBool P[0]?).bind λc26=>(asLst 1 P[1]?).bind λv27=>(asBool P[2]?).bind λc28=>(asLst 1 P[3]?).bind λv29=>q19.l24 n [B6] m (k8 c a b d E l B w (kQ c26 v27 c28 v29 (kB C3 A A2 A5 A6 o A3 B5 [.list 8 B2,.str D7,iI C1,iI (IntKind.wrap .i64 (D2+1))])))) ((evF EnD n 13 (kQ W X Y Z (kQ S T U V []))).bind λQ=> (asBool Q[0]?).bind λc31=>(asLst 1 Q[1]?).bind λv32=>(asBool Q[2]?).bind λc33=>(asLst 1 Q[3]?).bind λv34=>(evF EnD n 37 (kQ t p I k (kQ c31 v32 c33 v34 []))).bind λR=> (asBool R[0]?).bind λc36=>(asLst 1 R[1]?).bind λv37=>(asBool R[2]?).bind λc38=>(asLst 1 R[3]?).bind λv39=>q19.l24 n [B6] m (k8 c a b d E l B w (kQ c36 v37 c38 v39 (kB C3 A A2 A5 A6 o A3 B5 [.list 8 B2,.str D7,iI C1,iI (IntKind.wrap .i64 (D2+1))])))))))) (q19.l17 n [] B6 (k8 c a b d E l B w (kQ t p I k [.list 8 B2,.str D7,iI (IntKind.wrap .i64 (C1+1))]))))) (q19.l17 n [] B6 (k8 c a b d E l B w (kQ t p I k [.list 8 B2,.str D7,iI (IntKind.wrap .i64 (C1+1))])))):=by kernel_rfl
theorem qrn:evF EnD (n+1) 33 (.list 7 c::.list 8 a::k8 b d r e F J t y [.str z])=(evF EnD n 12 [iI 0]).bind λK=> (asBool K[0]?).bind λM=>(asLst 1 K[1]?).bind λN=>(asBool K[2]?).bind λO=>(asLst 1 K[3]?).bind λP=>q19.l3 n [] n (k8 b d r e F J t y (kQ M N O P [.list 7 c,.list 8 a,.str z,iI 0])):=by kernel_rfl
theorem qgs:evF EnD (n+1) 34 (k5 j D b f G (k8 e h v u C z H g [iI A])) =
(cond (A<0) (some [.str { data:=#[] },iI 1]) (cond (A≥(b.length:Int)) (some [.str { data:=#[] },iI 1]) ((ix A b.length).bind λM=> (asInt .i64 (at' b M 0)).bind λO=> (asInt .i64 (at' b M 1)).bind λP=> (asInt .i64 (at' b M 2)).bind λQ=> (evF EnD n 89 (iI O::iI P::iI Q::k8 e h v u C z H g [iI A])).bind λK=> (asLst 1 K[0]?).bind λR=>(asBool K[1]?).bind λS=>(asLst 1 K[2]?).bind λT=>(asBool K[3]?).bind λU=>(asBool K[4]?).bind λV=>(evF EnD n 99 [iL R,.bool S,iL T,.bool U,.bool V]).bind λN=> (asStr N[0]?).bind λW=>(asInt .i64 N[1]?).bind λX=>some [.str W,iI X]))):=by kernel_rfl
noncomputable def q51.l6(n:Nat):=Lp EnD n 35 [1,1,1,1,0,1,0]
theorem q51.q2n:q51.l6 n [] (m+1) (k8 c a b d E l B w (kQ t p I k [iI g,iI A,iI A2,iI B3,iI A6])) =
(cond (A6<(b.length:Int)) ((ix A6 b.length).bind λS=> (asLst 1 (at' b S 0)).bind λT=>
(cond (B3≥(T.length:Int)) (some [.str { data:=#[] },iI 120]) ((ix A6 b.length).bind λU=> (asLst 1 (at' b U 0)).bind λR=> (ix B3 R.length).bind λV=> (asStr (at' R V 0)).bind λW=> (evF EnD n 22 [.str W]).bind λK=> (asBool K[0]?).bind λX=>(asLst 1 K[1]?).bind λY=>(asBool K[2]?).bind λZ=>(asLst 1 K[3]?).bind λv10=>(asInt .i64 K[4]?).bind λn11=>(evF EnD n 101 (k8 c a b d E l B w [iI A6,iI g])).bind λM=> (asBool M[0]?).bind λc13=>(asLst 1 M[1]?).bind λv14=>(asBool M[2]?).bind λc15=>(asLst 1 M[3]?).bind λv16=>(asBool M[4]?).bind λc17=>(evF EnD n 101 (k8 c a b d E l B w [iI A6,iI A])).bind λN=> (asBool N[0]?).bind λc19=>(asLst 1 N[1]?).bind λv20=>(asBool N[2]?).bind λc21=>(asLst 1 N[3]?).bind λv22=>(asBool N[4]?).bind λc23=>
(cond (n11 !=0) (some [.str { data:=#[] },iI 120]) (cond (!c17) (some [.str { data:=#[] },iI 120]) (cond (!c23) (some [.str { data:=#[] },iI 120]) ((evF EnD n 92 (kQ c19 v20 c21 v22 (kQ c13 v14 c15 v16 []))).bind λO=> (asBool O[0]?).bind λc25=>(asLst 1 O[1]?).bind λv26=>(asBool O[2]?).bind λc27=>(asLst 1 O[3]?).bind λv28=>(evF EnD n 13 (kQ X Y Z v10 (kQ c25 v26 c27 v28 []))).bind λP=> (asBool P[0]?).bind λc30=>(asLst 1 P[1]?).bind λv31=>(asBool P[2]?).bind λc32=>(asLst 1 P[3]?).bind λv33=>(evF EnD n 37 (kQ t p I k (kQ c30 v31 c32 v33 []))).bind λQ=> (asBool Q[0]?).bind λc35=>(asLst 1 Q[1]?).bind λv36=>(asBool Q[2]?).bind λc37=>(asLst 1 Q[3]?).bind λv38=>q51.l6 n [] m (k8 c a b d E l B w (kQ c35 v36 c37 v38 [iI g,iI A,iI A2,iI B3,iI (IntKind.wrap .i64 (A6+1))]))))))))) ((evF EnD n 14 (kQ t p I k [])).bind λr39=> (asStr r39[0]?).bind λu40=>some [.str u40,iI 0])):=by kernel_rfl
theorem qgt:evF EnD (n+1) 35 (k5 j D b f G (k8 e h v u C z H g [iI A])) =
(cond (A<0) (some [.str { data:=#[] },iI 1]) (cond (A≥(b.length:Int)) (some [.str { data:=#[] },iI 1]) ((evF EnD n 12 [iI 0]).bind λK=> (asBool K[0]?).bind λN=>(asLst 1 K[1]?).bind λO=>(asBool K[2]?).bind λP=>(asLst 1 K[3]?).bind λQ=>(ix A b.length).bind λM=> (asInt .i64 (at' b M 0)).bind λR=> (asInt .i64 (at' b M 1)).bind λS=> (asInt .i64 (at' b M 2)).bind λT=> q51.l6 n [] n (k8 e h v u C z H g (kQ N O P Q [iI R,iI S,iI T,iI A,iI 0]))))):=by kernel_rfl
theorem qro:evF EnD (n+1) 82 (.str C6::iL a::kQ D6 d C7 e [.bool B,.list 2 v])=(evF EnD n 83 [iL a,.bool D6,iL d,.bool C7]).bind λK=> (asLst 1 K[0]?).bind λM=>(asBool K[1]?).bind λN=>(evF EnD n 84 [iL e,.bool B,iL M,.bool N]).bind λO=> (asLst 1 O[0]?).bind λQ=>(asBool O[1]?).bind λR=>(evF EnD n 85 [iL M,.bool N]).bind λS=> (asStr S[0]?).bind λP=>
(cond (Nat.ble (v.length+(qd 1 (.agg [.str { data:=#[] },.str { data:=#[] }]) [(0,(.agg [.str C6,.str P]))]).length) 4398046511104) (some [iL Q,.bool R,.list 2 (v++(qd 1 (.agg [.str { data:=#[] },.str { data:=#[] }]) [(0,(.agg [.str C6,.str P]))]))]) none):=by kernel_rfl
theorem qrp:evF EnD (n+1) 88 (.list 7 c::.list 8 a::k8 b d r e F J t y [.str z])=(evF EnD n 150 (.list 7 c::.str z::k8 b d r e F J t y [])).bind λK=> (asStr K[0]?).bind λS=>(asLst 1 K[1]?).bind λT=>(asLst 1 K[2]?).bind λU=>(asLst 1 K[3]?).bind λV=>(asLst 1 K[4]?).bind λW=>(asStr K[5]?).bind λX=>(asStr K[6]?).bind λY=>(asBool K[7]?).bind λZ=>(asInt .i64 K[8]?).bind λn9=>(asLst 1 K[9]?).bind λv10=>(asBool K[10]?).bind λc11=>(asLst 1 K[11]?).bind λv12=>(asBool K[12]?).bind λc13=>(asBool K[13]?).bind λc14=>(evF EnD n 155 (.list 8 a::.str S::k8 T U V W X Y Z n9 [])).bind λM=> (asStr M[0]?).bind λu16=>(asLst 1 M[1]?).bind λv17=>(asLst 1 M[2]?).bind λv18=>(asLst 1 M[3]?).bind λv19=>(asLst 1 M[4]?).bind λv20=>(asStr M[5]?).bind λu21=>(asStr M[6]?).bind λu22=>(asBool M[7]?).bind λc23=>(asInt .i64 M[8]?).bind λn24=>(asLst 1 M[9]?).bind λv25=>(asBool M[10]?).bind λc26=>(asLst 1 M[11]?).bind λv27=>(asBool M[12]?).bind λc28=>(asBool M[13]?).bind λc29=>(evF EnD n 113 (iL v10::kQ c11 v12 c13 v25 [.bool c26,iL v27,.bool c28])).bind λN=> (asLst 1 N[0]?).bind λO=>(asBool N[1]?).bind λP=>(asLst 1 N[2]?).bind λQ=>(asBool N[3]?).bind λR=>
(cond c14 (some [iL O,.bool P,iL Q,.bool R,.bool c29]) (some [iL O,.bool P,iL Q,.bool R,.bool false])):=by kernel_rfl
theorem qrq:evF EnD (n+1) 89 (iI j::iI D::iI s::k8 d r e h J A8 C4 A7 [iI B4])=(evF EnD n 159 (iL e::iI B4::k8 d r e h J A8 C4 A7 [iI j,iI D,iI s])).bind λK=> (asInt .i64 K[0]?).bind λR=>(asLst 1 K[1]?).bind λS=>(asLst 1 K[2]?).bind λT=>(asLst 1 K[3]?).bind λU=>(asLst 1 K[4]?).bind λV=>(asStr K[5]?).bind λW=>(asStr K[6]?).bind λX=>(asBool K[7]?).bind λY=>(asInt .i64 K[8]?).bind λZ=>(asInt .i64 K[9]?).bind λn10=>(asInt .i64 K[10]?).bind λn11=>(asInt .i64 K[11]?).bind λn12=>(asLst 1 K[12]?).bind λM=>(asBool K[13]?).bind λN=>(asLst 1 K[14]?).bind λO=>(asBool K[15]?).bind λP=>(asBool K[16]?).bind λQ=>some [iL M,.bool N,iL O,.bool P,.bool Q]:=by kernel_rfl
theorem qkn:evF EnD (n+1) 99 [iL c,.bool E7,iL b,.bool F0,.bool C7] =
(cond (!C7) (some [.str { data:=#[] },iI 120]) ((evF EnD n 167 [iL c,.bool E7,iL b,.bool F0]).bind λK=> (asStr K[0]?).bind λM=>some [.str M,iI 0])):=by kernel_rfl
theorem qbt:evF EnD (n+1) 101 (k8 c a b d E l B w [iI A0,iI y]) =
(cond (A0<0) (some (kQ false [] false [] [.bool false])) (cond (A0≥(d.length:Int)) (some (kQ false [] false [] [.bool false])) (cond (y<0) (some (kQ false [] false [] [.bool false])) ((ix A0 d.length).bind λN=> (asLst 1 (at' d N 0)).bind λO=>
(cond (y≥(O.length:Int)) (some (kQ false [] false [] [.bool false])) ((ix A0 d.length).bind λP=> (asLst 1 (at' d P 0)).bind λM=> (ix y M.length).bind λQ=> (asStr (at' M Q 0)).bind λR=> (evF EnD n 22 [.str R]).bind λK=> (asBool K[0]?).bind λS=>(asLst 1 K[1]?).bind λT=>(asBool K[2]?).bind λU=>(asLst 1 K[3]?).bind λV=>(asInt .i64 K[4]?).bind λW=>some (kQ S T U V [.bool (W==0)]))))))):=by kernel_rfl
noncomputable def q5m.l3(n:Nat):=Lp EnD n 150 [1,1,0,1,0]
theorem q5m.qm:q5m.l3 n [] (m+1) (.str C6::k8 a b d r l F C0 A0 (iL p::kQ I k D4 x [.bool D0,iL A9,.bool B7,.list 7 o,iI A3,iI B5])) =
(cond (B5<A3) ((ix B5 o.length).bind λM=> (asStr (at' o M 0)).bind λX=> (asInt .i64 (at' o M 1)).bind λY=> (asInt .i64 (at' o M 2)).bind λZ=> (asInt .i64 (at' o M 3)).bind λn4=> (asBool (at' o M 4)).bind λc5=> (asInt .i64 (at' o M 5)).bind λn6=> (asInt .i64 (at' o M 6)).bind λn7=> (evF EnD n 151 (iI B5::kS X Y Z n4 c5 n6 n7 (.str C6::k8 a b d r l F C0 A0 []))).bind λK=> (asStr K[0]?).bind λO=>(asLst 1 K[1]?).bind λP=>(asLst 1 K[2]?).bind λQ=>(asLst 1 K[3]?).bind λR=>(asLst 1 K[4]?).bind λS=>(asStr K[5]?).bind λT=>(asStr K[6]?).bind λU=>(asBool K[7]?).bind λV=>(asInt .i64 K[8]?).bind λW=>(asLst 1 K[9]?).bind λv18=>(asBool K[10]?).bind λc19=>(asLst 1 K[11]?).bind λv20=>(asBool K[12]?).bind λc21=>(asBool K[13]?).bind λc22=>
(cond (!c22) (some (.str O::k8 P Q R S T U V W [iL x,.bool D0,iL A9,.bool B7,.bool false])) ((evF EnD n 113 (iL x::kQ D0 A9 B7 v18 [.bool c19,iL v20,.bool c21])).bind λN=> (asLst 1 N[0]?).bind λv24=>(asBool N[1]?).bind λc25=>(asLst 1 N[2]?).bind λv26=>(asBool N[3]?).bind λc27=>q5m.l3 n [] m (.str O::k8 P Q R S T U V W (iL p::kQ I k D4 v24 [.bool c25,iL v26,.bool c27,.list 7 o,iI A3,iI (IntKind.wrap .i64 (B5+1))]))))) (some (.str C6::k8 a b d r l F C0 A0 [iL x,.bool D0,iL A9,.bool B7,.bool true]))):=by kernel_rfl
theorem qrr:evF EnD (n+1) 150 (.list 7 c::.str C8::k8 b d r e F J t y [])=q5m.l3 n [] n (.str C8::k8 b d r e F J t y (iL []::kQ false [] false [] [.bool false,iL [],.bool false,.list 7 c,iI (c.length:Int),iI 0])):=by kernel_rfl
theorem qgu:evF EnD (n+1) 151 (iI j::kS C8 s f G E8 F1 w (.str A8::k8 p A1 k i C2 B0 A5 A6 [])) =
(cond (!(C8.toList==A8.toList)) (some (.str A8::k8 p A1 k i C2 B0 A5 A6 [iL [],.bool false,iL [],.bool false,.bool true])) (cond (j≥(A1.length:Int)) (some (.str A8::k8 p A1 k i C2 B0 A5 A6 [iL [],.bool false,iL [],.bool false,.bool false])) ((ix j A1.length).bind λT=> (asStr (at' A1 T 0)).bind λU=> (evF EnD n 118 [.str U]).bind λK=> (asLst 1 K[0]?).bind λV=>(asBool K[1]?).bind λW=>(asLst 1 K[2]?).bind λX=>(asBool K[3]?).bind λY=>(asInt .i64 K[4]?).bind λZ=>(evF EnD n 152 (k8 p A1 k i C2 B0 A5 A6 [iI G,iI f])).bind λM=> (asLst 1 M[0]?).bind λv9=>(asBool M[1]?).bind λc10=>(asLst 1 M[2]?).bind λv11=>(asBool M[3]?).bind λc12=>(asBool M[4]?).bind λc13=>(evF EnD n 154 (iL V::kQ W X Y v9 [.bool c10,iL v11,.bool c12])).bind λN=> (asLst 1 N[0]?).bind λv15=>(asBool N[1]?).bind λc16=>(asLst 1 N[2]?).bind λv17=>(asBool N[3]?).bind λc18=>(evF EnD n 153 (kQ E8 v15 c16 v17 [.bool c18])).bind λO=> (asLst 1 O[0]?).bind λP=>(asBool O[1]?).bind λQ=>(asLst 1 O[2]?).bind λR=>(asBool O[3]?).bind λS=>
(cond c13 (some (.str A8::k8 p A1 k i C2 B0 A5 A6 [iL P,.bool Q,iL R,.bool S,.bool (Z==0)])) (some (.str A8::k8 p A1 k i C2 B0 A5 A6 [iL P,.bool Q,iL R,.bool S,.bool false])))))):=by kernel_rfl
theorem qbu:evF EnD (n+1) 152 (k8 c a b d E l B w [iI A0,iI y]) =
(cond (A0<0) (some [iL [],.bool false,iL [],.bool false,.bool false]) (cond (A0≥(d.length:Int)) (some [iL [],.bool false,iL [],.bool false,.bool false]) (cond (y<0) (some [iL [],.bool false,iL [],.bool false,.bool false]) ((ix A0 d.length).bind λN=> (asLst 1 (at' d N 0)).bind λO=>
(cond (y≥(O.length:Int)) (some [iL [],.bool false,iL [],.bool false,.bool false]) ((ix A0 d.length).bind λP=> (asLst 1 (at' d P 0)).bind λM=> (ix y M.length).bind λQ=> (asStr (at' M Q 0)).bind λR=> (evF EnD n 118 [.str R]).bind λK=> (asLst 1 K[0]?).bind λS=>(asBool K[1]?).bind λT=>(asLst 1 K[2]?).bind λU=>(asBool K[3]?).bind λV=>(asInt .i64 K[4]?).bind λW=>some [iL S,.bool T,iL U,.bool V,.bool (W==0)])))))):=by kernel_rfl
theorem qko:evF EnD (n+1) 153 (kQ E6 a D6 d [.bool C7]) =
(cond E6 ((evF EnD n 169 [iL a,.bool D6,iL d,.bool C7]).bind λK=> (asLst 1 K[0]?).bind λM=>(asBool K[1]?).bind λN=>(asLst 1 K[2]?).bind λO=>(asBool K[3]?).bind λP=>some [iL M,.bool N,iL O,.bool P]) (some [iL a,.bool D6,iL d,.bool C7])):=by kernel_rfl
noncomputable def q5n.l3(n:Nat):=Lp EnD n 155 [1,1,0,1,0]
theorem q5n.qm:q5n.l3 n [] (m+1) (.str C6::k8 a b d r l F C0 A0 (iL p::kQ I k D4 x [.bool D0,iL A9,.bool B7,.list 8 o,iI A3,iI B5])) =
(cond (B5<A3) ((ix B5 o.length).bind λM=> (asStr (at' o M 0)).bind λX=> (asInt .i64 (at' o M 1)).bind λY=> (asInt .i64 (at' o M 2)).bind λZ=> (asBool (at' o M 3)).bind λc4=> (asInt .i64 (at' o M 4)).bind λn5=> (asLst 1 (at' o M 5)).bind λv6=> (asInt .i64 (at' o M 6)).bind λn7=> (asInt .i64 (at' o M 7)).bind λn8=> (evF EnD n 156 (iI B5::kB X Y Z c4 n5 v6 n7 n8 (.str C6::k8 a b d r l F C0 A0 []))).bind λK=> (asStr K[0]?).bind λO=>(asLst 1 K[1]?).bind λP=>(asLst 1 K[2]?).bind λQ=>(asLst 1 K[3]?).bind λR=>(asLst 1 K[4]?).bind λS=>(asStr K[5]?).bind λT=>(asStr K[6]?).bind λU=>(asBool K[7]?).bind λV=>(asInt .i64 K[8]?).bind λW=>(asLst 1 K[9]?).bind λv19=>(asBool K[10]?).bind λc20=>(asLst 1 K[11]?).bind λv21=>(asBool K[12]?).bind λc22=>(asBool K[13]?).bind λc23=>
(cond (!c23) (some (.str O::k8 P Q R S T U V W [iL x,.bool D0,iL A9,.bool B7,.bool false])) ((evF EnD n 113 (iL x::kQ D0 A9 B7 v19 [.bool c20,iL v21,.bool c22])).bind λN=> (asLst 1 N[0]?).bind λv25=>(asBool N[1]?).bind λc26=>(asLst 1 N[2]?).bind λv27=>(asBool N[3]?).bind λc28=>q5n.l3 n [] m (.str O::k8 P Q R S T U V W (iL p::kQ I k D4 v25 [.bool c26,iL v27,.bool c28,.list 8 o,iI A3,iI (IntKind.wrap .i64 (B5+1))]))))) (some (.str C6::k8 a b d r l F C0 A0 [iL x,.bool D0,iL A9,.bool B7,.bool true]))):=by kernel_rfl
theorem qrs:evF EnD (n+1) 155 (.list 8 c::.str C8::k8 b d r e F J t y [])=q5n.l3 n [] n (.str C8::k8 b d r e F J t y (iL []::kQ false [] false [] [.bool false,iL [],.bool false,.list 8 c,iI (c.length:Int),iI 0])):=by kernel_rfl
theorem qdz:evF EnD (n+1) 156 (iI j::kB C8 s f C7 E9 h w A0 (.str C::k8 A1 k i x B0 D9 B7 B8 [])) =
(cond (!(C8.toList==C.toList)) (some (.str C::k8 A1 k i x B0 D9 B7 B8 [iL [],.bool false,iL [],.bool false,.bool true])) (cond (j≥(A1.length:Int)) (some (.str C::k8 A1 k i x B0 D9 B7 B8 [iL [],.bool false,iL [],.bool false,.bool false])) ((ix j A1.length).bind λM=> (asBool (at' A1 M 0)).bind λN=>
(cond (!N) (some (.str C::k8 A1 k i x B0 D9 B7 B8 [iL [],.bool false,iL [],.bool false,.bool true])) ((evF EnD n 157 (iL h::k8 A1 k i x B0 D9 B7 B8 (kB C8 s f C7 E9 h w A0 []))).bind λK=> (asLst 1 K[0]?).bind λO=>(asLst 1 K[1]?).bind λP=>(asLst 1 K[2]?).bind λQ=>(asLst 1 K[3]?).bind λR=>(asStr K[4]?).bind λS=>(asStr K[5]?).bind λT=>(asBool K[6]?).bind λU=>(asInt .i64 K[7]?).bind λV=>(asStr K[8]?).bind λu11=>(asInt .i64 K[9]?).bind λn12=>(asInt .i64 K[10]?).bind λn13=>(asBool K[11]?).bind λc14=>(asInt .i64 K[12]?).bind λn15=>(asLst 1 K[13]?).bind λv16=>(asInt .i64 K[14]?).bind λn17=>(asInt .i64 K[15]?).bind λn18=>(asLst 1 K[16]?).bind λW=>(asBool K[17]?).bind λX=>(asLst 1 K[18]?).bind λY=>(asBool K[19]?).bind λZ=>(asBool K[20]?).bind λc23=>some (.str C::k8 O P Q R S T U V [iL W,.bool X,iL Y,.bool Z,.bool c23])))))):=by kernel_rfl
noncomputable def q5o.l3(n:Nat):=Lp EnD n 157 [1,1,0,1,0]
theorem q5o.qm:q5o.l3 n [] (m+1) (k8 c a b d E l B w (kB A8 y A7 H g x A2 B3 (iL q::kQ D1 B9 D5 B2 (kQ E0 E1 E3 E2 [iI E5,iI D8])))) =
(cond (D8<E5) ((ix D8 E2.length).bind λi0=> (asInt .i64 (at' E2 i0 0)).bind λn1=> (evF EnD n 158 (iI D8::iI n1::k8 c a b d E l B w (kB A8 y A7 H g x A2 B3 []))).bind λK=> (asLst 1 K[0]?).bind λN=>(asLst 1 K[1]?).bind λO=>(asLst 1 K[2]?).bind λP=>(asLst 1 K[3]?).bind λQ=>(asStr K[4]?).bind λR=>(asStr K[5]?).bind λS=>(asBool K[6]?).bind λT=>(asInt .i64 K[7]?).bind λU=>(asStr K[8]?).bind λV=>(asInt .i64 K[9]?).bind λW=>(asInt .i64 K[10]?).bind λX=>(asBool K[11]?).bind λY=>(asInt .i64 K[12]?).bind λZ=>(asLst 1 K[13]?).bind λv16=>(asInt .i64 K[14]?).bind λn17=>(asInt .i64 K[15]?).bind λn18=>(asLst 1 K[16]?).bind λv19=>(asBool K[17]?).bind λc20=>(asLst 1 K[18]?).bind λv21=>(asBool K[19]?).bind λc22=>(asBool K[20]?).bind λc23=>
(cond (!c23) (some (k8 N O P Q R S T U (kB V W X Y Z v16 n17 n18 [iL B2,.bool E0,iL E1,.bool E3,.bool false]))) ((evF EnD n 113 (iL B2::kQ E0 E1 E3 v19 [.bool c20,iL v21,.bool c22])).bind λM=> (asLst 1 M[0]?).bind λv25=>(asBool M[1]?).bind λc26=>(asLst 1 M[2]?).bind λv27=>(asBool M[3]?).bind λc28=>q5o.l3 n [] m (k8 N O P Q R S T U (kB V W X Y Z v16 n17 n18 (iL q::kQ D1 B9 D5 v25 (kQ c26 v27 c28 E2 [iI E5,iI (IntKind.wrap .i64 (D8+1))]))))))) (some (k8 c a b d E l B w (kB A8 y A7 H g x A2 B3 [iL B2,.bool E0,iL E1,.bool E3,.bool true])))):=by kernel_rfl
theorem qrt:evF EnD (n+1) 157 (iL c::k8 a b d r l F C0 A0 (kB C A7 B4 D4 A A4 B3 A6 []))=q5o.l3 n [] n (k8 a b d r l F C0 A0 (kB C A7 B4 D4 A A4 B3 A6 (iL []::kQ false [] false [] (kQ false [] false c [iI (c.length:Int),iI 0])))):=by kernel_rfl
theorem qru:evF EnD (n+1) 158 (iI j::iI D::k8 b d r e F J t y (kB z B4 g B1 A2 A9 A6 B8 []))=(evF EnD n 152 (k8 b d r e F J t y [iI j,iI g])).bind λK=> (asLst 1 K[0]?).bind λP=>(asBool K[1]?).bind λQ=>(asLst 1 K[2]?).bind λR=>(asBool K[3]?).bind λS=>(asBool K[4]?).bind λT=>(evF EnD n 111 [iI D]).bind λM=> (asLst 1 M[0]?).bind λU=>(asBool M[1]?).bind λV=>(asLst 1 M[2]?).bind λW=>(asBool M[3]?).bind λX=>(evF EnD n 154 (iL P::kQ Q R S U [.bool V,iL W,.bool X])).bind λN=> (asLst 1 N[0]?).bind λY=>(asBool N[1]?).bind λZ=>(asLst 1 N[2]?).bind λv14=>(asBool N[3]?).bind λc15=>(evF EnD n 153 (kQ B1 Y Z v14 [.bool c15])).bind λO=> (asLst 1 O[0]?).bind λv17=>(asBool O[1]?).bind λc18=>(asLst 1 O[2]?).bind λv19=>(asBool O[3]?).bind λc20=>some (k8 b d r e F J t y (kB z B4 g B1 A2 A9 A6 B8 [iL v17,.bool c18,iL v19,.bool c20,.bool T])):=by kernel_rfl
noncomputable def q5p.l3(n:Nat):=Lp EnD n 159 [1,1,0,1,0]
theorem q5p.qm:q5p.l3 n [] (m+1) (iI j::k8 a b d r l F C0 A0 (iI y::iI A7::iI B4::iL i::kQ B1 A4 A5 q (kQ D1 B9 D5 B2 [iI C9,iI C1]))) =
(cond (C1<C9) ((ix C1 B2.length).bind λZ=> (asLst 1 (at' B2 Z 0)).bind λv1=> (evF EnD n 160 (iI C1::iL v1::iI j::k8 a b d r l F C0 A0 [iI y,iI A7,iI B4])).bind λK=> (asInt .i64 K[0]?).bind λN=>(asLst 1 K[1]?).bind λO=>(asLst 1 K[2]?).bind λP=>(asLst 1 K[3]?).bind λQ=>(asLst 1 K[4]?).bind λR=>(asStr K[5]?).bind λS=>(asStr K[6]?).bind λT=>(asBool K[7]?).bind λU=>(asInt .i64 K[8]?).bind λV=>(asInt .i64 K[9]?).bind λW=>(asInt .i64 K[10]?).bind λX=>(asInt .i64 K[11]?).bind λY=>(asLst 1 K[12]?).bind λv15=>(asBool K[13]?).bind λc16=>(asLst 1 K[14]?).bind λv17=>(asBool K[15]?).bind λc18=>(asBool K[16]?).bind λc19=>
(cond (!c19) (some (iI N::k8 O P Q R S T U V [iI W,iI X,iI Y,iL q,.bool D1,iL B9,.bool D5,.bool false])) ((evF EnD n 113 (iL q::kQ D1 B9 D5 v15 [.bool c16,iL v17,.bool c18])).bind λM=> (asLst 1 M[0]?).bind λv21=>(asBool M[1]?).bind λc22=>(asLst 1 M[2]?).bind λv23=>(asBool M[3]?).bind λc24=>q5p.l3 n [] m (iI N::k8 O P Q R S T U V (iI W::iI X::iI Y::iL i::kQ B1 A4 A5 v21 (kQ c22 v23 c24 B2 [iI C9,iI (IntKind.wrap .i64 (C1+1))])))))) (some (iI j::k8 a b d r l F C0 A0 [iI y,iI A7,iI B4,iL q,.bool D1,iL B9,.bool D5,.bool true]))):=by kernel_rfl
theorem qrv:evF EnD (n+1) 159 (iL c::iI D::k8 b d r e F J t y [iI A7,iI B4,iI g])=q5p.l3 n [] n (iI D::k8 b d r e F J t y (iI A7::iI B4::iI g::iL []::kQ false [] false [] (kQ false [] false c [iI (c.length:Int),iI 0]))):=by kernel_rfl
theorem qkp:evF EnD (n+1) 160 (iI j::iL a::iI s::k8 d r e h J A8 C4 A7 [iI B4,iI g,iI A]) =
(cond (s≥(a.length:Int)) (some (iI s::k8 d r e h J A8 C4 A7 [iI B4,iI g,iI A,iL [],.bool false,iL [],.bool false,.bool false])) ((ix s a.length).bind λU=> (asStr (at' a U 0)).bind λV=> (evF EnD n 118 [.str V]).bind λK=> (asLst 1 K[0]?).bind λW=>(asBool K[1]?).bind λX=>(asLst 1 K[2]?).bind λY=>(asBool K[3]?).bind λZ=>(asInt .i64 K[4]?).bind λn7=>(evF EnD n 152 (k8 d r e h J A8 C4 A7 [iI j,iI B4])).bind λM=> (asLst 1 M[0]?).bind λv9=>(asBool M[1]?).bind λc10=>(asLst 1 M[2]?).bind λv11=>(asBool M[3]?).bind λc12=>(asBool M[4]?).bind λc13=>(evF EnD n 152 (k8 d r e h J A8 C4 A7 [iI j,iI g])).bind λN=> (asLst 1 N[0]?).bind λv15=>(asBool N[1]?).bind λc16=>(asLst 1 N[2]?).bind λv17=>(asBool N[3]?).bind λc18=>(asBool N[4]?).bind λc19=>(evF EnD n 112 (iL v15::kQ c16 v17 c18 v9 [.bool c10,iL v11,.bool c12])).bind λO=> (asLst 1 O[0]?).bind λv21=>(asBool O[1]?).bind λc22=>(asLst 1 O[2]?).bind λv23=>(asBool O[3]?).bind λc24=>(evF EnD n 154 (iL W::kQ X Y Z v21 [.bool c22,iL v23,.bool c24])).bind λP=> (asLst 1 P[0]?).bind λQ=>(asBool P[1]?).bind λR=>(asLst 1 P[2]?).bind λS=>(asBool P[3]?).bind λT=>
(cond c13 (cond c19 (some (iI s::k8 d r e h J A8 C4 A7 [iI B4,iI g,iI A,iL Q,.bool R,iL S,.bool T,.bool (n7==0)])) (some (iI s::k8 d r e h J A8 C4 A7 [iI B4,iI g,iI A,iL Q,.bool R,iL S,.bool T,.bool false]))) (some (iI s::k8 d r e h J A8 C4 A7 [iI B4,iI g,iI A,iL Q,.bool R,iL S,.bool T,.bool false]))))):=by kernel_rfl
end Rf
