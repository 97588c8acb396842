/- Merged: Rnd EnvD EqSet EqLaw20. -/
import Derived.Test.YtcpnpoagpnkblaaGreatDoorSMS
import Derived.Test.YtcpnpoagpnkblaaGreatDoorSMW
import Derived.Test.YtcpnpoagpnkblaaGreatDoorSMY
import Derived.Test.YtcpnpoagpnkblaaGreatDoorSMG
import Derived.Lib.SlicesCompact
import Derived.KernelRfl
set_option linter.unusedVariables false
set_option linter.unusedSimpArgs false
set_option maxHeartbeats 4000000
set_option maxRecDepth 100000
namespace Rf
open Go
def q17(q:Rat):Int:=q.num / (q.den:Int)
def q1z(q:Rat):Int:=q.num%(q.den:Int)
def q1a(q:Rat):Int:=if(q.den:Int)<q1z q+q1z q\/q1z q+q1z q=(q.den:Int)/\q17 q%2≠0 then q17 q+1 else q17 q
theorem qdl{z w:Int}(hw:0<w):z / w=(if z.tmod w<0 then z.tdiv w-1 else z.tdiv w)/\z%w=(if z.tmod w<0 then z.tmod w+w else z.tmod w):=by
 have h1:=Int.mul_tdiv_add_tmod z w;have h2:z.tmod w<w:=Ej z hw;have h3:=Ej (-z) hw;rw[EV]at h3;by_cases ht:z.tmod w<0
 ·rw[if_pos ht,if_pos ht];exact(FF hw).2 ⟨by rw[Int.mul_sub,Int.mul_one];omega,by omega,by omega⟩
 ·rw[if_neg ht,if_neg ht];exact(FF hw).2 ⟨by omega,by omega,h2⟩
theorem qg4{z w:Int}{k:Nat}(hz:z.natAbs<2^k):(z.tdiv w).natAbs<2^k:=by
 rw[Int.natAbs_tdiv];exact BK (Dp _ _) hz
theorem qg5{z w:Int}{k:Nat}(hz:z.natAbs<2^k):(z.tmod w).natAbs<2^k:=by
 rw[Int.natAbs_tmod];exact BK (Nat.mod_le _ _) hz
theorem qg6{z w:Int}{k:Nat}(h0:0<w)(hz:z.natAbs<2^k):(z / w).natAbs<2^(k+1):=by
 have h:=qg4 (w:=w) hz;rw[(qdl h0).1,Ay];split <;> omega
theorem two_bd{k:Nat}(hk:1<=k):2<=2^k:=AU (n:=2) (by omega) hk
theorem dm_ev{z w:Int}{k:Nat}(hk:k+1<=100000000000)(h0:0<w)(hz:z.natAbs<2^k)(hw:w.natAbs<2^k) :
  Ev En 139 [zl z,zb z,zl w,zb w] [zl (z / w),zb (z / w),zl (z%w),zb (z%w),.int .i64 0]:=by
 obtain⟨e1,e2⟩:=qdl (z:=z) h0;have hq:=qg4 (w:=w) hz;have hr:=qg5 (w:=w) hz;obtain⟨n1,h1⟩:=qdm (by omega) (by omega) hz hw;obtain⟨n2,h2⟩:=zero_ev (s:=decide (z.tmod w<0)) (by omega:k<=100000000000) hr;obtain⟨n3,h3⟩:=qdn (z:=1);obtain⟨n4,h4⟩:=qdo (z:=z.tdiv w) (w:=1) hk hq (by omega);obtain⟨n5,h5⟩:=qaj (z:=z.tmod w) (w:=w) hk hr hw;refine Ev.of (n1+n2+n3+n4+n5) λn hn=>?_;rw[qpq]
 try simp (disch:=omega) only[h1,rr]
 try simp only[show((0:Int)==0)=true from rfl,rr]
 try simp (disch:=omega) only[h2,rr]
 by_cases ht:z.tmod w<0
 ·rw[if_pos ht]at e1 e2;rw[e1,e2,Ad (p:=(z.tmod w).natAbs=0) (by omega),AY,Ac,Af ht,Ad,show(!(true==false))=true from rfl,Ac]
  try simp (disch:=omega) only[h3,rr]
  try simp (disch:=omega) only[h4,rr]
  rw[<- show zb (z.tmod w)=.bool true from by unfold zb;rw[Af ht],<- show zb w=.bool false from by unfold zb;rw[Ad]]
  try simp (disch:=omega) only[h5,rr]
 ·rw[if_neg ht]at e1 e2;rw[e1,e2,Ad ht,Ad (p:=w<0) (by omega),show(!(false==false))=false from rfl,Ab];cases decide ((z.tmod w).natAbs=0) <;> (unfold zb;rw[Ad ht];rfl)
theorem den_pos(q:Rat):0<(q.den:Int):=by have:=q.den_pos;omega
theorem rest_bd(q:Rat):0<=q1z q/\q1z q<(q.den:Int):=⟨Int.emod_nonneg _ (by have:=den_pos q;omega),Int.emod_lt_of_pos _ (den_pos q)⟩
theorem odd_t(z:Int):(z.tmod 2).sign≠0↔z%2≠0:=by
 have h:=(qdl (z:=z) (w:=2) (by omega)).2;have h2:=Ej z (b:=2) (by omega);have h3:=Ej (-z) (b:=2) (by omega);rw[EV]at h3;rw[h,Ne,FG];split <;> omega
theorem cmpZi_gt{z w:Int}:decide (q26 z w>0)=decide (w<z):=by
 rw[BZ];unfold q26;split <;> (try split) <;> omega
theorem cmpZi_eq{z w:Int}:(q26 z w==0)=decide (z=w):=by
 rw[Bm,Bv,As];unfold q26;split <;> (try split) <;> omega
theorem round_ev{q:Rat}{k d:Nat}(hk:k+2<=100000000000)(hk1:1<=k)(h:Bd k q)(hd:dn d=q.den):Ev En 83 [zl (q).num,zb (q).num,nL (d),.bool false] [zl (q1a q),zb (q1a q)]:=by
 obtain⟨r0,r1⟩:=rest_bd q;have two:=two_bd hk1;have hden:q.den<2^k:=h.2;obtain⟨n1,h1⟩:=q5i (l:=(dg 4294967296 q.num.natAbs).map d32) (b:=decide (q.num<0)) (by omega:k<=100000000000) (q5j h hd);rw[hd]at h1;obtain⟨n2,h2⟩:=dm_ev (z:=q.num) (w:=(q.den:Int)) (by omega:k+1<=100000000000) (den_pos q) h.1 hden;rw[q3w,q20]at h2;obtain⟨n3,h3⟩:=qaj (z:=q1z q) (w:=q1z q) (by omega:k+1<=100000000000) (by omega) (by omega);obtain⟨n4,h4⟩:=qdp (z:=q1z q+q1z q) (w:=(q.den:Int)) (k:=k+1) (by omega) (by rw[Ay];omega) (by rw[Ay];omega);rw[q3w,q20]at h4;have hf:(q17 q).natAbs<2^(k+1):=qg6 (den_pos q) h.1;obtain⟨n5,h5⟩:=qdn (z:=2);obtain⟨n6,h6⟩:=qdm (z:=q17 q) (w:=2) (k:=k+1) (by omega) (by omega) hf (by rw[Ay];omega);obtain⟨n7,h7⟩:=q7o;obtain⟨n8,h8⟩:=qaj (z:=q17 q) (w:=1) (k:=k+1) (by omega) hf (by rw[Ay];omega);rw[show zl (1:Int)=nL 1 from rfl,show zb (1:Int)=.bool false from rfl]at h8;obtain⟨n9,h9⟩:=qdq (z:=(q17 q).tmod 2) (k:=k+1) (by omega) (qg5 hf)
 have up:∀n,n1+n2+n3+n4+n5+n6+n7+n8+n9<=n->(do
   let r26 <- evF En n 146 []
   let v27 <- asLst 1 (r26[0]?)
   let c28 <- asBool (r26[1]?)
   let r29 <- evF En n 141 [zl (q17 q),zb (q17 q),.list 1 v27,.bool c28]
   let v30 <- asLst 1 (r29[0]?)
   let c31 <- asBool (r29[1]?)
   some [.list 1 v30,.bool c31])=some [zl (q17 q+1),zb (q17 q+1)]:=by
  intro n hn;show(evF En n 146 []).bind _=_
  try simp (disch:=omega) only[h7,rr]
  show(evF En n 141 [zl (q17 q),zb (q17 q),nL 1,.bool false]).bind _=_
  try simp (disch:=omega) only[h8,rr]
  rfl
 refine Ev.of (n1+n2+n3+n4+n5+n6+n7+n8+n9) λn hn=>?_;rw[qpr]
 try simp (disch:=omega) only[h1,rr]
 try simp (disch:=omega) only[h2,rr]
 try simp only[show evF En n 141 [zl (q.num%(q.den:Int)),zb (q.num%(q.den:Int)),zl (q.num%(q.den:Int)),zb (q.num%(q.den:Int))]=some _ from h3 n (by omega),rr]
 try simp (disch:=omega) only[h4,rr]
 try simp (disch:=omega) only[h5,rr]
 try simp only[show evF En n 143 [zl (q.num / (q.den:Int)),zb (q.num / (q.den:Int)),zl (2:Int),zb (2:Int)]=some _ from h6 n (by omega),rr]
 rw[cmpZi_gt];unfold q1a;by_cases c1:(q.den:Int)<q1z q+q1z q
 ·rw[Af c1,Ac,if_pos (.inl c1)];exact up n hn
 ·rw[Ad c1,Ab,cmpZi_eq];by_cases c2:q1z q+q1z q=(q.den:Int)
  ·rw[Af c2,Ac]
   try simp (disch:=omega) only[h9,rr]
   by_cases c3:q17 q%2=0
   ·have c4:((q17 q).tmod 2).sign=0:=DK λh=>(odd_t _).1 h c3;rw[c4,show((0:Int) !=0)=false from rfl,Ab,if_neg (by omega)];rfl
   ·have c4:((q17 q).tmod 2).sign≠0:=(odd_t _).2 c3;rw[show(((q17 q).tmod 2).sign !=0)=true from by simpa using c4,Ac,if_pos (.inr ⟨c2,c3⟩)];exact up n hn
  ·rw[Ad c2,Ab,if_neg (by omega)];rfl
theorem wdm_ev{z w:Int}{k:Nat}(hk:k<=100000000000)(h0:0<w)(hz:z.natAbs<2^k)(hw:w.natAbs<2^k) :
  Ev En 93 [zb z,wl z,zb w,wl w] [zb (z / w),wl (z / w),zb (z%w),wl (z%w),.int .i64 0]:=by
 obtain⟨e1,e2⟩:=qdl (z:=z) h0;have hq:=qg4 (w:=w) hz;have hr:=qg5 (w:=w) hz;obtain⟨n1,h1⟩:=wqr_ev hk (by omega) hz hw;obtain⟨n3,h3⟩:=qdr (z:=1);obtain⟨n4,h4⟩:=wsub_z (z:=z.tdiv w) (w:=1) hk hq (by omega);obtain⟨n5,h5⟩:=qds (z:=z.tmod w) (w:=w) hk hr hw;have sw:w.sign=1:=Co h0;refine Ev.of (n1+n3+n4+n5+1) λn hn=>?_;obtain⟨n,rfl⟩:=qSx n;have g1:=q8m (n:=n) (z:=z.tmod w);have g2:=q8m (n:=n) (z:=w);rw[qps]
 try simp (disch:=omega) only[h1,rr]
 try simp only[show((0:Int)==0)=true from rfl,rr]
 try simp (disch:=omega) only[g1,rr]
 by_cases ht:z.tmod w<0
 ·rw[if_pos ht]at e1 e2;rw[e1,e2,CN ht,show((-1:Int) !=0)=true from rfl,Ac];rw[CN ht]at g1;rw[sw]at g2
  try simp (disch:=omega) only[g1,rr]
  try simp (disch:=omega) only[g2,rr]
  try simp only[show((-1:Int) !=1)=true from rfl,rr]
  try simp (disch:=omega) only[h3,rr]
  try simp (disch:=omega) only[h4,rr]
  try simp (disch:=omega) only[h5,rr]
 ·rw[if_neg ht]at e1 e2;rw[e1,e2];by_cases tz:z.tmod w=0
  ·rw[tz,show(0:Int).sign=0 from rfl,show((0:Int) !=0)=false from rfl,Ab]
  ·have sp:(z.tmod w).sign=1:=Co (by omega);rw[sp,show((1:Int) !=0)=true from rfl,Ac];rw[sp]at g1;rw[sw]at g2
   try simp (disch:=omega) only[g1,rr]
   try simp (disch:=omega) only[g2,rr]
   try simp only[show((1:Int) !=1)=false from rfl,rr]
theorem wfloor_ev{q:Rat}{k d:Nat}(hk:k<=100000000000)(h:Bd k q)(hd:dn d=q.den):Ev En 91 [zb (q).num,wl (q).num,.bool false,wL (d)] [zb (q17 q),wl (q17 q)]:=by
 obtain⟨n1,h1⟩:=q6n (l:=(dg 1000000000 q.num.natAbs).map d64) (b:=decide (q.num<0)) (d:=d);rw[hd]at h1;obtain⟨n2,h2⟩:=wdm_ev (z:=q.num) (w:=(q.den:Int)) hk (den_pos q) h.1 h.2;rw[q45,q20]at h2;refine Ev.of (n1+n2) λn hn=>?_;rw[qpt]
 try simp (disch:=omega) only[h1,rr]
 try simp (disch:=omega) only[h2,rr]
 rfl
theorem qg3(q:Rat):(q-(q17 q:Rat))*((q.den:Int):Rat)=(q1z q:Rat):=by
 have e:(q.num:Rat)=((q.den:Int):Rat)*(q17 q:Rat)+(q1z q:Rat):=by
  rw[<- EU,<- BA];unfold q17 q1z;rw[Int.mul_ediv_add_emod]
 have p:((0:Int):Rat)<((q.den:Int):Rat):=CY.2 (den_pos q);have e2:q*((q.den:Int):Rat)=(q.num:Rat):=by
  have e3:(q.num:Rat) / ((q.den:Int):Rat)=q:=by rw[<- Rat.divInt_eq_div,Cr]
  have ne:((q.den:Int):Rat)≠0:=λh=>by rw[h]at p;exact absurd p (by decide)
  calc q*((q.den:Int):Rat)=(q.num:Rat) / ((q.den:Int):Rat)*((q.den:Int):Rat):=by rw[e3]
   _=(q.num:Rat):=Rat.div_mul_cancel ne
 grind
theorem half_gt(q:Rat):((1:Int):Rat)<(q-(q17 q:Rat))*((2:Int):Rat)↔(q.den:Int)<q1z q+q1z q:=by
 have p:((0:Int):Rat)<((q.den:Int):Rat):=CY.2 (den_pos q);have e:=qg3 q;rw[<- Ei (c:=((q.den:Int):Rat)) p,<- CY,BA,<- e,show((1:Int):Rat)=1 from rfl,show((2:Int):Rat)=2 from rfl];constructor <;> intro h <;> grind
theorem half_lt(q:Rat):(q-(q17 q:Rat))*((2:Int):Rat)<((1:Int):Rat)↔q1z q+q1z q<(q.den:Int):=by
 have p:((0:Int):Rat)<((q.den:Int):Rat):=CY.2 (den_pos q);have e:=qg3 q;rw[<- Ei (c:=((q.den:Int):Rat)) p,<- CY,BA,<- e,show((1:Int):Rat)=1 from rfl,show((2:Int):Rat)=2 from rfl];constructor <;> intro h <;> grind
theorem wround_ev{q:Rat}{k d:Nat}(hk:16*k+100<=100000000000)(hk1:1<=k)(h:Bd k q)(hd:dn d=q.den):Ev En 24 [zb (q).num,wl (q).num,.bool false,wL (d)] [zb (q1a q),wl (q1a q)]:=by
 have two:=two_bd hk1;have hf:(q17 q).natAbs<2^(k+1):=qg6 (den_pos q) h.1;have bf:Bd (k+1) (q17 q:Rat):=Bd.int (k:=k+1) hf (by omega);have b2:Bd (k+1) ((2:Int):Rat):=Bd.int (k:=k+1) (by rw[Ay];omega) (by omega);have b1:Bd (k+1) ((1:Int):Rat):=Bd.int (k:=k+1) (by rw[Ay];omega) (by omega);have bq:Bd (k+1) q:=h.mono;have bx:=bq.sub bf;have by2:=bx.mul b2;obtain⟨n1,h1⟩:=wfloor_ev (by omega:k<=100000000000) h hd;obtain⟨n2,h2⟩:=qdt;obtain⟨n3,h3⟩:=qft (k:=k+1) (d:=d) (e:=1) (by omega) bq bf hd rfl;rw[show zb ((q17 q:Rat)).num=zb (q17 q) from rfl,show wl ((q17 q:Rat)).num=wl (q17 q) from rfl]at h3;obtain⟨n4,h4⟩:=qah (z:=2);obtain⟨n5,h5⟩:=qd8 (k:=k+1+(k+1)+1) (by omega) bx (b2.mono) (qb _) (qb _);obtain⟨n6,h6⟩:=qah (z:=1);obtain⟨n7,h7⟩:=qjo (k:=k+1+(k+1)+1+(k+1)) (by omega) by2 (b1.mono) (qb _) (qb _);obtain⟨n8,h8⟩:=qdr (z:=2);obtain⟨n9,h9⟩:=wdm_ev (z:=q17 q) (w:=2) (k:=k+1) (by omega) (by omega) hf (by rw[Ay];omega);obtain⟨m1,g1⟩:=qds (z:=q17 q) (w:=1) (k:=k+1) (by omega) hf (by rw[Ay];omega);rw[show zb (1:Int)=.bool false from rfl,show wl (1:Int)=wL 1 from rfl]at g1;have c:=q5g (q:=(q-(q17 q:Rat))*((2:Int):Rat)) (r:=((1:Int):Rat));have c':=q4k (q:=(q-(q17 q:Rat))*((2:Int):Rat)) (r:=((1:Int):Rat));unfold cmpQ at c c';rw[BZ,half_gt]at c;rw[BZ,half_lt]at c';refine Ev.of (n1+n2+n3+n4+n5+n6+n7+n8+n9+m1+1) λn hn=>?_;obtain⟨n,rfl⟩:=qSx n;have g2:=q8m (n:=n) (z:=q17 q%2);rw[qpu]
 try simp (disch:=omega) only[h1,rr]
 try simp (disch:=omega) only[h2,rr]
 try simp (disch:=omega) only[h3,rr]
 try simp (disch:=omega) only[h4,rr]
 try simp (disch:=omega) only[h5,rr]
 try simp (disch:=omega) only[h6,rr]
 try simp (disch:=omega) only[h7,rr]
 try simp (disch:=omega) only[h8,rr]
 try simp (disch:=omega) only[h9,rr]
 revert h7 c c';generalize q26 ((((q-(q17 q:Rat))*((2:Int):Rat)).num)*(((1:Int):Rat).den:Int)) ((((1:Int):Rat).num)*(((q-(q17 q:Rat))*((2:Int):Rat)).den:Int))=C;intro h7 c c';unfold q1a;by_cases c1:(q.den:Int)<q1z q+q1z q
 ·rw[Af (c.2 c1),Ac,if_pos (.inl c1)]
  try simp (disch:=omega) only[h2,rr]
  try simp (disch:=omega) only[g1,rr]
 ·rw[Ad (λx=>c1 (c.1 x)),Ab];by_cases c2:q1z q+q1z q=(q.den:Int)
  ·have c0:C=0:=by
    have d1:¬ C>0:=λx=>c1 (c.1 x);have d2:¬ C<0:=λx=>by have:=c'.1 x;omega
    omega
   rw[c0,show((0:Int)==0)=true from rfl,Ac]
   try simp (disch:=omega) only[g2,rr]
   by_cases c3:q17 q%2=0
   ·rw[c3,show(0:Int).sign=0 from rfl,show((0:Int) !=0)=false from rfl,Ab,if_neg (by omega)]
   ·have c4:q17 q%2=1:=by omega
    rw[c4,show(1:Int).sign=1 from rfl,show((1:Int) !=0)=true from rfl,Ac,if_pos (.inr ⟨c2,by omega⟩)]
    try simp (disch:=omega) only[h2,rr]
    try simp (disch:=omega) only[g1,rr]
  ·have c0:C≠0:=λx=>by
    have d1:¬ q1z q+q1z q<(q.den:Int):=λy=>by have:=c'.2 y;omega
    omega
   rw[show(C==0)=false from by simpa using c0,Ab,if_neg (by omega)]
end Rf
section
namespace Rf
open Go
def q5y(r:Nat):Bool:=(decide (97<=r)&&decide (r<=122))||(decide (945<=r)&&decide (r<=969))
def nameF(s:ByteArray):Nat->Nat->Nat->Bool
 |0,_,n=>decide (1<=n)&&decide (n<=8)
 |b+1,pos,n=>if pos<s.size then(if q5y (Utf8.decode s pos).1 then nameF s b (pos+(Utf8.decode s pos).2) (n+1)else false)else decide (1<=n)&&decide (n<=8)
def q2z(s:ByteArray):Bool:=nameF s s.size 0 0
def nameExt:List FV->Option (List FV)
 |[.str s]=>if s.size<=1099511627776 then some [.bool (q2z s)]else none
 |_=>none
def itoaExt:List FV->Option (List FV)
 |[.int .i64 z]=>if 0<=z/\z<100 then some [.str (txt (qk z.toNat))]else none
 |_=>none
def sortL(l:List (List UInt8)):List (List UInt8):=l.mergeSort λx y=>decide (x<=y)
def sortExt:List FV->Option (List FV)
 |[.list 1 xs]=>if xs.all q6m=true/\xs.length<=1099511627776 then some [.list 1 ((sortL (xs.map byts)).map sF)]else none
 |_=>none
def qc8:List FV->Option (List FV)
 |[.list 1 xs]=>if xs.all q6m=true/\xs.length<=1099511627776 then some [.list 1 ((Lib.compact (xs.map byts)).map sF)]else none
 |_=>none
def enT(x:List UInt8×List UInt8):FV:=.agg [sF x.1,sF x.2]
open Classical in
noncomputable def sameExt:List FV->Option (List FV)
 |[.list 2 xs,.list 2 ys]=>if ∃l:List (List UInt8×List UInt8),xs=l.map enT/\ys=l.map enT/\l.length<=1000000000 then some [.bool true]else none
 |_=>none
def rndF:List Nat:=[83,84,85,24,25,43,79,26]
noncomputable def extD:XT:=(36,sameExt)::(86,qc8)::(81,sortExt)::(90,itoaExt)::(87,nameExt)::(97,nameExt)::(lims EnB [15,17]++(lims En rndF++extN))
noncomputable def EnD:Env:=⟨Go.Proofs.Tryz.prog,fcT,tyT,fnT,λf=>lookN f extD⟩
theorem envOkD:q15 EnD:=⟨λ_ _ h=>qda qdb h,λ_ _ h=>At.1 qdc _ (q9e h),λ_ _ h=>qdd qde h,Checked.mixed Go.Proofs.Tryz.checked⟩
end Rf
end
namespace Rf
open Go
noncomputable section
section
variable (n m:Nat)
variable (F0 E6 D7 E7 C3 E9 y C0 t C9 G I D2 B4 D0 A4 B6 D3 D5 E3 E2:Bool)
variable (c a b d r e h x u p A1 j i v A5 A9 q l B9 C8 B0 E0 E1:List FV)
variable (B7:Nat)
variable (C7 C4 E k F H A8 z A D4 C6 C2 B3 D8 D9:ByteArray)
variable (o D s f J E8 F1 w A2 C A7 B1 g B A3 B2 A6 B8 A0 B5 E4 C5 C1 D1 E5 D6:Int)
def q1s.l5(n:Nat):=Lp EnD n 23 [1,1,1,0,1,0]
def q1s.l10(n:Nat):=Lp EnD n 23 [1,1,1,1,0,1,0]
def q1s.l19(n:Nat):=Lp EnD n 23 [1,1,1,1,1,1,1,1,1,0,1,0]
def q1s.l27(n:Nat):=Lp EnD n 23 [1,1,1,1,1,1,1,1,1,1,0,1,0]
theorem q1s.q1r:q1s.l5 n [] (m+1) (k5 o D b f J (k8 e h x u z A I g [.list 7 v,.list 8 A5,iL A9,.list 7 q,iI B8,iI A0])) =
(cond (A0<B8) ((ix A0 q.length).bind λK=> (asStr (at' q K 0)).bind λM=> (asInt .i64 (at' q K 1)).bind λN=> (asInt .i64 (at' q K 2)).bind λO=> (asInt .i64 (at' q K 3)).bind λP=> (asBool (at' q K 4)).bind λQ=> (asInt .i64 (at' q K 5)).bind λR=> (asInt .i64 (at' q K 6)).bind λS=>
(cond (Nat.ble (A9.length+(qe 1 (.str { data:=#[] }) [(0,(.str M))]).length) 8796093022208) (q1s.l5 n [] m (k5 o D b f J (k8 e h x u z A I g [.list 7 v,.list 8 A5,iL (A9++(qe 1 (.str { data:=#[] }) [(0,(.str M))])),.list 7 q,iI B8,iI (w6 (A0+1))]))) none)) (q1s.l10 n [] n (k5 o D b f J (k8 e h x u z A I g [.list 7 v,.list 8 A5,iL A9,.list 8 A5,iI (A5.length:Int),iI 0])))):=by kernel_rfl
theorem q1s.q3l:q1s.l10 n [] (m+1) (k5 o D b f J (k8 e h x u z A I g [.list 7 v,.list 8 A5,iL A9,.list 8 q,iI B8,iI A0])) =
(cond (A0<B8) ((ix A0 q.length).bind λK=> (asStr (at' q K 0)).bind λM=> (asInt .i64 (at' q K 1)).bind λR=> (asInt .i64 (at' q K 2)).bind λS=> (asBool (at' q K 3)).bind λT=> (asInt .i64 (at' q K 4)).bind λU=> (asLst 1 (at' q K 5)).bind λV=> (asInt .i64 (at' q K 6)).bind λW=> (asInt .i64 (at' q K 7)).bind λX=>
(cond (Nat.ble (A9.length+(qe 1 (.str { data:=#[] }) [(0,(.str M))]).length) 8796093022208) (q1s.l10 n [] m (k5 o D b f J (k8 e h x u z A I g [.list 7 v,.list 8 A5,iL (A9++(qe 1 (.str { data:=#[] }) [(0,(.str M))])),.list 8 q,iI B8,iI (w6 (A0+1))]))) none)) ((evF EnD n 81 [iL A9]).bind λO=> (asLst 1 O[0]?).bind λP=>(evF EnD n 86 [iL P]).bind λQ=> (asLst 1 Q[0]?).bind λN=>q1s.l19 n [] n (k5 o D b f J (k8 e h x u z A I g [.list 2 [],iL [],.bool false,.list 7 v,.list 8 A5,iL N,iI (N.length:Int),iI 0])))):=by kernel_rfl
theorem q1s.q4r:q1s.l19 n [] (m+1) (k5 o D b f J (k8 e h x u z A I g [.list 2 v,iL A5,.bool A4,.list 7 q,.list 8 l,iL B9,iI B5,iI E4])) =
(cond (E4<B5) ((ix E4 B9.length).bind λO=> (asStr (at' B9 O 0)).bind λM=> (evF EnD n 87 [.str M]).bind λP=> (asBool P[0]?).bind λQ=>
(cond (!Q) (some [.list 2 [],iI 1]) ((evF EnD n 88 (.list 7 q::.list 8 l::k8 e h x u z A I g [.str M])).bind λK=> (asLst 1 K[0]?).bind λR=>(asBool K[1]?).bind λS=>(asLst 1 K[2]?).bind λT=>(asBool K[3]?).bind λU=>(asBool K[4]?).bind λY=>
(cond (((4+M.size):Int)>9223372036854775807) none ((evF EnD n 82 (.str ({ data:=#[119,104,111,45] }++M)::iL R::kQ S T U A5 [.bool A4,.list 2 v])).bind λN=> (asLst 1 N[0]?).bind λV=>(asBool N[1]?).bind λW=>(asLst 2 N[2]?).bind λX=>q1s.l19 n [] m (k5 o D b f J (k8 e h x u z A I g [.list 2 X,iL V,.bool W,.list 7 q,.list 8 l,iL B9,iI B5,iI (w6 (E4+1))]))))))) (q1s.l27 n [] n (k8 e h x u z A I g [.list 2 v,iL A5,.bool A4,.list 3 b,iI (b.length:Int),iI 0]))):=by kernel_rfl
theorem q1s.l27_eq:q1s.l27 n [] (m+1) (k8 c a b d E k y w [.list 2 u,iL p,.bool G,.list 3 j,iI g,iI B]) =
(cond (B<g) ((ix B j.length).bind λM=> (asInt .i64 (at' j M 0)).bind λQ=> (asInt .i64 (at' j M 1)).bind λR=> (asInt .i64 (at' j M 2)).bind λS=> (evF EnD n 89 (iI Q::iI R::iI S::k8 c a b d E k y w [iI B])).bind λK=> (asLst 1 K[0]?).bind λT=>(asBool K[1]?).bind λU=>(asLst 1 K[2]?).bind λV=>(asBool K[3]?).bind λW=>(asBool K[4]?).bind λc9=>(evF EnD n 90 [iI B]).bind λX=> (asStr X[0]?).bind λO=>
(cond (((5+O.size):Int)>9223372036854775807) none ((evF EnD n 82 (.str ({ data:=#[108,105,110,101,45] }++O)::iL T::kQ U V W p [.bool G,.list 2 u])).bind λN=> (asLst 1 N[0]?).bind λY=>(asBool N[1]?).bind λZ=>(asLst 2 N[2]?).bind λv15=>q1s.l27 n [] m (k8 c a b d E k y w [.list 2 v15,iL Y,.bool Z,.list 3 j,iI g,iI (w6 (B+1))])))) ((evF EnD n 85 [iL p,.bool G]).bind λr16=> (asStr r16[0]?).bind λP=>
(cond (Nat.ble (u.length+(qe 1 (.agg [.str { data:=#[] },.str { data:=#[] }]) [(0,(.agg [.str { data:=#[114,111,117,110,100] },.str P]))]).length) 4398046511104) (some [.list 2 (u++(qe 1 (.agg [.str { data:=#[] },.str { data:=#[] }]) [(0,(.agg [.str { data:=#[114,111,117,110,100] },.str P]))])),iI 0]) none))):=by kernel_rfl
theorem qsl:evF EnD (n+1) 23 (k15 o D b f J e h x u p A1 D4 C6 B4 A3 [])=(evF EnD n 15 (k15 o D b f J e h x u p A1 D4 C6 B4 A3 [])).bind λK=> (asInt .i64 (K[0]?)).bind λM=>
(cond (M !=0) (some [.list 2 [],iI 1]) (q1s.l5 n [] n (k5 o D b f J (k8 x u p A1 D4 C6 B4 A3 [.list 7 e,.list 8 h,iL [],.list 7 e,iI (e.length:Int),iI 0])))):=by kernel_rfl
def q47.l7(n:Nat):=Lp EnD n 27 [1,1,1,1,1,0,1,0]
def q47.l18(n:Nat):=Lp EnD n 27 [1,1,1,1,1,1,0,1,0]
theorem q47.q2w:q47.l7 n [] (m+1) (k5 o D b f J (k8 e h x u z A I g (kQ B4 A5 A4 q [.list 7 l,.list 8 B9,iL C8,.list 2 B0,iI C5]))) =
(cond (C5<(C8.length:Int)) ((ix C5 C8.length).bind λW=> (asStr (at' C8 W 0)).bind λX=> (evF EnD n 97 [.str X]).bind λY=> (asBool Y[0]?).bind λZ=>
(cond (!Z) (some [.list 2 [],iI 1]) ((ix C5 C8.length).bind λi4=> (asStr (at' C8 i4 0)).bind λu5=> (evF EnD n 33 (.list 7 l::.list 8 B9::k8 e h x u z A I g [.str u5])).bind λQ=> (asStr Q[0]?).bind λu7=>(asInt .i64 Q[1]?).bind λn8=>(evF EnD n 22 [.str u7]).bind λK=> (asBool K[0]?).bind λc10=>(asLst 1 K[1]?).bind λv11=>(asBool K[2]?).bind λc12=>(asLst 1 K[3]?).bind λv13=>(asInt .i64 K[4]?).bind λn14=>(evF EnD n 24 (kQ c10 v11 c12 v13 [])).bind λR=> (asBool R[0]?).bind λS=>(asLst 1 R[1]?).bind λT=>(evF EnD n 12 [iI 1]).bind λN=> (asBool N[0]?).bind λc19=>(asLst 1 N[1]?).bind λv20=>(asBool N[2]?).bind λc21=>(asLst 1 N[3]?).bind λv22=>(evF EnD n 43 (kQ c19 v20 c21 v22 [])).bind λU=> (asBool U[0]?).bind λc24=>(asLst 1 U[1]?).bind λv25=>(evF EnD n 79 (kQ S T c24 v25 [])).bind λM=> (asBool M[0]?).bind λc27=>(asLst 1 M[1]?).bind λv28=>(asBool M[2]?).bind λc29=>(asLst 1 M[3]?).bind λv30=>(asInt .i64 M[4]?).bind λn31=>(evF EnD n 37 (kQ B4 A5 A4 q (kQ c27 v28 c29 v30 []))).bind λO=> (asBool O[0]?).bind λc33=>(asLst 1 O[1]?).bind λv34=>(asBool O[2]?).bind λc35=>(asLst 1 O[3]?).bind λv36=>(ix C5 C8.length).bind λi37=> (asStr (at' C8 i37 0)).bind λP=>
(cond (((4+P.size):Int)>9223372036854775807) none ((evF EnD n 25 [.bool S,iL T]).bind λr39=> (asStr r39[0]?).bind λV=>
(cond (Nat.ble (B0.length+(qe 1 (.agg [.str { data:=#[] },.str { data:=#[] }]) [(0,(.agg [.str ({ data:=#[119,104,111,45] }++P),.str V]))]).length) 4398046511104) (q47.l7 n [] m (k5 o D b f J (k8 e h x u z A I g (kQ c33 v34 c35 v36 [.list 7 l,.list 8 B9,iL C8,.list 2 (B0++(qe 1 (.agg [.str { data:=#[] },.str { data:=#[] }]) [(0,(.agg [.str ({ data:=#[119,104,111,45] }++P),.str V]))])),iI (w6 (C5+1))])))) none)))))) (q47.l18 n [] n (k5 o D b f J (k8 e h x u z A I g (kQ B4 A5 A4 q [.list 2 B0,iI 0]))))):=by kernel_rfl
theorem q47.q55:q47.l18 n [] (m+1) (k5 o D b f J (k8 e h x u z A I g (kQ B4 A5 A4 q [.list 2 l,iI A0]))) =
(cond (A0<(b.length:Int)) ((evF EnD n 35 (k5 o D b f J (k8 e h x u z A I g [iI A0]))).bind λS=> (asStr S[0]?).bind λZ=>(asInt .i64 S[1]?).bind λn2=>(evF EnD n 22 [.str Z]).bind λK=> (asBool K[0]?).bind λc4=>(asLst 1 K[1]?).bind λv5=>(asBool K[2]?).bind λc6=>(asLst 1 K[3]?).bind λv7=>(asInt .i64 K[4]?).bind λn8=>(evF EnD n 24 (kQ c4 v5 c6 v7 [])).bind λT=> (asBool T[0]?).bind λU=>(asLst 1 T[1]?).bind λV=>(evF EnD n 12 [iI 1]).bind λN=> (asBool N[0]?).bind λc13=>(asLst 1 N[1]?).bind λv14=>(asBool N[2]?).bind λc15=>(asLst 1 N[3]?).bind λv16=>(evF EnD n 43 (kQ c13 v14 c15 v16 [])).bind λW=> (asBool W[0]?).bind λc18=>(asLst 1 W[1]?).bind λv19=>(evF EnD n 79 (kQ U V c18 v19 [])).bind λM=> (asBool M[0]?).bind λc21=>(asLst 1 M[1]?).bind λv22=>(asBool M[2]?).bind λc23=>(asLst 1 M[3]?).bind λv24=>(asInt .i64 M[4]?).bind λn25=>(evF EnD n 37 (kQ B4 A5 A4 q (kQ c21 v22 c23 v24 []))).bind λO=> (asBool O[0]?).bind λc27=>(asLst 1 O[1]?).bind λv28=>(asBool O[2]?).bind λc29=>(asLst 1 O[3]?).bind λv30=>(bd (w6 (A0+1)) 10).bind λP=> (bd A0 P).bind λR=>
(cond (((5+(({ data:=#[48,49,50,51,52,53,54,55,56,57] }:ByteArray).extract R P).size):Int)>9223372036854775807) none ((evF EnD n 25 [.bool U,iL V]).bind λr33=> (asStr r33[0]?).bind λX=>
(cond (Nat.ble (l.length+(qe 1 (.agg [.str { data:=#[] },.str { data:=#[] }]) [(0,(.agg [.str ({ data:=#[108,105,110,101,45] }++(({ data:=#[48,49,50,51,52,53,54,55,56,57] }:ByteArray).extract R P)),.str X]))]).length) 4398046511104) (q47.l18 n [] m (k5 o D b f J (k8 e h x u z A I g (kQ c27 v28 c29 v30 [.list 2 (l++(qe 1 (.agg [.str { data:=#[] },.str { data:=#[] }]) [(0,(.agg [.str ({ data:=#[108,105,110,101,45] }++(({ data:=#[48,49,50,51,52,53,54,55,56,57] }:ByteArray).extract R P)),.str X]))])),iI (w6 (A0+1))])))) none)))) ((evF EnD n 39 (kQ B4 A5 A4 q [])).bind λQ=> (asBool Q[0]?).bind λc36=>(asLst 1 Q[1]?).bind λv37=>(asBool Q[2]?).bind λc38=>(asLst 1 Q[3]?).bind λv39=>(evF EnD n 14 (kQ c36 v37 c38 v39 [])).bind λr40=> (asStr r40[0]?).bind λY=>
(cond (Nat.ble (l.length+(qe 1 (.agg [.str { data:=#[] },.str { data:=#[] }]) [(0,(.agg [.str { data:=#[114,111,117,110,100] },.str Y]))]).length) 4398046511104) (some [.list 2 (l++(qe 1 (.agg [.str { data:=#[] },.str { data:=#[] }]) [(0,(.agg [.str { data:=#[114,111,117,110,100] },.str Y]))])),iI 0]) none))):=by kernel_rfl
theorem qsm:evF EnD (n+1) 27 (k15 o D b f J e h x u p A1 D4 C6 B4 A3 [])=(evF EnD n 17 (k15 o D b f J e h x u p A1 D4 C6 B4 A3 [])).bind λM=> (asInt .i64 (M[0]?)).bind λN=>
(cond (N !=0) (some [.list 2 [],iI 1]) ((evF EnD n 28 [.list 7 e,.list 8 h]).bind λO=> (asLst 1 O[0]?).bind λP=>(evF EnD n 12 [iI 0]).bind λK=> (asBool K[0]?).bind λQ=>(asLst 1 K[1]?).bind λR=>(asBool K[2]?).bind λS=>(asLst 1 K[3]?).bind λT=>q47.l7 n [] n (k5 o D b f J (k8 x u p A1 D4 C6 B4 A3 (kQ Q R S T [.list 7 e,.list 8 h,iL P,.list 2 (qe 0 (.agg [.str { data:=#[] },.str { data:=#[] }]) []),iI 0]))))):=by kernel_rfl
def q1p.l3(n:Nat):=Lp EnD n 28 [1,1,0,1,0]
def q1p.l7(n:Nat):=Lp EnD n 28 [1,1,1,0,1,0]
def q1p.l12(n:Nat):=Lp EnD n 28 [1,1,1,1,1,0,1,0]
def q1p.l15(n:Nat):=Lp EnD n 28 [1,1,1,1,1,0,1,0,0,1,0,0,1,0,0]
theorem q1p.qm:q1p.l3 n [] (m+1) [.list 7 c,.list 8 a,iL b,iI f] =
(cond (f<(c.length:Int)) ((ix f c.length).bind λM=> (asStr (at' c M 0)).bind λK=>
(cond (Nat.ble (b.length+(qe 1 (.str { data:=#[] }) [(0,(.str K))]).length) 8796093022208) (q1p.l3 n [] m [.list 7 c,.list 8 a,iL (b++(qe 1 (.str { data:=#[] }) [(0,(.str K))])),iI (w6 (f+1))]) none)) (q1p.l7 n [] n [.list 8 a,iL b,iI 0])):=by kernel_rfl
theorem q1p.q2w:q1p.l7 n [] (m+1) [.list 8 c,iL a,iI s] =
(cond (s<(c.length:Int)) ((ix s c.length).bind λM=> (asStr (at' c M 0)).bind λK=>
(cond (Nat.ble (a.length+(qe 1 (.str { data:=#[] }) [(0,(.str K))]).length) 8796093022208) (q1p.l7 n [] m [.list 8 c,iL (a++(qe 1 (.str { data:=#[] }) [(0,(.str K))])),iI (w6 (s+1))]) none)) (q1p.l12 n [] n [iL a,iL (qe 0 (.str { data:=#[] }) []),iI 0])):=by kernel_rfl
theorem q1p.q42:q1p.l12 n [] (m+1) [iL c,iL a,iI s] =
(cond (s<(c.length:Int)) (q1p.l15 n [m] n [iL c,iL a,iI s,iI 0]) (some [iL a])):=by kernel_rfl
theorem q1p.qc7:q1p.l15 n [B7] (m+1) [iL c,iL a,iI s,iI f] =
(cond (f<(a.length:Int)) ((ix f a.length).bind λX=> (asStr (at' a X 0)).bind λY=> (ix s c.length).bind λZ=> (asStr (at' c Z 0)).bind λu3=>
(cond (Go.Op.bytesLess Y.toList u3.toList) (q1p.l15 n [B7] m [iL c,iL a,iI s,iI (w6 (f+1))]) (cond (f<(a.length:Int)) ((ix f a.length).bind λi4=> (asStr (at' a i4 0)).bind λu5=> (ix s c.length).bind λi6=> (asStr (at' c i6 0)).bind λu7=>
(cond (u5.toList==u7.toList) (q1p.l12 n [] B7 [iL c,iL a,iI (w6 (s+1))]) ((bd f a.length).bind λK=>
(cond (Nat.ble ((qe 0 (.str { data:=#[] }) []).length+(List.drop 0 (List.take K a)).length) 8796093022208) ((ix s c.length).bind λi9=> (asStr (at' c i9 0)).bind λP=>
(cond (Nat.ble (((qe 0 (.str { data:=#[] }) [])++(List.drop 0 (List.take K a))).length+(qe 1 (.str { data:=#[] }) [(0,(.str P))]).length) 8796093022208) ((bd f a.length).bind λT=>
(cond (Nat.ble ((((qe 0 (.str { data:=#[] }) [])++(List.drop 0 (List.take K a)))++(qe 1 (.str { data:=#[] }) [(0,(.str P))])).length+(List.drop T (List.take a.length a)).length) 8796093022208) (q1p.l12 n [] B7 [iL c,iL ((((qe 0 (.str { data:=#[] }) [])++(List.drop 0 (List.take K a)))++(qe 1 (.str { data:=#[] }) [(0,(.str P))]))++(List.drop T (List.take a.length a))),iI (w6 (s+1))]) none)) none)) none)))) ((bd f a.length).bind λM=>
(cond (Nat.ble ((qe 0 (.str { data:=#[] }) []).length+(List.drop 0 (List.take M a)).length) 8796093022208) ((ix s c.length).bind λi13=> (asStr (at' c i13 0)).bind λQ=>
(cond (Nat.ble (((qe 0 (.str { data:=#[] }) [])++(List.drop 0 (List.take M a))).length+(qe 1 (.str { data:=#[] }) [(0,(.str Q))]).length) 8796093022208) ((bd f a.length).bind λU=>
(cond (Nat.ble ((((qe 0 (.str { data:=#[] }) [])++(List.drop 0 (List.take M a)))++(qe 1 (.str { data:=#[] }) [(0,(.str Q))])).length+(List.drop U (List.take a.length a)).length) 8796093022208) (q1p.l12 n [] B7 [iL c,iL ((((qe 0 (.str { data:=#[] }) [])++(List.drop 0 (List.take M a)))++(qe 1 (.str { data:=#[] }) [(0,(.str Q))]))++(List.drop U (List.take a.length a))),iI (w6 (s+1))]) none)) none)) none))))) (cond (f<(a.length:Int)) ((ix f a.length).bind λi16=> (asStr (at' a i16 0)).bind λu17=> (ix s c.length).bind λi18=> (asStr (at' c i18 0)).bind λu19=>
(cond (u17.toList==u19.toList) (q1p.l12 n [] B7 [iL c,iL a,iI (w6 (s+1))]) ((bd f a.length).bind λN=>
(cond (Nat.ble ((qe 0 (.str { data:=#[] }) []).length+(List.drop 0 (List.take N a)).length) 8796093022208) ((ix s c.length).bind λi21=> (asStr (at' c i21 0)).bind λR=>
(cond (Nat.ble (((qe 0 (.str { data:=#[] }) [])++(List.drop 0 (List.take N a))).length+(qe 1 (.str { data:=#[] }) [(0,(.str R))]).length) 8796093022208) ((bd f a.length).bind λV=>
(cond (Nat.ble ((((qe 0 (.str { data:=#[] }) [])++(List.drop 0 (List.take N a)))++(qe 1 (.str { data:=#[] }) [(0,(.str R))])).length+(List.drop V (List.take a.length a)).length) 8796093022208) (q1p.l12 n [] B7 [iL c,iL ((((qe 0 (.str { data:=#[] }) [])++(List.drop 0 (List.take N a)))++(qe 1 (.str { data:=#[] }) [(0,(.str R))]))++(List.drop V (List.take a.length a))),iI (w6 (s+1))]) none)) none)) none)))) ((bd f a.length).bind λO=>
(cond (Nat.ble ((qe 0 (.str { data:=#[] }) []).length+(List.drop 0 (List.take O a)).length) 8796093022208) ((ix s c.length).bind λi25=> (asStr (at' c i25 0)).bind λS=>
(cond (Nat.ble (((qe 0 (.str { data:=#[] }) [])++(List.drop 0 (List.take O a))).length+(qe 1 (.str { data:=#[] }) [(0,(.str S))]).length) 8796093022208) ((bd f a.length).bind λW=>
(cond (Nat.ble ((((qe 0 (.str { data:=#[] }) [])++(List.drop 0 (List.take O a)))++(qe 1 (.str { data:=#[] }) [(0,(.str S))])).length+(List.drop W (List.take a.length a)).length) 8796093022208) (q1p.l12 n [] B7 [iL c,iL ((((qe 0 (.str { data:=#[] }) [])++(List.drop 0 (List.take O a)))++(qe 1 (.str { data:=#[] }) [(0,(.str S))]))++(List.drop W (List.take a.length a))),iI (w6 (s+1))]) none)) none)) none)))):=by kernel_rfl
theorem qs6:evF EnD (n+1) 28 [.list 7 c,.list 8 a]=q1p.l3 n [] n [.list 7 c,.list 8 a,iL (qe 0 (.str { data:=#[] }) []),iI 0]:=by kernel_rfl
theorem qsn:evF EnD (n+1) 31 (.list 7 c::.list 8 a::k8 b d r e F H t C [.str A])=(evF EnD n 88 (.list 7 c::.list 8 a::k8 b d r e F H t C [.str A])).bind λK=> (asLst 1 K[0]?).bind λN=>(asBool K[1]?).bind λO=>(asLst 1 K[2]?).bind λP=>(asBool K[3]?).bind λQ=>(asBool K[4]?).bind λR=>(evF EnD n 99 [iL N,.bool O,iL P,.bool Q,.bool R]).bind λM=> (asStr M[0]?).bind λS=>(asInt .i64 M[1]?).bind λT=>some [.str S,iI T]:=by kernel_rfl
def q1c.l3(n:Nat):=Lp EnD n 33 [1,1,0,1,0]
def q1c.l17(n:Nat):=Lp EnD n 33 [1,1,1,0,1,0]
def q1c.l24(n:Nat):=Lp EnD n 33 [1,1,1,0,1,0,0,1,0,0,1,1,1,1,0]
theorem q1c.qm:q1c.l3 n [] (m+1) (k8 c a b d E k y w (kQ t p G j [.list 7 i,.list 8 v,.str B3,iI B2])) =
(cond (B2<(i.length:Int)) ((ix B2 i.length).bind λK=> (asStr (at' i K 0)).bind λu1=> (asInt .i64 (at' i K 1)).bind λn2=> (asInt .i64 (at' i K 2)).bind λn3=> (asInt .i64 (at' i K 3)).bind λn4=> (asBool (at' i K 4)).bind λc5=> (asInt .i64 (at' i K 5)).bind λn6=> (asInt .i64 (at' i K 6)).bind λn7=>
(cond (!(u1.toList==B3.toList)) (q1c.l3 n [] m (k8 c a b d E k y w (kQ t p G j [.list 7 i,.list 8 v,.str B3,iI (w6 (B2+1))]))) (cond (B2≥(a.length:Int)) (some [.str { data:=#[] },iI 120]) ((ix B2 a.length).bind λi8=> (asStr (at' a i8 0)).bind λu9=> (evF EnD n 22 [.str u9]).bind λM=> (asBool M[0]?).bind λT=>(asLst 1 M[1]?).bind λU=>(asBool M[2]?).bind λV=>(asLst 1 M[3]?).bind λW=>(asInt .i64 M[4]?).bind λn15=>(evF EnD n 101 (k8 c a b d E k y w [iI n4,iI n3])).bind λN=> (asBool N[0]?).bind λX=>(asLst 1 N[1]?).bind λY=>(asBool N[2]?).bind λZ=>(asLst 1 N[3]?).bind λv20=>(asBool N[4]?).bind λc21=>
(cond (n15 !=0) (some [.str { data:=#[] },iI 120]) (cond (!c21) (some [.str { data:=#[] },iI 120]) (cond c5 ((evF EnD n 39 (kQ T U V W [])).bind λO=> (asBool O[0]?).bind λc23=>(asLst 1 O[1]?).bind λv24=>(asBool O[2]?).bind λc25=>(asLst 1 O[3]?).bind λv26=>(evF EnD n 13 (kQ c23 v24 c25 v26 (kQ X Y Z v20 []))).bind λP=> (asBool P[0]?).bind λc28=>(asLst 1 P[1]?).bind λv29=>(asBool P[2]?).bind λc30=>(asLst 1 P[3]?).bind λv31=>(evF EnD n 37 (kQ t p G j (kQ c28 v29 c30 v31 []))).bind λQ=> (asBool Q[0]?).bind λc33=>(asLst 1 Q[1]?).bind λv34=>(asBool Q[2]?).bind λc35=>(asLst 1 Q[3]?).bind λv36=>q1c.l3 n [] m (k8 c a b d E k y w (kQ c33 v34 c35 v36 [.list 7 i,.list 8 v,.str B3,iI (w6 (B2+1))]))) ((evF EnD n 13 (kQ T U V W (kQ X Y Z v20 []))).bind λR=> (asBool R[0]?).bind λc38=>(asLst 1 R[1]?).bind λv39=>(asBool R[2]?).bind λc40=>(asLst 1 R[3]?).bind λv41=>(evF EnD n 37 (kQ t p G j (kQ c38 v39 c40 v41 []))).bind λS=> (asBool S[0]?).bind λc43=>(asLst 1 S[1]?).bind λv44=>(asBool S[2]?).bind λc45=>(asLst 1 S[3]?).bind λv46=>q1c.l3 n [] m (k8 c a b d E k y w (kQ c43 v44 c45 v46 [.list 7 i,.list 8 v,.str B3,iI (w6 (B2+1))])))))))))) (q1c.l17 n [] n (k8 c a b d E k y w (kQ t p G j [.list 8 v,.str B3,iI 0])))):=by kernel_rfl
theorem q1c.l17_eq:q1c.l17 n [] (m+1) (k8 c a b d E k y w (kQ t p G j [.list 8 i,.str C2,iI A3])) =
(cond (A3<(i.length:Int)) ((ix A3 i.length).bind λK=> (asStr (at' i K 0)).bind λM=> (asInt .i64 (at' i K 1)).bind λN=> (asInt .i64 (at' i K 2)).bind λO=> (asBool (at' i K 3)).bind λP=> (asInt .i64 (at' i K 4)).bind λQ=> (asLst 1 (at' i K 5)).bind λR=> (asInt .i64 (at' i K 6)).bind λS=> (asInt .i64 (at' i K 7)).bind λT=>
(cond (!(M.toList==C2.toList)) (q1c.l17 n [] m (k8 c a b d E k y w (kQ t p G j [.list 8 i,.str C2,iI (w6 (A3+1))]))) (cond (A3≥(c.length:Int)) (some [.str { data:=#[] },iI 120]) (q1c.l24 n [m] n (k8 c a b d E k y w (kQ t p G j (kB M N O P Q R S T [.list 8 i,.str C2,iI A3,iI 0]))))))) ((evF EnD n 14 (kQ t p G j [])).bind λU=> (asStr U[0]?).bind λV=>some [.str V,iI 0])):=by kernel_rfl
theorem q1c.qeh:q1c.l24 n [B7] (m+1) (k8 c a b d E k y w (kQ t p G j (kB C6 B A3 A4 A6 l A0 B5 [.list 8 B0,.str D9,iI C1,iI D1]))) =
(cond (D1<(l.length:Int)) ((ix C1 c.length).bind λi0=> (asBool (at' c i0 0)).bind λc1=>
(cond c1 ((evF EnD n 101 (k8 c a b d E k y w [iI D1,iI A3])).bind λK=> (asBool K[0]?).bind λS=>(asLst 1 K[1]?).bind λT=>(asBool K[2]?).bind λU=>(asLst 1 K[3]?).bind λV=>(asBool K[4]?).bind λc7=>
(cond (!c7) (some [.str { data:=#[] },iI 120]) ((ix D1 l.length).bind λi8=> (asInt .i64 (at' l i8 0)).bind λn9=> (evF EnD n 12 [iI n9]).bind λM=> (asBool M[0]?).bind λW=>(asLst 1 M[1]?).bind λX=>(asBool M[2]?).bind λY=>(asLst 1 (M[3]?)).bind λZ=>
(cond A4 ((evF EnD n 39 (kQ W X Y Z [])).bind λN=> (asBool N[0]?).bind λc16=>(asLst 1 N[1]?).bind λv17=>(asBool N[2]?).bind λc18=>(asLst 1 N[3]?).bind λv19=>(evF EnD n 13 (kQ c16 v17 c18 v19 (kQ S T U V []))).bind λO=> (asBool O[0]?).bind λc21=>(asLst 1 O[1]?).bind λv22=>(asBool O[2]?).bind λc23=>(asLst 1 O[3]?).bind λv24=>(evF EnD n 37 (kQ t p G j (kQ c21 v22 c23 v24 []))).bind λP=> (asBool P[0]?).bind λc26=>(asLst 1 P[1]?).bind λv27=>(asBool P[2]?).bind λc28=>(asLst 1 P[3]?).bind λv29=>q1c.l24 n [B7] m (k8 c a b d E k y w (kQ c26 v27 c28 v29 (kB C6 B A3 A4 A6 l A0 B5 [.list 8 B0,.str D9,iI C1,iI (w6 (D1+1))])))) ((evF EnD n 13 (kQ W X Y Z (kQ S T U V []))).bind λQ=> (asBool Q[0]?).bind λc31=>(asLst 1 Q[1]?).bind λv32=>(asBool Q[2]?).bind λc33=>(asLst 1 Q[3]?).bind λv34=>(evF EnD n 37 (kQ t p G j (kQ c31 v32 c33 v34 []))).bind λR=> (asBool R[0]?).bind λc36=>(asLst 1 R[1]?).bind λv37=>(asBool R[2]?).bind λc38=>(asLst 1 R[3]?).bind λv39=>q1c.l24 n [B7] m (k8 c a b d E k y w (kQ c36 v37 c38 v39 (kB C6 B A3 A4 A6 l A0 B5 [.list 8 B0,.str D9,iI C1,iI (w6 (D1+1))])))))))) (q1c.l17 n [] B7 (k8 c a b d E k y w (kQ t p G j [.list 8 B0,.str D9,iI (w6 (C1+1))]))))) (q1c.l17 n [] B7 (k8 c a b d E k y w (kQ t p G j [.list 8 B0,.str D9,iI (w6 (C1+1))])))):=by kernel_rfl
theorem qso:evF EnD (n+1) 33 (.list 7 c::.list 8 a::k8 b d r e F H t C [.str A])=(evF EnD n 12 [iI 0]).bind λK=> (asBool K[0]?).bind λM=>(asLst 1 K[1]?).bind λN=>(asBool K[2]?).bind λO=>(asLst 1 K[3]?).bind λP=>q1c.l3 n [] n (k8 b d r e F H t C (kQ M N O P [.list 7 c,.list 8 a,.str A,iI 0])):=by kernel_rfl
theorem qhk:evF EnD (n+1) 34 (k5 o D b f J (k8 e h x u z A I g [iI B])) =
(cond (B<0) (some [.str { data:=#[] },iI 1]) (cond (B≥(b.length:Int)) (some [.str { data:=#[] },iI 1]) ((ix B b.length).bind λM=> (asInt .i64 (at' b M 0)).bind λO=> (asInt .i64 (at' b M 1)).bind λP=> (asInt .i64 (at' b M 2)).bind λQ=> (evF EnD n 89 (iI O::iI P::iI Q::k8 e h x u z A I g [iI B])).bind λK=> (asLst 1 K[0]?).bind λR=>(asBool K[1]?).bind λS=>(asLst 1 K[2]?).bind λT=>(asBool K[3]?).bind λU=>(asBool K[4]?).bind λV=>(evF EnD n 99 [iL R,.bool S,iL T,.bool U,.bool V]).bind λN=> (asStr N[0]?).bind λW=>(asInt .i64 N[1]?).bind λX=>some [.str W,iI X]))):=by kernel_rfl
def q57.l6(n:Nat):=Lp EnD n 35 [1,1,1,1,0,1,0]
theorem q57.q2r:q57.l6 n [] (m+1) (k8 c a b d E k y w (kQ t p G j [iI g,iI B,iI A3,iI B2,iI A6])) =
(cond (A6<(b.length:Int)) ((ix A6 b.length).bind λS=> (asLst 1 (at' b S 0)).bind λT=>
(cond (B2≥(T.length:Int)) (some [.str { data:=#[] },iI 120]) ((ix A6 b.length).bind λU=> (asLst 1 (at' b U 0)).bind λR=> (ix B2 R.length).bind λV=> (asStr (at' R V 0)).bind λW=> (evF EnD n 22 [.str W]).bind λK=> (asBool K[0]?).bind λX=>(asLst 1 K[1]?).bind λY=>(asBool K[2]?).bind λZ=>(asLst 1 K[3]?).bind λv10=>(asInt .i64 K[4]?).bind λn11=>(evF EnD n 101 (k8 c a b d E k y w [iI A6,iI g])).bind λM=> (asBool M[0]?).bind λc13=>(asLst 1 M[1]?).bind λv14=>(asBool M[2]?).bind λc15=>(asLst 1 M[3]?).bind λv16=>(asBool M[4]?).bind λc17=>(evF EnD n 101 (k8 c a b d E k y w [iI A6,iI B])).bind λN=> (asBool N[0]?).bind λc19=>(asLst 1 N[1]?).bind λv20=>(asBool N[2]?).bind λc21=>(asLst 1 N[3]?).bind λv22=>(asBool N[4]?).bind λc23=>
(cond (n11 !=0) (some [.str { data:=#[] },iI 120]) (cond (!c17) (some [.str { data:=#[] },iI 120]) (cond (!c23) (some [.str { data:=#[] },iI 120]) ((evF EnD n 92 (kQ c19 v20 c21 v22 (kQ c13 v14 c15 v16 []))).bind λO=> (asBool O[0]?).bind λc25=>(asLst 1 O[1]?).bind λv26=>(asBool O[2]?).bind λc27=>(asLst 1 O[3]?).bind λv28=>(evF EnD n 13 (kQ X Y Z v10 (kQ c25 v26 c27 v28 []))).bind λP=> (asBool P[0]?).bind λc30=>(asLst 1 P[1]?).bind λv31=>(asBool P[2]?).bind λc32=>(asLst 1 P[3]?).bind λv33=>(evF EnD n 37 (kQ t p G j (kQ c30 v31 c32 v33 []))).bind λQ=> (asBool Q[0]?).bind λc35=>(asLst 1 Q[1]?).bind λv36=>(asBool Q[2]?).bind λc37=>(asLst 1 Q[3]?).bind λv38=>q57.l6 n [] m (k8 c a b d E k y w (kQ c35 v36 c37 v38 [iI g,iI B,iI A3,iI B2,iI (w6 (A6+1))]))))))))) ((evF EnD n 14 (kQ t p G j [])).bind λr39=> (asStr r39[0]?).bind λu40=>some [.str u40,iI 0])):=by kernel_rfl
theorem qhl:evF EnD (n+1) 35 (k5 o D b f J (k8 e h x u z A I g [iI B])) =
(cond (B<0) (some [.str { data:=#[] },iI 1]) (cond (B≥(b.length:Int)) (some [.str { data:=#[] },iI 1]) ((evF EnD n 12 [iI 0]).bind λK=> (asBool K[0]?).bind λN=>(asLst 1 K[1]?).bind λO=>(asBool K[2]?).bind λP=>(asLst 1 K[3]?).bind λQ=>(ix B b.length).bind λM=> (asInt .i64 (at' b M 0)).bind λR=> (asInt .i64 (at' b M 1)).bind λS=> (asInt .i64 (at' b M 2)).bind λT=> q57.l6 n [] n (k8 e h x u z A I g (kQ N O P Q [iI R,iI S,iI T,iI B,iI 0]))))):=by kernel_rfl
theorem qsp:evF EnD (n+1) 82 (.str C7::iL a::kQ D7 d C3 e [.bool y,.list 2 x])=(evF EnD n 83 [iL a,.bool D7,iL d,.bool C3]).bind λK=> (asLst 1 K[0]?).bind λM=>(asBool K[1]?).bind λN=>(evF EnD n 84 [iL e,.bool y,iL M,.bool N]).bind λO=> (asLst 1 O[0]?).bind λQ=>(asBool O[1]?).bind λR=>(evF EnD n 85 [iL M,.bool N]).bind λS=> (asStr S[0]?).bind λP=>
(cond (Nat.ble (x.length+(qe 1 (.agg [.str { data:=#[] },.str { data:=#[] }]) [(0,(.agg [.str C7,.str P]))]).length) 4398046511104) (some [iL Q,.bool R,.list 2 (x++(qe 1 (.agg [.str { data:=#[] },.str { data:=#[] }]) [(0,(.agg [.str C7,.str P]))]))]) none):=by kernel_rfl
theorem qsq:evF EnD (n+1) 88 (.list 7 c::.list 8 a::k8 b d r e F H t C [.str A])=(evF EnD n 150 (.list 7 c::.str A::k8 b d r e F H t C [])).bind λK=> (asStr K[0]?).bind λS=>(asLst 1 K[1]?).bind λT=>(asLst 1 K[2]?).bind λU=>(asLst 1 K[3]?).bind λV=>(asLst 1 K[4]?).bind λW=>(asStr K[5]?).bind λX=>(asStr K[6]?).bind λY=>(asBool K[7]?).bind λZ=>(asInt .i64 K[8]?).bind λn9=>(asLst 1 K[9]?).bind λv10=>(asBool K[10]?).bind λc11=>(asLst 1 K[11]?).bind λv12=>(asBool K[12]?).bind λc13=>(asBool K[13]?).bind λc14=>(evF EnD n 155 (.list 8 a::.str S::k8 T U V W X Y Z n9 [])).bind λM=> (asStr M[0]?).bind λu16=>(asLst 1 M[1]?).bind λv17=>(asLst 1 M[2]?).bind λv18=>(asLst 1 M[3]?).bind λv19=>(asLst 1 M[4]?).bind λv20=>(asStr M[5]?).bind λu21=>(asStr M[6]?).bind λu22=>(asBool M[7]?).bind λc23=>(asInt .i64 M[8]?).bind λn24=>(asLst 1 M[9]?).bind λv25=>(asBool M[10]?).bind λc26=>(asLst 1 M[11]?).bind λv27=>(asBool M[12]?).bind λc28=>(asBool M[13]?).bind λc29=>(evF EnD n 113 (iL v10::kQ c11 v12 c13 v25 [.bool c26,iL v27,.bool c28])).bind λN=> (asLst 1 N[0]?).bind λO=>(asBool N[1]?).bind λP=>(asLst 1 N[2]?).bind λQ=>(asBool N[3]?).bind λR=>
(cond c14 (some [iL O,.bool P,iL Q,.bool R,.bool c29]) (some [iL O,.bool P,iL Q,.bool R,.bool false])):=by kernel_rfl
theorem qsr:evF EnD (n+1) 89 (iI o::iI D::iI s::k8 d r e h H A8 C9 A7 [iI B1])=(evF EnD n 159 (iL e::iI B1::k8 d r e h H A8 C9 A7 [iI o,iI D,iI s])).bind λK=> (asInt .i64 K[0]?).bind λR=>(asLst 1 K[1]?).bind λS=>(asLst 1 K[2]?).bind λT=>(asLst 1 K[3]?).bind λU=>(asLst 1 K[4]?).bind λV=>(asStr K[5]?).bind λW=>(asStr K[6]?).bind λX=>(asBool K[7]?).bind λY=>(asInt .i64 K[8]?).bind λZ=>(asInt .i64 K[9]?).bind λn10=>(asInt .i64 K[10]?).bind λn11=>(asInt .i64 K[11]?).bind λn12=>(asLst 1 K[12]?).bind λM=>(asBool K[13]?).bind λN=>(asLst 1 K[14]?).bind λO=>(asBool K[15]?).bind λP=>(asBool K[16]?).bind λQ=>some [iL M,.bool N,iL O,.bool P,.bool Q]:=by kernel_rfl
theorem qln:evF EnD (n+1) 99 [iL c,.bool E6,iL b,.bool E7,.bool C3] =
(cond (!C3) (some [.str { data:=#[] },iI 120]) ((evF EnD n 167 [iL c,.bool E6,iL b,.bool E7]).bind λK=> (asStr K[0]?).bind λM=>some [.str M,iI 0])):=by kernel_rfl
theorem qcb:evF EnD (n+1) 101 (k8 c a b d E k y w [iI A2,iI C]) =
(cond (A2<0) (some (kQ false [] false [] [.bool false])) (cond (A2≥(d.length:Int)) (some (kQ false [] false [] [.bool false])) (cond (C<0) (some (kQ false [] false [] [.bool false])) ((ix A2 d.length).bind λN=> (asLst 1 (at' d N 0)).bind λO=>
(cond (C≥(O.length:Int)) (some (kQ false [] false [] [.bool false])) ((ix A2 d.length).bind λP=> (asLst 1 (at' d P 0)).bind λM=> (ix C M.length).bind λQ=> (asStr (at' M Q 0)).bind λR=> (evF EnD n 22 [.str R]).bind λK=> (asBool K[0]?).bind λS=>(asLst 1 K[1]?).bind λT=>(asBool K[2]?).bind λU=>(asLst 1 K[3]?).bind λV=>(asInt .i64 K[4]?).bind λW=>some (kQ S T U V [.bool (W==0)]))))))):=by kernel_rfl
def q5s.l3(n:Nat):=Lp EnD n 150 [1,1,0,1,0]
theorem q5s.qm:q5s.l3 n [] (m+1) (.str C7::k8 a b d r k F C0 A2 (iL p::kQ G j D2 v [.bool D0,iL A9,.bool B6,.list 7 l,iI A0,iI B5])) =
(cond (B5<A0) ((ix B5 l.length).bind λM=> (asStr (at' l M 0)).bind λX=> (asInt .i64 (at' l M 1)).bind λY=> (asInt .i64 (at' l M 2)).bind λZ=> (asInt .i64 (at' l M 3)).bind λn4=> (asBool (at' l M 4)).bind λc5=> (asInt .i64 (at' l M 5)).bind λn6=> (asInt .i64 (at' l M 6)).bind λn7=> (evF EnD n 151 (iI B5::kS X Y Z n4 c5 n6 n7 (.str C7::k8 a b d r k F C0 A2 []))).bind λK=> (asStr K[0]?).bind λO=>(asLst 1 K[1]?).bind λP=>(asLst 1 K[2]?).bind λQ=>(asLst 1 K[3]?).bind λR=>(asLst 1 K[4]?).bind λS=>(asStr K[5]?).bind λT=>(asStr K[6]?).bind λU=>(asBool K[7]?).bind λV=>(asInt .i64 K[8]?).bind λW=>(asLst 1 K[9]?).bind λv18=>(asBool K[10]?).bind λc19=>(asLst 1 K[11]?).bind λv20=>(asBool K[12]?).bind λc21=>(asBool K[13]?).bind λc22=>
(cond (!c22) (some (.str O::k8 P Q R S T U V W [iL v,.bool D0,iL A9,.bool B6,.bool false])) ((evF EnD n 113 (iL v::kQ D0 A9 B6 v18 [.bool c19,iL v20,.bool c21])).bind λN=> (asLst 1 N[0]?).bind λv24=>(asBool N[1]?).bind λc25=>(asLst 1 N[2]?).bind λv26=>(asBool N[3]?).bind λc27=>q5s.l3 n [] m (.str O::k8 P Q R S T U V W (iL p::kQ G j D2 v24 [.bool c25,iL v26,.bool c27,.list 7 l,iI A0,iI (w6 (B5+1))]))))) (some (.str C7::k8 a b d r k F C0 A2 [iL v,.bool D0,iL A9,.bool B6,.bool true]))):=by kernel_rfl
theorem qss:evF EnD (n+1) 150 (.list 7 c::.str C4::k8 b d r e F H t C [])=q5s.l3 n [] n (.str C4::k8 b d r e F H t C (iL []::kQ false [] false [] [.bool false,iL [],.bool false,.list 7 c,iI (c.length:Int),iI 0])):=by kernel_rfl
theorem qhm:evF EnD (n+1) 151 (iI o::kS C4 s f J E9 F1 w (.str A8::k8 p A1 j i C2 B3 A4 A6 [])) =
(cond (!(C4.toList==A8.toList)) (some (.str A8::k8 p A1 j i C2 B3 A4 A6 [iL [],.bool false,iL [],.bool false,.bool true])) (cond (o≥(A1.length:Int)) (some (.str A8::k8 p A1 j i C2 B3 A4 A6 [iL [],.bool false,iL [],.bool false,.bool false])) ((ix o A1.length).bind λT=> (asStr (at' A1 T 0)).bind λU=> (evF EnD n 118 [.str U]).bind λK=> (asLst 1 K[0]?).bind λV=>(asBool K[1]?).bind λW=>(asLst 1 K[2]?).bind λX=>(asBool K[3]?).bind λY=>(asInt .i64 K[4]?).bind λZ=>(evF EnD n 152 (k8 p A1 j i C2 B3 A4 A6 [iI J,iI f])).bind λM=> (asLst 1 M[0]?).bind λv9=>(asBool M[1]?).bind λc10=>(asLst 1 M[2]?).bind λv11=>(asBool M[3]?).bind λc12=>(asBool M[4]?).bind λc13=>(evF EnD n 154 (iL V::kQ W X Y v9 [.bool c10,iL v11,.bool c12])).bind λN=> (asLst 1 N[0]?).bind λv15=>(asBool N[1]?).bind λc16=>(asLst 1 N[2]?).bind λv17=>(asBool N[3]?).bind λc18=>(evF EnD n 153 (kQ E9 v15 c16 v17 [.bool c18])).bind λO=> (asLst 1 O[0]?).bind λP=>(asBool O[1]?).bind λQ=>(asLst 1 O[2]?).bind λR=>(asBool O[3]?).bind λS=>
(cond c13 (some (.str A8::k8 p A1 j i C2 B3 A4 A6 [iL P,.bool Q,iL R,.bool S,.bool (Z==0)])) (some (.str A8::k8 p A1 j i C2 B3 A4 A6 [iL P,.bool Q,iL R,.bool S,.bool false])))))):=by kernel_rfl
theorem qcc:evF EnD (n+1) 152 (k8 c a b d E k y w [iI A2,iI C]) =
(cond (A2<0) (some [iL [],.bool false,iL [],.bool false,.bool false]) (cond (A2≥(d.length:Int)) (some [iL [],.bool false,iL [],.bool false,.bool false]) (cond (C<0) (some [iL [],.bool false,iL [],.bool false,.bool false]) ((ix A2 d.length).bind λN=> (asLst 1 (at' d N 0)).bind λO=>
(cond (C≥(O.length:Int)) (some [iL [],.bool false,iL [],.bool false,.bool false]) ((ix A2 d.length).bind λP=> (asLst 1 (at' d P 0)).bind λM=> (ix C M.length).bind λQ=> (asStr (at' M Q 0)).bind λR=> (evF EnD n 118 [.str R]).bind λK=> (asLst 1 K[0]?).bind λS=>(asBool K[1]?).bind λT=>(asLst 1 K[2]?).bind λU=>(asBool K[3]?).bind λV=>(asInt .i64 K[4]?).bind λW=>some [iL S,.bool T,iL U,.bool V,.bool (W==0)])))))):=by kernel_rfl
theorem qlo:evF EnD (n+1) 153 (kQ F0 a D7 d [.bool C3]) =
(cond F0 ((evF EnD n 169 [iL a,.bool D7,iL d,.bool C3]).bind λK=> (asLst 1 K[0]?).bind λM=>(asBool K[1]?).bind λN=>(asLst 1 K[2]?).bind λO=>(asBool K[3]?).bind λP=>some [iL M,.bool N,iL O,.bool P]) (some [iL a,.bool D7,iL d,.bool C3])):=by kernel_rfl
def q5t.l3(n:Nat):=Lp EnD n 155 [1,1,0,1,0]
theorem q5t.qm:q5t.l3 n [] (m+1) (.str C7::k8 a b d r k F C0 A2 (iL p::kQ G j D2 v [.bool D0,iL A9,.bool B6,.list 8 l,iI A0,iI B5])) =
(cond (B5<A0) ((ix B5 l.length).bind λM=> (asStr (at' l M 0)).bind λX=> (asInt .i64 (at' l M 1)).bind λY=> (asInt .i64 (at' l M 2)).bind λZ=> (asBool (at' l M 3)).bind λc4=> (asInt .i64 (at' l M 4)).bind λn5=> (asLst 1 (at' l M 5)).bind λv6=> (asInt .i64 (at' l M 6)).bind λn7=> (asInt .i64 (at' l M 7)).bind λn8=> (evF EnD n 156 (iI B5::kB X Y Z c4 n5 v6 n7 n8 (.str C7::k8 a b d r k F C0 A2 []))).bind λK=> (asStr K[0]?).bind λO=>(asLst 1 K[1]?).bind λP=>(asLst 1 K[2]?).bind λQ=>(asLst 1 K[3]?).bind λR=>(asLst 1 K[4]?).bind λS=>(asStr K[5]?).bind λT=>(asStr K[6]?).bind λU=>(asBool K[7]?).bind λV=>(asInt .i64 K[8]?).bind λW=>(asLst 1 K[9]?).bind λv19=>(asBool K[10]?).bind λc20=>(asLst 1 K[11]?).bind λv21=>(asBool K[12]?).bind λc22=>(asBool K[13]?).bind λc23=>
(cond (!c23) (some (.str O::k8 P Q R S T U V W [iL v,.bool D0,iL A9,.bool B6,.bool false])) ((evF EnD n 113 (iL v::kQ D0 A9 B6 v19 [.bool c20,iL v21,.bool c22])).bind λN=> (asLst 1 N[0]?).bind λv25=>(asBool N[1]?).bind λc26=>(asLst 1 N[2]?).bind λv27=>(asBool N[3]?).bind λc28=>q5t.l3 n [] m (.str O::k8 P Q R S T U V W (iL p::kQ G j D2 v25 [.bool c26,iL v27,.bool c28,.list 8 l,iI A0,iI (w6 (B5+1))]))))) (some (.str C7::k8 a b d r k F C0 A2 [iL v,.bool D0,iL A9,.bool B6,.bool true]))):=by kernel_rfl
theorem qst:evF EnD (n+1) 155 (.list 8 c::.str C4::k8 b d r e F H t C [])=q5t.l3 n [] n (.str C4::k8 b d r e F H t C (iL []::kQ false [] false [] [.bool false,iL [],.bool false,.list 8 c,iI (c.length:Int),iI 0])):=by kernel_rfl
theorem qei:evF EnD (n+1) 156 (iI o::kB C4 s f C3 E8 h w A2 (.str z::k8 A1 j i v B3 D8 B6 B8 [])) =
(cond (!(C4.toList==z.toList)) (some (.str z::k8 A1 j i v B3 D8 B6 B8 [iL [],.bool false,iL [],.bool false,.bool true])) (cond (o≥(A1.length:Int)) (some (.str z::k8 A1 j i v B3 D8 B6 B8 [iL [],.bool false,iL [],.bool false,.bool false])) ((ix o A1.length).bind λM=> (asBool (at' A1 M 0)).bind λN=>
(cond (!N) (some (.str z::k8 A1 j i v B3 D8 B6 B8 [iL [],.bool false,iL [],.bool false,.bool true])) ((evF EnD n 157 (iL h::k8 A1 j i v B3 D8 B6 B8 (kB C4 s f C3 E8 h w A2 []))).bind λK=> (asLst 1 K[0]?).bind λO=>(asLst 1 K[1]?).bind λP=>(asLst 1 K[2]?).bind λQ=>(asLst 1 K[3]?).bind λR=>(asStr K[4]?).bind λS=>(asStr K[5]?).bind λT=>(asBool K[6]?).bind λU=>(asInt .i64 K[7]?).bind λV=>(asStr K[8]?).bind λu11=>(asInt .i64 K[9]?).bind λn12=>(asInt .i64 K[10]?).bind λn13=>(asBool K[11]?).bind λc14=>(asInt .i64 K[12]?).bind λn15=>(asLst 1 K[13]?).bind λv16=>(asInt .i64 K[14]?).bind λn17=>(asInt .i64 K[15]?).bind λn18=>(asLst 1 K[16]?).bind λW=>(asBool K[17]?).bind λX=>(asLst 1 K[18]?).bind λY=>(asBool K[19]?).bind λZ=>(asBool K[20]?).bind λc23=>some (.str z::k8 O P Q R S T U V [iL W,.bool X,iL Y,.bool Z,.bool c23])))))):=by kernel_rfl
def q5u.l3(n:Nat):=Lp EnD n 157 [1,1,0,1,0]
theorem q5u.qm:q5u.l3 n [] (m+1) (k8 c a b d E k y w (kB A8 C A7 I g v A3 B2 (iL q::kQ D3 B9 D5 B0 (kQ E3 E0 E2 E1 [iI E5,iI D6])))) =
(cond (D6<E5) ((ix D6 E1.length).bind λi0=> (asInt .i64 (at' E1 i0 0)).bind λn1=> (evF EnD n 158 (iI D6::iI n1::k8 c a b d E k y w (kB A8 C A7 I g v A3 B2 []))).bind λK=> (asLst 1 K[0]?).bind λN=>(asLst 1 K[1]?).bind λO=>(asLst 1 K[2]?).bind λP=>(asLst 1 K[3]?).bind λQ=>(asStr K[4]?).bind λR=>(asStr K[5]?).bind λS=>(asBool K[6]?).bind λT=>(asInt .i64 K[7]?).bind λU=>(asStr K[8]?).bind λV=>(asInt .i64 K[9]?).bind λW=>(asInt .i64 K[10]?).bind λX=>(asBool K[11]?).bind λY=>(asInt .i64 K[12]?).bind λZ=>(asLst 1 K[13]?).bind λv16=>(asInt .i64 K[14]?).bind λn17=>(asInt .i64 K[15]?).bind λn18=>(asLst 1 K[16]?).bind λv19=>(asBool K[17]?).bind λc20=>(asLst 1 K[18]?).bind λv21=>(asBool K[19]?).bind λc22=>(asBool K[20]?).bind λc23=>
(cond (!c23) (some (k8 N O P Q R S T U (kB V W X Y Z v16 n17 n18 [iL B0,.bool E3,iL E0,.bool E2,.bool false]))) ((evF EnD n 113 (iL B0::kQ E3 E0 E2 v19 [.bool c20,iL v21,.bool c22])).bind λM=> (asLst 1 M[0]?).bind λv25=>(asBool M[1]?).bind λc26=>(asLst 1 M[2]?).bind λv27=>(asBool M[3]?).bind λc28=>q5u.l3 n [] m (k8 N O P Q R S T U (kB V W X Y Z v16 n17 n18 (iL q::kQ D3 B9 D5 v25 (kQ c26 v27 c28 E1 [iI E5,iI (w6 (D6+1))]))))))) (some (k8 c a b d E k y w (kB A8 C A7 I g v A3 B2 [iL B0,.bool E3,iL E0,.bool E2,.bool true])))):=by kernel_rfl
theorem qsu:evF EnD (n+1) 157 (iL c::k8 a b d r k F C0 A2 (kB z A7 B1 D2 B A5 B2 A6 []))=q5u.l3 n [] n (k8 a b d r k F C0 A2 (kB z A7 B1 D2 B A5 B2 A6 (iL []::kQ false [] false [] (kQ false [] false c [iI (c.length:Int),iI 0])))):=by kernel_rfl
theorem qsv:evF EnD (n+1) 158 (iI o::iI D::k8 b d r e F H t C (kB A B1 g B4 A3 A9 A6 B8 []))=(evF EnD n 152 (k8 b d r e F H t C [iI o,iI g])).bind λK=> (asLst 1 K[0]?).bind λP=>(asBool K[1]?).bind λQ=>(asLst 1 K[2]?).bind λR=>(asBool K[3]?).bind λS=>(asBool K[4]?).bind λT=>(evF EnD n 111 [iI D]).bind λM=> (asLst 1 M[0]?).bind λU=>(asBool M[1]?).bind λV=>(asLst 1 M[2]?).bind λW=>(asBool M[3]?).bind λX=>(evF EnD n 154 (iL P::kQ Q R S U [.bool V,iL W,.bool X])).bind λN=> (asLst 1 N[0]?).bind λY=>(asBool N[1]?).bind λZ=>(asLst 1 N[2]?).bind λv14=>(asBool N[3]?).bind λc15=>(evF EnD n 153 (kQ B4 Y Z v14 [.bool c15])).bind λO=> (asLst 1 O[0]?).bind λv17=>(asBool O[1]?).bind λc18=>(asLst 1 O[2]?).bind λv19=>(asBool O[3]?).bind λc20=>some (k8 b d r e F H t C (kB A B1 g B4 A3 A9 A6 B8 [iL v17,.bool c18,iL v19,.bool c20,.bool T])):=by kernel_rfl
def q5v.l3(n:Nat):=Lp EnD n 159 [1,1,0,1,0]
theorem q5v.qm:q5v.l3 n [] (m+1) (iI o::k8 a b d r k F C0 A2 (iI C::iI A7::iI B1::iL i::kQ B4 A5 A4 q (kQ D3 B9 D5 B0 [iI C5,iI C1]))) =
(cond (C1<C5) ((ix C1 B0.length).bind λZ=> (asLst 1 (at' B0 Z 0)).bind λv1=> (evF EnD n 160 (iI C1::iL v1::iI o::k8 a b d r k F C0 A2 [iI C,iI A7,iI B1])).bind λK=> (asInt .i64 K[0]?).bind λN=>(asLst 1 K[1]?).bind λO=>(asLst 1 K[2]?).bind λP=>(asLst 1 K[3]?).bind λQ=>(asLst 1 K[4]?).bind λR=>(asStr K[5]?).bind λS=>(asStr K[6]?).bind λT=>(asBool K[7]?).bind λU=>(asInt .i64 K[8]?).bind λV=>(asInt .i64 K[9]?).bind λW=>(asInt .i64 K[10]?).bind λX=>(asInt .i64 K[11]?).bind λY=>(asLst 1 K[12]?).bind λv15=>(asBool K[13]?).bind λc16=>(asLst 1 K[14]?).bind λv17=>(asBool K[15]?).bind λc18=>(asBool K[16]?).bind λc19=>
(cond (!c19) (some (iI N::k8 O P Q R S T U V [iI W,iI X,iI Y,iL q,.bool D3,iL B9,.bool D5,.bool false])) ((evF EnD n 113 (iL q::kQ D3 B9 D5 v15 [.bool c16,iL v17,.bool c18])).bind λM=> (asLst 1 M[0]?).bind λv21=>(asBool M[1]?).bind λc22=>(asLst 1 M[2]?).bind λv23=>(asBool M[3]?).bind λc24=>q5v.l3 n [] m (iI N::k8 O P Q R S T U V (iI W::iI X::iI Y::iL i::kQ B4 A5 A4 v21 (kQ c22 v23 c24 B0 [iI C5,iI (w6 (C1+1))])))))) (some (iI o::k8 a b d r k F C0 A2 [iI C,iI A7,iI B1,iL q,.bool D3,iL B9,.bool D5,.bool true]))):=by kernel_rfl
theorem qsw:evF EnD (n+1) 159 (iL c::iI D::k8 b d r e F H t C [iI A7,iI B1,iI g])=q5v.l3 n [] n (iI D::k8 b d r e F H t C (iI A7::iI B1::iI g::iL []::kQ false [] false [] (kQ false [] false c [iI (c.length:Int),iI 0]))):=by kernel_rfl
theorem qlp:evF EnD (n+1) 160 (iI o::iL a::iI s::k8 d r e h H A8 C9 A7 [iI B1,iI g,iI B]) =
(cond (s≥(a.length:Int)) (some (iI s::k8 d r e h H A8 C9 A7 [iI B1,iI g,iI B,iL [],.bool false,iL [],.bool false,.bool false])) ((ix s a.length).bind λU=> (asStr (at' a U 0)).bind λV=> (evF EnD n 118 [.str V]).bind λK=> (asLst 1 K[0]?).bind λW=>(asBool K[1]?).bind λX=>(asLst 1 K[2]?).bind λY=>(asBool K[3]?).bind λZ=>(asInt .i64 K[4]?).bind λn7=>(evF EnD n 152 (k8 d r e h H A8 C9 A7 [iI o,iI B1])).bind λM=> (asLst 1 M[0]?).bind λv9=>(asBool M[1]?).bind λc10=>(asLst 1 M[2]?).bind λv11=>(asBool M[3]?).bind λc12=>(asBool M[4]?).bind λc13=>(evF EnD n 152 (k8 d r e h H A8 C9 A7 [iI o,iI g])).bind λN=> (asLst 1 N[0]?).bind λv15=>(asBool N[1]?).bind λc16=>(asLst 1 N[2]?).bind λv17=>(asBool N[3]?).bind λc18=>(asBool N[4]?).bind λc19=>(evF EnD n 112 (iL v15::kQ c16 v17 c18 v9 [.bool c10,iL v11,.bool c12])).bind λO=> (asLst 1 O[0]?).bind λv21=>(asBool O[1]?).bind λc22=>(asLst 1 O[2]?).bind λv23=>(asBool O[3]?).bind λc24=>(evF EnD n 154 (iL W::kQ X Y Z v21 [.bool c22,iL v23,.bool c24])).bind λP=> (asLst 1 P[0]?).bind λQ=>(asBool P[1]?).bind λR=>(asLst 1 P[2]?).bind λS=>(asBool P[3]?).bind λT=>
(cond c13 (cond c19 (some (iI s::k8 d r e h H A8 C9 A7 [iI B1,iI g,iI B,iL Q,.bool R,iL S,.bool T,.bool (n7==0)])) (some (iI s::k8 d r e h H A8 C9 A7 [iI B1,iI g,iI B,iL Q,.bool R,iL S,.bool T,.bool false]))) (some (iI s::k8 d r e h H A8 C9 A7 [iI B1,iI g,iI B,iL Q,.bool R,iL S,.bool T,.bool false]))))):=by kernel_rfl
end
section
variable (n m:Nat)
variable (l w v G I D C:Bool)
variable (z f e a j g c d u x B t J E F y A0:List FV)
variable (i h:ByteArray)
variable (q b H p o k r s A A1:Int)
def q2f.l10(n:Nat):=Lp EnD n 11 [1,1,1,1,1,1,1,0,1,0]
def q2f.l18(n:Nat):=Lp EnD n 11 [1,1,1,1,1,1,1,1,0,1,0]
def q2f.l28(n:Nat):=Lp EnD n 11 [1,1,1,1,1,1,1,1,1,1,1,0,1,0]
theorem q2f.q3l:q2f.l10 n [] (m+1) (k15 q b f p o e a j g c d i h l k (kQ w u v x [.list 2 B,iL t,iI A])) =
(cond (A<(t.length:Int)) ((ix A t.length).bind λO=> (asStr (at' t O 0)).bind λP=> (evF EnD n 31 (.list 7 e::.list 8 a::k8 j g c d i h l k [.str P])).bind λN=> (asStr N[0]?).bind λQ=>(asInt .i64 N[1]?).bind λR=>(evF EnD n 22 [.str Q]).bind λK=> (asBool K[0]?).bind λS=>(asLst 1 K[1]?).bind λT=>(asBool K[2]?).bind λU=>(asLst 1 K[3]?).bind λV=>(asInt .i64 (K[4]?)).bind λW=>
(cond (R !=0) (some [.bool false]) (cond (W !=0) (some [.bool false]) ((evF EnD n 37 (kQ w u v x (kQ S T U V []))).bind λM=> (asBool M[0]?).bind λX=>(asLst 1 M[1]?).bind λY=>(asBool M[2]?).bind λZ=>(asLst 1 M[3]?).bind λv15=>q2f.l10 n [] m (k15 q b f p o e a j g c d i h l k (kQ X Y Z v15 [.list 2 B,iL t,iI (w6 (A+1))])))))) (q2f.l18 n [] n (k15 q b f p o e a j g c d i h l k (kQ w u v x [.list 2 B,iL t,iI 0])))):=by kernel_rfl
theorem q2f.q55:q2f.l18 n [] (m+1) (k15 q b f p o e a j g c d i h l k (kQ w u v x [.list 2 B,iL t,iI A])) =
(cond (A<(f.length:Int)) ((evF EnD n 34 (k5 q b f p o (k8 j g c d i h l k [iI A]))).bind λP=> (asStr P[0]?).bind λU=>(asInt .i64 P[1]?).bind λV=>(evF EnD n 22 [.str U]).bind λK=> (asBool K[0]?).bind λQ=>(asLst 1 K[1]?).bind λR=>(asBool K[2]?).bind λS=>(asLst 1 K[3]?).bind λT=>(asInt .i64 (K[4]?)).bind λW=>
(cond (V !=0) (some [.bool false]) (cond (W !=0) (some [.bool false]) ((evF EnD n 38 (kQ Q R S T [])).bind λX=> (asInt .i64 (X[0]?)).bind λY=>
(cond (Y<0) (some [.bool false]) ((evF EnD n 37 (kQ w u v x (kQ Q R S T []))).bind λM=> (asBool M[0]?).bind λZ=>(asLst 1 M[1]?).bind λv13=>(asBool M[2]?).bind λc14=>(asLst 1 M[3]?).bind λv15=>q2f.l18 n [] m (k15 q b f p o e a j g c d i h l k (kQ Z v13 c14 v15 [.list 2 B,iL t,iI (w6 (A+1))])))))))) ((evF EnD n 12 [iI 0]).bind λN=> (asBool N[0]?).bind λc17=>(asLst 1 N[1]?).bind λv18=>(asBool N[2]?).bind λc19=>(asLst 1 N[3]?).bind λv20=>(evF EnD n 12 [iI 0]).bind λO=> (asBool O[0]?).bind λc22=>(asLst 1 O[1]?).bind λv23=>(asBool O[2]?).bind λc24=>(asLst 1 O[3]?).bind λv25=>q2f.l28 n [] n (k15 q b f p o e a j g c d i h l k (kQ w u v x (kQ c17 v18 c19 v20 (kQ c22 v23 c24 v25 [.list 2 B,iL t,iI 0])))))):=by kernel_rfl
theorem q2f.l28_eq:q2f.l28 n [] (m+1) (k15 q b f p o e a j g c d i h l k (kQ w u v x (kQ G t I J (kQ D E C F [.list 2 y,iL A0,iI A1])))) =
(cond (A1<(y.length:Int)) ((ix A1 y.length).bind λi0=> (asStr (at' y i0 1)).bind λu1=> (evF EnD n 22 [.str u1]).bind λK=> (asBool K[0]?).bind λS=>(asLst 1 K[1]?).bind λT=>(asBool K[2]?).bind λU=>(asLst 1 K[3]?).bind λV=>(asInt .i64 (K[4]?)).bind λn7=>
(cond (n7 !=0) (some [.bool false]) ((evF EnD n 37 (kQ G t I J (kQ S T U V []))).bind λM=> (asBool M[0]?).bind λc9=>(asLst 1 M[1]?).bind λv10=>(asBool M[2]?).bind λc11=>(asLst 1 M[3]?).bind λv12=>q2f.l28 n [] m (k15 q b f p o e a j g c d i h l k (kQ w u v x (kQ c9 v10 c11 v12 (kQ S T U V [.list 2 y,iL A0,iI (w6 (A1+1))]))))))) ((evF EnD n 38 (kQ D E C F [])).bind λr13=> (asInt .i64 (r13[0]?)).bind λn14=>
(cond (n14<0) ((evF EnD n 39 (kQ D E C F [])).bind λN=> (asBool N[0]?).bind λW=>(asLst 1 N[1]?).bind λX=>(asBool N[2]?).bind λY=>(asLst 1 N[3]?).bind λZ=>(evF EnD n 38 (kQ w u v x [])).bind λr20=> (asInt .i64 (r20[0]?)).bind λn21=>
(cond (n21==0) ((evF EnD n 38 (kQ G t I J [])).bind λr22=> (asInt .i64 (r22[0]?)).bind λn23=>
(cond (n23==0) (cond ((y.length:Int)==(w6 ((w6 ((A0.length:Int)+(f.length:Int)))+1))) ((evF EnD n 37 (kQ W X Y Z (kQ W X Y Z []))).bind λO=> (asBool O[0]?).bind λc25=>(asLst 1 O[1]?).bind λv26=>(asBool O[2]?).bind λc27=>(asLst 1 O[3]?).bind λv28=>(evF EnD n 12 [iI (w6 ((y.length:Int)-1))]).bind λP=> (asBool P[0]?).bind λc30=>(asLst 1 P[1]?).bind λv31=>(asBool P[2]?).bind λc32=>(asLst 1 P[3]?).bind λv33=>(evF EnD n 32 (kQ c25 v26 c27 v28 (kQ c30 v31 c32 v33 []))).bind λr34=> (asInt .i64 r34[0]?).bind λn35=>some [.bool (decide (n35<=0))]) (some [.bool false])) (some [.bool false]))) (some [.bool false]))) ((evF EnD n 38 (kQ w u v x [])).bind λr36=> (asInt .i64 (r36[0]?)).bind λn37=>
(cond (n37==0) ((evF EnD n 38 (kQ G t I J [])).bind λr38=> (asInt .i64 (r38[0]?)).bind λn39=>
(cond (n39==0) (cond ((y.length:Int)==(w6 ((w6 ((A0.length:Int)+(f.length:Int)))+1))) ((evF EnD n 37 (kQ D E C F (kQ D E C F []))).bind λQ=> (asBool Q[0]?).bind λc41=>(asLst 1 Q[1]?).bind λv42=>(asBool Q[2]?).bind λc43=>(asLst 1 Q[3]?).bind λv44=>(evF EnD n 12 [iI (w6 ((y.length:Int)-1))]).bind λR=> (asBool R[0]?).bind λc46=>(asLst 1 R[1]?).bind λv47=>(asBool R[2]?).bind λc48=>(asLst 1 R[3]?).bind λv49=>(evF EnD n 32 (kQ c41 v42 c43 v44 (kQ c46 v47 c48 v49 []))).bind λr50=> (asInt .i64 r50[0]?).bind λn51=>some [.bool (decide (n51<=0))]) (some [.bool false])) (some [.bool false]))) (some [.bool false])))))):=by kernel_rfl
theorem qkr:evF EnD (n+1) 11 (k15 q b f p o e a j g c d i h l k [])=(evF EnD n 29 (k15 q b f p o e a j g c d i h l k [])).bind λR=> (asBool R[0]?).bind λS=>
(cond S (some [.bool true]) ((evF EnD n 23 (k15 q b f p o e a j g c d i h l k [])).bind λP=> (asLst 2 P[0]?).bind λN=>(asInt .i64 P[1]?).bind λK=>(evF EnD n 27 (k15 q b f p o e a j g c d i h l k [])).bind λQ=> (asLst 2 Q[0]?).bind λZ=>(asInt .i64 (Q[1]?)).bind λO=>
(cond (K !=O) (cond (K==O) (some [.bool ((N.length:Int)==0)]) (some [.bool false])) (cond (K !=0) (cond (K==O) (some [.bool ((N.length:Int)==0)]) (some [.bool false])) ((evF EnD n 12 [iI 0]).bind λM=> (asBool M[0]?).bind λT=>(asLst 1 M[1]?).bind λU=>(asBool M[2]?).bind λV=>(asLst 1 M[3]?).bind λW=>(evF EnD n 28 [.list 7 e,.list 8 a]).bind λX=> (asLst 1 X[0]?).bind λY=>q2f.l10 n [] n (k15 q b f p o e a j g c d i h l k (kQ T U V W [.list 2 N,iL Y,iI 0]))))))):=by kernel_rfl
def qv.l3(n:Nat):=Lp EnD n 29 [1,1,0,1,0]
def qv.l7(n:Nat):=Lp EnD n 29 [1,1,1,0,1,0]
def qv.l12(n:Nat):=Lp EnD n 29 [1,1,1,1,1,0,1,0]
def qv.l16(n:Nat):=Lp EnD n 29 [1,1,1,1,1,1,0,1,0]
theorem qv.qm:qv.l3 n [] (m+1) (k15 q b f p o e a j g c d i h l k [iI r,iI s]) =
(cond (s<(e.length:Int)) (cond (r<=1024) ((ix s e.length).bind λM=> (asStr (at' e M 0)).bind λK=> qv.l3 n [] m (k15 q b f p o e a j g c d i h l k [iI (w6 (r+(if 1048576<(K.size:Int)then 1048576 else(K.size:Int)))),iI (w6 (s+1))])) (qv.l7 n [] n (k15 q b f p o e a j g c d i h l k [iI r,iI 0]))) (qv.l7 n [] n (k15 q b f p o e a j g c d i h l k [iI r,iI 0]))):=by kernel_rfl
theorem qv.q2w:qv.l7 n [] (m+1) (k15 q b f p o e a j g c d i h l k [iI r,iI s]) =
(cond (s<(a.length:Int)) (cond (r<=1024) ((ix s a.length).bind λN=> (asLst 1 (at' a N 5)).bind λK=> (ix s a.length).bind λO=> (asStr (at' a O 0)).bind λM=> qv.l7 n [] m (k15 q b f p o e a j g c d i h l k [iI (w6 (r+(w6 ((if 1048576<(K.length:Int)then 1048576 else(K.length:Int))+(if 1048576<(M.size:Int)then 1048576 else(M.size:Int)))))),iI (w6 (s+1))])) ((evF EnD n 98 [iL g]).bind λP=> (asInt .i64 P[0]?).bind λQ=>qv.l12 n [] n (k15 q b f p o e a j g c d i h l k [iI (w6 (r+Q)),iI 0]))) ((evF EnD n 98 [iL g]).bind λR=> (asInt .i64 R[0]?).bind λS=>qv.l12 n [] n (k15 q b f p o e a j g c d i h l k [iI (w6 (r+S)),iI 0]))):=by kernel_rfl
theorem qv.q42:qv.l12 n [] (m+1) (k15 q b f p o e a j g c d i h l k [iI r,iI s]) =
(cond (s<(c.length:Int)) (cond (r<=256) ((ix s c.length).bind λK=> (asLst 1 (at' c K 0)).bind λM=> (evF EnD n 98 [iL M]).bind λN=> (asInt .i64 N[0]?).bind λO=>qv.l12 n [] m (k15 q b f p o e a j g c d i h l k [iI (w6 (r+O)),iI (w6 (s+1))])) (qv.l16 n [] n (k15 q b f p o e a j g c d i h l k [iI r,iI 0]))) (qv.l16 n [] n (k15 q b f p o e a j g c d i h l k [iI r,iI 0]))):=by kernel_rfl
theorem qv.l16_eq:qv.l16 n [] (m+1) (k15 q b f p o e a j g c d i h l k [iI r,iI s]) =
(cond (s<(d.length:Int)) (cond (r<=256) ((ix s d.length).bind λK=> (asLst 1 (at' d K 0)).bind λM=> (evF EnD n 98 [iL M]).bind λN=> (asInt .i64 N[0]?).bind λO=>qv.l16 n [] m (k15 q b f p o e a j g c d i h l k [iI (w6 (r+O)),iI (w6 (s+1))])) (some [.bool (decide (r>256))])) (some [.bool (decide (r>256))])):=by kernel_rfl
theorem qr7:evF EnD (n+1) 29 (k15 q b f p o e a j g c d i h l k [])=qv.l3 n [] n (k15 q b f p o e a j g c d i h l k [iI (w6 ((w6 ((w6 ((w6 ((w6 ((w6 ((w6 ((w6 ((e.length:Int)+(a.length:Int)))+(g.length:Int)))+(c.length:Int)))+(d.length:Int)))+(f.length:Int)))+(j.length:Int)))+(if 1048576<(i.size:Int)then 1048576 else(i.size:Int))))+(if 1048576<(h.size:Int)then 1048576 else(h.size:Int)))),iI 0]):=by kernel_rfl
def q5n.l3(n:Nat):=Lp EnD n 98 [1,1,0,1,0]
theorem q5n.qm:q5n.l3 n [] (m+1) [iL z,iI b,iI H] =
(cond (H<(z.length:Int)) (cond (b<=256) ((ix H z.length).bind λM=> (asStr (at' z M 0)).bind λK=> q5n.l3 n [] m [iL z,iI (w6 (b+(if 1048576<(K.size:Int)then 1048576 else(K.size:Int)))),iI (w6 (H+1))]) (some [iI b])) (some [iI b])):=by kernel_rfl
theorem qr8:evF EnD (n+1) 98 [iL z]=q5n.l3 n [] n [iL z,iI (if 1048576<(z.length:Int)then 1048576 else(z.length:Int)),iI 0]:=by kernel_rfl
end
end
end Rf
