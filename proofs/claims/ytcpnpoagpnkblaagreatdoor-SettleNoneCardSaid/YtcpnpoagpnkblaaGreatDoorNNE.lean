/- Merged: Rnd EnvD EqSet EqLaw20. -/
import Derived.Test.YtcpnpoagpnkblaaGreatDoorNMS
import Derived.Test.YtcpnpoagpnkblaaGreatDoorNMW
import Derived.Test.YtcpnpoagpnkblaaGreatDoorNMY
import Derived.Test.YtcpnpoagpnkblaaGreatDoorNMG
import Derived.Lib.SlicesCompact
import Derived.KernelRfl
set_option linter.unusedVariables false
set_option linter.unusedSimpArgs false
set_option maxHeartbeats 4000000
set_option maxRecDepth 100000
namespace Rf
open Go
def q1d(q:Rat):Int:=q.num / (q.den:Int)
def q2c(q:Rat):Int:=q.num%(q.den:Int)
def q2b(q:Rat):Int:=if(q.den:Int)<q2c q+q2c q\/q2c q+q2c q=(q.den:Int)/\q1d q%2≠0 then q1d q+1 else q1d q
theorem qcx{z w:Int}(hw:0<w):z / w=(if z.tmod w<0 then z.tdiv w-1 else z.tdiv w)/\z%w=(if z.tmod w<0 then z.tmod w+w else z.tmod w):=by
 have h1:=Int.mul_tdiv_add_tmod z w;have h2:z.tmod w<w:=Ea z hw;have h3:=Ea (-z) hw;rw[EN]at h3;by_cases ht:z.tmod w<0
 ·rw[if_pos ht,if_pos ht];exact(Fw hw).2 ⟨by rw[Int.mul_sub,Int.mul_one];omega,by omega,by omega⟩
 ·rw[if_neg ht,if_neg ht];exact(Fw hw).2 ⟨by omega,by omega,h2⟩
theorem qf4{z w:Int}{k:Nat}(hz:z.natAbs<2^k):(z.tdiv w).natAbs<2^k:=by
 rw[Int.natAbs_tdiv];exact BI (Dm _ _) hz
theorem qf5{z w:Int}{k:Nat}(hz:z.natAbs<2^k):(z.tmod w).natAbs<2^k:=by
 rw[Int.natAbs_tmod];exact BI (Nat.mod_le _ _) hz
theorem qf6{z w:Int}{k:Nat}(h0:0<w)(hz:z.natAbs<2^k):(z / w).natAbs<2^(k+1):=by
 have h:=qf4 (w:=w) hz;rw[(qcx h0).1,Ax];split <;> omega
theorem two_bd{k:Nat}(hk:1<=k):2<=2^k:=AW (n:=2) (by omega) hk
theorem dm_ev{z w:Int}{k:Nat}(hk:k+1<=100000000000)(h0:0<w)(hz:z.natAbs<2^k)(hw:w.natAbs<2^k) :
  Ev En 139 [zl z,zb z,zl w,zb w] [zl (z / w),zb (z / w),zl (z%w),zb (z%w),.int .i64 0]:=by
 obtain⟨e1,e2⟩:=qcx (z:=z) h0;have hq:=qf4 (w:=w) hz;have hr:=qf5 (w:=w) hz;obtain⟨n1,h1⟩:=qcy (by omega) (by omega) hz hw;obtain⟨n2,h2⟩:=zero_ev (s:=decide (z.tmod w<0)) (by omega:k<=100000000000) hr;obtain⟨n3,h3⟩:=qcz (z:=1);obtain⟨n4,h4⟩:=qd0 (z:=z.tdiv w) (w:=1) hk hq (by omega);obtain⟨n5,h5⟩:=qa4 (z:=z.tmod w) (w:=w) hk hr hw;refine Ev.of (n1+n2+n3+n4+n5) λn hn=>?_;rw[qoa]
 try simp (disch:=omega) only[h1,rr]
 try simp only[show((0:Int)==0)=true from rfl,rr]
 try simp (disch:=omega) only[h2,rr]
 by_cases ht:z.tmod w<0
 ·rw[if_pos ht]at e1 e2;rw[e1,e2,Ad (p:=(z.tmod w).natAbs=0) (by omega),AX,Ac,Af ht,Ad,show(!(true==false))=true from rfl,Ac]
  try simp (disch:=omega) only[h3,rr]
  try simp (disch:=omega) only[h4,rr]
  rw[<- show zb (z.tmod w)=.bool true from by unfold zb;rw[Af ht],<- show zb w=.bool false from by unfold zb;rw[Ad]]
  try simp (disch:=omega) only[h5,rr]
 ·rw[if_neg ht]at e1 e2;rw[e1,e2,Ad ht,Ad (p:=w<0) (by omega),show(!(false==false))=false from rfl,Ab];cases decide ((z.tmod w).natAbs=0) <;> (unfold zb;rw[Ad ht];rfl)
theorem den_pos(q:Rat):0<(q.den:Int):=by have:=q.den_pos;omega
theorem rest_bd(q:Rat):0<=q2c q/\q2c q<(q.den:Int):=⟨Int.emod_nonneg _ (by have:=den_pos q;omega),Int.emod_lt_of_pos _ (den_pos q)⟩
theorem odd_t(z:Int):(z.tmod 2).sign≠0↔z%2≠0:=by
 have h:=(qcx (z:=z) (w:=2) (by omega)).2;have h2:=Ea z (b:=2) (by omega);have h3:=Ea (-z) (b:=2) (by omega);rw[EN]at h3;rw[h,Ne,Fx];split <;> omega
theorem cmpZi_gt{z w:Int}:decide (q20 z w>0)=decide (w<z):=by
 rw[BW];unfold q20;split <;> (try split) <;> omega
theorem cmpZi_eq{z w:Int}:(q20 z w==0)=decide (z=w):=by
 rw[Bm,Bv,At];unfold q20;split <;> (try split) <;> omega
theorem round_ev{q:Rat}{k d:Nat}(hk:k+2<=100000000000)(hk1:1<=k)(h:Bd k q)(hd:dn d=q.den):Ev En 83 [zl (q).num,zb (q).num,nL (d),.bool false] [zl (q2b q),zb (q2b q)]:=by
 obtain⟨r0,r1⟩:=rest_bd q;have two:=two_bd hk1;have hden:q.den<2^k:=h.2;obtain⟨n1,h1⟩:=q5a (l:=(dg 4294967296 q.num.natAbs).map d32) (b:=decide (q.num<0)) (by omega:k<=100000000000) (q5b h hd);rw[hd]at h1;obtain⟨n2,h2⟩:=dm_ev (z:=q.num) (w:=(q.den:Int)) (by omega:k+1<=100000000000) (den_pos q) h.1 hden;rw[q3o,q1u]at h2;obtain⟨n3,h3⟩:=qa4 (z:=q2c q) (w:=q2c q) (by omega:k+1<=100000000000) (by omega) (by omega);obtain⟨n4,h4⟩:=qd1 (z:=q2c q+q2c q) (w:=(q.den:Int)) (k:=k+1) (by omega) (by rw[Ax];omega) (by rw[Ax];omega);rw[q3o,q1u]at h4;have hf:(q1d q).natAbs<2^(k+1):=qf6 (den_pos q) h.1;obtain⟨n5,h5⟩:=qcz (z:=2);obtain⟨n6,h6⟩:=qcy (z:=q1d q) (w:=2) (k:=k+1) (by omega) (by omega) hf (by rw[Ax];omega);obtain⟨n7,h7⟩:=q7d;obtain⟨n8,h8⟩:=qa4 (z:=q1d q) (w:=1) (k:=k+1) (by omega) hf (by rw[Ax];omega);rw[show zl (1:Int)=nL 1 from rfl,show zb (1:Int)=.bool false from rfl]at h8;obtain⟨n9,h9⟩:=qd2 (z:=(q1d q).tmod 2) (k:=k+1) (by omega) (qf5 hf)
 have up:∀n,n1+n2+n3+n4+n5+n6+n7+n8+n9<=n->(do
   let r26 <- evF En n 146 []
   let v27 <- asLst 1 (r26[0]?)
   let c28 <- asBool (r26[1]?)
   let r29 <- evF En n 141 [zl (q1d q),zb (q1d q),.list 1 v27,.bool c28]
   let v30 <- asLst 1 (r29[0]?)
   let c31 <- asBool (r29[1]?)
   some [.list 1 v30,.bool c31])=some [zl (q1d q+1),zb (q1d q+1)]:=by
  intro n hn;show(evF En n 146 []).bind _=_
  try simp (disch:=omega) only[h7,rr]
  show(evF En n 141 [zl (q1d q),zb (q1d q),nL 1,.bool false]).bind _=_
  try simp (disch:=omega) only[h8,rr]
  rfl
 refine Ev.of (n1+n2+n3+n4+n5+n6+n7+n8+n9) λn hn=>?_;rw[qob]
 try simp (disch:=omega) only[h1,rr]
 try simp (disch:=omega) only[h2,rr]
 try simp only[show evF En n 141 [zl (q.num%(q.den:Int)),zb (q.num%(q.den:Int)),zl (q.num%(q.den:Int)),zb (q.num%(q.den:Int))]=some _ from h3 n (by omega),rr]
 try simp (disch:=omega) only[h4,rr]
 try simp (disch:=omega) only[h5,rr]
 try simp only[show evF En n 143 [zl (q.num / (q.den:Int)),zb (q.num / (q.den:Int)),zl (2:Int),zb (2:Int)]=some _ from h6 n (by omega),rr]
 rw[cmpZi_gt];unfold q2b;by_cases c1:(q.den:Int)<q2c q+q2c q
 ·rw[Af c1,Ac,if_pos (.inl c1)];exact up n hn
 ·rw[Ad c1,Ab,cmpZi_eq];by_cases c2:q2c q+q2c q=(q.den:Int)
  ·rw[Af c2,Ac]
   try simp (disch:=omega) only[h9,rr]
   by_cases c3:q1d q%2=0
   ·have c4:((q1d q).tmod 2).sign=0:=Eb λh=>(odd_t _).1 h c3;rw[c4,show((0:Int) !=0)=false from rfl,Ab,if_neg (by omega)];rfl
   ·have c4:((q1d q).tmod 2).sign≠0:=(odd_t _).2 c3;rw[show(((q1d q).tmod 2).sign !=0)=true from by simpa using c4,Ac,if_pos (.inr ⟨c2,c3⟩)];exact up n hn
  ·rw[Ad c2,Ab,if_neg (by omega)];rfl
theorem wdm_ev{z w:Int}{k:Nat}(hk:k<=100000000000)(h0:0<w)(hz:z.natAbs<2^k)(hw:w.natAbs<2^k) :
  Ev En 93 [zb z,wl z,zb w,wl w] [zb (z / w),wl (z / w),zb (z%w),wl (z%w),.int .i64 0]:=by
 obtain⟨e1,e2⟩:=qcx (z:=z) h0;have hq:=qf4 (w:=w) hz;have hr:=qf5 (w:=w) hz;obtain⟨n1,h1⟩:=wqr_ev hk (by omega) hz hw;obtain⟨n3,h3⟩:=qd3 (z:=1);obtain⟨n4,h4⟩:=wsub_z (z:=z.tdiv w) (w:=1) hk hq (by omega);obtain⟨n5,h5⟩:=qd4 (z:=z.tmod w) (w:=w) hk hr hw;have sw:w.sign=1:=Ck h0;refine Ev.of (n1+n3+n4+n5+1) λn hn=>?_;obtain⟨n,rfl⟩:=qSx n;have g1:=q8c (n:=n) (z:=z.tmod w);have g2:=q8c (n:=n) (z:=w);rw[qoc]
 try simp (disch:=omega) only[h1,rr]
 try simp only[show((0:Int)==0)=true from rfl,rr]
 try simp (disch:=omega) only[g1,rr]
 by_cases ht:z.tmod w<0
 ·rw[if_pos ht]at e1 e2;rw[e1,e2,CN ht,show((-1:Int) !=0)=true from rfl,Ac];rw[CN ht]at g1;rw[sw]at g2
  try simp (disch:=omega) only[g1,rr]
  try simp (disch:=omega) only[g2,rr]
  try simp only[show((-1:Int) !=1)=true from rfl,rr]
  try simp (disch:=omega) only[h3,rr]
  try simp (disch:=omega) only[h4,rr]
  try simp (disch:=omega) only[h5,rr]
 ·rw[if_neg ht]at e1 e2;rw[e1,e2];by_cases tz:z.tmod w=0
  ·rw[tz,show(0:Int).sign=0 from rfl,show((0:Int) !=0)=false from rfl,Ab]
  ·have sp:(z.tmod w).sign=1:=Ck (by omega);rw[sp,show((1:Int) !=0)=true from rfl,Ac];rw[sp]at g1;rw[sw]at g2
   try simp (disch:=omega) only[g1,rr]
   try simp (disch:=omega) only[g2,rr]
   try simp only[show((1:Int) !=1)=false from rfl,rr]
theorem wfloor_ev{q:Rat}{k d:Nat}(hk:k<=100000000000)(h:Bd k q)(hd:dn d=q.den):Ev En 91 [zb (q).num,wl (q).num,.bool false,wL (d)] [zb (q1d q),wl (q1d q)]:=by
 obtain⟨n1,h1⟩:=q6a (l:=(dg 1000000000 q.num.natAbs).map d64) (b:=decide (q.num<0)) (d:=d);rw[hd]at h1;obtain⟨n2,h2⟩:=wdm_ev (z:=q.num) (w:=(q.den:Int)) hk (den_pos q) h.1 h.2;rw[q3y,q1u]at h2;refine Ev.of (n1+n2) λn hn=>?_;rw[qod]
 try simp (disch:=omega) only[h1,rr]
 try simp (disch:=omega) only[h2,rr]
 rfl
theorem rest_eq(q:Rat):(q-(q1d q:Rat))*((q.den:Int):Rat)=(q2c q:Rat):=by
 have e:(q.num:Rat)=((q.den:Int):Rat)*(q1d q:Rat)+(q2c q:Rat):=by
  rw[<- Rat.intCast_mul,<- DB];unfold q1d q2c;rw[Int.mul_ediv_add_emod]
 have p:((0:Int):Rat)<((q.den:Int):Rat):=DC.2 (den_pos q);have e2:q*((q.den:Int):Rat)=(q.num:Rat):=by
  have e3:(q.num:Rat) / ((q.den:Int):Rat)=q:=by rw[<- Rat.divInt_eq_div,Cp]
  have ne:((q.den:Int):Rat)≠0:=λh=>by rw[h]at p;exact absurd p (by decide)
  calc q*((q.den:Int):Rat)=(q.num:Rat) / ((q.den:Int):Rat)*((q.den:Int):Rat):=by rw[e3]
   _=(q.num:Rat):=Rat.div_mul_cancel ne
 grind
theorem half_gt(q:Rat):((1:Int):Rat)<(q-(q1d q:Rat))*((2:Int):Rat)↔(q.den:Int)<q2c q+q2c q:=by
 have p:((0:Int):Rat)<((q.den:Int):Rat):=DC.2 (den_pos q);have e:=rest_eq q;rw[<- Fy (c:=((q.den:Int):Rat)) p,<- DC,DB,<- e,show((1:Int):Rat)=1 from rfl,show((2:Int):Rat)=2 from rfl];constructor <;> intro h <;> grind
theorem half_lt(q:Rat):(q-(q1d q:Rat))*((2:Int):Rat)<((1:Int):Rat)↔q2c q+q2c q<(q.den:Int):=by
 have p:((0:Int):Rat)<((q.den:Int):Rat):=DC.2 (den_pos q);have e:=rest_eq q;rw[<- Fy (c:=((q.den:Int):Rat)) p,<- DC,DB,<- e,show((1:Int):Rat)=1 from rfl,show((2:Int):Rat)=2 from rfl];constructor <;> intro h <;> grind
theorem wround_ev{q:Rat}{k d:Nat}(hk:16*k+100<=100000000000)(hk1:1<=k)(h:Bd k q)(hd:dn d=q.den):Ev En 24 [zb (q).num,wl (q).num,.bool false,wL (d)] [zb (q2b q),wl (q2b q)]:=by
 have two:=two_bd hk1;have hf:(q1d q).natAbs<2^(k+1):=qf6 (den_pos q) h.1;have bf:Bd (k+1) (q1d q:Rat):=Bd.int (k:=k+1) hf (by omega);have b2:Bd (k+1) ((2:Int):Rat):=Bd.int (k:=k+1) (by rw[Ax];omega) (by omega);have b1:Bd (k+1) ((1:Int):Rat):=Bd.int (k:=k+1) (by rw[Ax];omega) (by omega);have bq:Bd (k+1) q:=h.mono;have bx:=bq.sub bf;have by2:=bx.mul b2;obtain⟨n1,h1⟩:=wfloor_ev (by omega:k<=100000000000) h hd;obtain⟨n2,h2⟩:=qd5;obtain⟨n3,h3⟩:=qey (k:=k+1) (d:=d) (e:=1) (by omega) bq bf hd rfl;rw[show zb ((q1d q:Rat)).num=zb (q1d q) from rfl,show wl ((q1d q:Rat)).num=wl (q1d q) from rfl]at h3;obtain⟨n4,h4⟩:=qa2 (z:=2);obtain⟨n5,h5⟩:=qcm (k:=k+1+(k+1)+1) (by omega) bx (b2.mono) (qc _) (qc _);obtain⟨n6,h6⟩:=qa2 (z:=1);obtain⟨n7,h7⟩:=qil (k:=k+1+(k+1)+1+(k+1)) (by omega) by2 (b1.mono) (qc _) (qc _);obtain⟨n8,h8⟩:=qd3 (z:=2);obtain⟨n9,h9⟩:=wdm_ev (z:=q1d q) (w:=2) (k:=k+1) (by omega) (by omega) hf (by rw[Ax];omega);obtain⟨m1,g1⟩:=qd4 (z:=q1d q) (w:=1) (k:=k+1) (by omega) hf (by rw[Ax];omega);rw[show zb (1:Int)=.bool false from rfl,show wl (1:Int)=wL 1 from rfl]at g1;have c:=q57 (q:=(q-(q1d q:Rat))*((2:Int):Rat)) (r:=((1:Int):Rat));have c':=q4d (q:=(q-(q1d q:Rat))*((2:Int):Rat)) (r:=((1:Int):Rat));unfold cmpQ at c c';rw[BW,half_gt]at c;rw[BW,half_lt]at c';refine Ev.of (n1+n2+n3+n4+n5+n6+n7+n8+n9+m1+1) λn hn=>?_;obtain⟨n,rfl⟩:=qSx n;have g2:=q8c (n:=n) (z:=q1d q%2);rw[qoe]
 try simp (disch:=omega) only[h1,rr]
 try simp (disch:=omega) only[h2,rr]
 try simp (disch:=omega) only[h3,rr]
 try simp (disch:=omega) only[h4,rr]
 try simp (disch:=omega) only[h5,rr]
 try simp (disch:=omega) only[h6,rr]
 try simp (disch:=omega) only[h7,rr]
 try simp (disch:=omega) only[h8,rr]
 try simp (disch:=omega) only[h9,rr]
 revert h7 c c';generalize q20 ((((q-(q1d q:Rat))*((2:Int):Rat)).num)*(((1:Int):Rat).den:Int)) ((((1:Int):Rat).num)*(((q-(q1d q:Rat))*((2:Int):Rat)).den:Int))=C;intro h7 c c';unfold q2b;by_cases c1:(q.den:Int)<q2c q+q2c q
 ·rw[Af (c.2 c1),Ac,if_pos (.inl c1)]
  try simp (disch:=omega) only[h2,rr]
  try simp (disch:=omega) only[g1,rr]
 ·rw[Ad (λx=>c1 (c.1 x)),Ab];by_cases c2:q2c q+q2c q=(q.den:Int)
  ·have c0:C=0:=by
    have d1:¬ C>0:=λx=>c1 (c.1 x);have d2:¬ C<0:=λx=>by have:=c'.1 x;omega
    omega
   rw[c0,show((0:Int)==0)=true from rfl,Ac]
   try simp (disch:=omega) only[g2,rr]
   by_cases c3:q1d q%2=0
   ·rw[c3,show(0:Int).sign=0 from rfl,show((0:Int) !=0)=false from rfl,Ab,if_neg (by omega)]
   ·have c4:q1d q%2=1:=by omega
    rw[c4,show(1:Int).sign=1 from rfl,show((1:Int) !=0)=true from rfl,Ac,if_pos (.inr ⟨c2,by omega⟩)]
    try simp (disch:=omega) only[h2,rr]
    try simp (disch:=omega) only[g1,rr]
  ·have c0:C≠0:=λx=>by
    have d1:¬ q2c q+q2c q<(q.den:Int):=λy=>by have:=c'.2 y;omega
    omega
   rw[show(C==0)=false from by simpa using c0,Ab,if_neg (by omega)]
end Rf
section
namespace Rf
open Go
def q5o(r:Nat):Bool:=(decide (97<=r)&&decide (r<=122))||(decide (945<=r)&&decide (r<=969))
def nameF(s:ByteArray):Nat->Nat->Nat->Bool
 |0,_,n=>decide (1<=n)&&decide (n<=8)
 |b+1,pos,n=>if pos<s.size then(if q5o (Utf8.decode s pos).1 then nameF s b (pos+(Utf8.decode s pos).2) (n+1)else false)else decide (1<=n)&&decide (n<=8)
def q2t(s:ByteArray):Bool:=nameF s s.size 0 0
def nameExt:List FV->Option (List FV)
 |[.str s]=>if s.size<=1125899906842624 then some [.bool (q2t s)]else none
 |_=>none
def itoaExt:List FV->Option (List FV)
 |[.int .i64 z]=>if 0<=z/\z<100 then some [.str (txt (qk z.toNat))]else none
 |_=>none
def sortL(l:List (List UInt8)):List (List UInt8):=l.mergeSort λx y=>decide (x<=y)
def sortExt:List FV->Option (List FV)
 |[.list 1 xs]=>if xs.all q69=true/\xs.length<=1125899906842624 then some [.list 1 ((sortL (xs.map byts)).map sF)]else none
 |_=>none
def qbn:List FV->Option (List FV)
 |[.list 1 xs]=>if xs.all q69=true/\xs.length<=1125899906842624 then some [.list 1 ((Lib.compact (xs.map byts)).map sF)]else none
 |_=>none
def enT(x:List UInt8×List UInt8):FV:=.agg [sF x.1,sF x.2]
open Classical in
noncomputable def sameExt:List FV->Option (List FV)
 |[.list 2 xs,.list 2 ys]=>if ∃l:List (List UInt8×List UInt8),xs=l.map enT/\ys=l.map enT/\l.length<=1000000000 then some [.bool true]else none
 |_=>none
def rndF:List Nat:=[83,84,85,24,25,43,79,26]
noncomputable def extD:XT:=(36,sameExt)::(86,qbn)::(81,sortExt)::(90,itoaExt)::(87,nameExt)::(97,nameExt)::(lims EnB [15,17]++(lims En rndF++extN))
noncomputable def EnD:Env:=⟨Go.Proofs.Tryz.prog,fcT,tyT,fnT,λf=>lookN f extD⟩
theorem envOkD:q14 EnD:=⟨λ_ _ h=>qco qcp h,λ_ _ h=>Av.1 qcq _ (q90 h),λ_ _ h=>qcr qcs h,Checked.mixed Go.Proofs.Tryz.checked⟩
end Rf
end
namespace Rf
open Go
noncomputable section
section
variable (n m:Nat)
variable (E8 D9 D0 E7 w C0 u C7 G A2 D4 B2 C9 A5 B8 D5 D1 E1 E4:Bool)
variable (c a b d s e j y x q A0 i g t A4 A8 p l B7 C6 B0 E0 E3:List FV)
variable (B6:Nat)
variable (C8 C3 C k F A3 A9 B D D3 C5 C2 B1 D7 D8:ByteArray)
variable (o z r f H E6 E9 v J A A7 B3 h E I B4 A6 B9 A1 B5 E2 C4 C1 D2 E5 D6:Int)
def q1n.l5(n:Nat):=Lp EnD n 23 [1,1,1,0,1,0]
def q1n.l10(n:Nat):=Lp EnD n 23 [1,1,1,1,0,1,0]
def q1n.l19(n:Nat):=Lp EnD n 23 [1,1,1,1,1,1,1,1,1,0,1,0]
def q1n.l27(n:Nat):=Lp EnD n 23 [1,1,1,1,1,1,1,1,1,1,0,1,0]
theorem q1n.q1h:q1n.l5 n [] (m+1) (k5 o z b f H (k8 e j y x B D A2 h [.list 7 t,.list 8 A4,iL A8,.list 7 p,iI B9,iI A1])) =
(cond (A1<B9) ((ix A1 p.length).bind λK=> (asStr (at' p K 0)).bind λM=> (asInt .i64 (at' p K 1)).bind λN=> (asInt .i64 (at' p K 2)).bind λO=> (asInt .i64 (at' p K 3)).bind λP=> (asBool (at' p K 4)).bind λQ=> (asInt .i64 (at' p K 5)).bind λR=> (asInt .i64 (at' p K 6)).bind λS=>
(cond (Nat.ble (A8.length+(qb 1 (.str { data:=#[] }) [(0,(.str M))]).length) 8796093022208) (q1n.l5 n [] m (k5 o z b f H (k8 e j y x B D A2 h [.list 7 t,.list 8 A4,iL (A8++(qb 1 (.str { data:=#[] }) [(0,(.str M))])),.list 7 p,iI B9,iI (w6 (A1+1))]))) none)) (q1n.l10 n [] n (k5 o z b f H (k8 e j y x B D A2 h [.list 7 t,.list 8 A4,iL A8,.list 8 A4,iI (A4.length:Int),iI 0])))):=by kernel_rfl
theorem q1n.q45:q1n.l10 n [] (m+1) (k5 o z b f H (k8 e j y x B D A2 h [.list 7 t,.list 8 A4,iL A8,.list 8 p,iI B9,iI A1])) =
(cond (A1<B9) ((ix A1 p.length).bind λK=> (asStr (at' p K 0)).bind λM=> (asInt .i64 (at' p K 1)).bind λR=> (asInt .i64 (at' p K 2)).bind λS=> (asBool (at' p K 3)).bind λT=> (asInt .i64 (at' p K 4)).bind λU=> (asLst 1 (at' p K 5)).bind λV=> (asInt .i64 (at' p K 6)).bind λW=> (asInt .i64 (at' p K 7)).bind λX=>
(cond (Nat.ble (A8.length+(qb 1 (.str { data:=#[] }) [(0,(.str M))]).length) 8796093022208) (q1n.l10 n [] m (k5 o z b f H (k8 e j y x B D A2 h [.list 7 t,.list 8 A4,iL (A8++(qb 1 (.str { data:=#[] }) [(0,(.str M))])),.list 8 p,iI B9,iI (w6 (A1+1))]))) none)) ((evF EnD n 81 [iL A8]).bind λO=> (asLst 1 O[0]?).bind λP=>(evF EnD n 86 [iL P]).bind λQ=> (asLst 1 Q[0]?).bind λN=>q1n.l19 n [] n (k5 o z b f H (k8 e j y x B D A2 h [.list 2 [],iL [],.bool false,.list 7 t,.list 8 A4,iL N,iI (N.length:Int),iI 0])))):=by kernel_rfl
theorem q1n.q4j:q1n.l19 n [] (m+1) (k5 o z b f H (k8 e j y x B D A2 h [.list 2 t,iL A4,.bool A5,.list 7 p,.list 8 l,iL B7,iI B5,iI E2])) =
(cond (E2<B5) ((ix E2 B7.length).bind λO=> (asStr (at' B7 O 0)).bind λM=> (evF EnD n 87 [.str M]).bind λP=> (asBool P[0]?).bind λQ=>
(cond (!Q) (some [.list 2 [],iI 1]) ((evF EnD n 88 (.list 7 p::.list 8 l::k8 e j y x B D A2 h [.str M])).bind λK=> (asLst 1 K[0]?).bind λR=>(asBool K[1]?).bind λS=>(asLst 1 K[2]?).bind λT=>(asBool K[3]?).bind λU=>(asBool K[4]?).bind λY=>
(cond (((4+M.size):Int)>9223372036854775807) none ((evF EnD n 82 (.str ({ data:=#[119,104,111,45] }++M)::iL R::kQ S T U A4 [.bool A5,.list 2 t])).bind λN=> (asLst 1 N[0]?).bind λV=>(asBool N[1]?).bind λW=>(asLst 2 N[2]?).bind λX=>q1n.l19 n [] m (k5 o z b f H (k8 e j y x B D A2 h [.list 2 X,iL V,.bool W,.list 7 p,.list 8 l,iL B7,iI B5,iI (w6 (E2+1))]))))))) (q1n.l27 n [] n (k8 e j y x B D A2 h [.list 2 t,iL A4,.bool A5,.list 3 b,iI (b.length:Int),iI 0]))):=by kernel_rfl
theorem q1n.l27_eq:q1n.l27 n [] (m+1) (k8 c a b d C k w v [.list 2 x,iL q,.bool G,.list 3 i,iI h,iI E]) =
(cond (E<h) ((ix E i.length).bind λM=> (asInt .i64 (at' i M 0)).bind λQ=> (asInt .i64 (at' i M 1)).bind λR=> (asInt .i64 (at' i M 2)).bind λS=> (evF EnD n 89 (iI Q::iI R::iI S::k8 c a b d C k w v [iI E])).bind λK=> (asLst 1 K[0]?).bind λT=>(asBool K[1]?).bind λU=>(asLst 1 K[2]?).bind λV=>(asBool K[3]?).bind λW=>(asBool K[4]?).bind λc9=>(evF EnD n 90 [iI E]).bind λX=> (asStr X[0]?).bind λO=>
(cond (((5+O.size):Int)>9223372036854775807) none ((evF EnD n 82 (.str ({ data:=#[108,105,110,101,45] }++O)::iL T::kQ U V W q [.bool G,.list 2 x])).bind λN=> (asLst 1 N[0]?).bind λY=>(asBool N[1]?).bind λZ=>(asLst 2 N[2]?).bind λv15=>q1n.l27 n [] m (k8 c a b d C k w v [.list 2 v15,iL Y,.bool Z,.list 3 i,iI h,iI (w6 (E+1))])))) ((evF EnD n 85 [iL q,.bool G]).bind λr16=> (asStr r16[0]?).bind λP=>
(cond (Nat.ble (x.length+(qb 1 (.agg [.str { data:=#[] },.str { data:=#[] }]) [(0,(.agg [.str { data:=#[114,111,117,110,100] },.str P]))]).length) 4398046511104) (some [.list 2 (x++(qb 1 (.agg [.str { data:=#[] },.str { data:=#[] }]) [(0,(.agg [.str { data:=#[114,111,117,110,100] },.str P]))])),iI 0]) none))):=by kernel_rfl
theorem qr5:evF EnD (n+1) 23 (k15 o z b f H e j y x q A0 D3 C5 B2 I [])=(evF EnD n 15 (k15 o z b f H e j y x q A0 D3 C5 B2 I [])).bind λK=> (asInt .i64 (K[0]?)).bind λM=>
(cond (M !=0) (some [.list 2 [],iI 1]) (q1n.l5 n [] n (k5 o z b f H (k8 y x q A0 D3 C5 B2 I [.list 7 e,.list 8 j,iL [],.list 7 e,iI (e.length:Int),iI 0])))):=by kernel_rfl
def q40.l7(n:Nat):=Lp EnD n 27 [1,1,1,1,1,0,1,0]
def q40.l18(n:Nat):=Lp EnD n 27 [1,1,1,1,1,1,0,1,0]
theorem q40.q3a:q40.l7 n [] (m+1) (k5 o z b f H (k8 e j y x B D A2 h (kQ B2 A4 A5 p [.list 7 l,.list 8 B7,iL C6,.list 2 B0,iI C4]))) =
(cond (C4<(C6.length:Int)) ((ix C4 C6.length).bind λW=> (asStr (at' C6 W 0)).bind λX=> (evF EnD n 97 [.str X]).bind λY=> (asBool Y[0]?).bind λZ=>
(cond (!Z) (some [.list 2 [],iI 1]) ((ix C4 C6.length).bind λi4=> (asStr (at' C6 i4 0)).bind λu5=> (evF EnD n 33 (.list 7 l::.list 8 B7::k8 e j y x B D A2 h [.str u5])).bind λQ=> (asStr Q[0]?).bind λu7=>(asInt .i64 Q[1]?).bind λn8=>(evF EnD n 22 [.str u7]).bind λK=> (asBool K[0]?).bind λc10=>(asLst 1 K[1]?).bind λv11=>(asBool K[2]?).bind λc12=>(asLst 1 K[3]?).bind λv13=>(asInt .i64 K[4]?).bind λn14=>(evF EnD n 24 (kQ c10 v11 c12 v13 [])).bind λR=> (asBool R[0]?).bind λS=>(asLst 1 R[1]?).bind λT=>(evF EnD n 12 [iI 1]).bind λN=> (asBool N[0]?).bind λc19=>(asLst 1 N[1]?).bind λv20=>(asBool N[2]?).bind λc21=>(asLst 1 N[3]?).bind λv22=>(evF EnD n 43 (kQ c19 v20 c21 v22 [])).bind λU=> (asBool U[0]?).bind λc24=>(asLst 1 U[1]?).bind λv25=>(evF EnD n 79 (kQ S T c24 v25 [])).bind λM=> (asBool M[0]?).bind λc27=>(asLst 1 M[1]?).bind λv28=>(asBool M[2]?).bind λc29=>(asLst 1 M[3]?).bind λv30=>(asInt .i64 M[4]?).bind λn31=>(evF EnD n 37 (kQ B2 A4 A5 p (kQ c27 v28 c29 v30 []))).bind λO=> (asBool O[0]?).bind λc33=>(asLst 1 O[1]?).bind λv34=>(asBool O[2]?).bind λc35=>(asLst 1 O[3]?).bind λv36=>(ix C4 C6.length).bind λi37=> (asStr (at' C6 i37 0)).bind λP=>
(cond (((4+P.size):Int)>9223372036854775807) none ((evF EnD n 25 [.bool S,iL T]).bind λr39=> (asStr r39[0]?).bind λV=>
(cond (Nat.ble (B0.length+(qb 1 (.agg [.str { data:=#[] },.str { data:=#[] }]) [(0,(.agg [.str ({ data:=#[119,104,111,45] }++P),.str V]))]).length) 4398046511104) (q40.l7 n [] m (k5 o z b f H (k8 e j y x B D A2 h (kQ c33 v34 c35 v36 [.list 7 l,.list 8 B7,iL C6,.list 2 (B0++(qb 1 (.agg [.str { data:=#[] },.str { data:=#[] }]) [(0,(.agg [.str ({ data:=#[119,104,111,45] }++P),.str V]))])),iI (w6 (C4+1))])))) none)))))) (q40.l18 n [] n (k5 o z b f H (k8 e j y x B D A2 h (kQ B2 A4 A5 p [.list 2 B0,iI 0]))))):=by kernel_rfl
theorem q40.q7n:q40.l18 n [] (m+1) (k5 o z b f H (k8 e j y x B D A2 h (kQ B2 A4 A5 p [.list 2 l,iI A1]))) =
(cond (A1<(b.length:Int)) ((evF EnD n 35 (k5 o z b f H (k8 e j y x B D A2 h [iI A1]))).bind λS=> (asStr S[0]?).bind λZ=>(asInt .i64 S[1]?).bind λn2=>(evF EnD n 22 [.str Z]).bind λK=> (asBool K[0]?).bind λc4=>(asLst 1 K[1]?).bind λv5=>(asBool K[2]?).bind λc6=>(asLst 1 K[3]?).bind λv7=>(asInt .i64 K[4]?).bind λn8=>(evF EnD n 24 (kQ c4 v5 c6 v7 [])).bind λT=> (asBool T[0]?).bind λU=>(asLst 1 T[1]?).bind λV=>(evF EnD n 12 [iI 1]).bind λN=> (asBool N[0]?).bind λc13=>(asLst 1 N[1]?).bind λv14=>(asBool N[2]?).bind λc15=>(asLst 1 N[3]?).bind λv16=>(evF EnD n 43 (kQ c13 v14 c15 v16 [])).bind λW=> (asBool W[0]?).bind λc18=>(asLst 1 W[1]?).bind λv19=>(evF EnD n 79 (kQ U V c18 v19 [])).bind λM=> (asBool M[0]?).bind λc21=>(asLst 1 M[1]?).bind λv22=>(asBool M[2]?).bind λc23=>(asLst 1 M[3]?).bind λv24=>(asInt .i64 M[4]?).bind λn25=>(evF EnD n 37 (kQ B2 A4 A5 p (kQ c21 v22 c23 v24 []))).bind λO=> (asBool O[0]?).bind λc27=>(asLst 1 O[1]?).bind λv28=>(asBool O[2]?).bind λc29=>(asLst 1 O[3]?).bind λv30=>(bd (w6 (A1+1)) 10).bind λP=> (bd A1 P).bind λR=>
(cond (((5+(({ data:=#[48,49,50,51,52,53,54,55,56,57] }:ByteArray).extract R P).size):Int)>9223372036854775807) none ((evF EnD n 25 [.bool U,iL V]).bind λr33=> (asStr r33[0]?).bind λX=>
(cond (Nat.ble (l.length+(qb 1 (.agg [.str { data:=#[] },.str { data:=#[] }]) [(0,(.agg [.str ({ data:=#[108,105,110,101,45] }++(({ data:=#[48,49,50,51,52,53,54,55,56,57] }:ByteArray).extract R P)),.str X]))]).length) 4398046511104) (q40.l18 n [] m (k5 o z b f H (k8 e j y x B D A2 h (kQ c27 v28 c29 v30 [.list 2 (l++(qb 1 (.agg [.str { data:=#[] },.str { data:=#[] }]) [(0,(.agg [.str ({ data:=#[108,105,110,101,45] }++(({ data:=#[48,49,50,51,52,53,54,55,56,57] }:ByteArray).extract R P)),.str X]))])),iI (w6 (A1+1))])))) none)))) ((evF EnD n 39 (kQ B2 A4 A5 p [])).bind λQ=> (asBool Q[0]?).bind λc36=>(asLst 1 Q[1]?).bind λv37=>(asBool Q[2]?).bind λc38=>(asLst 1 Q[3]?).bind λv39=>(evF EnD n 14 (kQ c36 v37 c38 v39 [])).bind λr40=> (asStr r40[0]?).bind λY=>
(cond (Nat.ble (l.length+(qb 1 (.agg [.str { data:=#[] },.str { data:=#[] }]) [(0,(.agg [.str { data:=#[114,111,117,110,100] },.str Y]))]).length) 4398046511104) (some [.list 2 (l++(qb 1 (.agg [.str { data:=#[] },.str { data:=#[] }]) [(0,(.agg [.str { data:=#[114,111,117,110,100] },.str Y]))])),iI 0]) none))):=by kernel_rfl
theorem qr6:evF EnD (n+1) 27 (k15 o z b f H e j y x q A0 D3 C5 B2 I [])=(evF EnD n 17 (k15 o z b f H e j y x q A0 D3 C5 B2 I [])).bind λM=> (asInt .i64 (M[0]?)).bind λN=>
(cond (N !=0) (some [.list 2 [],iI 1]) ((evF EnD n 28 [.list 7 e,.list 8 j]).bind λO=> (asLst 1 O[0]?).bind λP=>(evF EnD n 12 [iI 0]).bind λK=> (asBool K[0]?).bind λQ=>(asLst 1 K[1]?).bind λR=>(asBool K[2]?).bind λS=>(asLst 1 K[3]?).bind λT=>q40.l7 n [] n (k5 o z b f H (k8 y x q A0 D3 C5 B2 I (kQ Q R S T [.list 7 e,.list 8 j,iL P,.list 2 (qb 0 (.agg [.str { data:=#[] },.str { data:=#[] }]) []),iI 0]))))):=by kernel_rfl
def q1m.l3(n:Nat):=Lp EnD n 28 [1,1,0,1,0]
def q1m.l7(n:Nat):=Lp EnD n 28 [1,1,1,0,1,0]
def q1m.l12(n:Nat):=Lp EnD n 28 [1,1,1,1,1,0,1,0]
def q1m.l15(n:Nat):=Lp EnD n 28 [1,1,1,1,1,0,1,0,0,1,0,0,1,0,0]
theorem q1m.qq:q1m.l3 n [] (m+1) [.list 7 c,.list 8 a,iL b,iI f] =
(cond (f<(c.length:Int)) ((ix f c.length).bind λM=> (asStr (at' c M 0)).bind λK=>
(cond (Nat.ble (b.length+(qb 1 (.str { data:=#[] }) [(0,(.str K))]).length) 8796093022208) (q1m.l3 n [] m [.list 7 c,.list 8 a,iL (b++(qb 1 (.str { data:=#[] }) [(0,(.str K))])),iI (w6 (f+1))]) none)) (q1m.l7 n [] n [.list 8 a,iL b,iI 0])):=by kernel_rfl
theorem q1m.q3a:q1m.l7 n [] (m+1) [.list 8 c,iL a,iI r] =
(cond (r<(c.length:Int)) ((ix r c.length).bind λM=> (asStr (at' c M 0)).bind λK=>
(cond (Nat.ble (a.length+(qb 1 (.str { data:=#[] }) [(0,(.str K))]).length) 8796093022208) (q1m.l7 n [] m [.list 8 c,iL (a++(qb 1 (.str { data:=#[] }) [(0,(.str K))])),iI (w6 (r+1))]) none)) (q1m.l12 n [] n [iL a,iL (qb 0 (.str { data:=#[] }) []),iI 0])):=by kernel_rfl
theorem q1m.q58:q1m.l12 n [] (m+1) [iL c,iL a,iI r] =
(cond (r<(c.length:Int)) (q1m.l15 n [m] n [iL c,iL a,iI r,iI 0]) (some [iL a])):=by kernel_rfl
theorem q1m.qbm:q1m.l15 n [B6] (m+1) [iL c,iL a,iI r,iI f] =
(cond (f<(a.length:Int)) ((ix f a.length).bind λX=> (asStr (at' a X 0)).bind λY=> (ix r c.length).bind λZ=> (asStr (at' c Z 0)).bind λu3=>
(cond (Go.Op.bytesLess Y.toList u3.toList) (q1m.l15 n [B6] m [iL c,iL a,iI r,iI (w6 (f+1))]) (cond (f<(a.length:Int)) ((ix f a.length).bind λi4=> (asStr (at' a i4 0)).bind λu5=> (ix r c.length).bind λi6=> (asStr (at' c i6 0)).bind λu7=>
(cond (u5.toList==u7.toList) (q1m.l12 n [] B6 [iL c,iL a,iI (w6 (r+1))]) ((bd f a.length).bind λK=>
(cond (Nat.ble ((qb 0 (.str { data:=#[] }) []).length+(List.drop 0 (List.take K a)).length) 8796093022208) ((ix r c.length).bind λi9=> (asStr (at' c i9 0)).bind λP=>
(cond (Nat.ble (((qb 0 (.str { data:=#[] }) [])++(List.drop 0 (List.take K a))).length+(qb 1 (.str { data:=#[] }) [(0,(.str P))]).length) 8796093022208) ((bd f a.length).bind λT=>
(cond (Nat.ble ((((qb 0 (.str { data:=#[] }) [])++(List.drop 0 (List.take K a)))++(qb 1 (.str { data:=#[] }) [(0,(.str P))])).length+(List.drop T (List.take a.length a)).length) 8796093022208) (q1m.l12 n [] B6 [iL c,iL ((((qb 0 (.str { data:=#[] }) [])++(List.drop 0 (List.take K a)))++(qb 1 (.str { data:=#[] }) [(0,(.str P))]))++(List.drop T (List.take a.length a))),iI (w6 (r+1))]) none)) none)) none)))) ((bd f a.length).bind λM=>
(cond (Nat.ble ((qb 0 (.str { data:=#[] }) []).length+(List.drop 0 (List.take M a)).length) 8796093022208) ((ix r c.length).bind λi13=> (asStr (at' c i13 0)).bind λQ=>
(cond (Nat.ble (((qb 0 (.str { data:=#[] }) [])++(List.drop 0 (List.take M a))).length+(qb 1 (.str { data:=#[] }) [(0,(.str Q))]).length) 8796093022208) ((bd f a.length).bind λU=>
(cond (Nat.ble ((((qb 0 (.str { data:=#[] }) [])++(List.drop 0 (List.take M a)))++(qb 1 (.str { data:=#[] }) [(0,(.str Q))])).length+(List.drop U (List.take a.length a)).length) 8796093022208) (q1m.l12 n [] B6 [iL c,iL ((((qb 0 (.str { data:=#[] }) [])++(List.drop 0 (List.take M a)))++(qb 1 (.str { data:=#[] }) [(0,(.str Q))]))++(List.drop U (List.take a.length a))),iI (w6 (r+1))]) none)) none)) none))))) (cond (f<(a.length:Int)) ((ix f a.length).bind λi16=> (asStr (at' a i16 0)).bind λu17=> (ix r c.length).bind λi18=> (asStr (at' c i18 0)).bind λu19=>
(cond (u17.toList==u19.toList) (q1m.l12 n [] B6 [iL c,iL a,iI (w6 (r+1))]) ((bd f a.length).bind λN=>
(cond (Nat.ble ((qb 0 (.str { data:=#[] }) []).length+(List.drop 0 (List.take N a)).length) 8796093022208) ((ix r c.length).bind λi21=> (asStr (at' c i21 0)).bind λR=>
(cond (Nat.ble (((qb 0 (.str { data:=#[] }) [])++(List.drop 0 (List.take N a))).length+(qb 1 (.str { data:=#[] }) [(0,(.str R))]).length) 8796093022208) ((bd f a.length).bind λV=>
(cond (Nat.ble ((((qb 0 (.str { data:=#[] }) [])++(List.drop 0 (List.take N a)))++(qb 1 (.str { data:=#[] }) [(0,(.str R))])).length+(List.drop V (List.take a.length a)).length) 8796093022208) (q1m.l12 n [] B6 [iL c,iL ((((qb 0 (.str { data:=#[] }) [])++(List.drop 0 (List.take N a)))++(qb 1 (.str { data:=#[] }) [(0,(.str R))]))++(List.drop V (List.take a.length a))),iI (w6 (r+1))]) none)) none)) none)))) ((bd f a.length).bind λO=>
(cond (Nat.ble ((qb 0 (.str { data:=#[] }) []).length+(List.drop 0 (List.take O a)).length) 8796093022208) ((ix r c.length).bind λi25=> (asStr (at' c i25 0)).bind λS=>
(cond (Nat.ble (((qb 0 (.str { data:=#[] }) [])++(List.drop 0 (List.take O a))).length+(qb 1 (.str { data:=#[] }) [(0,(.str S))]).length) 8796093022208) ((bd f a.length).bind λW=>
(cond (Nat.ble ((((qb 0 (.str { data:=#[] }) [])++(List.drop 0 (List.take O a)))++(qb 1 (.str { data:=#[] }) [(0,(.str S))])).length+(List.drop W (List.take a.length a)).length) 8796093022208) (q1m.l12 n [] B6 [iL c,iL ((((qb 0 (.str { data:=#[] }) [])++(List.drop 0 (List.take O a)))++(qb 1 (.str { data:=#[] }) [(0,(.str S))]))++(List.drop W (List.take a.length a))),iI (w6 (r+1))]) none)) none)) none)))):=by kernel_rfl
theorem qqr:evF EnD (n+1) 28 [.list 7 c,.list 8 a]=q1m.l3 n [] n [.list 7 c,.list 8 a,iL (qb 0 (.str { data:=#[] }) []),iI 0]:=by kernel_rfl
def q19.l3(n:Nat):=Lp EnD n 33 [1,1,0,1,0]
def q19.l17(n:Nat):=Lp EnD n 33 [1,1,1,0,1,0]
def q19.l24(n:Nat):=Lp EnD n 33 [1,1,1,0,1,0,0,1,0,0,1,1,1,1,0]
theorem q19.qq:q19.l3 n [] (m+1) (k8 c a b d C k w v (kQ u q G i [.list 7 g,.list 8 t,.str B1,iI B4])) =
(cond (B4<(g.length:Int)) ((ix B4 g.length).bind λK=> (asStr (at' g K 0)).bind λu1=> (asInt .i64 (at' g K 1)).bind λn2=> (asInt .i64 (at' g K 2)).bind λn3=> (asInt .i64 (at' g K 3)).bind λn4=> (asBool (at' g K 4)).bind λc5=> (asInt .i64 (at' g K 5)).bind λn6=> (asInt .i64 (at' g K 6)).bind λn7=>
(cond (!(u1.toList==B1.toList)) (q19.l3 n [] m (k8 c a b d C k w v (kQ u q G i [.list 7 g,.list 8 t,.str B1,iI (w6 (B4+1))]))) (cond (B4≥(a.length:Int)) (some [.str { data:=#[] },iI 120]) ((ix B4 a.length).bind λi8=> (asStr (at' a i8 0)).bind λu9=> (evF EnD n 22 [.str u9]).bind λM=> (asBool M[0]?).bind λT=>(asLst 1 M[1]?).bind λU=>(asBool M[2]?).bind λV=>(asLst 1 M[3]?).bind λW=>(asInt .i64 M[4]?).bind λn15=>(evF EnD n 101 (k8 c a b d C k w v [iI n4,iI n3])).bind λN=> (asBool N[0]?).bind λX=>(asLst 1 N[1]?).bind λY=>(asBool N[2]?).bind λZ=>(asLst 1 N[3]?).bind λv20=>(asBool N[4]?).bind λc21=>
(cond (n15 !=0) (some [.str { data:=#[] },iI 120]) (cond (!c21) (some [.str { data:=#[] },iI 120]) (cond c5 ((evF EnD n 39 (kQ T U V W [])).bind λO=> (asBool O[0]?).bind λc23=>(asLst 1 O[1]?).bind λv24=>(asBool O[2]?).bind λc25=>(asLst 1 O[3]?).bind λv26=>(evF EnD n 13 (kQ c23 v24 c25 v26 (kQ X Y Z v20 []))).bind λP=> (asBool P[0]?).bind λc28=>(asLst 1 P[1]?).bind λv29=>(asBool P[2]?).bind λc30=>(asLst 1 P[3]?).bind λv31=>(evF EnD n 37 (kQ u q G i (kQ c28 v29 c30 v31 []))).bind λQ=> (asBool Q[0]?).bind λc33=>(asLst 1 Q[1]?).bind λv34=>(asBool Q[2]?).bind λc35=>(asLst 1 Q[3]?).bind λv36=>q19.l3 n [] m (k8 c a b d C k w v (kQ c33 v34 c35 v36 [.list 7 g,.list 8 t,.str B1,iI (w6 (B4+1))]))) ((evF EnD n 13 (kQ T U V W (kQ X Y Z v20 []))).bind λR=> (asBool R[0]?).bind λc38=>(asLst 1 R[1]?).bind λv39=>(asBool R[2]?).bind λc40=>(asLst 1 R[3]?).bind λv41=>(evF EnD n 37 (kQ u q G i (kQ c38 v39 c40 v41 []))).bind λS=> (asBool S[0]?).bind λc43=>(asLst 1 S[1]?).bind λv44=>(asBool S[2]?).bind λc45=>(asLst 1 S[3]?).bind λv46=>q19.l3 n [] m (k8 c a b d C k w v (kQ c43 v44 c45 v46 [.list 7 g,.list 8 t,.str B1,iI (w6 (B4+1))])))))))))) (q19.l17 n [] n (k8 c a b d C k w v (kQ u q G i [.list 8 t,.str B1,iI 0])))):=by kernel_rfl
theorem q19.l17_eq:q19.l17 n [] (m+1) (k8 c a b d C k w v (kQ u q G i [.list 8 g,.str C2,iI I])) =
(cond (I<(g.length:Int)) ((ix I g.length).bind λK=> (asStr (at' g K 0)).bind λM=> (asInt .i64 (at' g K 1)).bind λN=> (asInt .i64 (at' g K 2)).bind λO=> (asBool (at' g K 3)).bind λP=> (asInt .i64 (at' g K 4)).bind λQ=> (asLst 1 (at' g K 5)).bind λR=> (asInt .i64 (at' g K 6)).bind λS=> (asInt .i64 (at' g K 7)).bind λT=>
(cond (!(M.toList==C2.toList)) (q19.l17 n [] m (k8 c a b d C k w v (kQ u q G i [.list 8 g,.str C2,iI (w6 (I+1))]))) (cond (I≥(c.length:Int)) (some [.str { data:=#[] },iI 120]) (q19.l24 n [m] n (k8 c a b d C k w v (kQ u q G i (kB M N O P Q R S T [.list 8 g,.str C2,iI I,iI 0]))))))) ((evF EnD n 14 (kQ u q G i [])).bind λU=> (asStr U[0]?).bind λV=>some [.str V,iI 0])):=by kernel_rfl
theorem q19.qdt:q19.l24 n [B6] (m+1) (k8 c a b d C k w v (kQ u q G i (kB C5 E I A5 A6 l A1 B5 [.list 8 B0,.str D8,iI C1,iI D2]))) =
(cond (D2<(l.length:Int)) ((ix C1 c.length).bind λi0=> (asBool (at' c i0 0)).bind λc1=>
(cond c1 ((evF EnD n 101 (k8 c a b d C k w v [iI D2,iI I])).bind λK=> (asBool K[0]?).bind λS=>(asLst 1 K[1]?).bind λT=>(asBool K[2]?).bind λU=>(asLst 1 K[3]?).bind λV=>(asBool K[4]?).bind λc7=>
(cond (!c7) (some [.str { data:=#[] },iI 120]) ((ix D2 l.length).bind λi8=> (asInt .i64 (at' l i8 0)).bind λn9=> (evF EnD n 12 [iI n9]).bind λM=> (asBool M[0]?).bind λW=>(asLst 1 M[1]?).bind λX=>(asBool M[2]?).bind λY=>(asLst 1 (M[3]?)).bind λZ=>
(cond A5 ((evF EnD n 39 (kQ W X Y Z [])).bind λN=> (asBool N[0]?).bind λc16=>(asLst 1 N[1]?).bind λv17=>(asBool N[2]?).bind λc18=>(asLst 1 N[3]?).bind λv19=>(evF EnD n 13 (kQ c16 v17 c18 v19 (kQ S T U V []))).bind λO=> (asBool O[0]?).bind λc21=>(asLst 1 O[1]?).bind λv22=>(asBool O[2]?).bind λc23=>(asLst 1 O[3]?).bind λv24=>(evF EnD n 37 (kQ u q G i (kQ c21 v22 c23 v24 []))).bind λP=> (asBool P[0]?).bind λc26=>(asLst 1 P[1]?).bind λv27=>(asBool P[2]?).bind λc28=>(asLst 1 P[3]?).bind λv29=>q19.l24 n [B6] m (k8 c a b d C k w v (kQ c26 v27 c28 v29 (kB C5 E I A5 A6 l A1 B5 [.list 8 B0,.str D8,iI C1,iI (w6 (D2+1))])))) ((evF EnD n 13 (kQ W X Y Z (kQ S T U V []))).bind λQ=> (asBool Q[0]?).bind λc31=>(asLst 1 Q[1]?).bind λv32=>(asBool Q[2]?).bind λc33=>(asLst 1 Q[3]?).bind λv34=>(evF EnD n 37 (kQ u q G i (kQ c31 v32 c33 v34 []))).bind λR=> (asBool R[0]?).bind λc36=>(asLst 1 R[1]?).bind λv37=>(asBool R[2]?).bind λc38=>(asLst 1 R[3]?).bind λv39=>q19.l24 n [B6] m (k8 c a b d C k w v (kQ c36 v37 c38 v39 (kB C5 E I A5 A6 l A1 B5 [.list 8 B0,.str D8,iI C1,iI (w6 (D2+1))])))))))) (q19.l17 n [] B6 (k8 c a b d C k w v (kQ u q G i [.list 8 B0,.str D8,iI (w6 (C1+1))]))))) (q19.l17 n [] B6 (k8 c a b d C k w v (kQ u q G i [.list 8 B0,.str D8,iI (w6 (C1+1))])))):=by kernel_rfl
theorem qr7:evF EnD (n+1) 33 (.list 7 c::.list 8 a::k8 b d s e F A3 u A [.str D])=(evF EnD n 12 [iI 0]).bind λK=> (asBool K[0]?).bind λM=>(asLst 1 K[1]?).bind λN=>(asBool K[2]?).bind λO=>(asLst 1 K[3]?).bind λP=>q19.l3 n [] n (k8 b d s e F A3 u A (kQ M N O P [.list 7 c,.list 8 a,.str D,iI 0])):=by kernel_rfl
def q4y.l6(n:Nat):=Lp EnD n 35 [1,1,1,1,0,1,0]
theorem q4y.q2n:q4y.l6 n [] (m+1) (k8 c a b d C k w v (kQ u q G i [iI h,iI E,iI I,iI B4,iI A6])) =
(cond (A6<(b.length:Int)) ((ix A6 b.length).bind λS=> (asLst 1 (at' b S 0)).bind λT=>
(cond (B4≥(T.length:Int)) (some [.str { data:=#[] },iI 120]) ((ix A6 b.length).bind λU=> (asLst 1 (at' b U 0)).bind λR=> (ix B4 R.length).bind λV=> (asStr (at' R V 0)).bind λW=> (evF EnD n 22 [.str W]).bind λK=> (asBool K[0]?).bind λX=>(asLst 1 K[1]?).bind λY=>(asBool K[2]?).bind λZ=>(asLst 1 K[3]?).bind λv10=>(asInt .i64 K[4]?).bind λn11=>(evF EnD n 101 (k8 c a b d C k w v [iI A6,iI h])).bind λM=> (asBool M[0]?).bind λc13=>(asLst 1 M[1]?).bind λv14=>(asBool M[2]?).bind λc15=>(asLst 1 M[3]?).bind λv16=>(asBool M[4]?).bind λc17=>(evF EnD n 101 (k8 c a b d C k w v [iI A6,iI E])).bind λN=> (asBool N[0]?).bind λc19=>(asLst 1 N[1]?).bind λv20=>(asBool N[2]?).bind λc21=>(asLst 1 N[3]?).bind λv22=>(asBool N[4]?).bind λc23=>
(cond (n11 !=0) (some [.str { data:=#[] },iI 120]) (cond (!c17) (some [.str { data:=#[] },iI 120]) (cond (!c23) (some [.str { data:=#[] },iI 120]) ((evF EnD n 92 (kQ c19 v20 c21 v22 (kQ c13 v14 c15 v16 []))).bind λO=> (asBool O[0]?).bind λc25=>(asLst 1 O[1]?).bind λv26=>(asBool O[2]?).bind λc27=>(asLst 1 O[3]?).bind λv28=>(evF EnD n 13 (kQ X Y Z v10 (kQ c25 v26 c27 v28 []))).bind λP=> (asBool P[0]?).bind λc30=>(asLst 1 P[1]?).bind λv31=>(asBool P[2]?).bind λc32=>(asLst 1 P[3]?).bind λv33=>(evF EnD n 37 (kQ u q G i (kQ c30 v31 c32 v33 []))).bind λQ=> (asBool Q[0]?).bind λc35=>(asLst 1 Q[1]?).bind λv36=>(asBool Q[2]?).bind λc37=>(asLst 1 Q[3]?).bind λv38=>q4y.l6 n [] m (k8 c a b d C k w v (kQ c35 v36 c37 v38 [iI h,iI E,iI I,iI B4,iI (w6 (A6+1))]))))))))) ((evF EnD n 14 (kQ u q G i [])).bind λr39=> (asStr r39[0]?).bind λu40=>some [.str u40,iI 0])):=by kernel_rfl
theorem qgl:evF EnD (n+1) 35 (k5 o z b f H (k8 e j y x B D A2 h [iI E])) =
(cond (E<0) (some [.str { data:=#[] },iI 1]) (cond (E≥(b.length:Int)) (some [.str { data:=#[] },iI 1]) ((evF EnD n 12 [iI 0]).bind λK=> (asBool K[0]?).bind λN=>(asLst 1 K[1]?).bind λO=>(asBool K[2]?).bind λP=>(asLst 1 K[3]?).bind λQ=>(ix E b.length).bind λM=> (asInt .i64 (at' b M 0)).bind λR=> (asInt .i64 (at' b M 1)).bind λS=> (asInt .i64 (at' b M 2)).bind λT=> q4y.l6 n [] n (k8 e j y x B D A2 h (kQ N O P Q [iI R,iI S,iI T,iI E,iI 0]))))):=by kernel_rfl
theorem qr8:evF EnD (n+1) 82 (.str C8::iL a::kQ D9 d D0 e [.bool w,.list 2 y])=(evF EnD n 83 [iL a,.bool D9,iL d,.bool D0]).bind λK=> (asLst 1 K[0]?).bind λM=>(asBool K[1]?).bind λN=>(evF EnD n 84 [iL e,.bool w,iL M,.bool N]).bind λO=> (asLst 1 O[0]?).bind λQ=>(asBool O[1]?).bind λR=>(evF EnD n 85 [iL M,.bool N]).bind λS=> (asStr S[0]?).bind λP=>
(cond (Nat.ble (y.length+(qb 1 (.agg [.str { data:=#[] },.str { data:=#[] }]) [(0,(.agg [.str C8,.str P]))]).length) 4398046511104) (some [iL Q,.bool R,.list 2 (y++(qb 1 (.agg [.str { data:=#[] },.str { data:=#[] }]) [(0,(.agg [.str C8,.str P]))]))]) none):=by kernel_rfl
theorem qr9:evF EnD (n+1) 88 (.list 7 c::.list 8 a::k8 b d s e F A3 u A [.str D])=(evF EnD n 150 (.list 7 c::.str D::k8 b d s e F A3 u A [])).bind λK=> (asStr K[0]?).bind λS=>(asLst 1 K[1]?).bind λT=>(asLst 1 K[2]?).bind λU=>(asLst 1 K[3]?).bind λV=>(asLst 1 K[4]?).bind λW=>(asStr K[5]?).bind λX=>(asStr K[6]?).bind λY=>(asBool K[7]?).bind λZ=>(asInt .i64 K[8]?).bind λn9=>(asLst 1 K[9]?).bind λv10=>(asBool K[10]?).bind λc11=>(asLst 1 K[11]?).bind λv12=>(asBool K[12]?).bind λc13=>(asBool K[13]?).bind λc14=>(evF EnD n 155 (.list 8 a::.str S::k8 T U V W X Y Z n9 [])).bind λM=> (asStr M[0]?).bind λu16=>(asLst 1 M[1]?).bind λv17=>(asLst 1 M[2]?).bind λv18=>(asLst 1 M[3]?).bind λv19=>(asLst 1 M[4]?).bind λv20=>(asStr M[5]?).bind λu21=>(asStr M[6]?).bind λu22=>(asBool M[7]?).bind λc23=>(asInt .i64 M[8]?).bind λn24=>(asLst 1 M[9]?).bind λv25=>(asBool M[10]?).bind λc26=>(asLst 1 M[11]?).bind λv27=>(asBool M[12]?).bind λc28=>(asBool M[13]?).bind λc29=>(evF EnD n 113 (iL v10::kQ c11 v12 c13 v25 [.bool c26,iL v27,.bool c28])).bind λN=> (asLst 1 N[0]?).bind λO=>(asBool N[1]?).bind λP=>(asLst 1 N[2]?).bind λQ=>(asBool N[3]?).bind λR=>
(cond c14 (some [iL O,.bool P,iL Q,.bool R,.bool c29]) (some [iL O,.bool P,iL Q,.bool R,.bool false])):=by kernel_rfl
theorem qra:evF EnD (n+1) 89 (iI o::iI z::iI r::k8 d s e j A3 A9 C7 A7 [iI B3])=(evF EnD n 159 (iL e::iI B3::k8 d s e j A3 A9 C7 A7 [iI o,iI z,iI r])).bind λK=> (asInt .i64 K[0]?).bind λR=>(asLst 1 K[1]?).bind λS=>(asLst 1 K[2]?).bind λT=>(asLst 1 K[3]?).bind λU=>(asLst 1 K[4]?).bind λV=>(asStr K[5]?).bind λW=>(asStr K[6]?).bind λX=>(asBool K[7]?).bind λY=>(asInt .i64 K[8]?).bind λZ=>(asInt .i64 K[9]?).bind λn10=>(asInt .i64 K[10]?).bind λn11=>(asInt .i64 K[11]?).bind λn12=>(asLst 1 K[12]?).bind λM=>(asBool K[13]?).bind λN=>(asLst 1 K[14]?).bind λO=>(asBool K[15]?).bind λP=>(asBool K[16]?).bind λQ=>some [iL M,.bool N,iL O,.bool P,.bool Q]:=by kernel_rfl
theorem qbo:evF EnD (n+1) 101 (k8 c a b d C k w v [iI J,iI A]) =
(cond (J<0) (some (kQ false [] false [] [.bool false])) (cond (J≥(d.length:Int)) (some (kQ false [] false [] [.bool false])) (cond (A<0) (some (kQ false [] false [] [.bool false])) ((ix J d.length).bind λN=> (asLst 1 (at' d N 0)).bind λO=>
(cond (A≥(O.length:Int)) (some (kQ false [] false [] [.bool false])) ((ix J d.length).bind λP=> (asLst 1 (at' d P 0)).bind λM=> (ix A M.length).bind λQ=> (asStr (at' M Q 0)).bind λR=> (evF EnD n 22 [.str R]).bind λK=> (asBool K[0]?).bind λS=>(asLst 1 K[1]?).bind λT=>(asBool K[2]?).bind λU=>(asLst 1 K[3]?).bind λV=>(asInt .i64 K[4]?).bind λW=>some (kQ S T U V [.bool (W==0)]))))))):=by kernel_rfl
def q5i.l3(n:Nat):=Lp EnD n 150 [1,1,0,1,0]
theorem q5i.qq:q5i.l3 n [] (m+1) (.str C8::k8 a b d s k F C0 J (iL q::kQ G i D4 t [.bool C9,iL A8,.bool B8,.list 7 l,iI A1,iI B5])) =
(cond (B5<A1) ((ix B5 l.length).bind λM=> (asStr (at' l M 0)).bind λX=> (asInt .i64 (at' l M 1)).bind λY=> (asInt .i64 (at' l M 2)).bind λZ=> (asInt .i64 (at' l M 3)).bind λn4=> (asBool (at' l M 4)).bind λc5=> (asInt .i64 (at' l M 5)).bind λn6=> (asInt .i64 (at' l M 6)).bind λn7=> (evF EnD n 151 (iI B5::kS X Y Z n4 c5 n6 n7 (.str C8::k8 a b d s k F C0 J []))).bind λK=> (asStr K[0]?).bind λO=>(asLst 1 K[1]?).bind λP=>(asLst 1 K[2]?).bind λQ=>(asLst 1 K[3]?).bind λR=>(asLst 1 K[4]?).bind λS=>(asStr K[5]?).bind λT=>(asStr K[6]?).bind λU=>(asBool K[7]?).bind λV=>(asInt .i64 K[8]?).bind λW=>(asLst 1 K[9]?).bind λv18=>(asBool K[10]?).bind λc19=>(asLst 1 K[11]?).bind λv20=>(asBool K[12]?).bind λc21=>(asBool K[13]?).bind λc22=>
(cond (!c22) (some (.str O::k8 P Q R S T U V W [iL t,.bool C9,iL A8,.bool B8,.bool false])) ((evF EnD n 113 (iL t::kQ C9 A8 B8 v18 [.bool c19,iL v20,.bool c21])).bind λN=> (asLst 1 N[0]?).bind λv24=>(asBool N[1]?).bind λc25=>(asLst 1 N[2]?).bind λv26=>(asBool N[3]?).bind λc27=>q5i.l3 n [] m (.str O::k8 P Q R S T U V W (iL q::kQ G i D4 v24 [.bool c25,iL v26,.bool c27,.list 7 l,iI A1,iI (w6 (B5+1))]))))) (some (.str C8::k8 a b d s k F C0 J [iL t,.bool C9,iL A8,.bool B8,.bool true]))):=by kernel_rfl
theorem qrb:evF EnD (n+1) 150 (.list 7 c::.str C3::k8 b d s e F A3 u A [])=q5i.l3 n [] n (.str C3::k8 b d s e F A3 u A (iL []::kQ false [] false [] [.bool false,iL [],.bool false,.list 7 c,iI (c.length:Int),iI 0])):=by kernel_rfl
theorem qgm:evF EnD (n+1) 151 (iI o::kS C3 r f H E7 E9 v (.str A9::k8 q A0 i g C2 B1 A5 A6 [])) =
(cond (!(C3.toList==A9.toList)) (some (.str A9::k8 q A0 i g C2 B1 A5 A6 [iL [],.bool false,iL [],.bool false,.bool true])) (cond (o≥(A0.length:Int)) (some (.str A9::k8 q A0 i g C2 B1 A5 A6 [iL [],.bool false,iL [],.bool false,.bool false])) ((ix o A0.length).bind λT=> (asStr (at' A0 T 0)).bind λU=> (evF EnD n 118 [.str U]).bind λK=> (asLst 1 K[0]?).bind λV=>(asBool K[1]?).bind λW=>(asLst 1 K[2]?).bind λX=>(asBool K[3]?).bind λY=>(asInt .i64 K[4]?).bind λZ=>(evF EnD n 152 (k8 q A0 i g C2 B1 A5 A6 [iI H,iI f])).bind λM=> (asLst 1 M[0]?).bind λv9=>(asBool M[1]?).bind λc10=>(asLst 1 M[2]?).bind λv11=>(asBool M[3]?).bind λc12=>(asBool M[4]?).bind λc13=>(evF EnD n 154 (iL V::kQ W X Y v9 [.bool c10,iL v11,.bool c12])).bind λN=> (asLst 1 N[0]?).bind λv15=>(asBool N[1]?).bind λc16=>(asLst 1 N[2]?).bind λv17=>(asBool N[3]?).bind λc18=>(evF EnD n 153 (kQ E7 v15 c16 v17 [.bool c18])).bind λO=> (asLst 1 O[0]?).bind λP=>(asBool O[1]?).bind λQ=>(asLst 1 O[2]?).bind λR=>(asBool O[3]?).bind λS=>
(cond c13 (some (.str A9::k8 q A0 i g C2 B1 A5 A6 [iL P,.bool Q,iL R,.bool S,.bool (Z==0)])) (some (.str A9::k8 q A0 i g C2 B1 A5 A6 [iL P,.bool Q,iL R,.bool S,.bool false])))))):=by kernel_rfl
theorem qbp:evF EnD (n+1) 152 (k8 c a b d C k w v [iI J,iI A]) =
(cond (J<0) (some [iL [],.bool false,iL [],.bool false,.bool false]) (cond (J≥(d.length:Int)) (some [iL [],.bool false,iL [],.bool false,.bool false]) (cond (A<0) (some [iL [],.bool false,iL [],.bool false,.bool false]) ((ix J d.length).bind λN=> (asLst 1 (at' d N 0)).bind λO=>
(cond (A≥(O.length:Int)) (some [iL [],.bool false,iL [],.bool false,.bool false]) ((ix J d.length).bind λP=> (asLst 1 (at' d P 0)).bind λM=> (ix A M.length).bind λQ=> (asStr (at' M Q 0)).bind λR=> (evF EnD n 118 [.str R]).bind λK=> (asLst 1 K[0]?).bind λS=>(asBool K[1]?).bind λT=>(asLst 1 K[2]?).bind λU=>(asBool K[3]?).bind λV=>(asInt .i64 K[4]?).bind λW=>some [iL S,.bool T,iL U,.bool V,.bool (W==0)])))))):=by kernel_rfl
theorem qkd:evF EnD (n+1) 153 (kQ E8 a D9 d [.bool D0]) =
(cond E8 ((evF EnD n 169 [iL a,.bool D9,iL d,.bool D0]).bind λK=> (asLst 1 K[0]?).bind λM=>(asBool K[1]?).bind λN=>(asLst 1 K[2]?).bind λO=>(asBool K[3]?).bind λP=>some [iL M,.bool N,iL O,.bool P]) (some [iL a,.bool D9,iL d,.bool D0])):=by kernel_rfl
def q5j.l3(n:Nat):=Lp EnD n 155 [1,1,0,1,0]
theorem q5j.qq:q5j.l3 n [] (m+1) (.str C8::k8 a b d s k F C0 J (iL q::kQ G i D4 t [.bool C9,iL A8,.bool B8,.list 8 l,iI A1,iI B5])) =
(cond (B5<A1) ((ix B5 l.length).bind λM=> (asStr (at' l M 0)).bind λX=> (asInt .i64 (at' l M 1)).bind λY=> (asInt .i64 (at' l M 2)).bind λZ=> (asBool (at' l M 3)).bind λc4=> (asInt .i64 (at' l M 4)).bind λn5=> (asLst 1 (at' l M 5)).bind λv6=> (asInt .i64 (at' l M 6)).bind λn7=> (asInt .i64 (at' l M 7)).bind λn8=> (evF EnD n 156 (iI B5::kB X Y Z c4 n5 v6 n7 n8 (.str C8::k8 a b d s k F C0 J []))).bind λK=> (asStr K[0]?).bind λO=>(asLst 1 K[1]?).bind λP=>(asLst 1 K[2]?).bind λQ=>(asLst 1 K[3]?).bind λR=>(asLst 1 K[4]?).bind λS=>(asStr K[5]?).bind λT=>(asStr K[6]?).bind λU=>(asBool K[7]?).bind λV=>(asInt .i64 K[8]?).bind λW=>(asLst 1 K[9]?).bind λv19=>(asBool K[10]?).bind λc20=>(asLst 1 K[11]?).bind λv21=>(asBool K[12]?).bind λc22=>(asBool K[13]?).bind λc23=>
(cond (!c23) (some (.str O::k8 P Q R S T U V W [iL t,.bool C9,iL A8,.bool B8,.bool false])) ((evF EnD n 113 (iL t::kQ C9 A8 B8 v19 [.bool c20,iL v21,.bool c22])).bind λN=> (asLst 1 N[0]?).bind λv25=>(asBool N[1]?).bind λc26=>(asLst 1 N[2]?).bind λv27=>(asBool N[3]?).bind λc28=>q5j.l3 n [] m (.str O::k8 P Q R S T U V W (iL q::kQ G i D4 v25 [.bool c26,iL v27,.bool c28,.list 8 l,iI A1,iI (w6 (B5+1))]))))) (some (.str C8::k8 a b d s k F C0 J [iL t,.bool C9,iL A8,.bool B8,.bool true]))):=by kernel_rfl
theorem qrc:evF EnD (n+1) 155 (.list 8 c::.str C3::k8 b d s e F A3 u A [])=q5j.l3 n [] n (.str C3::k8 b d s e F A3 u A (iL []::kQ false [] false [] [.bool false,iL [],.bool false,.list 8 c,iI (c.length:Int),iI 0])):=by kernel_rfl
theorem qdu:evF EnD (n+1) 156 (iI o::kB C3 r f D0 E6 j v J (.str B::k8 A0 i g t B1 D7 B8 B9 [])) =
(cond (!(C3.toList==B.toList)) (some (.str B::k8 A0 i g t B1 D7 B8 B9 [iL [],.bool false,iL [],.bool false,.bool true])) (cond (o≥(A0.length:Int)) (some (.str B::k8 A0 i g t B1 D7 B8 B9 [iL [],.bool false,iL [],.bool false,.bool false])) ((ix o A0.length).bind λM=> (asBool (at' A0 M 0)).bind λN=>
(cond (!N) (some (.str B::k8 A0 i g t B1 D7 B8 B9 [iL [],.bool false,iL [],.bool false,.bool true])) ((evF EnD n 157 (iL j::k8 A0 i g t B1 D7 B8 B9 (kB C3 r f D0 E6 j v J []))).bind λK=> (asLst 1 K[0]?).bind λO=>(asLst 1 K[1]?).bind λP=>(asLst 1 K[2]?).bind λQ=>(asLst 1 K[3]?).bind λR=>(asStr K[4]?).bind λS=>(asStr K[5]?).bind λT=>(asBool K[6]?).bind λU=>(asInt .i64 K[7]?).bind λV=>(asStr K[8]?).bind λu11=>(asInt .i64 K[9]?).bind λn12=>(asInt .i64 K[10]?).bind λn13=>(asBool K[11]?).bind λc14=>(asInt .i64 K[12]?).bind λn15=>(asLst 1 K[13]?).bind λv16=>(asInt .i64 K[14]?).bind λn17=>(asInt .i64 K[15]?).bind λn18=>(asLst 1 K[16]?).bind λW=>(asBool K[17]?).bind λX=>(asLst 1 K[18]?).bind λY=>(asBool K[19]?).bind λZ=>(asBool K[20]?).bind λc23=>some (.str B::k8 O P Q R S T U V [iL W,.bool X,iL Y,.bool Z,.bool c23])))))):=by kernel_rfl
def q5k.l3(n:Nat):=Lp EnD n 157 [1,1,0,1,0]
theorem q5k.qq:q5k.l3 n [] (m+1) (k8 c a b d C k w v (kB A9 A A7 A2 h t I B4 (iL p::kQ D5 B7 D1 B0 (kQ E1 E0 E4 E3 [iI E5,iI D6])))) =
(cond (D6<E5) ((ix D6 E3.length).bind λi0=> (asInt .i64 (at' E3 i0 0)).bind λn1=> (evF EnD n 158 (iI D6::iI n1::k8 c a b d C k w v (kB A9 A A7 A2 h t I B4 []))).bind λK=> (asLst 1 K[0]?).bind λN=>(asLst 1 K[1]?).bind λO=>(asLst 1 K[2]?).bind λP=>(asLst 1 K[3]?).bind λQ=>(asStr K[4]?).bind λR=>(asStr K[5]?).bind λS=>(asBool K[6]?).bind λT=>(asInt .i64 K[7]?).bind λU=>(asStr K[8]?).bind λV=>(asInt .i64 K[9]?).bind λW=>(asInt .i64 K[10]?).bind λX=>(asBool K[11]?).bind λY=>(asInt .i64 K[12]?).bind λZ=>(asLst 1 K[13]?).bind λv16=>(asInt .i64 K[14]?).bind λn17=>(asInt .i64 K[15]?).bind λn18=>(asLst 1 K[16]?).bind λv19=>(asBool K[17]?).bind λc20=>(asLst 1 K[18]?).bind λv21=>(asBool K[19]?).bind λc22=>(asBool K[20]?).bind λc23=>
(cond (!c23) (some (k8 N O P Q R S T U (kB V W X Y Z v16 n17 n18 [iL B0,.bool E1,iL E0,.bool E4,.bool false]))) ((evF EnD n 113 (iL B0::kQ E1 E0 E4 v19 [.bool c20,iL v21,.bool c22])).bind λM=> (asLst 1 M[0]?).bind λv25=>(asBool M[1]?).bind λc26=>(asLst 1 M[2]?).bind λv27=>(asBool M[3]?).bind λc28=>q5k.l3 n [] m (k8 N O P Q R S T U (kB V W X Y Z v16 n17 n18 (iL p::kQ D5 B7 D1 v25 (kQ c26 v27 c28 E3 [iI E5,iI (w6 (D6+1))]))))))) (some (k8 c a b d C k w v (kB A9 A A7 A2 h t I B4 [iL B0,.bool E1,iL E0,.bool E4,.bool true])))):=by kernel_rfl
theorem qrd:evF EnD (n+1) 157 (iL c::k8 a b d s k F C0 J (kB B A7 B3 D4 E A4 B4 A6 []))=q5k.l3 n [] n (k8 a b d s k F C0 J (kB B A7 B3 D4 E A4 B4 A6 (iL []::kQ false [] false [] (kQ false [] false c [iI (c.length:Int),iI 0])))):=by kernel_rfl
theorem qre:evF EnD (n+1) 158 (iI o::iI z::k8 b d s e F A3 u A (kB D B3 h B2 I A8 A6 B9 []))=(evF EnD n 152 (k8 b d s e F A3 u A [iI o,iI h])).bind λK=> (asLst 1 K[0]?).bind λP=>(asBool K[1]?).bind λQ=>(asLst 1 K[2]?).bind λR=>(asBool K[3]?).bind λS=>(asBool K[4]?).bind λT=>(evF EnD n 111 [iI z]).bind λM=> (asLst 1 M[0]?).bind λU=>(asBool M[1]?).bind λV=>(asLst 1 M[2]?).bind λW=>(asBool M[3]?).bind λX=>(evF EnD n 154 (iL P::kQ Q R S U [.bool V,iL W,.bool X])).bind λN=> (asLst 1 N[0]?).bind λY=>(asBool N[1]?).bind λZ=>(asLst 1 N[2]?).bind λv14=>(asBool N[3]?).bind λc15=>(evF EnD n 153 (kQ B2 Y Z v14 [.bool c15])).bind λO=> (asLst 1 O[0]?).bind λv17=>(asBool O[1]?).bind λc18=>(asLst 1 O[2]?).bind λv19=>(asBool O[3]?).bind λc20=>some (k8 b d s e F A3 u A (kB D B3 h B2 I A8 A6 B9 [iL v17,.bool c18,iL v19,.bool c20,.bool T])):=by kernel_rfl
def q5l.l3(n:Nat):=Lp EnD n 159 [1,1,0,1,0]
theorem q5l.qq:q5l.l3 n [] (m+1) (iI o::k8 a b d s k F C0 J (iI A::iI A7::iI B3::iL g::kQ B2 A4 A5 p (kQ D5 B7 D1 B0 [iI C4,iI C1]))) =
(cond (C1<C4) ((ix C1 B0.length).bind λZ=> (asLst 1 (at' B0 Z 0)).bind λv1=> (evF EnD n 160 (iI C1::iL v1::iI o::k8 a b d s k F C0 J [iI A,iI A7,iI B3])).bind λK=> (asInt .i64 K[0]?).bind λN=>(asLst 1 K[1]?).bind λO=>(asLst 1 K[2]?).bind λP=>(asLst 1 K[3]?).bind λQ=>(asLst 1 K[4]?).bind λR=>(asStr K[5]?).bind λS=>(asStr K[6]?).bind λT=>(asBool K[7]?).bind λU=>(asInt .i64 K[8]?).bind λV=>(asInt .i64 K[9]?).bind λW=>(asInt .i64 K[10]?).bind λX=>(asInt .i64 K[11]?).bind λY=>(asLst 1 K[12]?).bind λv15=>(asBool K[13]?).bind λc16=>(asLst 1 K[14]?).bind λv17=>(asBool K[15]?).bind λc18=>(asBool K[16]?).bind λc19=>
(cond (!c19) (some (iI N::k8 O P Q R S T U V [iI W,iI X,iI Y,iL p,.bool D5,iL B7,.bool D1,.bool false])) ((evF EnD n 113 (iL p::kQ D5 B7 D1 v15 [.bool c16,iL v17,.bool c18])).bind λM=> (asLst 1 M[0]?).bind λv21=>(asBool M[1]?).bind λc22=>(asLst 1 M[2]?).bind λv23=>(asBool M[3]?).bind λc24=>q5l.l3 n [] m (iI N::k8 O P Q R S T U V (iI W::iI X::iI Y::iL g::kQ B2 A4 A5 v21 (kQ c22 v23 c24 B0 [iI C4,iI (w6 (C1+1))])))))) (some (iI o::k8 a b d s k F C0 J [iI A,iI A7,iI B3,iL p,.bool D5,iL B7,.bool D1,.bool true]))):=by kernel_rfl
theorem qrf:evF EnD (n+1) 159 (iL c::iI z::k8 b d s e F A3 u A [iI A7,iI B3,iI h])=q5l.l3 n [] n (iI z::k8 b d s e F A3 u A (iI A7::iI B3::iI h::iL []::kQ false [] false [] (kQ false [] false c [iI (c.length:Int),iI 0]))):=by kernel_rfl
theorem qke:evF EnD (n+1) 160 (iI o::iL a::iI r::k8 d s e j A3 A9 C7 A7 [iI B3,iI h,iI E]) =
(cond (r≥(a.length:Int)) (some (iI r::k8 d s e j A3 A9 C7 A7 [iI B3,iI h,iI E,iL [],.bool false,iL [],.bool false,.bool false])) ((ix r a.length).bind λU=> (asStr (at' a U 0)).bind λV=> (evF EnD n 118 [.str V]).bind λK=> (asLst 1 K[0]?).bind λW=>(asBool K[1]?).bind λX=>(asLst 1 K[2]?).bind λY=>(asBool K[3]?).bind λZ=>(asInt .i64 K[4]?).bind λn7=>(evF EnD n 152 (k8 d s e j A3 A9 C7 A7 [iI o,iI B3])).bind λM=> (asLst 1 M[0]?).bind λv9=>(asBool M[1]?).bind λc10=>(asLst 1 M[2]?).bind λv11=>(asBool M[3]?).bind λc12=>(asBool M[4]?).bind λc13=>(evF EnD n 152 (k8 d s e j A3 A9 C7 A7 [iI o,iI h])).bind λN=> (asLst 1 N[0]?).bind λv15=>(asBool N[1]?).bind λc16=>(asLst 1 N[2]?).bind λv17=>(asBool N[3]?).bind λc18=>(asBool N[4]?).bind λc19=>(evF EnD n 112 (iL v15::kQ c16 v17 c18 v9 [.bool c10,iL v11,.bool c12])).bind λO=> (asLst 1 O[0]?).bind λv21=>(asBool O[1]?).bind λc22=>(asLst 1 O[2]?).bind λv23=>(asBool O[3]?).bind λc24=>(evF EnD n 154 (iL W::kQ X Y Z v21 [.bool c22,iL v23,.bool c24])).bind λP=> (asLst 1 P[0]?).bind λQ=>(asBool P[1]?).bind λR=>(asLst 1 P[2]?).bind λS=>(asBool P[3]?).bind λT=>
(cond c13 (cond c19 (some (iI r::k8 d s e j A3 A9 C7 A7 [iI B3,iI h,iI E,iL Q,.bool R,iL S,.bool T,.bool (n7==0)])) (some (iI r::k8 d s e j A3 A9 C7 A7 [iI B3,iI h,iI E,iL Q,.bool R,iL S,.bool T,.bool false]))) (some (iI r::k8 d s e j A3 A9 C7 A7 [iI B3,iI h,iI E,iL Q,.bool R,iL S,.bool T,.bool false]))))):=by kernel_rfl
end
section
variable (n m:Nat)
variable (k:Bool)
variable (d g b i j h q s:List FV)
variable (u:Nat)
variable (l o:ByteArray)
variable (f e c a w v p r t:Int)
def q16.l5(n:Nat):=Lp EnD n 8 [1,1,1,0,1,0]
def q16.l9(n:Nat):=Lp EnD n 8 [1,1,1,1,0,1,0]
def q16.l13(n:Nat):=Lp EnD n 8 [1,1,1,1,0,1,0,0,1,0,0,1,0,1,0]
def q16.l22(n:Nat):=Lp EnD n 8 [1,1,1,1,0,1,0,0,1,0,0,1,1,1,1,0,1,0]
def q16.l31(n:Nat):=Lp EnD n 8 [1,1,1,1,1,1,1,1,0,1,0]
theorem q16.q1h:q16.l5 n [] (m+1) (k5 f e d c a (k8 g b i j l o k p [.list 7 h,iL q,iI r])) =
(cond (r<(h.length:Int)) (cond (Nat.ble (b.length+(qb 1 (.str { data:=#[] }) [(0,(.str { data:=#[48] }))]).length) 8796093022208) (q16.l5 n [] m (k5 f e d c a (k8 g (b++(qb 1 (.str { data:=#[] }) [(0,(.str { data:=#[48] }))])) i j l o k p [.list 7 h,iL q,iI (w6 (r+1))]))) none) (q16.l9 n [] n (k5 f e d c a (k8 g b i j l o k p [.list 7 h,iL q,iI 0])))):=by kernel_rfl
theorem q16.q3n:q16.l9 n [] (m+1) (k5 f e d c a (k8 g b i j l o k p [.list 7 h,iL q,iI r])) =
(cond (r<e) (cond (r<3) (q16.l13 n [m] n (k5 f e d c a (k8 g b i j l o k p [.list 7 h,iL q,iI r,iL (qb 0 (.str { data:=#[] }) []),iI 0]))) ((evF EnD n 23 (k15 f e d c a h [] g b i j l o k p [])).bind λx=> (asLst 2 x[0]?).bind λD=>(asInt .i64 x[1]?).bind λy=>(evF EnD n 27 (k15 f e d c a h [] g b i j l o k p [])).bind λz=> (asLst 2 z[0]?).bind λH=>(asInt .i64 (z[1]?)).bind λE=>
(cond (y !=E) (some [.bool false]) (q16.l31 n [] n (k5 f e d c a [.list 7 h,.list 2 D,iI y,iI 0]))))) ((evF EnD n 23 (k15 f e d c a h [] g b i j l o k p [])).bind λA=> (asLst 2 A[0]?).bind λF=>(asInt .i64 A[1]?).bind λB=>(evF EnD n 27 (k15 f e d c a h [] g b i j l o k p [])).bind λC=> (asLst 2 C[0]?).bind λI=>(asInt .i64 (C[1]?)).bind λG=>
(cond (B !=G) (some [.bool false]) (q16.l31 n [] n (k5 f e d c a [.list 7 h,.list 2 F,iI B,iI 0]))))):=by kernel_rfl
theorem q16.q4w:q16.l13 n [u] (m+1) (k5 f e d c a (k8 g b i j l o k p [.list 7 h,iL q,iI r,iL s,iI t])) =
(cond (t<f) (cond (t<3) (cond ((q.length:Int)>t) ((ix t q.length).bind λC=> (asInt .i64 (at' q C 0)).bind λx=> (evF EnD n 12 [iI (if c<(if x<a then x else a)then(if x<a then x else a)else c)]).bind λy=> (asBool y[0]?).bind λD=>(asLst 1 y[1]?).bind λE=>(asBool y[2]?).bind λF=>(asLst 1 y[3]?).bind λG=>(evF EnD n 14 (kQ D E F G [])).bind λH=> (asStr H[0]?).bind λA=>
(cond (Nat.ble (s.length+(qb 1 (.str { data:=#[] }) [(0,(.str A))]).length) 8796093022208) (q16.l13 n [u] m (k5 f e d c a (k8 g b i j l o k p [.list 7 h,iL q,iI r,iL (s++(qb 1 (.str { data:=#[] }) [(0,(.str A))])),iI (w6 (t+1))]))) none)) ((evF EnD n 12 [iI c]).bind λz=> (asBool z[0]?).bind λI=>(asLst 1 z[1]?).bind λJ=>(asBool z[2]?).bind λK=>(asLst 1 z[3]?).bind λM=>(evF EnD n 14 (kQ I J K M [])).bind λN=> (asStr N[0]?).bind λB=>
(cond (Nat.ble (s.length+(qb 1 (.str { data:=#[] }) [(0,(.str B))]).length) 8796093022208) (q16.l13 n [u] m (k5 f e d c a (k8 g b i j l o k p [.list 7 h,iL q,iI r,iL (s++(qb 1 (.str { data:=#[] }) [(0,(.str B))])),iI (w6 (t+1))]))) none))) (cond (Nat.ble (j.length+(qb 1 (iL []) [(0,(iL s))]).length) 5864062014805) (q16.l22 n [u] n (k5 f e d c a (k8 g b i (j++(qb 1 (iL []) [(0,(iL s))])) l o k p [.list 7 h,iL q,iI r,iL (qb 0 (.str { data:=#[] }) []),iI 0]))) none)) (cond (Nat.ble (j.length+(qb 1 (iL []) [(0,(iL s))]).length) 5864062014805) (q16.l22 n [u] n (k5 f e d c a (k8 g b i (j++(qb 1 (iL []) [(0,(iL s))])) l o k p [.list 7 h,iL q,iI r,iL (qb 0 (.str { data:=#[] }) []),iI 0]))) none)):=by kernel_rfl
theorem q16.qb9:q16.l22 n [u] (m+1) (k5 f e d c a (k8 g b i j l o k p [.list 7 h,iL q,iI r,iL s,iI t])) =
(cond (t<(d.length:Int)) (cond (t<3) (cond (Nat.ble (s.length+(qb 1 (.str { data:=#[] }) [(0,(.str { data:=#[48] }))]).length) 8796093022208) (q16.l22 n [u] m (k5 f e d c a (k8 g b i j l o k p [.list 7 h,iL q,iI r,iL (s++(qb 1 (.str { data:=#[] }) [(0,(.str { data:=#[48] }))])),iI (w6 (t+1))]))) none) (cond (Nat.ble (i.length+(qb 1 (iL []) [(0,(iL s))]).length) 5864062014805) (q16.l9 n [] u (k5 f e d c a (k8 g b (i++(qb 1 (iL []) [(0,(iL s))])) j l o k p [.list 7 h,iL q,iI (w6 (r+1))]))) none)) (cond (Nat.ble (i.length+(qb 1 (iL []) [(0,(iL s))]).length) 5864062014805) (q16.l9 n [] u (k5 f e d c a (k8 g b (i++(qb 1 (iL []) [(0,(iL s))])) j l o k p [.list 7 h,iL q,iI (w6 (r+1))]))) none)):=by kernel_rfl
theorem q16.l31_eq:q16.l31 n [] (m+1) (k5 f e d c a [.list 7 g,.list 2 b,iI w,iI v]) =
(cond (v<(b.length:Int)) ((ix v b.length).bind λx=> (asStr (at' b x 1)).bind λy=>
(cond (!(y.toList==({ data:=#[48] }:ByteArray).toList)) (some [.bool false]) (q16.l31 n [] m (k5 f e d c a [.list 7 g,.list 2 b,iI w,iI (w6 (v+1))])))) (cond (w !=0) (some [.bool true]) ((evF EnD n 28 [.list 7 g,.list 8 []]).bind λz=> (asLst 1 z[0]?).bind λA=>some [.bool ((b.length:Int)==(w6 ((w6 ((A.length:Int)+(d.length:Int)))+1)))]))):=by kernel_rfl
theorem qpp:evF EnD (n+1) 8 (k5 f e d c a [.list 7 g,iL b]) =
(cond ((g.length:Int)>8) (some [.bool true]) (cond ((b.length:Int)>64) (some [.bool true]) (q16.l5 n [] n (k5 f e d c a (k8 [] [] [] [] { data:=#[48] } { data:=#[48] } true 0 [.list 7 g,iL b,iI 0]))))):=by kernel_rfl
end
end
end Rf
