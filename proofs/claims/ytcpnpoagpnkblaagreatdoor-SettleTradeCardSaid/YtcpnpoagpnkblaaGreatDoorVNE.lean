/- Texts of this work put together, their blanks and comments taken out: Rnd, EnvD, EqSet. -/
import Derived.Test.YtcpnpoagpnkblaaGreatDoorVMS
import Derived.Test.YtcpnpoagpnkblaaGreatDoorVMW
import Derived.Test.YtcpnpoagpnkblaaGreatDoorVMZ
import Derived.Test.YtcpnpoagpnkblaaGreatDoorVMG
import Derived.Lib.SlicesCompact
import Derived.Test.YtcpnpoagpnkblaaGreatDoorVMH
import Derived.KernelRfl
set_option linter.unusedVariables false
set_option linter.unusedSimpArgs false
section
/- Rounding, of both makes: to the whole number next to it, to the even one where two are as near. -/
set_option maxHeartbeats 2000000
namespace Rf
open Go
def q16(q:Rat):Int:=q.num / (q.den:Int)
def q1u(q:Rat):Int:=q.num%(q.den:Int)
def q18(q:Rat):Int:=if(q.den:Int)<q1u q+q1u q\/q1u q+q1u q=(q.den:Int)/\q16 q%2≠0 then q16 q+1 else q16 q
theorem qb9{z w:Int}(hw:0<w):z / w=(if z.tmod w<0 then z.tdiv w-1 else z.tdiv w)/\z%w=(if z.tmod w<0 then z.tmod w+w else z.tmod w):=by
 have h1:=Int.mul_tdiv_add_tmod z w;have h2:z.tmod w<w:=Int.tmod_lt_of_pos z hw;have h3:=Int.tmod_lt_of_pos (-z) hw;rw[Int.neg_tmod]at h3;by_cases ht:z.tmod w<0
 ·rw[if_pos ht,if_pos ht];exact(Int.ediv_emod_unique hw).2 ⟨by rw[Int.mul_sub,Int.mul_one];omega,by omega,by omega⟩
 ·rw[if_neg ht,if_neg ht];exact(Int.ediv_emod_unique hw).2 ⟨by omega,by omega,h2⟩
theorem qde{z w:Int}{k:Nat}(hz:z.natAbs<2^k):(z.tdiv w).natAbs<2^k:=by
 rw[Int.natAbs_tdiv];exact Nat.lt_of_le_of_lt (Nat.div_le_self _ _) hz
theorem qdf{z w:Int}{k:Nat}(hz:z.natAbs<2^k):(z.tmod w).natAbs<2^k:=by
 rw[Int.natAbs_tmod];exact Nat.lt_of_le_of_lt (Nat.mod_le _ _) hz
theorem qdg{z w:Int}{k:Nat}(h0:0<w)(hz:z.natAbs<2^k):(z / w).natAbs<2^(k+1):=by
 have h:=qde (w:=w) hz;rw[(qb9 h0).1,Nat.pow_succ];split <;> omega
theorem two_bd{k:Nat}(hk:1<=k):2<=2^k:=Nat.pow_le_pow_right (n:=2) (by omega) hk
theorem dm_ev{z w:Int}{k:Nat}(hk:k+1<=100000000000)(h0:0<w)(hz:z.natAbs<2^k)(hw:w.natAbs<2^k) :
  Ev En 139 [zl z,zb z,zl w,zb w] [zl (z / w),zb (z / w),zl (z%w),zb (z%w),.int .i64 0]:=by
 obtain⟨e1,e2⟩:=qb9 (z:=z) h0;have hq:=qde (w:=w) hz;have hr:=qdf (w:=w) hz;obtain⟨n1,h1⟩:=qba (by omega) (by omega) hz hw;obtain⟨n2,h2⟩:=zero_ev (s:=decide (z.tmod w<0)) (by omega:k<=100000000000) hr;obtain⟨n3,h3⟩:=qbb (z:=1) (by omega) (by omega);obtain⟨n4,h4⟩:=qbc (z:=z.tdiv w) (w:=1) hk hq (by omega);obtain⟨n5,h5⟩:=q8l (z:=z.tmod w) (w:=w) hk hr hw;refine Ev.of (n1+n2+n3+n4+n5) λn hn=>?_;rw[qlp]
 try simp (disch:=omega) only[h1,Option.bind_some,List.getElem?_cons_zero,List.getElem?_cons_succ,q9,qb,qa]
 try simp (disch:=omega) only[show((0:Int)==0)=true from rfl,cond_true]
 try simp (disch:=omega) only[h2,Option.bind_some,List.getElem?_cons_zero,qa]
 by_cases ht:z.tmod w<0
 ·rw[if_pos ht]at e1 e2;rw[e1,e2,decide_eq_false (p:=(z.tmod w).natAbs=0) (by omega),Bool.not_false,cond_true,decide_eq_true ht,decide_eq_false (by omega),show(!(true==false))=true from rfl,cond_true]
  try simp (disch:=omega) only[h3,Option.bind_some,List.getElem?_cons_zero,List.getElem?_cons_succ,q9,qa]
  try simp (disch:=omega) only[h4,Option.bind_some,List.getElem?_cons_zero,List.getElem?_cons_succ,q9,qa]
  rw[<- show zb (z.tmod w)=.bool true from by unfold zb;rw[decide_eq_true ht],<- show zb w=.bool false from by unfold zb;rw[decide_eq_false (by omega)]]
  try simp (disch:=omega) only[h5,Option.bind_some,List.getElem?_cons_zero,List.getElem?_cons_succ,q9,qa]
 ·rw[if_neg ht]at e1 e2;rw[e1,e2,decide_eq_false ht,decide_eq_false (p:=w<0) (by omega),show(!(false==false))=false from rfl,cond_false];cases decide ((z.tmod w).natAbs=0) <;> (unfold zb;rw[decide_eq_false ht];rfl)
theorem den_pos(q:Rat):0<(q.den:Int):=by have:=q.den_pos;omega
theorem rest_bd(q:Rat):0<=q1u q/\q1u q<(q.den:Int):=⟨Int.emod_nonneg _ (by have:=den_pos q;omega),Int.emod_lt_of_pos _ (den_pos q)⟩
theorem odd_t(z:Int):(z.tmod 2).sign≠0↔z%2≠0:=by
 have h:=(qb9 (z:=z) (w:=2) (by omega)).2;have h2:=Int.tmod_lt_of_pos z (b:=2) (by omega);have h3:=Int.tmod_lt_of_pos (-z) (b:=2) (by omega);rw[Int.neg_tmod]at h3;rw[h,Ne,Int.sign_eq_zero_iff_zero];split <;> omega
theorem cmpZi_gt{z w:Int}:decide (q1n z w>0)=decide (w<z):=by
 rw[decide_eq_decide];unfold q1n;split <;> (try split) <;> omega
theorem cmpZi_eq{z w:Int}:(q1n z w==0)=decide (z=w):=by
 rw[Bool.eq_iff_iff,beq_iff_eq,decide_eq_true_eq];unfold q1n;split <;> (try split) <;> omega
theorem round_ev{q:Rat}{k d:Nat}(hk:k+2<=100000000000)(hk1:1<=k)(h:Bd k q)(hd:dn d=q.den):Ev En 83 [zl (q).num,zb (q).num,nL (d),.bool false] [zl (q18 q),zb (q18 q)]:=by
 obtain⟨r0,r1⟩:=rest_bd q;have two:=two_bd hk1;have hden:q.den<2^k:=h.2;obtain⟨n1,h1⟩:=q43 (l:=(dg 4294967296 q.num.natAbs).map d32) (b:=decide (q.num<0)) (by omega:k<=100000000000) (q44 h hd);rw[hd]at h1;obtain⟨n2,h2⟩:=dm_ev (z:=q.num) (w:=(q.den:Int)) (by omega:k+1<=100000000000) (den_pos q) h.1 hden;rw[q2y,q1i]at h2;obtain⟨n3,h3⟩:=q8l (z:=q1u q) (w:=q1u q) (by omega:k+1<=100000000000) (by omega) (by omega);obtain⟨n4,h4⟩:=qbd (z:=q1u q+q1u q) (w:=(q.den:Int)) (k:=k+1) (by omega) (by rw[Nat.pow_succ];omega) (by rw[Nat.pow_succ];omega);rw[q2y,q1i]at h4;have hf:(q16 q).natAbs<2^(k+1):=qdg (den_pos q) h.1;obtain⟨n5,h5⟩:=qbb (z:=2) (by omega) (by omega);obtain⟨n6,h6⟩:=qba (z:=q16 q) (w:=2) (k:=k+1) (by omega) (by omega) hf (by rw[Nat.pow_succ];omega);obtain⟨n7,h7⟩:=q5n;obtain⟨n8,h8⟩:=q8l (z:=q16 q) (w:=1) (k:=k+1) (by omega) hf (by rw[Nat.pow_succ];omega);rw[show zl (1:Int)=nL 1 from rfl,show zb (1:Int)=.bool false from rfl]at h8;obtain⟨n9,h9⟩:=qbe (z:=(q16 q).tmod 2) (k:=k+1) (by omega) (qdf hf)
 have up:∀n,n1+n2+n3+n4+n5+n6+n7+n8+n9<=n->(do
   let r26 <- evF En n 146 []
   let v27 <- asLst 1 (r26[0]?)
   let c28 <- asBool (r26[1]?)
   let r29 <- evF En n 141 [zl (q16 q),zb (q16 q),.list 1 v27,.bool c28]
   let v30 <- asLst 1 (r29[0]?)
   let c31 <- asBool (r29[1]?)
   some [.list 1 v30,.bool c31])=some [zl (q16 q+1),zb (q16 q+1)]:=by
  intro n hn;show(evF En n 146 []).bind _=_
  try simp (disch:=omega) only[h7,Option.bind_some,List.getElem?_cons_zero,List.getElem?_cons_succ,q9,qa]
  show(evF En n 141 [zl (q16 q),zb (q16 q),nL 1,.bool false]).bind _=_
  try simp (disch:=omega) only[h8,Option.bind_some,List.getElem?_cons_zero,List.getElem?_cons_succ,q9,qa]
  rfl
 refine Ev.of (n1+n2+n3+n4+n5+n6+n7+n8+n9) λn hn=>?_;rw[qlq]
 try simp (disch:=omega) only[h1,Option.bind_some,List.getElem?_cons_zero,List.getElem?_cons_succ,q9,qa]
 try simp (disch:=omega) only[h2,Option.bind_some,List.getElem?_cons_zero,List.getElem?_cons_succ,q9,qb,qa]
 try simp (disch:=omega) only[show evF En n 141 [zl (q.num%(q.den:Int)),zb (q.num%(q.den:Int)),zl (q.num%(q.den:Int)),zb (q.num%(q.den:Int))]=some _ from h3 n (by omega),Option.bind_some,List.getElem?_cons_zero,List.getElem?_cons_succ,q9,qa]
 try simp (disch:=omega) only[h4,Option.bind_some,List.getElem?_cons_zero,qb]
 try simp (disch:=omega) only[h5,Option.bind_some,List.getElem?_cons_zero,List.getElem?_cons_succ,q9,qa]
 try simp (disch:=omega) only[show evF En n 143 [zl (q.num / (q.den:Int)),zb (q.num / (q.den:Int)),zl (2:Int),zb (2:Int)]=some _ from h6 n (by omega),Option.bind_some,List.getElem?_cons_zero,List.getElem?_cons_succ,q9,qb,qa]
 rw[cmpZi_gt];unfold q18;by_cases c1:(q.den:Int)<q1u q+q1u q
 ·rw[decide_eq_true c1,cond_true,if_pos (.inl c1)];exact up n hn
 ·rw[decide_eq_false c1,cond_false,cmpZi_eq];by_cases c2:q1u q+q1u q=(q.den:Int)
  ·rw[decide_eq_true c2,cond_true]
   try simp (disch:=omega) only[h9,Option.bind_some,List.getElem?_cons_zero,qb]
   by_cases c3:q16 q%2=0
   ·have c4:((q16 q).tmod 2).sign=0:=Decidable.byContradiction λh=>(odd_t _).1 h c3;rw[c4,show((0:Int) !=0)=false from rfl,cond_false,if_neg (by omega)];rfl
   ·have c4:((q16 q).tmod 2).sign≠0:=(odd_t _).2 c3;rw[show(((q16 q).tmod 2).sign !=0)=true from by simpa using c4,cond_true,if_pos (.inr ⟨c2,c3⟩)];exact up n hn
  ·rw[decide_eq_false c2,cond_false,if_neg (by omega)];rfl
theorem wdm_ev{z w:Int}{k:Nat}(hk:k<=100000000000)(h0:0<w)(hz:z.natAbs<2^k)(hw:w.natAbs<2^k) :
  Ev En 93 [zb z,wl z,zb w,wl w] [zb (z / w),wl (z / w),zb (z%w),wl (z%w),.int .i64 0]:=by
 obtain⟨e1,e2⟩:=qb9 (z:=z) h0;have hq:=qde (w:=w) hz;have hr:=qdf (w:=w) hz;obtain⟨n1,h1⟩:=wqr_ev hk (by omega) hz hw;obtain⟨n3,h3⟩:=qbf (z:=1) (by omega) (by omega);obtain⟨n4,h4⟩:=wsub_z (z:=z.tdiv w) (w:=1) hk hq (by omega);obtain⟨n5,h5⟩:=qbg (z:=z.tmod w) (w:=w) hk hr hw;have sw:w.sign=1:=Int.sign_eq_one_of_pos h0;refine Ev.of (n1+n3+n4+n5+1) λn hn=>?_;obtain⟨n,rfl⟩:=qSx n (by omega);have g1:=q7n (n:=n) (z:=z.tmod w);have g2:=q7n (n:=n) (z:=w);rw[qlr]
 try simp (disch:=omega) only[h1,Option.bind_some,List.getElem?_cons_zero,List.getElem?_cons_succ,q9,qb,qa]
 try simp (disch:=omega) only[show((0:Int)==0)=true from rfl,cond_true]
 try simp (disch:=omega) only[g1,Option.bind_some,List.getElem?_cons_zero,qb]
 by_cases ht:z.tmod w<0
 ·rw[if_pos ht]at e1 e2;rw[e1,e2,Int.sign_eq_neg_one_of_neg ht,show((-1:Int) !=0)=true from rfl,cond_true];rw[Int.sign_eq_neg_one_of_neg ht]at g1;rw[sw]at g2
  try simp (disch:=omega) only[g1,rr]
  try simp (disch:=omega) only[g2,Option.bind_some,List.getElem?_cons_zero,qb]
  try simp (disch:=omega) only[show((-1:Int) !=1)=true from rfl,cond_true]
  try simp (disch:=omega) only[h3,Option.bind_some,List.getElem?_cons_zero,List.getElem?_cons_succ,q9,qa]
  try simp (disch:=omega) only[h4,Option.bind_some,List.getElem?_cons_zero,List.getElem?_cons_succ,q9,qa]
  try simp (disch:=omega) only[h5,Option.bind_some,List.getElem?_cons_zero,List.getElem?_cons_succ,q9,qa]
 ·rw[if_neg ht]at e1 e2;rw[e1,e2];by_cases tz:z.tmod w=0
  ·rw[tz,show(0:Int).sign=0 from rfl,show((0:Int) !=0)=false from rfl,cond_false]
  ·have sp:(z.tmod w).sign=1:=Int.sign_eq_one_of_pos (by omega);rw[sp,show((1:Int) !=0)=true from rfl,cond_true];rw[sp]at g1;rw[sw]at g2
   try simp (disch:=omega) only[g1,rr]
   try simp (disch:=omega) only[g2,Option.bind_some,List.getElem?_cons_zero,qb]
   try simp (disch:=omega) only[show((1:Int) !=1)=false from rfl,cond_false]
theorem wfloor_ev{q:Rat}{k d:Nat}(hk:k<=100000000000)(h:Bd k q)(hd:dn d=q.den):Ev En 91 [zb (q).num,wl (q).num,.bool false,wL (d)] [zb (q16 q),wl (q16 q)]:=by
 obtain⟨n1,h1⟩:=q5o (l:=(dg 1000000000 q.num.natAbs).map d64) (b:=decide (q.num<0)) (d:=d);rw[hd]at h1;obtain⟨n2,h2⟩:=wdm_ev (z:=q.num) (w:=(q.den:Int)) hk (den_pos q) h.1 h.2;rw[q37,q1i]at h2;refine Ev.of (n1+n2) λn hn=>?_;rw[qls]
 try simp (disch:=omega) only[h1,Option.bind_some,List.getElem?_cons_zero,List.getElem?_cons_succ,q9,qa]
 try simp (disch:=omega) only[h2,Option.bind_some,List.getElem?_cons_zero,List.getElem?_cons_succ,q9,qb,qa]
 rfl
theorem rest_eq(q:Rat):(q-(q16 q:Rat))*((q.den:Int):Rat)=(q1u q:Rat):=by
 have e:(q.num:Rat)=((q.den:Int):Rat)*(q16 q:Rat)+(q1u q:Rat):=by
  rw[<- Rat.intCast_mul,<- Rat.intCast_add];unfold q16 q1u;rw[Int.mul_ediv_add_emod]
 have p:((0:Int):Rat)<((q.den:Int):Rat):=Rat.intCast_lt_intCast.2 (den_pos q);have e2:q*((q.den:Int):Rat)=(q.num:Rat):=by
  have e3:(q.num:Rat) / ((q.den:Int):Rat)=q:=by rw[<- Rat.divInt_eq_div,Rat.num_divInt_den]
  have ne:((q.den:Int):Rat)≠0:=λh=>by rw[h]at p;exact absurd p (by decide)
  calc q*((q.den:Int):Rat)=(q.num:Rat) / ((q.den:Int):Rat)*((q.den:Int):Rat):=by rw[e3]
   _=(q.num:Rat):=Rat.div_mul_cancel ne
 grind
theorem half_gt(q:Rat):((1:Int):Rat)<(q-(q16 q:Rat))*((2:Int):Rat)↔(q.den:Int)<q1u q+q1u q:=by
 have p:((0:Int):Rat)<((q.den:Int):Rat):=Rat.intCast_lt_intCast.2 (den_pos q);have e:=rest_eq q;rw[<- Rat.mul_lt_mul_right (c:=((q.den:Int):Rat)) p,<- Rat.intCast_lt_intCast,Rat.intCast_add,<- e,show((1:Int):Rat)=1 from rfl,show((2:Int):Rat)=2 from rfl];constructor <;> intro h <;> grind
theorem half_lt(q:Rat):(q-(q16 q:Rat))*((2:Int):Rat)<((1:Int):Rat)↔q1u q+q1u q<(q.den:Int):=by
 have p:((0:Int):Rat)<((q.den:Int):Rat):=Rat.intCast_lt_intCast.2 (den_pos q);have e:=rest_eq q;rw[<- Rat.mul_lt_mul_right (c:=((q.den:Int):Rat)) p,<- Rat.intCast_lt_intCast,Rat.intCast_add,<- e,show((1:Int):Rat)=1 from rfl,show((2:Int):Rat)=2 from rfl];constructor <;> intro h <;> grind
theorem wround_ev{q:Rat}{k d:Nat}(hk:16*k+100<=100000000000)(hk1:1<=k)(h:Bd k q)(hd:dn d=q.den):Ev En 24 [zb (q).num,wl (q).num,.bool false,wL (d)] [zb (q18 q),wl (q18 q)]:=by
 have two:=two_bd hk1;have hf:(q16 q).natAbs<2^(k+1):=qdg (den_pos q) h.1;have bf:Bd (k+1) (q16 q:Rat):=Bd.int (k:=k+1) hf (by omega);have b2:Bd (k+1) ((2:Int):Rat):=Bd.int (k:=k+1) (by rw[Nat.pow_succ];omega) (by omega);have b1:Bd (k+1) ((1:Int):Rat):=Bd.int (k:=k+1) (by rw[Nat.pow_succ];omega) (by omega);have bq:Bd (k+1) q:=h.mono (by omega);have bx:=bq.sub bf;have by2:=bx.mul b2;obtain⟨n1,h1⟩:=wfloor_ev (by omega:k<=100000000000) h hd;obtain⟨n2,h2⟩:=qbh;obtain⟨n3,h3⟩:=qgp (k:=k+1) (d:=d) (e:=1) (by omega) bq bf hd rfl;rw[show zb ((q16 q:Rat)).num=zb (q16 q) from rfl,show wl ((q16 q:Rat)).num=wl (q16 q) from rfl]at h3;obtain⟨n4,h4⟩:=q9o (z:=2) (by omega) (by omega);obtain⟨n5,h5⟩:=qax (k:=k+1+(k+1)+1) (by omega) bx (b2.mono (by omega)) (qj _) (qj _);obtain⟨n6,h6⟩:=q9o (z:=1) (by omega) (by omega);obtain⟨n7,h7⟩:=wrcmp_ev (k:=k+1+(k+1)+1+(k+1)) (by omega) by2 (b1.mono (by omega)) (qj _) (qj _);obtain⟨n8,h8⟩:=qbf (z:=2) (by omega) (by omega);obtain⟨n9,h9⟩:=wdm_ev (z:=q16 q) (w:=2) (k:=k+1) (by omega) (by omega) hf (by rw[Nat.pow_succ];omega);obtain⟨m1,g1⟩:=qbg (z:=q16 q) (w:=1) (k:=k+1) (by omega) hf (by rw[Nat.pow_succ];omega);rw[show zb (1:Int)=.bool false from rfl,show wl (1:Int)=wL 1 from rfl]at g1;have c:=q9p (q:=(q-(q16 q:Rat))*((2:Int):Rat)) (r:=((1:Int):Rat));have c':=q8i (q:=(q-(q16 q:Rat))*((2:Int):Rat)) (r:=((1:Int):Rat));unfold cmpQ at c c';rw[decide_eq_decide,half_gt]at c;rw[decide_eq_decide,half_lt]at c';refine Ev.of (n1+n2+n3+n4+n5+n6+n7+n8+n9+m1+1) λn hn=>?_;obtain⟨n,rfl⟩:=qSx n (by omega);have g2:=q7n (n:=n) (z:=q16 q%2);rw[qlt]
 try simp (disch:=omega) only[h1,Option.bind_some,List.getElem?_cons_zero,List.getElem?_cons_succ,q9,qa]
 try simp (disch:=omega) only[h2,Option.bind_some,List.getElem?_cons_zero,List.getElem?_cons_succ,q9,qa]
 try simp (disch:=omega) only[h3,Option.bind_some,List.getElem?_cons_zero,List.getElem?_cons_succ,q9,qa]
 try simp (disch:=omega) only[h4,Option.bind_some,List.getElem?_cons_zero,List.getElem?_cons_succ,q9,qa]
 try simp (disch:=omega) only[h5,Option.bind_some,List.getElem?_cons_zero,List.getElem?_cons_succ,q9,qa]
 try simp (disch:=omega) only[h6,Option.bind_some,List.getElem?_cons_zero,List.getElem?_cons_succ,q9,qa]
 try simp (disch:=omega) only[h7,Option.bind_some,List.getElem?_cons_zero,qb]
 try simp (disch:=omega) only[h8,Option.bind_some,List.getElem?_cons_zero,List.getElem?_cons_succ,q9,qa]
 try simp (disch:=omega) only[h9,Option.bind_some,List.getElem?_cons_zero,List.getElem?_cons_succ,q9,qb,qa]
 revert h7 c c';generalize q1n ((((q-(q16 q:Rat))*((2:Int):Rat)).num)*(((1:Int):Rat).den:Int)) ((((1:Int):Rat).num)*(((q-(q16 q:Rat))*((2:Int):Rat)).den:Int))=C;intro h7 c c';unfold q18;by_cases c1:(q.den:Int)<q1u q+q1u q
 ·rw[decide_eq_true (c.2 c1),cond_true,if_pos (.inl c1)]
  try simp (disch:=omega) only[h2,rr]
  try simp (disch:=omega) only[g1,Option.bind_some,List.getElem?_cons_zero,List.getElem?_cons_succ,q9,qa]
 ·rw[decide_eq_false (λx=>c1 (c.1 x)),cond_false];by_cases c2:q1u q+q1u q=(q.den:Int)
  ·have c0:C=0:=by
    have d1:¬ C>0:=λx=>c1 (c.1 x);have d2:¬ C<0:=λx=>by have:=c'.1 x;omega
    omega
   rw[c0,show((0:Int)==0)=true from rfl,cond_true]
   try simp (disch:=omega) only[g2,Option.bind_some,List.getElem?_cons_zero,qb]
   by_cases c3:q16 q%2=0
   ·rw[c3,show(0:Int).sign=0 from rfl,show((0:Int) !=0)=false from rfl,cond_false,if_neg (by omega)]
   ·have c4:q16 q%2=1:=by omega
    rw[c4,show(1:Int).sign=1 from rfl,show((1:Int) !=0)=true from rfl,cond_true,if_pos (.inr ⟨c2,by omega⟩)]
    try simp (disch:=omega) only[h2,rr]
    try simp (disch:=omega) only[g1,Option.bind_some,List.getElem?_cons_zero,List.getElem?_cons_succ,q9,qa]
  ·have c0:C≠0:=λx=>by
    have d1:¬ q1u q+q1u q<(q.den:Int):=λy=>by have:=c'.2 y;omega
    omega
   rw[show(C==0)=false from by simpa using c0,cond_false,if_neg (by omega)]
end Rf
end
section
/- The tables in which the laws on settling are computed: Check and numbers are contracts; slices.Sort, Itoa, names by hand: what these say. -/
namespace Rf
open Go
def q4h(r:Nat):Bool:=(decide (97<=r)&&decide (r<=122))||(decide (945<=r)&&decide (r<=969))
def nameF(s:ByteArray):Nat->Nat->Nat->Bool
 |0,_,n=>decide (1<=n)&&decide (n<=8)
 |b+1,pos,n=>if pos<s.size then(if q4h (Utf8.decode s pos).1 then nameF s b (pos+(Utf8.decode s pos).2) (n+1)else false)else decide (1<=n)&&decide (n<=8)
def q2m(s:ByteArray):Bool:=nameF s s.size 0 0
def nameExt:List FV->Option (List FV)
 |[.str s]=>if s.size<=1099511627776 then some [.bool (q2m s)]else none
 |_=>none
def itoaExt:List FV->Option (List FV)
 |[.int .i64 z]=>if 0<=z/\z<100 then some [.str (txt (ql z.toNat))]else none
 |_=>none
def sortL(l:List (List UInt8)):List (List UInt8):=l.mergeSort λx y=>decide (x<=y)
def sortExt:List FV->Option (List FV)
 |[.list 1 xs]=>if xs.all q4y=true/\xs.length<=1099511627776 then some [.list 1 ((sortL (xs.map byts)).map sF)]else none
 |_=>none
def qaa:List FV->Option (List FV)
 |[.list 1 xs]=>if xs.all q4y=true/\xs.length<=1099511627776 then some [.list 1 ((Lib.compact (xs.map byts)).map sF)]else none
 |_=>none
def rndF:List Nat:=[83,84,85,24,25,43,79,26]
noncomputable def extD:XT:=(86,qaa)::(81,sortExt)::(90,itoaExt)::(87,nameExt)::(97,nameExt)::(lims EnB [15,17]++(lims En rndF++extN))
noncomputable def EnD:Env:=⟨Go.Proofs.Tryz.prog,fcT,tyT,fnT,λf=>lookN f extD⟩
theorem envOkD:qz EnD:=⟨λ_ _ h=>qb0 qb1 h,λ_ _ h=>List.all_eq_true.1 qb2 _ (q7j h),λ_ _ h=>qb3 qb4 h,Checked.mixed Go.Proofs.Tryz.checked⟩
end Rf
end
section
/- Made by a program of this work: what each function comes to, one step of it; by the kernel. -/
set_option maxRecDepth 100000
set_option maxHeartbeats 4000000
namespace Rf
open Go
variable (n m:Nat)
variable (E3 C9 C4 E5 B6 A8 A6 B4 C2 A4 C5 B7 C0 A7 J C7 C8 D8 D7:Bool)
variable (b a d c h e l F C E u s A1 o G A i p B1 C1 D4 D6:List FV)
variable (B9:Nat)
variable (B3 B5 C3 w q t y z H E2 E1 C6 A9 D1:ByteArray)
variable (j B g f A2 E4 E6 B2 x r v D k A5 B8 D2 B0 A3 I A0 D5 E0 D0 D9 D3:Int)
noncomputable def q1f.l5(n:Nat)(ms:List Nat)(m:Nat)(L:List FV):Res:=Lp EnD n 23 [1,1,1,0,1,0] ms m L
noncomputable def q1f.l10(n:Nat)(ms:List Nat)(m:Nat)(L:List FV):Res:=Lp EnD n 23 [1,1,1,1,0,1,0] ms m L
noncomputable def q1f.l19(n:Nat)(ms:List Nat)(m:Nat)(L:List FV):Res:=Lp EnD n 23 [1,1,1,1,1,1,1,1,1,0,1,0] ms m L
noncomputable def q1f.l27(n:Nat)(ms:List Nat)(m:Nat)(L:List FV):Res:=Lp EnD n 23 [1,1,1,1,1,1,1,1,1,1,0,1,0] ms m L
theorem q1f.q1x:q1f.l5 n [] (m+1) (k5 j B d f A2 (k8 e l F C z H A4 k [.list 7 o,.list 8 G,iL A,.list 7 i,iI A3,iI I])) =
(cond (I<A3) ((ix I i.length).bind λK=> (asStr (at' i K 0)).bind λM=> (asInt .i64 (at' i K 1)).bind λN=> (asInt .i64 (at' i K 2)).bind λO=> (asInt .i64 (at' i K 3)).bind λP=> (asBool (at' i K 4)).bind λQ=> (asInt .i64 (at' i K 5)).bind λR=> (asInt .i64 (at' i K 6)).bind λS=>
(cond (Nat.ble (A.length+(qd 1 (.str { data:=#[] }) [(0,(.str M))]).length) 8796093022208) (q1f.l5 n [] m (k5 j B d f A2 (k8 e l F C z H A4 k [.list 7 o,.list 8 G,iL (A++(qd 1 (.str { data:=#[] }) [(0,(.str M))])),.list 7 i,iI A3,iI (IntKind.wrap .i64 (I+1))]))) none)) (q1f.l10 n [] n (k5 j B d f A2 (k8 e l F C z H A4 k [.list 7 o,.list 8 G,iL A,.list 8 G,iI (G.length:Int),iI 0])))):=by kernel_rfl
theorem q1f.q6u:q1f.l10 n [] (m+1) (k5 j B d f A2 (k8 e l F C z H A4 k [.list 7 o,.list 8 G,iL A,.list 8 i,iI A3,iI I])) =
(cond (I<A3) ((ix I i.length).bind λK=> (asStr (at' i K 0)).bind λM=> (asInt .i64 (at' i K 1)).bind λR=> (asInt .i64 (at' i K 2)).bind λS=> (asBool (at' i K 3)).bind λT=> (asInt .i64 (at' i K 4)).bind λU=> (asLst 1 (at' i K 5)).bind λV=> (asInt .i64 (at' i K 6)).bind λW=> (asInt .i64 (at' i K 7)).bind λX=>
(cond (Nat.ble (A.length+(qd 1 (.str { data:=#[] }) [(0,(.str M))]).length) 8796093022208) (q1f.l10 n [] m (k5 j B d f A2 (k8 e l F C z H A4 k [.list 7 o,.list 8 G,iL (A++(qd 1 (.str { data:=#[] }) [(0,(.str M))])),.list 8 i,iI A3,iI (IntKind.wrap .i64 (I+1))]))) none)) ((evF EnD n 81 [iL A]).bind λO=> (asLst 1 O[0]?).bind λP=>(evF EnD n 86 [iL P]).bind λQ=> (asLst 1 Q[0]?).bind λN=>q1f.l19 n [] n (k5 j B d f A2 (k8 e l F C z H A4 k [.list 2 [],iL [],.bool false,.list 7 o,.list 8 G,iL N,iI (N.length:Int),iI 0])))):=by kernel_rfl
theorem q1f.q6x:q1f.l19 n [] (m+1) (k5 j B d f A2 (k8 e l F C z H A4 k [.list 2 o,iL G,.bool A7,.list 7 i,.list 8 p,iL B1,iI A0,iI D5])) =
(cond (D5<A0) ((ix D5 B1.length).bind λO=> (asStr (at' B1 O 0)).bind λM=> (evF EnD n 87 [.str M]).bind λP=> (asBool P[0]?).bind λQ=>
(cond (!Q) (some [.list 2 [],iI 1]) ((evF EnD n 88 (.list 7 i::.list 8 p::k8 e l F C z H A4 k [.str M])).bind λK=> (asLst 1 K[0]?).bind λR=>(asBool K[1]?).bind λS=>(asLst 1 K[2]?).bind λT=>(asBool K[3]?).bind λU=>(asBool K[4]?).bind λY=>
(cond (((4+M.size):Int)>9223372036854775807) none ((evF EnD n 82 (.str ({ data:=#[119,104,111,45] }++M)::iL R::kQ S T U G [.bool A7,.list 2 o])).bind λN=> (asLst 1 N[0]?).bind λV=>(asBool N[1]?).bind λW=>(asLst 2 N[2]?).bind λX=>q1f.l19 n [] m (k5 j B d f A2 (k8 e l F C z H A4 k [.list 2 X,iL V,.bool W,.list 7 i,.list 8 p,iL B1,iI A0,iI (IntKind.wrap .i64 (D5+1))]))))))) (q1f.l27 n [] n (k8 e l F C z H A4 k [.list 2 o,iL G,.bool A7,.list 3 d,iI (d.length:Int),iI 0]))):=by kernel_rfl
theorem q1f.l27_eq:q1f.l27 n [] (m+1) (k8 b a d c C3 w B6 B2 [.list 2 C,iL E,.bool C2,.list 3 s,iI k,iI A5]) =
(cond (A5<k) ((ix A5 s.length).bind λM=> (asInt .i64 (at' s M 0)).bind λQ=> (asInt .i64 (at' s M 1)).bind λR=> (asInt .i64 (at' s M 2)).bind λS=> (evF EnD n 89 (iI Q::iI R::iI S::k8 b a d c C3 w B6 B2 [iI A5])).bind λK=> (asLst 1 K[0]?).bind λT=>(asBool K[1]?).bind λU=>(asLst 1 K[2]?).bind λV=>(asBool K[3]?).bind λW=>(asBool K[4]?).bind λc9=>(evF EnD n 90 [iI A5]).bind λX=> (asStr X[0]?).bind λO=>
(cond (((5+O.size):Int)>9223372036854775807) none ((evF EnD n 82 (.str ({ data:=#[108,105,110,101,45] }++O)::iL T::kQ U V W E [.bool C2,.list 2 C])).bind λN=> (asLst 1 N[0]?).bind λY=>(asBool N[1]?).bind λZ=>(asLst 2 N[2]?).bind λv15=>q1f.l27 n [] m (k8 b a d c C3 w B6 B2 [.list 2 v15,iL Y,.bool Z,.list 3 s,iI k,iI (IntKind.wrap .i64 (A5+1))])))) ((evF EnD n 85 [iL E,.bool C2]).bind λr16=> (asStr r16[0]?).bind λP=>
(cond (Nat.ble (C.length+(qd 1 (.agg [.str { data:=#[] },.str { data:=#[] }]) [(0,(.agg [.str { data:=#[114,111,117,110,100] },.str P]))]).length) 4398046511104) (some [.list 2 (C++(qd 1 (.agg [.str { data:=#[] },.str { data:=#[] }]) [(0,(.agg [.str { data:=#[114,111,117,110,100] },.str P]))])),iI 0]) none))):=by kernel_rfl
theorem qoc:evF EnD (n+1) 23 (k15 j B d f A2 e l F C E u E2 E1 B7 B8 [])=(evF EnD n 15 (k15 j B d f A2 e l F C E u E2 E1 B7 B8 [])).bind λK=> (asInt .i64 (K[0]?)).bind λM=>
(cond (M !=0) (some [.list 2 [],iI 1]) (q1f.l5 n [] n (k5 j B d f A2 (k8 F C E u E2 E1 B7 B8 [.list 7 e,.list 8 l,iL [],.list 7 e,iI (e.length:Int),iI 0])))):=by kernel_rfl
noncomputable def q1d.l3(n:Nat)(ms:List Nat)(m:Nat)(L:List FV):Res:=Lp EnD n 28 [1,1,0,1,0] ms m L
noncomputable def q1d.l7(n:Nat)(ms:List Nat)(m:Nat)(L:List FV):Res:=Lp EnD n 28 [1,1,1,0,1,0] ms m L
noncomputable def q1d.l12(n:Nat)(ms:List Nat)(m:Nat)(L:List FV):Res:=Lp EnD n 28 [1,1,1,1,1,0,1,0] ms m L
noncomputable def q1d.l15(n:Nat)(ms:List Nat)(m:Nat)(L:List FV):Res:=Lp EnD n 28 [1,1,1,1,1,0,1,0,0,1,0,0,1,0,0] ms m L
theorem q1d.qv:q1d.l3 n [] (m+1) [.list 7 b,.list 8 a,iL d,iI f] =
(cond (f<(b.length:Int)) ((ix f b.length).bind λM=> (asStr (at' b M 0)).bind λK=>
(cond (Nat.ble (d.length+(qd 1 (.str { data:=#[] }) [(0,(.str K))]).length) 8796093022208) (q1d.l3 n [] m [.list 7 b,.list 8 a,iL (d++(qd 1 (.str { data:=#[] }) [(0,(.str K))])),iI (IntKind.wrap .i64 (f+1))]) none)) (q1d.l7 n [] n [.list 8 a,iL d,iI 0])):=by kernel_rfl
theorem q1d.l7_eq:q1d.l7 n [] (m+1) [.list 8 b,iL a,iI g] =
(cond (g<(b.length:Int)) ((ix g b.length).bind λM=> (asStr (at' b M 0)).bind λK=>
(cond (Nat.ble (a.length+(qd 1 (.str { data:=#[] }) [(0,(.str K))]).length) 8796093022208) (q1d.l7 n [] m [.list 8 b,iL (a++(qd 1 (.str { data:=#[] }) [(0,(.str K))])),iI (IntKind.wrap .i64 (g+1))]) none)) (q1d.l12 n [] n [iL a,iL (qd 0 (.str { data:=#[] }) []),iI 0])):=by kernel_rfl
theorem q1d.q9k:q1d.l12 n [] (m+1) [iL b,iL a,iI g] =
(cond (g<(b.length:Int)) (q1d.l15 n [m] n [iL b,iL a,iI g,iI 0]) (some [iL a])):=by kernel_rfl
theorem q1d.qa9:q1d.l15 n [B9] (m+1) [iL b,iL a,iI g,iI f] =
(cond (f<(a.length:Int)) ((ix f a.length).bind λX=> (asStr (at' a X 0)).bind λY=> (ix g b.length).bind λZ=> (asStr (at' b Z 0)).bind λu3=>
(cond (Go.Op.bytesLess Y.toList u3.toList) (q1d.l15 n [B9] m [iL b,iL a,iI g,iI (IntKind.wrap .i64 (f+1))]) (cond (f<(a.length:Int)) ((ix f a.length).bind λi4=> (asStr (at' a i4 0)).bind λu5=> (ix g b.length).bind λi6=> (asStr (at' b i6 0)).bind λu7=>
(cond (u5.toList==u7.toList) (q1d.l12 n [] B9 [iL b,iL a,iI (IntKind.wrap .i64 (g+1))]) ((bd f a.length).bind λK=>
(cond (Nat.ble ((qd 0 (.str { data:=#[] }) []).length+(List.drop 0 (List.take K a)).length) 8796093022208) ((ix g b.length).bind λi9=> (asStr (at' b i9 0)).bind λP=>
(cond (Nat.ble (((qd 0 (.str { data:=#[] }) [])++(List.drop 0 (List.take K a))).length+(qd 1 (.str { data:=#[] }) [(0,(.str P))]).length) 8796093022208) ((bd f a.length).bind λT=>
(cond (Nat.ble ((((qd 0 (.str { data:=#[] }) [])++(List.drop 0 (List.take K a)))++(qd 1 (.str { data:=#[] }) [(0,(.str P))])).length+(List.drop T (List.take a.length a)).length) 8796093022208) (q1d.l12 n [] B9 [iL b,iL ((((qd 0 (.str { data:=#[] }) [])++(List.drop 0 (List.take K a)))++(qd 1 (.str { data:=#[] }) [(0,(.str P))]))++(List.drop T (List.take a.length a))),iI (IntKind.wrap .i64 (g+1))]) none)) none)) none)))) ((bd f a.length).bind λM=>
(cond (Nat.ble ((qd 0 (.str { data:=#[] }) []).length+(List.drop 0 (List.take M a)).length) 8796093022208) ((ix g b.length).bind λi13=> (asStr (at' b i13 0)).bind λQ=>
(cond (Nat.ble (((qd 0 (.str { data:=#[] }) [])++(List.drop 0 (List.take M a))).length+(qd 1 (.str { data:=#[] }) [(0,(.str Q))]).length) 8796093022208) ((bd f a.length).bind λU=>
(cond (Nat.ble ((((qd 0 (.str { data:=#[] }) [])++(List.drop 0 (List.take M a)))++(qd 1 (.str { data:=#[] }) [(0,(.str Q))])).length+(List.drop U (List.take a.length a)).length) 8796093022208) (q1d.l12 n [] B9 [iL b,iL ((((qd 0 (.str { data:=#[] }) [])++(List.drop 0 (List.take M a)))++(qd 1 (.str { data:=#[] }) [(0,(.str Q))]))++(List.drop U (List.take a.length a))),iI (IntKind.wrap .i64 (g+1))]) none)) none)) none))))) (cond (f<(a.length:Int)) ((ix f a.length).bind λi16=> (asStr (at' a i16 0)).bind λu17=> (ix g b.length).bind λi18=> (asStr (at' b i18 0)).bind λu19=>
(cond (u17.toList==u19.toList) (q1d.l12 n [] B9 [iL b,iL a,iI (IntKind.wrap .i64 (g+1))]) ((bd f a.length).bind λN=>
(cond (Nat.ble ((qd 0 (.str { data:=#[] }) []).length+(List.drop 0 (List.take N a)).length) 8796093022208) ((ix g b.length).bind λi21=> (asStr (at' b i21 0)).bind λR=>
(cond (Nat.ble (((qd 0 (.str { data:=#[] }) [])++(List.drop 0 (List.take N a))).length+(qd 1 (.str { data:=#[] }) [(0,(.str R))]).length) 8796093022208) ((bd f a.length).bind λV=>
(cond (Nat.ble ((((qd 0 (.str { data:=#[] }) [])++(List.drop 0 (List.take N a)))++(qd 1 (.str { data:=#[] }) [(0,(.str R))])).length+(List.drop V (List.take a.length a)).length) 8796093022208) (q1d.l12 n [] B9 [iL b,iL ((((qd 0 (.str { data:=#[] }) [])++(List.drop 0 (List.take N a)))++(qd 1 (.str { data:=#[] }) [(0,(.str R))]))++(List.drop V (List.take a.length a))),iI (IntKind.wrap .i64 (g+1))]) none)) none)) none)))) ((bd f a.length).bind λO=>
(cond (Nat.ble ((qd 0 (.str { data:=#[] }) []).length+(List.drop 0 (List.take O a)).length) 8796093022208) ((ix g b.length).bind λi25=> (asStr (at' b i25 0)).bind λS=>
(cond (Nat.ble (((qd 0 (.str { data:=#[] }) [])++(List.drop 0 (List.take O a))).length+(qd 1 (.str { data:=#[] }) [(0,(.str S))]).length) 8796093022208) ((bd f a.length).bind λW=>
(cond (Nat.ble ((((qd 0 (.str { data:=#[] }) [])++(List.drop 0 (List.take O a)))++(qd 1 (.str { data:=#[] }) [(0,(.str S))])).length+(List.drop W (List.take a.length a)).length) 8796093022208) (q1d.l12 n [] B9 [iL b,iL ((((qd 0 (.str { data:=#[] }) [])++(List.drop 0 (List.take O a)))++(qd 1 (.str { data:=#[] }) [(0,(.str S))]))++(List.drop W (List.take a.length a))),iI (IntKind.wrap .i64 (g+1))]) none)) none)) none)))):=by kernel_rfl
theorem qnz:evF EnD (n+1) 28 [.list 7 b,.list 8 a]=q1d.l3 n [] n [.list 7 b,.list 8 a,iL (qd 0 (.str { data:=#[] }) []),iI 0]:=by kernel_rfl
theorem qod:evF EnD (n+1) 82 (.str B3::iL a::kQ C9 c C4 e [.bool B6,.list 2 F])=(evF EnD n 83 [iL a,.bool C9,iL c,.bool C4]).bind λK=> (asLst 1 K[0]?).bind λM=>(asBool K[1]?).bind λN=>(evF EnD n 84 [iL e,.bool B6,iL M,.bool N]).bind λO=> (asLst 1 O[0]?).bind λQ=>(asBool O[1]?).bind λR=>(evF EnD n 85 [iL M,.bool N]).bind λS=> (asStr S[0]?).bind λP=>
(cond (Nat.ble (F.length+(qd 1 (.agg [.str { data:=#[] },.str { data:=#[] }]) [(0,(.agg [.str B3,.str P]))]).length) 4398046511104) (some [iL Q,.bool R,.list 2 (F++(qd 1 (.agg [.str { data:=#[] },.str { data:=#[] }]) [(0,(.agg [.str B3,.str P]))]))]) none):=by kernel_rfl
theorem qoe:evF EnD (n+1) 88 (.list 7 b::.list 8 a::k8 d c h e q t A6 r [.str H])=(evF EnD n 150 (.list 7 b::.str H::k8 d c h e q t A6 r [])).bind λK=> (asStr K[0]?).bind λS=>(asLst 1 K[1]?).bind λT=>(asLst 1 K[2]?).bind λU=>(asLst 1 K[3]?).bind λV=>(asLst 1 K[4]?).bind λW=>(asStr K[5]?).bind λX=>(asStr K[6]?).bind λY=>(asBool K[7]?).bind λZ=>(asInt .i64 K[8]?).bind λn9=>(asLst 1 K[9]?).bind λv10=>(asBool K[10]?).bind λc11=>(asLst 1 K[11]?).bind λv12=>(asBool K[12]?).bind λc13=>(asBool K[13]?).bind λc14=>(evF EnD n 155 (.list 8 a::.str S::k8 T U V W X Y Z n9 [])).bind λM=> (asStr M[0]?).bind λu16=>(asLst 1 M[1]?).bind λv17=>(asLst 1 M[2]?).bind λv18=>(asLst 1 M[3]?).bind λv19=>(asLst 1 M[4]?).bind λv20=>(asStr M[5]?).bind λu21=>(asStr M[6]?).bind λu22=>(asBool M[7]?).bind λc23=>(asInt .i64 M[8]?).bind λn24=>(asLst 1 M[9]?).bind λv25=>(asBool M[10]?).bind λc26=>(asLst 1 M[11]?).bind λv27=>(asBool M[12]?).bind λc28=>(asBool M[13]?).bind λc29=>(evF EnD n 113 (iL v10::kQ c11 v12 c13 v25 [.bool c26,iL v27,.bool c28])).bind λN=> (asLst 1 N[0]?).bind λO=>(asBool N[1]?).bind λP=>(asLst 1 N[2]?).bind λQ=>(asBool N[3]?).bind λR=>
(cond c14 (some [iL O,.bool P,iL Q,.bool R,.bool c29]) (some [iL O,.bool P,iL Q,.bool R,.bool false])):=by kernel_rfl
theorem qof:evF EnD (n+1) 89 (iI j::iI B::iI g::k8 c h e l t y B4 v [iI D])=(evF EnD n 159 (iL e::iI D::k8 c h e l t y B4 v [iI j,iI B,iI g])).bind λK=> (asInt .i64 K[0]?).bind λR=>(asLst 1 K[1]?).bind λS=>(asLst 1 K[2]?).bind λT=>(asLst 1 K[3]?).bind λU=>(asLst 1 K[4]?).bind λV=>(asStr K[5]?).bind λW=>(asStr K[6]?).bind λX=>(asBool K[7]?).bind λY=>(asInt .i64 K[8]?).bind λZ=>(asInt .i64 K[9]?).bind λn10=>(asInt .i64 K[10]?).bind λn11=>(asInt .i64 K[11]?).bind λn12=>(asLst 1 K[12]?).bind λM=>(asBool K[13]?).bind λN=>(asLst 1 K[14]?).bind λO=>(asBool K[15]?).bind λP=>(asBool K[16]?).bind λQ=>some [iL M,.bool N,iL O,.bool P,.bool Q]:=by kernel_rfl
noncomputable def q4b.l3(n:Nat)(ms:List Nat)(m:Nat)(L:List FV):Res:=Lp EnD n 150 [1,1,0,1,0] ms m L
theorem q4b.qv:q4b.l3 n [] (m+1) (.str B3::k8 a d c h w q A8 x (iL E::kQ C2 s C5 o [.bool C0,iL A,.bool J,.list 7 p,iI I,iI A0])) =
(cond (A0<I) ((ix A0 p.length).bind λM=> (asStr (at' p M 0)).bind λX=> (asInt .i64 (at' p M 1)).bind λY=> (asInt .i64 (at' p M 2)).bind λZ=> (asInt .i64 (at' p M 3)).bind λn4=> (asBool (at' p M 4)).bind λc5=> (asInt .i64 (at' p M 5)).bind λn6=> (asInt .i64 (at' p M 6)).bind λn7=> (evF EnD n 151 (iI A0::kS X Y Z n4 c5 n6 n7 (.str B3::k8 a d c h w q A8 x []))).bind λK=> (asStr K[0]?).bind λO=>(asLst 1 K[1]?).bind λP=>(asLst 1 K[2]?).bind λQ=>(asLst 1 K[3]?).bind λR=>(asLst 1 K[4]?).bind λS=>(asStr K[5]?).bind λT=>(asStr K[6]?).bind λU=>(asBool K[7]?).bind λV=>(asInt .i64 K[8]?).bind λW=>(asLst 1 K[9]?).bind λv18=>(asBool K[10]?).bind λc19=>(asLst 1 K[11]?).bind λv20=>(asBool K[12]?).bind λc21=>(asBool K[13]?).bind λc22=>
(cond (!c22) (some (.str O::k8 P Q R S T U V W [iL o,.bool C0,iL A,.bool J,.bool false])) ((evF EnD n 113 (iL o::kQ C0 A J v18 [.bool c19,iL v20,.bool c21])).bind λN=> (asLst 1 N[0]?).bind λv24=>(asBool N[1]?).bind λc25=>(asLst 1 N[2]?).bind λv26=>(asBool N[3]?).bind λc27=>q4b.l3 n [] m (.str O::k8 P Q R S T U V W (iL E::kQ C2 s C5 v24 [.bool c25,iL v26,.bool c27,.list 7 p,iI I,iI (IntKind.wrap .i64 (A0+1))]))))) (some (.str B3::k8 a d c h w q A8 x [iL o,.bool C0,iL A,.bool J,.bool true]))):=by kernel_rfl
theorem qog:evF EnD (n+1) 150 (.list 7 b::.str B5::k8 d c h e q t A6 r [])=q4b.l3 n [] n (.str B5::k8 d c h e q t A6 r (iL []::kQ false [] false [] [.bool false,iL [],.bool false,.list 7 b,iI (b.length:Int),iI 0])):=by kernel_rfl
theorem qep:evF EnD (n+1) 151 (iI j::kS B5 g f A2 E5 E6 B2 (.str y::k8 E u s A1 C6 A9 A7 B0 [])) =
(cond (!(B5.toList==y.toList)) (some (.str y::k8 E u s A1 C6 A9 A7 B0 [iL [],.bool false,iL [],.bool false,.bool true])) (cond (j≥(u.length:Int)) (some (.str y::k8 E u s A1 C6 A9 A7 B0 [iL [],.bool false,iL [],.bool false,.bool false])) ((ix j u.length).bind λT=> (asStr (at' u T 0)).bind λU=> (evF EnD n 118 [.str U]).bind λK=> (asLst 1 K[0]?).bind λV=>(asBool K[1]?).bind λW=>(asLst 1 K[2]?).bind λX=>(asBool K[3]?).bind λY=>(asInt .i64 K[4]?).bind λZ=>(evF EnD n 152 (k8 E u s A1 C6 A9 A7 B0 [iI A2,iI f])).bind λM=> (asLst 1 M[0]?).bind λv9=>(asBool M[1]?).bind λc10=>(asLst 1 M[2]?).bind λv11=>(asBool M[3]?).bind λc12=>(asBool M[4]?).bind λc13=>(evF EnD n 154 (iL V::kQ W X Y v9 [.bool c10,iL v11,.bool c12])).bind λN=> (asLst 1 N[0]?).bind λv15=>(asBool N[1]?).bind λc16=>(asLst 1 N[2]?).bind λv17=>(asBool N[3]?).bind λc18=>(evF EnD n 153 (kQ E5 v15 c16 v17 [.bool c18])).bind λO=> (asLst 1 O[0]?).bind λP=>(asBool O[1]?).bind λQ=>(asLst 1 O[2]?).bind λR=>(asBool O[3]?).bind λS=>
(cond c13 (some (.str y::k8 E u s A1 C6 A9 A7 B0 [iL P,.bool Q,iL R,.bool S,.bool (Z==0)])) (some (.str y::k8 E u s A1 C6 A9 A7 B0 [iL P,.bool Q,iL R,.bool S,.bool false])))))):=by kernel_rfl
theorem qab:evF EnD (n+1) 152 (k8 b a d c C3 w B6 B2 [iI x,iI r]) =
(cond (x<0) (some [iL [],.bool false,iL [],.bool false,.bool false]) (cond (x≥(c.length:Int)) (some [iL [],.bool false,iL [],.bool false,.bool false]) (cond (r<0) (some [iL [],.bool false,iL [],.bool false,.bool false]) ((ix x c.length).bind λN=> (asLst 1 (at' c N 0)).bind λO=>
(cond (r≥(O.length:Int)) (some [iL [],.bool false,iL [],.bool false,.bool false]) ((ix x c.length).bind λP=> (asLst 1 (at' c P 0)).bind λM=> (ix r M.length).bind λQ=> (asStr (at' M Q 0)).bind λR=> (evF EnD n 118 [.str R]).bind λK=> (asLst 1 K[0]?).bind λS=>(asBool K[1]?).bind λT=>(asLst 1 K[2]?).bind λU=>(asBool K[3]?).bind λV=>(asInt .i64 K[4]?).bind λW=>some [iL S,.bool T,iL U,.bool V,.bool (W==0)])))))):=by kernel_rfl
theorem qif:evF EnD (n+1) 153 (kQ E3 a C9 c [.bool C4]) =
(cond E3 ((evF EnD n 169 [iL a,.bool C9,iL c,.bool C4]).bind λK=> (asLst 1 K[0]?).bind λM=>(asBool K[1]?).bind λN=>(asLst 1 K[2]?).bind λO=>(asBool K[3]?).bind λP=>some [iL M,.bool N,iL O,.bool P]) (some [iL a,.bool C9,iL c,.bool C4])):=by kernel_rfl
noncomputable def q4c.l3(n:Nat)(ms:List Nat)(m:Nat)(L:List FV):Res:=Lp EnD n 155 [1,1,0,1,0] ms m L
theorem q4c.qv:q4c.l3 n [] (m+1) (.str B3::k8 a d c h w q A8 x (iL E::kQ C2 s C5 o [.bool C0,iL A,.bool J,.list 8 p,iI I,iI A0])) =
(cond (A0<I) ((ix A0 p.length).bind λM=> (asStr (at' p M 0)).bind λX=> (asInt .i64 (at' p M 1)).bind λY=> (asInt .i64 (at' p M 2)).bind λZ=> (asBool (at' p M 3)).bind λc4=> (asInt .i64 (at' p M 4)).bind λn5=> (asLst 1 (at' p M 5)).bind λv6=> (asInt .i64 (at' p M 6)).bind λn7=> (asInt .i64 (at' p M 7)).bind λn8=> (evF EnD n 156 (iI A0::kB X Y Z c4 n5 v6 n7 n8 (.str B3::k8 a d c h w q A8 x []))).bind λK=> (asStr K[0]?).bind λO=>(asLst 1 K[1]?).bind λP=>(asLst 1 K[2]?).bind λQ=>(asLst 1 K[3]?).bind λR=>(asLst 1 K[4]?).bind λS=>(asStr K[5]?).bind λT=>(asStr K[6]?).bind λU=>(asBool K[7]?).bind λV=>(asInt .i64 K[8]?).bind λW=>(asLst 1 K[9]?).bind λv19=>(asBool K[10]?).bind λc20=>(asLst 1 K[11]?).bind λv21=>(asBool K[12]?).bind λc22=>(asBool K[13]?).bind λc23=>
(cond (!c23) (some (.str O::k8 P Q R S T U V W [iL o,.bool C0,iL A,.bool J,.bool false])) ((evF EnD n 113 (iL o::kQ C0 A J v19 [.bool c20,iL v21,.bool c22])).bind λN=> (asLst 1 N[0]?).bind λv25=>(asBool N[1]?).bind λc26=>(asLst 1 N[2]?).bind λv27=>(asBool N[3]?).bind λc28=>q4c.l3 n [] m (.str O::k8 P Q R S T U V W (iL E::kQ C2 s C5 v25 [.bool c26,iL v27,.bool c28,.list 8 p,iI I,iI (IntKind.wrap .i64 (A0+1))]))))) (some (.str B3::k8 a d c h w q A8 x [iL o,.bool C0,iL A,.bool J,.bool true]))):=by kernel_rfl
theorem qoh:evF EnD (n+1) 155 (.list 8 b::.str B5::k8 d c h e q t A6 r [])=q4c.l3 n [] n (.str B5::k8 d c h e q t A6 r (iL []::kQ false [] false [] [.bool false,iL [],.bool false,.list 8 b,iI (b.length:Int),iI 0])):=by kernel_rfl
theorem qc9:evF EnD (n+1) 156 (iI j::kB B5 g f C4 E4 l B2 x (.str z::k8 u s A1 o A9 D1 J A3 [])) =
(cond (!(B5.toList==z.toList)) (some (.str z::k8 u s A1 o A9 D1 J A3 [iL [],.bool false,iL [],.bool false,.bool true])) (cond (j≥(u.length:Int)) (some (.str z::k8 u s A1 o A9 D1 J A3 [iL [],.bool false,iL [],.bool false,.bool false])) ((ix j u.length).bind λM=> (asBool (at' u M 0)).bind λN=>
(cond (!N) (some (.str z::k8 u s A1 o A9 D1 J A3 [iL [],.bool false,iL [],.bool false,.bool true])) ((evF EnD n 157 (iL l::k8 u s A1 o A9 D1 J A3 (kB B5 g f C4 E4 l B2 x []))).bind λK=> (asLst 1 K[0]?).bind λO=>(asLst 1 K[1]?).bind λP=>(asLst 1 K[2]?).bind λQ=>(asLst 1 K[3]?).bind λR=>(asStr K[4]?).bind λS=>(asStr K[5]?).bind λT=>(asBool K[6]?).bind λU=>(asInt .i64 K[7]?).bind λV=>(asStr K[8]?).bind λu11=>(asInt .i64 K[9]?).bind λn12=>(asInt .i64 K[10]?).bind λn13=>(asBool K[11]?).bind λc14=>(asInt .i64 K[12]?).bind λn15=>(asLst 1 K[13]?).bind λv16=>(asInt .i64 K[14]?).bind λn17=>(asInt .i64 K[15]?).bind λn18=>(asLst 1 K[16]?).bind λW=>(asBool K[17]?).bind λX=>(asLst 1 K[18]?).bind λY=>(asBool K[19]?).bind λZ=>(asBool K[20]?).bind λc23=>some (.str z::k8 O P Q R S T U V [iL W,.bool X,iL Y,.bool Z,.bool c23])))))):=by kernel_rfl
noncomputable def q4d.l3(n:Nat)(ms:List Nat)(m:Nat)(L:List FV):Res:=Lp EnD n 157 [1,1,0,1,0] ms m L
theorem q4d.qv:q4d.l3 n [] (m+1) (k8 b a d c C3 w B6 B2 (kB y r v A4 k o B8 D2 (iL i::kQ C7 B1 C8 C1 (kQ D8 D4 D7 D6 [iI D9,iI D3])))) =
(cond (D3<D9) ((ix D3 D6.length).bind λi0=> (asInt .i64 (at' D6 i0 0)).bind λn1=> (evF EnD n 158 (iI D3::iI n1::k8 b a d c C3 w B6 B2 (kB y r v A4 k o B8 D2 []))).bind λK=> (asLst 1 K[0]?).bind λN=>(asLst 1 K[1]?).bind λO=>(asLst 1 K[2]?).bind λP=>(asLst 1 K[3]?).bind λQ=>(asStr K[4]?).bind λR=>(asStr K[5]?).bind λS=>(asBool K[6]?).bind λT=>(asInt .i64 K[7]?).bind λU=>(asStr K[8]?).bind λV=>(asInt .i64 K[9]?).bind λW=>(asInt .i64 K[10]?).bind λX=>(asBool K[11]?).bind λY=>(asInt .i64 K[12]?).bind λZ=>(asLst 1 K[13]?).bind λv16=>(asInt .i64 K[14]?).bind λn17=>(asInt .i64 K[15]?).bind λn18=>(asLst 1 K[16]?).bind λv19=>(asBool K[17]?).bind λc20=>(asLst 1 K[18]?).bind λv21=>(asBool K[19]?).bind λc22=>(asBool K[20]?).bind λc23=>
(cond (!c23) (some (k8 N O P Q R S T U (kB V W X Y Z v16 n17 n18 [iL C1,.bool D8,iL D4,.bool D7,.bool false]))) ((evF EnD n 113 (iL C1::kQ D8 D4 D7 v19 [.bool c20,iL v21,.bool c22])).bind λM=> (asLst 1 M[0]?).bind λv25=>(asBool M[1]?).bind λc26=>(asLst 1 M[2]?).bind λv27=>(asBool M[3]?).bind λc28=>q4d.l3 n [] m (k8 N O P Q R S T U (kB V W X Y Z v16 n17 n18 (iL i::kQ C7 B1 C8 v25 (kQ c26 v27 c28 D6 [iI D9,iI (IntKind.wrap .i64 (D3+1))]))))))) (some (k8 b a d c C3 w B6 B2 (kB y r v A4 k o B8 D2 [iL C1,.bool D8,iL D4,.bool D7,.bool true])))):=by kernel_rfl
theorem qoi:evF EnD (n+1) 157 (iL b::k8 a d c h w q A8 x (kB z v D C5 A5 G D2 B0 []))=q4d.l3 n [] n (k8 a d c h w q A8 x (kB z v D C5 A5 G D2 B0 (iL []::kQ false [] false [] (kQ false [] false b [iI (b.length:Int),iI 0])))):=by kernel_rfl
theorem qoj:evF EnD (n+1) 158 (iI j::iI B::k8 d c h e q t A6 r (kB H D k B7 B8 A B0 A3 []))=(evF EnD n 152 (k8 d c h e q t A6 r [iI j,iI k])).bind λK=> (asLst 1 K[0]?).bind λP=>(asBool K[1]?).bind λQ=>(asLst 1 K[2]?).bind λR=>(asBool K[3]?).bind λS=>(asBool K[4]?).bind λT=>(evF EnD n 111 [iI B]).bind λM=> (asLst 1 M[0]?).bind λU=>(asBool M[1]?).bind λV=>(asLst 1 M[2]?).bind λW=>(asBool M[3]?).bind λX=>(evF EnD n 154 (iL P::kQ Q R S U [.bool V,iL W,.bool X])).bind λN=> (asLst 1 N[0]?).bind λY=>(asBool N[1]?).bind λZ=>(asLst 1 N[2]?).bind λv14=>(asBool N[3]?).bind λc15=>(evF EnD n 153 (kQ B7 Y Z v14 [.bool c15])).bind λO=> (asLst 1 O[0]?).bind λv17=>(asBool O[1]?).bind λc18=>(asLst 1 O[2]?).bind λv19=>(asBool O[3]?).bind λc20=>some (k8 d c h e q t A6 r (kB H D k B7 B8 A B0 A3 [iL v17,.bool c18,iL v19,.bool c20,.bool T])):=by kernel_rfl
noncomputable def q4e.l3(n:Nat)(ms:List Nat)(m:Nat)(L:List FV):Res:=Lp EnD n 159 [1,1,0,1,0] ms m L
theorem q4e.qv:q4e.l3 n [] (m+1) (iI j::k8 a d c h w q A8 x (iI r::iI v::iI D::iL A1::kQ B7 G A7 i (kQ C7 B1 C8 C1 [iI E0,iI D0]))) =
(cond (D0<E0) ((ix D0 C1.length).bind λZ=> (asLst 1 (at' C1 Z 0)).bind λv1=> (evF EnD n 160 (iI D0::iL v1::iI j::k8 a d c h w q A8 x [iI r,iI v,iI D])).bind λK=> (asInt .i64 K[0]?).bind λN=>(asLst 1 K[1]?).bind λO=>(asLst 1 K[2]?).bind λP=>(asLst 1 K[3]?).bind λQ=>(asLst 1 K[4]?).bind λR=>(asStr K[5]?).bind λS=>(asStr K[6]?).bind λT=>(asBool K[7]?).bind λU=>(asInt .i64 K[8]?).bind λV=>(asInt .i64 K[9]?).bind λW=>(asInt .i64 K[10]?).bind λX=>(asInt .i64 K[11]?).bind λY=>(asLst 1 K[12]?).bind λv15=>(asBool K[13]?).bind λc16=>(asLst 1 K[14]?).bind λv17=>(asBool K[15]?).bind λc18=>(asBool K[16]?).bind λc19=>
(cond (!c19) (some (iI N::k8 O P Q R S T U V [iI W,iI X,iI Y,iL i,.bool C7,iL B1,.bool C8,.bool false])) ((evF EnD n 113 (iL i::kQ C7 B1 C8 v15 [.bool c16,iL v17,.bool c18])).bind λM=> (asLst 1 M[0]?).bind λv21=>(asBool M[1]?).bind λc22=>(asLst 1 M[2]?).bind λv23=>(asBool M[3]?).bind λc24=>q4e.l3 n [] m (iI N::k8 O P Q R S T U V (iI W::iI X::iI Y::iL A1::kQ B7 G A7 v21 (kQ c22 v23 c24 C1 [iI E0,iI (IntKind.wrap .i64 (D0+1))])))))) (some (iI j::k8 a d c h w q A8 x [iI r,iI v,iI D,iL i,.bool C7,iL B1,.bool C8,.bool true]))):=by kernel_rfl
theorem qok:evF EnD (n+1) 159 (iL b::iI B::k8 d c h e q t A6 r [iI v,iI D,iI k])=q4e.l3 n [] n (iI B::k8 d c h e q t A6 r (iI v::iI D::iI k::iL []::kQ false [] false [] (kQ false [] false b [iI (b.length:Int),iI 0]))):=by kernel_rfl
theorem qig:evF EnD (n+1) 160 (iI j::iL a::iI g::k8 c h e l t y B4 v [iI D,iI k,iI A5]) =
(cond (g≥(a.length:Int)) (some (iI g::k8 c h e l t y B4 v [iI D,iI k,iI A5,iL [],.bool false,iL [],.bool false,.bool false])) ((ix g a.length).bind λU=> (asStr (at' a U 0)).bind λV=> (evF EnD n 118 [.str V]).bind λK=> (asLst 1 K[0]?).bind λW=>(asBool K[1]?).bind λX=>(asLst 1 K[2]?).bind λY=>(asBool K[3]?).bind λZ=>(asInt .i64 K[4]?).bind λn7=>(evF EnD n 152 (k8 c h e l t y B4 v [iI j,iI D])).bind λM=> (asLst 1 M[0]?).bind λv9=>(asBool M[1]?).bind λc10=>(asLst 1 M[2]?).bind λv11=>(asBool M[3]?).bind λc12=>(asBool M[4]?).bind λc13=>(evF EnD n 152 (k8 c h e l t y B4 v [iI j,iI k])).bind λN=> (asLst 1 N[0]?).bind λv15=>(asBool N[1]?).bind λc16=>(asLst 1 N[2]?).bind λv17=>(asBool N[3]?).bind λc18=>(asBool N[4]?).bind λc19=>(evF EnD n 112 (iL v15::kQ c16 v17 c18 v9 [.bool c10,iL v11,.bool c12])).bind λO=> (asLst 1 O[0]?).bind λv21=>(asBool O[1]?).bind λc22=>(asLst 1 O[2]?).bind λv23=>(asBool O[3]?).bind λc24=>(evF EnD n 154 (iL W::kQ X Y Z v21 [.bool c22,iL v23,.bool c24])).bind λP=> (asLst 1 P[0]?).bind λQ=>(asBool P[1]?).bind λR=>(asLst 1 P[2]?).bind λS=>(asBool P[3]?).bind λT=>
(cond c13 (cond c19 (some (iI g::k8 c h e l t y B4 v [iI D,iI k,iI A5,iL Q,.bool R,iL S,.bool T,.bool (n7==0)])) (some (iI g::k8 c h e l t y B4 v [iI D,iI k,iI A5,iL Q,.bool R,iL S,.bool T,.bool false]))) (some (iI g::k8 c h e l t y B4 v [iI D,iI k,iI A5,iL Q,.bool R,iL S,.bool T,.bool false]))))):=by kernel_rfl
end Rf
end
