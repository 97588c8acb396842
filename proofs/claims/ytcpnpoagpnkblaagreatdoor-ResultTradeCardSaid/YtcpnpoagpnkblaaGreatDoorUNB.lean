/- Texts of this work put together, their blanks and comments taken out: Trd16. -/
import Derived.Test.YtcpnpoagpnkblaaGreatDoorUNA
set_option linter.unusedVariables false
set_option linter.unusedSimpArgs false
section
/- ResultTrade: two who could trade. -/
set_option maxHeartbeats 4000000
namespace Rf
open Go
theorem rd_rt(q:Rat):rd (qz q)=q:=by
 unfold rd;rw[q7k.2 rfl];rfl
theorem isNum_rt(q:Rat):isNum (qz q)=true:=by
 unfold isNum;rw[q7k.2 rfl];rfl
def trG:q1g:=⟨1,1,[],0,1000⟩
def trS(lo hi:Int):List StpV:=[⟨⟨#[97]⟩,1,0,0,false,10,lo⟩,⟨⟨#[98]⟩,1,0,0,true,10,hi⟩]
def trR(x w p:Rat):ResV:=⟨[],[qz x,qz x],[[]],[[qz p]],qz w,qz w,true,0⟩
section
variable {lo hi k p:Int}
theorem tr_shape{x w q:Rat}(h1:0<=lo)(h2:lo<=hi)(h3:hi<=1000):q3y trG (trS lo hi) [] (trR x w q)=true:=by
 refine q9z.2 ⟨?_,rfl,rfl,rfl,rfl,by show(0:Int)<=0;omega,λh hh=>?_⟩
 ·unfold q2b;simp only[Bool.and_eq_true,decide_eq_true_eq];refine⟨⟨⟨⟨⟨⟨⟨by decide,by show 2<=32;omega⟩,by show 0<=12;omega⟩,?_⟩,rfl⟩,?_⟩,rfl⟩,rfl⟩
  ·unfold trS trG;simp only[List.all_cons,List.all_nil,Bool.and_true,Bool.and_eq_true];unfold q3i;simp only[Bool.and_eq_true,q3x];omega
  ·show(nmB ⟨#[97]⟩ 1 ⟨#[98]⟩ 1&&true)=true
   kernel_rfl
 ·have e:h=0:=by
   have:h<1:=hh;omega
  subst e;exact⟨rfl,rfl⟩
theorem tr_read{x w q:Rat}:q2s (trR x w q)=true:=by
 unfold q2s trR;simp only[List.all_cons,List.all_nil,isNum_rt,Bool.and_true]
theorem tr_x0{x w q:Rat}:(trR x w q).xAt 0=x:=rd_rt x
theorem tr_x1{x w q:Rat}:(trR x w q).xAt 1=x:=rd_rt x
theorem tr_p{x w q:Rat}:(trR x w q).pAt 0 0=q:=rd_rt q
theorem tr_bound{w:Rat}(hk:0<=k)(hk2:k<=10)(hp:0<=p)(hp2:p<=1000):q4g trG (trS lo hi) (trR (k:Rat) w (p:Rat))=true:=by
 unfold q4g;rw[Bool.and_eq_true,q51,q51];have kk:inR (k:Rat) 0 10=true:=by
  unfold inR;rw[decide_eq_true (Rat.intCast_le_intCast.2 hk),decide_eq_true (Rat.intCast_le_intCast.2 hk2)];rfl
 refine⟨λi hi=>?_,λi hi=>?_⟩
 ·have hi:i<2:=hi;rcases(show i=0\/i=1 by omega)with rfl | rfl
  ·rw[tr_x0];exact kk
  ·rw[tr_x1];exact kk
 ·have hi:i<1:=hi;obtain rfl:i=0:=by omega
  rw[Bool.and_eq_true,q51,q51];refine⟨λj hj=>absurd hj (Nat.not_lt_zero _),λj hj=>?_⟩;have hj:j<1:=hj;obtain rfl:j=0:=by omega
  rw[tr_p];show inR (p:Rat) 0 1000=true;unfold inR;rw[decide_eq_true (Rat.intCast_le_intCast.2 hp),decide_eq_true (Rat.intCast_le_intCast.2 hp2)];rfl
theorem tr_bal{x w q:Rat}:balV trG (trS lo hi) [] (trR x w q)=true:=by
 unfold balV;rw[q51];intro h hh;have hh:h<1:=hh;obtain rfl:h=0:=by omega
 rw[q51];intro z hz;have hz:z<1:=hz;obtain rfl:z=0:=by omega
 rw[decide_eq_true_eq];have e:q4c (trS lo hi) [] (trR x w q) 0 0=((0:Int):Rat)+(trR x w q).xAt 0-(trR x w q).xAt 1:=rfl;have e2:expV trG.lines (trR x w q) 0 0=0:=rfl;rw[e,e2,tr_x0,tr_x1];have:((0:Int):Rat)=0:=rfl;rw[this]
 grind
theorem tr_steps{w:Rat}(hk:k=9\/k=10):q4q (trS lo hi) (trR (k:Rat) w (p:Rat))=!(decide (p<lo)||decide (hi<p)||(decide (k=9)&&(decide (lo<p)||decide (p<hi)))):=by
 have e:q4q (trS lo hi) (trR (k:Rat) w (p:Rat))=(q4r (trS lo hi) (trR (k:Rat) w (p:Rat)) 0&&(q4r (trS lo hi) (trR (k:Rat) w (p:Rat)) 1&&true)):=rfl;have e0:q4r (trS lo hi) (trR (k:Rat) w (p:Rat)) 0=(!(decide (0<(trR (k:Rat) w (p:Rat)).xAt 0)&&decide ((trR (k:Rat) w (p:Rat)).pAt 0 0<(lo:Rat)))&&!(decide ((trR (k:Rat) w (p:Rat)).xAt 0<((10:Int):Rat))&&decide ((lo:Rat)<(trR (k:Rat) w (p:Rat)).pAt 0 0))):=rfl;have e1:q4r (trS lo hi) (trR (k:Rat) w (p:Rat)) 1=(!(decide (0<(trR (k:Rat) w (p:Rat)).xAt 1)&&decide ((hi:Rat)<(trR (k:Rat) w (p:Rat)).pAt 0 0))&&!(decide ((trR (k:Rat) w (p:Rat)).xAt 1<((10:Int):Rat))&&decide ((trR (k:Rat) w (p:Rat)).pAt 0 0<(hi:Rat)))):=rfl;rw[e,e0,e1,tr_x0,tr_x1,tr_p]
 have k0:decide (0<(k:Rat))=true:=decide_eq_true (by
  have:((0:Int):Rat)<(k:Rat):=Rat.intCast_lt_intCast.2 (by omega)
  exact this)
 have k1:decide ((k:Rat)<((10:Int):Rat))=decide (k=9):=by
  rw[decide_eq_decide,Rat.intCast_lt_intCast];omega
 have c:∀a b:Int,decide ((a:Rat)<(b:Rat))=decide (a<b):=λa b=>by rw[decide_eq_decide,Rat.intCast_lt_intCast]
 rw[k0,k1,c,c,c,c];cases decide (p<lo) <;> cases decide (hi<p) <;> cases decide (k=9) <;> cases decide (lo<p) <;> cases decide (p<hi) <;> rfl
theorem tr_rest{x q:Rat}:q58 trG (trR x (x*((hi-lo:Int):Rat)) q)=true/\q2y [] (trR x (x*((hi-lo:Int):Rat)) q).accept=true/\q7l [] (trR x (x*((hi-lo:Int):Rat)) q)=true /\
  q6p (trS lo hi) [] (trR x (x*((hi-lo:Int):Rat)) q)=true/\upV (trR x (x*((hi-lo:Int):Rat)) q)=true:=by
 refine⟨rfl,?_,rfl,?_,?_⟩
 ·unfold q2y;rw[decide_eq_true (show([]:List BlkV).length=(trR x (x*((hi-lo:Int):Rat)) q).accept.length from rfl),Bool.true_and]
  classical
  exact decide_eq_true λi b hb=>by
   have:=hb.1;simp at this
 ·unfold q6p;rw[decide_eq_true_eq];have e:welV (trS lo hi) [] (trR x (x*((hi-lo:Int):Rat)) q)=0+(trR x (x*((hi-lo:Int):Rat)) q).xAt 0*((-lo:Int):Rat)+(trR x (x*((hi-lo:Int):Rat)) q).xAt 1*((hi:Int):Rat):=rfl;rw[e,tr_x0,tr_x1];have:(0:Rat)+x*((-lo:Int):Rat)+x*((hi:Int):Rat)=x*((hi-lo:Int):Rat):=by
   rw[Rat.intCast_neg,Rat.intCast_sub]
   grind
  rw[this];rfl
 ·unfold upV;have:decide (rd (trR x (x*((hi-lo:Int):Rat)) q).qo<=rd (trR x (x*((hi-lo:Int):Rat)) q).upper)=true:=decide_eq_true (Rat.le_refl);rw[this,decide_eq_true (show(trR x (x*((hi-lo:Int):Rat)) q).upper=(trR x (x*((hi-lo:Int):Rat)) q).qo from rfl)];rfl
theorem tr_chk(h1:0<=lo)(h2:lo<=hi)(h3:hi<=1000)(hk:k=9\/k=10)(hp:0<=p)(hp2:p<=1000) :
  chkV trG (trS lo hi) [] (trR (k:Rat) ((k:Rat)*((hi-lo:Int):Rat)) (p:Rat))=bif(decide (p<lo)||decide (hi<p)||(decide (k=9)&&(decide (lo<p)||decide (p<hi))))then 5 else 0:=by
 obtain⟨a1,a2,a3,a4,a5⟩:=tr_rest (lo:=lo) (hi:=hi) (x:=(k:Rat)) (q:=(p:Rat));unfold chkV;rw[tr_shape h1 h2 h3,tr_read,tr_bound (by omega) (by omega) hp hp2,tr_bal,a1,a2,a3,a4,a5,tr_steps hk];cases(decide (p<lo)||decide (hi<p)||(decide (k=9)&&(decide (lo<p)||decide (p<hi)))) <;> rfl
theorem tr_len{q:Rat}(h:Bd 64 q):(qz q).length<=256:=by
 have:=h.len;omega
theorem tr_sm{x w q:Rat}(hx:Bd 64 x)(hw:Bd 64 w)(hq:Bd 64 q):Sm trG (trS lo hi) [] (trR x w q):=by
 have l1:=tr_len hx;have l2:=tr_len hw;have l3:=tr_len hq;refine⟨by show 2<=256;omega,by show 0<=256;omega,by show 0<=256;omega,by show 0<=256;omega,by show 2<=256;omega,by show 1<=256;omega,by show 1<=256;omega,λt ht=>?_,λl hl=>?_,λl hl=>?_,l2,l2,λb hb=>by cases hb⟩
 ·rcases List.mem_cons.1 ht with rfl | ht
  ·exact l1
  ·rw[List.mem_singleton.1 ht];exact l1
 ·rw[List.mem_singleton.1 hl];exact⟨by show 0<=256;omega,λt ht=>by cases ht⟩
 ·rw[List.mem_singleton.1 hl];exact⟨by show 1<=256;omega,λt ht=>by rw[List.mem_singleton.1 ht];exact l3⟩
theorem c_of{n:Nat}{z:Int}(h1:-9223372036854775808<=z)(h2:z<=9223372036854775807):evF EnC (n+1) 12 [iF z]=some [zb ((z:Rat)).num,wl ((z:Rat)).num,.bool false,wL ((z:Rat)).den]:=by
 have:evF EnC (n+1) 12 [iF z]=limO En 12 [iF z]:=by kernel_rfl
 rw[this];exact q1h (qa9 h1 h2)
theorem c_mul{n:Nat}{q r:Rat}{d e:Nat}(hq:Sz q)(hr:Sz r)(hd:dn d=q.den)(he:dn e=r.den):evF EnC (n+1) 13 [zb (q).num,wl (q).num,.bool false,wL (d),zb (r).num,wl (r).num,.bool false,wL (e)]=some [zb (q*r).num,wl (q*r).num,.bool false,wL (q*r).den]:=by
 have:evF EnC (n+1) 13 [zb (q).num,wl (q).num,.bool false,wL (d),zb (r).num,wl (r).num,.bool false,wL (e)]=limO En 13 [zb (q).num,wl (q).num,.bool false,wL (d),zb (r).num,wl (r).num,.bool false,wL (e)]:=by kernel_rfl
 rw[this];exact q1h (qbi (by omega) hq hr hd he)
theorem q9t{n:Nat}{q:Rat}{d:Nat}(hq:Sz q)(hd:dn d=q.den):evF EnC (n+1) 14 [zb (q).num,wl (q).num,.bool false,wL (d)]=some [sF (qz q)]:=by
 have:evF EnC (n+1) 14 [zb (q).num,wl (q).num,.bool false,wL (d)]=limO En 14 [zb (q).num,wl (q).num,.bool false,wL (d)]:=by kernel_rfl
 rw[this];exact q1h (qaa (by omega) hq hd)
theorem q7r{z:Int}(h1:0<=z)(h2:z<=1000):Bd 16 (z:Rat):=Bd.int (k:=16) (by rw[show(2:Nat)^16=65536 from rfl];omega) (by omega)
theorem tr_end{n:Nat}(h1:0<=lo)(h2:lo<=hi)(h3:hi<=1000)(hk:k=9\/k=10)(hp:0<=p)(hp2:p<=1000){want:Int}(hw:want=bif(decide (p<lo)||decide (hi<p)||(decide (k=9)&&(decide (lo<p)||decide (p<hi))))then 5 else 0) :
  ((evF EnC (n+1) 15 (cL trG (trS lo hi) [] (trR (k:Rat) ((k:Rat)*((hi-lo:Int):Rat)) (p:Rat)) [])).bind λr33=>(asInt .i64 (r33[0]?)).bind λn34=>some [FV.bool (n34==want)])=some [.bool true]:=by
 have b1:=q7r (z:=k) (by omega) (by omega);have b2:=q7r (z:=hi-lo) (by omega) (by omega);have b3:=q7r (z:=p) (by omega) (by omega);rw[q8s (tr_sm (b1.mono (by omega)) ((b1.mul b2).mono (by omega)) (b3.mono (by omega))),tr_chk h1 h2 h3 hk hp hp2,<- hw];simp (disch:=omega) only[Option.bind_some,List.getElem?_cons_zero,qb];rw[beq_self_eq_true]
theorem trade_run{x0 x1 x2:Int}{b:Bool}{n:Nat}(h0:0<=x0)(h0':x0<=65535)(h1:0<=x1)(h1':x1<=65535)(h2:0<=x2)(h2':x2<=65535) :
  evF EnC (n+2) 3 [.int .u16 x0,.int .u16 x1,.int .u16 x2,.bool b]=some [.bool true]:=by
 rw[ql7,qm (x:=x0) (by omega) (by omega),qm (x:=x1) (by omega) (by omega),qm (x:=x2) (by omega) (by omega),Int.tmod_eq_emod_of_nonneg h0,Int.tmod_eq_emod_of_nonneg h1,Int.tmod_eq_emod_of_nonneg h2];have a1:=Int.emod_nonneg x0 (show(500:Int)≠0 by omega);have a2:=Int.emod_lt_of_pos x0 (show(0:Int)<500 by omega);have v1:=Int.emod_nonneg x1 (show(500:Int)≠0 by omega);have v2:=Int.emod_lt_of_pos x1 (show(0:Int)<500 by omega);have p1:=Int.emod_nonneg x2 (show(1001:Int)≠0 by omega);have p2:=Int.emod_lt_of_pos x2 (show(0:Int)<1001 by omega);generalize x0%500=lo at a1 a2 ⊢;generalize x1%500=v at v1 v2 ⊢;generalize x2%1001=p at p1 p2 ⊢;rw[qm (x:=lo+v) (by omega) (by omega)];obtain⟨hi,rfl⟩:∃hi,v=hi-lo:=⟨lo+v,by omega⟩;rw[show lo+(hi-lo)=hi by omega,qm (x:=hi-lo) (by omega) (by omega)];have d1:∀z:Int,dn ((z:Rat)).den=((z:Rat)).den:=λz=>qj _;have B:∀z:Int,0<=z->z<=1000->Sz (z:Rat):=λz h1 h2=>(q7r h1 h2).mono (by omega);rw[c_of (n:=n) (z:=10) (by omega) (by omega)];simp (disch:=omega) only[Option.bind_some,List.getElem?_cons_zero,List.getElem?_cons_succ,q9,qa];cases b with
 |true =>
  rw[cond_true,c_of (n:=n) (z:=9) (by omega) (by omega)];simp (disch:=omega) only[Option.bind_some,List.getElem?_cons_zero,List.getElem?_cons_succ,q9,qa,cond_true];rw[c_of (n:=n) (z:=hi-lo) (by omega) (by omega)];simp (disch:=omega) only[Option.bind_some,List.getElem?_cons_zero,List.getElem?_cons_succ,q9,qa];rw[c_mul (n:=n) (B 9 (by omega) (by omega)) (B (hi-lo) (by omega) (by omega)) (d1 _) (d1 _)];simp (disch:=omega) only[Option.bind_some,List.getElem?_cons_zero,List.getElem?_cons_succ,q9,qa];rw[q9t (n:=n) (((q7r (z:=9) (by omega) (by omega)).mul (q7r (z:=hi-lo) (by omega) (by omega))).mono (by omega)) (qj _)];simp (disch:=omega) only[Option.bind_some,List.getElem?_cons_zero,qn];rw[q9t (n:=n) (B 9 (by omega) (by omega)) (d1 _)];simp (disch:=omega) only[Option.bind_some,List.getElem?_cons_zero,qn];rw[c_of (n:=n) (z:=p) (by omega) (by omega)];simp (disch:=omega) only[Option.bind_some,List.getElem?_cons_zero,List.getElem?_cons_succ,q9,qa];rw[q9t (n:=n) (B p (by omega) (by omega)) (d1 _)];simp (disch:=omega) only[Option.bind_some,List.getElem?_cons_zero,qn];have E:=λ(want:Int) hw=>tr_end (n:=n) (lo:=lo) (hi:=hi) (k:=9) (p:=p) (by omega) (by omega) (by omega) (.inl rfl) (by omega) (by omega) (want:=want) hw;by_cases q1:p<lo
  ·rw[decide_eq_true q1,cond_true];exact E 5 (by rw[decide_eq_true q1];rfl)
  ·rw[decide_eq_false q1,cond_false];by_cases q2:hi<p
   ·rw[decide_eq_true (p:=p>hi) q2,cond_true];exact E 5 (by rw[decide_eq_true q2,Bool.or_true];rfl)
   ·rw[decide_eq_false (p:=p>hi) q2,cond_false];by_cases q3:lo<p
    ·rw[decide_eq_true (p:=p>lo) q3,cond_true];exact E 5 (by rw[decide_eq_true q3,Bool.true_or,show decide ((9:Int)=9)=true from rfl,Bool.true_and,Bool.or_true];rfl)
    ·rw[decide_eq_false (p:=p>lo) q3,cond_false];by_cases q4:p<hi
     ·rw[decide_eq_true q4,cond_true];exact E 5 (by rw[decide_eq_true q4,Bool.or_true,show decide ((9:Int)=9)=true from rfl,Bool.true_and,Bool.or_true];rfl)
     ·rw[decide_eq_false q4,cond_false];exact E 0 (by rw[decide_eq_false q1,decide_eq_false q2,decide_eq_false q3,decide_eq_false q4];rfl)
 |false =>
  rw[cond_false,c_of (n:=n) (z:=hi-lo) (by omega) (by omega)];simp (disch:=omega) only[Option.bind_some,List.getElem?_cons_zero,List.getElem?_cons_succ,q9,qa,cond_false];rw[c_mul (n:=n) (B 10 (by omega) (by omega)) (B (hi-lo) (by omega) (by omega)) (d1 _) (d1 _)];simp (disch:=omega) only[Option.bind_some,List.getElem?_cons_zero,List.getElem?_cons_succ,q9,qa];rw[q9t (n:=n) (((q7r (z:=10) (by omega) (by omega)).mul (q7r (z:=hi-lo) (by omega) (by omega))).mono (by omega)) (qj _)];simp (disch:=omega) only[Option.bind_some,List.getElem?_cons_zero,qn];rw[q9t (n:=n) (B 10 (by omega) (by omega)) (d1 _)];simp (disch:=omega) only[Option.bind_some,List.getElem?_cons_zero,qn];rw[c_of (n:=n) (z:=p) (by omega) (by omega)];simp (disch:=omega) only[Option.bind_some,List.getElem?_cons_zero,List.getElem?_cons_succ,q9,qa];rw[q9t (n:=n) (B p (by omega) (by omega)) (d1 _)];simp (disch:=omega) only[Option.bind_some,List.getElem?_cons_zero,qn];have E:=λ(want:Int) hw=>tr_end (n:=n) (lo:=lo) (hi:=hi) (k:=10) (p:=p) (by omega) (by omega) (by omega) (.inr rfl) (by omega) (by omega) (want:=want) hw;by_cases q1:p<lo
  ·rw[decide_eq_true q1,cond_true];exact E 5 (by rw[decide_eq_true q1];rfl)
  ·rw[decide_eq_false q1,cond_false];by_cases q2:hi<p
   ·rw[decide_eq_true (p:=p>hi) q2,cond_true];exact E 5 (by rw[decide_eq_true q2,Bool.or_true];rfl)
   ·rw[decide_eq_false (p:=p>hi) q2,cond_false];exact E 0 (by rw[decide_eq_false q1,decide_eq_false q2];rfl)
end
theorem qlu(L:List FV)(h:All2 Fits [.int .u16,.int .u16,.int .u16,.bool] L):∃n,evF EnC n 3 L=some [.bool true]:=by
 obtain⟨y1,r1,rfl,h1,h⟩:=h.cons_inv;obtain⟨y2,r2,rfl,h2,h⟩:=h.cons_inv;obtain⟨y3,r3,rfl,h3,h⟩:=h.cons_inv;obtain⟨y4,r4,rfl,h4,h⟩:=h.cons_inv;obtain rfl:=h.q52;obtain⟨x0,rfl,a0,b0⟩:=h1.q1c;obtain⟨x1,rfl,a1,b1⟩:=h2.q1c;obtain⟨x2,rfl,a2,b2⟩:=h3.q1c;obtain⟨b,rfl⟩:=h4.q3e;have k1:IntKind.u16.min=0:=rfl;have k2:IntKind.u16.max=65535:=rfl;rw[k1]at a0 a1 a2;rw[k2]at b0 b1 b2;exact⟨0+2,trade_run a0 b0 a1 b1 a2 b2⟩
end Rf
end
