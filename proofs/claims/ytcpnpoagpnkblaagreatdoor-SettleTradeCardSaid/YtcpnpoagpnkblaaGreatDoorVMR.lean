/- Texts of this work put together, their blanks and comments taken out: Num, RefN, RefT, RefZ. -/
import Derived.Test.YtcpnpoagpnkblaaGreatDoorVMQ
import Derived.Test.YtcpnpoagpnkblaaGreatDoorVMI
import Derived.Test.YtcpnpoagpnkblaaGreatDoorVMG
set_option linter.unusedVariables false
set_option linter.unusedSimpArgs false
section
/- The program's whole numbers (package num): each function by what its numbers are. -/
set_option maxHeartbeats 1000000
namespace Rf
open Go
abbrev nL(x:Nat):FV:=L32 (dg 4294967296 x)
abbrev zl(z:Int):FV:=nL z.natAbs
abbrev zb(z:Int):FV:=.bool (decide (z<0))
def sg(s:Bool)(x:Nat):Int:=if s then -(x:Int)else x
theorem sg_abs(s:Bool)(x:Nat):(sg s x).natAbs=x:=by unfold sg;split <;> omega
theorem sg_neg(s:Bool)(x:Nat):decide (sg s x<0)=(s&&decide (0<x)):=by
 unfold sg;cases s <;> simp
theorem q3f{x k:Nat}(h:x<2^k)(hk:k<=100000000000):(dg 4294967296 x).length<=100000000000:=Nat.le_trans (qf1 qp h) hk
theorem zero_ev{x k:Nat}{s:Bool}(hk:k<=100000000000)(hx:x<2^k):Ev En 198 [nL x,.bool s] [.bool (decide (x=0))]:=by
 have l:=q3f hx hk;obtain⟨n1,h1⟩:=qci (x:=x) (by omega);refine Ev.of n1 λn hn=>?_;rw[qq3];simp (disch:=omega) only[h1,Option.bind_some,List.getElem?_cons_zero,qb];have:(((q6b x:Nat):Int)==0)=decide (x=0):=by
  rw[Bool.eq_iff_iff,beq_iff_eq,decide_eq_true_eq,<- qcj];omega
 rw[this]
theorem q4i{x k:Nat}{s:Bool}(hk:k<=100000000000)(hx:x<2^k):Ev En 199 [.bool s,nL x] [zl (sg s x),zb (sg s x)]:=by
 have l:=q3f hx hk;obtain⟨n1,h1⟩:=qci (x:=x) (by omega);refine Ev.of n1 λn hn=>?_;rw[qq4];unfold zl zb;rw[sg_abs,sg_neg];cases s
 ·simp (disch:=omega) only[cond_false];rfl
 ·simp (disch:=omega) only[h1,Option.bind_some,List.getElem?_cons_zero,qb,cond_true];have:decide (((q6b x:Nat):Int)>0)=decide (0<x):=by
   rw[Bool.eq_iff_iff,decide_eq_true_eq,decide_eq_true_eq];have:=@qcj x;omega
  rw[this];rfl
theorem qbe{z:Int}{k:Nat}(hk:k<=100000000000)(hz:z.natAbs<2^k):Ev En 145 [zl z,zb z] [.int .i64 z.sign]:=by
 obtain⟨n1,h1⟩:=zero_ev (s:=decide (z<0)) hk hz;refine Ev.of n1 λn hn=>?_;rw[qq5];by_cases h:z<0
 ·rw[decide_eq_true h];simp (disch:=omega) only[cond_true];rw[Int.sign_eq_neg_one_of_neg h]
 ·rw[decide_eq_false h]at h1 ⊢;simp (disch:=omega) only[h1,Option.bind_some,List.getElem?_cons_zero,qa,cond_false];by_cases h0:z=0
  ·subst h0;rfl
  ·rw[decide_eq_false (by omega)];simp (disch:=omega) only[cond_false];rw[Int.sign_eq_one_of_pos (by omega)]
theorem qck{z:Int}{k:Nat}(hk:k<=100000000000)(hz:z.natAbs<2^k):Ev En 147 [zl z,zb z] [zl (-z),zb (-z)]:=by
 obtain⟨n1,h1⟩:=q4i (s:=!(decide (z<0))) hk hz;refine Ev.of n1 λn hn=>?_;rw[qq6];simp (disch:=omega) only[h1,Option.bind_some,List.getElem?_cons_zero,List.getElem?_cons_succ,q9,qa];have:sg (!(decide (z<0))) z.natAbs=-z:=by
  unfold sg;by_cases h:z<0 <;> simp[h] <;> omega
 rw[this]
theorem nabs_ev{z:Int}:Ev En 218 [zl z,zb z] [nL z.natAbs]:=Ev.of 0 λn _=>qq7 n _ _
theorem pow_two{a b k:Nat}(h:a<2^k)(h':b<2^k):a+b<2^(k+1):=by rw[Nat.pow_succ];omega
theorem q8l{z w:Int}{k:Nat}(hk:k+1<=100000000000)(hz:z.natAbs<2^k)(hw:w.natAbs<2^k):Ev En 141 [zl z,zb z,zl w,zb w] [zl (z+w),zb (z+w)]:=by
 have lz:=q3f hz (by omega);have lw:=q3f hw (by omega);by_cases hs:decide (z<0)=decide (w<0)
 ·obtain⟨n1,h1⟩:=natAdd_ev (x:=z.natAbs) (y:=w.natAbs) (by omega) (by omega);obtain⟨n2,h2⟩:=q4i (s:=decide (z<0)) hk (pow_two hz hw);refine Ev.of (n1+n2) λn hn=>?_;rw[qf2,hs];rw[hs]at h2;simp (disch:=omega) only[h1,h2,beq_self_eq_true,Option.bind_some,List.getElem?_cons_zero,List.getElem?_cons_succ,q9,qa,cond_true];have:sg (decide (w<0)) (z.natAbs+w.natAbs)=z+w:=by
   unfold sg;by_cases h:w<0
   ·have:z<0:=by rw[decide_eq_true h]at hs;exact of_decide_eq_true hs
    simp[h];omega
   ·have:¬ z<0:=by rw[decide_eq_false h]at hs;exact of_decide_eq_false hs
    simp[h];omega
  rw[this]
 ·have hb:(decide (z<0)==decide (w<0))=false:=beq_eq_false_iff_ne.2 hs;have hsgn:(z<0/\0<=w)\/(0<=z/\w<0):=by
   by_cases h:z<0 <;> by_cases h':w<0 <;> simp_all <;> omega
  by_cases hle:w.natAbs<=z.natAbs
  ·obtain⟨n1,h1⟩:=qje (x:=z.natAbs) (y:=w.natAbs) (by omega) hle (by omega) (by omega);obtain⟨n2,h2⟩:=q4i (k:=k) (x:=z.natAbs-w.natAbs) (s:=decide (z<0)) (by omega) (by omega);refine Ev.of (n1+n2) λn hn=>?_;rw[qf2,hb];simp (disch:=omega) only[h1,h2,beq_self_eq_true,Option.bind_some,List.getElem?_cons_zero,List.getElem?_cons_succ,q9,qb,qa,cond_true,cond_false];have:sg (decide (z<0)) (z.natAbs-w.natAbs)=z+w:=by
    unfold sg;by_cases h:z<0 <;> simp[h] <;> omega
   rw[this]
  ·obtain⟨n1,h1⟩:=qq8 (x:=z.natAbs) (y:=w.natAbs) (by omega) (by omega) (by omega);obtain⟨n3,h3⟩:=qje (x:=w.natAbs) (y:=z.natAbs) (by omega) (by omega) (by omega) (by omega);obtain⟨n2,h2⟩:=q4i (k:=k) (x:=w.natAbs-z.natAbs) (s:=decide (w<0)) (by omega) (by omega);refine Ev.of (n1+n2+n3) λn hn=>?_;rw[qf2,hb];simp (disch:=omega) only[h1,h2,h3,show((11:Int)==0)=false from rfl,Option.bind_some,List.getElem?_cons_zero,List.getElem?_cons_succ,q9,qb,qa,cond_false];have:sg (decide (w<0)) (w.natAbs-z.natAbs)=z+w:=by
    unfold sg;by_cases h:w<0 <;> simp[h] <;> omega
   rw[this]
theorem qbc{z w:Int}{k:Nat}(hk:k+1<=100000000000)(hz:z.natAbs<2^k)(hw:w.natAbs<2^k):Ev En 84 [zl z,zb z,zl w,zb w] [zl (z-w),zb (z-w)]:=by
 obtain⟨n1,h1⟩:=qck (by omega) hw;obtain⟨n2,h2⟩:=q8l (w:=-w) hk hz (by rw[Int.natAbs_neg];exact hw);refine Ev.of (n1+n2) λn hn=>?_;rw[qq9];simp (disch:=omega) only[h1,h2,Option.bind_some,List.getElem?_cons_zero,List.getElem?_cons_succ,q9,qa];rw[Int.sub_eq_add_neg]
theorem sg_mul(z w:Int):sg (!(decide (z<0)==decide (w<0))) (z.natAbs*w.natAbs)=z*w:=by
 unfold sg;rcases Int.lt_or_le z 0 with h | h <;> rcases Int.lt_or_le w 0 with h' | h'
 ·obtain⟨x,rfl⟩:∃x:Nat,z=-(x:Int):=⟨z.natAbs,by omega⟩;obtain⟨y,rfl⟩:∃y:Nat,w=-(y:Int):=⟨w.natAbs,by omega⟩;rw[Int.neg_mul_neg,decide_eq_true h,decide_eq_true h',Int.natAbs_neg,Int.natAbs_neg];simp
 ·obtain⟨x,rfl⟩:∃x:Nat,z=-(x:Int):=⟨z.natAbs,by omega⟩;obtain⟨y,rfl⟩:∃y:Nat,w=(y:Int):=⟨w.natAbs,by omega⟩;rw[Int.neg_mul,decide_eq_true h,decide_eq_false (by omega),Int.natAbs_neg];simp
 ·obtain⟨x,rfl⟩:∃x:Nat,z=(x:Int):=⟨z.natAbs,by omega⟩;obtain⟨y,rfl⟩:∃y:Nat,w=-(y:Int):=⟨w.natAbs,by omega⟩;rw[Int.mul_neg,decide_eq_true h',decide_eq_false (by omega),Int.natAbs_neg];simp
 ·obtain⟨x,rfl⟩:∃x:Nat,z=(x:Int):=⟨z.natAbs,by omega⟩;obtain⟨y,rfl⟩:∃y:Nat,w=(y:Int):=⟨w.natAbs,by omega⟩;rw[decide_eq_false (by omega),decide_eq_false (by omega)];simp
theorem q5g{z w:Int}{k:Nat}(hk:k+k<=100000000000)(hz:z.natAbs<2^k)(hw:w.natAbs<2^k):Ev En 173 [zl z,zb z,zl w,zb w] [zl (z*w),zb (z*w)]:=by
 have lz:=q3f hz (by omega);have lw:=q3f hw (by omega);obtain⟨n1,h1⟩:=natMul_ev (x:=z.natAbs) (y:=w.natAbs) (by omega);obtain⟨n2,h2⟩:=q4i (s:=!(decide (z<0)==decide (w<0))) hk (q3j hz hw);refine Ev.of (n1+n2) λn hn=>?_;rw[qqa];simp (disch:=omega) only[h1,h2,Option.bind_some,List.getElem?_cons_zero,List.getElem?_cons_succ,q9,qa];rw[sg_mul z w]
def q1n(z w:Int):Int:=if z<w then -1 else if w<z then 1 else 0
theorem cmpN_pos{z w:Int}(hz:0<=z)(hw:0<=w):cmpN z.natAbs w.natAbs=q1n z w:=by
 have e1:z.natAbs<w.natAbs↔z<w:=by omega
 have e2:w.natAbs<z.natAbs↔w<z:=by omega
 simp only[cmpN,q1n,e1,e2]
theorem cmpN_neg{z w:Int}(hz:z<0)(hw:w<0):cmpN w.natAbs z.natAbs=q1n z w:=by
 have e1:w.natAbs<z.natAbs↔z<w:=by omega
 have e2:z.natAbs<w.natAbs↔w<z:=by omega
 simp only[cmpN,q1n,e1,e2]
theorem qbd{z w:Int}{k:Nat}(hk:k<=100000000000)(hz:z.natAbs<2^k)(hw:w.natAbs<2^k):Ev En 142 [zl z,zb z,zl w,zb w] [.int .i64 (q1n z w)]:=by
 have lz:=q3f hz (by omega);have lw:=q3f hw (by omega);obtain⟨n1,h1⟩:=q88 (x:=z.natAbs) (y:=w.natAbs) (by omega) (by omega);obtain⟨n2,h2⟩:=q88 (x:=w.natAbs) (y:=z.natAbs) (by omega) (by omega);refine Ev.of (n1+n2) λn hn=>?_;rw[qqb];by_cases h:z<0 <;> by_cases h':w<0
 ·rw[decide_eq_true h,decide_eq_true h'];simp (disch:=omega) only[h1,h2,Bool.not_true,Option.bind_some,List.getElem?_cons_zero,qb,cond_true,cond_false];rw[cmpN_neg h h']
 ·rw[decide_eq_true h,decide_eq_false h'];simp (disch:=omega) only[h1,h2,Bool.not_true,Bool.not_false,Option.bind_some,List.getElem?_cons_zero,qb,cond_true,cond_false];unfold q1n;rw[if_pos (by omega)]
 ·rw[decide_eq_false h,decide_eq_true h'];simp (disch:=omega) only[h1,h2,Bool.not_true,Bool.not_false,Option.bind_some,List.getElem?_cons_zero,qb,cond_true,cond_false];unfold q1n;rw[if_neg (by omega),if_pos (by omega)]
 ·rw[decide_eq_false h,decide_eq_false h'];simp (disch:=omega) only[h1,h2,Bool.not_false,Option.bind_some,List.getElem?_cons_zero,qb,cond_true,cond_false];rw[cmpN_pos (by omega) (by omega)]
theorem qbb{z:Int}(h1:-9223372036854775808<=z)(h2:z<=9223372036854775807):Ev En 144 [.int .i64 z] [zl z,zb z]:=by
 have hb:z.natAbs<2^64:=by
  have:(2:Nat)^64=18446744073709551616:=by decide
  omega
 obtain⟨n1,g1⟩:=qf3 (x:=z.natAbs) (by omega);obtain⟨n2,g2⟩:=q4i (s:=decide (z<0)) (k:=64) (by omega) hb;refine Ev.of (n1+n2) λn hn=>?_;rw[num_Of_eq];by_cases h:z<0
 ·rw[decide_eq_true h]at g2 ⊢;have e:IntKind.wrap .u64 (0-IntKind.wrap .u64 z)=(z.natAbs:Int):=by
   unfold IntKind.wrap;simp[IntKind.bits,IntKind.signed];omega
  rw[e];simp (disch:=omega) only[g1,g2,Option.bind_some,List.getElem?_cons_zero,List.getElem?_cons_succ,q9,qa,cond_true];have:sg true z.natAbs=z:=by unfold sg;simp;omega
  rw[this]
 ·rw[decide_eq_false h]at g2 ⊢;have e:IntKind.wrap .u64 z=(z.natAbs:Int):=by
   unfold IntKind.wrap;simp[IntKind.bits,IntKind.signed];omega
  rw[e];simp (disch:=omega) only[g1,g2,Option.bind_some,List.getElem?_cons_zero,List.getElem?_cons_succ,q9,qa,cond_false];have:sg false z.natAbs=z:=by unfold sg;simp;omega
  rw[this]
theorem sg_div(z w:Int):sg (!(decide (z<0)==decide (w<0))) (z.natAbs / w.natAbs)=z.tdiv w:=by
 unfold sg;rcases Int.lt_or_le z 0 with h | h <;> rcases Int.lt_or_le w 0 with h' | h'
 ·obtain⟨x,rfl⟩:∃x:Nat,z=-(x:Int):=⟨z.natAbs,by omega⟩;obtain⟨y,rfl⟩:∃y:Nat,w=-(y:Int):=⟨w.natAbs,by omega⟩;rw[Int.neg_tdiv_neg,decide_eq_true h,decide_eq_true h',Int.natAbs_neg,Int.natAbs_neg];simp
 ·obtain⟨x,rfl⟩:∃x:Nat,z=-(x:Int):=⟨z.natAbs,by omega⟩;obtain⟨y,rfl⟩:∃y:Nat,w=(y:Int):=⟨w.natAbs,by omega⟩;rw[Int.neg_tdiv,decide_eq_true h,decide_eq_false (by omega),Int.natAbs_neg];simp
 ·obtain⟨x,rfl⟩:∃x:Nat,z=(x:Int):=⟨z.natAbs,by omega⟩;obtain⟨y,rfl⟩:∃y:Nat,w=-(y:Int):=⟨w.natAbs,by omega⟩;rw[Int.tdiv_neg,decide_eq_true h',decide_eq_false (by omega),Int.natAbs_neg];simp
 ·obtain⟨x,rfl⟩:∃x:Nat,z=(x:Int):=⟨z.natAbs,by omega⟩;obtain⟨y,rfl⟩:∃y:Nat,w=(y:Int):=⟨w.natAbs,by omega⟩;rw[decide_eq_false (by omega),decide_eq_false (by omega)];simp
theorem sg_mod(z w:Int):sg (decide (z<0)) (z.natAbs%w.natAbs)=z.tmod w:=by
 unfold sg;rcases Int.lt_or_le z 0 with h | h
 ·obtain⟨x,rfl⟩:∃x:Nat,z=-(x:Int):=⟨z.natAbs,by omega⟩;rw[Int.neg_tmod,decide_eq_true h,Int.natAbs_neg];rcases Int.lt_or_le w 0 with h' | h'
  ·obtain⟨y,rfl⟩:∃y:Nat,w=-(y:Int):=⟨w.natAbs,by omega⟩;rw[Int.tmod_neg];simp[Int.tmod_eq_emod_of_nonneg]
  ·obtain⟨y,rfl⟩:∃y:Nat,w=(y:Int):=⟨w.natAbs,by omega⟩;simp[Int.tmod_eq_emod_of_nonneg]
 ·obtain⟨x,rfl⟩:∃x:Nat,z=(x:Int):=⟨z.natAbs,by omega⟩;rw[decide_eq_false (by omega)];rcases Int.lt_or_le w 0 with h' | h'
  ·obtain⟨y,rfl⟩:∃y:Nat,w=-(y:Int):=⟨w.natAbs,by omega⟩;rw[Int.tmod_neg];simp[Int.tmod_eq_emod_of_nonneg]
  ·obtain⟨y,rfl⟩:∃y:Nat,w=(y:Int):=⟨w.natAbs,by omega⟩;simp[Int.tmod_eq_emod_of_nonneg]
theorem qba{z w:Int}{k:Nat}(hk:k<=100000000000)(h0:w≠0)(hz:z.natAbs<2^k)(hw:w.natAbs<2^k) :
  Ev En 143 [zl z,zb z,zl w,zb w] [zl (z.tdiv w),zb (z.tdiv w),zl (z.tmod w),zb (z.tmod w),.int .i64 0]:=by
 have lz:=q3f hz (by omega);have lw:=q3f hw (by omega);have hq:z.natAbs / w.natAbs<2^k:=Nat.lt_of_le_of_lt (Nat.div_le_self _ _) hz;have hr:z.natAbs%w.natAbs<2^k:=Nat.lt_of_le_of_lt (Nat.mod_le _ _) hz;obtain⟨n1,h1⟩:=qjf (x:=z.natAbs) (y:=w.natAbs) (by omega) (by omega) (by omega);obtain⟨n2,h2⟩:=q4i (s:=!(decide (z<0)==decide (w<0))) hk hq;obtain⟨n3,h3⟩:=q4i (s:=decide (z<0)) hk hr;refine Ev.of (n1+n2+n3) λn hn=>?_;rw[qqc];simp (disch:=omega) only[h1,h2,h3,show((0:Int) !=0)=false from rfl,Option.bind_some,List.getElem?_cons_zero,List.getElem?_cons_succ,q9,qb,qa,cond_false];rw[sg_div z w,sg_mod z w]
theorem pow2_10(k:Nat):2^k<=1000000000^k:=Nat.pow_le_pow_left (by omega) k
theorem qf4{z:Int}{k:Nat}(hk:k<=10000000000)(hz:z.natAbs<2^k):Ev En 85 [zl z,zb z] [sF (qn z)]:=by
 have lz:=q3f hz (by omega);have lt:=q7r hz;obtain⟨n1,h1⟩:=qqd (x:=z.natAbs) (k:=k) (Nat.lt_of_lt_of_le hz (pow2_10 k)) (by omega) (by omega) (by omega);refine Ev.of n1 λn hn=>?_;rw[qqe];unfold qn;by_cases h:z<0
 ·rw[decide_eq_true h,if_pos h];simp (disch:=omega) only[h1,Option.bind_some,List.getElem?_cons_zero,qg,cond_true];rw[q1e,decide_eq_false (by omega),cond_false,show({ data:=#[45] }:ByteArray)=txt [45] from rfl,q5u];rfl
 ·rw[decide_eq_false h,if_neg h];simp (disch:=omega) only[h1,Option.bind_some,List.getElem?_cons_zero,qg,cond_false]
theorem qjg{n:Nat}(l:List UInt8):evF En (n+3) 215 [sF l,.str { data:=#[45] }]=some [sF (if l.head?=some 45 then l.tail else l),.bool (decide (l.head?=some 45))]:=by
 rw[qqf,qqg,qqh,show({ data:=#[45] }:ByteArray)=txt [45] from rfl,q1e,q1e];cases l with
 |nil=>rfl
 |cons c t =>
  rw[decide_eq_true (by simp;omega),cond_true,q1p (by simp),Option.bind_some,q46,q2z];simp only[Option.bind_some,List.getElem?_cons_zero,qa];by_cases hc:c=45
  ·subst hc;rw[decide_eq_true (by simp),Bool.not_true,cond_false];simp (disch:=omega) only[q46,Option.bind_some,List.getElem?_cons_zero,List.getElem?_cons_succ,qa,qg];simp
  ·rw[decide_eq_false (by simpa using hc),Bool.not_false,cond_true];simp (disch:=omega) only[Option.bind_some,List.getElem?_cons_zero,List.getElem?_cons_succ,qa,qg];simp[hc]
theorem qai{l:List UInt8}{z:Int}(h:pz l=some z)(hl:l.length<=1000000000):Ev En 177 [sF l] [zl z,zb z,.int .i64 0]:=by
 have hb:=q8q h;have lz:=q3f hb (by omega);have e:=q3l.1 h;have hcp:=λn=>@qjg n l;have hb':=qci (x:=z.natAbs) (by omega);by_cases hz:z<0
 ·have hl2:l=45::ql z.natAbs:=by rw[e];unfold qn;rw[if_pos hz]
  obtain⟨n1,h1⟩:=qf5 (l:=ql z.natAbs) (q5w _) (by rw[hl2]at hl;simp at hl;omega) (by rw[q50];omega);rw[q50]at h1;obtain⟨n2,h2⟩:=q4i (s:=true) (by omega:4*l.length<=100000000000) hb;obtain⟨n3,h3⟩:=hb';refine Ev.of (n1+n2+n3+3) λn hn=>?_;obtain⟨n,rfl⟩:∃m,n=m+3:=⟨n-3,by omega⟩;rw[qaj,hcp];subst hl2;simp (disch:=omega) only[List.head?_cons,if_true,List.tail_cons,h1,decide_true,show((0:Int) !=0)=false from rfl,h3,rr];have:(((q6b z.natAbs:Nat):Int)==0)=false:=by
   rw[beq_eq_false_iff_ne];have:=@qcj z.natAbs;omega
  rw[this];simp (disch:=omega) only[h2,Option.bind_some,List.getElem?_cons_zero,List.getElem?_cons_succ,q9,qa,cond_false];have:sg true z.natAbs=z:=by unfold sg;simp;omega
  rw[this]
 ·have hl2:l=ql z.natAbs:=by rw[e];unfold qn;rw[if_neg hz]
  have hc:canon l:=hl2▸q5w _;have h45:l.head?≠some 45:=λq=>by
   cases l with
   |nil=>cases q
   |cons c t=>simp at q;subst q;exact qf6 hc
  obtain⟨n1,h1⟩:=qf5 (l:=l) hc hl (by rw[hl2,q50];omega);have hv:vD l=z.natAbs:=by rw[hl2,q50]
  rw[hv]at h1;obtain⟨n2,h2⟩:=q4i (s:=false) (by omega:4*l.length<=100000000000) hb;refine Ev.of (n1+n2+3) λn hn=>?_;obtain⟨n,rfl⟩:∃m,n=m+3:=⟨n-3,by omega⟩;rw[qaj,hcp,if_neg h45,decide_eq_false h45];simp (disch:=omega) only[h1,show((0:Int) !=0)=false from rfl,h2,Option.bind_some,List.getElem?_cons_zero,List.getElem?_cons_succ,q9,qb,qa,qg,cond_false];have:sg false z.natAbs=z:=by unfold sg;simp;omega
  rw[this]
theorem qjh{l:List UInt8}(h:pz l=none)(hl:l.length<=1000000000):Ev En 177 [sF l] [.list 1 [],.bool false,.int .i64 10]:=by
 have hcp:=λn=>@qjg n l;by_cases h45:l.head?=some 45
 ·obtain⟨t,rfl⟩:∃t,l=45::t:=by
   cases l with
   |nil=>cases h45
   |cons c t=>simp at h45;subst h45;exact⟨t,rfl⟩
  simp only[List.length_cons]at hl;by_cases hc:canon t
  ·have hv:vD t=0:=by
    apply Classical.byContradiction;intro q;rw[pz_neg hc q]at h;cases h
   obtain⟨n1,h1⟩:=qf5 (l:=t) hc (by omega) (by rw[hv,q12];simp);rw[hv]at h1;obtain⟨n3,h3⟩:=qci (x:=0) (by rw[q12];simp);refine Ev.of (n1+n3+3) λn hn=>?_;obtain⟨n,rfl⟩:∃m,n=m+3:=⟨n-3,by omega⟩;rw[qaj,hcp];simp (disch:=omega) only[List.head?_cons,if_true,List.tail_cons,h1,decide_true,show((0:Int) !=0)=false from rfl,h3,qcj.2 rfl,rr];rfl
  ·obtain⟨n1,h1⟩:=qji (l:=t) hc (by omega);refine Ev.of (n1+3) λn hn=>?_;obtain⟨n,rfl⟩:∃m,n=m+3:=⟨n-3,by omega⟩;rw[qaj,hcp];simp (disch:=omega) only[List.head?_cons,if_true,List.tail_cons,h1,decide_true,show((10:Int) !=0)=true from rfl,Option.bind_some,List.getElem?_cons_zero,List.getElem?_cons_succ,q9,qb,qa,qg,cond_true]
 ·have hc:¬ canon l:=λhc=>by rw[pz_pos hc]at h;cases h
  obtain⟨n1,h1⟩:=qji (l:=l) hc hl;refine Ev.of (n1+3) λn hn=>?_;obtain⟨n,rfl⟩:∃m,n=m+3:=⟨n-3,by omega⟩;rw[qaj,hcp,if_neg h45,decide_eq_false h45];simp (disch:=omega) only[h1,show((10:Int) !=0)=true from rfl,rr]
theorem q1i(n:Nat):zb (n:Int)=.bool false:=by unfold zb;rw[decide_eq_false (by omega)]
end Rf
end
section
/- The document's nat (digits to the base of a thousand million): each function by what its numbers are. -/
set_option maxHeartbeats 1000000
namespace Rf
open Go
theorem b9_2:2<=1000000000:=by decide
abbrev wL(x:Nat):FV:=L64 (dg 1000000000 x)
theorem el1(z v:FV):qd 1 z [(0,v)]=[v]:=rfl
theorem el0(z:FV):qd 0 z []=[]:=rfl
theorem q6h(l:List Nat)(d:Nat):l.map d64++[FV.int .i64 (d:Int)]=(l++[d]).map d64:=by simp
theorem tmod9(x:Nat):Int.tmod (x:Int) 1000000000=((x%1000000000:Nat):Int):=rfl
theorem tdiv9(x:Nat):Int.tdiv (x:Int) 1000000000=((x / 1000000000:Nat):Int):=rfl
theorem rep64(k:Nat):List.replicate k (FV.int .i64 0)=(List.replicate k 0).map d64:=by rw[List.map_replicate];rfl
theorem mk8{k:Nat}(h:k<=1099511627776):q1m 8 (k:Int)=some k:=by
 unfold q1m;rw[if_pos ⟨by omega,by omega,by omega⟩];simp
theorem set64{pre:List Nat}{d y:Nat}{r:List Nat}{i:Nat}(h:pre.length=i):List.set ((pre++d::r).map d64) i (.int .i64 (y:Int))=(pre++y::r).map d64:=by
 rw[List.map_append,List.map_cons,q9g (by simpa using h),List.map_append,List.map_cons]
theorem mid64{pre:List Nat}{d:Nat}{r:List Nat}{i:Nat}(h:pre.length=i):at' ((pre++d::r).map d64) i 0=some (.int .i64 (d:Int)):=by
 subst h;rw[q21,List.getElem?_append_right (Nat.le_refl _),Nat.sub_self];rfl
theorem q5k{x:Nat}(h:x≠0):0<(dg 1000000000 x).length:=by
 rcases Nat.eq_zero_or_pos (dg 1000000000 x).length with q | q
 ·exact absurd ((q3r b9_2).1 (List.eq_nil_of_length_eq_zero q)) h
 ·exact q
theorem qcz{x y:Nat}(h:x<=y):(dg 1000000000 x).length<=(dg 1000000000 y).length:=by
 apply Nat.le_of_not_lt;intro hlt;have:=q8d b9_2 hlt;omega
theorem qkz{n:Nat}{l0:List FV}:∀(k:Nat) (l:List Nat) (m:Nat),l.length=k->k<m->k<=1099511627776+1->q7a.l1 n [] m [.list 1 l0,L64 l]=some [L64 (tz l)]:=by
 intro k
 induction k with
 |zero =>
  intro l m hl hm hk;obtain⟨m,rfl⟩:=qSx m (by omega);have:l=[]:=List.eq_nil_of_length_eq_zero hl;subst this;rw[q7a.q2d];rfl
 |succ k ih =>
  intro l m hl hm hk;obtain⟨m,rfl⟩:=qSx m (by omega);obtain⟨r,d,rfl⟩:∃r d,l=r++[d]:=by
   rcases List.eq_nil_or_concat l with h | ⟨r,d,h⟩
   ·subst h;simp at hl
   ·exact⟨r,d,by simpa using h⟩
  have hr:r.length=k:=by simpa using hl
  rw[q7a.q2d,List.length_map,decide_eq_true (by omega),cond_true,hl];have e1:IntKind.wrap .i64 (((k+1:Nat):Int)-1)=(k:Int):=by rw[qq (by omega) (by omega)];omega
  have hat:at' ((r++[d]).map d64) k 0=some (.int .i64 (d:Int)):=by
   rw[q4p (by rw[hl];omega)];simp[<- hr]
  rw[e1,qc (by omega),Option.bind_some,hat,qb,Option.bind_some];by_cases h0:d=0
  ·subst h0;rw[show(((0:Nat):Int)==0)=true from rfl,cond_true,q1p (by omega),Option.bind_some,qas];have:List.drop 0 (List.take k ((r++[0]).map d64))=r.map d64:=by
    rw[List.drop_zero,List.map_append,List.take_append_of_le_length (by simp[hr]),List.take_of_length_le (by simp[hr])]
   rw[this];exact ih r m hr (by omega) (by omega)
  ·rw[show((d:Int)==0)=false from beq_eq_false_iff_ne.2 (by omega),cond_false,qat h0]
theorem q6i{n:Nat}{l:List Nat}(h:l.length<=1099511627776+1)(hn:l.length<n):evF En (n+1) 134 [L64 l]=some [L64 (tz l)]:=by
 rw[ql0];exact qkz l.length l n rfl hn h
theorem qd0{n i:Nat}{l:List Nat}:evF En (n+1) 211 [L64 l,.int .i64 (i:Int)]=some [.int .i64 ((l.getD i 0:Nat):Int)]:=by
 rw[ql1,List.length_map];by_cases h:i<l.length
 ·rw[decide_eq_true (by omega),cond_true,qc h,Option.bind_some,q4p h,qb,Option.bind_some,List.getD_eq_getElem?_getD,List.getElem?_eq_getElem h];rfl
 ·rw[decide_eq_false (by omega),cond_false,List.getD_eq_getElem?_getD,List.getElem?_eq_none (by omega)];rfl
theorem qg6{n:Nat}{l0:List FV}:∀(x m:Nat) (pre:List Nat),x<m->x<18446744073709551616->pre.length+x<=1099511627776*18446744073709551616->pre.length+(dg 1000000000 x).length<=1099511627776 ->
  q8e.l2 n [] m [.list 1 l0,.int .u64 (x:Int),L64 pre]=some [L64 (pre++dg 1000000000 x)]:=by
 intro x
 induction x using Nat.strongRecOn with
 |_ x ih =>
  intro m pre hm hx hp0 hp;obtain⟨m,rfl⟩:=qSx m (by omega);rw[q8e.qu];by_cases h0:x=0
  ·subst h0;rw[decide_eq_false (by omega),cond_false,q12,List.append_nil]
  ·have hlt:x / 1000000000<x:=Nat.div_lt_self (by omega) (by omega);rw[q2o b9_2 h0,List.length_cons]at hp;rw[decide_eq_true (by omega),cond_true,tmod9,q36 (by omega),el1,List.length_map,q3b (by simp;omega),cond_true,q6h,tdiv9,q14 (by omega),ih (x / 1000000000) hlt m (pre++[x%1000000000]) (by omega) (by omega) (by simp;omega) (by simp;omega)];rw[q2o b9_2 h0,List.append_assoc];rfl
theorem wof_ev{x:Nat}(hx:x<18446744073709551616):Ev En 102 [.int .u64 (x:Int)] [wL x]:=by
 refine Ev.of (x+1) λn hn=>?_;rw[qg7,el0];have hl:(dg 1000000000 x).length<=3:=q4q b9_2 (by omega);have:=qg6 (n:=n) (l0:=[]) x n [] (by omega) hx (by simp;omega) (by simp;omega);exact this
theorem ql2{n:Nat}{a:List Nat}{k:Nat}(ha:Dg 1000000000 a)(hk:k<1000000000)(hl:a.length<=1099511627775)(hn:a.length+3<=n){l1:List FV}:∀(d i m:Nat) (pre:List Nat) (c:Nat),i+d=a.length->d<m->pre.length=i->c<1000000000 ->
  q7b.l3 n [] m [L64 a,.list 1 l1,.int .i64 (k:Int),.int .i64 (c:Int),L64 pre,.int .i64 (i:Int)]=some [L64 (tz (pre++mulL 1000000000 (a.drop i) k c))]:=by
 intro d
 induction d with
 |zero =>
  intro i m pre c hi hm hp hc;obtain⟨m,rfl⟩:=qSx m (by omega);obtain⟨n,rfl⟩:=qSx n (by omega);rw[q7b.qv,List.length_map,decide_eq_false (by omega),cond_false,el1,List.length_map,q3b (by simp;omega),cond_true,q6h,q6i (by simp;omega) (by simp;omega)];simp only[Option.bind_some,List.getElem?_cons_zero,q9];rw[List.drop_of_length_le (by omega)];rfl
 |succ d ih =>
  intro i m pre c hi hm hp hc;obtain⟨m,rfl⟩:=qSx m (by omega);have hia:i<a.length:=by omega
  have hx:=ha a[i] (List.getElem_mem hia);have hcl:=q9h hx hk hc;have hxk:a[i]*k<=999999999*999999999:=Nat.mul_le_mul (by omega) (by omega)
  rw[q7b.qv,List.length_map,decide_eq_true (by omega),cond_true,qc hia,Option.bind_some,q4p hia,qb,Option.bind_some,q9i (by omega),q23 (by omega),el1,List.length_map,q3b (by simp;omega),cond_true,tmod9,q6h,tdiv9,q36 (by omega),qi (by omega),
   ih (i+1) m (pre++[(c+a[i]*k)%1000000000]) ((c+a[i]*k) / 1000000000) (by omega) (by omega) (by simp[hp]) (Nat.div_lt_of_lt_mul hcl),q1h hia,List.append_assoc]
  rfl
theorem small_run{n x k c:Nat}(hk:k<1000000000)(hc:c<1000000000)(hx:(dg 1000000000 x).length<=1099511627775)(hn:(dg 1000000000 x).length+3<=n):evF En (n+1) 223 [wL x,.int .i64 (k:Int),.int .i64 (c:Int)]=some [wL (x*k+c)]:=by
 rw[ql3,el0];have:=ql2 (n:=n) (qw b9_2 x) hk hx hn (l1:=[]) (dg 1000000000 x).length 0 n [] c (by omega) (by omega) rfl hc;refine this.trans ?_;rw[List.nil_append,List.drop_zero,<- q2i b9_2 (qd1 _ k c (qw b9_2 x) hk hc),qd2,q1k b9_2]
theorem qg8{n x k:Nat}(hk:k<1000000000)(hx:(dg 1000000000 x).length<=1099511627775)(hn:(dg 1000000000 x).length+3<=n):evF En (n+1) 223 [wL x,.int .i64 (k:Int),.int .i64 0]=some [wL (x*k)]:=by
 have:=small_run (n:=n) (x:=x) (k:=k) (c:=0) hk (by omega) hx hn;rwa[Nat.add_zero]at this
def pd(N:Nat)(a:List Nat):List Nat:=a++List.replicate (N-a.length) 0
theorem q6j{N:Nat}{a:List Nat}(h:a.length<=N):(pd N a).length=N:=by simp[pd];omega
theorem qg9(B k:Nat):vl B (List.replicate k 0)=0:=by
 induction k with
 |zero=>rfl
 |succ k ih=>rw[List.replicate_succ];simp[vl,ih]
theorem q6k(B N:Nat)(a:List Nat):vl B (pd N a)=vl B a:=by rw[pd,q4r,qg9];simp
theorem q8f{B N:Nat}{a:List Nat}(hB:2<=B)(h:Dg B a):Dg B (pd N a):=h.app λd hd=>by have:=List.eq_of_mem_replicate hd;omega
theorem qau{N i:Nat}{a:List Nat}(h:i<(pd N a).length):(pd N a)[i]=a.getD i 0:=by
 simp only[pd,List.getElem_append,List.getD_eq_getElem?_getD];split
 ·rename_i h';rw[List.getElem?_eq_getElem h'];rfl
 ·rename_i h';rw[List.getElem?_eq_none (by omega)];simp
theorem max_nat(a b:Nat):(if(a:Int)<(b:Int)then(b:Int)else(a:Int))=((max a b:Nat):Int):=by
 split <;> omega
theorem wcmp_loop{n:Nat}{a b:List Nat}{N:Nat}(hN:N<=1099511627776)(ha:Dg 1000000000 a)(hb:Dg 1000000000 b)(h1:a.length<=N)(h2:b.length<=N)(hn:1<=n):∀(i m:Nat),i<=N->i<m->(pd N a).drop i=(pd N b).drop i ->
  q7c.l2 n [] m [L64 a,L64 b,.int .i64 ((i:Int)-1)]=some [.int .i64 (cmpN (vl 1000000000 a) (vl 1000000000 b))]:=by
 have la:=q6j h1;have lb:=q6j h2;have da:=q8f (N:=N) b9_2 ha;have db:=q8f (N:=N) b9_2 hb;intro i
 induction i with
 |zero =>
  intro m hi hm he;obtain⟨m,rfl⟩:=qSx m (by omega);rw[List.drop_zero,List.drop_zero]at he;have:vl 1000000000 a=vl 1000000000 b:=by rw[<- q6k _ N a,he,q6k]
  rw[q7c.qu,decide_eq_false (by omega),cond_false,this];simp[cmpN]
 |succ i ih =>
  intro m hi hm he;obtain⟨m,rfl⟩:=qSx m (by omega);obtain⟨n,rfl⟩:=qSx n (by omega);have e0:(((i+1:Nat):Int)-1)=(i:Int):=by omega
  have hia:i<(pd N a).length:=by omega
  have hib:i<(pd N b).length:=by omega
  rw[q7c.qu,e0,decide_eq_true (by omega),cond_true];simp only[qd0,Option.bind_some,List.getElem?_cons_zero,qb];have ea:=qau hia;have eb:=qau hib;have sa:pd N a=(pd N a).take i++(pd N a)[i]::(pd N a).drop (i+1):=by rw[<- q1h hia,List.take_append_drop]
  have sb:pd N b=(pd N b).take i++(pd N b)[i]::(pd N b).drop (i+1):=by rw[<- q1h hib,List.take_append_drop]
  have ta:Dg 1000000000 ((pd N a).take i):=λd hd=>da d (List.mem_of_mem_take hd);have tb:Dg 1000000000 ((pd N b).take i):=λd hd=>db d (List.mem_of_mem_take hd);have tl:((pd N a).take i).length=((pd N b).take i).length:=by rw[List.length_take,List.length_take,la,lb]
  rw[<- ea,<- eb];by_cases hlt:(pd N a)[i]<(pd N b)[i]
  ·rw[decide_eq_true (by omega),cond_true];have:=qav (b:=1000000000) (by omega) ta tb tl hlt ((pd N b).drop (i+1));rw[<- sb,<- he,<- sa,q6k,q6k]at this;unfold cmpN;rw[if_pos this]
  ·rw[decide_eq_false (by omega),cond_false];by_cases hgt:(pd N b)[i]<(pd N a)[i]
   ·rw[decide_eq_true (by omega),cond_true];have:=qav (b:=1000000000) (by omega) tb ta tl.symm hgt ((pd N a).drop (i+1));rw[<- sa,he,<- sb,q6k,q6k]at this;unfold cmpN;rw[if_neg (by omega),if_pos this]
   ·rw[decide_eq_false (by omega),cond_false,show IntKind.wrap .i64 ((i:Int)-1)=(i:Int)-1 from qq (by omega) (by omega)];have heq:(pd N a)[i]=(pd N b)[i]:=by omega
    exact ih m (by omega) (by omega) (by rw[q1h hia,q1h hib,heq,he])
theorem qd3{n x y:Nat}(hx:(dg 1000000000 x).length<=1099511627776)(hy:(dg 1000000000 y).length<=1099511627776)(hn:(dg 1000000000 x).length+(dg 1000000000 y).length+1<=n):evF En (n+1) 164 [wL x,wL y]=some [.int .i64 (cmpN x y)]:=by
 rw[ql4,List.length_map,List.length_map,max_nat,show ∀k:Nat,k<=1099511627776->IntKind.wrap .i64 ((k:Int)-1)=(k:Int)-1 from λk hk=>qq (by omega) (by omega)]
 ·have:=wcmp_loop (n:=n) (N:=max (dg 1000000000 x).length (dg 1000000000 y).length) (by omega) (qw b9_2 x) (qw b9_2 y) (by omega) (by omega) (by omega) (max (dg 1000000000 x).length (dg 1000000000 y).length) n (Nat.le_refl _) (by omega)
   (by rw[List.drop_of_length_le (by rw[q6j (by omega)];exact Nat.le_refl _),List.drop_of_length_le (by rw[q6j (by omega)];exact Nat.le_refl _)])
  rw[q1k b9_2,q1k b9_2]at this;exact this
 ·omega
theorem wadd_loop{n:Nat}{a b:List Nat}{N:Nat}(hN:N<=1099511627775)(hNe:N=max a.length b.length)(ha:Dg 1000000000 a)(hb:Dg 1000000000 b)(hn:N+3<=n){l2:List FV}:∀(d i m:Nat) (pre:List Nat) (c:Nat),i+d=N->d<m->pre.length=i->c<=1 ->
  q5l.l4 n [] m [L64 a,L64 b,.list 1 l2,L64 pre,.int .i64 (c:Int),.int .i64 (i:Int)]=some [L64 (tz (pre++addL 1000000000 ((pd N a).drop i) ((pd N b).drop i) c))]:=by
 have la:=q6j (N:=N) (a:=a) (by omega);have lb:=q6j (N:=N) (a:=b) (by omega);have da:=q8f (N:=N) b9_2 ha;have db:=q8f (N:=N) b9_2 hb;obtain⟨n,rfl⟩:=qSx n (by omega);intro d
 induction d with
 |zero =>
  intro i m pre c hi hm hp hc;obtain⟨m,rfl⟩:=qSx m (by omega);rw[q5l.q1r];simp only[List.length_map];rw[decide_eq_false (by omega),cond_false,decide_eq_false (by omega),cond_false,el1,q3b (by simp;omega),cond_true,q6h,q6i (by simp;omega) (by simp;omega)];simp only[Option.bind_some,List.getElem?_cons_zero,q9];rw[List.drop_of_length_le (by omega)];rfl
 |succ d ih =>
  intro i m pre c hi hm hp hc;obtain⟨m,rfl⟩:=qSx m (by omega);have hia:i<(pd N a).length:=by omega
  have hib:i<(pd N b).length:=by omega
  have ea:=qau hia;have eb:=qau hib;have hx:=da _ (List.getElem_mem hia);have hy:=db _ (List.getElem_mem hib);have rest:q5l.l4 (n+1) [] m [L64 a,L64 b,.list 1 l2,L64 (pre++[(c+(pd N a)[i]+(pd N b)[i])%1000000000]),.int .i64 (((c+(pd N a)[i]+(pd N b)[i]) / 1000000000:Nat):Int),.int .i64 ((i+1:Nat):Int)]=some [L64 (tz (pre++addL 1000000000 ((pd N a).drop i) ((pd N b).drop i) c))]:=by
   rw[ih (i+1) m (pre++[(c+(pd N a)[i]+(pd N b)[i])%1000000000]) ((c+(pd N a)[i]+(pd N b)[i]) / 1000000000) (by omega) (by omega) (by simp[hp]) (by
    have:=Nat.div_lt_of_lt_mul (m:=c+(pd N a)[i]+(pd N b)[i]) (n:=1000000000) (k:=2) (by omega)
    omega),q1h hia,q1h hib,List.append_assoc]
   rfl
  rw[q5l.q1r];simp only[qd0,Option.bind_some,List.getElem?_cons_zero,qb];rw[<- ea,<- eb,q23 (show c+(pd N a)[i]<9223372036854775808 by omega),q23 (show c+(pd N a)[i]+(pd N b)[i]<9223372036854775808 by omega),tmod9,tdiv9,q36 (by omega),el1,List.length_map,List.length_map,List.length_map,q3b (by simp;omega),q6h,qi (by omega)];simp only[cond_true];by_cases h1:i<a.length
  ·rw[decide_eq_true (by omega),cond_true];exact rest
  ·rw[decide_eq_false (by omega),cond_false,decide_eq_true (by omega),cond_true];exact rest
theorem wadd_ev{x y:Nat}(hx:(dg 1000000000 x).length<=1099511627775)(hy:(dg 1000000000 y).length<=1099511627775):Ev En 163 [wL x,wL y] [wL (x+y)]:=by
 refine Ev.of ((dg 1000000000 x).length+(dg 1000000000 y).length+3) λn hn=>?_;rw[ql5,el0];have:=wadd_loop (n:=n) (N:=max (dg 1000000000 x).length (dg 1000000000 y).length) (by omega) rfl (qw b9_2 x) (qw b9_2 y) (by omega) (l2:=[]) (max (dg 1000000000 x).length (dg 1000000000 y).length) 0 n [] 0 (by omega) (by omega) rfl (by omega);refine this.trans ?_;rw[List.nil_append,List.drop_zero,List.drop_zero,<- q2i b9_2 (qd4 b9_2 _ _ 0 (q8f b9_2 (qw b9_2 x)) (q8f b9_2 (qw b9_2 y)) (by omega)),qd5 _ _ _ (by rw[q6j (by omega),q6j (by omega)];exact Nat.le_refl _),q6k,q6k,q1k b9_2,q1k b9_2,Nat.add_zero]
theorem qga(b:List Nat)(i:Nat):(b.drop i).headD 0=b.getD i 0:=by
 rw[List.headD_eq_head?_getD,List.head?_drop,List.getD_eq_getElem?_getD]
theorem wsub_loop{n:Nat}{a b:List Nat}(ha:Dg 1000000000 a)(hb:Dg 1000000000 b)(hl:a.length<=1099511627775)(hn:a.length+3<=n){l2:List FV}:∀(d i m:Nat) (pre:List Nat) (c:Nat),i+d=a.length->d<m->pre.length=i->c<=1 ->
  q6l.l6 n [] m [L64 a,L64 b,.list 1 l2,L64 pre,.int .i64 (c:Int),.int .i64 (i:Int)]=some [L64 (tz (pre++(subL 1000000000 (a.drop i) (b.drop i) c).1)),.int .i64 0]:=by
 obtain⟨n,rfl⟩:=qSx n (by omega);intro d
 induction d with
 |zero =>
  intro i m pre c hi hm hp hc;obtain⟨m,rfl⟩:=qSx m (by omega);rw[q6l.q2p,List.length_map,decide_eq_false (by omega),cond_false,q6i (by omega) (by omega)];simp only[Option.bind_some,List.getElem?_cons_zero,q9];rw[List.drop_of_length_le (by omega),subL,List.append_nil]
 |succ d ih =>
  intro i m pre c hi hm hp hc;obtain⟨m,rfl⟩:=qSx m (by omega);have hia:i<a.length:=by omega
  have hx:=ha a[i] (List.getElem_mem hia);have hy:b.getD i 0<1000000000:=by
   rw[<- qga];exact Dg.headD (by omega) λd hd=>hb d (List.mem_of_mem_drop hd)
  rw[q6l.q2p];simp only[List.length_map,qc hia,q4p hia,qd0,Option.bind_some,List.getElem?_cons_zero,qb];rw[decide_eq_true (by omega),cond_true,qq (x:=((a[i]:Nat):Int)-_) (by omega) (by omega),qq (x:=((a[i]:Nat):Int)-_-_) (by omega) (by omega),qi (by omega)];rw[q1h hia,subL,qga,List.tail_drop];by_cases hlt:a[i]<b.getD i 0+c
  ·have e:(a[i]:Int)-(b.getD i 0:Nat)-c+1000000000=((1000000000+a[i]-b.getD i 0-c:Nat):Int):=by omega
   rw[decide_eq_true (by omega),cond_true,e,q36 (by omega),el1,q3b (by simp;omega),cond_true,q6h,if_pos hlt];have:=ih (i+1) m (pre++[1000000000+a[i]-b.getD i 0-c]) 1 (by omega) (by omega) (by simp[hp]) (by omega);refine this.trans ?_;rw[Nat.mod_eq_of_lt (show 1000000000+a[i]-b.getD i 0-c<1000000000 by omega),List.append_assoc];rfl
  ·have e:(a[i]:Int)-(b.getD i 0:Nat)-c=((a[i]-b.getD i 0-c:Nat):Int):=by omega
   rw[decide_eq_false (by omega),cond_false,e,el1,q3b (by simp;omega),cond_true,q6h,if_neg hlt];have:=ih (i+1) m (pre++[a[i]-b.getD i 0-c]) 0 (by omega) (by omega) (by simp[hp]) (by omega);refine this.trans ?_;rw[show(1000000000+a[i]-b.getD i 0-c)%1000000000=a[i]-b.getD i 0-c by omega,List.append_assoc];rfl
theorem qd6{n x y:Nat}(hyx:y<=x)(hx:(dg 1000000000 x).length<=1099511627775)(hn:(dg 1000000000 x).length*2+4<=n):evF En (n+1) 165 [wL x,wL y]=some [wL (x-y),.int .i64 0]:=by
 have hlen:=qcz hyx;obtain⟨n,rfl⟩:=qSx n (by omega);rw[ql6,qd3 (by omega) (by omega) (by omega)];simp only[Option.bind_some,List.getElem?_cons_zero,qb];rw[decide_eq_false (by unfold cmpN;rw[if_neg (by omega)];split <;> omega),cond_false,el0];have:=wsub_loop (n:=n+1) (qw b9_2 x) (qw b9_2 y) hx (by omega) (l2:=[]) (dg 1000000000 x).length 0 (n+1) [] 0 (by omega) (by omega) rfl (by omega);refine this.trans ?_;rw[List.nil_append,List.drop_zero,List.drop_zero];obtain⟨g1,g2,g3,g4⟩:=qd7 b9_2 (dg 1000000000 x) (dg 1000000000 y) 0 (qw b9_2 x) (qw b9_2 y) (by omega) hlen;rw[q1k b9_2,q1k b9_2]at g1;have hv:=q3g (by omega) g2;rw[g3]at hv;have:(subL 1000000000 (dg 1000000000 x) (dg 1000000000 y) 0).2=0:=by
  rcases Nat.lt_or_ge 0 (subL 1000000000 (dg 1000000000 x) (dg 1000000000 y) 0).2 with q | q
  ·have e:(subL 1000000000 (dg 1000000000 x) (dg 1000000000 y) 0).2=1:=by omega
   rw[e]at g1;omega
  ·omega
 rw[this]at g1;rw[<- q2i b9_2 g2];have e:vl 1000000000 (subL 1000000000 (dg 1000000000 x) (dg 1000000000 y) 0).1=x-y:=by omega
 rw[e]
theorem wmul_row{n m0:Nat}{a b:List Nat}(hb:Dg 1000000000 b)(hl:a.length+b.length<=1099511627776){l1:List FV}{x i:Nat}(hx:x<1000000000)(hia:i<a.length)(hai:a[i]=x):∀(e:List Nat) (k m:Nat) (pre acc:List Nat) (c:Nat),b.drop k=e->k+e.length=b.length->e.length<m->pre.length=i+k->e.length<acc.length->Dg 1000000000 acc->c<1000000000 ->
  q2x.l9 n [m0] m [L64 a,L64 b,.list 1 l1,L64 (pre++acc),.int .i64 (i:Int),.int .i64 (c:Int),.int .i64 (k:Int)] =
   q2x.l5 n [] m0 [L64 a,L64 b,.list 1 l1,L64 (pre++maRow 1000000000 acc e x c),.int .i64 ((i+1:Nat):Int)]:=by
 intro e
 induction e with
 |nil =>
  intro k m pre acc c hk hke hm hp hacc hd hc;obtain⟨m,rfl⟩:=qSx m (by omega);simp only[List.length_nil,Nat.add_zero]at hke;obtain⟨h,t,rfl⟩:∃h t,acc=h::t:=by
   cases acc with
   |nil=>simp at hacc
   |cons h t=>exact⟨h,t,rfl⟩
  have hlt:i+b.length<(pre++h::t).length:=by simp;omega
  rw[q2x.q3h,List.length_map,decide_eq_false (by omega),cond_false,q23 (by omega),List.length_map,qc hlt,Option.bind_some,set64 (by omega),qi (by omega)];rfl
 |cons y e ih =>
  intro k m pre acc c hk hke hm hp hacc hd hc;obtain⟨m,rfl⟩:=qSx m (by omega);obtain⟨h,t,rfl⟩:∃h t,acc=h::t:=by
   cases acc with
   |nil=>simp at hacc
   |cons h t=>exact⟨h,t,rfl⟩
  simp only[List.length_cons]at hke hm hacc;have hkb:k<b.length:=by omega
  have hy:b[k]=y/\b.drop (k+1)=e:=by
   rw[q1h hkb]at hk;cases hk;exact⟨rfl,rfl⟩
  have hyl:y<1000000000:=by rw[<- hy.1];exact hb _ (List.getElem_mem hkb)
  obtain⟨hh,ht⟩:=hd.tail;have hlt:i+k<(pre++h::t).length:=by simp;omega
  have hxy:x*y<=999999999*999999999:=Nat.mul_le_mul (by omega) (by omega);rw[q2x.q3h,q23 (by omega)];simp only[List.length_map,qc hlt,mid64 (show pre.length=i+k by omega),qc hia,q4p hia,qc hkb,q4p hkb,Option.bind_some,qb,hy.1,hai];rw[decide_eq_true (by omega),cond_true,q9i (by omega),q23 (by omega),q23 (by omega),tmod9,tdiv9,q36 (by omega),set64 (by omega),qi (by omega),Nat.add_assoc c h];have:=ih (k+1) m (pre++[(c+(h+x*y))%1000000000]) t ((c+(h+x*y)) / 1000000000) hy.2 (by omega) (by omega) (by simp;omega) (by omega) ht (Nat.div_lt_of_lt_mul (by omega));rw[List.append_assoc]at this;refine this.trans ?_;simp only[maRow,List.append_assoc];rfl
theorem ql7{n:Nat}{a b:List Nat}(ha:Dg 1000000000 a)(hb:Dg 1000000000 b)(hl:a.length+b.length<=1099511627776)(hn:a.length+b.length+3<=n){l1:List FV}:∀(e:List Nat) (i m:Nat) (pre w:List Nat),a.drop i=e->i+e.length=a.length->e.length<m->pre.length=i->w.length=b.length->Dg 1000000000 w ->
  q2x.l5 n [] m [L64 a,L64 b,.list 1 l1,L64 (pre++(w++List.replicate e.length 0)),.int .i64 (i:Int)]=some [L64 (tz (pre++mulO 1000000000 e (w++List.replicate e.length 0) b))]:=by
 intro e
 induction e with
 |nil =>
  intro i m pre w hi hie hm hp hw hd;obtain⟨m,rfl⟩:=qSx m (by omega);obtain⟨n,rfl⟩:=qSx n (by omega);simp only[List.length_nil,Nat.add_zero]at hie;rw[q2x.q1x,List.length_map,decide_eq_false (by omega),cond_false,q6i (by simp;omega) (by simp;omega)];simp only[Option.bind_some,List.getElem?_cons_zero,q9,mulO]
 |cons x e ih =>
  intro i m pre w hi hie hm hp hw hd;obtain⟨m,rfl⟩:=qSx m (by omega);simp only[List.length_cons]at hie hm;have hia:i<a.length:=by omega
  have hx:a[i]=x/\a.drop (i+1)=e:=by
   rw[q1h hia]at hi;cases hi;exact⟨rfl,rfl⟩
  have hxl:x<1000000000:=by rw[<- hx.1];exact ha _ (List.getElem_mem hia)
  rw[q2x.q1x,List.length_map,decide_eq_true (by omega),cond_true];have hrow:=wmul_row (n:=n) (m0:=m) (a:=a) hb hl (l1:=l1) hxl hia hx.1 b 0 n pre (w++List.replicate (e.length+1) 0) 0 rfl (by omega) (by omega) (by omega) (by simp;omega) (hd.app (λd h=>by have:=List.eq_of_mem_replicate h;omega)) (by omega);simp only[List.length_cons];rw[show((0:Nat):Int)=0 from rfl]at hrow;rw[hrow];obtain⟨w',h1,h2,h3,h4⟩:=qaw b9_2 w b (List.replicate e.length 0) x 0 hw hd hb hxl (by omega);rw[List.replicate_succ,h1];cases w' with
  |nil=>simp at h2
  |cons d t =>
   obtain⟨hd1,ht⟩:=h3.tail;have:=ih (i+1) m (pre++[d]) t hx.2 (by omega) (by omega) (by simp[hp]) (by simpa using h2) ht;rw[List.append_assoc]at this;refine this.trans ?_;simp only[mulO,h1,List.cons_append,List.append_assoc];rfl
theorem wmul_ev{x y:Nat}(h:(dg 1000000000 x).length+(dg 1000000000 y).length<=1099511627775):Ev En 103 [wL x,wL y] [wL (x*y)]:=by
 refine Ev.of ((dg 1000000000 x).length+(dg 1000000000 y).length+3) λn hn=>?_;rw[ql8,List.length_map,List.length_map];by_cases hx0:x=0
 ·subst hx0;rw[Nat.zero_mul];simp only[wL,q12];rfl
 ·by_cases hy0:y=0
  ·subst hy0;rw[Nat.mul_zero];have:=q5k hx0;rw[show(((dg 1000000000 x).length:Int)==0)=false from beq_eq_false_iff_ne.2 (by omega),cond_false];simp only[wL,q12];rfl
  ·have p1:=q5k hx0;have p2:=q5k hy0;rw[show(((dg 1000000000 x).length:Int)==0)=false from beq_eq_false_iff_ne.2 (by omega),cond_false,show(((dg 1000000000 y).length:Int)==0)=false from beq_eq_false_iff_ne.2 (by omega),cond_false,q23 (by omega),mk8 (by omega),Option.bind_some,q1p (Nat.le_refl _),Option.bind_some,rep64];have:=ql7 (n:=n) (qw b9_2 x) (qw b9_2 y) (by omega) (by omega) (l1:=[]) (dg 1000000000 x) 0 n [] (List.replicate (dg 1000000000 y).length 0) rfl (by omega) (by omega) rfl (by simp) (λd h=>by have:=List.eq_of_mem_replicate h;omega);rw[List.nil_append,List.replicate_append_replicate,List.nil_append,Nat.add_comm (dg 1000000000 y).length,show((0:Nat):Int)=0 from rfl]at this;refine this.trans ?_;obtain⟨g1,g2,_⟩:=qd8 b9_2 (dg 1000000000 x) (List.replicate (dg 1000000000 y).length 0) (dg 1000000000 y) (by simp) (λd h=>by have:=List.eq_of_mem_replicate h;omega) (qw b9_2 y) (qw b9_2 x);rw[List.replicate_append_replicate,Nat.add_comm (dg 1000000000 y).length]at g1 g2;rw[<- q2i b9_2 g2,g1,qg9,q1k b9_2,q1k b9_2,Nat.zero_add]
theorem ql9{n:Nat}{a:List Nat}(ha:Dg 1000000000 a)(hl:a.length<=1099511627776)(hv:vl 1000000000 a<18446744073709551616):∀(i m:Nat),i<=a.length->i<m ->
  q7d.l3 n [] m [L64 a,.int .u64 ((vl 1000000000 (a.drop i):Nat):Int),.int .i64 ((i:Int)-1)]=some [.int .u64 ((vl 1000000000 a:Nat):Int)]:=by
 intro i
 induction i with
 |zero =>
  intro m hi hm;obtain⟨m,rfl⟩:=qSx m (by omega);rw[q7d.qv,decide_eq_false (by omega),cond_false,List.drop_zero]
 |succ i ih =>
  intro m hi hm;obtain⟨m,rfl⟩:=qSx m (by omega);have hia:i<a.length:=by omega
  have e0:(((i+1:Nat):Int)-1)=(i:Int):=by omega
  have hs:vl 1000000000 (a.drop i)<=vl 1000000000 a:=by
   have:=q4r 1000000000 (a.take i) (a.drop i);rw[List.take_append_drop]at this;have h1:1<=1000000000^(a.take i).length:=Nat.one_le_pow _ _ (by omega);have h2:=Nat.mul_le_mul_right (vl 1000000000 (a.drop i)) h1;omega
  have hd:vl 1000000000 (a.drop i)=a[i]+1000000000*vl 1000000000 (a.drop (i+1)):=by rw[q1h hia];rfl
  have hx:=ha _ (List.getElem_mem hia);rw[q7d.qv,e0,decide_eq_true (by omega),cond_true,List.length_map,qc hia,Option.bind_some,q4p hia,qb,Option.bind_some,q14 (by omega),show(1000000000:Int)=((1000000000:Nat):Int) from rfl,q9j (by omega),q5m (by omega),show IntKind.wrap .i64 ((i:Int)-1)=(i:Int)-1 from qq (by omega) (by omega)];have:=ih m (by omega) (by omega);rw[hd]at this;rw[Nat.mul_comm,Nat.add_comm];exact this
theorem qgb{n x:Nat}(hx:x<18446744073709551616)(hn:(dg 1000000000 x).length<n):evF En (n+1) 185 [wL x]=some [.int .u64 (x:Int)]:=by
 have hl:(dg 1000000000 x).length<=3:=q4q b9_2 (by omega);rw[qla,List.length_map,show IntKind.wrap .i64 (((dg 1000000000 x).length:Int)-1)=((dg 1000000000 x).length:Int)-1 from qq (by omega) (by omega)];have:=ql9 (n:=n) (qw b9_2 x) (by omega) (by rw[q1k b9_2];exact hx) (dg 1000000000 x).length n (Nat.le_refl _) (by omega);rw[List.drop_of_length_le (Nat.le_refl _),q1k b9_2]at this;exact this
theorem wgcd_loop{n:Nat}:∀(y x m:Nat),y<m->q8g.l1 n [] m [.int .u64 (x:Int),.int .u64 (y:Int)]=some [.int .u64 ((Nat.gcd x y:Nat):Int)]:=by
 intro y
 induction y using Nat.strongRecOn with
 |_ y ih =>
  intro x m hm;obtain⟨m,rfl⟩:=qSx m (by omega);rw[q8g.q2d];rcases Nat.eq_zero_or_pos y with h0 | h0
  ·subst h0;rw[decide_eq_false (by omega),cond_false,Nat.gcd_zero_right]
  ·have hlt:=Nat.mod_lt x h0;rw[decide_eq_true (by omega),cond_true,decide_eq_false (by omega),cond_false,show Int.tmod (x:Int) (y:Int)=((x%y:Nat):Int) from rfl,ih (x%y) hlt y m (by omega),Nat.gcd_comm y,<- Nat.gcd_rec,Nat.gcd_comm]
theorem wone_loop{n:Nat}{a:List Nat}{k:Nat}(ha:Dg 1000000000 a)(hk0:0<k)(hk:k<1000000000)(hl:a.length<=1099511627776)(hn:a.length+k+6<=n){l1 l2:List FV}:∀(i m:Nat),i<=a.length->i<m ->
  q7e.l4 n [] m [L64 a,.list 1 l1,.list 1 l2,.int .i64 (k:Int),L64 (List.replicate i 0++(divL 1000000000 k (a.drop i)).2),.int .i64 (((divL 1000000000 k (a.drop i)).1:Nat):Int),.int .i64 ((i:Int)-1)] =
   some [L64 (tz (divL 1000000000 k a).2),wL (divL 1000000000 k a).1]:=by
 intro i
 induction i with
 |zero =>
  intro m hi hm;obtain⟨m,rfl⟩:=qSx m (by omega);obtain⟨n,rfl⟩:=qSx n (by omega);obtain⟨g1,g2,g3,g4⟩:=q4s hk0 a ha;have hof:evF En (n+1) 102 [.int .u64 (((divL 1000000000 k a).1:Nat):Int)]=some [wL (divL 1000000000 k a).1]:=by
   rw[qg7,el0];have hl:(dg 1000000000 (divL 1000000000 k a).1).length<=3:=q4q b9_2 (by omega);have:=qg6 (n:=n) (l0:=[]) (divL 1000000000 k a).1 n [] (by omega) (by omega) (by simp;omega) (by simp;omega);exact this
  rw[q7e.q1r,decide_eq_false (by omega),cond_false,List.drop_zero,List.replicate_zero,List.nil_append,q6i (by omega) (by omega),q14 (by omega),hof];simp only[Option.bind_some,List.getElem?_cons_zero,q9]
 |succ i ih =>
  intro m hi hm;obtain⟨m,rfl⟩:=qSx m (by omega);have hia:i<a.length:=by omega
  have hx:=ha a[i] (List.getElem_mem hia);have hda:Dg 1000000000 (a.drop (i+1)):=λd hd=>ha d (List.mem_of_mem_drop hd);obtain⟨g1,g2,g3,g4⟩:=q4s hk0 (a.drop (i+1)) hda;have ih:=ih m (by omega) (by omega);rw[q1h hia]at ih;simp only[divL]at ih;generalize (divL 1000000000 k (a.drop (i+1))).1=r at g1 g2 ih ⊢;generalize (divL 1000000000 k (a.drop (i+1))).2=q at g1 g3 g4 ih ⊢;have hq:q.length=a.length-(i+1):=by rw[g4,List.length_drop]
  have hlen:(List.replicate (i+1) 0++q).length=a.length:=by simp[hq];omega
  have e0:(((i+1:Nat):Int)-1)=(i:Int):=by omega
  have e2:Int.tdiv ((r*1000000000+a[i]:Nat):Int) (k:Int)=(((r*1000000000+a[i]) / k:Nat):Int):=rfl;have e3:Int.tmod ((r*1000000000+a[i]:Nat):Int) (k:Int)=(((r*1000000000+a[i])%k:Nat):Int):=rfl;have hdig:(r*1000000000+a[i]) / k<1000000000:=by
   rw[Nat.div_lt_iff_lt_mul hk0];have:(r+1)*1000000000<=k*1000000000:=Nat.mul_le_mul_right _ g2;omega
  rw[q7e.q1r,e0,decide_eq_true (by omega),cond_true,show decide ((k:Int)=0)=false from decide_eq_false (by omega)];simp only[List.length_map,hlen,qc hia,Option.bind_some,q4p hia,qb,cond_false];rw[show(1000000000:Int)=((1000000000:Nat):Int) from rfl,q9i (by omega),q23 (by omega),e2,e3,q36 (by omega)];have hset:List.set ((List.replicate (i+1) 0++q).map d64) i (.int .i64 (((r*1000000000+a[i]) / k:Nat):Int))=(List.replicate i 0++((r*1000000000+a[i]) / k)::q).map d64:=by
   have hr:List.replicate (i+1) 0++q=List.replicate i 0++(0::q):=by rw[List.replicate_succ',List.append_assoc];rfl
   rw[hr,set64 (by simp)]
  rw[hset,show IntKind.wrap .i64 ((i:Int)-1)=(i:Int)-1 from qq (by omega) (by omega)];exact ih
theorem div_key{x k q r:Nat}(hk:0<k)(e:x=k*q+r)(hr:r<k):x / k=q/\x%k=r:=by
 subst e;exact⟨by rw[Nat.mul_add_div hk,Nat.div_eq_of_lt hr,Nat.add_zero],by rw[Nat.mul_add_mod,Nat.mod_eq_of_lt hr]⟩
theorem wone_run{n x k:Nat}(hk0:0<k)(hk:k<1000000000)(hx:(dg 1000000000 x).length<=1099511627776)(hn:(dg 1000000000 x).length+k+6<=n):evF En (n+1) 220 [wL x,.int .i64 (k:Int)]=some [wL (x / k),wL (x%k)]:=by
 rw[qlb,List.length_map,mk8 (by omega),Option.bind_some,q1p (Nat.le_refl _),Option.bind_some,rep64,show IntKind.wrap .i64 (((dg 1000000000 x).length:Int)-1)=((dg 1000000000 x).length:Int)-1 from qq (by omega) (by omega)];have:=wone_loop (n:=n) (qw b9_2 x) hk0 hk hx hn (l1:=[]) (l2:=[]) (dg 1000000000 x).length n (Nat.le_refl _) (by omega);rw[List.drop_of_length_le (Nat.le_refl _)]at this;simp only[divL,List.append_nil]at this;rw[show(((0:Nat):Int))=0 from rfl]at this;rw[this];obtain⟨g1,g2,g3,g4⟩:=q4s hk0 (dg 1000000000 x) (qw b9_2 x);rw[q1k b9_2]at g1;rw[<- q2i b9_2 g3];obtain⟨h1,h2⟩:=div_key hk0 g1 g2;rw[h1,h2]
theorem qlc{n x d:Nat}(hd:d<1000000000)(hx:(dg 1000000000 x).length<=1099511627775)(hn:(dg 1000000000 x).length+3<=n):evF En (n+1) 221 [wL x,.int .i64 (d:Int)]=some [wL (x*1000000000+d)]:=by
 obtain⟨n,rfl⟩:=qSx n (by omega);rw[qld,el1,List.length_map,q3b (by simp;omega),cond_true,show [FV.int .i64 (d:Int)]++(dg 1000000000 x).map d64=(d::dg 1000000000 x).map d64 from rfl,q6i (by simp;omega) (by simp;omega)];simp only[Option.bind_some,List.getElem?_cons_zero,q9];have hD:Dg 1000000000 (d::dg 1000000000 x):=Dg.cons hd (qw b9_2 x);rw[<- q2i b9_2 hD];have:vl 1000000000 (d::dg 1000000000 x)=x*1000000000+d:=by simp only[vl];rw[q1k b9_2];omega
 rw[this]
theorem qle{n x y:Nat}(hy0:0<y)(hx:(dg 1000000000 x).length<=549755813000)(hy:(dg 1000000000 y).length<=549755813000)(hn:(dg 1000000000 x).length+(dg 1000000000 y).length+6<=n):∀(k lo hi m:Nat),hi-lo=k->k<m->lo<=x / y->x / y<=hi->hi<=999999999 ->
  q7f.l3 n [] m [wL x,wL y,.int .i64 (lo:Int),.int .i64 (hi:Int)]=some [.int .i64 ((x / y:Nat):Int)]:=by
 obtain⟨n,rfl⟩:=qSx n (by omega);intro k
 induction k using Nat.strongRecOn with
 |_ k ih =>
  intro lo hi m hk hm h1 h2 h3;obtain⟨m,rfl⟩:=qSx m (by omega);rw[q7f.qv];by_cases hlt:lo<hi
  ·have hmid:Int.tdiv ((lo+hi+1:Nat):Int) 2=(((lo+hi+1) / 2:Nat):Int):=rfl;have hml:(dg 1000000000 (y*((lo+hi+1) / 2))).length<=(dg 1000000000 y).length+1:=by
    apply q4q b9_2;rw[Nat.pow_succ];exact Nat.mul_lt_mul'' (q7g b9_2 y) (by omega)
   rw[decide_eq_true (by omega),cond_true,q23 (by omega),qi (by omega),hmid,q36 (by omega),qg8 (by omega) (by omega) (by omega)];simp only[Option.bind_some,List.getElem?_cons_zero,q9];rw[qd3 (by omega) (by omega) (by omega)];simp only[Option.bind_some,List.getElem?_cons_zero,qb];by_cases hle:y*((lo+hi+1) / 2)<=x
   ·have:(lo+hi+1) / 2<=x / y:=by rw[Nat.le_div_iff_mul_le hy0,Nat.mul_comm];exact hle
    rw[decide_eq_true (by unfold cmpN;split <;> (try split) <;> omega),cond_true];exact ih (hi-(lo+hi+1) / 2) (by omega) ((lo+hi+1) / 2) hi m rfl (by omega) this h2 h3
   ·have:x / y<(lo+hi+1) / 2:=by rw[Nat.div_lt_iff_lt_mul hy0,Nat.mul_comm];omega
    rw[decide_eq_false (by unfold cmpN;rw[if_neg (by omega),if_pos (by omega)];omega),cond_false,show IntKind.wrap .i64 ((((lo+hi+1) / 2:Nat):Int)-1)=(((lo+hi+1) / 2-1:Nat):Int) by rw[qq (by omega) (by omega)];omega];exact ih ((lo+hi+1) / 2-1-lo) (by omega) lo ((lo+hi+1) / 2-1) m rfl (by omega) h1 (by omega) (by omega)
  ·rw[decide_eq_false (by omega),cond_false];have:lo=x / y:=by omega
   rw[this]
theorem times_run{n x y:Nat}(hy0:0<y)(hxy:x / y<1000000000)(hx:(dg 1000000000 x).length<=549755813000)(hy:(dg 1000000000 y).length<=549755813000)(hn:(dg 1000000000 x).length+(dg 1000000000 y).length+1000000006<=n) :
  evF En (n+1) 222 [wL x,wL y]=some [.int .i64 ((x / y:Nat):Int)]:=by
 rw[qlf];exact qle (n:=n) hy0 hx hy (by omega) 999999999 0 999999999 n rfl (by omega) (Nat.zero_le _) (by omega) (by omega)
theorem wdiv_loop{n:Nat}{a:List Nat}{y:Nat}(ha:Dg 1000000000 a)(hy0:0<y)(hl:a.length<=549755812000)(hyl:(dg 1000000000 y).length<=549755812000)(hn:a.length+(dg 1000000000 y).length*4+1000000026<=n){l2 l3:List FV}:∀(i m:Nat),i<=a.length->i<m ->
  q7h.l9 n [] m [L64 a,wL y,.list 1 l2,.list 1 l3,wL (divL 1000000000 y (a.drop i)).1,L64 (List.replicate i 0++(divL 1000000000 y (a.drop i)).2),.int .i64 ((i:Int)-1)] =
   some [L64 (tz (divL 1000000000 y a).2),wL (divL 1000000000 y a).1,.int .i64 0]:=by
 obtain⟨n,rfl⟩:=qSx n (by omega);intro i
 induction i with
 |zero =>
  intro m hi hm;obtain⟨m,rfl⟩:=qSx m (by omega);obtain⟨g1,g2,g3,g4⟩:=q4s hy0 a ha;rw[q7h.q3h,decide_eq_false (by omega),cond_false,List.drop_zero,List.replicate_zero,List.nil_append,q6i (by omega) (by omega)];simp only[Option.bind_some,List.getElem?_cons_zero,q9]
 |succ i ih =>
  intro m hi hm;obtain⟨m,rfl⟩:=qSx m (by omega);have hia:i<a.length:=by omega
  have hx:=ha a[i] (List.getElem_mem hia);have hda:Dg 1000000000 (a.drop (i+1)):=λd hd=>ha d (List.mem_of_mem_drop hd);obtain⟨g1,g2,g3,g4⟩:=q4s hy0 (a.drop (i+1)) hda;have ih:=ih m (by omega) (by omega);rw[q1h hia]at ih;simp only[divL]at ih;generalize (divL 1000000000 y (a.drop (i+1))).1=r at g1 g2 ih ⊢;generalize (divL 1000000000 y (a.drop (i+1))).2=q at g1 g3 g4 ih ⊢;have hq:q.length=a.length-(i+1):=by rw[g4,List.length_drop]
  have hlen:(List.replicate (i+1) 0++q).length=a.length:=by simp[hq];omega
  have e0:(((i+1:Nat):Int)-1)=(i:Int):=by omega
  have hr1:=qcz (Nat.le_of_lt g2);have hr2:(dg 1000000000 (r*1000000000+a[i])).length<=(dg 1000000000 y).length+1:=by
   apply q4q b9_2;have h1:=q7g b9_2 y;have:(r+1)*1000000000<=1000000000^(dg 1000000000 y).length*1000000000:=Nat.mul_le_mul_right _ (by omega);rw[Nat.pow_succ];omega
  have hdig:(r*1000000000+a[i]) / y<1000000000:=by
   rw[Nat.div_lt_iff_lt_mul hy0];have:(r+1)*1000000000<=y*1000000000:=Nat.mul_le_mul_right _ g2;omega
  have hset:List.set ((List.replicate (i+1) 0++q).map d64) i (.int .i64 (((r*1000000000+a[i]) / y:Nat):Int))=(List.replicate i 0++((r*1000000000+a[i]) / y)::q).map d64:=by
   have hr:List.replicate (i+1) 0++q=List.replicate i 0++(0::q):=by rw[List.replicate_succ',List.append_assoc];rfl
   rw[hr,set64 (by simp)]
  have hlen2:(List.replicate i 0++((r*1000000000+a[i]) / y)::q).length=a.length:=by simp[hq];omega
  have hml:y*((r*1000000000+a[i]) / y)<=r*1000000000+a[i]:=Nat.mul_div_le _ _
  rw[q7h.q3h,e0,decide_eq_true (by omega),cond_true,List.length_map,qc hia,Option.bind_some,q4p hia,qb,Option.bind_some,qlc (by omega) (by omega) (by omega),Option.bind_some,List.getElem?_cons_zero,q9,Option.bind_some,times_run hy0 hdig (by omega) (by omega) (by omega),Option.bind_some,List.getElem?_cons_zero,qb,Option.bind_some,
   List.length_map,hlen,qc hia,Option.bind_some,hset,List.length_map,hlen2,qc hia,Option.bind_some,mid64 (by simp),qb,Option.bind_some,qg8 (by omega) (by omega) (by omega),Option.bind_some,List.getElem?_cons_zero,q9,Option.bind_some,
   qd6 hml (by omega) (by omega),Option.bind_some,List.getElem?_cons_zero,q9,Option.bind_some,List.getElem?_cons_succ,List.getElem?_cons_zero,qb,Option.bind_some,show IntKind.wrap .i64 ((i:Int)-1)=(i:Int)-1 from qq (by omega) (by omega)]
  have hmod:r*1000000000+a[i]-y*((r*1000000000+a[i]) / y)=(r*1000000000+a[i])%y:=by
   have:=Nat.div_add_mod (r*1000000000+a[i]) y;omega
  rw[hmod];exact ih
theorem qgc{x y:Nat}(hy0:y≠0)(hx:(dg 1000000000 x).length<=549755812000)(hyl:(dg 1000000000 y).length<=549755812000):Ev En 186 [wL x,wL y] [wL (x / y),wL (x%y),.int .i64 0]:=by
 have p:=q5k hy0;refine Ev.of ((dg 1000000000 x).length+(dg 1000000000 y).length*4+y+1000000030) λn hn=>?_;obtain⟨n,rfl⟩:=qSx n (by omega);rw[qlg,List.length_map,List.length_map,show(((dg 1000000000 y).length:Int)==0)=false from beq_eq_false_iff_ne.2 (by omega),cond_false];by_cases h1:(dg 1000000000 y).length=1
 ·have hy9:y<1000000000:=by have:=q7g b9_2 y;rw[h1]at this;simpa using this
  have e:dg 1000000000 y=[y]:=by
   rw[q2o b9_2 hy0,Nat.mod_eq_of_lt hy9,Nat.div_eq_of_lt hy9,q12]
  rw[h1,show(((1:Nat):Int)==1)=true from rfl,cond_true,e];rw[show ix (0:Int) 1=some 0 from rfl,Option.bind_some,show at' ([y].map d64) 0 0=some (.int .i64 (y:Int)) from rfl,qb,Option.bind_some,wone_run (by omega) hy9 (by omega) (by omega)];simp only[Option.bind_some,List.getElem?_cons_zero,List.getElem?_cons_succ,q9]
 ·rw[show(((dg 1000000000 y).length:Int)==1)=false from beq_eq_false_iff_ne.2 (by omega),cond_false,mk8 (by omega),Option.bind_some,q1p (Nat.le_refl _),Option.bind_some,rep64,show IntKind.wrap .i64 (((dg 1000000000 x).length:Int)-1)=((dg 1000000000 x).length:Int)-1 from qq (by omega) (by omega)];have:=wdiv_loop (n:=n+1) (qw b9_2 x) (show 0<y by omega) hx hyl (by omega) (l2:=[]) (l3:=[]) (dg 1000000000 x).length (n+1) (Nat.le_refl _) (by omega);rw[List.drop_of_length_le (Nat.le_refl _)]at this;simp only[divL,List.append_nil,wL,q12]at this;refine Eq.trans this ?_;obtain⟨g1,g2,g3,g4⟩:=q4s (show 0<y by omega) (dg 1000000000 x) (qw b9_2 x);rw[q1k b9_2]at g1;rw[<- q2i b9_2 g3];obtain⟨h1,h2⟩:=div_key (show 0<y by omega) g1 g2;rw[h1,h2]
theorem w_small{x:Nat}(h:(dg 1000000000 x).length<=2):x<18446744073709551616:=by
 have h1:=q7g b9_2 x;have h2:1000000000^(dg 1000000000 x).length<=1000000000^2:=Nat.pow_le_pow_right (by omega) h;omega
theorem wgcdl:∀(y x:Nat),(dg 1000000000 x).length<=549755812000->(dg 1000000000 y).length<=549755812000->∃n0,∀n m l2,n0<=n->n0<=m ->
  q4t.l1 n [] m [wL x,wL y,.list 1 l2]=some [wL (Nat.gcd x y)]:=by
 intro y
 induction y using Nat.strongRecOn with
 |_ y ih =>
  intro x hx hy;rcases Nat.eq_zero_or_pos y with h0 | h0
  ·subst h0;refine⟨1,λn m l2 hn hm=>?_⟩;obtain⟨m,rfl⟩:=qSx m (by omega);rw[q4t.q2d,List.length_map,q12,decide_eq_false (by simp),cond_false,Nat.gcd_zero_right]
  ·have hlt:=Nat.mod_lt x h0;have hl0:=q5k (show y≠0 by omega);by_cases hw:(dg 1000000000 x).length<=2/\(dg 1000000000 y).length<=2
   ·have sx:=w_small hw.1;have sy:=w_small hw.2;have hg:Nat.gcd x y<18446744073709551616:=Nat.lt_of_le_of_lt (Nat.gcd_le_right x h0) sy;obtain⟨n3,h3⟩:=wof_ev hg;refine⟨n3+y+8,λn m l2 hn hm=>?_⟩;obtain⟨m,rfl⟩:=qSx m (by omega);obtain⟨n,rfl⟩:=qSx n (by omega)
    rw[q4t.q2d,List.length_map,List.length_map,decide_eq_true (by omega),cond_true,decide_eq_true (by omega),cond_true,decide_eq_true (by omega),cond_true,qgb sx (by omega),Option.bind_some,List.getElem?_cons_zero,qb,Option.bind_some,
     qgb sy (by omega),Option.bind_some,List.getElem?_cons_zero,qb,Option.bind_some,qlh,wgcd_loop y x n (by omega),Option.bind_some,List.getElem?_cons_zero,qb,Option.bind_some,h3 _ (by omega),Option.bind_some,List.getElem?_cons_zero,q9,Option.bind_some]
   ·obtain⟨n1,h1⟩:=qgc (x:=x) (y:=y) (by omega) hx hy;have hm1:=qcz (Nat.le_of_lt hlt);obtain⟨n2,h2⟩:=ih (x%y) hlt y hy (by omega);refine⟨n1+n2+1,λn m l2 hn hm=>?_⟩;obtain⟨m,rfl⟩:=qSx m (by omega);have key:∀l2,(evF En n 186 [wL x,wL y]).bind (λr4=>(asLst 1 (r4[0]?)).bind λv5=>(asLst 1 (r4[1]?)).bind λv6=>(asInt .i64 (r4[2]?)).bind λn7=>q4t.l1 n [] m [wL y,.list 1 v6,.list 1 l2])=some [wL (Nat.gcd x y)]:=λl2=>by
     rw[h1 _ (by omega),Option.bind_some,List.getElem?_cons_zero,q9,Option.bind_some,List.getElem?_cons_succ,List.getElem?_cons_zero,q9,Option.bind_some,List.getElem?_cons_succ,List.getElem?_cons_succ,List.getElem?_cons_zero,qb,Option.bind_some,h2 n m l2 (by omega) (by omega),Nat.gcd_comm y,<- Nat.gcd_rec,Nat.gcd_comm]
    rw[q4t.q2d,List.length_map,List.length_map,decide_eq_true (by omega),cond_true];by_cases ha:(dg 1000000000 x).length<=2
    ·rw[decide_eq_true (by omega),cond_true,decide_eq_false (by omega),cond_false];exact key l2
    ·rw[decide_eq_false (by omega),cond_false];exact key l2
theorem wgcd_ev{x y:Nat}(hx:(dg 1000000000 x).length<=549755812000)(hy:(dg 1000000000 y).length<=549755812000):Ev En 135 [wL x,wL y] [wL (Nat.gcd x y)]:=by
 obtain⟨n0,h⟩:=wgcdl y x hx hy;refine Ev.of n0 λn hn=>?_;rw[qli];exact h n n [] hn hn
end Rf
end
section
/- The document's nat by values: its texts. -/
set_option maxHeartbeats 1000000
namespace Rf
open Go
abbrev d8(c:UInt8):FV:=.int .u8 (c.toNat:Int)
abbrev L8(l:List UInt8):FV:=.list 1 (l.map d8)
theorem app8(l:List UInt8)(c:UInt8):l.map d8++[FV.int .u8 (c.toNat:Int)]=(l++[c]).map d8:=by simp
theorem d8_at{l:List UInt8}{i:Nat}(h:i<l.length):at' (l.map d8) i 0=some (.int .u8 ((l[i]).toNat:Int)):=by rw[q21,List.getElem?_eq_getElem h];rfl
theorem qpw(l:List UInt8):bytesO (l.map d8)=some (txt l):=by
 unfold bytesO;rw[if_pos (by simp)];simp only[List.map_map,Function.comp_def,Int.toNat_natCast,UInt8.ofNat_toNat,List.map_id'];rfl
theorem qj8{d:Nat}(h:d<10):IntKind.wrap .u8 (IntKind.wrap .i64 (48+(d:Int)))=((chD d).toNat:Int):=by
 rw[qcg h,qq (by omega) (by omega)];unfold IntKind.wrap;simp[IntKind.bits,IntKind.signed];omega
theorem tmod10(x:Nat):Int.tmod (x:Int) 10=((x%10:Nat):Int):=rfl
theorem tdiv10(x:Nat):Int.tdiv (x:Int) 10=((x / 10:Nat):Int):=rfl
theorem t9_mid{n m0 i:Nat}{a:List FV}(hi:i+1<a.length)(ha:a.length<=1099511627776):∀(j k m x:Nat) (pre:List UInt8),k+j=9->j<m->x<1000000000->pre.length+j<=100000000000000 ->
  q1o.l9 n [m0] m [.list 1 a,L8 pre,.int .i64 (i:Int),.int .i64 (x:Int),.int .i64 (k:Int)]=q1o.l5 n [] m0 [.list 1 a,L8 (pre++(dK j x).map chD),.int .i64 ((i+1:Nat):Int)]:=by
 intro j
 induction j with
 |zero =>
  intro k m x pre hk hm hx hp;obtain⟨m,rfl⟩:=qSx m (by omega);rw[q1o.q3h,decide_eq_false (by omega),cond_false,qi (by omega)];simp[dK]
 |succ j ih =>
  intro k m x pre hk hm hx hp;obtain⟨m,rfl⟩:=qSx m (by omega);have hd:x%10<10:=Nat.mod_lt _ (by omega);have step:=ih (k+1) m (x / 10) (pre++[chD (x%10)]) (by omega) (by omega) (by omega) (by simp;omega);rw[List.append_assoc,List.singleton_append]at step;rw[q1o.q3h,decide_eq_true (by omega),cond_true,tmod10,qj8 hd,el1,List.length_map,q3b (by simp;omega),qi (show i<9223372036854775807 by omega),decide_eq_true (show(((i+1:Nat):Int))<(a.length:Int) by omega),app8,tdiv10,q36 (by omega),qi (by omega)];simp only[cond_true];have:dK (j+1) x=x%10::dK j (x / 10):=rfl;rw[this,List.map_cons];cases decide ((x:Int)>0)
  ·rw[cond_false];exact step
  ·rw[cond_true];exact step
theorem t9_top{n m0 i:Nat}{a:List FV}(hi:i+1=a.length)(ha:a.length<=1099511627776):∀(j k m x:Nat) (pre:List UInt8),k+j=9->j<m->x<10^j->j<=9->pre.length+j<=100000000000000 ->
  q1o.l9 n [m0] m [.list 1 a,L8 pre,.int .i64 (i:Int),.int .i64 (x:Int),.int .i64 (k:Int)]=q1o.l5 n [] m0 [.list 1 a,L8 (pre++(dg 10 x).map chD),.int .i64 ((i+1:Nat):Int)]:=by
 intro j
 induction j with
 |zero =>
  intro k m x pre hk hm hx hj hp;obtain⟨m,rfl⟩:=qSx m (by omega);have:x=0:=by simpa using hx
  subst this;rw[q1o.q3h,decide_eq_false (by omega),cond_false,qi (by omega),q12];simp
 |succ j ih =>
  intro k m x pre hk hm hx hj hp;obtain⟨m,rfl⟩:=qSx m (by omega);have hd:x%10<10:=Nat.mod_lt _ (by omega);have hx9:x<1000000000:=Nat.lt_of_lt_of_le hx (Nat.le_trans (Nat.pow_le_pow_right (by omega) hj) (by decide));rw[q1o.q3h,decide_eq_true (by omega),cond_true];by_cases h0:x=0
  ·subst h0;rw[decide_eq_false (by omega),cond_false,qi (show i<9223372036854775807 by omega),decide_eq_false (by omega),cond_false,q12];simp
  ·rw[decide_eq_true (by omega),cond_true,tmod10,qj8 hd,el1,List.length_map,q3b (by simp;omega),cond_true,app8,tdiv10,q36 (by omega),qi (by omega)];rw[ih (k+1) m (x / 10) (pre++[chD (x%10)]) (by omega) (by omega) (by rw[Nat.div_lt_iff_lt_mul (by omega),<- Nat.pow_succ];exact hx) (by omega) (by simp;omega),q2o (by omega) h0,List.append_assoc];rfl
def tb:List Nat->List UInt8
 |[]=>[]
 |[d]=>(dg 10 d).map chD
 |d::e::r=>(dK 9 d).map chD++tb (e::r)
theorem tb_len:∀(e:List Nat),Dg 1000000000 e->(tb e).length<=9*e.length
 |[],_=>by simp[tb]
 |[d],h=>by
  have:=h d (by simp);have:=q4q (b:=10) (by omega) (n:=d) (k:=9) (by omega);simp[tb];omega
 |d::e::r,h=>by
  have:=tb_len (e::r) h.tail.2;simp only[tb,List.length_append,List.length_map,dK_len,List.length_cons]at this ⊢;omega
theorem tb_dg:∀(x:Nat),tb (dg 1000000000 x)=(dg 10 x).map chD:=by
 intro x
 induction x using Nat.strongRecOn with
 |_ x ih =>
  by_cases h0:x=0
  ·subst h0;rw[q12,q12];rfl
  ·by_cases h1:x / 1000000000=0
   ·rw[q2o b9_2 h0,h1,q12];have:x%1000000000=x:=by omega
    rw[this];rfl
   ·have hne:dg 1000000000 (x / 1000000000)≠[]:=λq=>h1 ((q3r b9_2).1 q);have hi:=ih (x / 1000000000) (Nat.div_lt_self (by omega) (by omega));rw[q2o b9_2 h0];cases he:dg 1000000000 (x / 1000000000)with
    |nil=>exact absurd he hne
    |cons e r =>
     rw[he]at hi;rw[tb,hi,<- List.map_append,<- dg_dK h1 9 (x%1000000000) (by omega)];congr 2;omega
theorem t5_loop{n:Nat}{a:List Nat}(ha:Dg 1000000000 a)(hl:a.length<=1099511627776)(hn:10<=n):∀(e:List Nat) (i m:Nat) (pre:List UInt8),a.drop i=e->i+e.length=a.length->e.length<m->pre.length+9*e.length<=90000000000000 ->
  q1o.l5 n [] m [L64 a,L8 pre,.int .i64 (i:Int)]=q1o.l15 n [] n [L8 (pre++tb e),L8 [],.int .i64 (((pre++tb e).length:Int)-1)]:=by
 intro e
 induction e with
 |nil =>
  intro i m pre hi hie hm hp;obtain⟨m,rfl⟩:=qSx m (by omega);simp only[List.length_nil,Nat.add_zero]at hie;rw[q1o.q1x,List.length_map,List.length_map,decide_eq_false (by omega),cond_false,el0,tb,List.append_nil,show IntKind.wrap .i64 ((pre.length:Int)-1)=(pre.length:Int)-1 from qq (by omega) (by omega)];rfl
 |cons d e ih =>
  intro i m pre hi hie hm hp;obtain⟨m,rfl⟩:=qSx m (by omega);simp only[List.length_cons]at hie hm hp;have hia:i<a.length:=by omega
  have hx:a[i]=d/\a.drop (i+1)=e:=by
   rw[q1h hia]at hi;cases hi;exact⟨rfl,rfl⟩
  have hd:d<1000000000:=by rw[<- hx.1];exact ha _ (List.getElem_mem hia)
  rw[q1o.q1x,List.length_map,decide_eq_true (by omega),cond_true,qc hia,Option.bind_some,q4p hia,qb,Option.bind_some,hx.1];cases e with
  |nil =>
   have dl:=q4q (b:=10) (by omega) (n:=d) (k:=9) (by omega);have:=t9_top (n:=n) (m0:=m) (a:=a.map d64) (i:=i) (by simp;simp at hie;omega) (by simp;omega) 9 0 n d pre (by omega) (by omega) (by omega) (by omega) (by omega);rw[show((0:Nat):Int)=0 from rfl]at this;rw[this];exact ih (i+1) m _ hx.2 (by simp at hie ⊢;omega) (by simp at hm ⊢;omega) (by simp;omega) |>.trans (by simp only[tb,List.append_nil])
  |cons f r =>
   simp only[List.length_cons]at hie hm hp;have:=t9_mid (n:=n) (m0:=m) (a:=a.map d64) (i:=i) (by simp;omega) (by simp;omega) 9 0 n d pre (by omega) (by omega) (by omega) (by omega);rw[show((0:Nat):Int)=0 from rfl]at this;rw[this];refine(ih (i+1) m _ hx.2 (by simp;omega) (by simp;omega) (by simp[dK_len];omega)).trans ?_;simp only[tb,List.append_assoc]
theorem t15_loop{n:Nat}{b:List UInt8}(hl:b.length<=100000000000000):∀(i m:Nat) (out:List UInt8),i<=b.length->i<m->out.length+i<=100000000000000 ->
  q1o.l15 n [] m [L8 b,L8 out,.int .i64 ((i:Int)-1)]=some [.str (txt (out++(b.take i).reverse))]:=by
 intro i
 induction i with
 |zero =>
  intro m out hi hm ho;obtain⟨m,rfl⟩:=qSx m (by omega);rw[q1o.qa9,decide_eq_false (by omega),cond_false,qpw];simp
 |succ i ih =>
  intro m out hi hm ho;obtain⟨m,rfl⟩:=qSx m (by omega);have hib:i<b.length:=by omega
  have e0:(((i+1:Nat):Int)-1)=(i:Int):=by omega
  rw[q1o.qa9,e0,decide_eq_true (by omega),cond_true,List.length_map,qc hib,Option.bind_some,d8_at hib,qb,Option.bind_some,el1,List.length_map,q3b (by simp;omega),cond_true,app8,show IntKind.wrap .i64 ((i:Int)-1)=(i:Int)-1 from qq (by omega) (by omega),ih m (out++[b[i]]) (by omega) (by omega) (by simp;omega)];have e:(b.take (i+1)).reverse=b[i]::(b.take i).reverse:=by rw[List.take_add_one,List.getElem?_eq_getElem hib,Option.toList_some,List.reverse_append];rfl
  rw[e,List.append_assoc];rfl
theorem wtext_ev{x:Nat}(hx:(dg 1000000000 x).length<=1000000000000):Ev En 96 [wL x] [sF (ql x)]:=by
 refine Ev.of (9*(dg 1000000000 x).length+12) λn hn=>?_;rw[qpc,List.length_map];unfold ql;by_cases h0:x=0
 ·subst h0;rw[if_pos rfl,q12];rfl
 ·have p:=q5k h0;rw[if_neg h0,show(((dg 1000000000 x).length:Int)==0)=false from beq_eq_false_iff_ne.2 (by omega),cond_false,el0];have hb:=tb_len _ (qw b9_2 x);have:=t5_loop (n:=n) (qw b9_2 x) (by omega) (by omega) (dg 1000000000 x) 0 n [] rfl (by omega) (by omega) (by simp;omega);refine Eq.trans this ?_;rw[List.nil_append];have:=t15_loop (n:=n) (b:=tb (dg 1000000000 x)) (by omega) (tb (dg 1000000000 x)).length n [] (Nat.le_refl _) (by omega) (by simp;omega);refine Eq.trans this ?_;rw[List.nil_append,List.take_length,tb_dg,List.map_reverse]
def c9(l:List UInt8)(e:Nat):List Nat:=if e=0 then []else vD ((l.take e).drop (e-9))::c9 l (e-9)
termination_by e
decreasing_by omega
theorem vD_cons(c:UInt8)(t:List UInt8):vD (c::t)=(c.toNat-48)*10^t.length+vD t:=by
 have:=q9y [c] t;rw[List.singleton_append]at this;rw[this];simp[vD]
theorem c9_vl(l:List UInt8):∀(e:Nat),e<=l.length->vl 1000000000 (c9 l e)=vD (l.take e):=by
 intro e
 induction e using Nat.strongRecOn with
 |_ e ih =>
  intro he;rw[c9];by_cases h0:e=0
  ·subst h0;simp[vl,vD]
  ·rw[if_neg h0];simp only[vl];rw[ih (e-9) (by omega) (by omega)];have hs:l.take e=l.take (e-9)++(l.take e).drop (e-9):=by
    conv=>lhs;rw[<- List.take_append_drop (e-9) (l.take e)]
    rw[List.take_take,Nat.min_eq_left (by omega)]
   conv=>rhs;rw[hs,q9y]
   by_cases h9:e<=9
   ·rw[show e-9=0 by omega,List.take_zero];simp[vD]
   ·have:((l.take e).drop (e-9)).length=9:=by simp;omega
    rw[this,show(10:Nat)^9=1000000000 from rfl];omega
theorem c9_Dg{l:List UInt8}(h:∀c,c∈l->isD c=true):∀(e:Nat),Dg 1000000000 (c9 l e):=by
 intro e
 induction e using Nat.strongRecOn with
 |_ e ih =>
  rw[c9];split
  ·intro d hd;simp at hd
  ·refine Dg.cons ?_ (ih (e-9) (by omega));have:=vD_lt (s:=(l.take e).drop (e-9)) λc hc=>h c (List.mem_of_mem_take (List.mem_of_mem_drop hc));refine Nat.lt_of_lt_of_le this ?_;have h9:((l.take e).drop (e-9)).length<=9:=by simp;omega
   exact Nat.le_trans (Nat.pow_le_pow_right (by omega) h9) (by decide)
theorem isD_nat{c:UInt8}(h:isD c=true):48<=c.toNat/\c.toNat<=57:=by
 simpa[isD]using h
theorem qj9{a:List UInt8}{i:Nat}(h:i<a.length):a.drop i=a[i]::a.drop (i+1):=List.drop_eq_getElem_cons h
theorem p14_loop{n m0:Nat}{l0:List FV}{l:List UInt8}{e:Nat}{cs:List Nat}(hD:∀c,c∈l->isD c=true)(he:e<=l.length)(hl:l.length<=1000000000)(hcs:cs.length<=1000000000):∀(d i m acc:Nat),i+d=e->d<=9->d<m->acc<10^(9-d) ->
  q1q.l14 n [m0] m [.list 1 l0,sF l,L64 cs,.int .i64 (e:Int),.int .i64 (acc:Int),.int .i64 (i:Int)]=q1q.l10 n [] m0 [.list 1 l0,sF l,L64 (cs++[acc*10^d+vD ((l.take e).drop i)]),.int .i64 ((e:Int)-9)]:=by
 intro d
 induction d with
 |zero =>
  intro i m acc hi h9 hm ha;obtain⟨m,rfl⟩:=qSx m (by omega);have:(l.take e).drop i=[]:=List.drop_of_length_le (by simp;omega);rw[q1q.l14_eq,decide_eq_false (by omega),cond_false,el1,List.length_map,q3b (by simp;omega),cond_true,q6h,this,qq (by omega) (by omega),Nat.pow_zero,Nat.mul_one,show vD []=0 from rfl,Nat.add_zero]
 |succ d ih =>
  intro i m acc hi h9 hm ha;obtain⟨m,rfl⟩:=qSx m (by omega);have hil:i<l.length:=by omega
  have hie:i<(l.take e).length:=by simp;omega
  have hg:(l.take e)[i]=l[i]:=by simp
  have hc:=isD_nat (hD l[i] (List.getElem_mem hil));have hp:10^(9-(d+1))<=10^8:=Nat.pow_le_pow_right (by omega) (by omega);have hp8:(10:Nat)^8=100000000:=rfl;have hp2:10^(9-d)=10*10^(9-(d+1)):=by rw[show 9-d=9-(d+1)+1 by omega,Nat.pow_succ,Nat.mul_comm]
  have e1:IntKind.wrap .u8 (((l[i]).toNat:Int)-48)=((l[i].toNat-48:Nat):Int):=by
   unfold IntKind.wrap;simp[IntKind.bits,IntKind.signed];omega
  have hlen:((l.take e).drop (i+1)).length=d:=by simp;omega
  rw[q1q.l14_eq,decide_eq_true (by omega),cond_true,q3k,List.getElem?_eq_getElem hil,Option.map_some,Option.bind_some,e1,q36 (x:=l[i].toNat-48) (by omega),show(10:Int)=((10:Nat):Int) from rfl,q9i (by omega),q23 (by omega),qi (by omega),
   ih (i+1) m (acc*10+(l[i].toNat-48)) (by omega) (by omega) (by omega) (by rw[hp2];omega),qj9 hie,hg,vD_cons,hlen,Nat.add_mul,Nat.pow_succ,<- Nat.add_assoc,Nat.mul_assoc,Nat.mul_comm 10]
theorem p10_loop{n:Nat}{l0:List FV}{l:List UInt8}(hD:∀c,c∈l->isD c=true)(hl:l.length<=1000000000)(hn:l.length+12<=n):∀(e m:Nat) (cs:List Nat),e<=l.length->e<m->cs.length+e<=l.length ->
  q1q.l10 n [] m [.list 1 l0,sF l,L64 cs,.int .i64 (e:Int)]=some [L64 (tz (cs++c9 l e)),.int .i64 0]:=by
 obtain⟨n,rfl⟩:=qSx n (by omega);have fin:∀(k:Int) (m:Nat) (cs:List Nat),k<=0->cs.length<=l.length->q1q.l10 (n+1) [] (m+1) [.list 1 l0,sF l,L64 cs,.int .i64 k]=some [L64 (tz cs),.int .i64 0]:=λk m cs hk hc=>by
  rw[q1q.q6u,decide_eq_false (by omega),cond_false,q6i (by omega) (by omega)];simp only[Option.bind_some,List.getElem?_cons_zero,q9]
 intro e
 induction e using Nat.strongRecOn with
 |_ e ih =>
  intro m cs he hm hc;obtain⟨m,rfl⟩:=qSx m (by omega);by_cases h0:e=0
  ·subst h0;rw[c9,if_pos rfl,List.append_nil];exact fin 0 m cs (by omega) (by omega)
  ·have est:(if 0<IntKind.wrap .i64 ((e:Int)-9)then IntKind.wrap .i64 ((e:Int)-9)else 0)=((e-9:Nat):Int):=by
    rw[qq (by omega) (by omega)];split <;> omega
   rw[q1q.q6u,decide_eq_true (by omega),cond_true,est,show(0:Int)=((0:Nat):Int) from rfl,
    p14_loop hD he hl (by omega) (e-(e-9)) (e-9) (n+1) 0 (by omega) (by omega) (by omega) (Nat.pow_pos (by omega)),Nat.zero_mul,Nat.zero_add]
   rw[c9,if_neg h0];by_cases h9:e<9
   ·obtain⟨m,rfl⟩:=qSx m (by omega);rw[fin _ m _ (by omega) (by simp;omega),show e-9=0 by omega]
    conv=>rhs;rw[c9,if_pos rfl]
    rfl
   ·rw[show(e:Int)-9=((e-9:Nat):Int) by omega,ih (e-9) (by omega) m _ (by omega) (by omega) (by simp;omega),List.append_assoc];rfl
theorem p4_good{n:Nat}{l0:List FV}{l:List UInt8}(hl:l.length<=1000000000)(hD:∀c,c∈l->isD c=true):∀(d i m:Nat),i+d=l.length->d<m ->
  q1q.l4 n [] m [.list 1 l0,sF l,.int .i64 (i:Int)]=q1q.l10 n [] n [.list 1 l0,sF l,L64 [],.int .i64 (l.length:Int)]:=by
 intro d
 induction d with
 |zero =>
  intro i m hi hm;obtain⟨m,rfl⟩:=qSx m (by omega);rw[q1q.q1r,q1e,decide_eq_false (by omega),cond_false,el0];rfl
 |succ d ih =>
  intro i m hi hm;obtain⟨m,rfl⟩:=qSx m (by omega);have hil:i<l.length:=by omega
  have hc:=isD_nat (hD l[i] (List.getElem_mem hil));rw[q1q.q1r,q1e,decide_eq_true (by omega),cond_true,q3k,List.getElem?_eq_getElem hil,Option.map_some,Option.bind_some,decide_eq_false (by omega),cond_false,Option.bind_some,decide_eq_false (by omega),cond_false,qi (by omega)];exact ih (i+1) m (by omega) (by omega)
theorem p4_bad{n:Nat}{l0:List FV}{l:List UInt8}(hl:l.length<=1000000000):∀(d i m:Nat),i+d=l.length->d<m->(∃c,c∈l.drop i/\isD c=false) ->
  q1q.l4 n [] m [.list 1 l0,sF l,.int .i64 (i:Int)]=some [.list 1 [],.int .i64 10]:=by
 intro d
 induction d with
 |zero =>
  intro i m hi hm hb;obtain⟨c,hc,_⟩:=hb;rw[List.drop_of_length_le (by omega)]at hc;simp at hc
 |succ d ih =>
  intro i m hi hm hb;obtain⟨m,rfl⟩:=qSx m (by omega);have hil:i<l.length:=by omega
  rw[q1q.q1r,q1e,decide_eq_true (by omega),cond_true,q3k,List.getElem?_eq_getElem hil,Option.map_some,Option.bind_some,Option.bind_some];by_cases h1:(l[i]).toNat<48
  ·rw[decide_eq_true (by omega),cond_true]
  ·rw[decide_eq_false (by omega),cond_false];by_cases h2:57<(l[i]).toNat
   ·rw[decide_eq_true (by omega),cond_true]
   ·rw[decide_eq_false (by omega),cond_false,qi (by omega)];refine ih (i+1) m (by omega) (by omega) ?_;obtain⟨c,hc,hb⟩:=hb;rw[qj9 hil]at hc;rcases List.mem_cons.1 hc with rfl | hc
    ·simp[isD]at hb;omega
    ·exact⟨c,hc,hb⟩
theorem q9v{l:List UInt8}(hc:canon l)(hl:l.length<=1000000000):Ev En 78 [sF l] [wL (vD l),.int .i64 0]:=by
 obtain⟨c1,c2,c3⟩:=hc;have hp:0<l.length:=List.length_pos_iff.2 c1;refine Ev.of (l.length+12) λn hn=>?_;rw[qir,q1e,show((l.length:Int)==0)=false from beq_eq_false_iff_ne.2 (by omega),cond_false];have body:q1q.l4 n [] n [.list 1 [],sF l,.int .i64 0]=some [wL (vD l),.int .i64 0]:=by
  have h1:=p4_good (n:=n) (l0:=[]) hl c2 l.length 0 n (by omega) (by omega);rw[show((0:Nat):Int)=0 from rfl]at h1;rw[h1];have h2:=p10_loop (n:=n) (l0:=[]) c2 hl (by omega) l.length n [] (Nat.le_refl _) (by omega) (by simp);refine h2.trans ?_;rw[List.nil_append,<- q2i b9_2 (c9_Dg c2 l.length),c9_vl l l.length (Nat.le_refl _),List.take_length]
 by_cases h1:1<l.length
 ·have h0:0<l.length:=by omega
  have hne:((((l[0]).toNat:Nat):Int)==48)=false:=by
   rw[beq_eq_false_iff_ne];intro q;have:l[0]=48:=UInt8.toNat_inj.1 (show l[0].toNat=48 by omega);have h:=c3 (by rw[List.head?_eq_getElem?,List.getElem?_eq_getElem h0,this]);omega
  have ht:=q3k l 0;rw[show((0:Nat):Int)=0 from rfl,List.getElem?_eq_getElem h0]at ht;rw[decide_eq_true (by omega),cond_true,ht,Option.map_some,Option.bind_some,hne,cond_false];exact body
 ·rw[decide_eq_false (by omega),cond_false];exact body
theorem qbo{l:List UInt8}(hc:¬ canon l)(hl:l.length<=1000000000):Ev En 78 [sF l] [.list 1 [],.int .i64 10]:=by
 refine Ev.of (l.length+12) λn hn=>?_;rw[qir,q1e];by_cases h0:l=[]
 ·subst h0;rfl
 have hp:0<l.length:=List.length_pos_iff.2 h0;rw[show((l.length:Int)==0)=false from beq_eq_false_iff_ne.2 (by omega),cond_false];have ht:=q3k l 0;rw[show((0:Nat):Int)=0 from rfl,List.getElem?_eq_getElem hp]at ht;by_cases hd:∀c,c∈l->isD c=true
 ·have h48:l.head?=some 48/\l.length≠1:=by
   apply Classical.byContradiction;intro q;refine hc ⟨h0,hd,λh=>?_⟩;apply Classical.byContradiction;intro q';exact q ⟨h,q'⟩
  have he:l[0]=48:=by
   have:=h48.1;rw[List.head?_eq_getElem?,List.getElem?_eq_getElem hp]at this;exact Option.some.inj this
  rw[decide_eq_true (by omega),cond_true,ht,Option.map_some,Option.bind_some,he];rfl
 ·have hb:∃c,c∈l.drop 0/\isD c=false:=by
   apply Classical.byContradiction;intro q;refine hd λc hc=>?_;cases hq:isD c with
   |true=>rfl
   |false=>exact absurd ⟨c,hc,hq⟩ q
  have h1:=p4_bad (n:=n) (l0:=[]) hl l.length 0 n (by omega) (by omega) hb;rw[show((0:Nat):Int)=0 from rfl]at h1;by_cases h2:1<l.length
  ·rw[decide_eq_true (by omega),cond_true,ht,Option.map_some,Option.bind_some];cases((((l[0]).toNat:Nat):Int)==48)
   ·rw[cond_false];exact h1
   ·rfl
  ·rw[decide_eq_false (by omega),cond_false];exact h1
end Rf
end
section
/- The document's whole numbers: each function by what its numbers are. -/
set_option maxHeartbeats 2000000
namespace Rf
open Go
abbrev wl(z:Int):FV:=wL z.natAbs
theorem q5t{x k:Nat}(h:x<2^k)(hk:k<=100000000000):(dg 1000000000 x).length<=100000000000:=Nat.le_trans (qf1 b9_2 h) hk
theorem q37(n:Nat):wl (n:Int)=wL n:=rfl
theorem wL_zero:wL 0=.list 1 []:=by unfold wL;rw[q12];rfl
theorem q3d{x:Nat}{s:Bool}:Ev En 80 [.bool s,wL x] [zb (sg s x),wl (sg s x)]:=by
 refine Ev.of 0 λn hn=>?_;rw[qpr];unfold wl zb;rw[sg_abs,sg_neg];cases s
 ·rfl
 ·have:decide ((((dg 1000000000 x).map d64).length:Int)>0)=decide (0<x):=by
   rw[List.length_map,Bool.eq_iff_iff,decide_eq_true_eq,decide_eq_true_eq];by_cases h:x=0
   ·subst h;rw[q12];simp
   ·have:=q5k h;omega
  rw[cond_true,this];rfl
theorem q7n{n:Nat}{z:Int}:evF En (n+1) 94 [zb z,wl z]=some [.int .i64 z.sign]:=by
 rw[qps];by_cases h:z<0
 ·rw[decide_eq_true h,cond_true,Int.sign_eq_neg_one_of_neg h]
 ·rw[decide_eq_false h,cond_false,List.length_map];by_cases h0:z=0
  ·subst h0;rw[show(0:Int).natAbs=0 from rfl,q12];rfl
  ·have:=q5k (x:=z.natAbs) (by omega);rw[decide_eq_true (by omega),cond_true,Int.sign_eq_one_of_pos (by omega)]
theorem qgw{n d:Nat}:evF En (n+1) 94 [.bool false,wL d]=some [.int .i64 (if d=0 then 0 else 1)]:=by
 have h:=q7n (n:=n) (z:=(d:Int));rw[q1i,q37]at h;rw[h];by_cases h0:d=0
 ·subst h0;rfl
 ·rw[if_neg h0,Int.sign_eq_one_of_pos (by omega)]
theorem q9s{z:Int}:Ev En 26 [zb z,wl z] [zb (-z),wl (-z)]:=by
 obtain⟨n1,h1⟩:=q3d (s:=!(decide (z<0))) (x:=z.natAbs);refine Ev.of n1 λn hn=>?_;rw[qpo];simp (disch:=omega) only[h1,Option.bind_some,List.getElem?_cons_zero,List.getElem?_cons_succ,q9,qa];have:sg (!(decide (z<0))) z.natAbs=-z:=by
  unfold sg;by_cases h:z<0 <;> simp[h] <;> omega
 rw[this]
theorem qbg{z w:Int}{k:Nat}(hk:k<=100000000000)(hz:z.natAbs<2^k)(hw:w.natAbs<2^k):Ev En 95 [zb z,wl z,zb w,wl w] [zb (z+w),wl (z+w)]:=by
 have lz:=q5t hz hk;have lw:=q5t hw hk;by_cases hs:decide (z<0)=decide (w<0)
 ·obtain⟨n1,h1⟩:=wadd_ev (x:=z.natAbs) (y:=w.natAbs) (by omega) (by omega);obtain⟨n2,h2⟩:=q3d (s:=decide (w<0)) (x:=z.natAbs+w.natAbs);refine Ev.of (n1+n2) λn hn=>?_;rw[qf0,hs]
  try simp (disch:=omega) only[beq_self_eq_true,cond_true]
  try simp (disch:=omega) only[h1,Option.bind_some,List.getElem?_cons_zero,q9]
  try simp (disch:=omega) only[h2,Option.bind_some,List.getElem?_cons_zero,List.getElem?_cons_succ,q9,qa]
  have:sg (decide (w<0)) (z.natAbs+w.natAbs)=z+w:=by
   unfold sg;by_cases h:w<0
   ·have:z<0:=by rw[decide_eq_true h]at hs;exact of_decide_eq_true hs
    simp[h];omega
   ·have:¬ z<0:=by rw[decide_eq_false h]at hs;exact of_decide_eq_false hs
    simp[h];omega
  rw[this]
 ·have hb:(decide (z<0)==decide (w<0))=false:=beq_eq_false_iff_ne.2 hs;have hsgn:(z<0/\0<=w)\/(0<=z/\w<0):=by
   by_cases h:z<0 <;> by_cases h':w<0 <;> simp_all <;> omega
  have hc:=λn (hn:(dg 1000000000 z.natAbs).length+(dg 1000000000 w.natAbs).length+1<=n)=>qd3 (n:=n) (x:=z.natAbs) (y:=w.natAbs) (by omega) (by omega) hn;by_cases hle:w.natAbs<=z.natAbs
  ·obtain⟨n2,h2⟩:=q3d (x:=z.natAbs-w.natAbs) (s:=decide (z<0));refine Ev.of (n2+(dg 1000000000 z.natAbs).length*2+(dg 1000000000 w.natAbs).length+6) λn hn=>?_;obtain⟨n,rfl⟩:=qSx n (by omega);rw[qf0,hb,cond_false,hc n (by omega)];simp only[Option.bind_some,List.getElem?_cons_zero,qb];rw[decide_eq_true (show cmpN z.natAbs w.natAbs≥0 by unfold cmpN;rw[if_neg (by omega)];split <;> omega),cond_true,qd6 hle (by omega) (by omega)]
   try simp (disch:=omega) only[h2,Option.bind_some,List.getElem?_cons_zero,List.getElem?_cons_succ,q9,qb,qa]
   try simp (disch:=omega) only[h2,rr]
   have:sg (decide (z<0)) (z.natAbs-w.natAbs)=z+w:=by
    unfold sg;by_cases h:z<0 <;> simp[h] <;> omega
   rw[this]
  ·obtain⟨n2,h2⟩:=q3d (x:=w.natAbs-z.natAbs) (s:=decide (w<0));refine Ev.of (n2+(dg 1000000000 w.natAbs).length*2+(dg 1000000000 z.natAbs).length+6) λn hn=>?_;obtain⟨n,rfl⟩:=qSx n (by omega);rw[qf0,hb,cond_false,hc n (by omega)];simp only[Option.bind_some,List.getElem?_cons_zero,qb];rw[decide_eq_false (show ¬ cmpN z.natAbs w.natAbs≥0 by unfold cmpN;rw[if_pos (by omega)];omega),cond_false,qd6 (by omega) (by omega) (by omega)]
   try simp (disch:=omega) only[h2,Option.bind_some,List.getElem?_cons_zero,List.getElem?_cons_succ,q9,qb,qa]
   try simp (disch:=omega) only[h2,rr]
   have:sg (decide (w<0)) (w.natAbs-z.natAbs)=z+w:=by
    unfold sg;by_cases h:w<0 <;> simp[h] <;> omega
   rw[this]
theorem wsub_z{z w:Int}{k:Nat}(hk:k<=100000000000)(hz:z.natAbs<2^k)(hw:w.natAbs<2^k):Ev En 162 [zb z,wl z,zb w,wl w] [zb (z-w),wl (z-w)]:=by
 obtain⟨n1,h1⟩:=q9s (z:=w);obtain⟨n2,h2⟩:=qbg (w:=-w) hk hz (by rw[Int.natAbs_neg];exact hw);refine Ev.of (n1+n2) λn hn=>?_;rw[qpv]
 try simp (disch:=omega) only[h1,Option.bind_some,List.getElem?_cons_zero,List.getElem?_cons_succ,q9,qa]
 try simp (disch:=omega) only[h2,Option.bind_some,List.getElem?_cons_zero,List.getElem?_cons_succ,q9,qa]
 rw[Int.sub_eq_add_neg]
theorem q7p{z w:Int}{k:Nat}(hk:k+k<=100000000000)(hz:z.natAbs<2^k)(hw:w.natAbs<2^k):Ev En 42 [zb z,wl z,zb w,wl w] [zb (z*w),wl (z*w)]:=by
 have lz:=q5t hz (by omega);have lw:=q5t hw (by omega);obtain⟨n1,h1⟩:=wmul_ev (x:=z.natAbs) (y:=w.natAbs) (by omega);obtain⟨n2,h2⟩:=q3d (s:=!(decide (z<0)==decide (w<0))) (x:=z.natAbs*w.natAbs);refine Ev.of (n1+n2) λn hn=>?_;rw[qpq]
 try simp (disch:=omega) only[h1,Option.bind_some,List.getElem?_cons_zero,q9]
 try simp (disch:=omega) only[h2,Option.bind_some,List.getElem?_cons_zero,List.getElem?_cons_succ,q9,qa]
 have:sg (!(decide (z<0)==decide (w<0))) (z.natAbs*w.natAbs)=z*w:=sg_mul z w;rw[this]
theorem sign_cmp(z w:Int):(z-w).sign=q1n z w:=by
 unfold q1n;rcases Int.lt_trichotomy z w with h | h | h
 ·rw[if_pos h,Int.sign_eq_neg_one_of_neg (by omega)]
 ·subst h;simp
 ·rw[if_neg (by omega),if_pos h,Int.sign_eq_one_of_pos (by omega)]
theorem wcmp_z{z w:Int}{k:Nat}(hk:k<=100000000000)(hz:z.natAbs<2^k)(hw:w.natAbs<2^k):Ev En 100 [zb z,wl z,zb w,wl w] [.int .i64 (q1n z w)]:=by
 obtain⟨n1,h1⟩:=wsub_z hk hz hw;refine Ev.of (n1+1) λn hn=>?_;obtain⟨n,rfl⟩:=qSx n (by omega);rw[qpt]
 try simp (disch:=omega) only[h1,Option.bind_some,List.getElem?_cons_zero,List.getElem?_cons_succ,q9,qa]
 try simp (disch:=omega) only[q7n,Option.bind_some,List.getElem?_cons_zero,qb]
 rw[sign_cmp]
theorem qbf{z:Int}(h1:-9223372036854775808<=z)(h2:z<=9223372036854775807):Ev En 40 [.int .i64 z] [zb z,wl z]:=by
 obtain⟨n1,g1⟩:=wof_ev (x:=z.natAbs) (by omega);obtain⟨n2,g2⟩:=q3d (s:=decide (z<0)) (x:=z.natAbs);refine Ev.of (n1+n2) λn hn=>?_;rw[qpp];by_cases h:z<0
 ·rw[decide_eq_true h]at g2;have e:IntKind.wrap .u64 (IntKind.wrap .u64 (IntKind.wrap .i64 (0-IntKind.wrap .i64 (z+1)))+1)=(z.natAbs:Int):=by
   rw[qq (x:=z+1) (by omega) (by omega),qq (by omega) (by omega)];unfold IntKind.wrap;simp[IntKind.bits,IntKind.signed];omega
  rw[decide_eq_false (by omega),e]
  try simp (disch:=omega) only[g1,Option.bind_some,List.getElem?_cons_zero,q9,cond_false]
  try simp (disch:=omega) only[g2,Option.bind_some,List.getElem?_cons_zero,List.getElem?_cons_succ,q9,qa]
  have:sg true z.natAbs=z:=by unfold sg;simp;omega
  rw[this]
 ·rw[decide_eq_false h]at g2;have e:IntKind.wrap .u64 z=(z.natAbs:Int):=by
   unfold IntKind.wrap;simp[IntKind.bits,IntKind.signed];omega
  rw[decide_eq_true (by omega),e]
  try simp (disch:=omega) only[g1,Option.bind_some,List.getElem?_cons_zero,q9,cond_true]
  try simp (disch:=omega) only[g2,Option.bind_some,List.getElem?_cons_zero,List.getElem?_cons_succ,q9,qa]
  have:sg false z.natAbs=z:=by unfold sg;simp;omega
  rw[this]
theorem wqr_ev{z w:Int}{k:Nat}(hk:k<=100000000000)(h0:w≠0)(hz:z.natAbs<2^k)(hw:w.natAbs<2^k) :
  Ev En 136 [zb z,wl z,zb w,wl w] [zb (z.tdiv w),wl (z.tdiv w),zb (z.tmod w),wl (z.tmod w),.int .i64 0]:=by
 have lz:=q5t hz (by omega);have lw:=q5t hw (by omega);obtain⟨n1,h1⟩:=qgc (x:=z.natAbs) (y:=w.natAbs) (by omega) (by omega) (by omega);obtain⟨n2,h2⟩:=q3d (s:=!(decide (z<0)==decide (w<0))) (x:=z.natAbs / w.natAbs);obtain⟨n3,h3⟩:=q3d (s:=decide (z<0)) (x:=z.natAbs%w.natAbs);refine Ev.of (n1+n2+n3) λn hn=>?_;rw[qpu]
 try simp (disch:=omega) only[h1,Option.bind_some,List.getElem?_cons_zero,List.getElem?_cons_succ,q9,qb]
 try simp (disch:=omega) only[show((0:Int) !=0)=false from rfl,cond_false]
 try simp (disch:=omega) only[h2,Option.bind_some,List.getElem?_cons_zero,List.getElem?_cons_succ,q9,qa]
 try simp (disch:=omega) only[h3,Option.bind_some,List.getElem?_cons_zero,List.getElem?_cons_succ,q9,qa]
 rw[sg_div z w,sg_mod z w]
theorem qdr{z:Int}{k:Nat}(hk:k<=100000000000)(hz:z.natAbs<2^k):Ev En 25 [zb z,wl z] [sF (qn z)]:=by
 have lz:=q5t hz (by omega);have lt:=q7r hz;obtain⟨n1,h1⟩:=wtext_ev (x:=z.natAbs) (by omega);refine Ev.of n1 λn hn=>?_;rw[qpn];unfold qn;by_cases h:z<0
 ·rw[decide_eq_true h,if_pos h];simp (disch:=omega) only[h1,Option.bind_some,List.getElem?_cons_zero,qg,cond_true];rw[q1e,decide_eq_false (by omega),cond_false,show({ data:=#[45] }:ByteArray)=txt [45] from rfl,q5u];rfl
 ·rw[decide_eq_false h,if_neg h];simp (disch:=omega) only[h1,Option.bind_some,List.getElem?_cons_zero,qg,cond_false]
theorem len_wL(x:Nat):((((dg 1000000000 x).map d64).length:Int)==0)=decide (x=0):=by
 rw[List.length_map,Bool.eq_iff_iff,beq_iff_eq,decide_eq_true_eq];by_cases h:x=0
 ·subst h;rw[q12];simp
 ·have:=q5k h;omega
theorem qdt{l:List UInt8}{z:Int}(h:pz l=some z)(hl:l.length<=1000000000):Ev En 77 [sF l] [zb z,wl z,.int .i64 0]:=by
 have hb:=q8q h;have e:=q3l.1 h;by_cases hz:z<0
 ·have hl2:l=45::ql z.natAbs:=by rw[e];unfold qn;rw[if_pos hz]
  obtain⟨n1,h1⟩:=q9v (l:=ql z.natAbs) (q5w _) (by rw[hl2]at hl;simp at hl;omega);rw[q50]at h1;obtain⟨n2,h2⟩:=q3d (s:=true) (x:=z.natAbs);refine Ev.of (n1+n2) λn hn=>?_;subst hl2;have ht:=q3k (45::ql z.natAbs) 0;rw[show((0:Nat):Int)=0 from rfl,List.getElem?_cons_zero,Option.map_some]at ht
  rw[qah,q1e,decide_eq_true (by simp),cond_true,ht,Option.bind_some,show((((45:UInt8).toNat:Nat):Int)==45)=true from rfl,cond_true,show(1:Int)=((1:Nat):Int) from rfl,q1p (by simp),Option.bind_some,q46,
   show((45::ql z.natAbs).take (45::ql z.natAbs).length).drop 1=ql z.natAbs by rw[List.take_length];rfl]
  try simp (disch:=omega) only[h1,Option.bind_some,List.getElem?_cons_zero,List.getElem?_cons_succ,q9,qb,cond_true]
  try simp (disch:=omega) only[show((0:Int) !=0)=false from rfl,cond_false]
  rw[len_wL,decide_eq_false (by omega)]
  try simp (disch:=omega) only[h2,Option.bind_some,List.getElem?_cons_zero,List.getElem?_cons_succ,q9,qa,cond_false]
  try simp (disch:=omega) only[h2,rr]
  have:sg true z.natAbs=z:=by unfold sg;simp;omega
  rw[this]
 ·have hl2:l=ql z.natAbs:=by rw[e];unfold qn;rw[if_neg hz]
  have hc:canon l:=hl2▸q5w _;obtain⟨c,t,rfl⟩:∃c t,l=c::t:=by
   cases l with
   |nil=>exact absurd rfl hc.1
   |cons c t=>exact⟨c,t,rfl⟩
  have h45:((c.toNat:Int)==45)=false:=by
   rw[beq_eq_false_iff_ne];intro q;have:c=45:=UInt8.toNat_inj.1 (show c.toNat=45 by omega);subst this;exact qf6 hc
  obtain⟨n1,h1⟩:=q9v (l:=c::t) hc hl;have hv:vD (c::t)=z.natAbs:=by rw[hl2,q50]
  rw[hv]at h1;obtain⟨n2,h2⟩:=q3d (s:=false) (x:=z.natAbs);refine Ev.of (n1+n2) λn hn=>?_;have ht:=q3k (c::t) 0;rw[show((0:Nat):Int)=0 from rfl,List.getElem?_cons_zero,Option.map_some]at ht;rw[qah,q1e,decide_eq_true (by simp),cond_true,ht,Option.bind_some,h45]
  try simp (disch:=omega) only[h1,Option.bind_some,List.getElem?_cons_zero,List.getElem?_cons_succ,q9,qb,cond_false]
  try simp (disch:=omega) only[show((0:Int) !=0)=false from rfl,cond_false]
  try simp (disch:=omega) only[h2,Option.bind_some,List.getElem?_cons_zero,List.getElem?_cons_succ,q9,qa]
  have:sg false z.natAbs=z:=by unfold sg;simp;omega
  rw[this]
theorem qh5{l:List UInt8}(h:pz l=none)(hl:l.length<=1000000000):Ev En 77 [sF l] [.bool false,.list 1 [],.int .i64 10]:=by
 cases l with
 |nil =>
  obtain⟨n1,h1⟩:=qbo (l:=[]) (λhc=>hc.1 rfl) hl;refine Ev.of n1 λn hn=>?_;rw[qah,q1e,decide_eq_false (by simp),cond_false]
  try simp (disch:=omega) only[h1,Option.bind_some,List.getElem?_cons_zero,List.getElem?_cons_succ,q9,qb]
  try simp (disch:=omega) only[show((10:Int) !=0)=true from rfl,cond_true]
 |cons c t =>
  have ht:=q3k (c::t) 0;rw[show((0:Nat):Int)=0 from rfl,List.getElem?_cons_zero,Option.map_some]at ht;by_cases h45:c=45
  ·subst h45;simp only[List.length_cons]at hl;have head:∀n,evF En (n+1) 77 [sF (45::t)]=(evF En n 78 [sF t]).bind λr2=>(asLst 1 (r2[0]?)).bind λv3=>(asInt .i64 (r2[1]?)).bind λn4 =>
     (bif(n4 !=0)then some [.bool false,.list 1 [],.int .i64 10]
      else(bif((v3.length:Int)==0)then some [.bool false,.list 1 [],.int .i64 10]
       else(evF En n 80 [.bool true,.list 1 v3]).bind λr5=>(asBool (r5[0]?)).bind λc6=>(asLst 1 (r5[1]?)).bind λv7=>some [.bool c6,.list 1 v7,.int .i64 0])):=λn=>by
    rw[qah,q1e,decide_eq_true (by simp),cond_true,ht,Option.bind_some,show((((45:UInt8).toNat:Nat):Int)==45)=true from rfl,cond_true,show(1:Int)=((1:Nat):Int) from rfl,q1p (by simp),Option.bind_some,q46,
     show((45::t).take (45::t).length).drop 1=t by rw[List.take_length];rfl]
    rfl
   by_cases hc:canon t
   ·have hv:vD t=0:=by
     apply Classical.byContradiction;intro q;rw[pz_neg hc q]at h;cases h
    obtain⟨n1,h1⟩:=q9v (l:=t) hc (by omega);rw[hv]at h1;refine Ev.of n1 λn hn=>?_;rw[head]
    try simp (disch:=omega) only[h1,Option.bind_some,List.getElem?_cons_zero,List.getElem?_cons_succ,q9,qb]
    try simp (disch:=omega) only[show((0:Int) !=0)=false from rfl,cond_false]
    rw[len_wL];rfl
   ·obtain⟨n1,h1⟩:=qbo (l:=t) hc (by omega);refine Ev.of n1 λn hn=>?_;rw[head]
    try simp (disch:=omega) only[h1,Option.bind_some,List.getElem?_cons_zero,List.getElem?_cons_succ,q9,qb]
    try simp (disch:=omega) only[show((10:Int) !=0)=true from rfl,cond_true]
  ·have hb:((c.toNat:Int)==45)=false:=by
    rw[beq_eq_false_iff_ne];intro q;exact h45 (UInt8.toNat_inj.1 (show c.toNat=45 by omega))
   have hc:¬ canon (c::t):=λhc=>by rw[pz_pos hc]at h;cases h
   obtain⟨n1,h1⟩:=qbo (l:=c::t) hc hl;refine Ev.of n1 λn hn=>?_;rw[qah,q1e,decide_eq_true (by simp),cond_true,ht,Option.bind_some,hb]
   try simp (disch:=omega) only[h1,Option.bind_some,List.getElem?_cons_zero,List.getElem?_cons_succ,q9,qb,cond_false]
   try simp (disch:=omega) only[show((10:Int) !=0)=true from rfl,cond_true]
end Rf
end
