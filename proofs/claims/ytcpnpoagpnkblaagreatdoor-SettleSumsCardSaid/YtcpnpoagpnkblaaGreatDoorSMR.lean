/- Texts of this work put together, their blanks and comments taken out: Num, RefN, RefT, RefZ. -/
import Derived.Test.YtcpnpoagpnkblaaGreatDoorSMQ
import Derived.Test.YtcpnpoagpnkblaaGreatDoorSMI
import Derived.Test.YtcpnpoagpnkblaaGreatDoorSMG
set_option linter.unusedVariables false
set_option linter.unusedSimpArgs false
set_option maxHeartbeats 2000000
namespace Rf
open Go
section
abbrev nL(x:Nat):FV:=L32 (dg 4294967296 x)
abbrev zl(z:Int):FV:=nL z.natAbs
abbrev zb(z:Int):FV:=.bool (decide (z<0))
def sg(s:Bool)(x:Nat):Int:=if s then -(x:Int)else x
theorem sg_abs(s:Bool)(x:Nat):(sg s x).natAbs=x:=by unfold sg;split <;> omega
theorem sg_neg(s:Bool)(x:Nat):decide (sg s x<0)=(s&&decide (0<x)):=by
 unfold sg;cases s <;> simp
theorem q4i{x k:Nat}(h:x<2^k)(hk:k<=100000000000:=by omega):(dg 4294967296 x).length<=100000000000:=AZ (qi0 qq h) hk
theorem zero_ev{x k:Nat}{s:Bool}(hk:k<=100000000000)(hx:x<2^k):Ev En 198 [nL x,.bool s] [.bool (decide (x=0))]:=by
 have l:=q4i hx hk;obtain⟨n1,h1⟩:=qew (x:=x);refine Ev.of n1 λn hn=>?_;rw[qv0];simp (disch:=omega) only[h1,rr];have:(((q88 x:Nat):Int)==0)=decide (x=0):=by
  rw[Bm,Bv,As,<- qex];omega
 rw[this]
theorem q5z{x k:Nat}{s:Bool}(hk:k<=100000000000)(hx:x<2^k):Ev En 199 [.bool s,nL x] [zl (sg s x),zb (sg s x)]:=by
 have l:=q4i hx hk;obtain⟨n1,h1⟩:=qew (x:=x);refine Ev.of n1 λn hn=>?_;rw[qv1];unfold zl zb;rw[sg_abs,sg_neg];cases s
 ·simp only[rr];rfl
 ·simp (disch:=omega) only[h1,rr];have:decide (((q88 x:Nat):Int)>0)=decide (0<x):=by
   rw[Bm,As,As];have:=@qex x;omega
  rw[this];rfl
theorem qdq{z:Int}{k:Nat}(hk:k<=100000000000)(hz:z.natAbs<2^k):Ev En 145 [zl z,zb z] [.int .i64 z.sign]:=by
 obtain⟨n1,h1⟩:=zero_ev (s:=decide (z<0)) hk hz;refine Ev.of n1 λn hn=>?_;rw[qv2];by_cases h:z<0
 ·rw[Af h];simp only[rr];rw[CN h]
 ·rw[Ad h]at h1 ⊢;simp (disch:=omega) only[h1,rr];by_cases h0:z=0
  ·subst h0;rfl
  ·rw[Ad];simp only[rr];rw[Co (by omega)]
theorem qey{z:Int}{k:Nat}(hk:k<=100000000000)(hz:z.natAbs<2^k):Ev En 147 [zl z,zb z] [zl (-z),zb (-z)]:=by
 obtain⟨n1,h1⟩:=q5z (s:=!(decide (z<0))) hk hz;refine Ev.of n1 λn hn=>?_;rw[qv3];simp (disch:=omega) only[h1,rr];have:sg (!(decide (z<0))) z.natAbs=-z:=by
  unfold sg;by_cases h:z<0 <;> simp[h] <;> omega
 rw[this]
theorem nabs_ev{z:Int}:Ev En 218 [zl z,zb z] [nL z.natAbs]:=Ev.of 0 λn _=>qv4 n _ _
theorem pow_two{a b k:Nat}(h:a<2^k)(h':b<2^k):a+b<2^(k+1):=by rw[Ay];omega
theorem qaj{z w:Int}{k:Nat}(hk:k+1<=100000000000)(hz:z.natAbs<2^k)(hw:w.natAbs<2^k):Ev En 141 [zl z,zb z,zl w,zb w] [zl (z+w),zb (z+w)]:=by
 have lz:=q4i hz;have lw:=q4i hw;by_cases hs:decide (z<0)=decide (w<0)
 ·obtain⟨n1,h1⟩:=natAdd_ev (x:=z.natAbs) (y:=w.natAbs) (by omega) (by omega);obtain⟨n2,h2⟩:=q5z (s:=decide (z<0)) hk (pow_two hz hw);refine Ev.of (n1+n2) λn hn=>?_;rw[qi1,hs];rw[hs]at h2;simp (disch:=omega) only[h1,h2,Be,rr];have:sg (decide (w<0)) (z.natAbs+w.natAbs)=z+w:=by
   unfold sg;by_cases h:w<0
   ·have:z<0:=by rw[Af h]at hs;exact of_decide_eq_true hs
    simp[h];omega
   ·have:¬ z<0:=by rw[Ad h]at hs;exact Fk hs
    simp[h];omega
  rw[this]
 ·have hb:(decide (z<0)==decide (w<0))=false:=Bq.2 hs;have hsgn:(z<0/\0<=w)\/(0<=z/\w<0):=by
   by_cases h:z<0 <;> by_cases h':w<0 <;> simp_all <;> omega
  by_cases hle:w.natAbs<=z.natAbs
  ·obtain⟨n1,h1⟩:=qn0 (x:=z.natAbs) (y:=w.natAbs) (by omega) hle (by omega) (by omega);obtain⟨n2,h2⟩:=q5z (k:=k) (x:=z.natAbs-w.natAbs) (s:=decide (z<0)) (by omega) (by omega);refine Ev.of (n1+n2) λn hn=>?_;rw[qi1,hb];simp (disch:=omega) only[h1,h2,Be,rr];have:sg (decide (z<0)) (z.natAbs-w.natAbs)=z+w:=by
    unfold sg;by_cases h:z<0 <;> simp[h] <;> omega
   rw[this]
  ·obtain⟨n1,h1⟩:=qv5 (x:=z.natAbs) (y:=w.natAbs) (by omega) (by omega) (by omega);obtain⟨n3,h3⟩:=qn0 (x:=w.natAbs) (y:=z.natAbs) (by omega) (by omega) (by omega) (by omega);obtain⟨n2,h2⟩:=q5z (k:=k) (x:=w.natAbs-z.natAbs) (s:=decide (w<0)) (by omega) (by omega);refine Ev.of (n1+n2+n3) λn hn=>?_;rw[qi1,hb];simp (disch:=omega) only[h1,h2,h3,show((11:Int)==0)=false from rfl,rr];have:sg (decide (w<0)) (w.natAbs-z.natAbs)=z+w:=by
    unfold sg;by_cases h:w<0 <;> simp[h] <;> omega
   rw[this]
theorem qdo{z w:Int}{k:Nat}(hk:k+1<=100000000000)(hz:z.natAbs<2^k)(hw:w.natAbs<2^k):Ev En 84 [zl z,zb z,zl w,zb w] [zl (z-w),zb (z-w)]:=by
 obtain⟨n1,h1⟩:=qey (by omega) hw;obtain⟨n2,h2⟩:=qaj (w:=-w) hk hz (by rw[BE];exact hw);refine Ev.of (n1+n2) λn hn=>?_;rw[qv6];simp (disch:=omega) only[h1,h2,rr];rw[Int.sub_eq_add_neg]
theorem sg_mul(z w:Int):sg (!(decide (z<0)==decide (w<0))) (z.natAbs*w.natAbs)=z*w:=by
 unfold sg;rcases Dd z 0 with h | h <;> rcases Dd w 0 with h' | h'
 ·obtain⟨x,rfl⟩:∃x:Nat,z=-(x:Int):=⟨z.natAbs,by omega⟩;obtain⟨y,rfl⟩:∃y:Nat,w=-(y:Int):=⟨w.natAbs,by omega⟩;rw[Int.neg_mul_neg,Af h,Af h',BE,BE];simp
 ·obtain⟨x,rfl⟩:∃x:Nat,z=-(x:Int):=⟨z.natAbs,by omega⟩;obtain⟨y,rfl⟩:∃y:Nat,w=(y:Int):=⟨w.natAbs,by omega⟩;rw[Int.neg_mul,Af h,Ad,BE];simp
 ·obtain⟨x,rfl⟩:∃x:Nat,z=(x:Int):=⟨z.natAbs,by omega⟩;obtain⟨y,rfl⟩:∃y:Nat,w=-(y:Int):=⟨w.natAbs,by omega⟩;rw[Int.mul_neg,Af h',Ad,BE];simp
 ·obtain⟨x,rfl⟩:∃x:Nat,z=(x:Int):=⟨z.natAbs,by omega⟩;obtain⟨y,rfl⟩:∃y:Nat,w=(y:Int):=⟨w.natAbs,by omega⟩;rw[Ad,Ad];simp
theorem q7e{z w:Int}{k:Nat}(hk:k+k<=100000000000)(hz:z.natAbs<2^k)(hw:w.natAbs<2^k):Ev En 173 [zl z,zb z,zl w,zb w] [zl (z*w),zb (z*w)]:=by
 have lz:=q4i hz;have lw:=q4i hw;obtain⟨n1,h1⟩:=natMul_ev (x:=z.natAbs) (y:=w.natAbs) (by omega);obtain⟨n2,h2⟩:=q5z (s:=!(decide (z<0)==decide (w<0))) hk (q4p hz hw);refine Ev.of (n1+n2) λn hn=>?_;rw[qv7];simp (disch:=omega) only[h1,h2,rr];rw[sg_mul z w]
def q26(z w:Int):Int:=if z<w then -1 else if w<z then 1 else 0
theorem cmpN_pos{z w:Int}(hz:0<=z)(hw:0<=w):cmpN z.natAbs w.natAbs=q26 z w:=by
 have e1:z.natAbs<w.natAbs↔z<w:=by omega
 have e2:w.natAbs<z.natAbs↔w<z:=by omega
 simp only[cmpN,q26,e1,e2]
theorem cmpN_neg{z w:Int}(hz:z<0)(hw:w<0):cmpN w.natAbs z.natAbs=q26 z w:=by
 have e1:w.natAbs<z.natAbs↔z<w:=by omega
 have e2:z.natAbs<w.natAbs↔w<z:=by omega
 simp only[cmpN,q26,e1,e2]
theorem qdp{z w:Int}{k:Nat}(hk:k<=100000000000)(hz:z.natAbs<2^k)(hw:w.natAbs<2^k):Ev En 142 [zl z,zb z,zl w,zb w] [.int .i64 (q26 z w)]:=by
 have lz:=q4i hz;have lw:=q4i hw;obtain⟨n1,h1⟩:=qa4 (x:=z.natAbs) (y:=w.natAbs) (by omega) (by omega);obtain⟨n2,h2⟩:=qa4 (x:=w.natAbs) (y:=z.natAbs) (by omega) (by omega);refine Ev.of (n1+n2) λn hn=>?_;rw[qv8];by_cases h:z<0 <;> by_cases h':w<0
 ·rw[Af h,Af h'];simp (disch:=omega) only[h1,h2,Ao,rr];rw[cmpN_neg h h']
 ·rw[Af h,Ad h'];simp (disch:=omega) only[h1,h2,Ao,AY,rr];unfold q26;rw[if_pos (by omega)]
 ·rw[Ad h,Af h'];simp (disch:=omega) only[h1,h2,Ao,AY,rr];unfold q26;rw[if_neg (by omega),if_pos (by omega)]
 ·rw[Ad h,Ad h'];simp (disch:=omega) only[h1,h2,AY,rr];rw[cmpN_pos (by omega) (by omega)]
theorem qdn{z:Int}(h1:-9223372036854775808<=z:=by omega)(h2:z<=9223372036854775807:=by omega):Ev En 144 [.int .i64 z] [zl z,zb z]:=by
 have hb:z.natAbs<2^64:=by
  have:(2:Nat)^64=18446744073709551616:=by decide
  omega
 obtain⟨n1,g1⟩:=qi2 (x:=z.natAbs) (by omega);obtain⟨n2,g2⟩:=q5z (s:=decide (z<0)) (k:=64) (by omega) hb;refine Ev.of (n1+n2) λn hn=>?_;rw[num_Of_eq];by_cases h:z<0
 ·rw[Af h]at g2 ⊢;have e:IntKind.wrap .u64 (0-IntKind.wrap .u64 z)=(z.natAbs:Int):=by
   unfold IntKind.wrap;simp[IntKind.bits,IntKind.signed];omega
  rw[e];simp (disch:=omega) only[g1,g2,rr];have:sg true z.natAbs=z:=by unfold sg;simp;omega
  rw[this]
 ·rw[Ad h]at g2 ⊢;have e:IntKind.wrap .u64 z=(z.natAbs:Int):=by
   unfold IntKind.wrap;simp[IntKind.bits,IntKind.signed];omega
  rw[e];simp (disch:=omega) only[g1,g2,rr];have:sg false z.natAbs=z:=by unfold sg;simp;omega
  rw[this]
theorem sg_div(z w:Int):sg (!(decide (z<0)==decide (w<0))) (z.natAbs / w.natAbs)=z.tdiv w:=by
 unfold sg;rcases Dd z 0 with h | h <;> rcases Dd w 0 with h' | h'
 ·obtain⟨x,rfl⟩:∃x:Nat,z=-(x:Int):=⟨z.natAbs,by omega⟩;obtain⟨y,rfl⟩:∃y:Nat,w=-(y:Int):=⟨w.natAbs,by omega⟩;rw[Int.neg_tdiv_neg,Af h,Af h',BE,BE];simp
 ·obtain⟨x,rfl⟩:∃x:Nat,z=-(x:Int):=⟨z.natAbs,by omega⟩;obtain⟨y,rfl⟩:∃y:Nat,w=(y:Int):=⟨w.natAbs,by omega⟩;rw[Int.neg_tdiv,Af h,Ad,BE];simp
 ·obtain⟨x,rfl⟩:∃x:Nat,z=(x:Int):=⟨z.natAbs,by omega⟩;obtain⟨y,rfl⟩:∃y:Nat,w=-(y:Int):=⟨w.natAbs,by omega⟩;rw[Int.tdiv_neg,Af h',Ad,BE];simp
 ·obtain⟨x,rfl⟩:∃x:Nat,z=(x:Int):=⟨z.natAbs,by omega⟩;obtain⟨y,rfl⟩:∃y:Nat,w=(y:Int):=⟨w.natAbs,by omega⟩;rw[Ad,Ad];simp
theorem sg_mod(z w:Int):sg (decide (z<0)) (z.natAbs%w.natAbs)=z.tmod w:=by
 unfold sg;rcases Dd z 0 with h | h
 ·obtain⟨x,rfl⟩:∃x:Nat,z=-(x:Int):=⟨z.natAbs,by omega⟩;rw[EV,Af h,BE];rcases Dd w 0 with h' | h'
  ·obtain⟨y,rfl⟩:∃y:Nat,w=-(y:Int):=⟨w.natAbs,by omega⟩;rw[Int.tmod_neg];simp[EC]
  ·obtain⟨y,rfl⟩:∃y:Nat,w=(y:Int):=⟨w.natAbs,by omega⟩;simp[EC]
 ·obtain⟨x,rfl⟩:∃x:Nat,z=(x:Int):=⟨z.natAbs,by omega⟩;rw[Ad];rcases Dd w 0 with h' | h'
  ·obtain⟨y,rfl⟩:∃y:Nat,w=-(y:Int):=⟨w.natAbs,by omega⟩;rw[Int.tmod_neg];simp[EC]
  ·obtain⟨y,rfl⟩:∃y:Nat,w=(y:Int):=⟨w.natAbs,by omega⟩;simp[EC]
theorem qdm{z w:Int}{k:Nat}(hk:k<=100000000000)(h0:w≠0)(hz:z.natAbs<2^k)(hw:w.natAbs<2^k) :
  Ev En 143 [zl z,zb z,zl w,zb w] [zl (z.tdiv w),zb (z.tdiv w),zl (z.tmod w),zb (z.tmod w),.int .i64 0]:=by
 have lz:=q4i hz;have lw:=q4i hw;have hq:z.natAbs / w.natAbs<2^k:=BK (Dp _ _) hz;have hr:z.natAbs%w.natAbs<2^k:=BK (Nat.mod_le _ _) hz;obtain⟨n1,h1⟩:=qn1 (x:=z.natAbs) (y:=w.natAbs) (by omega) (by omega) (by omega);obtain⟨n2,h2⟩:=q5z (s:=!(decide (z<0)==decide (w<0))) hk hq;obtain⟨n3,h3⟩:=q5z (s:=decide (z<0)) hk hr;refine Ev.of (n1+n2+n3) λn hn=>?_;rw[qv9];simp (disch:=omega) only[h1,h2,h3,show((0:Int) !=0)=false from rfl,rr];rw[sg_div z w,sg_mod z w]
theorem pow2_10(k:Nat):2^k<=1000000000^k:=ED (by omega) k
theorem qi3{z:Int}{k:Nat}(hk:k<=10000000000)(hz:z.natAbs<2^k):Ev En 85 [zl z,zb z] [sF (qu z)]:=by
 have lz:=q4i hz;have lt:=q9m hz;obtain⟨n1,h1⟩:=qva (x:=z.natAbs) (k:=k) (AQ hz (pow2_10 k)) (by omega) (by omega) (by omega);refine Ev.of n1 λn hn=>?_;rw[qvb];unfold qu;by_cases h:z<0
 ·rw[Af h,if_pos h];simp (disch:=omega) only[h1,rr];rw[q1e,Ad,Ab,show({ data:=#[45] }:ByteArray)=txt [45] from rfl,q5l];rfl
 ·rw[Ad h,if_neg h];simp (disch:=omega) only[h1,rr]
theorem qn2{n:Nat}(l:List UInt8):evF En (n+3) 215 [sF l,.str { data:=#[45] }]=some [sF (if l.head?=some 45 then l.tail else l),.bool (decide (l.head?=some 45))]:=by
 rw[qvc,qvd,qve,show({ data:=#[45] }:ByteArray)=txt [45] from rfl,q1e,q1e];cases l with
 |nil=>rfl
 |cons c t =>
  rw[Af (by simp;omega),Ac,q1x (by simp),Ae,q5m,q3g];simp only[Ae,Aj,q44];by_cases hc:c=45
  ·subst hc;rw[Af (by simp),Ao,Ab];simp (disch:=omega) only[q5m,rr];simp
  ·rw[Ad (by simpa using hc),AY,Ac];simp only[rr];simp[hc]
theorem qco{l:List UInt8}{z:Int}(h:pz l=some z)(hl:l.length<=1000000000:=by omega):Ev En 177 [sF l] [zl z,zb z,.int .i64 0]:=by
 have hb:=qao h;have lz:=q4i hb;have e:=q4q.1 h;have hcp:=λn=>@qn2 n l;have hb':=qew (x:=z.natAbs);by_cases hz:z<0
 ·have hl2:l=45::qk z.natAbs:=by rw[e];unfold qu;rw[if_pos hz]
  obtain⟨n1,h1⟩:=qi4 (l:=qk z.natAbs) (q6o _) (by rw[hl2]at hl;simp at hl;omega) (by rw[q6p];omega);rw[q6p]at h1;obtain⟨n2,h2⟩:=q5z (s:=true) (by omega:4*l.length<=100000000000) hb;obtain⟨n3,h3⟩:=hb';refine Ev.of (n1+n2+n3+3) λn hn=>?_;obtain⟨n,rfl⟩:∃m,n=m+3:=⟨n-3,by omega⟩;rw[qcp,hcp];subst hl2;simp (disch:=omega) only[DR,AX,EE,h1,DI,show((0:Int) !=0)=false from rfl,h3,rr];have:(((q88 z.natAbs:Nat):Int)==0)=false:=by
   rw[Bq];have:=@qex z.natAbs;omega
  rw[this];simp (disch:=omega) only[h2,rr];have:sg true z.natAbs=z:=by unfold sg;simp;omega
  rw[this]
 ·have hl2:l=qk z.natAbs:=by rw[e];unfold qu;rw[if_neg hz]
  have hc:canon l:=hl2▸q6o _;have h45:l.head?≠some 45:=λq=>by
   cases l with
   |nil=>cases q
   |cons c t=>simp at q;subst q;exact qi5 hc
  obtain⟨n1,h1⟩:=qi4 (l:=l) hc hl (by rw[hl2,q6p];omega);have hv:vD l=z.natAbs:=by rw[hl2,q6p]
  rw[hv]at h1;obtain⟨n2,h2⟩:=q5z (s:=false) (by omega:4*l.length<=100000000000) hb;refine Ev.of (n1+n2+3) λn hn=>?_;obtain⟨n,rfl⟩:∃m,n=m+3:=⟨n-3,by omega⟩;rw[qcp,hcp,if_neg h45,Ad h45];simp (disch:=omega) only[h1,show((0:Int) !=0)=false from rfl,h2,rr];have:sg false z.natAbs=z:=by unfold sg;simp;omega
  rw[this]
theorem qn3{l:List UInt8}(h:pz l=none)(hl:l.length<=1000000000:=by omega):Ev En 177 [sF l] [.list 1 [],.bool false,.int .i64 10]:=by
 have hcp:=λn=>@qn2 n l;by_cases h45:l.head?=some 45
 ·obtain⟨t,rfl⟩:∃t,l=45::t:=by
   cases l with
   |nil=>cases h45
   |cons c t=>simp at h45;subst h45;exact⟨t,rfl⟩
  simp only[Aq]at hl;by_cases hc:canon t
  ·have hv:vD t=0:=by
    apply BX;intro q;rw[pz_neg hc q]at h;cases h
   obtain⟨n1,h1⟩:=qi4 (l:=t) hc (by omega) (by rw[hv,q18];simp);rw[hv]at h1;obtain⟨n3,h3⟩:=qew (x:=0) (by rw[q18];simp);refine Ev.of (n1+n3+3) λn hn=>?_;obtain⟨n,rfl⟩:∃m,n=m+3:=⟨n-3,by omega⟩;rw[qcp,hcp];simp (disch:=omega) only[DR,AX,EE,h1,DI,show((0:Int) !=0)=false from rfl,h3,qex.2 rfl,rr];rfl
  ·obtain⟨n1,h1⟩:=qn4 (l:=t) hc (by omega);refine Ev.of (n1+3) λn hn=>?_;obtain⟨n,rfl⟩:∃m,n=m+3:=⟨n-3,by omega⟩;rw[qcp,hcp];simp (disch:=omega) only[DR,AX,EE,h1,DI,show((10:Int) !=0)=true from rfl,rr]
 ·have hc:¬ canon l:=λhc=>by rw[pz_pos hc]at h;cases h
  obtain⟨n1,h1⟩:=qn4 (l:=l) hc hl;refine Ev.of (n1+3) λn hn=>?_;obtain⟨n,rfl⟩:∃m,n=m+3:=⟨n-3,by omega⟩;rw[qcp,hcp,if_neg h45,Ad h45];simp (disch:=omega) only[h1,show((10:Int) !=0)=true from rfl,rr]
theorem q20(n:Nat):zb (n:Int)=.bool false:=by unfold zb;rw[Ad]
end
section
theorem b9_2:2<=1000000000:=by decide
abbrev wL(x:Nat):FV:=L64 (dg 1000000000 x)
theorem el1(z v:FV):qe 1 z [(0,v)]=[v]:=rfl
theorem el0(z:FV):qe 0 z []=[]:=rfl
theorem q8f(l:List Nat)(d:Nat):l.map d64++[FV.int .i64 (d:Int)]=(l++[d]).map d64:=by simp
theorem tmod9(x:Nat):Int.tmod (x:Int) 1000000000=((x%1000000000:Nat):Int):=rfl
theorem tdiv9(x:Nat):Int.tdiv (x:Int) 1000000000=((x / 1000000000:Nat):Int):=rfl
theorem rep64(k:Nat):List.replicate k (FV.int .i64 0)=(List.replicate k 0).map d64:=by rw[EP];rfl
theorem mk8{k:Nat}(h:k<=1099511627776:=by omega):q1u 8 (k:Int)=some k:=by
 unfold q1u;rw[if_pos ⟨by omega,by omega,by omega⟩];simp
theorem set64{pre:List Nat}{d y:Nat}{r:List Nat}{i:Nat}(h:pre.length=i:=by omega):List.set ((pre++d::r).map d64) i (.int .i64 (y:Int))=(pre++y::r).map d64:=by
 rw[AW,AM,qbf (by simpa using h),AW,AM]
theorem mid64{pre:List Nat}{d:Nat}{r:List Nat}{i:Nat}(h:pre.length=i):at' ((pre++d::r).map d64) i 0=some (.int .i64 (d:Int)):=by
 subst h;rw[q28,CS (Ak _),Cp];rfl
theorem q7k{x:Nat}(h:x≠0):0<(dg 1000000000 x).length:=by
 rcases Bt (dg 1000000000 x).length with q | q
 ·exact absurd ((q52 b9_2).1 (BJ q)) h
 ·exact q
theorem qfh{x y:Nat}(h:x<=y):(dg 1000000000 x).length<=(dg 1000000000 y).length:=by
 apply Dj;intro hlt;have:=qac b9_2 hlt;omega
theorem qoz{n:Nat}{l0:List FV}:∀(k:Nat) (l:List Nat) (m:Nat),l.length=k->k<m->k<=1099511627776+1->q96.l1 n [] m [.list 1 l0,L64 l]=some [L64 (tz l)]:=by
 intro k
 induction k with
 |zero =>
  intro l m hl hm hk;obtain⟨m,rfl⟩:=qSx m;have:l=[]:=BJ hl;subst this;rw[q96.q32];rfl
 |succ k ih =>
  intro l m hl hm hk;obtain⟨m,rfl⟩:=qSx m;obtain⟨r,d,rfl⟩:∃r d,l=r++[d]:=by
   rcases Dk l with h | ⟨r,d,h⟩
   ·subst h;simp at hl
   ·exact⟨r,d,by simpa using h⟩
  have hr:r.length=k:=by simpa using hl
  rw[q96.q32,Aa,Af,Ac,hl];have e1:w6 (((k+1:Nat):Int)-1)=(k:Int):=by rw[ql];omega
  have hat:at' ((r++[d]).map d64) k 0=some (.int .i64 (d:Int)):=by
   rw[q6d (by rw[hl];omega)];simp[<- hr]
  rw[e1,q9,Ae,hat,qi,Ae];by_cases h0:d=0
  ·subst h0;rw[show(((0:Nat):Int)==0)=true from rfl,Ac,q1x,Ae,qd2];have:List.drop 0 (List.take k ((r++[0]).map d64))=r.map d64:=by
    rw[Av,AW,DZ (by simp[hr]),CT (by simp[hr])]
   rw[this];exact ih r m hr (by omega) (by omega)
  ·rw[show((d:Int)==0)=false from Bq.2 (by omega),Ab,qd3 h0]
theorem q8g{n:Nat}{l:List Nat}(h:l.length<=1099511627776+1:=by omega)(hn:l.length<n:=by omega):evF En (n+1) 134 [L64 l]=some [L64 (tz l)]:=by
 rw[qp0];exact qoz l.length l n rfl hn h
theorem qfi{n i:Nat}{l:List Nat}:evF En (n+1) 211 [L64 l,.int .i64 (i:Int)]=some [.int .i64 ((l.getD i 0:Nat):Int)]:=by
 rw[qp1,Aa];by_cases h:i<l.length
 ·rw[Af,Ac,q9 h,Ae,q6d h,qi,Ae,AD,Ag h];rfl
 ·rw[Ad,Ab,AD,DD (by omega)];rfl
theorem qj7{n:Nat}{l0:List FV}:∀(x m:Nat) (pre:List Nat),x<m->x<18446744073709551616->pre.length+x<=1099511627776*18446744073709551616->pre.length+(dg 1000000000 x).length<=1099511627776 ->
  qad.l2 n [] m [.list 1 l0,.int .u64 (x:Int),L64 pre]=some [L64 (pre++dg 1000000000 x)]:=by
 intro x
 induction x using Nat.strongRecOn with
 |_ x ih =>
  intro m pre hm hx hp0 hp;obtain⟨m,rfl⟩:=qSx m;rw[qad.qt];by_cases h0:x=0
  ·subst h0;rw[Ad,Ab,q18,AN]
  ·have hlt:x / 1000000000<x:=Cy (by omega) (by omega);rw[q3k b9_2 h0,Aq]at hp;rw[Af,Ac,tmod9,q43,el1,Aa,q4d (by simp;omega),Ac,q8f,tdiv9,q1d,ih (x / 1000000000) hlt m (pre++[x%1000000000]) (by omega) (by omega) (by simp;omega) (by simp;omega)];rw[q3k b9_2 h0,Ap];rfl
theorem wof_ev{x:Nat}(hx:x<18446744073709551616):Ev En 102 [.int .u64 (x:Int)] [wL x]:=by
 refine Ev.of (x+1) λn hn=>?_;rw[qj8,el0];have hl:(dg 1000000000 x).length<=3:=q5h b9_2 (by omega);have:=qj7 (n:=n) (l0:=[]) x n [] (by omega) hx (by simp;omega) (by simp;omega);exact this
theorem qp2{n:Nat}{a:List Nat}{k:Nat}(ha:Dg 1000000000 a)(hk:k<1000000000)(hl:a.length<=1099511627775)(hn:a.length+3<=n){l1:List FV}:∀(d i m:Nat) (pre:List Nat) (c:Nat),i+d=a.length->d<m->pre.length=i->c<1000000000 ->
  q97.l3 n [] m [L64 a,.list 1 l1,.int .i64 (k:Int),.int .i64 (c:Int),L64 pre,.int .i64 (i:Int)]=some [L64 (tz (pre++mulL 1000000000 (a.drop i) k c))]:=by
 intro d
 induction d with
 |zero =>
  intro i m pre c hi hm hp hc;obtain⟨m,rfl⟩:=qSx m;obtain⟨n,rfl⟩:=qSx n;rw[q97.qm,Aa,Ad,Ab,el1,Aa,q4d (by simp;omega),Ac,q8f,q8g (by simp;omega) (by simp;omega)];simp only[Ae,Aj,qy];rw[AO (by omega)];rfl
 |succ d ih =>
  intro i m pre c hi hm hp hc;obtain⟨m,rfl⟩:=qSx m;have hia:i<a.length:=by omega
  have hx:=ha a[i] (Ah hia);have hcl:=qbg hx hk hc;have hxk:a[i]*k<=999999999*999999999:=Cz (by omega) (by omega)
  rw[q97.qm,Aa,Af,Ac,q9 hia,Ae,q6d hia,qi,Ae,qbh,q2q,el1,Aa,q4d (by simp;omega),Ac,tmod9,q8f,tdiv9,q43,qc,
   ih (i+1) m (pre++[(c+a[i]*k)%1000000000]) ((c+a[i]*k) / 1000000000) (by omega) (by omega) (by simp[hp]) (BO hcl),q1y hia,Ap]
  rfl
theorem small_run{n x k c:Nat}(hk:k<1000000000)(hc:c<1000000000)(hx:(dg 1000000000 x).length<=1099511627775)(hn:(dg 1000000000 x).length+3<=n):evF En (n+1) 223 [wL x,.int .i64 (k:Int),.int .i64 (c:Int)]=some [wL (x*k+c)]:=by
 rw[qp3,el0];have:=qp2 (n:=n) (q12 b9_2 x) hk hx hn (l1:=[]) (dg 1000000000 x).length 0 n [] c (by omega) (by omega) rfl hc;refine this.trans ?_;rw[Au,Av,<- q3b b9_2 (qfj _ k c (q12 b9_2 x) hk hc),qfk,q23 b9_2]
theorem qj9{n x k:Nat}(hk:k<1000000000:=by omega)(hx:(dg 1000000000 x).length<=1099511627775:=by omega)(hn:(dg 1000000000 x).length+3<=n:=by omega):evF En (n+1) 223 [wL x,.int .i64 (k:Int),.int .i64 0]=some [wL (x*k)]:=by
 have:=small_run (n:=n) (x:=x) (k:=k) (c:=0) hk (by omega) hx hn;rwa[Ax]at this
def pd(N:Nat)(a:List Nat):List Nat:=a++List.replicate (N-a.length) 0
theorem q8h{N:Nat}{a:List Nat}(h:a.length<=N:=by omega):(pd N a).length=N:=by simp[pd];omega
theorem qja(B k:Nat):vl B (List.replicate k 0)=0:=by
 induction k with
 |zero=>rfl
 |succ k ih=>rw[Cg];simp[vl,ih]
theorem q8i(B N:Nat)(a:List Nat):vl B (pd N a)=vl B a:=by rw[pd,q6e,qja];simp
theorem qae{B N:Nat}{a:List Nat}(hB:2<=B)(h:Dg B a):Dg B (pd N a):=h.app λd hd=>by have:=CI hd;omega
theorem qd4{N i:Nat}{a:List Nat}(h:i<(pd N a).length):(pd N a)[i]=a.getD i 0:=by
 simp only[pd,List.getElem_append,AD];split
 ·rename_i h';rw[Ag h'];rfl
 ·rename_i h';rw[DD (by omega)];simp
theorem max_nat(a b:Nat):(if(a:Int)<(b:Int)then(b:Int)else(a:Int))=((max a b:Nat):Int):=by
 split <;> omega
theorem wcmp_loop{n:Nat}{a b:List Nat}{N:Nat}(hN:N<=1099511627776)(ha:Dg 1000000000 a)(hb:Dg 1000000000 b)(h1:a.length<=N)(h2:b.length<=N)(hn:1<=n):∀(i m:Nat),i<=N->i<m->(pd N a).drop i=(pd N b).drop i ->
  q98.l2 n [] m [L64 a,L64 b,.int .i64 ((i:Int)-1)]=some [.int .i64 (cmpN (vl 1000000000 a) (vl 1000000000 b))]:=by
 have la:=q8h h1;have lb:=q8h h2;have da:=qae (N:=N) b9_2 ha;have db:=qae (N:=N) b9_2 hb;intro i
 induction i with
 |zero =>
  intro m hi hm he;obtain⟨m,rfl⟩:=qSx m;rw[Av,Av]at he;have:vl 1000000000 a=vl 1000000000 b:=by rw[<- q8i _ N a,he,q8i]
  rw[q98.qt,Ad,Ab,this];simp[cmpN]
 |succ i ih =>
  intro m hi hm he;obtain⟨m,rfl⟩:=qSx m;obtain⟨n,rfl⟩:=qSx n;have e0:(((i+1:Nat):Int)-1)=(i:Int):=by omega
  have hia:i<(pd N a).length:=by omega
  have hib:i<(pd N b).length:=by omega
  rw[q98.qt,e0,Af,Ac];simp only[qfi,Ae,Aj,qi];have ea:=qd4 hia;have eb:=qd4 hib;have sa:pd N a=(pd N a).take i++(pd N a)[i]::(pd N a).drop (i+1):=by rw[<- q1y hia,Ca]
  have sb:pd N b=(pd N b).take i++(pd N b)[i]::(pd N b).drop (i+1):=by rw[<- q1y hib,Ca]
  have ta:Dg 1000000000 ((pd N a).take i):=λd hd=>da d (CJ hd);have tb:Dg 1000000000 ((pd N b).take i):=λd hd=>db d (CJ hd);have tl:((pd N a).take i).length=((pd N b).take i).length:=by rw[BF,BF,la,lb]
  rw[<- ea,<- eb];by_cases hlt:(pd N a)[i]<(pd N b)[i]
  ·rw[Af,Ac];have:=qd5 (b:=1000000000) (by omega) ta tb tl hlt ((pd N b).drop (i+1));rw[<- sb,<- he,<- sa,q8i,q8i]at this;unfold cmpN;rw[if_pos this]
  ·rw[Ad,Ab];by_cases hgt:(pd N b)[i]<(pd N a)[i]
   ·rw[Af,Ac];have:=qd5 (b:=1000000000) (by omega) tb ta tl.symm hgt ((pd N a).drop (i+1));rw[<- sa,he,<- sb,q8i,q8i]at this;unfold cmpN;rw[if_neg (by omega),if_pos this]
   ·rw[Ad,Ab,show w6 ((i:Int)-1)=(i:Int)-1 from ql];have heq:(pd N a)[i]=(pd N b)[i]:=by omega
    exact ih m (by omega) (by omega) (by rw[q1y hia,q1y hib,heq,he])
theorem qfl{n x y:Nat}(hx:(dg 1000000000 x).length<=1099511627776:=by omega)(hy:(dg 1000000000 y).length<=1099511627776:=by omega)(hn:(dg 1000000000 x).length+(dg 1000000000 y).length+1<=n:=by omega):evF En (n+1) 164 [wL x,wL y]=some [.int .i64 (cmpN x y)]:=by
 rw[qp4,Aa,Aa,max_nat,show ∀k:Nat,k<=1099511627776->w6 ((k:Int)-1)=(k:Int)-1 from λk hk=>ql]
 ·have:=wcmp_loop (n:=n) (N:=max (dg 1000000000 x).length (dg 1000000000 y).length) (by omega) (q12 b9_2 x) (q12 b9_2 y) (by omega) (by omega) (by omega) (max (dg 1000000000 x).length (dg 1000000000 y).length) n (Ak _) (by omega)
   (by rw[AO (by rw[q8h];exact Ak _),AO (by rw[q8h];exact Ak _)])
  rw[q23 b9_2,q23 b9_2]at this;exact this
 ·omega
theorem wadd_loop{n:Nat}{a b:List Nat}{N:Nat}(hN:N<=1099511627775)(hNe:N=max a.length b.length)(ha:Dg 1000000000 a)(hb:Dg 1000000000 b)(hn:N+3<=n){l2:List FV}:∀(d i m:Nat) (pre:List Nat) (c:Nat),i+d=N->d<m->pre.length=i->c<=1 ->
  q7l.l4 n [] m [L64 a,L64 b,.list 1 l2,L64 pre,.int .i64 (c:Int),.int .i64 (i:Int)]=some [L64 (tz (pre++addL 1000000000 ((pd N a).drop i) ((pd N b).drop i) c))]:=by
 have la:=q8h (N:=N) (a:=a) (by omega);have lb:=q8h (N:=N) (a:=b) (by omega);have da:=qae (N:=N) b9_2 ha;have db:=qae (N:=N) b9_2 hb;obtain⟨n,rfl⟩:=qSx n;intro d
 induction d with
 |zero =>
  intro i m pre c hi hm hp hc;obtain⟨m,rfl⟩:=qSx m;rw[q7l.q14];simp only[Aa];rw[Ad,Ab,Ad,Ab,el1,q4d (by simp;omega),Ac,q8f,q8g (by simp;omega) (by simp;omega)];simp only[Ae,Aj,qy];rw[AO (by omega)];rfl
 |succ d ih =>
  intro i m pre c hi hm hp hc;obtain⟨m,rfl⟩:=qSx m;have hia:i<(pd N a).length:=by omega
  have hib:i<(pd N b).length:=by omega
  have ea:=qd4 hia;have eb:=qd4 hib;have hx:=da _ (Ah hia);have hy:=db _ (Ah hib);have rest:q7l.l4 (n+1) [] m [L64 a,L64 b,.list 1 l2,L64 (pre++[(c+(pd N a)[i]+(pd N b)[i])%1000000000]),.int .i64 (((c+(pd N a)[i]+(pd N b)[i]) / 1000000000:Nat):Int),.int .i64 ((i+1:Nat):Int)]=some [L64 (tz (pre++addL 1000000000 ((pd N a).drop i) ((pd N b).drop i) c))]:=by
   rw[ih (i+1) m (pre++[(c+(pd N a)[i]+(pd N b)[i])%1000000000]) ((c+(pd N a)[i]+(pd N b)[i]) / 1000000000) (by omega) (by omega) (by simp[hp]) (by
    have:=BO (m:=c+(pd N a)[i]+(pd N b)[i]) (n:=1000000000) (k:=2) (by omega)
    omega),q1y hia,q1y hib,Ap]
   rfl
  rw[q7l.q14];simp only[qfi,Ae,Aj,qi];rw[<- ea,<- eb,q2q (show c+(pd N a)[i]<9223372036854775808 by omega),q2q (show c+(pd N a)[i]+(pd N b)[i]<9223372036854775808 by omega),tmod9,tdiv9,q43,el1,Aa,Aa,Aa,q4d (by simp;omega),q8f,qc];simp only[Ac];by_cases h1:i<a.length
  ·rw[Af,Ac];exact rest
  ·rw[Ad,Ab,Af,Ac];exact rest
theorem wadd_ev{x y:Nat}(hx:(dg 1000000000 x).length<=1099511627775)(hy:(dg 1000000000 y).length<=1099511627775):Ev En 163 [wL x,wL y] [wL (x+y)]:=by
 refine Ev.of ((dg 1000000000 x).length+(dg 1000000000 y).length+3) λn hn=>?_;rw[qp5,el0];have:=wadd_loop (n:=n) (N:=max (dg 1000000000 x).length (dg 1000000000 y).length) (by omega) rfl (q12 b9_2 x) (q12 b9_2 y) (by omega) (l2:=[]) (max (dg 1000000000 x).length (dg 1000000000 y).length) 0 n [] 0 (by omega) (by omega) rfl (by omega);refine this.trans ?_;rw[Au,Av,Av,<- q3b b9_2 (qfm b9_2 _ _ 0 (qae b9_2 (q12 b9_2 x)) (qae b9_2 (q12 b9_2 y)) (by omega)),qfn _ _ _ (by rw[q8h,q8h];exact Ak _),q8i,q8i,q23 b9_2,q23 b9_2,Ax]
theorem qjb(b:List Nat)(i:Nat):(b.drop i).headD 0=b.getD i 0:=by
 rw[List.headD_eq_head?_getD,List.head?_drop,AD]
theorem wsub_loop{n:Nat}{a b:List Nat}(ha:Dg 1000000000 a)(hb:Dg 1000000000 b)(hl:a.length<=1099511627775)(hn:a.length+3<=n){l2:List FV}:∀(d i m:Nat) (pre:List Nat) (c:Nat),i+d=a.length->d<m->pre.length=i->c<=1 ->
  q8j.l6 n [] m [L64 a,L64 b,.list 1 l2,L64 pre,.int .i64 (c:Int),.int .i64 (i:Int)]=some [L64 (tz (pre++(subL 1000000000 (a.drop i) (b.drop i) c).1)),.int .i64 0]:=by
 obtain⟨n,rfl⟩:=qSx n;intro d
 induction d with
 |zero =>
  intro i m pre c hi hm hp hc;obtain⟨m,rfl⟩:=qSx m;rw[q8j.q2r,Aa,Ad,Ab,q8g];simp only[Ae,Aj,qy];rw[AO (by omega),subL,AN]
 |succ d ih =>
  intro i m pre c hi hm hp hc;obtain⟨m,rfl⟩:=qSx m;have hia:i<a.length:=by omega
  have hx:=ha a[i] (Ah hia);have hy:b.getD i 0<1000000000:=by
   rw[<- qjb];exact Dg.headD (by omega) λd hd=>hb d (CA hd)
  rw[q8j.q2r];simp only[Aa,q9 hia,q6d hia,qfi,Ae,Aj,qi];rw[Af,Ac,ql (x:=((a[i]:Nat):Int)-_) (by omega) (by omega),ql (x:=((a[i]:Nat):Int)-_-_) (by omega) (by omega),qc];rw[q1y hia,subL,qjb,List.tail_drop];by_cases hlt:a[i]<b.getD i 0+c
  ·have e:(a[i]:Int)-(b.getD i 0:Nat)-c+1000000000=((1000000000+a[i]-b.getD i 0-c:Nat):Int):=by omega
   rw[Af,Ac,e,q43,el1,q4d (by simp;omega),Ac,q8f,if_pos hlt];have:=ih (i+1) m (pre++[1000000000+a[i]-b.getD i 0-c]) 1 (by omega) (by omega) (by simp[hp]) (by omega);refine this.trans ?_;rw[AJ (show 1000000000+a[i]-b.getD i 0-c<1000000000 by omega),Ap];rfl
  ·have e:(a[i]:Int)-(b.getD i 0:Nat)-c=((a[i]-b.getD i 0-c:Nat):Int):=by omega
   rw[Ad,Ab,e,el1,q4d (by simp;omega),Ac,q8f,if_neg hlt];have:=ih (i+1) m (pre++[a[i]-b.getD i 0-c]) 0 (by omega) (by omega) (by simp[hp]) (by omega);refine this.trans ?_;rw[show(1000000000+a[i]-b.getD i 0-c)%1000000000=a[i]-b.getD i 0-c by omega,Ap];rfl
theorem qfo{n x y:Nat}(hyx:y<=x:=by omega)(hx:(dg 1000000000 x).length<=1099511627775:=by omega)(hn:(dg 1000000000 x).length*2+4<=n:=by omega):evF En (n+1) 165 [wL x,wL y]=some [wL (x-y),.int .i64 0]:=by
 have hlen:=qfh hyx;obtain⟨n,rfl⟩:=qSx n;rw[qp6,qfl];simp only[Ae,Aj,qi];rw[Ad (by unfold cmpN;rw[if_neg (by omega)];split <;> omega),Ab,el0];have:=wsub_loop (n:=n+1) (q12 b9_2 x) (q12 b9_2 y) hx (by omega) (l2:=[]) (dg 1000000000 x).length 0 (n+1) [] 0 (by omega) (by omega) rfl (by omega);refine this.trans ?_;rw[Au,Av,Av];obtain⟨g1,g2,g3,g4⟩:=qfp b9_2 (dg 1000000000 x) (dg 1000000000 y) 0 (q12 b9_2 x) (q12 b9_2 y) (by omega) hlen;rw[q23 b9_2,q23 b9_2]at g1;have hv:=q4l (by omega) g2;rw[g3]at hv;have:(subL 1000000000 (dg 1000000000 x) (dg 1000000000 y) 0).2=0:=by
  rcases Dl 0 (subL 1000000000 (dg 1000000000 x) (dg 1000000000 y) 0).2 with q | q
  ·have e:(subL 1000000000 (dg 1000000000 x) (dg 1000000000 y) 0).2=1:=by omega
   rw[e]at g1;omega
  ·omega
 rw[this]at g1;rw[<- q3b b9_2 g2];have e:vl 1000000000 (subL 1000000000 (dg 1000000000 x) (dg 1000000000 y) 0).1=x-y:=by omega
 rw[e]
theorem wmul_row{n m0:Nat}{a b:List Nat}(hb:Dg 1000000000 b)(hl:a.length+b.length<=1099511627776){l1:List FV}{x i:Nat}(hx:x<1000000000)(hia:i<a.length)(hai:a[i]=x):∀(e:List Nat) (k m:Nat) (pre acc:List Nat) (c:Nat),b.drop k=e->k+e.length=b.length->e.length<m->pre.length=i+k->e.length<acc.length->Dg 1000000000 acc->c<1000000000 ->
  q3v.l9 n [m0] m [L64 a,L64 b,.list 1 l1,L64 (pre++acc),.int .i64 (i:Int),.int .i64 (c:Int),.int .i64 (k:Int)] =
   q3v.l5 n [] m0 [L64 a,L64 b,.list 1 l1,L64 (pre++maRow 1000000000 acc e x c),.int .i64 ((i+1:Nat):Int)]:=by
 intro e
 induction e with
 |nil =>
  intro k m pre acc c hk hke hm hp hacc hd hc;obtain⟨m,rfl⟩:=qSx m;simp only[Bg,Ax]at hke;obtain⟨h,t,rfl⟩:∃h t,acc=h::t:=by
   cases acc with
   |nil=>simp at hacc
   |cons h t=>exact⟨h,t,rfl⟩
  have hlt:i+b.length<(pre++h::t).length:=by simp;omega
  rw[q3v.q4m,Aa,Ad,Ab,q2q,Aa,q9 hlt,Ae,set64,qc];rfl
 |cons y e ih =>
  intro k m pre acc c hk hke hm hp hacc hd hc;obtain⟨m,rfl⟩:=qSx m;obtain⟨h,t,rfl⟩:∃h t,acc=h::t:=by
   cases acc with
   |nil=>simp at hacc
   |cons h t=>exact⟨h,t,rfl⟩
  simp only[Aq]at hke hm hacc;have hkb:k<b.length:=by omega
  have hy:b[k]=y/\b.drop (k+1)=e:=by
   rw[q1y hkb]at hk;cases hk;exact⟨rfl,rfl⟩
  have hyl:y<1000000000:=by rw[<- hy.1];exact hb _ (Ah hkb)
  obtain⟨hh,ht⟩:=hd.tail;have hlt:i+k<(pre++h::t).length:=by simp;omega
  have hxy:x*y<=999999999*999999999:=Cz (by omega) (by omega);rw[q3v.q4m,q2q];simp only[Aa,q9 hlt,mid64 (show pre.length=i+k by omega),q9 hia,q6d hia,q9 hkb,q6d hkb,Ae,qi,hy.1,hai];rw[Af,Ac,qbh,q2q,q2q,tmod9,tdiv9,q43,set64,qc,Bl c h];have:=ih (k+1) m (pre++[(c+(h+x*y))%1000000000]) t ((c+(h+x*y)) / 1000000000) hy.2 (by omega) (by omega) (by simp;omega) (by omega) ht (BO (by omega));rw[Ap]at this;refine this.trans ?_;simp only[maRow,Ap];rfl
theorem qp7{n:Nat}{a b:List Nat}(ha:Dg 1000000000 a)(hb:Dg 1000000000 b)(hl:a.length+b.length<=1099511627776)(hn:a.length+b.length+3<=n){l1:List FV}:∀(e:List Nat) (i m:Nat) (pre w:List Nat),a.drop i=e->i+e.length=a.length->e.length<m->pre.length=i->w.length=b.length->Dg 1000000000 w ->
  q3v.l5 n [] m [L64 a,L64 b,.list 1 l1,L64 (pre++(w++List.replicate e.length 0)),.int .i64 (i:Int)]=some [L64 (tz (pre++mulO 1000000000 e (w++List.replicate e.length 0) b))]:=by
 intro e
 induction e with
 |nil =>
  intro i m pre w hi hie hm hp hw hd;obtain⟨m,rfl⟩:=qSx m;obtain⟨n,rfl⟩:=qSx n;simp only[Bg,Ax]at hie;rw[q3v.q1r,Aa,Ad,Ab,q8g (by simp;omega) (by simp;omega)];simp only[Ae,Aj,qy,mulO]
 |cons x e ih =>
  intro i m pre w hi hie hm hp hw hd;obtain⟨m,rfl⟩:=qSx m;simp only[Aq]at hie hm;have hia:i<a.length:=by omega
  have hx:a[i]=x/\a.drop (i+1)=e:=by
   rw[q1y hia]at hi;cases hi;exact⟨rfl,rfl⟩
  have hxl:x<1000000000:=by rw[<- hx.1];exact ha _ (Ah hia)
  rw[q3v.q1r,Aa,Af,Ac];have hrow:=wmul_row (n:=n) (m0:=m) (a:=a) hb hl (l1:=l1) hxl hia hx.1 b 0 n pre (w++List.replicate (e.length+1) 0) 0 rfl (by omega) (by omega) (by omega) (by simp;omega) (hd.app (λd h=>by have:=CI h;omega)) (by omega);simp only[Aq];rw[show((0:Nat):Int)=0 from rfl]at hrow;rw[hrow];obtain⟨w',h1,h2,h3,h4⟩:=qd6 b9_2 w b (List.replicate e.length 0) x 0 hw hd hb hxl (by omega);rw[Cg,h1];cases w' with
  |nil=>simp at h2
  |cons d t =>
   obtain⟨hd1,ht⟩:=h3.tail;have:=ih (i+1) m (pre++[d]) t hx.2 (by omega) (by omega) (by simp[hp]) (by simpa using h2) ht;rw[Ap]at this;refine this.trans ?_;simp only[mulO,h1,Al,Ap];rfl
theorem wmul_ev{x y:Nat}(h:(dg 1000000000 x).length+(dg 1000000000 y).length<=1099511627775):Ev En 103 [wL x,wL y] [wL (x*y)]:=by
 refine Ev.of ((dg 1000000000 x).length+(dg 1000000000 y).length+3) λn hn=>?_;rw[qp8,Aa,Aa];by_cases hx0:x=0
 ·subst hx0;rw[Dm];simp only[wL,q18];rfl
 ·by_cases hy0:y=0
  ·subst hy0;rw[Cm];have:=q7k hx0;rw[show(((dg 1000000000 x).length:Int)==0)=false from Bq.2 (by omega),Ab];simp only[wL,q18];rfl
  ·have p1:=q7k hx0;have p2:=q7k hy0;rw[show(((dg 1000000000 x).length:Int)==0)=false from Bq.2 (by omega),Ab,show(((dg 1000000000 y).length:Int)==0)=false from Bq.2 (by omega),Ab,q2q,mk8,Ae,q1x (Ak _),Ae,rep64];have:=qp7 (n:=n) (q12 b9_2 x) (q12 b9_2 y) (by omega) (by omega) (l1:=[]) (dg 1000000000 x) 0 n [] (List.replicate (dg 1000000000 y).length 0) rfl (by omega) (by omega) rfl (by simp) (λd h=>by have:=CI h;omega);rw[Au,Ea,Au,Bn (dg 1000000000 y).length,show((0:Nat):Int)=0 from rfl]at this;refine this.trans ?_;obtain⟨g1,g2,_⟩:=qfq b9_2 (dg 1000000000 x) (List.replicate (dg 1000000000 y).length 0) (dg 1000000000 y) (by simp) (λd h=>by have:=CI h;omega) (q12 b9_2 y) (q12 b9_2 x);rw[Ea,Bn (dg 1000000000 y).length]at g1 g2;rw[<- q3b b9_2 g2,g1,qja,q23 b9_2,q23 b9_2,AG]
theorem qp9{n:Nat}{a:List Nat}(ha:Dg 1000000000 a)(hl:a.length<=1099511627776)(hv:vl 1000000000 a<18446744073709551616):∀(i m:Nat),i<=a.length->i<m ->
  q99.l3 n [] m [L64 a,.int .u64 ((vl 1000000000 (a.drop i):Nat):Int),.int .i64 ((i:Int)-1)]=some [.int .u64 ((vl 1000000000 a:Nat):Int)]:=by
 intro i
 induction i with
 |zero =>
  intro m hi hm;obtain⟨m,rfl⟩:=qSx m;rw[q99.qm,Ad,Ab,Av]
 |succ i ih =>
  intro m hi hm;obtain⟨m,rfl⟩:=qSx m;have hia:i<a.length:=by omega
  have e0:(((i+1:Nat):Int)-1)=(i:Int):=by omega
  have hs:vl 1000000000 (a.drop i)<=vl 1000000000 a:=by
   have:=q6e 1000000000 (a.take i) (a.drop i);rw[Ca]at this;have h1:1<=1000000000^(a.take i).length:=Nat.one_le_pow _ _ (by omega);have h2:=AR (vl 1000000000 (a.drop i)) h1;omega
  have hd:vl 1000000000 (a.drop i)=a[i]+1000000000*vl 1000000000 (a.drop (i+1)):=by rw[q1y hia];rfl
  have hx:=ha _ (Ah hia);rw[q99.qm,e0,Af,Ac,Aa,q9 hia,Ae,q6d hia,qi,Ae,q1d,show(1000000000:Int)=((1000000000:Nat):Int) from rfl,qbi,q7m,show w6 ((i:Int)-1)=(i:Int)-1 from ql];have:=ih m (by omega) (by omega);rw[hd]at this;rw[AB,Bn];exact this
theorem qjc{n x:Nat}(hx:x<18446744073709551616)(hn:(dg 1000000000 x).length<n:=by omega):evF En (n+1) 185 [wL x]=some [.int .u64 (x:Int)]:=by
 have hl:(dg 1000000000 x).length<=3:=q5h b9_2 (by omega);rw[qpa,Aa,show w6 (((dg 1000000000 x).length:Int)-1)=((dg 1000000000 x).length:Int)-1 from ql];have:=qp9 (n:=n) (q12 b9_2 x) (by omega) (by rw[q23 b9_2];exact hx) (dg 1000000000 x).length n (Ak _) (by omega);rw[AO (Ak _),q23 b9_2]at this;exact this
theorem wgcd_loop{n:Nat}:∀(y x m:Nat),y<m->qaf.l1 n [] m [.int .u64 (x:Int),.int .u64 (y:Int)]=some [.int .u64 ((Nat.gcd x y:Nat):Int)]:=by
 intro y
 induction y using Nat.strongRecOn with
 |_ y ih =>
  intro x m hm;obtain⟨m,rfl⟩:=qSx m;rw[qaf.q32];rcases Bt y with h0 | h0
  ·subst h0;rw[Ad,Ab,Eb]
  ·have hlt:=AK x h0;rw[Af,Ac,Ad,Ab,show Int.tmod (x:Int) (y:Int)=((x%y:Nat):Int) from rfl,ih (x%y) hlt y m (by omega),CB y,<- Ec,CB]
theorem wone_loop{n:Nat}{a:List Nat}{k:Nat}(ha:Dg 1000000000 a)(hk0:0<k)(hk:k<1000000000)(hl:a.length<=1099511627776)(hn:a.length+k+6<=n){l1 l2:List FV}:∀(i m:Nat),i<=a.length->i<m ->
  q9a.l4 n [] m [L64 a,.list 1 l1,.list 1 l2,.int .i64 (k:Int),L64 (List.replicate i 0++(divL 1000000000 k (a.drop i)).2),.int .i64 (((divL 1000000000 k (a.drop i)).1:Nat):Int),.int .i64 ((i:Int)-1)] =
   some [L64 (tz (divL 1000000000 k a).2),wL (divL 1000000000 k a).1]:=by
 intro i
 induction i with
 |zero =>
  intro m hi hm;obtain⟨m,rfl⟩:=qSx m;obtain⟨n,rfl⟩:=qSx n;obtain⟨g1,g2,g3,g4⟩:=q6f hk0 a ha;have hof:evF En (n+1) 102 [.int .u64 (((divL 1000000000 k a).1:Nat):Int)]=some [wL (divL 1000000000 k a).1]:=by
   rw[qj8,el0];have hl:(dg 1000000000 (divL 1000000000 k a).1).length<=3:=q5h b9_2 (by omega);have:=qj7 (n:=n) (l0:=[]) (divL 1000000000 k a).1 n [] (by omega) (by omega) (by simp;omega) (by simp;omega);exact this
  rw[q9a.q14,Ad,Ab,Av,Cq,Au,q8g,q1d,hof];simp only[Ae,Aj,qy]
 |succ i ih =>
  intro m hi hm;obtain⟨m,rfl⟩:=qSx m;have hia:i<a.length:=by omega
  have hx:=ha a[i] (Ah hia);have hda:Dg 1000000000 (a.drop (i+1)):=λd hd=>ha d (CA hd);obtain⟨g1,g2,g3,g4⟩:=q6f hk0 (a.drop (i+1)) hda;have ih:=ih m (by omega) (by omega);rw[q1y hia]at ih;simp only[divL]at ih;generalize (divL 1000000000 k (a.drop (i+1))).1=r at g1 g2 ih ⊢;generalize (divL 1000000000 k (a.drop (i+1))).2=q at g1 g3 g4 ih ⊢;have hq:q.length=a.length-(i+1):=by rw[g4,DE]
  have hlen:(List.replicate (i+1) 0++q).length=a.length:=by simp[hq];omega
  have e0:(((i+1:Nat):Int)-1)=(i:Int):=by omega
  have e2:Int.tdiv ((r*1000000000+a[i]:Nat):Int) (k:Int)=(((r*1000000000+a[i]) / k:Nat):Int):=rfl;have e3:Int.tmod ((r*1000000000+a[i]:Nat):Int) (k:Int)=(((r*1000000000+a[i])%k:Nat):Int):=rfl;have hdig:(r*1000000000+a[i]) / k<1000000000:=by
   rw[BP hk0];have:(r+1)*1000000000<=k*1000000000:=AR _ g2;omega
  rw[q9a.q14,e0,Af,Ac,show decide ((k:Int)=0)=false from Ad];simp only[Aa,hlen,q9 hia,Ae,q6d hia,qi,Ab];rw[show(1000000000:Int)=((1000000000:Nat):Int) from rfl,qbh,q2q,e2,e3,q43];have hset:List.set ((List.replicate (i+1) 0++q).map d64) i (.int .i64 (((r*1000000000+a[i]) / k:Nat):Int))=(List.replicate i 0++((r*1000000000+a[i]) / k)::q).map d64:=by
   have hr:List.replicate (i+1) 0++q=List.replicate i 0++(0::q):=by rw[DF,Ap];rfl
   rw[hr,set64 (by simp)]
  rw[hset,show w6 ((i:Int)-1)=(i:Int)-1 from ql];exact ih
theorem div_key{x k q r:Nat}(hk:0<k)(e:x=k*q+r)(hr:r<k):x / k=q/\x%k=r:=by
 subst e;exact⟨by rw[EQ hk,CU hr,Ax],by rw[Ed,AJ hr]⟩
theorem wone_run{n x k:Nat}(hk0:0<k)(hk:k<1000000000)(hx:(dg 1000000000 x).length<=1099511627776)(hn:(dg 1000000000 x).length+k+6<=n):evF En (n+1) 220 [wL x,.int .i64 (k:Int)]=some [wL (x / k),wL (x%k)]:=by
 rw[qpb,Aa,mk8,Ae,q1x (Ak _),Ae,rep64,show w6 (((dg 1000000000 x).length:Int)-1)=((dg 1000000000 x).length:Int)-1 from ql];have:=wone_loop (n:=n) (q12 b9_2 x) hk0 hk hx hn (l1:=[]) (l2:=[]) (dg 1000000000 x).length n (Ak _) (by omega);rw[AO (Ak _)]at this;simp only[divL,AN]at this;rw[show(((0:Nat):Int))=0 from rfl]at this;rw[this];obtain⟨g1,g2,g3,g4⟩:=q6f hk0 (dg 1000000000 x) (q12 b9_2 x);rw[q23 b9_2]at g1;rw[<- q3b b9_2 g3];obtain⟨h1,h2⟩:=div_key hk0 g1 g2;rw[h1,h2]
theorem qpc{n x d:Nat}(hd:d<1000000000)(hx:(dg 1000000000 x).length<=1099511627775)(hn:(dg 1000000000 x).length+3<=n):evF En (n+1) 221 [wL x,.int .i64 (d:Int)]=some [wL (x*1000000000+d)]:=by
 obtain⟨n,rfl⟩:=qSx n;rw[qpd,el1,Aa,q4d (by simp;omega),Ac,show [FV.int .i64 (d:Int)]++(dg 1000000000 x).map d64=(d::dg 1000000000 x).map d64 from rfl,q8g (by simp;omega) (by simp;omega)];simp only[Ae,Aj,qy];have hD:Dg 1000000000 (d::dg 1000000000 x):=Dg.cons hd (q12 b9_2 x);rw[<- q3b b9_2 hD];have:vl 1000000000 (d::dg 1000000000 x)=x*1000000000+d:=by simp only[vl];rw[q23 b9_2];omega
 rw[this]
theorem qpe{n x y:Nat}(hy0:0<y)(hx:(dg 1000000000 x).length<=549755813000)(hy:(dg 1000000000 y).length<=549755813000)(hn:(dg 1000000000 x).length+(dg 1000000000 y).length+6<=n):∀(k lo hi m:Nat),hi-lo=k->k<m->lo<=x / y->x / y<=hi->hi<=999999999 ->
  q9b.l3 n [] m [wL x,wL y,.int .i64 (lo:Int),.int .i64 (hi:Int)]=some [.int .i64 ((x / y:Nat):Int)]:=by
 obtain⟨n,rfl⟩:=qSx n;intro k
 induction k using Nat.strongRecOn with
 |_ k ih =>
  intro lo hi m hk hm h1 h2 h3;obtain⟨m,rfl⟩:=qSx m;rw[q9b.qm];by_cases hlt:lo<hi
  ·have hmid:Int.tdiv ((lo+hi+1:Nat):Int) 2=(((lo+hi+1) / 2:Nat):Int):=rfl;have hml:(dg 1000000000 (y*((lo+hi+1) / 2))).length<=(dg 1000000000 y).length+1:=by
    apply q5h b9_2;rw[Ay];exact Nat.mul_lt_mul'' (q9c b9_2 y) (by omega)
   rw[Af,Ac,q2q,qc,hmid,q43,qj9];simp only[Ae,Aj,qy];rw[qfl];simp only[Ae,Aj,qi];by_cases hle:y*((lo+hi+1) / 2)<=x
   ·have:(lo+hi+1) / 2<=x / y:=by rw[FD hy0,AB];exact hle
    rw[Af (by unfold cmpN;split <;> (try split) <;> omega),Ac];exact ih (hi-(lo+hi+1) / 2) (by omega) ((lo+hi+1) / 2) hi m rfl (by omega) this h2 h3
   ·have:x / y<(lo+hi+1) / 2:=by rw[BP hy0,AB];omega
    rw[Ad (by unfold cmpN;rw[if_neg (by omega),if_pos (by omega)];omega),Ab,show w6 ((((lo+hi+1) / 2:Nat):Int)-1)=(((lo+hi+1) / 2-1:Nat):Int) by rw[ql];omega];exact ih ((lo+hi+1) / 2-1-lo) (by omega) lo ((lo+hi+1) / 2-1) m rfl (by omega) h1 (by omega) (by omega)
  ·rw[Ad,Ab];have:lo=x / y:=by omega
   rw[this]
theorem times_run{n x y:Nat}(hy0:0<y)(hxy:x / y<1000000000)(hx:(dg 1000000000 x).length<=549755813000)(hy:(dg 1000000000 y).length<=549755813000)(hn:(dg 1000000000 x).length+(dg 1000000000 y).length+1000000006<=n) :
  evF En (n+1) 222 [wL x,wL y]=some [.int .i64 ((x / y:Nat):Int)]:=by
 rw[qpf];exact qpe (n:=n) hy0 hx hy (by omega) 999999999 0 999999999 n rfl (by omega) (BT _) (by omega) (by omega)
theorem wdiv_loop{n:Nat}{a:List Nat}{y:Nat}(ha:Dg 1000000000 a)(hy0:0<y)(hl:a.length<=549755812000)(hyl:(dg 1000000000 y).length<=549755812000)(hn:a.length+(dg 1000000000 y).length*4+1000000026<=n){l2 l3:List FV}:∀(i m:Nat),i<=a.length->i<m ->
  q9d.l9 n [] m [L64 a,wL y,.list 1 l2,.list 1 l3,wL (divL 1000000000 y (a.drop i)).1,L64 (List.replicate i 0++(divL 1000000000 y (a.drop i)).2),.int .i64 ((i:Int)-1)] =
   some [L64 (tz (divL 1000000000 y a).2),wL (divL 1000000000 y a).1,.int .i64 0]:=by
 obtain⟨n,rfl⟩:=qSx n;intro i
 induction i with
 |zero =>
  intro m hi hm;obtain⟨m,rfl⟩:=qSx m;obtain⟨g1,g2,g3,g4⟩:=q6f hy0 a ha;rw[q9d.q4m,Ad,Ab,Av,Cq,Au,q8g];simp only[Ae,Aj,qy]
 |succ i ih =>
  intro m hi hm;obtain⟨m,rfl⟩:=qSx m;have hia:i<a.length:=by omega
  have hx:=ha a[i] (Ah hia);have hda:Dg 1000000000 (a.drop (i+1)):=λd hd=>ha d (CA hd);obtain⟨g1,g2,g3,g4⟩:=q6f hy0 (a.drop (i+1)) hda;have ih:=ih m (by omega) (by omega);rw[q1y hia]at ih;simp only[divL]at ih;generalize (divL 1000000000 y (a.drop (i+1))).1=r at g1 g2 ih ⊢;generalize (divL 1000000000 y (a.drop (i+1))).2=q at g1 g3 g4 ih ⊢;have hq:q.length=a.length-(i+1):=by rw[g4,DE]
  have hlen:(List.replicate (i+1) 0++q).length=a.length:=by simp[hq];omega
  have e0:(((i+1:Nat):Int)-1)=(i:Int):=by omega
  have hr1:=qfh (CV g2);have hr2:(dg 1000000000 (r*1000000000+a[i])).length<=(dg 1000000000 y).length+1:=by
   apply q5h b9_2;have h1:=q9c b9_2 y;have:(r+1)*1000000000<=1000000000^(dg 1000000000 y).length*1000000000:=AR _ (by omega);rw[Ay];omega
  have hdig:(r*1000000000+a[i]) / y<1000000000:=by
   rw[BP hy0];have:(r+1)*1000000000<=y*1000000000:=AR _ g2;omega
  have hset:List.set ((List.replicate (i+1) 0++q).map d64) i (.int .i64 (((r*1000000000+a[i]) / y:Nat):Int))=(List.replicate i 0++((r*1000000000+a[i]) / y)::q).map d64:=by
   have hr:List.replicate (i+1) 0++q=List.replicate i 0++(0::q):=by rw[DF,Ap];rfl
   rw[hr,set64 (by simp)]
  have hlen2:(List.replicate i 0++((r*1000000000+a[i]) / y)::q).length=a.length:=by simp[hq];omega
  have hml:y*((r*1000000000+a[i]) / y)<=r*1000000000+a[i]:=Nat.mul_div_le _ _
  rw[q9d.q4m,e0,Af,Ac,Aa,q9 hia,Ae,q6d hia,qi,Ae,qpc (by omega) (by omega) (by omega),Ae,Aj,qy,Ae,times_run hy0 hdig (by omega) (by omega) (by omega),Ae,Aj,qi,Ae,
   Aa,hlen,q9 hia,Ae,hset,Aa,hlen2,q9 hia,Ae,mid64 (by simp),qi,Ae,qj9,Ae,Aj,qy,Ae,
   qfo hml,Ae,Aj,qy,Ae,AP,Aj,qi,Ae,show w6 ((i:Int)-1)=(i:Int)-1 from ql]
  have hmod:r*1000000000+a[i]-y*((r*1000000000+a[i]) / y)=(r*1000000000+a[i])%y:=by
   have:=DG (r*1000000000+a[i]) y;omega
  rw[hmod];exact ih
theorem qjd{x y:Nat}(hy0:y≠0)(hx:(dg 1000000000 x).length<=549755812000)(hyl:(dg 1000000000 y).length<=549755812000):Ev En 186 [wL x,wL y] [wL (x / y),wL (x%y),.int .i64 0]:=by
 have p:=q7k hy0;refine Ev.of ((dg 1000000000 x).length+(dg 1000000000 y).length*4+y+1000000030) λn hn=>?_;obtain⟨n,rfl⟩:=qSx n;rw[qpg,Aa,Aa,show(((dg 1000000000 y).length:Int)==0)=false from Bq.2 (by omega),Ab];by_cases h1:(dg 1000000000 y).length=1
 ·have hy9:y<1000000000:=by have:=q9c b9_2 y;rw[h1]at this;simpa using this
  have e:dg 1000000000 y=[y]:=by
   rw[q3k b9_2 hy0,AJ hy9,CU hy9,q18]
  rw[h1,show(((1:Nat):Int)==1)=true from rfl,Ac,e];rw[show ix (0:Int) 1=some 0 from rfl,Ae,show at' ([y].map d64) 0 0=some (.int .i64 (y:Int)) from rfl,qi,Ae,wone_run (by omega) hy9 (by omega) (by omega)];simp only[Ae,Aj,AP,qy]
 ·rw[show(((dg 1000000000 y).length:Int)==1)=false from Bq.2 (by omega),Ab,mk8,Ae,q1x (Ak _),Ae,rep64,show w6 (((dg 1000000000 x).length:Int)-1)=((dg 1000000000 x).length:Int)-1 from ql];have:=wdiv_loop (n:=n+1) (q12 b9_2 x) (show 0<y by omega) hx hyl (by omega) (l2:=[]) (l3:=[]) (dg 1000000000 x).length (n+1) (Ak _) (by omega);rw[AO (Ak _)]at this;simp only[divL,AN,wL,q18]at this;refine BN this ?_;obtain⟨g1,g2,g3,g4⟩:=q6f (show 0<y by omega) (dg 1000000000 x) (q12 b9_2 x);rw[q23 b9_2]at g1;rw[<- q3b b9_2 g3];obtain⟨h1,h2⟩:=div_key (show 0<y by omega) g1 g2;rw[h1,h2]
theorem w_small{x:Nat}(h:(dg 1000000000 x).length<=2):x<18446744073709551616:=by
 have h1:=q9c b9_2 x;have h2:1000000000^(dg 1000000000 x).length<=1000000000^2:=AU (by omega) h;omega
theorem wgcdl:∀(y x:Nat),(dg 1000000000 x).length<=549755812000->(dg 1000000000 y).length<=549755812000->∃n0,∀n m l2,n0<=n->n0<=m ->
  q6g.l1 n [] m [wL x,wL y,.list 1 l2]=some [wL (Nat.gcd x y)]:=by
 intro y
 induction y using Nat.strongRecOn with
 |_ y ih =>
  intro x hx hy;rcases Bt y with h0 | h0
  ·subst h0;refine⟨1,λn m l2 hn hm=>?_⟩;obtain⟨m,rfl⟩:=qSx m;rw[q6g.q32,Aa,q18,Ad (by simp),Ab,Eb]
  ·have hlt:=AK x h0;have hl0:=q7k (show y≠0 by omega);by_cases hw:(dg 1000000000 x).length<=2/\(dg 1000000000 y).length<=2
   ·have sx:=w_small hw.1;have sy:=w_small hw.2;have hg:Nat.gcd x y<18446744073709551616:=BK (Nat.gcd_le_right x h0) sy;obtain⟨n3,h3⟩:=wof_ev hg;refine⟨n3+y+8,λn m l2 hn hm=>?_⟩;obtain⟨m,rfl⟩:=qSx m;obtain⟨n,rfl⟩:=qSx n
    rw[q6g.q32,Aa,Aa,Af,Ac,Af,Ac,Af,Ac,qjc sx,Ae,Aj,qi,Ae,
     qjc sy,Ae,Aj,qi,Ae,qph,wgcd_loop y x n (by omega),Ae,Aj,qi,Ae,h3 _ (by omega),Ae,Aj,qy,Ae]
   ·obtain⟨n1,h1⟩:=qjd (x:=x) (y:=y) (by omega) hx hy;have hm1:=qfh (CV hlt);obtain⟨n2,h2⟩:=ih (x%y) hlt y hy (by omega);refine⟨n1+n2+1,λn m l2 hn hm=>?_⟩;obtain⟨m,rfl⟩:=qSx m;have key:∀l2,(evF En n 186 [wL x,wL y]).bind (λr4=>(asLst 1 (r4[0]?)).bind λv5=>(asLst 1 (r4[1]?)).bind λv6=>(asInt .i64 (r4[2]?)).bind λn7=>q6g.l1 n [] m [wL y,.list 1 v6,.list 1 l2])=some [wL (Nat.gcd x y)]:=λl2=>by
     rw[h1 _ (by omega),Ae,Aj,qy,Ae,AP,Aj,qy,Ae,AP,AP,Aj,qi,Ae,h2 n m l2 (by omega) (by omega),CB y,<- Ec,CB]
    rw[q6g.q32,Aa,Aa,Af,Ac];by_cases ha:(dg 1000000000 x).length<=2
    ·rw[Af,Ac,Ad,Ab];exact key l2
    ·rw[Ad,Ab];exact key l2
theorem wgcd_ev{x y:Nat}(hx:(dg 1000000000 x).length<=549755812000)(hy:(dg 1000000000 y).length<=549755812000):Ev En 135 [wL x,wL y] [wL (Nat.gcd x y)]:=by
 obtain⟨n0,h⟩:=wgcdl y x hx hy;refine Ev.of n0 λn hn=>?_;rw[qpi];exact h n n [] hn hn
end
section
abbrev d8(c:UInt8):FV:=.int .u8 (c.toNat:Int)
abbrev L8(l:List UInt8):FV:=.list 1 (l.map d8)
theorem app8(l:List UInt8)(c:UInt8):l.map d8++[FV.int .u8 (c.toNat:Int)]=(l++[c]).map d8:=by simp
theorem d8_at{l:List UInt8}{i:Nat}(h:i<l.length):at' (l.map d8) i 0=some (.int .u8 ((l[i]).toNat:Int)):=by rw[q28,Ag h];rfl
theorem qut(l:List UInt8):bytesO (l.map d8)=some (txt l):=by
 unfold bytesO;rw[if_pos (by simp)];simp only[BY,Function.comp_def,Bi,UInt8.ofNat_toNat,List.map_id'];rfl
theorem qmu{d:Nat}(h:d<10):IntKind.wrap .u8 (w6 (48+(d:Int)))=((chD d).toNat:Int):=by
 rw[qeu h,ql];unfold IntKind.wrap;simp[IntKind.bits,IntKind.signed];omega
theorem tmod10(x:Nat):Int.tmod (x:Int) 10=((x%10:Nat):Int):=rfl
theorem tdiv10(x:Nat):Int.tdiv (x:Int) 10=((x / 10:Nat):Int):=rfl
theorem t9_mid{n m0 i:Nat}{a:List FV}(hi:i+1<a.length)(ha:a.length<=1099511627776):∀(j k m x:Nat) (pre:List UInt8),k+j=9->j<m->x<1000000000->pre.length+j<=100000000000000 ->
  q27.l9 n [m0] m [.list 1 a,L8 pre,.int .i64 (i:Int),.int .i64 (x:Int),.int .i64 (k:Int)]=q27.l5 n [] m0 [.list 1 a,L8 (pre++(dK j x).map chD),.int .i64 ((i+1:Nat):Int)]:=by
 intro j
 induction j with
 |zero =>
  intro k m x pre hk hm hx hp;obtain⟨m,rfl⟩:=qSx m;rw[q27.q4m,Ad,Ab,qc];simp[dK]
 |succ j ih =>
  intro k m x pre hk hm hx hp;obtain⟨m,rfl⟩:=qSx m;have hd:x%10<10:=AK _ (by omega);have step:=ih (k+1) m (x / 10) (pre++[chD (x%10)]) (by omega) (by omega) (by omega) (by simp;omega);rw[Ap,BR]at step;rw[q27.q4m,Af,Ac,tmod10,qmu hd,el1,Aa,q4d (by simp;omega),qc (show i<9223372036854775807 by omega),Af (show(((i+1:Nat):Int))<(a.length:Int) by omega),app8,tdiv10,q43,qc];simp only[Ac];have:dK (j+1) x=x%10::dK j (x / 10):=rfl;rw[this,AM];cases decide ((x:Int)>0)
  ·rw[Ab];exact step
  ·rw[Ac];exact step
theorem t9_top{n m0 i:Nat}{a:List FV}(hi:i+1=a.length)(ha:a.length<=1099511627776):∀(j k m x:Nat) (pre:List UInt8),k+j=9->j<m->x<10^j->j<=9->pre.length+j<=100000000000000 ->
  q27.l9 n [m0] m [.list 1 a,L8 pre,.int .i64 (i:Int),.int .i64 (x:Int),.int .i64 (k:Int)]=q27.l5 n [] m0 [.list 1 a,L8 (pre++(dg 10 x).map chD),.int .i64 ((i+1:Nat):Int)]:=by
 intro j
 induction j with
 |zero =>
  intro k m x pre hk hm hx hj hp;obtain⟨m,rfl⟩:=qSx m;have:x=0:=by simpa using hx
  subst this;rw[q27.q4m,Ad,Ab,qc,q18];simp
 |succ j ih =>
  intro k m x pre hk hm hx hj hp;obtain⟨m,rfl⟩:=qSx m;have hd:x%10<10:=AK _ (by omega);have hx9:x<1000000000:=AQ hx (AZ (AU (by omega) hj) (by decide));rw[q27.q4m,Af,Ac];by_cases h0:x=0
  ·subst h0;rw[Ad,Ab,qc (show i<9223372036854775807 by omega),Ad,Ab,q18];simp
  ·rw[Af,Ac,tmod10,qmu hd,el1,Aa,q4d (by simp;omega),Ac,app8,tdiv10,q43,qc];rw[ih (k+1) m (x / 10) (pre++[chD (x%10)]) (by omega) (by omega) (by rw[BP (by omega),<- Ay];exact hx) (by omega) (by simp;omega),q3k (by omega) h0,Ap];rfl
def tb:List Nat->List UInt8
 |[]=>[]
 |[d]=>(dg 10 d).map chD
 |d::e::r=>(dK 9 d).map chD++tb (e::r)
theorem tb_len:∀(e:List Nat),Dg 1000000000 e->(tb e).length<=9*e.length
 |[],_=>by simp[tb]
 |[d],h=>by
  have:=h d (by simp);have:=q5h (b:=10) (by omega) (n:=d) (k:=9) (by omega);simp[tb];omega
 |d::e::r,h=>by
  have:=tb_len (e::r) h.tail.2;simp only[tb,Bc,Aa,dK_len,Aq]at this ⊢;omega
theorem tb_dg:∀(x:Nat),tb (dg 1000000000 x)=(dg 10 x).map chD:=by
 intro x
 induction x using Nat.strongRecOn with
 |_ x ih =>
  by_cases h0:x=0
  ·subst h0;rw[q18,q18];rfl
  ·by_cases h1:x / 1000000000=0
   ·rw[q3k b9_2 h0,h1,q18];have:x%1000000000=x:=by omega
    rw[this];rfl
   ·have hne:dg 1000000000 (x / 1000000000)≠[]:=λq=>h1 ((q52 b9_2).1 q);have hi:=ih (x / 1000000000) (Cy (by omega) (by omega));rw[q3k b9_2 h0];cases he:dg 1000000000 (x / 1000000000)with
    |nil=>exact absurd he hne
    |cons e r =>
     rw[he]at hi;rw[tb,hi,<- AW,<- dg_dK h1 9 (x%1000000000) (by omega)];congr 2;omega
theorem t5_loop{n:Nat}{a:List Nat}(ha:Dg 1000000000 a)(hl:a.length<=1099511627776)(hn:10<=n):∀(e:List Nat) (i m:Nat) (pre:List UInt8),a.drop i=e->i+e.length=a.length->e.length<m->pre.length+9*e.length<=90000000000000 ->
  q27.l5 n [] m [L64 a,L8 pre,.int .i64 (i:Int)]=q27.l15 n [] n [L8 (pre++tb e),L8 [],.int .i64 (((pre++tb e).length:Int)-1)]:=by
 intro e
 induction e with
 |nil =>
  intro i m pre hi hie hm hp;obtain⟨m,rfl⟩:=qSx m;simp only[Bg,Ax]at hie;rw[q27.q1r,Aa,Aa,Ad,Ab,el0,tb,AN,show w6 ((pre.length:Int)-1)=(pre.length:Int)-1 from ql];rfl
 |cons d e ih =>
  intro i m pre hi hie hm hp;obtain⟨m,rfl⟩:=qSx m;simp only[Aq]at hie hm hp;have hia:i<a.length:=by omega
  have hx:a[i]=d/\a.drop (i+1)=e:=by
   rw[q1y hia]at hi;cases hi;exact⟨rfl,rfl⟩
  have hd:d<1000000000:=by rw[<- hx.1];exact ha _ (Ah hia)
  rw[q27.q1r,Aa,Af,Ac,q9 hia,Ae,q6d hia,qi,Ae,hx.1];cases e with
  |nil =>
   have dl:=q5h (b:=10) (by omega) (n:=d) (k:=9) (by omega);have:=t9_top (n:=n) (m0:=m) (a:=a.map d64) (i:=i) (by simp;simp at hie;omega) (by simp;omega) 9 0 n d pre (by omega) (by omega) (by omega) (by omega) (by omega);rw[show((0:Nat):Int)=0 from rfl]at this;rw[this];exact ih (i+1) m _ hx.2 (by simp at hie ⊢;omega) (by simp at hm ⊢;omega) (by simp;omega) |>.trans (by simp only[tb,AN])
  |cons f r =>
   simp only[Aq]at hie hm hp;have:=t9_mid (n:=n) (m0:=m) (a:=a.map d64) (i:=i) (by simp;omega) (by simp;omega) 9 0 n d pre (by omega) (by omega) (by omega) (by omega);rw[show((0:Nat):Int)=0 from rfl]at this;rw[this];refine(ih (i+1) m _ hx.2 (by simp;omega) (by simp;omega) (by simp[dK_len];omega)).trans ?_;simp only[tb,Ap]
theorem t15_loop{n:Nat}{b:List UInt8}(hl:b.length<=100000000000000):∀(i m:Nat) (out:List UInt8),i<=b.length->i<m->out.length+i<=100000000000000 ->
  q27.l15 n [] m [L8 b,L8 out,.int .i64 ((i:Int)-1)]=some [.str (txt (out++(b.take i).reverse))]:=by
 intro i
 induction i with
 |zero =>
  intro m out hi hm ho;obtain⟨m,rfl⟩:=qSx m;rw[q27.qc7,Ad,Ab,qut];simp
 |succ i ih =>
  intro m out hi hm ho;obtain⟨m,rfl⟩:=qSx m;have hib:i<b.length:=by omega
  have e0:(((i+1:Nat):Int)-1)=(i:Int):=by omega
  rw[q27.qc7,e0,Af,Ac,Aa,q9 hib,Ae,d8_at hib,qi,Ae,el1,Aa,q4d (by simp;omega),Ac,app8,show w6 ((i:Int)-1)=(i:Int)-1 from ql,ih m (out++[b[i]]) (by omega) (by omega) (by simp;omega)];have e:(b.take (i+1)).reverse=b[i]::(b.take i).reverse:=by rw[DB,Ag hib,Option.toList_some,EA];rfl
  rw[e,Ap];rfl
theorem wtext_ev{x:Nat}(hx:(dg 1000000000 x).length<=1000000000000):Ev En 96 [wL x] [sF (qk x)]:=by
 refine Ev.of (9*(dg 1000000000 x).length+12) λn hn=>?_;rw[qu6,Aa];unfold qk;by_cases h0:x=0
 ·subst h0;rw[if_pos rfl,q18];rfl
 ·have p:=q7k h0;rw[if_neg h0,show(((dg 1000000000 x).length:Int)==0)=false from Bq.2 (by omega),Ab,el0];have hb:=tb_len _ (q12 b9_2 x);have:=t5_loop (n:=n) (q12 b9_2 x) (by omega) (by omega) (dg 1000000000 x) 0 n [] rfl (by omega) (by omega) (by simp;omega);refine BN this ?_;rw[Au];have:=t15_loop (n:=n) (b:=tb (dg 1000000000 x)) (by omega) (tb (dg 1000000000 x)).length n [] (Ak _) (by omega) (by simp;omega);refine BN this ?_;rw[Au,Bj,tb_dg,List.map_reverse]
def c9(l:List UInt8)(e:Nat):List Nat:=if e=0 then []else vD ((l.take e).drop (e-9))::c9 l (e-9)
termination_by e
decreasing_by omega
theorem vD_cons(c:UInt8)(t:List UInt8):vD (c::t)=(c.toNat-48)*10^t.length+vD t:=by
 have:=qbu [c] t;rw[BR]at this;rw[this];simp[vD]
theorem c9_vl(l:List UInt8):∀(e:Nat),e<=l.length->vl 1000000000 (c9 l e)=vD (l.take e):=by
 intro e
 induction e using Nat.strongRecOn with
 |_ e ih =>
  intro he;rw[c9];by_cases h0:e=0
  ·subst h0;simp[vl,vD]
  ·rw[if_neg h0];simp only[vl];rw[ih (e-9) (by omega) (by omega)];have hs:l.take e=l.take (e-9)++(l.take e).drop (e-9):=by
    conv=>lhs;rw[<- Ca (e-9) (l.take e)]
    rw[List.take_take,EZ (by omega)]
   conv=>rhs;rw[hs,qbu]
   by_cases h9:e<=9
   ·rw[show e-9=0 by omega,CQ];simp[vD]
   ·have:((l.take e).drop (e-9)).length=9:=by simp;omega
    rw[this,show(10:Nat)^9=1000000000 from rfl];omega
theorem c9_Dg{l:List UInt8}(h:∀c,c∈l->isD c=true):∀(e:Nat),Dg 1000000000 (c9 l e):=by
 intro e
 induction e using Nat.strongRecOn with
 |_ e ih =>
  rw[c9];split
  ·intro d hd;simp at hd
  ·refine Dg.cons ?_ (ih (e-9) (by omega));have:=vD_lt (s:=(l.take e).drop (e-9)) λc hc=>h c (CJ (CA hc));refine AQ this ?_;have h9:((l.take e).drop (e-9)).length<=9:=by simp;omega
   exact AZ (AU (by omega) h9) (by decide)
theorem isD_nat{c:UInt8}(h:isD c=true):48<=c.toNat/\c.toNat<=57:=by
 simpa[isD]using h
theorem qmv{a:List UInt8}{i:Nat}(h:i<a.length):a.drop i=a[i]::a.drop (i+1):=Ba h
theorem p14_loop{n m0:Nat}{l0:List FV}{l:List UInt8}{e:Nat}{cs:List Nat}(hD:∀c,c∈l->isD c=true)(he:e<=l.length)(hl:l.length<=1000000000)(hcs:cs.length<=1000000000):∀(d i m acc:Nat),i+d=e->d<=9->d<m->acc<10^(9-d) ->
  q29.l14 n [m0] m [.list 1 l0,sF l,L64 cs,.int .i64 (e:Int),.int .i64 (acc:Int),.int .i64 (i:Int)]=q29.l10 n [] m0 [.list 1 l0,sF l,L64 (cs++[acc*10^d+vD ((l.take e).drop i)]),.int .i64 ((e:Int)-9)]:=by
 intro d
 induction d with
 |zero =>
  intro i m acc hi h9 hm ha;obtain⟨m,rfl⟩:=qSx m;have:(l.take e).drop i=[]:=AO (by simp;omega);rw[q29.l14_eq,Ad,Ab,el1,Aa,q4d (by simp;omega),Ac,q8f,this,ql,EB,DQ,show vD []=0 from rfl,Ax]
 |succ d ih =>
  intro i m acc hi h9 hm ha;obtain⟨m,rfl⟩:=qSx m;have hil:i<l.length:=by omega
  have hie:i<(l.take e).length:=by simp;omega
  have hg:(l.take e)[i]=l[i]:=by simp
  have hc:=isD_nat (hD l[i] (Ah hil));have hp:10^(9-(d+1))<=10^8:=AU (by omega) (by omega);have hp8:(10:Nat)^8=100000000:=rfl;have hp2:10^(9-d)=10*10^(9-(d+1)):=by rw[show 9-d=9-(d+1)+1 by omega,Ay,AB]
  have e1:IntKind.wrap .u8 (((l[i]).toNat:Int)-48)=((l[i].toNat-48:Nat):Int):=by
   unfold IntKind.wrap;simp[IntKind.bits,IntKind.signed];omega
  have hlen:((l.take e).drop (i+1)).length=d:=by simp;omega
  rw[q29.l14_eq,Af,Ac,q4g,Ag hil,AE,Ae,e1,q43 (x:=l[i].toNat-48),show(10:Int)=((10:Nat):Int) from rfl,qbh,q2q,qc,
   ih (i+1) m (acc*10+(l[i].toNat-48)) (by omega) (by omega) (by omega) (by rw[hp2];omega),qmv hie,hg,vD_cons,hlen,AT,Ay,<- Bl,AV,AB 10]
theorem p10_loop{n:Nat}{l0:List FV}{l:List UInt8}(hD:∀c,c∈l->isD c=true)(hl:l.length<=1000000000)(hn:l.length+12<=n):∀(e m:Nat) (cs:List Nat),e<=l.length->e<m->cs.length+e<=l.length ->
  q29.l10 n [] m [.list 1 l0,sF l,L64 cs,.int .i64 (e:Int)]=some [L64 (tz (cs++c9 l e)),.int .i64 0]:=by
 obtain⟨n,rfl⟩:=qSx n;have fin:∀(k:Int) (m:Nat) (cs:List Nat),k<=0->cs.length<=l.length->q29.l10 (n+1) [] (m+1) [.list 1 l0,sF l,L64 cs,.int .i64 k]=some [L64 (tz cs),.int .i64 0]:=λk m cs hk hc=>by
  rw[q29.q3l,Ad,Ab,q8g];simp only[Ae,Aj,qy]
 intro e
 induction e using Nat.strongRecOn with
 |_ e ih =>
  intro m cs he hm hc;obtain⟨m,rfl⟩:=qSx m;by_cases h0:e=0
  ·subst h0;rw[c9,if_pos rfl,AN];exact fin 0 m cs (by omega) (by omega)
  ·have est:(if 0<w6 ((e:Int)-9)then w6 ((e:Int)-9)else 0)=((e-9:Nat):Int):=by
    rw[ql];split <;> omega
   rw[q29.q3l,Af,Ac,est,show(0:Int)=((0:Nat):Int) from rfl,
    p14_loop hD he hl (by omega) (e-(e-9)) (e-9) (n+1) 0 (by omega) (by omega) (by omega) (Bz (by omega)),Dm,AG]
   rw[c9,if_neg h0];by_cases h9:e<9
   ·obtain⟨m,rfl⟩:=qSx m;rw[fin _ m _ (by omega) (by simp;omega),show e-9=0 by omega]
    conv=>rhs;rw[c9,if_pos rfl]
    rfl
   ·rw[show(e:Int)-9=((e-9:Nat):Int) by omega,ih (e-9) (by omega) m _ (by omega) (by omega) (by simp;omega),Ap];rfl
theorem p4_good{n:Nat}{l0:List FV}{l:List UInt8}(hl:l.length<=1000000000)(hD:∀c,c∈l->isD c=true):∀(d i m:Nat),i+d=l.length->d<m ->
  q29.l4 n [] m [.list 1 l0,sF l,.int .i64 (i:Int)]=q29.l10 n [] n [.list 1 l0,sF l,L64 [],.int .i64 (l.length:Int)]:=by
 intro d
 induction d with
 |zero =>
  intro i m hi hm;obtain⟨m,rfl⟩:=qSx m;rw[q29.q14,q1e,Ad,Ab,el0];rfl
 |succ d ih =>
  intro i m hi hm;obtain⟨m,rfl⟩:=qSx m;have hil:i<l.length:=by omega
  have hc:=isD_nat (hD l[i] (Ah hil));rw[q29.q14,q1e,Af,Ac,q4g,Ag hil,AE,Ae,Ad,Ab,Ae,Ad,Ab,qc];exact ih (i+1) m (by omega) (by omega)
theorem p4_bad{n:Nat}{l0:List FV}{l:List UInt8}(hl:l.length<=1000000000):∀(d i m:Nat),i+d=l.length->d<m->(∃c,c∈l.drop i/\isD c=false) ->
  q29.l4 n [] m [.list 1 l0,sF l,.int .i64 (i:Int)]=some [.list 1 [],.int .i64 10]:=by
 intro d
 induction d with
 |zero =>
  intro i m hi hm hb;obtain⟨c,hc,_⟩:=hb;rw[AO (by omega)]at hc;simp at hc
 |succ d ih =>
  intro i m hi hm hb;obtain⟨m,rfl⟩:=qSx m;have hil:i<l.length:=by omega
  rw[q29.q14,q1e,Af,Ac,q4g,Ag hil,AE,Ae,Ae];by_cases h1:(l[i]).toNat<48
  ·rw[Af,Ac]
  ·rw[Ad,Ab];by_cases h2:57<(l[i]).toNat
   ·rw[Af,Ac]
   ·rw[Ad,Ab,qc];refine ih (i+1) m (by omega) (by omega) ?_;obtain⟨c,hc,hb⟩:=hb;rw[qmv hil]at hc;rcases Ar.1 hc with rfl | hc
    ·simp[isD]at hb;omega
    ·exact⟨c,hc,hb⟩
theorem qbq{l:List UInt8}(hc:canon l)(hl:l.length<=1000000000):Ev En 78 [sF l] [wL (vD l),.int .i64 0]:=by
 obtain⟨c1,c2,c3⟩:=hc;have hp:0<l.length:=CZ.2 c1;refine Ev.of (l.length+12) λn hn=>?_;rw[qm8,q1e,show((l.length:Int)==0)=false from Bq.2 (by omega),Ab];have body:q29.l4 n [] n [.list 1 [],sF l,.int .i64 0]=some [wL (vD l),.int .i64 0]:=by
  have h1:=p4_good (n:=n) (l0:=[]) hl c2 l.length 0 n (by omega) (by omega);rw[show((0:Nat):Int)=0 from rfl]at h1;rw[h1];have h2:=p10_loop (n:=n) (l0:=[]) c2 hl (by omega) l.length n [] (Ak _) (by omega) (by simp);refine h2.trans ?_;rw[Au,<- q3b b9_2 (c9_Dg c2 l.length),c9_vl l l.length (Ak _),Bj]
 by_cases h1:1<l.length
 ·have h0:0<l.length:=by omega
  have hne:((((l[0]).toNat:Nat):Int)==48)=false:=by
   rw[Bq];intro q;have:l[0]=48:=Dr.1 (show l[0].toNat=48 by omega);have h:=c3 (by rw[FL,Ag h0,this]);omega
  have ht:=q4g l 0;rw[show((0:Nat):Int)=0 from rfl,Ag h0]at ht;rw[Af,Ac,ht,AE,Ae,hne,Ab];exact body
 ·rw[Ad,Ab];exact body
theorem qe2{l:List UInt8}(hc:¬ canon l)(hl:l.length<=1000000000):Ev En 78 [sF l] [.list 1 [],.int .i64 10]:=by
 refine Ev.of (l.length+12) λn hn=>?_;rw[qm8,q1e];by_cases h0:l=[]
 ·subst h0;rfl
 have hp:0<l.length:=CZ.2 h0;rw[show((l.length:Int)==0)=false from Bq.2 (by omega),Ab];have ht:=q4g l 0;rw[show((0:Nat):Int)=0 from rfl,Ag hp]at ht;by_cases hd:∀c,c∈l->isD c=true
 ·have h48:l.head?=some 48/\l.length≠1:=by
   apply BX;intro q;refine hc ⟨h0,hd,λh=>?_⟩;apply BX;intro q';exact q ⟨h,q'⟩
  have he:l[0]=48:=by
   have:=h48.1;rw[FL,Ag hp]at this;exact Em this
  rw[Af,Ac,ht,AE,Ae,he];rfl
 ·have hb:∃c,c∈l.drop 0/\isD c=false:=by
   apply BX;intro q;refine hd λc hc=>?_;cases hq:isD c with
   |true=>rfl
   |false=>exact absurd ⟨c,hc,hq⟩ q
  have h1:=p4_bad (n:=n) (l0:=[]) hl l.length 0 n (by omega) (by omega) hb;rw[show((0:Nat):Int)=0 from rfl]at h1;by_cases h2:1<l.length
  ·rw[Af,Ac,ht,AE,Ae];cases((((l[0]).toNat:Nat):Int)==48)
   ·rw[Ab];exact h1
   ·rfl
  ·rw[Ad,Ab];exact h1
end
section
abbrev wl(z:Int):FV:=wL z.natAbs
theorem q7t{x k:Nat}(h:x<2^k)(hk:k<=100000000000:=by omega):(dg 1000000000 x).length<=100000000000:=AZ (qi0 b9_2 h) hk
theorem q45(n:Nat):wl (n:Int)=wL n:=rfl
theorem qbr:wL 0=.list 1 []:=by unfold wL;rw[q18];rfl
theorem q4f{x:Nat}{s:Bool}:Ev En 80 [.bool s,wL x] [zb (sg s x),wl (sg s x)]:=by
 refine Ev.of 0 λn hn=>?_;rw[qun];unfold wl zb;rw[sg_abs,sg_neg];cases s
 ·rfl
 ·have:decide ((((dg 1000000000 x).map d64).length:Int)>0)=decide (0<x):=by
   rw[Aa,Bm,As,As];by_cases h:x=0
   ·subst h;rw[q18];simp
   ·have:=q7k h;omega
  rw[Ac,this];rfl
theorem q8m{n:Nat}{z:Int}:evF En (n+1) 94 [zb z,wl z]=some [.int .i64 z.sign]:=by
 rw[qup];by_cases h:z<0
 ·rw[Af h,Ac,CN h]
 ·rw[Ad h,Ab,Aa];by_cases h0:z=0
  ·subst h0;rw[show(0:Int).natAbs=0 from rfl,q18];rfl
  ·have:=q7k (x:=z.natAbs) (by omega);rw[Af,Ac,Co (by omega)]
theorem qk5{n d:Nat}:evF En (n+1) 94 [.bool false,wL d]=some [.int .i64 (if d=0 then 0 else 1)]:=by
 have h:=q8m (n:=n) (z:=(d:Int));rw[q20,q45]at h;rw[h];by_cases h0:d=0
 ·subst h0;rfl
 ·rw[if_neg h0,Co (by omega)]
theorem qdx{z:Int}:Ev En 26 [zb z,wl z] [zb (-z),wl (-z)]:=by
 obtain⟨n1,h1⟩:=q4f (s:=!(decide (z<0))) (x:=z.natAbs);refine Ev.of n1 λn hn=>?_;rw[quk];simp (disch:=omega) only[h1,rr];have:sg (!(decide (z<0))) z.natAbs=-z:=by
  unfold sg;by_cases h:z<0 <;> simp[h] <;> omega
 rw[this]
theorem qds{z w:Int}{k:Nat}(hk:k<=100000000000)(hz:z.natAbs<2^k)(hw:w.natAbs<2^k):Ev En 95 [zb z,wl z,zb w,wl w] [zb (z+w),wl (z+w)]:=by
 have lz:=q7t hz hk;have lw:=q7t hw hk;by_cases hs:decide (z<0)=decide (w<0)
 ·obtain⟨n1,h1⟩:=wadd_ev (x:=z.natAbs) (y:=w.natAbs) (by omega) (by omega);obtain⟨n2,h2⟩:=q4f (s:=decide (w<0)) (x:=z.natAbs+w.natAbs);refine Ev.of (n1+n2) λn hn=>?_;rw[qhz,hs]
  try simp (disch:=omega) only[Be,rr]
  try simp (disch:=omega) only[h1,rr]
  try simp (disch:=omega) only[h2,rr]
  have:sg (decide (w<0)) (z.natAbs+w.natAbs)=z+w:=by
   unfold sg;by_cases h:w<0
   ·have:z<0:=by rw[Af h]at hs;exact of_decide_eq_true hs
    simp[h];omega
   ·have:¬ z<0:=by rw[Ad h]at hs;exact Fk hs
    simp[h];omega
  rw[this]
 ·have hb:(decide (z<0)==decide (w<0))=false:=Bq.2 hs;have hsgn:(z<0/\0<=w)\/(0<=z/\w<0):=by
   by_cases h:z<0 <;> by_cases h':w<0 <;> simp_all <;> omega
  have hc:=λn (hn:(dg 1000000000 z.natAbs).length+(dg 1000000000 w.natAbs).length+1<=n)=>qfl (n:=n) (x:=z.natAbs) (y:=w.natAbs) (by omega) (by omega) hn;by_cases hle:w.natAbs<=z.natAbs
  ·obtain⟨n2,h2⟩:=q4f (x:=z.natAbs-w.natAbs) (s:=decide (z<0));refine Ev.of (n2+(dg 1000000000 z.natAbs).length*2+(dg 1000000000 w.natAbs).length+6) λn hn=>?_;obtain⟨n,rfl⟩:=qSx n;rw[qhz,hb,Ab,hc n (by omega)];simp only[Ae,Aj,qi];rw[Af (show cmpN z.natAbs w.natAbs≥0 by unfold cmpN;rw[if_neg (by omega)];split <;> omega),Ac,qfo hle]
   try simp (disch:=omega) only[h2,rr]
   try simp (disch:=omega) only[h2,rr]
   have:sg (decide (z<0)) (z.natAbs-w.natAbs)=z+w:=by
    unfold sg;by_cases h:z<0 <;> simp[h] <;> omega
   rw[this]
  ·obtain⟨n2,h2⟩:=q4f (x:=w.natAbs-z.natAbs) (s:=decide (w<0));refine Ev.of (n2+(dg 1000000000 w.natAbs).length*2+(dg 1000000000 z.natAbs).length+6) λn hn=>?_;obtain⟨n,rfl⟩:=qSx n;rw[qhz,hb,Ab,hc n (by omega)];simp only[Ae,Aj,qi];rw[Ad (show ¬ cmpN z.natAbs w.natAbs≥0 by unfold cmpN;rw[if_pos (by omega)];omega),Ab,qfo]
   try simp (disch:=omega) only[h2,rr]
   try simp (disch:=omega) only[h2,rr]
   have:sg (decide (w<0)) (w.natAbs-z.natAbs)=z+w:=by
    unfold sg;by_cases h:w<0 <;> simp[h] <;> omega
   rw[this]
theorem wsub_z{z w:Int}{k:Nat}(hk:k<=100000000000)(hz:z.natAbs<2^k)(hw:w.natAbs<2^k):Ev En 162 [zb z,wl z,zb w,wl w] [zb (z-w),wl (z-w)]:=by
 obtain⟨n1,h1⟩:=qdx (z:=w);obtain⟨n2,h2⟩:=qds (w:=-w) hk hz (by rw[BE];exact hw);refine Ev.of (n1+n2) λn hn=>?_;rw[qus]
 try simp (disch:=omega) only[h1,rr]
 try simp (disch:=omega) only[h2,rr]
 rw[Int.sub_eq_add_neg]
theorem q9k{z w:Int}{k:Nat}(hk:k+k<=100000000000)(hz:z.natAbs<2^k)(hw:w.natAbs<2^k):Ev En 42 [zb z,wl z,zb w,wl w] [zb (z*w),wl (z*w)]:=by
 have lz:=q7t hz;have lw:=q7t hw;obtain⟨n1,h1⟩:=wmul_ev (x:=z.natAbs) (y:=w.natAbs) (by omega);obtain⟨n2,h2⟩:=q4f (s:=!(decide (z<0)==decide (w<0))) (x:=z.natAbs*w.natAbs);refine Ev.of (n1+n2) λn hn=>?_;rw[qum]
 try simp (disch:=omega) only[h1,rr]
 try simp (disch:=omega) only[h2,rr]
 have:sg (!(decide (z<0)==decide (w<0))) (z.natAbs*w.natAbs)=z*w:=sg_mul z w;rw[this]
theorem sign_cmp(z w:Int):(z-w).sign=q26 z w:=by
 unfold q26;rcases Int.lt_trichotomy z w with h | h | h
 ·rw[if_pos h,CN (by omega)]
 ·subst h;simp
 ·rw[if_neg (by omega),if_pos h,Co (by omega)]
theorem wcmp_z{z w:Int}{k:Nat}(hk:k<=100000000000)(hz:z.natAbs<2^k)(hw:w.natAbs<2^k):Ev En 100 [zb z,wl z,zb w,wl w] [.int .i64 (q26 z w)]:=by
 obtain⟨n1,h1⟩:=wsub_z hk hz hw;refine Ev.of (n1+1) λn hn=>?_;obtain⟨n,rfl⟩:=qSx n;rw[quq]
 try simp (disch:=omega) only[h1,rr]
 try simp (disch:=omega) only[q8m,rr]
 rw[sign_cmp]
theorem qdr{z:Int}(h1:-9223372036854775808<=z:=by omega)(h2:z<=9223372036854775807:=by omega):Ev En 40 [.int .i64 z] [zb z,wl z]:=by
 obtain⟨n1,g1⟩:=wof_ev (x:=z.natAbs) (by omega);obtain⟨n2,g2⟩:=q4f (s:=decide (z<0)) (x:=z.natAbs);refine Ev.of (n1+n2) λn hn=>?_;rw[qul];by_cases h:z<0
 ·rw[Af h]at g2;have e:IntKind.wrap .u64 (IntKind.wrap .u64 (w6 (0-w6 (z+1)))+1)=(z.natAbs:Int):=by
   rw[ql (x:=z+1),ql];unfold IntKind.wrap;simp[IntKind.bits,IntKind.signed];omega
  rw[Ad,e]
  try simp (disch:=omega) only[g1,rr]
  try simp (disch:=omega) only[g2,rr]
  have:sg true z.natAbs=z:=by unfold sg;simp;omega
  rw[this]
 ·rw[Ad h]at g2;have e:IntKind.wrap .u64 z=(z.natAbs:Int):=by
   unfold IntKind.wrap;simp[IntKind.bits,IntKind.signed];omega
  rw[Af,e]
  try simp (disch:=omega) only[g1,rr]
  try simp (disch:=omega) only[g2,rr]
  have:sg false z.natAbs=z:=by unfold sg;simp;omega
  rw[this]
theorem wqr_ev{z w:Int}{k:Nat}(hk:k<=100000000000)(h0:w≠0)(hz:z.natAbs<2^k)(hw:w.natAbs<2^k) :
  Ev En 136 [zb z,wl z,zb w,wl w] [zb (z.tdiv w),wl (z.tdiv w),zb (z.tmod w),wl (z.tmod w),.int .i64 0]:=by
 have lz:=q7t hz;have lw:=q7t hw;obtain⟨n1,h1⟩:=qjd (x:=z.natAbs) (y:=w.natAbs) (by omega) (by omega) (by omega);obtain⟨n2,h2⟩:=q4f (s:=!(decide (z<0)==decide (w<0))) (x:=z.natAbs / w.natAbs);obtain⟨n3,h3⟩:=q4f (s:=decide (z<0)) (x:=z.natAbs%w.natAbs);refine Ev.of (n1+n2+n3) λn hn=>?_;rw[qur]
 try simp (disch:=omega) only[h1,rr]
 try simp only[show((0:Int) !=0)=false from rfl,rr]
 try simp (disch:=omega) only[h2,rr]
 try simp (disch:=omega) only[h3,rr]
 rw[sg_div z w,sg_mod z w]
theorem qgf{z:Int}{k:Nat}(hk:k<=100000000000)(hz:z.natAbs<2^k):Ev En 25 [zb z,wl z] [sF (qu z)]:=by
 have lz:=q7t hz;have lt:=q9m hz;obtain⟨n1,h1⟩:=wtext_ev (x:=z.natAbs) (by omega);refine Ev.of n1 λn hn=>?_;rw[quj];unfold qu;by_cases h:z<0
 ·rw[Af h,if_pos h];simp (disch:=omega) only[h1,rr];rw[q1e,Ad,Ab,show({ data:=#[45] }:ByteArray)=txt [45] from rfl,q5l];rfl
 ·rw[Ad h,if_neg h];simp (disch:=omega) only[h1,rr]
theorem len_wL(x:Nat):((((dg 1000000000 x).map d64).length:Int)==0)=decide (x=0):=by
 rw[Aa,Bm,Bv,As];by_cases h:x=0
 ·subst h;rw[q18];simp
 ·have:=q7k h;omega
theorem qgh{l:List UInt8}{z:Int}(h:pz l=some z)(hl:l.length<=1000000000):Ev En 77 [sF l] [zb z,wl z,.int .i64 0]:=by
 have hb:=qao h;have e:=q4q.1 h;by_cases hz:z<0
 ·have hl2:l=45::qk z.natAbs:=by rw[e];unfold qu;rw[if_pos hz]
  obtain⟨n1,h1⟩:=qbq (l:=qk z.natAbs) (q6o _) (by rw[hl2]at hl;simp at hl;omega);rw[q6p]at h1;obtain⟨n2,h2⟩:=q4f (s:=true) (x:=z.natAbs);refine Ev.of (n1+n2) λn hn=>?_;subst hl2;have ht:=q4g (45::qk z.natAbs) 0;rw[show((0:Nat):Int)=0 from rfl,Aj,AE]at ht
  rw[qcn,q1e,Af (by simp),Ac,ht,Ae,show((((45:UInt8).toNat:Nat):Int)==45)=true from rfl,Ac,show(1:Int)=((1:Nat):Int) from rfl,q1x (by simp),Ae,q5m,
   show((45::qk z.natAbs).take (45::qk z.natAbs).length).drop 1=qk z.natAbs by rw[Bj];rfl]
  try simp (disch:=omega) only[h1,rr]
  try simp only[show((0:Int) !=0)=false from rfl,rr]
  rw[len_wL,Ad]
  try simp (disch:=omega) only[h2,rr]
  try simp (disch:=omega) only[h2,rr]
  have:sg true z.natAbs=z:=by unfold sg;simp;omega
  rw[this]
 ·have hl2:l=qk z.natAbs:=by rw[e];unfold qu;rw[if_neg hz]
  have hc:canon l:=hl2▸q6o _;obtain⟨c,t,rfl⟩:∃c t,l=c::t:=by
   cases l with
   |nil=>exact absurd rfl hc.1
   |cons c t=>exact⟨c,t,rfl⟩
  have h45:((c.toNat:Int)==45)=false:=by
   rw[Bq];intro q;have:c=45:=Dr.1 (show c.toNat=45 by omega);subst this;exact qi5 hc
  obtain⟨n1,h1⟩:=qbq (l:=c::t) hc hl;have hv:vD (c::t)=z.natAbs:=by rw[hl2,q6p]
  rw[hv]at h1;obtain⟨n2,h2⟩:=q4f (s:=false) (x:=z.natAbs);refine Ev.of (n1+n2) λn hn=>?_;have ht:=q4g (c::t) 0;rw[show((0:Nat):Int)=0 from rfl,Aj,AE]at ht;rw[qcn,q1e,Af (by simp),Ac,ht,Ae,h45]
  try simp (disch:=omega) only[h1,rr]
  try simp only[show((0:Int) !=0)=false from rfl,rr]
  try simp (disch:=omega) only[h2,rr]
  have:sg false z.natAbs=z:=by unfold sg;simp;omega
  rw[this]
theorem qkd{l:List UInt8}(h:pz l=none)(hl:l.length<=1000000000:=by omega):Ev En 77 [sF l] [.bool false,.list 1 [],.int .i64 10]:=by
 cases l with
 |nil =>
  obtain⟨n1,h1⟩:=qe2 (l:=[]) (λhc=>hc.1 rfl) hl;refine Ev.of n1 λn hn=>?_;rw[qcn,q1e,Ad (by simp),Ab]
  try simp (disch:=omega) only[h1,rr]
  try simp only[show((10:Int) !=0)=true from rfl,rr]
 |cons c t =>
  have ht:=q4g (c::t) 0;rw[show((0:Nat):Int)=0 from rfl,Aj,AE]at ht;by_cases h45:c=45
  ·subst h45;simp only[Aq]at hl;have head:∀n,evF En (n+1) 77 [sF (45::t)]=(evF En n 78 [sF t]).bind λr2=>(asLst 1 (r2[0]?)).bind λv3=>(asInt .i64 (r2[1]?)).bind λn4 =>
     (bif(n4 !=0)then some [.bool false,.list 1 [],.int .i64 10]
      else(bif((v3.length:Int)==0)then some [.bool false,.list 1 [],.int .i64 10]
       else(evF En n 80 [.bool true,.list 1 v3]).bind λr5=>(asBool (r5[0]?)).bind λc6=>(asLst 1 (r5[1]?)).bind λv7=>some [.bool c6,.list 1 v7,.int .i64 0])):=λn=>by
    rw[qcn,q1e,Af (by simp),Ac,ht,Ae,show((((45:UInt8).toNat:Nat):Int)==45)=true from rfl,Ac,show(1:Int)=((1:Nat):Int) from rfl,q1x (by simp),Ae,q5m,
     show((45::t).take (45::t).length).drop 1=t by rw[Bj];rfl]
    rfl
   by_cases hc:canon t
   ·have hv:vD t=0:=by
     apply BX;intro q;rw[pz_neg hc q]at h;cases h
    obtain⟨n1,h1⟩:=qbq (l:=t) hc (by omega);rw[hv]at h1;refine Ev.of n1 λn hn=>?_;rw[head]
    try simp (disch:=omega) only[h1,rr]
    try simp only[show((0:Int) !=0)=false from rfl,rr]
    rw[len_wL];rfl
   ·obtain⟨n1,h1⟩:=qe2 (l:=t) hc (by omega);refine Ev.of n1 λn hn=>?_;rw[head]
    try simp (disch:=omega) only[h1,rr]
    try simp only[show((10:Int) !=0)=true from rfl,rr]
  ·have hb:((c.toNat:Int)==45)=false:=by
    rw[Bq];intro q;exact h45 (Dr.1 (show c.toNat=45 by omega))
   have hc:¬ canon (c::t):=λhc=>by rw[pz_pos hc]at h;cases h
   obtain⟨n1,h1⟩:=qe2 (l:=c::t) hc hl;refine Ev.of n1 λn hn=>?_;rw[qcn,q1e,Af (by simp),Ac,ht,Ae,hb]
   try simp (disch:=omega) only[h1,rr]
   try simp only[show((10:Int) !=0)=true from rfl,rr]
end
end Rf
