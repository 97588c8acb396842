/- Texts of this work put together, their blanks and comments taken out: Num, RefN, RefT, RefZ. -/
import Derived.Test.YtcpnpoagpnkblaaGreatDoorOMQ
import Derived.Test.YtcpnpoagpnkblaaGreatDoorOMI
import Derived.Test.YtcpnpoagpnkblaaGreatDoorOMG
set_option linter.unusedVariables false
set_option linter.unusedSimpArgs false
set_option maxHeartbeats 2000000
namespace Rf
open Go
section
abbrev nL(x:Nat):FV:=L32 (dg 4294967296 x)
abbrev zl(z:Int):FV:=nL z.natAbs
abbrev zb(z:Int):FV:=.bool (decide (z<0))
def sg(s:Bool)(x:Nat):Int:=if s then -(x:Int)else x
theorem sg_abs(s:Bool)(x:Nat):(sg s x).natAbs=x:=by unfold sg;split <;> omega
theorem sg_neg(s:Bool)(x:Nat):decide (sg s x<0)=(s&&decide (0<x)):=by
 unfold sg;cases s <;> simp
theorem q4i{x k:Nat}(h:x<2^k)(hk:k<=100000000000:=by omega):(dg 4294967296 x).length<=100000000000:=AZ (qhp qq h) hk
theorem zero_ev{x k:Nat}{s:Bool}(hk:k<=100000000000)(hx:x<2^k):Ev En 198 [nL x,.bool s] [.bool (decide (x=0))]:=by
 have l:=q4i hx hk;obtain⟨n1,h1⟩:=qen (x:=x);refine Ev.of n1 λn hn=>?_;rw[qun];simp (disch:=omega) only[h1,rr];have:(((q85 x:Nat):Int)==0)=decide (x=0):=by
  rw[Bm,Bu,As,<- qeo];omega
 rw[this]
theorem q63{x k:Nat}{s:Bool}(hk:k<=100000000000)(hx:x<2^k):Ev En 199 [.bool s,nL x] [zl (sg s x),zb (sg s x)]:=by
 have l:=q4i hx hk;obtain⟨n1,h1⟩:=qen (x:=x);refine Ev.of n1 λn hn=>?_;rw[qup];unfold zl zb;rw[sg_abs,sg_neg];cases s
 ·simp only[rr];rfl
 ·simp (disch:=omega) only[h1,rr];have:decide (((q85 x:Nat):Int)>0)=decide (0<x):=by
   rw[Bm,As,As];have:=@qeo x;omega
  rw[this];rfl
theorem qdd{z:Int}{k:Nat}(hk:k<=100000000000)(hz:z.natAbs<2^k):Ev En 145 [zl z,zb z] [.int .i64 z.sign]:=by
 obtain⟨n1,h1⟩:=zero_ev (s:=decide (z<0)) hk hz;refine Ev.of n1 λn hn=>?_;rw[quq];by_cases h:z<0
 ·rw[Af h];simp only[rr];rw[CO h]
 ·rw[Ad h]at h1 ⊢;simp (disch:=omega) only[h1,rr];by_cases h0:z=0
  ·subst h0;rfl
  ·rw[Ad];simp only[rr];rw[Cl (by omega)]
theorem qep{z:Int}{k:Nat}(hk:k<=100000000000)(hz:z.natAbs<2^k):Ev En 147 [zl z,zb z] [zl (-z),zb (-z)]:=by
 obtain⟨n1,h1⟩:=q63 (s:=!(decide (z<0))) hk hz;refine Ev.of n1 λn hn=>?_;rw[qur];simp (disch:=omega) only[h1,rr];have:sg (!(decide (z<0))) z.natAbs=-z:=by
  unfold sg;by_cases h:z<0 <;> simp[h] <;> omega
 rw[this]
theorem nabs_ev{z:Int}:Ev En 218 [zl z,zb z] [nL z.natAbs]:=Ev.of 0 λn _=>qus n _ _
theorem pow_two{a b k:Nat}(h:a<2^k)(h':b<2^k):a+b<2^(k+1):=by rw[Ax];omega
theorem qae{z w:Int}{k:Nat}(hk:k+1<=100000000000)(hz:z.natAbs<2^k)(hw:w.natAbs<2^k):Ev En 141 [zl z,zb z,zl w,zb w] [zl (z+w),zb (z+w)]:=by
 have lz:=q4i hz;have lw:=q4i hw;by_cases hs:decide (z<0)=decide (w<0)
 ·obtain⟨n1,h1⟩:=natAdd_ev (x:=z.natAbs) (y:=w.natAbs) (by omega) (by omega);obtain⟨n2,h2⟩:=q63 (s:=decide (z<0)) hk (pow_two hz hw);refine Ev.of (n1+n2) λn hn=>?_;rw[qhq,hs];rw[hs]at h2;simp (disch:=omega) only[h1,h2,Bi,rr];have:sg (decide (w<0)) (z.natAbs+w.natAbs)=z+w:=by
   unfold sg;by_cases h:w<0
   ·have:z<0:=by rw[Af h]at hs;exact of_decide_eq_true hs
    simp[h];omega
   ·have:¬ z<0:=by rw[Ad h]at hs;exact Fk hs
    simp[h];omega
  rw[this]
 ·have hb:(decide (z<0)==decide (w<0))=false:=Bn.2 hs;have hsgn:(z<0/\0<=w)\/(0<=z/\w<0):=by
   by_cases h:z<0 <;> by_cases h':w<0 <;> simp_all <;> omega
  by_cases hle:w.natAbs<=z.natAbs
  ·obtain⟨n1,h1⟩:=qmm (x:=z.natAbs) (y:=w.natAbs) (by omega) hle (by omega) (by omega);obtain⟨n2,h2⟩:=q63 (k:=k) (x:=z.natAbs-w.natAbs) (s:=decide (z<0)) (by omega) (by omega);refine Ev.of (n1+n2) λn hn=>?_;rw[qhq,hb];simp (disch:=omega) only[h1,h2,Bi,rr];have:sg (decide (z<0)) (z.natAbs-w.natAbs)=z+w:=by
    unfold sg;by_cases h:z<0 <;> simp[h] <;> omega
   rw[this]
  ·obtain⟨n1,h1⟩:=qut (x:=z.natAbs) (y:=w.natAbs) (by omega) (by omega) (by omega);obtain⟨n3,h3⟩:=qmm (x:=w.natAbs) (y:=z.natAbs) (by omega) (by omega) (by omega) (by omega);obtain⟨n2,h2⟩:=q63 (k:=k) (x:=w.natAbs-z.natAbs) (s:=decide (w<0)) (by omega) (by omega);refine Ev.of (n1+n2+n3) λn hn=>?_;rw[qhq,hb];simp (disch:=omega) only[h1,h2,h3,show((11:Int)==0)=false from rfl,rr];have:sg (decide (w<0)) (w.natAbs-z.natAbs)=z+w:=by
    unfold sg;by_cases h:w<0 <;> simp[h] <;> omega
   rw[this]
theorem qdb{z w:Int}{k:Nat}(hk:k+1<=100000000000)(hz:z.natAbs<2^k)(hw:w.natAbs<2^k):Ev En 84 [zl z,zb z,zl w,zb w] [zl (z-w),zb (z-w)]:=by
 obtain⟨n1,h1⟩:=qep (by omega) hw;obtain⟨n2,h2⟩:=qae (w:=-w) hk hz (by rw[BA];exact hw);refine Ev.of (n1+n2) λn hn=>?_;rw[quu];simp (disch:=omega) only[h1,h2,rr];rw[Int.sub_eq_add_neg]
theorem sg_mul(z w:Int):sg (!(decide (z<0)==decide (w<0))) (z.natAbs*w.natAbs)=z*w:=by
 unfold sg;rcases Df z 0 with h | h <;> rcases Df w 0 with h' | h'
 ·obtain⟨x,rfl⟩:∃x:Nat,z=-(x:Int):=⟨z.natAbs,by omega⟩;obtain⟨y,rfl⟩:∃y:Nat,w=-(y:Int):=⟨w.natAbs,by omega⟩;rw[Int.neg_mul_neg,Af h,Af h',BA,BA];simp
 ·obtain⟨x,rfl⟩:∃x:Nat,z=-(x:Int):=⟨z.natAbs,by omega⟩;obtain⟨y,rfl⟩:∃y:Nat,w=(y:Int):=⟨w.natAbs,by omega⟩;rw[Int.neg_mul,Af h,Ad,BA];simp
 ·obtain⟨x,rfl⟩:∃x:Nat,z=(x:Int):=⟨z.natAbs,by omega⟩;obtain⟨y,rfl⟩:∃y:Nat,w=-(y:Int):=⟨w.natAbs,by omega⟩;rw[Int.mul_neg,Af h',Ad,BA];simp
 ·obtain⟨x,rfl⟩:∃x:Nat,z=(x:Int):=⟨z.natAbs,by omega⟩;obtain⟨y,rfl⟩:∃y:Nat,w=(y:Int):=⟨w.natAbs,by omega⟩;rw[Ad,Ad];simp
theorem q7b{z w:Int}{k:Nat}(hk:k+k<=100000000000)(hz:z.natAbs<2^k)(hw:w.natAbs<2^k):Ev En 173 [zl z,zb z,zl w,zb w] [zl (z*w),zb (z*w)]:=by
 have lz:=q4i hz;have lw:=q4i hw;obtain⟨n1,h1⟩:=natMul_ev (x:=z.natAbs) (y:=w.natAbs) (by omega);obtain⟨n2,h2⟩:=q63 (s:=!(decide (z<0)==decide (w<0))) hk (q4p hz hw);refine Ev.of (n1+n2) λn hn=>?_;rw[quv];simp (disch:=omega) only[h1,h2,rr];rw[sg_mul z w]
def q24(z w:Int):Int:=if z<w then -1 else if w<z then 1 else 0
theorem cmpN_pos{z w:Int}(hz:0<=z)(hw:0<=w):cmpN z.natAbs w.natAbs=q24 z w:=by
 have e1:z.natAbs<w.natAbs↔z<w:=by omega
 have e2:w.natAbs<z.natAbs↔w<z:=by omega
 simp only[cmpN,q24,e1,e2]
theorem cmpN_neg{z w:Int}(hz:z<0)(hw:w<0):cmpN w.natAbs z.natAbs=q24 z w:=by
 have e1:w.natAbs<z.natAbs↔z<w:=by omega
 have e2:z.natAbs<w.natAbs↔w<z:=by omega
 simp only[cmpN,q24,e1,e2]
theorem qdc{z w:Int}{k:Nat}(hk:k<=100000000000)(hz:z.natAbs<2^k)(hw:w.natAbs<2^k):Ev En 142 [zl z,zb z,zl w,zb w] [.int .i64 (q24 z w)]:=by
 have lz:=q4i hz;have lw:=q4i hw;obtain⟨n1,h1⟩:=qa2 (x:=z.natAbs) (y:=w.natAbs) (by omega) (by omega);obtain⟨n2,h2⟩:=qa2 (x:=w.natAbs) (y:=z.natAbs) (by omega) (by omega);refine Ev.of (n1+n2) λn hn=>?_;rw[quw];by_cases h:z<0 <;> by_cases h':w<0
 ·rw[Af h,Af h'];simp (disch:=omega) only[h1,h2,Am,rr];rw[cmpN_neg h h']
 ·rw[Af h,Ad h'];simp (disch:=omega) only[h1,h2,Am,AV,rr];unfold q24;rw[if_pos (by omega)]
 ·rw[Ad h,Af h'];simp (disch:=omega) only[h1,h2,Am,AV,rr];unfold q24;rw[if_neg (by omega),if_pos (by omega)]
 ·rw[Ad h,Ad h'];simp (disch:=omega) only[h1,h2,AV,rr];rw[cmpN_pos (by omega) (by omega)]
theorem qda{z:Int}(h1:-9223372036854775808<=z:=by omega)(h2:z<=9223372036854775807:=by omega):Ev En 144 [.int .i64 z] [zl z,zb z]:=by
 have hb:z.natAbs<2^64:=by
  have:(2:Nat)^64=18446744073709551616:=by decide
  omega
 obtain⟨n1,g1⟩:=qhr (x:=z.natAbs) (by omega);obtain⟨n2,g2⟩:=q63 (s:=decide (z<0)) (k:=64) (by omega) hb;refine Ev.of (n1+n2) λn hn=>?_;rw[num_Of_eq];by_cases h:z<0
 ·rw[Af h]at g2 ⊢;have e:IntKind.wrap .u64 (0-IntKind.wrap .u64 z)=(z.natAbs:Int):=by
   unfold IntKind.wrap;simp[IntKind.bits,IntKind.signed];omega
  rw[e];simp (disch:=omega) only[g1,g2,rr];have:sg true z.natAbs=z:=by unfold sg;simp;omega
  rw[this]
 ·rw[Ad h]at g2 ⊢;have e:IntKind.wrap .u64 z=(z.natAbs:Int):=by
   unfold IntKind.wrap;simp[IntKind.bits,IntKind.signed];omega
  rw[e];simp (disch:=omega) only[g1,g2,rr];have:sg false z.natAbs=z:=by unfold sg;simp;omega
  rw[this]
theorem sg_div(z w:Int):sg (!(decide (z<0)==decide (w<0))) (z.natAbs / w.natAbs)=z.tdiv w:=by
 unfold sg;rcases Df z 0 with h | h <;> rcases Df w 0 with h' | h'
 ·obtain⟨x,rfl⟩:∃x:Nat,z=-(x:Int):=⟨z.natAbs,by omega⟩;obtain⟨y,rfl⟩:∃y:Nat,w=-(y:Int):=⟨w.natAbs,by omega⟩;rw[Int.neg_tdiv_neg,Af h,Af h',BA,BA];simp
 ·obtain⟨x,rfl⟩:∃x:Nat,z=-(x:Int):=⟨z.natAbs,by omega⟩;obtain⟨y,rfl⟩:∃y:Nat,w=(y:Int):=⟨w.natAbs,by omega⟩;rw[Int.neg_tdiv,Af h,Ad,BA];simp
 ·obtain⟨x,rfl⟩:∃x:Nat,z=(x:Int):=⟨z.natAbs,by omega⟩;obtain⟨y,rfl⟩:∃y:Nat,w=-(y:Int):=⟨w.natAbs,by omega⟩;rw[Int.tdiv_neg,Af h',Ad,BA];simp
 ·obtain⟨x,rfl⟩:∃x:Nat,z=(x:Int):=⟨z.natAbs,by omega⟩;obtain⟨y,rfl⟩:∃y:Nat,w=(y:Int):=⟨w.natAbs,by omega⟩;rw[Ad,Ad];simp
theorem sg_mod(z w:Int):sg (decide (z<0)) (z.natAbs%w.natAbs)=z.tmod w:=by
 unfold sg;rcases Df z 0 with h | h
 ·obtain⟨x,rfl⟩:∃x:Nat,z=-(x:Int):=⟨z.natAbs,by omega⟩;rw[EU,Af h,BA];rcases Df w 0 with h' | h'
  ·obtain⟨y,rfl⟩:∃y:Nat,w=-(y:Int):=⟨w.natAbs,by omega⟩;rw[Int.tmod_neg];simp[ED]
  ·obtain⟨y,rfl⟩:∃y:Nat,w=(y:Int):=⟨w.natAbs,by omega⟩;simp[ED]
 ·obtain⟨x,rfl⟩:∃x:Nat,z=(x:Int):=⟨z.natAbs,by omega⟩;rw[Ad];rcases Df w 0 with h' | h'
  ·obtain⟨y,rfl⟩:∃y:Nat,w=-(y:Int):=⟨w.natAbs,by omega⟩;rw[Int.tmod_neg];simp[ED]
  ·obtain⟨y,rfl⟩:∃y:Nat,w=(y:Int):=⟨w.natAbs,by omega⟩;simp[ED]
theorem qd9{z w:Int}{k:Nat}(hk:k<=100000000000)(h0:w≠0)(hz:z.natAbs<2^k)(hw:w.natAbs<2^k) :
  Ev En 143 [zl z,zb z,zl w,zb w] [zl (z.tdiv w),zb (z.tdiv w),zl (z.tmod w),zb (z.tmod w),.int .i64 0]:=by
 have lz:=q4i hz;have lw:=q4i hw;have hq:z.natAbs / w.natAbs<2^k:=BG (Ds _ _) hz;have hr:z.natAbs%w.natAbs<2^k:=BG (Nat.mod_le _ _) hz;obtain⟨n1,h1⟩:=qmn (x:=z.natAbs) (y:=w.natAbs) (by omega) (by omega) (by omega);obtain⟨n2,h2⟩:=q63 (s:=!(decide (z<0)==decide (w<0))) hk hq;obtain⟨n3,h3⟩:=q63 (s:=decide (z<0)) hk hr;refine Ev.of (n1+n2+n3) λn hn=>?_;rw[qux];simp (disch:=omega) only[h1,h2,h3,show((0:Int) !=0)=false from rfl,rr];rw[sg_div z w,sg_mod z w]
theorem pow2_10(k:Nat):2^k<=1000000000^k:=EE (by omega) k
theorem qhs{z:Int}{k:Nat}(hk:k<=10000000000)(hz:z.natAbs<2^k):Ev En 85 [zl z,zb z] [sF (qu z)]:=by
 have lz:=q4i hz;have lt:=q9i hz;obtain⟨n1,h1⟩:=quy (x:=z.natAbs) (k:=k) (AP hz (pow2_10 k)) (by omega) (by omega) (by omega);refine Ev.of n1 λn hn=>?_;rw[quz];unfold qu;by_cases h:z<0
 ·rw[Af h,if_pos h];simp (disch:=omega) only[h1,rr];rw[q1c,Ad,Ab,show({ data:=#[45] }:ByteArray)=txt [45] from rfl,q5m];rfl
 ·rw[Ad h,if_neg h];simp (disch:=omega) only[h1,rr]
theorem qmo{n:Nat}(l:List UInt8):evF En (n+3) 215 [sF l,.str { data:=#[45] }]=some [sF (if l.head?=some 45 then l.tail else l),.bool (decide (l.head?=some 45))]:=by
 rw[qv0,qv1,qv2,show({ data:=#[45] }:ByteArray)=txt [45] from rfl,q1c,q1c];cases l with
 |nil=>rfl
 |cons c t =>
  rw[Af (by simp;omega),Ac,q1v (by simp),Ae,q5n,q3d];simp only[Ae,Aj,q41];by_cases hc:c=45
  ·subst hc;rw[Af (by simp),Am,Ab];simp (disch:=omega) only[q5n,rr];simp
  ·rw[Ad (by simpa using hc),AV,Ac];simp only[rr];simp[hc]
theorem qce{l:List UInt8}{z:Int}(h:pz l=some z)(hl:l.length<=1000000000:=by omega):Ev En 177 [sF l] [zl z,zb z,.int .i64 0]:=by
 have hb:=qaj h;have lz:=q4i hb;have e:=q4q.1 h;have hcp:=λn=>@qmo n l;have hb':=qen (x:=z.natAbs);by_cases hz:z<0
 ·have hl2:l=45::ql z.natAbs:=by rw[e];unfold qu;rw[if_pos hz]
  obtain⟨n1,h1⟩:=qht (l:=ql z.natAbs) (q6n _) (by rw[hl2]at hl;simp at hl;omega) (by rw[q6o];omega);rw[q6o]at h1;obtain⟨n2,h2⟩:=q63 (s:=true) (by omega:4*l.length<=100000000000) hb;obtain⟨n3,h3⟩:=hb';refine Ev.of (n1+n2+n3+3) λn hn=>?_;obtain⟨n,rfl⟩:∃m,n=m+3:=⟨n-3,by omega⟩;rw[qcf,hcp];subst hl2;simp (disch:=omega) only[DT,AW,EF,h1,DI,show((0:Int) !=0)=false from rfl,h3,rr];have:(((q85 z.natAbs:Nat):Int)==0)=false:=by
   rw[Bn];have:=@qeo z.natAbs;omega
  rw[this];simp (disch:=omega) only[h2,rr];have:sg true z.natAbs=z:=by unfold sg;simp;omega
  rw[this]
 ·have hl2:l=ql z.natAbs:=by rw[e];unfold qu;rw[if_neg hz]
  have hc:canon l:=hl2▸q6n _;have h45:l.head?≠some 45:=λq=>by
   cases l with
   |nil=>cases q
   |cons c t=>simp at q;subst q;exact qhu hc
  obtain⟨n1,h1⟩:=qht (l:=l) hc hl (by rw[hl2,q6o];omega);have hv:vD l=z.natAbs:=by rw[hl2,q6o]
  rw[hv]at h1;obtain⟨n2,h2⟩:=q63 (s:=false) (by omega:4*l.length<=100000000000) hb;refine Ev.of (n1+n2+3) λn hn=>?_;obtain⟨n,rfl⟩:∃m,n=m+3:=⟨n-3,by omega⟩;rw[qcf,hcp,if_neg h45,Ad h45];simp (disch:=omega) only[h1,show((0:Int) !=0)=false from rfl,h2,rr];have:sg false z.natAbs=z:=by unfold sg;simp;omega
  rw[this]
theorem qmp{l:List UInt8}(h:pz l=none)(hl:l.length<=1000000000:=by omega):Ev En 177 [sF l] [.list 1 [],.bool false,.int .i64 10]:=by
 have hcp:=λn=>@qmo n l;by_cases h45:l.head?=some 45
 ·obtain⟨t,rfl⟩:∃t,l=45::t:=by
   cases l with
   |nil=>cases h45
   |cons c t=>simp at h45;subst h45;exact⟨t,rfl⟩
  simp only[Aq]at hl;by_cases hc:canon t
  ·have hv:vD t=0:=by
    apply BS;intro q;rw[pz_neg hc q]at h;cases h
   obtain⟨n1,h1⟩:=qht (l:=t) hc (by omega) (by rw[hv,q18];simp);rw[hv]at h1;obtain⟨n3,h3⟩:=qen (x:=0) (by rw[q18];simp);refine Ev.of (n1+n3+3) λn hn=>?_;obtain⟨n,rfl⟩:∃m,n=m+3:=⟨n-3,by omega⟩;rw[qcf,hcp];simp (disch:=omega) only[DT,AW,EF,h1,DI,show((0:Int) !=0)=false from rfl,h3,qeo.2 rfl,rr];rfl
  ·obtain⟨n1,h1⟩:=qmq (l:=t) hc (by omega);refine Ev.of (n1+3) λn hn=>?_;obtain⟨n,rfl⟩:∃m,n=m+3:=⟨n-3,by omega⟩;rw[qcf,hcp];simp (disch:=omega) only[DT,AW,EF,h1,DI,show((10:Int) !=0)=true from rfl,rr]
 ·have hc:¬ canon l:=λhc=>by rw[pz_pos hc]at h;cases h
  obtain⟨n1,h1⟩:=qmq (l:=l) hc hl;refine Ev.of (n1+3) λn hn=>?_;obtain⟨n,rfl⟩:∃m,n=m+3:=⟨n-3,by omega⟩;rw[qcf,hcp,if_neg h45,Ad h45];simp (disch:=omega) only[h1,show((10:Int) !=0)=true from rfl,rr]
theorem q1z(n:Nat):zb (n:Int)=.bool false:=by unfold zb;rw[Ad]
end
section
theorem b9_2:2<=1000000000:=by decide
abbrev wL(x:Nat):FV:=L64 (dg 1000000000 x)
theorem el1(z v:FV):qd 1 z [(0,v)]=[v]:=rfl
theorem el0(z:FV):qd 0 z []=[]:=rfl
theorem q8d(l:List Nat)(d:Nat):l.map d64++[FV.int .i64 (d:Int)]=(l++[d]).map d64:=by simp
theorem tmod9(x:Nat):Int.tmod (x:Int) 1000000000=((x%1000000000:Nat):Int):=rfl
theorem tdiv9(x:Nat):Int.tdiv (x:Int) 1000000000=((x / 1000000000:Nat):Int):=rfl
theorem rep64(k:Nat):List.replicate k (FV.int .i64 0)=(List.replicate k 0).map d64:=by rw[EQ];rfl
theorem mk8{k:Nat}(h:k<=1099511627776:=by omega):q1r 8 (k:Int)=some k:=by
 unfold q1r;rw[if_pos ⟨by omega,by omega,by omega⟩];simp
theorem set64{pre:List Nat}{d y:Nat}{r:List Nat}{i:Nat}(h:pre.length=i:=by omega):List.set ((pre++d::r).map d64) i (.int .i64 (y:Int))=(pre++y::r).map d64:=by
 rw[Bc,AQ,qb8 (by simpa using h),Bc,AQ]
theorem mid64{pre:List Nat}{d:Nat}{r:List Nat}{i:Nat}(h:pre.length=i):at' ((pre++d::r).map d64) i 0=some (.int .i64 (d:Int)):=by
 subst h;rw[q2a,CT (Ak _),Cn];rfl
theorem q7h{x:Nat}(h:x≠0):0<(dg 1000000000 x).length:=by
 rcases Bs (dg 1000000000 x).length with q | q
 ·exact absurd ((q52 b9_2).1 (BF q)) h
 ·exact q
theorem qf6{x y:Nat}(h:x<=y):(dg 1000000000 x).length<=(dg 1000000000 y).length:=by
 apply Dl;intro hlt;have:=qa7 b9_2 hlt;omega
theorem qol{n:Nat}{l0:List FV}:∀(k:Nat) (l:List Nat) (m:Nat),l.length=k->k<m->k<=1099511627776+1->q92.l1 n [] m [.list 1 l0,L64 l]=some [L64 (tz l)]:=by
 intro k
 induction k with
 |zero =>
  intro l m hl hm hk;obtain⟨m,rfl⟩:=qSx m;have:l=[]:=BF hl;subst this;rw[q92.q30];rfl
 |succ k ih =>
  intro l m hl hm hk;obtain⟨m,rfl⟩:=qSx m;obtain⟨r,d,rfl⟩:∃r d,l=r++[d]:=by
   rcases Dm l with h | ⟨r,d,h⟩
   ·subst h;simp at hl
   ·exact⟨r,d,by simpa using h⟩
  have hr:r.length=k:=by simpa using hl
  rw[q92.q30,Aa,Af,Ac,hl];have e1:w6 (((k+1:Nat):Int)-1)=(k:Int):=by rw[qk];omega
  have hat:at' ((r++[d]).map d64) k 0=some (.int .i64 (d:Int)):=by
   rw[q6d (by rw[hl];omega)];simp[<- hr]
  rw[e1,q9,Ae,hat,qi,Ae];by_cases h0:d=0
  ·subst h0;rw[show(((0:Nat):Int)==0)=true from rfl,Ac,q1v,Ae,qcr];have:List.drop 0 (List.take k ((r++[0]).map d64))=r.map d64:=by
    rw[Av,Bc,Ea (by simp[hr]),CU (by simp[hr])]
   rw[this];exact ih r m hr (by omega) (by omega)
  ·rw[show((d:Int)==0)=false from Bn.2 (by omega),Ab,qcs h0]
theorem q8e{n:Nat}{l:List Nat}(h:l.length<=1099511627776+1:=by omega)(hn:l.length<n:=by omega):evF En (n+1) 134 [L64 l]=some [L64 (tz l)]:=by
 rw[qom];exact qol l.length l n rfl hn h
theorem qf7{n i:Nat}{l:List Nat}:evF En (n+1) 211 [L64 l,.int .i64 (i:Int)]=some [.int .i64 ((l.getD i 0:Nat):Int)]:=by
 rw[qon,Aa];by_cases h:i<l.length
 ·rw[Af,Ac,q9 h,Ae,q6d h,qi,Ae,AG,Ag h];rfl
 ·rw[Ad,Ab,AG,DE (by omega)];rfl
theorem qit{n:Nat}{l0:List FV}:∀(x m:Nat) (pre:List Nat),x<m->x<18446744073709551616->pre.length+x<=1099511627776*18446744073709551616->pre.length+(dg 1000000000 x).length<=1099511627776 ->
  qa8.l2 n [] m [.list 1 l0,.int .u64 (x:Int),L64 pre]=some [L64 (pre++dg 1000000000 x)]:=by
 intro x
 induction x using Nat.strongRecOn with
 |_ x ih =>
  intro m pre hm hx hp0 hp;obtain⟨m,rfl⟩:=qSx m;rw[qa8.qt];by_cases h0:x=0
  ·subst h0;rw[Ad,Ab,q18,AM]
  ·have hlt:x / 1000000000<x:=Cv (by omega) (by omega);rw[q3h b9_2 h0,Aq]at hp;rw[Af,Ac,tmod9,q40,el1,Aa,q4c (by simp;omega),Ac,q8d,tdiv9,q1b,ih (x / 1000000000) hlt m (pre++[x%1000000000]) (by omega) (by omega) (by simp;omega) (by simp;omega)];rw[q3h b9_2 h0,Ap];rfl
theorem wof_ev{x:Nat}(hx:x<18446744073709551616):Ev En 102 [.int .u64 (x:Int)] [wL x]:=by
 refine Ev.of (x+1) λn hn=>?_;rw[qiu,el0];have hl:(dg 1000000000 x).length<=3:=q5i b9_2 (by omega);have:=qit (n:=n) (l0:=[]) x n [] (by omega) hx (by simp;omega) (by simp;omega);exact this
theorem qoo{n:Nat}{a:List Nat}{k:Nat}(ha:Dg 1000000000 a)(hk:k<1000000000)(hl:a.length<=1099511627775)(hn:a.length+3<=n){l1:List FV}:∀(d i m:Nat) (pre:List Nat) (c:Nat),i+d=a.length->d<m->pre.length=i->c<1000000000 ->
  q93.l3 n [] m [L64 a,.list 1 l1,.int .i64 (k:Int),.int .i64 (c:Int),L64 pre,.int .i64 (i:Int)]=some [L64 (tz (pre++mulL 1000000000 (a.drop i) k c))]:=by
 intro d
 induction d with
 |zero =>
  intro i m pre c hi hm hp hc;obtain⟨m,rfl⟩:=qSx m;obtain⟨n,rfl⟩:=qSx n;rw[q93.qm,Aa,Ad,Ab,el1,Aa,q4c (by simp;omega),Ac,q8d,q8e (by simp;omega) (by simp;omega)];simp only[Ae,Aj,qy];rw[AN (by omega)];rfl
 |succ d ih =>
  intro i m pre c hi hm hp hc;obtain⟨m,rfl⟩:=qSx m;have hia:i<a.length:=by omega
  have hx:=ha a[i] (Ah hia);have hcl:=qb9 hx hk hc;have hxk:a[i]*k<=999999999*999999999:=Cw (by omega) (by omega)
  rw[q93.qm,Aa,Af,Ac,q9 hia,Ae,q6d hia,qi,Ae,qba,q2n,el1,Aa,q4c (by simp;omega),Ac,tmod9,q8d,tdiv9,q40,qc,
   ih (i+1) m (pre++[(c+a[i]*k)%1000000000]) ((c+a[i]*k) / 1000000000) (by omega) (by omega) (by simp[hp]) (BI hcl),q1w hia,Ap]
  rfl
theorem small_run{n x k c:Nat}(hk:k<1000000000)(hc:c<1000000000)(hx:(dg 1000000000 x).length<=1099511627775)(hn:(dg 1000000000 x).length+3<=n):evF En (n+1) 223 [wL x,.int .i64 (k:Int),.int .i64 (c:Int)]=some [wL (x*k+c)]:=by
 rw[qop,el0];have:=qoo (n:=n) (q12 b9_2 x) hk hx hn (l1:=[]) (dg 1000000000 x).length 0 n [] c (by omega) (by omega) rfl hc;refine this.trans ?_;rw[At,Av,<- q39 b9_2 (qf8 _ k c (q12 b9_2 x) hk hc),qf9,q22 b9_2]
theorem qiv{n x k:Nat}(hk:k<1000000000:=by omega)(hx:(dg 1000000000 x).length<=1099511627775:=by omega)(hn:(dg 1000000000 x).length+3<=n:=by omega):evF En (n+1) 223 [wL x,.int .i64 (k:Int),.int .i64 0]=some [wL (x*k)]:=by
 have:=small_run (n:=n) (x:=x) (k:=k) (c:=0) hk (by omega) hx hn;rwa[Ay]at this
def pd(N:Nat)(a:List Nat):List Nat:=a++List.replicate (N-a.length) 0
theorem q8f{N:Nat}{a:List Nat}(h:a.length<=N:=by omega):(pd N a).length=N:=by simp[pd];omega
theorem qiw(B k:Nat):vl B (List.replicate k 0)=0:=by
 induction k with
 |zero=>rfl
 |succ k ih=>rw[Cc];simp[vl,ih]
theorem q8g(B N:Nat)(a:List Nat):vl B (pd N a)=vl B a:=by rw[pd,q6e,qiw];simp
theorem qa9{B N:Nat}{a:List Nat}(hB:2<=B)(h:Dg B a):Dg B (pd N a):=h.app λd hd=>by have:=CJ hd;omega
theorem qct{N i:Nat}{a:List Nat}(h:i<(pd N a).length):(pd N a)[i]=a.getD i 0:=by
 simp only[pd,List.getElem_append,AG];split
 ·rename_i h';rw[Ag h'];rfl
 ·rename_i h';rw[DE (by omega)];simp
theorem max_nat(a b:Nat):(if(a:Int)<(b:Int)then(b:Int)else(a:Int))=((max a b:Nat):Int):=by
 split <;> omega
theorem wcmp_loop{n:Nat}{a b:List Nat}{N:Nat}(hN:N<=1099511627776)(ha:Dg 1000000000 a)(hb:Dg 1000000000 b)(h1:a.length<=N)(h2:b.length<=N)(hn:1<=n):∀(i m:Nat),i<=N->i<m->(pd N a).drop i=(pd N b).drop i ->
  q94.l2 n [] m [L64 a,L64 b,.int .i64 ((i:Int)-1)]=some [.int .i64 (cmpN (vl 1000000000 a) (vl 1000000000 b))]:=by
 have la:=q8f h1;have lb:=q8f h2;have da:=qa9 (N:=N) b9_2 ha;have db:=qa9 (N:=N) b9_2 hb;intro i
 induction i with
 |zero =>
  intro m hi hm he;obtain⟨m,rfl⟩:=qSx m;rw[Av,Av]at he;have:vl 1000000000 a=vl 1000000000 b:=by rw[<- q8g _ N a,he,q8g]
  rw[q94.qt,Ad,Ab,this];simp[cmpN]
 |succ i ih =>
  intro m hi hm he;obtain⟨m,rfl⟩:=qSx m;obtain⟨n,rfl⟩:=qSx n;have e0:(((i+1:Nat):Int)-1)=(i:Int):=by omega
  have hia:i<(pd N a).length:=by omega
  have hib:i<(pd N b).length:=by omega
  rw[q94.qt,e0,Af,Ac];simp only[qf7,Ae,Aj,qi];have ea:=qct hia;have eb:=qct hib;have sa:pd N a=(pd N a).take i++(pd N a)[i]::(pd N a).drop (i+1):=by rw[<- q1w hia,BW]
  have sb:pd N b=(pd N b).take i++(pd N b)[i]::(pd N b).drop (i+1):=by rw[<- q1w hib,BW]
  have ta:Dg 1000000000 ((pd N a).take i):=λd hd=>da d (CL hd);have tb:Dg 1000000000 ((pd N b).take i):=λd hd=>db d (CL hd);have tl:((pd N a).take i).length=((pd N b).take i).length:=by rw[BC,BC,la,lb]
  rw[<- ea,<- eb];by_cases hlt:(pd N a)[i]<(pd N b)[i]
  ·rw[Af,Ac];have:=qcu (b:=1000000000) (by omega) ta tb tl hlt ((pd N b).drop (i+1));rw[<- sb,<- he,<- sa,q8g,q8g]at this;unfold cmpN;rw[if_pos this]
  ·rw[Ad,Ab];by_cases hgt:(pd N b)[i]<(pd N a)[i]
   ·rw[Af,Ac];have:=qcu (b:=1000000000) (by omega) tb ta tl.symm hgt ((pd N a).drop (i+1));rw[<- sa,he,<- sb,q8g,q8g]at this;unfold cmpN;rw[if_neg (by omega),if_pos this]
   ·rw[Ad,Ab,show w6 ((i:Int)-1)=(i:Int)-1 from qk];have heq:(pd N a)[i]=(pd N b)[i]:=by omega
    exact ih m (by omega) (by omega) (by rw[q1w hia,q1w hib,heq,he])
theorem qfa{n x y:Nat}(hx:(dg 1000000000 x).length<=1099511627776:=by omega)(hy:(dg 1000000000 y).length<=1099511627776:=by omega)(hn:(dg 1000000000 x).length+(dg 1000000000 y).length+1<=n:=by omega):evF En (n+1) 164 [wL x,wL y]=some [.int .i64 (cmpN x y)]:=by
 rw[qoq,Aa,Aa,max_nat,show ∀k:Nat,k<=1099511627776->w6 ((k:Int)-1)=(k:Int)-1 from λk hk=>qk]
 ·have:=wcmp_loop (n:=n) (N:=max (dg 1000000000 x).length (dg 1000000000 y).length) (by omega) (q12 b9_2 x) (q12 b9_2 y) (by omega) (by omega) (by omega) (max (dg 1000000000 x).length (dg 1000000000 y).length) n (Ak _) (by omega)
   (by rw[AN (by rw[q8f];exact Ak _),AN (by rw[q8f];exact Ak _)])
  rw[q22 b9_2,q22 b9_2]at this;exact this
 ·omega
theorem wadd_loop{n:Nat}{a b:List Nat}{N:Nat}(hN:N<=1099511627775)(hNe:N=max a.length b.length)(ha:Dg 1000000000 a)(hb:Dg 1000000000 b)(hn:N+3<=n){l2:List FV}:∀(d i m:Nat) (pre:List Nat) (c:Nat),i+d=N->d<m->pre.length=i->c<=1 ->
  q7i.l4 n [] m [L64 a,L64 b,.list 1 l2,L64 pre,.int .i64 (c:Int),.int .i64 (i:Int)]=some [L64 (tz (pre++addL 1000000000 ((pd N a).drop i) ((pd N b).drop i) c))]:=by
 have la:=q8f (N:=N) (a:=a) (by omega);have lb:=q8f (N:=N) (a:=b) (by omega);have da:=qa9 (N:=N) b9_2 ha;have db:=qa9 (N:=N) b9_2 hb;obtain⟨n,rfl⟩:=qSx n;intro d
 induction d with
 |zero =>
  intro i m pre c hi hm hp hc;obtain⟨m,rfl⟩:=qSx m;rw[q7i.q14];simp only[Aa];rw[Ad,Ab,Ad,Ab,el1,q4c (by simp;omega),Ac,q8d,q8e (by simp;omega) (by simp;omega)];simp only[Ae,Aj,qy];rw[AN (by omega)];rfl
 |succ d ih =>
  intro i m pre c hi hm hp hc;obtain⟨m,rfl⟩:=qSx m;have hia:i<(pd N a).length:=by omega
  have hib:i<(pd N b).length:=by omega
  have ea:=qct hia;have eb:=qct hib;have hx:=da _ (Ah hia);have hy:=db _ (Ah hib);have rest:q7i.l4 (n+1) [] m [L64 a,L64 b,.list 1 l2,L64 (pre++[(c+(pd N a)[i]+(pd N b)[i])%1000000000]),.int .i64 (((c+(pd N a)[i]+(pd N b)[i]) / 1000000000:Nat):Int),.int .i64 ((i+1:Nat):Int)]=some [L64 (tz (pre++addL 1000000000 ((pd N a).drop i) ((pd N b).drop i) c))]:=by
   rw[ih (i+1) m (pre++[(c+(pd N a)[i]+(pd N b)[i])%1000000000]) ((c+(pd N a)[i]+(pd N b)[i]) / 1000000000) (by omega) (by omega) (by simp[hp]) (by
    have:=BI (m:=c+(pd N a)[i]+(pd N b)[i]) (n:=1000000000) (k:=2) (by omega)
    omega),q1w hia,q1w hib,Ap]
   rfl
  rw[q7i.q14];simp only[qf7,Ae,Aj,qi];rw[<- ea,<- eb,q2n (show c+(pd N a)[i]<9223372036854775808 by omega),q2n (show c+(pd N a)[i]+(pd N b)[i]<9223372036854775808 by omega),tmod9,tdiv9,q40,el1,Aa,Aa,Aa,q4c (by simp;omega),q8d,qc];simp only[Ac];by_cases h1:i<a.length
  ·rw[Af,Ac];exact rest
  ·rw[Ad,Ab,Af,Ac];exact rest
theorem wadd_ev{x y:Nat}(hx:(dg 1000000000 x).length<=1099511627775)(hy:(dg 1000000000 y).length<=1099511627775):Ev En 163 [wL x,wL y] [wL (x+y)]:=by
 refine Ev.of ((dg 1000000000 x).length+(dg 1000000000 y).length+3) λn hn=>?_;rw[qor,el0];have:=wadd_loop (n:=n) (N:=max (dg 1000000000 x).length (dg 1000000000 y).length) (by omega) rfl (q12 b9_2 x) (q12 b9_2 y) (by omega) (l2:=[]) (max (dg 1000000000 x).length (dg 1000000000 y).length) 0 n [] 0 (by omega) (by omega) rfl (by omega);refine this.trans ?_;rw[At,Av,Av,<- q39 b9_2 (qfb b9_2 _ _ 0 (qa9 b9_2 (q12 b9_2 x)) (qa9 b9_2 (q12 b9_2 y)) (by omega)),qfc _ _ _ (by rw[q8f,q8f];exact Ak _),q8g,q8g,q22 b9_2,q22 b9_2,Ay]
theorem qix(b:List Nat)(i:Nat):(b.drop i).headD 0=b.getD i 0:=by
 rw[List.headD_eq_head?_getD,List.head?_drop,AG]
theorem wsub_loop{n:Nat}{a b:List Nat}(ha:Dg 1000000000 a)(hb:Dg 1000000000 b)(hl:a.length<=1099511627775)(hn:a.length+3<=n){l2:List FV}:∀(d i m:Nat) (pre:List Nat) (c:Nat),i+d=a.length->d<m->pre.length=i->c<=1 ->
  q8h.l6 n [] m [L64 a,L64 b,.list 1 l2,L64 pre,.int .i64 (c:Int),.int .i64 (i:Int)]=some [L64 (tz (pre++(subL 1000000000 (a.drop i) (b.drop i) c).1)),.int .i64 0]:=by
 obtain⟨n,rfl⟩:=qSx n;intro d
 induction d with
 |zero =>
  intro i m pre c hi hm hp hc;obtain⟨m,rfl⟩:=qSx m;rw[q8h.q2o,Aa,Ad,Ab,q8e];simp only[Ae,Aj,qy];rw[AN (by omega),subL,AM]
 |succ d ih =>
  intro i m pre c hi hm hp hc;obtain⟨m,rfl⟩:=qSx m;have hia:i<a.length:=by omega
  have hx:=ha a[i] (Ah hia);have hy:b.getD i 0<1000000000:=by
   rw[<- qix];exact Dg.headD (by omega) λd hd=>hb d (Cy hd)
  rw[q8h.q2o];simp only[Aa,q9 hia,q6d hia,qf7,Ae,Aj,qi];rw[Af,Ac,qk (x:=((a[i]:Nat):Int)-_) (by omega) (by omega),qk (x:=((a[i]:Nat):Int)-_-_) (by omega) (by omega),qc];rw[q1w hia,subL,qix,List.tail_drop];by_cases hlt:a[i]<b.getD i 0+c
  ·have e:(a[i]:Int)-(b.getD i 0:Nat)-c+1000000000=((1000000000+a[i]-b.getD i 0-c:Nat):Int):=by omega
   rw[Af,Ac,e,q40,el1,q4c (by simp;omega),Ac,q8d,if_pos hlt];have:=ih (i+1) m (pre++[1000000000+a[i]-b.getD i 0-c]) 1 (by omega) (by omega) (by simp[hp]) (by omega);refine this.trans ?_;rw[AK (show 1000000000+a[i]-b.getD i 0-c<1000000000 by omega),Ap];rfl
  ·have e:(a[i]:Int)-(b.getD i 0:Nat)-c=((a[i]-b.getD i 0-c:Nat):Int):=by omega
   rw[Ad,Ab,e,el1,q4c (by simp;omega),Ac,q8d,if_neg hlt];have:=ih (i+1) m (pre++[a[i]-b.getD i 0-c]) 0 (by omega) (by omega) (by simp[hp]) (by omega);refine this.trans ?_;rw[show(1000000000+a[i]-b.getD i 0-c)%1000000000=a[i]-b.getD i 0-c by omega,Ap];rfl
theorem qfd{n x y:Nat}(hyx:y<=x:=by omega)(hx:(dg 1000000000 x).length<=1099511627775:=by omega)(hn:(dg 1000000000 x).length*2+4<=n:=by omega):evF En (n+1) 165 [wL x,wL y]=some [wL (x-y),.int .i64 0]:=by
 have hlen:=qf6 hyx;obtain⟨n,rfl⟩:=qSx n;rw[qos,qfa];simp only[Ae,Aj,qi];rw[Ad (by unfold cmpN;rw[if_neg (by omega)];split <;> omega),Ab,el0];have:=wsub_loop (n:=n+1) (q12 b9_2 x) (q12 b9_2 y) hx (by omega) (l2:=[]) (dg 1000000000 x).length 0 (n+1) [] 0 (by omega) (by omega) rfl (by omega);refine this.trans ?_;rw[At,Av,Av];obtain⟨g1,g2,g3,g4⟩:=qfe b9_2 (dg 1000000000 x) (dg 1000000000 y) 0 (q12 b9_2 x) (q12 b9_2 y) (by omega) hlen;rw[q22 b9_2,q22 b9_2]at g1;have hv:=q4m (by omega) g2;rw[g3]at hv;have:(subL 1000000000 (dg 1000000000 x) (dg 1000000000 y) 0).2=0:=by
  rcases Dn 0 (subL 1000000000 (dg 1000000000 x) (dg 1000000000 y) 0).2 with q | q
  ·have e:(subL 1000000000 (dg 1000000000 x) (dg 1000000000 y) 0).2=1:=by omega
   rw[e]at g1;omega
  ·omega
 rw[this]at g1;rw[<- q39 b9_2 g2];have e:vl 1000000000 (subL 1000000000 (dg 1000000000 x) (dg 1000000000 y) 0).1=x-y:=by omega
 rw[e]
theorem wmul_row{n m0:Nat}{a b:List Nat}(hb:Dg 1000000000 b)(hl:a.length+b.length<=1099511627776){l1:List FV}{x i:Nat}(hx:x<1000000000)(hia:i<a.length)(hai:a[i]=x):∀(e:List Nat) (k m:Nat) (pre acc:List Nat) (c:Nat),b.drop k=e->k+e.length=b.length->e.length<m->pre.length=i+k->e.length<acc.length->Dg 1000000000 acc->c<1000000000 ->
  q3q.l9 n [m0] m [L64 a,L64 b,.list 1 l1,L64 (pre++acc),.int .i64 (i:Int),.int .i64 (c:Int),.int .i64 (k:Int)] =
   q3q.l5 n [] m0 [L64 a,L64 b,.list 1 l1,L64 (pre++maRow 1000000000 acc e x c),.int .i64 ((i+1:Nat):Int)]:=by
 intro e
 induction e with
 |nil =>
  intro k m pre acc c hk hke hm hp hacc hd hc;obtain⟨m,rfl⟩:=qSx m;simp only[Bf,Ay]at hke;obtain⟨h,t,rfl⟩:∃h t,acc=h::t:=by
   cases acc with
   |nil=>simp at hacc
   |cons h t=>exact⟨h,t,rfl⟩
  have hlt:i+b.length<(pre++h::t).length:=by simp;omega
  rw[q3q.q3r,Aa,Ad,Ab,q2n,Aa,q9 hlt,Ae,set64,qc];rfl
 |cons y e ih =>
  intro k m pre acc c hk hke hm hp hacc hd hc;obtain⟨m,rfl⟩:=qSx m;obtain⟨h,t,rfl⟩:∃h t,acc=h::t:=by
   cases acc with
   |nil=>simp at hacc
   |cons h t=>exact⟨h,t,rfl⟩
  simp only[Aq]at hke hm hacc;have hkb:k<b.length:=by omega
  have hy:b[k]=y/\b.drop (k+1)=e:=by
   rw[q1w hkb]at hk;cases hk;exact⟨rfl,rfl⟩
  have hyl:y<1000000000:=by rw[<- hy.1];exact hb _ (Ah hkb)
  obtain⟨hh,ht⟩:=hd.tail;have hlt:i+k<(pre++h::t).length:=by simp;omega
  have hxy:x*y<=999999999*999999999:=Cw (by omega) (by omega);rw[q3q.q3r,q2n];simp only[Aa,q9 hlt,mid64 (show pre.length=i+k by omega),q9 hia,q6d hia,q9 hkb,q6d hkb,Ae,qi,hy.1,hai];rw[Af,Ac,qba,q2n,q2n,tmod9,tdiv9,q40,set64,qc,Bl c h];have:=ih (k+1) m (pre++[(c+(h+x*y))%1000000000]) t ((c+(h+x*y)) / 1000000000) hy.2 (by omega) (by omega) (by simp;omega) (by omega) ht (BI (by omega));rw[Ap]at this;refine this.trans ?_;simp only[maRow,Ap];rfl
theorem qot{n:Nat}{a b:List Nat}(ha:Dg 1000000000 a)(hb:Dg 1000000000 b)(hl:a.length+b.length<=1099511627776)(hn:a.length+b.length+3<=n){l1:List FV}:∀(e:List Nat) (i m:Nat) (pre w:List Nat),a.drop i=e->i+e.length=a.length->e.length<m->pre.length=i->w.length=b.length->Dg 1000000000 w ->
  q3q.l5 n [] m [L64 a,L64 b,.list 1 l1,L64 (pre++(w++List.replicate e.length 0)),.int .i64 (i:Int)]=some [L64 (tz (pre++mulO 1000000000 e (w++List.replicate e.length 0) b))]:=by
 intro e
 induction e with
 |nil =>
  intro i m pre w hi hie hm hp hw hd;obtain⟨m,rfl⟩:=qSx m;obtain⟨n,rfl⟩:=qSx n;simp only[Bf,Ay]at hie;rw[q3q.q1o,Aa,Ad,Ab,q8e (by simp;omega) (by simp;omega)];simp only[Ae,Aj,qy,mulO]
 |cons x e ih =>
  intro i m pre w hi hie hm hp hw hd;obtain⟨m,rfl⟩:=qSx m;simp only[Aq]at hie hm;have hia:i<a.length:=by omega
  have hx:a[i]=x/\a.drop (i+1)=e:=by
   rw[q1w hia]at hi;cases hi;exact⟨rfl,rfl⟩
  have hxl:x<1000000000:=by rw[<- hx.1];exact ha _ (Ah hia)
  rw[q3q.q1o,Aa,Af,Ac];have hrow:=wmul_row (n:=n) (m0:=m) (a:=a) hb hl (l1:=l1) hxl hia hx.1 b 0 n pre (w++List.replicate (e.length+1) 0) 0 rfl (by omega) (by omega) (by omega) (by simp;omega) (hd.app (λd h=>by have:=CJ h;omega)) (by omega);simp only[Aq];rw[show((0:Nat):Int)=0 from rfl]at hrow;rw[hrow];obtain⟨w',h1,h2,h3,h4⟩:=qcv b9_2 w b (List.replicate e.length 0) x 0 hw hd hb hxl (by omega);rw[Cc,h1];cases w' with
  |nil=>simp at h2
  |cons d t =>
   obtain⟨hd1,ht⟩:=h3.tail;have:=ih (i+1) m (pre++[d]) t hx.2 (by omega) (by omega) (by simp[hp]) (by simpa using h2) ht;rw[Ap]at this;refine this.trans ?_;simp only[mulO,h1,Al,Ap];rfl
theorem wmul_ev{x y:Nat}(h:(dg 1000000000 x).length+(dg 1000000000 y).length<=1099511627775):Ev En 103 [wL x,wL y] [wL (x*y)]:=by
 refine Ev.of ((dg 1000000000 x).length+(dg 1000000000 y).length+3) λn hn=>?_;rw[qou,Aa,Aa];by_cases hx0:x=0
 ·subst hx0;rw[Do];simp only[wL,q18];rfl
 ·by_cases hy0:y=0
  ·subst hy0;rw[Cj];have:=q7h hx0;rw[show(((dg 1000000000 x).length:Int)==0)=false from Bn.2 (by omega),Ab];simp only[wL,q18];rfl
  ·have p1:=q7h hx0;have p2:=q7h hy0;rw[show(((dg 1000000000 x).length:Int)==0)=false from Bn.2 (by omega),Ab,show(((dg 1000000000 y).length:Int)==0)=false from Bn.2 (by omega),Ab,q2n,mk8,Ae,q1v (Ak _),Ae,rep64];have:=qot (n:=n) (q12 b9_2 x) (q12 b9_2 y) (by omega) (by omega) (l1:=[]) (dg 1000000000 x) 0 n [] (List.replicate (dg 1000000000 y).length 0) rfl (by omega) (by omega) rfl (by simp) (λd h=>by have:=CJ h;omega);rw[At,Eb,At,Bo (dg 1000000000 y).length,show((0:Nat):Int)=0 from rfl]at this;refine this.trans ?_;obtain⟨g1,g2,_⟩:=qff b9_2 (dg 1000000000 x) (List.replicate (dg 1000000000 y).length 0) (dg 1000000000 y) (by simp) (λd h=>by have:=CJ h;omega) (q12 b9_2 y) (q12 b9_2 x);rw[Eb,Bo (dg 1000000000 y).length]at g1 g2;rw[<- q39 b9_2 g2,g1,qiw,q22 b9_2,q22 b9_2,AJ]
theorem qov{n:Nat}{a:List Nat}(ha:Dg 1000000000 a)(hl:a.length<=1099511627776)(hv:vl 1000000000 a<18446744073709551616):∀(i m:Nat),i<=a.length->i<m ->
  q95.l3 n [] m [L64 a,.int .u64 ((vl 1000000000 (a.drop i):Nat):Int),.int .i64 ((i:Int)-1)]=some [.int .u64 ((vl 1000000000 a:Nat):Int)]:=by
 intro i
 induction i with
 |zero =>
  intro m hi hm;obtain⟨m,rfl⟩:=qSx m;rw[q95.qm,Ad,Ab,Av]
 |succ i ih =>
  intro m hi hm;obtain⟨m,rfl⟩:=qSx m;have hia:i<a.length:=by omega
  have e0:(((i+1:Nat):Int)-1)=(i:Int):=by omega
  have hs:vl 1000000000 (a.drop i)<=vl 1000000000 a:=by
   have:=q6e 1000000000 (a.take i) (a.drop i);rw[BW]at this;have h1:1<=1000000000^(a.take i).length:=Nat.one_le_pow _ _ (by omega);have h2:=AR (vl 1000000000 (a.drop i)) h1;omega
  have hd:vl 1000000000 (a.drop i)=a[i]+1000000000*vl 1000000000 (a.drop (i+1)):=by rw[q1w hia];rfl
  have hx:=ha _ (Ah hia);rw[q95.qm,e0,Af,Ac,Aa,q9 hia,Ae,q6d hia,qi,Ae,q1b,show(1000000000:Int)=((1000000000:Nat):Int) from rfl,qbb,q7j,show w6 ((i:Int)-1)=(i:Int)-1 from qk];have:=ih m (by omega) (by omega);rw[hd]at this;rw[AC,Bo];exact this
theorem qiy{n x:Nat}(hx:x<18446744073709551616)(hn:(dg 1000000000 x).length<n:=by omega):evF En (n+1) 185 [wL x]=some [.int .u64 (x:Int)]:=by
 have hl:(dg 1000000000 x).length<=3:=q5i b9_2 (by omega);rw[qow,Aa,show w6 (((dg 1000000000 x).length:Int)-1)=((dg 1000000000 x).length:Int)-1 from qk];have:=qov (n:=n) (q12 b9_2 x) (by omega) (by rw[q22 b9_2];exact hx) (dg 1000000000 x).length n (Ak _) (by omega);rw[AN (Ak _),q22 b9_2]at this;exact this
theorem wgcd_loop{n:Nat}:∀(y x m:Nat),y<m->qaa.l1 n [] m [.int .u64 (x:Int),.int .u64 (y:Int)]=some [.int .u64 ((Nat.gcd x y:Nat):Int)]:=by
 intro y
 induction y using Nat.strongRecOn with
 |_ y ih =>
  intro x m hm;obtain⟨m,rfl⟩:=qSx m;rw[qaa.q30];rcases Bs y with h0 | h0
  ·subst h0;rw[Ad,Ab,Ec]
  ·have hlt:=AL x h0;rw[Af,Ac,Ad,Ab,show Int.tmod (x:Int) (y:Int)=((x%y:Nat):Int) from rfl,ih (x%y) hlt y m (by omega),Cz y,<- Ed,Cz]
theorem wone_loop{n:Nat}{a:List Nat}{k:Nat}(ha:Dg 1000000000 a)(hk0:0<k)(hk:k<1000000000)(hl:a.length<=1099511627776)(hn:a.length+k+6<=n){l1 l2:List FV}:∀(i m:Nat),i<=a.length->i<m ->
  q96.l4 n [] m [L64 a,.list 1 l1,.list 1 l2,.int .i64 (k:Int),L64 (List.replicate i 0++(divL 1000000000 k (a.drop i)).2),.int .i64 (((divL 1000000000 k (a.drop i)).1:Nat):Int),.int .i64 ((i:Int)-1)] =
   some [L64 (tz (divL 1000000000 k a).2),wL (divL 1000000000 k a).1]:=by
 intro i
 induction i with
 |zero =>
  intro m hi hm;obtain⟨m,rfl⟩:=qSx m;obtain⟨n,rfl⟩:=qSx n;obtain⟨g1,g2,g3,g4⟩:=q6f hk0 a ha;have hof:evF En (n+1) 102 [.int .u64 (((divL 1000000000 k a).1:Nat):Int)]=some [wL (divL 1000000000 k a).1]:=by
   rw[qiu,el0];have hl:(dg 1000000000 (divL 1000000000 k a).1).length<=3:=q5i b9_2 (by omega);have:=qit (n:=n) (l0:=[]) (divL 1000000000 k a).1 n [] (by omega) (by omega) (by simp;omega) (by simp;omega);exact this
  rw[q96.q14,Ad,Ab,Av,Co,At,q8e,q1b,hof];simp only[Ae,Aj,qy]
 |succ i ih =>
  intro m hi hm;obtain⟨m,rfl⟩:=qSx m;have hia:i<a.length:=by omega
  have hx:=ha a[i] (Ah hia);have hda:Dg 1000000000 (a.drop (i+1)):=λd hd=>ha d (Cy hd);obtain⟨g1,g2,g3,g4⟩:=q6f hk0 (a.drop (i+1)) hda;have ih:=ih m (by omega) (by omega);rw[q1w hia]at ih;simp only[divL]at ih;generalize (divL 1000000000 k (a.drop (i+1))).1=r at g1 g2 ih ⊢;generalize (divL 1000000000 k (a.drop (i+1))).2=q at g1 g3 g4 ih ⊢;have hq:q.length=a.length-(i+1):=by rw[g4,DF]
  have hlen:(List.replicate (i+1) 0++q).length=a.length:=by simp[hq];omega
  have e0:(((i+1:Nat):Int)-1)=(i:Int):=by omega
  have e2:Int.tdiv ((r*1000000000+a[i]:Nat):Int) (k:Int)=(((r*1000000000+a[i]) / k:Nat):Int):=rfl;have e3:Int.tmod ((r*1000000000+a[i]:Nat):Int) (k:Int)=(((r*1000000000+a[i])%k:Nat):Int):=rfl;have hdig:(r*1000000000+a[i]) / k<1000000000:=by
   rw[BJ hk0];have:(r+1)*1000000000<=k*1000000000:=AR _ g2;omega
  rw[q96.q14,e0,Af,Ac,show decide ((k:Int)=0)=false from Ad];simp only[Aa,hlen,q9 hia,Ae,q6d hia,qi,Ab];rw[show(1000000000:Int)=((1000000000:Nat):Int) from rfl,qba,q2n,e2,e3,q40];have hset:List.set ((List.replicate (i+1) 0++q).map d64) i (.int .i64 (((r*1000000000+a[i]) / k:Nat):Int))=(List.replicate i 0++((r*1000000000+a[i]) / k)::q).map d64:=by
   have hr:List.replicate (i+1) 0++q=List.replicate i 0++(0::q):=by rw[DG,Ap];rfl
   rw[hr,set64 (by simp)]
  rw[hset,show w6 ((i:Int)-1)=(i:Int)-1 from qk];exact ih
theorem div_key{x k q r:Nat}(hk:0<k)(e:x=k*q+r)(hr:r<k):x / k=q/\x%k=r:=by
 subst e;exact⟨by rw[ER hk,CV hr,Ay],by rw[Ee,AK hr]⟩
theorem wone_run{n x k:Nat}(hk0:0<k)(hk:k<1000000000)(hx:(dg 1000000000 x).length<=1099511627776)(hn:(dg 1000000000 x).length+k+6<=n):evF En (n+1) 220 [wL x,.int .i64 (k:Int)]=some [wL (x / k),wL (x%k)]:=by
 rw[qox,Aa,mk8,Ae,q1v (Ak _),Ae,rep64,show w6 (((dg 1000000000 x).length:Int)-1)=((dg 1000000000 x).length:Int)-1 from qk];have:=wone_loop (n:=n) (q12 b9_2 x) hk0 hk hx hn (l1:=[]) (l2:=[]) (dg 1000000000 x).length n (Ak _) (by omega);rw[AN (Ak _)]at this;simp only[divL,AM]at this;rw[show(((0:Nat):Int))=0 from rfl]at this;rw[this];obtain⟨g1,g2,g3,g4⟩:=q6f hk0 (dg 1000000000 x) (q12 b9_2 x);rw[q22 b9_2]at g1;rw[<- q39 b9_2 g3];obtain⟨h1,h2⟩:=div_key hk0 g1 g2;rw[h1,h2]
theorem qoy{n x d:Nat}(hd:d<1000000000)(hx:(dg 1000000000 x).length<=1099511627775)(hn:(dg 1000000000 x).length+3<=n):evF En (n+1) 221 [wL x,.int .i64 (d:Int)]=some [wL (x*1000000000+d)]:=by
 obtain⟨n,rfl⟩:=qSx n;rw[qoz,el1,Aa,q4c (by simp;omega),Ac,show [FV.int .i64 (d:Int)]++(dg 1000000000 x).map d64=(d::dg 1000000000 x).map d64 from rfl,q8e (by simp;omega) (by simp;omega)];simp only[Ae,Aj,qy];have hD:Dg 1000000000 (d::dg 1000000000 x):=Dg.cons hd (q12 b9_2 x);rw[<- q39 b9_2 hD];have:vl 1000000000 (d::dg 1000000000 x)=x*1000000000+d:=by simp only[vl];rw[q22 b9_2];omega
 rw[this]
theorem qp0{n x y:Nat}(hy0:0<y)(hx:(dg 1000000000 x).length<=549755813000)(hy:(dg 1000000000 y).length<=549755813000)(hn:(dg 1000000000 x).length+(dg 1000000000 y).length+6<=n):∀(k lo hi m:Nat),hi-lo=k->k<m->lo<=x / y->x / y<=hi->hi<=999999999 ->
  q97.l3 n [] m [wL x,wL y,.int .i64 (lo:Int),.int .i64 (hi:Int)]=some [.int .i64 ((x / y:Nat):Int)]:=by
 obtain⟨n,rfl⟩:=qSx n;intro k
 induction k using Nat.strongRecOn with
 |_ k ih =>
  intro lo hi m hk hm h1 h2 h3;obtain⟨m,rfl⟩:=qSx m;rw[q97.qm];by_cases hlt:lo<hi
  ·have hmid:Int.tdiv ((lo+hi+1:Nat):Int) 2=(((lo+hi+1) / 2:Nat):Int):=rfl;have hml:(dg 1000000000 (y*((lo+hi+1) / 2))).length<=(dg 1000000000 y).length+1:=by
    apply q5i b9_2;rw[Ax];exact Nat.mul_lt_mul'' (q98 b9_2 y) (by omega)
   rw[Af,Ac,q2n,qc,hmid,q40,qiv];simp only[Ae,Aj,qy];rw[qfa];simp only[Ae,Aj,qi];by_cases hle:y*((lo+hi+1) / 2)<=x
   ·have:(lo+hi+1) / 2<=x / y:=by rw[FF hy0,AC];exact hle
    rw[Af (by unfold cmpN;split <;> (try split) <;> omega),Ac];exact ih (hi-(lo+hi+1) / 2) (by omega) ((lo+hi+1) / 2) hi m rfl (by omega) this h2 h3
   ·have:x / y<(lo+hi+1) / 2:=by rw[BJ hy0,AC];omega
    rw[Ad (by unfold cmpN;rw[if_neg (by omega),if_pos (by omega)];omega),Ab,show w6 ((((lo+hi+1) / 2:Nat):Int)-1)=(((lo+hi+1) / 2-1:Nat):Int) by rw[qk];omega];exact ih ((lo+hi+1) / 2-1-lo) (by omega) lo ((lo+hi+1) / 2-1) m rfl (by omega) h1 (by omega) (by omega)
  ·rw[Ad,Ab];have:lo=x / y:=by omega
   rw[this]
theorem times_run{n x y:Nat}(hy0:0<y)(hxy:x / y<1000000000)(hx:(dg 1000000000 x).length<=549755813000)(hy:(dg 1000000000 y).length<=549755813000)(hn:(dg 1000000000 x).length+(dg 1000000000 y).length+1000000006<=n) :
  evF En (n+1) 222 [wL x,wL y]=some [.int .i64 ((x / y:Nat):Int)]:=by
 rw[qp1];exact qp0 (n:=n) hy0 hx hy (by omega) 999999999 0 999999999 n rfl (by omega) (BP _) (by omega) (by omega)
theorem wdiv_loop{n:Nat}{a:List Nat}{y:Nat}(ha:Dg 1000000000 a)(hy0:0<y)(hl:a.length<=549755812000)(hyl:(dg 1000000000 y).length<=549755812000)(hn:a.length+(dg 1000000000 y).length*4+1000000026<=n){l2 l3:List FV}:∀(i m:Nat),i<=a.length->i<m ->
  q99.l9 n [] m [L64 a,wL y,.list 1 l2,.list 1 l3,wL (divL 1000000000 y (a.drop i)).1,L64 (List.replicate i 0++(divL 1000000000 y (a.drop i)).2),.int .i64 ((i:Int)-1)] =
   some [L64 (tz (divL 1000000000 y a).2),wL (divL 1000000000 y a).1,.int .i64 0]:=by
 obtain⟨n,rfl⟩:=qSx n;intro i
 induction i with
 |zero =>
  intro m hi hm;obtain⟨m,rfl⟩:=qSx m;obtain⟨g1,g2,g3,g4⟩:=q6f hy0 a ha;rw[q99.q3r,Ad,Ab,Av,Co,At,q8e];simp only[Ae,Aj,qy]
 |succ i ih =>
  intro m hi hm;obtain⟨m,rfl⟩:=qSx m;have hia:i<a.length:=by omega
  have hx:=ha a[i] (Ah hia);have hda:Dg 1000000000 (a.drop (i+1)):=λd hd=>ha d (Cy hd);obtain⟨g1,g2,g3,g4⟩:=q6f hy0 (a.drop (i+1)) hda;have ih:=ih m (by omega) (by omega);rw[q1w hia]at ih;simp only[divL]at ih;generalize (divL 1000000000 y (a.drop (i+1))).1=r at g1 g2 ih ⊢;generalize (divL 1000000000 y (a.drop (i+1))).2=q at g1 g3 g4 ih ⊢;have hq:q.length=a.length-(i+1):=by rw[g4,DF]
  have hlen:(List.replicate (i+1) 0++q).length=a.length:=by simp[hq];omega
  have e0:(((i+1:Nat):Int)-1)=(i:Int):=by omega
  have hr1:=qf6 (CW g2);have hr2:(dg 1000000000 (r*1000000000+a[i])).length<=(dg 1000000000 y).length+1:=by
   apply q5i b9_2;have h1:=q98 b9_2 y;have:(r+1)*1000000000<=1000000000^(dg 1000000000 y).length*1000000000:=AR _ (by omega);rw[Ax];omega
  have hdig:(r*1000000000+a[i]) / y<1000000000:=by
   rw[BJ hy0];have:(r+1)*1000000000<=y*1000000000:=AR _ g2;omega
  have hset:List.set ((List.replicate (i+1) 0++q).map d64) i (.int .i64 (((r*1000000000+a[i]) / y:Nat):Int))=(List.replicate i 0++((r*1000000000+a[i]) / y)::q).map d64:=by
   have hr:List.replicate (i+1) 0++q=List.replicate i 0++(0::q):=by rw[DG,Ap];rfl
   rw[hr,set64 (by simp)]
  have hlen2:(List.replicate i 0++((r*1000000000+a[i]) / y)::q).length=a.length:=by simp[hq];omega
  have hml:y*((r*1000000000+a[i]) / y)<=r*1000000000+a[i]:=Nat.mul_div_le _ _
  rw[q99.q3r,e0,Af,Ac,Aa,q9 hia,Ae,q6d hia,qi,Ae,qoy (by omega) (by omega) (by omega),Ae,Aj,qy,Ae,times_run hy0 hdig (by omega) (by omega) (by omega),Ae,Aj,qi,Ae,
   Aa,hlen,q9 hia,Ae,hset,Aa,hlen2,q9 hia,Ae,mid64 (by simp),qi,Ae,qiv,Ae,Aj,qy,Ae,
   qfd hml,Ae,Aj,qy,Ae,AO,Aj,qi,Ae,show w6 ((i:Int)-1)=(i:Int)-1 from qk]
  have hmod:r*1000000000+a[i]-y*((r*1000000000+a[i]) / y)=(r*1000000000+a[i])%y:=by
   have:=DH (r*1000000000+a[i]) y;omega
  rw[hmod];exact ih
theorem qiz{x y:Nat}(hy0:y≠0)(hx:(dg 1000000000 x).length<=549755812000)(hyl:(dg 1000000000 y).length<=549755812000):Ev En 186 [wL x,wL y] [wL (x / y),wL (x%y),.int .i64 0]:=by
 have p:=q7h hy0;refine Ev.of ((dg 1000000000 x).length+(dg 1000000000 y).length*4+y+1000000030) λn hn=>?_;obtain⟨n,rfl⟩:=qSx n;rw[qp2,Aa,Aa,show(((dg 1000000000 y).length:Int)==0)=false from Bn.2 (by omega),Ab];by_cases h1:(dg 1000000000 y).length=1
 ·have hy9:y<1000000000:=by have:=q98 b9_2 y;rw[h1]at this;simpa using this
  have e:dg 1000000000 y=[y]:=by
   rw[q3h b9_2 hy0,AK hy9,CV hy9,q18]
  rw[h1,show(((1:Nat):Int)==1)=true from rfl,Ac,e];rw[show ix (0:Int) 1=some 0 from rfl,Ae,show at' ([y].map d64) 0 0=some (.int .i64 (y:Int)) from rfl,qi,Ae,wone_run (by omega) hy9 (by omega) (by omega)];simp only[Ae,Aj,AO,qy]
 ·rw[show(((dg 1000000000 y).length:Int)==1)=false from Bn.2 (by omega),Ab,mk8,Ae,q1v (Ak _),Ae,rep64,show w6 (((dg 1000000000 x).length:Int)-1)=((dg 1000000000 x).length:Int)-1 from qk];have:=wdiv_loop (n:=n+1) (q12 b9_2 x) (show 0<y by omega) hx hyl (by omega) (l2:=[]) (l3:=[]) (dg 1000000000 x).length (n+1) (Ak _) (by omega);rw[AN (Ak _)]at this;simp only[divL,AM,wL,q18]at this;refine BQ this ?_;obtain⟨g1,g2,g3,g4⟩:=q6f (show 0<y by omega) (dg 1000000000 x) (q12 b9_2 x);rw[q22 b9_2]at g1;rw[<- q39 b9_2 g3];obtain⟨h1,h2⟩:=div_key (show 0<y by omega) g1 g2;rw[h1,h2]
theorem w_small{x:Nat}(h:(dg 1000000000 x).length<=2):x<18446744073709551616:=by
 have h1:=q98 b9_2 x;have h2:1000000000^(dg 1000000000 x).length<=1000000000^2:=AX (by omega) h;omega
theorem wgcdl:∀(y x:Nat),(dg 1000000000 x).length<=549755812000->(dg 1000000000 y).length<=549755812000->∃n0,∀n m l2,n0<=n->n0<=m ->
  q6g.l1 n [] m [wL x,wL y,.list 1 l2]=some [wL (Nat.gcd x y)]:=by
 intro y
 induction y using Nat.strongRecOn with
 |_ y ih =>
  intro x hx hy;rcases Bs y with h0 | h0
  ·subst h0;refine⟨1,λn m l2 hn hm=>?_⟩;obtain⟨m,rfl⟩:=qSx m;rw[q6g.q30,Aa,q18,Ad (by simp),Ab,Ec]
  ·have hlt:=AL x h0;have hl0:=q7h (show y≠0 by omega);by_cases hw:(dg 1000000000 x).length<=2/\(dg 1000000000 y).length<=2
   ·have sx:=w_small hw.1;have sy:=w_small hw.2;have hg:Nat.gcd x y<18446744073709551616:=BG (Nat.gcd_le_right x h0) sy;obtain⟨n3,h3⟩:=wof_ev hg;refine⟨n3+y+8,λn m l2 hn hm=>?_⟩;obtain⟨m,rfl⟩:=qSx m;obtain⟨n,rfl⟩:=qSx n
    rw[q6g.q30,Aa,Aa,Af,Ac,Af,Ac,Af,Ac,qiy sx,Ae,Aj,qi,Ae,
     qiy sy,Ae,Aj,qi,Ae,qp3,wgcd_loop y x n (by omega),Ae,Aj,qi,Ae,h3 _ (by omega),Ae,Aj,qy,Ae]
   ·obtain⟨n1,h1⟩:=qiz (x:=x) (y:=y) (by omega) hx hy;have hm1:=qf6 (CW hlt);obtain⟨n2,h2⟩:=ih (x%y) hlt y hy (by omega);refine⟨n1+n2+1,λn m l2 hn hm=>?_⟩;obtain⟨m,rfl⟩:=qSx m;have key:∀l2,(evF En n 186 [wL x,wL y]).bind (λr4=>(asLst 1 (r4[0]?)).bind λv5=>(asLst 1 (r4[1]?)).bind λv6=>(asInt .i64 (r4[2]?)).bind λn7=>q6g.l1 n [] m [wL y,.list 1 v6,.list 1 l2])=some [wL (Nat.gcd x y)]:=λl2=>by
     rw[h1 _ (by omega),Ae,Aj,qy,Ae,AO,Aj,qy,Ae,AO,AO,Aj,qi,Ae,h2 n m l2 (by omega) (by omega),Cz y,<- Ed,Cz]
    rw[q6g.q30,Aa,Aa,Af,Ac];by_cases ha:(dg 1000000000 x).length<=2
    ·rw[Af,Ac,Ad,Ab];exact key l2
    ·rw[Ad,Ab];exact key l2
theorem wgcd_ev{x y:Nat}(hx:(dg 1000000000 x).length<=549755812000)(hy:(dg 1000000000 y).length<=549755812000):Ev En 135 [wL x,wL y] [wL (Nat.gcd x y)]:=by
 obtain⟨n0,h⟩:=wgcdl y x hx hy;refine Ev.of n0 λn hn=>?_;rw[qp4];exact h n n [] hn hn
end
section
abbrev d8(c:UInt8):FV:=.int .u8 (c.toNat:Int)
abbrev L8(l:List UInt8):FV:=.list 1 (l.map d8)
theorem app8(l:List UInt8)(c:UInt8):l.map d8++[FV.int .u8 (c.toNat:Int)]=(l++[c]).map d8:=by simp
theorem d8_at{l:List UInt8}{i:Nat}(h:i<l.length):at' (l.map d8) i 0=some (.int .u8 ((l[i]).toNat:Int)):=by rw[q2a,Ag h];rfl
theorem qug(l:List UInt8):bytesO (l.map d8)=some (txt l):=by
 unfold bytesO;rw[if_pos (by simp)];simp only[Cu,Function.comp_def,Bh,UInt8.ofNat_toNat,List.map_id'];rfl
theorem qmg{d:Nat}(h:d<10):IntKind.wrap .u8 (w6 (48+(d:Int)))=((chD d).toNat:Int):=by
 rw[qel h,qk];unfold IntKind.wrap;simp[IntKind.bits,IntKind.signed];omega
theorem tmod10(x:Nat):Int.tmod (x:Int) 10=((x%10:Nat):Int):=rfl
theorem tdiv10(x:Nat):Int.tdiv (x:Int) 10=((x / 10:Nat):Int):=rfl
theorem t9_mid{n m0 i:Nat}{a:List FV}(hi:i+1<a.length)(ha:a.length<=1099511627776):∀(j k m x:Nat) (pre:List UInt8),k+j=9->j<m->x<1000000000->pre.length+j<=100000000000000 ->
  q27.l9 n [m0] m [.list 1 a,L8 pre,.int .i64 (i:Int),.int .i64 (x:Int),.int .i64 (k:Int)]=q27.l5 n [] m0 [.list 1 a,L8 (pre++(dK j x).map chD),.int .i64 ((i+1:Nat):Int)]:=by
 intro j
 induction j with
 |zero =>
  intro k m x pre hk hm hx hp;obtain⟨m,rfl⟩:=qSx m;rw[q27.q3r,Ad,Ab,qc];simp[dK]
 |succ j ih =>
  intro k m x pre hk hm hx hp;obtain⟨m,rfl⟩:=qSx m;have hd:x%10<10:=AL _ (by omega);have step:=ih (k+1) m (x / 10) (pre++[chD (x%10)]) (by omega) (by omega) (by omega) (by simp;omega);rw[Ap,BM]at step;rw[q27.q3r,Af,Ac,tmod10,qmg hd,el1,Aa,q4c (by simp;omega),qc (show i<9223372036854775807 by omega),Af (show(((i+1:Nat):Int))<(a.length:Int) by omega),app8,tdiv10,q40,qc];simp only[Ac];have:dK (j+1) x=x%10::dK j (x / 10):=rfl;rw[this,AQ];cases decide ((x:Int)>0)
  ·rw[Ab];exact step
  ·rw[Ac];exact step
theorem t9_top{n m0 i:Nat}{a:List FV}(hi:i+1=a.length)(ha:a.length<=1099511627776):∀(j k m x:Nat) (pre:List UInt8),k+j=9->j<m->x<10^j->j<=9->pre.length+j<=100000000000000 ->
  q27.l9 n [m0] m [.list 1 a,L8 pre,.int .i64 (i:Int),.int .i64 (x:Int),.int .i64 (k:Int)]=q27.l5 n [] m0 [.list 1 a,L8 (pre++(dg 10 x).map chD),.int .i64 ((i+1:Nat):Int)]:=by
 intro j
 induction j with
 |zero =>
  intro k m x pre hk hm hx hj hp;obtain⟨m,rfl⟩:=qSx m;have:x=0:=by simpa using hx
  subst this;rw[q27.q3r,Ad,Ab,qc,q18];simp
 |succ j ih =>
  intro k m x pre hk hm hx hj hp;obtain⟨m,rfl⟩:=qSx m;have hd:x%10<10:=AL _ (by omega);have hx9:x<1000000000:=AP hx (AZ (AX (by omega) hj) (by decide));rw[q27.q3r,Af,Ac];by_cases h0:x=0
  ·subst h0;rw[Ad,Ab,qc (show i<9223372036854775807 by omega),Ad,Ab,q18];simp
  ·rw[Af,Ac,tmod10,qmg hd,el1,Aa,q4c (by simp;omega),Ac,app8,tdiv10,q40,qc];rw[ih (k+1) m (x / 10) (pre++[chD (x%10)]) (by omega) (by omega) (by rw[BJ (by omega),<- Ax];exact hx) (by omega) (by simp;omega),q3h (by omega) h0,Ap];rfl
def tb:List Nat->List UInt8
 |[]=>[]
 |[d]=>(dg 10 d).map chD
 |d::e::r=>(dK 9 d).map chD++tb (e::r)
theorem tb_len:∀(e:List Nat),Dg 1000000000 e->(tb e).length<=9*e.length
 |[],_=>by simp[tb]
 |[d],h=>by
  have:=h d (by simp);have:=q5i (b:=10) (by omega) (n:=d) (k:=9) (by omega);simp[tb];omega
 |d::e::r,h=>by
  have:=tb_len (e::r) h.tail.2;simp only[tb,Bb,Aa,dK_len,Aq]at this ⊢;omega
theorem tb_dg:∀(x:Nat),tb (dg 1000000000 x)=(dg 10 x).map chD:=by
 intro x
 induction x using Nat.strongRecOn with
 |_ x ih =>
  by_cases h0:x=0
  ·subst h0;rw[q18,q18];rfl
  ·by_cases h1:x / 1000000000=0
   ·rw[q3h b9_2 h0,h1,q18];have:x%1000000000=x:=by omega
    rw[this];rfl
   ·have hne:dg 1000000000 (x / 1000000000)≠[]:=λq=>h1 ((q52 b9_2).1 q);have hi:=ih (x / 1000000000) (Cv (by omega) (by omega));rw[q3h b9_2 h0];cases he:dg 1000000000 (x / 1000000000)with
    |nil=>exact absurd he hne
    |cons e r =>
     rw[he]at hi;rw[tb,hi,<- Bc,<- dg_dK h1 9 (x%1000000000) (by omega)];congr 2;omega
theorem t5_loop{n:Nat}{a:List Nat}(ha:Dg 1000000000 a)(hl:a.length<=1099511627776)(hn:10<=n):∀(e:List Nat) (i m:Nat) (pre:List UInt8),a.drop i=e->i+e.length=a.length->e.length<m->pre.length+9*e.length<=90000000000000 ->
  q27.l5 n [] m [L64 a,L8 pre,.int .i64 (i:Int)]=q27.l15 n [] n [L8 (pre++tb e),L8 [],.int .i64 (((pre++tb e).length:Int)-1)]:=by
 intro e
 induction e with
 |nil =>
  intro i m pre hi hie hm hp;obtain⟨m,rfl⟩:=qSx m;simp only[Bf,Ay]at hie;rw[q27.q1o,Aa,Aa,Ad,Ab,el0,tb,AM,show w6 ((pre.length:Int)-1)=(pre.length:Int)-1 from qk];rfl
 |cons d e ih =>
  intro i m pre hi hie hm hp;obtain⟨m,rfl⟩:=qSx m;simp only[Aq]at hie hm hp;have hia:i<a.length:=by omega
  have hx:a[i]=d/\a.drop (i+1)=e:=by
   rw[q1w hia]at hi;cases hi;exact⟨rfl,rfl⟩
  have hd:d<1000000000:=by rw[<- hx.1];exact ha _ (Ah hia)
  rw[q27.q1o,Aa,Af,Ac,q9 hia,Ae,q6d hia,qi,Ae,hx.1];cases e with
  |nil =>
   have dl:=q5i (b:=10) (by omega) (n:=d) (k:=9) (by omega);have:=t9_top (n:=n) (m0:=m) (a:=a.map d64) (i:=i) (by simp;simp at hie;omega) (by simp;omega) 9 0 n d pre (by omega) (by omega) (by omega) (by omega) (by omega);rw[show((0:Nat):Int)=0 from rfl]at this;rw[this];exact ih (i+1) m _ hx.2 (by simp at hie ⊢;omega) (by simp at hm ⊢;omega) (by simp;omega) |>.trans (by simp only[tb,AM])
  |cons f r =>
   simp only[Aq]at hie hm hp;have:=t9_mid (n:=n) (m0:=m) (a:=a.map d64) (i:=i) (by simp;omega) (by simp;omega) 9 0 n d pre (by omega) (by omega) (by omega) (by omega);rw[show((0:Nat):Int)=0 from rfl]at this;rw[this];refine(ih (i+1) m _ hx.2 (by simp;omega) (by simp;omega) (by simp[dK_len];omega)).trans ?_;simp only[tb,Ap]
theorem t15_loop{n:Nat}{b:List UInt8}(hl:b.length<=100000000000000):∀(i m:Nat) (out:List UInt8),i<=b.length->i<m->out.length+i<=100000000000000 ->
  q27.l15 n [] m [L8 b,L8 out,.int .i64 ((i:Int)-1)]=some [.str (txt (out++(b.take i).reverse))]:=by
 intro i
 induction i with
 |zero =>
  intro m out hi hm ho;obtain⟨m,rfl⟩:=qSx m;rw[q27.qbv,Ad,Ab,qug];simp
 |succ i ih =>
  intro m out hi hm ho;obtain⟨m,rfl⟩:=qSx m;have hib:i<b.length:=by omega
  have e0:(((i+1:Nat):Int)-1)=(i:Int):=by omega
  rw[q27.qbv,e0,Af,Ac,Aa,q9 hib,Ae,d8_at hib,qi,Ae,el1,Aa,q4c (by simp;omega),Ac,app8,show w6 ((i:Int)-1)=(i:Int)-1 from qk,ih m (out++[b[i]]) (by omega) (by omega) (by simp;omega)];have e:(b.take (i+1)).reverse=b[i]::(b.take i).reverse:=by rw[DC,Ag hib,Option.toList_some,EB];rfl
  rw[e,Ap];rfl
theorem wtext_ev{x:Nat}(hx:(dg 1000000000 x).length<=1000000000000):Ev En 96 [wL x] [sF (ql x)]:=by
 refine Ev.of (9*(dg 1000000000 x).length+12) λn hn=>?_;rw[qtu,Aa];unfold ql;by_cases h0:x=0
 ·subst h0;rw[if_pos rfl,q18];rfl
 ·have p:=q7h h0;rw[if_neg h0,show(((dg 1000000000 x).length:Int)==0)=false from Bn.2 (by omega),Ab,el0];have hb:=tb_len _ (q12 b9_2 x);have:=t5_loop (n:=n) (q12 b9_2 x) (by omega) (by omega) (dg 1000000000 x) 0 n [] rfl (by omega) (by omega) (by simp;omega);refine BQ this ?_;rw[At];have:=t15_loop (n:=n) (b:=tb (dg 1000000000 x)) (by omega) (tb (dg 1000000000 x)).length n [] (Ak _) (by omega) (by simp;omega);refine BQ this ?_;rw[At,Bj,tb_dg,List.map_reverse]
def c9(l:List UInt8)(e:Nat):List Nat:=if e=0 then []else vD ((l.take e).drop (e-9))::c9 l (e-9)
termination_by e
decreasing_by omega
theorem vD_cons(c:UInt8)(t:List UInt8):vD (c::t)=(c.toNat-48)*10^t.length+vD t:=by
 have:=qbo [c] t;rw[BM]at this;rw[this];simp[vD]
theorem c9_vl(l:List UInt8):∀(e:Nat),e<=l.length->vl 1000000000 (c9 l e)=vD (l.take e):=by
 intro e
 induction e using Nat.strongRecOn with
 |_ e ih =>
  intro he;rw[c9];by_cases h0:e=0
  ·subst h0;simp[vl,vD]
  ·rw[if_neg h0];simp only[vl];rw[ih (e-9) (by omega) (by omega)];have hs:l.take e=l.take (e-9)++(l.take e).drop (e-9):=by
    conv=>lhs;rw[<- BW (e-9) (l.take e)]
    rw[List.take_take,EZ (by omega)]
   conv=>rhs;rw[hs,qbo]
   by_cases h9:e<=9
   ·rw[show e-9=0 by omega,CR];simp[vD]
   ·have:((l.take e).drop (e-9)).length=9:=by simp;omega
    rw[this,show(10:Nat)^9=1000000000 from rfl];omega
theorem c9_Dg{l:List UInt8}(h:∀c,c∈l->isD c=true):∀(e:Nat),Dg 1000000000 (c9 l e):=by
 intro e
 induction e using Nat.strongRecOn with
 |_ e ih =>
  rw[c9];split
  ·intro d hd;simp at hd
  ·refine Dg.cons ?_ (ih (e-9) (by omega));have:=vD_lt (s:=(l.take e).drop (e-9)) λc hc=>h c (CL (Cy hc));refine AP this ?_;have h9:((l.take e).drop (e-9)).length<=9:=by simp;omega
   exact AZ (AX (by omega) h9) (by decide)
theorem isD_nat{c:UInt8}(h:isD c=true):48<=c.toNat/\c.toNat<=57:=by
 simpa[isD]using h
theorem qmh{a:List UInt8}{i:Nat}(h:i<a.length):a.drop i=a[i]::a.drop (i+1):=AY h
theorem p14_loop{n m0:Nat}{l0:List FV}{l:List UInt8}{e:Nat}{cs:List Nat}(hD:∀c,c∈l->isD c=true)(he:e<=l.length)(hl:l.length<=1000000000)(hcs:cs.length<=1000000000):∀(d i m acc:Nat),i+d=e->d<=9->d<m->acc<10^(9-d) ->
  q29.l14 n [m0] m [.list 1 l0,sF l,L64 cs,.int .i64 (e:Int),.int .i64 (acc:Int),.int .i64 (i:Int)]=q29.l10 n [] m0 [.list 1 l0,sF l,L64 (cs++[acc*10^d+vD ((l.take e).drop i)]),.int .i64 ((e:Int)-9)]:=by
 intro d
 induction d with
 |zero =>
  intro i m acc hi h9 hm ha;obtain⟨m,rfl⟩:=qSx m;have:(l.take e).drop i=[]:=AN (by simp;omega);rw[q29.l14_eq,Ad,Ab,el1,Aa,q4c (by simp;omega),Ac,q8d,this,qk,EC,DS,show vD []=0 from rfl,Ay]
 |succ d ih =>
  intro i m acc hi h9 hm ha;obtain⟨m,rfl⟩:=qSx m;have hil:i<l.length:=by omega
  have hie:i<(l.take e).length:=by simp;omega
  have hg:(l.take e)[i]=l[i]:=by simp
  have hc:=isD_nat (hD l[i] (Ah hil));have hp:10^(9-(d+1))<=10^8:=AX (by omega) (by omega);have hp8:(10:Nat)^8=100000000:=rfl;have hp2:10^(9-d)=10*10^(9-(d+1)):=by rw[show 9-d=9-(d+1)+1 by omega,Ax,AC]
  have e1:IntKind.wrap .u8 (((l[i]).toNat:Int)-48)=((l[i].toNat-48:Nat):Int):=by
   unfold IntKind.wrap;simp[IntKind.bits,IntKind.signed];omega
  have hlen:((l.take e).drop (i+1)).length=d:=by simp;omega
  rw[q29.l14_eq,Af,Ac,q4g,Ag hil,AD,Ae,e1,q40 (x:=l[i].toNat-48),show(10:Int)=((10:Nat):Int) from rfl,qba,q2n,qc,
   ih (i+1) m (acc*10+(l[i].toNat-48)) (by omega) (by omega) (by omega) (by rw[hp2];omega),qmh hie,hg,vD_cons,hlen,AT,Ax,<- Bl,AU,AC 10]
theorem p10_loop{n:Nat}{l0:List FV}{l:List UInt8}(hD:∀c,c∈l->isD c=true)(hl:l.length<=1000000000)(hn:l.length+12<=n):∀(e m:Nat) (cs:List Nat),e<=l.length->e<m->cs.length+e<=l.length ->
  q29.l10 n [] m [.list 1 l0,sF l,L64 cs,.int .i64 (e:Int)]=some [L64 (tz (cs++c9 l e)),.int .i64 0]:=by
 obtain⟨n,rfl⟩:=qSx n;have fin:∀(k:Int) (m:Nat) (cs:List Nat),k<=0->cs.length<=l.length->q29.l10 (n+1) [] (m+1) [.list 1 l0,sF l,L64 cs,.int .i64 k]=some [L64 (tz cs),.int .i64 0]:=λk m cs hk hc=>by
  rw[q29.q4d,Ad,Ab,q8e];simp only[Ae,Aj,qy]
 intro e
 induction e using Nat.strongRecOn with
 |_ e ih =>
  intro m cs he hm hc;obtain⟨m,rfl⟩:=qSx m;by_cases h0:e=0
  ·subst h0;rw[c9,if_pos rfl,AM];exact fin 0 m cs (by omega) (by omega)
  ·have est:(if 0<w6 ((e:Int)-9)then w6 ((e:Int)-9)else 0)=((e-9:Nat):Int):=by
    rw[qk];split <;> omega
   rw[q29.q4d,Af,Ac,est,show(0:Int)=((0:Nat):Int) from rfl,
    p14_loop hD he hl (by omega) (e-(e-9)) (e-9) (n+1) 0 (by omega) (by omega) (by omega) (Bx (by omega)),Do,AJ]
   rw[c9,if_neg h0];by_cases h9:e<9
   ·obtain⟨m,rfl⟩:=qSx m;rw[fin _ m _ (by omega) (by simp;omega),show e-9=0 by omega]
    conv=>rhs;rw[c9,if_pos rfl]
    rfl
   ·rw[show(e:Int)-9=((e-9:Nat):Int) by omega,ih (e-9) (by omega) m _ (by omega) (by omega) (by simp;omega),Ap];rfl
theorem p4_good{n:Nat}{l0:List FV}{l:List UInt8}(hl:l.length<=1000000000)(hD:∀c,c∈l->isD c=true):∀(d i m:Nat),i+d=l.length->d<m ->
  q29.l4 n [] m [.list 1 l0,sF l,.int .i64 (i:Int)]=q29.l10 n [] n [.list 1 l0,sF l,L64 [],.int .i64 (l.length:Int)]:=by
 intro d
 induction d with
 |zero =>
  intro i m hi hm;obtain⟨m,rfl⟩:=qSx m;rw[q29.q14,q1c,Ad,Ab,el0];rfl
 |succ d ih =>
  intro i m hi hm;obtain⟨m,rfl⟩:=qSx m;have hil:i<l.length:=by omega
  have hc:=isD_nat (hD l[i] (Ah hil));rw[q29.q14,q1c,Af,Ac,q4g,Ag hil,AD,Ae,Ad,Ab,Ae,Ad,Ab,qc];exact ih (i+1) m (by omega) (by omega)
theorem p4_bad{n:Nat}{l0:List FV}{l:List UInt8}(hl:l.length<=1000000000):∀(d i m:Nat),i+d=l.length->d<m->(∃c,c∈l.drop i/\isD c=false) ->
  q29.l4 n [] m [.list 1 l0,sF l,.int .i64 (i:Int)]=some [.list 1 [],.int .i64 10]:=by
 intro d
 induction d with
 |zero =>
  intro i m hi hm hb;obtain⟨c,hc,_⟩:=hb;rw[AN (by omega)]at hc;simp at hc
 |succ d ih =>
  intro i m hi hm hb;obtain⟨m,rfl⟩:=qSx m;have hil:i<l.length:=by omega
  rw[q29.q14,q1c,Af,Ac,q4g,Ag hil,AD,Ae,Ae];by_cases h1:(l[i]).toNat<48
  ·rw[Af,Ac]
  ·rw[Ad,Ab];by_cases h2:57<(l[i]).toNat
   ·rw[Af,Ac]
   ·rw[Ad,Ab,qc];refine ih (i+1) m (by omega) (by omega) ?_;obtain⟨c,hc,hb⟩:=hb;rw[qmh hil]at hc;rcases Ar.1 hc with rfl | hc
    ·simp[isD]at hb;omega
    ·exact⟨c,hc,hb⟩
theorem qbi{l:List UInt8}(hc:canon l)(hl:l.length<=1000000000):Ev En 78 [sF l] [wL (vD l),.int .i64 0]:=by
 obtain⟨c1,c2,c3⟩:=hc;have hp:0<l.length:=Db.2 c1;refine Ev.of (l.length+12) λn hn=>?_;rw[qly,q1c,show((l.length:Int)==0)=false from Bn.2 (by omega),Ab];have body:q29.l4 n [] n [.list 1 [],sF l,.int .i64 0]=some [wL (vD l),.int .i64 0]:=by
  have h1:=p4_good (n:=n) (l0:=[]) hl c2 l.length 0 n (by omega) (by omega);rw[show((0:Nat):Int)=0 from rfl]at h1;rw[h1];have h2:=p10_loop (n:=n) (l0:=[]) c2 hl (by omega) l.length n [] (Ak _) (by omega) (by simp);refine h2.trans ?_;rw[At,<- q39 b9_2 (c9_Dg c2 l.length),c9_vl l l.length (Ak _),Bj]
 by_cases h1:1<l.length
 ·have h0:0<l.length:=by omega
  have hne:((((l[0]).toNat:Nat):Int)==48)=false:=by
   rw[Bn];intro q;have:l[0]=48:=Dt.1 (show l[0].toNat=48 by omega);have h:=c3 (by rw[FO,Ag h0,this]);omega
  have ht:=q4g l 0;rw[show((0:Nat):Int)=0 from rfl,Ag h0]at ht;rw[Af,Ac,ht,AD,Ae,hne,Ab];exact body
 ·rw[Ad,Ab];exact body
theorem qdp{l:List UInt8}(hc:¬ canon l)(hl:l.length<=1000000000):Ev En 78 [sF l] [.list 1 [],.int .i64 10]:=by
 refine Ev.of (l.length+12) λn hn=>?_;rw[qly,q1c];by_cases h0:l=[]
 ·subst h0;rfl
 have hp:0<l.length:=Db.2 h0;rw[show((l.length:Int)==0)=false from Bn.2 (by omega),Ab];have ht:=q4g l 0;rw[show((0:Nat):Int)=0 from rfl,Ag hp]at ht;by_cases hd:∀c,c∈l->isD c=true
 ·have h48:l.head?=some 48/\l.length≠1:=by
   apply BS;intro q;refine hc ⟨h0,hd,λh=>?_⟩;apply BS;intro q';exact q ⟨h,q'⟩
  have he:l[0]=48:=by
   have:=h48.1;rw[FO,Ag hp]at this;exact Eo this
  rw[Af,Ac,ht,AD,Ae,he];rfl
 ·have hb:∃c,c∈l.drop 0/\isD c=false:=by
   apply BS;intro q;refine hd λc hc=>?_;cases hq:isD c with
   |true=>rfl
   |false=>exact absurd ⟨c,hc,hq⟩ q
  have h1:=p4_bad (n:=n) (l0:=[]) hl l.length 0 n (by omega) (by omega) hb;rw[show((0:Nat):Int)=0 from rfl]at h1;by_cases h2:1<l.length
  ·rw[Af,Ac,ht,AD,Ae];cases((((l[0]).toNat:Nat):Int)==48)
   ·rw[Ab];exact h1
   ·rfl
  ·rw[Ad,Ab];exact h1
end
section
abbrev wl(z:Int):FV:=wL z.natAbs
theorem q7q{x k:Nat}(h:x<2^k)(hk:k<=100000000000:=by omega):(dg 1000000000 x).length<=100000000000:=AZ (qhp b9_2 h) hk
theorem q42(n:Nat):wl (n:Int)=wL n:=rfl
theorem qbj:wL 0=.list 1 []:=by unfold wL;rw[q18];rfl
theorem q4f{x:Nat}{s:Bool}:Ev En 80 [.bool s,wL x] [zb (sg s x),wl (sg s x)]:=by
 refine Ev.of 0 λn hn=>?_;rw[qub];unfold wl zb;rw[sg_abs,sg_neg];cases s
 ·rfl
 ·have:decide ((((dg 1000000000 x).map d64).length:Int)>0)=decide (0<x):=by
   rw[Aa,Bm,As,As];by_cases h:x=0
   ·subst h;rw[q18];simp
   ·have:=q7h h;omega
  rw[Ac,this];rfl
theorem q8k{n:Nat}{z:Int}:evF En (n+1) 94 [zb z,wl z]=some [.int .i64 z.sign]:=by
 rw[quc];by_cases h:z<0
 ·rw[Af h,Ac,CO h]
 ·rw[Ad h,Ab,Aa];by_cases h0:z=0
  ·subst h0;rw[show(0:Int).natAbs=0 from rfl,q18];rfl
  ·have:=q7h (x:=z.natAbs) (by omega);rw[Af,Ac,Cl (by omega)]
theorem qjl{n d:Nat}:evF En (n+1) 94 [.bool false,wL d]=some [.int .i64 (if d=0 then 0 else 1)]:=by
 have h:=q8k (n:=n) (z:=(d:Int));rw[q1z,q42]at h;rw[h];by_cases h0:d=0
 ·subst h0;rfl
 ·rw[if_neg h0,Cl (by omega)]
theorem qdk{z:Int}:Ev En 26 [zb z,wl z] [zb (-z),wl (-z)]:=by
 obtain⟨n1,h1⟩:=q4f (s:=!(decide (z<0))) (x:=z.natAbs);refine Ev.of n1 λn hn=>?_;rw[qu8];simp (disch:=omega) only[h1,rr];have:sg (!(decide (z<0))) z.natAbs=-z:=by
  unfold sg;by_cases h:z<0 <;> simp[h] <;> omega
 rw[this]
theorem qdf{z w:Int}{k:Nat}(hk:k<=100000000000)(hz:z.natAbs<2^k)(hw:w.natAbs<2^k):Ev En 95 [zb z,wl z,zb w,wl w] [zb (z+w),wl (z+w)]:=by
 have lz:=q7q hz hk;have lw:=q7q hw hk;by_cases hs:decide (z<0)=decide (w<0)
 ·obtain⟨n1,h1⟩:=wadd_ev (x:=z.natAbs) (y:=w.natAbs) (by omega) (by omega);obtain⟨n2,h2⟩:=q4f (s:=decide (w<0)) (x:=z.natAbs+w.natAbs);refine Ev.of (n1+n2) λn hn=>?_;rw[qho,hs]
  try simp (disch:=omega) only[Bi,rr]
  try simp (disch:=omega) only[h1,rr]
  try simp (disch:=omega) only[h2,rr]
  have:sg (decide (w<0)) (z.natAbs+w.natAbs)=z+w:=by
   unfold sg;by_cases h:w<0
   ·have:z<0:=by rw[Af h]at hs;exact of_decide_eq_true hs
    simp[h];omega
   ·have:¬ z<0:=by rw[Ad h]at hs;exact Fk hs
    simp[h];omega
  rw[this]
 ·have hb:(decide (z<0)==decide (w<0))=false:=Bn.2 hs;have hsgn:(z<0/\0<=w)\/(0<=z/\w<0):=by
   by_cases h:z<0 <;> by_cases h':w<0 <;> simp_all <;> omega
  have hc:=λn (hn:(dg 1000000000 z.natAbs).length+(dg 1000000000 w.natAbs).length+1<=n)=>qfa (n:=n) (x:=z.natAbs) (y:=w.natAbs) (by omega) (by omega) hn;by_cases hle:w.natAbs<=z.natAbs
  ·obtain⟨n2,h2⟩:=q4f (x:=z.natAbs-w.natAbs) (s:=decide (z<0));refine Ev.of (n2+(dg 1000000000 z.natAbs).length*2+(dg 1000000000 w.natAbs).length+6) λn hn=>?_;obtain⟨n,rfl⟩:=qSx n;rw[qho,hb,Ab,hc n (by omega)];simp only[Ae,Aj,qi];rw[Af (show cmpN z.natAbs w.natAbs≥0 by unfold cmpN;rw[if_neg (by omega)];split <;> omega),Ac,qfd hle]
   try simp (disch:=omega) only[h2,rr]
   try simp (disch:=omega) only[h2,rr]
   have:sg (decide (z<0)) (z.natAbs-w.natAbs)=z+w:=by
    unfold sg;by_cases h:z<0 <;> simp[h] <;> omega
   rw[this]
  ·obtain⟨n2,h2⟩:=q4f (x:=w.natAbs-z.natAbs) (s:=decide (w<0));refine Ev.of (n2+(dg 1000000000 w.natAbs).length*2+(dg 1000000000 z.natAbs).length+6) λn hn=>?_;obtain⟨n,rfl⟩:=qSx n;rw[qho,hb,Ab,hc n (by omega)];simp only[Ae,Aj,qi];rw[Ad (show ¬ cmpN z.natAbs w.natAbs≥0 by unfold cmpN;rw[if_pos (by omega)];omega),Ab,qfd]
   try simp (disch:=omega) only[h2,rr]
   try simp (disch:=omega) only[h2,rr]
   have:sg (decide (w<0)) (w.natAbs-z.natAbs)=z+w:=by
    unfold sg;by_cases h:w<0 <;> simp[h] <;> omega
   rw[this]
theorem wsub_z{z w:Int}{k:Nat}(hk:k<=100000000000)(hz:z.natAbs<2^k)(hw:w.natAbs<2^k):Ev En 162 [zb z,wl z,zb w,wl w] [zb (z-w),wl (z-w)]:=by
 obtain⟨n1,h1⟩:=qdk (z:=w);obtain⟨n2,h2⟩:=qdf (w:=-w) hk hz (by rw[BA];exact hw);refine Ev.of (n1+n2) λn hn=>?_;rw[quf]
 try simp (disch:=omega) only[h1,rr]
 try simp (disch:=omega) only[h2,rr]
 rw[Int.sub_eq_add_neg]
theorem q9g{z w:Int}{k:Nat}(hk:k+k<=100000000000)(hz:z.natAbs<2^k)(hw:w.natAbs<2^k):Ev En 42 [zb z,wl z,zb w,wl w] [zb (z*w),wl (z*w)]:=by
 have lz:=q7q hz;have lw:=q7q hw;obtain⟨n1,h1⟩:=wmul_ev (x:=z.natAbs) (y:=w.natAbs) (by omega);obtain⟨n2,h2⟩:=q4f (s:=!(decide (z<0)==decide (w<0))) (x:=z.natAbs*w.natAbs);refine Ev.of (n1+n2) λn hn=>?_;rw[qua]
 try simp (disch:=omega) only[h1,rr]
 try simp (disch:=omega) only[h2,rr]
 have:sg (!(decide (z<0)==decide (w<0))) (z.natAbs*w.natAbs)=z*w:=sg_mul z w;rw[this]
theorem sign_cmp(z w:Int):(z-w).sign=q24 z w:=by
 unfold q24;rcases Int.lt_trichotomy z w with h | h | h
 ·rw[if_pos h,CO (by omega)]
 ·subst h;simp
 ·rw[if_neg (by omega),if_pos h,Cl (by omega)]
theorem wcmp_z{z w:Int}{k:Nat}(hk:k<=100000000000)(hz:z.natAbs<2^k)(hw:w.natAbs<2^k):Ev En 100 [zb z,wl z,zb w,wl w] [.int .i64 (q24 z w)]:=by
 obtain⟨n1,h1⟩:=wsub_z hk hz hw;refine Ev.of (n1+1) λn hn=>?_;obtain⟨n,rfl⟩:=qSx n;rw[qud]
 try simp (disch:=omega) only[h1,rr]
 try simp (disch:=omega) only[q8k,rr]
 rw[sign_cmp]
theorem qde{z:Int}(h1:-9223372036854775808<=z:=by omega)(h2:z<=9223372036854775807:=by omega):Ev En 40 [.int .i64 z] [zb z,wl z]:=by
 obtain⟨n1,g1⟩:=wof_ev (x:=z.natAbs) (by omega);obtain⟨n2,g2⟩:=q4f (s:=decide (z<0)) (x:=z.natAbs);refine Ev.of (n1+n2) λn hn=>?_;rw[qu9];by_cases h:z<0
 ·rw[Af h]at g2;have e:IntKind.wrap .u64 (IntKind.wrap .u64 (w6 (0-w6 (z+1)))+1)=(z.natAbs:Int):=by
   rw[qk (x:=z+1),qk];unfold IntKind.wrap;simp[IntKind.bits,IntKind.signed];omega
  rw[Ad,e]
  try simp (disch:=omega) only[g1,rr]
  try simp (disch:=omega) only[g2,rr]
  have:sg true z.natAbs=z:=by unfold sg;simp;omega
  rw[this]
 ·rw[Ad h]at g2;have e:IntKind.wrap .u64 z=(z.natAbs:Int):=by
   unfold IntKind.wrap;simp[IntKind.bits,IntKind.signed];omega
  rw[Af,e]
  try simp (disch:=omega) only[g1,rr]
  try simp (disch:=omega) only[g2,rr]
  have:sg false z.natAbs=z:=by unfold sg;simp;omega
  rw[this]
theorem wqr_ev{z w:Int}{k:Nat}(hk:k<=100000000000)(h0:w≠0)(hz:z.natAbs<2^k)(hw:w.natAbs<2^k) :
  Ev En 136 [zb z,wl z,zb w,wl w] [zb (z.tdiv w),wl (z.tdiv w),zb (z.tmod w),wl (z.tmod w),.int .i64 0]:=by
 have lz:=q7q hz;have lw:=q7q hw;obtain⟨n1,h1⟩:=qiz (x:=z.natAbs) (y:=w.natAbs) (by omega) (by omega) (by omega);obtain⟨n2,h2⟩:=q4f (s:=!(decide (z<0)==decide (w<0))) (x:=z.natAbs / w.natAbs);obtain⟨n3,h3⟩:=q4f (s:=decide (z<0)) (x:=z.natAbs%w.natAbs);refine Ev.of (n1+n2+n3) λn hn=>?_;rw[que]
 try simp (disch:=omega) only[h1,rr]
 try simp only[show((0:Int) !=0)=false from rfl,rr]
 try simp (disch:=omega) only[h2,rr]
 try simp (disch:=omega) only[h3,rr]
 rw[sg_div z w,sg_mod z w]
theorem qg0{z:Int}{k:Nat}(hk:k<=100000000000)(hz:z.natAbs<2^k):Ev En 25 [zb z,wl z] [sF (qu z)]:=by
 have lz:=q7q hz;have lt:=q9i hz;obtain⟨n1,h1⟩:=wtext_ev (x:=z.natAbs) (by omega);refine Ev.of n1 λn hn=>?_;rw[qu7];unfold qu;by_cases h:z<0
 ·rw[Af h,if_pos h];simp (disch:=omega) only[h1,rr];rw[q1c,Ad,Ab,show({ data:=#[45] }:ByteArray)=txt [45] from rfl,q5m];rfl
 ·rw[Ad h,if_neg h];simp (disch:=omega) only[h1,rr]
theorem len_wL(x:Nat):((((dg 1000000000 x).map d64).length:Int)==0)=decide (x=0):=by
 rw[Aa,Bm,Bu,As];by_cases h:x=0
 ·subst h;rw[q18];simp
 ·have:=q7h h;omega
theorem qg2{l:List UInt8}{z:Int}(h:pz l=some z)(hl:l.length<=1000000000):Ev En 77 [sF l] [zb z,wl z,.int .i64 0]:=by
 have hb:=qaj h;have e:=q4q.1 h;by_cases hz:z<0
 ·have hl2:l=45::ql z.natAbs:=by rw[e];unfold qu;rw[if_pos hz]
  obtain⟨n1,h1⟩:=qbi (l:=ql z.natAbs) (q6n _) (by rw[hl2]at hl;simp at hl;omega);rw[q6o]at h1;obtain⟨n2,h2⟩:=q4f (s:=true) (x:=z.natAbs);refine Ev.of (n1+n2) λn hn=>?_;subst hl2;have ht:=q4g (45::ql z.natAbs) 0;rw[show((0:Nat):Int)=0 from rfl,Aj,AD]at ht
  rw[qcd,q1c,Af (by simp),Ac,ht,Ae,show((((45:UInt8).toNat:Nat):Int)==45)=true from rfl,Ac,show(1:Int)=((1:Nat):Int) from rfl,q1v (by simp),Ae,q5n,
   show((45::ql z.natAbs).take (45::ql z.natAbs).length).drop 1=ql z.natAbs by rw[Bj];rfl]
  try simp (disch:=omega) only[h1,rr]
  try simp only[show((0:Int) !=0)=false from rfl,rr]
  rw[len_wL,Ad]
  try simp (disch:=omega) only[h2,rr]
  try simp (disch:=omega) only[h2,rr]
  have:sg true z.natAbs=z:=by unfold sg;simp;omega
  rw[this]
 ·have hl2:l=ql z.natAbs:=by rw[e];unfold qu;rw[if_neg hz]
  have hc:canon l:=hl2▸q6n _;obtain⟨c,t,rfl⟩:∃c t,l=c::t:=by
   cases l with
   |nil=>exact absurd rfl hc.1
   |cons c t=>exact⟨c,t,rfl⟩
  have h45:((c.toNat:Int)==45)=false:=by
   rw[Bn];intro q;have:c=45:=Dt.1 (show c.toNat=45 by omega);subst this;exact qhu hc
  obtain⟨n1,h1⟩:=qbi (l:=c::t) hc hl;have hv:vD (c::t)=z.natAbs:=by rw[hl2,q6o]
  rw[hv]at h1;obtain⟨n2,h2⟩:=q4f (s:=false) (x:=z.natAbs);refine Ev.of (n1+n2) λn hn=>?_;have ht:=q4g (c::t) 0;rw[show((0:Nat):Int)=0 from rfl,Aj,AD]at ht;rw[qcd,q1c,Af (by simp),Ac,ht,Ae,h45]
  try simp (disch:=omega) only[h1,rr]
  try simp only[show((0:Int) !=0)=false from rfl,rr]
  try simp (disch:=omega) only[h2,rr]
  have:sg false z.natAbs=z:=by unfold sg;simp;omega
  rw[this]
theorem qjt{l:List UInt8}(h:pz l=none)(hl:l.length<=1000000000:=by omega):Ev En 77 [sF l] [.bool false,.list 1 [],.int .i64 10]:=by
 cases l with
 |nil =>
  obtain⟨n1,h1⟩:=qdp (l:=[]) (λhc=>hc.1 rfl) hl;refine Ev.of n1 λn hn=>?_;rw[qcd,q1c,Ad (by simp),Ab]
  try simp (disch:=omega) only[h1,rr]
  try simp only[show((10:Int) !=0)=true from rfl,rr]
 |cons c t =>
  have ht:=q4g (c::t) 0;rw[show((0:Nat):Int)=0 from rfl,Aj,AD]at ht;by_cases h45:c=45
  ·subst h45;simp only[Aq]at hl;have head:∀n,evF En (n+1) 77 [sF (45::t)]=(evF En n 78 [sF t]).bind λr2=>(asLst 1 (r2[0]?)).bind λv3=>(asInt .i64 (r2[1]?)).bind λn4 =>
     (bif(n4 !=0)then some [.bool false,.list 1 [],.int .i64 10]
      else(bif((v3.length:Int)==0)then some [.bool false,.list 1 [],.int .i64 10]
       else(evF En n 80 [.bool true,.list 1 v3]).bind λr5=>(asBool (r5[0]?)).bind λc6=>(asLst 1 (r5[1]?)).bind λv7=>some [.bool c6,.list 1 v7,.int .i64 0])):=λn=>by
    rw[qcd,q1c,Af (by simp),Ac,ht,Ae,show((((45:UInt8).toNat:Nat):Int)==45)=true from rfl,Ac,show(1:Int)=((1:Nat):Int) from rfl,q1v (by simp),Ae,q5n,
     show((45::t).take (45::t).length).drop 1=t by rw[Bj];rfl]
    rfl
   by_cases hc:canon t
   ·have hv:vD t=0:=by
     apply BS;intro q;rw[pz_neg hc q]at h;cases h
    obtain⟨n1,h1⟩:=qbi (l:=t) hc (by omega);rw[hv]at h1;refine Ev.of n1 λn hn=>?_;rw[head]
    try simp (disch:=omega) only[h1,rr]
    try simp only[show((0:Int) !=0)=false from rfl,rr]
    rw[len_wL];rfl
   ·obtain⟨n1,h1⟩:=qdp (l:=t) hc (by omega);refine Ev.of n1 λn hn=>?_;rw[head]
    try simp (disch:=omega) only[h1,rr]
    try simp only[show((10:Int) !=0)=true from rfl,rr]
  ·have hb:((c.toNat:Int)==45)=false:=by
    rw[Bn];intro q;exact h45 (Dt.1 (show c.toNat=45 by omega))
   have hc:¬ canon (c::t):=λhc=>by rw[pz_pos hc]at h;cases h
   obtain⟨n1,h1⟩:=qdp (l:=c::t) hc hl;refine Ev.of n1 λn hn=>?_;rw[qcd,q1c,Af (by simp),Ac,ht,Ae,hb]
   try simp (disch:=omega) only[h1,rr]
   try simp only[show((10:Int) !=0)=true from rfl,rr]
end
end Rf
