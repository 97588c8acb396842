/- Merged: Oda Odb Nma Pca Pcb Pcc Pcd. -/
import Derived.Test.YtcpnpoagpnkblaaGreatDoorNMS
import Derived.Test.YtcpnpoagpnkblaaGreatDoorNMV
import Derived.Sort.Walk0
set_option linter.unusedVariables false
set_option linter.unusedSimpArgs false
set_option maxHeartbeats 4000000
namespace Rf
open Go
noncomputable section
section
def StpV.fv(s:StpV):FV:=.agg [.str s.who,iF s.seq,iF s.zone,iF s.hour,.bool s.buy,iF s.qty,iF s.qh]
def qw.fv(l:qw):FV:=.agg [iF l.src,iF l.dst,iF l.cap]
def gL(g:q11):List FV:=[iF g.qa,iF g.qe,.list 3 (g.lq.map qw.fv),iF g.low,iF g.high]
theorem q36{ss:List StpV}{i:Nat}(h:i<ss.length)(c:Nat):at' (ss.map StpV.fv) i c=[FV.str ss[i].who,iF ss[i].seq,iF ss[i].zone,iF ss[i].hour,.bool ss[i].buy,iF ss[i].qty,iF ss[i].qh][c]?:=by
 rw[q26,Ag h];rfl
theorem q83{ls:List qw}{i:Nat}(h:i<ls.length)(c:Nat):at' (ls.map qw.fv) i c=[iF ls[i].src,iF ls[i].dst,iF ls[i].cap][c]?:=by
 rw[q26,Ag h];rfl
theorem q2i{bs:List BlkV}{i:Nat}(h:i<bs.length)(c:Nat):at' (bs.map BlkV.fv) i c=[FV.str bs[i].who,iF bs[i].seq,iF bs[i].zone,.bool bs[i].buy,iF bs[i].qh,.list 1 (bs[i].qty.map iF),iF bs[i].pq,iF bs[i].gq][c]?:=by
 rw[q26,Ag h];rfl
theorem q4c{q:List Int}{i:Nat}(h:i<q.length):at' (q.map iF) i 0=some (iF q[i]):=by rw[q26,Ag h];rfl
def fIdx{α:Type}(p:α->Bool)(l:List α):Int:=match l.findIdx? p with | some k=>(k:Int) | none=>-1
theorem qdx{α:Type}(p:α->Bool)(l:List α):decide (fIdx p l≥0)=l.any p:=by
 unfold fIdx;cases h:l.findIdx? p with
 |none =>
  rw[Fe]at h;have:l.any p=false:=DP.2 λx hx=>by simpa using h x hx
  rw[this];rfl
 |some k =>
  rw[Ej]at h;obtain⟨h1,h2,_⟩:=h;have:l.any p=true:=List.any_eq_true.2 ⟨l[k],Ah h1,h2⟩;rw[this];simp
theorem qbq{α:Type}(l:List α)(p:α->Bool){pre:List FV}{F:Nat->Nat->Res}(hs:∀m i (h:i<l.length),F (m+1) i=bif p l[i]then some (pre++[iF (i:Int)])else F m (i+1))(he:∀m,F (m+1) l.length=some (pre++[iF (-1)])) :
  ∀(d i m:Nat),i+d=l.length->d<m->(∀j (h:j<l.length),j<i->p l[j]=false)->F m i=some (pre++[iF (fIdx p l)]):=by
 intro d
 induction d with
 |zero =>
  intro i m hi hm hn;obtain⟨m,rfl⟩:=qSx m;obtain rfl:i=l.length:=by omega
  have:l.findIdx? p=none:=Fe.2 λx hx=>by
   obtain⟨j,hj,rfl⟩:=Ek hx;exact hn j hj hj
  rw[he];unfold fIdx;rw[this]
 |succ d ih =>
  intro i m hi hm hn;obtain⟨m,rfl⟩:=qSx m;have hil:i<l.length:=by omega
  rw[hs m i hil];cases hp:p l[i]with
  |false =>
   rw[Ab];refine ih (i+1) m (by omega) (by omega) λj hj hji=>?_;by_cases h:j=i
   ·subst h;exact hp
   ·exact hn j hj (by omega)
  |true =>
   rw[Ac];have:l.findIdx? p=some i:=Ej.2 ⟨hil,hp,λj hj=>by simpa using hn j (by omega) hj⟩;unfold fIdx;rw[this]
theorem q4p{α:Type}(l:List α)(p:α->Bool){P:Nat->Bool}(h:∀i (hi:i<l.length),P i=p l[i]):(List.range' 0 l.length).all P=l.all p:=by
 rw[Bm,qc8,Av];constructor
 ·intro q x hx;obtain⟨i,hi,rfl⟩:=Ek hx;rw[<- h i hi];exact q i hi
 ·intro q i hi;rw[h i hi];exact q _ (Ah hi)
theorem qgo{n:Nat}{a b c:Int}:evF EnA (n+1) 64 [iF a,iF b,iF c]=some [.bool (qn a b c)]:=by
 have:evF EnA (n+1) 64 [iF a,iF b,iF c]=(bif(decide (b<=a))then some [.bool (decide (a<=c))]else some [.bool false]):=by kernel_rfl
 rw[this];unfold qn;cases decide (b<=a) <;> rfl
theorem qki{n:Nat}{a b c:Int}:evF EnA (n+1) 126 [iF a,iF b,iF c]=some [.bool (qn a b c)]:=by
 rw[qrn];unfold qn;cases decide (b<=a) <;> rfl
theorem qkj{n:Nat}{a b c:Int}:evF EnA (n+1) 133 [iF a,iF b,iF c]=some [.bool (qn a b c)]:=by
 rw[qro];unfold qn;rw[show decide (a≥b)=decide (b<=a) from rfl];cases decide (b<=a) <;> rfl
theorem qgn{n:Nat}{a b c:Int}:evF EnA (n+1) 74 [iF a,iF b,iF c]=some [.bool (qn a b c)]:=by
 rw[qrp];unfold qn;rw[show decide (a≥b)=decide (b<=a) from rfl];cases decide (b<=a) <;> rfl
theorem le_sum{x:Nat}:∀ {l:List Nat},x∈l->x<=l.sum
 |[],h=>by simp at h
 |y::l,h=>by
  rw[List.sum_cons];rcases Ar.1 h with rfl | h
  ·omega
  ·have:=le_sum h;omega
theorem dle(a b:Int):decide (a<=b)=!decide (b<a):=by
 by_cases h:a<=b
 ·rw[Af h,Ad];rfl
 ·rw[Ad h,Af];rfl
theorem dlt(a b:Int):decide (a<b)=!decide (b<=a):=by rw[dle,DI]
theorem q4o{a b c:Int}:qn a b c=true↔b<=a/\a<=c:=by simp[qn]
section
variable {g:q11}
theorem godd_run(h1:1<=g.qa/\g.qa<=3){n:Nat}{l:qw}:evF EnA (n+2) 125 (iF l.src::iF l.dst::iF l.cap::gL g)=some (gL g++[.bool (!q3k g l)]):=by
 unfold gL;rw[qrq,qo];simp (disch:=omega) only[qki,rr];unfold q3k;rw[show(l.src !=l.dst)=!(l.src==l.dst) from rfl];cases qn l.src 0 (g.qa-1) <;> cases qn l.dst 0 (g.qa-1) <;> cases(l.src==l.dst) <;> rfl
theorem gidx_run(h1:1<=g.qa/\g.qa<=3){n:Nat}(hl:g.lq.length<=3)(hn:10<=n):evF EnA n 127 (.list 3 (g.lq.map qw.fv)::gL g)=some (gL g++[.bool (!g.lq.all (q3k g))]):=by
 obtain⟨n,rfl⟩:∃k,n=k+4:=⟨n-4,by omega⟩
 have h:=qbq g.lq (λl=>!q3k g l) (pre:=gL g) (F:=λm i=>q7t.l2 (n+2) [] m (gL g++[.list 3 (g.lq.map qw.fv),iF (g.lq.length:Int),iF (i:Int)])) (λm i hi=>by
  show q7t.l2 (n+2) [] (m+1) _=_;unfold gL;rw[Al,Al,Al,Al,Al,As,q7t.qt,Af,Ac,Aa,q9 hi];simp only[q83 hi,rr];have:=godd_run h1 (n:=n) (l:=g.lq[i]);unfold gL at this;rw[this];simp only[rr];simp only[Al,As];simp only[rr];rw[qd (by omega)]) (λm=>by
  show q7t.l2 (n+2) [] (m+1) _=_;unfold gL;rw[Al,Al,Al,Al,Al,As,q7t.qt,Ad,Ab]
  rfl) g.lq.length 0 (n+2) (by omega) (by omega) (λj _ hj=>by omega)
 have e2:evF EnA (n+3) 179 (.list 3 (g.lq.map qw.fv)::gL g)=some (gL g++[iF (fIdx (λl=>!q3k g l) g.lq)]):=by
  rw[<- h];unfold gL;rw[qrr];simp only[Aa];rfl
 unfold gL at e2 ⊢;rw[qrs,e2];simp only[Al,As];simp only[rr];rw[qdx,Em];simp only[DI]
theorem qrt{n:Nat}(hl:g.lq.length<=140737488355328)(hn:12<=n):evF EnA n 63 (gL g)=some [iF (if q39 g=true then 0 else 140)]:=by
 obtain⟨n,rfl⟩:∃k,n=k+2:=⟨n-2,by omega⟩;unfold gL;rw[qru,Aa];simp (disch:=omega) only[qki,rr];unfold q39;by_cases hz:qn g.qa 1 3=true
 ·have h1:=q4o.1 hz;rw[hz];by_cases hh:qn g.qe 1 3=true
  ·rw[hh];by_cases hk:g.lq.length<=3
   ·have:=gidx_run h1 (n:=n+1) hk (by omega);unfold gL at this;rw[this,Ad,Af hk];simp only[Al,As];simp only[rr];rw[show decide (g.high>100000)=!decide (g.high<=100000) from dlt _ _];cases g.lq.all (q3k g) <;> cases qn g.low (-100000) g.high <;> cases decide (g.high<=100000) <;> rfl
   ·rw[Af,Ad hk];simp
  ·rw[AI.2 hh];simp
 ·rw[AI.2 hz];simp
theorem qrl{n:Nat}(hl:g.lq.length<=140737488355328)(hn:12<=n):evF EnA n 73 (gL g)=some [iF (if q39 g=true then 0 else 140)]:=by
 obtain⟨n,rfl⟩:∃k,n=k+2:=⟨n-2,by omega⟩;unfold gL;rw[qrv,Aa];simp (disch:=omega) only[qkj,rr];unfold q39;by_cases hz:qn g.qa 1 3=true
 ·have h1:=q4o.1 hz;rw[hz];by_cases hh:qn g.qe 1 3=true
  ·rw[hh];by_cases hk:g.lq.length<=3
   ·rw[Ad (show ¬ ((g.lq.length:Int)>3) by omega),Af hk]
    have h:=q1w (F:=λm i=>q6t.l4 (n+1) [] m [iF g.qa,iF g.qe,.list 3 (g.lq.map qw.fv),iF g.low,iF g.high,iF (i:Int)]) (len:=g.lq.length) (P:=λi=>match g.lq[i]? with | some l=>q3k g l | none=>true) (fin:=some [iF 0]) (stop:=some [iF 140]) (λm i hi=>by
     show q6t.l4 (n+1) [] (m+1) _=_;rw[q6t.q13,Aa,Af,Ac,q9 hi,qo (x:=g.qa-1),qd (by omega),Ag hi];simp (disch:=omega) only[q83 hi,qkj,rr];unfold q3k;rw[show(g.lq[i].src !=g.lq[i].dst)=!(g.lq[i].src==g.lq[i].dst) from rfl];cases qn g.lq[i].src 0 (g.qa-1) <;> cases qn g.lq[i].dst 0 (g.qa-1) <;> cases(g.lq[i].src==g.lq[i].dst) <;> cases qn g.lq[i].cap 0 1000 <;> rfl) (λm=>by
     show q6t.l4 (n+1) [] (m+1) _=_
     rw[q6t.q13,Aa,Ad,Ab]) g.lq.length 0 (n+1) (by omega) (by omega)
    rw[q4p g.lq (q3k g) (λi hi=>by rw[Ag hi])]at h;have h:q6t.l4 (n+1) [] (n+1) [iF g.qa,iF g.qe,.list 3 (g.lq.map qw.fv),iF g.low,iF g.high,iF 0]=_:=h;rw[h];have e1:qn g.low (-100000) g.high=(!decide (g.low < -100000)&&!decide (g.low>g.high)):=by
     unfold qn;rw[show decide (-100000<=g.low)=!decide (g.low < -100000) from dle _ _,show decide (g.low<=g.high)=!decide (g.low>g.high) from dle _ _]
    rw[e1,show decide (g.high<=100000)=!decide (g.high>100000) from dle _ _];cases g.lq.all (q3k g) <;> cases decide (g.low < -100000) <;> cases decide (g.low>g.high) <;> cases decide (g.high>100000) <;> rfl
   ·rw[Af (show((g.lq.length:Int)>3) by omega),Ad hk];simp
  ·rw[AI.2 hh];simp
 ·rw[AI.2 hz];simp
end
section
variable {g:q11} {ss:List StpV} {bs:List BlkV}
theorem iodd_run{n:Nat}{a:Int}:evF EnA (n+2) 65 [iF a]=some [.bool (!qn a 0 1000)]:=by
 rw[qrw];simp (disch:=omega) only[qgo,rr]
theorem icon_run{n:Nat}{q:List Int}(hl:q.length<=1000000)(hn:q.length+6<=n):evF EnA n 66 [.list 1 (q.map iF),.raw (Go.Value.func (Go.Fn.func 65) #[] #[])]=some [.bool (!q.all λx=>qn x 0 1000)]:=by
 obtain⟨n,rfl⟩:∃k,n=k+4:=⟨n-4,by omega⟩
 have h:=qbq q (λx=>!qn x 0 1000) (pre:=[]) (F:=λm i=>q6u.l2 (n+2) [] m [.list 1 (q.map iF),.raw (Go.Value.func (Go.Fn.func 65) #[] #[]),iF (q.length:Int),iF (i:Int)]) (λm i hi=>by
  show q6u.l2 (n+2) [] (m+1) _=_;rw[q6u.qt,Af,Ac,Aa,q9 hi];simp (disch:=omega) only[q4c hi,iodd_run,rr];rw[qd (by omega)];rfl) (λm=>by
  show q6u.l2 (n+2) [] (m+1) _=_;rw[q6u.qt,Ad,Ab]
  rfl) q.length 0 (n+2) (by omega) (by omega) (λj _ hj=>by omega)
 rw[qrx,qry,Aa];have h:q6u.l2 (n+2) [] (n+2) [.list 1 (q.map iF),.raw (Go.Value.func (Go.Fn.func 65) #[] #[]),iF (q.length:Int),iF 0]=_:=h;rw[h,As];simp only[rr];rw[qdx,Em];simp only[DI]
theorem max_loop{n:Nat}{q:List Int}(hl:q.length<=1000000):∀(d i m:Nat) (v:Int),i+d=q.length->d<m->∃w,q9o.l5 n [] m [.list 1 (q.map iF),iF v,iF (i:Int)]=some [iF w]/\v<=w/\(∀x,x∈q.drop i->x<=w)/\(w=v\/w∈q.drop i):=by
 intro d
 induction d with
 |zero =>
  intro i m v hi hm;obtain⟨m,rfl⟩:=qSx m;refine⟨v,?_,Int.le_refl _,λx hx=>?_,.inl rfl⟩
  ·rw[q9o.q1h,Aa,Ad,Ab]
  ·rw[AO (by omega)]at hx;simp at hx
 |succ d ih =>
  intro i m v hi hm;obtain⟨m,rfl⟩:=qSx m;have hil:i<q.length:=by omega
  obtain⟨w,h1,h2,h3,h4⟩:=ih (i+1) m (if v<q[i]then q[i]else v) (by omega) (by omega);have hle:v<=(if v<q[i]then q[i]else v)/\q[i]<=(if v<q[i]then q[i]else v):=by split <;> omega
  refine⟨w,?_,by omega,λx hx=>?_,?_⟩
  ·rw[q9o.q1h,Aa,Af,Ac,q9 hil];simp only[q4c hil,rr];rw[qd (by omega)];exact h1
  ·rw[Bc hil]at hx;rcases Ar.1 hx with rfl | hx
   ·omega
   ·exact h3 x hx
  ·rw[Bc hil];rcases h4 with h4 | h4
   ·split at h4
    ·exact .inr (by rw[h4];exact AJ)
    ·exact .inl h4
   ·exact .inr (AC _ h4)
theorem max_run{n:Nat}{q:List Int}(hl:q.length<=1000000)(h0:q≠[])(hq:q.all (λx=>qn x 0 1000)=true)(hn:q.length+2<=n):∃w,evF EnA n 67 [.list 1 (q.map iF)]=some [iF w]/\(!(w==0))=q.any λx=>decide (0<x):=by
 obtain⟨n,rfl⟩:=qSx n;have hp:0<q.length:=CX.2 h0;obtain⟨w,h1,h2,h3,h4⟩:=max_loop (n:=n) hl (q.length-1) 1 n q[0] (by omega) (by omega);refine⟨w,?_,?_⟩
 ·rw[qrz,Aa,Ad,Ab,show(0:Int)=((0:Nat):Int) from rfl,q9 hp];simp only[q4c hp,rr];exact h1
 ·have hge:∀x,x∈q->0<=x:=λx hx=>(q4o.1 (Av.1 hq x hx)).1;have hmem:w∈q:=by
   rcases h4 with h4 | h4
   ·rw[h4];exact Ah hp
   ·exact Cy h4
  have hall:∀x,x∈q->x<=w:=λx hx=>by
   obtain⟨i,hi,rfl⟩:=Ek hx;cases i with
   |zero=>exact h2
   |succ i=>exact h3 _ (List.mem_drop_iff_getElem.2 ⟨i,by omega,by simp[Bn]⟩)
  rw[Bm,List.any_eq_true];constructor
  ·intro h;exact⟨w,hmem,Af (by have h5:=hge w hmem;have h6:w≠0:=(by simpa using h);omega)⟩
  ·rintro⟨x,hx,hx2⟩;have:=hall x hx;have hx2:0<x:=by simpa using hx2
   have:w≠0:=by omega
   simpa using this
def blkL(b:BlkV):List FV:=[FV.str b.who,iF b.seq,iF b.zone,.bool b.buy,iF b.qh,.list 1 (b.qty.map iF),iF b.pq,iF b.gq]
theorem some_loop{n:Nat}{b:BlkV}(hl:b.qty.length<=1000000):∀(d i m:Nat) (v:Bool),i+d=b.qty.length->d<m ->
  q7u.l5 (n+1) [] m [FV.str b.who,iF b.seq,iF b.zone,.bool b.buy,iF b.qh,.list 1 (b.qty.map iF),iF b.pq,iF b.gq,.bool v,iF (i:Int)]=some [.bool ((b.qty.drop i).all (λx=>qn x 0 1000)&&(v||(b.qty.drop i).any λx=>decide (0<x)))]:=by
 intro d
 induction d with
 |zero =>
  intro i m v hi hm;obtain⟨m,rfl⟩:=qSx m;rw[q7u.q1h,Aa,Ad,Ab,AO (by omega)];simp
 |succ d ih =>
  intro i m v hi hm;obtain⟨m,rfl⟩:=qSx m;have hil:i<b.qty.length:=by omega
  rw[q7u.q1h,Aa,Af,Ac,q9 hil,qd (by omega),Bc hil];simp (disch:=omega) only[q4c hil,qgn,rr];rw[ih (i+1) m true (by omega) (by omega),ih (i+1) m (decide (b.qty[i]>0)) (by omega) (by omega),Bk,DG,show decide (b.qty[i]>0)=decide (0<b.qty[i]) from rfl];cases qn b.qty[i] 0 1000 <;> cases v <;> cases decide (0<b.qty[i]) <;> cases((b.qty.drop (i+1)).all λx=>qn x 0 1000) <;> rfl
theorem block_run(h1:1<=g.qa/\g.qa<=3){n:Nat}{b:BlkV}(hl:b.qty.length<=1000000)(hn:b.qty.length+4<=n):evF EnA n 75 (gL g++blkL b)=some [.bool (q3j g b)]:=by
 obtain⟨n,rfl⟩:∃k,n=k+2:=⟨n-2,by omega⟩;unfold gL blkL;simp only[Al,As];rw[qs0,Aa,qo];simp (disch:=omega) only[qgn,rr];have h:=some_loop (n:=n) (b:=b) hl b.qty.length 0 (n+1) false (by omega) (by omega);rw[Au]at h;have h:q7u.l5 (n+1) [] (n+1) [FV.str b.who,iF b.seq,iF b.zone,.bool b.buy,iF b.qh,.list 1 (b.qty.map iF),iF b.pq,iF b.gq,.bool false,iF 0]=_:=h;rw[h];unfold q3j;rw[show(((b.qty.length:Int)) !=g.qe)=!decide ((b.qty.length:Int)=g.qe) by simp[bne,BEq.beq]];cases qn b.zone 0 (g.qa-1) <;> cases qn b.qh g.low g.high <;> cases decide ((b.qty.length:Int)=g.qe) <;> rfl
end
theorem qkk:∀l:List UInt8,Op.bytesLess l l=false
 |[]=>rfl
 |x::l=>by simp[Op.bytesLess,qkk l]
theorem qdw(j:Nat)(h:j<9000000000000000000:=by omega):w6 (((j+1:Nat):Int)-1)=(j:Int):=by rw[qo];omega
def cmpB(l e:Bool):Int:=bif l then -1 else bif !(l||e)then 1 else 0
theorem qkl{n:Nat}{s t:ByteArray}:evF EnA (n+2) 130 [.str s,.str t]=some [.int .i64 (cmpB (Op.bytesLess s.toList t.toList) (s.toList==t.toList))]:=by
 rw[qs1];simp only[qs2,Ae,Aj,q3x,Bi,Ao,Ab];unfold cmpB;cases Op.bytesLess s.toList t.toList <;> cases(s.toList==t.toList) <;> rfl
def cmpM(a b:Int):Int:=bif decide (a<b)then -1 else bif decide (a>b)then 1 else 0
theorem qkm{n:Nat}{a b:Int}:evF EnA (n+2) 131 [.int .i64 a,.int .i64 b]=some [.int .i64 (cmpM a b)]:=by
 rw[qs3];simp only[qs4,Ae,Aj,q3x,CW,Ab];unfold cmpM;cases decide (a<b) <;> cases decide (a>b) <;> rfl
theorem or_run{n:Nat}{a b:Int}:evF EnA (n+4) 129 [.list 1 [.int .i64 a,.int .i64 b]]=some [.int .i64 (bif a !=0 then a else b)]:=by
 rw[qs5,q7v.qq];show(bif a !=0 then some [.int .i64 a]else q7v.l3 (n+3) [] (n+2) [.int .i64 0,.list 1 [.int .i64 a,.int .i64 b],.int .i64 2,.int .i64 1]:Res)=_;rw[q7v.qq];show(bif a !=0 then some [.int .i64 a]else(bif b !=0 then some [.int .i64 b]else q7v.l3 (n+3) [] (n+1) [.int .i64 0,.list 1 [.int .i64 a,.int .i64 b],.int .i64 2,.int .i64 2]):Res)=_;rw[q7v.qq];show(bif a !=0 then some [.int .i64 a]else(bif b !=0 then some [.int .i64 b]else some [.int .i64 0]):Res)=_;cases ha:(a !=0)
 ·cases hb:(b !=0)
  ·have:b=0:=by simpa using hb
   rw[this];rfl
  ·rfl
 ·rfl
theorem lt_or(s t:ByteArray)(a b:Int):decide ((bif cmpB (Op.bytesLess s.toList t.toList) (s.toList==t.toList) !=0 then cmpB (Op.bytesLess s.toList t.toList) (s.toList==t.toList)else cmpM a b)≥0)=!nmB s a t b:=by
 unfold nmB cmpB cmpM;cases Op.bytesLess s.toList t.toList <;> cases(s.toList==t.toList)
 ·rfl
 ·by_cases h:a<b
  ·rw[Af h];rfl
  ·rw[Ad h];cases decide (a>b) <;> rfl
 ·rfl
 ·rfl
theorem qkg(s t:ByteArray)(a b:Int):nmB s a t b=((Op.bytesLess s.toList t.toList||s.toList==t.toList)&&!(s.toList==t.toList&&decide (a≥b))):=by
 unfold nmB;rw[show decide (a<b)=!decide (a≥b) from dlt _ _];cases h:Op.bytesLess s.toList t.toList
 ·cases(s.toList==t.toList) <;> cases decide (a≥b) <;> rfl
 ·have:(s.toList==t.toList)=false:=by
   apply AI.2;intro q;rw[eq_of_beq q,qkk]at h;cases h
  rw[this];rfl
def riS(ss:List StpV)(i:Nat):Bool:=match ss[i-1]?,ss[i]? with | some a,some b=>nmB a.who a.seq b.who b.seq | _,_=>true
def riK(bs:List BlkV)(i:Nat):Bool:=match bs[i-1]?,bs[i]? with | some a,some b=>nmB a.who a.seq b.who b.seq | _,_=>true
section
variable {g:q11} {ss:List StpV} {bs:List BlkV}
theorem rises_run{n:Nat}(hl:ss.length<=1000000)(hn:ss.length+8<=n):evF EnA n 68 [.list 7 (ss.map StpV.fv),.raw (Go.Value.func (Go.Fn.func 69) #[] #[])]=some [.bool (q6s ss)]:=by
 obtain⟨n,rfl⟩:∃k,n=k+5:=⟨n-5,by omega⟩;rw[qs6];have h:=q1w (F:=λm i=>q7w.l2 (n+4) [] m [.list 7 (ss.map StpV.fv),.raw (Go.Value.func (Go.Fn.func 69) #[] #[]),iF (i:Int)]) (len:=max 1 ss.length) (P:=riS ss) (fin:=some [.bool true]) (stop:=some [.bool false]);by_cases h0:ss.length=0
 ·rw[q7w.qt,Aa,Ad,Ab];unfold q6s;rw[h0];rfl
 have key:∀(d i m:Nat),i+1+d=ss.length->d<m->q7w.l2 (n+4) [] m [.list 7 (ss.map StpV.fv),.raw (Go.Value.func (Go.Fn.func 69) #[] #[]),iF ((i+1:Nat):Int)]=some [.bool ((List.range' (i+1) d).all (riS ss))]:=by
  intro d
  induction d with
  |zero =>
   intro i m hi hm;obtain⟨m,rfl⟩:=qSx m;rw[q7w.qt,Aa,Ad,Ab];rfl
  |succ d ih =>
   intro i m hi hm;obtain⟨m,rfl⟩:=qSx m;have h1:i<ss.length:=by omega
   have h2:i+1<ss.length:=by omega
   rw[q7w.qt,Aa,Af,Ac,qdw i,q9 h1,q9 h2,qd (by omega)]
   try simp only[q36 h1,rr]
   try simp (disch:=omega) only[qkn,rr]
   try simp only[q36 h2,rr]
   try simp (disch:=omega) only[qkn,rr]
   try simp (disch:=omega) only[qkl,rr]
   try simp (disch:=omega) only[qkm,rr]
   rw[show qb 2 (.int .i64 0) [(0,iF (cmpB (Op.bytesLess ss[i].who.toList ss[i+1].who.toList) (ss[i].who.toList==ss[i+1].who.toList))),(1,iF (cmpM ss[i].seq ss[i+1].seq))]=[iF (cmpB (Op.bytesLess ss[i].who.toList ss[i+1].who.toList) (ss[i].who.toList==ss[i+1].who.toList)),iF (cmpM ss[i].seq ss[i+1].seq)] from rfl,or_run];simp only[rr];rw[lt_or,ih (i+1) m (by omega) (by omega),BS,Bk];unfold riS;rw[show i+1-1=i from rfl,Ag h1,Ag h2];simp only;cases nmB ss[i].who ss[i].seq ss[i+1].who ss[i+1].seq <;> rfl
 have:=key (ss.length-1) 0 (n+4) (by omega) (by omega);exact this
theorem risek_run{n:Nat}(hl:bs.length<=1000000)(hn:bs.length+8<=n):evF EnA n 70 [.list 8 (bs.map BlkV.fv),.raw (Go.Value.func (Go.Fn.func 71) #[] #[])]=some [.bool (q5m bs)]:=by
 obtain⟨n,rfl⟩:∃k,n=k+5:=⟨n-5,by omega⟩;rw[qs7];by_cases h0:bs.length=0
 ·rw[q8k.qt,Aa,Ad,Ab];unfold q5m;rw[h0];rfl
 have key:∀(d i m:Nat),i+1+d=bs.length->d<m->q8k.l2 (n+4) [] m [.list 8 (bs.map BlkV.fv),.raw (Go.Value.func (Go.Fn.func 71) #[] #[]),iF ((i+1:Nat):Int)]=some [.bool ((List.range' (i+1) d).all (riK bs))]:=by
  intro d
  induction d with
  |zero =>
   intro i m hi hm;obtain⟨m,rfl⟩:=qSx m;rw[q8k.qt,Aa,Ad,Ab];rfl
  |succ d ih =>
   intro i m hi hm;obtain⟨m,rfl⟩:=qSx m;have h1:i<bs.length:=by omega
   have h2:i+1<bs.length:=by omega
   rw[q8k.qt,Aa,Af,Ac,qdw i,q9 h1,q9 h2,qd (by omega)]
   try simp only[q2i h1,rr]
   try simp (disch:=omega) only[qko,rr]
   try simp only[q2i h2,rr]
   try simp (disch:=omega) only[qko,rr]
   try simp (disch:=omega) only[qkl,rr]
   try simp (disch:=omega) only[qkm,rr]
   rw[show qb 2 (.int .i64 0) [(0,iF (cmpB (Op.bytesLess bs[i].who.toList bs[i+1].who.toList) (bs[i].who.toList==bs[i+1].who.toList))),(1,iF (cmpM bs[i].seq bs[i+1].seq))]=[iF (cmpB (Op.bytesLess bs[i].who.toList bs[i+1].who.toList) (bs[i].who.toList==bs[i+1].who.toList)),iF (cmpM bs[i].seq bs[i+1].seq)] from rfl,or_run];simp only[rr];rw[lt_or,ih (i+1) m (by omega) (by omega),BS,Bk];unfold riK;rw[show i+1-1=i from rfl,Ag h1,Ag h2];simp only;cases nmB bs[i].who bs[i].seq bs[i+1].who bs[i+1].seq <;> rfl
 have:=key (bs.length-1) 0 (n+4) (by omega) (by omega);exact this
theorem par_run{n:Nat}{b:BlkV}{i:Nat}(hi:i<bs.length):evF EnA (n+1) 183 (blkL b++[.list 8 (bs.map BlkV.fv),iF (i:Int)])=some [.list 8 (bs.map BlkV.fv),iF (i:Int),.bool (q41 bs[i] b)]:=by
 unfold blkL;simp only[Al,As];rw[qs8,Aa,q9 hi];simp only[q2i hi,rr];unfold q41;rw[toList_eq];cases decide (b.who=bs[i].who) <;> rfl
theorem qs9{n:Nat}{i:Nat}(hi:i<bs.length)(hl:bs.length<=1000000)(hn:bs.length+6<=n):evF EnA n 132 [.list 8 (bs.map BlkV.fv),iF (i:Int)]=some [iF (fIdx (q41 bs[i]) bs)]:=by
 obtain⟨n,rfl⟩:∃k,n=k+3:=⟨n-3,by omega⟩
 have h:=qbq bs (q41 bs[i]) (pre:=[.list 8 (bs.map BlkV.fv),iF (i:Int)]) (F:=λm j=>q6v.l2 (n+1) [] m [.list 8 (bs.map BlkV.fv),iF (i:Int),.list 8 (bs.map BlkV.fv),iF (bs.length:Int),iF (j:Int)]) (λm j hj=>by
  show q6v.l2 (n+1) [] (m+1) _=_;rw[q6v.qt,Af,Ac,Aa,q9 hj];simp only[q2i hj,rr];have:=par_run (n:=n) (b:=bs[j]) hi;unfold blkL at this;simp only[Al,As]at this;rw[this];simp only[rr];rw[qd (by omega)];rfl) (λm=>by
  show q6v.l2 (n+1) [] (m+1) _=_;rw[q6v.qt,Ad,Ab]
  rfl) bs.length 0 (n+1) (by omega) (by omega) (λj _ hj=>by omega)
 rw[qsa,qsb,Aa];have h:q6v.l2 (n+1) [] (n+1) [.list 8 (bs.map BlkV.fv),iF (i:Int),.list 8 (bs.map BlkV.fv),iF (bs.length:Int),iF 0]=_:=h;rw[h];rfl
theorem qsc{n:Nat}(hl:bs.length<=1000000)(hn:bs.length+6<=n):∀(d k i m:Nat),k+d=bs.length+1->d<m->i<bs.length ->
  q9p.l2 n [] m [.list 8 (bs.map BlkV.fv),iF (i:Int),iF ((bs.length+1:Nat):Int),iF (k:Int)]=some [.bool (pW bs d i)]:=by
 intro d
 induction d with
 |zero =>
  intro k i m hk hm hi;obtain⟨m,rfl⟩:=qSx m;rw[q9p.qt,Ad,Ab];rfl
 |succ d ih =>
  intro k i m hk hm hi;obtain⟨m,rfl⟩:=qSx m;rw[q9p.qt,Af,Ac,Aa,q9 hi,qd (by omega)];simp only[q2i hi,rr];unfold pW;rw[Ag hi];simp only;by_cases hp:bs[i].pq<=0
  ·rw[Af hp,Ac,if_pos hp]
  ·rw[Ad hp,Ab,if_neg hp,qs9 hi hl hn];simp only[rr];unfold fIdx;cases hf:bs.findIdx? (q41 bs[i])with
   |none=>rfl
   |some j =>
    have hj:j<bs.length:=(Ej.1 hf).1;simp only;rw[Ad,Ab];by_cases hji:j=i
    ·subst hji;rw[if_pos rfl,Bi,Ac]
    ·rw[if_neg hji,show(((j:Nat):Int)==((i:Nat):Int))=false by simp;omega,Ab];exact ih (k+1) j m (by omega) (by omega) hj
theorem qsd{n:Nat}{i:Nat}(hi:i<bs.length)(hl:bs.length<=1000000)(hn:bs.length+8<=n):evF EnA n 72 [.list 8 (bs.map BlkV.fv),iF (i:Int)]=some [.bool (pW bs (bs.length+1) i)]:=by
 obtain⟨n,rfl⟩:=qSx n;rw[qse,Aa,qd (by omega)];exact qsc hl (by omega) (bs.length+1) 0 i n (by omega) (by omega) hi
theorem qmr{n:Nat}(hg:g.lq.length<=140737488355328)(hs:ss.length<=1000000)(hb:bs.length<=1000000)(hq:∀b,b∈bs->b.qty.length<=1000000)(hn:ss.length+bs.length+(bs.map λb=>b.qty.length).sum+40<=n) :
  evF EnA n 18 (gL g++[.list 7 (ss.map StpV.fv),.list 8 (bs.map BlkV.fv)])=some [.bool (q2l g ss bs)]:=by
 obtain⟨n,rfl⟩:∃k,n=k+3:=⟨n-3,by omega⟩;have hgc:=qrt (g:=g) (n:=n+2) hg (by omega);unfold gL at hgc ⊢;simp only[Al,As];rw[qsf,hgc,Aa,Aa];simp only[rr];unfold q2l;by_cases hgv:q39 g=true
 ·obtain⟨hz,hh⟩:qn g.qa 1 3=true/\qn g.qe 1 3=true:=by
   unfold q39 at hgv;simp only[Ai]at hgv;exact⟨hgv.1.1.1.1.1,hgv.1.1.1.1.2⟩
  have hz:=q4o.1 hz;have hh:=q4o.1 hh;rw[hgv,if_pos rfl];by_cases h32:ss.length<=32
  ·rw[Af h32,Ad (show ¬ ((ss.length:Int)>32) by omega)];by_cases h12:bs.length<=12
   ·rw[Af h12,Ad (show ¬ ((bs.length:Int)>12) by omega)];simp only[CW,Ab,AA]
    have e19:=q1w (F:=λm i=>q1z.l19 (n+2) [] m [.list 8 (bs.map BlkV.fv),iF (bs.length:Int),iF (i:Int)]) (len:=bs.length) (P:=pW bs (bs.length+1)) (fin:=some [.bool true]) (stop:=some [.bool false]) (λm i hi=>by
     show q1z.l19 (n+2) [] (m+1) _=_;rw[q1z.q4j,Af,Ac,qsd hi hb (by omega),qd (by omega)];simp only[rr];cases pW bs (bs.length+1) i <;> rfl) (λm=>by
     show q1z.l19 (n+2) [] (m+1) _=_
     rw[q1z.q4j,Ad,Ab]) bs.length 0 (n+2) (by omega) (by omega)
    have e19:q1z.l19 (n+2) [] (n+2) [.list 8 (bs.map BlkV.fv),iF (bs.length:Int),iF 0]=_:=e19
    have e11:=q1w (F:=λm i=>q1z.l11 (n+2) [] m [iF g.qa,iF g.qe,.list 3 (g.lq.map qw.fv),iF g.low,iF g.high,.list 7 (ss.map StpV.fv),.list 8 (bs.map BlkV.fv),.raw (Go.Value.func (Go.Fn.func 65) #[] #[]),.list 8 (bs.map BlkV.fv),iF (bs.length:Int),iF (i:Int)]) (len:=bs.length) (P:=λi=>match bs[i]? with | some b=>q3j g b | none=>true) (fin:=some [.bool (q6s ss&&q5m bs&&(List.range' 0 bs.length).all (pW bs (bs.length+1)))]) (stop:=some [.bool false]) (λm i hi=>by
     show q1z.l11 (n+2) [] (m+1) _=_;have hqi:=hq bs[i] (Ah hi);have hsum:bs[i].qty.length<=(bs.map λb=>b.qty.length).sum:=le_sum (Bp.2 ⟨bs[i],Ah hi,rfl⟩);rw[q1z.q84,Af,Ac,Aa,q9 hi,qo (x:=g.qa-1),qd (by omega),Ag hi];simp (disch:=omega) only[q2i hi,qgo,rr];rw[Aa,icon_run hqi (by omega)];simp only[rr];unfold q3j;rw[show(((bs[i].qty.length:Int)) !=g.qe)=!decide ((bs[i].qty.length:Int)=g.qe) by simp[bne,BEq.beq]];by_cases hlen:(bs[i].qty.length:Int)=g.qe
     ·by_cases hall:bs[i].qty.all (λq=>qn q 0 1000)=true
      ·obtain⟨w,hw1,hw2⟩:=max_run (n:=n+2) hqi (λe=>by rw[e]at hlen;simp at hlen;omega) hall (by omega);rw[hw1];simp only[rr];rw[hall,Af hlen,<- hw2];cases qn bs[i].zone 0 (g.qa-1) <;> cases qn bs[i].qh g.low g.high <;> cases(w==0) <;> rfl
      ·rw[AI.2 hall,Af hlen];cases qn bs[i].zone 0 (g.qa-1) <;> cases qn bs[i].qh g.low g.high <;> rfl
     ·rw[Ad hlen];cases qn bs[i].zone 0 (g.qa-1) <;> cases qn bs[i].qh g.low g.high <;> rfl) (λm=>by
     show q1z.l11 (n+2) [] (m+1) _=_;rw[q1z.q84,Ad,Ab,rises_run hs (by omega),risek_run hb (by omega),Aa];simp only[rr];rw[e19]
     cases q6s ss <;> cases q5m bs <;> cases(List.range' 0 bs.length).all (pW bs (bs.length+1)) <;> rfl) bs.length 0 (n+2) (by omega) (by omega)
    rw[q4p bs (q3j g) (λi hi=>by rw[Ag hi])]at e11;have e11:q1z.l11 (n+2) [] (n+2) [iF g.qa,iF g.qe,.list 3 (g.lq.map qw.fv),iF g.low,iF g.high,.list 7 (ss.map StpV.fv),.list 8 (bs.map BlkV.fv),.raw (Go.Value.func (Go.Fn.func 65) #[] #[]),.list 8 (bs.map BlkV.fv),iF (bs.length:Int),iF 0]=_:=e11;have e4:=q1w (F:=λm i=>q1z.l4 (n+2) [] m [iF g.qa,iF g.qe,.list 3 (g.lq.map qw.fv),iF g.low,iF g.high,.list 7 (ss.map StpV.fv),.list 8 (bs.map BlkV.fv),.list 7 (ss.map StpV.fv),iF (ss.length:Int),iF (i:Int)]) (len:=ss.length) (P:=λi=>match ss[i]? with | some s=>q3s g s | none=>true)
     (fin:=bif bs.all (q3j g)then some [.bool (q6s ss&&q5m bs&&(List.range' 0 bs.length).all (pW bs (bs.length+1)))]else some [.bool false]) (stop:=some [.bool false]) (λm i hi=>by
     show q1z.l4 (n+2) [] (m+1) _=_;rw[q1z.q13,Af,Ac,Aa,q9 hi,qo (x:=g.qa-1),qo (x:=g.qe-1),qd (by omega),Ag hi];simp (disch:=omega) only[q36 hi,qgo,rr];unfold q3s;cases qn ss[i].zone 0 (g.qa-1) <;> cases qn ss[i].hour 0 (g.qe-1) <;> cases qn ss[i].qty 1 1000 <;> cases qn ss[i].qh g.low g.high <;> rfl) (λm=>by
     show q1z.l4 (n+2) [] (m+1) _=_
     rw[q1z.q13,Ad,Ab,Aa,e11]) ss.length 0 (n+2) (by omega) (by omega)
    rw[q4p ss (q3s g) (λi hi=>by rw[Ag hi])]at e4;have e4:q1z.l4 (n+2) [] (n+2) [iF g.qa,iF g.qe,.list 3 (g.lq.map qw.fv),iF g.low,iF g.high,.list 7 (ss.map StpV.fv),.list 8 (bs.map BlkV.fv),.list 7 (ss.map StpV.fv),iF (ss.length:Int),iF 0]=_:=e4;rw[e4];cases ss.all (q3s g) <;> cases bs.all (q3j g) <;> cases q6s ss <;> cases q5m bs <;> rfl
   ·rw[Ad h12,Af (show((bs.length:Int)>12) by omega)];simp
  ·rw[Ad h32,Af (show((ss.length:Int)>32) by omega)];simp
 ·rw[AI.2 hgv];simp
end
end
section
section
variable {g:q11} {ss:List StpV} {bs:List BlkV}
def rIdx(bs:List BlkV)(i:Nat)(b:BlkV):Int:=match rN bs i b with | some j=>(j:Int) | none=>-2
theorem rpar_run{n:Nat}{i:Nat}(hi:i<bs.length)(hl:bs.length<=1000000)(hn:bs.length+3<=n):evF EnA n 76 [.list 8 (bs.map BlkV.fv),iF (i:Int)]=some [iF (if bs[i].pq<=0 then -1 else rIdx bs i bs[i])]:=by
 obtain⟨n,rfl⟩:=qSx n;rw[qrg,Aa,q9 hi];simp only[q2i hi,rr];by_cases hp:bs[i].pq<=0
 ·rw[Af hp,Ac,if_pos hp]
 rw[Ad hp,Ab,if_neg hp];have key:∀(d k m:Nat),k+d=bs.length->d<m->(∀j,j<k->(j !=i&&((bs[j]?).map (q41 bs[i])).getD false)=false) ->
   q6r.l4 n [] m [.list 8 (bs.map BlkV.fv),iF (i:Int),iF (k:Int)]=some [iF (rIdx bs i bs[i])]:=by
  intro d
  induction d with
  |zero =>
   intro k m hk hm hno;obtain⟨m,rfl⟩:=qSx m;have:rN bs i bs[i]=none:=by
    unfold rN;exact List.find?_eq_none.2 λj hj=>by
     have:=hno j (by have:=Cs.1 hj;omega);simpa using this
   rw[q6r.q13,Aa,Ad,Ab];unfold rIdx;rw[this]
  |succ d ih =>
   intro k m hk hm hno;obtain⟨m,rfl⟩:=qSx m;have hkl:k<bs.length:=by omega
   have next:(k !=i&&q41 bs[i] bs[k])=false->q6r.l4 n [] m [.list 8 (bs.map BlkV.fv),iF (i:Int),iF ((k+1:Nat):Int)]=some [iF (rIdx bs i bs[i])]:=λhf =>
    ih (k+1) m (by omega) (by omega) λj hj=>by
     by_cases hjk:j=k
     ·subst hjk;rw[Ag hkl];exact hf
     ·exact hno j (by omega)
   rw[q6r.q13,Aa,Af,Ac,q9 hkl,q9 hi,qd (by omega)];simp only[q2i hkl,q2i hi,rr];rw[show(((k:Nat):Int) !=((i:Nat):Int))=(k !=i) by simp[bne,BEq.beq];omega,toList_eq];cases hki:(k !=i)with
   |false =>
    rw[Ab];exact next (by rw[hki];rfl)
   |true =>
    rw[Ac];by_cases hw:bs[k].who=bs[i].who
    ·rw[Af hw,Ac];by_cases hs:bs[k].seq=bs[i].pq
     ·rw[show(bs[k].seq==bs[i].pq)=true by simpa using hs,Ac];have hp2:q41 bs[i] bs[k]=true:=qan.2 ⟨hw,hs⟩;have:rN bs i bs[i]=some k:=by
       unfold rN;rw[List.find?_range_eq_some];refine⟨by rw[Ag hkl,hki];exact hp2,Cs.2 hkl,λj hj=>?_⟩;have h5:=hno j hj;by_cases hji:j=i
       ·simp[hji]
       ·simpa[hji]using h5
      unfold rIdx;rw[this]
     ·rw[show(bs[k].seq==bs[i].pq)=false by simpa using hs,Ab];exact next (by rw[hki,AA];exact AI.2 λq=>hs (qan.1 q).2)
    ·rw[Ad hw,Ab];exact next (by rw[hki,AA];exact AI.2 λq=>hw (qan.1 q).1)
 exact key bs.length 0 n (by omega) (by omega) (λj hj=>by omega)
theorem qrh(bs:List BlkV)(i:Nat)(b:BlkV):(rN bs i b=none/\rIdx bs i b=-2)\/∃j,rN bs i b=some j/\rIdx bs i b=(j:Int)/\j<bs.length:=by
 unfold rIdx;cases h:rN bs i b with
 |none=>exact .inl ⟨rfl,rfl⟩
 |some j =>
  obtain⟨_,c,hc,_⟩:=qdv h;exact .inr ⟨j,rfl,rfl,(Am.1 hc).1⟩
theorem walk_loop{n:Nat}(hl:bs.length<=1000000)(hn:bs.length+5<=n){x6:Int}{m0:Nat}:∀(d k j m:Nat),k+d=bs.length+1->d+1<m->j<bs.length ->
  q1f.l19 n [m0] m [iF g.qa,iF g.qe,.list 3 (g.lq.map qw.fv),iF g.low,iF g.high,.list 8 (bs.map BlkV.fv),iF x6,iF (j:Int),iF (k:Int)] =
   bif rW bs d j then q1f.l12 n [] m0 [iF g.qa,iF g.qe,.list 3 (g.lq.map qw.fv),iF g.low,iF g.high,.list 8 (bs.map BlkV.fv),iF (w6 (x6+1))]else some [.bool false]:=by
 intro d
 induction d with
 |zero =>
  intro k j m hk hm hj;obtain⟨m,rfl⟩:=qSx m;rw[q1f.q4j,Af,Ac,Aa,Af,Ac];rfl
 |succ d ih =>
  intro k j m hk hm hj;obtain⟨m,rfl⟩:=qSx m;rw[q1f.q4j,Af,Ac,Aa,Ad,Ab,rpar_run hj hl (by omega),qd (i:=k) (by omega)];simp only[rr];unfold rW;rw[Ag hj];simp only;by_cases hp:bs[j].pq<=0
  ·rw[if_pos hp,if_pos hp,Ac];obtain⟨m,rfl⟩:=qSx m;rw[q1f.q4j,Ad,Ab];rfl
  ·rw[if_neg hp,if_neg hp];rcases qrh bs j bs[j]with⟨h1,h2⟩ | ⟨j',h1,h2,h3⟩
   ·rw[h1,h2];obtain⟨m,rfl⟩:=qSx m;rw[q1f.q4j,Ad,Ab];rfl
   ·rw[h1,h2];exact ih (k+1) j' m (by omega) (by omega) h3
def wblk(g:q11)(bs:List BlkV)(i:Nat):Bool:=match bs[i]? with | some b=>q3j g b | none=>true
def wri(P:Nat->Bool)(i:Nat):Bool:=i==0||P i
theorem qkf(i:Nat):decide (((i+1:Nat):Int)>0)=true:=Af
theorem qri{n m i:Nat}(hz:1<=g.qa/\g.qa<=3)(hl:bs.length<=1000000)(hq:∀b,b∈bs->b.qty.length<=1000000)(hn:bs.length+(bs.map λb=>b.qty.length).sum+10<=n)(hi:i<bs.length) :
  q1f.l12 n [] (m+1) [iF g.qa,iF g.qe,.list 3 (g.lq.map qw.fv),iF g.low,iF g.high,.list 8 (bs.map BlkV.fv),iF (i:Int)] =
   bif(q3j g bs[i]&&wri (riK bs) i&&rW bs (bs.length+1) i)then q1f.l12 n [] m [iF g.qa,iF g.qe,.list 3 (g.lq.map qw.fv),iF g.low,iF g.high,.list 8 (bs.map BlkV.fv),iF ((i+1:Nat):Int)]else some [.bool false]:=by
 have hqi:=hq bs[i] (Ah hi);have hsum:bs[i].qty.length<=(bs.map λb=>b.qty.length).sum:=le_sum (Bp.2 ⟨bs[i],Ah hi,rfl⟩);have hblk:=block_run (g:=g) hz (n:=n) (b:=bs[i]) hqi (by omega);unfold gL blkL at hblk;simp only[Al,As]at hblk;have hwalk:=walk_loop (g:=g) (n:=n) (x6:=(i:Int)) (m0:=m) hl (by omega) (bs.length+1) 0 i n (by omega) (by omega) hi;rw[qd (by omega)]at hwalk;have hwalk:q1f.l19 n [m] n [iF g.qa,iF g.qe,.list 3 (g.lq.map qw.fv),iF g.low,iF g.high,.list 8 (bs.map BlkV.fv),iF (i:Int),iF (i:Int),iF 0]=_:=hwalk;rw[q1f.q58,Aa,Af,Ac,q9 hi];simp only[q2i hi,rr];rw[hblk];simp only[rr];cases hb:q3j g bs[i]with
 |false=>rfl
 |true =>
  simp only[Ao,Ab,AA];cases i with
  |zero =>
   rw[Ad,Ab,hwalk];rfl
  |succ j =>
   have hj:j<bs.length:=by omega
   rw[qkf,Ac,qdw j,q9 hj];simp only[q2i hj,rr];rw[hwalk];have e:wri (riK bs) (j+1)=nmB bs[j].who bs[j].seq bs[j+1].who bs[j+1].seq:=by
    unfold wri riK;rw[show j+1-1=j from rfl,Ag hj,Ag hi];rfl
   rw[e,qkg];cases Op.bytesLess bs[j].who.toList bs[j+1].who.toList <;> cases(bs[j].who.toList==bs[j+1].who.toList) <;> cases decide (bs[j].seq≥bs[j+1].seq) <;> cases rW bs (bs.length+1) (j+1) <;> rfl
theorem qrj{n m i:Nat}(hz:1<=g.qa/\g.qa<=3)(hh:1<=g.qe/\g.qe<=3)(hl:ss.length<=1000000)(hn:1<=n)(hi:i<ss.length) :
  q1f.l4 n [] (m+1) [iF g.qa,iF g.qe,.list 3 (g.lq.map qw.fv),iF g.low,iF g.high,.list 7 (ss.map StpV.fv),.list 8 (bs.map BlkV.fv),iF (i:Int)] =
   bif(q3s g ss[i]&&wri (riS ss) i)then q1f.l4 n [] m [iF g.qa,iF g.qe,.list 3 (g.lq.map qw.fv),iF g.low,iF g.high,.list 7 (ss.map StpV.fv),.list 8 (bs.map BlkV.fv),iF ((i+1:Nat):Int)]else some [.bool false]:=by
 obtain⟨n,rfl⟩:=qSx n;rw[q1f.q13,Aa,Af,Ac,q9 hi,qo (x:=g.qa-1),qo (x:=g.qe-1),qd (by omega)];simp (disch:=omega) only[q36 hi,qgn,rr];unfold q3s;cases i with
 |zero =>
  rw[Ad (show ¬ (((0:Nat):Int)>0) by omega)];cases qn ss[0].zone 0 (g.qa-1) <;> cases qn ss[0].hour 0 (g.qe-1) <;> cases qn ss[0].qty 1 1000 <;> cases qn ss[0].qh g.low g.high <;> rfl
 |succ j =>
  have hj:j<ss.length:=by omega
  rw[qkf,Ac,qdw j,q9 hj];simp only[q36 hj,rr];have e:wri (riS ss) (j+1)=nmB ss[j].who ss[j].seq ss[j+1].who ss[j+1].seq:=by
   unfold wri riS;rw[show j+1-1=j from rfl,Ag hj,Ag hi];rfl
  rw[e,qkg];cases qn ss[j+1].zone 0 (g.qa-1)
  ·rfl
  cases qn ss[j+1].hour 0 (g.qe-1)
  ·rfl
  cases qn ss[j+1].qty 1 1000
  ·rfl
  cases qn ss[j+1].qh g.low g.high
  ·rfl
  cases Op.bytesLess ss[j].who.toList ss[j+1].who.toList <;> cases(ss[j].who.toList==ss[j+1].who.toList) <;> cases decide (ss[j].seq≥ss[j+1].seq) <;> rfl
theorem qcb{P Q:Nat->Bool}(l:List Nat):l.all (λi=>P i&&Q i)=(l.all P&&l.all Q):=by
 induction l with
 |nil=>rfl
 |cons x l ih =>
  rw[Bk,Bk,Bk,ih];cases P x <;> cases Q x <;> cases l.all P <;> cases l.all Q <;> rfl
theorem all_wri{P:Nat->Bool}(n:Nat):(List.range' 0 n).all (wri P)=(List.range' 1 (n-1)).all P:=by
 cases n with
 |zero=>rfl
 |succ n =>
  rw[BS,Bk,show wri P 0=true from rfl,AA,show n+1-1=n from rfl];rw[Bm,Av,Av];constructor
  ·intro h i hi;have:=h i hi;have h0:i≠0:=by rw[Cg]at hi;omega
   unfold wri at this;simpa[h0]using this
  ·intro h i hi;unfold wri;rw[h i hi];simp
theorem bl_iff(a b:ByteArray):Op.bytesLess a.toList b.toList=true↔a.toList<b.toList:=by
 rw[Go.Proofs.bytesLess_eq];simp
theorem nmB_iff{a b:ByteArray}{m n:Int}:nmB a m b n=true↔nmLt a m b n:=by
 unfold nmB nmLt;rw[DO,bl_iff,Ai,toList_eq,At,At]
theorem qrk(h:q5m bs=true):Uniq bs:=by
 refine Rise.uniq λi a b ha hb=>?_;unfold q5m at h;have hlt:=(Am.1 hb).1;have:=Av.1 h (i+1) (by rw[Cg];omega);rw[show i+1-1=i from rfl,ha,hb]at this;exact nmB_iff.1 this
theorem qmt{n:Nat}(hg:g.lq.length<=140737488355328)(hs:ss.length<=1000000)(hb:bs.length<=1000000)(hq:∀b,b∈bs->b.qty.length<=1000000)(hn:ss.length+bs.length+(bs.map λb=>b.qty.length).sum+40<=n) :
  evF EnA n 19 (gL g++[.list 7 (ss.map StpV.fv),.list 8 (bs.map BlkV.fv)])=some [.bool (q2l g ss bs)]:=by
 obtain⟨n,rfl⟩:∃k,n=k+3:=⟨n-3,by omega⟩;have hgc:=qrl (g:=g) (n:=n+2) hg (by omega);unfold gL at hgc ⊢;simp only[Al,As];rw[qrm,hgc,Aa,Aa];simp only[rr];unfold q2l;by_cases hgv:q39 g=true
 ·obtain⟨hz,hh⟩:qn g.qa 1 3=true/\qn g.qe 1 3=true:=by
   unfold q39 at hgv;simp only[Ai]at hgv;exact⟨hgv.1.1.1.1.1,hgv.1.1.1.1.2⟩
  have hz:=q4o.1 hz;have hh:=q4o.1 hh;rw[hgv,if_pos rfl];by_cases h32:ss.length<=32
  ·rw[Af h32,Ad (show ¬ ((ss.length:Int)>32) by omega)];by_cases h12:bs.length<=12
   ·rw[Af h12,Ad (show ¬ ((bs.length:Int)>12) by omega)];simp only[CW,Ab,AA]
    have e12:=q1w (F:=λm i=>q1f.l12 (n+2) [] m [iF g.qa,iF g.qe,.list 3 (g.lq.map qw.fv),iF g.low,iF g.high,.list 8 (bs.map BlkV.fv),iF (i:Int)]) (len:=bs.length) (P:=λi=>(wblk g bs i&&wri (riK bs) i)&&rW bs (bs.length+1) i) (fin:=some [.bool true]) (stop:=some [.bool false]) (λm i hi=>by
     have:=qri (g:=g) (m:=m) (n:=n+2) hz hb hq (by omega) hi;unfold wblk;rw[Ag hi];exact this) (λm=>by
     show q1f.l12 (n+2) [] (m+1) _=_
     rw[q1f.q58,Aa,Ad,Ab]) bs.length 0 (n+2) (by omega) (by omega)
    have e12:q1f.l12 (n+2) [] (n+2) [iF g.qa,iF g.qe,.list 3 (g.lq.map qw.fv),iF g.low,iF g.high,.list 8 (bs.map BlkV.fv),iF 0]=_:=e12;have e4:=q1w (F:=λm i=>q1f.l4 (n+2) [] m [iF g.qa,iF g.qe,.list 3 (g.lq.map qw.fv),iF g.low,iF g.high,.list 7 (ss.map StpV.fv),.list 8 (bs.map BlkV.fv),iF (i:Int)]) (len:=ss.length) (P:=λi=>(match ss[i]? with | some s=>q3s g s | none=>true)&&wri (riS ss) i)
     (fin:=q1f.l12 (n+2) [] (n+2) [iF g.qa,iF g.qe,.list 3 (g.lq.map qw.fv),iF g.low,iF g.high,.list 8 (bs.map BlkV.fv),iF 0]) (stop:=some [.bool false]) (λm i hi=>by
     have:=qrj (g:=g) (bs:=bs) (m:=m) (n:=n+2) hz hh hs (by omega) hi;rw[Ag hi];exact this) (λm=>by
     show q1f.l4 (n+2) [] (m+1) _=_
     rw[q1f.q13,Aa,Ad,Ab]) ss.length 0 (n+2) (by omega) (by omega)
    have e4:q1f.l4 (n+2) [] (n+2) [iF g.qa,iF g.qe,.list 3 (g.lq.map qw.fv),iF g.low,iF g.high,.list 7 (ss.map StpV.fv),.list 8 (bs.map BlkV.fv),iF 0]=_:=e4
    rw[e4,e12,qcb,qcb,qcb,all_wri,all_wri,q4p ss (q3s g) (λi hi=>by rw[Ag hi]),q4p bs (q3j g) (λi hi=>by unfold wblk;rw[Ag hi]),
     show(List.range' 1 (ss.length-1)).all (riS ss)=q6s ss from rfl,show(List.range' 1 (bs.length-1)).all (riK bs)=q5m bs from rfl]
    by_cases hr:q5m bs=true
    ·rw[show(List.range' 0 bs.length).all (rW bs (bs.length+1))=(List.range' 0 bs.length).all (pW bs (bs.length+1)) from qcf λi _=>(qkh (qrk hr) _ _).symm,hr];cases ss.all (q3s g) <;> cases bs.all (q3j g) <;> cases q6s ss <;> cases(List.range' 0 bs.length).all (pW bs (bs.length+1)) <;> rfl
    ·rw[AI.2 hr];cases ss.all (q3s g) <;> cases bs.all (q3j g) <;> cases q6s ss <;> rfl
   ·rw[Ad h12,Af (show((bs.length:Int)>12) by omega)];simp
  ·rw[Ad h32,Af (show((ss.length:Int)>32) by omega)];simp
 ·rw[AI.2 hgv];simp
end
end
section
def Sz(q:Rat):Prop:=Bd 1000000000 q
theorem Sz.of{q:Rat}{k:Nat}(h:Bd k q)(hk:k<=1000000000):Sz q:=h.mono hk
def ratF(q:Rat):FV:=.agg [zl (q).num,zb (q).num,nL (q).den,.bool false]
def qm(q:Rat):FV:=.agg [zb (q).num,wl (q).num,.bool false,wL (q).den]
theorem rat_at{L:List Rat}{i:Nat}(h:i<L.length)(c:Nat):at' (L.map ratF) i c=[zl (L[i]).num,zb (L[i]).num,nL (L[i]).den,.bool false][c]?:=by rw[q26,Ag h];rfl
theorem q78{X:List Txt}{i:Nat}(h:i<X.length):at' (X.map sF) i 0=some (sF X[i]):=by rw[q26,Ag h];rfl
theorem q4q{X:List Bool}{i:Nat}(h:i<X.length):at' (X.map FV.bool) i 0=some (.bool X[i]):=by rw[q26,Ag h];rfl
section
variable {n:Nat} {q r:Rat} {d e:Nat}
theorem a_of{z:Int}(h1:-9223372036854775808<=z:=by omega)(h2:z<=9223372036854775807:=by omega):evF EnA (n+1) 111 [iF z]=some [zl ((z:Rat)).num,zb ((z:Rat)).num,nL ((z:Rat)).den,.bool false]:=by
 have:evF EnA (n+1) 111 [iF z]=limO En 111 [iF z]:=by kernel_rfl
 rw[this];exact q1l (of_ev h1 h2)
theorem a_add(hq:Sz q)(hr:Sz r)(hd:dn d=q.den)(he:dn e=r.den):evF EnA (n+1) 113 [zl (q).num,zb (q).num,nL (d),.bool false,zl (r).num,zb (r).num,nL (e),.bool false]=some [zl (q+r).num,zb (q+r).num,nL (q+r).den,.bool false]:=by
 have:evF EnA (n+1) 113 [zl (q).num,zb (q).num,nL (d),.bool false,zl (r).num,zb (r).num,nL (e),.bool false]=limO En 113 [zl (q).num,zb (q).num,nL (d),.bool false,zl (r).num,zb (r).num,nL (e),.bool false]:=by kernel_rfl
 rw[this];exact q1l (radd_ev (by omega) (by omega) hq hr hd he)
theorem a_sub(hq:Sz q)(hr:Sz r)(hd:dn d=q.den)(he:dn e=r.den):evF EnA (n+1) 112 [zl (q).num,zb (q).num,nL (d),.bool false,zl (r).num,zb (r).num,nL (e),.bool false]=some [zl (q-r).num,zb (q-r).num,nL (q-r).den,.bool false]:=by
 have:evF EnA (n+1) 112 [zl (q).num,zb (q).num,nL (d),.bool false,zl (r).num,zb (r).num,nL (e),.bool false]=limO En 112 [zl (q).num,zb (q).num,nL (d),.bool false,zl (r).num,zb (r).num,nL (e),.bool false]:=by kernel_rfl
 rw[this];exact q1l (rsub_ev (by omega) (by omega) hq hr hd he)
theorem a_mul(hq:Sz q)(hr:Sz r)(hd:dn d=q.den)(he:dn e=r.den):evF EnA (n+1) 154 [zl (q).num,zb (q).num,nL (d),.bool false,zl (r).num,zb (r).num,nL (e),.bool false]=some [zl (q*r).num,zb (q*r).num,nL (q*r).den,.bool false]:=by
 have:evF EnA (n+1) 154 [zl (q).num,zb (q).num,nL (d),.bool false,zl (r).num,zb (r).num,nL (e),.bool false]=limO En 154 [zl (q).num,zb (q).num,nL (d),.bool false,zl (r).num,zb (r).num,nL (e),.bool false]:=by kernel_rfl
 rw[this];exact q1l (rmul_ev (by omega) (by omega) hq hr hd he)
theorem a_neg(hq:Sz q)(hd:dn d=q.den):evF EnA (n+1) 169 [zl (q).num,zb (q).num,nL (d),.bool false]=some [zl (-q).num,zb (-q).num,nL (-q).den,.bool false]:=by
 have:evF EnA (n+1) 169 [zl (q).num,zb (q).num,nL (d),.bool false]=limO En 169 [zl (q).num,zb (q).num,nL (d),.bool false]:=by kernel_rfl
 rw[this];exact q1l (rneg_ev (by omega) hq hd)
theorem a_sign(hq:Sz q){l:List FV}{b:Bool}:evF EnA (n+1) 115 [zl q.num,zb q.num,.list 1 l,.bool b]=some [iF q.num.sign]:=by
 have:evF EnA (n+1) 115 [zl q.num,zb q.num,.list 1 l,.bool b]=limO En 115 [zl q.num,zb q.num,.list 1 l,.bool b]:=by kernel_rfl
 rw[this];exact q1l (rsign_ev (k:=1000000000) (by omega) hq)
def cmpQ(q r:Rat):Int:=q20 (q.num*(r.den:Int)) (r.num*(q.den:Int))
theorem q65(hq:Sz q)(hr:Sz r)(hd:dn d=q.den)(he:dn e=r.den):evF EnA (n+1) 116 [zl (q).num,zb (q).num,nL (d),.bool false,zl (r).num,zb (r).num,nL (e),.bool false]=some [iF (cmpQ q r)]:=by
 have:evF EnA (n+1) 116 [zl (q).num,zb (q).num,nL (d),.bool false,zl (r).num,zb (r).num,nL (e),.bool false]=limO En 116 [zl (q).num,zb (q).num,nL (d),.bool false,zl (r).num,zb (r).num,nL (e),.bool false]:=by kernel_rfl
 rw[this];exact q1l (rcmp_ev (k:=1000000000) (by omega) hq hr hd he)
theorem a_text(hq:Sz q)(hd:dn d=q.den):evF EnA (n+1) 167 [zl (q).num,zb (q).num,nL (d),.bool false]=some [sF (qy q)]:=by
 have:evF EnA (n+1) 167 [zl (q).num,zb (q).num,nL (d),.bool false]=limO En 167 [zl (q).num,zb (q).num,nL (d),.bool false]:=by kernel_rfl
 rw[this];exact q1l (qb1 (by omega) (by omega) hq hd)
theorem qb2{t:Txt}(h:pr t=some q)(hl:t.length<=100000000:=by omega):evF EnA (n+1) 118 [sF t]=some [zl (q).num,zb (q).num,nL (q).den,.bool false,iF 0]:=by
 have:evF EnA (n+1) 118 [sF t]=limO En 118 [sF t]:=by kernel_rfl
 rw[this];exact q1l (qij h hl)
theorem a_bad{t:Txt}(h:pr t=none)(hl:t.length<=100000000:=by omega):evF EnA (n+1) 118 [sF t]=some [.list 1 [],.bool false,.list 1 [],.bool false,iF 10]:=by
 have:evF EnA (n+1) 118 [sF t]=limO En 118 [sF t]:=by kernel_rfl
 rw[this];exact q1l (qik h hl)
theorem w_of{z:Int}(h1:-9223372036854775808<=z:=by omega)(h2:z<=9223372036854775807:=by omega):evF EnA (n+1) 12 [iF z]=some [zb ((z:Rat)).num,wl ((z:Rat)).num,.bool false,wL ((z:Rat)).den]:=by
 have:evF EnA (n+1) 12 [iF z]=limO En 12 [iF z]:=by kernel_rfl
 rw[this];exact q1l (qa2 h1 h2)
theorem w_add(hq:Sz q)(hr:Sz r)(hd:dn d=q.den)(he:dn e=r.den):evF EnA (n+1) 37 [zb (q).num,wl (q).num,.bool false,wL (d),zb (r).num,wl (r).num,.bool false,wL (e)]=some [zb (q+r).num,wl (q+r).num,.bool false,wL (q+r).den]:=by
 have:evF EnA (n+1) 37 [zb (q).num,wl (q).num,.bool false,wL (d),zb (r).num,wl (r).num,.bool false,wL (e)]=limO En 37 [zb (q).num,wl (q).num,.bool false,wL (d),zb (r).num,wl (r).num,.bool false,wL (e)]:=by kernel_rfl
 rw[this];exact q1l (qcl (by omega) hq hr hd he)
theorem w_sub(hq:Sz q)(hr:Sz r)(hd:dn d=q.den)(he:dn e=r.den):evF EnA (n+1) 92 [zb (q).num,wl (q).num,.bool false,wL (d),zb (r).num,wl (r).num,.bool false,wL (e)]=some [zb (q-r).num,wl (q-r).num,.bool false,wL (q-r).den]:=by
 have:evF EnA (n+1) 92 [zb (q).num,wl (q).num,.bool false,wL (d),zb (r).num,wl (r).num,.bool false,wL (e)]=limO En 92 [zb (q).num,wl (q).num,.bool false,wL (d),zb (r).num,wl (r).num,.bool false,wL (e)]:=by kernel_rfl
 rw[this];exact q1l (qey (by omega) hq hr hd he)
theorem w_mul(hq:Sz q)(hr:Sz r)(hd:dn d=q.den)(he:dn e=r.den):evF EnA (n+1) 13 [zb (q).num,wl (q).num,.bool false,wL (d),zb (r).num,wl (r).num,.bool false,wL (e)]=some [zb (q*r).num,wl (q*r).num,.bool false,wL (q*r).den]:=by
 have:evF EnA (n+1) 13 [zb (q).num,wl (q).num,.bool false,wL (d),zb (r).num,wl (r).num,.bool false,wL (e)]=limO En 13 [zb (q).num,wl (q).num,.bool false,wL (d),zb (r).num,wl (r).num,.bool false,wL (e)]:=by kernel_rfl
 rw[this];exact q1l (qcm (by omega) hq hr hd he)
theorem w_neg(hd:dn d=q.den):evF EnA (n+1) 39 [zb (q).num,wl (q).num,.bool false,wL (d)]=some [zb (-q).num,wl (-q).num,.bool false,wL (-q).den]:=by
 have:evF EnA (n+1) 39 [zb (q).num,wl (q).num,.bool false,wL (d)]=limO En 39 [zb (q).num,wl (q).num,.bool false,wL (d)]:=by kernel_rfl
 rw[this];exact q1l (qez hd)
theorem w_sign{l:List FV}{b:Bool}:evF EnA (n+1) 38 [zb q.num,wl q.num,.bool b,.list 1 l]=some [iF q.num.sign]:=by
 have:evF EnA (n+1) 38 [zb q.num,wl q.num,.bool b,.list 1 l]=limO En 38 [zb q.num,wl q.num,.bool b,.list 1 l]:=by kernel_rfl
 rw[this];exact q1l (Ev.of 1 λm hm=>by obtain⟨m,rfl⟩:=qSx m;exact qo6)
theorem q4r(hq:Sz q)(hr:Sz r)(hd:dn d=q.den)(he:dn e=r.den):evF EnA (n+1) 32 [zb (q).num,wl (q).num,.bool false,wL (d),zb (r).num,wl (r).num,.bool false,wL (e)]=some [iF (cmpQ q r)]:=by
 have:evF EnA (n+1) 32 [zb (q).num,wl (q).num,.bool false,wL (d),zb (r).num,wl (r).num,.bool false,wL (e)]=limO En 32 [zb (q).num,wl (q).num,.bool false,wL (d),zb (r).num,wl (r).num,.bool false,wL (e)]:=by kernel_rfl
 rw[this];exact q1l (qil (k:=1000000000) (by omega) hq hr hd he)
theorem w_text(hq:Sz q)(hd:dn d=q.den):evF EnA (n+1) 14 [zb (q).num,wl (q).num,.bool false,wL (d)]=some [sF (qy q)]:=by
 have:evF EnA (n+1) 14 [zb (q).num,wl (q).num,.bool false,wL (d)]=limO En 14 [zb (q).num,wl (q).num,.bool false,wL (d)]:=by kernel_rfl
 rw[this];exact q1l (qcn (by omega) hq hd)
theorem qel{t:Txt}(h:pr t=some q)(hl:t.length<=100000000:=by omega):evF EnA (n+1) 22 [sF t]=some [zb (q).num,wl (q).num,.bool false,wL (q).den,iF 0]:=by
 have:evF EnA (n+1) 22 [sF t]=limO En 22 [sF t]:=by kernel_rfl
 rw[this];exact q1l (qim h hl)
theorem w_bad{t:Txt}(h:pr t=none)(hl:t.length<=100000000:=by omega):evF EnA (n+1) 22 [sF t]=some [.bool false,.list 1 [],.bool false,.list 1 [],iF 10]:=by
 have:evF EnA (n+1) 22 [sF t]=limO En 22 [sF t]:=by kernel_rfl
 rw[this];exact q1l (qin h hl)
theorem a_linked{bs:List BlkV}{ac:List Bool}(hb:bs.length<=1000000):evF EnA (n+1) 20 [.list 8 (bs.map BlkV.fv),.list 1 (ac.map .bool)]=some [.bool (q4f bs ac)]:=by
 have:evF EnA (n+1) 20 [.list 8 (bs.map BlkV.fv),.list 1 (ac.map .bool)]=limO En 20 [.list 8 (bs.map BlkV.fv),.list 1 (ac.map .bool)]:=by kernel_rfl
 rw[this];exact q1l (linked_ev hb)
end
theorem q4d{q r:Rat}:decide (cmpQ q r<0)=decide (q<r):=by rw[BW];exact cmp_lt
theorem q57{q r:Rat}:decide (cmpQ q r>0)=decide (r<q):=by rw[BW];exact cmp_gt
theorem cmpQ_le{q r:Rat}:decide (cmpQ q r<=0)=decide (q<=r):=by rw[BW];exact cmp_le
theorem cmpQ_ge{q r:Rat}:decide (cmpQ q r≥0)=decide (r<=q):=by rw[BW];exact cmp_ge
theorem cmpQ_bd(q r:Rat):-1<=cmpQ q r/\cmpQ q r<=1:=by
 unfold cmpQ q20;split
 ·omega
 ·split <;> omega
theorem sgn_gt0{q:Rat}:decide (q.num.sign>0)=decide (0<q):=by rw[BW];exact sgn_pos
theorem sgn_lt0{q:Rat}:decide (q.num.sign<0)=decide (q<0):=by rw[BW];exact sgn_neg
theorem sgn_ne0{q:Rat}:(q.num.sign !=0)=!decide (q=0):=by
 by_cases h:q=0
 ·rw[Af h,h];rfl
 ·rw[Ad h];have:q.num.sign≠0:=λe=>h (sgn_zero.1 e);simpa using this
theorem q35{t:Txt}(h:t.length<=256):Bd 1024 (rd t):=by
 unfold rd;cases hp:pr t with
 |none=>exact q82.mono
 |some q=>exact(qa3 hp).mono
theorem rd_some{t:Txt}{q:Rat}(h:pr t=some q):rd t=q:=by unfold rd;rw[h];rfl
theorem qf0{α β:Type}(f:α->β)(z:β)(X:List α){i:Nat}(h:i<X.length):((X.take i).map f++List.replicate (X.length-i) z).set i (f X[i])=(X.take (i+1)).map f++List.replicate (X.length-(i+1)) z:=by
 have hl:((X.take i).map f).length=i:=by simp;omega
 rw[Fv _ _ (by omega),hl,Cn,show X.length-i=(X.length-(i+1))+1 by omega,Cd,List.set_cons_zero,Dw,Ag h,AK,Ap];rfl
section
variable {X:List Txt}
theorem nums_run{n:Nat}(hx:∀t,t∈X->t.length<=256)(hl:X.length<=1000000)(hn:X.length+4<=n):evF EnA n 105 [.list 1 (X.map sF)]=if X.all isNum=true then some [.list 4 (X.map λt=>ratF (rd t)),.bool true]else some [.list 4 [],.bool false]:=by
 obtain⟨n,rfl⟩:∃k,n=k+2:=⟨n-2,by omega⟩;have h:=q1w (F:=λm i=>q66.l3 (n+1) [] m [.list 4 ((X.take i).map (λt=>ratF (rd t))++List.replicate (X.length-i) (.agg [.list 1 [],.bool false,.list 1 [],.bool false])),.list 1 (X.map sF),iF (X.length:Int),iF (i:Int)]) (len:=X.length) (P:=λi=>match X[i]? with | some t=>isNum t | none=>true)
  (fin:=some [.list 4 (X.map λt=>ratF (rd t)),.bool true]) (stop:=some [.list 4 [],.bool false]) (λm i hi=>by
  show q66.l3 (n+1) [] (m+1) _=_;rw[q66.qq,Af,Ac,Aa,q9 hi,Ag hi];simp only[q78 hi,rr];have hlen:=hx X[i] (Ah hi);cases hp:pr X[i]with
  |none =>
   rw[a_bad hp];simp only[rr];have:isNum X[i]=false:=by unfold isNum;rw[hp];rfl
   rw[this];rfl
  |some q =>
   rw[qb2 hp];simp only[rr];have:isNum X[i]=true:=by unfold isNum;rw[hp];rfl
   rw[this,Ac,q9 (by simp;omega),qd (by omega)];simp only[rr];rw[show(FV.agg [zl (q).num,zb (q).num,nL (q).den,.bool false])=ratF (rd X[i]) by rw[rd_some hp];rfl,qf0 (λt=>ratF (rd t)) _ X hi];rfl) (λm=>by
  show q66.l3 (n+1) [] (m+1) _=_
  rw[q66.qq,Ad,Ab,Bj,Cn,Co,AN]) X.length 0 (n+1) (by omega) (by omega)
 rw[q4p X isNum (λi hi=>by rw[Ag hi])]at h;rw[qo7,Aa];have e1:q1p 64 ((X.length:Nat):Int)=some X.length:=by
  unfold q1p;rw[if_pos ⟨by omega,by omega,by omega⟩,Bh]
 rw[e1,Ae,q1s (Ak _),Ae];have h:q66.l3 (n+1) [] (n+1) [.list 4 (List.replicate X.length (.agg [.list 1 [],.bool false,.list 1 [],.bool false])),.list 1 (X.map sF),iF (X.length:Int),iF 0]=_:=h;rw[h];cases X.all isNum <;> rfl
theorem gnums_run{n:Nat}(hx:∀t,t∈X->t.length<=256)(hl:X.length<=1000000)(hn:X.length+4<=n):evF EnA n 168 [.list 1 (X.map sF)]=if X.all isNum=true then some [.list 4 (X.map λt=>ratF (rd t)),.bool true]else some [.list 4 [],.bool false]:=by
 obtain⟨n,rfl⟩:∃k,n=k+2:=⟨n-2,by omega⟩;have h:=q1w (F:=λm i=>q67.l3 (n+1) [] m [.list 4 ((X.take i).map (λt=>ratF (rd t))++List.replicate (X.length-i) (.agg [.list 1 [],.bool false,.list 1 [],.bool false])),.list 1 (X.map sF),iF (X.length:Int),iF (i:Int)]) (len:=X.length) (P:=λi=>match X[i]? with | some t=>isNum t | none=>true)
  (fin:=some [.list 4 (X.map λt=>ratF (rd t)),.bool true]) (stop:=some [.list 4 [],.bool false]) (λm i hi=>by
  show q67.l3 (n+1) [] (m+1) _=_;rw[q67.qq,Af,Ac,Aa,q9 hi,Ag hi];simp only[q78 hi,rr];have hlen:=hx X[i] (Ah hi);cases hp:pr X[i]with
  |none =>
   rw[a_bad hp];simp only[rr];have:isNum X[i]=false:=by unfold isNum;rw[hp];rfl
   rw[this];rfl
  |some q =>
   rw[qb2 hp];simp only[rr];have:isNum X[i]=true:=by unfold isNum;rw[hp];rfl
   rw[this,Ac,q9 (by simp;omega),qd (by omega)];simp only[rr];rw[show(FV.agg [zl (q).num,zb (q).num,nL (q).den,.bool false])=ratF (rd X[i]) by rw[rd_some hp];rfl,qf0 (λt=>ratF (rd t)) _ X hi];rfl) (λm=>by
  show q67.l3 (n+1) [] (m+1) _=_
  rw[q67.qq,Ad,Ab,Bj,Cn,Co,AN]) X.length 0 (n+1) (by omega) (by omega)
 rw[q4p X isNum (λi hi=>by rw[Ag hi])]at h;rw[qo8,Aa];have e1:q1p 64 ((X.length:Nat):Int)=some X.length:=by
  unfold q1p;rw[if_pos ⟨by omega,by omega,by omega⟩,Bh]
 rw[e1,Ae,q1s (Ak _),Ae];have h:q67.l3 (n+1) [] (n+1) [.list 4 (List.replicate X.length (.agg [.list 1 [],.bool false,.list 1 [],.bool false])),.list 1 (X.map sF),iF (X.length:Int),iF 0]=_:=h;rw[h];cases X.all isNum <;> rfl
end
end
section
structure Sm(g:q11)(ss:List StpV)(bs:List BlkV)(r:ResV):Prop where
 ssl:ss.length<=256
 bsl:bs.length<=256
 lsl:g.lq.length<=140737488351232
 acl:r.aq.length<=256
 xl:r.x.length<=256
 fl:r.f.length<=256
 pl:r.p.length<=256
 x:∀t,t∈r.x->t.length<=256
 f:∀l,l∈r.f->Few l
 p:∀l,l∈r.p->Few l
 w:r.ql.length<=256
 u:r.uq.length<=256
 q:∀b,b∈bs->b.qty.length<=256
abbrev Tg(g:q11)(ss:List StpV)(bs:List BlkV)(r:ResV)(x f p:List FV)(a1 a2:FV)(a3 a4:FV)(b1 b2 b3 b4:FV)(rest:List FV):List FV :=
 iF g.qa::iF g.qe::.list 3 (g.lq.map qw.fv)::iF g.low::iF g.high::.list 7 (ss.map StpV.fv)::.list 8 (bs.map BlkV.fv)::.list 1 (r.aq.map .bool)::.list 1 (r.x.map sF)::.list 1 (r.f.map rowF)::.list 1 (r.p.map rowF)::sF r.ql::sF r.uq::.bool r.q80::iF r.nodes ::
  .list 4 x::.list 1 f::.list 1 p::a1::a2::a3::a4::b1::b2::b3::b4::rest
abbrev T0(g:q11)(ss:List StpV)(bs:List BlkV)(r:ResV)(rest:List FV):List FV:=Tg g ss bs r [] [] [] (.list 1 []) (.bool false) (.list 1 []) (.bool false) (.list 1 []) (.bool false) (.list 1 []) (.bool false) rest
def numR(l:List Txt):FV:=.list 4 (l.map λt=>ratF (rd t))
abbrev T1 (g:q11) (ss:List StpV) (bs:List BlkV) (r:ResV) (rest:List FV):List FV :=
 Tg g ss bs r (r.x.map λt=>ratF (rd t)) (r.f.map numR) (r.p.map numR) (zl (rd r.ql).num) (zb (rd r.ql).num) (nL (rd r.ql).den) (.bool false) (zl (rd r.uq).num) (zb (rd r.uq).num) (nL (rd r.uq).den) (.bool false) rest
theorem nne(a b:Nat):((a:Int) !=(b:Int))=!decide (a=b):=by
 by_cases h:a=b
 ·rw[Af h,h];simp
 ·rw[Ad h];simp;omega
theorem ine(a b:Int):(a !=b)=!decide (a=b):=by simp[bne,BEq.beq]
theorem sum_q{bs:List BlkV}:∀ {bs:List BlkV},(∀b,b∈bs->b.qty.length<=256)->(bs.map λb=>b.qty.length).sum<=256*bs.length
 |[],_=>by simp
 |b::bs,h=>by
  have h1:=sum_q (bs:=bs) (λc hc=>h c (AC _ hc));have h2:=h b AJ;simp only[AS,List.sum_cons,Aq];omega
section
variable {g:q11} {ss:List StpV} {bs:List BlkV} {r:ResV}
theorem Sm.sum(h:Sm g ss bs r):(bs.map λb=>b.qty.length).sum<=65536:=by
 have:=sum_q (bs:=bs) h.q;have:=h.bsl;omega
theorem orders_sm{n:Nat}(h:Sm g ss bs r)(hn:70000<=n):evF EnA n 18 (gL g++[.list 7 (ss.map StpV.fv),.list 8 (bs.map BlkV.fv)])=some [.bool (q2l g ss bs)]:=by
 have:=h.sum;have:=h.ssl;have:=h.bsl;have:=h.lsl;exact qmr (by omega) (by omega) (by omega) (λb hb=>by have:=h.q b hb;omega) (by omega)
theorem qms{n:Nat}(h:Sm g ss bs r)(hn:70000<=n):evF EnA n 19 (gL g++[.list 7 (ss.map StpV.fv),.list 8 (bs.map BlkV.fv)])=some [.bool (q2l g ss bs)]:=by
 have:=h.sum;have:=h.ssl;have:=h.bsl;have:=h.lsl;exact qmt (by omega) (by omega) (by omega) (λb hb=>by have:=h.q b hb;omega) (by omega)
theorem q3t(h:q39 g=true):1<=g.qa/\g.qa<=3/\1<=g.qe/\g.qe<=3/\g.lq.length<=3/\(∀l,l∈g.lq->q3k g l=true)/\-100000<=g.low/\g.low<=g.high/\g.high<=100000:=by
 unfold q39 at h;simp only[Ai,q4o,At,Av]at h;obtain⟨⟨⟨⟨⟨h1,h2⟩,h3⟩,h4⟩,h5⟩,h6⟩:=h;exact⟨h1.1,h1.2,h2.1,h2.2,h3,h4,h5.1,h5.2,h6⟩
theorem q3u(h:q2l g ss bs=true):q39 g=true:=by
 unfold q2l at h;simp only[Ai]at h;exact h.1.1.1.1.1.1.1
theorem q9w{l:qw}(h:q3k g l=true):0<=l.src/\l.src<g.qa/\0<=l.dst/\l.dst<g.qa/\l.src≠l.dst/\0<=l.cap/\l.cap<=1000:=by
 unfold q3k at h;simp only[Ai,q4o,CF]at h;obtain⟨⟨⟨h1,h2⟩,h3⟩,h4⟩:=h;exact⟨h1.1,by omega,h2.1,by omega,h3,h4.1,h4.2⟩
def q81(g:q11)(r:ResV)(h:Nat):Bool:=decide ((r.f.getD h []).length=g.lq.length)&&decide (((r.p.getD h []).length:Int)=g.qa)
theorem getD_at{α:Type}(L:List α)(d:α){i:Nat}(h:i<L.length):L.getD i d=L[i]:=by
 rw[AD,Ag h];rfl
theorem qmu{n:Nat}(h:Sm g ss bs r)(hn:80000<=n):evF EnA n 44 (T0 g ss bs r [])=some (T0 g ss bs r [.bool (q50 g ss bs r)]):=by
 obtain⟨n,rfl⟩:=qSx n;have ho:=orders_sm h (n:=n) (by omega);unfold gL at ho;simp only[Al,As]at ho;rw[qmv,ho,Aa,Aa,Aa,Aa,Aa,Aa];simp only[rr];rw[show q50 g ss bs r=(q2l g ss bs&&decide (r.aq.length=bs.length)&&decide (r.x.length=ss.length)&&decide ((r.f.length:Int)=g.qe)&&decide ((r.p.length:Int)=g.qe)&&decide (0<=r.nodes)&&(List.range' 0 g.qe.toNat).all (q81 g r)) from rfl];cases hov:q2l g ss bs with
 |false=>simp
 |true =>
  obtain⟨z1,z2,z3,z4,_⟩:=q3t (q3u hov);rw[nne,nne,ine,ine,show decide (0<=r.nodes)=!decide (r.nodes<0) from dle _ _];by_cases e1:r.aq.length=bs.length
  ·by_cases e2:r.x.length=ss.length
   ·by_cases e3:(r.f.length:Int)=g.qe
    ·by_cases e4:(r.p.length:Int)=g.qe
     ·have hl:=q1w (F:=λm i=>q5r.l4 n [] m (T0 g ss bs r [iF g.qe,iF (i:Int)])) (len:=g.qe.toNat) (P:=q81 g r) (fin:=some (T0 g ss bs r [.bool true])) (stop:=some (T0 g ss bs r [.bool false])) (λm i hi=>by
       show q5r.l4 n [] (m+1) _=_;have i1:i<r.f.length:=by omega
       have i2:i<r.p.length:=by omega
       rw[q5r.q13,Af,Ac,Aa,Aa,Aa,q9 i1,q9 i2];simp only[q2h i1,q2h i2,rr];rw[Aa,Aa,nne,ine,qd (by omega)];unfold q81;rw[getD_at _ _ i1,getD_at _ _ i2];cases decide (r.f[i].length=g.lq.length) <;> cases decide (((r.p[i].length:Nat):Int)=g.qa) <;> rfl) (λm=>by
       show q5r.l4 n [] (m+1) _=_
       rw[q5r.q13,Ad,Ab]) g.qe.toNat 0 n (by omega) (by omega)
      have hl:q5r.l4 n [] n (T0 g ss bs r [iF g.qe,iF 0])=_:=hl;rw[hl,Af e1,Af e2,Af e3,Af e4];cases decide (r.nodes<0) <;> cases(List.range' 0 g.qe.toNat).all (q81 g r) <;> rfl
     ·rw[Ad e4];simp
    ·rw[Ad e3];simp
   ·rw[Ad e2];simp
  ·rw[Ad e1];simp
structure q3v(g:q11)(ss:List StpV)(bs:List BlkV)(r:ResV):Prop where
 ord:q2l g ss bs=true
 ac:r.aq.length=bs.length
 x:r.x.length=ss.length
 f:(r.f.length:Int)=g.qe
 p:(r.p.length:Int)=g.qe
 nodes:0<=r.nodes
 lens:∀h,h<g.qe.toNat->(r.f.getD h []).length=g.lq.length/\((r.p.getD h []).length:Int)=g.qa
theorem qee:q50 g ss bs r=true↔q3v g ss bs r:=by
 unfold q50;simp only[Ai,At,qc8];constructor
 ·rintro⟨⟨⟨⟨⟨⟨h1,h2⟩,h3⟩,h4⟩,h5⟩,h6⟩,h7⟩;exact⟨h1,h2,h3,h4,h5,h6,h7⟩
 ·intro h;exact⟨⟨⟨⟨⟨⟨h.ord,h.ac⟩,h.x⟩,h.f⟩,h.p⟩,h.nodes⟩,h.lens⟩
def nmL(l:List Txt):List FV:=if l.all isNum=true then l.map λt=>ratF (rd t)else []
theorem qc9{n:Nat}{l:List Txt}{ok:Bool}(hl:Few l)(hn:300<=n):evF EnA n 104 [.list 1 (l.map sF),.bool ok]=some [.bool (ok&&l.all isNum),.list 4 (nmL l)]:=by
 obtain⟨n,rfl⟩:=qSx n;have:=hl.1;rw[qmw,nums_run hl.2 (by omega) (by omega)];unfold nmL;cases hall:l.all isNum with
 |true =>
  rw[if_pos rfl,if_pos rfl];simp only[rr];cases ok <;> rfl
 |false =>
  rw[if_neg (by simp),if_neg (by simp)];simp only[rr];cases ok <;> rfl
def okH(r:ResV)(h:Nat):Bool:=(List.range' 0 h).all λi=>(r.f.getD i []).all isNum&&(r.p.getD i []).all isNum
theorem okH_succ{h:Nat}:okH r (h+1)=(okH r h&&((r.f.getD h []).all isNum&&(r.p.getD h []).all isNum)):=by
 unfold okH;rw[List.range'_concat,Dv];simp
theorem qca{α β:Type}(f:α->β)(L:List α){i:Nat}(h:i<L.length):(L.take i).map f++[f L[i]]=(L.take (i+1)).map f:=by
 rw[Dw,Ag h,AK];rfl
theorem okH_all{H:Nat}(hf:r.f.length=H)(hp:r.p.length=H):okH r H=(r.f.all (·.all isNum)&&r.p.all (·.all isNum)):=by
 unfold okH;rw[qcb,<- q4p r.f (·.all isNum) (P:=λi=>(r.f.getD i []).all isNum) (λi hi=>by rw[getD_at _ _ hi]),<- q4p r.p (·.all isNum) (P:=λi=>(r.p.getD i []).all isNum) (λi hi=>by rw[getD_at _ _ hi]),hf,hp]
theorem qht{n:Nat}(h:Sm g ss bs r)(hs:q3v g ss bs r)(hn:80000<=n) :
  (q24 r=true->evF EnA n 45 (T0 g ss bs r [])=some (T1 g ss bs r [.bool true])) /\
  (q24 r=false->evF EnA n 45 (T0 g ss bs r [])=some (Tg g ss bs r (nmL r.x) (r.f.map λl=>.list 4 (nmL l)) (r.p.map λl=>.list 4 (nmL l)) (.list 1 []) (.bool false) (.list 1 []) (.bool false) (.list 1 []) (.bool false) (.list 1 []) (.bool false) [.bool false])):=by
 obtain⟨n,rfl⟩:=qSx n;obtain⟨z1,z2,z3,z4,_⟩:=q3t (q3u hs.ord);have lf:=hs.f;have lp:=hs.p;have hxs:=h.xl;have few:Few r.x:=⟨h.xl,h.x⟩
 have fewo:Few [r.ql,r.uq]:=⟨by simp,λt ht=>by
  rcases Ar.1 ht with rfl | ht
  ·exact h.w
  ·rw[BK.1 ht];exact h.u⟩
 let ow:=r.x.all isNum&&okH r g.qe.toNat&&[r.ql,r.uq].all isNum
 have key:∀(d i m:Nat),i+d=g.qe.toNat->d<m->q8n.l5 n [] m (Tg g ss bs r (nmL r.x) ((r.f.take i).map λl=>.list 4 (nmL l)) ((r.p.take i).map λl=>.list 4 (nmL l)) (.list 1 []) (.bool false) (.list 1 []) (.bool false) (.list 1 []) (.bool false) (.list 1 []) (.bool false) [.bool (r.x.all isNum&&okH r i),iF g.qe,iF (i:Int)]) =
   bif ow then some (Tg g ss bs r (nmL r.x) (r.f.map λl=>.list 4 (nmL l)) (r.p.map λl=>.list 4 (nmL l)) (zl (rd r.ql).num) (zb (rd r.ql).num) (nL (rd r.ql).den) (.bool false) (zl (rd r.uq).num) (zb (rd r.uq).num) (nL (rd r.uq).den) (.bool false) [.bool true])
   else some (Tg g ss bs r (nmL r.x) (r.f.map λl=>.list 4 (nmL l)) (r.p.map λl=>.list 4 (nmL l)) (.list 1 []) (.bool false) (.list 1 []) (.bool false) (.list 1 []) (.bool false) (.list 1 []) (.bool false) [.bool false]):=by
  intro d
  induction d with
  |zero =>
   intro i m hi hm;obtain⟨m,rfl⟩:=qSx m;obtain rfl:i=g.qe.toNat:=by omega
   have ho:=qc9 (n:=n) (l:=[r.ql,r.uq]) (ok:=r.x.all isNum&&okH r g.qe.toNat) fewo (by omega);rw[q8n.q1h,Ad,Ab,show qb 2 (.str { data:=#[] }) [(0,sF r.ql),(1,sF r.uq)]=[r.ql,r.uq].map sF from rfl,ho];simp only[rr];rw[show(r.x.all isNum&&okH r g.qe.toNat&&[r.ql,r.uq].all isNum)=ow from rfl,show g.qe.toNat=r.f.length by omega,Bj,show r.f.length=r.p.length by omega,Bj];cases how:ow with
   |false=>rfl
   |true =>
    have hal:[r.ql,r.uq].all isNum=true:=by
     have:(r.x.all isNum&&okH r g.qe.toNat&&[r.ql,r.uq].all isNum)=true:=how;rw[Ai]at this;exact this.2
    have e:nmL [r.ql,r.uq]=[ratF (rd r.ql),ratF (rd r.uq)]:=by unfold nmL;rw[if_pos hal];rfl
    rw[Ac,e];rfl
  |succ d ih =>
   intro i m hi hm;obtain⟨m,rfl⟩:=qSx m;have i1:i<r.f.length:=by omega
   have i2:i<r.p.length:=by omega
   have t1:=qc9 (n:=n) (l:=r.f[i]) (ok:=r.x.all isNum&&okH r i) (h.f _ (Ah i1)) (by omega);have t2:=qc9 (n:=n) (l:=r.p[i]) (ok:=r.x.all isNum&&okH r i&&r.f[i].all isNum) (h.p _ (Ah i2)) (by omega);have x1:ix (i:Int) (r.f.map rowF).length=some i:=q9 (by rw[Aa];exact i1);have x2:ix (i:Int) (r.p.map rowF).length=some i:=q9 (by rw[Aa];exact i2);rw[q8n.q1h,Af,Ac,x1];simp only[q2h i1,rr];rw[t1];simp (disch:=omega) only[x2,q2h i2,rr];rw[t2];simp only[rr]
   rw[show Nat.ble (((r.f.take i).map λl=>FV.list 4 (nmL l)).length+(qb 1 (.list 4 []) [(0,.list 4 (nmL r.f[i]))]).length) 5864062014805=true by
     apply Dc;rw[Aa,BF];show _+1<=_;omega,Ac,show Nat.ble (((r.p.take i).map λl=>FV.list 4 (nmL l)).length+(qb 1 (.list 4 []) [(0,.list 4 (nmL r.p[i]))]).length) 5864062014805=true by
     apply Dc;rw[Aa,BF];show _+1<=_
     omega,Ac,qd (by omega)]
   have e1:((r.f.take i).map λl=>FV.list 4 (nmL l))++qb 1 (.list 4 []) [(0,.list 4 (nmL r.f[i]))]=(r.f.take (i+1)).map λl=>FV.list 4 (nmL l):=qca (λl=>FV.list 4 (nmL l)) r.f i1;have e2:((r.p.take i).map λl=>FV.list 4 (nmL l))++qb 1 (.list 4 []) [(0,.list 4 (nmL r.p[i]))]=(r.p.take (i+1)).map λl=>FV.list 4 (nmL l):=qca (λl=>FV.list 4 (nmL l)) r.p i2;have e3:(r.x.all isNum&&okH r i&&r.f[i].all isNum&&r.p[i].all isNum)=(r.x.all isNum&&okH r (i+1)):=by
    rw[okH_succ,getD_at _ _ i1,getD_at _ _ i2];simp only[Bool.and_assoc]
   rw[e1,e2,e3];exact ih (i+1) m (by omega) (by omega)
 have k0:=key g.qe.toNat 0 n (by omega) (by omega);have t0:=qc9 (n:=n) (l:=r.x) (ok:=true) few (by omega)
 have hrun:=BQ (a:=evF EnA (n+1) 45 (T0 g ss bs r [])) (by
  rw[qmx,t0];simp only[rr];rw[AA,show okH r 0=true from rfl,CG]
  rfl) k0
 have how:q24 r=ow:=by
  show _=(r.x.all isNum&&okH r g.qe.toNat&&[r.ql,r.uq].all isNum);rw[okH_all (by omega) (by omega)];unfold q24;simp only[Bk,ED,CG];cases r.x.all isNum <;> cases isNum r.ql <;> cases isNum r.uq <;> cases r.f.all (·.all isNum) <;> cases r.p.all (·.all isNum) <;> rfl
 rw[hrun,<- how];constructor
 ·intro hr;rw[hr,Ac];unfold q24 at hr;simp only[Ai]at hr;obtain⟨⟨⟨⟨h1,_⟩,_⟩,h4⟩,h5⟩:=hr;have ex:nmL r.x=r.x.map λt=>ratF (rd t):=by unfold nmL;rw[if_pos h1]
  have ef:(r.f.map λl=>FV.list 4 (nmL l))=r.f.map numR:=CO λl hl=>by
   unfold nmL numR;rw[if_pos (Av.1 h4 l hl)]
  have ep:(r.p.map λl=>FV.list 4 (nmL l))=r.p.map numR:=CO λl hl=>by
   unfold nmL numR;rw[if_pos (Av.1 h5 l hl)]
  rw[ex,ef,ep]
 ·intro hr;rw[hr,Ab]
end
end
section
theorem Sz.int{z:Int}(h1:-1000000000000<=z:=by omega)(h2:z<=1000000000000:=by omega):Sz (z:Rat):=by
 refine Sz.of (k:=40) (Bd.int ?_ (by omega)) (by omega);have:(2:Nat)^40=1099511627776:=rfl;omega
theorem q1q{t:Txt}(h:t.length<=256):Sz (rd t):=(q35 h).mono
theorem qky{n:Nat}{q:Rat}{lo hi:Int}(hq:Sz q)(h1:-1000000<=lo/\lo<=1000000)(h2:-1000000<=hi/\hi<=1000000):evF EnA (n+2) 106 [zl (q).num,zb (q).num,nL (q).den,.bool false,iF lo,iF hi]=some [.bool (inR q lo hi)]:=by
 rw[qq1,a_of];simp only[rr];rw[q65 hq (Sz.int) (qc q) (qc _)];simp only[rr];rw[cmpQ_ge,a_of];simp only[rr];rw[q65 hq (Sz.int) (qc q) (qc _)];simp only[rr];rw[cmpQ_le];unfold inR;cases decide (((lo:Int):Rat)<=q) <;> rfl
theorem qkz{α:Type}(l:List α)(p:α->Bool)(d:α):l.all p=(List.range' 0 l.length).all λi=>p (l.getD i d) :=
 (q4p l p (λi hi=>by rw[getD_at _ _ hi])).symm
section
variable {g:q11} {ss:List StpV} {bs:List BlkV} {r:ResV}
def q4s(g:q11)(l:List Txt):Bool:=l.all isNum&&decide (l.length=g.lq.length)&&(List.range' 0 l.length).all λi=>inR (rd (l.getD i [])) (-(g.lq.getD i default).cap) (g.lq.getD i default).cap
theorem q6z{l:List Txt}{i:Nat}(h:i<l.length)(c:Nat):at' (l.map λt=>ratF (rd t)) i c=[zl (rd l[i]).num,zb (rd l[i]).num,nL (rd l[i]).den,.bool false][c]?:=by rw[q26,Ag h];rfl
theorem qsp{n:Nat}{l:List Txt}(hl:Few l)(hg:∀x,x∈g.lq->0<=x.cap/\x.cap<=1000)(hn:1000<=n):evF EnA n 108 (gL g++[.list 1 (l.map sF)])=some [.bool (q4s g l)]:=by
 obtain⟨n,rfl⟩:∃k,n=k+2:=⟨n-2,by omega⟩;have:=hl.1;unfold gL;simp only[Al,As];rw[qq3,gnums_run hl.2 (by omega) (by omega),Aa,Aa];unfold q4s;cases hall:l.all isNum with
 |false=>rfl
 |true =>
  rw[if_pos rfl];simp only[rr];rw[Ao,Ab,nne];by_cases hlen:l.length=g.lq.length
  ·rw[Af hlen,Ao,Ab,Aa]
   have h:=q1w (F:=λm i=>q6j.l5 (n+1) [] m [iF g.qa,iF g.qe,.list 3 (g.lq.map qw.fv),iF g.low,iF g.high,.list 4 (l.map λt=>ratF (rd t)),iF (l.length:Int),iF (i:Int)]) (len:=l.length) (P:=λi=>inR (rd (l.getD i [])) (-(g.lq.getD i default).cap) (g.lq.getD i default).cap) (fin:=some [.bool true]) (stop:=some [.bool false]) (λm i hi=>by
    show q6j.l5 (n+1) [] (m+1) _=_;have hi2:i<g.lq.length:=by omega
    obtain⟨c1,c2⟩:=hg _ (Ah hi2);have hq:=q1q (hl.2 _ (Ah hi));have hc:=Sz.int (z:=g.lq[i].cap);have hc2:=Sz.int (z:=-g.lq[i].cap);have e0:-((g.lq[i].cap:Int):Rat)=((-g.lq[i].cap:Int):Rat):=(EI _).symm;rw[q6j.q1h,Af,Ac,Aa,Aa,q9 hi,q9 hi2];simp only[q6z hi,q83 hi2,rr];rw[a_of];simp only[rr];rw[q65 hq hc (qc _) (qc _)];simp only[rr];rw[q57,a_neg hc (qc _)];simp only[rr];rw[e0,q65 hq hc2 (qc _) (qc _)];simp only[rr];rw[q4d,qd (by omega),getD_at _ _ hi,getD_at _ _ hi2];unfold inR;by_cases hA:((g.lq[i].cap:Int):Rat)<rd l[i]
    ·rw[Af hA,Ad (p:=rd l[i]<=_) (Ch.2 hA),CE];rfl
    ·rw[Ad hA,Af (p:=rd l[i]<=_) (Cu.1 hA),CG];by_cases hB:rd l[i]<((-g.lq[i].cap:Int):Rat)
     ·rw[Af hB,Ad (Ch.2 hB)];rfl
     ·rw[Ad hB,Af (Cu.1 hB)];rfl) (λm=>by
    show q6j.l5 (n+1) [] (m+1) _=_
    rw[q6j.q1h,Ad,Ab]) l.length 0 (n+1) (by omega) (by omega)
   have h:q6j.l5 (n+1) [] (n+1) [iF g.qa,iF g.qe,.list 3 (g.lq.map qw.fv),iF g.low,iF g.high,.list 4 (l.map λt=>ratF (rd t)),iF (l.length:Int),iF 0]=_:=h;rw[h];simp only[AA];cases(List.range' 0 l.length).all λi=>inR (rd (l.getD i [])) (-(g.lq.getD i default).cap) (g.lq.getD i default).cap <;> rfl
  ·rw[Ad hlen];rfl
def frT(g:q11)(ss:List StpV)(bs:List BlkV)(r:ResV):FV:=.agg (T1 g ss bs r [])
theorem qgv(s:Nat)(x:FV):asRef s (some (.ref s x))=some [x]:=by simp[asRef]
theorem podd_run{n:Nat}{q:Rat}(hq:Sz q)(hg:-100000<=g.low/\g.low<=g.high/\g.high<=100000):evF EnA (n+3) 107 [zl (q).num,zb (q).num,nL (q).den,.bool false,.ref 26 (frT g ss bs r)]=some [.ref 26 (frT g ss bs r),.bool (!inR q g.low g.high)]:=by
 rw[qq2,q7c,q7c];unfold frT;simp only[FV.cells,AP,Aj,qi,Ae];rw[qky hq (by omega) (by omega)];rfl
theorem pidx_run{n:Nat}{l:List Txt}(hl:Few l)(hg:-100000<=g.low/\g.low<=g.high/\g.high<=100000)(hn:300<=n):evF EnA n 100109 [.list 4 (l.map λt=>ratF (rd t)),.ref 26 (frT g ss bs r)]=some [.ref 26 (frT g ss bs r),.bool (!l.all λt=>inR (rd t) g.low g.high)]:=by
 obtain⟨n,rfl⟩:∃k,n=k+5:=⟨n-5,by omega⟩;have:=hl.1
 have h:=qbq l (λt=>!inR (rd t) g.low g.high) (pre:=[.ref 26 (frT g ss bs r)]) (F:=λm i=>q6k.l2 (n+3) [] m [.ref 26 (frT g ss bs r),.list 4 (l.map λt=>ratF (rd t)),iF (l.length:Int),iF (i:Int)]) (λm i hi=>by
  show q6k.l2 (n+3) [] (m+1) _=_;rw[q6k.qt,Af,Ac,Aa,q9 hi];simp only[q6z hi,rr];rw[podd_run (q1q (hl.2 _ (Ah hi))) hg,qd (by omega)];simp only[Ae,Aj,AP,qgv,q3x];rfl) (λm=>by
  show q6k.l2 (n+3) [] (m+1) _=_;rw[q6k.qt,Ad,Ab]
  rfl) l.length 0 (n+3) (by omega) (by omega) (λj _ hj=>by omega)
 rw[qq8,qq9,Aa];have h:q6k.l2 (n+3) [] (n+3) [.ref 26 (frT g ss bs r),.list 4 (l.map λt=>ratF (rd t)),iF (l.length:Int),iF 0]=_:=h;rw[h];simp only[Al,As,Ae,Aj,AP,qgv,qi];rw[qdx,Em];simp only[DI];rfl
theorem qoq{n:Nat}(h:Sm g ss bs r)(hs:q3v g ss bs r)(hr:q24 r=true)(hn:2000<=n):evF EnA n 100046 [.ref 26 (frT g ss bs r)]=some [.bool (q60 g ss r)]:=by
 obtain⟨n,rfl⟩:∃k,n=k+4:=⟨n-4,by omega⟩;obtain⟨z1,z2,z3,z4,z5,z6,z7,z8,z9⟩:=q3t (q3u hs.ord);have lf:=hs.f;have lp:=hs.p;have lx:=hs.x;have:=h.ssl;have hst:∀s,s∈ss->q3s g s=true:=by
  have:=hs.ord;unfold q2l at this;simp only[Ai,Av]at this;exact this.1.1.1.1.2
 have e9:=q1w (F:=λm i=>q2q.l9 (n+3) [] m [.ref 26 (frT g ss bs r),iF g.qe,iF (i:Int)]) (len:=g.qe.toNat) (P:=λi=>q4s g (r.f.getD i [])&&(r.p.getD i []).all λt=>inR (rd t) g.low g.high) (fin:=some [.bool true]) (stop:=some [.bool false]) (λm i hi=>by
  show q2q.l9 (n+3) [] (m+1) _=_;have i1:i<r.f.length:=by omega
  have i2:i<r.p.length:=by omega
  have hw:=qsp (g:=g) (n:=n+3) (h.f _ (Ah i1)) (λx hx=>by have:=q9w (z6 x hx);omega) (by omega);unfold gL at hw;simp only[Al,As]at hw;rw[q2q.q3n,Af,Ac];simp only[q7c];rw[show(frT g ss bs r).cells=T1 g ss bs r [] from rfl];simp only[AP,Aj,qi,qx,Ae,Aa];rw[q9 i1,Ae,q2h i1,qx,Ae,hw];simp only[rr];rw[q9 i2,Ae,show at' (r.p.map numR) i 0=some (.list 4 (r.p[i].map λt=>ratF (rd t))) by rw[q26,Ag i2];rfl,qx,Ae,pidx_run (h.p _ (Ah i2)) ⟨z7,z8,z9⟩ (by omega),qd (by omega),getD_at _ _ i1,getD_at _ _ i2];simp only[Ae,Aj,AP,qgv,q3x];rw[show hd1 [frT g ss bs r]=frT g ss bs r from rfl];cases q4s g r.f[i] <;> cases(r.p[i].all λt=>inR (rd t) g.low g.high) <;> simp only[Ao,AX,Ac,Ab,CG,CE]) (λm=>by
  show q2q.l9 (n+3) [] (m+1) _=_
  rw[q2q.q3n,Ad,Ab]) g.qe.toNat 0 (n+3) (by omega) (by omega)
 have e9:q2q.l9 (n+3) [] (n+3) [.ref 26 (frT g ss bs r),iF g.qe,iF 0]=_:=e9
 have e2:=q1w (F:=λm i=>q2q.l2 (n+3) [] m [.ref 26 (frT g ss bs r),.list 7 (ss.map StpV.fv),iF (ss.length:Int),iF (i:Int)]) (len:=ss.length) (P:=λi=>inR (r.xAt i) 0 (ss.getD i default).qty) (fin:=q2q.l9 (n+3) [] (n+3) [.ref 26 (frT g ss bs r),iF g.qe,iF 0]) (stop:=some [.bool false]) (λm i hi=>by
  show q2q.l2 (n+3) [] (m+1) _=_;have i1:i<r.x.length:=by omega
  have hok:=hst _ (Ah hi);unfold q3s at hok;simp only[Ai,q4o]at hok;rw[q2q.qt,Af,Ac,Aa,q9 hi];simp only[q36 hi,rr];rw[q7c,show(frT g ss bs r).cells=T1 g ss bs r [] from rfl];simp only[AP,Aj,qx,Ae,Aa];rw[q9 i1];simp only[q6z i1,rr];rw[qky (q1q (h.x _ (Ah i1))) (by omega) (by omega),qd (by omega),getD_at _ _ hi];simp only[rr];unfold ResV.xAt;rw[getD_at _ _ i1];cases inR (rd r.x[i]) 0 ss[i].qty <;> rfl) (λm=>by
  show q2q.l2 (n+3) [] (m+1) _=_;rw[q2q.qt,Ad,Ab,q7c,show(frT g ss bs r).cells=T1 g ss bs r [] from rfl]
  simp only[AP,Aj,qi,Ae]) ss.length 0 (n+3) (by omega) (by omega)
 have e2:q2q.l2 (n+3) [] (n+3) [.ref 26 (frT g ss bs r),.list 7 (ss.map StpV.fv),iF (ss.length:Int),iF 0]=_:=e2;rw[qq7,q7c,show(frT g ss bs r).cells=T1 g ss bs r [] from rfl];simp only[AP,Aj,qx,Ae,Aa];rw[e2,e9];unfold q60;have hfa:∀i,i<g.qe.toNat->(q4s g (r.f.getD i [])&&(r.p.getD i []).all λt=>inR (rd t) g.low g.high)=(((List.range' 0 g.lq.length).all λk=>inR (r.fAt i k) (-(g.lq.getD k default).cap) (g.lq.getD k default).cap)&&(List.range' 0 g.qa.toNat).all λz=>inR (r.pAt i z) g.low g.high):=by
  intro i hi;obtain⟨l1,l2⟩:=hs.lens i hi;have i1:i<r.f.length:=by omega
  have hal:(r.f.getD i []).all isNum=true:=by
   unfold q24 at hr;simp only[Ai]at hr;rw[getD_at _ _ i1];exact Av.1 hr.1.2 _ (Ah i1)
  unfold q4s;rw[hal,Af l1,AA,AA,l1,qkz (r.p.getD i []) _ [],show(r.p.getD i []).length=g.qa.toNat by omega];rfl
 rw[qcf hfa];cases(List.range' 0 ss.length).all λi=>inR (r.xAt i) 0 (ss.getD i default).qty with
 |false=>rfl
 |true =>
  rw[Ac,AA];cases(List.range' 0 g.qe.toNat).all λi=>(((List.range' 0 g.lq.length).all λk=>inR (r.fAt i k) (-(g.lq.getD k default).cap) (g.lq.getD k default).cap)&&(List.range' 0 g.qa.toNat).all λz=>inR (r.pAt i z) g.low g.high) <;> rfl
end
end
section
theorem qst{β:Type}(Z k:Nat)(f:Nat->β)(v:β):((List.range Z).map f).set k v=(List.range Z).map λz=>if z=k then v else f z:=by
 apply List.ext_getElem?;intro i;rw[ET,Br,Br,Aa,Cc];by_cases hi:i<Z
 ·rw[EH hi];by_cases hk:k=i
  ·subst hk;simp[hi]
  ·simp[hk,BR hk]
 ·rw[Di (by rw[Cc];omega)];by_cases hk:k=i
  ·subst hk;simp[hi]
  ·simp[hk]
section
variable {g:q11} {ss:List StpV} {bs:List BlkV} {r:ResV} {ac:List Bool}
def Smq(bs:List BlkV):Prop:=∀b,b∈bs->∀q,q∈b.qty->0<=q/\q<=1000
theorem qau(hq:Smq bs)(h z:Nat):∀i:Nat,-(1000*(i:Int))<=netAt bs ac h z i/\netAt bs ac h z i<=1000*(i:Int)
 |0=>by simp[netAt]
 |i+1=>by
  obtain⟨h1,h2⟩:=qau hq h z i;unfold netAt;split
  ·rename_i b hb ha;split
   ·rename_i hc;have:b.qty.getD h 0=b.qty[h]'hc.2:=getD_at _ _ hc.2;obtain⟨q1,q2⟩:=hq b (AQ hb) _ (Ah hc.2);rw[this];have e:∀q:Int,0<=q->q<=1000->-(1000*((i+1:Nat):Int))<=netAt bs ac h z i+(if b.buy=true then -q else q)/\netAt bs ac h z i+(if b.buy=true then -q else q)<=1000*((i+1:Nat):Int):=λq a1 a2=>by split <;> omega
    exact e _ q1 q2
   ·omega
  ·omega
theorem net_step(h:Nat){i Z:Nat}(hi:i<bs.length)(ha:i<ac.length)(hac:ac[i]=true){k:Nat}(hk:bs[i].zone=(k:Int))(hq:h<bs[i].qty.length):((List.range Z).map λz=>iF (netAt bs ac h z i)).set k (iF (netAt bs ac h k i+(if bs[i].buy then -bs[i].qty[h]else bs[i].qty[h])))=(List.range Z).map λz=>iF (netAt bs ac h z (i+1)):=by
 rw[qst];refine CO λz _=>?_
 rw[show netAt bs ac h z (i+1)=netAt bs ac h z i+match bs[i]?,ac[i]? with
  |some b,some true=>if b.zone=(z:Int)/\h<b.qty.length then(if b.buy then -(b.qty.getD h 0)else b.qty.getD h 0)else 0
  |_,_=>0 from rfl,Ag hi,Ag ha,hac]
 simp only;rw[getD_at _ _ hq];by_cases hz:z=k
 ·subst hz;have hb:bs[i].zone=(z:Int)/\h<bs[i].qty.length:=⟨hk,hq⟩;rw[if_pos rfl,if_pos hb]
 ·have hb:¬ (bs[i].zone=(z:Int)/\h<bs[i].qty.length):=λq=>hz (by omega);rw[if_neg hz,if_neg hb];simp
theorem qi3(h:Nat){i Z:Nat}(hz:∀z,z<Z->¬ (∃b,bs[i]?=some b/\ac[i]?=some true/\b.zone=(z:Int)/\h<b.qty.length)):((List.range Z).map λz=>iF (netAt bs ac h z i))=(List.range Z).map λz=>iF (netAt bs ac h z (i+1)):=by
 refine CO λz hzm=>?_;have:=hz z (Cs.1 hzm)
 rw[show netAt bs ac h z (i+1)=netAt bs ac h z i+match bs[i]?,ac[i]? with
  |some b,some true=>if b.zone=(z:Int)/\h<b.qty.length then(if b.buy then -(b.qty.getD h 0)else b.qty.getD h 0)else 0
  |_,_=>0 from rfl]
 split
 ·rename_i b hb ha;rw[if_neg (λq=>this ⟨b,hb,ha,q⟩)];simp
 ·simp
theorem qei{Z k:Nat}(hk:k<Z)(f:Nat->Int):at' ((List.range Z).map λz=>iF (f z)) k 0=some (iF (f k)):=by
 rw[q26,EH hk];rfl
def netL(bs:List BlkV)(ac:List Bool)(h Z:Nat):List FV:=(List.range Z).map λz=>iF (netV bs ac h z)
theorem net_run{n h:Nat}(hz:1<=g.qa/\g.qa<=3)(hb:bs.length<=256)(ha:ac.length<=256)(hql:∀b,b∈bs->b.qty.length<=256)(hq:Smq bs)(hh:h<=1000)(hn:400<=n) :
  evF EnA n 110 (gL g++[.list 8 (bs.map BlkV.fv),.list 1 (ac.map .bool),iF (h:Int)])=some [.list 1 (netL bs ac h g.qa.toNat)]:=by
 obtain⟨n,rfl⟩:∃k,n=k+2:=⟨n-2,by omega⟩;unfold gL;simp only[Al,As];have e0:(if(0:Int)<(if 3<g.qa then 3 else g.qa)then(if 3<g.qa then 3 else g.qa)else 0)=((g.qa.toNat:Nat):Int):=by
  rw[if_neg (show ¬ 3<g.qa by omega),if_pos (by omega)];omega
 have e1:q1p 8 ((g.qa.toNat:Nat):Int)=some g.qa.toNat:=by
  unfold q1p;rw[if_pos ⟨by omega,by omega,by omega⟩,Bh]
 have hml:(if((bs.length:Nat):Int)<((ac.length:Nat):Int)then((bs.length:Nat):Int)else((ac.length:Nat):Int))=((min bs.length ac.length:Nat):Int):=by split <;> omega
 rw[qq4,e0,e1,Ae,q1s (Ak _),Ae,Aa,Aa,hml,q1s,Ae,Au,<- List.map_take,Aa,BF];have hlen:min (min bs.length ac.length) ac.length=min bs.length ac.length:=by omega
 rw[hlen];have key:∀(d i m:Nat),i+d=min bs.length ac.length->d<m->q4k.l3 (n+1) [] m [.list 8 (bs.map BlkV.fv),iF (h:Int),.list 1 ((List.range g.qa.toNat).map λz=>iF (netAt bs ac h z i)),.list 1 ((ac.take (min bs.length ac.length)).map .bool),iF ((min bs.length ac.length:Nat):Int),iF (i:Int)]=some [.list 1 (netL bs ac h g.qa.toNat)]:=by
  intro d
  induction d with
  |zero =>
   intro i m hi hm;obtain⟨m,rfl⟩:=qSx m;rw[q4k.qq,Ad,Ab];unfold netL netV;rw[show i=min bs.length ac.length by omega]
  |succ d ih =>
   intro i m hi hm;obtain⟨m,rfl⟩:=qSx m;have i1:i<bs.length:=by omega
   have i2:i<ac.length:=by omega
   have i3:i<(ac.take (min bs.length ac.length)).length:=by rw[BF];omega
   have hac:(ac.take (min bs.length ac.length))[i]=ac[i]:=List.getElem_take;rw[q4k.qq,Af,Ac,Aa,Aa,q9 i3,q9 i1,qd (by omega)];simp only[q4q i3,q2i i1,rr];rw[hac,Aa,Aa,Cc];have skip:¬ (ac[i]=true/\0<=bs[i].zone/\bs[i].zone<g.qa/\h<bs[i].qty.length)->q4k.l3 (n+1) [] m [.list 8 (bs.map BlkV.fv),iF (h:Int),.list 1 ((List.range g.qa.toNat).map λz=>iF (netAt bs ac h z i)),.list 1 ((ac.take (min bs.length ac.length)).map .bool),iF ((min bs.length ac.length:Nat):Int),iF ((i+1:Nat):Int)]=some [.list 1 (netL bs ac h g.qa.toNat)]:=by
    intro hno
    rw[qi3 (bs:=bs) (ac:=ac) h (i:=i) (Z:=g.qa.toNat) λz hz ⟨b,e1,e2,e3,e4⟩=>hno (by
     rw[Ag i1]at e1;rw[Ag i2]at e2;cases e1
     refine⟨by simpa using e2,by omega,by omega,e4⟩)]
    exact ih (i+1) m (by omega) (by omega)
   by_cases c1:ac[i]=true
   ·rw[c1,Ac];by_cases c2:0<=bs[i].zone
    ·rw[Af c2,Ac];by_cases c3:bs[i].zone<g.qa
     ·rw[Af (show bs[i].zone<((g.qa.toNat:Nat):Int) by omega),Ac,Af (show(0:Int)<=(h:Int) by omega),Ac];by_cases c4:h<bs[i].qty.length
      ·obtain⟨k,hk⟩:∃k:Nat,bs[i].zone=(k:Int):=⟨bs[i].zone.toNat,by omega⟩;have hkz:k<g.qa.toNat:=by omega
       obtain⟨q1,q2⟩:=hq _ (Ah i1) _ (Ah c4);obtain⟨b1,b2⟩:=qau (ac:=ac) hq h k i;have hsg:evF EnA (n+1) 171 [.bool bs[i].buy]=some [iF (if bs[i].buy then -1 else 1)]:=by
        rw[qjj];cases bs[i].buy <;> rfl
       have hv:w6 (netAt bs ac h k i+w6 ((if bs[i].buy then -1 else 1)*bs[i].qty[h]))=netAt bs ac h k i+(if bs[i].buy then -bs[i].qty[h]else bs[i].qty[h]):=by
        cases bs[i].buy
        ·simp only[Bs,BM,Int.one_mul];rw[qo (x:=bs[i].qty[h]),qo]
        ·simp only[Ba];rw[show(-1:Int)*bs[i].qty[h]=-bs[i].qty[h] by omega,qo (x:=-bs[i].qty[h]),qo]
       rw[Af (show((h:Nat):Int)<((bs[i].qty.length:Nat):Int) by omega),Ac,hk,q9 hkz];simp only[qei hkz,rr];rw[hsg];simp only[rr];rw[q9 c4];simp only[q4c c4,rr];rw[hv,net_step h i1 i2 c1 hk c4];exact ih (i+1) m (by omega) (by omega)
      ·rw[Ad (show ¬ ((h:Nat):Int)<((bs[i].qty.length:Nat):Int) by omega),Ab];exact skip λq=>c4 q.2.2.2
     ·rw[Ad (show ¬ bs[i].zone<((g.qa.toNat:Nat):Int) by omega),Ab];exact skip λq=>c3 q.2.2.1
    ·rw[Ad c2,Ab];exact skip λq=>c2 q.2.1
   ·rw[AI.2 c1,Ab];exact skip λq=>c1 q.1
 have k0:=key (min bs.length ac.length) 0 (n+1) (by omega) (by omega);have e2:((List.range g.qa.toNat).map λz=>iF (netAt bs ac h z 0))=List.replicate g.qa.toNat (iF 0):=by
  rw[show(λz=>iF (netAt bs ac h z 0))=λ_=>iF 0 from rfl,List.map_const',Cc]
 rw[e2]at k0;exact k0
theorem qgx{L:List Rat}{k:Nat}(hk:k<L.length)(c:Nat):at' (L.map ratF) k c=[zl (L.getD k 0).num,zb (L.getD k 0).num,nL (L.getD k 0).den,.bool false][c]?:=by rw[rat_at hk,getD_at _ _ hk]
theorem qe0{L:List Rat}{k:Nat}(v:Rat):(L.map ratF).set k (.agg [zl (v).num,zb (v).num,nL (v).den,.bool false])=(L.set k v).map ratF:=by rw[List.map_set];rfl
theorem qsu{n:Nat}{L:List Rat}(hL:∀q,q∈L->Sz q)(hl:L.length<=1000)(hn:1100<=n):evF EnA n 200109 [.list 4 (L.map ratF),.raw (Go.Value.func (Go.Fn.func 114) #[] #[])]=some [.bool (!L.all λq=>decide (q=0))]:=by
 obtain⟨n,rfl⟩:∃k,n=k+4:=⟨n-4,by omega⟩
 have h:=qbq L (λq=>!decide (q=0)) (pre:=[]) (F:=λm i=>q6l.l2 (n+2) [] m [.list 4 (L.map ratF),.raw (Go.Value.func (Go.Fn.func 114) #[] #[]),iF (L.length:Int),iF (i:Int)]) (λm i hi=>by
  show q6l.l2 (n+2) [] (m+1) _=_;rw[q6l.qt,Af,Ac,Aa,q9 hi];simp only[rat_at hi,rr];rw[qq5,a_sign (hL _ (Ah hi))];simp only[rr];rw[sgn_ne0,qd (by omega)];rfl) (λm=>by
  show q6l.l2 (n+2) [] (m+1) _=_;rw[q6l.qt,Ad,Ab]
  rfl) L.length 0 (n+2) (by omega) (by omega) (λj _ hj=>by omega)
 rw[qqa,qqb,Aa];have h:q6l.l2 (n+2) [] (n+2) [.list 4 (L.map ratF),.raw (Go.Value.func (Go.Fn.func 114) #[] #[]),iF (L.length:Int),iF 0]=_:=h;rw[h,As];simp only[rr];rw[qdx,Em];simp only[DI]
def q4n(k:Nat)(L:List Rat):Prop:=∀q,q∈L->Bd k q
theorem q4n.set{k:Nat}{L:List Rat}(h:q4n k L){i:Nat}{v:Rat}(hv:Bd k v):q4n k (L.set i v):=λq hq=>by
 rcases Dt hq with hq | rfl
 ·exact h q hq
 ·exact hv
theorem q4n.mono{k m:Nat}{L:List Rat}(h:q4n k L)(hm:k<=m:=by omega):q4n m L:=λq hq=>(h q hq).mono hm
theorem q4n.getD{k:Nat}{L:List Rat}(h:q4n k L){i:Nat}(hi:i<L.length):Bd k (L.getD i 0):=by rw[getD_at _ _ hi];exact h _ (Ah hi)
structure q1b(g:q11)(ss:List StpV)(bs:List BlkV)(r:ResV):Prop where
 sm:Sm g ss bs r
 sh:q3v g ss bs r
 read:q24 r=true
theorem q8p(h:q2l g ss bs=true):∀s,s∈ss->0<=s.zone/\s.zone<g.qa/\0<=s.hour/\s.hour<g.qe/\1<=s.qty/\s.qty<=1000/\g.low<=s.qh/\s.qh<=g.high:=λs hs=>by
 unfold q2l at h;simp only[Ai,Av]at h;have:=h.1.1.1.1.2 s hs;unfold q3s at this;simp only[Ai,q4o]at this;omega
theorem qav(h:q2l g ss bs=true):∀b,b∈bs->0<=b.zone/\b.zone<g.qa/\g.low<=b.qh/\b.qh<=g.high/\(b.qty.length:Int)=g.qe/\(∀q,q∈b.qty->0<=q/\q<=1000):=λb hb=>by
 unfold q2l at h;simp only[Ai,Av]at h;have:=h.1.1.1.2 b hb;unfold q3j at this;simp only[Ai,q4o,At,Av]at this;obtain⟨⟨⟨⟨h1,h2⟩,h3⟩,h4⟩,_⟩:=this;exact⟨h1.1,by omega,h2.1,h2.2,h3,λq hq=>h4 q hq⟩
theorem q74(h:q2l g ss bs=true):ss.length<=32/\bs.length<=12:=by
 unfold q2l at h;simp only[Ai,At]at h;exact⟨h.1.1.1.1.1.1.2,h.1.1.1.1.1.2⟩
theorem qos{n:Nat}(G:q1b g ss bs r)(hn:5000<=n):evF EnA n 47 (T1 g ss bs r [])=some (T1 g ss bs r [.bool (balV g ss bs r)]):=by
 obtain⟨n,rfl⟩:∃k,n=k+4:=⟨n-4,by omega⟩;have h:=G.sm;have hs:=G.sh;obtain⟨z1,z2,z3,z4,z5,z6,z7,z8,z9⟩:=q3t (q3u hs.ord);obtain⟨o1,o2⟩:=q74 hs.ord;have hst:=q8p hs.ord;have hbl:=qav hs.ord;have lf:=hs.f;have lp:=hs.p;have lx:=hs.x
 let Z:=g.qa.toNat
 have hZ:g.qa=(Z:Int):=by show g.qa=((g.qa.toNat:Nat):Int);omega
 have hZ3:Z<=3:=by omega
 have hsz:∀s,s∈ss->0<=s.zone/\s.zone<(Z:Int):=λs hs=>by have:=hst s hs;omega
 have hlz:∀l,l∈g.lq->0<=l.src/\l.src<(Z:Int)/\0<=l.dst/\l.dst<(Z:Int):=λl hl=>by have:=q9w (z6 l hl);omega
 have hour:∀(d i m:Nat),i+d=g.qe.toNat->d<m->q18.l2 (n+3) [] m (T1 g ss bs r [iF g.qe,iF (i:Int)])=some (T1 g ss bs r [.bool ((List.range' i d).all λh=>(List.range' 0 Z).all λz=>decide (q56 ss bs r h z=expV g.lq r h z))]):=by
  intro d
  induction d with
  |zero =>
   intro i m hi hm;obtain⟨m,rfl⟩:=qSx m;rw[q18.qt,Ad,Ab];rfl
  |succ d ih =>
   intro i m hi hm;obtain⟨m,rfl⟩:=qSx m;have i1:i<r.f.length:=by omega
   have i2:i<r.p.length:=by omega
   obtain⟨lf1,lp1⟩:=hs.lens i (by omega);rw[getD_at _ _ i1]at lf1;have hnet:=net_run (g:=g) (bs:=bs) (ac:=r.aq) (n:=n+3) (h:=i) ⟨z1,z2⟩ h.bsl h.acl h.q (λb hb q hq=>(hbl b hb).2.2.2.2.2 q hq) (by omega) (by omega);unfold gL at hnet;simp only[Al,As]at hnet;have e1:q1p 64 g.qa=some Z:=by
    rw[hZ];unfold q1p;rw[if_pos ⟨by omega,by omega,by omega⟩,Bh]
   rw[q18.qt,Af,Ac,e1,Ae,show bd g.qa Z=some Z by rw[hZ];exact q1s (Ak _),Ae,hnet];simp only[rr]
   let N:List Int:=(List.range Z).map λz=>netV bs r.aq i z
   have hN:netL bs r.aq i g.qa.toNat=N.map iF:=by
    show _=((List.range Z).map λz=>netV bs r.aq i z).map iF;rw[Ct];rfl
   have hNl:N.length=Z:=by show((List.range Z).map _).length=Z;rw[Aa,Cc]
   have hNb:∀x,x∈N->-12000<=x/\x<=12000:=λx hx=>by
    obtain⟨z,_,rfl⟩:=Bp.1 hx;have:=qau (bs:=bs) (ac:=r.aq) (λb hb q hq=>(hbl b hb).2.2.2.2.2 q hq) i z (min bs.length r.aq.length);unfold netV;omega
   let L0:List Rat:=N.map λx=>((x:Int):Rat)
   have hL0:L0.length=Z:=by show(N.map _).length=Z;rw[Aa,hNl]
   have hL0b:q4n 20 L0:=λq hq=>by
    obtain⟨x,hx,rfl⟩:=Bp.1 hq;obtain⟨b1,b2⟩:=hNb x hx;refine Bd.int ?_ (by omega);have:(2:Nat)^20=1048576:=rfl;omega
   have e19:=q5v (F:=λm' k (L:List Rat)=>q18.l19 (n+3) [m] m' (T1 g ss bs r [iF (i:Int),.list 4 (L.map ratF),iF g.qe,iF (i:Int),.list 3 (g.lq.map qw.fv),iF (g.lq.length:Int),iF (k:Int)])) (len:=g.lq.length) (g:=λk L=>lineP g.lq r i L k)
    (fin:=λL=>bif L.all (λq=>decide (q=0))then q18.l2 (n+3) [] m (T1 g ss bs r [iF g.qe,iF ((i+1:Nat):Int)])else some (T1 g ss bs r [.bool false])) (I:=λk L=>L.length=Z/\q4n (40000+2100*k) L) (λm' k L hk hI=>by
     show q18.l19 (n+3) [m] (m'+1) _=_;obtain⟨hIl,hIb⟩:=hI;have hlk:=hlz _ (Ah hk);have hko:=q9w (z6 _ (Ah hk));obtain⟨sk,hsk⟩:∃k':Nat,g.lq[k].src=(k':Int):=⟨g.lq[k].src.toNat,by omega⟩;obtain⟨dk,hdk⟩:∃k':Nat,g.lq[k].dst=(k':Int):=⟨g.lq[k].dst.toNat,by omega⟩;have s1:sk<L.length:=by omega
     have s2:dk<L.length:=by omega
     have f1:k<r.f[i].length:=by omega
     have hfl:=(h.f _ (Ah i1)).2 _ (Ah f1);have b1:Sz (L.getD sk 0):=(hIb.getD s1).mono;have b2:Bd (40000+2100*k+1024+1) (L.getD sk 0-rd r.f[i][k]):=(hIb.getD s1).sub (q35 hfl);have s3:dk<(L.set sk (L.getD sk 0-rd r.f[i][k])).length:=by rw[Fh];exact s2
     have b3:q4n (40000+2100*k+1025) (L.set sk (L.getD sk 0-rd r.f[i][k])):=(hIb.mono).set b2;have b4:Sz ((L.set sk (L.getD sk 0-rd r.f[i][k])).getD dk 0):=(b3.getD s3).mono;rw[q18.q4j,Af,Ac];simp only[Aa];rw[q9 hk];simp only[q83 hk,rr];rw[hsk,hdk,q9 s1];simp only[qgx s1,rr];rw[q9 i1];simp only[rr];rw[show at' (r.f.map numR) i 0=some (.list 4 (r.f[i].map λt=>ratF (rd t))) by rw[q26,Ag i1];rfl];simp only[rr];rw[Aa,q9 f1];simp only[q6z f1,rr];rw[a_sub b1 (q1q hfl) (qc _) (qc _)];simp only[rr];rw[qe0,Aa,q9 s3];simp only[qgx s3,rr];rw[a_add b4 (q1q hfl) (qc _) (qc _)];simp only[rr];rw[qe0,qd (by omega)];unfold lineP;rw[Ag hk];simp only;rw[hsk,hdk,Bh,Bh,show r.fAt i k=rd r.f[i][k] by unfold ResV.fAt;rw[getD_at _ _ i1,getD_at _ _ f1]]) (λk L hk hI=>by
     obtain⟨hIl,hIb⟩:=hI;refine⟨(ql2 L k).trans hIl,?_⟩;have hlk:=hlz _ (Ah hk);have f1:k<r.f[i].length:=by omega
     have hfl:=(h.f _ (Ah i1)).2 _ (Ah f1);have ef:r.fAt i k=rd r.f[i][k]:=by unfold ResV.fAt;rw[getD_at _ _ i1,getD_at _ _ f1]
     unfold lineP;rw[Ag hk];simp only;have s1:g.lq[k].src.toNat<L.length:=by omega
     have b2:Bd (40000+2100*k+1024+1) (L.getD g.lq[k].src.toNat 0-r.fAt i k):=(hIb.getD s1).sub (by rw[ef];exact q35 hfl);have b3:q4n (40000+2100*k+1025) (L.set g.lq[k].src.toNat (L.getD g.lq[k].src.toNat 0-r.fAt i k)):=(hIb.mono).set b2;have s3:g.lq[k].dst.toNat<(L.set g.lq[k].src.toNat (L.getD g.lq[k].src.toNat 0-r.fAt i k)).length:=by rw[Fh];omega
     refine(b3.mono).set (((b3.getD s3).add (m:=1024) (by rw[ef];exact q35 hfl)).mono)) (λm' L hI=>by
     show q18.l19 (n+3) [m] (m'+1) _=_;rw[q18.q4j,Ad,Ab,qsu (λq hq=>(hI.2 q hq).mono) (by have:=hI.1;omega) (by omega),qd (by omega)];simp only[rr]
     cases L.all λq=>decide (q=0) <;> rfl)
   have e11:=q5v (F:=λm' k (L:List Rat)=>q18.l11 (n+3) [m] m' (T1 g ss bs r [iF (i:Int),.list 4 (L.map ratF),iF g.qe,iF (i:Int),.list 7 (ss.map StpV.fv),iF (ss.length:Int),iF (k:Int)])) (len:=ss.length) (g:=λk L=>stepP ss r i L k)
    (fin:=λL=>q18.l19 (n+3) [m] (n+3) (T1 g ss bs r [iF (i:Int),.list 4 (L.map ratF),iF g.qe,iF (i:Int),.list 3 (g.lq.map qw.fv),iF (g.lq.length:Int),iF 0])) (I:=λk L=>L.length=Z/\q4n (20+1100*k) L) (λm' k L hk hI=>by
     show q18.l11 (n+3) [m] (m'+1) _=_;obtain⟨hIl,hIb⟩:=hI;have hzk:=hsz _ (Ah hk);have x1:k<r.x.length:=by omega
     obtain⟨zk,hzz⟩:∃k':Nat,ss[k].zone=(k':Int):=⟨ss[k].zone.toNat,by omega⟩;have s1:zk<L.length:=by omega
     have hxl:=h.x _ (Ah x1);have b1:Sz (L.getD zk 0):=(hIb.getD s1).mono;rw[q18.q84,Af,Ac];simp only[Aa];rw[q9 hk];simp only[q36 hk,rr];rw[qd (by omega)];unfold stepP;rw[Ag hk,hzz,ine];simp only;by_cases hh:ss[k].hour=(i:Int)
     ·rw[Af hh,if_pos hh,Ao,Ab,q9 s1,hzz,Bh,show r.xAt k=rd r.x[k] by unfold ResV.xAt;rw[getD_at _ _ x1]];simp only[qgx s1,rr];rw[q9 x1];simp only[q6z x1,rr];rw[a_sub b1 (q1q hxl) (qc _) (qc _),a_add b1 (q1q hxl) (qc _) (qc _)];simp only[rr];rw[qe0,qe0];cases ss[k].buy <;> rfl
     ·rw[Ad hh,if_neg hh];rfl) (λk L hk hI=>by
     obtain⟨hIl,hIb⟩:=hI;refine⟨(ql3 L k).trans hIl,?_⟩;have hzk:=hsz _ (Ah hk);have x1:k<r.x.length:=by omega
     have s1:ss[k].zone.toNat<L.length:=by omega
     have hxl:=h.x _ (Ah x1);have hxe:Bd 1024 (r.xAt k):=by unfold ResV.xAt;rw[getD_at _ _ x1];exact q35 hxl
     unfold stepP;rw[Ag hk];simp only;split
     ·split
      ·exact(hIb.mono).set (((hIb.getD s1).sub hxe).mono)
      ·exact(hIb.mono).set (((hIb.getD s1).add hxe).mono)
     ·exact hIb.mono) (λm' L hI=>by
     show q18.l11 (n+3) [m] (m'+1) _=_
     rw[q18.q84,Ad,Ab,Aa])
   have e6:=q1w (F:=λm' k=>q18.l6 (n+3) [m] m' (T1 g ss bs r [iF (i:Int),.list 4 ((N.take k).map (λx=>ratF ((x:Int):Rat))++List.replicate (N.length-k) (.agg [.list 1 [],.bool false,.list 1 [],.bool false])),iF g.qe,iF (i:Int),.list 1 (N.map iF),iF (N.length:Int),iF (k:Int)])) (len:=N.length) (P:=λ_=>true)
    (fin:=q18.l11 (n+3) [m] (n+3) (T1 g ss bs r [iF (i:Int),.list 4 (L0.map ratF),iF g.qe,iF (i:Int),.list 7 (ss.map StpV.fv),iF (ss.length:Int),iF 0])) (stop:=none) (λm' k hk=>by
     show q18.l6 (n+3) [m] (m'+1) _=_;obtain⟨b1,b2⟩:=hNb _ (Ah hk);rw[q18.q2n,Af,Ac,Aa,q9 hk];simp only[q4c hk,rr];rw[a_of];simp only[rr];rw[q9 (by simp;omega),qd (by omega)];simp only[rr];rw[show(FV.agg [zl (((N[k]:Int):Rat)).num,zb (((N[k]:Int):Rat)).num,nL (((N[k]:Int):Rat)).den,.bool false])=ratF ((N[k]:Int):Rat) from rfl,qf0 (λx:Int=>ratF ((x:Int):Rat)) _ N hk]) (λm'=>by
     show q18.l6 (n+3) [m] (m'+1) _=_
     rw[q18.q2n,Ad,Ab,Bj,Cn,Co,AN,Aa,show L0.map ratF=N.map λx=>ratF ((x:Int):Rat) by show(N.map _).map ratF=_;rw[Ct];rfl]) N.length 0 (n+3) (by omega) (by omega)
   have e6:q18.l6 (n+3) [m] (n+3) (T1 g ss bs r [iF (i:Int),.list 4 (List.replicate N.length (.agg [.list 1 [],.bool false,.list 1 [],.bool false])),iF g.qe,iF (i:Int),.list 1 (N.map iF),iF (N.length:Int),iF 0])=_:=e6;have hall1:(List.range' 0 N.length).all (λ_=>true)=true:=by rw[Av];intro _ _;rfl
   rw[hall1,Ac,hNl]at e6;obtain⟨q1,q2⟩:=e11 ss.length 0 (n+3) L0 (by omega) (by omega) ⟨hL0,hL0b⟩;have q1:q18.l11 (n+3) [m] (n+3) (T1 g ss bs r [iF (i:Int),.list 4 (L0.map ratF),iF g.qe,iF (i:Int),.list 7 (ss.map StpV.fv),iF (ss.length:Int),iF 0])=_:=q1;obtain⟨q3,q4⟩:=e19 g.lq.length 0 (n+3) _ (by omega) (by omega) ⟨q2.1,q2.2.mono⟩;have q3:=q3;rw[hN,Aa,hNl];refine(e6.trans (q1.trans q3)).trans ?_;have hleft:∀z,z<Z->((List.range' 0 g.lq.length).foldl (lineP g.lq r i) ((List.range' 0 ss.length).foldl (stepP ss r i) L0)).getD z 0=q56 ss bs r i z-expV g.lq r i z:=λz hz=>by
    refine left_at hsz hlz hL0 hz ?_;have hzN:z<N.length:=by omega
    have hzL:z<L0.length:=by omega
    rw[getD_at _ _ hzL];show(N.map λx=>((x:Int):Rat))[z]'(by rw[Aa];exact hzN)=_;rw[List.getElem_map];congr 1;show((List.range Z).map λz=>netV bs r.aq i z)[z]'(by rw[Aa,Cc];exact hz)=_;rw[List.getElem_map,List.getElem_range]
   have hall:((List.range' 0 g.lq.length).foldl (λs j=>lineP g.lq r i s j) ((List.range' 0 ss.length).foldl (λs j=>stepP ss r i s j) L0)).all (λq=>decide (q=0))=(List.range' 0 Z).all λz=>decide (q56 ss bs r i z=expV g.lq r i z):=by
    have hlen:((List.range' 0 g.lq.length).foldl (λs j=>lineP g.lq r i s j) ((List.range' 0 ss.length).foldl (λs j=>stepP ss r i s j) L0)).length=Z:=q4.1;rw[qkz _ _ 0,hlen];refine qcf λz hz=>?_;rw[BW];rw[show((List.range' 0 g.lq.length).foldl (λs j=>lineP g.lq r i s j) ((List.range' 0 ss.length).foldl (λs j=>stepP ss r i s j) L0)).getD z 0=q56 ss bs r i z-expV g.lq r i z from hleft z hz];exact qsv
   rw[hall,ih (i+1) m (by omega) (by omega),BS,Bk];cases(List.range' 0 Z).all λz=>decide (q56 ss bs r i z=expV g.lq r i z) <;> rfl
 rw[qpu];exact hour g.qe.toNat 0 (n+3) (by omega) (by omega)
end
end
section
theorem wneg{c:Int}(h:-1<=c/\c<=1):w6 (0-c)=-c:=by rw[qo];omega
theorem neg_lt0(c:Int):decide (-c<0)=decide (c>0):=by rw[BW];omega
theorem neg_gt0(c:Int):decide (-c>0)=decide (c<0):=by rw[BW];omega
theorem qhg{P:List (List Txt)}{i:Nat}(h:i<P.length):at' (P.map numR) i 0=some (.list 4 (P[i].map λt=>ratF (rd t))):=by rw[q26,Ag h];rfl
section
variable {g:q11} {ss:List StpV} {bs:List BlkV} {r:ResV}
theorem q1b.pT(G:q1b g ss bs r){h z:Nat}(hh:h<g.qe.toNat)(hz:z<g.qa.toNat):∃(i1:h<r.p.length) (i2:z<r.p[h].length),r.pAt h z=rd r.p[h][z]/\r.p[h][z].length<=256:=by
 have lp:=G.sh.p;obtain⟨_,l2⟩:=G.sh.lens h hh;have i1:h<r.p.length:=by omega
 rw[getD_at _ _ i1]at l2;have i2:z<r.p[h].length:=by omega
 refine⟨i1,i2,?_,(G.sm.p _ (Ah i1)).2 _ (Ah i2)⟩;unfold ResV.pAt;rw[getD_at _ _ i1,getD_at _ _ i2]
theorem q1b.fT(G:q1b g ss bs r){h k:Nat}(hh:h<g.qe.toNat)(hk:k<g.lq.length):∃(i1:h<r.f.length) (i2:k<r.f[h].length),r.fAt h k=rd r.f[h][k]/\r.f[h][k].length<=256:=by
 have lf:=G.sh.f;obtain⟨l2,_⟩:=G.sh.lens h hh;have i1:h<r.f.length:=by omega
 rw[getD_at _ _ i1]at l2;have i2:k<r.f[h].length:=by omega
 refine⟨i1,i2,?_,(G.sm.f _ (Ah i1)).2 _ (Ah i2)⟩;unfold ResV.fAt;rw[getD_at _ _ i1,getD_at _ _ i2]
theorem q1b.xT(G:q1b g ss bs r){k:Nat}(hk:k<ss.length):∃(i1:k<r.x.length),r.xAt k=rd r.x[k]/\r.x[k].length<=256:=by
 have lx:=G.sh.x;have i1:k<r.x.length:=by omega
 refine⟨i1,?_,G.sm.x _ (Ah i1)⟩;unfold ResV.xAt;rw[getD_at _ _ i1]
theorem qot{n:Nat}(G:q1b g ss bs r)(hn:1000<=n):evF EnA n 48 (T1 g ss bs r [])=some (T1 g ss bs r [.bool (q75 ss r)]):=by
 obtain⟨n,rfl⟩:∃k,n=k+4:=⟨n-4,by omega⟩;obtain⟨z1,z2,z3,z4,z5,z6,z7,z8,z9⟩:=q3t (q3u G.sh.ord);obtain⟨o1,o2⟩:=q74 G.sh.ord;have hst:=q8p G.sh.ord
 have e:=q1w (F:=λm i=>q3g.l2 (n+3) [] m (T1 g ss bs r [.list 7 (ss.map StpV.fv),iF (ss.length:Int),iF (i:Int)])) (len:=ss.length) (P:=q8r ss r) (fin:=some (T1 g ss bs r [.bool true])) (stop:=some (T1 g ss bs r [.bool false])) (λm i hi=>by
  show q3g.l2 (n+3) [] (m+1) _=_;obtain⟨s1,s2,s3,s4,s5,s6,s7,s8⟩:=hst _ (Ah hi);obtain⟨hk,hh⟩:∃k:Nat,ss[i].hour=(k:Int):=⟨ss[i].hour.toNat,by omega⟩;obtain⟨zk,hz⟩:∃k:Nat,ss[i].zone=(k:Int):=⟨ss[i].zone.toNat,by omega⟩;obtain⟨p1,p2,p3,p4⟩:=G.pT (h:=hk) (z:=zk) (by omega) (by omega);obtain⟨x1,x2,x3⟩:=G.xT hi;have f1:=a_of (n:=n+2) (z:=ss[i].qh);have f2:=q65 (n:=n+2) (q1q p4) (Sz.int (z:=ss[i].qh)) (qc _) (qc _);have f3:=a_sign (n:=n+2) (q1q x3) (l:=(dg 4294967296 (rd r.x[i]).den).map d32) (b:=false);have f4:=a_of (n:=n+2) (z:=ss[i].qty);have f5:=q65 (n:=n+2) (q1q x3) (Sz.int (z:=ss[i].qty)) (qc _) (qc _);rw[q3g.qt,Af,Ac];simp only[Aa];rw[q9 hi];simp only[q36 hi,rr];rw[hh,hz,q9 p1];simp only[qhg p1,rr];rw[Aa,q9 p2];simp only[q6z p2,rr];rw[f1];simp only[rr];rw[f2];simp only[rr];rw[q9 x1];simp only[q6z x1,rr];rw[f3,f4];simp only[rr];rw[f5];simp only[rr];rw[wneg (cmpQ_bd _ _),neg_lt0,neg_gt0,q4d,q57,q4d,sgn_gt0,qd (by omega)];unfold q8r;rw[Ag hi];simp only;rw[hh,hz,Bh,Bh,p3,x2];cases ss[i].buy <;> cases decide (((ss[i].qh:Int):Rat)<rd r.p[hk][zk]) <;> cases decide (rd r.p[hk][zk]<((ss[i].qh:Int):Rat)) <;> cases decide (0<rd r.x[i]) <;> cases decide (rd r.x[i]<((ss[i].qty:Int):Rat)) <;> rfl) (λm=>by
  show q3g.l2 (n+3) [] (m+1) _=_
  rw[q3g.qt,Ad,Ab]) ss.length 0 (n+3) (by omega) (by omega)
 have e:q3g.l2 (n+3) [] (n+3) (T1 g ss bs r [.list 7 (ss.map StpV.fv),iF (ss.length:Int),iF 0])=_:=e;rw[qpv,Aa,e];unfold q75;cases(List.range' 0 ss.length).all (q8r ss r) <;> rfl
theorem lined_run{n:Nat}(G:q1b g ss bs r)(hn:1000<=n):evF EnA n 49 (T1 g ss bs r [])=some (T1 g ss bs r [.bool (q76 g r)]):=by
 obtain⟨n,rfl⟩:∃k,n=k+4:=⟨n-4,by omega⟩;obtain⟨z1,z2,z3,z4,z5,z6,z7,z8,z9⟩:=q3t (q3u G.sh.ord)
 have e:=q1w (F:=λm i=>q2g.l2 (n+3) [] m (T1 g ss bs r [iF g.qe,iF (i:Int)])) (len:=g.qe.toNat) (P:=λh=>(List.range' 0 g.lq.length).all (q77 g.lq r h)) (fin:=some (T1 g ss bs r [.bool true])) (stop:=some (T1 g ss bs r [.bool false])) (λm h hh=>by
  show q2g.l2 (n+3) [] (m+1) _=_
  have e5:=q1w (F:=λm' i=>q2g.l5 (n+3) [m] m' (T1 g ss bs r [iF (h:Int),iF g.qe,iF (h:Int),.list 3 (g.lq.map qw.fv),iF (g.lq.length:Int),iF (i:Int)])) (len:=g.lq.length) (P:=q77 g.lq r h) (fin:=q2g.l2 (n+3) [] m (T1 g ss bs r [iF g.qe,iF ((h+1:Nat):Int)])) (stop:=some (T1 g ss bs r [.bool false])) (λm' i hi=>by
   show q2g.l5 (n+3) [m] (m'+1) _=_;have hl:=q9w (z6 _ (Ah hi));obtain⟨a,ha⟩:∃k:Nat,g.lq[i].src=(k:Int):=⟨g.lq[i].src.toNat,by omega⟩;obtain⟨b,hb⟩:∃k:Nat,g.lq[i].dst=(k:Int):=⟨g.lq[i].dst.toNat,by omega⟩;obtain⟨p1,p2,p3,p4⟩:=G.pT (h:=h) (z:=a) hh (by omega);obtain⟨_,q2,q3,q4⟩:=G.pT (h:=h) (z:=b) hh (by omega);obtain⟨g1,g2,g3,g4⟩:=G.fT (h:=h) (k:=i) hh hi;have f1:=q65 (n:=n+2) (q1q q4) (q1q p4) (qc _) (qc _);have f2:=a_of (n:=n+2) (z:=-g.lq[i].cap);have f3:=q65 (n:=n+2) (q1q g4) (Sz.int (z:=-g.lq[i].cap)) (qc _) (qc _);have f4:=a_of (n:=n+2) (z:=g.lq[i].cap);have f5:=q65 (n:=n+2) (q1q g4) (Sz.int (z:=g.lq[i].cap)) (qc _) (qc _);have hw:w6 (0-g.lq[i].cap)=-g.lq[i].cap:=by rw[qo];omega
   rw[q2g.q1h,Af,Ac];simp only[Aa];rw[q9 hi];simp only[q83 hi,rr];rw[ha,hb,q9 p1];simp only[qhg p1,rr];rw[Aa,q9 q2,q9 p2];simp only[q6z q2,q6z p2,rr];rw[f1];simp only[rr];rw[q9 g1];simp only[qhg g1,rr];rw[Aa,q9 g2];simp only[q6z g2,rr];rw[hw,f2,f4];simp only[rr];rw[f3,f5];simp only[rr];rw[q4d,q57,q57,q4d,qd (by omega)];unfold q77;rw[Ag hi];simp only;rw[ha,hb,Bh,Bh,p3,q3,g3];cases decide (rd r.p[h][b]<rd r.p[h][a]) <;> cases decide (rd r.p[h][a]<rd r.p[h][b]) <;> cases decide (((-g.lq[i].cap:Int):Rat)<rd r.f[h][i]) <;> cases decide (rd r.f[h][i]<((g.lq[i].cap:Int):Rat)) <;> rfl) (λm'=>by
   show q2g.l5 (n+3) [m] (m'+1) _=_
   rw[q2g.q1h,Ad,Ab,qd (by omega)]) g.lq.length 0 (n+3) (by omega) (by omega)
  have e5:q2g.l5 (n+3) [m] (n+3) (T1 g ss bs r [iF (h:Int),iF g.qe,iF (h:Int),.list 3 (g.lq.map qw.fv),iF (g.lq.length:Int),iF 0])=_:=e5;rw[q2g.qt,Af,Ac,Aa,e5]) (λm=>by
  show q2g.l2 (n+3) [] (m+1) _=_
  rw[q2g.qt,Ad,Ab]) g.qe.toNat 0 (n+3) (by omega) (by omega)
 have e:q2g.l2 (n+3) [] (n+3) (T1 g ss bs r [iF g.qe,iF 0])=_:=e;rw[qpw,e];unfold q76;cases(List.range' 0 g.qe.toNat).all λh=>(List.range' 0 g.lq.length).all (q77 g.lq r h) <;> rfl
theorem qou{n:Nat}(h:Sm g ss bs r)(hn:10<=n):evF EnA n 50 (T1 g ss bs r [])=some (T1 g ss bs r [.bool (q4f bs r.aq)]):=by
 obtain⟨n,rfl⟩:∃k,n=k+2:=⟨n-2,by omega⟩;have:=h.bsl;rw[qpx,a_linked (by omega)];rfl
theorem sumR_fold{zn:Int}{P:List (List Txt)}{q:List Int}(hlen:P.length=q.length)(hnum:∀l,l∈P->isNum (l.getD zn.toNat [])=true)(pc:Rat):∀(d i:Nat) (acc:Rat),i+d=P.length ->
  sumR pc ((q3i zn P).drop i) (q.drop i) acc=some ((List.range' i d).foldl (λn h=>n+(rd ((P.getD h []).getD zn.toNat [])-pc)*((q.getD h 0:Int):Rat)) acc):=by
 intro d
 induction d with
 |zero =>
  intro i acc hi;rw[AO (by unfold q3i;rw[Aa];omega)];cases q.drop i <;> rfl
 |succ d ih =>
  intro i acc hi;have h1:i<P.length:=by omega
  have h2:i<q.length:=by omega
  rw[qdr h1,Bc h2,BS,Bf,getD_at P _ h1,getD_at q _ h2];have hn:=hnum _ (Ah h1);unfold isNum at hn;obtain⟨v,hv⟩:=Ez.1 hn;rw[rd_some hv];show(pr (P[i].getD zn.toNat [])).bind _=_;rw[hv,Ae];exact ih (i+1) _ (by omega)
theorem q1b.num(G:q1b g ss bs r):(∀t,t∈r.x->isNum t=true)/\isNum r.ql=true/\isNum r.uq=true/\(∀l,l∈r.f->∀t,t∈l->isNum t=true)/\(∀l,l∈r.p->∀t,t∈l->isNum t=true):=by
 have:=G.read;unfold q24 at this;simp only[Ai,Av]at this;obtain⟨⟨⟨⟨h1,h2⟩,h3⟩,h4⟩,h5⟩:=this;exact⟨h1,h2,h3,h4,h5⟩
theorem qhh(G:q1b g ss bs r){b:BlkV}(hb:b∈bs):POk b.qh b.qty r.p/\q6q b.zone b.qh b.qty r.p b.buy=[sF (qy (q6d b r)),iF 0]/\Bd (1+4099*256) (q6d b r):=by
 obtain⟨z1,z2,z3,z4,z5,z6,z7,z8,z9⟩:=q3t (q3u G.sh.ord);obtain⟨b1,b2,b3,b4,b5,b6⟩:=qav G.sh.ord b hb;have lp:=G.sh.p;have hpl:r.p.length=b.qty.length:=by omega
 have hzone:∀l,l∈r.p->0<=b.zone/\b.zone<(l.length:Int):=λl hl=>by
  obtain⟨h,hh,rfl⟩:=Ek hl;obtain⟨_,l2⟩:=G.sh.lens h (by omega);rw[getD_at _ _ hh]at l2;omega
 have hP:POk b.qh b.qty r.p:=⟨by omega,λx hx=>by have:=b6 x hx;omega,⟨G.sm.pl,G.sm.p⟩,G.sm.q b hb⟩;have ho:r.p.any (oddZ b.zone)=false:=DP.2 λl hl=>by
  obtain⟨q1,q2⟩:=hzone l hl;unfold oddZ;rw[Af q1,Af q2];simp
 have hS:=hP.s hpl ho
 have hs:=sumR_fold (zn:=b.zone) hpl (λl hl=>by
  obtain⟨q1,q2⟩:=hzone l hl;have hz:b.zone.toNat<l.length:=by omega
  rw[getD_at _ _ hz]
  exact G.num.2.2.2.2 l hl _ (Ah hz)) ((b.qh:Int):Rat) r.p.length 0 0 (by omega)
 rw[Au,Au]at hs;have hge:(List.range' 0 r.p.length).foldl (λn h=>n+(rd ((r.p.getD h []).getD b.zone.toNat [])-((b.qh:Int):Rat))*((b.qty.getD h 0:Int):Rat)) 0=gainV b r:=by
  unfold gainV;rw[hpl];rfl
 rw[hge]at hs;have hbd:=sum_bd hS r.p.length 0 0 _ (by omega) (by exact q82.mono) (by rw[Au,Au];exact hs);refine⟨hP,?_,?_⟩
 ·unfold q6q;rw[if_pos ⟨hpl,ho⟩,hs];rfl
 ·exact hbd.sgn b.buy
theorem a_surp{n:Nat}(G:q1b g ss bs r){b:BlkV}(hb:b∈bs):evF EnA (n+1) 117 [.str b.who,iF b.seq,iF b.zone,.bool b.buy,iF b.qh,.list 1 (b.qty.map iF),iF b.pq,iF b.gq,.list 1 (r.p.map rowF)]=some [sF (qy (q6d b r)),iF 0]:=by
 obtain⟨h1,h2,_⟩:=qhh G hb;have:=surp_ev (s0:=b.who.data.toList) (x1:=b.seq) (x2:=b.zone) (x6:=b.pq) (x7:=b.gq) (b:=b.buy) h1;rw[h2]at this;have e:evF EnA (n+1) 117 [.str b.who,iF b.seq,iF b.zone,.bool b.buy,iF b.qh,.list 1 (b.qty.map iF),iF b.pq,iF b.gq,.list 1 (r.p.map rowF)]=limO En 117 [.str b.who,iF b.seq,iF b.zone,.bool b.buy,iF b.qh,.list 1 (b.qty.map iF),iF b.pq,iF b.gq,.list 1 (r.p.map rowF)]:=by kernel_rfl
 rw[e];exact q1l this
theorem w_surp{n:Nat}(G:q1b g ss bs r){b:BlkV}(hb:b∈bs):evF EnA (n+1) 61 [.str b.who,iF b.seq,iF b.zone,.bool b.buy,iF b.qh,.list 1 (b.qty.map iF),iF b.pq,iF b.gq,.list 1 (r.p.map rowF)]=some [sF (qy (q6d b r)),iF 0]:=by
 obtain⟨h1,h2,_⟩:=qhh G hb;have:=wsurp_ev (s0:=b.who.data.toList) (x1:=b.seq) (x2:=b.zone) (x6:=b.pq) (x7:=b.gq) (b:=b.buy) h1;rw[h2]at this;have e:evF EnA (n+1) 61 [.str b.who,iF b.seq,iF b.zone,.bool b.buy,iF b.qh,.list 1 (b.qty.map iF),iF b.pq,iF b.gq,.list 1 (r.p.map rowF)]=limO En 61 [.str b.who,iF b.seq,iF b.zone,.bool b.buy,iF b.qh,.list 1 (b.qty.map iF),iF b.pq,iF b.gq,.list 1 (r.p.map rowF)]:=by kernel_rfl
 rw[e];exact q1l this
def gainAt(bs:List BlkV)(r:ResV)(i:Nat):Bool:=match bs[i]?,r.aq[i]? with
 |some b,some true=>decide (0<=q6d b r)
 |_,_=>true
theorem qov{n:Nat}(G:q1b g ss bs r)(hn:1000<=n):evF EnA n 51 (T1 g ss bs r [])=some (T1 g ss bs r [.bool (q9b bs r)]):=by
 obtain⟨n,rfl⟩:∃k,n=k+4:=⟨n-4,by omega⟩;obtain⟨o1,o2⟩:=q74 G.sh.ord;have la:=G.sh.ac
 have e:=q1w (F:=λm i=>q5f.l2 (n+3) [] m (T1 g ss bs r [.list 8 (bs.map BlkV.fv),iF (bs.length:Int),iF (i:Int)])) (len:=bs.length) (P:=gainAt bs r) (fin:=some (T1 g ss bs r [.bool true])) (stop:=some (T1 g ss bs r [.bool false])) (λm i hi=>by
  show q5f.l2 (n+3) [] (m+1) _=_;have hi2:i<r.aq.length:=by omega
  obtain⟨h1,h2,h3⟩:=qhh G (Ah hi);have hlen:=h3.len;rw[q5f.qt,Af,Ac];simp only[Aa];rw[q9 hi];simp only[q2i hi,rr];rw[q9 hi2];simp only[q4q hi2,rr];rw[a_surp G (Ah hi)];simp only[rr];rw[qb2 (q99.2 rfl) (by omega)];simp only[rr];rw[a_sign (h3.mono)];simp only[rr];rw[sgn_lt0,qd (by omega)];unfold gainAt;rw[Ag hi,Ag hi2];cases r.aq[i]with
  |false=>rfl
  |true =>
   simp only;by_cases hg:q6d bs[i] r<0
   ·rw[Af hg,Ad (Ch.2 hg)];rfl
   ·rw[Ad hg,Af (Cu.1 hg)];rfl) (λm=>by
  show q5f.l2 (n+3) [] (m+1) _=_
  rw[q5f.qt,Ad,Ab]) bs.length 0 (n+3) (by omega) (by omega)
 have e:q5f.l2 (n+3) [] (n+3) (T1 g ss bs r [.list 8 (bs.map BlkV.fv),iF (bs.length:Int),iF 0])=_:=e;rw[qpy,Aa,e,show q9b bs r=(List.range' 0 bs.length).all (gainAt bs r) from rfl];cases(List.range' 0 bs.length).all (gainAt bs r) <;> rfl
theorem qhe{α σ:Type}(f:σ->α->σ)(d:α):∀(l:List α) (i:Nat) (s:σ),(List.range' i (l.length-i)).foldl (λs j=>f s (l.getD j d)) s=(l.drop i).foldl f s
 |l,i,s=>by
  by_cases h:i<l.length
  ·rw[show l.length-i=(l.length-(i+1))+1 by omega,BS,Bf,Bc h,Bf,getD_at _ _ h];exact qhe f d l (i+1) _
  ·rw[show l.length-i=0 by omega,AO (by omega)];rfl
 termination_by l i=>l.length-i
theorem qm0{buy:Bool}{p:Int}(h:-100000<=p/\p<=100000:=by omega):w6 (w6 (0-(if buy then -1 else 1))*p)=q29 buy p:=by
 cases buy
 ·rw[show(if(false:Bool)=true then(-1:Int)else 1)=1 from rfl,qo (x:=0-1),qo];show(0-1)*p=-p;omega
 ·rw[show(if(true:Bool)=true then(-1:Int)else 1)=-1 from rfl,qo (x:=0 - -1),qo];show(0 - -1)*p=p;omega
theorem qas{buy:Bool}{p:Int}(h:-100000<=p/\p<=100000):-100000<=q29 buy p/\q29 buy p<=100000:=by
 unfold q29;cases buy
 ·show -100000≤-p/\-p<=100000;omega
 ·exact h
theorem qm1{n:Nat}{b:Bool}:evF EnA (n+1) 171 [.bool b]=some [iF (if b then -1 else 1)]:=by
 rw[qjj];cases b <;> rfl
structure QD where
 q:Rat
 d:Nat
def QD.ok(k:Nat)(s:QD):Prop:=dn s.d=s.q.den/\Bd k s.q
abbrev QD.L(s:QD)(rest:List FV):List FV:=zl s.q.num::zb s.q.num::nL s.d::.bool false::rest
theorem QD.ok.mono{k m:Nat}{s:QD}(h:s.ok k)(hm:k<=m:=by omega):s.ok m:=⟨h.1,h.2.mono hm⟩
def QD.add(s:QD)(v:Rat):QD:=⟨s.q+v,(s.q+v).den⟩
theorem QD.add_ok{k m:Nat}{s:QD}{v:Rat}(h:s.ok k)(hv:Bd m v):(s.add v).ok (k+m+1):=⟨qc _,h.2.add hv⟩
def wS(ss:List StpV)(r:ResV)(s:QD)(i:Nat):QD:=match ss[i]? with
 |some x=>s.add (r.xAt i*((q29 x.buy x.qh:Int):Rat))
 |none=>s
def wQ(b:BlkV)(s:QD)(q:Int):QD:=s.add ((q:Rat)*((q29 b.buy b.qh:Int):Rat))
def wB(bs:List BlkV)(ac:List Bool)(s:QD)(i:Nat):QD:=match bs[i]?,ac[i]? with
 |some b,some true=>b.qty.foldl (wQ b) s
 |_,_=>s
theorem wS_q(l:List Nat):∀s:QD,(l.foldl (wS ss r) s).q=l.foldl (λn i=>match ss[i]? with | some s=>n+r.xAt i*((q29 s.buy s.qh:Int):Rat) | none=>n) s.q:=by
 induction l with
 |nil=>intro s;rfl
 |cons i l ih =>
  intro s;rw[Bf,Bf,ih];congr 1;unfold wS;cases ss[i]? <;> rfl
theorem wQ_q(b:BlkV)(l:List Int):∀s:QD,(l.foldl (wQ b) s).q=l.foldl (λ(n:Rat) (q:Int)=>n+(q:Rat)*((q29 b.buy b.qh:Int):Rat)) s.q:=by
 induction l with
 |nil=>intro s;rfl
 |cons q l ih=>intro s;rw[Bf,Bf,ih];rfl
theorem wB_q(l:List Nat):∀s:QD,(l.foldl (wB bs r.aq) s).q=l.foldl (λn i=>match bs[i]?,r.aq[i]? with
 |some b,some true=>b.qty.foldl (λ(n:Rat) (q:Int)=>n+(q:Rat)*((q29 b.buy b.qh:Int):Rat)) n
 |_,_=>n) s.q:=by
 induction l with
 |nil=>intro s;rfl
 |cons i l ih =>
  intro s;rw[Bf,Bf,ih];congr 1;unfold wB;split
  ·exact wQ_q _ _ _
  ·rfl
theorem qu7{n:Nat}(G:q1b g ss bs r)(hn:2000<=n):evF EnA n 119 [.list 7 (ss.map StpV.fv),.list 1 (r.x.map sF),.list 8 (bs.map BlkV.fv),.list 1 (r.aq.map .bool)]=some [sF (qy (welV ss bs r))]/\Bd 1000000 (welV ss bs r):=by
 obtain⟨n,rfl⟩:∃k,n=k+4:=⟨n-4,by omega⟩;obtain⟨z1,z2,z3,z4,z5,z6,z7,z8,z9⟩:=q3t (q3u G.sh.ord);obtain⟨o1,o2⟩:=q74 G.sh.ord;have hst:=q8p G.sh.ord;have hbl:=qav G.sh.ord;have la:=G.sh.ac;have lx:=G.sh.x;have bdw:∀ {buy:Bool} {p:Int},(-100000<=p/\p<=100000)->Bd 17 ((q29 buy p:Int):Rat):=fun {buy p} hp=>by
  have:=qas (buy:=buy) hp;refine Bd.int ?_ (by omega);have:(2:Nat)^17=131072:=rfl;omega
 have bdq:∀ {q:Int},(0<=q/\q<=1000)->Bd 17 (q:Rat):=fun {q} hq=>by
  refine Bd.int ?_ (by omega);have:(2:Nat)^17=131072:=rfl;omega
 have hmin:min r.aq.length bs.length=bs.length:=by omega
 have e13:=q5v (F:=λm i (s:QD)=>q1v.l13 (n+3) [] m (s.L [.list 8 (bs.map BlkV.fv),.list 1 (r.aq.map .bool),iF (r.aq.length:Int),iF (i:Int)])) (len:=bs.length) (g:=λi s=>wB bs r.aq s i) (fin:=λs=>some [sF (qy s.q)]) (I:=λi s=>s.ok (40000+36*3*i)) (λm i s hi hI=>by
  show q1v.l13 (n+3) [] (m+1) _=_;have hi2:i<r.aq.length:=by omega
  obtain⟨b1,b2,b3,b4,b5,b6⟩:=hbl _ (Ah hi);have e18:=q5v (F:=λm' k (s:QD)=>q1v.l18 (n+3) [m] m' (s.L [.str bs[i].who,iF bs[i].seq,iF bs[i].zone,.bool bs[i].buy,iF bs[i].qh,.list 1 (bs[i].qty.map iF),iF bs[i].pq,iF bs[i].gq,.list 8 (bs.map BlkV.fv),.list 1 (r.aq.map .bool),iF (r.aq.length:Int),iF (i:Int),.list 1 (bs[i].qty.map iF),iF (bs[i].qty.length:Int),iF (k:Int)])) (len:=bs[i].qty.length)
   (g:=λk s=>wQ bs[i] s (bs[i].qty.getD k 0)) (fin:=λs=>q1v.l13 (n+3) [] m (s.L [.list 8 (bs.map BlkV.fv),.list 1 (r.aq.map .bool),iF (r.aq.length:Int),iF ((i+1:Nat):Int)])) (I:=λk s=>s.ok (40000+36*3*i+36*k)) (λm' k s hk hI=>by
    show q1v.l18 (n+3) [m] (m'+1) _=_;have hq:=b6 _ (Ah hk);have hwb:=qas (buy:=bs[i].buy) (p:=bs[i].qh) (by omega);have f1:=a_of (n:=n+2) (z:=bs[i].qty[k]);have f2:=a_of (n:=n+2) (z:=q29 bs[i].buy bs[i].qh);have f3:=a_mul (n:=n+2) (Sz.int (z:=bs[i].qty[k])) (Sz.int (z:=q29 bs[i].buy bs[i].qh)) (qc _) (qc _);have f4:=a_add (n:=n+2) (hI.2.mono) (((bdq hq).mul (bdw (buy:=bs[i].buy) (p:=bs[i].qh) (by omega))).mono) hI.1 (qc _);rw[q1v.q7n,Af,Ac,Aa,q9 hk];simp only[q4c hk,rr];rw[f1];simp only[rr];rw[qm1];simp only[rr];rw[qm0,f2];simp only[rr];rw[f3];simp only[rr];rw[f4];simp only[rr];rw[qd (by omega),getD_at _ _ hk];rfl) (λk s hk hI=>by
    have hq:=b6 _ (Ah hk);rw[getD_at _ _ hk];exact(QD.add_ok hI ((bdq hq).mul (bdw (buy:=bs[i].buy) (p:=bs[i].qh) (by omega)))).mono) (λm' s hI=>by
    show q1v.l18 (n+3) [m] (m'+1) _=_
    rw[q1v.q7n,Ad,Ab,qd (by omega)]) bs[i].qty.length 0 (n+3) s (by omega) (by omega) hI
  have e18:=e18.1;have e18:q1v.l18 (n+3) [m] (n+3) (s.L [.str bs[i].who,iF bs[i].seq,iF bs[i].zone,.bool bs[i].buy,iF bs[i].qh,.list 1 (bs[i].qty.map iF),iF bs[i].pq,iF bs[i].gq,.list 8 (bs.map BlkV.fv),.list 1 (r.aq.map .bool),iF (r.aq.length:Int),iF (i:Int),.list 1 (bs[i].qty.map iF),iF (bs[i].qty.length:Int),iF 0])=_:=e18;have ef:(List.range' 0 bs[i].qty.length).foldl (λs j=>wQ bs[i] s (bs[i].qty.getD j 0)) s=bs[i].qty.foldl (wQ bs[i]) s:=qhe (wQ bs[i]) 0 bs[i].qty 0 s;rw[ef]at e18;rw[q1v.q4w,Af,Ac,Aa,Aa,q9 hi2,q9 hi];simp only[q4q hi2,q2i hi,rr];rw[Aa,e18,qd (by omega)];unfold wB;rw[Ag hi,Ag hi2];cases r.aq[i] <;> rfl) (λi s hi hI=>by
  have hi2:i<r.aq.length:=by omega
  obtain⟨b1,b2,b3,b4,b5,b6⟩:=hbl _ (Ah hi);unfold wB;rw[Ag hi,Ag hi2];cases r.aq[i]with
  |false=>exact hI.mono
  |true =>
   have gen:∀(l:List Int) (s:QD) (k:Nat),(∀q,q∈l->0<=q/\q<=1000)->s.ok k->(l.foldl (wQ bs[i]) s).ok (k+36*l.length):=by
    intro l
    induction l with
    |nil=>intro s k _ h;exact h.mono (by simp)
    |cons q l ih =>
     intro s k hl h;rw[Bf];refine(ih _ (k+36) (λq hq=>hl q (AC _ hq)) ((QD.add_ok h ((bdq (hl q AJ)).mul (bdw (buy:=bs[i].buy) (p:=bs[i].qh) (by omega)))).mono)).mono ?_;simp only[Aq];omega
   exact(gen bs[i].qty s _ b6 hI).mono) (λm s hI=>by
  show q1v.l13 (n+3) [] (m+1) _=_;rw[q1v.q4w,Ad,Ab,a_text (hI.2.mono) hI.1]
  rfl)
 have e5:=q5v (F:=λm i (s:QD)=>q1v.l5 (n+3) [] m (s.L [.list 1 (r.x.map sF),.list 8 (bs.map BlkV.fv),.list 1 (r.aq.map .bool),.list 7 (ss.map StpV.fv),iF (ss.length:Int),iF (i:Int)])) (len:=ss.length) (g:=λi s=>wS ss r s i) (fin:=λs=>q1v.l13 (n+3) [] (n+3) (s.L [.list 8 (bs.map BlkV.fv),.list 1 (r.aq.map .bool),iF (r.aq.length:Int),iF 0])) (I:=λi s=>s.ok (1+1100*i)) (λm i s hi hI=>by
  show q1v.l5 (n+3) [] (m+1) _=_;have hk:=hst _ (Ah hi);obtain⟨x1,x2,x3⟩:=G.xT hi;have hwb:=qas (buy:=ss[i].buy) (p:=ss[i].qh) (by omega);have hnum:=G.num.1 _ (Ah x1);obtain⟨v,hv⟩:=Ez.1 hnum;have hrv:rd r.x[i]=v:=rd_some hv;have bv:Bd 1024 v:=by rw[<- hrv];exact q35 x3
  have f2:=a_of (n:=n+2) (z:=q29 ss[i].buy ss[i].qh);have f3:=a_mul (n:=n+2) (q:=v) (bv.mono) (Sz.int (z:=q29 ss[i].buy ss[i].qh)) (qc _) (qc _);have f4:=a_add (n:=n+2) (hI.2.mono) ((bv.mul (bdw (buy:=ss[i].buy) (p:=ss[i].qh) (by omega))).mono) hI.1 (qc _);rw[q1v.q1h,Af,Ac];simp only[Aa];rw[q9 hi,q9 x1];simp only[q36 hi,q78 x1,rr];rw[qb2 hv];simp only[rr];rw[qm1];simp only[rr];rw[qm0,f2];simp only[rr];rw[f3];simp only[rr];rw[f4];simp only[rr];rw[qd (by omega)];unfold wS;rw[Ag hi,x2,hrv];rfl) (λi s hi hI=>by
  have hk:=hst _ (Ah hi);obtain⟨x1,x2,x3⟩:=G.xT hi;unfold wS;rw[Ag hi];exact(QD.add_ok hI ((show Bd 1024 (r.xAt i) by rw[x2];exact q35 x3).mul (bdw (buy:=ss[i].buy) (p:=ss[i].qh) (by omega)))).mono) (λm s hI=>by
  show q1v.l5 (n+3) [] (m+1) _=_;have hml:(if((bs.length:Nat):Int)<((r.aq.length:Nat):Int)then((bs.length:Nat):Int)else((r.aq.length:Nat):Int))=((r.aq.length:Nat):Int):=by split <;> omega
  rw[q1v.q1h,Ad,Ab];simp only[Aa]
  rw[hml,q1s (Ak _),Ae,Au,CR (by rw[Aa];exact Ak _),Aa])
 obtain⟨q1,q2⟩:=e5 ss.length 0 (n+3) ⟨0,0⟩ (by omega) (by omega) ⟨rfl,q82.mono⟩;obtain⟨q3,q4⟩:=e13 bs.length 0 (n+3) _ (by omega) (by omega) (q2.mono);have hw:((List.range' 0 bs.length).foldl (λs j=>wB bs r.aq s j) ((List.range' 0 ss.length).foldl (λs j=>wS ss r s j) ⟨0,0⟩)).q=welV ss bs r:=by
  rw[wB_q,wS_q];unfold welV welB welS;rw[hmin];rfl
 refine⟨?_,?_⟩
 ·rw[qq6,Aa,Aa,nne,Af lx,Ao,Ab];refine BQ ?_ ((q1.trans q3).trans (by rw[hw]));simp only[QD.L];rw[show zl (0:Rat).num=FV.list 1 [] from q3h,show nL 0=FV.list 1 [] from q3h];rfl
 ·rw[<- hw];exact q4.2.mono
theorem worth_run{n:Nat}(G:q1b g ss bs r)(hn:3000<=n):evF EnA n 52 (T1 g ss bs r [])=some (T1 g ss bs r [.bool (q9c ss bs r)]):=by
 obtain⟨n,rfl⟩:∃k,n=k+2:=⟨n-2,by omega⟩;rw[qpz,(qu7 (n:=n+1) G (by omega)).1];simp only[rr];rw[q37];rfl
theorem qm2{t:Txt}(h:isNum t=true):qy (rd t)=t:=by
 obtain⟨v,hv⟩:=Ez.1 h;rw[rd_some hv];exact(q99.1 hv).symm
theorem rd_inj{a b:Txt}(ha:isNum a=true)(hb:isNum b=true):rd a=rd b↔a=b:=⟨λh=>by rw[<- qm2 ha,h,qm2 hb],λh=>by rw[h]⟩
theorem upped_run{n:Nat}(G:q1b g ss bs r)(hn:10<=n):evF EnA n 53 (T1 g ss bs r [])=some (T1 g ss bs r [.bool (upV r)]):=by
 obtain⟨n,rfl⟩:∃k,n=k+2:=⟨n-2,by omega⟩;obtain⟨_,nw,nu,_⟩:=G.num;rw[qq0,q65 (q1q G.sm.u) (q1q G.sm.w) (qc _) (qc _)];simp only[rr];rw[cmpQ_ge];have hz:(cmpQ (rd r.uq) (rd r.ql)==0)=decide (r.uq=r.ql):=by
  rw[Bm,Bv,At,<- rd_inj nu nw];exact cmp_eq
 rw[hz];unfold upV;by_cases hO:r.q80=true
 ·rw[show(!r.q80)=false by rw[hO];rfl];cases decide (rd r.ql<=rd r.uq) <;> rfl
 ·rw[show(!r.q80)=true by rw[AI.2 hO];rfl];cases decide (rd r.ql<=rd r.uq) <;> rfl
end
end
end
end Rf
