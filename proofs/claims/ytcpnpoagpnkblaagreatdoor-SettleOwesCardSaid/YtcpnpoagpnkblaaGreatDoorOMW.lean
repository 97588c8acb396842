/- Texts of this work put together, their blanks and comments taken out: Oda, Odb, Nma. -/
import Derived.Test.YtcpnpoagpnkblaaGreatDoorOMT
import Derived.Test.YtcpnpoagpnkblaaGreatDoorOMU
import Derived.Test.YtcpnpoagpnkblaaGreatDoorOMV
import Derived.Sort.Walk0
set_option linter.unusedVariables false
set_option linter.unusedSimpArgs false
set_option maxHeartbeats 2000000
namespace Rf
open Go
section
def StpV.fv(s:StpV):FV:=.agg [.str s.who,iF s.seq,iF s.zone,iF s.hour,.bool s.buy,iF s.qty,iF s.qe]
def qz.fv(l:qz):FV:=.agg [iF l.src,iF l.dst,iF l.cap]
def gL(g:q10):List FV:=[iF g.qa,iF g.qg,.list 3 (g.lines.map qz.fv),iF g.low,iF g.high]
theorem q2z{ss:List StpV}{i:Nat}(h:i<ss.length)(c:Nat):at' (ss.map StpV.fv) i c=[FV.str ss[i].who,iF ss[i].seq,iF ss[i].zone,iF ss[i].hour,.bool ss[i].buy,iF ss[i].qty,iF ss[i].qe][c]?:=by
 rw[q2a,Ag h];rfl
theorem q8a{ls:List qz}{i:Nat}(h:i<ls.length)(c:Nat):at' (ls.map qz.fv) i c=[iF ls[i].src,iF ls[i].dst,iF ls[i].cap][c]?:=by
 rw[q2a,Ag h];rfl
theorem q2g{bs:List BlkV}{i:Nat}(h:i<bs.length)(c:Nat):at' (bs.map BlkV.fv) i c=[FV.str bs[i].who,iF bs[i].seq,iF bs[i].zone,.bool bs[i].buy,iF bs[i].qe,.list 1 (bs[i].qty.map iF),iF bs[i].parent,iF bs[i].group][c]?:=by
 rw[q2a,Ag h];rfl
theorem q4j{q:List Int}{i:Nat}(h:i<q.length):at' (q.map iF) i 0=some (iF q[i]):=by rw[q2a,Ag h];rfl
def fIdx{α:Type}(p:α->Bool)(l:List α):Int:=match l.findIdx? p with | some k=>(k:Int) | none=>-1
theorem qee{α:Type}(p:α->Bool)(l:List α):decide (fIdx p l≥0)=l.any p:=by
 unfold fIdx;cases h:l.findIdx? p with
 |none =>
  rw[Fr]at h;have:l.any p=false:=DY.2 λx hx=>by simpa using h x hx
  rw[this];rfl
 |some k =>
  rw[Ew]at h;obtain⟨h1,h2,_⟩:=h;have:l.any p=true:=List.any_eq_true.2 ⟨l[k],Ah h1,h2⟩;rw[this];simp
theorem qc7{α:Type}(l:List α)(p:α->Bool){pre:List FV}{F:Nat->Nat->Res}(hs:∀m i (h:i<l.length),F (m+1) i=bif p l[i]then some (pre++[iF (i:Int)])else F m (i+1))(he:∀m,F (m+1) l.length=some (pre++[iF (-1)])) :
  ∀(d i m:Nat),i+d=l.length->d<m->(∀j (h:j<l.length),j<i->p l[j]=false)->F m i=some (pre++[iF (fIdx p l)]):=by
 intro d
 induction d with
 |zero =>
  intro i m hi hm hn;obtain⟨m,rfl⟩:=qSx m;obtain rfl:i=l.length:=by omega
  have:l.findIdx? p=none:=Fr.2 λx hx=>by
   obtain⟨j,hj,rfl⟩:=Ex hx;exact hn j hj hj
  rw[he];unfold fIdx;rw[this]
 |succ d ih =>
  intro i m hi hm hn;obtain⟨m,rfl⟩:=qSx m;have hil:i<l.length:=by omega
  rw[hs m i hil];cases hp:p l[i]with
  |false =>
   rw[Ab];refine ih (i+1) m (by omega) (by omega) λj hj hji=>?_;by_cases h:j=i
   ·subst h;exact hp
   ·exact hn j hj (by omega)
  |true =>
   rw[Ac];have:l.findIdx? p=some i:=Ew.2 ⟨hil,hp,λj hj=>by simpa using hn j (by omega) hj⟩;unfold fIdx;rw[this]
theorem q4y{α:Type}(l:List α)(p:α->Bool){P:Nat->Bool}(h:∀i (hi:i<l.length),P i=p l[i]):(List.range' 0 l.length).all P=l.all p:=by
 rw[Bm,qck,Au];constructor
 ·intro q x hx;obtain⟨i,hi,rfl⟩:=Ex hx;rw[<- h i hi];exact q i hi
 ·intro q i hi;rw[h i hi];exact q _ (Ah hi)
theorem qhf{n:Nat}{a b c:Int}:evF EnA (n+1) 64 [iF a,iF b,iF c]=some [.bool (qp a b c)]:=by
 have:evF EnA (n+1) 64 [iF a,iF b,iF c]=(bif(decide (b<=a))then some [.bool (decide (a<=c))]else some [.bool false]):=by kernel_rfl
 rw[this];unfold qp;cases decide (b<=a) <;> rfl
theorem qll{n:Nat}{a b c:Int}:evF EnA (n+1) 126 [iF a,iF b,iF c]=some [.bool (qp a b c)]:=by
 rw[qsu];unfold qp;cases decide (b<=a) <;> rfl
theorem qlm{n:Nat}{a b c:Int}:evF EnA (n+1) 133 [iF a,iF b,iF c]=some [.bool (qp a b c)]:=by
 rw[qsv];unfold qp;rw[show decide (a≥b)=decide (b<=a) from rfl];cases decide (b<=a) <;> rfl
theorem qhe{n:Nat}{a b c:Int}:evF EnA (n+1) 74 [iF a,iF b,iF c]=some [.bool (qp a b c)]:=by
 rw[qsw];unfold qp;rw[show decide (a≥b)=decide (b<=a) from rfl];cases decide (b<=a) <;> rfl
theorem le_sum{x:Nat}:∀ {l:List Nat},x∈l->x<=l.sum
 |[],h=>by simp at h
 |y::l,h=>by
  rw[List.sum_cons];rcases Ar.1 h with rfl | h
  ·omega
  ·have:=le_sum h;omega
theorem dle(a b:Int):decide (a<=b)=!decide (b<a):=by
 by_cases h:a<=b
 ·rw[Af h,Ad];rfl
 ·rw[Ad h,Af];rfl
theorem dlt(a b:Int):decide (a<b)=!decide (b<=a):=by rw[dle,DR]
theorem q4x{a b c:Int}:qp a b c=true↔b<=a/\a<=c:=by simp[qp]
section
variable {g:q10}
theorem godd_run(h1:1<=g.qa/\g.qa<=3){n:Nat}{l:qz}:evF EnA (n+2) 125 (iF l.src::iF l.dst::iF l.cap::gL g)=some (gL g++[.bool (!q3o g l)]):=by
 unfold gL;rw[qsx,qk];simp (disch:=omega) only[qll,rr];unfold q3o;rw[show(l.src !=l.dst)=!(l.src==l.dst) from rfl];cases qp l.src 0 (g.qa-1) <;> cases qp l.dst 0 (g.qa-1) <;> cases(l.src==l.dst) <;> rfl
theorem gidx_run(h1:1<=g.qa/\g.qa<=3){n:Nat}(hl:g.lines.length<=3)(hn:10<=n):evF EnA n 127 (.list 3 (g.lines.map qz.fv)::gL g)=some (gL g++[.bool (!g.lines.all (q3o g))]):=by
 obtain⟨n,rfl⟩:∃k,n=k+4:=⟨n-4,by omega⟩
 have h:=qc7 g.lines (λl=>!q3o g l) (pre:=gL g) (F:=λm i=>q7z.l2 (n+2) [] m (gL g++[.list 3 (g.lines.map qz.fv),iF (g.lines.length:Int),iF (i:Int)])) (λm i hi=>by
  show q7z.l2 (n+2) [] (m+1) _=_;unfold gL;rw[Al,Al,Al,Al,Al,At,q7z.qt,Af,Ac,Aa,q9 hi];simp only[q8a hi,rr];have:=godd_run h1 (n:=n) (l:=g.lines[i]);unfold gL at this;rw[this];simp only[rr];simp only[Al,At];simp only[rr];rw[qc]) (λm=>by
  show q7z.l2 (n+2) [] (m+1) _=_;unfold gL;rw[Al,Al,Al,Al,Al,At,q7z.qt,Ad,Ab]
  rfl) g.lines.length 0 (n+2) (by omega) (by omega) (λj _ hj=>by omega)
 have e2:evF EnA (n+3) 179 (.list 3 (g.lines.map qz.fv)::gL g)=some (gL g++[iF (fIdx (λl=>!q3o g l) g.lines)]):=by
  rw[<- h];unfold gL;rw[qsy];simp only[Aa];rfl
 unfold gL at e2 ⊢;rw[qsz,e2];simp only[Al,At];simp only[rr];rw[qee,Ey];simp only[DR]
theorem qt0{n:Nat}(hl:g.lines.length<=1000000)(hn:12<=n):evF EnA n 63 (gL g)=some [iF (if q36 g=true then 0 else 140)]:=by
 obtain⟨n,rfl⟩:∃k,n=k+2:=⟨n-2,by omega⟩;unfold gL;rw[qt1,Aa];simp (disch:=omega) only[qll,rr];unfold q36;by_cases hz:qp g.qa 1 3=true
 ·have h1:=q4x.1 hz;rw[hz];by_cases hh:qp g.qg 1 3=true
  ·rw[hh];by_cases hk:g.lines.length<=3
   ·have:=gidx_run h1 (n:=n+1) hk (by omega);unfold gL at this;rw[this,Ad,Af hk];simp only[Al,At];simp only[rr];rw[show decide (g.high>100000)=!decide (g.high<=100000) from dlt _ _];cases g.lines.all (q3o g) <;> cases qp g.low (-100000) g.high <;> cases decide (g.high<=100000) <;> rfl
   ·rw[Af,Ad hk];simp
  ·rw[AI.2 hh];simp
 ·rw[AI.2 hz];simp
theorem qss{n:Nat}(hl:g.lines.length<=1000000)(hn:12<=n):evF EnA n 73 (gL g)=some [iF (if q36 g=true then 0 else 140)]:=by
 obtain⟨n,rfl⟩:∃k,n=k+2:=⟨n-2,by omega⟩;unfold gL;rw[qt2,Aa];simp (disch:=omega) only[qlm,rr];unfold q36;by_cases hz:qp g.qa 1 3=true
 ·have h1:=q4x.1 hz;rw[hz];by_cases hh:qp g.qg 1 3=true
  ·rw[hh];by_cases hk:g.lines.length<=3
   ·rw[Ad (show ¬ ((g.lines.length:Int)>3) by omega),Af hk]
    have h:=q21 (F:=λm i=>q75.l4 (n+1) [] m [iF g.qa,iF g.qg,.list 3 (g.lines.map qz.fv),iF g.low,iF g.high,iF (i:Int)]) (len:=g.lines.length) (P:=λi=>match g.lines[i]? with | some l=>q3o g l | none=>true) (fin:=some [iF 0]) (stop:=some [iF 140]) (λm i hi=>by
     show q75.l4 (n+1) [] (m+1) _=_;rw[q75.q14,Aa,Af,Ac,q9 hi,qk (x:=g.qa-1),qc,Ag hi];simp (disch:=omega) only[q8a hi,qlm,rr];unfold q3o;rw[show(g.lines[i].src !=g.lines[i].dst)=!(g.lines[i].src==g.lines[i].dst) from rfl];cases qp g.lines[i].src 0 (g.qa-1) <;> cases qp g.lines[i].dst 0 (g.qa-1) <;> cases(g.lines[i].src==g.lines[i].dst) <;> cases qp g.lines[i].cap 0 1000 <;> rfl) (λm=>by
     show q75.l4 (n+1) [] (m+1) _=_
     rw[q75.q14,Aa,Ad,Ab]) g.lines.length 0 (n+1) (by omega) (by omega)
    rw[q4y g.lines (q3o g) (λi hi=>by rw[Ag hi])]at h;have h:q75.l4 (n+1) [] (n+1) [iF g.qa,iF g.qg,.list 3 (g.lines.map qz.fv),iF g.low,iF g.high,iF 0]=_:=h;rw[h];have e1:qp g.low (-100000) g.high=(!decide (g.low < -100000)&&!decide (g.low>g.high)):=by
     unfold qp;rw[show decide (-100000<=g.low)=!decide (g.low < -100000) from dle _ _,show decide (g.low<=g.high)=!decide (g.low>g.high) from dle _ _]
    rw[e1,show decide (g.high<=100000)=!decide (g.high>100000) from dle _ _];cases g.lines.all (q3o g) <;> cases decide (g.low < -100000) <;> cases decide (g.low>g.high) <;> cases decide (g.high>100000) <;> rfl
   ·rw[Af (show((g.lines.length:Int)>3) by omega),Ad hk];simp
  ·rw[AI.2 hh];simp
 ·rw[AI.2 hz];simp
end
section
variable {g:q10} {ss:List StpV} {bs:List BlkV}
theorem iodd_run{n:Nat}{a:Int}:evF EnA (n+2) 65 [iF a]=some [.bool (!qp a 0 1000)]:=by
 rw[qt3];simp (disch:=omega) only[qhf,rr]
theorem icon_run{n:Nat}{q:List Int}(hl:q.length<=1000000)(hn:q.length+6<=n):evF EnA n 66 [.list 1 (q.map iF),.raw (Go.Value.func (Go.Fn.func 65) #[] #[])]=some [.bool (!q.all λx=>qp x 0 1000)]:=by
 obtain⟨n,rfl⟩:∃k,n=k+4:=⟨n-4,by omega⟩
 have h:=qc7 q (λx=>!qp x 0 1000) (pre:=[]) (F:=λm i=>q76.l2 (n+2) [] m [.list 1 (q.map iF),.raw (Go.Value.func (Go.Fn.func 65) #[] #[]),iF (q.length:Int),iF (i:Int)]) (λm i hi=>by
  show q76.l2 (n+2) [] (m+1) _=_;rw[q76.qt,Af,Ac,Aa,q9 hi];simp (disch:=omega) only[q4j hi,iodd_run,rr];rw[qc];rfl) (λm=>by
  show q76.l2 (n+2) [] (m+1) _=_;rw[q76.qt,Ad,Ab]
  rfl) q.length 0 (n+2) (by omega) (by omega) (λj _ hj=>by omega)
 rw[qt4,qt5,Aa];have h:q76.l2 (n+2) [] (n+2) [.list 1 (q.map iF),.raw (Go.Value.func (Go.Fn.func 65) #[] #[]),iF (q.length:Int),iF 0]=_:=h;rw[h,At];simp only[rr];rw[qee,Ey];simp only[DR]
theorem max_loop{n:Nat}{q:List Int}(hl:q.length<=1000000):∀(d i m:Nat) (v:Int),i+d=q.length->d<m->∃w,q9y.l5 n [] m [.list 1 (q.map iF),iF v,iF (i:Int)]=some [iF w]/\v<=w/\(∀x,x∈q.drop i->x<=w)/\(w=v\/w∈q.drop i):=by
 intro d
 induction d with
 |zero =>
  intro i m v hi hm;obtain⟨m,rfl⟩:=qSx m;refine⟨v,?_,Int.le_refl _,λx hx=>?_,.inl rfl⟩
  ·rw[q9y.q1o,Aa,Ad,Ab]
  ·rw[AN (by omega)]at hx;simp at hx
 |succ d ih =>
  intro i m v hi hm;obtain⟨m,rfl⟩:=qSx m;have hil:i<q.length:=by omega
  obtain⟨w,h1,h2,h3,h4⟩:=ih (i+1) m (if v<q[i]then q[i]else v) (by omega) (by omega);have hle:v<=(if v<q[i]then q[i]else v)/\q[i]<=(if v<q[i]then q[i]else v):=by split <;> omega
  refine⟨w,?_,by omega,λx hx=>?_,?_⟩
  ·rw[q9y.q1o,Aa,Af,Ac,q9 hil];simp only[q4j hil,rr];rw[qc];exact h1
  ·rw[AY hil]at hx;rcases Ar.1 hx with rfl | hx
   ·omega
   ·exact h3 x hx
  ·rw[AY hil];rcases h4 with h4 | h4
   ·split at h4
    ·exact .inr (by rw[h4];exact AF)
    ·exact .inl h4
   ·exact .inr (AA _ h4)
theorem max_run{n:Nat}{q:List Int}(hl:q.length<=1000000)(h0:q≠[])(hq:q.all (λx=>qp x 0 1000)=true)(hn:q.length+2<=n):∃w,evF EnA n 67 [.list 1 (q.map iF)]=some [iF w]/\(!(w==0))=q.any λx=>decide (0<x):=by
 obtain⟨n,rfl⟩:=qSx n;have hp:0<q.length:=Db.2 h0;obtain⟨w,h1,h2,h3,h4⟩:=max_loop (n:=n) hl (q.length-1) 1 n q[0] (by omega) (by omega);refine⟨w,?_,?_⟩
 ·rw[qt6,Aa,Ad,Ab,show(0:Int)=((0:Nat):Int) from rfl,q9 hp];simp only[q4j hp,rr];exact h1
 ·have hge:∀x,x∈q->0<=x:=λx hx=>(q4x.1 (Au.1 hq x hx)).1;have hmem:w∈q:=by
   rcases h4 with h4 | h4
   ·rw[h4];exact Ah hp
   ·exact Cy h4
  have hall:∀x,x∈q->x<=w:=λx hx=>by
   obtain⟨i,hi,rfl⟩:=Ex hx;cases i with
   |zero=>exact h2
   |succ i=>exact h3 _ (List.mem_drop_iff_getElem.2 ⟨i,by omega,by simp[Bo]⟩)
  rw[Bm,List.any_eq_true];constructor
  ·intro h;exact⟨w,hmem,Af (by have h5:=hge w hmem;have h6:w≠0:=(by simpa using h);omega)⟩
  ·rintro⟨x,hx,hx2⟩;have:=hall x hx;have hx2:0<x:=by simpa using hx2
   have:w≠0:=by omega
   simpa using this
def blkL(b:BlkV):List FV:=[FV.str b.who,iF b.seq,iF b.zone,.bool b.buy,iF b.qe,.list 1 (b.qty.map iF),iF b.parent,iF b.group]
theorem some_loop{n:Nat}{b:BlkV}(hl:b.qty.length<=1000000):∀(d i m:Nat) (v:Bool),i+d=b.qty.length->d<m ->
  q80.l5 (n+1) [] m [FV.str b.who,iF b.seq,iF b.zone,.bool b.buy,iF b.qe,.list 1 (b.qty.map iF),iF b.parent,iF b.group,.bool v,iF (i:Int)]=some [.bool ((b.qty.drop i).all (λx=>qp x 0 1000)&&(v||(b.qty.drop i).any λx=>decide (0<x)))]:=by
 intro d
 induction d with
 |zero =>
  intro i m v hi hm;obtain⟨m,rfl⟩:=qSx m;rw[q80.q1o,Aa,Ad,Ab,AN (by omega)];simp
 |succ d ih =>
  intro i m v hi hm;obtain⟨m,rfl⟩:=qSx m;have hil:i<b.qty.length:=by omega
  rw[q80.q1o,Aa,Af,Ac,q9 hil,qc,AY hil];simp (disch:=omega) only[q4j hil,qhe,rr];rw[ih (i+1) m true (by omega) (by omega),ih (i+1) m (decide (b.qty[i]>0)) (by omega) (by omega),Bk,DO,show decide (b.qty[i]>0)=decide (0<b.qty[i]) from rfl];cases qp b.qty[i] 0 1000 <;> cases v <;> cases decide (0<b.qty[i]) <;> cases((b.qty.drop (i+1)).all λx=>qp x 0 1000) <;> rfl
theorem block_run(h1:1<=g.qa/\g.qa<=3){n:Nat}{b:BlkV}(hl:b.qty.length<=1000000)(hn:b.qty.length+4<=n):evF EnA n 75 (gL g++blkL b)=some [.bool (q33 g b)]:=by
 obtain⟨n,rfl⟩:∃k,n=k+2:=⟨n-2,by omega⟩;unfold gL blkL;simp only[Al,At];rw[qt7,Aa,qk];simp (disch:=omega) only[qhe,rr];have h:=some_loop (n:=n) (b:=b) hl b.qty.length 0 (n+1) false (by omega) (by omega);rw[Av]at h;have h:q80.l5 (n+1) [] (n+1) [FV.str b.who,iF b.seq,iF b.zone,.bool b.buy,iF b.qe,.list 1 (b.qty.map iF),iF b.parent,iF b.group,.bool false,iF 0]=_:=h;rw[h];unfold q33;rw[show(((b.qty.length:Int)) !=g.qg)=!decide ((b.qty.length:Int)=g.qg) by simp[bne,BEq.beq]];cases qp b.zone 0 (g.qa-1) <;> cases qp b.qe g.low g.high <;> cases decide ((b.qty.length:Int)=g.qg) <;> rfl
end
theorem qln:∀l:List UInt8,Op.bytesLess l l=false
 |[]=>rfl
 |x::l=>by simp[Op.bytesLess,qln l]
theorem qed(j:Nat)(h:j<9000000000000000000:=by omega):w6 (((j+1:Nat):Int)-1)=(j:Int):=by rw[qk];omega
def cmpB(l e:Bool):Int:=bif l then -1 else bif !(l||e)then 1 else 0
theorem qlo{n:Nat}{s t:ByteArray}:evF EnA (n+2) 130 [.str s,.str t]=some [.int .i64 (cmpB (Op.bytesLess s.toList t.toList) (s.toList==t.toList))]:=by
 rw[qt8];simp only[qt9,Ae,Aj,q41,Bi,Am,Ab];unfold cmpB;cases Op.bytesLess s.toList t.toList <;> cases(s.toList==t.toList) <;> rfl
def cmpM(a b:Int):Int:=bif decide (a<b)then -1 else bif decide (a>b)then 1 else 0
theorem qlp{n:Nat}{a b:Int}:evF EnA (n+2) 131 [.int .i64 a,.int .i64 b]=some [.int .i64 (cmpM a b)]:=by
 rw[qta];simp only[qtb,Ae,Aj,q41,Dq,Ab];unfold cmpM;cases decide (a<b) <;> cases decide (a>b) <;> rfl
theorem or_run{n:Nat}{a b:Int}:evF EnA (n+4) 129 [.list 1 [.int .i64 a,.int .i64 b]]=some [.int .i64 (bif a !=0 then a else b)]:=by
 rw[qtc,q81.qm];show(bif a !=0 then some [.int .i64 a]else q81.l3 (n+3) [] (n+2) [.int .i64 0,.list 1 [.int .i64 a,.int .i64 b],.int .i64 2,.int .i64 1]:Res)=_;rw[q81.qm];show(bif a !=0 then some [.int .i64 a]else(bif b !=0 then some [.int .i64 b]else q81.l3 (n+3) [] (n+1) [.int .i64 0,.list 1 [.int .i64 a,.int .i64 b],.int .i64 2,.int .i64 2]):Res)=_;rw[q81.qm];show(bif a !=0 then some [.int .i64 a]else(bif b !=0 then some [.int .i64 b]else some [.int .i64 0]):Res)=_;cases ha:(a !=0)
 ·cases hb:(b !=0)
  ·have:b=0:=by simpa using hb
   rw[this];rfl
  ·rfl
 ·rfl
theorem lt_or(s t:ByteArray)(a b:Int):decide ((bif cmpB (Op.bytesLess s.toList t.toList) (s.toList==t.toList) !=0 then cmpB (Op.bytesLess s.toList t.toList) (s.toList==t.toList)else cmpM a b)≥0)=!nmB s a t b:=by
 unfold nmB cmpB cmpM;cases Op.bytesLess s.toList t.toList <;> cases(s.toList==t.toList)
 ·rfl
 ·by_cases h:a<b
  ·rw[Af h];rfl
  ·rw[Ad h];cases decide (a>b) <;> rfl
 ·rfl
 ·rfl
theorem qlj(s t:ByteArray)(a b:Int):nmB s a t b=((Op.bytesLess s.toList t.toList||s.toList==t.toList)&&!(s.toList==t.toList&&decide (a≥b))):=by
 unfold nmB;rw[show decide (a<b)=!decide (a≥b) from dlt _ _];cases h:Op.bytesLess s.toList t.toList
 ·cases(s.toList==t.toList) <;> cases decide (a≥b) <;> rfl
 ·have:(s.toList==t.toList)=false:=by
   apply AI.2;intro q;rw[eq_of_beq q,qln]at h;cases h
  rw[this];rfl
def riS(ss:List StpV)(i:Nat):Bool:=match ss[i-1]?,ss[i]? with | some a,some b=>nmB a.who a.seq b.who b.seq | _,_=>true
def riK(bs:List BlkV)(i:Nat):Bool:=match bs[i-1]?,bs[i]? with | some a,some b=>nmB a.who a.seq b.who b.seq | _,_=>true
section
variable {g:q10} {ss:List StpV} {bs:List BlkV}
theorem rises_run{n:Nat}(hl:ss.length<=1000000)(hn:ss.length+8<=n):evF EnA n 68 [.list 7 (ss.map StpV.fv),.raw (Go.Value.func (Go.Fn.func 69) #[] #[])]=some [.bool (q74 ss)]:=by
 obtain⟨n,rfl⟩:∃k,n=k+5:=⟨n-5,by omega⟩;rw[qtd];have h:=q21 (F:=λm i=>q82.l2 (n+4) [] m [.list 7 (ss.map StpV.fv),.raw (Go.Value.func (Go.Fn.func 69) #[] #[]),iF (i:Int)]) (len:=max 1 ss.length) (P:=riS ss) (fin:=some [.bool true]) (stop:=some [.bool false]);by_cases h0:ss.length=0
 ·rw[q82.qt,Aa,Ad,Ab];unfold q74;rw[h0];rfl
 have key:∀(d i m:Nat),i+1+d=ss.length->d<m->q82.l2 (n+4) [] m [.list 7 (ss.map StpV.fv),.raw (Go.Value.func (Go.Fn.func 69) #[] #[]),iF ((i+1:Nat):Int)]=some [.bool ((List.range' (i+1) d).all (riS ss))]:=by
  intro d
  induction d with
  |zero =>
   intro i m hi hm;obtain⟨m,rfl⟩:=qSx m;rw[q82.qt,Aa,Ad,Ab];rfl
  |succ d ih =>
   intro i m hi hm;obtain⟨m,rfl⟩:=qSx m;have h1:i<ss.length:=by omega
   have h2:i+1<ss.length:=by omega
   rw[q82.qt,Aa,Af,Ac,qed i,q9 h1,q9 h2,qc]
   try simp only[q2z h1,rr]
   try simp (disch:=omega) only[qlq,rr]
   try simp only[q2z h2,rr]
   try simp (disch:=omega) only[qlq,rr]
   try simp (disch:=omega) only[qlo,rr]
   try simp (disch:=omega) only[qlp,rr]
   rw[show qd 2 (.int .i64 0) [(0,iF (cmpB (Op.bytesLess ss[i].who.toList ss[i+1].who.toList) (ss[i].who.toList==ss[i+1].who.toList))),(1,iF (cmpM ss[i].seq ss[i+1].seq))]=[iF (cmpB (Op.bytesLess ss[i].who.toList ss[i+1].who.toList) (ss[i].who.toList==ss[i+1].who.toList)),iF (cmpM ss[i].seq ss[i+1].seq)] from rfl,or_run];simp only[rr];rw[lt_or,ih (i+1) m (by omega) (by omega),BK,Bk];unfold riS;rw[show i+1-1=i from rfl,Ag h1,Ag h2];simp only;cases nmB ss[i].who ss[i].seq ss[i+1].who ss[i+1].seq <;> rfl
 have:=key (ss.length-1) 0 (n+4) (by omega) (by omega);exact this
theorem risek_run{n:Nat}(hl:bs.length<=1000000)(hn:bs.length+8<=n):evF EnA n 70 [.list 8 (bs.map BlkV.fv),.raw (Go.Value.func (Go.Fn.func 71) #[] #[])]=some [.bool (q60 bs)]:=by
 obtain⟨n,rfl⟩:∃k,n=k+5:=⟨n-5,by omega⟩;rw[qte];by_cases h0:bs.length=0
 ·rw[q8u.qt,Aa,Ad,Ab];unfold q60;rw[h0];rfl
 have key:∀(d i m:Nat),i+1+d=bs.length->d<m->q8u.l2 (n+4) [] m [.list 8 (bs.map BlkV.fv),.raw (Go.Value.func (Go.Fn.func 71) #[] #[]),iF ((i+1:Nat):Int)]=some [.bool ((List.range' (i+1) d).all (riK bs))]:=by
  intro d
  induction d with
  |zero =>
   intro i m hi hm;obtain⟨m,rfl⟩:=qSx m;rw[q8u.qt,Aa,Ad,Ab];rfl
  |succ d ih =>
   intro i m hi hm;obtain⟨m,rfl⟩:=qSx m;have h1:i<bs.length:=by omega
   have h2:i+1<bs.length:=by omega
   rw[q8u.qt,Aa,Af,Ac,qed i,q9 h1,q9 h2,qc]
   try simp only[q2g h1,rr]
   try simp (disch:=omega) only[qlr,rr]
   try simp only[q2g h2,rr]
   try simp (disch:=omega) only[qlr,rr]
   try simp (disch:=omega) only[qlo,rr]
   try simp (disch:=omega) only[qlp,rr]
   rw[show qd 2 (.int .i64 0) [(0,iF (cmpB (Op.bytesLess bs[i].who.toList bs[i+1].who.toList) (bs[i].who.toList==bs[i+1].who.toList))),(1,iF (cmpM bs[i].seq bs[i+1].seq))]=[iF (cmpB (Op.bytesLess bs[i].who.toList bs[i+1].who.toList) (bs[i].who.toList==bs[i+1].who.toList)),iF (cmpM bs[i].seq bs[i+1].seq)] from rfl,or_run];simp only[rr];rw[lt_or,ih (i+1) m (by omega) (by omega),BK,Bk];unfold riK;rw[show i+1-1=i from rfl,Ag h1,Ag h2];simp only;cases nmB bs[i].who bs[i].seq bs[i+1].who bs[i+1].seq <;> rfl
 have:=key (bs.length-1) 0 (n+4) (by omega) (by omega);exact this
theorem par_run{n:Nat}{b:BlkV}{i:Nat}(hi:i<bs.length):evF EnA (n+1) 183 (blkL b++[.list 8 (bs.map BlkV.fv),iF (i:Int)])=some [.list 8 (bs.map BlkV.fv),iF (i:Int),.bool (q47 bs[i] b)]:=by
 unfold blkL;simp only[Al,At];rw[qtf,Aa,q9 hi];simp only[q2g hi,rr];unfold q47;rw[toList_eq];cases decide (b.who=bs[i].who) <;> rfl
theorem qtg{n:Nat}{i:Nat}(hi:i<bs.length)(hl:bs.length<=1000000)(hn:bs.length+6<=n):evF EnA n 132 [.list 8 (bs.map BlkV.fv),iF (i:Int)]=some [iF (fIdx (q47 bs[i]) bs)]:=by
 obtain⟨n,rfl⟩:∃k,n=k+3:=⟨n-3,by omega⟩
 have h:=qc7 bs (q47 bs[i]) (pre:=[.list 8 (bs.map BlkV.fv),iF (i:Int)]) (F:=λm j=>q77.l2 (n+1) [] m [.list 8 (bs.map BlkV.fv),iF (i:Int),.list 8 (bs.map BlkV.fv),iF (bs.length:Int),iF (j:Int)]) (λm j hj=>by
  show q77.l2 (n+1) [] (m+1) _=_;rw[q77.qt,Af,Ac,Aa,q9 hj];simp only[q2g hj,rr];have:=par_run (n:=n) (b:=bs[j]) hi;unfold blkL at this;simp only[Al,At]at this;rw[this];simp only[rr];rw[qc];rfl) (λm=>by
  show q77.l2 (n+1) [] (m+1) _=_;rw[q77.qt,Ad,Ab]
  rfl) bs.length 0 (n+1) (by omega) (by omega) (λj _ hj=>by omega)
 rw[qth,qti,Aa];have h:q77.l2 (n+1) [] (n+1) [.list 8 (bs.map BlkV.fv),iF (i:Int),.list 8 (bs.map BlkV.fv),iF (bs.length:Int),iF 0]=_:=h;rw[h];rfl
theorem qtj{n:Nat}(hl:bs.length<=1000000)(hn:bs.length+6<=n):∀(d k i m:Nat),k+d=bs.length+1->d<m->i<bs.length ->
  q9z.l2 n [] m [.list 8 (bs.map BlkV.fv),iF (i:Int),iF ((bs.length+1:Nat):Int),iF (k:Int)]=some [.bool (pW bs d i)]:=by
 intro d
 induction d with
 |zero =>
  intro k i m hk hm hi;obtain⟨m,rfl⟩:=qSx m;rw[q9z.qt,Ad,Ab];rfl
 |succ d ih =>
  intro k i m hk hm hi;obtain⟨m,rfl⟩:=qSx m;rw[q9z.qt,Af,Ac,Aa,q9 hi,qc];simp only[q2g hi,rr];unfold pW;rw[Ag hi];simp only;by_cases hp:bs[i].parent<=0
  ·rw[Af hp,Ac,if_pos hp]
  ·rw[Ad hp,Ab,if_neg hp,qtg hi hl hn];simp only[rr];unfold fIdx;cases hf:bs.findIdx? (q47 bs[i])with
   |none=>rfl
   |some j =>
    have hj:j<bs.length:=(Ew.1 hf).1;simp only;rw[Ad,Ab];by_cases hji:j=i
    ·subst hji;rw[if_pos rfl,Bi,Ac]
    ·rw[if_neg hji,show(((j:Nat):Int)==((i:Nat):Int))=false by simp;omega,Ab];exact ih (k+1) j m (by omega) (by omega) hj
theorem qtk{n:Nat}{i:Nat}(hi:i<bs.length)(hl:bs.length<=1000000)(hn:bs.length+8<=n):evF EnA n 72 [.list 8 (bs.map BlkV.fv),iF (i:Int)]=some [.bool (pW bs (bs.length+1) i)]:=by
 obtain⟨n,rfl⟩:=qSx n;rw[qtl,Aa,qc];exact qtj hl (by omega) (bs.length+1) 0 i n (by omega) (by omega) hi
theorem qns{n:Nat}(hg:g.lines.length<=1000000)(hs:ss.length<=1000000)(hb:bs.length<=1000000)(hq:∀b,b∈bs->b.qty.length<=1000000)(hn:ss.length+bs.length+(bs.map λb=>b.qty.length).sum+40<=n) :
  evF EnA n 18 (gL g++[.list 7 (ss.map StpV.fv),.list 8 (bs.map BlkV.fv)])=some [.bool (q28 g ss bs)]:=by
 obtain⟨n,rfl⟩:∃k,n=k+3:=⟨n-3,by omega⟩;have hgc:=qt0 (g:=g) (n:=n+2) hg (by omega);unfold gL at hgc ⊢;simp only[Al,At];rw[qtm,hgc,Aa,Aa];simp only[rr];unfold q28;by_cases hgv:q36 g=true
 ·obtain⟨hz,hh⟩:qp g.qa 1 3=true/\qp g.qg 1 3=true:=by
   unfold q36 at hgv;simp only[Ai]at hgv;exact⟨hgv.1.1.1.1.1,hgv.1.1.1.1.2⟩
  have hz:=q4x.1 hz;have hh:=q4x.1 hh;rw[hgv,if_pos rfl];by_cases h32:ss.length<=32
  ·rw[Af h32,Ad (show ¬ ((ss.length:Int)>32) by omega)];by_cases h12:bs.length<=12
   ·rw[Af h12,Ad (show ¬ ((bs.length:Int)>12) by omega)];simp only[Dq,Ab,AB]
    have e19:=q21 (F:=λm i=>q23.l19 (n+2) [] m [.list 8 (bs.map BlkV.fv),iF (bs.length:Int),iF (i:Int)]) (len:=bs.length) (P:=pW bs (bs.length+1)) (fin:=some [.bool true]) (stop:=some [.bool false]) (λm i hi=>by
     show q23.l19 (n+2) [] (m+1) _=_;rw[q23.q4r,Af,Ac,qtk hi hb (by omega),qc];simp only[rr];cases pW bs (bs.length+1) i <;> rfl) (λm=>by
     show q23.l19 (n+2) [] (m+1) _=_
     rw[q23.q4r,Ad,Ab]) bs.length 0 (n+2) (by omega) (by omega)
    have e19:q23.l19 (n+2) [] (n+2) [.list 8 (bs.map BlkV.fv),iF (bs.length:Int),iF 0]=_:=e19
    have e11:=q21 (F:=λm i=>q23.l11 (n+2) [] m [iF g.qa,iF g.qg,.list 3 (g.lines.map qz.fv),iF g.low,iF g.high,.list 7 (ss.map StpV.fv),.list 8 (bs.map BlkV.fv),.raw (Go.Value.func (Go.Fn.func 65) #[] #[]),.list 8 (bs.map BlkV.fv),iF (bs.length:Int),iF (i:Int)]) (len:=bs.length) (P:=λi=>match bs[i]? with | some b=>q33 g b | none=>true) (fin:=some [.bool (q74 ss&&q60 bs&&(List.range' 0 bs.length).all (pW bs (bs.length+1)))]) (stop:=some [.bool false]) (λm i hi=>by
     show q23.l11 (n+2) [] (m+1) _=_;have hqi:=hq bs[i] (Ah hi);have hsum:bs[i].qty.length<=(bs.map λb=>b.qty.length).sum:=le_sum (BD.2 ⟨bs[i],Ah hi,rfl⟩);rw[q23.q8b,Af,Ac,Aa,q9 hi,qk (x:=g.qa-1),qc,Ag hi];simp (disch:=omega) only[q2g hi,qhf,rr];rw[Aa,icon_run hqi (by omega)];simp only[rr];unfold q33;rw[show(((bs[i].qty.length:Int)) !=g.qg)=!decide ((bs[i].qty.length:Int)=g.qg) by simp[bne,BEq.beq]];by_cases hlen:(bs[i].qty.length:Int)=g.qg
     ·by_cases hall:bs[i].qty.all (λq=>qp q 0 1000)=true
      ·obtain⟨w,hw1,hw2⟩:=max_run (n:=n+2) hqi (λe=>by rw[e]at hlen;simp at hlen;omega) hall (by omega);rw[hw1];simp only[rr];rw[hall,Af hlen,<- hw2];cases qp bs[i].zone 0 (g.qa-1) <;> cases qp bs[i].qe g.low g.high <;> cases(w==0) <;> rfl
      ·rw[AI.2 hall,Af hlen];cases qp bs[i].zone 0 (g.qa-1) <;> cases qp bs[i].qe g.low g.high <;> rfl
     ·rw[Ad hlen];cases qp bs[i].zone 0 (g.qa-1) <;> cases qp bs[i].qe g.low g.high <;> rfl) (λm=>by
     show q23.l11 (n+2) [] (m+1) _=_;rw[q23.q8b,Ad,Ab,rises_run hs (by omega),risek_run hb (by omega),Aa];simp only[rr];rw[e19]
     cases q74 ss <;> cases q60 bs <;> cases(List.range' 0 bs.length).all (pW bs (bs.length+1)) <;> rfl) bs.length 0 (n+2) (by omega) (by omega)
    rw[q4y bs (q33 g) (λi hi=>by rw[Ag hi])]at e11;have e11:q23.l11 (n+2) [] (n+2) [iF g.qa,iF g.qg,.list 3 (g.lines.map qz.fv),iF g.low,iF g.high,.list 7 (ss.map StpV.fv),.list 8 (bs.map BlkV.fv),.raw (Go.Value.func (Go.Fn.func 65) #[] #[]),.list 8 (bs.map BlkV.fv),iF (bs.length:Int),iF 0]=_:=e11;have e4:=q21 (F:=λm i=>q23.l4 (n+2) [] m [iF g.qa,iF g.qg,.list 3 (g.lines.map qz.fv),iF g.low,iF g.high,.list 7 (ss.map StpV.fv),.list 8 (bs.map BlkV.fv),.list 7 (ss.map StpV.fv),iF (ss.length:Int),iF (i:Int)]) (len:=ss.length) (P:=λi=>match ss[i]? with | some s=>q3e g s | none=>true)
     (fin:=bif bs.all (q33 g)then some [.bool (q74 ss&&q60 bs&&(List.range' 0 bs.length).all (pW bs (bs.length+1)))]else some [.bool false]) (stop:=some [.bool false]) (λm i hi=>by
     show q23.l4 (n+2) [] (m+1) _=_;rw[q23.q14,Af,Ac,Aa,q9 hi,qk (x:=g.qa-1),qk (x:=g.qg-1),qc,Ag hi];simp (disch:=omega) only[q2z hi,qhf,rr];unfold q3e;cases qp ss[i].zone 0 (g.qa-1) <;> cases qp ss[i].hour 0 (g.qg-1) <;> cases qp ss[i].qty 1 1000 <;> cases qp ss[i].qe g.low g.high <;> rfl) (λm=>by
     show q23.l4 (n+2) [] (m+1) _=_
     rw[q23.q14,Ad,Ab,Aa,e11]) ss.length 0 (n+2) (by omega) (by omega)
    rw[q4y ss (q3e g) (λi hi=>by rw[Ag hi])]at e4;have e4:q23.l4 (n+2) [] (n+2) [iF g.qa,iF g.qg,.list 3 (g.lines.map qz.fv),iF g.low,iF g.high,.list 7 (ss.map StpV.fv),.list 8 (bs.map BlkV.fv),.list 7 (ss.map StpV.fv),iF (ss.length:Int),iF 0]=_:=e4;rw[e4];cases ss.all (q3e g) <;> cases bs.all (q33 g) <;> cases q74 ss <;> cases q60 bs <;> rfl
   ·rw[Ad h12,Af (show((bs.length:Int)>12) by omega)];simp
  ·rw[Ad h32,Af (show((ss.length:Int)>32) by omega)];simp
 ·rw[AI.2 hgv];simp
end
end
section
section
variable {g:q10} {ss:List StpV} {bs:List BlkV}
def rIdx(bs:List BlkV)(i:Nat)(b:BlkV):Int:=match rN bs i b with | some j=>(j:Int) | none=>-2
theorem rpar_run{n:Nat}{i:Nat}(hi:i<bs.length)(hl:bs.length<=1000000)(hn:bs.length+3<=n):evF EnA n 76 [.list 8 (bs.map BlkV.fv),iF (i:Int)]=some [iF (if bs[i].parent<=0 then -1 else rIdx bs i bs[i])]:=by
 obtain⟨n,rfl⟩:=qSx n;rw[qsn,Aa,q9 hi];simp only[q2g hi,rr];by_cases hp:bs[i].parent<=0
 ·rw[Af hp,Ac,if_pos hp]
 rw[Ad hp,Ab,if_neg hp];have key:∀(d k m:Nat),k+d=bs.length->d<m->(∀j,j<k->(j !=i&&((bs[j]?).map (q47 bs[i])).getD false)=false) ->
   q73.l4 n [] m [.list 8 (bs.map BlkV.fv),iF (i:Int),iF (k:Int)]=some [iF (rIdx bs i bs[i])]:=by
  intro d
  induction d with
  |zero =>
   intro k m hk hm hno;obtain⟨m,rfl⟩:=qSx m;have:rN bs i bs[i]=none:=by
    unfold rN;exact List.find?_eq_none.2 λj hj=>by
     have:=hno j (by have:=Ct.1 hj;omega);simpa using this
   rw[q73.q14,Aa,Ad,Ab];unfold rIdx;rw[this]
  |succ d ih =>
   intro k m hk hm hno;obtain⟨m,rfl⟩:=qSx m;have hkl:k<bs.length:=by omega
   have next:(k !=i&&q47 bs[i] bs[k])=false->q73.l4 n [] m [.list 8 (bs.map BlkV.fv),iF (i:Int),iF ((k+1:Nat):Int)]=some [iF (rIdx bs i bs[i])]:=λhf =>
    ih (k+1) m (by omega) (by omega) λj hj=>by
     by_cases hjk:j=k
     ·subst hjk;rw[Ag hkl];exact hf
     ·exact hno j (by omega)
   rw[q73.q14,Aa,Af,Ac,q9 hkl,q9 hi,qc];simp only[q2g hkl,q2g hi,rr];rw[show(((k:Nat):Int) !=((i:Nat):Int))=(k !=i) by simp[bne,BEq.beq];omega,toList_eq];cases hki:(k !=i)with
   |false =>
    rw[Ab];exact next (by rw[hki];rfl)
   |true =>
    rw[Ac];by_cases hw:bs[k].who=bs[i].who
    ·rw[Af hw,Ac];by_cases hs:bs[k].seq=bs[i].parent
     ·rw[show(bs[k].seq==bs[i].parent)=true by simpa using hs,Ac];have hp2:q47 bs[i] bs[k]=true:=qay.2 ⟨hw,hs⟩;have:rN bs i bs[i]=some k:=by
       unfold rN;rw[List.find?_range_eq_some];refine⟨by rw[Ag hkl,hki];exact hp2,Ct.2 hkl,λj hj=>?_⟩;have h5:=hno j hj;by_cases hji:j=i
       ·simp[hji]
       ·simpa[hji]using h5
      unfold rIdx;rw[this]
     ·rw[show(bs[k].seq==bs[i].parent)=false by simpa using hs,Ab];exact next (by rw[hki,AB];exact AI.2 λq=>hs (qay.1 q).2)
    ·rw[Ad hw,Ab];exact next (by rw[hki,AB];exact AI.2 λq=>hw (qay.1 q).1)
 exact key bs.length 0 n (by omega) (by omega) (λj hj=>by omega)
theorem qso(bs:List BlkV)(i:Nat)(b:BlkV):(rN bs i b=none/\rIdx bs i b=-2)\/∃j,rN bs i b=some j/\rIdx bs i b=(j:Int)/\j<bs.length:=by
 unfold rIdx;cases h:rN bs i b with
 |none=>exact .inl ⟨rfl,rfl⟩
 |some j =>
  obtain⟨_,c,hc,_⟩:=qec h;exact .inr ⟨j,rfl,rfl,(Ao.1 hc).1⟩
theorem walk_loop{n:Nat}(hl:bs.length<=1000000)(hn:bs.length+5<=n){x6:Int}{m0:Nat}:∀(d k j m:Nat),k+d=bs.length+1->d+1<m->j<bs.length ->
  q1h.l19 n [m0] m [iF g.qa,iF g.qg,.list 3 (g.lines.map qz.fv),iF g.low,iF g.high,.list 8 (bs.map BlkV.fv),iF x6,iF (j:Int),iF (k:Int)] =
   bif rW bs d j then q1h.l12 n [] m0 [iF g.qa,iF g.qg,.list 3 (g.lines.map qz.fv),iF g.low,iF g.high,.list 8 (bs.map BlkV.fv),iF (w6 (x6+1))]else some [.bool false]:=by
 intro d
 induction d with
 |zero =>
  intro k j m hk hm hj;obtain⟨m,rfl⟩:=qSx m;rw[q1h.q4r,Af,Ac,Aa,Af,Ac];rfl
 |succ d ih =>
  intro k j m hk hm hj;obtain⟨m,rfl⟩:=qSx m;rw[q1h.q4r,Af,Ac,Aa,Ad,Ab,rpar_run hj hl (by omega),qc (i:=k) (by omega)];simp only[rr];unfold rW;rw[Ag hj];simp only;by_cases hp:bs[j].parent<=0
  ·rw[if_pos hp,if_pos hp,Ac];obtain⟨m,rfl⟩:=qSx m;rw[q1h.q4r,Ad,Ab];rfl
  ·rw[if_neg hp,if_neg hp];rcases qso bs j bs[j]with⟨h1,h2⟩ | ⟨j',h1,h2,h3⟩
   ·rw[h1,h2];obtain⟨m,rfl⟩:=qSx m;rw[q1h.q4r,Ad,Ab];rfl
   ·rw[h1,h2];exact ih (k+1) j' m (by omega) (by omega) h3
def wblk(g:q10)(bs:List BlkV)(i:Nat):Bool:=match bs[i]? with | some b=>q33 g b | none=>true
def wri(P:Nat->Bool)(i:Nat):Bool:=i==0||P i
theorem qli(i:Nat):decide (((i+1:Nat):Int)>0)=true:=Af
theorem qsp{n m i:Nat}(hz:1<=g.qa/\g.qa<=3)(hl:bs.length<=1000000)(hq:∀b,b∈bs->b.qty.length<=1000000)(hn:bs.length+(bs.map λb=>b.qty.length).sum+10<=n)(hi:i<bs.length) :
  q1h.l12 n [] (m+1) [iF g.qa,iF g.qg,.list 3 (g.lines.map qz.fv),iF g.low,iF g.high,.list 8 (bs.map BlkV.fv),iF (i:Int)] =
   bif(q33 g bs[i]&&wri (riK bs) i&&rW bs (bs.length+1) i)then q1h.l12 n [] m [iF g.qa,iF g.qg,.list 3 (g.lines.map qz.fv),iF g.low,iF g.high,.list 8 (bs.map BlkV.fv),iF ((i+1:Nat):Int)]else some [.bool false]:=by
 have hqi:=hq bs[i] (Ah hi);have hsum:bs[i].qty.length<=(bs.map λb=>b.qty.length).sum:=le_sum (BD.2 ⟨bs[i],Ah hi,rfl⟩);have hblk:=block_run (g:=g) hz (n:=n) (b:=bs[i]) hqi (by omega);unfold gL blkL at hblk;simp only[Al,At]at hblk;have hwalk:=walk_loop (g:=g) (n:=n) (x6:=(i:Int)) (m0:=m) hl (by omega) (bs.length+1) 0 i n (by omega) (by omega) hi;rw[qc]at hwalk;have hwalk:q1h.l19 n [m] n [iF g.qa,iF g.qg,.list 3 (g.lines.map qz.fv),iF g.low,iF g.high,.list 8 (bs.map BlkV.fv),iF (i:Int),iF (i:Int),iF 0]=_:=hwalk;rw[q1h.q3z,Aa,Af,Ac,q9 hi];simp only[q2g hi,rr];rw[hblk];simp only[rr];cases hb:q33 g bs[i]with
 |false=>rfl
 |true =>
  simp only[Am,Ab,AB];cases i with
  |zero =>
   rw[Ad,Ab,hwalk];rfl
  |succ j =>
   have hj:j<bs.length:=by omega
   rw[qli,Ac,qed j,q9 hj];simp only[q2g hj,rr];rw[hwalk];have e:wri (riK bs) (j+1)=nmB bs[j].who bs[j].seq bs[j+1].who bs[j+1].seq:=by
    unfold wri riK;rw[show j+1-1=j from rfl,Ag hj,Ag hi];rfl
   rw[e,qlj];cases Op.bytesLess bs[j].who.toList bs[j+1].who.toList <;> cases(bs[j].who.toList==bs[j+1].who.toList) <;> cases decide (bs[j].seq≥bs[j+1].seq) <;> cases rW bs (bs.length+1) (j+1) <;> rfl
theorem qsq{n m i:Nat}(hz:1<=g.qa/\g.qa<=3)(hh:1<=g.qg/\g.qg<=3)(hl:ss.length<=1000000)(hn:1<=n)(hi:i<ss.length) :
  q1h.l4 n [] (m+1) [iF g.qa,iF g.qg,.list 3 (g.lines.map qz.fv),iF g.low,iF g.high,.list 7 (ss.map StpV.fv),.list 8 (bs.map BlkV.fv),iF (i:Int)] =
   bif(q3e g ss[i]&&wri (riS ss) i)then q1h.l4 n [] m [iF g.qa,iF g.qg,.list 3 (g.lines.map qz.fv),iF g.low,iF g.high,.list 7 (ss.map StpV.fv),.list 8 (bs.map BlkV.fv),iF ((i+1:Nat):Int)]else some [.bool false]:=by
 obtain⟨n,rfl⟩:=qSx n;rw[q1h.q14,Aa,Af,Ac,q9 hi,qk (x:=g.qa-1),qk (x:=g.qg-1),qc];simp (disch:=omega) only[q2z hi,qhe,rr];unfold q3e;cases i with
 |zero =>
  rw[Ad (show ¬ (((0:Nat):Int)>0) by omega)];cases qp ss[0].zone 0 (g.qa-1) <;> cases qp ss[0].hour 0 (g.qg-1) <;> cases qp ss[0].qty 1 1000 <;> cases qp ss[0].qe g.low g.high <;> rfl
 |succ j =>
  have hj:j<ss.length:=by omega
  rw[qli,Ac,qed j,q9 hj];simp only[q2z hj,rr];have e:wri (riS ss) (j+1)=nmB ss[j].who ss[j].seq ss[j+1].who ss[j+1].seq:=by
   unfold wri riS;rw[show j+1-1=j from rfl,Ag hj,Ag hi];rfl
  rw[e,qlj];cases qp ss[j+1].zone 0 (g.qa-1)
  ·rfl
  cases qp ss[j+1].hour 0 (g.qg-1)
  ·rfl
  cases qp ss[j+1].qty 1 1000
  ·rfl
  cases qp ss[j+1].qe g.low g.high
  ·rfl
  cases Op.bytesLess ss[j].who.toList ss[j+1].who.toList <;> cases(ss[j].who.toList==ss[j+1].who.toList) <;> cases decide (ss[j].seq≥ss[j+1].seq) <;> rfl
theorem qcn{P Q:Nat->Bool}(l:List Nat):l.all (λi=>P i&&Q i)=(l.all P&&l.all Q):=by
 induction l with
 |nil=>rfl
 |cons x l ih =>
  rw[Bk,Bk,Bk,ih];cases P x <;> cases Q x <;> cases l.all P <;> cases l.all Q <;> rfl
theorem all_wri{P:Nat->Bool}(n:Nat):(List.range' 0 n).all (wri P)=(List.range' 1 (n-1)).all P:=by
 cases n with
 |zero=>rfl
 |succ n =>
  rw[BK,Bk,show wri P 0=true from rfl,AB,show n+1-1=n from rfl];rw[Bm,Au,Au];constructor
  ·intro h i hi;have:=h i hi;have h0:i≠0:=by rw[BT]at hi;omega
   unfold wri at this;simpa[h0]using this
  ·intro h i hi;unfold wri;rw[h i hi];simp
theorem bl_iff(a b:ByteArray):Op.bytesLess a.toList b.toList=true↔a.toList<b.toList:=by
 rw[Go.Proofs.bytesLess_eq];simp
theorem nmB_iff{a b:ByteArray}{m n:Int}:nmB a m b n=true↔nmLt a m b n:=by
 unfold nmB nmLt;rw[DX,bl_iff,Ai,toList_eq,As,As]
theorem qsr(h:q60 bs=true):Uniq bs:=by
 refine Rise.uniq λi a b ha hb=>?_;unfold q60 at h;have hlt:=(Ao.1 hb).1;have:=Au.1 h (i+1) (by rw[BT];omega);rw[show i+1-1=i from rfl,ha,hb]at this;exact nmB_iff.1 this
theorem qnu{n:Nat}(hg:g.lines.length<=1000000)(hs:ss.length<=1000000)(hb:bs.length<=1000000)(hq:∀b,b∈bs->b.qty.length<=1000000)(hn:ss.length+bs.length+(bs.map λb=>b.qty.length).sum+40<=n) :
  evF EnA n 19 (gL g++[.list 7 (ss.map StpV.fv),.list 8 (bs.map BlkV.fv)])=some [.bool (q28 g ss bs)]:=by
 obtain⟨n,rfl⟩:∃k,n=k+3:=⟨n-3,by omega⟩;have hgc:=qss (g:=g) (n:=n+2) hg (by omega);unfold gL at hgc ⊢;simp only[Al,At];rw[qst,hgc,Aa,Aa];simp only[rr];unfold q28;by_cases hgv:q36 g=true
 ·obtain⟨hz,hh⟩:qp g.qa 1 3=true/\qp g.qg 1 3=true:=by
   unfold q36 at hgv;simp only[Ai]at hgv;exact⟨hgv.1.1.1.1.1,hgv.1.1.1.1.2⟩
  have hz:=q4x.1 hz;have hh:=q4x.1 hh;rw[hgv,if_pos rfl];by_cases h32:ss.length<=32
  ·rw[Af h32,Ad (show ¬ ((ss.length:Int)>32) by omega)];by_cases h12:bs.length<=12
   ·rw[Af h12,Ad (show ¬ ((bs.length:Int)>12) by omega)];simp only[Dq,Ab,AB]
    have e12:=q21 (F:=λm i=>q1h.l12 (n+2) [] m [iF g.qa,iF g.qg,.list 3 (g.lines.map qz.fv),iF g.low,iF g.high,.list 8 (bs.map BlkV.fv),iF (i:Int)]) (len:=bs.length) (P:=λi=>(wblk g bs i&&wri (riK bs) i)&&rW bs (bs.length+1) i) (fin:=some [.bool true]) (stop:=some [.bool false]) (λm i hi=>by
     have:=qsp (g:=g) (m:=m) (n:=n+2) hz hb hq (by omega) hi;unfold wblk;rw[Ag hi];exact this) (λm=>by
     show q1h.l12 (n+2) [] (m+1) _=_
     rw[q1h.q3z,Aa,Ad,Ab]) bs.length 0 (n+2) (by omega) (by omega)
    have e12:q1h.l12 (n+2) [] (n+2) [iF g.qa,iF g.qg,.list 3 (g.lines.map qz.fv),iF g.low,iF g.high,.list 8 (bs.map BlkV.fv),iF 0]=_:=e12;have e4:=q21 (F:=λm i=>q1h.l4 (n+2) [] m [iF g.qa,iF g.qg,.list 3 (g.lines.map qz.fv),iF g.low,iF g.high,.list 7 (ss.map StpV.fv),.list 8 (bs.map BlkV.fv),iF (i:Int)]) (len:=ss.length) (P:=λi=>(match ss[i]? with | some s=>q3e g s | none=>true)&&wri (riS ss) i)
     (fin:=q1h.l12 (n+2) [] (n+2) [iF g.qa,iF g.qg,.list 3 (g.lines.map qz.fv),iF g.low,iF g.high,.list 8 (bs.map BlkV.fv),iF 0]) (stop:=some [.bool false]) (λm i hi=>by
     have:=qsq (g:=g) (bs:=bs) (m:=m) (n:=n+2) hz hh hs (by omega) hi;rw[Ag hi];exact this) (λm=>by
     show q1h.l4 (n+2) [] (m+1) _=_
     rw[q1h.q14,Aa,Ad,Ab]) ss.length 0 (n+2) (by omega) (by omega)
    have e4:q1h.l4 (n+2) [] (n+2) [iF g.qa,iF g.qg,.list 3 (g.lines.map qz.fv),iF g.low,iF g.high,.list 7 (ss.map StpV.fv),.list 8 (bs.map BlkV.fv),iF 0]=_:=e4
    rw[e4,e12,qcn,qcn,qcn,all_wri,all_wri,q4y ss (q3e g) (λi hi=>by rw[Ag hi]),q4y bs (q33 g) (λi hi=>by unfold wblk;rw[Ag hi]),
     show(List.range' 1 (ss.length-1)).all (riS ss)=q74 ss from rfl,show(List.range' 1 (bs.length-1)).all (riK bs)=q60 bs from rfl]
    by_cases hr:q60 bs=true
    ·rw[show(List.range' 0 bs.length).all (rW bs (bs.length+1))=(List.range' 0 bs.length).all (pW bs (bs.length+1)) from qcq λi _=>(qlk (qsr hr) _ _).symm,hr];cases ss.all (q3e g) <;> cases bs.all (q33 g) <;> cases q74 ss <;> cases(List.range' 0 bs.length).all (pW bs (bs.length+1)) <;> rfl
    ·rw[AI.2 hr];cases ss.all (q3e g) <;> cases bs.all (q33 g) <;> cases q74 ss <;> rfl
   ·rw[Ad h12,Af (show((bs.length:Int)>12) by omega)];simp
  ·rw[Ad h32,Af (show((ss.length:Int)>32) by omega)];simp
 ·rw[AI.2 hgv];simp
end
end
section
def Sz(q:Rat):Prop:=Bd 1000000000 q
theorem Sz.of{q:Rat}{k:Nat}(h:Bd k q)(hk:k<=1000000000):Sz q:=h.mono hk
def ratF(q:Rat):FV:=.agg [zl (q).num,zb (q).num,nL (q).den,.bool false]
def qo(q:Rat):FV:=.agg [zb (q).num,wl (q).num,.bool false,wL (q).den]
theorem rat_at{L:List Rat}{i:Nat}(h:i<L.length)(c:Nat):at' (L.map ratF) i c=[zl (L[i]).num,zb (L[i]).num,nL (L[i]).den,.bool false][c]?:=by rw[q2a,Ag h];rfl
theorem q50{X:List Txt}{i:Nat}(h:i<X.length):at' (X.map sF) i 0=some (sF X[i]):=by rw[q2a,Ag h];rfl
theorem q4z{X:List Bool}{i:Nat}(h:i<X.length):at' (X.map FV.bool) i 0=some (.bool X[i]):=by rw[q2a,Ag h];rfl
section
variable {n:Nat} {q r:Rat} {d e:Nat}
theorem a_of{z:Int}(h1:-9223372036854775808<=z:=by omega)(h2:z<=9223372036854775807:=by omega):evF EnA (n+1) 111 [iF z]=some [zl ((z:Rat)).num,zb ((z:Rat)).num,nL ((z:Rat)).den,.bool false]:=by
 have:evF EnA (n+1) 111 [iF z]=limO En 111 [iF z]:=by kernel_rfl
 rw[this];exact q1j (of_ev h1 h2)
theorem a_add(hq:Sz q)(hr:Sz r)(hd:dn d=q.den)(he:dn e=r.den):evF EnA (n+1) 113 [zl (q).num,zb (q).num,nL (d),.bool false,zl (r).num,zb (r).num,nL (e),.bool false]=some [zl (q+r).num,zb (q+r).num,nL (q+r).den,.bool false]:=by
 have:evF EnA (n+1) 113 [zl (q).num,zb (q).num,nL (d),.bool false,zl (r).num,zb (r).num,nL (e),.bool false]=limO En 113 [zl (q).num,zb (q).num,nL (d),.bool false,zl (r).num,zb (r).num,nL (e),.bool false]:=by kernel_rfl
 rw[this];exact q1j (radd_ev (by omega) (by omega) hq hr hd he)
theorem a_sub(hq:Sz q)(hr:Sz r)(hd:dn d=q.den)(he:dn e=r.den):evF EnA (n+1) 112 [zl (q).num,zb (q).num,nL (d),.bool false,zl (r).num,zb (r).num,nL (e),.bool false]=some [zl (q-r).num,zb (q-r).num,nL (q-r).den,.bool false]:=by
 have:evF EnA (n+1) 112 [zl (q).num,zb (q).num,nL (d),.bool false,zl (r).num,zb (r).num,nL (e),.bool false]=limO En 112 [zl (q).num,zb (q).num,nL (d),.bool false,zl (r).num,zb (r).num,nL (e),.bool false]:=by kernel_rfl
 rw[this];exact q1j (rsub_ev (by omega) (by omega) hq hr hd he)
theorem a_mul(hq:Sz q)(hr:Sz r)(hd:dn d=q.den)(he:dn e=r.den):evF EnA (n+1) 154 [zl (q).num,zb (q).num,nL (d),.bool false,zl (r).num,zb (r).num,nL (e),.bool false]=some [zl (q*r).num,zb (q*r).num,nL (q*r).den,.bool false]:=by
 have:evF EnA (n+1) 154 [zl (q).num,zb (q).num,nL (d),.bool false,zl (r).num,zb (r).num,nL (e),.bool false]=limO En 154 [zl (q).num,zb (q).num,nL (d),.bool false,zl (r).num,zb (r).num,nL (e),.bool false]:=by kernel_rfl
 rw[this];exact q1j (rmul_ev (by omega) (by omega) hq hr hd he)
theorem a_neg(hq:Sz q)(hd:dn d=q.den):evF EnA (n+1) 169 [zl (q).num,zb (q).num,nL (d),.bool false]=some [zl (-q).num,zb (-q).num,nL (-q).den,.bool false]:=by
 have:evF EnA (n+1) 169 [zl (q).num,zb (q).num,nL (d),.bool false]=limO En 169 [zl (q).num,zb (q).num,nL (d),.bool false]:=by kernel_rfl
 rw[this];exact q1j (rneg_ev (by omega) hq hd)
theorem a_sign(hq:Sz q){l:List FV}{b:Bool}:evF EnA (n+1) 115 [zl q.num,zb q.num,.list 1 l,.bool b]=some [iF q.num.sign]:=by
 have:evF EnA (n+1) 115 [zl q.num,zb q.num,.list 1 l,.bool b]=limO En 115 [zl q.num,zb q.num,.list 1 l,.bool b]:=by kernel_rfl
 rw[this];exact q1j (rsign_ev (k:=1000000000) (by omega) hq)
def cmpQ(q r:Rat):Int:=q24 (q.num*(r.den:Int)) (r.num*(q.den:Int))
theorem q6h(hq:Sz q)(hr:Sz r)(hd:dn d=q.den)(he:dn e=r.den):evF EnA (n+1) 116 [zl (q).num,zb (q).num,nL (d),.bool false,zl (r).num,zb (r).num,nL (e),.bool false]=some [iF (cmpQ q r)]:=by
 have:evF EnA (n+1) 116 [zl (q).num,zb (q).num,nL (d),.bool false,zl (r).num,zb (r).num,nL (e),.bool false]=limO En 116 [zl (q).num,zb (q).num,nL (d),.bool false,zl (r).num,zb (r).num,nL (e),.bool false]:=by kernel_rfl
 rw[this];exact q1j (rcmp_ev (k:=1000000000) (by omega) hq hr hd he)
theorem a_text(hq:Sz q)(hd:dn d=q.den):evF EnA (n+1) 167 [zl (q).num,zb (q).num,nL (d),.bool false]=some [sF (qx q)]:=by
 have:evF EnA (n+1) 167 [zl (q).num,zb (q).num,nL (d),.bool false]=limO En 167 [zl (q).num,zb (q).num,nL (d),.bool false]:=by kernel_rfl
 rw[this];exact q1j (qbc (by omega) (by omega) hq hd)
theorem qbd{t:Txt}(h:pr t=some q)(hl:t.length<=100000000:=by omega):evF EnA (n+1) 118 [sF t]=some [zl (q).num,zb (q).num,nL (q).den,.bool false,iF 0]:=by
 have:evF EnA (n+1) 118 [sF t]=limO En 118 [sF t]:=by kernel_rfl
 rw[this];exact q1j (qj8 h hl)
theorem a_bad{t:Txt}(h:pr t=none)(hl:t.length<=100000000:=by omega):evF EnA (n+1) 118 [sF t]=some [.list 1 [],.bool false,.list 1 [],.bool false,iF 10]:=by
 have:evF EnA (n+1) 118 [sF t]=limO En 118 [sF t]:=by kernel_rfl
 rw[this];exact q1j (qj9 h hl)
theorem w_of{z:Int}(h1:-9223372036854775808<=z:=by omega)(h2:z<=9223372036854775807:=by omega):evF EnA (n+1) 12 [iF z]=some [zb ((z:Rat)).num,wl ((z:Rat)).num,.bool false,wL ((z:Rat)).den]:=by
 have:evF EnA (n+1) 12 [iF z]=limO En 12 [iF z]:=by kernel_rfl
 rw[this];exact q1j (qac h1 h2)
theorem w_add(hq:Sz q)(hr:Sz r)(hd:dn d=q.den)(he:dn e=r.den):evF EnA (n+1) 37 [zb (q).num,wl (q).num,.bool false,wL (d),zb (r).num,wl (r).num,.bool false,wL (e)]=some [zb (q+r).num,wl (q+r).num,.bool false,wL (q+r).den]:=by
 have:evF EnA (n+1) 37 [zb (q).num,wl (q).num,.bool false,wL (d),zb (r).num,wl (r).num,.bool false,wL (e)]=limO En 37 [zb (q).num,wl (q).num,.bool false,wL (d),zb (r).num,wl (r).num,.bool false,wL (e)]:=by kernel_rfl
 rw[this];exact q1j (qcw (by omega) hq hr hd he)
theorem w_sub(hq:Sz q)(hr:Sz r)(hd:dn d=q.den)(he:dn e=r.den):evF EnA (n+1) 92 [zb (q).num,wl (q).num,.bool false,wL (d),zb (r).num,wl (r).num,.bool false,wL (e)]=some [zb (q-r).num,wl (q-r).num,.bool false,wL (q-r).den]:=by
 have:evF EnA (n+1) 92 [zb (q).num,wl (q).num,.bool false,wL (d),zb (r).num,wl (r).num,.bool false,wL (e)]=limO En 92 [zb (q).num,wl (q).num,.bool false,wL (d),zb (r).num,wl (r).num,.bool false,wL (e)]:=by kernel_rfl
 rw[this];exact q1j (qfi (by omega) hq hr hd he)
theorem w_mul(hq:Sz q)(hr:Sz r)(hd:dn d=q.den)(he:dn e=r.den):evF EnA (n+1) 13 [zb (q).num,wl (q).num,.bool false,wL (d),zb (r).num,wl (r).num,.bool false,wL (e)]=some [zb (q*r).num,wl (q*r).num,.bool false,wL (q*r).den]:=by
 have:evF EnA (n+1) 13 [zb (q).num,wl (q).num,.bool false,wL (d),zb (r).num,wl (r).num,.bool false,wL (e)]=limO En 13 [zb (q).num,wl (q).num,.bool false,wL (d),zb (r).num,wl (r).num,.bool false,wL (e)]:=by kernel_rfl
 rw[this];exact q1j (qcx (by omega) hq hr hd he)
theorem w_neg(hd:dn d=q.den):evF EnA (n+1) 39 [zb (q).num,wl (q).num,.bool false,wL (d)]=some [zb (-q).num,wl (-q).num,.bool false,wL (-q).den]:=by
 have:evF EnA (n+1) 39 [zb (q).num,wl (q).num,.bool false,wL (d)]=limO En 39 [zb (q).num,wl (q).num,.bool false,wL (d)]:=by kernel_rfl
 rw[this];exact q1j (qfj hd)
theorem w_sign{l:List FV}{b:Bool}:evF EnA (n+1) 38 [zb q.num,wl q.num,.bool b,.list 1 l]=some [iF q.num.sign]:=by
 have:evF EnA (n+1) 38 [zb q.num,wl q.num,.bool b,.list 1 l]=limO En 38 [zb q.num,wl q.num,.bool b,.list 1 l]:=by kernel_rfl
 rw[this];exact q1j (Ev.of 1 λm hm=>by obtain⟨m,rfl⟩:=qSx m;exact qp7)
theorem q4k(hq:Sz q)(hr:Sz r)(hd:dn d=q.den)(he:dn e=r.den):evF EnA (n+1) 32 [zb (q).num,wl (q).num,.bool false,wL (d),zb (r).num,wl (r).num,.bool false,wL (e)]=some [iF (cmpQ q r)]:=by
 have:evF EnA (n+1) 32 [zb (q).num,wl (q).num,.bool false,wL (d),zb (r).num,wl (r).num,.bool false,wL (e)]=limO En 32 [zb (q).num,wl (q).num,.bool false,wL (d),zb (r).num,wl (r).num,.bool false,wL (e)]:=by kernel_rfl
 rw[this];exact q1j (qja (k:=1000000000) (by omega) hq hr hd he)
theorem w_text(hq:Sz q)(hd:dn d=q.den):evF EnA (n+1) 14 [zb (q).num,wl (q).num,.bool false,wL (d)]=some [sF (qx q)]:=by
 have:evF EnA (n+1) 14 [zb (q).num,wl (q).num,.bool false,wL (d)]=limO En 14 [zb (q).num,wl (q).num,.bool false,wL (d)]:=by kernel_rfl
 rw[this];exact q1j (qcy (by omega) hq hd)
theorem qf5{t:Txt}(h:pr t=some q)(hl:t.length<=100000000:=by omega):evF EnA (n+1) 22 [sF t]=some [zb (q).num,wl (q).num,.bool false,wL (q).den,iF 0]:=by
 have:evF EnA (n+1) 22 [sF t]=limO En 22 [sF t]:=by kernel_rfl
 rw[this];exact q1j (qjb h hl)
theorem w_bad{t:Txt}(h:pr t=none)(hl:t.length<=100000000:=by omega):evF EnA (n+1) 22 [sF t]=some [.bool false,.list 1 [],.bool false,.list 1 [],iF 10]:=by
 have:evF EnA (n+1) 22 [sF t]=limO En 22 [sF t]:=by kernel_rfl
 rw[this];exact q1j (qjc h hl)
theorem a_linked{bs:List BlkV}{ac:List Bool}(hb:bs.length<=1000000):evF EnA (n+1) 20 [.list 8 (bs.map BlkV.fv),.list 1 (ac.map .bool)]=some [.bool (q4n bs ac)]:=by
 have:evF EnA (n+1) 20 [.list 8 (bs.map BlkV.fv),.list 1 (ac.map .bool)]=limO En 20 [.list 8 (bs.map BlkV.fv),.list 1 (ac.map .bool)]:=by kernel_rfl
 rw[this];exact q1j (linked_ev hb)
end
theorem q3y{q r:Rat}:decide (cmpQ q r<0)=decide (q<r):=by rw[BU];exact cmp_lt
theorem q5h{q r:Rat}:decide (cmpQ q r>0)=decide (r<q):=by rw[BU];exact cmp_gt
theorem cmpQ_le{q r:Rat}:decide (cmpQ q r<=0)=decide (q<=r):=by rw[BU];exact cmp_le
theorem cmpQ_ge{q r:Rat}:decide (cmpQ q r≥0)=decide (r<=q):=by rw[BU];exact cmp_ge
theorem cmpQ_bd(q r:Rat):-1<=cmpQ q r/\cmpQ q r<=1:=by
 unfold cmpQ q24;split
 ·omega
 ·split <;> omega
theorem sgn_gt0{q:Rat}:decide (q.num.sign>0)=decide (0<q):=by rw[BU];exact sgn_pos
theorem sgn_lt0{q:Rat}:decide (q.num.sign<0)=decide (q<0):=by rw[BU];exact sgn_neg
theorem sgn_ne0{q:Rat}:(q.num.sign !=0)=!decide (q=0):=by
 by_cases h:q=0
 ·rw[Af h,h];rfl
 ·rw[Ad h];have:q.num.sign≠0:=λe=>h (sgn_zero.1 e);simpa using this
theorem q3c{t:Txt}(h:t.length<=256):Bd 1024 (rd t):=by
 unfold rd;cases hp:pr t with
 |none=>exact q89.mono (by omega)
 |some q=>exact(qad hp).mono (by omega)
theorem rd_some{t:Txt}{q:Rat}(h:pr t=some q):rd t=q:=by unfold rd;rw[h];rfl
theorem qfk{α β:Type}(f:α->β)(z:β)(X:List α){i:Nat}(h:i<X.length):((X.take i).map f++List.replicate (X.length-i) z).set i (f X[i])=(X.take (i+1)).map f++List.replicate (X.length-(i+1)) z:=by
 have hl:((X.take i).map f).length=i:=by simp;omega
 rw[FG _ _ (by omega),hl,Cn,show X.length-i=(X.length-(i+1))+1 by omega,Cc,List.set_cons_zero,DC,Ag h,Bc,Ap];rfl
section
variable {X:List Txt}
theorem nums_run{n:Nat}(hx:∀t,t∈X->t.length<=256)(hl:X.length<=1000000)(hn:X.length+4<=n):evF EnA n 105 [.list 1 (X.map sF)]=if X.all isNum=true then some [.list 4 (X.map λt=>ratF (rd t)),.bool true]else some [.list 4 [],.bool false]:=by
 obtain⟨n,rfl⟩:∃k,n=k+2:=⟨n-2,by omega⟩;have h:=q21 (F:=λm i=>q6i.l3 (n+1) [] m [.list 4 ((X.take i).map (λt=>ratF (rd t))++List.replicate (X.length-i) (.agg [.list 1 [],.bool false,.list 1 [],.bool false])),.list 1 (X.map sF),iF (X.length:Int),iF (i:Int)]) (len:=X.length) (P:=λi=>match X[i]? with | some t=>isNum t | none=>true)
  (fin:=some [.list 4 (X.map λt=>ratF (rd t)),.bool true]) (stop:=some [.list 4 [],.bool false]) (λm i hi=>by
  show q6i.l3 (n+1) [] (m+1) _=_;rw[q6i.qm,Af,Ac,Aa,q9 hi,Ag hi];simp only[q50 hi,rr];have hlen:=hx X[i] (Ah hi);cases hp:pr X[i]with
  |none =>
   rw[a_bad hp];simp only[rr];have:isNum X[i]=false:=by unfold isNum;rw[hp];rfl
   rw[this];rfl
  |some q =>
   rw[qbd hp];simp only[rr];have:isNum X[i]=true:=by unfold isNum;rw[hp];rfl
   rw[this,Ac,q9 (by simp;omega),qc];simp only[rr];rw[show(FV.agg [zl (q).num,zb (q).num,nL (q).den,.bool false])=ratF (rd X[i]) by rw[rd_some hp];rfl,qfk (λt=>ratF (rd t)) _ X hi];rfl) (λm=>by
  show q6i.l3 (n+1) [] (m+1) _=_
  rw[q6i.qm,Ad,Ab,Bj,Cn,Co,AM]) X.length 0 (n+1) (by omega) (by omega)
 rw[q4y X isNum (λi hi=>by rw[Ag hi])]at h;rw[qp8,Aa];have e1:q1r 64 ((X.length:Nat):Int)=some X.length:=by
  unfold q1r;rw[if_pos ⟨by omega,by omega,by omega⟩,Bh]
 rw[e1,Ae,q1v (Ak _),Ae];have h:q6i.l3 (n+1) [] (n+1) [.list 4 (List.replicate X.length (.agg [.list 1 [],.bool false,.list 1 [],.bool false])),.list 1 (X.map sF),iF (X.length:Int),iF 0]=_:=h;rw[h];cases X.all isNum <;> rfl
theorem gnums_run{n:Nat}(hx:∀t,t∈X->t.length<=256)(hl:X.length<=1000000)(hn:X.length+4<=n):evF EnA n 168 [.list 1 (X.map sF)]=if X.all isNum=true then some [.list 4 (X.map λt=>ratF (rd t)),.bool true]else some [.list 4 [],.bool false]:=by
 obtain⟨n,rfl⟩:∃k,n=k+2:=⟨n-2,by omega⟩;have h:=q21 (F:=λm i=>q6j.l3 (n+1) [] m [.list 4 ((X.take i).map (λt=>ratF (rd t))++List.replicate (X.length-i) (.agg [.list 1 [],.bool false,.list 1 [],.bool false])),.list 1 (X.map sF),iF (X.length:Int),iF (i:Int)]) (len:=X.length) (P:=λi=>match X[i]? with | some t=>isNum t | none=>true)
  (fin:=some [.list 4 (X.map λt=>ratF (rd t)),.bool true]) (stop:=some [.list 4 [],.bool false]) (λm i hi=>by
  show q6j.l3 (n+1) [] (m+1) _=_;rw[q6j.qm,Af,Ac,Aa,q9 hi,Ag hi];simp only[q50 hi,rr];have hlen:=hx X[i] (Ah hi);cases hp:pr X[i]with
  |none =>
   rw[a_bad hp];simp only[rr];have:isNum X[i]=false:=by unfold isNum;rw[hp];rfl
   rw[this];rfl
  |some q =>
   rw[qbd hp];simp only[rr];have:isNum X[i]=true:=by unfold isNum;rw[hp];rfl
   rw[this,Ac,q9 (by simp;omega),qc];simp only[rr];rw[show(FV.agg [zl (q).num,zb (q).num,nL (q).den,.bool false])=ratF (rd X[i]) by rw[rd_some hp];rfl,qfk (λt=>ratF (rd t)) _ X hi];rfl) (λm=>by
  show q6j.l3 (n+1) [] (m+1) _=_
  rw[q6j.qm,Ad,Ab,Bj,Cn,Co,AM]) X.length 0 (n+1) (by omega) (by omega)
 rw[q4y X isNum (λi hi=>by rw[Ag hi])]at h;rw[qp9,Aa];have e1:q1r 64 ((X.length:Nat):Int)=some X.length:=by
  unfold q1r;rw[if_pos ⟨by omega,by omega,by omega⟩,Bh]
 rw[e1,Ae,q1v (Ak _),Ae];have h:q6j.l3 (n+1) [] (n+1) [.list 4 (List.replicate X.length (.agg [.list 1 [],.bool false,.list 1 [],.bool false])),.list 1 (X.map sF),iF (X.length:Int),iF 0]=_:=h;rw[h];cases X.all isNum <;> rfl
end
end
end Rf
