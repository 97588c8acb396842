/- Texts of this work put together, their blanks and comments taken out: Oda, Odb, Nma. -/
import Derived.Test.YtcpnpoagpnkblaaGreatDoorUMT
import Derived.Test.YtcpnpoagpnkblaaGreatDoorUMU
import Derived.Test.YtcpnpoagpnkblaaGreatDoorUMV
import Derived.Sort.Walk0
set_option linter.unusedVariables false
set_option linter.unusedSimpArgs false
section
/- Which orders may be: both answers are one. -/
set_option maxHeartbeats 2000000
namespace Rf
open Go
def StpV.fv(s:StpV):FV:=.agg [.str s.who,iF s.seq,iF s.zone,iF s.hour,.bool s.buy,iF s.qty,iF s.qk]
def q17.fv(l:q17):FV:=.agg [iF l.src,iF l.dst,iF l.cap]
def gL(g:q1g):List FV:=[iF g.qe,iF g.qg,.list 3 (g.lines.map q17.fv),iF g.low,iF g.high]
theorem q3z{ss:List StpV}{i:Nat}(h:i<ss.length)(c:Nat):at' (ss.map StpV.fv) i c=[FV.str ss[i].who,iF ss[i].seq,iF ss[i].zone,iF ss[i].hour,.bool ss[i].buy,iF ss[i].qty,iF ss[i].qk][c]?:=by
 rw[q23,List.getElem?_eq_getElem h];rfl
theorem q76{ls:List q17}{i:Nat}(h:i<ls.length)(c:Nat):at' (ls.map q17.fv) i c=[iF ls[i].src,iF ls[i].dst,iF ls[i].cap][c]?:=by
 rw[q23,List.getElem?_eq_getElem h];rfl
theorem q2j{bs:List BlkV}{i:Nat}(h:i<bs.length)(c:Nat):at' (bs.map BlkV.fv) i c=[FV.str bs[i].who,iF bs[i].seq,iF bs[i].zone,.bool bs[i].buy,iF bs[i].qk,.list 1 (bs[i].qty.map iF),iF bs[i].parent,iF bs[i].group][c]?:=by
 rw[q23,List.getElem?_eq_getElem h];rfl
theorem q6c{q:List Int}{i:Nat}(h:i<q.length):at' (q.map iF) i 0=some (iF q[i]):=by rw[q23,List.getElem?_eq_getElem h];rfl
def fIdx{α:Type}(p:α->Bool)(l:List α):Int:=match l.findIdx? p with | some k=>(k:Int) | none=>-1
theorem qch{α:Type}(p:α->Bool)(l:List α):decide (fIdx p l≥0)=l.any p:=by
 unfold fIdx;cases h:l.findIdx? p with
 |none =>
  rw[List.findIdx?_eq_none_iff]at h;have:l.any p=false:=List.any_eq_false.2 λx hx=>by simpa using h x hx
  rw[this];rfl
 |some k =>
  rw[List.findIdx?_eq_some_iff_getElem]at h;obtain⟨h1,h2,_⟩:=h;have:l.any p=true:=List.any_eq_true.2 ⟨l[k],List.getElem_mem h1,h2⟩;rw[this];simp
theorem qar{α:Type}(l:List α)(p:α->Bool){pre:List FV}{F:Nat->Nat->Res}(hs:∀m i (h:i<l.length),F (m+1) i=bif p l[i]then some (pre++[iF (i:Int)])else F m (i+1))(he:∀m,F (m+1) l.length=some (pre++[iF (-1)])) :
  ∀(d i m:Nat),i+d=l.length->d<m->(∀j (h:j<l.length),j<i->p l[j]=false)->F m i=some (pre++[iF (fIdx p l)]):=by
 intro d
 induction d with
 |zero =>
  intro i m hi hm hn;obtain⟨m,rfl⟩:=qSx m (by omega);obtain rfl:i=l.length:=by omega
  have:l.findIdx? p=none:=List.findIdx?_eq_none_iff.2 λx hx=>by
   obtain⟨j,hj,rfl⟩:=List.getElem_of_mem hx;exact hn j hj hj
  rw[he];unfold fIdx;rw[this]
 |succ d ih =>
  intro i m hi hm hn;obtain⟨m,rfl⟩:=qSx m (by omega);have hil:i<l.length:=by omega
  rw[hs m i hil];cases hp:p l[i]with
  |false =>
   rw[cond_false];refine ih (i+1) m (by omega) (by omega) λj hj hji=>?_;by_cases h:j=i
   ·subst h;exact hp
   ·exact hn j hj (by omega)
  |true =>
   rw[cond_true];have:l.findIdx? p=some i:=List.findIdx?_eq_some_iff_getElem.2 ⟨hil,hp,λj hj=>by simpa using hn j (by omega) hj⟩;unfold fIdx;rw[this]
theorem q49{α:Type}(l:List α)(p:α->Bool){P:Nat->Bool}(h:∀i (hi:i<l.length),P i=p l[i]):(List.range' 0 l.length).all P=l.all p:=by
 rw[Bool.eq_iff_iff,q51,List.all_eq_true];constructor
 ·intro q x hx;obtain⟨i,hi,rfl⟩:=List.getElem_of_mem hx;rw[<- h i hi];exact q i hi
 ·intro q i hi;rw[h i hi];exact q _ (List.getElem_mem hi)
theorem qex{n:Nat}{a b c:Int}:evF EnA (n+1) 64 [iF a,iF b,iF c]=some [.bool (qu a b c)]:=by
 have:evF EnA (n+1) 64 [iF a,iF b,iF c]=(bif(decide (b<=a))then some [.bool (decide (a<=c))]else some [.bool false]):=by kernel_rfl
 rw[this];unfold qu;cases decide (b<=a) <;> rfl
theorem qij{n:Nat}{a b c:Int}:evF EnA (n+1) 126 [iF a,iF b,iF c]=some [.bool (qu a b c)]:=by
 rw[qot];unfold qu;cases decide (b<=a) <;> rfl
theorem qik{n:Nat}{a b c:Int}:evF EnA (n+1) 133 [iF a,iF b,iF c]=some [.bool (qu a b c)]:=by
 rw[qou];unfold qu;rw[show decide (a≥b)=decide (b<=a) from rfl];cases decide (b<=a) <;> rfl
theorem qew{n:Nat}{a b c:Int}:evF EnA (n+1) 74 [iF a,iF b,iF c]=some [.bool (qu a b c)]:=by
 rw[qov];unfold qu;rw[show decide (a≥b)=decide (b<=a) from rfl];cases decide (b<=a) <;> rfl
theorem le_sum{x:Nat}:∀ {l:List Nat},x∈l->x<=l.sum
 |[],h=>by simp at h
 |y::l,h=>by
  rw[List.sum_cons];rcases List.mem_cons.1 h with rfl | h
  ·omega
  ·have:=le_sum h;omega
theorem dle(a b:Int):decide (a<=b)=!decide (b<a):=by
 by_cases h:a<=b
 ·rw[decide_eq_true h,decide_eq_false (by omega)];rfl
 ·rw[decide_eq_false h,decide_eq_true (by omega)];rfl
theorem dlt(a b:Int):decide (a<b)=!decide (b<=a):=by rw[dle,Bool.not_not]
theorem q3x{a b c:Int}:qu a b c=true↔b<=a/\a<=c:=by simp[qu]
section
variable {g:q1g}
theorem godd_run(h1:1<=g.qe/\g.qe<=3){n:Nat}{l:q17}:evF EnA (n+2) 125 (iF l.src::iF l.dst::iF l.cap::gL g)=some (gL g++[.bool (!q3m g l)]):=by
 unfold gL;rw[qow,qm (by omega) (by omega)];simp (disch:=omega) only[qij,Option.bind_some,List.getElem?_cons_zero,qa];unfold q3m;rw[show(l.src !=l.dst)=!(l.src==l.dst) from rfl];cases qu l.src 0 (g.qe-1) <;> cases qu l.dst 0 (g.qe-1) <;> cases(l.src==l.dst) <;> rfl
theorem gidx_run(h1:1<=g.qe/\g.qe<=3){n:Nat}(hl:g.lines.length<=3)(hn:10<=n):evF EnA n 127 (.list 3 (g.lines.map q17.fv)::gL g)=some (gL g++[.bool (!g.lines.all (q3m g))]):=by
 obtain⟨n,rfl⟩:∃k,n=k+4:=⟨n-4,by omega⟩
 have h:=qar g.lines (λl=>!q3m g l) (pre:=gL g) (F:=λm i=>q6w.l2 (n+2) [] m (gL g++[.list 3 (g.lines.map q17.fv),iF (g.lines.length:Int),iF (i:Int)])) (λm i hi=>by
  show q6w.l2 (n+2) [] (m+1) _=_;unfold gL;rw[List.cons_append,List.cons_append,List.cons_append,List.cons_append,List.cons_append,List.nil_append,q6w.qv,decide_eq_true (by omega),cond_true,List.length_map,qc hi];simp (disch:=omega) only[q76 hi,Option.bind_some,List.getElem?_cons_zero,List.getElem?_cons_succ,qb];have:=godd_run h1 (n:=n) (l:=g.lines[i]);unfold gL at this;rw[this];simp (disch:=omega) only[Option.bind_some];simp only[List.cons_append,List.nil_append];simp (disch:=omega) only[Option.bind_some,List.getElem?_cons_zero,List.getElem?_cons_succ,q9,qb,qa];rw[qi (by omega)]) (λm=>by
  show q6w.l2 (n+2) [] (m+1) _=_;unfold gL;rw[List.cons_append,List.cons_append,List.cons_append,List.cons_append,List.cons_append,List.nil_append,q6w.qv,decide_eq_false (by omega),cond_false]
  rfl) g.lines.length 0 (n+2) (by omega) (by omega) (λj _ hj=>by omega)
 have e2:evF EnA (n+3) 179 (.list 3 (g.lines.map q17.fv)::gL g)=some (gL g++[iF (fIdx (λl=>!q3m g l) g.lines)]):=by
  rw[<- h];unfold gL;rw[qox];simp only[List.length_map];rfl
 unfold gL at e2 ⊢;rw[qoy,e2];simp only[List.cons_append,List.nil_append];simp (disch:=omega) only[Option.bind_some,List.getElem?_cons_zero,List.getElem?_cons_succ,q9,qb];rw[qch,List.any_eq_not_all_not];simp only[Bool.not_not]
theorem qoz{n:Nat}(hl:g.lines.length<=1000000)(hn:12<=n):evF EnA n 63 (gL g)=some [iF (if q48 g=true then 0 else 140)]:=by
 obtain⟨n,rfl⟩:∃k,n=k+2:=⟨n-2,by omega⟩;unfold gL;rw[qp0,List.length_map];simp (disch:=omega) only[qij,Option.bind_some,List.getElem?_cons_zero,qa];unfold q48;by_cases hz:qu g.qe 1 3=true
 ·have h1:=q3x.1 hz;rw[hz];by_cases hh:qu g.qg 1 3=true
  ·rw[hh];by_cases hk:g.lines.length<=3
   ·have:=gidx_run h1 (n:=n+1) hk (by omega);unfold gL at this;rw[this,decide_eq_false (by omega),decide_eq_true hk];simp only[List.cons_append,List.nil_append];simp (disch:=omega) only[Option.bind_some,List.getElem?_cons_zero,List.getElem?_cons_succ,q9,qb,qa,cond_false];rw[show decide (g.high>100000)=!decide (g.high<=100000) from dlt _ _];cases g.lines.all (q3m g) <;> cases qu g.low (-100000) g.high <;> cases decide (g.high<=100000) <;> rfl
   ·rw[decide_eq_true (by omega),decide_eq_false hk];simp
  ·rw[Bool.eq_false_iff.2 hh];simp
 ·rw[Bool.eq_false_iff.2 hz];simp
theorem qor{n:Nat}(hl:g.lines.length<=1000000)(hn:12<=n):evF EnA n 73 (gL g)=some [iF (if q48 g=true then 0 else 140)]:=by
 obtain⟨n,rfl⟩:∃k,n=k+2:=⟨n-2,by omega⟩;unfold gL;rw[qp1,List.length_map];simp (disch:=omega) only[qik,Option.bind_some,List.getElem?_cons_zero,qa];unfold q48;by_cases hz:qu g.qe 1 3=true
 ·have h1:=q3x.1 hz;rw[hz];by_cases hh:qu g.qg 1 3=true
  ·rw[hh];by_cases hk:g.lines.length<=3
   ·rw[decide_eq_false (show ¬ ((g.lines.length:Int)>3) by omega),decide_eq_true hk]
    have h:=q1s (F:=λm i=>q64.l4 (n+1) [] m [iF g.qe,iF g.qg,.list 3 (g.lines.map q17.fv),iF g.low,iF g.high,iF (i:Int)]) (len:=g.lines.length) (P:=λi=>match g.lines[i]? with | some l=>q3m g l | none=>true) (fin:=some [iF 0]) (stop:=some [iF 140]) (λm i hi=>by
     show q64.l4 (n+1) [] (m+1) _=_;rw[q64.q13,List.length_map,decide_eq_true (by omega),cond_true,qc hi,qm (x:=g.qe-1) (by omega) (by omega),qi (by omega),List.getElem?_eq_getElem hi];simp (disch:=omega) only[q76 hi,qik,Option.bind_some,List.getElem?_cons_zero,List.getElem?_cons_succ,qb,qa];unfold q3m;rw[show(g.lines[i].src !=g.lines[i].dst)=!(g.lines[i].src==g.lines[i].dst) from rfl];cases qu g.lines[i].src 0 (g.qe-1) <;> cases qu g.lines[i].dst 0 (g.qe-1) <;> cases(g.lines[i].src==g.lines[i].dst) <;> cases qu g.lines[i].cap 0 1000 <;> rfl) (λm=>by
     show q64.l4 (n+1) [] (m+1) _=_
     rw[q64.q13,List.length_map,decide_eq_false (by omega),cond_false]) g.lines.length 0 (n+1) (by omega) (by omega)
    rw[q49 g.lines (q3m g) (λi hi=>by rw[List.getElem?_eq_getElem hi])]at h;have h:q64.l4 (n+1) [] (n+1) [iF g.qe,iF g.qg,.list 3 (g.lines.map q17.fv),iF g.low,iF g.high,iF 0]=_:=h;rw[h];have e1:qu g.low (-100000) g.high=(!decide (g.low < -100000)&&!decide (g.low>g.high)):=by
     unfold qu;rw[show decide (-100000<=g.low)=!decide (g.low < -100000) from dle _ _,show decide (g.low<=g.high)=!decide (g.low>g.high) from dle _ _]
    rw[e1,show decide (g.high<=100000)=!decide (g.high>100000) from dle _ _];cases g.lines.all (q3m g) <;> cases decide (g.low < -100000) <;> cases decide (g.low>g.high) <;> cases decide (g.high>100000) <;> rfl
   ·rw[decide_eq_true (show((g.lines.length:Int)>3) by omega),decide_eq_false hk];simp
  ·rw[Bool.eq_false_iff.2 hh];simp
 ·rw[Bool.eq_false_iff.2 hz];simp
end
section
variable {g:q1g} {ss:List StpV} {bs:List BlkV}
theorem iodd_run{n:Nat}{a:Int}:evF EnA (n+2) 65 [iF a]=some [.bool (!qu a 0 1000)]:=by
 rw[qp2];simp (disch:=omega) only[qex,Option.bind_some,List.getElem?_cons_zero,qa]
theorem icon_run{n:Nat}{q:List Int}(hl:q.length<=1000000)(hn:q.length+6<=n):evF EnA n 66 [.list 1 (q.map iF),.raw (Go.Value.func (Go.Fn.func 65) #[] #[])]=some [.bool (!q.all λx=>qu x 0 1000)]:=by
 obtain⟨n,rfl⟩:∃k,n=k+4:=⟨n-4,by omega⟩
 have h:=qar q (λx=>!qu x 0 1000) (pre:=[]) (F:=λm i=>q65.l2 (n+2) [] m [.list 1 (q.map iF),.raw (Go.Value.func (Go.Fn.func 65) #[] #[]),iF (q.length:Int),iF (i:Int)]) (λm i hi=>by
  show q65.l2 (n+2) [] (m+1) _=_;rw[q65.qv,decide_eq_true (by omega),cond_true,List.length_map,qc hi];simp (disch:=omega) only[q6c hi,iodd_run,Option.bind_some,List.getElem?_cons_zero,qb,qa];rw[qi (by omega)];rfl) (λm=>by
  show q65.l2 (n+2) [] (m+1) _=_;rw[q65.qv,decide_eq_false (by omega),cond_false]
  rfl) q.length 0 (n+2) (by omega) (by omega) (λj _ hj=>by omega)
 rw[qp3,qp4,List.length_map];have h:q65.l2 (n+2) [] (n+2) [.list 1 (q.map iF),.raw (Go.Value.func (Go.Fn.func 65) #[] #[]),iF (q.length:Int),iF 0]=_:=h;rw[h,List.nil_append];simp (disch:=omega) only[Option.bind_some,List.getElem?_cons_zero,qb];rw[qch,List.any_eq_not_all_not];simp only[Bool.not_not]
theorem max_loop{n:Nat}{q:List Int}(hl:q.length<=1000000):∀(d i m:Nat) (v:Int),i+d=q.length->d<m->∃w,q8t.l5 n [] m [.list 1 (q.map iF),iF v,iF (i:Int)]=some [iF w]/\v<=w/\(∀x,x∈q.drop i->x<=w)/\(w=v\/w∈q.drop i):=by
 intro d
 induction d with
 |zero =>
  intro i m v hi hm;obtain⟨m,rfl⟩:=qSx m (by omega);refine⟨v,?_,Int.le_refl _,λx hx=>?_,.inl rfl⟩
  ·rw[q8t.q1t,List.length_map,decide_eq_false (by omega),cond_false]
  ·rw[List.drop_of_length_le (by omega)]at hx;simp at hx
 |succ d ih =>
  intro i m v hi hm;obtain⟨m,rfl⟩:=qSx m (by omega);have hil:i<q.length:=by omega
  obtain⟨w,h1,h2,h3,h4⟩:=ih (i+1) m (if v<q[i]then q[i]else v) (by omega) (by omega);have hle:v<=(if v<q[i]then q[i]else v)/\q[i]<=(if v<q[i]then q[i]else v):=by split <;> omega
  refine⟨w,?_,by omega,λx hx=>?_,?_⟩
  ·rw[q8t.q1t,List.length_map,decide_eq_true (by omega),cond_true,qc hil];simp (disch:=omega) only[q6c hil,Option.bind_some,qb];rw[qi (by omega)];exact h1
  ·rw[List.drop_eq_getElem_cons hil]at hx;rcases List.mem_cons.1 hx with rfl | hx
   ·omega
   ·exact h3 x hx
  ·rw[List.drop_eq_getElem_cons hil];rcases h4 with h4 | h4
   ·split at h4
    ·exact .inr (by rw[h4];exact List.mem_cons_self)
    ·exact .inl h4
   ·exact .inr (List.mem_cons_of_mem _ h4)
theorem max_run{n:Nat}{q:List Int}(hl:q.length<=1000000)(h0:q≠[])(hq:q.all (λx=>qu x 0 1000)=true)(hn:q.length+2<=n):∃w,evF EnA n 67 [.list 1 (q.map iF)]=some [iF w]/\(!(w==0))=q.any λx=>decide (0<x):=by
 obtain⟨n,rfl⟩:=qSx n (by omega);have hp:0<q.length:=List.length_pos_iff.2 h0;obtain⟨w,h1,h2,h3,h4⟩:=max_loop (n:=n) hl (q.length-1) 1 n q[0] (by omega) (by omega);refine⟨w,?_,?_⟩
 ·rw[qp5,List.length_map,decide_eq_false (by omega),cond_false,show(0:Int)=((0:Nat):Int) from rfl,qc hp];simp (disch:=omega) only[q6c hp,Option.bind_some,qb];exact h1
 ·have hge:∀x,x∈q->0<=x:=λx hx=>(q3x.1 (List.all_eq_true.1 hq x hx)).1;have hmem:w∈q:=by
   rcases h4 with h4 | h4
   ·rw[h4];exact List.getElem_mem hp
   ·exact List.mem_of_mem_drop h4
  have hall:∀x,x∈q->x<=w:=λx hx=>by
   obtain⟨i,hi,rfl⟩:=List.getElem_of_mem hx;cases i with
   |zero=>exact h2
   |succ i=>exact h3 _ (List.mem_drop_iff_getElem.2 ⟨i,by omega,by simp[Nat.add_comm]⟩)
  rw[Bool.eq_iff_iff,List.any_eq_true];constructor
  ·intro h;exact⟨w,hmem,decide_eq_true (by have h5:=hge w hmem;have h6:w≠0:=(by simpa using h);omega)⟩
  ·rintro⟨x,hx,hx2⟩;have:=hall x hx;have hx2:0<x:=by simpa using hx2
   have:w≠0:=by omega
   simpa using this
def blkL(b:BlkV):List FV:=[FV.str b.who,iF b.seq,iF b.zone,.bool b.buy,iF b.qk,.list 1 (b.qty.map iF),iF b.parent,iF b.group]
theorem some_loop{n:Nat}{b:BlkV}(hl:b.qty.length<=1000000):∀(d i m:Nat) (v:Bool),i+d=b.qty.length->d<m ->
  q6x.l5 (n+1) [] m [FV.str b.who,iF b.seq,iF b.zone,.bool b.buy,iF b.qk,.list 1 (b.qty.map iF),iF b.parent,iF b.group,.bool v,iF (i:Int)]=some [.bool ((b.qty.drop i).all (λx=>qu x 0 1000)&&(v||(b.qty.drop i).any λx=>decide (0<x)))]:=by
 intro d
 induction d with
 |zero =>
  intro i m v hi hm;obtain⟨m,rfl⟩:=qSx m (by omega);rw[q6x.q1t,List.length_map,decide_eq_false (by omega),cond_false,List.drop_of_length_le (by omega)];simp
 |succ d ih =>
  intro i m v hi hm;obtain⟨m,rfl⟩:=qSx m (by omega);have hil:i<b.qty.length:=by omega
  rw[q6x.q1t,List.length_map,decide_eq_true (by omega),cond_true,qc hil,qi (by omega),List.drop_eq_getElem_cons hil];simp (disch:=omega) only[q6c hil,qew,Option.bind_some,List.getElem?_cons_zero,qb,qa];rw[ih (i+1) m true (by omega) (by omega),ih (i+1) m (decide (b.qty[i]>0)) (by omega) (by omega),List.all_cons,List.any_cons,show decide (b.qty[i]>0)=decide (0<b.qty[i]) from rfl];cases qu b.qty[i] 0 1000 <;> cases v <;> cases decide (0<b.qty[i]) <;> cases((b.qty.drop (i+1)).all λx=>qu x 0 1000) <;> rfl
theorem block_run(h1:1<=g.qe/\g.qe<=3){n:Nat}{b:BlkV}(hl:b.qty.length<=1000000)(hn:b.qty.length+4<=n):evF EnA n 75 (gL g++blkL b)=some [.bool (q3k g b)]:=by
 obtain⟨n,rfl⟩:∃k,n=k+2:=⟨n-2,by omega⟩;unfold gL blkL;simp only[List.cons_append,List.nil_append];rw[qp6,List.length_map,qm (by omega) (by omega)];simp (disch:=omega) only[qew,Option.bind_some,List.getElem?_cons_zero,qa];have h:=some_loop (n:=n) (b:=b) hl b.qty.length 0 (n+1) false (by omega) (by omega);rw[List.drop_zero]at h;have h:q6x.l5 (n+1) [] (n+1) [FV.str b.who,iF b.seq,iF b.zone,.bool b.buy,iF b.qk,.list 1 (b.qty.map iF),iF b.parent,iF b.group,.bool false,iF 0]=_:=h;rw[h];unfold q3k;rw[show(((b.qty.length:Int)) !=g.qg)=!decide ((b.qty.length:Int)=g.qg) by simp[bne,BEq.beq]];cases qu b.zone 0 (g.qe-1) <;> cases qu b.qk g.low g.high <;> cases decide ((b.qty.length:Int)=g.qg) <;> rfl
end
theorem qil:∀l:List UInt8,Op.bytesLess l l=false
 |[]=>rfl
 |x::l=>by simp[Op.bytesLess,qil l]
theorem qcg(j:Nat)(h:j<9000000000000000000):IntKind.wrap .i64 (((j+1:Nat):Int)-1)=(j:Int):=by rw[qm (by omega) (by omega)];omega
def cmpB(l e:Bool):Int:=bif l then -1 else bif !(l||e)then 1 else 0
theorem qim{n:Nat}{s t:ByteArray}:evF EnA (n+2) 130 [.str s,.str t]=some [.int .i64 (cmpB (Op.bytesLess s.toList t.toList) (s.toList==t.toList))]:=by
 rw[qp7];simp only[qp8,Option.bind_some,List.getElem?_cons_zero,qa,beq_self_eq_true,Bool.not_true,cond_false];unfold cmpB;cases Op.bytesLess s.toList t.toList <;> cases(s.toList==t.toList) <;> rfl
def cmpM(a b:Int):Int:=bif decide (a<b)then -1 else bif decide (a>b)then 1 else 0
theorem qin{n:Nat}{a b:Int}:evF EnA (n+2) 131 [.int .i64 a,.int .i64 b]=some [.int .i64 (cmpM a b)]:=by
 rw[qp9];simp only[qpa,Option.bind_some,List.getElem?_cons_zero,qa,bne_self_eq_false,cond_false];unfold cmpM;cases decide (a<b) <;> cases decide (a>b) <;> rfl
theorem or_run{n:Nat}{a b:Int}:evF EnA (n+4) 129 [.list 1 [.int .i64 a,.int .i64 b]]=some [.int .i64 (bif a !=0 then a else b)]:=by
 rw[qpb,q6y.qy];show(bif a !=0 then some [.int .i64 a]else q6y.l3 (n+3) [] (n+2) [.int .i64 0,.list 1 [.int .i64 a,.int .i64 b],.int .i64 2,.int .i64 1]:Res)=_;rw[q6y.qy];show(bif a !=0 then some [.int .i64 a]else(bif b !=0 then some [.int .i64 b]else q6y.l3 (n+3) [] (n+1) [.int .i64 0,.list 1 [.int .i64 a,.int .i64 b],.int .i64 2,.int .i64 2]):Res)=_;rw[q6y.qy];show(bif a !=0 then some [.int .i64 a]else(bif b !=0 then some [.int .i64 b]else some [.int .i64 0]):Res)=_;cases ha:(a !=0)
 ·cases hb:(b !=0)
  ·have:b=0:=by simpa using hb
   rw[this];rfl
  ·rfl
 ·rfl
theorem lt_or(s t:ByteArray)(a b:Int):decide ((bif cmpB (Op.bytesLess s.toList t.toList) (s.toList==t.toList) !=0 then cmpB (Op.bytesLess s.toList t.toList) (s.toList==t.toList)else cmpM a b)≥0)=!nmB s a t b:=by
 unfold nmB cmpB cmpM;cases Op.bytesLess s.toList t.toList <;> cases(s.toList==t.toList)
 ·rfl
 ·by_cases h:a<b
  ·rw[decide_eq_true h];rfl
  ·rw[decide_eq_false h];cases decide (a>b) <;> rfl
 ·rfl
 ·rfl
theorem qih(s t:ByteArray)(a b:Int):nmB s a t b=((Op.bytesLess s.toList t.toList||s.toList==t.toList)&&!(s.toList==t.toList&&decide (a≥b))):=by
 unfold nmB;rw[show decide (a<b)=!decide (a≥b) from dlt _ _];cases h:Op.bytesLess s.toList t.toList
 ·cases(s.toList==t.toList) <;> cases decide (a≥b) <;> rfl
 ·have:(s.toList==t.toList)=false:=by
   apply Bool.eq_false_iff.2;intro q;rw[eq_of_beq q,qil]at h;cases h
  rw[this];rfl
def riS(ss:List StpV)(i:Nat):Bool:=match ss[i-1]?,ss[i]? with | some a,some b=>nmB a.who a.seq b.who b.seq | _,_=>true
def riK(bs:List BlkV)(i:Nat):Bool:=match bs[i-1]?,bs[i]? with | some a,some b=>nmB a.who a.seq b.who b.seq | _,_=>true
section
variable {g:q1g} {ss:List StpV} {bs:List BlkV}
theorem rises_run{n:Nat}(hl:ss.length<=1000000)(hn:ss.length+8<=n):evF EnA n 68 [.list 7 (ss.map StpV.fv),.raw (Go.Value.func (Go.Fn.func 69) #[] #[])]=some [.bool (q63 ss)]:=by
 obtain⟨n,rfl⟩:∃k,n=k+5:=⟨n-5,by omega⟩;rw[qpc];have h:=q1s (F:=λm i=>q6z.l2 (n+4) [] m [.list 7 (ss.map StpV.fv),.raw (Go.Value.func (Go.Fn.func 69) #[] #[]),iF (i:Int)]) (len:=max 1 ss.length) (P:=riS ss) (fin:=some [.bool true]) (stop:=some [.bool false]);by_cases h0:ss.length=0
 ·rw[q6z.qv,List.length_map,decide_eq_false (by omega),cond_false];unfold q63;rw[h0];rfl
 have key:∀(d i m:Nat),i+1+d=ss.length->d<m->q6z.l2 (n+4) [] m [.list 7 (ss.map StpV.fv),.raw (Go.Value.func (Go.Fn.func 69) #[] #[]),iF ((i+1:Nat):Int)]=some [.bool ((List.range' (i+1) d).all (riS ss))]:=by
  intro d
  induction d with
  |zero =>
   intro i m hi hm;obtain⟨m,rfl⟩:=qSx m (by omega);rw[q6z.qv,List.length_map,decide_eq_false (by omega),cond_false];rfl
  |succ d ih =>
   intro i m hi hm;obtain⟨m,rfl⟩:=qSx m (by omega);have h1:i<ss.length:=by omega
   have h2:i+1<ss.length:=by omega
   rw[q6z.qv,List.length_map,decide_eq_true (by omega),cond_true,qcg i (by omega),qc h1,qc h2,qi (by omega)]
   try simp (disch:=omega) only[q3z h1,Option.bind_some,List.getElem?_cons_zero,List.getElem?_cons_succ,qb,qa,qn]
   try simp (disch:=omega) only[qio,Option.bind_some,List.getElem?_cons_zero,List.getElem?_cons_succ,qb,qn]
   try simp (disch:=omega) only[q3z h2,Option.bind_some,List.getElem?_cons_zero,List.getElem?_cons_succ,qb,qa,qn]
   try simp (disch:=omega) only[qio,rr]
   try simp (disch:=omega) only[qim,Option.bind_some,List.getElem?_cons_zero,qb]
   try simp (disch:=omega) only[qin,Option.bind_some,List.getElem?_cons_zero,qb]
   rw[show qd 2 (.int .i64 0) [(0,iF (cmpB (Op.bytesLess ss[i].who.toList ss[i+1].who.toList) (ss[i].who.toList==ss[i+1].who.toList))),(1,iF (cmpM ss[i].seq ss[i+1].seq))]=[iF (cmpB (Op.bytesLess ss[i].who.toList ss[i+1].who.toList) (ss[i].who.toList==ss[i+1].who.toList)),iF (cmpM ss[i].seq ss[i+1].seq)] from rfl,or_run];simp (disch:=omega) only[Option.bind_some,List.getElem?_cons_zero,qb];rw[lt_or,ih (i+1) m (by omega) (by omega),List.range'_succ,List.all_cons];unfold riS;rw[show i+1-1=i from rfl,List.getElem?_eq_getElem h1,List.getElem?_eq_getElem h2];simp only;cases nmB ss[i].who ss[i].seq ss[i+1].who ss[i+1].seq <;> rfl
 have:=key (ss.length-1) 0 (n+4) (by omega) (by omega);exact this
theorem risek_run{n:Nat}(hl:bs.length<=1000000)(hn:bs.length+8<=n):evF EnA n 70 [.list 8 (bs.map BlkV.fv),.raw (Go.Value.func (Go.Fn.func 71) #[] #[])]=some [.bool (q4x bs)]:=by
 obtain⟨n,rfl⟩:∃k,n=k+5:=⟨n-5,by omega⟩;rw[qpd];by_cases h0:bs.length=0
 ·rw[q7s.qv,List.length_map,decide_eq_false (by omega),cond_false];unfold q4x;rw[h0];rfl
 have key:∀(d i m:Nat),i+1+d=bs.length->d<m->q7s.l2 (n+4) [] m [.list 8 (bs.map BlkV.fv),.raw (Go.Value.func (Go.Fn.func 71) #[] #[]),iF ((i+1:Nat):Int)]=some [.bool ((List.range' (i+1) d).all (riK bs))]:=by
  intro d
  induction d with
  |zero =>
   intro i m hi hm;obtain⟨m,rfl⟩:=qSx m (by omega);rw[q7s.qv,List.length_map,decide_eq_false (by omega),cond_false];rfl
  |succ d ih =>
   intro i m hi hm;obtain⟨m,rfl⟩:=qSx m (by omega);have h1:i<bs.length:=by omega
   have h2:i+1<bs.length:=by omega
   rw[q7s.qv,List.length_map,decide_eq_true (by omega),cond_true,qcg i (by omega),qc h1,qc h2,qi (by omega)]
   try simp (disch:=omega) only[q2j h1,Option.bind_some,List.getElem?_cons_zero,List.getElem?_cons_succ,q9,qb,qa,qn]
   try simp (disch:=omega) only[qip,Option.bind_some,List.getElem?_cons_zero,List.getElem?_cons_succ,qb,qn]
   try simp (disch:=omega) only[q2j h2,Option.bind_some,List.getElem?_cons_zero,List.getElem?_cons_succ,q9,qb,qa,qn]
   try simp (disch:=omega) only[qip,rr]
   try simp (disch:=omega) only[qim,Option.bind_some,List.getElem?_cons_zero,qb]
   try simp (disch:=omega) only[qin,Option.bind_some,List.getElem?_cons_zero,qb]
   rw[show qd 2 (.int .i64 0) [(0,iF (cmpB (Op.bytesLess bs[i].who.toList bs[i+1].who.toList) (bs[i].who.toList==bs[i+1].who.toList))),(1,iF (cmpM bs[i].seq bs[i+1].seq))]=[iF (cmpB (Op.bytesLess bs[i].who.toList bs[i+1].who.toList) (bs[i].who.toList==bs[i+1].who.toList)),iF (cmpM bs[i].seq bs[i+1].seq)] from rfl,or_run];simp (disch:=omega) only[Option.bind_some,List.getElem?_cons_zero,qb];rw[lt_or,ih (i+1) m (by omega) (by omega),List.range'_succ,List.all_cons];unfold riK;rw[show i+1-1=i from rfl,List.getElem?_eq_getElem h1,List.getElem?_eq_getElem h2];simp only;cases nmB bs[i].who bs[i].seq bs[i+1].who bs[i+1].seq <;> rfl
 have:=key (bs.length-1) 0 (n+4) (by omega) (by omega);exact this
theorem par_run{n:Nat}{b:BlkV}{i:Nat}(hi:i<bs.length):evF EnA (n+1) 183 (blkL b++[.list 8 (bs.map BlkV.fv),iF (i:Int)])=some [.list 8 (bs.map BlkV.fv),iF (i:Int),.bool (q3j bs[i] b)]:=by
 unfold blkL;simp only[List.cons_append,List.nil_append];rw[qpe,List.length_map,qc hi];simp (disch:=omega) only[q2j hi,Option.bind_some,List.getElem?_cons_zero,List.getElem?_cons_succ,qb,qn];unfold q3j;rw[toList_eq];cases decide (b.who=bs[i].who) <;> rfl
theorem qpf{n:Nat}{i:Nat}(hi:i<bs.length)(hl:bs.length<=1000000)(hn:bs.length+6<=n):evF EnA n 132 [.list 8 (bs.map BlkV.fv),iF (i:Int)]=some [iF (fIdx (q3j bs[i]) bs)]:=by
 obtain⟨n,rfl⟩:∃k,n=k+3:=⟨n-3,by omega⟩
 have h:=qar bs (q3j bs[i]) (pre:=[.list 8 (bs.map BlkV.fv),iF (i:Int)]) (F:=λm j=>q66.l2 (n+1) [] m [.list 8 (bs.map BlkV.fv),iF (i:Int),.list 8 (bs.map BlkV.fv),iF (bs.length:Int),iF (j:Int)]) (λm j hj=>by
  show q66.l2 (n+1) [] (m+1) _=_;rw[q66.qv,decide_eq_true (by omega),cond_true,List.length_map,qc hj];simp (disch:=omega) only[q2j hj,Option.bind_some,List.getElem?_cons_zero,List.getElem?_cons_succ,q9,qb,qa,qn];have:=par_run (n:=n) (b:=bs[j]) hi;unfold blkL at this;simp only[List.cons_append,List.nil_append]at this;rw[this];simp (disch:=omega) only[Option.bind_some,List.getElem?_cons_zero,List.getElem?_cons_succ,q9,qb,qa];rw[qi (by omega)];rfl) (λm=>by
  show q66.l2 (n+1) [] (m+1) _=_;rw[q66.qv,decide_eq_false (by omega),cond_false]
  rfl) bs.length 0 (n+1) (by omega) (by omega) (λj _ hj=>by omega)
 rw[qpg,qph,List.length_map];have h:q66.l2 (n+1) [] (n+1) [.list 8 (bs.map BlkV.fv),iF (i:Int),.list 8 (bs.map BlkV.fv),iF (bs.length:Int),iF 0]=_:=h;rw[h];rfl
theorem qpi{n:Nat}(hl:bs.length<=1000000)(hn:bs.length+6<=n):∀(d k i m:Nat),k+d=bs.length+1->d<m->i<bs.length ->
  q8u.l2 n [] m [.list 8 (bs.map BlkV.fv),iF (i:Int),iF ((bs.length+1:Nat):Int),iF (k:Int)]=some [.bool (pW bs d i)]:=by
 intro d
 induction d with
 |zero =>
  intro k i m hk hm hi;obtain⟨m,rfl⟩:=qSx m (by omega);rw[q8u.qv,decide_eq_false (by omega),cond_false];rfl
 |succ d ih =>
  intro k i m hk hm hi;obtain⟨m,rfl⟩:=qSx m (by omega);rw[q8u.qv,decide_eq_true (by omega),cond_true,List.length_map,qc hi,qi (by omega)];simp (disch:=omega) only[q2j hi,Option.bind_some,List.getElem?_cons_zero,List.getElem?_cons_succ,qb];unfold pW;rw[List.getElem?_eq_getElem hi];simp only;by_cases hp:bs[i].parent<=0
  ·rw[decide_eq_true hp,cond_true,if_pos hp]
  ·rw[decide_eq_false hp,cond_false,if_neg hp,qpf hi hl hn];simp (disch:=omega) only[Option.bind_some,List.getElem?_cons_zero,qb];unfold fIdx;cases hf:bs.findIdx? (q3j bs[i])with
   |none=>rfl
   |some j =>
    have hj:j<bs.length:=(List.findIdx?_eq_some_iff_getElem.1 hf).1;simp only;rw[decide_eq_false (by omega),cond_false];by_cases hji:j=i
    ·subst hji;rw[if_pos rfl,beq_self_eq_true,cond_true]
    ·rw[if_neg hji,show(((j:Nat):Int)==((i:Nat):Int))=false by simp;omega,cond_false];exact ih (k+1) j m (by omega) (by omega) hj
theorem qpj{n:Nat}{i:Nat}(hi:i<bs.length)(hl:bs.length<=1000000)(hn:bs.length+8<=n):evF EnA n 72 [.list 8 (bs.map BlkV.fv),iF (i:Int)]=some [.bool (pW bs (bs.length+1) i)]:=by
 obtain⟨n,rfl⟩:=qSx n (by omega);rw[qpk,List.length_map,qi (by omega)];exact qpi hl (by omega) (bs.length+1) 0 i n (by omega) (by omega) hi
theorem qke{n:Nat}(hg:g.lines.length<=1000000)(hs:ss.length<=1000000)(hb:bs.length<=1000000)(hq:∀b,b∈bs->b.qty.length<=1000000)(hn:ss.length+bs.length+(bs.map λb=>b.qty.length).sum+40<=n) :
  evF EnA n 18 (gL g++[.list 7 (ss.map StpV.fv),.list 8 (bs.map BlkV.fv)])=some [.bool (q2b g ss bs)]:=by
 obtain⟨n,rfl⟩:∃k,n=k+3:=⟨n-3,by omega⟩;have hgc:=qoz (g:=g) (n:=n+2) hg (by omega);unfold gL at hgc ⊢;simp only[List.cons_append,List.nil_append];rw[qpl,hgc,List.length_map,List.length_map];simp (disch:=omega) only[Option.bind_some,List.getElem?_cons_zero,qb];unfold q2b;by_cases hgv:q48 g=true
 ·obtain⟨hz,hh⟩:qu g.qe 1 3=true/\qu g.qg 1 3=true:=by
   unfold q48 at hgv;simp only[Bool.and_eq_true]at hgv;exact⟨hgv.1.1.1.1.1,hgv.1.1.1.1.2⟩
  have hz:=q3x.1 hz;have hh:=q3x.1 hh;rw[hgv,if_pos rfl];by_cases h32:ss.length<=32
  ·rw[decide_eq_true h32,decide_eq_false (show ¬ ((ss.length:Int)>32) by omega)];by_cases h12:bs.length<=12
   ·rw[decide_eq_true h12,decide_eq_false (show ¬ ((bs.length:Int)>12) by omega)];simp only[bne_self_eq_false,cond_false,Bool.true_and]
    have e19:=q1s (F:=λm i=>q1v.l19 (n+2) [] m [.list 8 (bs.map BlkV.fv),iF (bs.length:Int),iF (i:Int)]) (len:=bs.length) (P:=pW bs (bs.length+1)) (fin:=some [.bool true]) (stop:=some [.bool false]) (λm i hi=>by
     show q1v.l19 (n+2) [] (m+1) _=_;rw[q1v.q5t,decide_eq_true (by omega),cond_true,qpj hi hb (by omega),qi (by omega)];simp (disch:=omega) only[Option.bind_some,List.getElem?_cons_zero,qa];cases pW bs (bs.length+1) i <;> rfl) (λm=>by
     show q1v.l19 (n+2) [] (m+1) _=_
     rw[q1v.q5t,decide_eq_false (by omega),cond_false]) bs.length 0 (n+2) (by omega) (by omega)
    have e19:q1v.l19 (n+2) [] (n+2) [.list 8 (bs.map BlkV.fv),iF (bs.length:Int),iF 0]=_:=e19
    have e11:=q1s (F:=λm i=>q1v.l11 (n+2) [] m [iF g.qe,iF g.qg,.list 3 (g.lines.map q17.fv),iF g.low,iF g.high,.list 7 (ss.map StpV.fv),.list 8 (bs.map BlkV.fv),.raw (Go.Value.func (Go.Fn.func 65) #[] #[]),.list 8 (bs.map BlkV.fv),iF (bs.length:Int),iF (i:Int)]) (len:=bs.length) (P:=λi=>match bs[i]? with | some b=>q3k g b | none=>true) (fin:=some [.bool (q63 ss&&q4x bs&&(List.range' 0 bs.length).all (pW bs (bs.length+1)))]) (stop:=some [.bool false]) (λm i hi=>by
     show q1v.l11 (n+2) [] (m+1) _=_;have hqi:=hq bs[i] (List.getElem_mem hi);have hsum:bs[i].qty.length<=(bs.map λb=>b.qty.length).sum:=le_sum (List.mem_map.2 ⟨bs[i],List.getElem_mem hi,rfl⟩);rw[q1v.q4a,decide_eq_true (by omega),cond_true,List.length_map,qc hi,qm (x:=g.qe-1) (by omega) (by omega),qi (by omega),List.getElem?_eq_getElem hi];simp (disch:=omega) only[q2j hi,qex,Option.bind_some,List.getElem?_cons_zero,List.getElem?_cons_succ,q9,qb,qa,qn];rw[List.length_map,icon_run hqi (by omega)];simp (disch:=omega) only[Option.bind_some,List.getElem?_cons_zero,qa];unfold q3k;rw[show(((bs[i].qty.length:Int)) !=g.qg)=!decide ((bs[i].qty.length:Int)=g.qg) by simp[bne,BEq.beq]];by_cases hlen:(bs[i].qty.length:Int)=g.qg
     ·by_cases hall:bs[i].qty.all (λq=>qu q 0 1000)=true
      ·obtain⟨w,hw1,hw2⟩:=max_run (n:=n+2) hqi (λe=>by rw[e]at hlen;simp at hlen;omega) hall (by omega);rw[hw1];simp (disch:=omega) only[Option.bind_some,List.getElem?_cons_zero,qb];rw[hall,decide_eq_true hlen,<- hw2];cases qu bs[i].zone 0 (g.qe-1) <;> cases qu bs[i].qk g.low g.high <;> cases(w==0) <;> rfl
      ·rw[Bool.eq_false_iff.2 hall,decide_eq_true hlen];cases qu bs[i].zone 0 (g.qe-1) <;> cases qu bs[i].qk g.low g.high <;> rfl
     ·rw[decide_eq_false hlen];cases qu bs[i].zone 0 (g.qe-1) <;> cases qu bs[i].qk g.low g.high <;> rfl) (λm=>by
     show q1v.l11 (n+2) [] (m+1) _=_;rw[q1v.q4a,decide_eq_false (by omega),cond_false,rises_run hs (by omega),risek_run hb (by omega),List.length_map];simp (disch:=omega) only[Option.bind_some,List.getElem?_cons_zero,qa];rw[e19]
     cases q63 ss <;> cases q4x bs <;> cases(List.range' 0 bs.length).all (pW bs (bs.length+1)) <;> rfl) bs.length 0 (n+2) (by omega) (by omega)
    rw[q49 bs (q3k g) (λi hi=>by rw[List.getElem?_eq_getElem hi])]at e11;have e11:q1v.l11 (n+2) [] (n+2) [iF g.qe,iF g.qg,.list 3 (g.lines.map q17.fv),iF g.low,iF g.high,.list 7 (ss.map StpV.fv),.list 8 (bs.map BlkV.fv),.raw (Go.Value.func (Go.Fn.func 65) #[] #[]),.list 8 (bs.map BlkV.fv),iF (bs.length:Int),iF 0]=_:=e11;have e4:=q1s (F:=λm i=>q1v.l4 (n+2) [] m [iF g.qe,iF g.qg,.list 3 (g.lines.map q17.fv),iF g.low,iF g.high,.list 7 (ss.map StpV.fv),.list 8 (bs.map BlkV.fv),.list 7 (ss.map StpV.fv),iF (ss.length:Int),iF (i:Int)]) (len:=ss.length) (P:=λi=>match ss[i]? with | some s=>q3i g s | none=>true)
     (fin:=bif bs.all (q3k g)then some [.bool (q63 ss&&q4x bs&&(List.range' 0 bs.length).all (pW bs (bs.length+1)))]else some [.bool false]) (stop:=some [.bool false]) (λm i hi=>by
     show q1v.l4 (n+2) [] (m+1) _=_;rw[q1v.q13,decide_eq_true (by omega),cond_true,List.length_map,qc hi,qm (x:=g.qe-1) (by omega) (by omega),qm (x:=g.qg-1) (by omega) (by omega),qi (by omega),List.getElem?_eq_getElem hi];simp (disch:=omega) only[q3z hi,qex,Option.bind_some,List.getElem?_cons_zero,List.getElem?_cons_succ,qb,qa,qn];unfold q3i;cases qu ss[i].zone 0 (g.qe-1) <;> cases qu ss[i].hour 0 (g.qg-1) <;> cases qu ss[i].qty 1 1000 <;> cases qu ss[i].qk g.low g.high <;> rfl) (λm=>by
     show q1v.l4 (n+2) [] (m+1) _=_
     rw[q1v.q13,decide_eq_false (by omega),cond_false,List.length_map,e11]) ss.length 0 (n+2) (by omega) (by omega)
    rw[q49 ss (q3i g) (λi hi=>by rw[List.getElem?_eq_getElem hi])]at e4;have e4:q1v.l4 (n+2) [] (n+2) [iF g.qe,iF g.qg,.list 3 (g.lines.map q17.fv),iF g.low,iF g.high,.list 7 (ss.map StpV.fv),.list 8 (bs.map BlkV.fv),.list 7 (ss.map StpV.fv),iF (ss.length:Int),iF 0]=_:=e4;rw[e4];cases ss.all (q3i g) <;> cases bs.all (q3k g) <;> cases q63 ss <;> cases q4x bs <;> rfl
   ·rw[decide_eq_false h12,decide_eq_true (show((bs.length:Int)>12) by omega)];simp
  ·rw[decide_eq_false h32,decide_eq_true (show((ss.length:Int)>32) by omega)];simp
 ·rw[Bool.eq_false_iff.2 hgv];simp
end
end Rf
end
section
/- Which orders may be: the document's answer is the same. -/
set_option maxHeartbeats 2000000
namespace Rf
open Go
section
variable {g:q1g} {ss:List StpV} {bs:List BlkV}
def rIdx(bs:List BlkV)(i:Nat)(b:BlkV):Int:=match rN bs i b with | some j=>(j:Int) | none=>-2
theorem rpar_run{n:Nat}{i:Nat}(hi:i<bs.length)(hl:bs.length<=1000000)(hn:bs.length+3<=n):evF EnA n 76 [.list 8 (bs.map BlkV.fv),iF (i:Int)]=some [iF (if bs[i].parent<=0 then -1 else rIdx bs i bs[i])]:=by
 obtain⟨n,rfl⟩:=qSx n (by omega);rw[qom,List.length_map,qc hi];simp (disch:=omega) only[q2j hi,Option.bind_some,List.getElem?_cons_zero,List.getElem?_cons_succ,qb];by_cases hp:bs[i].parent<=0
 ·rw[decide_eq_true hp,cond_true,if_pos hp]
 rw[decide_eq_false hp,cond_false,if_neg hp];have key:∀(d k m:Nat),k+d=bs.length->d<m->(∀j,j<k->(j !=i&&((bs[j]?).map (q3j bs[i])).getD false)=false) ->
   q62.l4 n [] m [.list 8 (bs.map BlkV.fv),iF (i:Int),iF (k:Int)]=some [iF (rIdx bs i bs[i])]:=by
  intro d
  induction d with
  |zero =>
   intro k m hk hm hno;obtain⟨m,rfl⟩:=qSx m (by omega);have:rN bs i bs[i]=none:=by
    unfold rN;exact List.find?_eq_none.2 λj hj=>by
     have:=hno j (by have:=List.mem_range.1 hj;omega);simpa using this
   rw[q62.q13,List.length_map,decide_eq_false (by omega),cond_false];unfold rIdx;rw[this]
  |succ d ih =>
   intro k m hk hm hno;obtain⟨m,rfl⟩:=qSx m (by omega);have hkl:k<bs.length:=by omega
   have next:(k !=i&&q3j bs[i] bs[k])=false->q62.l4 n [] m [.list 8 (bs.map BlkV.fv),iF (i:Int),iF ((k+1:Nat):Int)]=some [iF (rIdx bs i bs[i])]:=λhf =>
    ih (k+1) m (by omega) (by omega) λj hj=>by
     by_cases hjk:j=k
     ·subst hjk;rw[List.getElem?_eq_getElem hkl];exact hf
     ·exact hno j (by omega)
   rw[q62.q13,List.length_map,decide_eq_true (by omega),cond_true,qc hkl,qc hi,qi (by omega)];simp (disch:=omega) only[q2j hkl,q2j hi,Option.bind_some,List.getElem?_cons_zero,List.getElem?_cons_succ,qb,qn];rw[show(((k:Nat):Int) !=((i:Nat):Int))=(k !=i) by simp[bne,BEq.beq];omega,toList_eq];cases hki:(k !=i)with
   |false =>
    rw[cond_false];exact next (by rw[hki];rfl)
   |true =>
    rw[cond_true];by_cases hw:bs[k].who=bs[i].who
    ·rw[decide_eq_true hw,cond_true];by_cases hs:bs[k].seq=bs[i].parent
     ·rw[show(bs[k].seq==bs[i].parent)=true by simpa using hs,cond_true];have hp2:q3j bs[i] bs[k]=true:=q9u.2 ⟨hw,hs⟩;have:rN bs i bs[i]=some k:=by
       unfold rN;rw[List.find?_range_eq_some];refine⟨by rw[List.getElem?_eq_getElem hkl,hki];exact hp2,List.mem_range.2 hkl,λj hj=>?_⟩;have h5:=hno j hj;by_cases hji:j=i
       ·simp[hji]
       ·simpa[hji]using h5
      unfold rIdx;rw[this]
     ·rw[show(bs[k].seq==bs[i].parent)=false by simpa using hs,cond_false];exact next (by rw[hki,Bool.true_and];exact Bool.eq_false_iff.2 λq=>hs (q9u.1 q).2)
    ·rw[decide_eq_false hw,cond_false];exact next (by rw[hki,Bool.true_and];exact Bool.eq_false_iff.2 λq=>hw (q9u.1 q).1)
 exact key bs.length 0 n (by omega) (by omega) (λj hj=>by omega)
theorem qon(bs:List BlkV)(i:Nat)(b:BlkV):(rN bs i b=none/\rIdx bs i b=-2)\/∃j,rN bs i b=some j/\rIdx bs i b=(j:Int)/\j<bs.length:=by
 unfold rIdx;cases h:rN bs i b with
 |none=>exact .inl ⟨rfl,rfl⟩
 |some j =>
  obtain⟨_,c,hc,_⟩:=qcf h;exact .inr ⟨j,rfl,rfl,(List.getElem?_eq_some_iff.1 hc).1⟩
theorem walk_loop{n:Nat}(hl:bs.length<=1000000)(hn:bs.length+5<=n){x6:Int}{m0:Nat}:∀(d k j m:Nat),k+d=bs.length+1->d+1<m->j<bs.length ->
  q1f.l19 n [m0] m [iF g.qe,iF g.qg,.list 3 (g.lines.map q17.fv),iF g.low,iF g.high,.list 8 (bs.map BlkV.fv),iF x6,iF (j:Int),iF (k:Int)] =
   bif rW bs d j then q1f.l12 n [] m0 [iF g.qe,iF g.qg,.list 3 (g.lines.map q17.fv),iF g.low,iF g.high,.list 8 (bs.map BlkV.fv),iF (IntKind.wrap .i64 (x6+1))]else some [.bool false]:=by
 intro d
 induction d with
 |zero =>
  intro k j m hk hm hj;obtain⟨m,rfl⟩:=qSx m (by omega);rw[q1f.q5t,decide_eq_true (by omega),cond_true,List.length_map,decide_eq_true (by omega),cond_true];rfl
 |succ d ih =>
  intro k j m hk hm hj;obtain⟨m,rfl⟩:=qSx m (by omega);rw[q1f.q5t,decide_eq_true (by omega),cond_true,List.length_map,decide_eq_false (by omega),cond_false,rpar_run hj hl (by omega),qi (i:=k) (by omega)];simp (disch:=omega) only[Option.bind_some,List.getElem?_cons_zero,qb];unfold rW;rw[List.getElem?_eq_getElem hj];simp only;by_cases hp:bs[j].parent<=0
  ·rw[if_pos hp,if_pos hp,cond_true];obtain⟨m,rfl⟩:=qSx m (by omega);rw[q1f.q5t,decide_eq_false (by omega),cond_false];rfl
  ·rw[if_neg hp,if_neg hp];rcases qon bs j bs[j]with⟨h1,h2⟩ | ⟨j',h1,h2,h3⟩
   ·rw[h1,h2];obtain⟨m,rfl⟩:=qSx m (by omega);rw[q1f.q5t,decide_eq_false (by omega),cond_false];rfl
   ·rw[h1,h2];exact ih (k+1) j' m (by omega) (by omega) h3
def wblk(g:q1g)(bs:List BlkV)(i:Nat):Bool:=match bs[i]? with | some b=>q3k g b | none=>true
def wri(P:Nat->Bool)(i:Nat):Bool:=i==0||P i
theorem qig(i:Nat):decide (((i+1:Nat):Int)>0)=true:=decide_eq_true (by omega)
theorem qoo{n m i:Nat}(hz:1<=g.qe/\g.qe<=3)(hl:bs.length<=1000000)(hq:∀b,b∈bs->b.qty.length<=1000000)(hn:bs.length+(bs.map λb=>b.qty.length).sum+10<=n)(hi:i<bs.length) :
  q1f.l12 n [] (m+1) [iF g.qe,iF g.qg,.list 3 (g.lines.map q17.fv),iF g.low,iF g.high,.list 8 (bs.map BlkV.fv),iF (i:Int)] =
   bif(q3k g bs[i]&&wri (riK bs) i&&rW bs (bs.length+1) i)then q1f.l12 n [] m [iF g.qe,iF g.qg,.list 3 (g.lines.map q17.fv),iF g.low,iF g.high,.list 8 (bs.map BlkV.fv),iF ((i+1:Nat):Int)]else some [.bool false]:=by
 have hqi:=hq bs[i] (List.getElem_mem hi);have hsum:bs[i].qty.length<=(bs.map λb=>b.qty.length).sum:=le_sum (List.mem_map.2 ⟨bs[i],List.getElem_mem hi,rfl⟩);have hblk:=block_run (g:=g) hz (n:=n) (b:=bs[i]) hqi (by omega);unfold gL blkL at hblk;simp only[List.cons_append,List.nil_append]at hblk;have hwalk:=walk_loop (g:=g) (n:=n) (x6:=(i:Int)) (m0:=m) hl (by omega) (bs.length+1) 0 i n (by omega) (by omega) hi;rw[qi (by omega)]at hwalk;have hwalk:q1f.l19 n [m] n [iF g.qe,iF g.qg,.list 3 (g.lines.map q17.fv),iF g.low,iF g.high,.list 8 (bs.map BlkV.fv),iF (i:Int),iF (i:Int),iF 0]=_:=hwalk;rw[q1f.q77,List.length_map,decide_eq_true (by omega),cond_true,qc hi];simp (disch:=omega) only[q2j hi,Option.bind_some,List.getElem?_cons_zero,List.getElem?_cons_succ,q9,qb,qa,qn];rw[hblk];simp (disch:=omega) only[Option.bind_some,List.getElem?_cons_zero,qa];cases hb:q3k g bs[i]with
 |false=>rfl
 |true =>
  simp only[Bool.not_true,cond_false,Bool.true_and];cases i with
  |zero =>
   rw[decide_eq_false (by omega),cond_false,hwalk];rfl
  |succ j =>
   have hj:j<bs.length:=by omega
   rw[qig,cond_true,qcg j (by omega),qc hj];simp (disch:=omega) only[q2j hj,Option.bind_some,List.getElem?_cons_zero,List.getElem?_cons_succ,qb,qn];rw[hwalk];have e:wri (riK bs) (j+1)=nmB bs[j].who bs[j].seq bs[j+1].who bs[j+1].seq:=by
    unfold wri riK;rw[show j+1-1=j from rfl,List.getElem?_eq_getElem hj,List.getElem?_eq_getElem hi];rfl
   rw[e,qih];cases Op.bytesLess bs[j].who.toList bs[j+1].who.toList <;> cases(bs[j].who.toList==bs[j+1].who.toList) <;> cases decide (bs[j].seq≥bs[j+1].seq) <;> cases rW bs (bs.length+1) (j+1) <;> rfl
theorem qop{n m i:Nat}(hz:1<=g.qe/\g.qe<=3)(hh:1<=g.qg/\g.qg<=3)(hl:ss.length<=1000000)(hn:1<=n)(hi:i<ss.length) :
  q1f.l4 n [] (m+1) [iF g.qe,iF g.qg,.list 3 (g.lines.map q17.fv),iF g.low,iF g.high,.list 7 (ss.map StpV.fv),.list 8 (bs.map BlkV.fv),iF (i:Int)] =
   bif(q3i g ss[i]&&wri (riS ss) i)then q1f.l4 n [] m [iF g.qe,iF g.qg,.list 3 (g.lines.map q17.fv),iF g.low,iF g.high,.list 7 (ss.map StpV.fv),.list 8 (bs.map BlkV.fv),iF ((i+1:Nat):Int)]else some [.bool false]:=by
 obtain⟨n,rfl⟩:=qSx n (by omega);rw[q1f.q13,List.length_map,decide_eq_true (by omega),cond_true,qc hi,qm (x:=g.qe-1) (by omega) (by omega),qm (x:=g.qg-1) (by omega) (by omega),qi (by omega)];simp (disch:=omega) only[q3z hi,qew,Option.bind_some,List.getElem?_cons_zero,List.getElem?_cons_succ,qb,qa,qn];unfold q3i;cases i with
 |zero =>
  rw[decide_eq_false (show ¬ (((0:Nat):Int)>0) by omega)];cases qu ss[0].zone 0 (g.qe-1) <;> cases qu ss[0].hour 0 (g.qg-1) <;> cases qu ss[0].qty 1 1000 <;> cases qu ss[0].qk g.low g.high <;> rfl
 |succ j =>
  have hj:j<ss.length:=by omega
  rw[qig,cond_true,qcg j (by omega),qc hj];simp (disch:=omega) only[q3z hj,Option.bind_some,List.getElem?_cons_zero,List.getElem?_cons_succ,qb,qn];have e:wri (riS ss) (j+1)=nmB ss[j].who ss[j].seq ss[j+1].who ss[j+1].seq:=by
   unfold wri riS;rw[show j+1-1=j from rfl,List.getElem?_eq_getElem hj,List.getElem?_eq_getElem hi];rfl
  rw[e,qih];cases qu ss[j+1].zone 0 (g.qe-1)
  ·rfl
  cases qu ss[j+1].hour 0 (g.qg-1)
  ·rfl
  cases qu ss[j+1].qty 1 1000
  ·rfl
  cases qu ss[j+1].qk g.low g.high
  ·rfl
  cases Op.bytesLess ss[j].who.toList ss[j+1].who.toList <;> cases(ss[j].who.toList==ss[j+1].who.toList) <;> cases decide (ss[j].seq≥ss[j+1].seq) <;> rfl
theorem qb4{P Q:Nat->Bool}(l:List Nat):l.all (λi=>P i&&Q i)=(l.all P&&l.all Q):=by
 induction l with
 |nil=>rfl
 |cons x l ih =>
  rw[List.all_cons,List.all_cons,List.all_cons,ih];cases P x <;> cases Q x <;> cases l.all P <;> cases l.all Q <;> rfl
theorem all_wri{P:Nat->Bool}(n:Nat):(List.range' 0 n).all (wri P)=(List.range' 1 (n-1)).all P:=by
 cases n with
 |zero=>rfl
 |succ n =>
  rw[List.range'_succ,List.all_cons,show wri P 0=true from rfl,Bool.true_and,show n+1-1=n from rfl];rw[Bool.eq_iff_iff,List.all_eq_true,List.all_eq_true];constructor
  ·intro h i hi;have:=h i hi;have h0:i≠0:=by rw[List.mem_range'_1]at hi;omega
   unfold wri at this;simpa[h0]using this
  ·intro h i hi;unfold wri;rw[h i hi];simp
theorem bl_iff(a b:ByteArray):Op.bytesLess a.toList b.toList=true↔a.toList<b.toList:=by
 rw[Go.Proofs.bytesLess_eq];simp
theorem nmB_iff{a b:ByteArray}{m n:Int}:nmB a m b n=true↔nmLt a m b n:=by
 unfold nmB nmLt;rw[Bool.or_eq_true,bl_iff,Bool.and_eq_true,toList_eq,decide_eq_true_eq,decide_eq_true_eq]
theorem qoq(h:q4x bs=true):Uniq bs:=by
 refine Rise.uniq λi a b ha hb=>?_;unfold q4x at h;have hlt:=(List.getElem?_eq_some_iff.1 hb).1;have:=List.all_eq_true.1 h (i+1) (by rw[List.mem_range'_1];omega);rw[show i+1-1=i from rfl,ha,hb]at this;exact nmB_iff.1 this
theorem qkf{n:Nat}(hg:g.lines.length<=1000000)(hs:ss.length<=1000000)(hb:bs.length<=1000000)(hq:∀b,b∈bs->b.qty.length<=1000000)(hn:ss.length+bs.length+(bs.map λb=>b.qty.length).sum+40<=n) :
  evF EnA n 19 (gL g++[.list 7 (ss.map StpV.fv),.list 8 (bs.map BlkV.fv)])=some [.bool (q2b g ss bs)]:=by
 obtain⟨n,rfl⟩:∃k,n=k+3:=⟨n-3,by omega⟩;have hgc:=qor (g:=g) (n:=n+2) hg (by omega);unfold gL at hgc ⊢;simp only[List.cons_append,List.nil_append];rw[qos,hgc,List.length_map,List.length_map];simp (disch:=omega) only[Option.bind_some,List.getElem?_cons_zero,qb];unfold q2b;by_cases hgv:q48 g=true
 ·obtain⟨hz,hh⟩:qu g.qe 1 3=true/\qu g.qg 1 3=true:=by
   unfold q48 at hgv;simp only[Bool.and_eq_true]at hgv;exact⟨hgv.1.1.1.1.1,hgv.1.1.1.1.2⟩
  have hz:=q3x.1 hz;have hh:=q3x.1 hh;rw[hgv,if_pos rfl];by_cases h32:ss.length<=32
  ·rw[decide_eq_true h32,decide_eq_false (show ¬ ((ss.length:Int)>32) by omega)];by_cases h12:bs.length<=12
   ·rw[decide_eq_true h12,decide_eq_false (show ¬ ((bs.length:Int)>12) by omega)];simp only[bne_self_eq_false,cond_false,Bool.true_and]
    have e12:=q1s (F:=λm i=>q1f.l12 (n+2) [] m [iF g.qe,iF g.qg,.list 3 (g.lines.map q17.fv),iF g.low,iF g.high,.list 8 (bs.map BlkV.fv),iF (i:Int)]) (len:=bs.length) (P:=λi=>(wblk g bs i&&wri (riK bs) i)&&rW bs (bs.length+1) i) (fin:=some [.bool true]) (stop:=some [.bool false]) (λm i hi=>by
     have:=qoo (g:=g) (m:=m) (n:=n+2) hz hb hq (by omega) hi;unfold wblk;rw[List.getElem?_eq_getElem hi];exact this) (λm=>by
     show q1f.l12 (n+2) [] (m+1) _=_
     rw[q1f.q77,List.length_map,decide_eq_false (by omega),cond_false]) bs.length 0 (n+2) (by omega) (by omega)
    have e12:q1f.l12 (n+2) [] (n+2) [iF g.qe,iF g.qg,.list 3 (g.lines.map q17.fv),iF g.low,iF g.high,.list 8 (bs.map BlkV.fv),iF 0]=_:=e12;have e4:=q1s (F:=λm i=>q1f.l4 (n+2) [] m [iF g.qe,iF g.qg,.list 3 (g.lines.map q17.fv),iF g.low,iF g.high,.list 7 (ss.map StpV.fv),.list 8 (bs.map BlkV.fv),iF (i:Int)]) (len:=ss.length) (P:=λi=>(match ss[i]? with | some s=>q3i g s | none=>true)&&wri (riS ss) i)
     (fin:=q1f.l12 (n+2) [] (n+2) [iF g.qe,iF g.qg,.list 3 (g.lines.map q17.fv),iF g.low,iF g.high,.list 8 (bs.map BlkV.fv),iF 0]) (stop:=some [.bool false]) (λm i hi=>by
     have:=qop (g:=g) (bs:=bs) (m:=m) (n:=n+2) hz hh hs (by omega) hi;rw[List.getElem?_eq_getElem hi];exact this) (λm=>by
     show q1f.l4 (n+2) [] (m+1) _=_
     rw[q1f.q13,List.length_map,decide_eq_false (by omega),cond_false]) ss.length 0 (n+2) (by omega) (by omega)
    have e4:q1f.l4 (n+2) [] (n+2) [iF g.qe,iF g.qg,.list 3 (g.lines.map q17.fv),iF g.low,iF g.high,.list 7 (ss.map StpV.fv),.list 8 (bs.map BlkV.fv),iF 0]=_:=e4
    rw[e4,e12,qb4,qb4,qb4,all_wri,all_wri,q49 ss (q3i g) (λi hi=>by rw[List.getElem?_eq_getElem hi]),q49 bs (q3k g) (λi hi=>by unfold wblk;rw[List.getElem?_eq_getElem hi]),
     show(List.range' 1 (ss.length-1)).all (riS ss)=q63 ss from rfl,show(List.range' 1 (bs.length-1)).all (riK bs)=q4x bs from rfl]
    by_cases hr:q4x bs=true
    ·rw[show(List.range' 0 bs.length).all (rW bs (bs.length+1))=(List.range' 0 bs.length).all (pW bs (bs.length+1)) from qb9 λi _=>(qii (qoq hr) _ _).symm,hr];cases ss.all (q3i g) <;> cases bs.all (q3k g) <;> cases q63 ss <;> cases(List.range' 0 bs.length).all (pW bs (bs.length+1)) <;> rfl
    ·rw[Bool.eq_false_iff.2 hr];cases ss.all (q3i g) <;> cases bs.all (q3k g) <;> cases q63 ss <;> rfl
   ·rw[decide_eq_false h12,decide_eq_true (show((bs.length:Int)>12) by omega)];simp
  ·rw[decide_eq_false h32,decide_eq_true (show((ss.length:Int)>32) by omega)];simp
 ·rw[Bool.eq_false_iff.2 hgv];simp
end
end Rf
end
section
/- Numbers as contracts: what each comes to. -/
set_option maxHeartbeats 2000000
namespace Rf
open Go
def Sz(q:Rat):Prop:=Bd 1000000000 q
theorem Sz.of{q:Rat}{k:Nat}(h:Bd k q)(hk:k<=1000000000):Sz q:=h.mono hk
def ratF(q:Rat):FV:=.agg [zl (q).num,zb (q).num,nL (q).den,.bool false]
def qq(q:Rat):FV:=.agg [zb (q).num,wl (q).num,.bool false,wL (q).den]
theorem rat_at{L:List Rat}{i:Nat}(h:i<L.length)(c:Nat):at' (L.map ratF) i c=[zl (L[i]).num,zb (L[i]).num,nL (L[i]).den,.bool false][c]?:=by rw[q23,List.getElem?_eq_getElem h];rfl
theorem tx_at{X:List Txt}{i:Nat}(h:i<X.length):at' (X.map sF) i 0=some (sF X[i]):=by rw[q23,List.getElem?_eq_getElem h];rfl
theorem q81{X:List Bool}{i:Nat}(h:i<X.length):at' (X.map FV.bool) i 0=some (.bool X[i]):=by rw[q23,List.getElem?_eq_getElem h];rfl
section
variable {n:Nat} {q r:Rat} {d e:Nat}
theorem a_of{z:Int}(h1:-9223372036854775808<=z)(h2:z<=9223372036854775807):evF EnA (n+1) 111 [iF z]=some [zl ((z:Rat)).num,zb ((z:Rat)).num,nL ((z:Rat)).den,.bool false]:=by
 have:evF EnA (n+1) 111 [iF z]=limO En 111 [iF z]:=by kernel_rfl
 rw[this];exact q1h (of_ev h1 h2)
theorem a_add(hq:Sz q)(hr:Sz r)(hd:dn d=q.den)(he:dn e=r.den):evF EnA (n+1) 113 [zl (q).num,zb (q).num,nL (d),.bool false,zl (r).num,zb (r).num,nL (e),.bool false]=some [zl (q+r).num,zb (q+r).num,nL (q+r).den,.bool false]:=by
 have:evF EnA (n+1) 113 [zl (q).num,zb (q).num,nL (d),.bool false,zl (r).num,zb (r).num,nL (e),.bool false]=limO En 113 [zl (q).num,zb (q).num,nL (d),.bool false,zl (r).num,zb (r).num,nL (e),.bool false]:=by kernel_rfl
 rw[this];exact q1h (radd_ev (by omega) (by omega) hq hr hd he)
theorem a_sub(hq:Sz q)(hr:Sz r)(hd:dn d=q.den)(he:dn e=r.den):evF EnA (n+1) 112 [zl (q).num,zb (q).num,nL (d),.bool false,zl (r).num,zb (r).num,nL (e),.bool false]=some [zl (q-r).num,zb (q-r).num,nL (q-r).den,.bool false]:=by
 have:evF EnA (n+1) 112 [zl (q).num,zb (q).num,nL (d),.bool false,zl (r).num,zb (r).num,nL (e),.bool false]=limO En 112 [zl (q).num,zb (q).num,nL (d),.bool false,zl (r).num,zb (r).num,nL (e),.bool false]:=by kernel_rfl
 rw[this];exact q1h (rsub_ev (by omega) (by omega) hq hr hd he)
theorem a_mul(hq:Sz q)(hr:Sz r)(hd:dn d=q.den)(he:dn e=r.den):evF EnA (n+1) 154 [zl (q).num,zb (q).num,nL (d),.bool false,zl (r).num,zb (r).num,nL (e),.bool false]=some [zl (q*r).num,zb (q*r).num,nL (q*r).den,.bool false]:=by
 have:evF EnA (n+1) 154 [zl (q).num,zb (q).num,nL (d),.bool false,zl (r).num,zb (r).num,nL (e),.bool false]=limO En 154 [zl (q).num,zb (q).num,nL (d),.bool false,zl (r).num,zb (r).num,nL (e),.bool false]:=by kernel_rfl
 rw[this];exact q1h (rmul_ev (by omega) (by omega) hq hr hd he)
theorem a_neg(hq:Sz q)(hd:dn d=q.den):evF EnA (n+1) 169 [zl (q).num,zb (q).num,nL (d),.bool false]=some [zl (-q).num,zb (-q).num,nL (-q).den,.bool false]:=by
 have:evF EnA (n+1) 169 [zl (q).num,zb (q).num,nL (d),.bool false]=limO En 169 [zl (q).num,zb (q).num,nL (d),.bool false]:=by kernel_rfl
 rw[this];exact q1h (rneg_ev (by omega) hq hd)
theorem a_sign(hq:Sz q){l:List FV}{b:Bool}:evF EnA (n+1) 115 [zl q.num,zb q.num,.list 1 l,.bool b]=some [iF q.num.sign]:=by
 have:evF EnA (n+1) 115 [zl q.num,zb q.num,.list 1 l,.bool b]=limO En 115 [zl q.num,zb q.num,.list 1 l,.bool b]:=by kernel_rfl
 rw[this];exact q1h (rsign_ev (k:=1000000000) (by omega) hq)
def cmpQ(q r:Rat):Int:=q26 (q.num*(r.den:Int)) (r.num*(q.den:Int))
theorem q5i(hq:Sz q)(hr:Sz r)(hd:dn d=q.den)(he:dn e=r.den):evF EnA (n+1) 116 [zl (q).num,zb (q).num,nL (d),.bool false,zl (r).num,zb (r).num,nL (e),.bool false]=some [iF (cmpQ q r)]:=by
 have:evF EnA (n+1) 116 [zl (q).num,zb (q).num,nL (d),.bool false,zl (r).num,zb (r).num,nL (e),.bool false]=limO En 116 [zl (q).num,zb (q).num,nL (d),.bool false,zl (r).num,zb (r).num,nL (e),.bool false]:=by kernel_rfl
 rw[this];exact q1h (rcmp_ev (k:=1000000000) (by omega) hq hr hd he)
theorem a_text(hq:Sz q)(hd:dn d=q.den):evF EnA (n+1) 167 [zl (q).num,zb (q).num,nL (d),.bool false]=some [sF (qz q)]:=by
 have:evF EnA (n+1) 167 [zl (q).num,zb (q).num,nL (d),.bool false]=limO En 167 [zl (q).num,zb (q).num,nL (d),.bool false]:=by kernel_rfl
 rw[this];exact q1h (qa8 (by omega) (by omega) hq hd)
theorem qbg{t:Txt}(h:pr t=some q)(hl:t.length<=100000000):evF EnA (n+1) 118 [sF t]=some [zl (q).num,zb (q).num,nL (q).den,.bool false,iF 0]:=by
 have:evF EnA (n+1) 118 [sF t]=limO En 118 [sF t]:=by kernel_rfl
 rw[this];exact q1h (qgt h hl)
theorem a_bad{t:Txt}(h:pr t=none)(hl:t.length<=100000000):evF EnA (n+1) 118 [sF t]=some [.list 1 [],.bool false,.list 1 [],.bool false,iF 10]:=by
 have:evF EnA (n+1) 118 [sF t]=limO En 118 [sF t]:=by kernel_rfl
 rw[this];exact q1h (qgu h hl)
theorem w_of{z:Int}(h1:-9223372036854775808<=z)(h2:z<=9223372036854775807):evF EnA (n+1) 12 [iF z]=some [zb ((z:Rat)).num,wl ((z:Rat)).num,.bool false,wL ((z:Rat)).den]:=by
 have:evF EnA (n+1) 12 [iF z]=limO En 12 [iF z]:=by kernel_rfl
 rw[this];exact q1h (qa9 h1 h2)
theorem w_add(hq:Sz q)(hr:Sz r)(hd:dn d=q.den)(he:dn e=r.den):evF EnA (n+1) 37 [zb (q).num,wl (q).num,.bool false,wL (d),zb (r).num,wl (r).num,.bool false,wL (e)]=some [zb (q+r).num,wl (q+r).num,.bool false,wL (q+r).den]:=by
 have:evF EnA (n+1) 37 [zb (q).num,wl (q).num,.bool false,wL (d),zb (r).num,wl (r).num,.bool false,wL (e)]=limO En 37 [zb (q).num,wl (q).num,.bool false,wL (d),zb (r).num,wl (r).num,.bool false,wL (e)]:=by kernel_rfl
 rw[this];exact q1h (qbh (by omega) hq hr hd he)
theorem w_sub(hq:Sz q)(hr:Sz r)(hd:dn d=q.den)(he:dn e=r.den):evF EnA (n+1) 92 [zb (q).num,wl (q).num,.bool false,wL (d),zb (r).num,wl (r).num,.bool false,wL (e)]=some [zb (q-r).num,wl (q-r).num,.bool false,wL (q-r).den]:=by
 have:evF EnA (n+1) 92 [zb (q).num,wl (q).num,.bool false,wL (d),zb (r).num,wl (r).num,.bool false,wL (e)]=limO En 92 [zb (q).num,wl (q).num,.bool false,wL (d),zb (r).num,wl (r).num,.bool false,wL (e)]:=by kernel_rfl
 rw[this];exact q1h (qgv (by omega) hq hr hd he)
theorem w_mul(hq:Sz q)(hr:Sz r)(hd:dn d=q.den)(he:dn e=r.den):evF EnA (n+1) 13 [zb (q).num,wl (q).num,.bool false,wL (d),zb (r).num,wl (r).num,.bool false,wL (e)]=some [zb (q*r).num,wl (q*r).num,.bool false,wL (q*r).den]:=by
 have:evF EnA (n+1) 13 [zb (q).num,wl (q).num,.bool false,wL (d),zb (r).num,wl (r).num,.bool false,wL (e)]=limO En 13 [zb (q).num,wl (q).num,.bool false,wL (d),zb (r).num,wl (r).num,.bool false,wL (e)]:=by kernel_rfl
 rw[this];exact q1h (qbi (by omega) hq hr hd he)
theorem w_neg(hd:dn d=q.den):evF EnA (n+1) 39 [zb (q).num,wl (q).num,.bool false,wL (d)]=some [zb (-q).num,wl (-q).num,.bool false,wL (-q).den]:=by
 have:evF EnA (n+1) 39 [zb (q).num,wl (q).num,.bool false,wL (d)]=limO En 39 [zb (q).num,wl (q).num,.bool false,wL (d)]:=by kernel_rfl
 rw[this];exact q1h (qdi hd)
theorem w_sign{l:List FV}{b:Bool}:evF EnA (n+1) 38 [zb q.num,wl q.num,.bool b,.list 1 l]=some [iF q.num.sign]:=by
 have:evF EnA (n+1) 38 [zb q.num,wl q.num,.bool b,.list 1 l]=limO En 38 [zb q.num,wl q.num,.bool b,.list 1 l]:=by kernel_rfl
 rw[this];exact q1h (Ev.of 1 λm hm=>by obtain⟨m,rfl⟩:=qSx m (by omega);exact qlw)
theorem q4d(hq:Sz q)(hr:Sz r)(hd:dn d=q.den)(he:dn e=r.den):evF EnA (n+1) 32 [zb (q).num,wl (q).num,.bool false,wL (d),zb (r).num,wl (r).num,.bool false,wL (e)]=some [iF (cmpQ q r)]:=by
 have:evF EnA (n+1) 32 [zb (q).num,wl (q).num,.bool false,wL (d),zb (r).num,wl (r).num,.bool false,wL (e)]=limO En 32 [zb (q).num,wl (q).num,.bool false,wL (d),zb (r).num,wl (r).num,.bool false,wL (e)]:=by kernel_rfl
 rw[this];exact q1h (wrcmp_ev (k:=1000000000) (by omega) hq hr hd he)
theorem w_text(hq:Sz q)(hd:dn d=q.den):evF EnA (n+1) 14 [zb (q).num,wl (q).num,.bool false,wL (d)]=some [sF (qz q)]:=by
 have:evF EnA (n+1) 14 [zb (q).num,wl (q).num,.bool false,wL (d)]=limO En 14 [zb (q).num,wl (q).num,.bool false,wL (d)]:=by kernel_rfl
 rw[this];exact q1h (qaa (by omega) hq hd)
theorem w_parse{t:Txt}(h:pr t=some q)(hl:t.length<=100000000):evF EnA (n+1) 22 [sF t]=some [zb (q).num,wl (q).num,.bool false,wL (q).den,iF 0]:=by
 have:evF EnA (n+1) 22 [sF t]=limO En 22 [sF t]:=by kernel_rfl
 rw[this];exact q1h (qgw h hl)
theorem w_bad{t:Txt}(h:pr t=none)(hl:t.length<=100000000):evF EnA (n+1) 22 [sF t]=some [.bool false,.list 1 [],.bool false,.list 1 [],iF 10]:=by
 have:evF EnA (n+1) 22 [sF t]=limO En 22 [sF t]:=by kernel_rfl
 rw[this];exact q1h (qgx h hl)
theorem a_linked{bs:List BlkV}{ac:List Bool}(hb:bs.length<=1000000):evF EnA (n+1) 20 [.list 8 (bs.map BlkV.fv),.list 1 (ac.map .bool)]=some [.bool (q2y bs ac)]:=by
 have:evF EnA (n+1) 20 [.list 8 (bs.map BlkV.fv),.list 1 (ac.map .bool)]=limO En 20 [.list 8 (bs.map BlkV.fv),.list 1 (ac.map .bool)]:=by kernel_rfl
 rw[this];exact q1h (qgr hb)
end
theorem q4e{q r:Rat}:decide (cmpQ q r<0)=decide (q<r):=by rw[decide_eq_decide];exact cmp_lt
theorem q57{q r:Rat}:decide (cmpQ q r>0)=decide (r<q):=by rw[decide_eq_decide];exact cmp_gt
theorem cmpQ_le{q r:Rat}:decide (cmpQ q r<=0)=decide (q<=r):=by rw[decide_eq_decide];exact cmp_le
theorem cmpQ_ge{q r:Rat}:decide (cmpQ q r≥0)=decide (r<=q):=by rw[decide_eq_decide];exact cmp_ge
theorem cmpQ_bd(q r:Rat):-1<=cmpQ q r/\cmpQ q r<=1:=by
 unfold cmpQ q26;split
 ·omega
 ·split <;> omega
theorem sgn_gt0{q:Rat}:decide (q.num.sign>0)=decide (0<q):=by rw[decide_eq_decide];exact sgn_pos
theorem sgn_lt0{q:Rat}:decide (q.num.sign<0)=decide (q<0):=by rw[decide_eq_decide];exact sgn_neg
theorem sgn_ne0{q:Rat}:(q.num.sign !=0)=!decide (q=0):=by
 by_cases h:q=0
 ·rw[decide_eq_true h,h];rfl
 ·rw[decide_eq_false h];have:q.num.sign≠0:=λe=>h (sgn_zero.1 e);simpa using this
theorem q4b{t:Txt}(h:t.length<=256):Bd 1024 (rd t):=by
 unfold rd;cases hp:pr t with
 |none=>exact q75.mono (by omega)
 |some q=>exact(q98 hp).mono (by omega)
theorem rd_some{t:Txt}{q:Rat}(h:pr t=some q):rd t=q:=by unfold rd;rw[h];rfl
theorem qdj{α β:Type}(f:α->β)(z:β)(X:List α){i:Nat}(h:i<X.length):((X.take i).map f++List.replicate (X.length-i) z).set i (f X[i])=(X.take (i+1)).map f++List.replicate (X.length-(i+1)) z:=by
 have hl:((X.take i).map f).length=i:=by simp;omega
 rw[List.set_append_right _ _ (by omega),hl,Nat.sub_self,show X.length-i=(X.length-(i+1))+1 by omega,List.replicate_succ,List.set_cons_zero,List.take_add_one,List.getElem?_eq_getElem h,List.map_append,List.append_assoc];rfl
section
variable {X:List Txt}
theorem nums_run{n:Nat}(hx:∀t,t∈X->t.length<=256)(hl:X.length<=1000000)(hn:X.length+4<=n):evF EnA n 105 [.list 1 (X.map sF)]=if X.all isNum=true then some [.list 4 (X.map λt=>ratF (rd t)),.bool true]else some [.list 4 [],.bool false]:=by
 obtain⟨n,rfl⟩:∃k,n=k+2:=⟨n-2,by omega⟩;have h:=q1s (F:=λm i=>q5j.l3 (n+1) [] m [.list 4 ((X.take i).map (λt=>ratF (rd t))++List.replicate (X.length-i) (.agg [.list 1 [],.bool false,.list 1 [],.bool false])),.list 1 (X.map sF),iF (X.length:Int),iF (i:Int)]) (len:=X.length) (P:=λi=>match X[i]? with | some t=>isNum t | none=>true)
  (fin:=some [.list 4 (X.map λt=>ratF (rd t)),.bool true]) (stop:=some [.list 4 [],.bool false]) (λm i hi=>by
  show q5j.l3 (n+1) [] (m+1) _=_;rw[q5j.qy,decide_eq_true (by omega),cond_true,List.length_map,qc hi,List.getElem?_eq_getElem hi];simp (disch:=omega) only[tx_at hi,Option.bind_some,qn];have hlen:=hx X[i] (List.getElem_mem hi);cases hp:pr X[i]with
  |none =>
   rw[a_bad hp (by omega)];simp (disch:=omega) only[Option.bind_some,List.getElem?_cons_zero,List.getElem?_cons_succ,q9,qb,qa];have:isNum X[i]=false:=by unfold isNum;rw[hp];rfl
   rw[this];rfl
  |some q =>
   rw[qbg hp (by omega)];simp (disch:=omega) only[Option.bind_some,List.getElem?_cons_zero,List.getElem?_cons_succ,q9,qb,qa];have:isNum X[i]=true:=by unfold isNum;rw[hp];rfl
   rw[this,cond_true,qc (by simp;omega),qi (by omega)];simp (disch:=omega) only[Option.bind_some];rw[show(FV.agg [zl (q).num,zb (q).num,nL (q).den,.bool false])=ratF (rd X[i]) by rw[rd_some hp];rfl,qdj (λt=>ratF (rd t)) _ X hi];rfl) (λm=>by
  show q5j.l3 (n+1) [] (m+1) _=_
  rw[q5j.qy,decide_eq_false (by omega),cond_false,List.take_length,Nat.sub_self,List.replicate_zero,List.append_nil]) X.length 0 (n+1) (by omega) (by omega)
 rw[q49 X isNum (λi hi=>by rw[List.getElem?_eq_getElem hi])]at h;rw[qlx,List.length_map];have e1:q1n 64 ((X.length:Nat):Int)=some X.length:=by
  unfold q1n;rw[if_pos ⟨by omega,by omega,by omega⟩,Int.toNat_natCast]
 rw[e1,Option.bind_some,q1w (Nat.le_refl _),Option.bind_some];have h:q5j.l3 (n+1) [] (n+1) [.list 4 (List.replicate X.length (.agg [.list 1 [],.bool false,.list 1 [],.bool false])),.list 1 (X.map sF),iF (X.length:Int),iF 0]=_:=h;rw[h];cases X.all isNum <;> rfl
theorem gnums_run{n:Nat}(hx:∀t,t∈X->t.length<=256)(hl:X.length<=1000000)(hn:X.length+4<=n):evF EnA n 168 [.list 1 (X.map sF)]=if X.all isNum=true then some [.list 4 (X.map λt=>ratF (rd t)),.bool true]else some [.list 4 [],.bool false]:=by
 obtain⟨n,rfl⟩:∃k,n=k+2:=⟨n-2,by omega⟩;have h:=q1s (F:=λm i=>q5k.l3 (n+1) [] m [.list 4 ((X.take i).map (λt=>ratF (rd t))++List.replicate (X.length-i) (.agg [.list 1 [],.bool false,.list 1 [],.bool false])),.list 1 (X.map sF),iF (X.length:Int),iF (i:Int)]) (len:=X.length) (P:=λi=>match X[i]? with | some t=>isNum t | none=>true)
  (fin:=some [.list 4 (X.map λt=>ratF (rd t)),.bool true]) (stop:=some [.list 4 [],.bool false]) (λm i hi=>by
  show q5k.l3 (n+1) [] (m+1) _=_;rw[q5k.qy,decide_eq_true (by omega),cond_true,List.length_map,qc hi,List.getElem?_eq_getElem hi];simp (disch:=omega) only[tx_at hi,Option.bind_some,qn];have hlen:=hx X[i] (List.getElem_mem hi);cases hp:pr X[i]with
  |none =>
   rw[a_bad hp (by omega)];simp (disch:=omega) only[Option.bind_some,List.getElem?_cons_zero,List.getElem?_cons_succ,q9,qb,qa];have:isNum X[i]=false:=by unfold isNum;rw[hp];rfl
   rw[this];rfl
  |some q =>
   rw[qbg hp (by omega)];simp (disch:=omega) only[Option.bind_some,List.getElem?_cons_zero,List.getElem?_cons_succ,q9,qb,qa];have:isNum X[i]=true:=by unfold isNum;rw[hp];rfl
   rw[this,cond_true,qc (by simp;omega),qi (by omega)];simp (disch:=omega) only[Option.bind_some];rw[show(FV.agg [zl (q).num,zb (q).num,nL (q).den,.bool false])=ratF (rd X[i]) by rw[rd_some hp];rfl,qdj (λt=>ratF (rd t)) _ X hi];rfl) (λm=>by
  show q5k.l3 (n+1) [] (m+1) _=_
  rw[q5k.qy,decide_eq_false (by omega),cond_false,List.take_length,Nat.sub_self,List.replicate_zero,List.append_nil]) X.length 0 (n+1) (by omega) (by omega)
 rw[q49 X isNum (λi hi=>by rw[List.getElem?_eq_getElem hi])]at h;rw[qly,List.length_map];have e1:q1n 64 ((X.length:Nat):Int)=some X.length:=by
  unfold q1n;rw[if_pos ⟨by omega,by omega,by omega⟩,Int.toNat_natCast]
 rw[e1,Option.bind_some,q1w (Nat.le_refl _),Option.bind_some];have h:q5k.l3 (n+1) [] (n+1) [.list 4 (List.replicate X.length (.agg [.list 1 [],.bool false,.list 1 [],.bool false])),.list 1 (X.map sF),iF (X.length:Int),iF 0]=_:=h;rw[h];cases X.all isNum <;> rfl
end
end Rf
end
