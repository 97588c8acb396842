/- Texts of this work put together, their blanks and comments taken out: Oda, Odb, Nma. -/
import Derived.Test.YtcpnpoagpnkblaaGreatDoorVMT
import Derived.Test.YtcpnpoagpnkblaaGreatDoorVMU
import Derived.Test.YtcpnpoagpnkblaaGreatDoorVMV
import Derived.Sort.Walk0
set_option linter.unusedVariables false
set_option linter.unusedSimpArgs false
section
/- Which orders may be: both answers are one. -/
set_option maxHeartbeats 2000000
namespace Rf
open Go
def StpV.fv(s:StpV):FV:=.agg [.str s.who,iF s.seq,iF s.zone,iF s.hour,.bool s.buy,iF s.qty,iF s.qo]
def q1a.fv(l:q1a):FV:=.agg [iF l.src,iF l.dst,iF l.cap]
def gL(g:q11):List FV:=[iF g.qm,iF g.qk,.list 3 (g.lines.map q1a.fv),iF g.low,iF g.high]
theorem q4a{ss:List StpV}{i:Nat}(h:i<ss.length)(c:Nat):at' (ss.map StpV.fv) i c=[FV.str ss[i].who,iF ss[i].seq,iF ss[i].zone,iF ss[i].hour,.bool ss[i].buy,iF ss[i].qty,iF ss[i].qo][c]?:=by
 rw[q21,List.getElem?_eq_getElem h];rfl
theorem qca{ls:List q1a}{i:Nat}(h:i<ls.length)(c:Nat):at' (ls.map q1a.fv) i c=[iF ls[i].src,iF ls[i].dst,iF ls[i].cap][c]?:=by
 rw[q21,List.getElem?_eq_getElem h];rfl
theorem q3o{bs:List BlkV}{i:Nat}(h:i<bs.length)(c:Nat):at' (bs.map BlkV.fv) i c=[FV.str bs[i].who,iF bs[i].seq,iF bs[i].zone,.bool bs[i].buy,iF bs[i].qo,.list 1 (bs[i].qty.map iF),iF bs[i].parent,iF bs[i].group][c]?:=by
 rw[q21,List.getElem?_eq_getElem h];rfl
theorem q71{q:List Int}{i:Nat}(h:i<q.length):at' (q.map iF) i 0=some (iF q[i]):=by rw[q21,List.getElem?_eq_getElem h];rfl
def fIdx{α:Type}(p:α->Bool)(l:List α):Int:=match l.findIdx? p with | some k=>(k:Int) | none=>-1
theorem qcb{α:Type}(p:α->Bool)(l:List α):decide (fIdx p l≥0)=l.any p:=by
 unfold fIdx;cases h:l.findIdx? p with
 |none =>
  rw[List.findIdx?_eq_none_iff]at h;have:l.any p=false:=List.any_eq_false.2 λx hx=>by simpa using h x hx
  rw[this];rfl
 |some k =>
  rw[List.findIdx?_eq_some_iff_getElem]at h;obtain⟨h1,h2,_⟩:=h;have:l.any p=true:=List.any_eq_true.2 ⟨l[k],List.getElem_mem h1,h2⟩;rw[this];simp
theorem qac{α:Type}(l:List α)(p:α->Bool){pre:List FV}{F:Nat->Nat->Res}(hs:∀m i (h:i<l.length),F (m+1) i=bif p l[i]then some (pre++[iF (i:Int)])else F m (i+1))(he:∀m,F (m+1) l.length=some (pre++[iF (-1)])) :
  ∀(d i m:Nat),i+d=l.length->d<m->(∀j (h:j<l.length),j<i->p l[j]=false)->F m i=some (pre++[iF (fIdx p l)]):=by
 intro d
 induction d with
 |zero =>
  intro i m hi hm hn;obtain⟨m,rfl⟩:=qSx m (by omega);obtain rfl:i=l.length:=by omega
  have:l.findIdx? p=none:=List.findIdx?_eq_none_iff.2 λx hx=>by
   obtain⟨j,hj,rfl⟩:=List.getElem_of_mem hx;exact hn j hj hj
  rw[he];unfold fIdx;rw[this]
 |succ d ih =>
  intro i m hi hm hn;obtain⟨m,rfl⟩:=qSx m (by omega);have hil:i<l.length:=by omega
  rw[hs m i hil];cases hp:p l[i]with
  |false =>
   rw[cond_false];refine ih (i+1) m (by omega) (by omega) λj hj hji=>?_;by_cases h:j=i
   ·subst h;exact hp
   ·exact hn j hj (by omega)
  |true =>
   rw[cond_true];have:l.findIdx? p=some i:=List.findIdx?_eq_some_iff_getElem.2 ⟨hil,hp,λj hj=>by simpa using hn j (by omega) hj⟩;unfold fIdx;rw[this]
theorem q77{α:Type}(l:List α)(p:α->Bool){P:Nat->Bool}(h:∀i (hi:i<l.length),P i=p l[i]):(List.range' 0 l.length).all P=l.all p:=by
 rw[Bool.eq_iff_iff,q4m,List.all_eq_true];constructor
 ·intro q x hx;obtain⟨i,hi,rfl⟩:=List.getElem_of_mem hx;rw[<- h i hi];exact q i hi
 ·intro q i hi;rw[h i hi];exact q _ (List.getElem_mem hi)
theorem qeq{n:Nat}{a b c:Int}:evF EnA (n+1) 64 [iF a,iF b,iF c]=some [.bool (q15 a b c)]:=by
 have:evF EnA (n+1) 64 [iF a,iF b,iF c]=(bif(decide (b<=a))then some [.bool (decide (a<=c))]else some [.bool false]):=by kernel_rfl
 rw[this];unfold q15;cases decide (b<=a) <;> rfl
theorem qih{n:Nat}{a b c:Int}:evF EnA (n+1) 126 [iF a,iF b,iF c]=some [.bool (q15 a b c)]:=by
 rw[qol];unfold q15;cases decide (b<=a) <;> rfl
theorem le_sum{x:Nat}:∀ {l:List Nat},x∈l->x<=l.sum
 |[],h=>by simp at h
 |y::l,h=>by
  rw[List.sum_cons];rcases List.mem_cons.1 h with rfl | h
  ·omega
  ·have:=le_sum h;omega
theorem dle(a b:Int):decide (a<=b)=!decide (b<a):=by
 by_cases h:a<=b
 ·rw[decide_eq_true h,decide_eq_false (by omega)];rfl
 ·rw[decide_eq_false h,decide_eq_true (by omega)];rfl
theorem dlt(a b:Int):decide (a<b)=!decide (b<=a):=by rw[dle,Bool.not_not]
theorem q5i{a b c:Int}:q15 a b c=true↔b<=a/\a<=c:=by simp[q15]
section
variable {g:q11}
theorem godd_run(h1:1<=g.qm/\g.qm<=3){n:Nat}{l:q1a}:evF EnA (n+2) 125 (iF l.src::iF l.dst::iF l.cap::gL g)=some (gL g++[.bool (!q3q g l)]):=by
 unfold gL;rw[qom,qq (by omega) (by omega)];simp (disch:=omega) only[qih,Option.bind_some,List.getElem?_cons_zero,qa];unfold q3q;rw[show(l.src !=l.dst)=!(l.src==l.dst) from rfl];cases q15 l.src 0 (g.qm-1) <;> cases q15 l.dst 0 (g.qm-1) <;> cases(l.src==l.dst) <;> rfl
theorem gidx_run(h1:1<=g.qm/\g.qm<=3){n:Nat}(hl:g.lines.length<=3)(hn:10<=n):evF EnA n 127 (.list 3 (g.lines.map q1a.fv)::gL g)=some (gL g++[.bool (!g.lines.all (q3q g))]):=by
 obtain⟨n,rfl⟩:∃k,n=k+4:=⟨n-4,by omega⟩
 have h:=qac g.lines (λl=>!q3q g l) (pre:=gL g) (F:=λm i=>q64.l2 (n+2) [] m (gL g++[.list 3 (g.lines.map q1a.fv),iF (g.lines.length:Int),iF (i:Int)])) (λm i hi=>by
  show q64.l2 (n+2) [] (m+1) _=_;unfold gL;rw[List.cons_append,List.cons_append,List.cons_append,List.cons_append,List.cons_append,List.nil_append,q64.qu,decide_eq_true (by omega),cond_true,List.length_map,qc hi];simp (disch:=omega) only[qca hi,Option.bind_some,List.getElem?_cons_zero,List.getElem?_cons_succ,qb];have:=godd_run h1 (n:=n) (l:=g.lines[i]);unfold gL at this;rw[this];simp (disch:=omega) only[Option.bind_some];simp only[List.cons_append,List.nil_append];simp (disch:=omega) only[Option.bind_some,List.getElem?_cons_zero,List.getElem?_cons_succ,q9,qb,qa];rw[qi (by omega)]) (λm=>by
  show q64.l2 (n+2) [] (m+1) _=_;unfold gL;rw[List.cons_append,List.cons_append,List.cons_append,List.cons_append,List.cons_append,List.nil_append,q64.qu,decide_eq_false (by omega),cond_false]
  rfl) g.lines.length 0 (n+2) (by omega) (by omega) (λj _ hj=>by omega)
 have e2:evF EnA (n+3) 179 (.list 3 (g.lines.map q1a.fv)::gL g)=some (gL g++[iF (fIdx (λl=>!q3q g l) g.lines)]):=by
  rw[<- h];unfold gL;rw[qon];simp only[List.length_map];rfl
 unfold gL at e2 ⊢;rw[qoo,e2];simp only[List.cons_append,List.nil_append];simp (disch:=omega) only[Option.bind_some,List.getElem?_cons_zero,List.getElem?_cons_succ,q9,qb];rw[qcb,List.any_eq_not_all_not];simp only[Bool.not_not]
theorem qop{n:Nat}(hl:g.lines.length<=1000000)(hn:12<=n):evF EnA n 63 (gL g)=some [iF (if q3x g=true then 0 else 140)]:=by
 obtain⟨n,rfl⟩:∃k,n=k+2:=⟨n-2,by omega⟩;unfold gL;rw[qoq,List.length_map];simp (disch:=omega) only[qih,Option.bind_some,List.getElem?_cons_zero,qa];unfold q3x;by_cases hz:q15 g.qm 1 3=true
 ·have h1:=q5i.1 hz;rw[hz];by_cases hh:q15 g.qk 1 3=true
  ·rw[hh];by_cases hk:g.lines.length<=3
   ·have:=gidx_run h1 (n:=n+1) hk (by omega);unfold gL at this;rw[this,decide_eq_false (by omega),decide_eq_true hk];simp only[List.cons_append,List.nil_append];simp (disch:=omega) only[Option.bind_some,List.getElem?_cons_zero,List.getElem?_cons_succ,q9,qb,qa,cond_false];rw[show decide (g.high>100000)=!decide (g.high<=100000) from dlt _ _];cases g.lines.all (q3q g) <;> cases q15 g.low (-100000) g.high <;> cases decide (g.high<=100000) <;> rfl
   ·rw[decide_eq_true (by omega),decide_eq_false hk];simp
  ·rw[Bool.eq_false_iff.2 hh];simp
 ·rw[Bool.eq_false_iff.2 hz];simp
end
section
variable {g:q11} {ss:List StpV} {bs:List BlkV}
theorem iodd_run{n:Nat}{a:Int}:evF EnA (n+2) 65 [iF a]=some [.bool (!q15 a 0 1000)]:=by
 rw[qor];simp (disch:=omega) only[qeq,Option.bind_some,List.getElem?_cons_zero,qa]
theorem icon_run{n:Nat}{q:List Int}(hl:q.length<=1000000)(hn:q.length+6<=n):evF EnA n 66 [.list 1 (q.map iF),.raw (Go.Value.func (Go.Fn.func 65) #[] #[])]=some [.bool (!q.all λx=>q15 x 0 1000)]:=by
 obtain⟨n,rfl⟩:∃k,n=k+4:=⟨n-4,by omega⟩
 have h:=qac q (λx=>!q15 x 0 1000) (pre:=[]) (F:=λm i=>q5d.l2 (n+2) [] m [.list 1 (q.map iF),.raw (Go.Value.func (Go.Fn.func 65) #[] #[]),iF (q.length:Int),iF (i:Int)]) (λm i hi=>by
  show q5d.l2 (n+2) [] (m+1) _=_;rw[q5d.qu,decide_eq_true (by omega),cond_true,List.length_map,qc hi];simp (disch:=omega) only[q71 hi,iodd_run,Option.bind_some,List.getElem?_cons_zero,qb,qa];rw[qi (by omega)];rfl) (λm=>by
  show q5d.l2 (n+2) [] (m+1) _=_;rw[q5d.qu,decide_eq_false (by omega),cond_false]
  rfl) q.length 0 (n+2) (by omega) (by omega) (λj _ hj=>by omega)
 rw[qos,qot,List.length_map];have h:q5d.l2 (n+2) [] (n+2) [.list 1 (q.map iF),.raw (Go.Value.func (Go.Fn.func 65) #[] #[]),iF (q.length:Int),iF 0]=_:=h;rw[h,List.nil_append];simp (disch:=omega) only[Option.bind_some,List.getElem?_cons_zero,qb];rw[qcb,List.any_eq_not_all_not];simp only[Bool.not_not]
theorem max_loop{n:Nat}{q:List Int}(hl:q.length<=1000000):∀(d i m:Nat) (v:Int),i+d=q.length->d<m->∃w,q82.l5 n [] m [.list 1 (q.map iF),iF v,iF (i:Int)]=some [iF w]/\v<=w/\(∀x,x∈q.drop i->x<=w)/\(w=v\/w∈q.drop i):=by
 intro d
 induction d with
 |zero =>
  intro i m v hi hm;obtain⟨m,rfl⟩:=qSx m (by omega);refine⟨v,?_,Int.le_refl _,λx hx=>?_,.inl rfl⟩
  ·rw[q82.q1x,List.length_map,decide_eq_false (by omega),cond_false]
  ·rw[List.drop_of_length_le (by omega)]at hx;simp at hx
 |succ d ih =>
  intro i m v hi hm;obtain⟨m,rfl⟩:=qSx m (by omega);have hil:i<q.length:=by omega
  obtain⟨w,h1,h2,h3,h4⟩:=ih (i+1) m (if v<q[i]then q[i]else v) (by omega) (by omega);have hle:v<=(if v<q[i]then q[i]else v)/\q[i]<=(if v<q[i]then q[i]else v):=by split <;> omega
  refine⟨w,?_,by omega,λx hx=>?_,?_⟩
  ·rw[q82.q1x,List.length_map,decide_eq_true (by omega),cond_true,qc hil];simp (disch:=omega) only[q71 hil,Option.bind_some,qb];rw[qi (by omega)];exact h1
  ·rw[List.drop_eq_getElem_cons hil]at hx;rcases List.mem_cons.1 hx with rfl | hx
   ·omega
   ·exact h3 x hx
  ·rw[List.drop_eq_getElem_cons hil];rcases h4 with h4 | h4
   ·split at h4
    ·exact .inr (by rw[h4];exact List.mem_cons_self)
    ·exact .inl h4
   ·exact .inr (List.mem_cons_of_mem _ h4)
theorem max_run{n:Nat}{q:List Int}(hl:q.length<=1000000)(h0:q≠[])(hq:q.all (λx=>q15 x 0 1000)=true)(hn:q.length+2<=n):∃w,evF EnA n 67 [.list 1 (q.map iF)]=some [iF w]/\(!(w==0))=q.any λx=>decide (0<x):=by
 obtain⟨n,rfl⟩:=qSx n (by omega);have hp:0<q.length:=List.length_pos_iff.2 h0;obtain⟨w,h1,h2,h3,h4⟩:=max_loop (n:=n) hl (q.length-1) 1 n q[0] (by omega) (by omega);refine⟨w,?_,?_⟩
 ·rw[qou,List.length_map,decide_eq_false (by omega),cond_false,show(0:Int)=((0:Nat):Int) from rfl,qc hp];simp (disch:=omega) only[q71 hp,Option.bind_some,qb];exact h1
 ·have hge:∀x,x∈q->0<=x:=λx hx=>(q5i.1 (List.all_eq_true.1 hq x hx)).1;have hmem:w∈q:=by
   rcases h4 with h4 | h4
   ·rw[h4];exact List.getElem_mem hp
   ·exact List.mem_of_mem_drop h4
  have hall:∀x,x∈q->x<=w:=λx hx=>by
   obtain⟨i,hi,rfl⟩:=List.getElem_of_mem hx;cases i with
   |zero=>exact h2
   |succ i=>exact h3 _ (List.mem_drop_iff_getElem.2 ⟨i,by omega,by simp[Nat.add_comm]⟩)
  rw[Bool.eq_iff_iff,List.any_eq_true];constructor
  ·intro h;exact⟨w,hmem,decide_eq_true (by have h5:=hge w hmem;have h6:w≠0:=(by simpa using h);omega)⟩
  ·rintro⟨x,hx,hx2⟩;have:=hall x hx;have hx2:0<x:=by simpa using hx2
   have:w≠0:=by omega
   simpa using this
def blkL(b:BlkV):List FV:=[FV.str b.who,iF b.seq,iF b.zone,.bool b.buy,iF b.qo,.list 1 (b.qty.map iF),iF b.parent,iF b.group]
end
theorem qii(j:Nat)(h:j<9000000000000000000):IntKind.wrap .i64 (((j+1:Nat):Int)-1)=(j:Int):=by rw[qq (by omega) (by omega)];omega
def cmpB(l e:Bool):Int:=bif l then -1 else bif !(l||e)then 1 else 0
theorem qij{n:Nat}{s t:ByteArray}:evF EnA (n+2) 130 [.str s,.str t]=some [.int .i64 (cmpB (Op.bytesLess s.toList t.toList) (s.toList==t.toList))]:=by
 rw[qov];simp only[qow,Option.bind_some,List.getElem?_cons_zero,qa,beq_self_eq_true,Bool.not_true,cond_false];unfold cmpB;cases Op.bytesLess s.toList t.toList <;> cases(s.toList==t.toList) <;> rfl
def cmpM(a b:Int):Int:=bif decide (a<b)then -1 else bif decide (a>b)then 1 else 0
theorem qik{n:Nat}{a b:Int}:evF EnA (n+2) 131 [.int .i64 a,.int .i64 b]=some [.int .i64 (cmpM a b)]:=by
 rw[qox];simp only[qoy,Option.bind_some,List.getElem?_cons_zero,qa,bne_self_eq_false,cond_false];unfold cmpM;cases decide (a<b) <;> cases decide (a>b) <;> rfl
theorem or_run{n:Nat}{a b:Int}:evF EnA (n+4) 129 [.list 1 [.int .i64 a,.int .i64 b]]=some [.int .i64 (bif a !=0 then a else b)]:=by
 rw[qoz,q65.qv];show(bif a !=0 then some [.int .i64 a]else q65.l3 (n+3) [] (n+2) [.int .i64 0,.list 1 [.int .i64 a,.int .i64 b],.int .i64 2,.int .i64 1]:Res)=_;rw[q65.qv];show(bif a !=0 then some [.int .i64 a]else(bif b !=0 then some [.int .i64 b]else q65.l3 (n+3) [] (n+1) [.int .i64 0,.list 1 [.int .i64 a,.int .i64 b],.int .i64 2,.int .i64 2]):Res)=_;rw[q65.qv];show(bif a !=0 then some [.int .i64 a]else(bif b !=0 then some [.int .i64 b]else some [.int .i64 0]):Res)=_;cases ha:(a !=0)
 ·cases hb:(b !=0)
  ·have:b=0:=by simpa using hb
   rw[this];rfl
  ·rfl
 ·rfl
theorem lt_or(s t:ByteArray)(a b:Int):decide ((bif cmpB (Op.bytesLess s.toList t.toList) (s.toList==t.toList) !=0 then cmpB (Op.bytesLess s.toList t.toList) (s.toList==t.toList)else cmpM a b)≥0)=!nmB s a t b:=by
 unfold nmB cmpB cmpM;cases Op.bytesLess s.toList t.toList <;> cases(s.toList==t.toList)
 ·rfl
 ·by_cases h:a<b
  ·rw[decide_eq_true h];rfl
  ·rw[decide_eq_false h];cases decide (a>b) <;> rfl
 ·rfl
 ·rfl
def riS(ss:List StpV)(i:Nat):Bool:=match ss[i-1]?,ss[i]? with | some a,some b=>nmB a.who a.seq b.who b.seq | _,_=>true
def riK(bs:List BlkV)(i:Nat):Bool:=match bs[i-1]?,bs[i]? with | some a,some b=>nmB a.who a.seq b.who b.seq | _,_=>true
section
variable {g:q11} {ss:List StpV} {bs:List BlkV}
theorem rises_run{n:Nat}(hl:ss.length<=1000000)(hn:ss.length+8<=n):evF EnA n 68 [.list 7 (ss.map StpV.fv),.raw (Go.Value.func (Go.Fn.func 69) #[] #[])]=some [.bool (q83 ss)]:=by
 obtain⟨n,rfl⟩:∃k,n=k+5:=⟨n-5,by omega⟩;rw[qp0];have h:=q35 (F:=λm i=>q66.l2 (n+4) [] m [.list 7 (ss.map StpV.fv),.raw (Go.Value.func (Go.Fn.func 69) #[] #[]),iF (i:Int)]) (len:=max 1 ss.length) (P:=riS ss) (fin:=some [.bool true]) (stop:=some [.bool false]);by_cases h0:ss.length=0
 ·rw[q66.qu,List.length_map,decide_eq_false (by omega),cond_false];unfold q83;rw[h0];rfl
 have key:∀(d i m:Nat),i+1+d=ss.length->d<m->q66.l2 (n+4) [] m [.list 7 (ss.map StpV.fv),.raw (Go.Value.func (Go.Fn.func 69) #[] #[]),iF ((i+1:Nat):Int)]=some [.bool ((List.range' (i+1) d).all (riS ss))]:=by
  intro d
  induction d with
  |zero =>
   intro i m hi hm;obtain⟨m,rfl⟩:=qSx m (by omega);rw[q66.qu,List.length_map,decide_eq_false (by omega),cond_false];rfl
  |succ d ih =>
   intro i m hi hm;obtain⟨m,rfl⟩:=qSx m (by omega);have h1:i<ss.length:=by omega
   have h2:i+1<ss.length:=by omega
   rw[q66.qu,List.length_map,decide_eq_true (by omega),cond_true,qii i (by omega),qc h1,qc h2,qi (by omega)]
   try simp (disch:=omega) only[q4a h1,Option.bind_some,List.getElem?_cons_zero,List.getElem?_cons_succ,qb,qa,qg]
   try simp (disch:=omega) only[qil,Option.bind_some,List.getElem?_cons_zero,List.getElem?_cons_succ,qb,qg]
   try simp (disch:=omega) only[q4a h2,Option.bind_some,List.getElem?_cons_zero,List.getElem?_cons_succ,qb,qa,qg]
   try simp (disch:=omega) only[qil,rr]
   try simp (disch:=omega) only[qij,Option.bind_some,List.getElem?_cons_zero,qb]
   try simp (disch:=omega) only[qik,Option.bind_some,List.getElem?_cons_zero,qb]
   rw[show qd 2 (.int .i64 0) [(0,iF (cmpB (Op.bytesLess ss[i].who.toList ss[i+1].who.toList) (ss[i].who.toList==ss[i+1].who.toList))),(1,iF (cmpM ss[i].seq ss[i+1].seq))]=[iF (cmpB (Op.bytesLess ss[i].who.toList ss[i+1].who.toList) (ss[i].who.toList==ss[i+1].who.toList)),iF (cmpM ss[i].seq ss[i+1].seq)] from rfl,or_run];simp (disch:=omega) only[Option.bind_some,List.getElem?_cons_zero,qb];rw[lt_or,ih (i+1) m (by omega) (by omega),List.range'_succ,List.all_cons];unfold riS;rw[show i+1-1=i from rfl,List.getElem?_eq_getElem h1,List.getElem?_eq_getElem h2];simp only;cases nmB ss[i].who ss[i].seq ss[i+1].who ss[i+1].seq <;> rfl
 have:=key (ss.length-1) 0 (n+4) (by omega) (by omega);exact this
theorem risek_run{n:Nat}(hl:bs.length<=1000000)(hn:bs.length+8<=n):evF EnA n 70 [.list 8 (bs.map BlkV.fv),.raw (Go.Value.func (Go.Fn.func 71) #[] #[])]=some [.bool (q84 bs)]:=by
 obtain⟨n,rfl⟩:∃k,n=k+5:=⟨n-5,by omega⟩;rw[qp1];by_cases h0:bs.length=0
 ·rw[q72.qu,List.length_map,decide_eq_false (by omega),cond_false];unfold q84;rw[h0];rfl
 have key:∀(d i m:Nat),i+1+d=bs.length->d<m->q72.l2 (n+4) [] m [.list 8 (bs.map BlkV.fv),.raw (Go.Value.func (Go.Fn.func 71) #[] #[]),iF ((i+1:Nat):Int)]=some [.bool ((List.range' (i+1) d).all (riK bs))]:=by
  intro d
  induction d with
  |zero =>
   intro i m hi hm;obtain⟨m,rfl⟩:=qSx m (by omega);rw[q72.qu,List.length_map,decide_eq_false (by omega),cond_false];rfl
  |succ d ih =>
   intro i m hi hm;obtain⟨m,rfl⟩:=qSx m (by omega);have h1:i<bs.length:=by omega
   have h2:i+1<bs.length:=by omega
   rw[q72.qu,List.length_map,decide_eq_true (by omega),cond_true,qii i (by omega),qc h1,qc h2,qi (by omega)]
   try simp (disch:=omega) only[q3o h1,Option.bind_some,List.getElem?_cons_zero,List.getElem?_cons_succ,q9,qb,qa,qg]
   try simp (disch:=omega) only[qim,Option.bind_some,List.getElem?_cons_zero,List.getElem?_cons_succ,qb,qg]
   try simp (disch:=omega) only[q3o h2,Option.bind_some,List.getElem?_cons_zero,List.getElem?_cons_succ,q9,qb,qa,qg]
   try simp (disch:=omega) only[qim,rr]
   try simp (disch:=omega) only[qij,Option.bind_some,List.getElem?_cons_zero,qb]
   try simp (disch:=omega) only[qik,Option.bind_some,List.getElem?_cons_zero,qb]
   rw[show qd 2 (.int .i64 0) [(0,iF (cmpB (Op.bytesLess bs[i].who.toList bs[i+1].who.toList) (bs[i].who.toList==bs[i+1].who.toList))),(1,iF (cmpM bs[i].seq bs[i+1].seq))]=[iF (cmpB (Op.bytesLess bs[i].who.toList bs[i+1].who.toList) (bs[i].who.toList==bs[i+1].who.toList)),iF (cmpM bs[i].seq bs[i+1].seq)] from rfl,or_run];simp (disch:=omega) only[Option.bind_some,List.getElem?_cons_zero,qb];rw[lt_or,ih (i+1) m (by omega) (by omega),List.range'_succ,List.all_cons];unfold riK;rw[show i+1-1=i from rfl,List.getElem?_eq_getElem h1,List.getElem?_eq_getElem h2];simp only;cases nmB bs[i].who bs[i].seq bs[i+1].who bs[i+1].seq <;> rfl
 have:=key (bs.length-1) 0 (n+4) (by omega) (by omega);exact this
theorem par_run{n:Nat}{b:BlkV}{i:Nat}(hi:i<bs.length):evF EnA (n+1) 183 (blkL b++[.list 8 (bs.map BlkV.fv),iF (i:Int)])=some [.list 8 (bs.map BlkV.fv),iF (i:Int),.bool (q97 bs[i] b)]:=by
 unfold blkL;simp only[List.cons_append,List.nil_append];rw[qp2,List.length_map,qc hi];simp (disch:=omega) only[q3o hi,Option.bind_some,List.getElem?_cons_zero,List.getElem?_cons_succ,qb,qg];unfold q97;rw[toList_eq];cases decide (b.who=bs[i].who) <;> rfl
theorem qp3{n:Nat}{i:Nat}(hi:i<bs.length)(hl:bs.length<=1000000)(hn:bs.length+6<=n):evF EnA n 132 [.list 8 (bs.map BlkV.fv),iF (i:Int)]=some [iF (fIdx (q97 bs[i]) bs)]:=by
 obtain⟨n,rfl⟩:∃k,n=k+3:=⟨n-3,by omega⟩
 have h:=qac bs (q97 bs[i]) (pre:=[.list 8 (bs.map BlkV.fv),iF (i:Int)]) (F:=λm j=>q5e.l2 (n+1) [] m [.list 8 (bs.map BlkV.fv),iF (i:Int),.list 8 (bs.map BlkV.fv),iF (bs.length:Int),iF (j:Int)]) (λm j hj=>by
  show q5e.l2 (n+1) [] (m+1) _=_;rw[q5e.qu,decide_eq_true (by omega),cond_true,List.length_map,qc hj];simp (disch:=omega) only[q3o hj,Option.bind_some,List.getElem?_cons_zero,List.getElem?_cons_succ,q9,qb,qa,qg];have:=par_run (n:=n) (b:=bs[j]) hi;unfold blkL at this;simp only[List.cons_append,List.nil_append]at this;rw[this];simp (disch:=omega) only[Option.bind_some,List.getElem?_cons_zero,List.getElem?_cons_succ,q9,qb,qa];rw[qi (by omega)];rfl) (λm=>by
  show q5e.l2 (n+1) [] (m+1) _=_;rw[q5e.qu,decide_eq_false (by omega),cond_false]
  rfl) bs.length 0 (n+1) (by omega) (by omega) (λj _ hj=>by omega)
 rw[qp4,qp5,List.length_map];have h:q5e.l2 (n+1) [] (n+1) [.list 8 (bs.map BlkV.fv),iF (i:Int),.list 8 (bs.map BlkV.fv),iF (bs.length:Int),iF 0]=_:=h;rw[h];rfl
theorem qp6{n:Nat}(hl:bs.length<=1000000)(hn:bs.length+6<=n):∀(d k i m:Nat),k+d=bs.length+1->d<m->i<bs.length ->
  q85.l2 n [] m [.list 8 (bs.map BlkV.fv),iF (i:Int),iF ((bs.length+1:Nat):Int),iF (k:Int)]=some [.bool (pW bs d i)]:=by
 intro d
 induction d with
 |zero =>
  intro k i m hk hm hi;obtain⟨m,rfl⟩:=qSx m (by omega);rw[q85.qu,decide_eq_false (by omega),cond_false];rfl
 |succ d ih =>
  intro k i m hk hm hi;obtain⟨m,rfl⟩:=qSx m (by omega);rw[q85.qu,decide_eq_true (by omega),cond_true,List.length_map,qc hi,qi (by omega)];simp (disch:=omega) only[q3o hi,Option.bind_some,List.getElem?_cons_zero,List.getElem?_cons_succ,qb];unfold pW;rw[List.getElem?_eq_getElem hi];simp only;by_cases hp:bs[i].parent<=0
  ·rw[decide_eq_true hp,cond_true,if_pos hp]
  ·rw[decide_eq_false hp,cond_false,if_neg hp,qp3 hi hl hn];simp (disch:=omega) only[Option.bind_some,List.getElem?_cons_zero,qb];unfold fIdx;cases hf:bs.findIdx? (q97 bs[i])with
   |none=>rfl
   |some j =>
    have hj:j<bs.length:=(List.findIdx?_eq_some_iff_getElem.1 hf).1;simp only;rw[decide_eq_false (by omega),cond_false];by_cases hji:j=i
    ·subst hji;rw[if_pos rfl,beq_self_eq_true,cond_true]
    ·rw[if_neg hji,show(((j:Nat):Int)==((i:Nat):Int))=false by simp;omega,cond_false];exact ih (k+1) j m (by omega) (by omega) hj
theorem qp7{n:Nat}{i:Nat}(hi:i<bs.length)(hl:bs.length<=1000000)(hn:bs.length+8<=n):evF EnA n 72 [.list 8 (bs.map BlkV.fv),iF (i:Int)]=some [.bool (pW bs (bs.length+1) i)]:=by
 obtain⟨n,rfl⟩:=qSx n (by omega);rw[qp8,List.length_map,qi (by omega)];exact qp6 hl (by omega) (bs.length+1) 0 i n (by omega) (by omega) hi
theorem qkp{n:Nat}(hg:g.lines.length<=1000000)(hs:ss.length<=1000000)(hb:bs.length<=1000000)(hq:∀b,b∈bs->b.qty.length<=1000000)(hn:ss.length+bs.length+(bs.map λb=>b.qty.length).sum+40<=n) :
  evF EnA n 18 (gL g++[.list 7 (ss.map StpV.fv),.list 8 (bs.map BlkV.fv)])=some [.bool (q2h g ss bs)]:=by
 obtain⟨n,rfl⟩:∃k,n=k+3:=⟨n-3,by omega⟩;have hgc:=qop (g:=g) (n:=n+2) hg (by omega);unfold gL at hgc ⊢;simp only[List.cons_append,List.nil_append];rw[qp9,hgc,List.length_map,List.length_map];simp (disch:=omega) only[Option.bind_some,List.getElem?_cons_zero,qb];unfold q2h;by_cases hgv:q3x g=true
 ·obtain⟨hz,hh⟩:q15 g.qm 1 3=true/\q15 g.qk 1 3=true:=by
   unfold q3x at hgv;simp only[Bool.and_eq_true]at hgv;exact⟨hgv.1.1.1.1.1,hgv.1.1.1.1.2⟩
  have hz:=q5i.1 hz;have hh:=q5i.1 hh;rw[hgv,if_pos rfl];by_cases h32:ss.length<=32
  ·rw[decide_eq_true h32,decide_eq_false (show ¬ ((ss.length:Int)>32) by omega)];by_cases h12:bs.length<=12
   ·rw[decide_eq_true h12,decide_eq_false (show ¬ ((bs.length:Int)>12) by omega)];simp only[bne_self_eq_false,cond_false,Bool.true_and]
    have e19:=q35 (F:=λm i=>q1l.l19 (n+2) [] m [.list 8 (bs.map BlkV.fv),iF (bs.length:Int),iF (i:Int)]) (len:=bs.length) (P:=pW bs (bs.length+1)) (fin:=some [.bool true]) (stop:=some [.bool false]) (λm i hi=>by
     show q1l.l19 (n+2) [] (m+1) _=_;rw[q1l.q6x,decide_eq_true (by omega),cond_true,qp7 hi hb (by omega),qi (by omega)];simp (disch:=omega) only[Option.bind_some,List.getElem?_cons_zero,qa];cases pW bs (bs.length+1) i <;> rfl) (λm=>by
     show q1l.l19 (n+2) [] (m+1) _=_
     rw[q1l.q6x,decide_eq_false (by omega),cond_false]) bs.length 0 (n+2) (by omega) (by omega)
    have e19:q1l.l19 (n+2) [] (n+2) [.list 8 (bs.map BlkV.fv),iF (bs.length:Int),iF 0]=_:=e19
    have e11:=q35 (F:=λm i=>q1l.l11 (n+2) [] m [iF g.qm,iF g.qk,.list 3 (g.lines.map q1a.fv),iF g.low,iF g.high,.list 7 (ss.map StpV.fv),.list 8 (bs.map BlkV.fv),.raw (Go.Value.func (Go.Fn.func 65) #[] #[]),.list 8 (bs.map BlkV.fv),iF (bs.length:Int),iF (i:Int)]) (len:=bs.length) (P:=λi=>match bs[i]? with | some b=>q67 g b | none=>true) (fin:=some [.bool (q83 ss&&q84 bs&&(List.range' 0 bs.length).all (pW bs (bs.length+1)))]) (stop:=some [.bool false]) (λm i hi=>by
     show q1l.l11 (n+2) [] (m+1) _=_;have hqi:=hq bs[i] (List.getElem_mem hi);have hsum:bs[i].qty.length<=(bs.map λb=>b.qty.length).sum:=le_sum (List.mem_map.2 ⟨bs[i],List.getElem_mem hi,rfl⟩);rw[q1l.qa2,decide_eq_true (by omega),cond_true,List.length_map,qc hi,qq (x:=g.qm-1) (by omega) (by omega),qi (by omega),List.getElem?_eq_getElem hi];simp (disch:=omega) only[q3o hi,qeq,Option.bind_some,List.getElem?_cons_zero,List.getElem?_cons_succ,q9,qb,qa,qg];rw[List.length_map,icon_run hqi (by omega)];simp (disch:=omega) only[Option.bind_some,List.getElem?_cons_zero,qa];unfold q67;rw[show(((bs[i].qty.length:Int)) !=g.qk)=!decide ((bs[i].qty.length:Int)=g.qk) by simp[bne,BEq.beq]];by_cases hlen:(bs[i].qty.length:Int)=g.qk
     ·by_cases hall:bs[i].qty.all (λq=>q15 q 0 1000)=true
      ·obtain⟨w,hw1,hw2⟩:=max_run (n:=n+2) hqi (λe=>by rw[e]at hlen;simp at hlen;omega) hall (by omega);rw[hw1];simp (disch:=omega) only[Option.bind_some,List.getElem?_cons_zero,qb];rw[hall,decide_eq_true hlen,<- hw2];cases q15 bs[i].zone 0 (g.qm-1) <;> cases q15 bs[i].qo g.low g.high <;> cases(w==0) <;> rfl
      ·rw[Bool.eq_false_iff.2 hall,decide_eq_true hlen];cases q15 bs[i].zone 0 (g.qm-1) <;> cases q15 bs[i].qo g.low g.high <;> rfl
     ·rw[decide_eq_false hlen];cases q15 bs[i].zone 0 (g.qm-1) <;> cases q15 bs[i].qo g.low g.high <;> rfl) (λm=>by
     show q1l.l11 (n+2) [] (m+1) _=_;rw[q1l.qa2,decide_eq_false (by omega),cond_false,rises_run hs (by omega),risek_run hb (by omega),List.length_map];simp (disch:=omega) only[Option.bind_some,List.getElem?_cons_zero,qa];rw[e19]
     cases q83 ss <;> cases q84 bs <;> cases(List.range' 0 bs.length).all (pW bs (bs.length+1)) <;> rfl) bs.length 0 (n+2) (by omega) (by omega)
    rw[q77 bs (q67 g) (λi hi=>by rw[List.getElem?_eq_getElem hi])]at e11;have e11:q1l.l11 (n+2) [] (n+2) [iF g.qm,iF g.qk,.list 3 (g.lines.map q1a.fv),iF g.low,iF g.high,.list 7 (ss.map StpV.fv),.list 8 (bs.map BlkV.fv),.raw (Go.Value.func (Go.Fn.func 65) #[] #[]),.list 8 (bs.map BlkV.fv),iF (bs.length:Int),iF 0]=_:=e11;have e4:=q35 (F:=λm i=>q1l.l4 (n+2) [] m [iF g.qm,iF g.qk,.list 3 (g.lines.map q1a.fv),iF g.low,iF g.high,.list 7 (ss.map StpV.fv),.list 8 (bs.map BlkV.fv),.list 7 (ss.map StpV.fv),iF (ss.length:Int),iF (i:Int)]) (len:=ss.length) (P:=λi=>match ss[i]? with | some s=>q4f g s | none=>true)
     (fin:=bif bs.all (q67 g)then some [.bool (q83 ss&&q84 bs&&(List.range' 0 bs.length).all (pW bs (bs.length+1)))]else some [.bool false]) (stop:=some [.bool false]) (λm i hi=>by
     show q1l.l4 (n+2) [] (m+1) _=_;rw[q1l.q1r,decide_eq_true (by omega),cond_true,List.length_map,qc hi,qq (x:=g.qm-1) (by omega) (by omega),qq (x:=g.qk-1) (by omega) (by omega),qi (by omega),List.getElem?_eq_getElem hi];simp (disch:=omega) only[q4a hi,qeq,Option.bind_some,List.getElem?_cons_zero,List.getElem?_cons_succ,qb,qa,qg];unfold q4f;cases q15 ss[i].zone 0 (g.qm-1) <;> cases q15 ss[i].hour 0 (g.qk-1) <;> cases q15 ss[i].qty 1 1000 <;> cases q15 ss[i].qo g.low g.high <;> rfl) (λm=>by
     show q1l.l4 (n+2) [] (m+1) _=_
     rw[q1l.q1r,decide_eq_false (by omega),cond_false,List.length_map,e11]) ss.length 0 (n+2) (by omega) (by omega)
    rw[q77 ss (q4f g) (λi hi=>by rw[List.getElem?_eq_getElem hi])]at e4;have e4:q1l.l4 (n+2) [] (n+2) [iF g.qm,iF g.qk,.list 3 (g.lines.map q1a.fv),iF g.low,iF g.high,.list 7 (ss.map StpV.fv),.list 8 (bs.map BlkV.fv),.list 7 (ss.map StpV.fv),iF (ss.length:Int),iF 0]=_:=e4;rw[e4];cases ss.all (q4f g) <;> cases bs.all (q67 g) <;> cases q83 ss <;> cases q84 bs <;> rfl
   ·rw[decide_eq_false h12,decide_eq_true (show((bs.length:Int)>12) by omega)];simp
  ·rw[decide_eq_false h32,decide_eq_true (show((ss.length:Int)>32) by omega)];simp
 ·rw[Bool.eq_false_iff.2 hgv];simp
end
end Rf
end
section
/- Which orders may be: the document's answer is the same. -/
set_option maxHeartbeats 2000000
namespace Rf
open Go
section
variable {g:q11} {ss:List StpV} {bs:List BlkV}
theorem all_and{P Q:Nat->Bool}(l:List Nat):l.all (λi=>P i&&Q i)=(l.all P&&l.all Q):=by
 induction l with
 |nil=>rfl
 |cons x l ih =>
  rw[List.all_cons,List.all_cons,List.all_cons,ih];cases P x <;> cases Q x <;> cases l.all P <;> cases l.all Q <;> rfl
end
end Rf
end
section
/- Numbers as contracts: what each comes to. -/
set_option maxHeartbeats 2000000
namespace Rf
open Go
def Sz(q:Rat):Prop:=Bd 1000000000 q
theorem Sz.of{q:Rat}{k:Nat}(h:Bd k q)(hk:k<=1000000000):Sz q:=h.mono hk
def ratF(q:Rat):FV:=.agg [zl (q).num,zb (q).num,nL (q).den,.bool false]
theorem rat_at{L:List Rat}{i:Nat}(h:i<L.length)(c:Nat):at' (L.map ratF) i c=[zl (L[i]).num,zb (L[i]).num,nL (L[i]).den,.bool false][c]?:=by rw[q21,List.getElem?_eq_getElem h];rfl
theorem q7i{X:List Txt}{i:Nat}(h:i<X.length):at' (X.map sF) i 0=some (sF X[i]):=by rw[q21,List.getElem?_eq_getElem h];rfl
theorem q9l{X:List Bool}{i:Nat}(h:i<X.length):at' (X.map FV.bool) i 0=some (.bool X[i]):=by rw[q21,List.getElem?_eq_getElem h];rfl
section
variable {n:Nat} {q r:Rat} {d e:Nat}
theorem a_of{z:Int}(h1:-9223372036854775808<=z)(h2:z<=9223372036854775807):evF EnA (n+1) 111 [iF z]=some [zl ((z:Rat)).num,zb ((z:Rat)).num,nL ((z:Rat)).den,.bool false]:=by
 have:evF EnA (n+1) 111 [iF z]=limO En 111 [iF z]:=by kernel_rfl
 rw[this];exact q1v (of_ev h1 h2)
theorem a_add(hq:Sz q)(hr:Sz r)(hd:dn d=q.den)(he:dn e=r.den):evF EnA (n+1) 113 [zl (q).num,zb (q).num,nL (d),.bool false,zl (r).num,zb (r).num,nL (e),.bool false]=some [zl (q+r).num,zb (q+r).num,nL (q+r).den,.bool false]:=by
 have:evF EnA (n+1) 113 [zl (q).num,zb (q).num,nL (d),.bool false,zl (r).num,zb (r).num,nL (e),.bool false]=limO En 113 [zl (q).num,zb (q).num,nL (d),.bool false,zl (r).num,zb (r).num,nL (e),.bool false]:=by kernel_rfl
 rw[this];exact q1v (radd_ev (by omega) (by omega) hq hr hd he)
theorem a_sub(hq:Sz q)(hr:Sz r)(hd:dn d=q.den)(he:dn e=r.den):evF EnA (n+1) 112 [zl (q).num,zb (q).num,nL (d),.bool false,zl (r).num,zb (r).num,nL (e),.bool false]=some [zl (q-r).num,zb (q-r).num,nL (q-r).den,.bool false]:=by
 have:evF EnA (n+1) 112 [zl (q).num,zb (q).num,nL (d),.bool false,zl (r).num,zb (r).num,nL (e),.bool false]=limO En 112 [zl (q).num,zb (q).num,nL (d),.bool false,zl (r).num,zb (r).num,nL (e),.bool false]:=by kernel_rfl
 rw[this];exact q1v (rsub_ev (by omega) (by omega) hq hr hd he)
theorem a_mul(hq:Sz q)(hr:Sz r)(hd:dn d=q.den)(he:dn e=r.den):evF EnA (n+1) 154 [zl (q).num,zb (q).num,nL (d),.bool false,zl (r).num,zb (r).num,nL (e),.bool false]=some [zl (q*r).num,zb (q*r).num,nL (q*r).den,.bool false]:=by
 have:evF EnA (n+1) 154 [zl (q).num,zb (q).num,nL (d),.bool false,zl (r).num,zb (r).num,nL (e),.bool false]=limO En 154 [zl (q).num,zb (q).num,nL (d),.bool false,zl (r).num,zb (r).num,nL (e),.bool false]:=by kernel_rfl
 rw[this];exact q1v (rmul_ev (by omega) (by omega) hq hr hd he)
theorem a_neg(hq:Sz q)(hd:dn d=q.den):evF EnA (n+1) 169 [zl (q).num,zb (q).num,nL (d),.bool false]=some [zl (-q).num,zb (-q).num,nL (-q).den,.bool false]:=by
 have:evF EnA (n+1) 169 [zl (q).num,zb (q).num,nL (d),.bool false]=limO En 169 [zl (q).num,zb (q).num,nL (d),.bool false]:=by kernel_rfl
 rw[this];exact q1v (rneg_ev (by omega) hq hd)
theorem a_sign(hq:Sz q){l:List FV}{b:Bool}:evF EnA (n+1) 115 [zl q.num,zb q.num,.list 1 l,.bool b]=some [iF q.num.sign]:=by
 have:evF EnA (n+1) 115 [zl q.num,zb q.num,.list 1 l,.bool b]=limO En 115 [zl q.num,zb q.num,.list 1 l,.bool b]:=by kernel_rfl
 rw[this];exact q1v (rsign_ev (k:=1000000000) (by omega) hq)
def cmpQ(q r:Rat):Int:=q1n (q.num*(r.den:Int)) (r.num*(q.den:Int))
theorem q4u(hq:Sz q)(hr:Sz r)(hd:dn d=q.den)(he:dn e=r.den):evF EnA (n+1) 116 [zl (q).num,zb (q).num,nL (d),.bool false,zl (r).num,zb (r).num,nL (e),.bool false]=some [iF (cmpQ q r)]:=by
 have:evF EnA (n+1) 116 [zl (q).num,zb (q).num,nL (d),.bool false,zl (r).num,zb (r).num,nL (e),.bool false]=limO En 116 [zl (q).num,zb (q).num,nL (d),.bool false,zl (r).num,zb (r).num,nL (e),.bool false]:=by kernel_rfl
 rw[this];exact q1v (rcmp_ev (k:=1000000000) (by omega) hq hr hd he)
theorem a_text(hq:Sz q)(hd:dn d=q.den):evF EnA (n+1) 167 [zl (q).num,zb (q).num,nL (d),.bool false]=some [sF (qx q)]:=by
 have:evF EnA (n+1) 167 [zl (q).num,zb (q).num,nL (d),.bool false]=limO En 167 [zl (q).num,zb (q).num,nL (d),.bool false]:=by kernel_rfl
 rw[this];exact q1v (q9m (by omega) (by omega) hq hd)
theorem q9n{t:Txt}(h:pr t=some q)(hl:t.length<=100000000):evF EnA (n+1) 118 [sF t]=some [zl (q).num,zb (q).num,nL (q).den,.bool false,iF 0]:=by
 have:evF EnA (n+1) 118 [sF t]=limO En 118 [sF t]:=by kernel_rfl
 rw[this];exact q1v (qgk h hl)
theorem a_bad{t:Txt}(h:pr t=none)(hl:t.length<=100000000):evF EnA (n+1) 118 [sF t]=some [.list 1 [],.bool false,.list 1 [],.bool false,iF 10]:=by
 have:evF EnA (n+1) 118 [sF t]=limO En 118 [sF t]:=by kernel_rfl
 rw[this];exact q1v (qgl h hl)
theorem w_of{z:Int}(h1:-9223372036854775808<=z)(h2:z<=9223372036854775807):evF EnA (n+1) 12 [iF z]=some [zb ((z:Rat)).num,wl ((z:Rat)).num,.bool false,wL ((z:Rat)).den]:=by
 have:evF EnA (n+1) 12 [iF z]=limO En 12 [iF z]:=by kernel_rfl
 rw[this];exact q1v (q9o h1 h2)
theorem w_mul(hq:Sz q)(hr:Sz r)(hd:dn d=q.den)(he:dn e=r.den):evF EnA (n+1) 13 [zb (q).num,wl (q).num,.bool false,wL (d),zb (r).num,wl (r).num,.bool false,wL (e)]=some [zb (q*r).num,wl (q*r).num,.bool false,wL (q*r).den]:=by
 have:evF EnA (n+1) 13 [zb (q).num,wl (q).num,.bool false,wL (d),zb (r).num,wl (r).num,.bool false,wL (e)]=limO En 13 [zb (q).num,wl (q).num,.bool false,wL (d),zb (r).num,wl (r).num,.bool false,wL (e)]:=by kernel_rfl
 rw[this];exact q1v (qax (by omega) hq hr hd he)
theorem w_text(hq:Sz q)(hd:dn d=q.den):evF EnA (n+1) 14 [zb (q).num,wl (q).num,.bool false,wL (d)]=some [sF (qx q)]:=by
 have:evF EnA (n+1) 14 [zb (q).num,wl (q).num,.bool false,wL (d)]=limO En 14 [zb (q).num,wl (q).num,.bool false,wL (d)]:=by kernel_rfl
 rw[this];exact q1v (qay (by omega) hq hd)
theorem w_parse{t:Txt}(h:pr t=some q)(hl:t.length<=100000000):evF EnA (n+1) 22 [sF t]=some [zb (q).num,wl (q).num,.bool false,wL (q).den,iF 0]:=by
 have:evF EnA (n+1) 22 [sF t]=limO En 22 [sF t]:=by kernel_rfl
 rw[this];exact q1v (qgm h hl)
theorem a_linked{bs:List BlkV}{ac:List Bool}(hb:bs.length<=1000000):evF EnA (n+1) 20 [.list 8 (bs.map BlkV.fv),.list 1 (ac.map .bool)]=some [.bool (q3s bs ac)]:=by
 have:evF EnA (n+1) 20 [.list 8 (bs.map BlkV.fv),.list 1 (ac.map .bool)]=limO En 20 [.list 8 (bs.map BlkV.fv),.list 1 (ac.map .bool)]:=by kernel_rfl
 rw[this];exact q1v (linked_ev hb)
end
theorem q8i{q r:Rat}:decide (cmpQ q r<0)=decide (q<r):=by rw[decide_eq_decide];exact cmp_lt
theorem q9p{q r:Rat}:decide (cmpQ q r>0)=decide (r<q):=by rw[decide_eq_decide];exact cmp_gt
theorem cmpQ_le{q r:Rat}:decide (cmpQ q r<=0)=decide (q<=r):=by rw[decide_eq_decide];exact cmp_le
theorem cmpQ_ge{q r:Rat}:decide (cmpQ q r≥0)=decide (r<=q):=by rw[decide_eq_decide];exact cmp_ge
theorem cmpQ_bd(q r:Rat):-1<=cmpQ q r/\cmpQ q r<=1:=by
 unfold cmpQ q1n;split
 ·omega
 ·split <;> omega
theorem sgn_gt0{q:Rat}:decide (q.num.sign>0)=decide (0<q):=by rw[decide_eq_decide];exact sgn_pos
theorem sgn_lt0{q:Rat}:decide (q.num.sign<0)=decide (q<0):=by rw[decide_eq_decide];exact sgn_neg
theorem sgn_ne0{q:Rat}:(q.num.sign !=0)=!decide (q=0):=by
 by_cases h:q=0
 ·rw[decide_eq_true h,h];rfl
 ·rw[decide_eq_false h];have:q.num.sign≠0:=λe=>h (sgn_zero.1 e);simpa using this
theorem q42{t:Txt}(h:t.length<=256):Bd 1024 (rd t):=by
 unfold rd;cases hp:pr t with
 |none=>exact qaz.mono (by omega)
 |some q=>exact(q8j hp).mono (by omega)
theorem rd_some{t:Txt}{q:Rat}(h:pr t=some q):rd t=q:=by unfold rd;rw[h];rfl
theorem qda{α β:Type}(f:α->β)(z:β)(X:List α){i:Nat}(h:i<X.length):((X.take i).map f++List.replicate (X.length-i) z).set i (f X[i])=(X.take (i+1)).map f++List.replicate (X.length-(i+1)) z:=by
 have hl:((X.take i).map f).length=i:=by simp;omega
 rw[List.set_append_right _ _ (by omega),hl,Nat.sub_self,show X.length-i=(X.length-(i+1))+1 by omega,List.replicate_succ,List.set_cons_zero,List.take_add_one,List.getElem?_eq_getElem h,List.map_append,List.append_assoc];rfl
section
variable {X:List Txt}
theorem nums_run{n:Nat}(hx:∀t,t∈X->t.length<=256)(hl:X.length<=1000000)(hn:X.length+4<=n):evF EnA n 105 [.list 1 (X.map sF)]=if X.all isNum=true then some [.list 4 (X.map λt=>ratF (rd t)),.bool true]else some [.list 4 [],.bool false]:=by
 obtain⟨n,rfl⟩:∃k,n=k+2:=⟨n-2,by omega⟩;have h:=q35 (F:=λm i=>q4v.l3 (n+1) [] m [.list 4 ((X.take i).map (λt=>ratF (rd t))++List.replicate (X.length-i) (.agg [.list 1 [],.bool false,.list 1 [],.bool false])),.list 1 (X.map sF),iF (X.length:Int),iF (i:Int)]) (len:=X.length) (P:=λi=>match X[i]? with | some t=>isNum t | none=>true)
  (fin:=some [.list 4 (X.map λt=>ratF (rd t)),.bool true]) (stop:=some [.list 4 [],.bool false]) (λm i hi=>by
  show q4v.l3 (n+1) [] (m+1) _=_;rw[q4v.qv,decide_eq_true (by omega),cond_true,List.length_map,qc hi,List.getElem?_eq_getElem hi];simp (disch:=omega) only[q7i hi,Option.bind_some,qg];have hlen:=hx X[i] (List.getElem_mem hi);cases hp:pr X[i]with
  |none =>
   rw[a_bad hp (by omega)];simp (disch:=omega) only[Option.bind_some,List.getElem?_cons_zero,List.getElem?_cons_succ,q9,qb,qa];have:isNum X[i]=false:=by unfold isNum;rw[hp];rfl
   rw[this];rfl
  |some q =>
   rw[q9n hp (by omega)];simp (disch:=omega) only[Option.bind_some,List.getElem?_cons_zero,List.getElem?_cons_succ,q9,qb,qa];have:isNum X[i]=true:=by unfold isNum;rw[hp];rfl
   rw[this,cond_true,qc (by simp;omega),qi (by omega)];simp (disch:=omega) only[Option.bind_some];rw[show(FV.agg [zl (q).num,zb (q).num,nL (q).den,.bool false])=ratF (rd X[i]) by rw[rd_some hp];rfl,qda (λt=>ratF (rd t)) _ X hi];rfl) (λm=>by
  show q4v.l3 (n+1) [] (m+1) _=_
  rw[q4v.qv,decide_eq_false (by omega),cond_false,List.take_length,Nat.sub_self,List.replicate_zero,List.append_nil]) X.length 0 (n+1) (by omega) (by omega)
 rw[q77 X isNum (λi hi=>by rw[List.getElem?_eq_getElem hi])]at h;rw[qlk,List.length_map];have e1:q1m 64 ((X.length:Nat):Int)=some X.length:=by
  unfold q1m;rw[if_pos ⟨by omega,by omega,by omega⟩,Int.toNat_natCast]
 rw[e1,Option.bind_some,q1p (Nat.le_refl _),Option.bind_some];have h:q4v.l3 (n+1) [] (n+1) [.list 4 (List.replicate X.length (.agg [.list 1 [],.bool false,.list 1 [],.bool false])),.list 1 (X.map sF),iF (X.length:Int),iF 0]=_:=h;rw[h];cases X.all isNum <;> rfl
theorem gnums_run{n:Nat}(hx:∀t,t∈X->t.length<=256)(hl:X.length<=1000000)(hn:X.length+4<=n):evF EnA n 168 [.list 1 (X.map sF)]=if X.all isNum=true then some [.list 4 (X.map λt=>ratF (rd t)),.bool true]else some [.list 4 [],.bool false]:=by
 obtain⟨n,rfl⟩:∃k,n=k+2:=⟨n-2,by omega⟩;have h:=q35 (F:=λm i=>q4w.l3 (n+1) [] m [.list 4 ((X.take i).map (λt=>ratF (rd t))++List.replicate (X.length-i) (.agg [.list 1 [],.bool false,.list 1 [],.bool false])),.list 1 (X.map sF),iF (X.length:Int),iF (i:Int)]) (len:=X.length) (P:=λi=>match X[i]? with | some t=>isNum t | none=>true)
  (fin:=some [.list 4 (X.map λt=>ratF (rd t)),.bool true]) (stop:=some [.list 4 [],.bool false]) (λm i hi=>by
  show q4w.l3 (n+1) [] (m+1) _=_;rw[q4w.qv,decide_eq_true (by omega),cond_true,List.length_map,qc hi,List.getElem?_eq_getElem hi];simp (disch:=omega) only[q7i hi,Option.bind_some,qg];have hlen:=hx X[i] (List.getElem_mem hi);cases hp:pr X[i]with
  |none =>
   rw[a_bad hp (by omega)];simp (disch:=omega) only[Option.bind_some,List.getElem?_cons_zero,List.getElem?_cons_succ,q9,qb,qa];have:isNum X[i]=false:=by unfold isNum;rw[hp];rfl
   rw[this];rfl
  |some q =>
   rw[q9n hp (by omega)];simp (disch:=omega) only[Option.bind_some,List.getElem?_cons_zero,List.getElem?_cons_succ,q9,qb,qa];have:isNum X[i]=true:=by unfold isNum;rw[hp];rfl
   rw[this,cond_true,qc (by simp;omega),qi (by omega)];simp (disch:=omega) only[Option.bind_some];rw[show(FV.agg [zl (q).num,zb (q).num,nL (q).den,.bool false])=ratF (rd X[i]) by rw[rd_some hp];rfl,qda (λt=>ratF (rd t)) _ X hi];rfl) (λm=>by
  show q4w.l3 (n+1) [] (m+1) _=_
  rw[q4w.qv,decide_eq_false (by omega),cond_false,List.take_length,Nat.sub_self,List.replicate_zero,List.append_nil]) X.length 0 (n+1) (by omega) (by omega)
 rw[q77 X isNum (λi hi=>by rw[List.getElem?_eq_getElem hi])]at h;rw[qll,List.length_map];have e1:q1m 64 ((X.length:Nat):Int)=some X.length:=by
  unfold q1m;rw[if_pos ⟨by omega,by omega,by omega⟩,Int.toNat_natCast]
 rw[e1,Option.bind_some,q1p (Nat.le_refl _),Option.bind_some];have h:q4w.l3 (n+1) [] (n+1) [.list 4 (List.replicate X.length (.agg [.list 1 [],.bool false,.list 1 [],.bool false])),.list 1 (X.map sF),iF (X.length:Int),iF 0]=_:=h;rw[h];cases X.all isNum <;> rfl
end
end Rf
end
