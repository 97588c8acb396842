/- Texts of this work put together, their blanks and comments taken out: NatA. -/
import Derived.Test.YtcpnpoagpnkblaaGreatDoorVMI
import Derived.Test.YtcpnpoagpnkblaaGreatDoorVMG
set_option linter.unusedVariables false
set_option linter.unusedSimpArgs false
section
section
/- The program's numbers: each function by what its numbers are. -/
set_option maxHeartbeats 1000000
namespace Rf
open Go
theorem qp:2<=4294967296:=by decide
theorem set_mid{α:Type}(pre:List α)(x y:α)(r:List α):(pre++x::r).set pre.length y=pre++y::r:=by
 rw[List.set_append_right _ _ (Nat.le_refl _),Nat.sub_self];rfl
theorem qam{pre:List Nat}{d y i:Nat}(h:pre.length=i):List.set ((pre++List.replicate (d+1) 0).map d32) i (.int .u32 (y:Int))=((pre++[y])++List.replicate d 0).map d32:=by
 subst h;rw[List.replicate_succ,List.map_append,List.map_cons];have:=set_mid (pre.map d32) (d32 0) (d32 y) ((List.replicate d 0).map d32);rw[List.length_map]at this;rw[this];simp
theorem q1h{a:List Nat}{i:Nat}(h:i<a.length):a.drop i=a[i]::a.drop (i+1):=List.drop_eq_getElem_cons h
theorem rep0(k:Nat):List.replicate k (FV.int .u32 0)=(List.replicate k 0).map d32:=by rw[List.map_replicate];rfl
theorem mk4{k:Nat}(h:k<=1099511627776):q1m 4 (k:Int)=some k:=by
 unfold q1m;rw[if_pos ⟨by omega,by omega,by omega⟩];simp
theorem trim_loop{n:Nat}{l0:List FV}:∀(k:Nat) (l:List Nat) (m:Nat),l.length=k->k<m->k<=1099511627776+1->q7w.l1 n [] m [.list 1 l0,L32 l]=some [L32 (tz l)]:=by
 intro k
 induction k with
 |zero =>
  intro l m hl hm hk;obtain⟨m,rfl⟩:=qSx m (by omega);have:l=[]:=List.eq_nil_of_length_eq_zero hl;subst this;rw[q7w.q2d];rfl
 |succ k ih =>
  intro l m hl hm hk;obtain⟨m,rfl⟩:=qSx m (by omega);obtain⟨r,d,rfl⟩:∃r d,l=r++[d]:=by
   rcases List.eq_nil_or_concat l with h | ⟨r,d,h⟩
   ·subst h;simp at hl
   ·exact⟨r,d,by simpa using h⟩
  have hr:r.length=k:=by simpa using hl
  rw[q7w.q2d,List.length_map,decide_eq_true (by omega),cond_true,hl];have e1:IntKind.wrap .i64 (((k+1:Nat):Int)-1)=(k:Int):=by rw[qq (by omega) (by omega)];omega
  have hat:at' ((r++[d]).map d32) k 0=some (.int .u32 (d:Int)):=by
   rw[q30 (by rw[hl];omega)];simp[<- hr]
  rw[e1,qc (by omega),Option.bind_some,hat,qb,Option.bind_some];by_cases h0:d=0
  ·subst h0;rw[show(((0:Nat):Int)==0)=true from rfl,cond_true,q1p (by omega),Option.bind_some,qas];have:List.drop 0 (List.take k ((r++[0]).map d32))=r.map d32:=by
    rw[List.drop_zero,List.map_append,List.take_append_of_le_length (by simp[hr]),List.take_of_length_le (by simp[hr])]
   rw[this];exact ih r m hr (by omega) (by omega)
  ·rw[show((d:Int)==0)=false from beq_eq_false_iff_ne.2 (by omega),cond_false,qat h0]
theorem q76{n:Nat}{l:List Nat}(h:l.length<=1099511627776+1)(hn:l.length<n):evF En (n+1) 229 [L32 l]=some [L32 (tz l)]:=by
 rw[qmq];exact trim_loop l.length l n rfl hn h
theorem sum32{c x:Nat}(h:c+x<18446744073709551616)(hx:x<4294967296):IntKind.wrap .u64 ((c:Int)+IntKind.wrap .u64 (x:Int))=((c+x:Nat):Int):=by
 rw[q14 (by omega:x<18446744073709551616),q5m h]
theorem lo32(x:Nat):IntKind.wrap .u32 (x:Int)=((x%4294967296:Nat):Int):=wrap_u32 x
theorem hi32(x:Nat):shI false .u64 (x:Int) 32=((x / 4294967296:Nat):Int):=by
 have:=q9w .u64 x 32 (by decide);rw[show((32:Nat):Int)=32 from rfl]at this;rw[this]
theorem add_loop{n:Nat}{a b:List Nat}(ha:Dg 4294967296 a)(hb:Dg 4294967296 b)(hab:b.length<=a.length)(hl:a.length<=1099511627776)(hn:a.length+3<=n){l2:List FV}:∀(d i m:Nat) (pre:List Nat) (c:Nat),i+d=a.length->d<m->pre.length=i->c<=1 ->
  q52.l6 n [] m [L32 a,L32 b,.list 1 l2,L32 (pre++List.replicate (d+1) 0),.int .u64 (c:Int),L32 a,.int .i64 (a.length:Int),.int .i64 (i:Int)]=some [L32 (tz (pre++addL 4294967296 (a.drop i) (b.drop i) c))]:=by
 intro d
 induction d with
 |zero =>
  intro i m pre c hi hm hp hc;obtain⟨m,rfl⟩:=qSx m (by omega);obtain⟨n,rfl⟩:=qSx n (by omega);rw[q52.q2p,decide_eq_false (by omega),cond_false];simp only[List.length_map,List.length_append,List.length_replicate,qc (show a.length<pre.length+(0+1) by omega),Option.bind_some];rw[lo32,Nat.mod_eq_of_lt (by omega:c<4294967296),qam (by omega),List.replicate_zero,List.append_nil,q76 (by simp;omega) (by simp;omega)];simp only[Option.bind_some,List.getElem?_cons_zero,q9];rw[List.drop_of_length_le (by omega)];rfl
 |succ d ih =>
  intro i m pre c hi hm hp hc;obtain⟨m,rfl⟩:=qSx m (by omega);have hia:i<a.length:=by omega
  have hx:=ha a[i] (List.getElem_mem hia);rw[q52.q2p,decide_eq_true (by omega),cond_true,q1h hia];simp only[List.length_map,List.length_append,List.length_replicate,qc hia,Option.bind_some,q30 hia,qb,qc (show i<pre.length+(d+1+1) by omega),addL];by_cases hib:i<b.length
  ·have hy:=hb b[i] (List.getElem_mem hib);rw[decide_eq_true (by omega),cond_true,q1h hib];simp only[qc hib,Option.bind_some,q30 hib,qb,List.headD_cons,List.tail_cons];rw[sum32 (by omega) hx,sum32 (by omega) hy,lo32,hi32,qam hp,qi (by omega)]
   rw[ih (i+1) m (pre++[(c+a[i]+b[i])%4294967296]) ((c+a[i]+b[i]) / 4294967296) (by omega) (by omega) (by simp[hp]) (by
    have:=Nat.div_lt_of_lt_mul (m:=c+a[i]+b[i]) (n:=4294967296) (k:=2) (by omega)
    omega)]
   rw[List.append_assoc];rfl
  ·rw[decide_eq_false (by omega),cond_false,List.drop_of_length_le (show b.length<=i by omega)];simp only[List.headD_nil,List.tail_nil,Nat.add_zero];rw[sum32 (by omega) hx,lo32,hi32,qam hp,qi (by omega)]
   have:=ih (i+1) m (pre++[(c+a[i])%4294967296]) ((c+a[i]) / 4294967296) (by omega) (by omega) (by simp[hp]) (by
    have:=Nat.div_lt_of_lt_mul (m:=c+a[i]) (n:=4294967296) (k:=2) (by omega)
    omega)
   rw[List.drop_of_length_le (show b.length<=i+1 by omega)]at this;rw[this,List.append_assoc];rfl
theorem natAdd_ev{x y:Nat}(hx:(dg 4294967296 x).length<=1099511627776-1)(hy:(dg 4294967296 y).length<=1099511627776-1):Ev En 200 [L32 (dg 4294967296 x),L32 (dg 4294967296 y)] [L32 (dg 4294967296 (x+y))]:=by
 have main:∀(u v:Nat),(dg 4294967296 v).length<=(dg 4294967296 u).length->(dg 4294967296 u).length<=1099511627776-1->∀n,(dg 4294967296 u).length+3<=n ->
   ((q1m 4 (IntKind.wrap .i64 (((dg 4294967296 u).length:Int)+1))).bind λi0=>(bd (IntKind.wrap .i64 (((dg 4294967296 u).length:Int)+1)) i0).bind λi1=>q52.l6 n [] n [L32 (dg 4294967296 u),L32 (dg 4294967296 v),.list 1 [],.list 1 (List.replicate i1 (.int .u32 0:FV)),.int .u64 0,L32 (dg 4294967296 u),.int .i64 ((dg 4294967296 u).length:Int),.int .i64 0])=some [L32 (dg 4294967296 (u+v))]:=λu v h1 h2 n hn=>by
  rw[qi (by omega),mk4 (by omega),Option.bind_some,q1p (Nat.le_refl _),Option.bind_some,rep0];have:=add_loop (n:=n) (qw qp u) (qw qp v) h1 (by omega) hn (l2:=[]) (dg 4294967296 u).length 0 n [] 0 (by omega) (by omega) rfl (by omega);rw[List.nil_append,List.drop_zero,List.drop_zero,List.nil_append]at this;rw[show(((0:Nat):Int))=0 from rfl]at this;rw[this,<- q2i qp (qd4 qp _ _ 0 (qw qp u) (qw qp v) (by omega)),qd5 _ _ _ h1,q1k qp,q1k qp,Nat.add_zero]
 refine Ev.of ((dg 4294967296 x).length+(dg 4294967296 y).length+3) λn hn=>?_;rw[qmk,List.length_map,List.length_map];by_cases h:(dg 4294967296 x).length<(dg 4294967296 y).length
 ·rw[decide_eq_true (by omega),cond_true,main y x (by omega) hy n (by omega),Nat.add_comm]
 ·rw[decide_eq_false (by omega),cond_false,main x y (by omega) hx n (by omega)]
theorem qf3{x:Nat}(hx:x<18446744073709551616):Ev En 204 [.int .u64 (x:Int)] [L32 (dg 4294967296 x)]:=by
 refine Ev.of 5 λn hn=>?_;obtain⟨n,rfl⟩:=qSx n (by omega);rw[nat_Of_eq,lo32,hi32,lo32];have e:qd 2 (.int .u32 0) [(0,(.int .u32 ((x%4294967296:Nat):Int))),(1,(.int .u32 ((x / 4294967296%4294967296:Nat):Int)))]=[x%4294967296,x / 4294967296%4294967296].map d32:=rfl;rw[e,q76 (by simp) (by simp;omega)];simp only[Option.bind_some,List.getElem?_cons_zero,q9];have hd:Dg 4294967296 [x%4294967296,x / 4294967296%4294967296]:=λd hd=>by
  simp only[List.mem_cons,List.not_mem_nil,or_false]at hd;omega
 rw[<- q2i qp hd];have:vl 4294967296 [x%4294967296,x / 4294967296%4294967296]=x:=by simp only[vl];omega
 rw[this]
theorem mul64{x y:Nat}(hx:x<4294967296)(hy:y<4294967296):IntKind.wrap .u64 (IntKind.wrap .u64 (x:Int)*IntKind.wrap .u64 (y:Int))=((x*y:Nat):Int)/\x*y<=18446744065119617025:=by
 have h:x*y<=4294967295*4294967295:=Nat.mul_le_mul (by omega) (by omega);exact⟨by rw[q14 (by omega),q14 (by omega),q9j (by omega)],h⟩
theorem qrb{n:Nat}{a:List Nat}{k:Nat}(ha:Dg 4294967296 a)(hk:k<4294967296)(hl:a.length<=1099511627776)(hn:a.length+3<=n){l1:List FV}:∀(d i m:Nat) (pre:List Nat) (c:Nat),i+d=a.length->d<m->pre.length=i->c<4294967296 ->
  q7y.l4 n [] m [L32 a,.list 1 l1,.int .u32 (k:Int),L32 (pre++List.replicate (d+1) 0),.int .u64 (c:Int),L32 a,.int .i64 (a.length:Int),.int .i64 (i:Int)]=some [L32 (tz (pre++mulL 4294967296 (a.drop i) k c))]:=by
 intro d
 induction d with
 |zero =>
  intro i m pre c hi hm hp hc;obtain⟨m,rfl⟩:=qSx m (by omega);obtain⟨n,rfl⟩:=qSx n (by omega);rw[q7y.q1r,decide_eq_false (by omega),cond_false];simp only[List.length_map,List.length_append,List.length_replicate,qc (show a.length<pre.length+(0+1) by omega),Option.bind_some];rw[lo32,Nat.mod_eq_of_lt hc,qam (by omega),List.replicate_zero,List.append_nil,q76 (by simp;omega) (by simp;omega)];simp only[Option.bind_some,List.getElem?_cons_zero,q9];rw[List.drop_of_length_le (by omega)];rfl
 |succ d ih =>
  intro i m pre c hi hm hp hc;obtain⟨m,rfl⟩:=qSx m (by omega);have hia:i<a.length:=by omega
  have hx:=ha a[i] (List.getElem_mem hia);obtain⟨e1,e2⟩:=mul64 hx hk;rw[q7y.q1r,decide_eq_true (by omega),cond_true,q1h hia];simp only[List.length_map,List.length_append,List.length_replicate,qc hia,Option.bind_some,q30 hia,qb,qc (show i<pre.length+(d+1+1) by omega),mulL];rw[e1,q5m (by omega),lo32,hi32,qam hp,qi (by omega)];rw[ih (i+1) m (pre++[(c+a[i]*k)%4294967296]) ((c+a[i]*k) / 4294967296) (by omega) (by omega) (by simp[hp]) (Nat.div_lt_of_lt_mul (q9h hx hk hc))];rw[List.append_assoc];rfl
theorem qr5{x k c:Nat}(hk:k<4294967296)(hc:c<4294967296)(hx:(dg 4294967296 x).length<=1099511627775):Ev En 250 [L32 (dg 4294967296 x),.int .u32 (k:Int),.int .u32 (c:Int)] [L32 (dg 4294967296 (x*k+c))]:=by
 refine Ev.of ((dg 4294967296 x).length+3) λn hn=>?_;rw[qmv,List.length_map,qi (by omega),mk4 (by omega),Option.bind_some,q1p (Nat.le_refl _),Option.bind_some,rep0,q14 (by omega)];have:=qrb (n:=n) (qw qp x) hk (by omega) hn (l1:=[]) (dg 4294967296 x).length 0 n [] c (by omega) (by omega) rfl hc;rw[List.nil_append,List.drop_zero,List.nil_append]at this;rw[show(((0:Nat):Int))=0 from rfl]at this;rw[this,<- q2i qp (qd1 _ k c (qw qp x) hk hc),qd2,q1k qp]
theorem q9g{α:Type}{pre:List α}{x y:α}{r:List α}{i:Nat}(h:pre.length=i):(pre++x::r).set i y=pre++y::r:=by subst h;exact set_mid pre x y r
theorem qrc{n:Nat}{a:List Nat}{k:Nat}(ha:Dg 4294967296 a)(hk0:0<k)(hk:k<4294967296)(hl:a.length<=1099511627776)(hn:a.length+3<=n){l1:List FV}:∀(i m:Nat),i<=a.length->i<m ->
  q7v.l4 n [] m [L32 a,.list 1 l1,.int .u32 (k:Int),L32 (List.replicate i 0++(divL 4294967296 k (a.drop i)).2),.int .u64 (((divL 4294967296 k (a.drop i)).1:Nat):Int),.int .i64 ((i:Int)-1)] =
   some [L32 (tz (divL 4294967296 k a).2),.int .u32 (((divL 4294967296 k a).1:Nat):Int)]:=by
 intro i
 induction i with
 |zero =>
  intro m hi hm;obtain⟨m,rfl⟩:=qSx m (by omega);obtain⟨n,rfl⟩:=qSx n (by omega);obtain⟨g1,g2,g3,g4⟩:=q4s hk0 a ha;rw[q7v.q1r,decide_eq_false (by omega),cond_false,List.drop_zero,List.replicate_zero,List.nil_append,q76 (by omega) (by omega)];simp only[Option.bind_some,List.getElem?_cons_zero,q9];rw[lo32,Nat.mod_eq_of_lt (by omega)]
 |succ i ih =>
  intro m hi hm;obtain⟨m,rfl⟩:=qSx m (by omega);have hia:i<a.length:=by omega
  have hx:=ha a[i] (List.getElem_mem hia);have hda:Dg 4294967296 (a.drop (i+1)):=λd hd=>ha d (List.mem_of_mem_drop hd);obtain⟨g1,g2,g3,g4⟩:=q4s hk0 (a.drop (i+1)) hda;have ih:=ih m (by omega) (by omega);rw[q1h hia]at ih;simp only[divL]at ih;generalize (divL 4294967296 k (a.drop (i+1))).1=r at g1 g2 ih ⊢;generalize (divL 4294967296 k (a.drop (i+1))).2=q at g1 g3 g4 ih ⊢;have hq:q.length=a.length-(i+1):=by rw[g4,List.length_drop]
  have hlen:(List.replicate (i+1) 0++q).length=a.length:=by simp[hq];omega
  have e0:(((i+1:Nat):Int)-1)=(i:Int):=by omega
  have e1:bitI .or .u64 (shI true .u64 (r:Int) 32) (IntKind.wrap .u64 (a[i]:Int))=((r*4294967296+a[i]:Nat):Int):=by
   have h1:=q8v .u64 r 32 (by decide);rw[show((32:Nat):Int)=32 from rfl]at h1;rw[h1,q14 (by omega),q14 (by omega),q9x (by omega) (by omega),qbq (s:=32) (by omega)]
  have e2:Int.tdiv ((r*4294967296+a[i]:Nat):Int) (k:Int)=(((r*4294967296+a[i]) / k:Nat):Int):=rfl;have e3:Int.tmod ((r*4294967296+a[i]:Nat):Int) (k:Int)=(((r*4294967296+a[i])%k:Nat):Int):=rfl;have hdig:(r*4294967296+a[i]) / k<4294967296:=by
   rw[Nat.div_lt_iff_lt_mul hk0];have:(r+1)*4294967296<=k*4294967296:=Nat.mul_le_mul_right _ g2;omega
  rw[q7v.q1r,e0,decide_eq_true (by omega),cond_true,q14 (show k<18446744073709551616 by omega),show decide ((k:Int)=0)=false from decide_eq_false (by omega)];simp only[List.length_map,hlen,qc hia,Option.bind_some,q30 hia,qb,cond_false];rw[e1,e2,e3,q14 (by omega),q51 hdig];have hset:List.set ((List.replicate (i+1) 0++q).map d32) i (.int .u32 (((r*4294967296+a[i]) / k:Nat):Int))=(List.replicate i 0++((r*4294967296+a[i]) / k)::q).map d32:=by
   have hr:List.replicate (i+1) 0++q=List.replicate i 0++(0::q):=by rw[List.replicate_succ',List.append_assoc];rfl
   rw[hr,List.map_append,List.map_cons,q9g (by simp),List.map_append,List.map_cons]
  rw[hset,show IntKind.wrap .i64 ((i:Int)-1)=(i:Int)-1 from qq (by omega) (by omega)];exact ih
theorem qk1{x k:Nat}(hk0:0<k)(hk:k<4294967296)(hx:(dg 4294967296 x).length<=1099511627775):Ev En 205 [L32 (dg 4294967296 x),.int .u32 (k:Int)] [L32 (dg 4294967296 (x / k)),.int .u32 ((x%k:Nat):Int)]:=by
 refine Ev.of ((dg 4294967296 x).length+3) λn hn=>?_;rw[qmm,List.length_map,mk4 (by omega),Option.bind_some,q1p (Nat.le_refl _),Option.bind_some,rep0,show IntKind.wrap .i64 (((dg 4294967296 x).length:Int)-1)=((dg 4294967296 x).length:Int)-1 from qq (by omega) (by omega)];have:=qrc (n:=n) (qw qp x) hk0 hk (by omega) hn (l1:=[]) (dg 4294967296 x).length n (Nat.le_refl _) (by omega);rw[List.drop_of_length_le (Nat.le_refl _)]at this;simp only[divL,List.append_nil]at this;rw[show(((0:Nat):Int))=0 from rfl]at this;rw[this];obtain⟨g1,g2,g3,g4⟩:=q4s hk0 (dg 4294967296 x) (qw qp x);rw[q1k qp]at g1;rw[<- q2i qp g3];have key:∀q r:Nat,x=k*q+r->r<k->x / k=q/\x%k=r:=by
  intro q r e hr;subst e;exact⟨by rw[Nat.mul_add_div hk0,Nat.div_eq_of_lt hr,Nat.add_zero],by rw[Nat.mul_add_mod,Nat.mod_eq_of_lt hr]⟩
 obtain⟨h1,h2⟩:=key _ _ g1 g2;rw[h1,h2]
def cmpN(x y:Nat):Int:=if x<y then -1 else if y<x then 1 else 0
theorem cmp_loop{n:Nat}{a b:List Nat}(ha:Dg 4294967296 a)(hb:Dg 4294967296 b)(hab:a.length=b.length)(hl:a.length<=1099511627776):∀(i m:Nat),i<=a.length->i<m->a.drop i=b.drop i ->
  q7u.l6 n [] m [L32 a,L32 b,.int .i64 ((i:Int)-1)]=some [.int .i64 (cmpN (vl 4294967296 a) (vl 4294967296 b))]:=by
 intro i
 induction i with
 |zero =>
  intro m hi hm he;obtain⟨m,rfl⟩:=qSx m (by omega);rw[List.drop_zero,List.drop_zero]at he;subst he;rw[q7u.q2p,decide_eq_false (by omega),cond_false];simp[cmpN]
 |succ i ih =>
  intro m hi hm he;obtain⟨m,rfl⟩:=qSx m (by omega);have hia:i<a.length:=by omega
  have hib:i<b.length:=by omega
  have e0:(((i+1:Nat):Int)-1)=(i:Int):=by omega
  rw[q7u.q2p,e0,decide_eq_true (by omega),cond_true];simp only[List.length_map,qc hia,qc hib,Option.bind_some,q30 hia,q30 hib,qb];have da:a=a.take i++a[i]::a.drop (i+1):=by rw[<- q1h hia,List.take_append_drop]
  have db:b=b.take i++b[i]::b.drop (i+1):=by rw[<- q1h hib,List.take_append_drop]
  have ta:Dg 4294967296 (a.take i):=λd hd=>ha d (List.mem_of_mem_take hd);have tb:Dg 4294967296 (b.take i):=λd hd=>hb d (List.mem_of_mem_take hd);have tl:(a.take i).length=(b.take i).length:=by rw[List.length_take,List.length_take,hab]
  by_cases h:a[i]=b[i]
  ·rw[show((a[i]:Int) !=(b[i]:Int))=false by simp[h],cond_false,show IntKind.wrap .i64 ((i:Int)-1)=(i:Int)-1 from qq (by omega) (by omega)];exact ih m (by omega) (by omega) (by rw[q1h hia,q1h hib,h,he])
  ·rw[show((a[i]:Int) !=(b[i]:Int))=true by simp;omega,cond_true];by_cases hlt:a[i]<b[i]
   ·rw[decide_eq_true (by omega),cond_true];have:=qav (b:=4294967296) (by omega) ta tb tl hlt (b.drop (i+1));rw[<- db,<- he,<- da]at this;unfold cmpN;rw[if_pos this]
   ·rw[decide_eq_false (by omega),cond_false];have:=qav (b:=4294967296) (by omega) tb ta tl.symm (show b[i]<a[i] by omega) (a.drop (i+1));rw[<- da,he,<- db]at this;unfold cmpN;rw[if_neg (by omega),if_pos this]
theorem q88{x y:Nat}(hx:(dg 4294967296 x).length<=1099511627775)(hy:(dg 4294967296 y).length<=1099511627775):Ev En 202 [L32 (dg 4294967296 x),L32 (dg 4294967296 y)] [.int .i64 (cmpN x y)]:=by
 refine Ev.of ((dg 4294967296 x).length+3) λn hn=>?_;rw[qml,List.length_map,List.length_map];by_cases h1:(dg 4294967296 x).length<(dg 4294967296 y).length
 ·rw[decide_eq_true (by omega),cond_true];have:=q8d qp h1;unfold cmpN;rw[if_pos this]
 ·rw[decide_eq_false (by omega),cond_false];by_cases h2:(dg 4294967296 y).length<(dg 4294967296 x).length
  ·rw[decide_eq_true (by omega),cond_true];have:=q8d qp h2;unfold cmpN;rw[if_neg (by omega),if_pos this]
  ·rw[decide_eq_false (by omega),cond_false,show IntKind.wrap .i64 (((dg 4294967296 x).length:Int)-1)=((dg 4294967296 x).length:Int)-1 from qq (by omega) (by omega)];have:=cmp_loop (n:=n) (qw qp x) (qw qp y) (by omega) (by omega) (dg 4294967296 x).length n (Nat.le_refl _) (by omega) (by rw[List.drop_of_length_le (Nat.le_refl _),List.drop_of_length_le (by omega)]);rw[q1k qp,q1k qp]at this;exact this
end Rf
end
section
set_option maxHeartbeats 1000000
namespace Rf
open Go
theorem q4k{pre:List Nat}{x y:Nat}{r:List Nat}{i:Nat}(h:pre.length=i):List.set ((pre++x::r).map d32) i (.int .u32 (y:Int))=(pre++y::r).map d32:=by
 rw[List.map_append,List.map_cons,q9g (by simpa using h)];simp[d32]
theorem q39{pre:List Nat}{x:Nat}{r:List Nat}{i:Nat}(h:pre.length=i):at' ((pre++x::r).map d32) i 0=some (.int .u32 (x:Int)):=by
 subst h;rw[q21,List.getElem?_append_right (Nat.le_refl _),Nat.sub_self];rfl
theorem wu32(z:Int):IntKind.wrap .u32 z=z%4294967296:=by
 unfold IntKind.wrap;simp[IntKind.bits,IntKind.signed]
theorem qrd{x y br:Nat}(hx:x<4294967296)(hy:y<4294967296)(hb:br<=1):IntKind.wrap .u32 (IntKind.wrap .u32 ((x:Int)-(y:Int))-(br:Int))=(((4294967296+x-y-br)%4294967296:Nat):Int):=by
 rw[wu32,wu32];omega
theorem qfs{n x y br:Nat}(hx:x<4294967296)(hy:y<4294967296)(hb:br<=1) :
  evF En (n+1) 231 [.int .u32 (x:Int),.int .u32 (y:Int),.int .u32 (br:Int)]=some [.int .u32 (((4294967296+x-y-br)%4294967296:Nat):Int),.int .u32 ((if x<y+br then 1 else 0:Nat):Int)]:=by
 rw[qmr,qrd hx hy hb,qmc hx hy hb]
theorem sub_loop{n:Nat}{a b:List Nat}(ha:Dg 4294967296 a)(hb:Dg 4294967296 b)(hl:a.length<=1099511627776)(hn:a.length+3<=n){l1:List FV}:∀(d i m:Nat) (pre:List Nat) (c:Nat),i+d=a.length->d<m->pre.length=i->c<=1 ->
  q5z.l6 n [] m [L32 b,.list 1 l1,L32 (pre++a.drop i),.int .u32 (c:Int),.int .i64 (a.length:Int),.int .i64 (i:Int)]=some [L32 (tz (pre++(subL 4294967296 (a.drop i) (b.drop i) c).1)),.int .i64 0]:=by
 intro d
 induction d with
 |zero =>
  intro i m pre c hi hm hp hc;obtain⟨m,rfl⟩:=qSx m (by omega);obtain⟨n,rfl⟩:=qSx n (by omega);rw[q5z.q2p,decide_eq_false (by omega),cond_false,List.drop_of_length_le (show a.length<=i by omega)];simp only[subL,List.append_nil];rw[q76 (by omega) (by omega)];simp only[Option.bind_some,List.getElem?_cons_zero,q9]
 |succ d ih =>
  intro i m pre c hi hm hp hc;obtain⟨m,rfl⟩:=qSx m (by omega);have hia:i<a.length:=by omega
  have hx:=ha a[i] (List.getElem_mem hia);rw[q5z.q2p,decide_eq_true (by omega),cond_true,q1h hia];have hlen:i<(pre++a[i]::a.drop (i+1)).length:=by simp;omega
  obtain⟨n,rfl⟩:=qSx n (by omega);have key:∀y:Nat,y<4294967296->y=(b.drop i).headD 0->(evF En (n+1) 231 [.int .u32 (a[i]:Int),.int .u32 (y:Int),.int .u32 (c:Int)]).bind (λr4=>(asInt .u32 (r4[0]?)).bind λn5=>(asInt .u32 (r4[1]?)).bind λn6=>(ix (i:Int) ((pre++a[i]::a.drop (i+1)).map d32).length).bind λi7=>q5z.l6 (n+1) [] m [L32 b,.list 1 l1,.list 1 (List.set ((pre++a[i]::a.drop (i+1)).map d32) i7 (.int .u32 n5)),.int .u32 n6,.int .i64 (a.length:Int),.int .i64 (Go.IntKind.wrap .i64 ((i:Int)+1))]) =
    some [L32 (tz (pre++(subL 4294967296 (a[i]::a.drop (i+1)) (b.drop i) c).1)),.int .i64 0]:=λy hy he=>by
   rw[qfs hx hy hc];simp only[Option.bind_some,List.getElem?_cons_zero,List.getElem?_cons_succ,qb,List.length_map,qc hlen];rw[q4k hp,qi (by omega)];have:=ih (i+1) m (pre++[(4294967296+a[i]-y-c)%4294967296]) (if a[i]<y+c then 1 else 0) (by omega) (by omega) (by simp[hp]) (by split <;> omega);rw[List.append_assoc]at this;refine this.trans ?_;simp only[subL,<- he,List.tail_drop,List.append_assoc];rfl
  simp only[List.length_map,qc hlen,Option.bind_some,q39 hp,qb];by_cases hib:i<b.length
  ·rw[decide_eq_true (by omega),cond_true];simp only[qc hib,Option.bind_some,q30 hib,qb];have:=key b[i] (hb b[i] (List.getElem_mem hib)) (by rw[q1h hib];rfl);simp only[List.length_map,qc hlen]at this;exact this
  ·rw[decide_eq_false (by omega),cond_false];have:=key 0 (by omega) (by rw[List.drop_of_length_le (by omega)];rfl);simp only[List.length_map,qc hlen]at this;exact this
theorem clone_run{n:Nat}{l:List Nat}(h:l≠[])(hl:l.length<=1099511627776):evF En (n+1) 230 [L32 l]=some [L32 l]:=by
 show cloneExt [L32 l]=_;simp only[cloneExt];rw[if_pos ⟨by simpa using h,by simpa using hl,by simp[]⟩]
theorem qje{x y:Nat}(h0:x≠0)(hyx:y<=x)(hx:(dg 4294967296 x).length<=1099511627775)(hy:(dg 4294967296 y).length<=1099511627775):Ev En 201 [L32 (dg 4294967296 x),L32 (dg 4294967296 y)] [L32 (dg 4294967296 (x-y)),.int .i64 0]:=by
 obtain⟨n1,h1⟩:=q88 hx hy;refine Ev.of (n1+(dg 4294967296 x).length+3) λn hn=>?_;obtain⟨n,rfl⟩:=qSx n (by omega);rw[qhc,h1 _ (by omega)];simp only[Option.bind_some,List.getElem?_cons_zero,qb];rw[decide_eq_false (by unfold cmpN;rw[if_neg (by omega)];split <;> omega),cond_false,clone_run (λh=>h0 ((q3r qp).1 h)) (by omega)];simp only[Option.bind_some,List.getElem?_cons_zero,q9,List.length_map];have:=sub_loop (n:=n+1) (qw qp x) (qw qp y) (by omega) (by omega) (l1:=[]) (dg 4294967296 x).length 0 (n+1) [] 0 (by omega) (by omega) rfl (by omega);rw[List.nil_append,List.drop_zero,List.drop_zero,List.nil_append]at this;refine this.trans ?_;have hlen:(dg 4294967296 y).length<=(dg 4294967296 x).length:=by
  apply Nat.le_of_not_lt;intro hlt;have:=q8d qp hlt;omega
 obtain⟨g1,g2,g3,g4⟩:=qd7 qp (dg 4294967296 x) (dg 4294967296 y) 0 (qw qp x) (qw qp y) (by omega) hlen;rw[q1k qp,q1k qp]at g1;have hv:=q3g (by omega) g2;rw[g3]at hv;have:(subL 4294967296 (dg 4294967296 x) (dg 4294967296 y) 0).2=0:=by
  rcases Nat.lt_or_ge 0 (subL 4294967296 (dg 4294967296 x) (dg 4294967296 y) 0).2 with q | q
  ·have e:(subL 4294967296 (dg 4294967296 x) (dg 4294967296 y) 0).2=1:=by omega
   rw[e]at g1;omega
  ·omega
 rw[this]at g1;rw[<- q2i qp g2];have e:vl 4294967296 (subL 4294967296 (dg 4294967296 x) (dg 4294967296 y) 0).1=x-y:=by omega
 rw[e]
theorem qq8{x y:Nat}(hxy:x<y)(hx:(dg 4294967296 x).length<=1099511627775)(hy:(dg 4294967296 y).length<=1099511627775):Ev En 201 [L32 (dg 4294967296 x),L32 (dg 4294967296 y)] [.list 1 [],.int .i64 11]:=by
 obtain⟨n1,h1⟩:=q88 hx hy;refine Ev.of n1 λn hn=>?_;rw[qhc,h1 _ (by omega)];simp only[Option.bind_some,List.getElem?_cons_zero,qb];rw[decide_eq_true (by unfold cmpN;rw[if_pos hxy];omega),cond_true]
theorem mul_row{n m0:Nat}{a b:List Nat}(hb:Dg 4294967296 b)(hl:a.length+b.length<=1099511627776){l1:List FV}{x i:Nat}(hx:x<4294967296)(hia:i<a.length):∀(e:List Nat) (k m:Nat) (pre acc:List Nat) (c:Nat),b.drop k=e->k+e.length=b.length->e.length<m->pre.length=i+k->e.length<acc.length->Dg 4294967296 acc->c<4294967296 ->
  q31.l7 n [m0] m [L32 b,.list 1 l1,L32 (pre++acc),.int .i64 (i:Int),.int .u32 (x:Int),.int .u64 (c:Int),L32 a,.int .i64 (a.length:Int),.int .i64 (i:Int),L32 b,.int .i64 (b.length:Int),.int .i64 (k:Int)] =
   q31.l3 n [] m0 [L32 b,.list 1 l1,L32 (pre++maRow 4294967296 acc e x c),L32 a,.int .i64 (a.length:Int),.int .i64 ((i+1:Nat):Int)]:=by
 intro e
 induction e with
 |nil =>
  intro k m pre acc c hk hke hm hp hacc hd hc;obtain⟨m,rfl⟩:=qSx m (by omega);simp only[List.length_nil,Nat.add_zero]at hke;obtain⟨h,t,rfl⟩:∃h t,acc=h::t:=by
   cases acc with
   |nil=>simp at hacc
   |cons h t=>exact⟨h,t,rfl⟩
  rw[q31.l7_eq,decide_eq_false (by omega),cond_false,List.length_map,q23 (by omega)];have hlt:i+b.length<(pre++h::t).length:=by simp;omega
  simp only[List.length_map,qc hlt,Option.bind_some];rw[q51 hc,q4k (by omega),qi (by omega)];rfl
 |cons y e ih =>
  intro k m pre acc c hk hke hm hp hacc hd hc;obtain⟨m,rfl⟩:=qSx m (by omega);obtain⟨h,t,rfl⟩:∃h t,acc=h::t:=by
   cases acc with
   |nil=>simp at hacc
   |cons h t=>exact⟨h,t,rfl⟩
  simp only[List.length_cons]at hke hm hacc;have hkb:k<b.length:=by omega
  have hy:b[k]=y/\b.drop (k+1)=e:=by
   rw[q1h hkb]at hk;cases hk;exact⟨rfl,rfl⟩
  have hyl:y<4294967296:=by rw[<- hy.1];exact hb _ (List.getElem_mem hkb)
  obtain⟨hh,ht⟩:=hd.tail;have hlt:i+k<(pre++h::t).length:=by simp;omega
  rw[q31.l7_eq,decide_eq_true (by omega),cond_true,q23 (by omega)];simp only[List.length_map,qc hkb,Option.bind_some,q30 hkb,qb,qc hlt,q39 (show pre.length=i+k by omega),hy.1];obtain⟨hm1,hm2⟩:=mul64 hx hyl;rw[hm1,q14 (show h<18446744073709551616 by omega),q5m (by omega),q5m (by omega),lo32,hi32,q4k (by omega),qi (by omega)];have:=ih (k+1) m (pre++[(c+(h+x*y))%4294967296]) t ((c+(h+x*y)) / 4294967296) hy.2 (by omega) (by omega) (by simp;omega) (by omega) ht (Nat.div_lt_of_lt_mul (by omega));rw[List.append_assoc]at this;refine this.trans ?_;simp only[maRow,List.append_assoc];rfl
theorem mul_outer{n:Nat}{a b:List Nat}(ha:Dg 4294967296 a)(hb:Dg 4294967296 b)(hl:a.length+b.length<=1099511627776)(hn:a.length+b.length+3<=n){l1:List FV}:∀(e:List Nat) (i m:Nat) (pre w:List Nat),a.drop i=e->i+e.length=a.length->e.length<m->pre.length=i->w.length=b.length->Dg 4294967296 w ->
  q31.l3 n [] m [L32 b,.list 1 l1,L32 (pre++(w++List.replicate e.length 0)),L32 a,.int .i64 (a.length:Int),.int .i64 (i:Int)]=some [L32 (tz (pre++mulO 4294967296 e (w++List.replicate e.length 0) b))]:=by
 intro e
 induction e with
 |nil =>
  intro i m pre w hi hie hm hp hw hd;obtain⟨m,rfl⟩:=qSx m (by omega);obtain⟨n,rfl⟩:=qSx n (by omega);simp only[List.length_nil,Nat.add_zero]at hie;rw[q31.qv,decide_eq_false (by omega),cond_false,q76 (by simp;omega) (by simp;omega)];simp only[Option.bind_some,List.getElem?_cons_zero,q9,mulO]
 |cons x e ih =>
  intro i m pre w hi hie hm hp hw hd;obtain⟨m,rfl⟩:=qSx m (by omega);simp only[List.length_cons]at hie hm;have hia:i<a.length:=by omega
  have hx:a[i]=x/\a.drop (i+1)=e:=by
   rw[q1h hia]at hi;cases hi;exact⟨rfl,rfl⟩
  have hxl:x<4294967296:=by rw[<- hx.1];exact ha _ (List.getElem_mem hia)
  rw[q31.qv,decide_eq_true (by omega),cond_true];simp only[List.length_map,qc hia,Option.bind_some,q30 hia,qb,hx.1];have hrow:=mul_row (n:=n) (m0:=m) (a:=a) hb hl (l1:=l1) hxl hia b 0 n pre (w++List.replicate (e.length+1) 0) 0 rfl (by omega) (by omega) (by omega) (by simp;omega) (hd.app (λd h=>by have:=List.eq_of_mem_replicate h;omega)) (by omega);simp only[List.length_cons];rw[show((0:Nat):Int)=0 from rfl]at hrow;rw[hrow];obtain⟨w',h1,h2,h3,h4⟩:=qaw qp w b (List.replicate e.length 0) x 0 hw hd hb hxl (by omega);rw[List.replicate_succ,h1];cases w' with
  |nil=>simp at h2
  |cons d t =>
   obtain⟨hd1,ht⟩:=h3.tail;have:=ih (i+1) m (pre++[d]) t hx.2 (by omega) (by omega) (by simp[hp]) (by simpa using h2) ht;rw[List.append_assoc]at this;refine this.trans ?_;simp only[mulO,h1,List.cons_append,List.append_assoc];rfl
theorem natMul_ev{x y:Nat}(h:(dg 4294967296 x).length+(dg 4294967296 y).length<=1099511627775):Ev En 212 [L32 (dg 4294967296 x),L32 (dg 4294967296 y)] [L32 (dg 4294967296 (x*y))]:=by
 refine Ev.of ((dg 4294967296 x).length+(dg 4294967296 y).length+3) λn hn=>?_;rw[qmn,List.length_map,List.length_map,q23 (by omega),mk4 (by omega),Option.bind_some,q1p (Nat.le_refl _),Option.bind_some,rep0];have:=mul_outer (n:=n) (qw qp x) (qw qp y) (by omega) (by omega) (l1:=[]) (dg 4294967296 x) 0 n [] (List.replicate (dg 4294967296 y).length 0) rfl (by omega) (by omega) rfl (by simp) (λd h=>by have:=List.eq_of_mem_replicate h;omega);rw[List.nil_append,List.replicate_append_replicate,List.nil_append,Nat.add_comm (dg 4294967296 y).length,show((0:Nat):Int)=0 from rfl]at this;refine this.trans ?_;obtain⟨g1,g2,_⟩:=qd8 qp (dg 4294967296 x) (List.replicate (dg 4294967296 y).length 0) (dg 4294967296 y) (by simp) (λd h=>by have:=List.eq_of_mem_replicate h;omega) (qw qp y) (qw qp x);rw[List.replicate_append_replicate,Nat.add_comm (dg 4294967296 y).length]at g1 g2;have hz:∀k:Nat,vl 4294967296 (List.replicate k 0)=0:=λk=>by
  induction k with
  |zero=>rfl
  |succ k ih=>rw[List.replicate_succ];simp[vl,ih]
 rw[<- q2i qp g2,g1,hz,q1k qp,q1k qp,Nat.zero_add]
theorem qk3{x:Nat}(hx:x<18446744073709551616):Ev En 251 [L32 (dg 4294967296 x)] [.int .u64 (x:Int)]:=by
 have hlen:(dg 4294967296 x).length<=2:=q4q qp (k:=2) (by simpa using hx);have hv:=q1k qp x;have hd:=qw qp x;refine Ev.of 3 λn hn=>?_;obtain⟨n,rfl⟩:∃k,n=k+3:=⟨n-3,by omega⟩;rw[qmw];generalize dg 4294967296 x=l at hlen hv hd ⊢
 match l,hlen,hv,hd with
 |[],_,hv,_ =>
  simp only[vl]at hv;rw[q53.qv];simp[<- hv]
 |[d0],_,hv,hd =>
  have h0:=hd d0 (by simp);simp only[vl,Nat.mul_zero,Nat.add_zero]at hv;subst hv;rw[q53.qv];simp only[List.map_cons,List.map_nil,List.length_cons,List.length_nil];rw[decide_eq_true (by omega),cond_true,show ix (0:Int) (0+1)=some 0 from rfl];simp only[Option.bind_some,at_one,d32,FV.cells,List.getElem?_cons_zero,qb];rw[show Go.IntKind.wrap .u64 (Go.IntKind.wrap .i64 (32*0))=0 by decide,decide_eq_false (by decide),cond_false,q14 (by omega)];have e1:=q8v .u64 d0 0 (by decide);rw[show((0:Nat):Int)=0 from rfl]at e1;rw[e1,Nat.pow_zero,Nat.mul_one,q14 (by omega),show bitI .or .u64 0 (d0:Int)=((0 ||| d0:Nat):Int) from q9x (x:=0) (by omega) (by omega),Nat.zero_or];rw[q53.qv,show Go.IntKind.wrap .i64 (0+1)=1 by decide,decide_eq_false (by omega),cond_false]
 |[d0,d1],_,hv,hd =>
  have h0:=hd d0 (by simp);have h1:=hd d1 (by simp);simp only[vl,Nat.mul_zero,Nat.add_zero]at hv;subst hv;rw[q53.qv];simp only[List.map_cons,List.map_nil,List.length_cons,List.length_nil];rw[decide_eq_true (by omega),cond_true,show ix (0:Int) (0+1+1)=some 0 from rfl];simp only[Option.bind_some];rw[show at' [d32 d0,d32 d1] 0 0=some (.int .u32 (d0:Int)) from rfl];simp only[qb,Option.bind_some];rw[show Go.IntKind.wrap .u64 (Go.IntKind.wrap .i64 (32*0))=0 by decide,decide_eq_false (by decide),cond_false,q14 (by omega)];have e1:=q8v .u64 d0 0 (by decide);rw[show((0:Nat):Int)=0 from rfl]at e1;rw[e1,Nat.pow_zero,Nat.mul_one,q14 (by omega),show bitI .or .u64 0 (d0:Int)=((0 ||| d0:Nat):Int) from q9x (x:=0) (by omega) (by omega),Nat.zero_or];rw[q53.qv,show Go.IntKind.wrap .i64 (0+1)=1 by decide,decide_eq_true (by omega),cond_true];rw[show ix (1:Int) [d32 d0,d32 d1].length=some 1 from rfl];simp only[Option.bind_some];rw[show at' [d32 d0,d32 d1] 1 0=some (.int .u32 (d1:Int)) from rfl];simp only[qb,Option.bind_some];rw[show Go.IntKind.wrap .u64 (Go.IntKind.wrap .i64 (32*1))=((32:Nat):Int) by decide,decide_eq_false (by decide),cond_false,q14 (by omega),q8v .u64 d1 32 (by decide),q14 (by omega),q9x (by omega) (by omega),Nat.or_comm,qbq (by omega)];rw[q53.qv,show Go.IntKind.wrap .i64 (1+1)=2 by decide,decide_eq_false (by omega),cond_false];rw[show d1*2^32+d0=d0+4294967296*d1 by omega]
end Rf
end
section
set_option maxHeartbeats 1000000
set_option maxRecDepth 10000
namespace Rf
open Go
def qan:ByteArray:={ data:=(([0,1,2,2,3,3,3,3,4,4,4,4,4,4,4,4,5,5,5,5,5,5,5,5,5,5,5,5,5,5,5,5,6,6,6,6,6,6,6,6,6,6,6,6,6,6,6,6,6,6,6,6,6,6,6,6,6,6,6,6,6,6,6,6].append [7,7,7,7,7,7,7,7,7,7,7,7,7,7,7,7,7,7,7,7,7,7,7,7,7,7,7,7,7,7,7,7,7,7,7,7,7,7,7,7,7,7,7,7,7,7,7,7,7,7,7,7,7,7,7,7,7,7,7,7,7,7,7,7]).append ([8,8,8,8,8,8,8,8,8,8,8,8,8,8,8,8,8,8,8,8,8,8,8,8,8,8,8,8,8,8,8,8,8,8,8,8,8,8,8,8,8,8,8,8,8,8,8,8,8,8,8,8,8,8,8,8,8,8,8,8,8,8,8,8].append [8,8,8,8,8,8,8,8,8,8,8,8,8,8,8,8,8,8,8,8,8,8,8,8,8,8,8,8,8,8,8,8,8,8,8,8,8,8,8,8,8,8,8,8,8,8,8,8,8,8,8,8,8,8,8,8,8,8,8,8,8,8,8,8])).toArray }
def bl(x:Nat):Nat:=if x=0 then 0 else Nat.log2 x+1
theorem qcu:∀i:Nat,i<256->q2a qan (i:Int)=some ((bl i:Nat):Int):=by decide +kernel
theorem qcq{x:Nat}(h:x≠0):2^(bl x-1)<=x/\x<2^bl x/\1<=bl x:=by
 unfold bl;rw[if_neg h];exact⟨by rw[Nat.add_sub_cancel];exact Nat.log2_self_le h,Nat.lt_log2_self,by omega⟩
theorem bl_le{x k:Nat}(h:x<2^k):bl x<=k:=by
 rcases Nat.eq_zero_or_pos x with h0 | h0
 ·subst h0;simp[bl]
 ·obtain⟨h1,_,h2⟩:=qcq (by omega:x≠0);have:bl x-1<k:=(Nat.pow_lt_pow_iff_right (by omega:1<2)).1 (Nat.lt_of_le_of_lt h1 h);omega
theorem qft{x k:Nat}(h:2^k<=x):bl x=k+bl (x / 2^k):=by
 have hp:0<2^k:=Nat.pow_pos (by omega);have hx:x≠0:=by omega
 have hq:x / 2^k≠0:=by have:=Nat.div_pos h hp;omega
 unfold bl;rw[if_neg hx,if_neg hq];have h1:=Nat.log2_self_le hq;have h2:x / 2^k<2^((x / 2^k).log2+1):=Nat.lt_log2_self
 have:x.log2=k+(x / 2^k).log2:=(Nat.log2_eq_iff hx).2 ⟨by
  rw[Nat.pow_add];exact Nat.le_trans (Nat.mul_le_mul_left _ h1) (Nat.mul_div_le _ _),by
  rw[Nat.add_assoc,Nat.pow_add,Nat.mul_comm]
  exact(Nat.div_lt_iff_lt_mul hp).1 h2⟩
 omega
theorem wrap_u8(x:Nat):IntKind.wrap .u8 (x:Int)=((x%256:Nat):Int):=by
 unfold IntKind.wrap;simp[IntKind.bits,IntKind.signed]
theorem shr16(x:Nat):shI false .u32 (x:Int) 16=((x / 65536:Nat):Int):=by
 have:=q9w .u32 x 16 (by decide);simpa using this
theorem shr8(x:Nat):shI false .u32 (x:Int) 8=((x / 256:Nat):Int):=by
 have:=q9w .u32 x 8 (by decide);simpa using this
theorem qre(n:Nat)(x0:Int):evF En (n+1) 196 [.int .u32 x0] =
 (bif(decide (x0≥65536))then
  (bif(decide ((shI false .u32 x0 16)≥256))then(q2a qan (Go.IntKind.wrap .u8 (shI false .u32 (shI false .u32 x0 16) 8))).bind λn0=>some [.int .i64 (Go.IntKind.wrap .i64 (24+(Go.IntKind.wrap .i64 n0)))]
   else(q2a qan (Go.IntKind.wrap .u8 (shI false .u32 x0 16))).bind λn1=>some [.int .i64 (Go.IntKind.wrap .i64 (16+(Go.IntKind.wrap .i64 n1)))])
  else
  (bif(decide (x0≥256))then(q2a qan (Go.IntKind.wrap .u8 (shI false .u32 x0 8))).bind λn2=>some [.int .i64 (Go.IntKind.wrap .i64 (8+(Go.IntKind.wrap .i64 n2)))]
   else(q2a qan (Go.IntKind.wrap .u8 x0)).bind λn3=>some [.int .i64 (Go.IntKind.wrap .i64 (0+(Go.IntKind.wrap .i64 n3)))])):=qmj n x0
theorem qjz{n x:Nat}(hx:x<4294967296):evF En (n+1) 196 [.int .u32 (x:Int)]=some [.int .i64 ((bl x:Nat):Int)]:=by
 have fin:∀k y:Nat,y<256->k<=24->IntKind.wrap .i64 ((k:Int)+IntKind.wrap .i64 ((bl y:Nat):Int))=((k+bl y:Nat):Int):=λk y hy hk=>by
  have:=bl_le (x:=y) (k:=8) (by omega);rw[q36 (by omega),q23 (by omega)]
 rw[qre,shr16,shr8,shr8];by_cases h1:65536<=x
 ·rw[decide_eq_true (by omega),cond_true];by_cases h2:256<=x / 65536
  ·rw[decide_eq_true (by omega),cond_true,wrap_u8,Nat.mod_eq_of_lt (by omega),qcu _ (by omega),Option.bind_some];have:=fin 24 (x / 65536 / 256) (by omega) (by omega);rw[show((24:Nat):Int)=24 from rfl]at this;rw[this,qft (x:=x) (k:=24) (by omega),show x / 2^24=x / 65536 / 256 by omega]
  ·rw[decide_eq_false (by omega),cond_false,wrap_u8,Nat.mod_eq_of_lt (by omega),qcu _ (by omega),Option.bind_some];have:=fin 16 (x / 65536) (by omega) (by omega);rw[show((16:Nat):Int)=16 from rfl]at this;rw[this,qft (x:=x) (k:=16) (by omega)]
 ·rw[decide_eq_false (by omega),cond_false];by_cases h2:256<=x
  ·rw[decide_eq_true (by omega),cond_true,wrap_u8,Nat.mod_eq_of_lt (by omega),qcu _ (by omega),Option.bind_some];have:=fin 8 (x / 256) (by omega) (by omega);rw[show((8:Nat):Int)=8 from rfl]at this;rw[this,qft (x:=x) (k:=8) (by omega)]
  ·rw[decide_eq_false (by omega),cond_false,wrap_u8,Nat.mod_eq_of_lt (by omega),qcu _ (by omega),Option.bind_some];have:=fin 0 x (by omega) (by omega);rw[show((0:Nat):Int)=0 from rfl]at this;rw[this,Nat.zero_add]
theorem qfm{x:Nat}(h:x≠0):∃l d,dg 4294967296 x=l++[d]/\d≠0/\d<4294967296:=by
 have hne:dg 4294967296 x≠[]:=λq=>h ((q3r qp).1 q);obtain⟨l,d,e⟩:=List.eq_nil_or_concat (dg 4294967296 x) |>.resolve_left hne;rw[List.concat_eq_append]at e;refine⟨l,d,e,dg_last qp e,?_⟩;exact qw qp x d (by rw[e];simp)
def q6b(x:Nat):Nat:=if x=0 then 0 else 32*((dg 4294967296 x).length-1)+bl ((dg 4294967296 x).getLast?.getD 0)
theorem qcj{x:Nat}:q6b x=0↔x=0:=by
 unfold q6b;constructor
 ·intro h;apply Classical.byContradiction;intro hx;rw[if_neg hx]at h;obtain⟨l,d,e,hd,_⟩:=qfm hx;rw[e]at h;simp only[List.getLast?_concat,Option.getD_some]at h;have:=(qcq hd).2.2;omega
 ·intro h;rw[if_pos h]
theorem qci{x:Nat}(hx:(dg 4294967296 x).length<=1099511627775):Ev En 217 [L32 (dg 4294967296 x)] [.int .i64 ((q6b x:Nat):Int)]:=by
 refine Ev.of 1 λn hn=>?_;obtain⟨n,rfl⟩:=qSx n (by omega);rw[qmo];rcases Nat.eq_zero_or_pos x with h0 | h0
 ·subst h0;rw[q12];simp[q6b]
 ·obtain⟨l,d,e,hd,hdl⟩:=qfm (by omega:x≠0);have hb:q6b x=32*l.length+bl d:=by
   unfold q6b;rw[if_neg (by omega),e];simp
  have hlen:(l++[d]).length=l.length+1:=by simp
  rw[e,hlen]at hx;rw[hb,e];rw[List.length_map,hlen,show(((l.length+1:Nat):Int)==0)=false by simp;omega,cond_false,show((l.length+1:Nat):Int)-1=(l.length:Int) by omega,q36 (by omega),qc (by omega),Option.bind_some,q39 rfl];simp only[qb,Option.bind_some,qjz hdl,List.getElem?_cons_zero];have:=bl_le (x:=d) (k:=32) (by omega);have:=q9i (x:=32) (y:=l.length) (by omega);rw[show((32:Nat):Int)=32 from rfl]at this;rw[this,q23 (by omega)]
theorem qfu(x:Nat){s:Nat}(hs:s<32):x*2^s%4294967296=(x%2^(32-s))*2^s:=by
 have:4294967296=2^(32-s)*2^s:=by rw[<- Nat.pow_add,show 32-s+s=32 by omega]
 rw[this,Nat.mul_mod_mul_right]
theorem qrf{x s:Nat}(hx:x<4294967296)(hs:s<32):x*2^s<9223372036854775808:=by
 have:2^s<=2^31:=Nat.pow_le_pow_right (by omega) (by omega)
 calc x*2^s<=x*2^31:=Nat.mul_le_mul_left _ this
  _<9223372036854775808:=by omega
theorem qrg{n:Nat}{a:List Nat}{s:Nat}(ha:Dg 4294967296 a)(hs:s<32)(hl:a.length<=1099511627776):∀(d i m:Nat) (pre:List Nat) (c:Nat),i+d=a.length->d<m->pre.length=i->c<2^s ->
  q7x.l3 n [] m [.int .u64 (s:Int),L32 (pre++c::List.replicate d 0),L32 a,.int .i64 (a.length:Int),.int .i64 (i:Int)]=some [L32 (pre++shlL 4294967296 s (a.drop i) c)]:=by
 intro d
 induction d with
 |zero =>
  intro i m pre c hi hm hp hc;obtain⟨m,rfl⟩:=qSx m (by omega);rw[q7x.qv,decide_eq_false (by omega),cond_false,List.drop_of_length_le (show a.length<=i by omega)];rfl
 |succ d ih =>
  intro i m pre c hi hm hp hc;obtain⟨m,rfl⟩:=qSx m (by omega);have hia:i<a.length:=by omega
  have hx:=ha a[i] (List.getElem_mem hia);have hv:=qrf hx hs;have h32:2^s<=2^32:=Nat.pow_le_pow_right (by omega) (by omega);have hlen:(pre++c::List.replicate (d+1) 0).length=i+(d+2):=by simp;omega
  rw[q7x.qv,decide_eq_true (by omega),cond_true];simp only[List.length_map,qc hia,Option.bind_some,q30 hia,qb];rw[decide_eq_false (by omega),cond_false];rw[q14 (show a[i]<18446744073709551616 by omega),q8v .u64 a[i] s (by show s<=64;omega),q14 (by omega),lo32,hi32];have hlt:i<(pre++c::List.replicate (d+1) 0).length:=by omega
  simp only[qc hlt,Option.bind_some,q39 hp,qb];rw[or_u32 (by omega) (Nat.mod_lt _ (by omega)),qfu _ hs,Nat.or_comm,qbq hc,<- qfu _ hs,q4k hp];have hlt2:i+1<((pre++(a[i]*2^s%4294967296+c)::List.replicate (d+1) 0).map d32).length:=by simp;omega
  rw[qi (by omega)];simp only[qc hlt2,Option.bind_some]
  rw[List.replicate_succ,show pre++(a[i]*2^s%4294967296+c)::0::List.replicate d 0=(pre++[a[i]*2^s%4294967296+c])++0::List.replicate d 0 by simp,q51 (by
   have:a[i]*2^s / 4294967296<2^s:=by
    rw[Nat.div_lt_iff_lt_mul (by omega),Nat.mul_comm];exact Nat.mul_lt_mul_of_pos_left hx (Nat.pow_pos (by omega))
   omega),q4k (by simp[hp])]
  have:=ih (i+1) m (pre++[a[i]*2^s%4294967296+c]) (a[i]*2^s / 4294967296) (by omega) (by omega) (by simp[hp]) (by
   rw[Nat.div_lt_iff_lt_mul (by omega),Nat.mul_comm]
   exact Nat.mul_lt_mul_of_pos_left hx (Nat.pow_pos (by omega)))
  refine this.trans ?_;rw[q1h hia];simp only[shlL,List.append_assoc];rw[Nat.add_comm c];rfl
theorem qk0{n:Nat}{a:List Nat}{s:Nat}(ha:Dg 4294967296 a)(hs:s<32)(hl:a.length<=1099511627775)(hn:a.length<n) :
  evF En (n+1) 233 [L32 a,.int .u64 (s:Int)]=some [L32 (shlL 4294967296 s a 0)]:=by
 rw[qmt,List.length_map,qi (by omega),mk4 (by omega),Option.bind_some,q1p (Nat.le_refl _),Option.bind_some,rep0,List.replicate_succ];exact qrg (n:=n) ha hs (by omega) a.length 0 n [] 0 (by omega) (by omega) rfl (Nat.pow_pos (by omega))
theorem qfk{s:Nat}(hs:s<32):∀(a:List Nat) (c:Nat),Dg 4294967296 a->c<2^s->Dg 4294967296 (shlL 4294967296 s a c)
 |[],c,_,hc=>λd hd=>by
  have h32:2^s<=2^31:=Nat.pow_le_pow_right (by omega) (by omega);simp[shlL]at hd;omega
 |x::a,c,h,hc=>by
  obtain⟨hx,ha⟩:=h.tail;have h1:=qfu x hs;have h2:x%2^(32-s)*2^s+2^s<=2^(32-s)*2^s:=by
   rw[<- Nat.succ_mul];exact Nat.mul_le_mul_right _ (Nat.mod_lt _ (Nat.pow_pos (by omega)))
  have h3:2^(32-s)*2^s=4294967296:=by rw[<- Nat.pow_add,show 32-s+s=32 by omega]
  exact Dg.cons (by omega) (qfk hs a _ ha (by
   rw[Nat.div_lt_iff_lt_mul (by omega),Nat.mul_comm]
   exact Nat.mul_lt_mul_of_pos_left hx (Nat.pow_pos (by omega))))
theorem qfl{s:Nat}:∀(a:List Nat) (c:Nat),(shlL 4294967296 s a c).length=a.length+1
 |[],c=>rfl
 |x::a,c=>by simp only[shlL,List.length_cons,qfl a]
end Rf
end
section
set_option maxHeartbeats 2000000
set_option maxRecDepth 10000
namespace Rf
open Go
theorem pow_pos'(k:Nat):0<(4294967296:Nat)^k:=Nat.pow_pos (by omega)
theorem qfj{l:List Nat}{n:Nat}(hd:Dg 4294967296 l)(hl:l.length=n+1)(hv:vl 4294967296 l<4294967296^n):∃h,l=h++[0]/\h.length=n/\Dg 4294967296 h/\vl 4294967296 h=vl 4294967296 l:=by
 have hne:l≠[]:=λq=>by rw[q]at hl;simp at hl
 obtain⟨h,d,e⟩:=List.eq_nil_or_concat l |>.resolve_left hne;rw[List.concat_eq_append]at e;subst e;have hln:h.length=n:=by simpa using hl
 rw[q8a,hln]at hv;have hd0:d=0:=by
  rcases Nat.eq_zero_or_pos d with q | q
  ·exact q
  ·have:4294967296^n<=4294967296^n*d:=Nat.le_mul_of_pos_right _ q;omega
 subst hd0;exact⟨h,rfl,hln,λx hx=>hd x (by simp[hx]),by rw[q8a,Nat.mul_zero,Nat.add_zero]⟩
theorem div_digit{win v:List Nat}{g:Nat}(hw:Dg 4294967296 win)(hv:Dg 4294967296 v)(hl:win.length=v.length+1)(hg:g<4294967296)
  (h1:vl 4294967296 win / vl 4294967296 v<=g) (h2:g*vl 4294967296 v<vl 4294967296 win+vl 4294967296 v) (hV:0<vl 4294967296 v) :
  ((msL 4294967296 win v g 0 0).2=0/\g=vl 4294967296 win / vl 4294967296 v/\∃h,(msL 4294967296 win v g 0 0).1=h++[0]/\h.length=v.length/\Dg 4294967296 h/\vl 4294967296 h=vl 4294967296 win%vl 4294967296 v) \/
  ((msL 4294967296 win v g 0 0).2=1/\g=vl 4294967296 win / vl 4294967296 v+1/\(msL 4294967296 win v g 0 0).1.length=v.length+1/\Dg 4294967296 (msL 4294967296 win v g 0 0).1 /\
   ∃h,abL 4294967296 (msL 4294967296 win v g 0 0).1 v 0=h++[0]/\h.length=v.length/\Dg 4294967296 h/\vl 4294967296 h=vl 4294967296 win%vl 4294967296 v):=by
 obtain⟨m1,m2,m3,m4⟩:=msL_ok qp win v g 0 0 hl hw hv hg (by omega) (by omega);generalize hr:msL 4294967296 win v g 0 0=r at m1 m2 m3 m4 ⊢;have hW:=Nat.div_add_mod (vl 4294967296 win) (vl 4294967296 v);have hR:=Nat.mod_lt (vl 4294967296 win) hV;have hlt:=q3g (b:=4294967296) (by omega) m2;have hVl:=q3g (b:=4294967296) (by omega) hv;generalize hQ:vl 4294967296 win / vl 4294967296 v=Q at *
 generalize hRR:vl 4294967296 win%vl 4294967296 v=R at *
 have hgq:g=Q\/g=Q+1:=by
  have:g<Q+2:=by
   apply Nat.lt_of_mul_lt_mul_right (a:=vl 4294967296 v);rw[Nat.add_mul,<- Nat.mul_comm (vl 4294967296 v) Q];omega
  omega
 rw[m3]at hlt;rcases hgq with e | e
 ·subst e;rw[<- hW,Nat.mul_comm]at m1;have hb:r.2=0:=by
   rcases Nat.eq_zero_or_pos r.2 with q | q
   ·exact q
   ·have:r.2=1:=by omega
    rw[this,Nat.mul_one,hl,Nat.pow_succ]at m1;rw[hl,Nat.pow_succ]at hlt;omega
  rw[hb,Nat.mul_zero,Nat.add_zero]at m1;have hval:vl 4294967296 r.1=R:=by omega
  obtain⟨h,q1,q2,q3,q4⟩:=qfj (n:=v.length) m2 (by omega) (by omega);exact .inl ⟨hb,rfl,h,q1,q2,q3,by omega⟩
 ·subst e;rw[<- hW,Nat.add_mul,Nat.mul_comm,Nat.one_mul]at m1;have hb:r.2=1:=by
   rcases Nat.eq_zero_or_pos r.2 with q | q
   ·rw[q,Nat.mul_zero,Nat.add_zero]at m1;omega
   ·omega
  rw[hb,Nat.mul_one]at m1;obtain⟨a1,a2,a3⟩:=abL_ok qp r.1 v 0 (by omega) m2 hv (by omega);have hval:vl 4294967296 (abL 4294967296 r.1 v 0)=R:=by
   rw[<- a1,m3,Nat.add_zero];have:vl 4294967296 r.1+vl 4294967296 v=R+4294967296^win.length:=by omega
   rw[this,Nat.add_mod_right,Nat.mod_eq_of_lt];have:vl 4294967296 v<=4294967296^win.length:=by
    rw[hl];exact Nat.le_trans (Nat.le_of_lt hVl) (Nat.pow_le_pow_right (by omega) (by omega))
   omega
  obtain⟨h,q1,q2,q3,q4⟩:=qfj (n:=v.length) a2 (by omega) (by omega);exact .inr ⟨hb,rfl,by omega,m2,h,q1,q2,q3,by omega⟩
theorem msL_one(B u g ca br:Nat):msL B [u] [] g ca br=([(B+u-ca%B-br)%B],if u<ca%B+br then 1 else 0):=rfl
theorem abL_one(B u c:Nat):abL B [u] [] c=[(u+c)%B]:=rfl
theorem abL_cons(B u y c:Nat)(us e:List Nat):abL B (u::us) (y::e) c=(u+y+c)%B::abL B us e ((u+y+c) / B):=rfl
theorem msL_cons(B u u' y g ca br:Nat)(us e:List Nat):msL B (u::u'::us) (y::e) g ca br=((B+u-(ca+g*y)%B-br)%B::(msL B (u'::us) e g ((ca+g*y) / B) (if u<(ca+g*y)%B+br then 1 else 0)).1,(msL B (u'::us) e g ((ca+g*y) / B) (if u<(ca+g*y)%B+br then 1 else 0)).2):=rfl
theorem ms_loop{n m0:Nat}{l0 l1:List FV}{s:Int}{v tl q:List Nat}{k g:Nat}(hv:Dg 4294967296 v)(hg:g<4294967296)(hkq:k<q.length)(hbig:k+v.length<=1099511627776):∀(e:List Nat) (i m:Nat) (pre us:List Nat) (ca br:Nat),v.drop i=e->i+e.length=v.length->e.length<m->pre.length=k+i->us.length=e.length+1->Dg 4294967296 us->ca<4294967296->br<=1->1<=n ->
  qy.l23 n [m0] m [.list 1 l0,.list 1 l1,.int .i64 (v.length:Int),.int .u64 s,L32 v,L32 (pre++(us++tl)),L32 q,.int .i64 (k:Int),.int .u64 (g:Int),.int .u32 (br:Int),.int .u64 (ca:Int),.int .i64 (v.length:Int),.int .i64 (i:Int)] =
   (bif((msL 4294967296 us e g ca br).2==0)then qy.l13 n [] m0 [.list 1 l0,.list 1 l1,.int .i64 (v.length:Int),.int .u64 s,L32 v,L32 (pre++((msL 4294967296 us e g ca br).1++tl)),L32 (q.set k g),.int .i64 ((k:Int)-1)]
    else qy.l35 n [m0] n [.list 1 l0,.list 1 l1,.int .i64 (v.length:Int),.int .u64 s,L32 v,L32 (pre++((msL 4294967296 us e g ca br).1++tl)),.list 1 (List.set ((q.set k g).map d32) k (.int .u32 (IntKind.wrap .u32 ((g:Int)-1)))),.int .i64 (k:Int),.int .u32 0,.int .i64 (v.length:Int),.int .i64 0]):=by
 intro e
 induction e with
 |nil =>
  intro i m pre us ca br hi hie hm hp hu hd hc hb hn;obtain⟨m,rfl⟩:=qSx m (by omega);obtain⟨n,rfl⟩:=qSx n (by omega);simp only[List.length_nil,Nat.add_zero,Nat.zero_add]at hie hu;obtain⟨u,rfl⟩:=List.length_eq_one_iff.1 hu;have hul:=hd u (by simp);rw[qy.l23_eq,decide_eq_false (by omega),cond_false,q23 (by omega)];have hlt:k+v.length<(pre++([u]++tl)).length:=by simp;omega
  simp only[List.length_map,qc hlt,Option.bind_some];have e2:msL 4294967296 [u] [] g ca br=([(4294967296+u-ca-br)%4294967296],if u<ca+br then 1 else 0):=by rw[msL_one,Nat.mod_eq_of_lt hc]
  rw[List.singleton_append]at hlt;rw[List.singleton_append,q39 (by omega),qb,Option.bind_some,lo32,Nat.mod_eq_of_lt hc,qfs hul hc hb,e2];generalize (4294967296+u-ca-br)%4294967296=D;generalize (if u<ca+br then 1 else 0)=bo;rw[Option.bind_some,List.getElem?_cons_zero,List.getElem?_cons_succ,List.getElem?_cons_zero,qb,qb,Option.bind_some,Option.bind_some,qc hkq,Option.bind_some];rw[q4k (show pre.length=k+v.length by omega),lo32,Nat.mod_eq_of_lt hg,qq (by omega) (by omega)];have e1:List.set (q.map d32) k (.int .u32 (g:Int))=(q.set k g).map d32:=by rw[List.map_set]
  rw[e1];have hkq2:k<(q.set k g).length:=by simpa using hkq
  have hat:at' ((q.set k g).map d32) k 0=some (.int .u32 (g:Int)):=by rw[q30 hkq2];simp
  rw[List.length_map,qc hkq2,Option.bind_some,hat,qb,Option.bind_some,Option.bind_some];rw[show((bo:Int)==0)=(bo==0) by cases bo <;> rfl];simp only[List.singleton_append]
 |cons y e ih =>
  intro i m pre us ca br hi hie hm hp hu hd hc hb hn;obtain⟨m,rfl⟩:=qSx m (by omega);obtain⟨n,rfl⟩:=qSx n (by omega);simp only[List.length_cons]at hie hm hu;obtain⟨u,us',rfl⟩:∃h t,us=h::t:=by
   cases us with
   |nil=>simp at hu
   |cons h t=>exact⟨h,t,rfl⟩
  simp only[List.length_cons]at hu;have hiv:i<v.length:=by omega
  have hy:v[i]=y/\v.drop (i+1)=e:=by
   rw[q1h hiv]at hi;cases hi;exact⟨rfl,rfl⟩
  have hyl:y<4294967296:=by rw[<- hy.1];exact hv _ (List.getElem_mem hiv)
  obtain⟨hul,hd'⟩:=hd.tail;have hcl:=q9h hg hyl hc;rw[qy.l23_eq,decide_eq_true (by omega),cond_true,q23 (by omega)];have hlt:k+i<(pre++(u::us'++tl)).length:=by simp;omega
  simp only[List.length_map,qc hiv,qc hlt,Option.bind_some,q30 hiv,qb,hy.1];have hgy:g*y<18446744073709551616:=by omega
  rw[List.cons_append,q39 (by omega),qb,Option.bind_some,q14 (show y<18446744073709551616 by omega),q9j hgy,q5m (by omega),lo32,hi32,qfs hul (Nat.mod_lt _ (by omega)) hb];simp only[Option.bind_some,List.getElem?_cons_zero,List.getElem?_cons_succ,qb,<- List.cons_append];rw[List.cons_append,q4k (by omega),qi (by omega)];have:=ih (i+1) m (pre++[(4294967296+u-(ca+g*y)%4294967296-br)%4294967296]) us' ((ca+g*y) / 4294967296) (if u<(ca+g*y)%4294967296+br then 1 else 0) hy.2 (by omega) (by omega) (by simp;omega) (by omega) hd' (Nat.div_lt_of_lt_mul (by omega)) (by split <;> omega) (by omega);rw[List.append_assoc]at this;refine this.trans ?_;cases us' with
  |nil=>simp at hu
  |cons u' us'' =>
   rw[msL_cons];generalize (4294967296+u-(ca+g*y)%4294967296-br)%4294967296=D;generalize msL 4294967296 (u'::us'') e g ((ca+g*y) / 4294967296) (if u<(ca+g*y)%4294967296+br then 1 else 0)=r;simp only[List.append_assoc,List.cons_append,List.nil_append]
theorem ab_loop{n m0:Nat}{l0 l1:List FV}{s:Int}{v tl:List Nat}{Q:List FV}{k:Nat}(hv:Dg 4294967296 v)(hbig:k+v.length<=1099511627776):∀(e:List Nat) (i m:Nat) (pre us:List Nat) (c:Nat),v.drop i=e->i+e.length=v.length->e.length<m->pre.length=k+i->us.length=e.length+1->Dg 4294967296 us->c<=1->1<=n ->
  qy.l35 n [m0] m [.list 1 l0,.list 1 l1,.int .i64 (v.length:Int),.int .u64 s,L32 v,L32 (pre++(us++tl)),.list 1 Q,.int .i64 (k:Int),.int .u32 (c:Int),.int .i64 (v.length:Int),.int .i64 (i:Int)] =
   qy.l13 n [] m0 [.list 1 l0,.list 1 l1,.int .i64 (v.length:Int),.int .u64 s,L32 v,L32 (pre++(abL 4294967296 us e c++tl)),.list 1 Q,.int .i64 ((k:Int)-1)]:=by
 intro e
 induction e with
 |nil =>
  intro i m pre us c hi hie hm hp hu hd hc hn;obtain⟨m,rfl⟩:=qSx m (by omega);simp only[List.length_nil,Nat.add_zero,Nat.zero_add]at hie hu;obtain⟨u,rfl⟩:=List.length_eq_one_iff.1 hu;have hul:=hd u (by simp);rw[qy.l35_eq,decide_eq_false (by omega),cond_false,q23 (by omega)];have hlt:k+v.length<(pre++([u]++tl)).length:=by simp;omega
  simp only[List.length_map,qc hlt,Option.bind_some];rw[List.singleton_append,q39 (by omega),qb,Option.bind_some,qdv,lo32,q4k (by omega),qq (by omega) (by omega)];rw[abL_one];generalize (u+c)%4294967296=D;simp only[List.singleton_append]
 |cons y e ih =>
  intro i m pre us c hi hie hm hp hu hd hc hn;obtain⟨m,rfl⟩:=qSx m (by omega);obtain⟨n,rfl⟩:=qSx n (by omega);simp only[List.length_cons]at hie hm hu;obtain⟨u,us',rfl⟩:∃h t,us=h::t:=by
   cases us with
   |nil=>simp at hu
   |cons h t=>exact⟨h,t,rfl⟩
  simp only[List.length_cons]at hu;have hiv:i<v.length:=by omega
  have hy:v[i]=y/\v.drop (i+1)=e:=by
   rw[q1h hiv]at hi;cases hi;exact⟨rfl,rfl⟩
  have hyl:y<4294967296:=by rw[<- hy.1];exact hv _ (List.getElem_mem hiv)
  obtain⟨hul,hd'⟩:=hd.tail;rw[qy.l35_eq,decide_eq_true (by omega),cond_true,q23 (by omega)];have hlt:k+i<(pre++(u::us'++tl)).length:=by simp;omega
  simp only[List.length_map,qc hiv,qc hlt,Option.bind_some,q30 hiv,qb,hy.1];rw[List.cons_append,q39 (by omega),qb,Option.bind_some,qmu,q14 (show u<18446744073709551616 by omega),q14 (show y<18446744073709551616 by omega),q14 (show c<18446744073709551616 by omega),q5m (by omega),q5m (by omega),lo32,hi32];have hc1:(u+y+c) / 4294967296<=1:=by
   have:=Nat.div_lt_of_lt_mul (m:=u+y+c) (n:=4294967296) (k:=2) (by omega);omega
  rw[lo32,Nat.mod_eq_of_lt (show(u+y+c) / 4294967296<4294967296 by omega)];simp only[Option.bind_some,List.getElem?_cons_zero,List.getElem?_cons_succ,qb,<- List.cons_append];rw[List.cons_append,q4k (by omega),qi (by omega)];have:=ih (i+1) m (pre++[(u+y+c)%4294967296]) us' ((u+y+c) / 4294967296) hy.2 (by omega) (by omega) (by simp;omega) (by omega) hd' hc1 (by omega);rw[List.append_assoc]at this;refine this.trans ?_;rw[abL_cons];generalize (u+y+c)%4294967296=D;simp only[List.append_assoc,List.cons_append,List.nil_append]
end Rf
end
end
