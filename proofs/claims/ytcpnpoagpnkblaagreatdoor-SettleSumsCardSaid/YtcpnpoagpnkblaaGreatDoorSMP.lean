/- Merged: NatA NatB Num RefN RefT RefZ. -/
import Derived.Test.YtcpnpoagpnkblaaGreatDoorSMI
import Derived.Test.YtcpnpoagpnkblaaGreatDoorSMG
set_option linter.unusedVariables false
set_option linter.unusedSimpArgs false
set_option maxHeartbeats 2000000
section
section
/- The program's numbers: each function by what its numbers are. -/
set_option maxHeartbeats 1000000
namespace Rf
open Go
theorem qq:2<=4294967296:=by decide
theorem set_mid{α:Type}(pre:List α)(x y:α)(r:List α):(pre++x::r).set pre.length y=pre++y::r:=by
 rw[FE _ _ (Ak _),Cp];rfl
theorem qct{pre:List Nat}{d y i:Nat}(h:pre.length=i:=by omega):List.set ((pre++List.replicate (d+1) 0).map d32) i (.int .u32 (y:Int))=((pre++[y])++List.replicate d 0).map d32:=by
 subst h;rw[Cg,AW,AM];have:=set_mid (pre.map d32) (d32 0) (d32 y) ((List.replicate d 0).map d32);rw[Aa]at this;rw[this];simp
theorem q1y{a:List Nat}{i:Nat}(h:i<a.length):a.drop i=a[i]::a.drop (i+1):=Ba h
theorem rep0(k:Nat):List.replicate k (FV.int .u32 0)=(List.replicate k 0).map d32:=by rw[EP];rfl
theorem mk4{k:Nat}(h:k<=1099511627776:=by omega):q1u 4 (k:Int)=some k:=by
 unfold q1u;rw[if_pos ⟨by omega,by omega,by omega⟩];simp
theorem trim_loop{n:Nat}{l0:List FV}:∀(k:Nat) (l:List Nat) (m:Nat),l.length=k->k<m->k<=1099511627776+1->q9u.l1 n [] m [.list 1 l0,L32 l]=some [L32 (tz l)]:=by
 intro k
 induction k with
 |zero =>
  intro l m hl hm hk;obtain⟨m,rfl⟩:=qSx m;have:l=[]:=BJ hl;subst this;rw[q9u.q32];rfl
 |succ k ih =>
  intro l m hl hm hk;obtain⟨m,rfl⟩:=qSx m;obtain⟨r,d,rfl⟩:∃r d,l=r++[d]:=by
   rcases Dk l with h | ⟨r,d,h⟩
   ·subst h;simp at hl
   ·exact⟨r,d,by simpa using h⟩
  have hr:r.length=k:=by simpa using hl
  rw[q9u.q32,Aa,Af,Ac,hl];have e1:w6 (((k+1:Nat):Int)-1)=(k:Int):=by rw[ql];omega
  have hat:at' ((r++[d]).map d32) k 0=some (.int .u32 (d:Int)):=by
   rw[q3x (by rw[hl];omega)];simp[<- hr]
  rw[e1,q9,Ae,hat,qi,Ae];by_cases h0:d=0
  ·subst h0;rw[show(((0:Nat):Int)==0)=true from rfl,Ac,q1x,Ae,qd2];have:List.drop 0 (List.take k ((r++[0]).map d32))=r.map d32:=by
    rw[Av,AW,DZ (by simp[hr]),CT (by simp[hr])]
   rw[this];exact ih r m hr (by omega) (by omega)
  ·rw[show((d:Int)==0)=false from Bq.2 (by omega),Ab,qd3 h0]
theorem q90{n:Nat}{l:List Nat}(h:l.length<=1099511627776+1:=by omega)(hn:l.length<n:=by omega):evF En (n+1) 229 [L32 l]=some [L32 (tz l)]:=by
 rw[qqw];exact trim_loop l.length l n rfl hn h
theorem sum32{c x:Nat}(h:c+x<18446744073709551616)(hx:x<4294967296):IntKind.wrap .u64 ((c:Int)+IntKind.wrap .u64 (x:Int))=((c+x:Nat):Int):=by
 rw[q1d (by omega:x<18446744073709551616),q7m h]
theorem lo32(x:Nat):IntKind.wrap .u32 (x:Int)=((x%4294967296:Nat):Int):=wrap_u32 x
theorem hi32(x:Nat):shI false .u64 (x:Int) 32=((x / 4294967296:Nat):Int):=by
 have:=qbs .u64 x 32 (by decide);rw[show((32:Nat):Int)=32 from rfl]at this;rw[this]
theorem add_loop{n:Nat}{a b:List Nat}(ha:Dg 4294967296 a)(hb:Dg 4294967296 b)(hab:b.length<=a.length)(hl:a.length<=1099511627776)(hn:a.length+3<=n){l2:List FV}:∀(d i m:Nat) (pre:List Nat) (c:Nat),i+d=a.length->d<m->pre.length=i->c<=1 ->
  q6t.l6 n [] m [L32 a,L32 b,.list 1 l2,L32 (pre++List.replicate (d+1) 0),.int .u64 (c:Int),L32 a,.int .i64 (a.length:Int),.int .i64 (i:Int)]=some [L32 (tz (pre++addL 4294967296 (a.drop i) (b.drop i) c))]:=by
 intro d
 induction d with
 |zero =>
  intro i m pre c hi hm hp hc;obtain⟨m,rfl⟩:=qSx m;obtain⟨n,rfl⟩:=qSx n;rw[q6t.q2r,Ad,Ab];simp only[Aa,Bc,Db,q9 (show a.length<pre.length+(0+1) by omega),Ae];rw[lo32,AJ (by omega:c<4294967296),qct,Cq,AN,q90 (by simp;omega) (by simp;omega)];simp only[Ae,Aj,qy];rw[AO (by omega)];rfl
 |succ d ih =>
  intro i m pre c hi hm hp hc;obtain⟨m,rfl⟩:=qSx m;have hia:i<a.length:=by omega
  have hx:=ha a[i] (Ah hia);rw[q6t.q2r,Af,Ac,q1y hia];simp only[Aa,Bc,Db,q9 hia,Ae,q3x hia,qi,q9 (show i<pre.length+(d+1+1) by omega),addL];by_cases hib:i<b.length
  ·have hy:=hb b[i] (Ah hib);rw[Af,Ac,q1y hib];simp only[q9 hib,Ae,q3x hib,qi,List.headD_cons,EE];rw[sum32 (by omega) hx,sum32 (by omega) hy,lo32,hi32,qct hp,qc (by omega)]
   rw[ih (i+1) m (pre++[(c+a[i]+b[i])%4294967296]) ((c+a[i]+b[i]) / 4294967296) (by omega) (by omega) (by simp[hp]) (by
    have:=BO (m:=c+a[i]+b[i]) (n:=4294967296) (k:=2) (by omega)
    omega)]
   rw[Ap];rfl
  ·rw[Ad,Ab,AO (show b.length<=i by omega)];simp only[List.headD_nil,List.tail_nil,Ax];rw[sum32 (by omega) hx,lo32,hi32,qct hp,qc (by omega)]
   have:=ih (i+1) m (pre++[(c+a[i])%4294967296]) ((c+a[i]) / 4294967296) (by omega) (by omega) (by simp[hp]) (by
    have:=BO (m:=c+a[i]) (n:=4294967296) (k:=2) (by omega)
    omega)
   rw[AO (show b.length<=i+1 by omega)]at this;rw[this,Ap];rfl
theorem natAdd_ev{x y:Nat}(hx:(dg 4294967296 x).length<=1099511627776-1)(hy:(dg 4294967296 y).length<=1099511627776-1):Ev En 200 [L32 (dg 4294967296 x),L32 (dg 4294967296 y)] [L32 (dg 4294967296 (x+y))]:=by
 have main:∀(u v:Nat),(dg 4294967296 v).length<=(dg 4294967296 u).length->(dg 4294967296 u).length<=1099511627776-1->∀n,(dg 4294967296 u).length+3<=n ->
   ((q1u 4 (w6 (((dg 4294967296 u).length:Int)+1))).bind λi0=>(bd (w6 (((dg 4294967296 u).length:Int)+1)) i0).bind λi1=>q6t.l6 n [] n [L32 (dg 4294967296 u),L32 (dg 4294967296 v),.list 1 [],.list 1 (List.replicate i1 (.int .u32 0:FV)),.int .u64 0,L32 (dg 4294967296 u),.int .i64 ((dg 4294967296 u).length:Int),.int .i64 0])=some [L32 (dg 4294967296 (u+v))]:=λu v h1 h2 n hn=>by
  rw[qc (by omega),mk4,Ae,q1x (Ak _),Ae,rep0];have:=add_loop (n:=n) (q12 qq u) (q12 qq v) h1 (by omega) hn (l2:=[]) (dg 4294967296 u).length 0 n [] 0 (by omega) (by omega) rfl (by omega);rw[Au,Av,Av,Au]at this;rw[show(((0:Nat):Int))=0 from rfl]at this;rw[this,<- q3b qq (qfm qq _ _ 0 (q12 qq u) (q12 qq v) (by omega)),qfn _ _ _ h1,q23 qq,q23 qq,Ax]
 refine Ev.of ((dg 4294967296 x).length+(dg 4294967296 y).length+3) λn hn=>?_;rw[qqq,Aa,Aa];by_cases h:(dg 4294967296 x).length<(dg 4294967296 y).length
 ·rw[Af,Ac,main y x (by omega) hy n (by omega),Bn]
 ·rw[Ad,Ab,main x y (by omega) hx n (by omega)]
theorem qi2{x:Nat}(hx:x<18446744073709551616):Ev En 204 [.int .u64 (x:Int)] [L32 (dg 4294967296 x)]:=by
 refine Ev.of 5 λn hn=>?_;obtain⟨n,rfl⟩:=qSx n;rw[nat_Of_eq,lo32,hi32,lo32];have e:qe 2 (.int .u32 0) [(0,(.int .u32 ((x%4294967296:Nat):Int))),(1,(.int .u32 ((x / 4294967296%4294967296:Nat):Int)))]=[x%4294967296,x / 4294967296%4294967296].map d32:=rfl;rw[e,q90 (by simp) (by simp;omega)];simp only[Ae,Aj,qy];have hd:Dg 4294967296 [x%4294967296,x / 4294967296%4294967296]:=λd hd=>by
  simp only[Ar,List.not_mem_nil,or_false]at hd;omega
 rw[<- q3b qq hd];have:vl 4294967296 [x%4294967296,x / 4294967296%4294967296]=x:=by simp only[vl];omega
 rw[this]
theorem mul64{x y:Nat}(hx:x<4294967296)(hy:y<4294967296):IntKind.wrap .u64 (IntKind.wrap .u64 (x:Int)*IntKind.wrap .u64 (y:Int))=((x*y:Nat):Int)/\x*y<=18446744065119617025:=by
 have h:x*y<=4294967295*4294967295:=Cz (by omega) (by omega);exact⟨by rw[q1d,q1d,qbi],h⟩
theorem qw8{n:Nat}{a:List Nat}{k:Nat}(ha:Dg 4294967296 a)(hk:k<4294967296)(hl:a.length<=1099511627776)(hn:a.length+3<=n){l1:List FV}:∀(d i m:Nat) (pre:List Nat) (c:Nat),i+d=a.length->d<m->pre.length=i->c<4294967296 ->
  q9w.l4 n [] m [L32 a,.list 1 l1,.int .u32 (k:Int),L32 (pre++List.replicate (d+1) 0),.int .u64 (c:Int),L32 a,.int .i64 (a.length:Int),.int .i64 (i:Int)]=some [L32 (tz (pre++mulL 4294967296 (a.drop i) k c))]:=by
 intro d
 induction d with
 |zero =>
  intro i m pre c hi hm hp hc;obtain⟨m,rfl⟩:=qSx m;obtain⟨n,rfl⟩:=qSx n;rw[q9w.q14,Ad,Ab];simp only[Aa,Bc,Db,q9 (show a.length<pre.length+(0+1) by omega),Ae];rw[lo32,AJ hc,qct,Cq,AN,q90 (by simp;omega) (by simp;omega)];simp only[Ae,Aj,qy];rw[AO (by omega)];rfl
 |succ d ih =>
  intro i m pre c hi hm hp hc;obtain⟨m,rfl⟩:=qSx m;have hia:i<a.length:=by omega
  have hx:=ha a[i] (Ah hia);obtain⟨e1,e2⟩:=mul64 hx hk;rw[q9w.q14,Af,Ac,q1y hia];simp only[Aa,Bc,Db,q9 hia,Ae,q3x hia,qi,q9 (show i<pre.length+(d+1+1) by omega),mulL];rw[e1,q7m,lo32,hi32,qct hp,qc (by omega)];rw[ih (i+1) m (pre++[(c+a[i]*k)%4294967296]) ((c+a[i]*k) / 4294967296) (by omega) (by omega) (by simp[hp]) (BO (qbg hx hk hc))];rw[Ap];rfl
theorem qw2{x k c:Nat}(hk:k<4294967296)(hc:c<4294967296)(hx:(dg 4294967296 x).length<=1099511627775):Ev En 250 [L32 (dg 4294967296 x),.int .u32 (k:Int),.int .u32 (c:Int)] [L32 (dg 4294967296 (x*k+c))]:=by
 refine Ev.of ((dg 4294967296 x).length+3) λn hn=>?_;rw[qr1,Aa,qc (by omega),mk4,Ae,q1x (Ak _),Ae,rep0,q1d];have:=qw8 (n:=n) (q12 qq x) hk (by omega) hn (l1:=[]) (dg 4294967296 x).length 0 n [] c (by omega) (by omega) rfl hc;rw[Au,Av,Au]at this;rw[show(((0:Nat):Int))=0 from rfl]at this;rw[this,<- q3b qq (qfj _ k c (q12 qq x) hk hc),qfk,q23 qq]
theorem qbf{α:Type}{pre:List α}{x y:α}{r:List α}{i:Nat}(h:pre.length=i):(pre++x::r).set i y=pre++y::r:=by subst h;exact set_mid pre x y r
theorem qw9{n:Nat}{a:List Nat}{k:Nat}(ha:Dg 4294967296 a)(hk0:0<k)(hk:k<4294967296)(hl:a.length<=1099511627776)(hn:a.length+3<=n){l1:List FV}:∀(i m:Nat),i<=a.length->i<m ->
  q9t.l4 n [] m [L32 a,.list 1 l1,.int .u32 (k:Int),L32 (List.replicate i 0++(divL 4294967296 k (a.drop i)).2),.int .u64 (((divL 4294967296 k (a.drop i)).1:Nat):Int),.int .i64 ((i:Int)-1)] =
   some [L32 (tz (divL 4294967296 k a).2),.int .u32 (((divL 4294967296 k a).1:Nat):Int)]:=by
 intro i
 induction i with
 |zero =>
  intro m hi hm;obtain⟨m,rfl⟩:=qSx m;obtain⟨n,rfl⟩:=qSx n;obtain⟨g1,g2,g3,g4⟩:=q6f hk0 a ha;rw[q9t.q14,Ad,Ab,Av,Cq,Au,q90];simp only[Ae,Aj,qy];rw[lo32,AJ (by omega)]
 |succ i ih =>
  intro m hi hm;obtain⟨m,rfl⟩:=qSx m;have hia:i<a.length:=by omega
  have hx:=ha a[i] (Ah hia);have hda:Dg 4294967296 (a.drop (i+1)):=λd hd=>ha d (CA hd);obtain⟨g1,g2,g3,g4⟩:=q6f hk0 (a.drop (i+1)) hda;have ih:=ih m (by omega) (by omega);rw[q1y hia]at ih;simp only[divL]at ih;generalize (divL 4294967296 k (a.drop (i+1))).1=r at g1 g2 ih ⊢;generalize (divL 4294967296 k (a.drop (i+1))).2=q at g1 g3 g4 ih ⊢;have hq:q.length=a.length-(i+1):=by rw[g4,DE]
  have hlen:(List.replicate (i+1) 0++q).length=a.length:=by simp[hq];omega
  have e0:(((i+1:Nat):Int)-1)=(i:Int):=by omega
  have e1:bitI .or .u64 (shI true .u64 (r:Int) 32) (IntKind.wrap .u64 (a[i]:Int))=((r*4294967296+a[i]:Nat):Int):=by
   have h1:=qap .u64 r 32 (by decide);rw[show((32:Nat):Int)=32 from rfl]at h1;rw[h1,q1d,q1d,qbt,qe4 (s:=32) (by omega)]
  have e2:Int.tdiv ((r*4294967296+a[i]:Nat):Int) (k:Int)=(((r*4294967296+a[i]) / k:Nat):Int):=rfl;have e3:Int.tmod ((r*4294967296+a[i]:Nat):Int) (k:Int)=(((r*4294967296+a[i])%k:Nat):Int):=rfl;have hdig:(r*4294967296+a[i]) / k<4294967296:=by
   rw[BP hk0];have:(r+1)*4294967296<=k*4294967296:=AR _ g2;omega
  rw[q9t.q14,e0,Af,Ac,q1d (show k<18446744073709551616 by omega),show decide ((k:Int)=0)=false from Ad];simp only[Aa,hlen,q9 hia,Ae,q3x hia,qi,Ab];rw[e1,e2,e3,q1d,q6r hdig];have hset:List.set ((List.replicate (i+1) 0++q).map d32) i (.int .u32 (((r*4294967296+a[i]) / k:Nat):Int))=(List.replicate i 0++((r*4294967296+a[i]) / k)::q).map d32:=by
   have hr:List.replicate (i+1) 0++q=List.replicate i 0++(0::q):=by rw[DF,Ap];rfl
   rw[hr,AW,AM,qbf (by simp),AW,AM]
  rw[hset,show w6 ((i:Int)-1)=(i:Int)-1 from ql];exact ih
theorem qnm{x k:Nat}(hk0:0<k)(hk:k<4294967296)(hx:(dg 4294967296 x).length<=1099511627775):Ev En 205 [L32 (dg 4294967296 x),.int .u32 (k:Int)] [L32 (dg 4294967296 (x / k)),.int .u32 ((x%k:Nat):Int)]:=by
 refine Ev.of ((dg 4294967296 x).length+3) λn hn=>?_;rw[qqs,Aa,mk4,Ae,q1x (Ak _),Ae,rep0,show w6 (((dg 4294967296 x).length:Int)-1)=((dg 4294967296 x).length:Int)-1 from ql];have:=qw9 (n:=n) (q12 qq x) hk0 hk (by omega) hn (l1:=[]) (dg 4294967296 x).length n (Ak _) (by omega);rw[AO (Ak _)]at this;simp only[divL,AN]at this;rw[show(((0:Nat):Int))=0 from rfl]at this;rw[this];obtain⟨g1,g2,g3,g4⟩:=q6f hk0 (dg 4294967296 x) (q12 qq x);rw[q23 qq]at g1;rw[<- q3b qq g3];have key:∀q r:Nat,x=k*q+r->r<k->x / k=q/\x%k=r:=by
  intro q r e hr;subst e;exact⟨by rw[EQ hk0,CU hr,Ax],by rw[Ed,AJ hr]⟩
 obtain⟨h1,h2⟩:=key _ _ g1 g2;rw[h1,h2]
def cmpN(x y:Nat):Int:=if x<y then -1 else if y<x then 1 else 0
theorem cmp_loop{n:Nat}{a b:List Nat}(ha:Dg 4294967296 a)(hb:Dg 4294967296 b)(hab:a.length=b.length)(hl:a.length<=1099511627776):∀(i m:Nat),i<=a.length->i<m->a.drop i=b.drop i ->
  q9s.l6 n [] m [L32 a,L32 b,.int .i64 ((i:Int)-1)]=some [.int .i64 (cmpN (vl 4294967296 a) (vl 4294967296 b))]:=by
 intro i
 induction i with
 |zero =>
  intro m hi hm he;obtain⟨m,rfl⟩:=qSx m;rw[Av,Av]at he;subst he;rw[q9s.q2r,Ad,Ab];simp[cmpN]
 |succ i ih =>
  intro m hi hm he;obtain⟨m,rfl⟩:=qSx m;have hia:i<a.length:=by omega
  have hib:i<b.length:=by omega
  have e0:(((i+1:Nat):Int)-1)=(i:Int):=by omega
  rw[q9s.q2r,e0,Af,Ac];simp only[Aa,q9 hia,q9 hib,Ae,q3x hia,q3x hib,qi];have da:a=a.take i++a[i]::a.drop (i+1):=by rw[<- q1y hia,Ca]
  have db:b=b.take i++b[i]::b.drop (i+1):=by rw[<- q1y hib,Ca]
  have ta:Dg 4294967296 (a.take i):=λd hd=>ha d (CJ hd);have tb:Dg 4294967296 (b.take i):=λd hd=>hb d (CJ hd);have tl:(a.take i).length=(b.take i).length:=by rw[BF,BF,hab]
  by_cases h:a[i]=b[i]
  ·rw[show((a[i]:Int) !=(b[i]:Int))=false by simp[h],Ab,show w6 ((i:Int)-1)=(i:Int)-1 from ql];exact ih m (by omega) (by omega) (by rw[q1y hia,q1y hib,h,he])
  ·rw[show((a[i]:Int) !=(b[i]:Int))=true by simp;omega,Ac];by_cases hlt:a[i]<b[i]
   ·rw[Af,Ac];have:=qd5 (b:=4294967296) (by omega) ta tb tl hlt (b.drop (i+1));rw[<- db,<- he,<- da]at this;unfold cmpN;rw[if_pos this]
   ·rw[Ad,Ab];have:=qd5 (b:=4294967296) (by omega) tb ta tl.symm (show b[i]<a[i] by omega) (a.drop (i+1));rw[<- da,he,<- db]at this;unfold cmpN;rw[if_neg (by omega),if_pos this]
theorem qa4{x y:Nat}(hx:(dg 4294967296 x).length<=1099511627775)(hy:(dg 4294967296 y).length<=1099511627775):Ev En 202 [L32 (dg 4294967296 x),L32 (dg 4294967296 y)] [.int .i64 (cmpN x y)]:=by
 refine Ev.of ((dg 4294967296 x).length+3) λn hn=>?_;rw[qqr,Aa,Aa];by_cases h1:(dg 4294967296 x).length<(dg 4294967296 y).length
 ·rw[Af,Ac];have:=qac qq h1;unfold cmpN;rw[if_pos this]
 ·rw[Ad,Ab];by_cases h2:(dg 4294967296 y).length<(dg 4294967296 x).length
  ·rw[Af,Ac];have:=qac qq h2;unfold cmpN;rw[if_neg (by omega),if_pos this]
  ·rw[Ad,Ab,show w6 (((dg 4294967296 x).length:Int)-1)=((dg 4294967296 x).length:Int)-1 from ql];have:=cmp_loop (n:=n) (q12 qq x) (q12 qq y) (by omega) (by omega) (dg 4294967296 x).length n (Ak _) (by omega) (by rw[AO (Ak _),AO (by omega)]);rw[q23 qq,q23 qq]at this;exact this
end Rf
end
section
set_option maxHeartbeats 1000000
namespace Rf
open Go
theorem q60{pre:List Nat}{x y:Nat}{r:List Nat}{i:Nat}(h:pre.length=i:=by omega):List.set ((pre++x::r).map d32) i (.int .u32 (y:Int))=(pre++y::r).map d32:=by
 rw[AW,AM,qbf (by simpa using h)];simp[d32]
theorem q49{pre:List Nat}{x:Nat}{r:List Nat}{i:Nat}(h:pre.length=i:=by omega):at' ((pre++x::r).map d32) i 0=some (.int .u32 (x:Int)):=by
 subst h;rw[q28,CS (Ak _),Cp];rfl
theorem wu32(z:Int):IntKind.wrap .u32 z=z%4294967296:=by
 unfold IntKind.wrap;simp[IntKind.bits,IntKind.signed]
theorem qwa{x y br:Nat}(hx:x<4294967296)(hy:y<4294967296)(hb:br<=1):IntKind.wrap .u32 (IntKind.wrap .u32 ((x:Int)-(y:Int))-(br:Int))=(((4294967296+x-y-br)%4294967296:Nat):Int):=by
 rw[wu32,wu32];omega
theorem qiq{n x y br:Nat}(hx:x<4294967296)(hy:y<4294967296)(hb:br<=1) :
  evF En (n+1) 231 [.int .u32 (x:Int),.int .u32 (y:Int),.int .u32 (br:Int)]=some [.int .u32 (((4294967296+x-y-br)%4294967296:Nat):Int),.int .u32 ((if x<y+br then 1 else 0:Nat):Int)]:=by
 rw[qqx,qwa hx hy hb,qqi hx hy hb]
theorem sub_loop{n:Nat}{a b:List Nat}(ha:Dg 4294967296 a)(hb:Dg 4294967296 b)(hl:a.length<=1099511627776)(hn:a.length+3<=n){l1:List FV}:∀(d i m:Nat) (pre:List Nat) (c:Nat),i+d=a.length->d<m->pre.length=i->c<=1 ->
  q7w.l6 n [] m [L32 b,.list 1 l1,L32 (pre++a.drop i),.int .u32 (c:Int),.int .i64 (a.length:Int),.int .i64 (i:Int)]=some [L32 (tz (pre++(subL 4294967296 (a.drop i) (b.drop i) c).1)),.int .i64 0]:=by
 intro d
 induction d with
 |zero =>
  intro i m pre c hi hm hp hc;obtain⟨m,rfl⟩:=qSx m;obtain⟨n,rfl⟩:=qSx n;rw[q7w.q2r,Ad,Ab,AO (show a.length<=i by omega)];simp only[subL,AN];rw[q90];simp only[Ae,Aj,qy]
 |succ d ih =>
  intro i m pre c hi hm hp hc;obtain⟨m,rfl⟩:=qSx m;have hia:i<a.length:=by omega
  have hx:=ha a[i] (Ah hia);rw[q7w.q2r,Af,Ac,q1y hia];have hlen:i<(pre++a[i]::a.drop (i+1)).length:=by simp;omega
  obtain⟨n,rfl⟩:=qSx n;have key:∀y:Nat,y<4294967296->y=(b.drop i).headD 0->(evF En (n+1) 231 [.int .u32 (a[i]:Int),.int .u32 (y:Int),.int .u32 (c:Int)]).bind (λr4=>(asInt .u32 (r4[0]?)).bind λn5=>(asInt .u32 (r4[1]?)).bind λn6=>(ix (i:Int) ((pre++a[i]::a.drop (i+1)).map d32).length).bind λi7=>q7w.l6 (n+1) [] m [L32 b,.list 1 l1,.list 1 (List.set ((pre++a[i]::a.drop (i+1)).map d32) i7 (.int .u32 n5)),.int .u32 n6,.int .i64 (a.length:Int),.int .i64 (w6 ((i:Int)+1))]) =
    some [L32 (tz (pre++(subL 4294967296 (a[i]::a.drop (i+1)) (b.drop i) c).1)),.int .i64 0]:=λy hy he=>by
   rw[qiq hx hy hc];simp only[Ae,Aj,AP,qi,Aa,q9 hlen];rw[q60 hp,qc (by omega)];have:=ih (i+1) m (pre++[(4294967296+a[i]-y-c)%4294967296]) (if a[i]<y+c then 1 else 0) (by omega) (by omega) (by simp[hp]) (by split <;> omega);rw[Ap]at this;refine this.trans ?_;simp only[subL,<- he,List.tail_drop,Ap];rfl
  simp only[Aa,q9 hlen,Ae,q49 hp,qi];by_cases hib:i<b.length
  ·rw[Af,Ac];simp only[q9 hib,Ae,q3x hib,qi];have:=key b[i] (hb b[i] (Ah hib)) (by rw[q1y hib];rfl);simp only[Aa,q9 hlen]at this;exact this
  ·rw[Ad,Ab];have:=key 0 (by omega) (by rw[AO (by omega)];rfl);simp only[Aa,q9 hlen]at this;exact this
theorem clone_run{n:Nat}{l:List Nat}(h:l≠[])(hl:l.length<=1099511627776):evF En (n+1) 230 [L32 l]=some [L32 l]:=by
 show cloneExt [L32 l]=_;simp only[cloneExt];rw[if_pos ⟨by simpa using h,by simpa using hl,by simp[]⟩]
theorem qn0{x y:Nat}(h0:x≠0)(hyx:y<=x)(hx:(dg 4294967296 x).length<=1099511627775)(hy:(dg 4294967296 y).length<=1099511627775):Ev En 201 [L32 (dg 4294967296 x),L32 (dg 4294967296 y)] [L32 (dg 4294967296 (x-y)),.int .i64 0]:=by
 obtain⟨n1,h1⟩:=qa4 hx hy;refine Ev.of (n1+(dg 4294967296 x).length+3) λn hn=>?_;obtain⟨n,rfl⟩:=qSx n;rw[qkk,h1 _ (by omega)];simp only[Ae,Aj,qi];rw[Ad (by unfold cmpN;rw[if_neg (by omega)];split <;> omega),Ab,clone_run (λh=>h0 ((q52 qq).1 h)) (by omega)];simp only[Ae,Aj,qy,Aa];have:=sub_loop (n:=n+1) (q12 qq x) (q12 qq y) (by omega) (by omega) (l1:=[]) (dg 4294967296 x).length 0 (n+1) [] 0 (by omega) (by omega) rfl (by omega);rw[Au,Av,Av,Au]at this;refine this.trans ?_;have hlen:(dg 4294967296 y).length<=(dg 4294967296 x).length:=by
  apply Dj;intro hlt;have:=qac qq hlt;omega
 obtain⟨g1,g2,g3,g4⟩:=qfp qq (dg 4294967296 x) (dg 4294967296 y) 0 (q12 qq x) (q12 qq y) (by omega) hlen;rw[q23 qq,q23 qq]at g1;have hv:=q4l (by omega) g2;rw[g3]at hv;have:(subL 4294967296 (dg 4294967296 x) (dg 4294967296 y) 0).2=0:=by
  rcases Dl 0 (subL 4294967296 (dg 4294967296 x) (dg 4294967296 y) 0).2 with q | q
  ·have e:(subL 4294967296 (dg 4294967296 x) (dg 4294967296 y) 0).2=1:=by omega
   rw[e]at g1;omega
  ·omega
 rw[this]at g1;rw[<- q3b qq g2];have e:vl 4294967296 (subL 4294967296 (dg 4294967296 x) (dg 4294967296 y) 0).1=x-y:=by omega
 rw[e]
theorem qv5{x y:Nat}(hxy:x<y)(hx:(dg 4294967296 x).length<=1099511627775)(hy:(dg 4294967296 y).length<=1099511627775):Ev En 201 [L32 (dg 4294967296 x),L32 (dg 4294967296 y)] [.list 1 [],.int .i64 11]:=by
 obtain⟨n1,h1⟩:=qa4 hx hy;refine Ev.of n1 λn hn=>?_;rw[qkk,h1 _ (by omega)];simp only[Ae,Aj,qi];rw[Af (by unfold cmpN;rw[if_pos hxy];omega),Ac]
theorem mul_row{n m0:Nat}{a b:List Nat}(hb:Dg 4294967296 b)(hl:a.length+b.length<=1099511627776){l1:List FV}{x i:Nat}(hx:x<4294967296)(hia:i<a.length):∀(e:List Nat) (k m:Nat) (pre acc:List Nat) (c:Nat),b.drop k=e->k+e.length=b.length->e.length<m->pre.length=i+k->e.length<acc.length->Dg 4294967296 acc->c<4294967296 ->
  q3y.l7 n [m0] m [L32 b,.list 1 l1,L32 (pre++acc),.int .i64 (i:Int),.int .u32 (x:Int),.int .u64 (c:Int),L32 a,.int .i64 (a.length:Int),.int .i64 (i:Int),L32 b,.int .i64 (b.length:Int),.int .i64 (k:Int)] =
   q3y.l3 n [] m0 [L32 b,.list 1 l1,L32 (pre++maRow 4294967296 acc e x c),L32 a,.int .i64 (a.length:Int),.int .i64 ((i+1:Nat):Int)]:=by
 intro e
 induction e with
 |nil =>
  intro k m pre acc c hk hke hm hp hacc hd hc;obtain⟨m,rfl⟩:=qSx m;simp only[Bg,Ax]at hke;obtain⟨h,t,rfl⟩:∃h t,acc=h::t:=by
   cases acc with
   |nil=>simp at hacc
   |cons h t=>exact⟨h,t,rfl⟩
  rw[q3y.q2w,Ad,Ab,Aa,q2q];have hlt:i+b.length<(pre++h::t).length:=by simp;omega
  simp only[Aa,q9 hlt,Ae];rw[q6r hc,q60,qc (by omega)];rfl
 |cons y e ih =>
  intro k m pre acc c hk hke hm hp hacc hd hc;obtain⟨m,rfl⟩:=qSx m;obtain⟨h,t,rfl⟩:∃h t,acc=h::t:=by
   cases acc with
   |nil=>simp at hacc
   |cons h t=>exact⟨h,t,rfl⟩
  simp only[Aq]at hke hm hacc;have hkb:k<b.length:=by omega
  have hy:b[k]=y/\b.drop (k+1)=e:=by
   rw[q1y hkb]at hk;cases hk;exact⟨rfl,rfl⟩
  have hyl:y<4294967296:=by rw[<- hy.1];exact hb _ (Ah hkb)
  obtain⟨hh,ht⟩:=hd.tail;have hlt:i+k<(pre++h::t).length:=by simp;omega
  rw[q3y.q2w,Af,Ac,q2q];simp only[Aa,q9 hkb,Ae,q3x hkb,qi,q9 hlt,q49 (show pre.length=i+k by omega),hy.1];obtain⟨hm1,hm2⟩:=mul64 hx hyl;rw[hm1,q1d (show h<18446744073709551616 by omega),q7m,q7m,lo32,hi32,q60,qc (by omega)];have:=ih (k+1) m (pre++[(c+(h+x*y))%4294967296]) t ((c+(h+x*y)) / 4294967296) hy.2 (by omega) (by omega) (by simp;omega) (by omega) ht (BO (by omega));rw[Ap]at this;refine this.trans ?_;simp only[maRow,Ap];rfl
theorem mul_outer{n:Nat}{a b:List Nat}(ha:Dg 4294967296 a)(hb:Dg 4294967296 b)(hl:a.length+b.length<=1099511627776)(hn:a.length+b.length+3<=n){l1:List FV}:∀(e:List Nat) (i m:Nat) (pre w:List Nat),a.drop i=e->i+e.length=a.length->e.length<m->pre.length=i->w.length=b.length->Dg 4294967296 w ->
  q3y.l3 n [] m [L32 b,.list 1 l1,L32 (pre++(w++List.replicate e.length 0)),L32 a,.int .i64 (a.length:Int),.int .i64 (i:Int)]=some [L32 (tz (pre++mulO 4294967296 e (w++List.replicate e.length 0) b))]:=by
 intro e
 induction e with
 |nil =>
  intro i m pre w hi hie hm hp hw hd;obtain⟨m,rfl⟩:=qSx m;obtain⟨n,rfl⟩:=qSx n;simp only[Bg,Ax]at hie;rw[q3y.qm,Ad,Ab,q90 (by simp;omega) (by simp;omega)];simp only[Ae,Aj,qy,mulO]
 |cons x e ih =>
  intro i m pre w hi hie hm hp hw hd;obtain⟨m,rfl⟩:=qSx m;simp only[Aq]at hie hm;have hia:i<a.length:=by omega
  have hx:a[i]=x/\a.drop (i+1)=e:=by
   rw[q1y hia]at hi;cases hi;exact⟨rfl,rfl⟩
  have hxl:x<4294967296:=by rw[<- hx.1];exact ha _ (Ah hia)
  rw[q3y.qm,Af,Ac];simp only[Aa,q9 hia,Ae,q3x hia,qi,hx.1];have hrow:=mul_row (n:=n) (m0:=m) (a:=a) hb hl (l1:=l1) hxl hia b 0 n pre (w++List.replicate (e.length+1) 0) 0 rfl (by omega) (by omega) (by omega) (by simp;omega) (hd.app (λd h=>by have:=CI h;omega)) (by omega);simp only[Aq];rw[show((0:Nat):Int)=0 from rfl]at hrow;rw[hrow];obtain⟨w',h1,h2,h3,h4⟩:=qd6 qq w b (List.replicate e.length 0) x 0 hw hd hb hxl (by omega);rw[Cg,h1];cases w' with
  |nil=>simp at h2
  |cons d t =>
   obtain⟨hd1,ht⟩:=h3.tail;have:=ih (i+1) m (pre++[d]) t hx.2 (by omega) (by omega) (by simp[hp]) (by simpa using h2) ht;rw[Ap]at this;refine this.trans ?_;simp only[mulO,h1,Al,Ap];rfl
theorem natMul_ev{x y:Nat}(h:(dg 4294967296 x).length+(dg 4294967296 y).length<=1099511627775):Ev En 212 [L32 (dg 4294967296 x),L32 (dg 4294967296 y)] [L32 (dg 4294967296 (x*y))]:=by
 refine Ev.of ((dg 4294967296 x).length+(dg 4294967296 y).length+3) λn hn=>?_;rw[qqt,Aa,Aa,q2q,mk4,Ae,q1x (Ak _),Ae,rep0];have:=mul_outer (n:=n) (q12 qq x) (q12 qq y) (by omega) (by omega) (l1:=[]) (dg 4294967296 x) 0 n [] (List.replicate (dg 4294967296 y).length 0) rfl (by omega) (by omega) rfl (by simp) (λd h=>by have:=CI h;omega);rw[Au,Ea,Au,Bn (dg 4294967296 y).length,show((0:Nat):Int)=0 from rfl]at this;refine this.trans ?_;obtain⟨g1,g2,_⟩:=qfq qq (dg 4294967296 x) (List.replicate (dg 4294967296 y).length 0) (dg 4294967296 y) (by simp) (λd h=>by have:=CI h;omega) (q12 qq y) (q12 qq x);rw[Ea,Bn (dg 4294967296 y).length]at g1 g2;have hz:∀k:Nat,vl 4294967296 (List.replicate k 0)=0:=λk=>by
  induction k with
  |zero=>rfl
  |succ k ih=>rw[Cg];simp[vl,ih]
 rw[<- q3b qq g2,g1,hz,q23 qq,q23 qq,AG]
theorem qno{x:Nat}(hx:x<18446744073709551616):Ev En 251 [L32 (dg 4294967296 x)] [.int .u64 (x:Int)]:=by
 have hlen:(dg 4294967296 x).length<=2:=q5h qq (k:=2) (by simpa using hx);have hv:=q23 qq x;have hd:=q12 qq x;refine Ev.of 3 λn hn=>?_;obtain⟨n,rfl⟩:∃k,n=k+3:=⟨n-3,by omega⟩;rw[qr2];generalize dg 4294967296 x=l at hlen hv hd ⊢
 match l,hlen,hv,hd with
 |[],_,hv,_ =>
  simp only[vl]at hv;rw[q6u.qm];simp[<- hv]
 |[d0],_,hv,hd =>
  have h0:=hd d0 (by simp);simp only[vl,Cm,Ax]at hv;subst hv;rw[q6u.qm];simp only[AM,BG,Aq,Bg];rw[Af,Ac,show ix (0:Int) (0+1)=some 0 from rfl];simp only[Ae,q7n,d32,FV.cells,Aj,qi];rw[show Go.IntKind.wrap .u64 (w6 (32*0))=0 by decide,Ad (by decide),Ab,q1d];have e1:=qap .u64 d0 0 (by decide);rw[show((0:Nat):Int)=0 from rfl]at e1;rw[e1,EB,DQ,q1d,show bitI .or .u64 0 (d0:Int)=((0 ||| d0:Nat):Int) from qbt (x:=0) (by omega) (by omega),Nat.zero_or];rw[q6u.qm,show w6 (0+1)=1 by decide,Ad,Ab]
 |[d0,d1],_,hv,hd =>
  have h0:=hd d0 (by simp);have h1:=hd d1 (by simp);simp only[vl,Cm,Ax]at hv;subst hv;rw[q6u.qm];simp only[AM,BG,Aq,Bg];rw[Af,Ac,show ix (0:Int) (0+1+1)=some 0 from rfl];simp only[Ae];rw[show at' [d32 d0,d32 d1] 0 0=some (.int .u32 (d0:Int)) from rfl];simp only[qi,Ae];rw[show Go.IntKind.wrap .u64 (w6 (32*0))=0 by decide,Ad (by decide),Ab,q1d];have e1:=qap .u64 d0 0 (by decide);rw[show((0:Nat):Int)=0 from rfl]at e1;rw[e1,EB,DQ,q1d,show bitI .or .u64 0 (d0:Int)=((0 ||| d0:Nat):Int) from qbt (x:=0) (by omega) (by omega),Nat.zero_or];rw[q6u.qm,show w6 (0+1)=1 by decide,Af,Ac];rw[show ix (1:Int) [d32 d0,d32 d1].length=some 1 from rfl];simp only[Ae];rw[show at' [d32 d0,d32 d1] 1 0=some (.int .u32 (d1:Int)) from rfl];simp only[qi,Ae];rw[show Go.IntKind.wrap .u64 (w6 (32*1))=((32:Nat):Int) by decide,Ad (by decide),Ab,q1d,qap .u64 d1 32 (by decide),q1d,qbt,Nat.or_comm,qe4];rw[q6u.qm,show w6 (1+1)=2 by decide,Ad,Ab];rw[show d1*2^32+d0=d0+4294967296*d1 by omega]
end Rf
end
section
set_option maxHeartbeats 1000000
set_option maxRecDepth 10000
namespace Rf
open Go
def qcu:ByteArray:={ data:=(([0,1,2,2,3,3,3,3,4,4,4,4,4,4,4,4,5,5,5,5,5,5,5,5,5,5,5,5,5,5,5,5,6,6,6,6,6,6,6,6,6,6,6,6,6,6,6,6,6,6,6,6,6,6,6,6,6,6,6,6,6,6,6,6].append [7,7,7,7,7,7,7,7,7,7,7,7,7,7,7,7,7,7,7,7,7,7,7,7,7,7,7,7,7,7,7,7,7,7,7,7,7,7,7,7,7,7,7,7,7,7,7,7,7,7,7,7,7,7,7,7,7,7,7,7,7,7,7,7]).append ([8,8,8,8,8,8,8,8,8,8,8,8,8,8,8,8,8,8,8,8,8,8,8,8,8,8,8,8,8,8,8,8,8,8,8,8,8,8,8,8,8,8,8,8,8,8,8,8,8,8,8,8,8,8,8,8,8,8,8,8,8,8,8,8].append [8,8,8,8,8,8,8,8,8,8,8,8,8,8,8,8,8,8,8,8,8,8,8,8,8,8,8,8,8,8,8,8,8,8,8,8,8,8,8,8,8,8,8,8,8,8,8,8,8,8,8,8,8,8,8,8,8,8,8,8,8,8,8,8])).toArray }
def bl(x:Nat):Nat:=if x=0 then 0 else Nat.log2 x+1
theorem qf5:∀i:Nat,i<256->q2t qcu (i:Int)=some ((bl i:Nat):Int):=by decide +kernel
theorem qf3{x:Nat}(h:x≠0):2^(bl x-1)<=x/\x<2^bl x/\1<=bl x:=by
 unfold bl;rw[if_neg h];exact⟨by rw[EJ];exact Nat.log2_self_le h,Nat.lt_log2_self,by omega⟩
theorem bl_le{x k:Nat}(h:x<2^k):bl x<=k:=by
 rcases Bt x with h0 | h0
 ·subst h0;simp[bl]
 ·obtain⟨h1,_,h2⟩:=qf3 (by omega:x≠0);have:bl x-1<k:=(Nat.pow_lt_pow_iff_right (by omega:1<2)).1 (BK h1 h);omega
theorem qir{x k:Nat}(h:2^k<=x):bl x=k+bl (x / 2^k):=by
 have hp:0<2^k:=Bz (by omega);have hx:x≠0:=by omega
 have hq:x / 2^k≠0:=by have:=Nat.div_pos h hp;omega
 unfold bl;rw[if_neg hx,if_neg hq];have h1:=Nat.log2_self_le hq;have h2:x / 2^k<2^((x / 2^k).log2+1):=Nat.lt_log2_self
 have:x.log2=k+(x / 2^k).log2:=(Nat.log2_eq_iff hx).2 ⟨by
  rw[Cd];exact AZ (BB _ h1) (Nat.mul_div_le _ _),by
  rw[Bl,Cd,AB]
  exact(BP hp).1 h2⟩
 omega
theorem wrap_u8(x:Nat):IntKind.wrap .u8 (x:Int)=((x%256:Nat):Int):=by
 unfold IntKind.wrap;simp[IntKind.bits,IntKind.signed]
theorem shr16(x:Nat):shI false .u32 (x:Int) 16=((x / 65536:Nat):Int):=by
 have:=qbs .u32 x 16 (by decide);simpa using this
theorem shr8(x:Nat):shI false .u32 (x:Int) 8=((x / 256:Nat):Int):=by
 have:=qbs .u32 x 8 (by decide);simpa using this
theorem qwb(n:Nat)(x0:Int):evF En (n+1) 196 [.int .u32 x0] =
 (bif(decide (x0≥65536))then
  (bif(decide ((shI false .u32 x0 16)≥256))then(q2t qcu (Go.IntKind.wrap .u8 (shI false .u32 (shI false .u32 x0 16) 8))).bind λn0=>some [.int .i64 (w6 (24+(w6 n0)))]
   else(q2t qcu (Go.IntKind.wrap .u8 (shI false .u32 x0 16))).bind λn1=>some [.int .i64 (w6 (16+(w6 n1)))])
  else
  (bif(decide (x0≥256))then(q2t qcu (Go.IntKind.wrap .u8 (shI false .u32 x0 8))).bind λn2=>some [.int .i64 (w6 (8+(w6 n2)))]
   else(q2t qcu (Go.IntKind.wrap .u8 x0)).bind λn3=>some [.int .i64 (w6 (0+(w6 n3)))])):=qqp n x0
theorem qnk{n x:Nat}(hx:x<4294967296):evF En (n+1) 196 [.int .u32 (x:Int)]=some [.int .i64 ((bl x:Nat):Int)]:=by
 have fin:∀k y:Nat,y<256->k<=24->w6 ((k:Int)+w6 ((bl y:Nat):Int))=((k+bl y:Nat):Int):=λk y hy hk=>by
  have:=bl_le (x:=y) (k:=8) (by omega);rw[q43,q2q]
 rw[qwb,shr16,shr8,shr8];by_cases h1:65536<=x
 ·rw[Af,Ac];by_cases h2:256<=x / 65536
  ·rw[Af,Ac,wrap_u8,AJ (by omega),qf5 _ (by omega),Ae];have:=fin 24 (x / 65536 / 256) (by omega) (by omega);rw[show((24:Nat):Int)=24 from rfl]at this;rw[this,qir (x:=x) (k:=24) (by omega),show x / 2^24=x / 65536 / 256 by omega]
  ·rw[Ad,Ab,wrap_u8,AJ (by omega),qf5 _ (by omega),Ae];have:=fin 16 (x / 65536) (by omega) (by omega);rw[show((16:Nat):Int)=16 from rfl]at this;rw[this,qir (x:=x) (k:=16) (by omega)]
 ·rw[Ad,Ab];by_cases h2:256<=x
  ·rw[Af,Ac,wrap_u8,AJ (by omega),qf5 _ (by omega),Ae];have:=fin 8 (x / 256) (by omega) (by omega);rw[show((8:Nat):Int)=8 from rfl]at this;rw[this,qir (x:=x) (k:=8) (by omega)]
  ·rw[Ad,Ab,wrap_u8,AJ (by omega),qf5 _ (by omega),Ae];have:=fin 0 x (by omega) (by omega);rw[show((0:Nat):Int)=0 from rfl]at this;rw[this,AG]
theorem qim{x:Nat}(h:x≠0):∃l d,dg 4294967296 x=l++[d]/\d≠0/\d<4294967296:=by
 have hne:dg 4294967296 x≠[]:=λq=>h ((q52 qq).1 q);obtain⟨l,d,e⟩:=Dk (dg 4294967296 x) |>.resolve_left hne;rw[EI]at e;refine⟨l,d,e,dg_last qq e,?_⟩;exact q12 qq x d (by rw[e];simp)
def q88(x:Nat):Nat:=if x=0 then 0 else 32*((dg 4294967296 x).length-1)+bl ((dg 4294967296 x).getLast?.getD 0)
theorem qex{x:Nat}:q88 x=0↔x=0:=by
 unfold q88;constructor
 ·intro h;apply BX;intro hx;rw[if_neg hx]at h;obtain⟨l,d,e,hd,_⟩:=qim hx;rw[e]at h;simp only[List.getLast?_concat,Bh]at h;have:=(qf3 hd).2.2;omega
 ·intro h;rw[if_pos h]
theorem qew{x:Nat}(hx:(dg 4294967296 x).length<=1099511627775:=by omega):Ev En 217 [L32 (dg 4294967296 x)] [.int .i64 ((q88 x:Nat):Int)]:=by
 refine Ev.of 1 λn hn=>?_;obtain⟨n,rfl⟩:=qSx n;rw[qqu];rcases Bt x with h0 | h0
 ·subst h0;rw[q18];simp[q88]
 ·obtain⟨l,d,e,hd,hdl⟩:=qim (by omega:x≠0);have hb:q88 x=32*l.length+bl d:=by
   unfold q88;rw[if_neg (by omega),e];simp
  have hlen:(l++[d]).length=l.length+1:=by simp
  rw[e,hlen]at hx;rw[hb,e];rw[Aa,hlen,show(((l.length+1:Nat):Int)==0)=false by simp;omega,Ab,show((l.length+1:Nat):Int)-1=(l.length:Int) by omega,q43,q9,Ae,q49 rfl];simp only[qi,Ae,qnk hdl,Aj];have:=bl_le (x:=d) (k:=32) (by omega);have:=qbh (x:=32) (y:=l.length) (by omega);rw[show((32:Nat):Int)=32 from rfl]at this;rw[this,q2q]
theorem qis(x:Nat){s:Nat}(hs:s<32):x*2^s%4294967296=(x%2^(32-s))*2^s:=by
 have:4294967296=2^(32-s)*2^s:=by rw[<- Cd,show 32-s+s=32 by omega]
 rw[this,Nat.mul_mod_mul_right]
theorem qwc{x s:Nat}(hx:x<4294967296)(hs:s<32):x*2^s<9223372036854775808:=by
 have:2^s<=2^31:=AU (by omega) (by omega)
 calc x*2^s<=x*2^31:=BB _ this
  _<9223372036854775808:=by omega
theorem qwd{n:Nat}{a:List Nat}{s:Nat}(ha:Dg 4294967296 a)(hs:s<32)(hl:a.length<=1099511627776):∀(d i m:Nat) (pre:List Nat) (c:Nat),i+d=a.length->d<m->pre.length=i->c<2^s ->
  q9v.l3 n [] m [.int .u64 (s:Int),L32 (pre++c::List.replicate d 0),L32 a,.int .i64 (a.length:Int),.int .i64 (i:Int)]=some [L32 (pre++shlL 4294967296 s (a.drop i) c)]:=by
 intro d
 induction d with
 |zero =>
  intro i m pre c hi hm hp hc;obtain⟨m,rfl⟩:=qSx m;rw[q9v.qm,Ad,Ab,AO (show a.length<=i by omega)];rfl
 |succ d ih =>
  intro i m pre c hi hm hp hc;obtain⟨m,rfl⟩:=qSx m;have hia:i<a.length:=by omega
  have hx:=ha a[i] (Ah hia);have hv:=qwc hx hs;have h32:2^s<=2^32:=AU (by omega) (by omega);have hlen:(pre++c::List.replicate (d+1) 0).length=i+(d+2):=by simp;omega
  rw[q9v.qm,Af,Ac];simp only[Aa,q9 hia,Ae,q3x hia,qi];rw[Ad,Ab];rw[q1d (show a[i]<18446744073709551616 by omega),qap .u64 a[i] s (by show s<=64;omega),q1d,lo32,hi32];have hlt:i<(pre++c::List.replicate (d+1) 0).length:=by omega
  simp only[q9 hlt,Ae,q49 hp,qi];rw[or_u32 (by omega) (AK _ (by omega)),qis _ hs,Nat.or_comm,qe4 hc,<- qis _ hs,q60 hp];have hlt2:i+1<((pre++(a[i]*2^s%4294967296+c)::List.replicate (d+1) 0).map d32).length:=by simp;omega
  rw[qc (by omega)];simp only[q9 hlt2,Ae]
  rw[Cg,show pre++(a[i]*2^s%4294967296+c)::0::List.replicate d 0=(pre++[a[i]*2^s%4294967296+c])++0::List.replicate d 0 by simp,q6r (by
   have:a[i]*2^s / 4294967296<2^s:=by
    rw[BP (by omega),AB];exact EK hx (Bz (by omega))
   omega),q60 (by simp[hp])]
  have:=ih (i+1) m (pre++[a[i]*2^s%4294967296+c]) (a[i]*2^s / 4294967296) (by omega) (by omega) (by simp[hp]) (by
   rw[BP (by omega),AB]
   exact EK hx (Bz (by omega)))
  refine this.trans ?_;rw[q1y hia];simp only[shlL,Ap];rw[Bn c];rfl
theorem qnl{n:Nat}{a:List Nat}{s:Nat}(ha:Dg 4294967296 a)(hs:s<32)(hl:a.length<=1099511627775:=by omega)(hn:a.length<n:=by omega) :
  evF En (n+1) 233 [L32 a,.int .u64 (s:Int)]=some [L32 (shlL 4294967296 s a 0)]:=by
 rw[qqz,Aa,qc (by omega),mk4,Ae,q1x (Ak _),Ae,rep0,Cg];exact qwd (n:=n) ha hs (by omega) a.length 0 n [] 0 (by omega) (by omega) rfl (Bz (by omega))
theorem qik{s:Nat}(hs:s<32):∀(a:List Nat) (c:Nat),Dg 4294967296 a->c<2^s->Dg 4294967296 (shlL 4294967296 s a c)
 |[],c,_,hc=>λd hd=>by
  have h32:2^s<=2^31:=AU (by omega) (by omega);simp[shlL]at hd;omega
 |x::a,c,h,hc=>by
  obtain⟨hx,ha⟩:=h.tail;have h1:=qis x hs;have h2:x%2^(32-s)*2^s+2^s<=2^(32-s)*2^s:=by
   rw[<- De];exact AR _ (AK _ (Bz (by omega)))
  have h3:2^(32-s)*2^s=4294967296:=by rw[<- Cd,show 32-s+s=32 by omega]
  exact Dg.cons (by omega) (qik hs a _ ha (by
   rw[BP (by omega),AB]
   exact EK hx (Bz (by omega))))
theorem qil{s:Nat}:∀(a:List Nat) (c:Nat),(shlL 4294967296 s a c).length=a.length+1
 |[],c=>rfl
 |x::a,c=>by simp only[shlL,Aq,qil a]
end Rf
end
section
set_option maxHeartbeats 2000000
set_option maxRecDepth 10000
namespace Rf
open Go
theorem pow_pos'(k:Nat):0<(4294967296:Nat)^k:=Bz (by omega)
theorem qij{l:List Nat}{n:Nat}(hd:Dg 4294967296 l)(hl:l.length=n+1:=by omega)(hv:vl 4294967296 l<4294967296^n:=by omega):∃h,l=h++[0]/\h.length=n/\Dg 4294967296 h/\vl 4294967296 h=vl 4294967296 l:=by
 have hne:l≠[]:=λq=>by rw[q]at hl;simp at hl
 obtain⟨h,d,e⟩:=Dk l |>.resolve_left hne;rw[EI]at e;subst e;have hln:h.length=n:=by simpa using hl
 rw[qa6,hln]at hv;have hd0:d=0:=by
  rcases Bt d with q | q
  ·exact q
  ·have:4294967296^n<=4294967296^n*d:=Er _ q;omega
 subst hd0;exact⟨h,rfl,hln,λx hx=>hd x (by simp[hx]),by rw[qa6,Cm,Ax]⟩
theorem div_digit{win v:List Nat}{g:Nat}(hw:Dg 4294967296 win)(hv:Dg 4294967296 v)(hl:win.length=v.length+1)(hg:g<4294967296)
  (h1:vl 4294967296 win / vl 4294967296 v<=g) (h2:g*vl 4294967296 v<vl 4294967296 win+vl 4294967296 v) (hV:0<vl 4294967296 v) :
  ((msL 4294967296 win v g 0 0).2=0/\g=vl 4294967296 win / vl 4294967296 v/\∃h,(msL 4294967296 win v g 0 0).1=h++[0]/\h.length=v.length/\Dg 4294967296 h/\vl 4294967296 h=vl 4294967296 win%vl 4294967296 v) \/
  ((msL 4294967296 win v g 0 0).2=1/\g=vl 4294967296 win / vl 4294967296 v+1/\(msL 4294967296 win v g 0 0).1.length=v.length+1/\Dg 4294967296 (msL 4294967296 win v g 0 0).1 /\
   ∃h,abL 4294967296 (msL 4294967296 win v g 0 0).1 v 0=h++[0]/\h.length=v.length/\Dg 4294967296 h/\vl 4294967296 h=vl 4294967296 win%vl 4294967296 v):=by
 obtain⟨m1,m2,m3,m4⟩:=msL_ok qq win v g 0 0 hl hw hv hg (by omega) (by omega);generalize hr:msL 4294967296 win v g 0 0=r at m1 m2 m3 m4 ⊢;have hW:=DG (vl 4294967296 win) (vl 4294967296 v);have hR:=AK (vl 4294967296 win) hV;have hlt:=q4l (b:=4294967296) (by omega) m2;have hVl:=q4l (b:=4294967296) (by omega) hv;generalize hQ:vl 4294967296 win / vl 4294967296 v=Q at *
 generalize hRR:vl 4294967296 win%vl 4294967296 v=R at *
 have hgq:g=Q\/g=Q+1:=by
  have:g<Q+2:=by
   apply FN (a:=vl 4294967296 v);rw[AT,<- AB (vl 4294967296 v) Q];omega
  omega
 rw[m3]at hlt;rcases hgq with e | e
 ·subst e;rw[<- hW,AB]at m1;have hb:r.2=0:=by
   rcases Bt r.2 with q | q
   ·exact q
   ·have:r.2=1:=by omega
    rw[this,DQ,hl,Ay]at m1;rw[hl,Ay]at hlt;omega
  rw[hb,Cm,Ax]at m1;have hval:vl 4294967296 r.1=R:=by omega
  obtain⟨h,q1,q2,q3,q4⟩:=qij (n:=v.length) m2;exact .inl ⟨hb,rfl,h,q1,q2,q3,by omega⟩
 ·subst e;rw[<- hW,AT,AB,Ck]at m1;have hb:r.2=1:=by
   rcases Bt r.2 with q | q
   ·rw[q,Cm,Ax]at m1;omega
   ·omega
  rw[hb,DQ]at m1;obtain⟨a1,a2,a3⟩:=abL_ok qq r.1 v 0 (by omega) m2 hv (by omega);have hval:vl 4294967296 (abL 4294967296 r.1 v 0)=R:=by
   rw[<- a1,m3,Ax];have:vl 4294967296 r.1+vl 4294967296 v=R+4294967296^win.length:=by omega
   rw[this,Fz,Nat.mod_eq_of_lt];have:vl 4294967296 v<=4294967296^win.length:=by
    rw[hl];exact AZ (CV hVl) (AU (by omega) (by omega))
   omega
  obtain⟨h,q1,q2,q3,q4⟩:=qij (n:=v.length) a2;exact .inr ⟨hb,rfl,by omega,m2,h,q1,q2,q3,by omega⟩
theorem msL_one(B u g ca br:Nat):msL B [u] [] g ca br=([(B+u-ca%B-br)%B],if u<ca%B+br then 1 else 0):=rfl
theorem abL_one(B u c:Nat):abL B [u] [] c=[(u+c)%B]:=rfl
theorem abL_cons(B u y c:Nat)(us e:List Nat):abL B (u::us) (y::e) c=(u+y+c)%B::abL B us e ((u+y+c) / B):=rfl
theorem msL_cons(B u u' y g ca br:Nat)(us e:List Nat):msL B (u::u'::us) (y::e) g ca br=((B+u-(ca+g*y)%B-br)%B::(msL B (u'::us) e g ((ca+g*y) / B) (if u<(ca+g*y)%B+br then 1 else 0)).1,(msL B (u'::us) e g ((ca+g*y) / B) (if u<(ca+g*y)%B+br then 1 else 0)).2):=rfl
theorem ms_loop{n m0:Nat}{l0 l1:List FV}{s:Int}{v tl q:List Nat}{k g:Nat}(hv:Dg 4294967296 v)(hg:g<4294967296)(hkq:k<q.length)(hbig:k+v.length<=1099511627776):∀(e:List Nat) (i m:Nat) (pre us:List Nat) (ca br:Nat),v.drop i=e->i+e.length=v.length->e.length<m->pre.length=k+i->us.length=e.length+1->Dg 4294967296 us->ca<4294967296->br<=1->1<=n ->
  q13.l23 n [m0] m [.list 1 l0,.list 1 l1,.int .i64 (v.length:Int),.int .u64 s,L32 v,L32 (pre++(us++tl)),L32 q,.int .i64 (k:Int),.int .u64 (g:Int),.int .u32 (br:Int),.int .u64 (ca:Int),.int .i64 (v.length:Int),.int .i64 (i:Int)] =
   (bif((msL 4294967296 us e g ca br).2==0)then q13.l13 n [] m0 [.list 1 l0,.list 1 l1,.int .i64 (v.length:Int),.int .u64 s,L32 v,L32 (pre++((msL 4294967296 us e g ca br).1++tl)),L32 (q.set k g),.int .i64 ((k:Int)-1)]
    else q13.l35 n [m0] n [.list 1 l0,.list 1 l1,.int .i64 (v.length:Int),.int .u64 s,L32 v,L32 (pre++((msL 4294967296 us e g ca br).1++tl)),.list 1 (List.set ((q.set k g).map d32) k (.int .u32 (IntKind.wrap .u32 ((g:Int)-1)))),.int .i64 (k:Int),.int .u32 0,.int .i64 (v.length:Int),.int .i64 0]):=by
 intro e
 induction e with
 |nil =>
  intro i m pre us ca br hi hie hm hp hu hd hc hb hn;obtain⟨m,rfl⟩:=qSx m;obtain⟨n,rfl⟩:=qSx n;simp only[Bg,Ax,AG]at hie hu;obtain⟨u,rfl⟩:=FQ.1 hu;have hul:=hd u (by simp);rw[q13.l23_eq,Ad,Ab,q2q];have hlt:k+v.length<(pre++([u]++tl)).length:=by simp;omega
  simp only[Aa,q9 hlt,Ae];have e2:msL 4294967296 [u] [] g ca br=([(4294967296+u-ca-br)%4294967296],if u<ca+br then 1 else 0):=by rw[msL_one,AJ hc]
  rw[BR]at hlt;rw[BR,q49,qi,Ae,lo32,AJ hc,qiq hul hc hb,e2];generalize (4294967296+u-ca-br)%4294967296=D;generalize (if u<ca+br then 1 else 0)=bo;rw[Ae,Aj,AP,Aj,qi,qi,Ae,Ae,q9 hkq,Ae];rw[q60 (show pre.length=k+v.length by omega),lo32,AJ hg,ql];have e1:List.set (q.map d32) k (.int .u32 (g:Int))=(q.set k g).map d32:=by rw[List.map_set]
  rw[e1];have hkq2:k<(q.set k g).length:=by simpa using hkq
  have hat:at' ((q.set k g).map d32) k 0=some (.int .u32 (g:Int)):=by rw[q3x hkq2];simp
  rw[Aa,q9 hkq2,Ae,hat,qi,Ae,Ae];rw[show((bo:Int)==0)=(bo==0) by cases bo <;> rfl];simp only[BR]
 |cons y e ih =>
  intro i m pre us ca br hi hie hm hp hu hd hc hb hn;obtain⟨m,rfl⟩:=qSx m;obtain⟨n,rfl⟩:=qSx n;simp only[Aq]at hie hm hu;obtain⟨u,us',rfl⟩:∃h t,us=h::t:=by
   cases us with
   |nil=>simp at hu
   |cons h t=>exact⟨h,t,rfl⟩
  simp only[Aq]at hu;have hiv:i<v.length:=by omega
  have hy:v[i]=y/\v.drop (i+1)=e:=by
   rw[q1y hiv]at hi;cases hi;exact⟨rfl,rfl⟩
  have hyl:y<4294967296:=by rw[<- hy.1];exact hv _ (Ah hiv)
  obtain⟨hul,hd'⟩:=hd.tail;have hcl:=qbg hg hyl hc;rw[q13.l23_eq,Af,Ac,q2q];have hlt:k+i<(pre++(u::us'++tl)).length:=by simp;omega
  simp only[Aa,q9 hiv,q9 hlt,Ae,q3x hiv,qi,hy.1];have hgy:g*y<18446744073709551616:=by omega
  rw[Al,q49,qi,Ae,q1d (show y<18446744073709551616 by omega),qbi hgy,q7m,lo32,hi32,qiq hul (AK _ (by omega)) hb];simp only[Ae,Aj,AP,qi,<- Al];rw[Al,q60,qc (by omega)];have:=ih (i+1) m (pre++[(4294967296+u-(ca+g*y)%4294967296-br)%4294967296]) us' ((ca+g*y) / 4294967296) (if u<(ca+g*y)%4294967296+br then 1 else 0) hy.2 (by omega) (by omega) (by simp;omega) (by omega) hd' (BO (by omega)) (by split <;> omega) (by omega);rw[Ap]at this;refine this.trans ?_;cases us' with
  |nil=>simp at hu
  |cons u' us'' =>
   rw[msL_cons];generalize (4294967296+u-(ca+g*y)%4294967296-br)%4294967296=D;generalize msL 4294967296 (u'::us'') e g ((ca+g*y) / 4294967296) (if u<(ca+g*y)%4294967296+br then 1 else 0)=r;simp only[Ap,Al,Au]
theorem ab_loop{n m0:Nat}{l0 l1:List FV}{s:Int}{v tl:List Nat}{Q:List FV}{k:Nat}(hv:Dg 4294967296 v)(hbig:k+v.length<=1099511627776):∀(e:List Nat) (i m:Nat) (pre us:List Nat) (c:Nat),v.drop i=e->i+e.length=v.length->e.length<m->pre.length=k+i->us.length=e.length+1->Dg 4294967296 us->c<=1->1<=n ->
  q13.l35 n [m0] m [.list 1 l0,.list 1 l1,.int .i64 (v.length:Int),.int .u64 s,L32 v,L32 (pre++(us++tl)),.list 1 Q,.int .i64 (k:Int),.int .u32 (c:Int),.int .i64 (v.length:Int),.int .i64 (i:Int)] =
   q13.l13 n [] m0 [.list 1 l0,.list 1 l1,.int .i64 (v.length:Int),.int .u64 s,L32 v,L32 (pre++(abL 4294967296 us e c++tl)),.list 1 Q,.int .i64 ((k:Int)-1)]:=by
 intro e
 induction e with
 |nil =>
  intro i m pre us c hi hie hm hp hu hd hc hn;obtain⟨m,rfl⟩:=qSx m;simp only[Bg,Ax,AG]at hie hu;obtain⟨u,rfl⟩:=FQ.1 hu;have hul:=hd u (by simp);rw[q13.l35_eq,Ad,Ab,q2q];have hlt:k+v.length<(pre++([u]++tl)).length:=by simp;omega
  simp only[Aa,q9 hlt,Ae];rw[BR,q49,qi,Ae,qgl,lo32,q60,ql];rw[abL_one];generalize (u+c)%4294967296=D;simp only[BR]
 |cons y e ih =>
  intro i m pre us c hi hie hm hp hu hd hc hn;obtain⟨m,rfl⟩:=qSx m;obtain⟨n,rfl⟩:=qSx n;simp only[Aq]at hie hm hu;obtain⟨u,us',rfl⟩:∃h t,us=h::t:=by
   cases us with
   |nil=>simp at hu
   |cons h t=>exact⟨h,t,rfl⟩
  simp only[Aq]at hu;have hiv:i<v.length:=by omega
  have hy:v[i]=y/\v.drop (i+1)=e:=by
   rw[q1y hiv]at hi;cases hi;exact⟨rfl,rfl⟩
  have hyl:y<4294967296:=by rw[<- hy.1];exact hv _ (Ah hiv)
  obtain⟨hul,hd'⟩:=hd.tail;rw[q13.l35_eq,Af,Ac,q2q];have hlt:k+i<(pre++(u::us'++tl)).length:=by simp;omega
  simp only[Aa,q9 hiv,q9 hlt,Ae,q3x hiv,qi,hy.1];rw[Al,q49,qi,Ae,qr0,q1d (show u<18446744073709551616 by omega),q1d (show y<18446744073709551616 by omega),q1d (show c<18446744073709551616 by omega),q7m,q7m,lo32,hi32];have hc1:(u+y+c) / 4294967296<=1:=by
   have:=BO (m:=u+y+c) (n:=4294967296) (k:=2) (by omega);omega
  rw[lo32,AJ (show(u+y+c) / 4294967296<4294967296 by omega)];simp only[Ae,Aj,AP,qi,<- Al];rw[Al,q60,qc (by omega)];have:=ih (i+1) m (pre++[(u+y+c)%4294967296]) us' ((u+y+c) / 4294967296) hy.2 (by omega) (by omega) (by simp;omega) (by omega) hd' hc1 (by omega);rw[Ap]at this;refine this.trans ?_;rw[abL_cons];generalize (u+y+c)%4294967296=D;simp only[Ap,Al,Au]
end Rf
end
end
section
section
/- The program's nat by values, fifth part: long division put together, Gcd. -/
set_option maxHeartbeats 2000000
set_option maxRecDepth 10000
namespace Rf
open Go
theorem join64{a b:Nat}(ha:a<4294967296)(hb:b<4294967296):bitI .or .u64 (shI true .u64 (a:Int) 32) (b:Int)=((a*4294967296+b:Nat):Int):=by
 have:=qap .u64 a 32 (by decide);rw[show((32:Nat):Int)=32 from rfl]at this;rw[this,q1d,qbt,qe4]
theorem split3{l:List Nat}{p:Nat}(h:l.length=p+3):∃w a b c,l=w++[a,b,c]/\w.length=p:=by
 refine⟨l.take p,l[p],l[p+1],l[p+2],?_,by simp;omega⟩
 conv=>lhs;rw[<- Ca p l]
 congr 1;rw[Ba (by omega),Ba (by omega),Ba (by omega),AO (by omega)]
theorem aux_ltB(B a b r t u:Nat)(h:r+a=t)(h':r*B+u<b):t*B+u<a*B+b:=by
 subst h;rw[AT];omega
theorem aux_lt(a b r t u:Nat)(h:r+a=t)(h':r*4294967296+u<b):t*4294967296+u<a*4294967296+b:=aux_ltB 4294967296 a b r t u h h'
theorem qvu{n m0:Nat}{l0 l1 Q:List FV}{s:Int}{vlo lo w zs:List Nat}{p k v1 v2 u1 u2 u3 q:Nat}(hvl:vlo.length=p)(hwl:w.length=p)(hlo:lo.length=k)(hbig:k+p<=1099511627000)
  (h1:v1<4294967296) (h1':2147483648<=v1) (h2:v2<4294967296) (hu3:u3<4294967296)
  (hge:∀g,(u1*4294967296+u2)*4294967296+u3<g*(v1*4294967296+v2)->q<g):∀(d m g rest:Nat),4294967296<=rest+d*2147483648->d<m->rest+g*v1=u1*4294967296+u2->q<=g->g<4294967296->rest<18446744073709551616 ->
  ∃g',q<=g'/\g'<4294967296/\g'*(v1*4294967296+v2)<=(u1*4294967296+u2)*4294967296+u3 /\
   q13.l18 n [m0] m [.list 1 l0,.list 1 l1,.int .i64 ((p+2:Nat):Int),.int .u64 s,L32 (vlo++[v2,v1]),L32 (lo++((w++[u3,u2,u1])++zs)),.list 1 Q,.int .i64 (k:Int),.int .u64 (g:Int),.int .u64 (rest:Int)] =
    q13.l23 n [m0] n [.list 1 l0,.list 1 l1,.int .i64 ((p+2:Nat):Int),.int .u64 s,L32 (vlo++[v2,v1]),L32 (lo++((w++[u3,u2,u1])++zs)),.list 1 Q,.int .i64 (k:Int),.int .u64 (g':Int),.int .u32 0,.int .u64 0,.int .i64 ((p+2:Nat):Int),.int .i64 0]:=by
 intro d
 induction d with
 |zero =>
  intro m g rest hd hm hr hq hg hrl;obtain⟨m,rfl⟩:=qSx m;refine⟨g,hq,hg,?_,by rw[q13.q55,Ad,Ab]⟩;have e1:g*v2<=4294967295*4294967295:=Cz (by omega) (by omega);rw[AF,<- AV];omega
 |succ d ih =>
  intro m g rest hd hm hr hq hg hrl;obtain⟨m,rfl⟩:=qSx m;by_cases hb:rest<4294967296
  ·have e1:g*v2<=4294967295*4294967295:=Cz (by omega) (by omega);have av2:at' ((vlo++[v2,v1]).map d32) p 0=some (.int .u32 (v2:Int)):=q49 hvl;have av1:at' ((vlo++[v2,v1]).map d32) (p+1) 0=some (.int .u32 (v1:Int)):=by
    rw[show vlo++[v2,v1]=(vlo++[v2])++v1::[] by simp];exact q49 (by simp[hvl])
   have au3:at' ((lo++((w++[u3,u2,u1])++zs)).map d32) (k+p) 0=some (.int .u32 (u3:Int)):=by
    rw[show lo++((w++[u3,u2,u1])++zs)=(lo++w)++u3::(u2::u1::zs) by simp];exact q49 (by simp[hwl,hlo])
   have hvlen:((vlo++[v2,v1]).map d32).length=p+2:=by simp[hvl]
   have hulen:((lo++((w++[u3,u2,u1])++zs)).map d32).length=k+p+3+zs.length:=by simp[hlo,hwl];omega
   rw[q13.q55,Af,Ac,hvlen,hulen]
   rw[show w6 (((p+2:Nat):Int)-2)=((p:Nat):Int) by rw[ql];omega,q9,Ae,av2,qi,Ae,
    q2q,show w6 (((k+(p+2):Nat):Int)-2)=((k+p:Nat):Int) by rw[ql];omega,q9,Ae,au3,qi,Ae,
    q1d (show v2<18446744073709551616 by omega),qbi,q1d (show u3<18446744073709551616 by omega),join64 hb hu3]
   by_cases hc:rest*4294967296+u3<g*v2
   ·rw[Af,Ac,show w6 (((p+2:Nat):Int)-1)=((p+1:Nat):Int) by rw[ql];omega,q9,Ae,av1,qi,Ae];have hcc:(u1*4294967296+u2)*4294967296+u3<g*(v1*4294967296+v2):=by
     have e3:g*(v1*4294967296+v2)=g*v1*4294967296+g*v2:=by rw[AF,<- AV]
     exact Nat.lt_of_lt_of_eq (aux_lt (g*v1) (g*v2) rest (u1*4294967296+u2) u3 hr hc) e3.symm
    have hlt:q<g:=hge g hcc;have e2:(g-1)*v1+v1=g*v1:=by rw[<- De];congr 1;omega
    rw[show((g:Int)-1)=((g-1:Nat):Int) by omega,q1d (show g-1<18446744073709551616 by omega),q1d (show v1<18446744073709551616 by omega),q7m];exact ih m (g-1) (rest+v1) (by omega) (by omega) (by omega) (by omega) (by omega) (by omega)
   ·rw[Ad,Ab];refine⟨g,hq,hg,?_,rfl⟩;rw[AF,<- AV];omega
  ·refine⟨g,hq,hg,?_,by rw[q13.q55,Ad,Ab]⟩;have e1:g*v2<=4294967295*4294967295:=Cz (by omega) (by omega);rw[AF,<- AV];omega
theorem vl_three(w:List Nat)(a b c:Nat):vl 4294967296 (w++[a,b,c])=((c*4294967296+b)*4294967296+a)*4294967296^w.length+vl 4294967296 w:=by
 rw[q6e];simp only[vl,Cm,Ax];rw[AB (4294967296^w.length),Bn (vl 4294967296 w)];congr 2;omega
theorem vl_two(w:List Nat)(a b:Nat):vl 4294967296 (w++[a,b])=(b*4294967296+a)*4294967296^w.length+vl 4294967296 w:=by
 rw[q6e];simp only[vl,Cm,Ax];rw[AB (4294967296^w.length),Bn (vl 4294967296 w)];congr 2;omega
set_option maxHeartbeats 4000000 in
theorem div_loop{n:Nat}{l0 l1:List FV}{s:Int}{vlo:List Nat}{p v1 v2:Nat}(hvl:vlo.length=p)(hv:Dg 4294967296 (vlo++[v2,v1]))(h1':2147483648<=v1):∀(k' m:Nat) (lo hi zs qs:List Nat),lo.length=k'->k'+p<=1099511627000->p+6<=n->hi.length=p+2->Dg 4294967296 lo->Dg 4294967296 hi->vl 4294967296 hi<vl 4294967296 (vlo++[v2,v1])->k'<m ->
  ∃hf qf,hf.length=p+2/\Dg 4294967296 hf/\vl 4294967296 hf<vl 4294967296 (vlo++[v2,v1])/\qf.length=k'/\Dg 4294967296 qf/\vl 4294967296 lo+4294967296^k'*vl 4294967296 hi=vl 4294967296 hf+vl 4294967296 (vlo++[v2,v1])*vl 4294967296 qf /\
   q13.l13 n [] m [.list 1 l0,.list 1 l1,.int .i64 ((p+2:Nat):Int),.int .u64 s,L32 (vlo++[v2,v1]),L32 (lo++(hi++zs)),L32 (List.replicate k' 0++qs),.int .i64 ((k':Int)-1)] =
    q13.l42 n [] n [.list 1 l0,.list 1 l1,.int .u64 s,L32 (hf++(List.replicate k' 0++zs)),L32 (qf++qs),L32 (List.replicate (p+2) 0),.int .i64 ((p+2:Nat):Int),.int .i64 0]:=by
 intro k'
 induction k' with
 |zero =>
  intro m lo hi zs qs hlo hbig hn hhi hdl hdh hlt hm;obtain⟨m,rfl⟩:=qSx m;have:lo=[]:=BJ hlo;subst this;refine⟨hi,[],hhi,hdh,hlt,rfl,λd h=>by simp at h,by simp[vl],?_⟩;rw[q13.q7x,Ad,Ab,mk4,Ae,q1x (Ak _),Ae,rep0];simp only[Au,Cq]
 |succ k ih =>
  intro m lo hi zs qs hlo hbig hn hhi hdl hdh hlt hm;obtain⟨m,rfl⟩:=qSx m;obtain⟨lo',d,e⟩:=Dk lo |>.resolve_left (λq=>by rw[q]at hlo;simp at hlo);rw[EI]at e;subst e;have hlo':lo'.length=k:=by simpa using hlo
  have hd:d<4294967296:=hdl d (by simp);have hdl':Dg 4294967296 lo':=λx hx=>hdl x (by simp[hx]);obtain⟨w,u3,u2,u1,ew,hwl⟩:=split3 (l:=d::hi) (p:=p) (by simp[hhi]);have hdw:Dg 4294967296 (w++[u3,u2,u1]):=by rw[<- ew];exact Dg.cons hd hdh
  have hu3:u3<4294967296:=hdw u3 (by simp);have hu2:u2<4294967296:=hdw u2 (by simp);have hu1:u1<4294967296:=hdw u1 (by simp);have hv1:v1<4294967296:=hv v1 (by simp);have hv2:v2<4294967296:=hv v2 (by simp);have hdwl:Dg 4294967296 w:=λx hx=>hdw x (by simp[hx]);have hdvl:Dg 4294967296 vlo:=λx hx=>hv x (by simp[hx]);have hlw:=q4l (b:=4294967296) (by omega) hdwl;have hlv:=q4l (b:=4294967296) (by omega) hdvl;rw[hwl]at hlw;rw[hvl]at hlv;have hU:=vl_three w u3 u2 u1;have hV:=vl_two vlo v2 v1;rw[hwl]at hU;rw[hvl]at hV;have hW:vl 4294967296 (w++[u3,u2,u1])=d+4294967296*vl 4294967296 hi:=by rw[<- ew];rfl
  generalize hVV:vl 4294967296 (vlo++[v2,v1])=V at *
  generalize hWW:vl 4294967296 (w++[u3,u2,u1])=W at *
  have hP:=pow_pos' p;have hVpos:0<V:=by omega
  have hqd:=DG W V;have hqm:=AK W hVpos;have hqB:W / V<4294967296:=by
   rw[BP hVpos];omega
  have hqV:W / V*V<=W:=EF W V;generalize hq:W / V=q at *
  have htop:=guess_top (by omega:0<4294967296) hP hu3 hU hlw hV (by omega:0<v1) hqV;have hulen:((lo'++[d]++(hi++zs)).map d32).length=k+p+3+zs.length:=by simp[hlo',hhi];omega
  have hvlen:((vlo++[v2,v1]).map d32).length=p+2:=by simp[hvl]
  have eu:lo'++[d]++(hi++zs)=lo'++((w++[u3,u2,u1])++zs):=by rw[<- ew];simp
  have av1:at' ((vlo++[v2,v1]).map d32) (p+1) 0=some (.int .u32 (v1:Int)):=by
   rw[show vlo++[v2,v1]=(vlo++[v2])++v1::[] by simp];exact q49 (by simp[hvl])
  have au2:at' ((lo'++[d]++(hi++zs)).map d32) (k+p+1) 0=some (.int .u32 (u2:Int)):=by
   rw[eu,show lo'++((w++[u3,u2,u1])++zs)=(lo'++w++[u3])++u2::(u1::zs) by simp];exact q49 (by simp[hwl,hlo'];omega)
  have au1:at' ((lo'++[d]++(hi++zs)).map d32) (k+p+2) 0=some (.int .u32 (u1:Int)):=by
   rw[eu,show lo'++((w++[u3,u2,u1])++zs)=(lo'++w++[u3,u2])++u1::zs by simp];exact q49 (by simp[hwl,hlo'];omega)
  rw[q13.q7x,show(((k+1:Nat):Int)-1)=(k:Int) by omega,Af,Ac,hvlen,hulen,q2q,show k+(p+2)=k+p+2 by omega,q9,Ae,au1,qi,Ae,
   show w6 (((k+p+2:Nat):Int)-1)=((k+p+1:Nat):Int) by rw[ql];omega,q9,Ae,au2,qi,Ae,
   show w6 (((p+2:Nat):Int)-1)=((p+1:Nat):Int) by rw[ql];omega,q9,Ae,av1,qi,Ae,
   q1d (show v1<18446744073709551616 by omega),Ad,Ab,Ae,av1,qi,Ae,q1d (show v1<18446744073709551616 by omega),
   q1d (show u1<18446744073709551616 by omega),q1d (show u2<18446744073709551616 by omega),join64 hu1 hu2,show Int.tdiv (((u1*4294967296+u2:Nat)):Int) (v1:Int)=(((u1*4294967296+u2) / v1:Nat):Int) from rfl]
  have htl:(u1*4294967296+u2) / v1<=u1*4294967296+u2:=Dp _ _;have hmul:=EF (u1*4294967296+u2) v1;obtain⟨top,hT⟩:∃top,u1*4294967296+u2=top:=⟨_,rfl⟩;obtain⟨t,hG⟩:∃t,top / v1=t:=⟨_,rfl⟩;rw[hT,hG]at htl hmul htop;rw[hT,hG];rw[q1d (show t<18446744073709551616 by omega)];obtain⟨g,hg1,hg2,hg3,hg4⟩:∃g:Nat,(if(4294967295:Int)<(t:Int)then(4294967295:Int)else(t:Int))=(g:Int)/\g<4294967296/\q<=g/\g*v1<=top:=by
   by_cases hc:(4294967295:Int)<(t:Int)
   ·refine⟨4294967295,by rw[if_pos hc];rfl,by omega,by omega,?_⟩;exact AZ (AR _ (by omega)) hmul
   ·exact⟨t,by rw[if_neg hc],by omega,htop,hmul⟩
  rw[hg1,qbi,show((top:Nat):Int)-((g*v1:Nat):Int)=((top-g*v1:Nat):Int) by omega,q1d,eu];subst hT;obtain⟨g',k1,k2,k3,k4⟩:=qvu (n:=n) (m0:=m) (l0:=l0) (l1:=l1) (Q:=(List.replicate (k+1) 0++qs).map d32) (s:=s) (vlo:=vlo) (lo:=lo') (w:=w) (zs:=zs) (u1:=u1) (u2:=u2) (q:=q) hvl hwl hlo' (by omega) hv1 h1' hv2 hu3
   (λg hg=>guess_ge hP hU hlw hV hqV hg) 2 n g (u1*4294967296+u2-g*v1) (by omega) (by omega) (by omega) hg3 hg2 (by omega)
  rw[k4];have k5:=guess_le hU hV hlv (by omega:0<v1) k2 k3;have hdd:=div_digit (win:=w++[u3,u2,u1]) (v:=vlo++[v2,v1]) (g:=g') hdw hv (by simp[hwl,hvl]) k2 (by rw[hWW,hVV,hq];exact k1) (by rw[hWW,hVV];exact k5) (by rw[hVV];exact hVpos);rw[hWW,hVV,hq]at hdd;have hms:=ms_loop (n:=n) (m0:=m) (l0:=l0) (l1:=l1) (s:=s) (v:=vlo++[v2,v1]) (tl:=zs) (q:=List.replicate (k+1) 0++qs) (k:=k) (g:=g') hv k2 (by simp;omega) (by simp[hvl];omega) (vlo++[v2,v1]) 0 n lo' (w++[u3,u2,u1]) 0 0 rfl (by simp) (by simp[hvl];omega) (by omega) (by simp[hwl,hvl]) hdw (by omega) (by omega) (by omega);have hvl2:(vlo++[v2,v1]).length=p+2:=by simp[hvl]
  rw[hvl2]at hms;rw[show((0:Nat):Int)=0 from rfl]at hms;rw[hms];have hset:∀y,(List.replicate (k+1) 0++qs).set k y=List.replicate k 0++(y::qs):=λy=>by
   rw[DF,Ap,BR,qbf (by simp)]
  have goal:∀h:List Nat,h.length=p+2->Dg 4294967296 h->vl 4294967296 h=W%V ->
    ∃hf qf,hf.length=p+2/\Dg 4294967296 hf/\vl 4294967296 hf<V/\qf.length=k+1/\Dg 4294967296 qf/\vl 4294967296 (lo'++[d])+4294967296^(k+1)*vl 4294967296 hi=vl 4294967296 hf+V*vl 4294967296 qf /\
     q13.l13 n [] m [.list 1 l0,.list 1 l1,.int .i64 ((p+2:Nat):Int),.int .u64 s,L32 (vlo++[v2,v1]),L32 (lo'++(h++[0]++zs)),L32 (List.replicate k 0++(q::qs)),.int .i64 ((k:Int)-1)] =
      q13.l42 n [] n [.list 1 l0,.list 1 l1,.int .u64 s,L32 (hf++(List.replicate (k+1) 0++zs)),L32 (qf++qs),L32 (List.replicate (p+2) 0),.int .i64 ((p+2:Nat):Int),.int .i64 0]:=λh hh1 hh2 hh3=>by
   obtain⟨hf,qf,f1,f2,f3,f4,f5,f6,f7⟩:=ih m lo' h (0::zs) (q::qs) hlo' (by omega) hn hh1 hdl' hh2 (by omega) (by omega);refine⟨hf,qf++[q],f1,f2,f3,by simp[f4],f5.app (λx hx=>by simp at hx;omega),?_,?_⟩
   ·rw[qa6,qa6,hlo',f4];rw[hh3]at f6;have e1:4294967296^(k+1)*vl 4294967296 hi=4294967296^k*(4294967296*vl 4294967296 hi):=by rw[Ay,AV]
    have e2:4294967296^k*d+4294967296^k*(4294967296*vl 4294967296 hi)=4294967296^k*W:=by rw[<- AF,hW]
    have e3:4294967296^k*W=4294967296^k*(V*q)+4294967296^k*(W%V):=by rw[<- AF,hqd]
    have e4:V*(4294967296^k*q)=4294967296^k*(V*q):=by rw[DS]
    rw[e1,AF,e4];omega
   ·rw[show h++[0]++zs=h++(0::zs) by simp,f7,show List.replicate (k+1) (0:Nat)=List.replicate k 0++[0] from DF];simp only[Ap,BR]
  rcases hdd with⟨r0,rg,h,ra,rb,rc,rd⟩ | ⟨r0,rg,rl,rdg,h,ra,rb,rc,rd⟩
  ·rw[r0,ra,hset,rg,show((0:Nat)==0)=true from rfl,Ac];exact goal h (by rw[rb,hvl2]) rc rd
  ·have hab:=ab_loop (n:=n) (m0:=m) (l0:=l0) (l1:=l1) (s:=s) (v:=vlo++[v2,v1]) (tl:=zs) (Q:=List.set (((List.replicate (k+1) 0++qs).set k g').map d32) k (.int .u32 (IntKind.wrap .u32 ((g':Int)-1)))) (k:=k) hv (by rw[hvl2];omega) (vlo++[v2,v1]) 0 n lo' (msL 4294967296 (w++[u3,u2,u1]) (vlo++[v2,v1]) g' 0 0).1 0 rfl (by simp) (by rw[hvl2];omega) (by omega) (by rw[rl]) rdg (by omega) (by omega);rw[hvl2]at hab;rw[show((0:Nat):Int)=0 from rfl]at hab;rw[r0,show((1:Nat)==0)=false from rfl,Ab,hab,ra,hset,rg,show(((q+1:Nat):Int)-1)=(q:Int) by omega,q6r hqB];have hs2:List.set ((List.replicate k 0++(q+1)::qs).map d32) k (FV.int .u32 (q:Int))=(List.replicate k 0++q::qs).map d32:=q60 (by simp);rw[hs2];exact goal h (by rw[rb,hvl2]) rc rd
end Rf
end
section
set_option maxHeartbeats 2000000
set_option maxRecDepth 10000
namespace Rf
open Go
theorem shrL_cons(B s u0 u1:Nat)(t:List Nat):shrL B s (u0::u1::t)=((u1*B+u0) / 2^s)%B::shrL B s (u1::t):=rfl
theorem shrL_one(B s u0:Nat):shrL B s [u0]=[]:=rfl
theorem fin_loop{n:Nat}{l0 l1:List FV}{s nn:Nat}{u q:List Nat}(hu:Dg 4294967296 u)(hs:s<32)(hnu:nn+1<=u.length)(hbig:u.length<=1099511627776)(hq:q.length<=1099511627776)(hn:nn+q.length+3<=n):∀(d i m:Nat) (pre:List Nat),i+d=nn->d<m->pre.length=i ->
  q13.l42 n [] m [.list 1 l0,.list 1 l1,.int .u64 (s:Int),L32 u,L32 q,L32 (pre++List.replicate d 0),.int .i64 (nn:Int),.int .i64 (i:Int)] =
   some [L32 (tz q),L32 (tz (pre++shrL 4294967296 s ((u.drop i).take (d+1)))),.int .i64 0]:=by
 intro d
 induction d with
 |zero =>
  intro i m pre hi hm hp;obtain⟨m,rfl⟩:=qSx m;obtain⟨n,rfl⟩:=qSx n;have hiu:i<u.length:=by omega
  rw[q13.l42_eq,Ad,Ab,q90,Cq,AN,q1y hiu,q90];rw[show List.take (0+1) (u[i]::u.drop (i+1))=[u[i]] from rfl,shrL_one,AN];simp only[Ae,Aj,qy]
 |succ d ih =>
  intro i m pre hi hm hp;obtain⟨m,rfl⟩:=qSx m;have hiu:i<u.length:=by omega
  have hiu1:i+1<u.length:=by omega
  have h0:=hu u[i] (Ah hiu);have h1:=hu u[i+1] (Ah hiu1);have hlt:i<(pre++List.replicate (d+1) 0).length:=by simp;omega
  rw[q13.l42_eq,Af,Ac,qc (by omega),Aa,q9 hiu1,Ae,q3x hiu1,qi,Ae,q9 hiu,Ae,q3x hiu,qi,Ae,
   Ad,Ab,Aa,q9 hlt,Ae,q1d (show u[i+1]<18446744073709551616 by omega),q1d (show u[i]<18446744073709551616 by omega),join64 h1 h0,qbs .u64 _ s (by show s<=64;omega),lo32,
   Cg,q60 hp]
  have:=ih (i+1) m (pre++[(u[i+1]*4294967296+u[i]) / 2^s%4294967296]) (by omega) (by omega) (by simp[hp]);rw[Ap,BR]at this;refine this.trans ?_;have ed:(u.drop i).take (d+1+1)=u[i]::u[i+1]::(u.drop (i+1+1)).take d:=by rw[q1y hiu,q1y hiu1,Ft,Ft]
  have ed1:(u.drop (i+1)).take (d+1)=u[i+1]::(u.drop (i+1+1)).take d:=by rw[q1y hiu1,Ft]
  rw[ed,ed1,shrL_cons,Ap,BR]
theorem shlL_v{y:Nat}{l:List Nat}{d:Nat}(hy:dg 4294967296 y=l++[d])(hd:d≠0)(hdl:d<4294967296):y*2^(32-bl d)<4294967296^(l.length+1)/\2147483648*4294967296^l.length<=y*2^(32-bl d):=by
 obtain⟨b1,b2,b3⟩:=qf3 hd;have b4:=bl_le (x:=d) (k:=32) (by omega);have hv:=q23 qq y;rw[hy,qa6]at hv;have hl:=q4l (b:=4294967296) (by omega) (show Dg 4294967296 l from λx hx=>q12 qq y x (by rw[hy];simp[hx]));have e1:2^bl d*2^(32-bl d)=4294967296:=by rw[<- Cd,show bl d+(32-bl d)=32 by omega]
 have e2:2^(bl d-1)*2^(32-bl d)=2147483648:=by rw[<- Cd,show bl d-1+(32-bl d)=31 by omega]
 have hp:0<2^(32-bl d):=Bz (by omega);constructor
 ·have h1:y<4294967296^l.length*(d+1):=by rw[Cc];omega
  have h2:(d+1)*2^(32-bl d)<=4294967296:=by rw[<- e1];exact AR _ b2
  calc y*2^(32-bl d)<4294967296^l.length*(d+1)*2^(32-bl d):=Fu h1 hp
   _=4294967296^l.length*((d+1)*2^(32-bl d)):=AV _ _ _
   _<=4294967296^l.length*4294967296:=BB _ h2
   _=4294967296^(l.length+1):=(Ay _ _).symm
 ·have h1:4294967296^l.length*d<=y:=by omega
  calc 2147483648*4294967296^l.length=4294967296^l.length*(2^(bl d-1)*2^(32-bl d)):=by rw[e2,AB]
   _<=4294967296^l.length*(d*2^(32-bl d)):=BB _ (AR _ b1)
   _=4294967296^l.length*d*2^(32-bl d):=(AV _ _ _).symm
   _<=y*2^(32-bl d):=AR _ h1
theorem unshift{x y s R Q:Nat}(h:x*2^s=R+y*2^s*Q)(hR:R<y*2^s):x / y=Q/\x%y=R / 2^s:=by
 have hp:0<2^s:=Bz (by omega);have e1:y*2^s*Q=y*Q*2^s:=by rw[AV,AB (2^s),<- AV]
 have h1:y*Q<=x:=by
  apply Nat.le_of_mul_le_mul_right _ hp;omega
 have h2:R=(x-y*Q)*2^s:=by rw[Nat.sub_mul];omega
 have h3:x-y*Q<y:=by
  apply FN (a:=2^s);omega
 rw[h2,Nat.mul_div_cancel _ hp];have hx:x=y*Q+(x-y*Q):=by omega
 generalize x-y*Q=r at *
 have hy:0<y:=by omega
 subst hx;exact⟨by rw[EQ hy,CU h3,Ax],by rw[Ed,AJ h3]⟩
theorem split2{l:List Nat}{p:Nat}(h:l.length=p+2):∃w a b,l=w++[a,b]/\w.length=p:=by
 refine⟨l.take p,l[p],l[p+1],?_,by simp;omega⟩
 conv=>lhs;rw[<- Ca p l]
 congr 1;rw[Ba (by omega),Ba (by omega),AO (by omega)]
set_option maxHeartbeats 4000000 in
theorem qvv{x y p:Nat}{l:List Nat}{d:Nat}(hy:dg 4294967296 y=l++[d])(hl:l.length=p+1)(hd:d≠0)(hdl:d<4294967296)(hyx:y<=x)(hx:(dg 4294967296 x).length<=549755813000) :
  Ev En 203 [L32 (dg 4294967296 x),L32 (dg 4294967296 y)] [L32 (dg 4294967296 (x / y)),L32 (dg 4294967296 (x%y)),.int .i64 0]:=by
 have hlen:(dg 4294967296 y).length=p+2:=by rw[hy];simp[hl]
 have hxy:p+2<=(dg 4294967296 x).length:=by
  rw[<- hlen];apply Dj;intro hlt;have:=qac qq hlt;omega
 obtain⟨n1,h1⟩:=qa4 (x:=x) (y:=y) (by omega) (by omega);refine Ev.of (n1+(dg 4294967296 x).length+p+20) λn hn=>?_;obtain⟨n,rfl⟩:∃k,n=k+2:=⟨n-2,by omega⟩;obtain⟨c1,c2⟩:=shlL_v hy hd hdl;obtain⟨b1,b2,b3⟩:=qf3 hd;have b4:=bl_le (x:=d) (k:=32) (by omega);obtain⟨s,hs⟩:∃s,32-bl d=s:=⟨_,rfl⟩;rw[hs]at c1 c2;have hs32:s<32:=by omega
 have dy:=q12 qq y;have dx:=q12 qq x;have hvs:=qii (B:=4294967296) (s:=s) (dg 4294967296 y) 0;rw[q23 qq,Ax]at hvs;have hus:=qii (B:=4294967296) (s:=s) (dg 4294967296 x) 0;rw[q23 qq,Ax]at hus;obtain⟨v,hv1,hv2,hv3,hv4⟩:=qij (n:=p+2) (qik hs32 (dg 4294967296 y) 0 dy (Bz (by omega))) (by rw[qil,hlen]) (by rw[hvs,show p+2=l.length+1 by omega];exact c1);rw[hvs]at hv4;obtain⟨vlo,v2,v1,ev,hvl⟩:=split2 hv2;subst ev;have hv1b:2147483648<=v1:=by
  have hlt:=q4l (b:=4294967296) (by omega) (show Dg 4294967296 (vlo++[v2]) from λz hz=>hv3 z (by simp at hz ⊢;rcases hz with q | q <;> simp[q]));have e:vl 4294967296 (vlo++[v2,v1])=vl 4294967296 (vlo++[v2])+4294967296^(p+1)*v1:=by
   rw[show vlo++[v2,v1]=(vlo++[v2])++[v1] by simp,qa6];simp[hvl]
  rw[show(vlo++[v2]).length=p+1 by simp[hvl]]at hlt;rw[hl]at c2;rw[hv4]at e;apply Dj;intro hc;have:4294967296^(p+1)*(v1+1)<=4294967296^(p+1)*2147483648:=BB _ hc;rw[Cc,AB _ 2147483648]at this;omega
 have hud:=qik hs32 (dg 4294967296 x) 0 dx (Bz (by omega));have hul:=qil (s:=s) (dg 4294967296 x) 0;obtain⟨k',hk'⟩:∃k',(dg 4294967296 x).length+1=k'+(p+2):=⟨(dg 4294967296 x).length-p-1,by omega⟩;have hk0:1<=k':=by omega
 generalize hu:shlL 4294967296 s (dg 4294967296 x) 0=u at *
 have hlo:(u.take k').length=k':=by simp;omega
 have hhi:(u.drop k').length=p+2:=by simp;omega
 have hsum:vl 4294967296 (u.take k')+4294967296^k'*vl 4294967296 (u.drop k')=x*2^s:=by
  rw[<- hus]
  conv=>rhs;rw[<- Ca k' u,q6e,hlo]
 have hxlt:x<4294967296^(dg 4294967296 x).length:=q9c qq x;have hlt:vl 4294967296 (u.drop k')<vl 4294967296 (vlo++[v2,v1]):=by
  rw[hv4];apply Nat.lt_of_not_le;intro hc;rw[hl]at c2;have i1:4294967296^k'*(2147483648*4294967296^(p+1))<=x*2^s:=AZ (BB _ (AZ c2 hc)) (by omega);have i2:4294967296^k'*(2147483648*4294967296^(p+1))=4294967296^(dg 4294967296 x).length*2147483648:=by
   rw[DS,<- Cd,AB,show k'+(p+1)=(dg 4294967296 x).length by omega]
  have i3:x*2^s<4294967296^(dg 4294967296 x).length*2147483648:=by
   have:2^s<=2^31:=AU (by omega) (by omega)
   calc x*2^s<=x*2^31:=BB _ this
    _<4294967296^(dg 4294967296 x).length*2^31:=Fu hxlt (by omega)
  rw[i2]at i1;exact absurd i3 (Nat.not_lt.2 i1)
 obtain⟨hf,qf,f1,f2,f3,f4,f5,f6,f7⟩:=div_loop (n:=n+2) (l0:=[]) (l1:=[]) (s:=(s:Int)) hvl hv3 hv1b k' (n+2) (u.take k') (u.drop k') [] [] hlo (by omega) (by omega) hhi (λz hz=>hud z (CJ hz)) (λz hz=>hud z (CA hz)) hlt (by omega);rw[hsum,hv4]at f6;rw[hv4]at f3;obtain⟨g1,g2⟩:=unshift f6 f3;rw[AN,AN,AN,Ca]at f7;have hdlast:at' ((dg 4294967296 y).map d32) (p+1) 0=some (.int .u32 (d:Int)):=by rw[hy];exact q49 hl
 rw[qgn,Aa,hlen,show((((p+2:Nat)):Int)==0)=false by simp;omega,Ab,h1 _ (by omega),Ae,Aj,qi,Ae,
  Ad (by unfold cmpN;rw[if_neg (by omega)];split <;> omega),Ab,show((((p+2:Nat)):Int)==1)=false by simp;omega,Ab,
  show w6 (((p+2:Nat):Int)-1)=((p+1:Nat):Int) by rw[ql];omega,q9,Ae,hdlast,qi,Ae,qqy,qnk hdl,Ae,Aj,qi,Ae,
  show w6 (32-((bl d:Nat):Int))=(s:Int) by rw[ql];omega,Ae,Aj,qi,Ae,q1d (show s<18446744073709551616 by omega),
  qnl dy hs32,Ae,Aj,qy,Ae,qnl dx hs32]
 rw[hv1,hu];have hvw:(Rf.viewOf Option.none (((vlo++[v2,v1]++[0]).map d32).length))=(0,p+3):=by
  show((0:Nat),((vlo++[v2,v1]++[0]).map d32).length)=_;simp[hvl]
 rw[hvw]
 rw[q1x (show p+2<=p+3 by omega),Ae,Ae,Aj,qy,Ae,Aa,hul,hk',
  show w6 (((k'+(p+2):Nat):Int)-((p+2:Nat):Int))=(k':Int) by rw[ql];omega,mk4,Ae,q1x (Ak _),Ae,rep0,Aa,Db]
 have e7:List.take (p+2-0) (List.drop (((0:Nat),p+3).fst+0) ((vlo++[v2,v1]++[0]).map d32))=(vlo++[v2,v1]).map d32:=by
  rw[show(((0:Nat),p+3).fst+0)=0 from rfl,Av,Ek,AW,DZ (by simp[hvl]),CT (by simp[hvl])]
 rw[e7];rw[show w6 ((k':Int)-1)=(k':Int)-1 from ql,f7];have hhead:(hf++List.replicate k' 0).take (p+2+1)=hf++[0]:=by
  obtain⟨k,rfl⟩:∃k,k'=k+1:=⟨k'-1,by omega⟩;rw[Cg,show hf++0::List.replicate k 0=(hf++[0])++List.replicate k 0 by simp,DZ (by simp[f1]),CT (by simp[f1])]
 have hfl:=fin_loop (n:=n+2) (l0:=[]) (l1:=[]) (s:=s) (nn:=p+2) (u:=hf++List.replicate k' 0) (q:=qf) (f2.app (λz hz=>by have:=CI hz;omega)) hs32 (by simp[f1];omega) (by simp[f1];omega) (by omega) (by omega) (p+2) 0 (n+2) [] (by omega) (by omega) rfl;rw[Au,Au,Av,hhead,show((0:Nat):Int)=0 from rfl]at hfl;rw[hfl];have eB:2^(32-s+s)=4294967296:=by rw[show 32-s+s=32 by omega]
 obtain⟨hz,t,eh⟩:∃a t,hf=a::t:=by
  cases hf with
  |nil=>simp at f1
  |cons a t=>exact⟨a,t,rfl⟩
 have hsh:=shrL_ok (K:=32-s) (s:=s) (t++[0]) hz (by rw[eB,<- Al,<- eh];exact f2.app (λz hz=>by simp at hz;omega));rw[eB,<- Al,<- eh]at hsh;obtain⟨s1,s2,s3⟩:=hsh;rw[qa6,Cm,Ax]at s3;have hRlt:vl 4294967296 hf / 2^s<4294967296^(t++[0]).length:=by
  have i1:=q4l (b:=4294967296) (by omega) f2;rw[eh]at i1;refine BK (Dp _ _) ?_;rw[eh];simpa using i1
 rw[AJ hRlt]at s3;rw[g1,g2,s3,q3b qq s1,<- q3b qq f5]
theorem qn1{x y:Nat}(hy0:y≠0)(hx:(dg 4294967296 x).length<=549755813000)(hyl:(dg 4294967296 y).length<=549755813000) :
  Ev En 203 [L32 (dg 4294967296 x),L32 (dg 4294967296 y)] [L32 (dg 4294967296 (x / y)),L32 (dg 4294967296 (x%y)),.int .i64 0]:=by
 obtain⟨l,d,hy,hd,hdl⟩:=qim hy0;have hlen:(dg 4294967296 y).length=l.length+1:=by rw[hy];simp
 by_cases hlt:x<y
 ·obtain⟨n1,h1⟩:=qa4 (x:=x) (y:=y) (by omega) (by omega);refine Ev.of n1 λn hn=>?_
  rw[qgn,Aa,hlen,show((((l.length+1:Nat)):Int)==0)=false by simp;omega,Ab,h1 _ (by omega),Ae,Aj,qi,Ae,
   Af (by unfold cmpN;rw[if_pos hlt];omega),Ac,CU hlt,AJ hlt,q18]
  rfl
 ·cases hp:l.length with
  |zero =>
   have:l=[]:=BJ hp;subst this;rw[Au]at hy;have hv:=q23 qq y;rw[hy]at hv;simp only[vl,Cm,Ax]at hv;subst hv;obtain⟨n1,h1⟩:=qa4 (x:=x) (y:=d) (by omega) (by omega);obtain⟨n2,h2⟩:=qnm (x:=x) (k:=d) (by omega) hdl (by omega);obtain⟨n3,h3⟩:=qi2 (x:=x%d) (by have:=AK x (show 0<d by omega);omega);have hml:=AK x (show 0<d by omega);refine Ev.of (n1+n2+n3) λn hn=>?_
   rw[qgn,Aa,h1 _ (by omega),hy,show((([d].length:Nat):Int)==0)=false from rfl,Ab,Ae,Aj,qi,Ae,
    Ad (by unfold cmpN;rw[if_neg hlt];split <;> omega),Ab,show((([d].length:Nat):Int)==1)=true from rfl,Ac,show ix 0 [d].length=some 0 from rfl,Ae,show at' ([d].map d32) 0 0=some (.int .u32 (d:Int)) from rfl,qi,Ae,
    h2 _ (by omega),Ae,Aj,qy,Ae,AP,Aj,qi,Ae,q1d,h3 _ (by omega),Ae,Aj,qy,Ae]
  |succ p=>exact qvv (p:=p) hy hp hd hdl (by omega) hx
theorem word_gcd{n m0:Nat}{l0:List FV}:∀(y x m:Nat),y<m->q3o.l4 n [m0] m [.list 1 l0,.int .u64 (x:Int),.int .u64 (y:Int)]=(evF En n 204 [.int .u64 ((Nat.gcd x y:Nat):Int)]).bind λr0=>(asLst 1 (r0[0]?)).bind λv1=>some [.list 1 v1]:=by
 intro y
 induction y using Nat.strongRecOn with
 |_ y ih =>
  intro x m hm;obtain⟨m,rfl⟩:=qSx m;rw[q3o.q14];rcases Bt y with h0 | h0
  ·subst h0;rw[Ad,Ab,Eb]
  ·have hlt:=AK x h0;rw[Af,Ac,Ad,Ab,show Int.tmod (x:Int) (y:Int)=((x%y:Nat):Int) from rfl,ih (x%y) hlt y m (by omega),CB y,<- Ec,CB]
theorem qnn{x:Nat}(h:(dg 4294967296 x).length<=2):x<18446744073709551616:=by
 have h1:=q9c qq x;have h2:4294967296^(dg 4294967296 x).length<=4294967296^2:=AU (by omega) h;omega
theorem qf4{x y:Nat}(h:x<=y):(dg 4294967296 x).length<=(dg 4294967296 y).length:=by
 apply Dj;intro hlt;have:=qac qq hlt;omega
theorem gcd_loop:∀(y x:Nat),(dg 4294967296 x).length<=549755813000->(dg 4294967296 y).length<=549755813000->∃n0,∀n m l2,n0<=n->n0<=m ->
  q3o.l1 n [] m [L32 (dg 4294967296 x),L32 (dg 4294967296 y),.list 1 l2]=some [L32 (dg 4294967296 (Nat.gcd x y))]:=by
 intro y
 induction y using Nat.strongRecOn with
 |_ y ih =>
  intro x hx hy;rcases Bt y with h0 | h0
  ·subst h0;refine⟨1,λn m l2 hn hm=>?_⟩;obtain⟨m,rfl⟩:=qSx m;rw[q3o.q32,Aa,q18,Ad (by simp),Ab,Eb]
  ·have hlt:=AK x h0;have hl0:0<(dg 4294967296 y).length:=by
    rcases Bt (dg 4294967296 y).length with q | q
    ·have:=(q52 qq).1 (BJ q);omega
    ·exact q
   by_cases hw:(dg 4294967296 x).length<=2/\(dg 4294967296 y).length<=2
   ·have sx:=qnn hw.1;have sy:=qnn hw.2;have hg:Nat.gcd x y<18446744073709551616:=BK (Nat.gcd_le_right x h0) sy;obtain⟨n1,h1⟩:=qno sx;obtain⟨n2,h2⟩:=qno sy;obtain⟨n3,h3⟩:=qi2 hg;refine⟨n1+n2+n3+y+1,λn m l2 hn hm=>?_⟩;obtain⟨m,rfl⟩:=qSx m
    rw[q3o.q32,Aa,Aa,Af,Ac,Af,Ac,Af,Ac,h1 _ (by omega),Ae,Aj,qi,Ae,
     h2 _ (by omega),Ae,Aj,qi,Ae,word_gcd y x n (by omega),h3 _ (by omega),Ae,Aj,qy,Ae]
   ·obtain⟨n1,h1⟩:=qn1 (x:=x) (y:=y) (by omega) hx hy;have hm1:=qf4 (CV hlt);obtain⟨n2,h2⟩:=ih (x%y) hlt y hy (by omega);refine⟨n1+n2+1,λn m l2 hn hm=>?_⟩;obtain⟨m,rfl⟩:=qSx m;have key:∀l2,(evF En n 203 [L32 (dg 4294967296 x),L32 (dg 4294967296 y)]).bind (λr4=>(asLst 1 (r4[0]?)).bind λv5=>(asLst 1 (r4[1]?)).bind λv6=>(asInt .i64 (r4[2]?)).bind λn7=>q3o.l1 n [] m [L32 (dg 4294967296 y),.list 1 v6,.list 1 l2])=some [L32 (dg 4294967296 (Nat.gcd x y))]:=λl2=>by
     rw[h1 _ (by omega),Ae,Aj,qy,Ae,AP,Aj,qy,Ae,AP,AP,Aj,qi,Ae,h2 n m l2 (by omega) (by omega),CB y,<- Ec,CB]
    rw[q3o.q32,Aa,Aa,Af,Ac];by_cases ha:(dg 4294967296 x).length<=2
    ·rw[Af,Ac,Ad,Ab];exact key l2
    ·rw[Ad,Ab];exact key l2
theorem natGcd_ev{x y:Nat}(hx:(dg 4294967296 x).length<=549755813000)(hy:(dg 4294967296 y).length<=549755813000):Ev En 219 [L32 (dg 4294967296 x),L32 (dg 4294967296 y)] [L32 (dg 4294967296 (Nat.gcd x y))]:=by
 obtain⟨n0,h⟩:=gcd_loop y x hx hy;refine Ev.of n0 λn hn=>?_;rw[qqv];exact h n n [] hn hn
end Rf
end
section
set_option maxHeartbeats 2000000
set_option maxRecDepth 10000
namespace Rf
open Go
theorem setS{pre:List (List UInt8)}{x y:List UInt8}{r:List (List UInt8)}{i:Nat}(h:pre.length=i):List.set ((pre++x::r).map sF) i (.str (txt y))=(pre++y::r).map sF:=by
 rw[AW,AM,qbf (by simpa using h)];simp[sF]
theorem midS{pre:List (List UInt8)}{x:List UInt8}{r:List (List UInt8)}{i:Nat}(h:pre.length=i):at' ((pre++x::r).map sF) i 0=some (.str (txt x)):=by
 subst h;rw[q28,CS (Ak _),Cp];rfl
theorem rev_loop{n:Nat}:∀(k m:Nat) (a mid b:List (List UInt8)),mid.length<=k->mid.length<m->(a++mid++b).length<=9000000000000 ->
  q81.l1 n [] m [.list 1 ((a++mid++b).map sF),.int .i64 (a.length:Int),.int .i64 ((a.length:Int)+(mid.length:Int)-1)]=some [.list 1 ((a++mid.reverse++b).map sF)]:=by
 intro k
 induction k with
 |zero =>
  intro m a mid b hk hm hl;obtain⟨m,rfl⟩:=qSx m;have:mid=[]:=BJ (by omega);subst this;rw[q81.q32,Ad (by simp;omega),Ab];rfl
 |succ k ih =>
  intro m a mid b hk hm hl;obtain⟨m,rfl⟩:=qSx m;cases mid with
  |nil=>rw[q81.q32,Ad (by simp;omega),Ab];rfl
  |cons x mid =>
   rcases Dk mid with rfl | ⟨mid',y,e⟩
   ·rw[q81.q32,Ad (by simp),Ab];rfl
   ·rw[EI]at e;subst e;simp only[Bc,Aq,Bg]at hk hm hl;have e1:a++x::(mid'++[y])++b=(a++x::mid')++y::b:=by simp
    have e2:a++x::(mid'++[y])++b=a++x::(mid'++y::b):=by simp
    have hj:(a.length:Int)+((x::(mid'++[y])).length:Int)-1=((a.length+mid'.length+1:Nat):Int):=by simp;omega
    have hlen:((a++x::(mid'++[y])++b).map sF).length=a.length+mid'.length+2+b.length:=by simp;omega
    have h1:at' ((a++x::(mid'++[y])++b).map sF) (a.length+mid'.length+1) 0=some (.str (txt y)):=by rw[e1];exact midS (by simp;omega)
    have h2:at' ((a++x::(mid'++[y])++b).map sF) a.length 0=some (.str (txt x)):=by rw[e2];exact midS rfl
    have s1:List.set ((a++x::(mid'++[y])++b).map sF) a.length (.str (txt y))=((a++y::mid')++y::b).map sF:=by rw[e2,setS rfl];simp
    have s2:List.set (((a++y::mid')++y::b).map sF) (a.length+mid'.length+1) (.str (txt x))=((a++y::mid')++x::b).map sF:=setS (by simp;omega);have hlen2:(((a++y::mid')++y::b).map sF).length=a.length+mid'.length+2+b.length:=by simp;omega
    rw[hj,q81.q32,Af,Ac,hlen,q9,Ae,h1,q2n,Ae,q9,Ae,h2,q2n,Ae,Ae,s1,hlen2,q9,Ae,s2,qc (by omega),
     show w6 (((a.length+mid'.length+1:Nat):Int)-1)=((a.length+mid'.length:Nat):Int) by rw[ql];omega]
    have:=ih m (a++[y]) mid' (x::b) (by omega) (by omega) (by simp;omega);have e3:((a++[y]).length:Int)+(mid'.length:Int)-1=((a.length+mid'.length:Nat):Int):=by simp;omega
    have e4:((a++[y]).length:Int)=((a.length+1:Nat):Int):=by simp
    rw[e3,e4]at this;rw[show(a++y::mid')++x::b=a++[y]++mid'++x::b by simp,this];simp
theorem qvw{n:Nat}{P:List (List UInt8)}(h:P.length<=9000000000000)(hn:P.length<n):evF En (n+1) 208 [.list 1 (P.map sF)]=some [.list 1 (P.reverse.map sF)]:=by
 rw[qsb,Aa,show w6 ((P.length:Int)-1)=(P.length:Int)-1 from ql];have:=rev_loop (n:=n) P.length n [] P [] (by omega) (by omega) (by simpa using h);simpa using this
theorem qvx{n x:Nat}(h:x<1000000000000):evF En (n+1) 206 [.int .u64 (x:Int),.int .i64 10]=some [sF (qk x)]:=by
 show formatExt [.int .u64 (x:Int),.int .i64 10]=_;simp only[formatExt];rw[if_pos ⟨by omega,by omega,trivial⟩,Bi]
theorem qvy{n k:Nat}(h:k<=9):evF En (n+1) 207 [.str { data:=#[48] },.int .i64 (k:Int)]=some [sF (List.replicate k 48)]:=by
 show repeatExt [.str { data:=#[48] },.int .i64 (k:Int)]=_;simp only[repeatExt];rw[if_pos ⟨trivial,by omega,by omega⟩,Bi]
theorem join_run{n:Nat}{P:List (List UInt8)}(h:P.length<=1099511627776)(h':P.flatten.length<=1099511627776):evF En (n+1) 209 [.list 1 (P.map sF),.str { data:=#[] }]=some [sF P.flatten]:=by
 show joinExt [.list 1 (P.map sF),.str { data:=#[] }]=_;have e:(P.map sF).map byts=P:=by
  rw[BY]
  conv=>rhs;rw[<- Es P]
  congr 1
 simp only[joinExt];rw[e,if_pos ⟨trivial,by simp[q6m],by simpa using h,h'⟩]
theorem qnp{n:Nat}{l:List UInt8}(h:l.length<=1099511627776:=by omega):evF En (n+1) 248 [.str (txt l),.str { data:=#[48,49,50,51,52,53,54,55,56,57] }]=some [sF (q8l l dgts)]:=by
 show trimExt [.str (txt l),.str { data:=#[48,49,50,51,52,53,54,55,56,57] }]=_;simp only[trimExt];rw[q6l,if_pos ⟨rfl,h⟩]
theorem parse_run{n:Nat}{l:List UInt8}(h0:l≠[])(h9:l.length<=9)(hd:∀c,c∈l->isD c=true):evF En (n+1) 249 [.str (txt l),.int .i64 10,.int .i64 32]=some [.int .u64 ((vD l:Nat):Int),.raw .nilIface]:=by
 show parseExt [.str (txt l),.int .i64 10,.int .i64 32]=_;simp only[parseExt];rw[q6l,if_pos ⟨h0,h9,At.2 hd,trivial,trivial⟩]
theorem ixB_in:∀ {l:List UInt8},47∈l->ixB l 47=((cutA l).length:Int)
 |[],h=>by simp at h
 |b::l,h=>by
  by_cases hb:b=47
  ·subst hb;rfl
  ·have hl:47∈l:=by
    rcases Ar.1 h with h | h
    ·exact absurd h.symm hb
    ·exact h
   have ih:=ixB_in hl;have h1:(b==47)=false:=by simpa using hb
   have h2:(ixB l 47==-1)=false:=by rw[ih,Bq];omega
   have h3:(b !=47)=true:=by simpa using hb
   simp only[ixB,h1,h2,Bs,BH];have e:cutA (b::l)=b::cutA l:=by unfold cutA;rw[DT,h3,if_pos rfl]
   rw[ih,e,Aq];rfl
theorem ixB_out:∀ {l:List UInt8},47 ∉ l->ixB l 47=-1
 |[],_=>rfl
 |b::l,h=>by
  simp only[Ar,not_or]at h;have h1:(b==47)=false:=by simpa using λq=>h.1 q.symm
  simp only[ixB,h1,ixB_out h.2,Bs,BH];rfl
theorem cut_run{n:Nat}{l:List UInt8}(h:l.length<=1000000000:=by omega):evF En (n+4) 176 [.str (txt l),.str { data:=#[47] }]=some [sF (cutA l),sF (cutB l),.bool (l.contains 47)]:=by
 have hidx:∀c:UInt8,evF En (n+1) 262 [.str (txt l),.int .u8 (c.toNat:Int)]=some [.int .i64 (ixB l c)]:=λc=>by
  show idxExt [.str (txt l),.int .u8 (c.toNat:Int)]=_;simp only[idxExt];rw[q6l];simp
 have hin:evF En (n+2) 246 [.str (txt l),.str (txt [47])]=some [.int .i64 (ixB l 47)]:=by
  rw[qsd,q1e,show((([47]:List UInt8).length:Int)==0)=false from rfl,Ab,q3g];by_cases he:l=[47]
  ·subst he;rw[Af rfl];rfl
  ·have h0:=q4g [47] 0;rw[show((0:Nat):Int)=0 from rfl,Aj,AE]at h0;rw[Ad (λq=>he q.symm),Ab,show((([47]:List UInt8).length:Int)==1)=true from rfl,Ac,h0,Ae,hidx];rfl
 rw[show({ data:=#[47] }:ByteArray)=txt [47] from rfl,qsa,qsc,hin];simp only[Ae,Aj,qi];by_cases h47:47∈l
 ·have hj:=congrArg List.length (qdz h47);simp only[Bc,Aq]at hj;have key:∀a b:List UInt8,((a++47::b).take a.length).drop 0=a/\((a++47::b).take (a++47::b).length).drop (a.length+1)=b:=λa b=>by
   refine⟨by rw[Av,List.take_left],?_⟩;rw[Bj,show a++47::b=(a++[47])++b by simp,show a.length+1=(a++[47]).length by simp,List.drop_left]
  obtain⟨e1,e2⟩:=key (cutA l) (cutB l);rw[<- qdz h47]at e1 e2;rw[ixB_in h47,Af,Ac,q1e,q1e,q1x,Ae,show((([47]:List UInt8).length:Nat):Int)=((1:Nat):Int) from rfl,q2q,q1x,Ae,q5m,q5m,e1,e2];have:l.contains 47=true:=by simpa using h47
  rw[this];rfl
 ·obtain⟨c1,c2⟩:=qf1 h47;have:l.contains 47=false:=by simpa using h47
  rw[ixB_out h47,Ad,Ab,c1,c2,this];rfl
def chunks(x:Nat):List (List UInt8) :=
 if h:x=0 then []else
  (if x / 1000000000=0 then qk (x%1000000000)else List.replicate (9-(qk (x%1000000000)).length) 48++qk (x%1000000000))::chunks (x / 1000000000)
termination_by x
decreasing_by exact Cy (by omega) (by omega)
theorem dtext_dK(d:Nat)(h:d<1000000000):List.replicate (9-(qk d).length) 48++qk d=((dK 9 d).reverse).map chD:=by
 rw[dK_dg 9 d (by omega)];unfold qk;rcases Bt d with h0 | h0
 ·subst h0;rw[if_pos rfl,q18];decide
 ·rw[if_neg (by omega)];rw[EA,AW,List.reverse_replicate,EP,Aa,Fv];rfl
theorem qvz{d:Nat}(h:d<1000000000):1<=(qk d).length/\(qk d).length<=9:=by
 unfold qk;rcases Bt d with h0 | h0
 ·subst h0;simp
 ·rw[if_neg (by omega),Aa,Fv];have:=q5h (b:=10) (by omega) (n:=d) (k:=9) (by omega);have:dg 10 d≠[]:=λq=>by have:=(q52 (b:=10) (by omega)).1 q;omega
  have:=CZ.2 this;omega
theorem qnq:∀(x:Nat),x≠0->(chunks x).reverse.flatten=qk x:=by
 intro x
 induction x using Nat.strongRecOn with
 |_ x ih =>
  intro h0;rw[chunks,BU h0];have hm:x%1000000000<1000000000:=AK _ (by omega);by_cases hq:x / 1000000000=0
  ·rw[if_pos hq,hq,chunks,BQ rfl];simp only[Fw,List.reverse_nil,Au,List.flatten_cons,List.flatten_nil,AN];congr 1;omega
  ·rw[if_neg hq,Fw,List.flatten_append,ih _ (Cy (by omega) (by omega)) hq,dtext_dK _ hm];have e:=dg_dK hq 9 (x%1000000000) (by omega);rw[show x%1000000000+10^9*(x / 1000000000)=x by omega]at e;unfold qk;rw[if_neg hq,if_neg h0,e];simp
theorem qnr:∀(k x:Nat),x<1000000000^k->(chunks x).length<=k
 |0,x,h=>by
  have:x=0:=by simpa using h
  subst this;rw[chunks,BQ rfl];simp
 |k+1,x,h=>by
  rw[chunks];split
  ·simp
  ·simp only[Aq];have:=qnr k (x / 1000000000) (by rw[BP (by omega),<- Ay];exact h);omega
theorem q4d{a b:Nat}(h:a<=b):Nat.ble a b=true:=by rw[Nat.ble_eq];exact h
theorem text_loop:∀(x k:Nat),x<1000000000^k->(dg 4294967296 x).length<=549755813000->∃n0,∀n m (P:List (List UInt8)),n0<=n->n0<=m->P.length+k<=1000000000000 ->
  q8p.l4 n [] m [L32 (dg 4294967296 x),.list 1 (P.map sF)]=(evF En n 208 [.list 1 ((P++chunks x).map sF)]).bind λr7=>(asLst 1 (r7[0]?)).bind λv8=>(evF En n 209 [.list 1 v8,.str { data:=#[] }]).bind λr9=>(asStr (r9[0]?)).bind λu10=>some [.str u10]:=by
 intro x
 induction x using Nat.strongRecOn with
 |_ x ih =>
  intro k hk hx;rcases Bt x with h0 | h0
  ·subst h0;refine⟨1,λn m P hn hm hP=>?_⟩;obtain⟨m,rfl⟩:=qSx m;rw[q8p.q14,Aa,q18,Ad (by simp),Ab,chunks,BQ rfl,AN]
  ·obtain⟨k,rfl⟩:∃j,k=j+1:=⟨k-1,by
    rcases Bt k with q | q
    ·subst q;simp at hk;omega
    ·omega⟩
   have hlt:x / 1000000000<x:=Cy (by omega) (by omega);have hm9:x%1000000000<1000000000:=AK _ (by omega);have hlm:=qf4 (CV hlt);obtain⟨n1,h1⟩:=ih (x / 1000000000) hlt k (by rw[BP (by omega),<- Ay];exact hk) (by omega);obtain⟨n2,h2⟩:=qnm (x:=x) (k:=1000000000) (by omega) (by omega) (by omega);obtain⟨t1,t2⟩:=qvz hm9;have hl0:0<(dg 4294967296 x).length:=by
    rcases Bt (dg 4294967296 x).length with q | q
    ·have:=(q52 qq).1 (BJ q);omega
    ·exact q
   refine⟨n1+n2+2,λn m P hn hm hP=>?_⟩;obtain⟨m,rfl⟩:=qSx m;obtain⟨n,rfl⟩:=qSx n;have h2':=h2 (n+1) (by omega);rw[show(((1000000000:Nat)):Int)=1000000000 from rfl]at h2'
   rw[q8p.q14,Aa,Af,Ac,h2',Ae,Aj,qy,Ae,AP,Aj,qi,Ae,
    q1d,qvx (by omega),Ae,Aj,q2n,Ae,Aa]
   by_cases hq:x / 1000000000=0
   ·rw[hq,q18,Bg,Ad,Ab,show qe 1 (.str { data:=#[] }) [(0,FV.str (txt (qk (x%1000000000))))]=[sF (qk (x%1000000000))] from rfl,Aa,q4d (by simp;omega),Ac];have:=h1 (n+1) m (P++[qk (x%1000000000)]) (by omega) (by omega) (by simp;omega);rw[hq,q18,AW]at this;refine this.trans ?_;rw[Ap,BR]
    conv=>rhs;rw[chunks,BU (by omega),if_pos hq,hq]
   ·have hl1:0<(dg 4294967296 (x / 1000000000)).length:=by
     rcases Bt (dg 4294967296 (x / 1000000000)).length with q | q
     ·exact absurd ((q52 qq).1 (BJ q)) hq
     ·exact q
    rw[Af,Ac,q1e,show w6 (9-((qk (x%1000000000)).length:Int))=((9-(qk (x%1000000000)).length:Nat):Int) by rw[ql];omega,
     qvy (by omega),Ae,Aj,q2n,Ae,q1e,Db,Ad,Ab,q5l]
    rw[show ∀u,qe 1 (.str { data:=#[] }) [(0,FV.str u)]=[FV.str u] from λu=>rfl,Aa,q4d (by simp;omega),Ac];have:=h1 (n+1) m (P++[List.replicate (9-(qk (x%1000000000)).length) 48++qk (x%1000000000)]) (by omega) (by omega) (by simp;omega);rw[AW]at this;refine this.trans ?_;rw[Ap,BR]
    conv=>rhs;rw[chunks,BU (by omega),if_neg hq]
theorem qva{x k:Nat}(hk:x<1000000000^k)(hk':k<=100000000000)(hx:(dg 4294967296 x).length<=549755813000)(ht:(qk x).length<=1099511627776):Ev En 148 [L32 (dg 4294967296 x)] [sF (qk x)]:=by
 obtain⟨n0,h⟩:=text_loop x k hk hx;refine Ev.of (n0+k+3) λn hn=>?_;rw[qqo,Aa];rcases Bt x with h0 | h0
 ·subst h0;rw[q18];rfl
 ·have hl0:0<(dg 4294967296 x).length:=by
   rcases Bt (dg 4294967296 x).length with q | q
   ·have:=(q52 qq).1 (BJ q);omega
   ·exact q
  have hc:=qnr k x hk;obtain⟨n,rfl⟩:=qSx n;rw[show((((dg 4294967296 x).length:Nat):Int)==0)=false by rw[Bq];omega,Ab];have:=h (n+1) (n+1) [] (by omega) (by omega) (by simp;omega);rw[BG,Au]at this;rw[this,qvw (by omega) (by omega),Ae,Aj,qy,Ae,join_run (by rw[Fv];omega) (by rw[qnq x (by omega)];exact ht),Ae,Aj,q2n,Ae,qnq x (by omega)]
end Rf
end
section
set_option maxHeartbeats 2000000
set_option maxRecDepth 10000
namespace Rf
open Go
theorem dgts_isD:∀c:UInt8,dgts.contains c=isD c:=by
 have h:∀n:Fin 256,dgts.contains (UInt8.ofNat n.val)=isD (UInt8.ofNat n.val):=by decide +kernel
 intro c;have:=h ⟨c.toNat,c.toNat_lt⟩;simpa using this
theorem drop_nil{p:UInt8->Bool}:∀ {l:List UInt8},l.dropWhile p=[]↔∀c,c∈l->p c=true
 |[]=>by simp
 |x::l=>by
  rw[DU];by_cases h:p x=true
  ·rw[if_pos h,drop_nil];simp[h]
  ·rw[if_neg h];simp[h]
theorem qns{p:UInt8->Bool}:∀ {l:List UInt8},l.dropWhile p≠[]->∃c,c∈l.dropWhile p/\p c=false
 |[],h=>by simp at h
 |x::l,h=>by
  rw[DU]at h ⊢;by_cases hx:p x=true
  ·rw[if_pos hx]at h ⊢;exact qns h
  ·rw[if_neg hx];exact⟨x,by simp,by simpa using hx⟩
theorem qnt(l:List UInt8):q8l l dgts=[]↔∀c,c∈l->isD c=true:=by
 have e:(λx=>dgts.contains x)=isD:=funext dgts_isD;unfold q8l;rw[e];constructor
 ·intro h;by_cases h1:l.reverse.dropWhile isD=[]
  ·intro c hc;exact drop_nil.1 h1 c (by simpa using hc)
  ·obtain⟨c,hc,hp⟩:=qns h1;have:=drop_nil.1 h c (by simpa using hc);rw[hp]at this;cases this
 ·intro h;have:l.reverse.dropWhile isD=[]:=drop_nil.2 λc hc=>h c (by simpa using hc);rw[this];rfl
theorem qw0{n m0:Nat}{l0 l1:List FV}{s:ByteArray}{cnt:Nat}(hc:cnt<=9):∀(d i m:Nat),i+d=cnt->d<m ->
  q3n.l8 n [m0] m [.list 1 l0,.list 1 l1,.str s,.int .i64 (cnt:Int),.int .u32 ((10^i:Nat):Int),.int .i64 (cnt:Int),.int .i64 (i:Int)] =
   (bd (cnt:Int) s.size).bind λi0=>(evF En n 249 [.str (s.extract 0 i0),.int .i64 10,.int .i64 32]).bind λr1=>(asInt .u64 (r1[0]?)).bind λn2=>(evF En n 250 [.list 1 l1,.int .u32 ((10^cnt:Nat):Int),.int .u32 (Go.IntKind.wrap .u32 n2)]).bind λr3=>(asLst 1 (r3[0]?)).bind λv4=>(bd (cnt:Int) s.size).bind λi5=>q3n.l4 n [] m0 [.list 1 l0,.list 1 v4,.str (s.extract i5 s.size)]:=by
 intro d
 induction d with
 |zero =>
  intro i m hi hm;obtain⟨m,rfl⟩:=qSx m;obtain rfl:i=cnt:=by omega
  rw[q3n.l8_eq,Ad,Ab]
 |succ d ih =>
  intro i m hi hm;obtain⟨m,rfl⟩:=qSx m;have hp:10^(i+1)<=10^9:=AU (by omega) (by omega);have e:=Ay 10 i;rw[q3n.l8_eq,Af,Ac,qc (by omega),show(((10^i:Nat)):Int)*10=((10^(i+1):Nat):Int) by rw[e];rfl,q6r];exact ih (i+1) m (by omega) (by omega)
theorem qw1:∀(k:Nat) (l:List UInt8) (a:Nat),l.length<=k->(∀c,c∈l->isD c=true)->l.length<=1000000000->(dg 4294967296 (a*10^l.length+vD l)).length<=549755813000->∃n0,∀n m l0,n0<=n->n0<=m ->
  q3n.l4 n [] m [.list 1 l0,L32 (dg 4294967296 a),.str (txt l)]=some [L32 (dg 4294967296 (a*10^l.length+vD l)),.int .i64 0]:=by
 intro k
 induction k with
 |zero =>
  intro l a hk hd hl hb;have:l=[]:=BJ (by omega);subst this;refine⟨1,λn m l0 hn hm=>?_⟩;obtain⟨m,rfl⟩:=qSx m;rw[q3n.q14,show({ data:=#[] }:ByteArray)=txt [] from rfl,q3g];simp[vD]
 |succ k ih =>
  intro l a hk hd hl hb;by_cases hne:l=[]
  ·exact ih l a (by rw[hne];simp) hd hl hb
  ·have hpos:0<l.length:=CZ.2 hne;obtain⟨cnt,hcnt⟩:∃cnt,(l.length-1)%9+1=cnt:=⟨_,rfl⟩;have hc9:cnt<=9:=by have:=AK (l.length-1) (show 0<9 by omega);omega
   have hcl:cnt<=l.length:=by have:=Nat.mod_le (l.length-1) 9;omega
   have hpow:10^cnt<=10^9:=AU (by omega) hc9;have hdt:∀c,c∈l.take cnt->isD c=true:=λc h=>hd c (CJ h);have hvt:=vD_lt hdt;have htl:(l.take cnt).length=cnt:=by simp;omega
   rw[htl]at hvt;have hval:a*10^l.length+vD l=(a*10^cnt+vD (l.take cnt))*10^(l.drop cnt).length+vD (l.drop cnt):=by
    have e1:=qbu (l.take cnt) (l.drop cnt);rw[Ca]at e1;have e2:10^l.length=10^cnt*10^(l.drop cnt).length:=by rw[<- Cd];congr 1;simp;omega
    rw[e1,e2,AT,AV,Bl]
   have hle:a*10^cnt+vD (l.take cnt)<=a*10^l.length+vD l:=by
    rw[hval];exact AZ (Er _ (Bz (by omega))) (Nat.le_add_right _ _)
   have hale:a<=a*10^cnt+vD (l.take cnt):=AZ (Er _ (Bz (by omega))) (Nat.le_add_right _ _);have hm1:=qf4 hle;have hm2:=qf4 hale;obtain⟨n1,h1⟩:=ih (l.drop cnt) (a*10^cnt+vD (l.take cnt)) (by simp;omega) (λc h=>hd c (CA h)) (by simp;omega) (by rw[<- hval];exact hb);obtain⟨n2,h2⟩:=qw2 (x:=a) (k:=10^cnt) (c:=vD (l.take cnt)) (by omega) (by omega) (by omega);refine⟨n1+n2+11,λn m l0 hn hm=>?_⟩;obtain⟨m,rfl⟩:=qSx m;obtain⟨n,rfl⟩:=qSx n;have hw:w6 (Int.tmod (w6 ((l.length:Int)-1)) 9+1)=(cnt:Int):=by
    rw[show w6 ((l.length:Int)-1)=((l.length-1:Nat):Int) by rw[ql];omega,
     show Int.tmod ((l.length-1:Nat):Int) 9=(((l.length-1)%9:Nat):Int) from rfl,ql]
    omega
   have hl8:=qw0 (n:=n+1) (m0:=m) (l0:=l0) (l1:=(dg 4294967296 a).map d32) (s:=txt l) hc9 cnt 0 (n+1) (by omega) (by omega);rw[EB]at hl8;rw[q3n.q14,show({ data:=#[] }:ByteArray)=txt [] from rfl,q3g,Ad hne,AY,Ac,q1e,hw];refine hl8.trans ?_
   rw[q1e,q1x hcl,Ae,q5m,Av,parse_run (λq=>by rw[q]at htl;simp at htl;omega) (by omega) hdt,Ae,Aj,qi,Ae,q6r,h2 _ (by omega),
    Ae,Aj,qy,Ae,Ae,q5m,CT (Ak _),h1 _ _ _ (by omega) (by omega),hval]
theorem qi4{l:List UInt8}(hc:canon l)(hl:l.length<=1000000000)(hb:(dg 4294967296 (vD l)).length<=549755813000):Ev En 216 [sF l] [L32 (dg 4294967296 (vD l)),.int .i64 0]:=by
 obtain⟨c1,c2,c3⟩:=hc;obtain⟨n0,h⟩:=qw1 l.length l 0 (Ak _) c2 hl (by rw[Dm,AG];exact hb);refine Ev.of (n0+1) λn hn=>?_;obtain⟨n,rfl⟩:=qSx n;have hL:=h (n+1) (n+1) [] (by omega) (by omega);rw[q18,Dm,AG]at hL;obtain⟨c,t,rfl⟩:∃c t,l=c::t:=by
  cases l with
  |nil=>exact absurd rfl c1
  |cons c t=>exact⟨c,t,rfl⟩
 have h0:=q4g (c::t) 0;rw[show((0:Nat):Int)=0 from rfl]at h0;have htrim:q8l (c::t) dgts=[]:=(qnt _).2 c2
 rw[qkl,show({ data:=#[] }:ByteArray)=txt [] from rfl,q3g,Ad (by simp),Ab,h0,Aj,AE,Ae,qnp,Ae,Aj,q2n,Ae,htrim,
  show({ data:=#[48] }:ByteArray)=txt [48] from rfl,q3g,q3g,Af (show([]:List UInt8)=[] from rfl),Ao,Ab]
 by_cases hz:c=48
 ·subst hz;have:t=[]:=by
   have:=c3 rfl;simpa using this
  subst this;rw[show((((48:UInt8).toNat:Nat):Int)==48)=true from rfl,Ac,Af rfl,Ao,Ab];exact hL
 ·have:((c.toNat:Int)==48)=false:=by
   rw[Bq];intro q;exact hz (Dr.1 (show c.toNat=48 by omega))
  rw[this,Ab];exact hL
theorem qn4{l:List UInt8}(hc:¬ canon l)(hl:l.length<=1000000000):Ev En 216 [sF l] [.list 1 [],.int .i64 10]:=by
 refine Ev.of 1 λn hn=>?_;obtain⟨n,rfl⟩:=qSx n;rw[qkl,show({ data:=#[] }:ByteArray)=txt [] from rfl,q3g];cases l with
 |nil=>rw[Af rfl,Ac]
 |cons c t =>
  have h0:=q4g (c::t) 0;rw[show((0:Nat):Int)=0 from rfl]at h0
  rw[Ad (by simp),Ab,h0,Aj,AE,Ae,qnp,Ae,Aj,q2n,Ae,
   show({ data:=#[48] }:ByteArray)=txt [48] from rfl,q3g,q3g]
  by_cases hd:∀x,x∈c::t->isD x=true
  ·have hz:c=48/\t≠[]:=by
    apply BX;intro q;refine hc ⟨by simp,hd,λh=>?_⟩;simp only[DR,AH]at h;have:t=[]:=BX λht=>q ⟨h,ht⟩;rw[this];rfl
   obtain⟨rfl,ht⟩:=hz;rw[show((((48:UInt8).toNat:Nat):Int)==48)=true from rfl,Ac,Ad (by simpa using ht),AY,Ac]
  ·have htr:q8l (c::t) dgts≠[]:=λq=>hd ((qnt _).1 q);rw[Ad htr,AY,Ac];cases((c.toNat:Int)==48) <;> cases(decide (c::t=[48])) <;> rfl
end Rf
end
end
namespace Rf
open Go
section
abbrev nL(x:Nat):FV:=L32 (dg 4294967296 x)
abbrev zl(z:Int):FV:=nL z.natAbs
abbrev zb(z:Int):FV:=.bool (decide (z<0))
def sg(s:Bool)(x:Nat):Int:=if s then -(x:Int)else x
theorem sg_abs(s:Bool)(x:Nat):(sg s x).natAbs=x:=by unfold sg;split <;> omega
theorem sg_neg(s:Bool)(x:Nat):decide (sg s x<0)=(s&&decide (0<x)):=by
 unfold sg;cases s <;> simp
theorem q4i{x k:Nat}(h:x<2^k)(hk:k<=100000000000:=by omega):(dg 4294967296 x).length<=100000000000:=AZ (qi0 qq h) hk
theorem zero_ev{x k:Nat}{s:Bool}(hk:k<=100000000000)(hx:x<2^k):Ev En 198 [nL x,.bool s] [.bool (decide (x=0))]:=by
 have l:=q4i hx hk;obtain⟨n1,h1⟩:=qew (x:=x);refine Ev.of n1 λn hn=>?_;rw[qv0];simp (disch:=omega) only[h1,rr];have:(((q88 x:Nat):Int)==0)=decide (x=0):=by
  rw[Bm,Bv,As,<- qex];omega
 rw[this]
theorem q5z{x k:Nat}{s:Bool}(hk:k<=100000000000)(hx:x<2^k):Ev En 199 [.bool s,nL x] [zl (sg s x),zb (sg s x)]:=by
 have l:=q4i hx hk;obtain⟨n1,h1⟩:=qew (x:=x);refine Ev.of n1 λn hn=>?_;rw[qv1];unfold zl zb;rw[sg_abs,sg_neg];cases s
 ·simp only[rr];rfl
 ·simp (disch:=omega) only[h1,rr];have:decide (((q88 x:Nat):Int)>0)=decide (0<x):=by
   rw[Bm,As,As];have:=@qex x;omega
  rw[this];rfl
theorem qdq{z:Int}{k:Nat}(hk:k<=100000000000)(hz:z.natAbs<2^k):Ev En 145 [zl z,zb z] [.int .i64 z.sign]:=by
 obtain⟨n1,h1⟩:=zero_ev (s:=decide (z<0)) hk hz;refine Ev.of n1 λn hn=>?_;rw[qv2];by_cases h:z<0
 ·rw[Af h];simp only[rr];rw[CN h]
 ·rw[Ad h]at h1 ⊢;simp (disch:=omega) only[h1,rr];by_cases h0:z=0
  ·subst h0;rfl
  ·rw[Ad];simp only[rr];rw[Co (by omega)]
theorem qey{z:Int}{k:Nat}(hk:k<=100000000000)(hz:z.natAbs<2^k):Ev En 147 [zl z,zb z] [zl (-z),zb (-z)]:=by
 obtain⟨n1,h1⟩:=q5z (s:=!(decide (z<0))) hk hz;refine Ev.of n1 λn hn=>?_;rw[qv3];simp (disch:=omega) only[h1,rr];have:sg (!(decide (z<0))) z.natAbs=-z:=by
  unfold sg;by_cases h:z<0 <;> simp[h] <;> omega
 rw[this]
theorem nabs_ev{z:Int}:Ev En 218 [zl z,zb z] [nL z.natAbs]:=Ev.of 0 λn _=>qv4 n _ _
theorem pow_two{a b k:Nat}(h:a<2^k)(h':b<2^k):a+b<2^(k+1):=by rw[Ay];omega
theorem qaj{z w:Int}{k:Nat}(hk:k+1<=100000000000)(hz:z.natAbs<2^k)(hw:w.natAbs<2^k):Ev En 141 [zl z,zb z,zl w,zb w] [zl (z+w),zb (z+w)]:=by
 have lz:=q4i hz;have lw:=q4i hw;by_cases hs:decide (z<0)=decide (w<0)
 ·obtain⟨n1,h1⟩:=natAdd_ev (x:=z.natAbs) (y:=w.natAbs) (by omega) (by omega);obtain⟨n2,h2⟩:=q5z (s:=decide (z<0)) hk (pow_two hz hw);refine Ev.of (n1+n2) λn hn=>?_;rw[qi1,hs];rw[hs]at h2;simp (disch:=omega) only[h1,h2,Be,rr];have:sg (decide (w<0)) (z.natAbs+w.natAbs)=z+w:=by
   unfold sg;by_cases h:w<0
   ·have:z<0:=by rw[Af h]at hs;exact of_decide_eq_true hs
    simp[h];omega
   ·have:¬ z<0:=by rw[Ad h]at hs;exact Fk hs
    simp[h];omega
  rw[this]
 ·have hb:(decide (z<0)==decide (w<0))=false:=Bq.2 hs;have hsgn:(z<0/\0<=w)\/(0<=z/\w<0):=by
   by_cases h:z<0 <;> by_cases h':w<0 <;> simp_all <;> omega
  by_cases hle:w.natAbs<=z.natAbs
  ·obtain⟨n1,h1⟩:=qn0 (x:=z.natAbs) (y:=w.natAbs) (by omega) hle (by omega) (by omega);obtain⟨n2,h2⟩:=q5z (k:=k) (x:=z.natAbs-w.natAbs) (s:=decide (z<0)) (by omega) (by omega);refine Ev.of (n1+n2) λn hn=>?_;rw[qi1,hb];simp (disch:=omega) only[h1,h2,Be,rr];have:sg (decide (z<0)) (z.natAbs-w.natAbs)=z+w:=by
    unfold sg;by_cases h:z<0 <;> simp[h] <;> omega
   rw[this]
  ·obtain⟨n1,h1⟩:=qv5 (x:=z.natAbs) (y:=w.natAbs) (by omega) (by omega) (by omega);obtain⟨n3,h3⟩:=qn0 (x:=w.natAbs) (y:=z.natAbs) (by omega) (by omega) (by omega) (by omega);obtain⟨n2,h2⟩:=q5z (k:=k) (x:=w.natAbs-z.natAbs) (s:=decide (w<0)) (by omega) (by omega);refine Ev.of (n1+n2+n3) λn hn=>?_;rw[qi1,hb];simp (disch:=omega) only[h1,h2,h3,show((11:Int)==0)=false from rfl,rr];have:sg (decide (w<0)) (w.natAbs-z.natAbs)=z+w:=by
    unfold sg;by_cases h:w<0 <;> simp[h] <;> omega
   rw[this]
theorem qdo{z w:Int}{k:Nat}(hk:k+1<=100000000000)(hz:z.natAbs<2^k)(hw:w.natAbs<2^k):Ev En 84 [zl z,zb z,zl w,zb w] [zl (z-w),zb (z-w)]:=by
 obtain⟨n1,h1⟩:=qey (by omega) hw;obtain⟨n2,h2⟩:=qaj (w:=-w) hk hz (by rw[BE];exact hw);refine Ev.of (n1+n2) λn hn=>?_;rw[qv6];simp (disch:=omega) only[h1,h2,rr];rw[Int.sub_eq_add_neg]
theorem sg_mul(z w:Int):sg (!(decide (z<0)==decide (w<0))) (z.natAbs*w.natAbs)=z*w:=by
 unfold sg;rcases Dd z 0 with h | h <;> rcases Dd w 0 with h' | h'
 ·obtain⟨x,rfl⟩:∃x:Nat,z=-(x:Int):=⟨z.natAbs,by omega⟩;obtain⟨y,rfl⟩:∃y:Nat,w=-(y:Int):=⟨w.natAbs,by omega⟩;rw[Int.neg_mul_neg,Af h,Af h',BE,BE];simp
 ·obtain⟨x,rfl⟩:∃x:Nat,z=-(x:Int):=⟨z.natAbs,by omega⟩;obtain⟨y,rfl⟩:∃y:Nat,w=(y:Int):=⟨w.natAbs,by omega⟩;rw[Int.neg_mul,Af h,Ad,BE];simp
 ·obtain⟨x,rfl⟩:∃x:Nat,z=(x:Int):=⟨z.natAbs,by omega⟩;obtain⟨y,rfl⟩:∃y:Nat,w=-(y:Int):=⟨w.natAbs,by omega⟩;rw[Int.mul_neg,Af h',Ad,BE];simp
 ·obtain⟨x,rfl⟩:∃x:Nat,z=(x:Int):=⟨z.natAbs,by omega⟩;obtain⟨y,rfl⟩:∃y:Nat,w=(y:Int):=⟨w.natAbs,by omega⟩;rw[Ad,Ad];simp
theorem q7e{z w:Int}{k:Nat}(hk:k+k<=100000000000)(hz:z.natAbs<2^k)(hw:w.natAbs<2^k):Ev En 173 [zl z,zb z,zl w,zb w] [zl (z*w),zb (z*w)]:=by
 have lz:=q4i hz;have lw:=q4i hw;obtain⟨n1,h1⟩:=natMul_ev (x:=z.natAbs) (y:=w.natAbs) (by omega);obtain⟨n2,h2⟩:=q5z (s:=!(decide (z<0)==decide (w<0))) hk (q4p hz hw);refine Ev.of (n1+n2) λn hn=>?_;rw[qv7];simp (disch:=omega) only[h1,h2,rr];rw[sg_mul z w]
def q26(z w:Int):Int:=if z<w then -1 else if w<z then 1 else 0
theorem cmpN_pos{z w:Int}(hz:0<=z)(hw:0<=w):cmpN z.natAbs w.natAbs=q26 z w:=by
 have e1:z.natAbs<w.natAbs↔z<w:=by omega
 have e2:w.natAbs<z.natAbs↔w<z:=by omega
 simp only[cmpN,q26,e1,e2]
theorem cmpN_neg{z w:Int}(hz:z<0)(hw:w<0):cmpN w.natAbs z.natAbs=q26 z w:=by
 have e1:w.natAbs<z.natAbs↔z<w:=by omega
 have e2:z.natAbs<w.natAbs↔w<z:=by omega
 simp only[cmpN,q26,e1,e2]
theorem qdp{z w:Int}{k:Nat}(hk:k<=100000000000)(hz:z.natAbs<2^k)(hw:w.natAbs<2^k):Ev En 142 [zl z,zb z,zl w,zb w] [.int .i64 (q26 z w)]:=by
 have lz:=q4i hz;have lw:=q4i hw;obtain⟨n1,h1⟩:=qa4 (x:=z.natAbs) (y:=w.natAbs) (by omega) (by omega);obtain⟨n2,h2⟩:=qa4 (x:=w.natAbs) (y:=z.natAbs) (by omega) (by omega);refine Ev.of (n1+n2) λn hn=>?_;rw[qv8];by_cases h:z<0 <;> by_cases h':w<0
 ·rw[Af h,Af h'];simp (disch:=omega) only[h1,h2,Ao,rr];rw[cmpN_neg h h']
 ·rw[Af h,Ad h'];simp (disch:=omega) only[h1,h2,Ao,AY,rr];unfold q26;rw[if_pos (by omega)]
 ·rw[Ad h,Af h'];simp (disch:=omega) only[h1,h2,Ao,AY,rr];unfold q26;rw[if_neg (by omega),if_pos (by omega)]
 ·rw[Ad h,Ad h'];simp (disch:=omega) only[h1,h2,AY,rr];rw[cmpN_pos (by omega) (by omega)]
theorem qdn{z:Int}(h1:-9223372036854775808<=z:=by omega)(h2:z<=9223372036854775807:=by omega):Ev En 144 [.int .i64 z] [zl z,zb z]:=by
 have hb:z.natAbs<2^64:=by
  have:(2:Nat)^64=18446744073709551616:=by decide
  omega
 obtain⟨n1,g1⟩:=qi2 (x:=z.natAbs) (by omega);obtain⟨n2,g2⟩:=q5z (s:=decide (z<0)) (k:=64) (by omega) hb;refine Ev.of (n1+n2) λn hn=>?_;rw[num_Of_eq];by_cases h:z<0
 ·rw[Af h]at g2 ⊢;have e:IntKind.wrap .u64 (0-IntKind.wrap .u64 z)=(z.natAbs:Int):=by
   unfold IntKind.wrap;simp[IntKind.bits,IntKind.signed];omega
  rw[e];simp (disch:=omega) only[g1,g2,rr];have:sg true z.natAbs=z:=by unfold sg;simp;omega
  rw[this]
 ·rw[Ad h]at g2 ⊢;have e:IntKind.wrap .u64 z=(z.natAbs:Int):=by
   unfold IntKind.wrap;simp[IntKind.bits,IntKind.signed];omega
  rw[e];simp (disch:=omega) only[g1,g2,rr];have:sg false z.natAbs=z:=by unfold sg;simp;omega
  rw[this]
theorem sg_div(z w:Int):sg (!(decide (z<0)==decide (w<0))) (z.natAbs / w.natAbs)=z.tdiv w:=by
 unfold sg;rcases Dd z 0 with h | h <;> rcases Dd w 0 with h' | h'
 ·obtain⟨x,rfl⟩:∃x:Nat,z=-(x:Int):=⟨z.natAbs,by omega⟩;obtain⟨y,rfl⟩:∃y:Nat,w=-(y:Int):=⟨w.natAbs,by omega⟩;rw[Int.neg_tdiv_neg,Af h,Af h',BE,BE];simp
 ·obtain⟨x,rfl⟩:∃x:Nat,z=-(x:Int):=⟨z.natAbs,by omega⟩;obtain⟨y,rfl⟩:∃y:Nat,w=(y:Int):=⟨w.natAbs,by omega⟩;rw[Int.neg_tdiv,Af h,Ad,BE];simp
 ·obtain⟨x,rfl⟩:∃x:Nat,z=(x:Int):=⟨z.natAbs,by omega⟩;obtain⟨y,rfl⟩:∃y:Nat,w=-(y:Int):=⟨w.natAbs,by omega⟩;rw[Int.tdiv_neg,Af h',Ad,BE];simp
 ·obtain⟨x,rfl⟩:∃x:Nat,z=(x:Int):=⟨z.natAbs,by omega⟩;obtain⟨y,rfl⟩:∃y:Nat,w=(y:Int):=⟨w.natAbs,by omega⟩;rw[Ad,Ad];simp
theorem sg_mod(z w:Int):sg (decide (z<0)) (z.natAbs%w.natAbs)=z.tmod w:=by
 unfold sg;rcases Dd z 0 with h | h
 ·obtain⟨x,rfl⟩:∃x:Nat,z=-(x:Int):=⟨z.natAbs,by omega⟩;rw[EV,Af h,BE];rcases Dd w 0 with h' | h'
  ·obtain⟨y,rfl⟩:∃y:Nat,w=-(y:Int):=⟨w.natAbs,by omega⟩;rw[Int.tmod_neg];simp[EC]
  ·obtain⟨y,rfl⟩:∃y:Nat,w=(y:Int):=⟨w.natAbs,by omega⟩;simp[EC]
 ·obtain⟨x,rfl⟩:∃x:Nat,z=(x:Int):=⟨z.natAbs,by omega⟩;rw[Ad];rcases Dd w 0 with h' | h'
  ·obtain⟨y,rfl⟩:∃y:Nat,w=-(y:Int):=⟨w.natAbs,by omega⟩;rw[Int.tmod_neg];simp[EC]
  ·obtain⟨y,rfl⟩:∃y:Nat,w=(y:Int):=⟨w.natAbs,by omega⟩;simp[EC]
theorem qdm{z w:Int}{k:Nat}(hk:k<=100000000000)(h0:w≠0)(hz:z.natAbs<2^k)(hw:w.natAbs<2^k) :
  Ev En 143 [zl z,zb z,zl w,zb w] [zl (z.tdiv w),zb (z.tdiv w),zl (z.tmod w),zb (z.tmod w),.int .i64 0]:=by
 have lz:=q4i hz;have lw:=q4i hw;have hq:z.natAbs / w.natAbs<2^k:=BK (Dp _ _) hz;have hr:z.natAbs%w.natAbs<2^k:=BK (Nat.mod_le _ _) hz;obtain⟨n1,h1⟩:=qn1 (x:=z.natAbs) (y:=w.natAbs) (by omega) (by omega) (by omega);obtain⟨n2,h2⟩:=q5z (s:=!(decide (z<0)==decide (w<0))) hk hq;obtain⟨n3,h3⟩:=q5z (s:=decide (z<0)) hk hr;refine Ev.of (n1+n2+n3) λn hn=>?_;rw[qv9];simp (disch:=omega) only[h1,h2,h3,show((0:Int) !=0)=false from rfl,rr];rw[sg_div z w,sg_mod z w]
theorem pow2_10(k:Nat):2^k<=1000000000^k:=ED (by omega) k
theorem qi3{z:Int}{k:Nat}(hk:k<=10000000000)(hz:z.natAbs<2^k):Ev En 85 [zl z,zb z] [sF (qu z)]:=by
 have lz:=q4i hz;have lt:=q9m hz;obtain⟨n1,h1⟩:=qva (x:=z.natAbs) (k:=k) (AQ hz (pow2_10 k)) (by omega) (by omega) (by omega);refine Ev.of n1 λn hn=>?_;rw[qvb];unfold qu;by_cases h:z<0
 ·rw[Af h,if_pos h];simp (disch:=omega) only[h1,rr];rw[q1e,Ad,Ab,show({ data:=#[45] }:ByteArray)=txt [45] from rfl,q5l];rfl
 ·rw[Ad h,if_neg h];simp (disch:=omega) only[h1,rr]
theorem qn2{n:Nat}(l:List UInt8):evF En (n+3) 215 [sF l,.str { data:=#[45] }]=some [sF (if l.head?=some 45 then l.tail else l),.bool (decide (l.head?=some 45))]:=by
 rw[qvc,qvd,qve,show({ data:=#[45] }:ByteArray)=txt [45] from rfl,q1e,q1e];cases l with
 |nil=>rfl
 |cons c t =>
  rw[Af (by simp;omega),Ac,q1x (by simp),Ae,q5m,q3g];simp only[Ae,Aj,q44];by_cases hc:c=45
  ·subst hc;rw[Af (by simp),Ao,Ab];simp (disch:=omega) only[q5m,rr];simp
  ·rw[Ad (by simpa using hc),AY,Ac];simp only[rr];simp[hc]
theorem qco{l:List UInt8}{z:Int}(h:pz l=some z)(hl:l.length<=1000000000:=by omega):Ev En 177 [sF l] [zl z,zb z,.int .i64 0]:=by
 have hb:=qao h;have lz:=q4i hb;have e:=q4q.1 h;have hcp:=λn=>@qn2 n l;have hb':=qew (x:=z.natAbs);by_cases hz:z<0
 ·have hl2:l=45::qk z.natAbs:=by rw[e];unfold qu;rw[if_pos hz]
  obtain⟨n1,h1⟩:=qi4 (l:=qk z.natAbs) (q6o _) (by rw[hl2]at hl;simp at hl;omega) (by rw[q6p];omega);rw[q6p]at h1;obtain⟨n2,h2⟩:=q5z (s:=true) (by omega:4*l.length<=100000000000) hb;obtain⟨n3,h3⟩:=hb';refine Ev.of (n1+n2+n3+3) λn hn=>?_;obtain⟨n,rfl⟩:∃m,n=m+3:=⟨n-3,by omega⟩;rw[qcp,hcp];subst hl2;simp (disch:=omega) only[DR,AX,EE,h1,DI,show((0:Int) !=0)=false from rfl,h3,rr];have:(((q88 z.natAbs:Nat):Int)==0)=false:=by
   rw[Bq];have:=@qex z.natAbs;omega
  rw[this];simp (disch:=omega) only[h2,rr];have:sg true z.natAbs=z:=by unfold sg;simp;omega
  rw[this]
 ·have hl2:l=qk z.natAbs:=by rw[e];unfold qu;rw[if_neg hz]
  have hc:canon l:=hl2▸q6o _;have h45:l.head?≠some 45:=λq=>by
   cases l with
   |nil=>cases q
   |cons c t=>simp at q;subst q;exact qi5 hc
  obtain⟨n1,h1⟩:=qi4 (l:=l) hc hl (by rw[hl2,q6p];omega);have hv:vD l=z.natAbs:=by rw[hl2,q6p]
  rw[hv]at h1;obtain⟨n2,h2⟩:=q5z (s:=false) (by omega:4*l.length<=100000000000) hb;refine Ev.of (n1+n2+3) λn hn=>?_;obtain⟨n,rfl⟩:∃m,n=m+3:=⟨n-3,by omega⟩;rw[qcp,hcp,if_neg h45,Ad h45];simp (disch:=omega) only[h1,show((0:Int) !=0)=false from rfl,h2,rr];have:sg false z.natAbs=z:=by unfold sg;simp;omega
  rw[this]
theorem qn3{l:List UInt8}(h:pz l=none)(hl:l.length<=1000000000:=by omega):Ev En 177 [sF l] [.list 1 [],.bool false,.int .i64 10]:=by
 have hcp:=λn=>@qn2 n l;by_cases h45:l.head?=some 45
 ·obtain⟨t,rfl⟩:∃t,l=45::t:=by
   cases l with
   |nil=>cases h45
   |cons c t=>simp at h45;subst h45;exact⟨t,rfl⟩
  simp only[Aq]at hl;by_cases hc:canon t
  ·have hv:vD t=0:=by
    apply BX;intro q;rw[pz_neg hc q]at h;cases h
   obtain⟨n1,h1⟩:=qi4 (l:=t) hc (by omega) (by rw[hv,q18];simp);rw[hv]at h1;obtain⟨n3,h3⟩:=qew (x:=0) (by rw[q18];simp);refine Ev.of (n1+n3+3) λn hn=>?_;obtain⟨n,rfl⟩:∃m,n=m+3:=⟨n-3,by omega⟩;rw[qcp,hcp];simp (disch:=omega) only[DR,AX,EE,h1,DI,show((0:Int) !=0)=false from rfl,h3,qex.2 rfl,rr];rfl
  ·obtain⟨n1,h1⟩:=qn4 (l:=t) hc (by omega);refine Ev.of (n1+3) λn hn=>?_;obtain⟨n,rfl⟩:∃m,n=m+3:=⟨n-3,by omega⟩;rw[qcp,hcp];simp (disch:=omega) only[DR,AX,EE,h1,DI,show((10:Int) !=0)=true from rfl,rr]
 ·have hc:¬ canon l:=λhc=>by rw[pz_pos hc]at h;cases h
  obtain⟨n1,h1⟩:=qn4 (l:=l) hc hl;refine Ev.of (n1+3) λn hn=>?_;obtain⟨n,rfl⟩:∃m,n=m+3:=⟨n-3,by omega⟩;rw[qcp,hcp,if_neg h45,Ad h45];simp (disch:=omega) only[h1,show((10:Int) !=0)=true from rfl,rr]
theorem q20(n:Nat):zb (n:Int)=.bool false:=by unfold zb;rw[Ad]
end
section
theorem b9_2:2<=1000000000:=by decide
abbrev wL(x:Nat):FV:=L64 (dg 1000000000 x)
theorem el1(z v:FV):qe 1 z [(0,v)]=[v]:=rfl
theorem el0(z:FV):qe 0 z []=[]:=rfl
theorem q8f(l:List Nat)(d:Nat):l.map d64++[FV.int .i64 (d:Int)]=(l++[d]).map d64:=by simp
theorem tmod9(x:Nat):Int.tmod (x:Int) 1000000000=((x%1000000000:Nat):Int):=rfl
theorem tdiv9(x:Nat):Int.tdiv (x:Int) 1000000000=((x / 1000000000:Nat):Int):=rfl
theorem rep64(k:Nat):List.replicate k (FV.int .i64 0)=(List.replicate k 0).map d64:=by rw[EP];rfl
theorem mk8{k:Nat}(h:k<=1099511627776:=by omega):q1u 8 (k:Int)=some k:=by
 unfold q1u;rw[if_pos ⟨by omega,by omega,by omega⟩];simp
theorem set64{pre:List Nat}{d y:Nat}{r:List Nat}{i:Nat}(h:pre.length=i:=by omega):List.set ((pre++d::r).map d64) i (.int .i64 (y:Int))=(pre++y::r).map d64:=by
 rw[AW,AM,qbf (by simpa using h),AW,AM]
theorem mid64{pre:List Nat}{d:Nat}{r:List Nat}{i:Nat}(h:pre.length=i):at' ((pre++d::r).map d64) i 0=some (.int .i64 (d:Int)):=by
 subst h;rw[q28,CS (Ak _),Cp];rfl
theorem q7k{x:Nat}(h:x≠0):0<(dg 1000000000 x).length:=by
 rcases Bt (dg 1000000000 x).length with q | q
 ·exact absurd ((q52 b9_2).1 (BJ q)) h
 ·exact q
theorem qfh{x y:Nat}(h:x<=y):(dg 1000000000 x).length<=(dg 1000000000 y).length:=by
 apply Dj;intro hlt;have:=qac b9_2 hlt;omega
theorem qoz{n:Nat}{l0:List FV}:∀(k:Nat) (l:List Nat) (m:Nat),l.length=k->k<m->k<=1099511627776+1->q96.l1 n [] m [.list 1 l0,L64 l]=some [L64 (tz l)]:=by
 intro k
 induction k with
 |zero =>
  intro l m hl hm hk;obtain⟨m,rfl⟩:=qSx m;have:l=[]:=BJ hl;subst this;rw[q96.q32];rfl
 |succ k ih =>
  intro l m hl hm hk;obtain⟨m,rfl⟩:=qSx m;obtain⟨r,d,rfl⟩:∃r d,l=r++[d]:=by
   rcases Dk l with h | ⟨r,d,h⟩
   ·subst h;simp at hl
   ·exact⟨r,d,by simpa using h⟩
  have hr:r.length=k:=by simpa using hl
  rw[q96.q32,Aa,Af,Ac,hl];have e1:w6 (((k+1:Nat):Int)-1)=(k:Int):=by rw[ql];omega
  have hat:at' ((r++[d]).map d64) k 0=some (.int .i64 (d:Int)):=by
   rw[q6d (by rw[hl];omega)];simp[<- hr]
  rw[e1,q9,Ae,hat,qi,Ae];by_cases h0:d=0
  ·subst h0;rw[show(((0:Nat):Int)==0)=true from rfl,Ac,q1x,Ae,qd2];have:List.drop 0 (List.take k ((r++[0]).map d64))=r.map d64:=by
    rw[Av,AW,DZ (by simp[hr]),CT (by simp[hr])]
   rw[this];exact ih r m hr (by omega) (by omega)
  ·rw[show((d:Int)==0)=false from Bq.2 (by omega),Ab,qd3 h0]
theorem q8g{n:Nat}{l:List Nat}(h:l.length<=1099511627776+1:=by omega)(hn:l.length<n:=by omega):evF En (n+1) 134 [L64 l]=some [L64 (tz l)]:=by
 rw[qp0];exact qoz l.length l n rfl hn h
theorem qfi{n i:Nat}{l:List Nat}:evF En (n+1) 211 [L64 l,.int .i64 (i:Int)]=some [.int .i64 ((l.getD i 0:Nat):Int)]:=by
 rw[qp1,Aa];by_cases h:i<l.length
 ·rw[Af,Ac,q9 h,Ae,q6d h,qi,Ae,AD,Ag h];rfl
 ·rw[Ad,Ab,AD,DD (by omega)];rfl
theorem qj7{n:Nat}{l0:List FV}:∀(x m:Nat) (pre:List Nat),x<m->x<18446744073709551616->pre.length+x<=1099511627776*18446744073709551616->pre.length+(dg 1000000000 x).length<=1099511627776 ->
  qad.l2 n [] m [.list 1 l0,.int .u64 (x:Int),L64 pre]=some [L64 (pre++dg 1000000000 x)]:=by
 intro x
 induction x using Nat.strongRecOn with
 |_ x ih =>
  intro m pre hm hx hp0 hp;obtain⟨m,rfl⟩:=qSx m;rw[qad.qt];by_cases h0:x=0
  ·subst h0;rw[Ad,Ab,q18,AN]
  ·have hlt:x / 1000000000<x:=Cy (by omega) (by omega);rw[q3k b9_2 h0,Aq]at hp;rw[Af,Ac,tmod9,q43,el1,Aa,q4d (by simp;omega),Ac,q8f,tdiv9,q1d,ih (x / 1000000000) hlt m (pre++[x%1000000000]) (by omega) (by omega) (by simp;omega) (by simp;omega)];rw[q3k b9_2 h0,Ap];rfl
theorem wof_ev{x:Nat}(hx:x<18446744073709551616):Ev En 102 [.int .u64 (x:Int)] [wL x]:=by
 refine Ev.of (x+1) λn hn=>?_;rw[qj8,el0];have hl:(dg 1000000000 x).length<=3:=q5h b9_2 (by omega);have:=qj7 (n:=n) (l0:=[]) x n [] (by omega) hx (by simp;omega) (by simp;omega);exact this
theorem qp2{n:Nat}{a:List Nat}{k:Nat}(ha:Dg 1000000000 a)(hk:k<1000000000)(hl:a.length<=1099511627775)(hn:a.length+3<=n){l1:List FV}:∀(d i m:Nat) (pre:List Nat) (c:Nat),i+d=a.length->d<m->pre.length=i->c<1000000000 ->
  q97.l3 n [] m [L64 a,.list 1 l1,.int .i64 (k:Int),.int .i64 (c:Int),L64 pre,.int .i64 (i:Int)]=some [L64 (tz (pre++mulL 1000000000 (a.drop i) k c))]:=by
 intro d
 induction d with
 |zero =>
  intro i m pre c hi hm hp hc;obtain⟨m,rfl⟩:=qSx m;obtain⟨n,rfl⟩:=qSx n;rw[q97.qm,Aa,Ad,Ab,el1,Aa,q4d (by simp;omega),Ac,q8f,q8g (by simp;omega) (by simp;omega)];simp only[Ae,Aj,qy];rw[AO (by omega)];rfl
 |succ d ih =>
  intro i m pre c hi hm hp hc;obtain⟨m,rfl⟩:=qSx m;have hia:i<a.length:=by omega
  have hx:=ha a[i] (Ah hia);have hcl:=qbg hx hk hc;have hxk:a[i]*k<=999999999*999999999:=Cz (by omega) (by omega)
  rw[q97.qm,Aa,Af,Ac,q9 hia,Ae,q6d hia,qi,Ae,qbh,q2q,el1,Aa,q4d (by simp;omega),Ac,tmod9,q8f,tdiv9,q43,qc (by omega),
   ih (i+1) m (pre++[(c+a[i]*k)%1000000000]) ((c+a[i]*k) / 1000000000) (by omega) (by omega) (by simp[hp]) (BO hcl),q1y hia,Ap]
  rfl
theorem small_run{n x k c:Nat}(hk:k<1000000000)(hc:c<1000000000)(hx:(dg 1000000000 x).length<=1099511627775)(hn:(dg 1000000000 x).length+3<=n):evF En (n+1) 223 [wL x,.int .i64 (k:Int),.int .i64 (c:Int)]=some [wL (x*k+c)]:=by
 rw[qp3,el0];have:=qp2 (n:=n) (q12 b9_2 x) hk hx hn (l1:=[]) (dg 1000000000 x).length 0 n [] c (by omega) (by omega) rfl hc;refine this.trans ?_;rw[Au,Av,<- q3b b9_2 (qfj _ k c (q12 b9_2 x) hk hc),qfk,q23 b9_2]
theorem qj9{n x k:Nat}(hk:k<1000000000:=by omega)(hx:(dg 1000000000 x).length<=1099511627775:=by omega)(hn:(dg 1000000000 x).length+3<=n:=by omega):evF En (n+1) 223 [wL x,.int .i64 (k:Int),.int .i64 0]=some [wL (x*k)]:=by
 have:=small_run (n:=n) (x:=x) (k:=k) (c:=0) hk (by omega) hx hn;rwa[Ax]at this
def pd(N:Nat)(a:List Nat):List Nat:=a++List.replicate (N-a.length) 0
theorem q8h{N:Nat}{a:List Nat}(h:a.length<=N:=by omega):(pd N a).length=N:=by simp[pd];omega
theorem qja(B k:Nat):vl B (List.replicate k 0)=0:=by
 induction k with
 |zero=>rfl
 |succ k ih=>rw[Cg];simp[vl,ih]
theorem q8i(B N:Nat)(a:List Nat):vl B (pd N a)=vl B a:=by rw[pd,q6e,qja];simp
theorem qae{B N:Nat}{a:List Nat}(hB:2<=B)(h:Dg B a):Dg B (pd N a):=h.app λd hd=>by have:=CI hd;omega
theorem qd4{N i:Nat}{a:List Nat}(h:i<(pd N a).length):(pd N a)[i]=a.getD i 0:=by
 simp only[pd,List.getElem_append,AD];split
 ·rename_i h';rw[Ag h'];rfl
 ·rename_i h';rw[DD (by omega)];simp
theorem max_nat(a b:Nat):(if(a:Int)<(b:Int)then(b:Int)else(a:Int))=((max a b:Nat):Int):=by
 split <;> omega
theorem wcmp_loop{n:Nat}{a b:List Nat}{N:Nat}(hN:N<=1099511627776)(ha:Dg 1000000000 a)(hb:Dg 1000000000 b)(h1:a.length<=N)(h2:b.length<=N)(hn:1<=n):∀(i m:Nat),i<=N->i<m->(pd N a).drop i=(pd N b).drop i ->
  q98.l2 n [] m [L64 a,L64 b,.int .i64 ((i:Int)-1)]=some [.int .i64 (cmpN (vl 1000000000 a) (vl 1000000000 b))]:=by
 have la:=q8h h1;have lb:=q8h h2;have da:=qae (N:=N) b9_2 ha;have db:=qae (N:=N) b9_2 hb;intro i
 induction i with
 |zero =>
  intro m hi hm he;obtain⟨m,rfl⟩:=qSx m;rw[Av,Av]at he;have:vl 1000000000 a=vl 1000000000 b:=by rw[<- q8i _ N a,he,q8i]
  rw[q98.qt,Ad,Ab,this];simp[cmpN]
 |succ i ih =>
  intro m hi hm he;obtain⟨m,rfl⟩:=qSx m;obtain⟨n,rfl⟩:=qSx n;have e0:(((i+1:Nat):Int)-1)=(i:Int):=by omega
  have hia:i<(pd N a).length:=by omega
  have hib:i<(pd N b).length:=by omega
  rw[q98.qt,e0,Af,Ac];simp only[qfi,Ae,Aj,qi];have ea:=qd4 hia;have eb:=qd4 hib;have sa:pd N a=(pd N a).take i++(pd N a)[i]::(pd N a).drop (i+1):=by rw[<- q1y hia,Ca]
  have sb:pd N b=(pd N b).take i++(pd N b)[i]::(pd N b).drop (i+1):=by rw[<- q1y hib,Ca]
  have ta:Dg 1000000000 ((pd N a).take i):=λd hd=>da d (CJ hd);have tb:Dg 1000000000 ((pd N b).take i):=λd hd=>db d (CJ hd);have tl:((pd N a).take i).length=((pd N b).take i).length:=by rw[BF,BF,la,lb]
  rw[<- ea,<- eb];by_cases hlt:(pd N a)[i]<(pd N b)[i]
  ·rw[Af,Ac];have:=qd5 (b:=1000000000) (by omega) ta tb tl hlt ((pd N b).drop (i+1));rw[<- sb,<- he,<- sa,q8i,q8i]at this;unfold cmpN;rw[if_pos this]
  ·rw[Ad,Ab];by_cases hgt:(pd N b)[i]<(pd N a)[i]
   ·rw[Af,Ac];have:=qd5 (b:=1000000000) (by omega) tb ta tl.symm hgt ((pd N a).drop (i+1));rw[<- sa,he,<- sb,q8i,q8i]at this;unfold cmpN;rw[if_neg (by omega),if_pos this]
   ·rw[Ad,Ab,show w6 ((i:Int)-1)=(i:Int)-1 from ql];have heq:(pd N a)[i]=(pd N b)[i]:=by omega
    exact ih m (by omega) (by omega) (by rw[q1y hia,q1y hib,heq,he])
theorem qfl{n x y:Nat}(hx:(dg 1000000000 x).length<=1099511627776:=by omega)(hy:(dg 1000000000 y).length<=1099511627776:=by omega)(hn:(dg 1000000000 x).length+(dg 1000000000 y).length+1<=n:=by omega):evF En (n+1) 164 [wL x,wL y]=some [.int .i64 (cmpN x y)]:=by
 rw[qp4,Aa,Aa,max_nat,show ∀k:Nat,k<=1099511627776->w6 ((k:Int)-1)=(k:Int)-1 from λk hk=>ql]
 ·have:=wcmp_loop (n:=n) (N:=max (dg 1000000000 x).length (dg 1000000000 y).length) (by omega) (q12 b9_2 x) (q12 b9_2 y) (by omega) (by omega) (by omega) (max (dg 1000000000 x).length (dg 1000000000 y).length) n (Ak _) (by omega)
   (by rw[AO (by rw[q8h];exact Ak _),AO (by rw[q8h];exact Ak _)])
  rw[q23 b9_2,q23 b9_2]at this;exact this
 ·omega
theorem wadd_loop{n:Nat}{a b:List Nat}{N:Nat}(hN:N<=1099511627775)(hNe:N=max a.length b.length)(ha:Dg 1000000000 a)(hb:Dg 1000000000 b)(hn:N+3<=n){l2:List FV}:∀(d i m:Nat) (pre:List Nat) (c:Nat),i+d=N->d<m->pre.length=i->c<=1 ->
  q7l.l4 n [] m [L64 a,L64 b,.list 1 l2,L64 pre,.int .i64 (c:Int),.int .i64 (i:Int)]=some [L64 (tz (pre++addL 1000000000 ((pd N a).drop i) ((pd N b).drop i) c))]:=by
 have la:=q8h (N:=N) (a:=a) (by omega);have lb:=q8h (N:=N) (a:=b) (by omega);have da:=qae (N:=N) b9_2 ha;have db:=qae (N:=N) b9_2 hb;obtain⟨n,rfl⟩:=qSx n;intro d
 induction d with
 |zero =>
  intro i m pre c hi hm hp hc;obtain⟨m,rfl⟩:=qSx m;rw[q7l.q14];simp only[Aa];rw[Ad,Ab,Ad,Ab,el1,q4d (by simp;omega),Ac,q8f,q8g (by simp;omega) (by simp;omega)];simp only[Ae,Aj,qy];rw[AO (by omega)];rfl
 |succ d ih =>
  intro i m pre c hi hm hp hc;obtain⟨m,rfl⟩:=qSx m;have hia:i<(pd N a).length:=by omega
  have hib:i<(pd N b).length:=by omega
  have ea:=qd4 hia;have eb:=qd4 hib;have hx:=da _ (Ah hia);have hy:=db _ (Ah hib);have rest:q7l.l4 (n+1) [] m [L64 a,L64 b,.list 1 l2,L64 (pre++[(c+(pd N a)[i]+(pd N b)[i])%1000000000]),.int .i64 (((c+(pd N a)[i]+(pd N b)[i]) / 1000000000:Nat):Int),.int .i64 ((i+1:Nat):Int)]=some [L64 (tz (pre++addL 1000000000 ((pd N a).drop i) ((pd N b).drop i) c))]:=by
   rw[ih (i+1) m (pre++[(c+(pd N a)[i]+(pd N b)[i])%1000000000]) ((c+(pd N a)[i]+(pd N b)[i]) / 1000000000) (by omega) (by omega) (by simp[hp]) (by
    have:=BO (m:=c+(pd N a)[i]+(pd N b)[i]) (n:=1000000000) (k:=2) (by omega)
    omega),q1y hia,q1y hib,Ap]
   rfl
  rw[q7l.q14];simp only[qfi,Ae,Aj,qi];rw[<- ea,<- eb,q2q (show c+(pd N a)[i]<9223372036854775808 by omega),q2q (show c+(pd N a)[i]+(pd N b)[i]<9223372036854775808 by omega),tmod9,tdiv9,q43,el1,Aa,Aa,Aa,q4d (by simp;omega),q8f,qc (by omega)];simp only[Ac];by_cases h1:i<a.length
  ·rw[Af,Ac];exact rest
  ·rw[Ad,Ab,Af,Ac];exact rest
theorem wadd_ev{x y:Nat}(hx:(dg 1000000000 x).length<=1099511627775)(hy:(dg 1000000000 y).length<=1099511627775):Ev En 163 [wL x,wL y] [wL (x+y)]:=by
 refine Ev.of ((dg 1000000000 x).length+(dg 1000000000 y).length+3) λn hn=>?_;rw[qp5,el0];have:=wadd_loop (n:=n) (N:=max (dg 1000000000 x).length (dg 1000000000 y).length) (by omega) rfl (q12 b9_2 x) (q12 b9_2 y) (by omega) (l2:=[]) (max (dg 1000000000 x).length (dg 1000000000 y).length) 0 n [] 0 (by omega) (by omega) rfl (by omega);refine this.trans ?_;rw[Au,Av,Av,<- q3b b9_2 (qfm b9_2 _ _ 0 (qae b9_2 (q12 b9_2 x)) (qae b9_2 (q12 b9_2 y)) (by omega)),qfn _ _ _ (by rw[q8h,q8h];exact Ak _),q8i,q8i,q23 b9_2,q23 b9_2,Ax]
theorem qjb(b:List Nat)(i:Nat):(b.drop i).headD 0=b.getD i 0:=by
 rw[List.headD_eq_head?_getD,List.head?_drop,AD]
theorem wsub_loop{n:Nat}{a b:List Nat}(ha:Dg 1000000000 a)(hb:Dg 1000000000 b)(hl:a.length<=1099511627775)(hn:a.length+3<=n){l2:List FV}:∀(d i m:Nat) (pre:List Nat) (c:Nat),i+d=a.length->d<m->pre.length=i->c<=1 ->
  q8j.l6 n [] m [L64 a,L64 b,.list 1 l2,L64 pre,.int .i64 (c:Int),.int .i64 (i:Int)]=some [L64 (tz (pre++(subL 1000000000 (a.drop i) (b.drop i) c).1)),.int .i64 0]:=by
 obtain⟨n,rfl⟩:=qSx n;intro d
 induction d with
 |zero =>
  intro i m pre c hi hm hp hc;obtain⟨m,rfl⟩:=qSx m;rw[q8j.q2r,Aa,Ad,Ab,q8g];simp only[Ae,Aj,qy];rw[AO (by omega),subL,AN]
 |succ d ih =>
  intro i m pre c hi hm hp hc;obtain⟨m,rfl⟩:=qSx m;have hia:i<a.length:=by omega
  have hx:=ha a[i] (Ah hia);have hy:b.getD i 0<1000000000:=by
   rw[<- qjb];exact Dg.headD (by omega) λd hd=>hb d (CA hd)
  rw[q8j.q2r];simp only[Aa,q9 hia,q6d hia,qfi,Ae,Aj,qi];rw[Af,Ac,ql (x:=((a[i]:Nat):Int)-_) (by omega) (by omega),ql (x:=((a[i]:Nat):Int)-_-_) (by omega) (by omega),qc (by omega)];rw[q1y hia,subL,qjb,List.tail_drop];by_cases hlt:a[i]<b.getD i 0+c
  ·have e:(a[i]:Int)-(b.getD i 0:Nat)-c+1000000000=((1000000000+a[i]-b.getD i 0-c:Nat):Int):=by omega
   rw[Af,Ac,e,q43,el1,q4d (by simp;omega),Ac,q8f,if_pos hlt];have:=ih (i+1) m (pre++[1000000000+a[i]-b.getD i 0-c]) 1 (by omega) (by omega) (by simp[hp]) (by omega);refine this.trans ?_;rw[AJ (show 1000000000+a[i]-b.getD i 0-c<1000000000 by omega),Ap];rfl
  ·have e:(a[i]:Int)-(b.getD i 0:Nat)-c=((a[i]-b.getD i 0-c:Nat):Int):=by omega
   rw[Ad,Ab,e,el1,q4d (by simp;omega),Ac,q8f,if_neg hlt];have:=ih (i+1) m (pre++[a[i]-b.getD i 0-c]) 0 (by omega) (by omega) (by simp[hp]) (by omega);refine this.trans ?_;rw[show(1000000000+a[i]-b.getD i 0-c)%1000000000=a[i]-b.getD i 0-c by omega,Ap];rfl
theorem qfo{n x y:Nat}(hyx:y<=x:=by omega)(hx:(dg 1000000000 x).length<=1099511627775:=by omega)(hn:(dg 1000000000 x).length*2+4<=n:=by omega):evF En (n+1) 165 [wL x,wL y]=some [wL (x-y),.int .i64 0]:=by
 have hlen:=qfh hyx;obtain⟨n,rfl⟩:=qSx n;rw[qp6,qfl];simp only[Ae,Aj,qi];rw[Ad (by unfold cmpN;rw[if_neg (by omega)];split <;> omega),Ab,el0];have:=wsub_loop (n:=n+1) (q12 b9_2 x) (q12 b9_2 y) hx (by omega) (l2:=[]) (dg 1000000000 x).length 0 (n+1) [] 0 (by omega) (by omega) rfl (by omega);refine this.trans ?_;rw[Au,Av,Av];obtain⟨g1,g2,g3,g4⟩:=qfp b9_2 (dg 1000000000 x) (dg 1000000000 y) 0 (q12 b9_2 x) (q12 b9_2 y) (by omega) hlen;rw[q23 b9_2,q23 b9_2]at g1;have hv:=q4l (by omega) g2;rw[g3]at hv;have:(subL 1000000000 (dg 1000000000 x) (dg 1000000000 y) 0).2=0:=by
  rcases Dl 0 (subL 1000000000 (dg 1000000000 x) (dg 1000000000 y) 0).2 with q | q
  ·have e:(subL 1000000000 (dg 1000000000 x) (dg 1000000000 y) 0).2=1:=by omega
   rw[e]at g1;omega
  ·omega
 rw[this]at g1;rw[<- q3b b9_2 g2];have e:vl 1000000000 (subL 1000000000 (dg 1000000000 x) (dg 1000000000 y) 0).1=x-y:=by omega
 rw[e]
theorem wmul_row{n m0:Nat}{a b:List Nat}(hb:Dg 1000000000 b)(hl:a.length+b.length<=1099511627776){l1:List FV}{x i:Nat}(hx:x<1000000000)(hia:i<a.length)(hai:a[i]=x):∀(e:List Nat) (k m:Nat) (pre acc:List Nat) (c:Nat),b.drop k=e->k+e.length=b.length->e.length<m->pre.length=i+k->e.length<acc.length->Dg 1000000000 acc->c<1000000000 ->
  q3v.l9 n [m0] m [L64 a,L64 b,.list 1 l1,L64 (pre++acc),.int .i64 (i:Int),.int .i64 (c:Int),.int .i64 (k:Int)] =
   q3v.l5 n [] m0 [L64 a,L64 b,.list 1 l1,L64 (pre++maRow 1000000000 acc e x c),.int .i64 ((i+1:Nat):Int)]:=by
 intro e
 induction e with
 |nil =>
  intro k m pre acc c hk hke hm hp hacc hd hc;obtain⟨m,rfl⟩:=qSx m;simp only[Bg,Ax]at hke;obtain⟨h,t,rfl⟩:∃h t,acc=h::t:=by
   cases acc with
   |nil=>simp at hacc
   |cons h t=>exact⟨h,t,rfl⟩
  have hlt:i+b.length<(pre++h::t).length:=by simp;omega
  rw[q3v.q4m,Aa,Ad,Ab,q2q,Aa,q9 hlt,Ae,set64,qc (by omega)];rfl
 |cons y e ih =>
  intro k m pre acc c hk hke hm hp hacc hd hc;obtain⟨m,rfl⟩:=qSx m;obtain⟨h,t,rfl⟩:∃h t,acc=h::t:=by
   cases acc with
   |nil=>simp at hacc
   |cons h t=>exact⟨h,t,rfl⟩
  simp only[Aq]at hke hm hacc;have hkb:k<b.length:=by omega
  have hy:b[k]=y/\b.drop (k+1)=e:=by
   rw[q1y hkb]at hk;cases hk;exact⟨rfl,rfl⟩
  have hyl:y<1000000000:=by rw[<- hy.1];exact hb _ (Ah hkb)
  obtain⟨hh,ht⟩:=hd.tail;have hlt:i+k<(pre++h::t).length:=by simp;omega
  have hxy:x*y<=999999999*999999999:=Cz (by omega) (by omega);rw[q3v.q4m,q2q];simp only[Aa,q9 hlt,mid64 (show pre.length=i+k by omega),q9 hia,q6d hia,q9 hkb,q6d hkb,Ae,qi,hy.1,hai];rw[Af,Ac,qbh,q2q,q2q,tmod9,tdiv9,q43,set64,qc (by omega),Bl c h];have:=ih (k+1) m (pre++[(c+(h+x*y))%1000000000]) t ((c+(h+x*y)) / 1000000000) hy.2 (by omega) (by omega) (by simp;omega) (by omega) ht (BO (by omega));rw[Ap]at this;refine this.trans ?_;simp only[maRow,Ap];rfl
theorem qp7{n:Nat}{a b:List Nat}(ha:Dg 1000000000 a)(hb:Dg 1000000000 b)(hl:a.length+b.length<=1099511627776)(hn:a.length+b.length+3<=n){l1:List FV}:∀(e:List Nat) (i m:Nat) (pre w:List Nat),a.drop i=e->i+e.length=a.length->e.length<m->pre.length=i->w.length=b.length->Dg 1000000000 w ->
  q3v.l5 n [] m [L64 a,L64 b,.list 1 l1,L64 (pre++(w++List.replicate e.length 0)),.int .i64 (i:Int)]=some [L64 (tz (pre++mulO 1000000000 e (w++List.replicate e.length 0) b))]:=by
 intro e
 induction e with
 |nil =>
  intro i m pre w hi hie hm hp hw hd;obtain⟨m,rfl⟩:=qSx m;obtain⟨n,rfl⟩:=qSx n;simp only[Bg,Ax]at hie;rw[q3v.q1r,Aa,Ad,Ab,q8g (by simp;omega) (by simp;omega)];simp only[Ae,Aj,qy,mulO]
 |cons x e ih =>
  intro i m pre w hi hie hm hp hw hd;obtain⟨m,rfl⟩:=qSx m;simp only[Aq]at hie hm;have hia:i<a.length:=by omega
  have hx:a[i]=x/\a.drop (i+1)=e:=by
   rw[q1y hia]at hi;cases hi;exact⟨rfl,rfl⟩
  have hxl:x<1000000000:=by rw[<- hx.1];exact ha _ (Ah hia)
  rw[q3v.q1r,Aa,Af,Ac];have hrow:=wmul_row (n:=n) (m0:=m) (a:=a) hb hl (l1:=l1) hxl hia hx.1 b 0 n pre (w++List.replicate (e.length+1) 0) 0 rfl (by omega) (by omega) (by omega) (by simp;omega) (hd.app (λd h=>by have:=CI h;omega)) (by omega);simp only[Aq];rw[show((0:Nat):Int)=0 from rfl]at hrow;rw[hrow];obtain⟨w',h1,h2,h3,h4⟩:=qd6 b9_2 w b (List.replicate e.length 0) x 0 hw hd hb hxl (by omega);rw[Cg,h1];cases w' with
  |nil=>simp at h2
  |cons d t =>
   obtain⟨hd1,ht⟩:=h3.tail;have:=ih (i+1) m (pre++[d]) t hx.2 (by omega) (by omega) (by simp[hp]) (by simpa using h2) ht;rw[Ap]at this;refine this.trans ?_;simp only[mulO,h1,Al,Ap];rfl
theorem wmul_ev{x y:Nat}(h:(dg 1000000000 x).length+(dg 1000000000 y).length<=1099511627775):Ev En 103 [wL x,wL y] [wL (x*y)]:=by
 refine Ev.of ((dg 1000000000 x).length+(dg 1000000000 y).length+3) λn hn=>?_;rw[qp8,Aa,Aa];by_cases hx0:x=0
 ·subst hx0;rw[Dm];simp only[wL,q18];rfl
 ·by_cases hy0:y=0
  ·subst hy0;rw[Cm];have:=q7k hx0;rw[show(((dg 1000000000 x).length:Int)==0)=false from Bq.2 (by omega),Ab];simp only[wL,q18];rfl
  ·have p1:=q7k hx0;have p2:=q7k hy0;rw[show(((dg 1000000000 x).length:Int)==0)=false from Bq.2 (by omega),Ab,show(((dg 1000000000 y).length:Int)==0)=false from Bq.2 (by omega),Ab,q2q,mk8,Ae,q1x (Ak _),Ae,rep64];have:=qp7 (n:=n) (q12 b9_2 x) (q12 b9_2 y) (by omega) (by omega) (l1:=[]) (dg 1000000000 x) 0 n [] (List.replicate (dg 1000000000 y).length 0) rfl (by omega) (by omega) rfl (by simp) (λd h=>by have:=CI h;omega);rw[Au,Ea,Au,Bn (dg 1000000000 y).length,show((0:Nat):Int)=0 from rfl]at this;refine this.trans ?_;obtain⟨g1,g2,_⟩:=qfq b9_2 (dg 1000000000 x) (List.replicate (dg 1000000000 y).length 0) (dg 1000000000 y) (by simp) (λd h=>by have:=CI h;omega) (q12 b9_2 y) (q12 b9_2 x);rw[Ea,Bn (dg 1000000000 y).length]at g1 g2;rw[<- q3b b9_2 g2,g1,qja,q23 b9_2,q23 b9_2,AG]
theorem qp9{n:Nat}{a:List Nat}(ha:Dg 1000000000 a)(hl:a.length<=1099511627776)(hv:vl 1000000000 a<18446744073709551616):∀(i m:Nat),i<=a.length->i<m ->
  q99.l3 n [] m [L64 a,.int .u64 ((vl 1000000000 (a.drop i):Nat):Int),.int .i64 ((i:Int)-1)]=some [.int .u64 ((vl 1000000000 a:Nat):Int)]:=by
 intro i
 induction i with
 |zero =>
  intro m hi hm;obtain⟨m,rfl⟩:=qSx m;rw[q99.qm,Ad,Ab,Av]
 |succ i ih =>
  intro m hi hm;obtain⟨m,rfl⟩:=qSx m;have hia:i<a.length:=by omega
  have e0:(((i+1:Nat):Int)-1)=(i:Int):=by omega
  have hs:vl 1000000000 (a.drop i)<=vl 1000000000 a:=by
   have:=q6e 1000000000 (a.take i) (a.drop i);rw[Ca]at this;have h1:1<=1000000000^(a.take i).length:=Nat.one_le_pow _ _ (by omega);have h2:=AR (vl 1000000000 (a.drop i)) h1;omega
  have hd:vl 1000000000 (a.drop i)=a[i]+1000000000*vl 1000000000 (a.drop (i+1)):=by rw[q1y hia];rfl
  have hx:=ha _ (Ah hia);rw[q99.qm,e0,Af,Ac,Aa,q9 hia,Ae,q6d hia,qi,Ae,q1d,show(1000000000:Int)=((1000000000:Nat):Int) from rfl,qbi,q7m,show w6 ((i:Int)-1)=(i:Int)-1 from ql];have:=ih m (by omega) (by omega);rw[hd]at this;rw[AB,Bn];exact this
theorem qjc{n x:Nat}(hx:x<18446744073709551616)(hn:(dg 1000000000 x).length<n:=by omega):evF En (n+1) 185 [wL x]=some [.int .u64 (x:Int)]:=by
 have hl:(dg 1000000000 x).length<=3:=q5h b9_2 (by omega);rw[qpa,Aa,show w6 (((dg 1000000000 x).length:Int)-1)=((dg 1000000000 x).length:Int)-1 from ql];have:=qp9 (n:=n) (q12 b9_2 x) (by omega) (by rw[q23 b9_2];exact hx) (dg 1000000000 x).length n (Ak _) (by omega);rw[AO (Ak _),q23 b9_2]at this;exact this
theorem wgcd_loop{n:Nat}:∀(y x m:Nat),y<m->qaf.l1 n [] m [.int .u64 (x:Int),.int .u64 (y:Int)]=some [.int .u64 ((Nat.gcd x y:Nat):Int)]:=by
 intro y
 induction y using Nat.strongRecOn with
 |_ y ih =>
  intro x m hm;obtain⟨m,rfl⟩:=qSx m;rw[qaf.q32];rcases Bt y with h0 | h0
  ·subst h0;rw[Ad,Ab,Eb]
  ·have hlt:=AK x h0;rw[Af,Ac,Ad,Ab,show Int.tmod (x:Int) (y:Int)=((x%y:Nat):Int) from rfl,ih (x%y) hlt y m (by omega),CB y,<- Ec,CB]
theorem wone_loop{n:Nat}{a:List Nat}{k:Nat}(ha:Dg 1000000000 a)(hk0:0<k)(hk:k<1000000000)(hl:a.length<=1099511627776)(hn:a.length+k+6<=n){l1 l2:List FV}:∀(i m:Nat),i<=a.length->i<m ->
  q9a.l4 n [] m [L64 a,.list 1 l1,.list 1 l2,.int .i64 (k:Int),L64 (List.replicate i 0++(divL 1000000000 k (a.drop i)).2),.int .i64 (((divL 1000000000 k (a.drop i)).1:Nat):Int),.int .i64 ((i:Int)-1)] =
   some [L64 (tz (divL 1000000000 k a).2),wL (divL 1000000000 k a).1]:=by
 intro i
 induction i with
 |zero =>
  intro m hi hm;obtain⟨m,rfl⟩:=qSx m;obtain⟨n,rfl⟩:=qSx n;obtain⟨g1,g2,g3,g4⟩:=q6f hk0 a ha;have hof:evF En (n+1) 102 [.int .u64 (((divL 1000000000 k a).1:Nat):Int)]=some [wL (divL 1000000000 k a).1]:=by
   rw[qj8,el0];have hl:(dg 1000000000 (divL 1000000000 k a).1).length<=3:=q5h b9_2 (by omega);have:=qj7 (n:=n) (l0:=[]) (divL 1000000000 k a).1 n [] (by omega) (by omega) (by simp;omega) (by simp;omega);exact this
  rw[q9a.q14,Ad,Ab,Av,Cq,Au,q8g,q1d,hof];simp only[Ae,Aj,qy]
 |succ i ih =>
  intro m hi hm;obtain⟨m,rfl⟩:=qSx m;have hia:i<a.length:=by omega
  have hx:=ha a[i] (Ah hia);have hda:Dg 1000000000 (a.drop (i+1)):=λd hd=>ha d (CA hd);obtain⟨g1,g2,g3,g4⟩:=q6f hk0 (a.drop (i+1)) hda;have ih:=ih m (by omega) (by omega);rw[q1y hia]at ih;simp only[divL]at ih;generalize (divL 1000000000 k (a.drop (i+1))).1=r at g1 g2 ih ⊢;generalize (divL 1000000000 k (a.drop (i+1))).2=q at g1 g3 g4 ih ⊢;have hq:q.length=a.length-(i+1):=by rw[g4,DE]
  have hlen:(List.replicate (i+1) 0++q).length=a.length:=by simp[hq];omega
  have e0:(((i+1:Nat):Int)-1)=(i:Int):=by omega
  have e2:Int.tdiv ((r*1000000000+a[i]:Nat):Int) (k:Int)=(((r*1000000000+a[i]) / k:Nat):Int):=rfl;have e3:Int.tmod ((r*1000000000+a[i]:Nat):Int) (k:Int)=(((r*1000000000+a[i])%k:Nat):Int):=rfl;have hdig:(r*1000000000+a[i]) / k<1000000000:=by
   rw[BP hk0];have:(r+1)*1000000000<=k*1000000000:=AR _ g2;omega
  rw[q9a.q14,e0,Af,Ac,show decide ((k:Int)=0)=false from Ad];simp only[Aa,hlen,q9 hia,Ae,q6d hia,qi,Ab];rw[show(1000000000:Int)=((1000000000:Nat):Int) from rfl,qbh,q2q,e2,e3,q43];have hset:List.set ((List.replicate (i+1) 0++q).map d64) i (.int .i64 (((r*1000000000+a[i]) / k:Nat):Int))=(List.replicate i 0++((r*1000000000+a[i]) / k)::q).map d64:=by
   have hr:List.replicate (i+1) 0++q=List.replicate i 0++(0::q):=by rw[DF,Ap];rfl
   rw[hr,set64 (by simp)]
  rw[hset,show w6 ((i:Int)-1)=(i:Int)-1 from ql];exact ih
theorem div_key{x k q r:Nat}(hk:0<k)(e:x=k*q+r)(hr:r<k):x / k=q/\x%k=r:=by
 subst e;exact⟨by rw[EQ hk,CU hr,Ax],by rw[Ed,AJ hr]⟩
theorem wone_run{n x k:Nat}(hk0:0<k)(hk:k<1000000000)(hx:(dg 1000000000 x).length<=1099511627776)(hn:(dg 1000000000 x).length+k+6<=n):evF En (n+1) 220 [wL x,.int .i64 (k:Int)]=some [wL (x / k),wL (x%k)]:=by
 rw[qpb,Aa,mk8,Ae,q1x (Ak _),Ae,rep64,show w6 (((dg 1000000000 x).length:Int)-1)=((dg 1000000000 x).length:Int)-1 from ql];have:=wone_loop (n:=n) (q12 b9_2 x) hk0 hk hx hn (l1:=[]) (l2:=[]) (dg 1000000000 x).length n (Ak _) (by omega);rw[AO (Ak _)]at this;simp only[divL,AN]at this;rw[show(((0:Nat):Int))=0 from rfl]at this;rw[this];obtain⟨g1,g2,g3,g4⟩:=q6f hk0 (dg 1000000000 x) (q12 b9_2 x);rw[q23 b9_2]at g1;rw[<- q3b b9_2 g3];obtain⟨h1,h2⟩:=div_key hk0 g1 g2;rw[h1,h2]
theorem qpc{n x d:Nat}(hd:d<1000000000)(hx:(dg 1000000000 x).length<=1099511627775)(hn:(dg 1000000000 x).length+3<=n):evF En (n+1) 221 [wL x,.int .i64 (d:Int)]=some [wL (x*1000000000+d)]:=by
 obtain⟨n,rfl⟩:=qSx n;rw[qpd,el1,Aa,q4d (by simp;omega),Ac,show [FV.int .i64 (d:Int)]++(dg 1000000000 x).map d64=(d::dg 1000000000 x).map d64 from rfl,q8g (by simp;omega) (by simp;omega)];simp only[Ae,Aj,qy];have hD:Dg 1000000000 (d::dg 1000000000 x):=Dg.cons hd (q12 b9_2 x);rw[<- q3b b9_2 hD];have:vl 1000000000 (d::dg 1000000000 x)=x*1000000000+d:=by simp only[vl];rw[q23 b9_2];omega
 rw[this]
theorem qpe{n x y:Nat}(hy0:0<y)(hx:(dg 1000000000 x).length<=549755813000)(hy:(dg 1000000000 y).length<=549755813000)(hn:(dg 1000000000 x).length+(dg 1000000000 y).length+6<=n):∀(k lo hi m:Nat),hi-lo=k->k<m->lo<=x / y->x / y<=hi->hi<=999999999 ->
  q9b.l3 n [] m [wL x,wL y,.int .i64 (lo:Int),.int .i64 (hi:Int)]=some [.int .i64 ((x / y:Nat):Int)]:=by
 obtain⟨n,rfl⟩:=qSx n;intro k
 induction k using Nat.strongRecOn with
 |_ k ih =>
  intro lo hi m hk hm h1 h2 h3;obtain⟨m,rfl⟩:=qSx m;rw[q9b.qm];by_cases hlt:lo<hi
  ·have hmid:Int.tdiv ((lo+hi+1:Nat):Int) 2=(((lo+hi+1) / 2:Nat):Int):=rfl;have hml:(dg 1000000000 (y*((lo+hi+1) / 2))).length<=(dg 1000000000 y).length+1:=by
    apply q5h b9_2;rw[Ay];exact Nat.mul_lt_mul'' (q9c b9_2 y) (by omega)
   rw[Af,Ac,q2q,qc (by omega),hmid,q43,qj9];simp only[Ae,Aj,qy];rw[qfl];simp only[Ae,Aj,qi];by_cases hle:y*((lo+hi+1) / 2)<=x
   ·have:(lo+hi+1) / 2<=x / y:=by rw[FD hy0,AB];exact hle
    rw[Af (by unfold cmpN;split <;> (try split) <;> omega),Ac];exact ih (hi-(lo+hi+1) / 2) (by omega) ((lo+hi+1) / 2) hi m rfl (by omega) this h2 h3
   ·have:x / y<(lo+hi+1) / 2:=by rw[BP hy0,AB];omega
    rw[Ad (by unfold cmpN;rw[if_neg (by omega),if_pos (by omega)];omega),Ab,show w6 ((((lo+hi+1) / 2:Nat):Int)-1)=(((lo+hi+1) / 2-1:Nat):Int) by rw[ql];omega];exact ih ((lo+hi+1) / 2-1-lo) (by omega) lo ((lo+hi+1) / 2-1) m rfl (by omega) h1 (by omega) (by omega)
  ·rw[Ad,Ab];have:lo=x / y:=by omega
   rw[this]
theorem times_run{n x y:Nat}(hy0:0<y)(hxy:x / y<1000000000)(hx:(dg 1000000000 x).length<=549755813000)(hy:(dg 1000000000 y).length<=549755813000)(hn:(dg 1000000000 x).length+(dg 1000000000 y).length+1000000006<=n) :
  evF En (n+1) 222 [wL x,wL y]=some [.int .i64 ((x / y:Nat):Int)]:=by
 rw[qpf];exact qpe (n:=n) hy0 hx hy (by omega) 999999999 0 999999999 n rfl (by omega) (BT _) (by omega) (by omega)
theorem wdiv_loop{n:Nat}{a:List Nat}{y:Nat}(ha:Dg 1000000000 a)(hy0:0<y)(hl:a.length<=549755812000)(hyl:(dg 1000000000 y).length<=549755812000)(hn:a.length+(dg 1000000000 y).length*4+1000000026<=n){l2 l3:List FV}:∀(i m:Nat),i<=a.length->i<m ->
  q9d.l9 n [] m [L64 a,wL y,.list 1 l2,.list 1 l3,wL (divL 1000000000 y (a.drop i)).1,L64 (List.replicate i 0++(divL 1000000000 y (a.drop i)).2),.int .i64 ((i:Int)-1)] =
   some [L64 (tz (divL 1000000000 y a).2),wL (divL 1000000000 y a).1,.int .i64 0]:=by
 obtain⟨n,rfl⟩:=qSx n;intro i
 induction i with
 |zero =>
  intro m hi hm;obtain⟨m,rfl⟩:=qSx m;obtain⟨g1,g2,g3,g4⟩:=q6f hy0 a ha;rw[q9d.q4m,Ad,Ab,Av,Cq,Au,q8g];simp only[Ae,Aj,qy]
 |succ i ih =>
  intro m hi hm;obtain⟨m,rfl⟩:=qSx m;have hia:i<a.length:=by omega
  have hx:=ha a[i] (Ah hia);have hda:Dg 1000000000 (a.drop (i+1)):=λd hd=>ha d (CA hd);obtain⟨g1,g2,g3,g4⟩:=q6f hy0 (a.drop (i+1)) hda;have ih:=ih m (by omega) (by omega);rw[q1y hia]at ih;simp only[divL]at ih;generalize (divL 1000000000 y (a.drop (i+1))).1=r at g1 g2 ih ⊢;generalize (divL 1000000000 y (a.drop (i+1))).2=q at g1 g3 g4 ih ⊢;have hq:q.length=a.length-(i+1):=by rw[g4,DE]
  have hlen:(List.replicate (i+1) 0++q).length=a.length:=by simp[hq];omega
  have e0:(((i+1:Nat):Int)-1)=(i:Int):=by omega
  have hr1:=qfh (CV g2);have hr2:(dg 1000000000 (r*1000000000+a[i])).length<=(dg 1000000000 y).length+1:=by
   apply q5h b9_2;have h1:=q9c b9_2 y;have:(r+1)*1000000000<=1000000000^(dg 1000000000 y).length*1000000000:=AR _ (by omega);rw[Ay];omega
  have hdig:(r*1000000000+a[i]) / y<1000000000:=by
   rw[BP hy0];have:(r+1)*1000000000<=y*1000000000:=AR _ g2;omega
  have hset:List.set ((List.replicate (i+1) 0++q).map d64) i (.int .i64 (((r*1000000000+a[i]) / y:Nat):Int))=(List.replicate i 0++((r*1000000000+a[i]) / y)::q).map d64:=by
   have hr:List.replicate (i+1) 0++q=List.replicate i 0++(0::q):=by rw[DF,Ap];rfl
   rw[hr,set64 (by simp)]
  have hlen2:(List.replicate i 0++((r*1000000000+a[i]) / y)::q).length=a.length:=by simp[hq];omega
  have hml:y*((r*1000000000+a[i]) / y)<=r*1000000000+a[i]:=Nat.mul_div_le _ _
  rw[q9d.q4m,e0,Af,Ac,Aa,q9 hia,Ae,q6d hia,qi,Ae,qpc (by omega) (by omega) (by omega),Ae,Aj,qy,Ae,times_run hy0 hdig (by omega) (by omega) (by omega),Ae,Aj,qi,Ae,
   Aa,hlen,q9 hia,Ae,hset,Aa,hlen2,q9 hia,Ae,mid64 (by simp),qi,Ae,qj9,Ae,Aj,qy,Ae,
   qfo hml,Ae,Aj,qy,Ae,AP,Aj,qi,Ae,show w6 ((i:Int)-1)=(i:Int)-1 from ql]
  have hmod:r*1000000000+a[i]-y*((r*1000000000+a[i]) / y)=(r*1000000000+a[i])%y:=by
   have:=DG (r*1000000000+a[i]) y;omega
  rw[hmod];exact ih
theorem qjd{x y:Nat}(hy0:y≠0)(hx:(dg 1000000000 x).length<=549755812000)(hyl:(dg 1000000000 y).length<=549755812000):Ev En 186 [wL x,wL y] [wL (x / y),wL (x%y),.int .i64 0]:=by
 have p:=q7k hy0;refine Ev.of ((dg 1000000000 x).length+(dg 1000000000 y).length*4+y+1000000030) λn hn=>?_;obtain⟨n,rfl⟩:=qSx n;rw[qpg,Aa,Aa,show(((dg 1000000000 y).length:Int)==0)=false from Bq.2 (by omega),Ab];by_cases h1:(dg 1000000000 y).length=1
 ·have hy9:y<1000000000:=by have:=q9c b9_2 y;rw[h1]at this;simpa using this
  have e:dg 1000000000 y=[y]:=by
   rw[q3k b9_2 hy0,AJ hy9,CU hy9,q18]
  rw[h1,show(((1:Nat):Int)==1)=true from rfl,Ac,e];rw[show ix (0:Int) 1=some 0 from rfl,Ae,show at' ([y].map d64) 0 0=some (.int .i64 (y:Int)) from rfl,qi,Ae,wone_run (by omega) hy9 (by omega) (by omega)];simp only[Ae,Aj,AP,qy]
 ·rw[show(((dg 1000000000 y).length:Int)==1)=false from Bq.2 (by omega),Ab,mk8,Ae,q1x (Ak _),Ae,rep64,show w6 (((dg 1000000000 x).length:Int)-1)=((dg 1000000000 x).length:Int)-1 from ql];have:=wdiv_loop (n:=n+1) (q12 b9_2 x) (show 0<y by omega) hx hyl (by omega) (l2:=[]) (l3:=[]) (dg 1000000000 x).length (n+1) (Ak _) (by omega);rw[AO (Ak _)]at this;simp only[divL,AN,wL,q18]at this;refine BN this ?_;obtain⟨g1,g2,g3,g4⟩:=q6f (show 0<y by omega) (dg 1000000000 x) (q12 b9_2 x);rw[q23 b9_2]at g1;rw[<- q3b b9_2 g3];obtain⟨h1,h2⟩:=div_key (show 0<y by omega) g1 g2;rw[h1,h2]
theorem w_small{x:Nat}(h:(dg 1000000000 x).length<=2):x<18446744073709551616:=by
 have h1:=q9c b9_2 x;have h2:1000000000^(dg 1000000000 x).length<=1000000000^2:=AU (by omega) h;omega
theorem wgcdl:∀(y x:Nat),(dg 1000000000 x).length<=549755812000->(dg 1000000000 y).length<=549755812000->∃n0,∀n m l2,n0<=n->n0<=m ->
  q6g.l1 n [] m [wL x,wL y,.list 1 l2]=some [wL (Nat.gcd x y)]:=by
 intro y
 induction y using Nat.strongRecOn with
 |_ y ih =>
  intro x hx hy;rcases Bt y with h0 | h0
  ·subst h0;refine⟨1,λn m l2 hn hm=>?_⟩;obtain⟨m,rfl⟩:=qSx m;rw[q6g.q32,Aa,q18,Ad (by simp),Ab,Eb]
  ·have hlt:=AK x h0;have hl0:=q7k (show y≠0 by omega);by_cases hw:(dg 1000000000 x).length<=2/\(dg 1000000000 y).length<=2
   ·have sx:=w_small hw.1;have sy:=w_small hw.2;have hg:Nat.gcd x y<18446744073709551616:=BK (Nat.gcd_le_right x h0) sy;obtain⟨n3,h3⟩:=wof_ev hg;refine⟨n3+y+8,λn m l2 hn hm=>?_⟩;obtain⟨m,rfl⟩:=qSx m;obtain⟨n,rfl⟩:=qSx n
    rw[q6g.q32,Aa,Aa,Af,Ac,Af,Ac,Af,Ac,qjc sx,Ae,Aj,qi,Ae,
     qjc sy,Ae,Aj,qi,Ae,qph,wgcd_loop y x n (by omega),Ae,Aj,qi,Ae,h3 _ (by omega),Ae,Aj,qy,Ae]
   ·obtain⟨n1,h1⟩:=qjd (x:=x) (y:=y) (by omega) hx hy;have hm1:=qfh (CV hlt);obtain⟨n2,h2⟩:=ih (x%y) hlt y hy (by omega);refine⟨n1+n2+1,λn m l2 hn hm=>?_⟩;obtain⟨m,rfl⟩:=qSx m;have key:∀l2,(evF En n 186 [wL x,wL y]).bind (λr4=>(asLst 1 (r4[0]?)).bind λv5=>(asLst 1 (r4[1]?)).bind λv6=>(asInt .i64 (r4[2]?)).bind λn7=>q6g.l1 n [] m [wL y,.list 1 v6,.list 1 l2])=some [wL (Nat.gcd x y)]:=λl2=>by
     rw[h1 _ (by omega),Ae,Aj,qy,Ae,AP,Aj,qy,Ae,AP,AP,Aj,qi,Ae,h2 n m l2 (by omega) (by omega),CB y,<- Ec,CB]
    rw[q6g.q32,Aa,Aa,Af,Ac];by_cases ha:(dg 1000000000 x).length<=2
    ·rw[Af,Ac,Ad,Ab];exact key l2
    ·rw[Ad,Ab];exact key l2
theorem wgcd_ev{x y:Nat}(hx:(dg 1000000000 x).length<=549755812000)(hy:(dg 1000000000 y).length<=549755812000):Ev En 135 [wL x,wL y] [wL (Nat.gcd x y)]:=by
 obtain⟨n0,h⟩:=wgcdl y x hx hy;refine Ev.of n0 λn hn=>?_;rw[qpi];exact h n n [] hn hn
end
section
abbrev d8(c:UInt8):FV:=.int .u8 (c.toNat:Int)
abbrev L8(l:List UInt8):FV:=.list 1 (l.map d8)
theorem app8(l:List UInt8)(c:UInt8):l.map d8++[FV.int .u8 (c.toNat:Int)]=(l++[c]).map d8:=by simp
theorem d8_at{l:List UInt8}{i:Nat}(h:i<l.length):at' (l.map d8) i 0=some (.int .u8 ((l[i]).toNat:Int)):=by rw[q28,Ag h];rfl
theorem qut(l:List UInt8):bytesO (l.map d8)=some (txt l):=by
 unfold bytesO;rw[if_pos (by simp)];simp only[BY,Function.comp_def,Bi,UInt8.ofNat_toNat,List.map_id'];rfl
theorem qmu{d:Nat}(h:d<10):IntKind.wrap .u8 (w6 (48+(d:Int)))=((chD d).toNat:Int):=by
 rw[qeu h,ql];unfold IntKind.wrap;simp[IntKind.bits,IntKind.signed];omega
theorem tmod10(x:Nat):Int.tmod (x:Int) 10=((x%10:Nat):Int):=rfl
theorem tdiv10(x:Nat):Int.tdiv (x:Int) 10=((x / 10:Nat):Int):=rfl
theorem t9_mid{n m0 i:Nat}{a:List FV}(hi:i+1<a.length)(ha:a.length<=1099511627776):∀(j k m x:Nat) (pre:List UInt8),k+j=9->j<m->x<1000000000->pre.length+j<=100000000000000 ->
  q27.l9 n [m0] m [.list 1 a,L8 pre,.int .i64 (i:Int),.int .i64 (x:Int),.int .i64 (k:Int)]=q27.l5 n [] m0 [.list 1 a,L8 (pre++(dK j x).map chD),.int .i64 ((i+1:Nat):Int)]:=by
 intro j
 induction j with
 |zero =>
  intro k m x pre hk hm hx hp;obtain⟨m,rfl⟩:=qSx m;rw[q27.q4m,Ad,Ab,qc (by omega)];simp[dK]
 |succ j ih =>
  intro k m x pre hk hm hx hp;obtain⟨m,rfl⟩:=qSx m;have hd:x%10<10:=AK _ (by omega);have step:=ih (k+1) m (x / 10) (pre++[chD (x%10)]) (by omega) (by omega) (by omega) (by simp;omega);rw[Ap,BR]at step;rw[q27.q4m,Af,Ac,tmod10,qmu hd,el1,Aa,q4d (by simp;omega),qc (show i<9223372036854775807 by omega),Af (show(((i+1:Nat):Int))<(a.length:Int) by omega),app8,tdiv10,q43,qc (by omega)];simp only[Ac];have:dK (j+1) x=x%10::dK j (x / 10):=rfl;rw[this,AM];cases decide ((x:Int)>0)
  ·rw[Ab];exact step
  ·rw[Ac];exact step
theorem t9_top{n m0 i:Nat}{a:List FV}(hi:i+1=a.length)(ha:a.length<=1099511627776):∀(j k m x:Nat) (pre:List UInt8),k+j=9->j<m->x<10^j->j<=9->pre.length+j<=100000000000000 ->
  q27.l9 n [m0] m [.list 1 a,L8 pre,.int .i64 (i:Int),.int .i64 (x:Int),.int .i64 (k:Int)]=q27.l5 n [] m0 [.list 1 a,L8 (pre++(dg 10 x).map chD),.int .i64 ((i+1:Nat):Int)]:=by
 intro j
 induction j with
 |zero =>
  intro k m x pre hk hm hx hj hp;obtain⟨m,rfl⟩:=qSx m;have:x=0:=by simpa using hx
  subst this;rw[q27.q4m,Ad,Ab,qc (by omega),q18];simp
 |succ j ih =>
  intro k m x pre hk hm hx hj hp;obtain⟨m,rfl⟩:=qSx m;have hd:x%10<10:=AK _ (by omega);have hx9:x<1000000000:=AQ hx (AZ (AU (by omega) hj) (by decide));rw[q27.q4m,Af,Ac];by_cases h0:x=0
  ·subst h0;rw[Ad,Ab,qc (show i<9223372036854775807 by omega),Ad,Ab,q18];simp
  ·rw[Af,Ac,tmod10,qmu hd,el1,Aa,q4d (by simp;omega),Ac,app8,tdiv10,q43,qc (by omega)];rw[ih (k+1) m (x / 10) (pre++[chD (x%10)]) (by omega) (by omega) (by rw[BP (by omega),<- Ay];exact hx) (by omega) (by simp;omega),q3k (by omega) h0,Ap];rfl
def tb:List Nat->List UInt8
 |[]=>[]
 |[d]=>(dg 10 d).map chD
 |d::e::r=>(dK 9 d).map chD++tb (e::r)
theorem tb_len:∀(e:List Nat),Dg 1000000000 e->(tb e).length<=9*e.length
 |[],_=>by simp[tb]
 |[d],h=>by
  have:=h d (by simp);have:=q5h (b:=10) (by omega) (n:=d) (k:=9) (by omega);simp[tb];omega
 |d::e::r,h=>by
  have:=tb_len (e::r) h.tail.2;simp only[tb,Bc,Aa,dK_len,Aq]at this ⊢;omega
theorem tb_dg:∀(x:Nat),tb (dg 1000000000 x)=(dg 10 x).map chD:=by
 intro x
 induction x using Nat.strongRecOn with
 |_ x ih =>
  by_cases h0:x=0
  ·subst h0;rw[q18,q18];rfl
  ·by_cases h1:x / 1000000000=0
   ·rw[q3k b9_2 h0,h1,q18];have:x%1000000000=x:=by omega
    rw[this];rfl
   ·have hne:dg 1000000000 (x / 1000000000)≠[]:=λq=>h1 ((q52 b9_2).1 q);have hi:=ih (x / 1000000000) (Cy (by omega) (by omega));rw[q3k b9_2 h0];cases he:dg 1000000000 (x / 1000000000)with
    |nil=>exact absurd he hne
    |cons e r =>
     rw[he]at hi;rw[tb,hi,<- AW,<- dg_dK h1 9 (x%1000000000) (by omega)];congr 2;omega
theorem t5_loop{n:Nat}{a:List Nat}(ha:Dg 1000000000 a)(hl:a.length<=1099511627776)(hn:10<=n):∀(e:List Nat) (i m:Nat) (pre:List UInt8),a.drop i=e->i+e.length=a.length->e.length<m->pre.length+9*e.length<=90000000000000 ->
  q27.l5 n [] m [L64 a,L8 pre,.int .i64 (i:Int)]=q27.l15 n [] n [L8 (pre++tb e),L8 [],.int .i64 (((pre++tb e).length:Int)-1)]:=by
 intro e
 induction e with
 |nil =>
  intro i m pre hi hie hm hp;obtain⟨m,rfl⟩:=qSx m;simp only[Bg,Ax]at hie;rw[q27.q1r,Aa,Aa,Ad,Ab,el0,tb,AN,show w6 ((pre.length:Int)-1)=(pre.length:Int)-1 from ql];rfl
 |cons d e ih =>
  intro i m pre hi hie hm hp;obtain⟨m,rfl⟩:=qSx m;simp only[Aq]at hie hm hp;have hia:i<a.length:=by omega
  have hx:a[i]=d/\a.drop (i+1)=e:=by
   rw[q1y hia]at hi;cases hi;exact⟨rfl,rfl⟩
  have hd:d<1000000000:=by rw[<- hx.1];exact ha _ (Ah hia)
  rw[q27.q1r,Aa,Af,Ac,q9 hia,Ae,q6d hia,qi,Ae,hx.1];cases e with
  |nil =>
   have dl:=q5h (b:=10) (by omega) (n:=d) (k:=9) (by omega);have:=t9_top (n:=n) (m0:=m) (a:=a.map d64) (i:=i) (by simp;simp at hie;omega) (by simp;omega) 9 0 n d pre (by omega) (by omega) (by omega) (by omega) (by omega);rw[show((0:Nat):Int)=0 from rfl]at this;rw[this];exact ih (i+1) m _ hx.2 (by simp at hie ⊢;omega) (by simp at hm ⊢;omega) (by simp;omega) |>.trans (by simp only[tb,AN])
  |cons f r =>
   simp only[Aq]at hie hm hp;have:=t9_mid (n:=n) (m0:=m) (a:=a.map d64) (i:=i) (by simp;omega) (by simp;omega) 9 0 n d pre (by omega) (by omega) (by omega) (by omega);rw[show((0:Nat):Int)=0 from rfl]at this;rw[this];refine(ih (i+1) m _ hx.2 (by simp;omega) (by simp;omega) (by simp[dK_len];omega)).trans ?_;simp only[tb,Ap]
theorem t15_loop{n:Nat}{b:List UInt8}(hl:b.length<=100000000000000):∀(i m:Nat) (out:List UInt8),i<=b.length->i<m->out.length+i<=100000000000000 ->
  q27.l15 n [] m [L8 b,L8 out,.int .i64 ((i:Int)-1)]=some [.str (txt (out++(b.take i).reverse))]:=by
 intro i
 induction i with
 |zero =>
  intro m out hi hm ho;obtain⟨m,rfl⟩:=qSx m;rw[q27.qc7,Ad,Ab,qut];simp
 |succ i ih =>
  intro m out hi hm ho;obtain⟨m,rfl⟩:=qSx m;have hib:i<b.length:=by omega
  have e0:(((i+1:Nat):Int)-1)=(i:Int):=by omega
  rw[q27.qc7,e0,Af,Ac,Aa,q9 hib,Ae,d8_at hib,qi,Ae,el1,Aa,q4d (by simp;omega),Ac,app8,show w6 ((i:Int)-1)=(i:Int)-1 from ql,ih m (out++[b[i]]) (by omega) (by omega) (by simp;omega)];have e:(b.take (i+1)).reverse=b[i]::(b.take i).reverse:=by rw[DB,Ag hib,Option.toList_some,EA];rfl
  rw[e,Ap];rfl
theorem wtext_ev{x:Nat}(hx:(dg 1000000000 x).length<=1000000000000):Ev En 96 [wL x] [sF (qk x)]:=by
 refine Ev.of (9*(dg 1000000000 x).length+12) λn hn=>?_;rw[qu6,Aa];unfold qk;by_cases h0:x=0
 ·subst h0;rw[if_pos rfl,q18];rfl
 ·have p:=q7k h0;rw[if_neg h0,show(((dg 1000000000 x).length:Int)==0)=false from Bq.2 (by omega),Ab,el0];have hb:=tb_len _ (q12 b9_2 x);have:=t5_loop (n:=n) (q12 b9_2 x) (by omega) (by omega) (dg 1000000000 x) 0 n [] rfl (by omega) (by omega) (by simp;omega);refine BN this ?_;rw[Au];have:=t15_loop (n:=n) (b:=tb (dg 1000000000 x)) (by omega) (tb (dg 1000000000 x)).length n [] (Ak _) (by omega) (by simp;omega);refine BN this ?_;rw[Au,Bj,tb_dg,List.map_reverse]
def c9(l:List UInt8)(e:Nat):List Nat:=if e=0 then []else vD ((l.take e).drop (e-9))::c9 l (e-9)
termination_by e
decreasing_by omega
theorem vD_cons(c:UInt8)(t:List UInt8):vD (c::t)=(c.toNat-48)*10^t.length+vD t:=by
 have:=qbu [c] t;rw[BR]at this;rw[this];simp[vD]
theorem c9_vl(l:List UInt8):∀(e:Nat),e<=l.length->vl 1000000000 (c9 l e)=vD (l.take e):=by
 intro e
 induction e using Nat.strongRecOn with
 |_ e ih =>
  intro he;rw[c9];by_cases h0:e=0
  ·subst h0;simp[vl,vD]
  ·rw[if_neg h0];simp only[vl];rw[ih (e-9) (by omega) (by omega)];have hs:l.take e=l.take (e-9)++(l.take e).drop (e-9):=by
    conv=>lhs;rw[<- Ca (e-9) (l.take e)]
    rw[List.take_take,EZ (by omega)]
   conv=>rhs;rw[hs,qbu]
   by_cases h9:e<=9
   ·rw[show e-9=0 by omega,CQ];simp[vD]
   ·have:((l.take e).drop (e-9)).length=9:=by simp;omega
    rw[this,show(10:Nat)^9=1000000000 from rfl];omega
theorem c9_Dg{l:List UInt8}(h:∀c,c∈l->isD c=true):∀(e:Nat),Dg 1000000000 (c9 l e):=by
 intro e
 induction e using Nat.strongRecOn with
 |_ e ih =>
  rw[c9];split
  ·intro d hd;simp at hd
  ·refine Dg.cons ?_ (ih (e-9) (by omega));have:=vD_lt (s:=(l.take e).drop (e-9)) λc hc=>h c (CJ (CA hc));refine AQ this ?_;have h9:((l.take e).drop (e-9)).length<=9:=by simp;omega
   exact AZ (AU (by omega) h9) (by decide)
theorem isD_nat{c:UInt8}(h:isD c=true):48<=c.toNat/\c.toNat<=57:=by
 simpa[isD]using h
theorem qmv{a:List UInt8}{i:Nat}(h:i<a.length):a.drop i=a[i]::a.drop (i+1):=Ba h
theorem p14_loop{n m0:Nat}{l0:List FV}{l:List UInt8}{e:Nat}{cs:List Nat}(hD:∀c,c∈l->isD c=true)(he:e<=l.length)(hl:l.length<=1000000000)(hcs:cs.length<=1000000000):∀(d i m acc:Nat),i+d=e->d<=9->d<m->acc<10^(9-d) ->
  q29.l14 n [m0] m [.list 1 l0,sF l,L64 cs,.int .i64 (e:Int),.int .i64 (acc:Int),.int .i64 (i:Int)]=q29.l10 n [] m0 [.list 1 l0,sF l,L64 (cs++[acc*10^d+vD ((l.take e).drop i)]),.int .i64 ((e:Int)-9)]:=by
 intro d
 induction d with
 |zero =>
  intro i m acc hi h9 hm ha;obtain⟨m,rfl⟩:=qSx m;have:(l.take e).drop i=[]:=AO (by simp;omega);rw[q29.l14_eq,Ad,Ab,el1,Aa,q4d (by simp;omega),Ac,q8f,this,ql,EB,DQ,show vD []=0 from rfl,Ax]
 |succ d ih =>
  intro i m acc hi h9 hm ha;obtain⟨m,rfl⟩:=qSx m;have hil:i<l.length:=by omega
  have hie:i<(l.take e).length:=by simp;omega
  have hg:(l.take e)[i]=l[i]:=by simp
  have hc:=isD_nat (hD l[i] (Ah hil));have hp:10^(9-(d+1))<=10^8:=AU (by omega) (by omega);have hp8:(10:Nat)^8=100000000:=rfl;have hp2:10^(9-d)=10*10^(9-(d+1)):=by rw[show 9-d=9-(d+1)+1 by omega,Ay,AB]
  have e1:IntKind.wrap .u8 (((l[i]).toNat:Int)-48)=((l[i].toNat-48:Nat):Int):=by
   unfold IntKind.wrap;simp[IntKind.bits,IntKind.signed];omega
  have hlen:((l.take e).drop (i+1)).length=d:=by simp;omega
  rw[q29.l14_eq,Af,Ac,q4g,Ag hil,AE,Ae,e1,q43 (x:=l[i].toNat-48),show(10:Int)=((10:Nat):Int) from rfl,qbh,q2q,qc (by omega),
   ih (i+1) m (acc*10+(l[i].toNat-48)) (by omega) (by omega) (by omega) (by rw[hp2];omega),qmv hie,hg,vD_cons,hlen,AT,Ay,<- Bl,AV,AB 10]
theorem p10_loop{n:Nat}{l0:List FV}{l:List UInt8}(hD:∀c,c∈l->isD c=true)(hl:l.length<=1000000000)(hn:l.length+12<=n):∀(e m:Nat) (cs:List Nat),e<=l.length->e<m->cs.length+e<=l.length ->
  q29.l10 n [] m [.list 1 l0,sF l,L64 cs,.int .i64 (e:Int)]=some [L64 (tz (cs++c9 l e)),.int .i64 0]:=by
 obtain⟨n,rfl⟩:=qSx n;have fin:∀(k:Int) (m:Nat) (cs:List Nat),k<=0->cs.length<=l.length->q29.l10 (n+1) [] (m+1) [.list 1 l0,sF l,L64 cs,.int .i64 k]=some [L64 (tz cs),.int .i64 0]:=λk m cs hk hc=>by
  rw[q29.q3l,Ad,Ab,q8g];simp only[Ae,Aj,qy]
 intro e
 induction e using Nat.strongRecOn with
 |_ e ih =>
  intro m cs he hm hc;obtain⟨m,rfl⟩:=qSx m;by_cases h0:e=0
  ·subst h0;rw[c9,if_pos rfl,AN];exact fin 0 m cs (by omega) (by omega)
  ·have est:(if 0<w6 ((e:Int)-9)then w6 ((e:Int)-9)else 0)=((e-9:Nat):Int):=by
    rw[ql];split <;> omega
   rw[q29.q3l,Af,Ac,est,show(0:Int)=((0:Nat):Int) from rfl,
    p14_loop hD he hl (by omega) (e-(e-9)) (e-9) (n+1) 0 (by omega) (by omega) (by omega) (Bz (by omega)),Dm,AG]
   rw[c9,if_neg h0];by_cases h9:e<9
   ·obtain⟨m,rfl⟩:=qSx m;rw[fin _ m _ (by omega) (by simp;omega),show e-9=0 by omega]
    conv=>rhs;rw[c9,if_pos rfl]
    rfl
   ·rw[show(e:Int)-9=((e-9:Nat):Int) by omega,ih (e-9) (by omega) m _ (by omega) (by omega) (by simp;omega),Ap];rfl
theorem p4_good{n:Nat}{l0:List FV}{l:List UInt8}(hl:l.length<=1000000000)(hD:∀c,c∈l->isD c=true):∀(d i m:Nat),i+d=l.length->d<m ->
  q29.l4 n [] m [.list 1 l0,sF l,.int .i64 (i:Int)]=q29.l10 n [] n [.list 1 l0,sF l,L64 [],.int .i64 (l.length:Int)]:=by
 intro d
 induction d with
 |zero =>
  intro i m hi hm;obtain⟨m,rfl⟩:=qSx m;rw[q29.q14,q1e,Ad,Ab,el0];rfl
 |succ d ih =>
  intro i m hi hm;obtain⟨m,rfl⟩:=qSx m;have hil:i<l.length:=by omega
  have hc:=isD_nat (hD l[i] (Ah hil));rw[q29.q14,q1e,Af,Ac,q4g,Ag hil,AE,Ae,Ad,Ab,Ae,Ad,Ab,qc (by omega)];exact ih (i+1) m (by omega) (by omega)
theorem p4_bad{n:Nat}{l0:List FV}{l:List UInt8}(hl:l.length<=1000000000):∀(d i m:Nat),i+d=l.length->d<m->(∃c,c∈l.drop i/\isD c=false) ->
  q29.l4 n [] m [.list 1 l0,sF l,.int .i64 (i:Int)]=some [.list 1 [],.int .i64 10]:=by
 intro d
 induction d with
 |zero =>
  intro i m hi hm hb;obtain⟨c,hc,_⟩:=hb;rw[AO (by omega)]at hc;simp at hc
 |succ d ih =>
  intro i m hi hm hb;obtain⟨m,rfl⟩:=qSx m;have hil:i<l.length:=by omega
  rw[q29.q14,q1e,Af,Ac,q4g,Ag hil,AE,Ae,Ae];by_cases h1:(l[i]).toNat<48
  ·rw[Af,Ac]
  ·rw[Ad,Ab];by_cases h2:57<(l[i]).toNat
   ·rw[Af,Ac]
   ·rw[Ad,Ab,qc (by omega)];refine ih (i+1) m (by omega) (by omega) ?_;obtain⟨c,hc,hb⟩:=hb;rw[qmv hil]at hc;rcases Ar.1 hc with rfl | hc
    ·simp[isD]at hb;omega
    ·exact⟨c,hc,hb⟩
theorem qbq{l:List UInt8}(hc:canon l)(hl:l.length<=1000000000):Ev En 78 [sF l] [wL (vD l),.int .i64 0]:=by
 obtain⟨c1,c2,c3⟩:=hc;have hp:0<l.length:=CZ.2 c1;refine Ev.of (l.length+12) λn hn=>?_;rw[qm8,q1e,show((l.length:Int)==0)=false from Bq.2 (by omega),Ab];have body:q29.l4 n [] n [.list 1 [],sF l,.int .i64 0]=some [wL (vD l),.int .i64 0]:=by
  have h1:=p4_good (n:=n) (l0:=[]) hl c2 l.length 0 n (by omega) (by omega);rw[show((0:Nat):Int)=0 from rfl]at h1;rw[h1];have h2:=p10_loop (n:=n) (l0:=[]) c2 hl (by omega) l.length n [] (Ak _) (by omega) (by simp);refine h2.trans ?_;rw[Au,<- q3b b9_2 (c9_Dg c2 l.length),c9_vl l l.length (Ak _),Bj]
 by_cases h1:1<l.length
 ·have h0:0<l.length:=by omega
  have hne:((((l[0]).toNat:Nat):Int)==48)=false:=by
   rw[Bq];intro q;have:l[0]=48:=Dr.1 (show l[0].toNat=48 by omega);have h:=c3 (by rw[FL,Ag h0,this]);omega
  have ht:=q4g l 0;rw[show((0:Nat):Int)=0 from rfl,Ag h0]at ht;rw[Af,Ac,ht,AE,Ae,hne,Ab];exact body
 ·rw[Ad,Ab];exact body
theorem qe2{l:List UInt8}(hc:¬ canon l)(hl:l.length<=1000000000):Ev En 78 [sF l] [.list 1 [],.int .i64 10]:=by
 refine Ev.of (l.length+12) λn hn=>?_;rw[qm8,q1e];by_cases h0:l=[]
 ·subst h0;rfl
 have hp:0<l.length:=CZ.2 h0;rw[show((l.length:Int)==0)=false from Bq.2 (by omega),Ab];have ht:=q4g l 0;rw[show((0:Nat):Int)=0 from rfl,Ag hp]at ht;by_cases hd:∀c,c∈l->isD c=true
 ·have h48:l.head?=some 48/\l.length≠1:=by
   apply BX;intro q;refine hc ⟨h0,hd,λh=>?_⟩;apply BX;intro q';exact q ⟨h,q'⟩
  have he:l[0]=48:=by
   have:=h48.1;rw[FL,Ag hp]at this;exact Em this
  rw[Af,Ac,ht,AE,Ae,he];rfl
 ·have hb:∃c,c∈l.drop 0/\isD c=false:=by
   apply BX;intro q;refine hd λc hc=>?_;cases hq:isD c with
   |true=>rfl
   |false=>exact absurd ⟨c,hc,hq⟩ q
  have h1:=p4_bad (n:=n) (l0:=[]) hl l.length 0 n (by omega) (by omega) hb;rw[show((0:Nat):Int)=0 from rfl]at h1;by_cases h2:1<l.length
  ·rw[Af,Ac,ht,AE,Ae];cases((((l[0]).toNat:Nat):Int)==48)
   ·rw[Ab];exact h1
   ·rfl
  ·rw[Ad,Ab];exact h1
end
section
abbrev wl(z:Int):FV:=wL z.natAbs
theorem q7t{x k:Nat}(h:x<2^k)(hk:k<=100000000000:=by omega):(dg 1000000000 x).length<=100000000000:=AZ (qi0 b9_2 h) hk
theorem q45(n:Nat):wl (n:Int)=wL n:=rfl
theorem qbr:wL 0=.list 1 []:=by unfold wL;rw[q18];rfl
theorem q4f{x:Nat}{s:Bool}:Ev En 80 [.bool s,wL x] [zb (sg s x),wl (sg s x)]:=by
 refine Ev.of 0 λn hn=>?_;rw[qun];unfold wl zb;rw[sg_abs,sg_neg];cases s
 ·rfl
 ·have:decide ((((dg 1000000000 x).map d64).length:Int)>0)=decide (0<x):=by
   rw[Aa,Bm,As,As];by_cases h:x=0
   ·subst h;rw[q18];simp
   ·have:=q7k h;omega
  rw[Ac,this];rfl
theorem q8m{n:Nat}{z:Int}:evF En (n+1) 94 [zb z,wl z]=some [.int .i64 z.sign]:=by
 rw[qup];by_cases h:z<0
 ·rw[Af h,Ac,CN h]
 ·rw[Ad h,Ab,Aa];by_cases h0:z=0
  ·subst h0;rw[show(0:Int).natAbs=0 from rfl,q18];rfl
  ·have:=q7k (x:=z.natAbs) (by omega);rw[Af,Ac,Co (by omega)]
theorem qk5{n d:Nat}:evF En (n+1) 94 [.bool false,wL d]=some [.int .i64 (if d=0 then 0 else 1)]:=by
 have h:=q8m (n:=n) (z:=(d:Int));rw[q20,q45]at h;rw[h];by_cases h0:d=0
 ·subst h0;rfl
 ·rw[if_neg h0,Co (by omega)]
theorem qdx{z:Int}:Ev En 26 [zb z,wl z] [zb (-z),wl (-z)]:=by
 obtain⟨n1,h1⟩:=q4f (s:=!(decide (z<0))) (x:=z.natAbs);refine Ev.of n1 λn hn=>?_;rw[quk];simp (disch:=omega) only[h1,rr];have:sg (!(decide (z<0))) z.natAbs=-z:=by
  unfold sg;by_cases h:z<0 <;> simp[h] <;> omega
 rw[this]
theorem qds{z w:Int}{k:Nat}(hk:k<=100000000000)(hz:z.natAbs<2^k)(hw:w.natAbs<2^k):Ev En 95 [zb z,wl z,zb w,wl w] [zb (z+w),wl (z+w)]:=by
 have lz:=q7t hz hk;have lw:=q7t hw hk;by_cases hs:decide (z<0)=decide (w<0)
 ·obtain⟨n1,h1⟩:=wadd_ev (x:=z.natAbs) (y:=w.natAbs) (by omega) (by omega);obtain⟨n2,h2⟩:=q4f (s:=decide (w<0)) (x:=z.natAbs+w.natAbs);refine Ev.of (n1+n2) λn hn=>?_;rw[qhz,hs]
  try simp (disch:=omega) only[Be,rr]
  try simp (disch:=omega) only[h1,rr]
  try simp (disch:=omega) only[h2,rr]
  have:sg (decide (w<0)) (z.natAbs+w.natAbs)=z+w:=by
   unfold sg;by_cases h:w<0
   ·have:z<0:=by rw[Af h]at hs;exact of_decide_eq_true hs
    simp[h];omega
   ·have:¬ z<0:=by rw[Ad h]at hs;exact Fk hs
    simp[h];omega
  rw[this]
 ·have hb:(decide (z<0)==decide (w<0))=false:=Bq.2 hs;have hsgn:(z<0/\0<=w)\/(0<=z/\w<0):=by
   by_cases h:z<0 <;> by_cases h':w<0 <;> simp_all <;> omega
  have hc:=λn (hn:(dg 1000000000 z.natAbs).length+(dg 1000000000 w.natAbs).length+1<=n)=>qfl (n:=n) (x:=z.natAbs) (y:=w.natAbs) (by omega) (by omega) hn;by_cases hle:w.natAbs<=z.natAbs
  ·obtain⟨n2,h2⟩:=q4f (x:=z.natAbs-w.natAbs) (s:=decide (z<0));refine Ev.of (n2+(dg 1000000000 z.natAbs).length*2+(dg 1000000000 w.natAbs).length+6) λn hn=>?_;obtain⟨n,rfl⟩:=qSx n;rw[qhz,hb,Ab,hc n (by omega)];simp only[Ae,Aj,qi];rw[Af (show cmpN z.natAbs w.natAbs≥0 by unfold cmpN;rw[if_neg (by omega)];split <;> omega),Ac,qfo hle]
   try simp (disch:=omega) only[h2,rr]
   try simp (disch:=omega) only[h2,rr]
   have:sg (decide (z<0)) (z.natAbs-w.natAbs)=z+w:=by
    unfold sg;by_cases h:z<0 <;> simp[h] <;> omega
   rw[this]
  ·obtain⟨n2,h2⟩:=q4f (x:=w.natAbs-z.natAbs) (s:=decide (w<0));refine Ev.of (n2+(dg 1000000000 w.natAbs).length*2+(dg 1000000000 z.natAbs).length+6) λn hn=>?_;obtain⟨n,rfl⟩:=qSx n;rw[qhz,hb,Ab,hc n (by omega)];simp only[Ae,Aj,qi];rw[Ad (show ¬ cmpN z.natAbs w.natAbs≥0 by unfold cmpN;rw[if_pos (by omega)];omega),Ab,qfo]
   try simp (disch:=omega) only[h2,rr]
   try simp (disch:=omega) only[h2,rr]
   have:sg (decide (w<0)) (w.natAbs-z.natAbs)=z+w:=by
    unfold sg;by_cases h:w<0 <;> simp[h] <;> omega
   rw[this]
theorem wsub_z{z w:Int}{k:Nat}(hk:k<=100000000000)(hz:z.natAbs<2^k)(hw:w.natAbs<2^k):Ev En 162 [zb z,wl z,zb w,wl w] [zb (z-w),wl (z-w)]:=by
 obtain⟨n1,h1⟩:=qdx (z:=w);obtain⟨n2,h2⟩:=qds (w:=-w) hk hz (by rw[BE];exact hw);refine Ev.of (n1+n2) λn hn=>?_;rw[qus]
 try simp (disch:=omega) only[h1,rr]
 try simp (disch:=omega) only[h2,rr]
 rw[Int.sub_eq_add_neg]
theorem q9k{z w:Int}{k:Nat}(hk:k+k<=100000000000)(hz:z.natAbs<2^k)(hw:w.natAbs<2^k):Ev En 42 [zb z,wl z,zb w,wl w] [zb (z*w),wl (z*w)]:=by
 have lz:=q7t hz;have lw:=q7t hw;obtain⟨n1,h1⟩:=wmul_ev (x:=z.natAbs) (y:=w.natAbs) (by omega);obtain⟨n2,h2⟩:=q4f (s:=!(decide (z<0)==decide (w<0))) (x:=z.natAbs*w.natAbs);refine Ev.of (n1+n2) λn hn=>?_;rw[qum]
 try simp (disch:=omega) only[h1,rr]
 try simp (disch:=omega) only[h2,rr]
 have:sg (!(decide (z<0)==decide (w<0))) (z.natAbs*w.natAbs)=z*w:=sg_mul z w;rw[this]
theorem sign_cmp(z w:Int):(z-w).sign=q26 z w:=by
 unfold q26;rcases Int.lt_trichotomy z w with h | h | h
 ·rw[if_pos h,CN (by omega)]
 ·subst h;simp
 ·rw[if_neg (by omega),if_pos h,Co (by omega)]
theorem wcmp_z{z w:Int}{k:Nat}(hk:k<=100000000000)(hz:z.natAbs<2^k)(hw:w.natAbs<2^k):Ev En 100 [zb z,wl z,zb w,wl w] [.int .i64 (q26 z w)]:=by
 obtain⟨n1,h1⟩:=wsub_z hk hz hw;refine Ev.of (n1+1) λn hn=>?_;obtain⟨n,rfl⟩:=qSx n;rw[quq]
 try simp (disch:=omega) only[h1,rr]
 try simp (disch:=omega) only[q8m,rr]
 rw[sign_cmp]
theorem qdr{z:Int}(h1:-9223372036854775808<=z:=by omega)(h2:z<=9223372036854775807:=by omega):Ev En 40 [.int .i64 z] [zb z,wl z]:=by
 obtain⟨n1,g1⟩:=wof_ev (x:=z.natAbs) (by omega);obtain⟨n2,g2⟩:=q4f (s:=decide (z<0)) (x:=z.natAbs);refine Ev.of (n1+n2) λn hn=>?_;rw[qul];by_cases h:z<0
 ·rw[Af h]at g2;have e:IntKind.wrap .u64 (IntKind.wrap .u64 (w6 (0-w6 (z+1)))+1)=(z.natAbs:Int):=by
   rw[ql (x:=z+1),ql];unfold IntKind.wrap;simp[IntKind.bits,IntKind.signed];omega
  rw[Ad,e]
  try simp (disch:=omega) only[g1,rr]
  try simp (disch:=omega) only[g2,rr]
  have:sg true z.natAbs=z:=by unfold sg;simp;omega
  rw[this]
 ·rw[Ad h]at g2;have e:IntKind.wrap .u64 z=(z.natAbs:Int):=by
   unfold IntKind.wrap;simp[IntKind.bits,IntKind.signed];omega
  rw[Af,e]
  try simp (disch:=omega) only[g1,rr]
  try simp (disch:=omega) only[g2,rr]
  have:sg false z.natAbs=z:=by unfold sg;simp;omega
  rw[this]
theorem wqr_ev{z w:Int}{k:Nat}(hk:k<=100000000000)(h0:w≠0)(hz:z.natAbs<2^k)(hw:w.natAbs<2^k) :
  Ev En 136 [zb z,wl z,zb w,wl w] [zb (z.tdiv w),wl (z.tdiv w),zb (z.tmod w),wl (z.tmod w),.int .i64 0]:=by
 have lz:=q7t hz;have lw:=q7t hw;obtain⟨n1,h1⟩:=qjd (x:=z.natAbs) (y:=w.natAbs) (by omega) (by omega) (by omega);obtain⟨n2,h2⟩:=q4f (s:=!(decide (z<0)==decide (w<0))) (x:=z.natAbs / w.natAbs);obtain⟨n3,h3⟩:=q4f (s:=decide (z<0)) (x:=z.natAbs%w.natAbs);refine Ev.of (n1+n2+n3) λn hn=>?_;rw[qur]
 try simp (disch:=omega) only[h1,rr]
 try simp only[show((0:Int) !=0)=false from rfl,rr]
 try simp (disch:=omega) only[h2,rr]
 try simp (disch:=omega) only[h3,rr]
 rw[sg_div z w,sg_mod z w]
theorem qgf{z:Int}{k:Nat}(hk:k<=100000000000)(hz:z.natAbs<2^k):Ev En 25 [zb z,wl z] [sF (qu z)]:=by
 have lz:=q7t hz;have lt:=q9m hz;obtain⟨n1,h1⟩:=wtext_ev (x:=z.natAbs) (by omega);refine Ev.of n1 λn hn=>?_;rw[quj];unfold qu;by_cases h:z<0
 ·rw[Af h,if_pos h];simp (disch:=omega) only[h1,rr];rw[q1e,Ad,Ab,show({ data:=#[45] }:ByteArray)=txt [45] from rfl,q5l];rfl
 ·rw[Ad h,if_neg h];simp (disch:=omega) only[h1,rr]
theorem len_wL(x:Nat):((((dg 1000000000 x).map d64).length:Int)==0)=decide (x=0):=by
 rw[Aa,Bm,Bv,As];by_cases h:x=0
 ·subst h;rw[q18];simp
 ·have:=q7k h;omega
theorem qgh{l:List UInt8}{z:Int}(h:pz l=some z)(hl:l.length<=1000000000):Ev En 77 [sF l] [zb z,wl z,.int .i64 0]:=by
 have hb:=qao h;have e:=q4q.1 h;by_cases hz:z<0
 ·have hl2:l=45::qk z.natAbs:=by rw[e];unfold qu;rw[if_pos hz]
  obtain⟨n1,h1⟩:=qbq (l:=qk z.natAbs) (q6o _) (by rw[hl2]at hl;simp at hl;omega);rw[q6p]at h1;obtain⟨n2,h2⟩:=q4f (s:=true) (x:=z.natAbs);refine Ev.of (n1+n2) λn hn=>?_;subst hl2;have ht:=q4g (45::qk z.natAbs) 0;rw[show((0:Nat):Int)=0 from rfl,Aj,AE]at ht
  rw[qcn,q1e,Af (by simp),Ac,ht,Ae,show((((45:UInt8).toNat:Nat):Int)==45)=true from rfl,Ac,show(1:Int)=((1:Nat):Int) from rfl,q1x (by simp),Ae,q5m,
   show((45::qk z.natAbs).take (45::qk z.natAbs).length).drop 1=qk z.natAbs by rw[Bj];rfl]
  try simp (disch:=omega) only[h1,rr]
  try simp only[show((0:Int) !=0)=false from rfl,rr]
  rw[len_wL,Ad]
  try simp (disch:=omega) only[h2,rr]
  try simp (disch:=omega) only[h2,rr]
  have:sg true z.natAbs=z:=by unfold sg;simp;omega
  rw[this]
 ·have hl2:l=qk z.natAbs:=by rw[e];unfold qu;rw[if_neg hz]
  have hc:canon l:=hl2▸q6o _;obtain⟨c,t,rfl⟩:∃c t,l=c::t:=by
   cases l with
   |nil=>exact absurd rfl hc.1
   |cons c t=>exact⟨c,t,rfl⟩
  have h45:((c.toNat:Int)==45)=false:=by
   rw[Bq];intro q;have:c=45:=Dr.1 (show c.toNat=45 by omega);subst this;exact qi5 hc
  obtain⟨n1,h1⟩:=qbq (l:=c::t) hc hl;have hv:vD (c::t)=z.natAbs:=by rw[hl2,q6p]
  rw[hv]at h1;obtain⟨n2,h2⟩:=q4f (s:=false) (x:=z.natAbs);refine Ev.of (n1+n2) λn hn=>?_;have ht:=q4g (c::t) 0;rw[show((0:Nat):Int)=0 from rfl,Aj,AE]at ht;rw[qcn,q1e,Af (by simp),Ac,ht,Ae,h45]
  try simp (disch:=omega) only[h1,rr]
  try simp only[show((0:Int) !=0)=false from rfl,rr]
  try simp (disch:=omega) only[h2,rr]
  have:sg false z.natAbs=z:=by unfold sg;simp;omega
  rw[this]
theorem qkd{l:List UInt8}(h:pz l=none)(hl:l.length<=1000000000:=by omega):Ev En 77 [sF l] [.bool false,.list 1 [],.int .i64 10]:=by
 cases l with
 |nil =>
  obtain⟨n1,h1⟩:=qe2 (l:=[]) (λhc=>hc.1 rfl) hl;refine Ev.of n1 λn hn=>?_;rw[qcn,q1e,Ad (by simp),Ab]
  try simp (disch:=omega) only[h1,rr]
  try simp only[show((10:Int) !=0)=true from rfl,rr]
 |cons c t =>
  have ht:=q4g (c::t) 0;rw[show((0:Nat):Int)=0 from rfl,Aj,AE]at ht;by_cases h45:c=45
  ·subst h45;simp only[Aq]at hl;have head:∀n,evF En (n+1) 77 [sF (45::t)]=(evF En n 78 [sF t]).bind λr2=>(asLst 1 (r2[0]?)).bind λv3=>(asInt .i64 (r2[1]?)).bind λn4 =>
     (bif(n4 !=0)then some [.bool false,.list 1 [],.int .i64 10]
      else(bif((v3.length:Int)==0)then some [.bool false,.list 1 [],.int .i64 10]
       else(evF En n 80 [.bool true,.list 1 v3]).bind λr5=>(asBool (r5[0]?)).bind λc6=>(asLst 1 (r5[1]?)).bind λv7=>some [.bool c6,.list 1 v7,.int .i64 0])):=λn=>by
    rw[qcn,q1e,Af (by simp),Ac,ht,Ae,show((((45:UInt8).toNat:Nat):Int)==45)=true from rfl,Ac,show(1:Int)=((1:Nat):Int) from rfl,q1x (by simp),Ae,q5m,
     show((45::t).take (45::t).length).drop 1=t by rw[Bj];rfl]
    rfl
   by_cases hc:canon t
   ·have hv:vD t=0:=by
     apply BX;intro q;rw[pz_neg hc q]at h;cases h
    obtain⟨n1,h1⟩:=qbq (l:=t) hc (by omega);rw[hv]at h1;refine Ev.of n1 λn hn=>?_;rw[head]
    try simp (disch:=omega) only[h1,rr]
    try simp only[show((0:Int) !=0)=false from rfl,rr]
    rw[len_wL];rfl
   ·obtain⟨n1,h1⟩:=qe2 (l:=t) hc (by omega);refine Ev.of n1 λn hn=>?_;rw[head]
    try simp (disch:=omega) only[h1,rr]
    try simp only[show((10:Int) !=0)=true from rfl,rr]
  ·have hb:((c.toNat:Int)==45)=false:=by
    rw[Bq];intro q;exact h45 (Dr.1 (show c.toNat=45 by omega))
   have hc:¬ canon (c::t):=λhc=>by rw[pz_pos hc]at h;cases h
   obtain⟨n1,h1⟩:=qe2 (l:=c::t) hc hl;refine Ev.of n1 λn hn=>?_;rw[qcn,q1e,Af (by simp),Ac,ht,Ae,hb]
   try simp (disch:=omega) only[h1,rr]
   try simp only[show((10:Int) !=0)=true from rfl,rr]
end
end Rf
