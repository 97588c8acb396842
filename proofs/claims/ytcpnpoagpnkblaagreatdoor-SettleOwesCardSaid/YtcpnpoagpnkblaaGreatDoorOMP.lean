/- Texts of this work put together, their blanks and comments taken out: NatA. -/
import Derived.Test.YtcpnpoagpnkblaaGreatDoorOMI
import Derived.Test.YtcpnpoagpnkblaaGreatDoorOMG
set_option linter.unusedVariables false
set_option linter.unusedSimpArgs false
section
section
/- The program's numbers: each function by what its numbers are. -/
set_option maxHeartbeats 1000000
namespace Rf
open Go
theorem qq:2<=4294967296:=by decide
theorem set_mid{α:Type}(pre:List α)(x y:α)(r:List α):(pre++x::r).set pre.length y=pre++y::r:=by
 rw[FG _ _ (Ak _),Cn];rfl
theorem qci{pre:List Nat}{d y i:Nat}(h:pre.length=i:=by omega):List.set ((pre++List.replicate (d+1) 0).map d32) i (.int .u32 (y:Int))=((pre++[y])++List.replicate d 0).map d32:=by
 subst h;rw[Cc,Bc,AQ];have:=set_mid (pre.map d32) (d32 0) (d32 y) ((List.replicate d 0).map d32);rw[Aa]at this;rw[this];simp
theorem q1w{a:List Nat}{i:Nat}(h:i<a.length):a.drop i=a[i]::a.drop (i+1):=AY h
theorem rep0(k:Nat):List.replicate k (FV.int .u32 0)=(List.replicate k 0).map d32:=by rw[EQ];rfl
theorem mk4{k:Nat}(h:k<=1099511627776:=by omega):q1r 4 (k:Int)=some k:=by
 unfold q1r;rw[if_pos ⟨by omega,by omega,by omega⟩];simp
theorem trim_loop{n:Nat}{l0:List FV}:∀(k:Nat) (l:List Nat) (m:Nat),l.length=k->k<m->k<=1099511627776+1->q9r.l1 n [] m [.list 1 l0,L32 l]=some [L32 (tz l)]:=by
 intro k
 induction k with
 |zero =>
  intro l m hl hm hk;obtain⟨m,rfl⟩:=qSx m;have:l=[]:=BF hl;subst this;rw[q9r.q30];rfl
 |succ k ih =>
  intro l m hl hm hk;obtain⟨m,rfl⟩:=qSx m;obtain⟨r,d,rfl⟩:∃r d,l=r++[d]:=by
   rcases Dm l with h | ⟨r,d,h⟩
   ·subst h;simp at hl
   ·exact⟨r,d,by simpa using h⟩
  have hr:r.length=k:=by simpa using hl
  rw[q9r.q30,Aa,Af,Ac,hl];have e1:w6 (((k+1:Nat):Int)-1)=(k:Int):=by rw[qk];omega
  have hat:at' ((r++[d]).map d32) k 0=some (.int .u32 (d:Int)):=by
   rw[q3t (by rw[hl];omega)];simp[<- hr]
  rw[e1,q9,Ae,hat,qi,Ae];by_cases h0:d=0
  ·subst h0;rw[show(((0:Nat):Int)==0)=true from rfl,Ac,q1v,Ae,qcr];have:List.drop 0 (List.take k ((r++[0]).map d32))=r.map d32:=by
    rw[Av,Bc,Ea (by simp[hr]),CU (by simp[hr])]
   rw[this];exact ih r m hr (by omega) (by omega)
  ·rw[show((d:Int)==0)=false from Bn.2 (by omega),Ab,qcs h0]
theorem q8w{n:Nat}{l:List Nat}(h:l.length<=1099511627776+1:=by omega)(hn:l.length<n:=by omega):evF En (n+1) 229 [L32 l]=some [L32 (tz l)]:=by
 rw[qqn];exact trim_loop l.length l n rfl hn h
theorem sum32{c x:Nat}(h:c+x<18446744073709551616)(hx:x<4294967296):IntKind.wrap .u64 ((c:Int)+IntKind.wrap .u64 (x:Int))=((c+x:Nat):Int):=by
 rw[q1b (by omega:x<18446744073709551616),q7j h]
theorem lo32(x:Nat):IntKind.wrap .u32 (x:Int)=((x%4294967296:Nat):Int):=wrap_u32 x
theorem hi32(x:Nat):shI false .u64 (x:Int) 32=((x / 4294967296:Nat):Int):=by
 have:=qbm .u64 x 32 (by decide);rw[show((32:Nat):Int)=32 from rfl]at this;rw[this]
theorem add_loop{n:Nat}{a b:List Nat}(ha:Dg 4294967296 a)(hb:Dg 4294967296 b)(hab:b.length<=a.length)(hl:a.length<=1099511627776)(hn:a.length+3<=n){l2:List FV}:∀(d i m:Nat) (pre:List Nat) (c:Nat),i+d=a.length->d<m->pre.length=i->c<=1 ->
  q6s.l6 n [] m [L32 a,L32 b,.list 1 l2,L32 (pre++List.replicate (d+1) 0),.int .u64 (c:Int),L32 a,.int .i64 (a.length:Int),.int .i64 (i:Int)]=some [L32 (tz (pre++addL 4294967296 (a.drop i) (b.drop i) c))]:=by
 intro d
 induction d with
 |zero =>
  intro i m pre c hi hm hp hc;obtain⟨m,rfl⟩:=qSx m;obtain⟨n,rfl⟩:=qSx n;rw[q6s.q2o,Ad,Ab];simp only[Aa,Bb,Dd,q9 (show a.length<pre.length+(0+1) by omega),Ae];rw[lo32,AK (by omega:c<4294967296),qci,Co,AM,q8w (by simp;omega) (by simp;omega)];simp only[Ae,Aj,qy];rw[AN (by omega)];rfl
 |succ d ih =>
  intro i m pre c hi hm hp hc;obtain⟨m,rfl⟩:=qSx m;have hia:i<a.length:=by omega
  have hx:=ha a[i] (Ah hia);rw[q6s.q2o,Af,Ac,q1w hia];simp only[Aa,Bb,Dd,q9 hia,Ae,q3t hia,qi,q9 (show i<pre.length+(d+1+1) by omega),addL];by_cases hib:i<b.length
  ·have hy:=hb b[i] (Ah hib);rw[Af,Ac,q1w hib];simp only[q9 hib,Ae,q3t hib,qi,List.headD_cons,EF];rw[sum32 (by omega) hx,sum32 (by omega) hy,lo32,hi32,qci hp,qc]
   rw[ih (i+1) m (pre++[(c+a[i]+b[i])%4294967296]) ((c+a[i]+b[i]) / 4294967296) (by omega) (by omega) (by simp[hp]) (by
    have:=BI (m:=c+a[i]+b[i]) (n:=4294967296) (k:=2) (by omega)
    omega)]
   rw[Ap];rfl
  ·rw[Ad,Ab,AN (show b.length<=i by omega)];simp only[List.headD_nil,List.tail_nil,Ay];rw[sum32 (by omega) hx,lo32,hi32,qci hp,qc]
   have:=ih (i+1) m (pre++[(c+a[i])%4294967296]) ((c+a[i]) / 4294967296) (by omega) (by omega) (by simp[hp]) (by
    have:=BI (m:=c+a[i]) (n:=4294967296) (k:=2) (by omega)
    omega)
   rw[AN (show b.length<=i+1 by omega)]at this;rw[this,Ap];rfl
theorem natAdd_ev{x y:Nat}(hx:(dg 4294967296 x).length<=1099511627776-1)(hy:(dg 4294967296 y).length<=1099511627776-1):Ev En 200 [L32 (dg 4294967296 x),L32 (dg 4294967296 y)] [L32 (dg 4294967296 (x+y))]:=by
 have main:∀(u v:Nat),(dg 4294967296 v).length<=(dg 4294967296 u).length->(dg 4294967296 u).length<=1099511627776-1->∀n,(dg 4294967296 u).length+3<=n ->
   ((q1r 4 (w6 (((dg 4294967296 u).length:Int)+1))).bind λi0=>(bd (w6 (((dg 4294967296 u).length:Int)+1)) i0).bind λi1=>q6s.l6 n [] n [L32 (dg 4294967296 u),L32 (dg 4294967296 v),.list 1 [],.list 1 (List.replicate i1 (.int .u32 0:FV)),.int .u64 0,L32 (dg 4294967296 u),.int .i64 ((dg 4294967296 u).length:Int),.int .i64 0])=some [L32 (dg 4294967296 (u+v))]:=λu v h1 h2 n hn=>by
  rw[qc,mk4,Ae,q1v (Ak _),Ae,rep0];have:=add_loop (n:=n) (q12 qq u) (q12 qq v) h1 (by omega) hn (l2:=[]) (dg 4294967296 u).length 0 n [] 0 (by omega) (by omega) rfl (by omega);rw[At,Av,Av,At]at this;rw[show(((0:Nat):Int))=0 from rfl]at this;rw[this,<- q39 qq (qfb qq _ _ 0 (q12 qq u) (q12 qq v) (by omega)),qfc _ _ _ h1,q22 qq,q22 qq,Ay]
 refine Ev.of ((dg 4294967296 x).length+(dg 4294967296 y).length+3) λn hn=>?_;rw[qqh,Aa,Aa];by_cases h:(dg 4294967296 x).length<(dg 4294967296 y).length
 ·rw[Af,Ac,main y x (by omega) hy n (by omega),Bo]
 ·rw[Ad,Ab,main x y (by omega) hx n (by omega)]
theorem qhr{x:Nat}(hx:x<18446744073709551616):Ev En 204 [.int .u64 (x:Int)] [L32 (dg 4294967296 x)]:=by
 refine Ev.of 5 λn hn=>?_;obtain⟨n,rfl⟩:=qSx n;rw[nat_Of_eq,lo32,hi32,lo32];have e:qd 2 (.int .u32 0) [(0,(.int .u32 ((x%4294967296:Nat):Int))),(1,(.int .u32 ((x / 4294967296%4294967296:Nat):Int)))]=[x%4294967296,x / 4294967296%4294967296].map d32:=rfl;rw[e,q8w (by simp) (by simp;omega)];simp only[Ae,Aj,qy];have hd:Dg 4294967296 [x%4294967296,x / 4294967296%4294967296]:=λd hd=>by
  simp only[Ar,List.not_mem_nil,or_false]at hd;omega
 rw[<- q39 qq hd];have:vl 4294967296 [x%4294967296,x / 4294967296%4294967296]=x:=by simp only[vl];omega
 rw[this]
theorem mul64{x y:Nat}(hx:x<4294967296)(hy:y<4294967296):IntKind.wrap .u64 (IntKind.wrap .u64 (x:Int)*IntKind.wrap .u64 (y:Int))=((x*y:Nat):Int)/\x*y<=18446744065119617025:=by
 have h:x*y<=4294967295*4294967295:=Cw (by omega) (by omega);exact⟨by rw[q1b,q1b,qbb],h⟩
theorem qvu{n:Nat}{a:List Nat}{k:Nat}(ha:Dg 4294967296 a)(hk:k<4294967296)(hl:a.length<=1099511627776)(hn:a.length+3<=n){l1:List FV}:∀(d i m:Nat) (pre:List Nat) (c:Nat),i+d=a.length->d<m->pre.length=i->c<4294967296 ->
  q9t.l4 n [] m [L32 a,.list 1 l1,.int .u32 (k:Int),L32 (pre++List.replicate (d+1) 0),.int .u64 (c:Int),L32 a,.int .i64 (a.length:Int),.int .i64 (i:Int)]=some [L32 (tz (pre++mulL 4294967296 (a.drop i) k c))]:=by
 intro d
 induction d with
 |zero =>
  intro i m pre c hi hm hp hc;obtain⟨m,rfl⟩:=qSx m;obtain⟨n,rfl⟩:=qSx n;rw[q9t.q14,Ad,Ab];simp only[Aa,Bb,Dd,q9 (show a.length<pre.length+(0+1) by omega),Ae];rw[lo32,AK hc,qci,Co,AM,q8w (by simp;omega) (by simp;omega)];simp only[Ae,Aj,qy];rw[AN (by omega)];rfl
 |succ d ih =>
  intro i m pre c hi hm hp hc;obtain⟨m,rfl⟩:=qSx m;have hia:i<a.length:=by omega
  have hx:=ha a[i] (Ah hia);obtain⟨e1,e2⟩:=mul64 hx hk;rw[q9t.q14,Af,Ac,q1w hia];simp only[Aa,Bb,Dd,q9 hia,Ae,q3t hia,qi,q9 (show i<pre.length+(d+1+1) by omega),mulL];rw[e1,q7j,lo32,hi32,qci hp,qc];rw[ih (i+1) m (pre++[(c+a[i]*k)%4294967296]) ((c+a[i]*k) / 4294967296) (by omega) (by omega) (by simp[hp]) (BI (qb9 hx hk hc))];rw[Ap];rfl
theorem qvp{x k c:Nat}(hk:k<4294967296)(hc:c<4294967296)(hx:(dg 4294967296 x).length<=1099511627775):Ev En 250 [L32 (dg 4294967296 x),.int .u32 (k:Int),.int .u32 (c:Int)] [L32 (dg 4294967296 (x*k+c))]:=by
 refine Ev.of ((dg 4294967296 x).length+3) λn hn=>?_;rw[qqs,Aa,qc,mk4,Ae,q1v (Ak _),Ae,rep0,q1b];have:=qvu (n:=n) (q12 qq x) hk (by omega) hn (l1:=[]) (dg 4294967296 x).length 0 n [] c (by omega) (by omega) rfl hc;rw[At,Av,At]at this;rw[show(((0:Nat):Int))=0 from rfl]at this;rw[this,<- q39 qq (qf8 _ k c (q12 qq x) hk hc),qf9,q22 qq]
theorem qb8{α:Type}{pre:List α}{x y:α}{r:List α}{i:Nat}(h:pre.length=i):(pre++x::r).set i y=pre++y::r:=by subst h;exact set_mid pre x y r
theorem qvv{n:Nat}{a:List Nat}{k:Nat}(ha:Dg 4294967296 a)(hk0:0<k)(hk:k<4294967296)(hl:a.length<=1099511627776)(hn:a.length+3<=n){l1:List FV}:∀(i m:Nat),i<=a.length->i<m ->
  q9q.l4 n [] m [L32 a,.list 1 l1,.int .u32 (k:Int),L32 (List.replicate i 0++(divL 4294967296 k (a.drop i)).2),.int .u64 (((divL 4294967296 k (a.drop i)).1:Nat):Int),.int .i64 ((i:Int)-1)] =
   some [L32 (tz (divL 4294967296 k a).2),.int .u32 (((divL 4294967296 k a).1:Nat):Int)]:=by
 intro i
 induction i with
 |zero =>
  intro m hi hm;obtain⟨m,rfl⟩:=qSx m;obtain⟨n,rfl⟩:=qSx n;obtain⟨g1,g2,g3,g4⟩:=q6f hk0 a ha;rw[q9q.q14,Ad,Ab,Av,Co,At,q8w];simp only[Ae,Aj,qy];rw[lo32,AK (by omega)]
 |succ i ih =>
  intro m hi hm;obtain⟨m,rfl⟩:=qSx m;have hia:i<a.length:=by omega
  have hx:=ha a[i] (Ah hia);have hda:Dg 4294967296 (a.drop (i+1)):=λd hd=>ha d (Cy hd);obtain⟨g1,g2,g3,g4⟩:=q6f hk0 (a.drop (i+1)) hda;have ih:=ih m (by omega) (by omega);rw[q1w hia]at ih;simp only[divL]at ih;generalize (divL 4294967296 k (a.drop (i+1))).1=r at g1 g2 ih ⊢;generalize (divL 4294967296 k (a.drop (i+1))).2=q at g1 g3 g4 ih ⊢;have hq:q.length=a.length-(i+1):=by rw[g4,DF]
  have hlen:(List.replicate (i+1) 0++q).length=a.length:=by simp[hq];omega
  have e0:(((i+1:Nat):Int)-1)=(i:Int):=by omega
  have e1:bitI .or .u64 (shI true .u64 (r:Int) 32) (IntKind.wrap .u64 (a[i]:Int))=((r*4294967296+a[i]:Nat):Int):=by
   have h1:=qal .u64 r 32 (by decide);rw[show((32:Nat):Int)=32 from rfl]at h1;rw[h1,q1b,q1b,qbn,qdw (s:=32) (by omega)]
  have e2:Int.tdiv ((r*4294967296+a[i]:Nat):Int) (k:Int)=(((r*4294967296+a[i]) / k:Nat):Int):=rfl;have e3:Int.tmod ((r*4294967296+a[i]:Nat):Int) (k:Int)=(((r*4294967296+a[i])%k:Nat):Int):=rfl;have hdig:(r*4294967296+a[i]) / k<4294967296:=by
   rw[BJ hk0];have:(r+1)*4294967296<=k*4294967296:=AR _ g2;omega
  rw[q9q.q14,e0,Af,Ac,q1b (show k<18446744073709551616 by omega),show decide ((k:Int)=0)=false from Ad];simp only[Aa,hlen,q9 hia,Ae,q3t hia,qi,Ab];rw[e1,e2,e3,q1b,q6q hdig];have hset:List.set ((List.replicate (i+1) 0++q).map d32) i (.int .u32 (((r*4294967296+a[i]) / k:Nat):Int))=(List.replicate i 0++((r*4294967296+a[i]) / k)::q).map d32:=by
   have hr:List.replicate (i+1) 0++q=List.replicate i 0++(0::q):=by rw[DG,Ap];rfl
   rw[hr,Bc,AQ,qb8 (by simp),Bc,AQ]
  rw[hset,show w6 ((i:Int)-1)=(i:Int)-1 from qk];exact ih
theorem qn8{x k:Nat}(hk0:0<k)(hk:k<4294967296)(hx:(dg 4294967296 x).length<=1099511627775):Ev En 205 [L32 (dg 4294967296 x),.int .u32 (k:Int)] [L32 (dg 4294967296 (x / k)),.int .u32 ((x%k:Nat):Int)]:=by
 refine Ev.of ((dg 4294967296 x).length+3) λn hn=>?_;rw[qqj,Aa,mk4,Ae,q1v (Ak _),Ae,rep0,show w6 (((dg 4294967296 x).length:Int)-1)=((dg 4294967296 x).length:Int)-1 from qk];have:=qvv (n:=n) (q12 qq x) hk0 hk (by omega) hn (l1:=[]) (dg 4294967296 x).length n (Ak _) (by omega);rw[AN (Ak _)]at this;simp only[divL,AM]at this;rw[show(((0:Nat):Int))=0 from rfl]at this;rw[this];obtain⟨g1,g2,g3,g4⟩:=q6f hk0 (dg 4294967296 x) (q12 qq x);rw[q22 qq]at g1;rw[<- q39 qq g3];have key:∀q r:Nat,x=k*q+r->r<k->x / k=q/\x%k=r:=by
  intro q r e hr;subst e;exact⟨by rw[ER hk0,CV hr,Ay],by rw[Ee,AK hr]⟩
 obtain⟨h1,h2⟩:=key _ _ g1 g2;rw[h1,h2]
def cmpN(x y:Nat):Int:=if x<y then -1 else if y<x then 1 else 0
theorem cmp_loop{n:Nat}{a b:List Nat}(ha:Dg 4294967296 a)(hb:Dg 4294967296 b)(hab:a.length=b.length)(hl:a.length<=1099511627776):∀(i m:Nat),i<=a.length->i<m->a.drop i=b.drop i ->
  q9p.l6 n [] m [L32 a,L32 b,.int .i64 ((i:Int)-1)]=some [.int .i64 (cmpN (vl 4294967296 a) (vl 4294967296 b))]:=by
 intro i
 induction i with
 |zero =>
  intro m hi hm he;obtain⟨m,rfl⟩:=qSx m;rw[Av,Av]at he;subst he;rw[q9p.q2o,Ad,Ab];simp[cmpN]
 |succ i ih =>
  intro m hi hm he;obtain⟨m,rfl⟩:=qSx m;have hia:i<a.length:=by omega
  have hib:i<b.length:=by omega
  have e0:(((i+1:Nat):Int)-1)=(i:Int):=by omega
  rw[q9p.q2o,e0,Af,Ac];simp only[Aa,q9 hia,q9 hib,Ae,q3t hia,q3t hib,qi];have da:a=a.take i++a[i]::a.drop (i+1):=by rw[<- q1w hia,BW]
  have db:b=b.take i++b[i]::b.drop (i+1):=by rw[<- q1w hib,BW]
  have ta:Dg 4294967296 (a.take i):=λd hd=>ha d (CL hd);have tb:Dg 4294967296 (b.take i):=λd hd=>hb d (CL hd);have tl:(a.take i).length=(b.take i).length:=by rw[BC,BC,hab]
  by_cases h:a[i]=b[i]
  ·rw[show((a[i]:Int) !=(b[i]:Int))=false by simp[h],Ab,show w6 ((i:Int)-1)=(i:Int)-1 from qk];exact ih m (by omega) (by omega) (by rw[q1w hia,q1w hib,h,he])
  ·rw[show((a[i]:Int) !=(b[i]:Int))=true by simp;omega,Ac];by_cases hlt:a[i]<b[i]
   ·rw[Af,Ac];have:=qcu (b:=4294967296) (by omega) ta tb tl hlt (b.drop (i+1));rw[<- db,<- he,<- da]at this;unfold cmpN;rw[if_pos this]
   ·rw[Ad,Ab];have:=qcu (b:=4294967296) (by omega) tb ta tl.symm (show b[i]<a[i] by omega) (a.drop (i+1));rw[<- da,he,<- db]at this;unfold cmpN;rw[if_neg (by omega),if_pos this]
theorem qa2{x y:Nat}(hx:(dg 4294967296 x).length<=1099511627775)(hy:(dg 4294967296 y).length<=1099511627775):Ev En 202 [L32 (dg 4294967296 x),L32 (dg 4294967296 y)] [.int .i64 (cmpN x y)]:=by
 refine Ev.of ((dg 4294967296 x).length+3) λn hn=>?_;rw[qqi,Aa,Aa];by_cases h1:(dg 4294967296 x).length<(dg 4294967296 y).length
 ·rw[Af,Ac];have:=qa7 qq h1;unfold cmpN;rw[if_pos this]
 ·rw[Ad,Ab];by_cases h2:(dg 4294967296 y).length<(dg 4294967296 x).length
  ·rw[Af,Ac];have:=qa7 qq h2;unfold cmpN;rw[if_neg (by omega),if_pos this]
  ·rw[Ad,Ab,show w6 (((dg 4294967296 x).length:Int)-1)=((dg 4294967296 x).length:Int)-1 from qk];have:=cmp_loop (n:=n) (q12 qq x) (q12 qq y) (by omega) (by omega) (dg 4294967296 x).length n (Ak _) (by omega) (by rw[AN (Ak _),AN (by omega)]);rw[q22 qq,q22 qq]at this;exact this
end Rf
end
section
set_option maxHeartbeats 1000000
namespace Rf
open Go
theorem q64{pre:List Nat}{x y:Nat}{r:List Nat}{i:Nat}(h:pre.length=i:=by omega):List.set ((pre++x::r).map d32) i (.int .u32 (y:Int))=(pre++y::r).map d32:=by
 rw[Bc,AQ,qb8 (by simpa using h)];simp[d32]
theorem q48{pre:List Nat}{x:Nat}{r:List Nat}{i:Nat}(h:pre.length=i:=by omega):at' ((pre++x::r).map d32) i 0=some (.int .u32 (x:Int)):=by
 subst h;rw[q2a,CT (Ak _),Cn];rfl
theorem wu32(z:Int):IntKind.wrap .u32 z=z%4294967296:=by
 unfold IntKind.wrap;simp[IntKind.bits,IntKind.signed]
theorem qvw{x y br:Nat}(hx:x<4294967296)(hy:y<4294967296)(hb:br<=1):IntKind.wrap .u32 (IntKind.wrap .u32 ((x:Int)-(y:Int))-(br:Int))=(((4294967296+x-y-br)%4294967296:Nat):Int):=by
 rw[wu32,wu32];omega
theorem qie{n x y br:Nat}(hx:x<4294967296)(hy:y<4294967296)(hb:br<=1) :
  evF En (n+1) 231 [.int .u32 (x:Int),.int .u32 (y:Int),.int .u32 (br:Int)]=some [.int .u32 (((4294967296+x-y-br)%4294967296:Nat):Int),.int .u32 ((if x<y+br then 1 else 0:Nat):Int)]:=by
 rw[qqo,qvw hx hy hb,qq9 hx hy hb]
theorem sub_loop{n:Nat}{a b:List Nat}(ha:Dg 4294967296 a)(hb:Dg 4294967296 b)(hl:a.length<=1099511627776)(hn:a.length+3<=n){l1:List FV}:∀(d i m:Nat) (pre:List Nat) (c:Nat),i+d=a.length->d<m->pre.length=i->c<=1 ->
  q7u.l6 n [] m [L32 b,.list 1 l1,L32 (pre++a.drop i),.int .u32 (c:Int),.int .i64 (a.length:Int),.int .i64 (i:Int)]=some [L32 (tz (pre++(subL 4294967296 (a.drop i) (b.drop i) c).1)),.int .i64 0]:=by
 intro d
 induction d with
 |zero =>
  intro i m pre c hi hm hp hc;obtain⟨m,rfl⟩:=qSx m;obtain⟨n,rfl⟩:=qSx n;rw[q7u.q2o,Ad,Ab,AN (show a.length<=i by omega)];simp only[subL,AM];rw[q8w];simp only[Ae,Aj,qy]
 |succ d ih =>
  intro i m pre c hi hm hp hc;obtain⟨m,rfl⟩:=qSx m;have hia:i<a.length:=by omega
  have hx:=ha a[i] (Ah hia);rw[q7u.q2o,Af,Ac,q1w hia];have hlen:i<(pre++a[i]::a.drop (i+1)).length:=by simp;omega
  obtain⟨n,rfl⟩:=qSx n;have key:∀y:Nat,y<4294967296->y=(b.drop i).headD 0->(evF En (n+1) 231 [.int .u32 (a[i]:Int),.int .u32 (y:Int),.int .u32 (c:Int)]).bind (λr4=>(asInt .u32 (r4[0]?)).bind λn5=>(asInt .u32 (r4[1]?)).bind λn6=>(ix (i:Int) ((pre++a[i]::a.drop (i+1)).map d32).length).bind λi7=>q7u.l6 (n+1) [] m [L32 b,.list 1 l1,.list 1 (List.set ((pre++a[i]::a.drop (i+1)).map d32) i7 (.int .u32 n5)),.int .u32 n6,.int .i64 (a.length:Int),.int .i64 (w6 ((i:Int)+1))]) =
    some [L32 (tz (pre++(subL 4294967296 (a[i]::a.drop (i+1)) (b.drop i) c).1)),.int .i64 0]:=λy hy he=>by
   rw[qie hx hy hc];simp only[Ae,Aj,AO,qi,Aa,q9 hlen];rw[q64 hp,qc];have:=ih (i+1) m (pre++[(4294967296+a[i]-y-c)%4294967296]) (if a[i]<y+c then 1 else 0) (by omega) (by omega) (by simp[hp]) (by split <;> omega);rw[Ap]at this;refine this.trans ?_;simp only[subL,<- he,List.tail_drop,Ap];rfl
  simp only[Aa,q9 hlen,Ae,q48 hp,qi];by_cases hib:i<b.length
  ·rw[Af,Ac];simp only[q9 hib,Ae,q3t hib,qi];have:=key b[i] (hb b[i] (Ah hib)) (by rw[q1w hib];rfl);simp only[Aa,q9 hlen]at this;exact this
  ·rw[Ad,Ab];have:=key 0 (by omega) (by rw[AN (by omega)];rfl);simp only[Aa,q9 hlen]at this;exact this
theorem clone_run{n:Nat}{l:List Nat}(h:l≠[])(hl:l.length<=1099511627776):evF En (n+1) 230 [L32 l]=some [L32 l]:=by
 show cloneExt [L32 l]=_;simp only[cloneExt];rw[if_pos ⟨by simpa using h,by simpa using hl,by simp[]⟩]
theorem qmm{x y:Nat}(h0:x≠0)(hyx:y<=x)(hx:(dg 4294967296 x).length<=1099511627775)(hy:(dg 4294967296 y).length<=1099511627775):Ev En 201 [L32 (dg 4294967296 x),L32 (dg 4294967296 y)] [L32 (dg 4294967296 (x-y)),.int .i64 0]:=by
 obtain⟨n1,h1⟩:=qa2 hx hy;refine Ev.of (n1+(dg 4294967296 x).length+3) λn hn=>?_;obtain⟨n,rfl⟩:=qSx n;rw[qk8,h1 _ (by omega)];simp only[Ae,Aj,qi];rw[Ad (by unfold cmpN;rw[if_neg (by omega)];split <;> omega),Ab,clone_run (λh=>h0 ((q52 qq).1 h)) (by omega)];simp only[Ae,Aj,qy,Aa];have:=sub_loop (n:=n+1) (q12 qq x) (q12 qq y) (by omega) (by omega) (l1:=[]) (dg 4294967296 x).length 0 (n+1) [] 0 (by omega) (by omega) rfl (by omega);rw[At,Av,Av,At]at this;refine this.trans ?_;have hlen:(dg 4294967296 y).length<=(dg 4294967296 x).length:=by
  apply Dl;intro hlt;have:=qa7 qq hlt;omega
 obtain⟨g1,g2,g3,g4⟩:=qfe qq (dg 4294967296 x) (dg 4294967296 y) 0 (q12 qq x) (q12 qq y) (by omega) hlen;rw[q22 qq,q22 qq]at g1;have hv:=q4m (by omega) g2;rw[g3]at hv;have:(subL 4294967296 (dg 4294967296 x) (dg 4294967296 y) 0).2=0:=by
  rcases Dn 0 (subL 4294967296 (dg 4294967296 x) (dg 4294967296 y) 0).2 with q | q
  ·have e:(subL 4294967296 (dg 4294967296 x) (dg 4294967296 y) 0).2=1:=by omega
   rw[e]at g1;omega
  ·omega
 rw[this]at g1;rw[<- q39 qq g2];have e:vl 4294967296 (subL 4294967296 (dg 4294967296 x) (dg 4294967296 y) 0).1=x-y:=by omega
 rw[e]
theorem qut{x y:Nat}(hxy:x<y)(hx:(dg 4294967296 x).length<=1099511627775)(hy:(dg 4294967296 y).length<=1099511627775):Ev En 201 [L32 (dg 4294967296 x),L32 (dg 4294967296 y)] [.list 1 [],.int .i64 11]:=by
 obtain⟨n1,h1⟩:=qa2 hx hy;refine Ev.of n1 λn hn=>?_;rw[qk8,h1 _ (by omega)];simp only[Ae,Aj,qi];rw[Af (by unfold cmpN;rw[if_pos hxy];omega),Ac]
theorem mul_row{n m0:Nat}{a b:List Nat}(hb:Dg 4294967296 b)(hl:a.length+b.length<=1099511627776){l1:List FV}{x i:Nat}(hx:x<4294967296)(hia:i<a.length):∀(e:List Nat) (k m:Nat) (pre acc:List Nat) (c:Nat),b.drop k=e->k+e.length=b.length->e.length<m->pre.length=i+k->e.length<acc.length->Dg 4294967296 acc->c<4294967296 ->
  q3u.l7 n [m0] m [L32 b,.list 1 l1,L32 (pre++acc),.int .i64 (i:Int),.int .u32 (x:Int),.int .u64 (c:Int),L32 a,.int .i64 (a.length:Int),.int .i64 (i:Int),L32 b,.int .i64 (b.length:Int),.int .i64 (k:Int)] =
   q3u.l3 n [] m0 [L32 b,.list 1 l1,L32 (pre++maRow 4294967296 acc e x c),L32 a,.int .i64 (a.length:Int),.int .i64 ((i+1:Nat):Int)]:=by
 intro e
 induction e with
 |nil =>
  intro k m pre acc c hk hke hm hp hacc hd hc;obtain⟨m,rfl⟩:=qSx m;simp only[Bf,Ay]at hke;obtain⟨h,t,rfl⟩:∃h t,acc=h::t:=by
   cases acc with
   |nil=>simp at hacc
   |cons h t=>exact⟨h,t,rfl⟩
  rw[q3u.q2u,Ad,Ab,Aa,q2n];have hlt:i+b.length<(pre++h::t).length:=by simp;omega
  simp only[Aa,q9 hlt,Ae];rw[q6q hc,q64,qc];rfl
 |cons y e ih =>
  intro k m pre acc c hk hke hm hp hacc hd hc;obtain⟨m,rfl⟩:=qSx m;obtain⟨h,t,rfl⟩:∃h t,acc=h::t:=by
   cases acc with
   |nil=>simp at hacc
   |cons h t=>exact⟨h,t,rfl⟩
  simp only[Aq]at hke hm hacc;have hkb:k<b.length:=by omega
  have hy:b[k]=y/\b.drop (k+1)=e:=by
   rw[q1w hkb]at hk;cases hk;exact⟨rfl,rfl⟩
  have hyl:y<4294967296:=by rw[<- hy.1];exact hb _ (Ah hkb)
  obtain⟨hh,ht⟩:=hd.tail;have hlt:i+k<(pre++h::t).length:=by simp;omega
  rw[q3u.q2u,Af,Ac,q2n];simp only[Aa,q9 hkb,Ae,q3t hkb,qi,q9 hlt,q48 (show pre.length=i+k by omega),hy.1];obtain⟨hm1,hm2⟩:=mul64 hx hyl;rw[hm1,q1b (show h<18446744073709551616 by omega),q7j,q7j,lo32,hi32,q64,qc];have:=ih (k+1) m (pre++[(c+(h+x*y))%4294967296]) t ((c+(h+x*y)) / 4294967296) hy.2 (by omega) (by omega) (by simp;omega) (by omega) ht (BI (by omega));rw[Ap]at this;refine this.trans ?_;simp only[maRow,Ap];rfl
theorem mul_outer{n:Nat}{a b:List Nat}(ha:Dg 4294967296 a)(hb:Dg 4294967296 b)(hl:a.length+b.length<=1099511627776)(hn:a.length+b.length+3<=n){l1:List FV}:∀(e:List Nat) (i m:Nat) (pre w:List Nat),a.drop i=e->i+e.length=a.length->e.length<m->pre.length=i->w.length=b.length->Dg 4294967296 w ->
  q3u.l3 n [] m [L32 b,.list 1 l1,L32 (pre++(w++List.replicate e.length 0)),L32 a,.int .i64 (a.length:Int),.int .i64 (i:Int)]=some [L32 (tz (pre++mulO 4294967296 e (w++List.replicate e.length 0) b))]:=by
 intro e
 induction e with
 |nil =>
  intro i m pre w hi hie hm hp hw hd;obtain⟨m,rfl⟩:=qSx m;obtain⟨n,rfl⟩:=qSx n;simp only[Bf,Ay]at hie;rw[q3u.qm,Ad,Ab,q8w (by simp;omega) (by simp;omega)];simp only[Ae,Aj,qy,mulO]
 |cons x e ih =>
  intro i m pre w hi hie hm hp hw hd;obtain⟨m,rfl⟩:=qSx m;simp only[Aq]at hie hm;have hia:i<a.length:=by omega
  have hx:a[i]=x/\a.drop (i+1)=e:=by
   rw[q1w hia]at hi;cases hi;exact⟨rfl,rfl⟩
  have hxl:x<4294967296:=by rw[<- hx.1];exact ha _ (Ah hia)
  rw[q3u.qm,Af,Ac];simp only[Aa,q9 hia,Ae,q3t hia,qi,hx.1];have hrow:=mul_row (n:=n) (m0:=m) (a:=a) hb hl (l1:=l1) hxl hia b 0 n pre (w++List.replicate (e.length+1) 0) 0 rfl (by omega) (by omega) (by omega) (by simp;omega) (hd.app (λd h=>by have:=CJ h;omega)) (by omega);simp only[Aq];rw[show((0:Nat):Int)=0 from rfl]at hrow;rw[hrow];obtain⟨w',h1,h2,h3,h4⟩:=qcv qq w b (List.replicate e.length 0) x 0 hw hd hb hxl (by omega);rw[Cc,h1];cases w' with
  |nil=>simp at h2
  |cons d t =>
   obtain⟨hd1,ht⟩:=h3.tail;have:=ih (i+1) m (pre++[d]) t hx.2 (by omega) (by omega) (by simp[hp]) (by simpa using h2) ht;rw[Ap]at this;refine this.trans ?_;simp only[mulO,h1,Al,Ap];rfl
theorem natMul_ev{x y:Nat}(h:(dg 4294967296 x).length+(dg 4294967296 y).length<=1099511627775):Ev En 212 [L32 (dg 4294967296 x),L32 (dg 4294967296 y)] [L32 (dg 4294967296 (x*y))]:=by
 refine Ev.of ((dg 4294967296 x).length+(dg 4294967296 y).length+3) λn hn=>?_;rw[qqk,Aa,Aa,q2n,mk4,Ae,q1v (Ak _),Ae,rep0];have:=mul_outer (n:=n) (q12 qq x) (q12 qq y) (by omega) (by omega) (l1:=[]) (dg 4294967296 x) 0 n [] (List.replicate (dg 4294967296 y).length 0) rfl (by omega) (by omega) rfl (by simp) (λd h=>by have:=CJ h;omega);rw[At,Eb,At,Bo (dg 4294967296 y).length,show((0:Nat):Int)=0 from rfl]at this;refine this.trans ?_;obtain⟨g1,g2,_⟩:=qff qq (dg 4294967296 x) (List.replicate (dg 4294967296 y).length 0) (dg 4294967296 y) (by simp) (λd h=>by have:=CJ h;omega) (q12 qq y) (q12 qq x);rw[Eb,Bo (dg 4294967296 y).length]at g1 g2;have hz:∀k:Nat,vl 4294967296 (List.replicate k 0)=0:=λk=>by
  induction k with
  |zero=>rfl
  |succ k ih=>rw[Cc];simp[vl,ih]
 rw[<- q39 qq g2,g1,hz,q22 qq,q22 qq,AJ]
theorem qna{x:Nat}(hx:x<18446744073709551616):Ev En 251 [L32 (dg 4294967296 x)] [.int .u64 (x:Int)]:=by
 have hlen:(dg 4294967296 x).length<=2:=q5i qq (k:=2) (by simpa using hx);have hv:=q22 qq x;have hd:=q12 qq x;refine Ev.of 3 λn hn=>?_;obtain⟨n,rfl⟩:∃k,n=k+3:=⟨n-3,by omega⟩;rw[qqt];generalize dg 4294967296 x=l at hlen hv hd ⊢
 match l,hlen,hv,hd with
 |[],_,hv,_ =>
  simp only[vl]at hv;rw[q6t.qm];simp[<- hv]
 |[d0],_,hv,hd =>
  have h0:=hd d0 (by simp);simp only[vl,Cj,Ay]at hv;subst hv;rw[q6t.qm];simp only[AQ,BE,Aq,Bf];rw[Af,Ac,show ix (0:Int) (0+1)=some 0 from rfl];simp only[Ae,q7k,d32,FV.cells,Aj,qi];rw[show Go.IntKind.wrap .u64 (w6 (32*0))=0 by decide,Ad (by decide),Ab,q1b];have e1:=qal .u64 d0 0 (by decide);rw[show((0:Nat):Int)=0 from rfl]at e1;rw[e1,EC,DS,q1b,show bitI .or .u64 0 (d0:Int)=((0 ||| d0:Nat):Int) from qbn (x:=0) (by omega) (by omega),Nat.zero_or];rw[q6t.qm,show w6 (0+1)=1 by decide,Ad,Ab]
 |[d0,d1],_,hv,hd =>
  have h0:=hd d0 (by simp);have h1:=hd d1 (by simp);simp only[vl,Cj,Ay]at hv;subst hv;rw[q6t.qm];simp only[AQ,BE,Aq,Bf];rw[Af,Ac,show ix (0:Int) (0+1+1)=some 0 from rfl];simp only[Ae];rw[show at' [d32 d0,d32 d1] 0 0=some (.int .u32 (d0:Int)) from rfl];simp only[qi,Ae];rw[show Go.IntKind.wrap .u64 (w6 (32*0))=0 by decide,Ad (by decide),Ab,q1b];have e1:=qal .u64 d0 0 (by decide);rw[show((0:Nat):Int)=0 from rfl]at e1;rw[e1,EC,DS,q1b,show bitI .or .u64 0 (d0:Int)=((0 ||| d0:Nat):Int) from qbn (x:=0) (by omega) (by omega),Nat.zero_or];rw[q6t.qm,show w6 (0+1)=1 by decide,Af,Ac];rw[show ix (1:Int) [d32 d0,d32 d1].length=some 1 from rfl];simp only[Ae];rw[show at' [d32 d0,d32 d1] 1 0=some (.int .u32 (d1:Int)) from rfl];simp only[qi,Ae];rw[show Go.IntKind.wrap .u64 (w6 (32*1))=((32:Nat):Int) by decide,Ad (by decide),Ab,q1b,qal .u64 d1 32 (by decide),q1b,qbn,Nat.or_comm,qdw];rw[q6t.qm,show w6 (1+1)=2 by decide,Ad,Ab];rw[show d1*2^32+d0=d0+4294967296*d1 by omega]
end Rf
end
section
set_option maxHeartbeats 1000000
set_option maxRecDepth 10000
namespace Rf
open Go
def qcj:ByteArray:={ data:=(([0,1,2,2,3,3,3,3,4,4,4,4,4,4,4,4,5,5,5,5,5,5,5,5,5,5,5,5,5,5,5,5,6,6,6,6,6,6,6,6,6,6,6,6,6,6,6,6,6,6,6,6,6,6,6,6,6,6,6,6,6,6,6,6].append [7,7,7,7,7,7,7,7,7,7,7,7,7,7,7,7,7,7,7,7,7,7,7,7,7,7,7,7,7,7,7,7,7,7,7,7,7,7,7,7,7,7,7,7,7,7,7,7,7,7,7,7,7,7,7,7,7,7,7,7,7,7,7,7]).append ([8,8,8,8,8,8,8,8,8,8,8,8,8,8,8,8,8,8,8,8,8,8,8,8,8,8,8,8,8,8,8,8,8,8,8,8,8,8,8,8,8,8,8,8,8,8,8,8,8,8,8,8,8,8,8,8,8,8,8,8,8,8,8,8].append [8,8,8,8,8,8,8,8,8,8,8,8,8,8,8,8,8,8,8,8,8,8,8,8,8,8,8,8,8,8,8,8,8,8,8,8,8,8,8,8,8,8,8,8,8,8,8,8,8,8,8,8,8,8,8,8,8,8,8,8,8,8,8,8])).toArray }
def bl(x:Nat):Nat:=if x=0 then 0 else Nat.log2 x+1
theorem qex:∀i:Nat,i<256->q2q qcj (i:Int)=some ((bl i:Nat):Int):=by decide +kernel
theorem qev{x:Nat}(h:x≠0):2^(bl x-1)<=x/\x<2^bl x/\1<=bl x:=by
 unfold bl;rw[if_neg h];exact⟨by rw[EK];exact Nat.log2_self_le h,Nat.lt_log2_self,by omega⟩
theorem bl_le{x k:Nat}(h:x<2^k):bl x<=k:=by
 rcases Bs x with h0 | h0
 ·subst h0;simp[bl]
 ·obtain⟨h1,_,h2⟩:=qev (by omega:x≠0);have:bl x-1<k:=(Nat.pow_lt_pow_iff_right (by omega:1<2)).1 (BG h1 h);omega
theorem qif{x k:Nat}(h:2^k<=x):bl x=k+bl (x / 2^k):=by
 have hp:0<2^k:=Bx (by omega);have hx:x≠0:=by omega
 have hq:x / 2^k≠0:=by have:=Nat.div_pos h hp;omega
 unfold bl;rw[if_neg hx,if_neg hq];have h1:=Nat.log2_self_le hq;have h2:x / 2^k<2^((x / 2^k).log2+1):=Nat.lt_log2_self
 have:x.log2=k+(x / 2^k).log2:=(Nat.log2_eq_iff hx).2 ⟨by
  rw[BZ];exact AZ (BB _ h1) (Nat.mul_div_le _ _),by
  rw[Bl,BZ,AC]
  exact(BJ hp).1 h2⟩
 omega
theorem wrap_u8(x:Nat):IntKind.wrap .u8 (x:Int)=((x%256:Nat):Int):=by
 unfold IntKind.wrap;simp[IntKind.bits,IntKind.signed]
theorem shr16(x:Nat):shI false .u32 (x:Int) 16=((x / 65536:Nat):Int):=by
 have:=qbm .u32 x 16 (by decide);simpa using this
theorem shr8(x:Nat):shI false .u32 (x:Int) 8=((x / 256:Nat):Int):=by
 have:=qbm .u32 x 8 (by decide);simpa using this
theorem qvx(n:Nat)(x0:Int):evF En (n+1) 196 [.int .u32 x0] =
 (bif(decide (x0≥65536))then
  (bif(decide ((shI false .u32 x0 16)≥256))then(q2q qcj (Go.IntKind.wrap .u8 (shI false .u32 (shI false .u32 x0 16) 8))).bind λn0=>some [.int .i64 (w6 (24+(w6 n0)))]
   else(q2q qcj (Go.IntKind.wrap .u8 (shI false .u32 x0 16))).bind λn1=>some [.int .i64 (w6 (16+(w6 n1)))])
  else
  (bif(decide (x0≥256))then(q2q qcj (Go.IntKind.wrap .u8 (shI false .u32 x0 8))).bind λn2=>some [.int .i64 (w6 (8+(w6 n2)))]
   else(q2q qcj (Go.IntKind.wrap .u8 x0)).bind λn3=>some [.int .i64 (w6 (0+(w6 n3)))])):=qqg n x0
theorem qn6{n x:Nat}(hx:x<4294967296):evF En (n+1) 196 [.int .u32 (x:Int)]=some [.int .i64 ((bl x:Nat):Int)]:=by
 have fin:∀k y:Nat,y<256->k<=24->w6 ((k:Int)+w6 ((bl y:Nat):Int))=((k+bl y:Nat):Int):=λk y hy hk=>by
  have:=bl_le (x:=y) (k:=8) (by omega);rw[q40,q2n]
 rw[qvx,shr16,shr8,shr8];by_cases h1:65536<=x
 ·rw[Af,Ac];by_cases h2:256<=x / 65536
  ·rw[Af,Ac,wrap_u8,AK (by omega),qex _ (by omega),Ae];have:=fin 24 (x / 65536 / 256) (by omega) (by omega);rw[show((24:Nat):Int)=24 from rfl]at this;rw[this,qif (x:=x) (k:=24) (by omega),show x / 2^24=x / 65536 / 256 by omega]
  ·rw[Ad,Ab,wrap_u8,AK (by omega),qex _ (by omega),Ae];have:=fin 16 (x / 65536) (by omega) (by omega);rw[show((16:Nat):Int)=16 from rfl]at this;rw[this,qif (x:=x) (k:=16) (by omega)]
 ·rw[Ad,Ab];by_cases h2:256<=x
  ·rw[Af,Ac,wrap_u8,AK (by omega),qex _ (by omega),Ae];have:=fin 8 (x / 256) (by omega) (by omega);rw[show((8:Nat):Int)=8 from rfl]at this;rw[this,qif (x:=x) (k:=8) (by omega)]
  ·rw[Ad,Ab,wrap_u8,AK (by omega),qex _ (by omega),Ae];have:=fin 0 x (by omega) (by omega);rw[show((0:Nat):Int)=0 from rfl]at this;rw[this,AJ]
theorem qia{x:Nat}(h:x≠0):∃l d,dg 4294967296 x=l++[d]/\d≠0/\d<4294967296:=by
 have hne:dg 4294967296 x≠[]:=λq=>h ((q52 qq).1 q);obtain⟨l,d,e⟩:=Dm (dg 4294967296 x) |>.resolve_left hne;rw[EJ]at e;refine⟨l,d,e,dg_last qq e,?_⟩;exact q12 qq x d (by rw[e];simp)
def q85(x:Nat):Nat:=if x=0 then 0 else 32*((dg 4294967296 x).length-1)+bl ((dg 4294967296 x).getLast?.getD 0)
theorem qeo{x:Nat}:q85 x=0↔x=0:=by
 unfold q85;constructor
 ·intro h;apply BS;intro hx;rw[if_neg hx]at h;obtain⟨l,d,e,hd,_⟩:=qia hx;rw[e]at h;simp only[List.getLast?_concat,Bg]at h;have:=(qev hd).2.2;omega
 ·intro h;rw[if_pos h]
theorem qen{x:Nat}(hx:(dg 4294967296 x).length<=1099511627775:=by omega):Ev En 217 [L32 (dg 4294967296 x)] [.int .i64 ((q85 x:Nat):Int)]:=by
 refine Ev.of 1 λn hn=>?_;obtain⟨n,rfl⟩:=qSx n;rw[qql];rcases Bs x with h0 | h0
 ·subst h0;rw[q18];simp[q85]
 ·obtain⟨l,d,e,hd,hdl⟩:=qia (by omega:x≠0);have hb:q85 x=32*l.length+bl d:=by
   unfold q85;rw[if_neg (by omega),e];simp
  have hlen:(l++[d]).length=l.length+1:=by simp
  rw[e,hlen]at hx;rw[hb,e];rw[Aa,hlen,show(((l.length+1:Nat):Int)==0)=false by simp;omega,Ab,show((l.length+1:Nat):Int)-1=(l.length:Int) by omega,q40,q9,Ae,q48 rfl];simp only[qi,Ae,qn6 hdl,Aj];have:=bl_le (x:=d) (k:=32) (by omega);have:=qba (x:=32) (y:=l.length) (by omega);rw[show((32:Nat):Int)=32 from rfl]at this;rw[this,q2n]
theorem qig(x:Nat){s:Nat}(hs:s<32):x*2^s%4294967296=(x%2^(32-s))*2^s:=by
 have:4294967296=2^(32-s)*2^s:=by rw[<- BZ,show 32-s+s=32 by omega]
 rw[this,Nat.mul_mod_mul_right]
theorem qvy{x s:Nat}(hx:x<4294967296)(hs:s<32):x*2^s<9223372036854775808:=by
 have:2^s<=2^31:=AX (by omega) (by omega)
 calc x*2^s<=x*2^31:=BB _ this
  _<9223372036854775808:=by omega
theorem qvz{n:Nat}{a:List Nat}{s:Nat}(ha:Dg 4294967296 a)(hs:s<32)(hl:a.length<=1099511627776):∀(d i m:Nat) (pre:List Nat) (c:Nat),i+d=a.length->d<m->pre.length=i->c<2^s ->
  q9s.l3 n [] m [.int .u64 (s:Int),L32 (pre++c::List.replicate d 0),L32 a,.int .i64 (a.length:Int),.int .i64 (i:Int)]=some [L32 (pre++shlL 4294967296 s (a.drop i) c)]:=by
 intro d
 induction d with
 |zero =>
  intro i m pre c hi hm hp hc;obtain⟨m,rfl⟩:=qSx m;rw[q9s.qm,Ad,Ab,AN (show a.length<=i by omega)];rfl
 |succ d ih =>
  intro i m pre c hi hm hp hc;obtain⟨m,rfl⟩:=qSx m;have hia:i<a.length:=by omega
  have hx:=ha a[i] (Ah hia);have hv:=qvy hx hs;have h32:2^s<=2^32:=AX (by omega) (by omega);have hlen:(pre++c::List.replicate (d+1) 0).length=i+(d+2):=by simp;omega
  rw[q9s.qm,Af,Ac];simp only[Aa,q9 hia,Ae,q3t hia,qi];rw[Ad,Ab];rw[q1b (show a[i]<18446744073709551616 by omega),qal .u64 a[i] s (by show s<=64;omega),q1b,lo32,hi32];have hlt:i<(pre++c::List.replicate (d+1) 0).length:=by omega
  simp only[q9 hlt,Ae,q48 hp,qi];rw[or_u32 (by omega) (AL _ (by omega)),qig _ hs,Nat.or_comm,qdw hc,<- qig _ hs,q64 hp];have hlt2:i+1<((pre++(a[i]*2^s%4294967296+c)::List.replicate (d+1) 0).map d32).length:=by simp;omega
  rw[qc];simp only[q9 hlt2,Ae]
  rw[Cc,show pre++(a[i]*2^s%4294967296+c)::0::List.replicate d 0=(pre++[a[i]*2^s%4294967296+c])++0::List.replicate d 0 by simp,q6q (by
   have:a[i]*2^s / 4294967296<2^s:=by
    rw[BJ (by omega),AC];exact EL hx (Bx (by omega))
   omega),q64 (by simp[hp])]
  have:=ih (i+1) m (pre++[a[i]*2^s%4294967296+c]) (a[i]*2^s / 4294967296) (by omega) (by omega) (by simp[hp]) (by
   rw[BJ (by omega),AC]
   exact EL hx (Bx (by omega)))
  refine this.trans ?_;rw[q1w hia];simp only[shlL,Ap];rw[Bo c];rfl
theorem qn7{n:Nat}{a:List Nat}{s:Nat}(ha:Dg 4294967296 a)(hs:s<32)(hl:a.length<=1099511627775:=by omega)(hn:a.length<n:=by omega) :
  evF En (n+1) 233 [L32 a,.int .u64 (s:Int)]=some [L32 (shlL 4294967296 s a 0)]:=by
 rw[qqq,Aa,qc,mk4,Ae,q1v (Ak _),Ae,rep0,Cc];exact qvz (n:=n) ha hs (by omega) a.length 0 n [] 0 (by omega) (by omega) rfl (Bx (by omega))
theorem qi8{s:Nat}(hs:s<32):∀(a:List Nat) (c:Nat),Dg 4294967296 a->c<2^s->Dg 4294967296 (shlL 4294967296 s a c)
 |[],c,_,hc=>λd hd=>by
  have h32:2^s<=2^31:=AX (by omega) (by omega);simp[shlL]at hd;omega
 |x::a,c,h,hc=>by
  obtain⟨hx,ha⟩:=h.tail;have h1:=qig x hs;have h2:x%2^(32-s)*2^s+2^s<=2^(32-s)*2^s:=by
   rw[<- Dh];exact AR _ (AL _ (Bx (by omega)))
  have h3:2^(32-s)*2^s=4294967296:=by rw[<- BZ,show 32-s+s=32 by omega]
  exact Dg.cons (by omega) (qi8 hs a _ ha (by
   rw[BJ (by omega),AC]
   exact EL hx (Bx (by omega))))
theorem qi9{s:Nat}:∀(a:List Nat) (c:Nat),(shlL 4294967296 s a c).length=a.length+1
 |[],c=>rfl
 |x::a,c=>by simp only[shlL,Aq,qi9 a]
end Rf
end
section
set_option maxHeartbeats 2000000
set_option maxRecDepth 10000
namespace Rf
open Go
theorem pow_pos'(k:Nat):0<(4294967296:Nat)^k:=Bx (by omega)
theorem qi7{l:List Nat}{n:Nat}(hd:Dg 4294967296 l)(hl:l.length=n+1:=by omega)(hv:vl 4294967296 l<4294967296^n:=by omega):∃h,l=h++[0]/\h.length=n/\Dg 4294967296 h/\vl 4294967296 h=vl 4294967296 l:=by
 have hne:l≠[]:=λq=>by rw[q]at hl;simp at hl
 obtain⟨h,d,e⟩:=Dm l |>.resolve_left hne;rw[EJ]at e;subst e;have hln:h.length=n:=by simpa using hl
 rw[qa4,hln]at hv;have hd0:d=0:=by
  rcases Bs d with q | q
  ·exact q
  ·have:4294967296^n<=4294967296^n*d:=Es _ q;omega
 subst hd0;exact⟨h,rfl,hln,λx hx=>hd x (by simp[hx]),by rw[qa4,Cj,Ay]⟩
theorem div_digit{win v:List Nat}{g:Nat}(hw:Dg 4294967296 win)(hv:Dg 4294967296 v)(hl:win.length=v.length+1)(hg:g<4294967296)
  (h1:vl 4294967296 win / vl 4294967296 v<=g) (h2:g*vl 4294967296 v<vl 4294967296 win+vl 4294967296 v) (hV:0<vl 4294967296 v) :
  ((msL 4294967296 win v g 0 0).2=0/\g=vl 4294967296 win / vl 4294967296 v/\∃h,(msL 4294967296 win v g 0 0).1=h++[0]/\h.length=v.length/\Dg 4294967296 h/\vl 4294967296 h=vl 4294967296 win%vl 4294967296 v) \/
  ((msL 4294967296 win v g 0 0).2=1/\g=vl 4294967296 win / vl 4294967296 v+1/\(msL 4294967296 win v g 0 0).1.length=v.length+1/\Dg 4294967296 (msL 4294967296 win v g 0 0).1 /\
   ∃h,abL 4294967296 (msL 4294967296 win v g 0 0).1 v 0=h++[0]/\h.length=v.length/\Dg 4294967296 h/\vl 4294967296 h=vl 4294967296 win%vl 4294967296 v):=by
 obtain⟨m1,m2,m3,m4⟩:=msL_ok qq win v g 0 0 hl hw hv hg (by omega) (by omega);generalize hr:msL 4294967296 win v g 0 0=r at m1 m2 m3 m4 ⊢;have hW:=DH (vl 4294967296 win) (vl 4294967296 v);have hR:=AL (vl 4294967296 win) hV;have hlt:=q4m (b:=4294967296) (by omega) m2;have hVl:=q4m (b:=4294967296) (by omega) hv;generalize hQ:vl 4294967296 win / vl 4294967296 v=Q at *
 generalize hRR:vl 4294967296 win%vl 4294967296 v=R at *
 have hgq:g=Q\/g=Q+1:=by
  have:g<Q+2:=by
   apply FQ (a:=vl 4294967296 v);rw[AT,<- AC (vl 4294967296 v) Q];omega
  omega
 rw[m3]at hlt;rcases hgq with e | e
 ·subst e;rw[<- hW,AC]at m1;have hb:r.2=0:=by
   rcases Bs r.2 with q | q
   ·exact q
   ·have:r.2=1:=by omega
    rw[this,DS,hl,Ax]at m1;rw[hl,Ax]at hlt;omega
  rw[hb,Cj,Ay]at m1;have hval:vl 4294967296 r.1=R:=by omega
  obtain⟨h,q1,q2,q3,q4⟩:=qi7 (n:=v.length) m2;exact .inl ⟨hb,rfl,h,q1,q2,q3,by omega⟩
 ·subst e;rw[<- hW,AT,AC,Cf]at m1;have hb:r.2=1:=by
   rcases Bs r.2 with q | q
   ·rw[q,Cj,Ay]at m1;omega
   ·omega
  rw[hb,DS]at m1;obtain⟨a1,a2,a3⟩:=abL_ok qq r.1 v 0 (by omega) m2 hv (by omega);have hval:vl 4294967296 (abL 4294967296 r.1 v 0)=R:=by
   rw[<- a1,m3,Ay];have:vl 4294967296 r.1+vl 4294967296 v=R+4294967296^win.length:=by omega
   rw[this,FB,AK];have:vl 4294967296 v<=4294967296^win.length:=by
    rw[hl];exact AZ (CW hVl) (AX (by omega) (by omega))
   omega
  obtain⟨h,q1,q2,q3,q4⟩:=qi7 (n:=v.length) a2;exact .inr ⟨hb,rfl,by omega,m2,h,q1,q2,q3,by omega⟩
theorem msL_one(B u g ca br:Nat):msL B [u] [] g ca br=([(B+u-ca%B-br)%B],if u<ca%B+br then 1 else 0):=rfl
theorem abL_one(B u c:Nat):abL B [u] [] c=[(u+c)%B]:=rfl
theorem abL_cons(B u y c:Nat)(us e:List Nat):abL B (u::us) (y::e) c=(u+y+c)%B::abL B us e ((u+y+c) / B):=rfl
theorem msL_cons(B u u' y g ca br:Nat)(us e:List Nat):msL B (u::u'::us) (y::e) g ca br=((B+u-(ca+g*y)%B-br)%B::(msL B (u'::us) e g ((ca+g*y) / B) (if u<(ca+g*y)%B+br then 1 else 0)).1,(msL B (u'::us) e g ((ca+g*y) / B) (if u<(ca+g*y)%B+br then 1 else 0)).2):=rfl
theorem ms_loop{n m0:Nat}{l0 l1:List FV}{s:Int}{v tl q:List Nat}{k g:Nat}(hv:Dg 4294967296 v)(hg:g<4294967296)(hkq:k<q.length)(hbig:k+v.length<=1099511627776):∀(e:List Nat) (i m:Nat) (pre us:List Nat) (ca br:Nat),v.drop i=e->i+e.length=v.length->e.length<m->pre.length=k+i->us.length=e.length+1->Dg 4294967296 us->ca<4294967296->br<=1->1<=n ->
  q13.l23 n [m0] m [.list 1 l0,.list 1 l1,.int .i64 (v.length:Int),.int .u64 s,L32 v,L32 (pre++(us++tl)),L32 q,.int .i64 (k:Int),.int .u64 (g:Int),.int .u32 (br:Int),.int .u64 (ca:Int),.int .i64 (v.length:Int),.int .i64 (i:Int)] =
   (bif((msL 4294967296 us e g ca br).2==0)then q13.l13 n [] m0 [.list 1 l0,.list 1 l1,.int .i64 (v.length:Int),.int .u64 s,L32 v,L32 (pre++((msL 4294967296 us e g ca br).1++tl)),L32 (q.set k g),.int .i64 ((k:Int)-1)]
    else q13.l35 n [m0] n [.list 1 l0,.list 1 l1,.int .i64 (v.length:Int),.int .u64 s,L32 v,L32 (pre++((msL 4294967296 us e g ca br).1++tl)),.list 1 (List.set ((q.set k g).map d32) k (.int .u32 (IntKind.wrap .u32 ((g:Int)-1)))),.int .i64 (k:Int),.int .u32 0,.int .i64 (v.length:Int),.int .i64 0]):=by
 intro e
 induction e with
 |nil =>
  intro i m pre us ca br hi hie hm hp hu hd hc hb hn;obtain⟨m,rfl⟩:=qSx m;obtain⟨n,rfl⟩:=qSx n;simp only[Bf,Ay,AJ]at hie hu;obtain⟨u,rfl⟩:=FT.1 hu;have hul:=hd u (by simp);rw[q13.l23_eq,Ad,Ab,q2n];have hlt:k+v.length<(pre++([u]++tl)).length:=by simp;omega
  simp only[Aa,q9 hlt,Ae];have e2:msL 4294967296 [u] [] g ca br=([(4294967296+u-ca-br)%4294967296],if u<ca+br then 1 else 0):=by rw[msL_one,AK hc]
  rw[BM]at hlt;rw[BM,q48,qi,Ae,lo32,AK hc,qie hul hc hb,e2];generalize (4294967296+u-ca-br)%4294967296=D;generalize (if u<ca+br then 1 else 0)=bo;rw[Ae,Aj,AO,Aj,qi,qi,Ae,Ae,q9 hkq,Ae];rw[q64 (show pre.length=k+v.length by omega),lo32,AK hg,qk];have e1:List.set (q.map d32) k (.int .u32 (g:Int))=(q.set k g).map d32:=by rw[List.map_set]
  rw[e1];have hkq2:k<(q.set k g).length:=by simpa using hkq
  have hat:at' ((q.set k g).map d32) k 0=some (.int .u32 (g:Int)):=by rw[q3t hkq2];simp
  rw[Aa,q9 hkq2,Ae,hat,qi,Ae,Ae];rw[show((bo:Int)==0)=(bo==0) by cases bo <;> rfl];simp only[BM]
 |cons y e ih =>
  intro i m pre us ca br hi hie hm hp hu hd hc hb hn;obtain⟨m,rfl⟩:=qSx m;obtain⟨n,rfl⟩:=qSx n;simp only[Aq]at hie hm hu;obtain⟨u,us',rfl⟩:∃h t,us=h::t:=by
   cases us with
   |nil=>simp at hu
   |cons h t=>exact⟨h,t,rfl⟩
  simp only[Aq]at hu;have hiv:i<v.length:=by omega
  have hy:v[i]=y/\v.drop (i+1)=e:=by
   rw[q1w hiv]at hi;cases hi;exact⟨rfl,rfl⟩
  have hyl:y<4294967296:=by rw[<- hy.1];exact hv _ (Ah hiv)
  obtain⟨hul,hd'⟩:=hd.tail;have hcl:=qb9 hg hyl hc;rw[q13.l23_eq,Af,Ac,q2n];have hlt:k+i<(pre++(u::us'++tl)).length:=by simp;omega
  simp only[Aa,q9 hiv,q9 hlt,Ae,q3t hiv,qi,hy.1];have hgy:g*y<18446744073709551616:=by omega
  rw[Al,q48,qi,Ae,q1b (show y<18446744073709551616 by omega),qbb hgy,q7j,lo32,hi32,qie hul (AL _ (by omega)) hb];simp only[Ae,Aj,AO,qi,<- Al];rw[Al,q64,qc];have:=ih (i+1) m (pre++[(4294967296+u-(ca+g*y)%4294967296-br)%4294967296]) us' ((ca+g*y) / 4294967296) (if u<(ca+g*y)%4294967296+br then 1 else 0) hy.2 (by omega) (by omega) (by simp;omega) (by omega) hd' (BI (by omega)) (by split <;> omega) (by omega);rw[Ap]at this;refine this.trans ?_;cases us' with
  |nil=>simp at hu
  |cons u' us'' =>
   rw[msL_cons];generalize (4294967296+u-(ca+g*y)%4294967296-br)%4294967296=D;generalize msL 4294967296 (u'::us'') e g ((ca+g*y) / 4294967296) (if u<(ca+g*y)%4294967296+br then 1 else 0)=r;simp only[Ap,Al,At]
theorem ab_loop{n m0:Nat}{l0 l1:List FV}{s:Int}{v tl:List Nat}{Q:List FV}{k:Nat}(hv:Dg 4294967296 v)(hbig:k+v.length<=1099511627776):∀(e:List Nat) (i m:Nat) (pre us:List Nat) (c:Nat),v.drop i=e->i+e.length=v.length->e.length<m->pre.length=k+i->us.length=e.length+1->Dg 4294967296 us->c<=1->1<=n ->
  q13.l35 n [m0] m [.list 1 l0,.list 1 l1,.int .i64 (v.length:Int),.int .u64 s,L32 v,L32 (pre++(us++tl)),.list 1 Q,.int .i64 (k:Int),.int .u32 (c:Int),.int .i64 (v.length:Int),.int .i64 (i:Int)] =
   q13.l13 n [] m0 [.list 1 l0,.list 1 l1,.int .i64 (v.length:Int),.int .u64 s,L32 v,L32 (pre++(abL 4294967296 us e c++tl)),.list 1 Q,.int .i64 ((k:Int)-1)]:=by
 intro e
 induction e with
 |nil =>
  intro i m pre us c hi hie hm hp hu hd hc hn;obtain⟨m,rfl⟩:=qSx m;simp only[Bf,Ay,AJ]at hie hu;obtain⟨u,rfl⟩:=FT.1 hu;have hul:=hd u (by simp);rw[q13.l35_eq,Ad,Ab,q2n];have hlt:k+v.length<(pre++([u]++tl)).length:=by simp;omega
  simp only[Aa,q9 hlt,Ae];rw[BM,q48,qi,Ae,qg8,lo32,q64,qk];rw[abL_one];generalize (u+c)%4294967296=D;simp only[BM]
 |cons y e ih =>
  intro i m pre us c hi hie hm hp hu hd hc hn;obtain⟨m,rfl⟩:=qSx m;obtain⟨n,rfl⟩:=qSx n;simp only[Aq]at hie hm hu;obtain⟨u,us',rfl⟩:∃h t,us=h::t:=by
   cases us with
   |nil=>simp at hu
   |cons h t=>exact⟨h,t,rfl⟩
  simp only[Aq]at hu;have hiv:i<v.length:=by omega
  have hy:v[i]=y/\v.drop (i+1)=e:=by
   rw[q1w hiv]at hi;cases hi;exact⟨rfl,rfl⟩
  have hyl:y<4294967296:=by rw[<- hy.1];exact hv _ (Ah hiv)
  obtain⟨hul,hd'⟩:=hd.tail;rw[q13.l35_eq,Af,Ac,q2n];have hlt:k+i<(pre++(u::us'++tl)).length:=by simp;omega
  simp only[Aa,q9 hiv,q9 hlt,Ae,q3t hiv,qi,hy.1];rw[Al,q48,qi,Ae,qqr,q1b (show u<18446744073709551616 by omega),q1b (show y<18446744073709551616 by omega),q1b (show c<18446744073709551616 by omega),q7j,q7j,lo32,hi32];have hc1:(u+y+c) / 4294967296<=1:=by
   have:=BI (m:=u+y+c) (n:=4294967296) (k:=2) (by omega);omega
  rw[lo32,AK (show(u+y+c) / 4294967296<4294967296 by omega)];simp only[Ae,Aj,AO,qi,<- Al];rw[Al,q64,qc];have:=ih (i+1) m (pre++[(u+y+c)%4294967296]) us' ((u+y+c) / 4294967296) hy.2 (by omega) (by omega) (by simp;omega) (by omega) hd' hc1 (by omega);rw[Ap]at this;refine this.trans ?_;rw[abL_cons];generalize (u+y+c)%4294967296=D;simp only[Ap,Al,At]
end Rf
end
end
