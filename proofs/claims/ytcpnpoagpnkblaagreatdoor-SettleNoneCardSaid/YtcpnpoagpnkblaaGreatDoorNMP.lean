/- Merged: NatA NatB Num RefN RefT RefZ. -/
import Derived.Test.YtcpnpoagpnkblaaGreatDoorNMI
import Derived.Test.YtcpnpoagpnkblaaGreatDoorNMG
set_option linter.unusedVariables false
set_option linter.unusedSimpArgs false
set_option maxHeartbeats 2000000
section
section
/- The program's numbers: each function by what its numbers are. -/
set_option maxHeartbeats 1000000
namespace Rf
open Go
theorem qp:2<=4294967296:=by decide
theorem set_mid{α:Type}(pre:List α)(x y:α)(r:List α):(pre++x::r).set pre.length y=pre++y::r:=by
 rw[Fv _ _ (Ak _),Cn];rfl
theorem qc0{pre:List Nat}{d y i:Nat}(h:pre.length=i:=by omega):List.set ((pre++List.replicate (d+1) 0).map d32) i (.int .u32 (y:Int))=((pre++[y])++List.replicate d 0).map d32:=by
 subst h;rw[Cd,AK,AS];have:=set_mid (pre.map d32) (d32 0) (d32 y) ((List.replicate d 0).map d32);rw[Aa]at this;rw[this];simp
theorem q1t{a:List Nat}{i:Nat}(h:i<a.length):a.drop i=a[i]::a.drop (i+1):=Bc h
theorem rep0(k:Nat):List.replicate k (FV.int .u32 0)=(List.replicate k 0).map d32:=by rw[EJ];rfl
theorem mk4{k:Nat}(h:k<=1099511627776:=by omega):q1p 4 (k:Int)=some k:=by
 unfold q1p;rw[if_pos ⟨by omega,by omega,by omega⟩];simp
theorem trim_loop{n:Nat}{l0:List FV}:∀(k:Nat) (l:List Nat) (m:Nat),l.length=k->k<m->k<=1099511627776+1->q9g.l1 n [] m [.list 1 l0,L32 l]=some [L32 (tz l)]:=by
 intro k
 induction k with
 |zero =>
  intro l m hl hm hk;obtain⟨m,rfl⟩:=qSx m;have:l=[]:=BH hl;subst this;rw[q9g.q2v];rfl
 |succ k ih =>
  intro l m hl hm hk;obtain⟨m,rfl⟩:=qSx m;obtain⟨r,d,rfl⟩:∃r d,l=r++[d]:=by
   rcases Dh l with h | ⟨r,d,h⟩
   ·subst h;simp at hl
   ·exact⟨r,d,by simpa using h⟩
  have hr:r.length=k:=by simpa using hl
  rw[q9g.q2v,Aa,Af,Ac,hl];have e1:w6 (((k+1:Nat):Int)-1)=(k:Int):=by rw[qo];omega
  have hat:at' ((r++[d]).map d32) k 0=some (.int .u32 (d:Int)):=by
   rw[q3p (by rw[hl];omega)];simp[<- hr]
  rw[e1,q9,Ae,hat,qi,Ae];by_cases h0:d=0
  ·subst h0;rw[show(((0:Nat):Int)==0)=true from rfl,Ac,q1s,Ae,qcg];have:List.drop 0 (List.take k ((r++[0]).map d32))=r.map d32:=by
    rw[Au,AK,DR (by simp[hr]),CR (by simp[hr])]
   rw[this];exact ih r m hr (by omega) (by omega)
  ·rw[show((d:Int)==0)=false from Bq.2 (by omega),Ab,qch h0]
theorem q8m{n:Nat}{l:List Nat}(h:l.length<=1099511627776+1:=by omega)(hn:l.length<n:=by omega):evF En (n+1) 229 [L32 l]=some [L32 (tz l)]:=by
 rw[qpg];exact trim_loop l.length l n rfl hn h
theorem sum32{c x:Nat}(h:c+x<18446744073709551616)(hx:x<4294967296):IntKind.wrap .u64 ((c:Int)+IntKind.wrap .u64 (x:Int))=((c+x:Nat):Int):=by
 rw[q1a (by omega:x<18446744073709551616),q7b h]
theorem lo32(x:Nat):IntKind.wrap .u32 (x:Int)=((x%4294967296:Nat):Int):=wrap_u32 x
theorem hi32(x:Nat):shI false .u64 (x:Int) 32=((x / 4294967296:Nat):Int):=by
 have:=qba .u64 x 32 (by decide);rw[show((32:Nat):Int)=32 from rfl]at this;rw[this]
theorem add_loop{n:Nat}{a b:List Nat}(ha:Dg 4294967296 a)(hb:Dg 4294967296 b)(hab:b.length<=a.length)(hl:a.length<=1099511627776)(hn:a.length+3<=n){l2:List FV}:∀(d i m:Nat) (pre:List Nat) (c:Nat),i+d=a.length->d<m->pre.length=i->c<=1 ->
  q6g.l6 n [] m [L32 a,L32 b,.list 1 l2,L32 (pre++List.replicate (d+1) 0),.int .u64 (c:Int),L32 a,.int .i64 (a.length:Int),.int .i64 (i:Int)]=some [L32 (tz (pre++addL 4294967296 (a.drop i) (b.drop i) c))]:=by
 intro d
 induction d with
 |zero =>
  intro i m pre c hi hm hp hc;obtain⟨m,rfl⟩:=qSx m;obtain⟨n,rfl⟩:=qSx n;rw[q6g.q2n,Ad,Ab];simp only[Aa,AZ,BJ,q9 (show a.length<pre.length+(0+1) by omega),Ae];rw[lo32,AL (by omega:c<4294967296),qc0,Co,AN,q8m (by simp;omega) (by simp;omega)];simp only[Ae,Aj,qx];rw[AO (by omega)];rfl
 |succ d ih =>
  intro i m pre c hi hm hp hc;obtain⟨m,rfl⟩:=qSx m;have hia:i<a.length:=by omega
  have hx:=ha a[i] (Ah hia);rw[q6g.q2n,Af,Ac,q1t hia];simp only[Aa,AZ,BJ,q9 hia,Ae,q3p hia,qi,q9 (show i<pre.length+(d+1+1) by omega),addL];by_cases hib:i<b.length
  ·have hy:=hb b[i] (Ah hib);rw[Af,Ac,q1t hib];simp only[q9 hib,Ae,q3p hib,qi,List.headD_cons,Ew];rw[sum32 (by omega) hx,sum32 (by omega) hy,lo32,hi32,qc0 hp,qd (by omega)]
   rw[ih (i+1) m (pre++[(c+a[i]+b[i])%4294967296]) ((c+a[i]+b[i]) / 4294967296) (by omega) (by omega) (by simp[hp]) (by
    have:=BN (m:=c+a[i]+b[i]) (n:=4294967296) (k:=2) (by omega)
    omega)]
   rw[Ap];rfl
  ·rw[Ad,Ab,AO (show b.length<=i by omega)];simp only[List.headD_nil,List.tail_nil,Ay];rw[sum32 (by omega) hx,lo32,hi32,qc0 hp,qd (by omega)]
   have:=ih (i+1) m (pre++[(c+a[i])%4294967296]) ((c+a[i]) / 4294967296) (by omega) (by omega) (by simp[hp]) (by
    have:=BN (m:=c+a[i]) (n:=4294967296) (k:=2) (by omega)
    omega)
   rw[AO (show b.length<=i+1 by omega)]at this;rw[this,Ap];rfl
theorem natAdd_ev{x y:Nat}(hx:(dg 4294967296 x).length<=1099511627776-1)(hy:(dg 4294967296 y).length<=1099511627776-1):Ev En 200 [L32 (dg 4294967296 x),L32 (dg 4294967296 y)] [L32 (dg 4294967296 (x+y))]:=by
 have main:∀(u v:Nat),(dg 4294967296 v).length<=(dg 4294967296 u).length->(dg 4294967296 u).length<=1099511627776-1->∀n,(dg 4294967296 u).length+3<=n ->
   ((q1p 4 (w6 (((dg 4294967296 u).length:Int)+1))).bind λi0=>(bd (w6 (((dg 4294967296 u).length:Int)+1)) i0).bind λi1=>q6g.l6 n [] n [L32 (dg 4294967296 u),L32 (dg 4294967296 v),.list 1 [],.list 1 (List.replicate i1 (.int .u32 0:FV)),.int .u64 0,L32 (dg 4294967296 u),.int .i64 ((dg 4294967296 u).length:Int),.int .i64 0])=some [L32 (dg 4294967296 (u+v))]:=λu v h1 h2 n hn=>by
  rw[qd (by omega),mk4,Ae,q1s (Ak _),Ae,rep0];have:=add_loop (n:=n) (q10 qp u) (q10 qp v) h1 (by omega) hn (l2:=[]) (dg 4294967296 u).length 0 n [] 0 (by omega) (by omega) rfl (by omega);rw[As,Au,Au,As]at this;rw[show(((0:Nat):Int))=0 from rfl]at this;rw[this,<- q31 qp (qer qp _ _ 0 (q10 qp u) (q10 qp v) (by omega)),qes _ _ _ h1,q1x qp,q1x qp,Ay]
 refine Ev.of ((dg 4294967296 x).length+(dg 4294967296 y).length+3) λn hn=>?_;rw[qpa,Aa,Aa];by_cases h:(dg 4294967296 x).length<(dg 4294967296 y).length
 ·rw[Af,Ac,main y x (by omega) hy n (by omega),Bn]
 ·rw[Ad,Ab,main x y (by omega) hx n (by omega)]
theorem qh3{x:Nat}(hx:x<18446744073709551616):Ev En 204 [.int .u64 (x:Int)] [L32 (dg 4294967296 x)]:=by
 refine Ev.of 5 λn hn=>?_;obtain⟨n,rfl⟩:=qSx n;rw[nat_Of_eq,lo32,hi32,lo32];have e:qb 2 (.int .u32 0) [(0,(.int .u32 ((x%4294967296:Nat):Int))),(1,(.int .u32 ((x / 4294967296%4294967296:Nat):Int)))]=[x%4294967296,x / 4294967296%4294967296].map d32:=rfl;rw[e,q8m (by simp) (by simp;omega)];simp only[Ae,Aj,qx];have hd:Dg 4294967296 [x%4294967296,x / 4294967296%4294967296]:=λd hd=>by
  simp only[Ar,List.not_mem_nil,or_false]at hd;omega
 rw[<- q31 qp hd];have:vl 4294967296 [x%4294967296,x / 4294967296%4294967296]=x:=by simp only[vl];omega
 rw[this]
theorem mul64{x y:Nat}(hx:x<4294967296)(hy:y<4294967296):IntKind.wrap .u64 (IntKind.wrap .u64 (x:Int)*IntKind.wrap .u64 (y:Int))=((x*y:Nat):Int)/\x*y<=18446744065119617025:=by
 have h:x*y<=4294967295*4294967295:=Cw (by omega) (by omega);exact⟨by rw[q1a,q1a,qb0],h⟩
theorem qum{n:Nat}{a:List Nat}{k:Nat}(ha:Dg 4294967296 a)(hk:k<4294967296)(hl:a.length<=1099511627776)(hn:a.length+3<=n){l1:List FV}:∀(d i m:Nat) (pre:List Nat) (c:Nat),i+d=a.length->d<m->pre.length=i->c<4294967296 ->
  q9i.l4 n [] m [L32 a,.list 1 l1,.int .u32 (k:Int),L32 (pre++List.replicate (d+1) 0),.int .u64 (c:Int),L32 a,.int .i64 (a.length:Int),.int .i64 (i:Int)]=some [L32 (tz (pre++mulL 4294967296 (a.drop i) k c))]:=by
 intro d
 induction d with
 |zero =>
  intro i m pre c hi hm hp hc;obtain⟨m,rfl⟩:=qSx m;obtain⟨n,rfl⟩:=qSx n;rw[q9i.q13,Ad,Ab];simp only[Aa,AZ,BJ,q9 (show a.length<pre.length+(0+1) by omega),Ae];rw[lo32,AL hc,qc0,Co,AN,q8m (by simp;omega) (by simp;omega)];simp only[Ae,Aj,qx];rw[AO (by omega)];rfl
 |succ d ih =>
  intro i m pre c hi hm hp hc;obtain⟨m,rfl⟩:=qSx m;have hia:i<a.length:=by omega
  have hx:=ha a[i] (Ah hia);obtain⟨e1,e2⟩:=mul64 hx hk;rw[q9i.q13,Af,Ac,q1t hia];simp only[Aa,AZ,BJ,q9 hia,Ae,q3p hia,qi,q9 (show i<pre.length+(d+1+1) by omega),mulL];rw[e1,q7b,lo32,hi32,qc0 hp,qd (by omega)];rw[ih (i+1) m (pre++[(c+a[i]*k)%4294967296]) ((c+a[i]*k) / 4294967296) (by omega) (by omega) (by simp[hp]) (BN (qay hx hk hc))];rw[Ap];rfl
theorem quh{x k c:Nat}(hk:k<4294967296)(hc:c<4294967296)(hx:(dg 4294967296 x).length<=1099511627775):Ev En 250 [L32 (dg 4294967296 x),.int .u32 (k:Int),.int .u32 (c:Int)] [L32 (dg 4294967296 (x*k+c))]:=by
 refine Ev.of ((dg 4294967296 x).length+3) λn hn=>?_;rw[qpl,Aa,qd (by omega),mk4,Ae,q1s (Ak _),Ae,rep0,q1a];have:=qum (n:=n) (q10 qp x) hk (by omega) hn (l1:=[]) (dg 4294967296 x).length 0 n [] c (by omega) (by omega) rfl hc;rw[As,Au,As]at this;rw[show(((0:Nat):Int))=0 from rfl]at this;rw[this,<- q31 qp (qeo _ k c (q10 qp x) hk hc),qep,q1x qp]
theorem qax{α:Type}{pre:List α}{x y:α}{r:List α}{i:Nat}(h:pre.length=i):(pre++x::r).set i y=pre++y::r:=by subst h;exact set_mid pre x y r
theorem qun{n:Nat}{a:List Nat}{k:Nat}(ha:Dg 4294967296 a)(hk0:0<k)(hk:k<4294967296)(hl:a.length<=1099511627776)(hn:a.length+3<=n){l1:List FV}:∀(i m:Nat),i<=a.length->i<m ->
  q9f.l4 n [] m [L32 a,.list 1 l1,.int .u32 (k:Int),L32 (List.replicate i 0++(divL 4294967296 k (a.drop i)).2),.int .u64 (((divL 4294967296 k (a.drop i)).1:Nat):Int),.int .i64 ((i:Int)-1)] =
   some [L32 (tz (divL 4294967296 k a).2),.int .u32 (((divL 4294967296 k a).1:Nat):Int)]:=by
 intro i
 induction i with
 |zero =>
  intro m hi hm;obtain⟨m,rfl⟩:=qSx m;obtain⟨n,rfl⟩:=qSx n;obtain⟨g1,g2,g3,g4⟩:=q63 hk0 a ha;rw[q9f.q13,Ad,Ab,Au,Co,As,q8m];simp only[Ae,Aj,qx];rw[lo32,AL (by omega)]
 |succ i ih =>
  intro m hi hm;obtain⟨m,rfl⟩:=qSx m;have hia:i<a.length:=by omega
  have hx:=ha a[i] (Ah hia);have hda:Dg 4294967296 (a.drop (i+1)):=λd hd=>ha d (Cy hd);obtain⟨g1,g2,g3,g4⟩:=q63 hk0 (a.drop (i+1)) hda;have ih:=ih m (by omega) (by omega);rw[q1t hia]at ih;simp only[divL]at ih;generalize (divL 4294967296 k (a.drop (i+1))).1=r at g1 g2 ih ⊢;generalize (divL 4294967296 k (a.drop (i+1))).2=q at g1 g3 g4 ih ⊢;have hq:q.length=a.length-(i+1):=by rw[g4,Dy]
  have hlen:(List.replicate (i+1) 0++q).length=a.length:=by simp[hq];omega
  have e0:(((i+1:Nat):Int)-1)=(i:Int):=by omega
  have e1:bitI .or .u64 (shI true .u64 (r:Int) 32) (IntKind.wrap .u64 (a[i]:Int))=((r*4294967296+a[i]:Nat):Int):=by
   have h1:=qaa .u64 r 32 (by decide);rw[show((32:Nat):Int)=32 from rfl]at h1;rw[h1,q1a,q1a,qbb,qdg (s:=32) (by omega)]
  have e2:Int.tdiv ((r*4294967296+a[i]:Nat):Int) (k:Int)=(((r*4294967296+a[i]) / k:Nat):Int):=rfl;have e3:Int.tmod ((r*4294967296+a[i]:Nat):Int) (k:Int)=(((r*4294967296+a[i])%k:Nat):Int):=rfl;have hdig:(r*4294967296+a[i]) / k<4294967296:=by
   rw[BO hk0];have:(r+1)*4294967296<=k*4294967296:=AT _ g2;omega
  rw[q9f.q13,e0,Af,Ac,q1a (show k<18446744073709551616 by omega),show decide ((k:Int)=0)=false from Ad];simp only[Aa,hlen,q9 hia,Ae,q3p hia,qi,Ab];rw[e1,e2,e3,q1a,q6e hdig];have hset:List.set ((List.replicate (i+1) 0++q).map d32) i (.int .u32 (((r*4294967296+a[i]) / k:Nat):Int))=(List.replicate i 0++((r*4294967296+a[i]) / k)::q).map d32:=by
   have hr:List.replicate (i+1) 0++q=List.replicate i 0++(0::q):=by rw[CA,Ap];rfl
   rw[hr,AK,AS,qax (by simp),AK,AS]
  rw[hset,show w6 ((i:Int)-1)=(i:Int)-1 from qo];exact ih
theorem qm7{x k:Nat}(hk0:0<k)(hk:k<4294967296)(hx:(dg 4294967296 x).length<=1099511627775):Ev En 205 [L32 (dg 4294967296 x),.int .u32 (k:Int)] [L32 (dg 4294967296 (x / k)),.int .u32 ((x%k:Nat):Int)]:=by
 refine Ev.of ((dg 4294967296 x).length+3) λn hn=>?_;rw[qpc,Aa,mk4,Ae,q1s (Ak _),Ae,rep0,show w6 (((dg 4294967296 x).length:Int)-1)=((dg 4294967296 x).length:Int)-1 from qo];have:=qun (n:=n) (q10 qp x) hk0 hk (by omega) hn (l1:=[]) (dg 4294967296 x).length n (Ak _) (by omega);rw[AO (Ak _)]at this;simp only[divL,AN]at this;rw[show(((0:Nat):Int))=0 from rfl]at this;rw[this];obtain⟨g1,g2,g3,g4⟩:=q63 hk0 (dg 4294967296 x) (q10 qp x);rw[q1x qp]at g1;rw[<- q31 qp g3];have key:∀q r:Nat,x=k*q+r->r<k->x / k=q/\x%k=r:=by
  intro q r e hr;subst e;exact⟨by rw[EK hk0,CS hr,Ay],by rw[DV,AL hr]⟩
 obtain⟨h1,h2⟩:=key _ _ g1 g2;rw[h1,h2]
def cmpN(x y:Nat):Int:=if x<y then -1 else if y<x then 1 else 0
theorem cmp_loop{n:Nat}{a b:List Nat}(ha:Dg 4294967296 a)(hb:Dg 4294967296 b)(hab:a.length=b.length)(hl:a.length<=1099511627776):∀(i m:Nat),i<=a.length->i<m->a.drop i=b.drop i ->
  q9e.l6 n [] m [L32 a,L32 b,.int .i64 ((i:Int)-1)]=some [.int .i64 (cmpN (vl 4294967296 a) (vl 4294967296 b))]:=by
 intro i
 induction i with
 |zero =>
  intro m hi hm he;obtain⟨m,rfl⟩:=qSx m;rw[Au,Au]at he;subst he;rw[q9e.q2n,Ad,Ab];simp[cmpN]
 |succ i ih =>
  intro m hi hm he;obtain⟨m,rfl⟩:=qSx m;have hia:i<a.length:=by omega
  have hib:i<b.length:=by omega
  have e0:(((i+1:Nat):Int)-1)=(i:Int):=by omega
  rw[q9e.q2n,e0,Af,Ac];simp only[Aa,q9 hia,q9 hib,Ae,q3p hia,q3p hib,qi];have da:a=a.take i++a[i]::a.drop (i+1):=by rw[<- q1t hia,BX]
  have db:b=b.take i++b[i]::b.drop (i+1):=by rw[<- q1t hib,BX]
  have ta:Dg 4294967296 (a.take i):=λd hd=>ha d (CJ hd);have tb:Dg 4294967296 (b.take i):=λd hd=>hb d (CJ hd);have tl:(a.take i).length=(b.take i).length:=by rw[BF,BF,hab]
  by_cases h:a[i]=b[i]
  ·rw[show((a[i]:Int) !=(b[i]:Int))=false by simp[h],Ab,show w6 ((i:Int)-1)=(i:Int)-1 from qo];exact ih m (by omega) (by omega) (by rw[q1t hia,q1t hib,h,he])
  ·rw[show((a[i]:Int) !=(b[i]:Int))=true by simp;omega,Ac];by_cases hlt:a[i]<b[i]
   ·rw[Af,Ac];have:=qcj (b:=4294967296) (by omega) ta tb tl hlt (b.drop (i+1));rw[<- db,<- he,<- da]at this;unfold cmpN;rw[if_pos this]
   ·rw[Ad,Ab];have:=qcj (b:=4294967296) (by omega) tb ta tl.symm (show b[i]<a[i] by omega) (a.drop (i+1));rw[<- da,he,<- db]at this;unfold cmpN;rw[if_neg (by omega),if_pos this]
theorem q9s{x y:Nat}(hx:(dg 4294967296 x).length<=1099511627775)(hy:(dg 4294967296 y).length<=1099511627775):Ev En 202 [L32 (dg 4294967296 x),L32 (dg 4294967296 y)] [.int .i64 (cmpN x y)]:=by
 refine Ev.of ((dg 4294967296 x).length+3) λn hn=>?_;rw[qpb,Aa,Aa];by_cases h1:(dg 4294967296 x).length<(dg 4294967296 y).length
 ·rw[Af,Ac];have:=q9x qp h1;unfold cmpN;rw[if_pos this]
 ·rw[Ad,Ab];by_cases h2:(dg 4294967296 y).length<(dg 4294967296 x).length
  ·rw[Af,Ac];have:=q9x qp h2;unfold cmpN;rw[if_neg (by omega),if_pos this]
  ·rw[Ad,Ab,show w6 (((dg 4294967296 x).length:Int)-1)=((dg 4294967296 x).length:Int)-1 from qo];have:=cmp_loop (n:=n) (q10 qp x) (q10 qp y) (by omega) (by omega) (dg 4294967296 x).length n (Ak _) (by omega) (by rw[AO (Ak _),AO (by omega)]);rw[q1x qp,q1x qp]at this;exact this
end Rf
end
section
set_option maxHeartbeats 1000000
namespace Rf
open Go
theorem q5q{pre:List Nat}{x y:Nat}{r:List Nat}{i:Nat}(h:pre.length=i:=by omega):List.set ((pre++x::r).map d32) i (.int .u32 (y:Int))=(pre++y::r).map d32:=by
 rw[AK,AS,qax (by simpa using h)];simp[d32]
theorem q42{pre:List Nat}{x:Nat}{r:List Nat}{i:Nat}(h:pre.length=i:=by omega):at' ((pre++x::r).map d32) i 0=some (.int .u32 (x:Int)):=by
 subst h;rw[q26,CQ (Ak _),Cn];rfl
theorem wu32(z:Int):IntKind.wrap .u32 z=z%4294967296:=by
 unfold IntKind.wrap;simp[IntKind.bits,IntKind.signed]
theorem qup{x y br:Nat}(hx:x<4294967296)(hy:y<4294967296)(hb:br<=1):IntKind.wrap .u32 (IntKind.wrap .u32 ((x:Int)-(y:Int))-(br:Int))=(((4294967296+x-y-br)%4294967296:Nat):Int):=by
 rw[wu32,wu32];omega
theorem qhq{n x y br:Nat}(hx:x<4294967296)(hy:y<4294967296)(hb:br<=1) :
  evF En (n+1) 231 [.int .u32 (x:Int),.int .u32 (y:Int),.int .u32 (br:Int)]=some [.int .u32 (((4294967296+x-y-br)%4294967296:Nat):Int),.int .u32 ((if x<y+br then 1 else 0:Nat):Int)]:=by
 rw[qph,qup hx hy hb,qp2 hx hy hb]
theorem sub_loop{n:Nat}{a b:List Nat}(ha:Dg 4294967296 a)(hb:Dg 4294967296 b)(hl:a.length<=1099511627776)(hn:a.length+3<=n){l1:List FV}:∀(d i m:Nat) (pre:List Nat) (c:Nat),i+d=a.length->d<m->pre.length=i->c<=1 ->
  q7m.l6 n [] m [L32 b,.list 1 l1,L32 (pre++a.drop i),.int .u32 (c:Int),.int .i64 (a.length:Int),.int .i64 (i:Int)]=some [L32 (tz (pre++(subL 4294967296 (a.drop i) (b.drop i) c).1)),.int .i64 0]:=by
 intro d
 induction d with
 |zero =>
  intro i m pre c hi hm hp hc;obtain⟨m,rfl⟩:=qSx m;obtain⟨n,rfl⟩:=qSx n;rw[q7m.q2n,Ad,Ab,AO (show a.length<=i by omega)];simp only[subL,AN];rw[q8m];simp only[Ae,Aj,qx]
 |succ d ih =>
  intro i m pre c hi hm hp hc;obtain⟨m,rfl⟩:=qSx m;have hia:i<a.length:=by omega
  have hx:=ha a[i] (Ah hia);rw[q7m.q2n,Af,Ac,q1t hia];have hlen:i<(pre++a[i]::a.drop (i+1)).length:=by simp;omega
  obtain⟨n,rfl⟩:=qSx n;have key:∀y:Nat,y<4294967296->y=(b.drop i).headD 0->(evF En (n+1) 231 [.int .u32 (a[i]:Int),.int .u32 (y:Int),.int .u32 (c:Int)]).bind (λr4=>(asInt .u32 (r4[0]?)).bind λn5=>(asInt .u32 (r4[1]?)).bind λn6=>(ix (i:Int) ((pre++a[i]::a.drop (i+1)).map d32).length).bind λi7=>q7m.l6 (n+1) [] m [L32 b,.list 1 l1,.list 1 (List.set ((pre++a[i]::a.drop (i+1)).map d32) i7 (.int .u32 n5)),.int .u32 n6,.int .i64 (a.length:Int),.int .i64 (w6 ((i:Int)+1))]) =
    some [L32 (tz (pre++(subL 4294967296 (a[i]::a.drop (i+1)) (b.drop i) c).1)),.int .i64 0]:=λy hy he=>by
   rw[qhq hx hy hc];simp only[Ae,Aj,AP,qi,Aa,q9 hlen];rw[q5q hp,qd (by omega)];have:=ih (i+1) m (pre++[(4294967296+a[i]-y-c)%4294967296]) (if a[i]<y+c then 1 else 0) (by omega) (by omega) (by simp[hp]) (by split <;> omega);rw[Ap]at this;refine this.trans ?_;simp only[subL,<- he,List.tail_drop,Ap];rfl
  simp only[Aa,q9 hlen,Ae,q42 hp,qi];by_cases hib:i<b.length
  ·rw[Af,Ac];simp only[q9 hib,Ae,q3p hib,qi];have:=key b[i] (hb b[i] (Ah hib)) (by rw[q1t hib];rfl);simp only[Aa,q9 hlen]at this;exact this
  ·rw[Ad,Ab];have:=key 0 (by omega) (by rw[AO (by omega)];rfl);simp only[Aa,q9 hlen]at this;exact this
theorem clone_run{n:Nat}{l:List Nat}(h:l≠[])(hl:l.length<=1099511627776):evF En (n+1) 230 [L32 l]=some [L32 l]:=by
 show cloneExt [L32 l]=_;simp only[cloneExt];rw[if_pos ⟨by simpa using h,by simpa using hl,by simp[]⟩]
theorem qlk{x y:Nat}(h0:x≠0)(hyx:y<=x)(hx:(dg 4294967296 x).length<=1099511627775)(hy:(dg 4294967296 y).length<=1099511627775):Ev En 201 [L32 (dg 4294967296 x),L32 (dg 4294967296 y)] [L32 (dg 4294967296 (x-y)),.int .i64 0]:=by
 obtain⟨n1,h1⟩:=q9s hx hy;refine Ev.of (n1+(dg 4294967296 x).length+3) λn hn=>?_;obtain⟨n,rfl⟩:=qSx n;rw[qja,h1 _ (by omega)];simp only[Ae,Aj,qi];rw[Ad (by unfold cmpN;rw[if_neg (by omega)];split <;> omega),Ab,clone_run (λh=>h0 ((q4t qp).1 h)) (by omega)];simp only[Ae,Aj,qx,Aa];have:=sub_loop (n:=n+1) (q10 qp x) (q10 qp y) (by omega) (by omega) (l1:=[]) (dg 4294967296 x).length 0 (n+1) [] 0 (by omega) (by omega) rfl (by omega);rw[As,Au,Au,As]at this;refine this.trans ?_;have hlen:(dg 4294967296 y).length<=(dg 4294967296 x).length:=by
  apply Df;intro hlt;have:=q9x qp hlt;omega
 obtain⟨g1,g2,g3,g4⟩:=qeu qp (dg 4294967296 x) (dg 4294967296 y) 0 (q10 qp x) (q10 qp y) (by omega) hlen;rw[q1x qp,q1x qp]at g1;have hv:=q4e (by omega) g2;rw[g3]at hv;have:(subL 4294967296 (dg 4294967296 x) (dg 4294967296 y) 0).2=0:=by
  rcases Dj 0 (subL 4294967296 (dg 4294967296 x) (dg 4294967296 y) 0).2 with q | q
  ·have e:(subL 4294967296 (dg 4294967296 x) (dg 4294967296 y) 0).2=1:=by omega
   rw[e]at g1;omega
  ·omega
 rw[this]at g1;rw[<- q31 qp g2];have e:vl 4294967296 (subL 4294967296 (dg 4294967296 x) (dg 4294967296 y) 0).1=x-y:=by omega
 rw[e]
theorem qtk{x y:Nat}(hxy:x<y)(hx:(dg 4294967296 x).length<=1099511627775)(hy:(dg 4294967296 y).length<=1099511627775):Ev En 201 [L32 (dg 4294967296 x),L32 (dg 4294967296 y)] [.list 1 [],.int .i64 11]:=by
 obtain⟨n1,h1⟩:=q9s hx hy;refine Ev.of n1 λn hn=>?_;rw[qja,h1 _ (by omega)];simp only[Ae,Aj,qi];rw[Af (by unfold cmpN;rw[if_pos hxy];omega),Ac]
theorem mul_row{n m0:Nat}{a b:List Nat}(hb:Dg 4294967296 b)(hl:a.length+b.length<=1099511627776){l1:List FV}{x i:Nat}(hx:x<4294967296)(hia:i<a.length):∀(e:List Nat) (k m:Nat) (pre acc:List Nat) (c:Nat),b.drop k=e->k+e.length=b.length->e.length<m->pre.length=i+k->e.length<acc.length->Dg 4294967296 acc->c<4294967296 ->
  q3q.l7 n [m0] m [L32 b,.list 1 l1,L32 (pre++acc),.int .i64 (i:Int),.int .u32 (x:Int),.int .u64 (c:Int),L32 a,.int .i64 (a.length:Int),.int .i64 (i:Int),L32 b,.int .i64 (b.length:Int),.int .i64 (k:Int)] =
   q3q.l3 n [] m0 [L32 b,.list 1 l1,L32 (pre++maRow 4294967296 acc e x c),L32 a,.int .i64 (a.length:Int),.int .i64 ((i+1:Nat):Int)]:=by
 intro e
 induction e with
 |nil =>
  intro k m pre acc c hk hke hm hp hacc hd hc;obtain⟨m,rfl⟩:=qSx m;simp only[Be,Ay]at hke;obtain⟨h,t,rfl⟩:∃h t,acc=h::t:=by
   cases acc with
   |nil=>simp at hacc
   |cons h t=>exact⟨h,t,rfl⟩
  rw[q3q.q3a,Ad,Ab,Aa,q2m];have hlt:i+b.length<(pre++h::t).length:=by simp;omega
  simp only[Aa,q9 hlt,Ae];rw[q6e hc,q5q,qd (by omega)];rfl
 |cons y e ih =>
  intro k m pre acc c hk hke hm hp hacc hd hc;obtain⟨m,rfl⟩:=qSx m;obtain⟨h,t,rfl⟩:∃h t,acc=h::t:=by
   cases acc with
   |nil=>simp at hacc
   |cons h t=>exact⟨h,t,rfl⟩
  simp only[Aq]at hke hm hacc;have hkb:k<b.length:=by omega
  have hy:b[k]=y/\b.drop (k+1)=e:=by
   rw[q1t hkb]at hk;cases hk;exact⟨rfl,rfl⟩
  have hyl:y<4294967296:=by rw[<- hy.1];exact hb _ (Ah hkb)
  obtain⟨hh,ht⟩:=hd.tail;have hlt:i+k<(pre++h::t).length:=by simp;omega
  rw[q3q.q3a,Af,Ac,q2m];simp only[Aa,q9 hkb,Ae,q3p hkb,qi,q9 hlt,q42 (show pre.length=i+k by omega),hy.1];obtain⟨hm1,hm2⟩:=mul64 hx hyl;rw[hm1,q1a (show h<18446744073709551616 by omega),q7b,q7b,lo32,hi32,q5q,qd (by omega)];have:=ih (k+1) m (pre++[(c+(h+x*y))%4294967296]) t ((c+(h+x*y)) / 4294967296) hy.2 (by omega) (by omega) (by simp;omega) (by omega) ht (BN (by omega));rw[Ap]at this;refine this.trans ?_;simp only[maRow,Ap];rfl
theorem mul_outer{n:Nat}{a b:List Nat}(ha:Dg 4294967296 a)(hb:Dg 4294967296 b)(hl:a.length+b.length<=1099511627776)(hn:a.length+b.length+3<=n){l1:List FV}:∀(e:List Nat) (i m:Nat) (pre w:List Nat),a.drop i=e->i+e.length=a.length->e.length<m->pre.length=i->w.length=b.length->Dg 4294967296 w ->
  q3q.l3 n [] m [L32 b,.list 1 l1,L32 (pre++(w++List.replicate e.length 0)),L32 a,.int .i64 (a.length:Int),.int .i64 (i:Int)]=some [L32 (tz (pre++mulO 4294967296 e (w++List.replicate e.length 0) b))]:=by
 intro e
 induction e with
 |nil =>
  intro i m pre w hi hie hm hp hw hd;obtain⟨m,rfl⟩:=qSx m;obtain⟨n,rfl⟩:=qSx n;simp only[Be,Ay]at hie;rw[q3q.qq,Ad,Ab,q8m (by simp;omega) (by simp;omega)];simp only[Ae,Aj,qx,mulO]
 |cons x e ih =>
  intro i m pre w hi hie hm hp hw hd;obtain⟨m,rfl⟩:=qSx m;simp only[Aq]at hie hm;have hia:i<a.length:=by omega
  have hx:a[i]=x/\a.drop (i+1)=e:=by
   rw[q1t hia]at hi;cases hi;exact⟨rfl,rfl⟩
  have hxl:x<4294967296:=by rw[<- hx.1];exact ha _ (Ah hia)
  rw[q3q.qq,Af,Ac];simp only[Aa,q9 hia,Ae,q3p hia,qi,hx.1];have hrow:=mul_row (n:=n) (m0:=m) (a:=a) hb hl (l1:=l1) hxl hia b 0 n pre (w++List.replicate (e.length+1) 0) 0 rfl (by omega) (by omega) (by omega) (by simp;omega) (hd.app (λd h=>by have:=CI h;omega)) (by omega);simp only[Aq];rw[show((0:Nat):Int)=0 from rfl]at hrow;rw[hrow];obtain⟨w',h1,h2,h3,h4⟩:=qck qp w b (List.replicate e.length 0) x 0 hw hd hb hxl (by omega);rw[Cd,h1];cases w' with
  |nil=>simp at h2
  |cons d t =>
   obtain⟨hd1,ht⟩:=h3.tail;have:=ih (i+1) m (pre++[d]) t hx.2 (by omega) (by omega) (by simp[hp]) (by simpa using h2) ht;rw[Ap]at this;refine this.trans ?_;simp only[mulO,h1,Al,Ap];rfl
theorem natMul_ev{x y:Nat}(h:(dg 4294967296 x).length+(dg 4294967296 y).length<=1099511627775):Ev En 212 [L32 (dg 4294967296 x),L32 (dg 4294967296 y)] [L32 (dg 4294967296 (x*y))]:=by
 refine Ev.of ((dg 4294967296 x).length+(dg 4294967296 y).length+3) λn hn=>?_;rw[qpd,Aa,Aa,q2m,mk4,Ae,q1s (Ak _),Ae,rep0];have:=mul_outer (n:=n) (q10 qp x) (q10 qp y) (by omega) (by omega) (l1:=[]) (dg 4294967296 x) 0 n [] (List.replicate (dg 4294967296 y).length 0) rfl (by omega) (by omega) rfl (by simp) (λd h=>by have:=CI h;omega);rw[As,DS,As,Bn (dg 4294967296 y).length,show((0:Nat):Int)=0 from rfl]at this;refine this.trans ?_;obtain⟨g1,g2,_⟩:=qev qp (dg 4294967296 x) (List.replicate (dg 4294967296 y).length 0) (dg 4294967296 y) (by simp) (λd h=>by have:=CI h;omega) (q10 qp y) (q10 qp x);rw[DS,Bn (dg 4294967296 y).length]at g1 g2;have hz:∀k:Nat,vl 4294967296 (List.replicate k 0)=0:=λk=>by
  induction k with
  |zero=>rfl
  |succ k ih=>rw[Cd];simp[vl,ih]
 rw[<- q31 qp g2,g1,hz,q1x qp,q1x qp,AG]
theorem qm9{x:Nat}(hx:x<18446744073709551616):Ev En 251 [L32 (dg 4294967296 x)] [.int .u64 (x:Int)]:=by
 have hlen:(dg 4294967296 x).length<=2:=q59 qp (k:=2) (by simpa using hx);have hv:=q1x qp x;have hd:=q10 qp x;refine Ev.of 3 λn hn=>?_;obtain⟨n,rfl⟩:∃k,n=k+3:=⟨n-3,by omega⟩;rw[qpm];generalize dg 4294967296 x=l at hlen hv hd ⊢
 match l,hlen,hv,hd with
 |[],_,hv,_ =>
  simp only[vl]at hv;rw[q6h.qq];simp[<- hv]
 |[d0],_,hv,hd =>
  have h0:=hd d0 (by simp);simp only[vl,Ci,Ay]at hv;subst hv;rw[q6h.qq];simp only[AS,BG,Aq,Be];rw[Af,Ac,show ix (0:Int) (0+1)=some 0 from rfl];simp only[Ae,q7c,d32,FV.cells,Aj,qi];rw[show Go.IntKind.wrap .u64 (w6 (32*0))=0 by decide,Ad (by decide),Ab,q1a];have e1:=qaa .u64 d0 0 (by decide);rw[show((0:Nat):Int)=0 from rfl]at e1;rw[e1,Es,DJ,q1a,show bitI .or .u64 0 (d0:Int)=((0 ||| d0:Nat):Int) from qbb (x:=0) (by omega) (by omega),Nat.zero_or];rw[q6h.qq,show w6 (0+1)=1 by decide,Ad,Ab]
 |[d0,d1],_,hv,hd =>
  have h0:=hd d0 (by simp);have h1:=hd d1 (by simp);simp only[vl,Ci,Ay]at hv;subst hv;rw[q6h.qq];simp only[AS,BG,Aq,Be];rw[Af,Ac,show ix (0:Int) (0+1+1)=some 0 from rfl];simp only[Ae];rw[show at' [d32 d0,d32 d1] 0 0=some (.int .u32 (d0:Int)) from rfl];simp only[qi,Ae];rw[show Go.IntKind.wrap .u64 (w6 (32*0))=0 by decide,Ad (by decide),Ab,q1a];have e1:=qaa .u64 d0 0 (by decide);rw[show((0:Nat):Int)=0 from rfl]at e1;rw[e1,Es,DJ,q1a,show bitI .or .u64 0 (d0:Int)=((0 ||| d0:Nat):Int) from qbb (x:=0) (by omega) (by omega),Nat.zero_or];rw[q6h.qq,show w6 (0+1)=1 by decide,Af,Ac];rw[show ix (1:Int) [d32 d0,d32 d1].length=some 1 from rfl];simp only[Ae];rw[show at' [d32 d0,d32 d1] 1 0=some (.int .u32 (d1:Int)) from rfl];simp only[qi,Ae];rw[show Go.IntKind.wrap .u64 (w6 (32*1))=((32:Nat):Int) by decide,Ad (by decide),Ab,q1a,qaa .u64 d1 32 (by decide),q1a,qbb,Nat.or_comm,qdg];rw[q6h.qq,show w6 (1+1)=2 by decide,Ad,Ab];rw[show d1*2^32+d0=d0+4294967296*d1 by omega]
end Rf
end
section
set_option maxHeartbeats 1000000
set_option maxRecDepth 10000
namespace Rf
open Go
def qc7:ByteArray:={ data:=(([0,1,2,2,3,3,3,3,4,4,4,4,4,4,4,4,5,5,5,5,5,5,5,5,5,5,5,5,5,5,5,5,6,6,6,6,6,6,6,6,6,6,6,6,6,6,6,6,6,6,6,6,6,6,6,6,6,6,6,6,6,6,6,6].append [7,7,7,7,7,7,7,7,7,7,7,7,7,7,7,7,7,7,7,7,7,7,7,7,7,7,7,7,7,7,7,7,7,7,7,7,7,7,7,7,7,7,7,7,7,7,7,7,7,7,7,7,7,7,7,7,7,7,7,7,7,7,7,7]).append ([8,8,8,8,8,8,8,8,8,8,8,8,8,8,8,8,8,8,8,8,8,8,8,8,8,8,8,8,8,8,8,8,8,8,8,8,8,8,8,8,8,8,8,8,8,8,8,8,8,8,8,8,8,8,8,8,8,8,8,8,8,8,8,8].append [8,8,8,8,8,8,8,8,8,8,8,8,8,8,8,8,8,8,8,8,8,8,8,8,8,8,8,8,8,8,8,8,8,8,8,8,8,8,8,8,8,8,8,8,8,8,8,8,8,8,8,8,8,8,8,8,8,8,8,8,8,8,8,8])).toArray }
def bl(x:Nat):Nat:=if x=0 then 0 else Nat.log2 x+1
theorem qed:∀i:Nat,i<256->q2p qc7 (i:Int)=some ((bl i:Nat):Int):=by decide +kernel
theorem qeb{x:Nat}(h:x≠0):2^(bl x-1)<=x/\x<2^bl x/\1<=bl x:=by
 unfold bl;rw[if_neg h];exact⟨by rw[EB];exact Nat.log2_self_le h,Nat.lt_log2_self,by omega⟩
theorem bl_le{x k:Nat}(h:x<2^k):bl x<=k:=by
 rcases Bt x with h0 | h0
 ·subst h0;simp[bl]
 ·obtain⟨h1,_,h2⟩:=qeb (by omega:x≠0);have:bl x-1<k:=(Nat.pow_lt_pow_iff_right (by omega:1<2)).1 (BI h1 h);omega
theorem qhr{x k:Nat}(h:2^k<=x):bl x=k+bl (x / 2^k):=by
 have hp:0<2^k:=Bx (by omega);have hx:x≠0:=by omega
 have hq:x / 2^k≠0:=by have:=Nat.div_pos h hp;omega
 unfold bl;rw[if_neg hx,if_neg hq];have h1:=Nat.log2_self_le hq;have h2:x / 2^k<2^((x / 2^k).log2+1):=Nat.lt_log2_self
 have:x.log2=k+(x / 2^k).log2:=(Nat.log2_eq_iff hx).2 ⟨by
  rw[Cb];exact Bb (BE _ h1) (Nat.mul_div_le _ _),by
  rw[Bl,Cb,AB]
  exact(BO hp).1 h2⟩
 omega
theorem wrap_u8(x:Nat):IntKind.wrap .u8 (x:Int)=((x%256:Nat):Int):=by
 unfold IntKind.wrap;simp[IntKind.bits,IntKind.signed]
theorem shr16(x:Nat):shI false .u32 (x:Int) 16=((x / 65536:Nat):Int):=by
 have:=qba .u32 x 16 (by decide);simpa using this
theorem shr8(x:Nat):shI false .u32 (x:Int) 8=((x / 256:Nat):Int):=by
 have:=qba .u32 x 8 (by decide);simpa using this
theorem quq(n:Nat)(x0:Int):evF En (n+1) 196 [.int .u32 x0] =
 (bif(decide (x0≥65536))then
  (bif(decide ((shI false .u32 x0 16)≥256))then(q2p qc7 (Go.IntKind.wrap .u8 (shI false .u32 (shI false .u32 x0 16) 8))).bind λn0=>some [.int .i64 (w6 (24+(w6 n0)))]
   else(q2p qc7 (Go.IntKind.wrap .u8 (shI false .u32 x0 16))).bind λn1=>some [.int .i64 (w6 (16+(w6 n1)))])
  else
  (bif(decide (x0≥256))then(q2p qc7 (Go.IntKind.wrap .u8 (shI false .u32 x0 8))).bind λn2=>some [.int .i64 (w6 (8+(w6 n2)))]
   else(q2p qc7 (Go.IntKind.wrap .u8 x0)).bind λn3=>some [.int .i64 (w6 (0+(w6 n3)))])):=qp9 n x0
theorem qm5{n x:Nat}(hx:x<4294967296):evF En (n+1) 196 [.int .u32 (x:Int)]=some [.int .i64 ((bl x:Nat):Int)]:=by
 have fin:∀k y:Nat,y<256->k<=24->w6 ((k:Int)+w6 ((bl y:Nat):Int))=((k+bl y:Nat):Int):=λk y hy hk=>by
  have:=bl_le (x:=y) (k:=8) (by omega);rw[q3w,q2m]
 rw[quq,shr16,shr8,shr8];by_cases h1:65536<=x
 ·rw[Af,Ac];by_cases h2:256<=x / 65536
  ·rw[Af,Ac,wrap_u8,AL (by omega),qed _ (by omega),Ae];have:=fin 24 (x / 65536 / 256) (by omega) (by omega);rw[show((24:Nat):Int)=24 from rfl]at this;rw[this,qhr (x:=x) (k:=24) (by omega),show x / 2^24=x / 65536 / 256 by omega]
  ·rw[Ad,Ab,wrap_u8,AL (by omega),qed _ (by omega),Ae];have:=fin 16 (x / 65536) (by omega) (by omega);rw[show((16:Nat):Int)=16 from rfl]at this;rw[this,qhr (x:=x) (k:=16) (by omega)]
 ·rw[Ad,Ab];by_cases h2:256<=x
  ·rw[Af,Ac,wrap_u8,AL (by omega),qed _ (by omega),Ae];have:=fin 8 (x / 256) (by omega) (by omega);rw[show((8:Nat):Int)=8 from rfl]at this;rw[this,qhr (x:=x) (k:=8) (by omega)]
  ·rw[Ad,Ab,wrap_u8,AL (by omega),qed _ (by omega),Ae];have:=fin 0 x (by omega) (by omega);rw[show((0:Nat):Int)=0 from rfl]at this;rw[this,AG]
theorem qhm{x:Nat}(h:x≠0):∃l d,dg 4294967296 x=l++[d]/\d≠0/\d<4294967296:=by
 have hne:dg 4294967296 x≠[]:=λq=>h ((q4t qp).1 q);obtain⟨l,d,e⟩:=Dh (dg 4294967296 x) |>.resolve_left hne;rw[EA]at e;refine⟨l,d,e,dg_last qp e,?_⟩;exact q10 qp x d (by rw[e];simp)
def q7z(x:Nat):Nat:=if x=0 then 0 else 32*((dg 4294967296 x).length-1)+bl ((dg 4294967296 x).getLast?.getD 0)
theorem qe5{x:Nat}:q7z x=0↔x=0:=by
 unfold q7z;constructor
 ·intro h;apply BU;intro hx;rw[if_neg hx]at h;obtain⟨l,d,e,hd,_⟩:=qhm hx;rw[e]at h;simp only[List.getLast?_concat,Bg]at h;have:=(qeb hd).2.2;omega
 ·intro h;rw[if_pos h]
theorem qe4{x:Nat}(hx:(dg 4294967296 x).length<=1099511627775:=by omega):Ev En 217 [L32 (dg 4294967296 x)] [.int .i64 ((q7z x:Nat):Int)]:=by
 refine Ev.of 1 λn hn=>?_;obtain⟨n,rfl⟩:=qSx n;rw[qpe];rcases Bt x with h0 | h0
 ·subst h0;rw[q17];simp[q7z]
 ·obtain⟨l,d,e,hd,hdl⟩:=qhm (by omega:x≠0);have hb:q7z x=32*l.length+bl d:=by
   unfold q7z;rw[if_neg (by omega),e];simp
  have hlen:(l++[d]).length=l.length+1:=by simp
  rw[e,hlen]at hx;rw[hb,e];rw[Aa,hlen,show(((l.length+1:Nat):Int)==0)=false by simp;omega,Ab,show((l.length+1:Nat):Int)-1=(l.length:Int) by omega,q3w,q9,Ae,q42 rfl];simp only[qi,Ae,qm5 hdl,Aj];have:=bl_le (x:=d) (k:=32) (by omega);have:=qaz (x:=32) (y:=l.length) (by omega);rw[show((32:Nat):Int)=32 from rfl]at this;rw[this,q2m]
theorem qhs(x:Nat){s:Nat}(hs:s<32):x*2^s%4294967296=(x%2^(32-s))*2^s:=by
 have:4294967296=2^(32-s)*2^s:=by rw[<- Cb,show 32-s+s=32 by omega]
 rw[this,Nat.mul_mod_mul_right]
theorem qur{x s:Nat}(hx:x<4294967296)(hs:s<32):x*2^s<9223372036854775808:=by
 have:2^s<=2^31:=AW (by omega) (by omega)
 calc x*2^s<=x*2^31:=BE _ this
  _<9223372036854775808:=by omega
theorem qus{n:Nat}{a:List Nat}{s:Nat}(ha:Dg 4294967296 a)(hs:s<32)(hl:a.length<=1099511627776):∀(d i m:Nat) (pre:List Nat) (c:Nat),i+d=a.length->d<m->pre.length=i->c<2^s ->
  q9h.l3 n [] m [.int .u64 (s:Int),L32 (pre++c::List.replicate d 0),L32 a,.int .i64 (a.length:Int),.int .i64 (i:Int)]=some [L32 (pre++shlL 4294967296 s (a.drop i) c)]:=by
 intro d
 induction d with
 |zero =>
  intro i m pre c hi hm hp hc;obtain⟨m,rfl⟩:=qSx m;rw[q9h.qq,Ad,Ab,AO (show a.length<=i by omega)];rfl
 |succ d ih =>
  intro i m pre c hi hm hp hc;obtain⟨m,rfl⟩:=qSx m;have hia:i<a.length:=by omega
  have hx:=ha a[i] (Ah hia);have hv:=qur hx hs;have h32:2^s<=2^32:=AW (by omega) (by omega);have hlen:(pre++c::List.replicate (d+1) 0).length=i+(d+2):=by simp;omega
  rw[q9h.qq,Af,Ac];simp only[Aa,q9 hia,Ae,q3p hia,qi];rw[Ad,Ab];rw[q1a (show a[i]<18446744073709551616 by omega),qaa .u64 a[i] s (by show s<=64;omega),q1a,lo32,hi32];have hlt:i<(pre++c::List.replicate (d+1) 0).length:=by omega
  simp only[q9 hlt,Ae,q42 hp,qi];rw[or_u32 (by omega) (AM _ (by omega)),qhs _ hs,Nat.or_comm,qdg hc,<- qhs _ hs,q5q hp];have hlt2:i+1<((pre++(a[i]*2^s%4294967296+c)::List.replicate (d+1) 0).map d32).length:=by simp;omega
  rw[qd (by omega)];simp only[q9 hlt2,Ae]
  rw[Cd,show pre++(a[i]*2^s%4294967296+c)::0::List.replicate d 0=(pre++[a[i]*2^s%4294967296+c])++0::List.replicate d 0 by simp,q6e (by
   have:a[i]*2^s / 4294967296<2^s:=by
    rw[BO (by omega),AB];exact EC hx (Bx (by omega))
   omega),q5q (by simp[hp])]
  have:=ih (i+1) m (pre++[a[i]*2^s%4294967296+c]) (a[i]*2^s / 4294967296) (by omega) (by omega) (by simp[hp]) (by
   rw[BO (by omega),AB]
   exact EC hx (Bx (by omega)))
  refine this.trans ?_;rw[q1t hia];simp only[shlL,Ap];rw[Bn c];rfl
theorem qm6{n:Nat}{a:List Nat}{s:Nat}(ha:Dg 4294967296 a)(hs:s<32)(hl:a.length<=1099511627775:=by omega)(hn:a.length<n:=by omega) :
  evF En (n+1) 233 [L32 a,.int .u64 (s:Int)]=some [L32 (shlL 4294967296 s a 0)]:=by
 rw[qpj,Aa,qd (by omega),mk4,Ae,q1s (Ak _),Ae,rep0,Cd];exact qus (n:=n) ha hs (by omega) a.length 0 n [] 0 (by omega) (by omega) rfl (Bx (by omega))
theorem qhk{s:Nat}(hs:s<32):∀(a:List Nat) (c:Nat),Dg 4294967296 a->c<2^s->Dg 4294967296 (shlL 4294967296 s a c)
 |[],c,_,hc=>λd hd=>by
  have h32:2^s<=2^31:=AW (by omega) (by omega);simp[shlL]at hd;omega
 |x::a,c,h,hc=>by
  obtain⟨hx,ha⟩:=h.tail;have h1:=qhs x hs;have h2:x%2^(32-s)*2^s+2^s<=2^(32-s)*2^s:=by
   rw[<- Db];exact AT _ (AM _ (Bx (by omega)))
  have h3:2^(32-s)*2^s=4294967296:=by rw[<- Cb,show 32-s+s=32 by omega]
  exact Dg.cons (by omega) (qhk hs a _ ha (by
   rw[BO (by omega),AB]
   exact EC hx (Bx (by omega))))
theorem qhl{s:Nat}:∀(a:List Nat) (c:Nat),(shlL 4294967296 s a c).length=a.length+1
 |[],c=>rfl
 |x::a,c=>by simp only[shlL,Aq,qhl a]
end Rf
end
section
set_option maxHeartbeats 2000000
set_option maxRecDepth 10000
namespace Rf
open Go
theorem pow_pos'(k:Nat):0<(4294967296:Nat)^k:=Bx (by omega)
theorem qhj{l:List Nat}{n:Nat}(hd:Dg 4294967296 l)(hl:l.length=n+1:=by omega)(hv:vl 4294967296 l<4294967296^n:=by omega):∃h,l=h++[0]/\h.length=n/\Dg 4294967296 h/\vl 4294967296 h=vl 4294967296 l:=by
 have hne:l≠[]:=λq=>by rw[q]at hl;simp at hl
 obtain⟨h,d,e⟩:=Dh l |>.resolve_left hne;rw[EA]at e;subst e;have hln:h.length=n:=by simpa using hl
 rw[q9u,hln]at hv;have hd0:d=0:=by
  rcases Bt d with q | q
  ·exact q
  ·have:4294967296^n<=4294967296^n*d:=Eg _ q;omega
 subst hd0;exact⟨h,rfl,hln,λx hx=>hd x (by simp[hx]),by rw[q9u,Ci,Ay]⟩
theorem div_digit{win v:List Nat}{g:Nat}(hw:Dg 4294967296 win)(hv:Dg 4294967296 v)(hl:win.length=v.length+1)(hg:g<4294967296)
  (h1:vl 4294967296 win / vl 4294967296 v<=g) (h2:g*vl 4294967296 v<vl 4294967296 win+vl 4294967296 v) (hV:0<vl 4294967296 v) :
  ((msL 4294967296 win v g 0 0).2=0/\g=vl 4294967296 win / vl 4294967296 v/\∃h,(msL 4294967296 win v g 0 0).1=h++[0]/\h.length=v.length/\Dg 4294967296 h/\vl 4294967296 h=vl 4294967296 win%vl 4294967296 v) \/
  ((msL 4294967296 win v g 0 0).2=1/\g=vl 4294967296 win / vl 4294967296 v+1/\(msL 4294967296 win v g 0 0).1.length=v.length+1/\Dg 4294967296 (msL 4294967296 win v g 0 0).1 /\
   ∃h,abL 4294967296 (msL 4294967296 win v g 0 0).1 v 0=h++[0]/\h.length=v.length/\Dg 4294967296 h/\vl 4294967296 h=vl 4294967296 win%vl 4294967296 v):=by
 obtain⟨m1,m2,m3,m4⟩:=msL_ok qp win v g 0 0 hl hw hv hg (by omega) (by omega);generalize hr:msL 4294967296 win v g 0 0=r at m1 m2 m3 m4 ⊢;have hW:=Dz (vl 4294967296 win) (vl 4294967296 v);have hR:=AM (vl 4294967296 win) hV;have hlt:=q4e (b:=4294967296) (by omega) m2;have hVl:=q4e (b:=4294967296) (by omega) hv;generalize hQ:vl 4294967296 win / vl 4294967296 v=Q at *
 generalize hRR:vl 4294967296 win%vl 4294967296 v=R at *
 have hgq:g=Q\/g=Q+1:=by
  have:g<Q+2:=by
   apply FG (a:=vl 4294967296 v);rw[AU,<- AB (vl 4294967296 v) Q];omega
  omega
 rw[m3]at hlt;rcases hgq with e | e
 ·subst e;rw[<- hW,AB]at m1;have hb:r.2=0:=by
   rcases Bt r.2 with q | q
   ·exact q
   ·have:r.2=1:=by omega
    rw[this,DJ,hl,Ax]at m1;rw[hl,Ax]at hlt;omega
  rw[hb,Ci,Ay]at m1;have hval:vl 4294967296 r.1=R:=by omega
  obtain⟨h,q1,q2,q3,q4⟩:=qhj (n:=v.length) m2;exact .inl ⟨hb,rfl,h,q1,q2,q3,by omega⟩
 ·subst e;rw[<- hW,AU,AB,Ca]at m1;have hb:r.2=1:=by
   rcases Bt r.2 with q | q
   ·rw[q,Ci,Ay]at m1;omega
   ·omega
  rw[hb,DJ]at m1;obtain⟨a1,a2,a3⟩:=abL_ok qp r.1 v 0 (by omega) m2 hv (by omega);have hval:vl 4294967296 (abL 4294967296 r.1 v 0)=R:=by
   rw[<- a1,m3,Ay];have:vl 4294967296 r.1+vl 4294967296 v=R+4294967296^win.length:=by omega
   rw[this,Fq,Nat.mod_eq_of_lt];have:vl 4294967296 v<=4294967296^win.length:=by
    rw[hl];exact Bb (CT hVl) (AW (by omega) (by omega))
   omega
  obtain⟨h,q1,q2,q3,q4⟩:=qhj (n:=v.length) a2;exact .inr ⟨hb,rfl,by omega,m2,h,q1,q2,q3,by omega⟩
theorem msL_one(B u g ca br:Nat):msL B [u] [] g ca br=([(B+u-ca%B-br)%B],if u<ca%B+br then 1 else 0):=rfl
theorem abL_one(B u c:Nat):abL B [u] [] c=[(u+c)%B]:=rfl
theorem abL_cons(B u y c:Nat)(us e:List Nat):abL B (u::us) (y::e) c=(u+y+c)%B::abL B us e ((u+y+c) / B):=rfl
theorem msL_cons(B u u' y g ca br:Nat)(us e:List Nat):msL B (u::u'::us) (y::e) g ca br=((B+u-(ca+g*y)%B-br)%B::(msL B (u'::us) e g ((ca+g*y) / B) (if u<(ca+g*y)%B+br then 1 else 0)).1,(msL B (u'::us) e g ((ca+g*y) / B) (if u<(ca+g*y)%B+br then 1 else 0)).2):=rfl
theorem ms_loop{n m0:Nat}{l0 l1:List FV}{s:Int}{v tl q:List Nat}{k g:Nat}(hv:Dg 4294967296 v)(hg:g<4294967296)(hkq:k<q.length)(hbig:k+v.length<=1099511627776):∀(e:List Nat) (i m:Nat) (pre us:List Nat) (ca br:Nat),v.drop i=e->i+e.length=v.length->e.length<m->pre.length=k+i->us.length=e.length+1->Dg 4294967296 us->ca<4294967296->br<=1->1<=n ->
  q12.l23 n [m0] m [.list 1 l0,.list 1 l1,.int .i64 (v.length:Int),.int .u64 s,L32 v,L32 (pre++(us++tl)),L32 q,.int .i64 (k:Int),.int .u64 (g:Int),.int .u32 (br:Int),.int .u64 (ca:Int),.int .i64 (v.length:Int),.int .i64 (i:Int)] =
   (bif((msL 4294967296 us e g ca br).2==0)then q12.l13 n [] m0 [.list 1 l0,.list 1 l1,.int .i64 (v.length:Int),.int .u64 s,L32 v,L32 (pre++((msL 4294967296 us e g ca br).1++tl)),L32 (q.set k g),.int .i64 ((k:Int)-1)]
    else q12.l35 n [m0] n [.list 1 l0,.list 1 l1,.int .i64 (v.length:Int),.int .u64 s,L32 v,L32 (pre++((msL 4294967296 us e g ca br).1++tl)),.list 1 (List.set ((q.set k g).map d32) k (.int .u32 (IntKind.wrap .u32 ((g:Int)-1)))),.int .i64 (k:Int),.int .u32 0,.int .i64 (v.length:Int),.int .i64 0]):=by
 intro e
 induction e with
 |nil =>
  intro i m pre us ca br hi hie hm hp hu hd hc hb hn;obtain⟨m,rfl⟩:=qSx m;obtain⟨n,rfl⟩:=qSx n;simp only[Be,Ay,AG]at hie hu;obtain⟨u,rfl⟩:=FJ.1 hu;have hul:=hd u (by simp);rw[q12.l23_eq,Ad,Ab,q2m];have hlt:k+v.length<(pre++([u]++tl)).length:=by simp;omega
  simp only[Aa,q9 hlt,Ae];have e2:msL 4294967296 [u] [] g ca br=([(4294967296+u-ca-br)%4294967296],if u<ca+br then 1 else 0):=by rw[msL_one,AL hc]
  rw[BP]at hlt;rw[BP,q42,qi,Ae,lo32,AL hc,qhq hul hc hb,e2];generalize (4294967296+u-ca-br)%4294967296=D;generalize (if u<ca+br then 1 else 0)=bo;rw[Ae,Aj,AP,Aj,qi,qi,Ae,Ae,q9 hkq,Ae];rw[q5q (show pre.length=k+v.length by omega),lo32,AL hg,qo];have e1:List.set (q.map d32) k (.int .u32 (g:Int))=(q.set k g).map d32:=by rw[List.map_set]
  rw[e1];have hkq2:k<(q.set k g).length:=by simpa using hkq
  have hat:at' ((q.set k g).map d32) k 0=some (.int .u32 (g:Int)):=by rw[q3p hkq2];simp
  rw[Aa,q9 hkq2,Ae,hat,qi,Ae,Ae];rw[show((bo:Int)==0)=(bo==0) by cases bo <;> rfl];simp only[BP]
 |cons y e ih =>
  intro i m pre us ca br hi hie hm hp hu hd hc hb hn;obtain⟨m,rfl⟩:=qSx m;obtain⟨n,rfl⟩:=qSx n;simp only[Aq]at hie hm hu;obtain⟨u,us',rfl⟩:∃h t,us=h::t:=by
   cases us with
   |nil=>simp at hu
   |cons h t=>exact⟨h,t,rfl⟩
  simp only[Aq]at hu;have hiv:i<v.length:=by omega
  have hy:v[i]=y/\v.drop (i+1)=e:=by
   rw[q1t hiv]at hi;cases hi;exact⟨rfl,rfl⟩
  have hyl:y<4294967296:=by rw[<- hy.1];exact hv _ (Ah hiv)
  obtain⟨hul,hd'⟩:=hd.tail;have hcl:=qay hg hyl hc;rw[q12.l23_eq,Af,Ac,q2m];have hlt:k+i<(pre++(u::us'++tl)).length:=by simp;omega
  simp only[Aa,q9 hiv,q9 hlt,Ae,q3p hiv,qi,hy.1];have hgy:g*y<18446744073709551616:=by omega
  rw[Al,q42,qi,Ae,q1a (show y<18446744073709551616 by omega),qb0 hgy,q7b,lo32,hi32,qhq hul (AM _ (by omega)) hb];simp only[Ae,Aj,AP,qi,<- Al];rw[Al,q5q,qd (by omega)];have:=ih (i+1) m (pre++[(4294967296+u-(ca+g*y)%4294967296-br)%4294967296]) us' ((ca+g*y) / 4294967296) (if u<(ca+g*y)%4294967296+br then 1 else 0) hy.2 (by omega) (by omega) (by simp;omega) (by omega) hd' (BN (by omega)) (by split <;> omega) (by omega);rw[Ap]at this;refine this.trans ?_;cases us' with
  |nil=>simp at hu
  |cons u' us'' =>
   rw[msL_cons];generalize (4294967296+u-(ca+g*y)%4294967296-br)%4294967296=D;generalize msL 4294967296 (u'::us'') e g ((ca+g*y) / 4294967296) (if u<(ca+g*y)%4294967296+br then 1 else 0)=r;simp only[Ap,Al,As]
theorem ab_loop{n m0:Nat}{l0 l1:List FV}{s:Int}{v tl:List Nat}{Q:List FV}{k:Nat}(hv:Dg 4294967296 v)(hbig:k+v.length<=1099511627776):∀(e:List Nat) (i m:Nat) (pre us:List Nat) (c:Nat),v.drop i=e->i+e.length=v.length->e.length<m->pre.length=k+i->us.length=e.length+1->Dg 4294967296 us->c<=1->1<=n ->
  q12.l35 n [m0] m [.list 1 l0,.list 1 l1,.int .i64 (v.length:Int),.int .u64 s,L32 v,L32 (pre++(us++tl)),.list 1 Q,.int .i64 (k:Int),.int .u32 (c:Int),.int .i64 (v.length:Int),.int .i64 (i:Int)] =
   q12.l13 n [] m0 [.list 1 l0,.list 1 l1,.int .i64 (v.length:Int),.int .u64 s,L32 v,L32 (pre++(abL 4294967296 us e c++tl)),.list 1 Q,.int .i64 ((k:Int)-1)]:=by
 intro e
 induction e with
 |nil =>
  intro i m pre us c hi hie hm hp hu hd hc hn;obtain⟨m,rfl⟩:=qSx m;simp only[Be,Ay,AG]at hie hu;obtain⟨u,rfl⟩:=FJ.1 hu;have hul:=hd u (by simp);rw[q12.l35_eq,Ad,Ab,q2m];have hlt:k+v.length<(pre++([u]++tl)).length:=by simp;omega
  simp only[Aa,q9 hlt,Ae];rw[BP,q42,qi,Ae,qfl,lo32,q5q,qo];rw[abL_one];generalize (u+c)%4294967296=D;simp only[BP]
 |cons y e ih =>
  intro i m pre us c hi hie hm hp hu hd hc hn;obtain⟨m,rfl⟩:=qSx m;obtain⟨n,rfl⟩:=qSx n;simp only[Aq]at hie hm hu;obtain⟨u,us',rfl⟩:∃h t,us=h::t:=by
   cases us with
   |nil=>simp at hu
   |cons h t=>exact⟨h,t,rfl⟩
  simp only[Aq]at hu;have hiv:i<v.length:=by omega
  have hy:v[i]=y/\v.drop (i+1)=e:=by
   rw[q1t hiv]at hi;cases hi;exact⟨rfl,rfl⟩
  have hyl:y<4294967296:=by rw[<- hy.1];exact hv _ (Ah hiv)
  obtain⟨hul,hd'⟩:=hd.tail;rw[q12.l35_eq,Af,Ac,q2m];have hlt:k+i<(pre++(u::us'++tl)).length:=by simp;omega
  simp only[Aa,q9 hiv,q9 hlt,Ae,q3p hiv,qi,hy.1];rw[Al,q42,qi,Ae,qpk,q1a (show u<18446744073709551616 by omega),q1a (show y<18446744073709551616 by omega),q1a (show c<18446744073709551616 by omega),q7b,q7b,lo32,hi32];have hc1:(u+y+c) / 4294967296<=1:=by
   have:=BN (m:=u+y+c) (n:=4294967296) (k:=2) (by omega);omega
  rw[lo32,AL (show(u+y+c) / 4294967296<4294967296 by omega)];simp only[Ae,Aj,AP,qi,<- Al];rw[Al,q5q,qd (by omega)];have:=ih (i+1) m (pre++[(u+y+c)%4294967296]) us' ((u+y+c) / 4294967296) hy.2 (by omega) (by omega) (by simp;omega) (by omega) hd' hc1 (by omega);rw[Ap]at this;refine this.trans ?_;rw[abL_cons];generalize (u+y+c)%4294967296=D;simp only[Ap,Al,As]
end Rf
end
end
section
section
/- The program's nat by values, fifth part: long division put together, Gcd. -/
set_option maxHeartbeats 2000000
set_option maxRecDepth 10000
namespace Rf
open Go
theorem join64{a b:Nat}(ha:a<4294967296)(hb:b<4294967296):bitI .or .u64 (shI true .u64 (a:Int) 32) (b:Int)=((a*4294967296+b:Nat):Int):=by
 have:=qaa .u64 a 32 (by decide);rw[show((32:Nat):Int)=32 from rfl]at this;rw[this,q1a,qbb,qdg]
theorem split3{l:List Nat}{p:Nat}(h:l.length=p+3):∃w a b c,l=w++[a,b,c]/\w.length=p:=by
 refine⟨l.take p,l[p],l[p+1],l[p+2],?_,by simp;omega⟩
 conv=>lhs;rw[<- BX p l]
 congr 1;rw[Bc (by omega),Bc (by omega),Bc (by omega),AO (by omega)]
theorem aux_ltB(B a b r t u:Nat)(h:r+a=t)(h':r*B+u<b):t*B+u<a*B+b:=by
 subst h;rw[AU];omega
theorem aux_lt(a b r t u:Nat)(h:r+a=t)(h':r*4294967296+u<b):t*4294967296+u<a*4294967296+b:=aux_ltB 4294967296 a b r t u h h'
theorem qu9{n m0:Nat}{l0 l1 Q:List FV}{s:Int}{vlo lo w zs:List Nat}{p k v1 v2 u1 u2 u3 q:Nat}(hvl:vlo.length=p)(hwl:w.length=p)(hlo:lo.length=k)(hbig:k+p<=1099511627000)
  (h1:v1<4294967296) (h1':2147483648<=v1) (h2:v2<4294967296) (hu3:u3<4294967296)
  (hge:∀g,(u1*4294967296+u2)*4294967296+u3<g*(v1*4294967296+v2)->q<g):∀(d m g rest:Nat),4294967296<=rest+d*2147483648->d<m->rest+g*v1=u1*4294967296+u2->q<=g->g<4294967296->rest<18446744073709551616 ->
  ∃g',q<=g'/\g'<4294967296/\g'*(v1*4294967296+v2)<=(u1*4294967296+u2)*4294967296+u3 /\
   q12.l18 n [m0] m [.list 1 l0,.list 1 l1,.int .i64 ((p+2:Nat):Int),.int .u64 s,L32 (vlo++[v2,v1]),L32 (lo++((w++[u3,u2,u1])++zs)),.list 1 Q,.int .i64 (k:Int),.int .u64 (g:Int),.int .u64 (rest:Int)] =
    q12.l23 n [m0] n [.list 1 l0,.list 1 l1,.int .i64 ((p+2:Nat):Int),.int .u64 s,L32 (vlo++[v2,v1]),L32 (lo++((w++[u3,u2,u1])++zs)),.list 1 Q,.int .i64 (k:Int),.int .u64 (g':Int),.int .u32 0,.int .u64 0,.int .i64 ((p+2:Nat):Int),.int .i64 0]:=by
 intro d
 induction d with
 |zero =>
  intro m g rest hd hm hr hq hg hrl;obtain⟨m,rfl⟩:=qSx m;refine⟨g,hq,hg,?_,by rw[q12.q7n,Ad,Ab]⟩;have e1:g*v2<=4294967295*4294967295:=Cw (by omega) (by omega);rw[AF,<- AV];omega
 |succ d ih =>
  intro m g rest hd hm hr hq hg hrl;obtain⟨m,rfl⟩:=qSx m;by_cases hb:rest<4294967296
  ·have e1:g*v2<=4294967295*4294967295:=Cw (by omega) (by omega);have av2:at' ((vlo++[v2,v1]).map d32) p 0=some (.int .u32 (v2:Int)):=q42 hvl;have av1:at' ((vlo++[v2,v1]).map d32) (p+1) 0=some (.int .u32 (v1:Int)):=by
    rw[show vlo++[v2,v1]=(vlo++[v2])++v1::[] by simp];exact q42 (by simp[hvl])
   have au3:at' ((lo++((w++[u3,u2,u1])++zs)).map d32) (k+p) 0=some (.int .u32 (u3:Int)):=by
    rw[show lo++((w++[u3,u2,u1])++zs)=(lo++w)++u3::(u2::u1::zs) by simp];exact q42 (by simp[hwl,hlo])
   have hvlen:((vlo++[v2,v1]).map d32).length=p+2:=by simp[hvl]
   have hulen:((lo++((w++[u3,u2,u1])++zs)).map d32).length=k+p+3+zs.length:=by simp[hlo,hwl];omega
   rw[q12.q7n,Af,Ac,hvlen,hulen]
   rw[show w6 (((p+2:Nat):Int)-2)=((p:Nat):Int) by rw[qo];omega,q9,Ae,av2,qi,Ae,
    q2m,show w6 (((k+(p+2):Nat):Int)-2)=((k+p:Nat):Int) by rw[qo];omega,q9,Ae,au3,qi,Ae,
    q1a (show v2<18446744073709551616 by omega),qb0,q1a (show u3<18446744073709551616 by omega),join64 hb hu3]
   by_cases hc:rest*4294967296+u3<g*v2
   ·rw[Af,Ac,show w6 (((p+2:Nat):Int)-1)=((p+1:Nat):Int) by rw[qo];omega,q9,Ae,av1,qi,Ae];have hcc:(u1*4294967296+u2)*4294967296+u3<g*(v1*4294967296+v2):=by
     have e3:g*(v1*4294967296+v2)=g*v1*4294967296+g*v2:=by rw[AF,<- AV]
     exact Nat.lt_of_lt_of_eq (aux_lt (g*v1) (g*v2) rest (u1*4294967296+u2) u3 hr hc) e3.symm
    have hlt:q<g:=hge g hcc;have e2:(g-1)*v1+v1=g*v1:=by rw[<- Db];congr 1;omega
    rw[show((g:Int)-1)=((g-1:Nat):Int) by omega,q1a (show g-1<18446744073709551616 by omega),q1a (show v1<18446744073709551616 by omega),q7b];exact ih m (g-1) (rest+v1) (by omega) (by omega) (by omega) (by omega) (by omega) (by omega)
   ·rw[Ad,Ab];refine⟨g,hq,hg,?_,rfl⟩;rw[AF,<- AV];omega
  ·refine⟨g,hq,hg,?_,by rw[q12.q7n,Ad,Ab]⟩;have e1:g*v2<=4294967295*4294967295:=Cw (by omega) (by omega);rw[AF,<- AV];omega
theorem vl_three(w:List Nat)(a b c:Nat):vl 4294967296 (w++[a,b,c])=((c*4294967296+b)*4294967296+a)*4294967296^w.length+vl 4294967296 w:=by
 rw[q62];simp only[vl,Ci,Ay];rw[AB (4294967296^w.length),Bn (vl 4294967296 w)];congr 2;omega
theorem vl_two(w:List Nat)(a b:Nat):vl 4294967296 (w++[a,b])=(b*4294967296+a)*4294967296^w.length+vl 4294967296 w:=by
 rw[q62];simp only[vl,Ci,Ay];rw[AB (4294967296^w.length),Bn (vl 4294967296 w)];congr 2;omega
set_option maxHeartbeats 4000000 in
theorem div_loop{n:Nat}{l0 l1:List FV}{s:Int}{vlo:List Nat}{p v1 v2:Nat}(hvl:vlo.length=p)(hv:Dg 4294967296 (vlo++[v2,v1]))(h1':2147483648<=v1):∀(k' m:Nat) (lo hi zs qs:List Nat),lo.length=k'->k'+p<=1099511627000->p+6<=n->hi.length=p+2->Dg 4294967296 lo->Dg 4294967296 hi->vl 4294967296 hi<vl 4294967296 (vlo++[v2,v1])->k'<m ->
  ∃hf qf,hf.length=p+2/\Dg 4294967296 hf/\vl 4294967296 hf<vl 4294967296 (vlo++[v2,v1])/\qf.length=k'/\Dg 4294967296 qf/\vl 4294967296 lo+4294967296^k'*vl 4294967296 hi=vl 4294967296 hf+vl 4294967296 (vlo++[v2,v1])*vl 4294967296 qf /\
   q12.l13 n [] m [.list 1 l0,.list 1 l1,.int .i64 ((p+2:Nat):Int),.int .u64 s,L32 (vlo++[v2,v1]),L32 (lo++(hi++zs)),L32 (List.replicate k' 0++qs),.int .i64 ((k':Int)-1)] =
    q12.l42 n [] n [.list 1 l0,.list 1 l1,.int .u64 s,L32 (hf++(List.replicate k' 0++zs)),L32 (qf++qs),L32 (List.replicate (p+2) 0),.int .i64 ((p+2:Nat):Int),.int .i64 0]:=by
 intro k'
 induction k' with
 |zero =>
  intro m lo hi zs qs hlo hbig hn hhi hdl hdh hlt hm;obtain⟨m,rfl⟩:=qSx m;have:lo=[]:=BH hlo;subst this;refine⟨hi,[],hhi,hdh,hlt,rfl,λd h=>by simp at h,by simp[vl],?_⟩;rw[q12.q4w,Ad,Ab,mk4,Ae,q1s (Ak _),Ae,rep0];simp only[As,Co]
 |succ k ih =>
  intro m lo hi zs qs hlo hbig hn hhi hdl hdh hlt hm;obtain⟨m,rfl⟩:=qSx m;obtain⟨lo',d,e⟩:=Dh lo |>.resolve_left (λq=>by rw[q]at hlo;simp at hlo);rw[EA]at e;subst e;have hlo':lo'.length=k:=by simpa using hlo
  have hd:d<4294967296:=hdl d (by simp);have hdl':Dg 4294967296 lo':=λx hx=>hdl x (by simp[hx]);obtain⟨w,u3,u2,u1,ew,hwl⟩:=split3 (l:=d::hi) (p:=p) (by simp[hhi]);have hdw:Dg 4294967296 (w++[u3,u2,u1]):=by rw[<- ew];exact Dg.cons hd hdh
  have hu3:u3<4294967296:=hdw u3 (by simp);have hu2:u2<4294967296:=hdw u2 (by simp);have hu1:u1<4294967296:=hdw u1 (by simp);have hv1:v1<4294967296:=hv v1 (by simp);have hv2:v2<4294967296:=hv v2 (by simp);have hdwl:Dg 4294967296 w:=λx hx=>hdw x (by simp[hx]);have hdvl:Dg 4294967296 vlo:=λx hx=>hv x (by simp[hx]);have hlw:=q4e (b:=4294967296) (by omega) hdwl;have hlv:=q4e (b:=4294967296) (by omega) hdvl;rw[hwl]at hlw;rw[hvl]at hlv;have hU:=vl_three w u3 u2 u1;have hV:=vl_two vlo v2 v1;rw[hwl]at hU;rw[hvl]at hV;have hW:vl 4294967296 (w++[u3,u2,u1])=d+4294967296*vl 4294967296 hi:=by rw[<- ew];rfl
  generalize hVV:vl 4294967296 (vlo++[v2,v1])=V at *
  generalize hWW:vl 4294967296 (w++[u3,u2,u1])=W at *
  have hP:=pow_pos' p;have hVpos:0<V:=by omega
  have hqd:=Dz W V;have hqm:=AM W hVpos;have hqB:W / V<4294967296:=by
   rw[BO hVpos];omega
  have hqV:W / V*V<=W:=Ex W V;generalize hq:W / V=q at *
  have htop:=guess_top (by omega:0<4294967296) hP hu3 hU hlw hV (by omega:0<v1) hqV;have hulen:((lo'++[d]++(hi++zs)).map d32).length=k+p+3+zs.length:=by simp[hlo',hhi];omega
  have hvlen:((vlo++[v2,v1]).map d32).length=p+2:=by simp[hvl]
  have eu:lo'++[d]++(hi++zs)=lo'++((w++[u3,u2,u1])++zs):=by rw[<- ew];simp
  have av1:at' ((vlo++[v2,v1]).map d32) (p+1) 0=some (.int .u32 (v1:Int)):=by
   rw[show vlo++[v2,v1]=(vlo++[v2])++v1::[] by simp];exact q42 (by simp[hvl])
  have au2:at' ((lo'++[d]++(hi++zs)).map d32) (k+p+1) 0=some (.int .u32 (u2:Int)):=by
   rw[eu,show lo'++((w++[u3,u2,u1])++zs)=(lo'++w++[u3])++u2::(u1::zs) by simp];exact q42 (by simp[hwl,hlo'];omega)
  have au1:at' ((lo'++[d]++(hi++zs)).map d32) (k+p+2) 0=some (.int .u32 (u1:Int)):=by
   rw[eu,show lo'++((w++[u3,u2,u1])++zs)=(lo'++w++[u3,u2])++u1::zs by simp];exact q42 (by simp[hwl,hlo'];omega)
  rw[q12.q4w,show(((k+1:Nat):Int)-1)=(k:Int) by omega,Af,Ac,hvlen,hulen,q2m,show k+(p+2)=k+p+2 by omega,q9,Ae,au1,qi,Ae,
   show w6 (((k+p+2:Nat):Int)-1)=((k+p+1:Nat):Int) by rw[qo];omega,q9,Ae,au2,qi,Ae,
   show w6 (((p+2:Nat):Int)-1)=((p+1:Nat):Int) by rw[qo];omega,q9,Ae,av1,qi,Ae,
   q1a (show v1<18446744073709551616 by omega),Ad,Ab,Ae,av1,qi,Ae,q1a (show v1<18446744073709551616 by omega),
   q1a (show u1<18446744073709551616 by omega),q1a (show u2<18446744073709551616 by omega),join64 hu1 hu2,show Int.tdiv (((u1*4294967296+u2:Nat)):Int) (v1:Int)=(((u1*4294967296+u2) / v1:Nat):Int) from rfl]
  have htl:(u1*4294967296+u2) / v1<=u1*4294967296+u2:=Dm _ _;have hmul:=Ex (u1*4294967296+u2) v1;obtain⟨top,hT⟩:∃top,u1*4294967296+u2=top:=⟨_,rfl⟩;obtain⟨t,hG⟩:∃t,top / v1=t:=⟨_,rfl⟩;rw[hT,hG]at htl hmul htop;rw[hT,hG];rw[q1a (show t<18446744073709551616 by omega)];obtain⟨g,hg1,hg2,hg3,hg4⟩:∃g:Nat,(if(4294967295:Int)<(t:Int)then(4294967295:Int)else(t:Int))=(g:Int)/\g<4294967296/\q<=g/\g*v1<=top:=by
   by_cases hc:(4294967295:Int)<(t:Int)
   ·refine⟨4294967295,by rw[if_pos hc];rfl,by omega,by omega,?_⟩;exact Bb (AT _ (by omega)) hmul
   ·exact⟨t,by rw[if_neg hc],by omega,htop,hmul⟩
  rw[hg1,qb0,show((top:Nat):Int)-((g*v1:Nat):Int)=((top-g*v1:Nat):Int) by omega,q1a,eu];subst hT;obtain⟨g',k1,k2,k3,k4⟩:=qu9 (n:=n) (m0:=m) (l0:=l0) (l1:=l1) (Q:=(List.replicate (k+1) 0++qs).map d32) (s:=s) (vlo:=vlo) (lo:=lo') (w:=w) (zs:=zs) (u1:=u1) (u2:=u2) (q:=q) hvl hwl hlo' (by omega) hv1 h1' hv2 hu3
   (λg hg=>guess_ge hP hU hlw hV hqV hg) 2 n g (u1*4294967296+u2-g*v1) (by omega) (by omega) (by omega) hg3 hg2 (by omega)
  rw[k4];have k5:=guess_le hU hV hlv (by omega:0<v1) k2 k3;have hdd:=div_digit (win:=w++[u3,u2,u1]) (v:=vlo++[v2,v1]) (g:=g') hdw hv (by simp[hwl,hvl]) k2 (by rw[hWW,hVV,hq];exact k1) (by rw[hWW,hVV];exact k5) (by rw[hVV];exact hVpos);rw[hWW,hVV,hq]at hdd;have hms:=ms_loop (n:=n) (m0:=m) (l0:=l0) (l1:=l1) (s:=s) (v:=vlo++[v2,v1]) (tl:=zs) (q:=List.replicate (k+1) 0++qs) (k:=k) (g:=g') hv k2 (by simp;omega) (by simp[hvl];omega) (vlo++[v2,v1]) 0 n lo' (w++[u3,u2,u1]) 0 0 rfl (by simp) (by simp[hvl];omega) (by omega) (by simp[hwl,hvl]) hdw (by omega) (by omega) (by omega);have hvl2:(vlo++[v2,v1]).length=p+2:=by simp[hvl]
  rw[hvl2]at hms;rw[show((0:Nat):Int)=0 from rfl]at hms;rw[hms];have hset:∀y,(List.replicate (k+1) 0++qs).set k y=List.replicate k 0++(y::qs):=λy=>by
   rw[CA,Ap,BP,qax (by simp)]
  have goal:∀h:List Nat,h.length=p+2->Dg 4294967296 h->vl 4294967296 h=W%V ->
    ∃hf qf,hf.length=p+2/\Dg 4294967296 hf/\vl 4294967296 hf<V/\qf.length=k+1/\Dg 4294967296 qf/\vl 4294967296 (lo'++[d])+4294967296^(k+1)*vl 4294967296 hi=vl 4294967296 hf+V*vl 4294967296 qf /\
     q12.l13 n [] m [.list 1 l0,.list 1 l1,.int .i64 ((p+2:Nat):Int),.int .u64 s,L32 (vlo++[v2,v1]),L32 (lo'++(h++[0]++zs)),L32 (List.replicate k 0++(q::qs)),.int .i64 ((k:Int)-1)] =
      q12.l42 n [] n [.list 1 l0,.list 1 l1,.int .u64 s,L32 (hf++(List.replicate (k+1) 0++zs)),L32 (qf++qs),L32 (List.replicate (p+2) 0),.int .i64 ((p+2:Nat):Int),.int .i64 0]:=λh hh1 hh2 hh3=>by
   obtain⟨hf,qf,f1,f2,f3,f4,f5,f6,f7⟩:=ih m lo' h (0::zs) (q::qs) hlo' (by omega) hn hh1 hdl' hh2 (by omega) (by omega);refine⟨hf,qf++[q],f1,f2,f3,by simp[f4],f5.app (λx hx=>by simp at hx;omega),?_,?_⟩
   ·rw[q9u,q9u,hlo',f4];rw[hh3]at f6;have e1:4294967296^(k+1)*vl 4294967296 hi=4294967296^k*(4294967296*vl 4294967296 hi):=by rw[Ax,AV]
    have e2:4294967296^k*d+4294967296^k*(4294967296*vl 4294967296 hi)=4294967296^k*W:=by rw[<- AF,hW]
    have e3:4294967296^k*W=4294967296^k*(V*q)+4294967296^k*(W%V):=by rw[<- AF,hqd]
    have e4:V*(4294967296^k*q)=4294967296^k*(V*q):=by rw[DL]
    rw[e1,AF,e4];omega
   ·rw[show h++[0]++zs=h++(0::zs) by simp,f7,show List.replicate (k+1) (0:Nat)=List.replicate k 0++[0] from CA];simp only[Ap,BP]
  rcases hdd with⟨r0,rg,h,ra,rb,rc,rd⟩ | ⟨r0,rg,rl,rdg,h,ra,rb,rc,rd⟩
  ·rw[r0,ra,hset,rg,show((0:Nat)==0)=true from rfl,Ac];exact goal h (by rw[rb,hvl2]) rc rd
  ·have hab:=ab_loop (n:=n) (m0:=m) (l0:=l0) (l1:=l1) (s:=s) (v:=vlo++[v2,v1]) (tl:=zs) (Q:=List.set (((List.replicate (k+1) 0++qs).set k g').map d32) k (.int .u32 (IntKind.wrap .u32 ((g':Int)-1)))) (k:=k) hv (by rw[hvl2];omega) (vlo++[v2,v1]) 0 n lo' (msL 4294967296 (w++[u3,u2,u1]) (vlo++[v2,v1]) g' 0 0).1 0 rfl (by simp) (by rw[hvl2];omega) (by omega) (by rw[rl]) rdg (by omega) (by omega);rw[hvl2]at hab;rw[show((0:Nat):Int)=0 from rfl]at hab;rw[r0,show((1:Nat)==0)=false from rfl,Ab,hab,ra,hset,rg,show(((q+1:Nat):Int)-1)=(q:Int) by omega,q6e hqB];have hs2:List.set ((List.replicate k 0++(q+1)::qs).map d32) k (FV.int .u32 (q:Int))=(List.replicate k 0++q::qs).map d32:=q5q (by simp);rw[hs2];exact goal h (by rw[rb,hvl2]) rc rd
end Rf
end
section
set_option maxHeartbeats 2000000
set_option maxRecDepth 10000
namespace Rf
open Go
theorem shrL_cons(B s u0 u1:Nat)(t:List Nat):shrL B s (u0::u1::t)=((u1*B+u0) / 2^s)%B::shrL B s (u1::t):=rfl
theorem shrL_one(B s u0:Nat):shrL B s [u0]=[]:=rfl
theorem fin_loop{n:Nat}{l0 l1:List FV}{s nn:Nat}{u q:List Nat}(hu:Dg 4294967296 u)(hs:s<32)(hnu:nn+1<=u.length)(hbig:u.length<=1099511627776)(hq:q.length<=1099511627776)(hn:nn+q.length+3<=n):∀(d i m:Nat) (pre:List Nat),i+d=nn->d<m->pre.length=i ->
  q12.l42 n [] m [.list 1 l0,.list 1 l1,.int .u64 (s:Int),L32 u,L32 q,L32 (pre++List.replicate d 0),.int .i64 (nn:Int),.int .i64 (i:Int)] =
   some [L32 (tz q),L32 (tz (pre++shrL 4294967296 s ((u.drop i).take (d+1)))),.int .i64 0]:=by
 intro d
 induction d with
 |zero =>
  intro i m pre hi hm hp;obtain⟨m,rfl⟩:=qSx m;obtain⟨n,rfl⟩:=qSx n;have hiu:i<u.length:=by omega
  rw[q12.l42_eq,Ad,Ab,q8m,Co,AN,q1t hiu,q8m];rw[show List.take (0+1) (u[i]::u.drop (i+1))=[u[i]] from rfl,shrL_one,AN];simp only[Ae,Aj,qx]
 |succ d ih =>
  intro i m pre hi hm hp;obtain⟨m,rfl⟩:=qSx m;have hiu:i<u.length:=by omega
  have hiu1:i+1<u.length:=by omega
  have h0:=hu u[i] (Ah hiu);have h1:=hu u[i+1] (Ah hiu1);have hlt:i<(pre++List.replicate (d+1) 0).length:=by simp;omega
  rw[q12.l42_eq,Af,Ac,qd (by omega),Aa,q9 hiu1,Ae,q3p hiu1,qi,Ae,q9 hiu,Ae,q3p hiu,qi,Ae,
   Ad,Ab,Aa,q9 hlt,Ae,q1a (show u[i+1]<18446744073709551616 by omega),q1a (show u[i]<18446744073709551616 by omega),join64 h1 h0,qba .u64 _ s (by show s<=64;omega),lo32,
   Cd,q5q hp]
  have:=ih (i+1) m (pre++[(u[i+1]*4294967296+u[i]) / 2^s%4294967296]) (by omega) (by omega) (by simp[hp]);rw[Ap,BP]at this;refine this.trans ?_;have ed:(u.drop i).take (d+1+1)=u[i]::u[i+1]::(u.drop (i+1+1)).take d:=by rw[q1t hiu,q1t hiu1,Fi,Fi]
  have ed1:(u.drop (i+1)).take (d+1)=u[i+1]::(u.drop (i+1+1)).take d:=by rw[q1t hiu1,Fi]
  rw[ed,ed1,shrL_cons,Ap,BP]
theorem shlL_v{y:Nat}{l:List Nat}{d:Nat}(hy:dg 4294967296 y=l++[d])(hd:d≠0)(hdl:d<4294967296):y*2^(32-bl d)<4294967296^(l.length+1)/\2147483648*4294967296^l.length<=y*2^(32-bl d):=by
 obtain⟨b1,b2,b3⟩:=qeb hd;have b4:=bl_le (x:=d) (k:=32) (by omega);have hv:=q1x qp y;rw[hy,q9u]at hv;have hl:=q4e (b:=4294967296) (by omega) (show Dg 4294967296 l from λx hx=>q10 qp y x (by rw[hy];simp[hx]));have e1:2^bl d*2^(32-bl d)=4294967296:=by rw[<- Cb,show bl d+(32-bl d)=32 by omega]
 have e2:2^(bl d-1)*2^(32-bl d)=2147483648:=by rw[<- Cb,show bl d-1+(32-bl d)=31 by omega]
 have hp:0<2^(32-bl d):=Bx (by omega);constructor
 ·have h1:y<4294967296^l.length*(d+1):=by rw[Cl];omega
  have h2:(d+1)*2^(32-bl d)<=4294967296:=by rw[<- e1];exact AT _ b2
  calc y*2^(32-bl d)<4294967296^l.length*(d+1)*2^(32-bl d):=Fj h1 hp
   _=4294967296^l.length*((d+1)*2^(32-bl d)):=AV _ _ _
   _<=4294967296^l.length*4294967296:=BE _ h2
   _=4294967296^(l.length+1):=(Ax _ _).symm
 ·have h1:4294967296^l.length*d<=y:=by omega
  calc 2147483648*4294967296^l.length=4294967296^l.length*(2^(bl d-1)*2^(32-bl d)):=by rw[e2,AB]
   _<=4294967296^l.length*(d*2^(32-bl d)):=BE _ (AT _ b1)
   _=4294967296^l.length*d*2^(32-bl d):=(AV _ _ _).symm
   _<=y*2^(32-bl d):=AT _ h1
theorem unshift{x y s R Q:Nat}(h:x*2^s=R+y*2^s*Q)(hR:R<y*2^s):x / y=Q/\x%y=R / 2^s:=by
 have hp:0<2^s:=Bx (by omega);have e1:y*2^s*Q=y*Q*2^s:=by rw[AV,AB (2^s),<- AV]
 have h1:y*Q<=x:=by
  apply Nat.le_of_mul_le_mul_right _ hp;omega
 have h2:R=(x-y*Q)*2^s:=by rw[Nat.sub_mul];omega
 have h3:x-y*Q<y:=by
  apply FG (a:=2^s);omega
 rw[h2,Nat.mul_div_cancel _ hp];have hx:x=y*Q+(x-y*Q):=by omega
 generalize x-y*Q=r at *
 have hy:0<y:=by omega
 subst hx;exact⟨by rw[EK hy,CS h3,Ay],by rw[DV,AL h3]⟩
theorem split2{l:List Nat}{p:Nat}(h:l.length=p+2):∃w a b,l=w++[a,b]/\w.length=p:=by
 refine⟨l.take p,l[p],l[p+1],?_,by simp;omega⟩
 conv=>lhs;rw[<- BX p l]
 congr 1;rw[Bc (by omega),Bc (by omega),AO (by omega)]
set_option maxHeartbeats 4000000 in
theorem qua{x y p:Nat}{l:List Nat}{d:Nat}(hy:dg 4294967296 y=l++[d])(hl:l.length=p+1)(hd:d≠0)(hdl:d<4294967296)(hyx:y<=x)(hx:(dg 4294967296 x).length<=549755813000) :
  Ev En 203 [L32 (dg 4294967296 x),L32 (dg 4294967296 y)] [L32 (dg 4294967296 (x / y)),L32 (dg 4294967296 (x%y)),.int .i64 0]:=by
 have hlen:(dg 4294967296 y).length=p+2:=by rw[hy];simp[hl]
 have hxy:p+2<=(dg 4294967296 x).length:=by
  rw[<- hlen];apply Df;intro hlt;have:=q9x qp hlt;omega
 obtain⟨n1,h1⟩:=q9s (x:=x) (y:=y) (by omega) (by omega);refine Ev.of (n1+(dg 4294967296 x).length+p+20) λn hn=>?_;obtain⟨n,rfl⟩:∃k,n=k+2:=⟨n-2,by omega⟩;obtain⟨c1,c2⟩:=shlL_v hy hd hdl;obtain⟨b1,b2,b3⟩:=qeb hd;have b4:=bl_le (x:=d) (k:=32) (by omega);obtain⟨s,hs⟩:∃s,32-bl d=s:=⟨_,rfl⟩;rw[hs]at c1 c2;have hs32:s<32:=by omega
 have dy:=q10 qp y;have dx:=q10 qp x;have hvs:=qhi (B:=4294967296) (s:=s) (dg 4294967296 y) 0;rw[q1x qp,Ay]at hvs;have hus:=qhi (B:=4294967296) (s:=s) (dg 4294967296 x) 0;rw[q1x qp,Ay]at hus;obtain⟨v,hv1,hv2,hv3,hv4⟩:=qhj (n:=p+2) (qhk hs32 (dg 4294967296 y) 0 dy (Bx (by omega))) (by rw[qhl,hlen]) (by rw[hvs,show p+2=l.length+1 by omega];exact c1);rw[hvs]at hv4;obtain⟨vlo,v2,v1,ev,hvl⟩:=split2 hv2;subst ev;have hv1b:2147483648<=v1:=by
  have hlt:=q4e (b:=4294967296) (by omega) (show Dg 4294967296 (vlo++[v2]) from λz hz=>hv3 z (by simp at hz ⊢;rcases hz with q | q <;> simp[q]));have e:vl 4294967296 (vlo++[v2,v1])=vl 4294967296 (vlo++[v2])+4294967296^(p+1)*v1:=by
   rw[show vlo++[v2,v1]=(vlo++[v2])++[v1] by simp,q9u];simp[hvl]
  rw[show(vlo++[v2]).length=p+1 by simp[hvl]]at hlt;rw[hl]at c2;rw[hv4]at e;apply Df;intro hc;have:4294967296^(p+1)*(v1+1)<=4294967296^(p+1)*2147483648:=BE _ hc;rw[Cl,AB _ 2147483648]at this;omega
 have hud:=qhk hs32 (dg 4294967296 x) 0 dx (Bx (by omega));have hul:=qhl (s:=s) (dg 4294967296 x) 0;obtain⟨k',hk'⟩:∃k',(dg 4294967296 x).length+1=k'+(p+2):=⟨(dg 4294967296 x).length-p-1,by omega⟩;have hk0:1<=k':=by omega
 generalize hu:shlL 4294967296 s (dg 4294967296 x) 0=u at *
 have hlo:(u.take k').length=k':=by simp;omega
 have hhi:(u.drop k').length=p+2:=by simp;omega
 have hsum:vl 4294967296 (u.take k')+4294967296^k'*vl 4294967296 (u.drop k')=x*2^s:=by
  rw[<- hus]
  conv=>rhs;rw[<- BX k' u,q62,hlo]
 have hxlt:x<4294967296^(dg 4294967296 x).length:=q8y qp x;have hlt:vl 4294967296 (u.drop k')<vl 4294967296 (vlo++[v2,v1]):=by
  rw[hv4];apply Nat.lt_of_not_le;intro hc;rw[hl]at c2;have i1:4294967296^k'*(2147483648*4294967296^(p+1))<=x*2^s:=Bb (BE _ (Bb c2 hc)) (by omega);have i2:4294967296^k'*(2147483648*4294967296^(p+1))=4294967296^(dg 4294967296 x).length*2147483648:=by
   rw[DL,<- Cb,AB,show k'+(p+1)=(dg 4294967296 x).length by omega]
  have i3:x*2^s<4294967296^(dg 4294967296 x).length*2147483648:=by
   have:2^s<=2^31:=AW (by omega) (by omega)
   calc x*2^s<=x*2^31:=BE _ this
    _<4294967296^(dg 4294967296 x).length*2^31:=Fj hxlt (by omega)
  rw[i2]at i1;exact absurd i3 (Nat.not_lt.2 i1)
 obtain⟨hf,qf,f1,f2,f3,f4,f5,f6,f7⟩:=div_loop (n:=n+2) (l0:=[]) (l1:=[]) (s:=(s:Int)) hvl hv3 hv1b k' (n+2) (u.take k') (u.drop k') [] [] hlo (by omega) (by omega) hhi (λz hz=>hud z (CJ hz)) (λz hz=>hud z (Cy hz)) hlt (by omega);rw[hsum,hv4]at f6;rw[hv4]at f3;obtain⟨g1,g2⟩:=unshift f6 f3;rw[AN,AN,AN,BX]at f7;have hdlast:at' ((dg 4294967296 y).map d32) (p+1) 0=some (.int .u32 (d:Int)):=by rw[hy];exact q42 hl
 rw[qfn,Aa,hlen,show((((p+2:Nat)):Int)==0)=false by simp;omega,Ab,h1 _ (by omega),Ae,Aj,qi,Ae,
  Ad (by unfold cmpN;rw[if_neg (by omega)];split <;> omega),Ab,show((((p+2:Nat)):Int)==1)=false by simp;omega,Ab,
  show w6 (((p+2:Nat):Int)-1)=((p+1:Nat):Int) by rw[qo];omega,q9,Ae,hdlast,qi,Ae,qpi,qm5 hdl,Ae,Aj,qi,Ae,
  show w6 (32-((bl d:Nat):Int))=(s:Int) by rw[qo];omega,Ae,Aj,qi,Ae,q1a (show s<18446744073709551616 by omega),
  qm6 dy hs32,Ae,Aj,qx,Ae,qm6 dx hs32]
 rw[hv1,hu];have hvw:(Rf.viewOf Option.none (((vlo++[v2,v1]++[0]).map d32).length))=(0,p+3):=by
  show((0:Nat),((vlo++[v2,v1]++[0]).map d32).length)=_;simp[hvl]
 rw[hvw]
 rw[q1s (show p+2<=p+3 by omega),Ae,Ae,Aj,qx,Ae,Aa,hul,hk',
  show w6 (((k'+(p+2):Nat):Int)-((p+2:Nat):Int))=(k':Int) by rw[qo];omega,mk4,Ae,q1s (Ak _),Ae,rep0,Aa,BJ]
 have e7:List.take (p+2-0) (List.drop (((0:Nat),p+3).fst+0) ((vlo++[v2,v1]++[0]).map d32))=(vlo++[v2,v1]).map d32:=by
  rw[show(((0:Nat),p+3).fst+0)=0 from rfl,Au,Ec,AK,DR (by simp[hvl]),CR (by simp[hvl])]
 rw[e7];rw[show w6 ((k':Int)-1)=(k':Int)-1 from qo,f7];have hhead:(hf++List.replicate k' 0).take (p+2+1)=hf++[0]:=by
  obtain⟨k,rfl⟩:∃k,k'=k+1:=⟨k'-1,by omega⟩;rw[Cd,show hf++0::List.replicate k 0=(hf++[0])++List.replicate k 0 by simp,DR (by simp[f1]),CR (by simp[f1])]
 have hfl:=fin_loop (n:=n+2) (l0:=[]) (l1:=[]) (s:=s) (nn:=p+2) (u:=hf++List.replicate k' 0) (q:=qf) (f2.app (λz hz=>by have:=CI hz;omega)) hs32 (by simp[f1];omega) (by simp[f1];omega) (by omega) (by omega) (p+2) 0 (n+2) [] (by omega) (by omega) rfl;rw[As,As,Au,hhead,show((0:Nat):Int)=0 from rfl]at hfl;rw[hfl];have eB:2^(32-s+s)=4294967296:=by rw[show 32-s+s=32 by omega]
 obtain⟨hz,t,eh⟩:∃a t,hf=a::t:=by
  cases hf with
  |nil=>simp at f1
  |cons a t=>exact⟨a,t,rfl⟩
 have hsh:=shrL_ok (K:=32-s) (s:=s) (t++[0]) hz (by rw[eB,<- Al,<- eh];exact f2.app (λz hz=>by simp at hz;omega));rw[eB,<- Al,<- eh]at hsh;obtain⟨s1,s2,s3⟩:=hsh;rw[q9u,Ci,Ay]at s3;have hRlt:vl 4294967296 hf / 2^s<4294967296^(t++[0]).length:=by
  have i1:=q4e (b:=4294967296) (by omega) f2;rw[eh]at i1;refine BI (Dm _ _) ?_;rw[eh];simpa using i1
 rw[AL hRlt]at s3;rw[g1,g2,s3,q31 qp s1,<- q31 qp f5]
theorem qll{x y:Nat}(hy0:y≠0)(hx:(dg 4294967296 x).length<=549755813000)(hyl:(dg 4294967296 y).length<=549755813000) :
  Ev En 203 [L32 (dg 4294967296 x),L32 (dg 4294967296 y)] [L32 (dg 4294967296 (x / y)),L32 (dg 4294967296 (x%y)),.int .i64 0]:=by
 obtain⟨l,d,hy,hd,hdl⟩:=qhm hy0;have hlen:(dg 4294967296 y).length=l.length+1:=by rw[hy];simp
 by_cases hlt:x<y
 ·obtain⟨n1,h1⟩:=q9s (x:=x) (y:=y) (by omega) (by omega);refine Ev.of n1 λn hn=>?_
  rw[qfn,Aa,hlen,show((((l.length+1:Nat)):Int)==0)=false by simp;omega,Ab,h1 _ (by omega),Ae,Aj,qi,Ae,
   Af (by unfold cmpN;rw[if_pos hlt];omega),Ac,CS hlt,AL hlt,q17]
  rfl
 ·cases hp:l.length with
  |zero =>
   have:l=[]:=BH hp;subst this;rw[As]at hy;have hv:=q1x qp y;rw[hy]at hv;simp only[vl,Ci,Ay]at hv;subst hv;obtain⟨n1,h1⟩:=q9s (x:=x) (y:=d) (by omega) (by omega);obtain⟨n2,h2⟩:=qm7 (x:=x) (k:=d) (by omega) hdl (by omega);obtain⟨n3,h3⟩:=qh3 (x:=x%d) (by have:=AM x (show 0<d by omega);omega);have hml:=AM x (show 0<d by omega);refine Ev.of (n1+n2+n3) λn hn=>?_
   rw[qfn,Aa,h1 _ (by omega),hy,show((([d].length:Nat):Int)==0)=false from rfl,Ab,Ae,Aj,qi,Ae,
    Ad (by unfold cmpN;rw[if_neg hlt];split <;> omega),Ab,show((([d].length:Nat):Int)==1)=true from rfl,Ac,show ix 0 [d].length=some 0 from rfl,Ae,show at' ([d].map d32) 0 0=some (.int .u32 (d:Int)) from rfl,qi,Ae,
    h2 _ (by omega),Ae,Aj,qx,Ae,AP,Aj,qi,Ae,q1a,h3 _ (by omega),Ae,Aj,qx,Ae]
  |succ p=>exact qua (p:=p) hy hp hd hdl (by omega) hx
theorem word_gcd{n m0:Nat}{l0:List FV}:∀(y x m:Nat),y<m->q3f.l4 n [m0] m [.list 1 l0,.int .u64 (x:Int),.int .u64 (y:Int)]=(evF En n 204 [.int .u64 ((Nat.gcd x y:Nat):Int)]).bind λr0=>(asLst 1 (r0[0]?)).bind λv1=>some [.list 1 v1]:=by
 intro y
 induction y using Nat.strongRecOn with
 |_ y ih =>
  intro x m hm;obtain⟨m,rfl⟩:=qSx m;rw[q3f.q13];rcases Bt y with h0 | h0
  ·subst h0;rw[Ad,Ab,DT]
  ·have hlt:=AM x h0;rw[Af,Ac,Ad,Ab,show Int.tmod (x:Int) (y:Int)=((x%y:Nat):Int) from rfl,ih (x%y) hlt y m (by omega),Cz y,<- DU,Cz]
theorem qm8{x:Nat}(h:(dg 4294967296 x).length<=2):x<18446744073709551616:=by
 have h1:=q8y qp x;have h2:4294967296^(dg 4294967296 x).length<=4294967296^2:=AW (by omega) h;omega
theorem qec{x y:Nat}(h:x<=y):(dg 4294967296 x).length<=(dg 4294967296 y).length:=by
 apply Df;intro hlt;have:=q9x qp hlt;omega
theorem gcd_loop:∀(y x:Nat),(dg 4294967296 x).length<=549755813000->(dg 4294967296 y).length<=549755813000->∃n0,∀n m l2,n0<=n->n0<=m ->
  q3f.l1 n [] m [L32 (dg 4294967296 x),L32 (dg 4294967296 y),.list 1 l2]=some [L32 (dg 4294967296 (Nat.gcd x y))]:=by
 intro y
 induction y using Nat.strongRecOn with
 |_ y ih =>
  intro x hx hy;rcases Bt y with h0 | h0
  ·subst h0;refine⟨1,λn m l2 hn hm=>?_⟩;obtain⟨m,rfl⟩:=qSx m;rw[q3f.q2v,Aa,q17,Ad (by simp),Ab,DT]
  ·have hlt:=AM x h0;have hl0:0<(dg 4294967296 y).length:=by
    rcases Bt (dg 4294967296 y).length with q | q
    ·have:=(q4t qp).1 (BH q);omega
    ·exact q
   by_cases hw:(dg 4294967296 x).length<=2/\(dg 4294967296 y).length<=2
   ·have sx:=qm8 hw.1;have sy:=qm8 hw.2;have hg:Nat.gcd x y<18446744073709551616:=BI (Nat.gcd_le_right x h0) sy;obtain⟨n1,h1⟩:=qm9 sx;obtain⟨n2,h2⟩:=qm9 sy;obtain⟨n3,h3⟩:=qh3 hg;refine⟨n1+n2+n3+y+1,λn m l2 hn hm=>?_⟩;obtain⟨m,rfl⟩:=qSx m
    rw[q3f.q2v,Aa,Aa,Af,Ac,Af,Ac,Af,Ac,h1 _ (by omega),Ae,Aj,qi,Ae,
     h2 _ (by omega),Ae,Aj,qi,Ae,word_gcd y x n (by omega),h3 _ (by omega),Ae,Aj,qx,Ae]
   ·obtain⟨n1,h1⟩:=qll (x:=x) (y:=y) (by omega) hx hy;have hm1:=qec (CT hlt);obtain⟨n2,h2⟩:=ih (x%y) hlt y hy (by omega);refine⟨n1+n2+1,λn m l2 hn hm=>?_⟩;obtain⟨m,rfl⟩:=qSx m;have key:∀l2,(evF En n 203 [L32 (dg 4294967296 x),L32 (dg 4294967296 y)]).bind (λr4=>(asLst 1 (r4[0]?)).bind λv5=>(asLst 1 (r4[1]?)).bind λv6=>(asInt .i64 (r4[2]?)).bind λn7=>q3f.l1 n [] m [L32 (dg 4294967296 y),.list 1 v6,.list 1 l2])=some [L32 (dg 4294967296 (Nat.gcd x y))]:=λl2=>by
     rw[h1 _ (by omega),Ae,Aj,qx,Ae,AP,Aj,qx,Ae,AP,AP,Aj,qi,Ae,h2 n m l2 (by omega) (by omega),Cz y,<- DU,Cz]
    rw[q3f.q2v,Aa,Aa,Af,Ac];by_cases ha:(dg 4294967296 x).length<=2
    ·rw[Af,Ac,Ad,Ab];exact key l2
    ·rw[Ad,Ab];exact key l2
theorem natGcd_ev{x y:Nat}(hx:(dg 4294967296 x).length<=549755813000)(hy:(dg 4294967296 y).length<=549755813000):Ev En 219 [L32 (dg 4294967296 x),L32 (dg 4294967296 y)] [L32 (dg 4294967296 (Nat.gcd x y))]:=by
 obtain⟨n0,h⟩:=gcd_loop y x hx hy;refine Ev.of n0 λn hn=>?_;rw[qpf];exact h n n [] hn hn
end Rf
end
section
set_option maxHeartbeats 2000000
set_option maxRecDepth 10000
namespace Rf
open Go
theorem setS{pre:List (List UInt8)}{x y:List UInt8}{r:List (List UInt8)}{i:Nat}(h:pre.length=i):List.set ((pre++x::r).map sF) i (.str (txt y))=(pre++y::r).map sF:=by
 rw[AK,AS,qax (by simpa using h)];simp[sF]
theorem midS{pre:List (List UInt8)}{x:List UInt8}{r:List (List UInt8)}{i:Nat}(h:pre.length=i):at' ((pre++x::r).map sF) i 0=some (.str (txt x)):=by
 subst h;rw[q26,CQ (Ak _),Cn];rfl
theorem rev_loop{n:Nat}:∀(k m:Nat) (a mid b:List (List UInt8)),mid.length<=k->mid.length<m->(a++mid++b).length<=9000000000000 ->
  q7s.l1 n [] m [.list 1 ((a++mid++b).map sF),.int .i64 (a.length:Int),.int .i64 ((a.length:Int)+(mid.length:Int)-1)]=some [.list 1 ((a++mid.reverse++b).map sF)]:=by
 intro k
 induction k with
 |zero =>
  intro m a mid b hk hm hl;obtain⟨m,rfl⟩:=qSx m;have:mid=[]:=BH (by omega);subst this;rw[q7s.q2v,Ad (by simp;omega),Ab];rfl
 |succ k ih =>
  intro m a mid b hk hm hl;obtain⟨m,rfl⟩:=qSx m;cases mid with
  |nil=>rw[q7s.q2v,Ad (by simp;omega),Ab];rfl
  |cons x mid =>
   rcases Dh mid with rfl | ⟨mid',y,e⟩
   ·rw[q7s.q2v,Ad (by simp),Ab];rfl
   ·rw[EA]at e;subst e;simp only[AZ,Aq,Be]at hk hm hl;have e1:a++x::(mid'++[y])++b=(a++x::mid')++y::b:=by simp
    have e2:a++x::(mid'++[y])++b=a++x::(mid'++y::b):=by simp
    have hj:(a.length:Int)+((x::(mid'++[y])).length:Int)-1=((a.length+mid'.length+1:Nat):Int):=by simp;omega
    have hlen:((a++x::(mid'++[y])++b).map sF).length=a.length+mid'.length+2+b.length:=by simp;omega
    have h1:at' ((a++x::(mid'++[y])++b).map sF) (a.length+mid'.length+1) 0=some (.str (txt y)):=by rw[e1];exact midS (by simp;omega)
    have h2:at' ((a++x::(mid'++[y])++b).map sF) a.length 0=some (.str (txt x)):=by rw[e2];exact midS rfl
    have s1:List.set ((a++x::(mid'++[y])++b).map sF) a.length (.str (txt y))=((a++y::mid')++y::b).map sF:=by rw[e2,setS rfl];simp
    have s2:List.set (((a++y::mid')++y::b).map sF) (a.length+mid'.length+1) (.str (txt x))=((a++y::mid')++x::b).map sF:=setS (by simp;omega);have hlen2:(((a++y::mid')++y::b).map sF).length=a.length+mid'.length+2+b.length:=by simp;omega
    rw[hj,q7s.q2v,Af,Ac,hlen,q9,Ae,h1,q2j,Ae,q9,Ae,h2,q2j,Ae,Ae,s1,hlen2,q9,Ae,s2,qd (by omega),
     show w6 (((a.length+mid'.length+1:Nat):Int)-1)=((a.length+mid'.length:Nat):Int) by rw[qo];omega]
    have:=ih m (a++[y]) mid' (x::b) (by omega) (by omega) (by simp;omega);have e3:((a++[y]).length:Int)+(mid'.length:Int)-1=((a.length+mid'.length:Nat):Int):=by simp;omega
    have e4:((a++[y]).length:Int)=((a.length+1:Nat):Int):=by simp
    rw[e3,e4]at this;rw[show(a++y::mid')++x::b=a++[y]++mid'++x::b by simp,this];simp
theorem qub{n:Nat}{P:List (List UInt8)}(h:P.length<=9000000000000)(hn:P.length<n):evF En (n+1) 208 [.list 1 (P.map sF)]=some [.list 1 (P.reverse.map sF)]:=by
 rw[qqw,Aa,show w6 ((P.length:Int)-1)=(P.length:Int)-1 from qo];have:=rev_loop (n:=n) P.length n [] P [] (by omega) (by omega) (by simpa using h);simpa using this
theorem quc{n x:Nat}(h:x<1000000000000):evF En (n+1) 206 [.int .u64 (x:Int),.int .i64 10]=some [sF (qk x)]:=by
 show formatExt [.int .u64 (x:Int),.int .i64 10]=_;simp only[formatExt];rw[if_pos ⟨by omega,by omega,trivial⟩,Bh]
theorem qud{n k:Nat}(h:k<=9):evF En (n+1) 207 [.str { data:=#[48] },.int .i64 (k:Int)]=some [sF (List.replicate k 48)]:=by
 show repeatExt [.str { data:=#[48] },.int .i64 (k:Int)]=_;simp only[repeatExt];rw[if_pos ⟨trivial,by omega,by omega⟩,Bh]
theorem join_run{n:Nat}{P:List (List UInt8)}(h:P.length<=1099511627776)(h':P.flatten.length<=1099511627776):evF En (n+1) 209 [.list 1 (P.map sF),.str { data:=#[] }]=some [sF P.flatten]:=by
 show joinExt [.list 1 (P.map sF),.str { data:=#[] }]=_;have e:(P.map sF).map byts=P:=by
  rw[Ct]
  conv=>rhs;rw[<- Ei P]
  congr 1
 simp only[joinExt];rw[e,if_pos ⟨trivial,by simp[q69],by simpa using h,h'⟩]
theorem qma{n:Nat}{l:List UInt8}(h:l.length<=1099511627776:=by omega):evF En (n+1) 248 [.str (txt l),.str { data:=#[48,49,50,51,52,53,54,55,56,57] }]=some [sF (q8b l dgts)]:=by
 show trimExt [.str (txt l),.str { data:=#[48,49,50,51,52,53,54,55,56,57] }]=_;simp only[trimExt];rw[q7k,if_pos ⟨rfl,h⟩]
theorem parse_run{n:Nat}{l:List UInt8}(h0:l≠[])(h9:l.length<=9)(hd:∀c,c∈l->isD c=true):evF En (n+1) 249 [.str (txt l),.int .i64 10,.int .i64 32]=some [.int .u64 ((vD l:Nat):Int),.raw .nilIface]:=by
 show parseExt [.str (txt l),.int .i64 10,.int .i64 32]=_;simp only[parseExt];rw[q7k,if_pos ⟨h0,h9,Av.2 hd,trivial,trivial⟩]
theorem ixB_in:∀ {l:List UInt8},47∈l->ixB l 47=((cutA l).length:Int)
 |[],h=>by simp at h
 |b::l,h=>by
  by_cases hb:b=47
  ·subst hb;rfl
  ·have hl:47∈l:=by
    rcases Ar.1 h with h | h
    ·exact absurd h.symm hb
    ·exact h
   have ih:=ixB_in hl;have h1:(b==47)=false:=by simpa using hb
   have h2:(ixB l 47==-1)=false:=by rw[ih,Bq];omega
   have h3:(b !=47)=true:=by simpa using hb
   simp only[ixB,h1,h2,Bs,BM];have e:cutA (b::l)=b::cutA l:=by unfold cutA;rw[DM,h3,if_pos rfl]
   rw[ih,e,Aq];rfl
theorem ixB_out:∀ {l:List UInt8},47 ∉ l->ixB l 47=-1
 |[],_=>rfl
 |b::l,h=>by
  simp only[Ar,not_or]at h;have h1:(b==47)=false:=by simpa using λq=>h.1 q.symm
  simp only[ixB,h1,ixB_out h.2,Bs,BM];rfl
theorem cut_run{n:Nat}{l:List UInt8}(h:l.length<=1000000000:=by omega):evF En (n+4) 176 [.str (txt l),.str { data:=#[47] }]=some [sF (cutA l),sF (cutB l),.bool (l.contains 47)]:=by
 have hidx:∀c:UInt8,evF En (n+1) 262 [.str (txt l),.int .u8 (c.toNat:Int)]=some [.int .i64 (ixB l c)]:=λc=>by
  show idxExt [.str (txt l),.int .u8 (c.toNat:Int)]=_;simp only[idxExt];rw[q7k];simp
 have hin:evF En (n+2) 246 [.str (txt l),.str (txt [47])]=some [.int .i64 (ixB l 47)]:=by
  rw[qqy,q1g,show((([47]:List UInt8).length:Int)==0)=false from rfl,Ab,q37];by_cases he:l=[47]
  ·subst he;rw[Af rfl];rfl
  ·have h0:=q48 [47] 0;rw[show((0:Nat):Int)=0 from rfl,Aj,AE]at h0;rw[Ad (λq=>he q.symm),Ab,show((([47]:List UInt8).length:Int)==1)=true from rfl,Ac,h0,Ae,hidx];rfl
 rw[show({ data:=#[47] }:ByteArray)=txt [47] from rfl,qqv,qqx,hin];simp only[Ae,Aj,qi];by_cases h47:47∈l
 ·have hj:=congrArg List.length (qdb h47);simp only[AZ,Aq]at hj;have key:∀a b:List UInt8,((a++47::b).take a.length).drop 0=a/\((a++47::b).take (a++47::b).length).drop (a.length+1)=b:=λa b=>by
   refine⟨by rw[Au,List.take_left],?_⟩;rw[Bj,show a++47::b=(a++[47])++b by simp,show a.length+1=(a++[47]).length by simp,List.drop_left]
  obtain⟨e1,e2⟩:=key (cutA l) (cutB l);rw[<- qdb h47]at e1 e2;rw[ixB_in h47,Af,Ac,q1g,q1g,q1s,Ae,show((([47]:List UInt8).length:Nat):Int)=((1:Nat):Int) from rfl,q2m,q1s,Ae,q5e,q5e,e1,e2];have:l.contains 47=true:=by simpa using h47
  rw[this];rfl
 ·obtain⟨c1,c2⟩:=qe9 h47;have:l.contains 47=false:=by simpa using h47
  rw[ixB_out h47,Ad,Ab,c1,c2,this];rfl
def chunks(x:Nat):List (List UInt8) :=
 if h:x=0 then []else
  (if x / 1000000000=0 then qk (x%1000000000)else List.replicate (9-(qk (x%1000000000)).length) 48++qk (x%1000000000))::chunks (x / 1000000000)
termination_by x
decreasing_by exact Cv (by omega) (by omega)
theorem dtext_dK(d:Nat)(h:d<1000000000):List.replicate (9-(qk d).length) 48++qk d=((dK 9 d).reverse).map chD:=by
 rw[dK_dg 9 d (by omega)];unfold qk;rcases Bt d with h0 | h0
 ·subst h0;rw[if_pos rfl,q17];decide
 ·rw[if_neg (by omega)];rw[Er,AK,List.reverse_replicate,EJ,Aa,Fk];rfl
theorem que{d:Nat}(h:d<1000000000):1<=(qk d).length/\(qk d).length<=9:=by
 unfold qk;rcases Bt d with h0 | h0
 ·subst h0;simp
 ·rw[if_neg (by omega),Aa,Fk];have:=q59 (b:=10) (by omega) (n:=d) (k:=9) (by omega);have:dg 10 d≠[]:=λq=>by have:=(q4t (b:=10) (by omega)).1 q;omega
  have:=CX.2 this;omega
theorem qmb:∀(x:Nat),x≠0->(chunks x).reverse.flatten=qk x:=by
 intro x
 induction x using Nat.strongRecOn with
 |_ x ih =>
  intro h0;rw[chunks,Cf h0];have hm:x%1000000000<1000000000:=AM _ (by omega);by_cases hq:x / 1000000000=0
  ·rw[if_pos hq,hq,chunks,BZ rfl];simp only[Fl,List.reverse_nil,As,List.flatten_cons,List.flatten_nil,AN];congr 1;omega
  ·rw[if_neg hq,Fl,List.flatten_append,ih _ (Cv (by omega) (by omega)) hq,dtext_dK _ hm];have e:=dg_dK hq 9 (x%1000000000) (by omega);rw[show x%1000000000+10^9*(x / 1000000000)=x by omega]at e;unfold qk;rw[if_neg hq,if_neg h0,e];simp
theorem qmc:∀(k x:Nat),x<1000000000^k->(chunks x).length<=k
 |0,x,h=>by
  have:x=0:=by simpa using h
  subst this;rw[chunks,BZ rfl];simp
 |k+1,x,h=>by
  rw[chunks];split
  ·simp
  ·simp only[Aq];have:=qmc k (x / 1000000000) (by rw[BO (by omega),<- Ax];exact h);omega
theorem q44{a b:Nat}(h:a<=b):Nat.ble a b=true:=by rw[Nat.ble_eq];exact h
theorem text_loop:∀(x k:Nat),x<1000000000^k->(dg 4294967296 x).length<=549755813000->∃n0,∀n m (P:List (List UInt8)),n0<=n->n0<=m->P.length+k<=1000000000000 ->
  q8f.l4 n [] m [L32 (dg 4294967296 x),.list 1 (P.map sF)]=(evF En n 208 [.list 1 ((P++chunks x).map sF)]).bind λr7=>(asLst 1 (r7[0]?)).bind λv8=>(evF En n 209 [.list 1 v8,.str { data:=#[] }]).bind λr9=>(asStr (r9[0]?)).bind λu10=>some [.str u10]:=by
 intro x
 induction x using Nat.strongRecOn with
 |_ x ih =>
  intro k hk hx;rcases Bt x with h0 | h0
  ·subst h0;refine⟨1,λn m P hn hm hP=>?_⟩;obtain⟨m,rfl⟩:=qSx m;rw[q8f.q13,Aa,q17,Ad (by simp),Ab,chunks,BZ rfl,AN]
  ·obtain⟨k,rfl⟩:∃j,k=j+1:=⟨k-1,by
    rcases Bt k with q | q
    ·subst q;simp at hk;omega
    ·omega⟩
   have hlt:x / 1000000000<x:=Cv (by omega) (by omega);have hm9:x%1000000000<1000000000:=AM _ (by omega);have hlm:=qec (CT hlt);obtain⟨n1,h1⟩:=ih (x / 1000000000) hlt k (by rw[BO (by omega),<- Ax];exact hk) (by omega);obtain⟨n2,h2⟩:=qm7 (x:=x) (k:=1000000000) (by omega) (by omega) (by omega);obtain⟨t1,t2⟩:=que hm9;have hl0:0<(dg 4294967296 x).length:=by
    rcases Bt (dg 4294967296 x).length with q | q
    ·have:=(q4t qp).1 (BH q);omega
    ·exact q
   refine⟨n1+n2+2,λn m P hn hm hP=>?_⟩;obtain⟨m,rfl⟩:=qSx m;obtain⟨n,rfl⟩:=qSx n;have h2':=h2 (n+1) (by omega);rw[show(((1000000000:Nat)):Int)=1000000000 from rfl]at h2'
   rw[q8f.q13,Aa,Af,Ac,h2',Ae,Aj,qx,Ae,AP,Aj,qi,Ae,
    q1a,quc (by omega),Ae,Aj,q2j,Ae,Aa]
   by_cases hq:x / 1000000000=0
   ·rw[hq,q17,Be,Ad,Ab,show qb 1 (.str { data:=#[] }) [(0,FV.str (txt (qk (x%1000000000))))]=[sF (qk (x%1000000000))] from rfl,Aa,q44 (by simp;omega),Ac];have:=h1 (n+1) m (P++[qk (x%1000000000)]) (by omega) (by omega) (by simp;omega);rw[hq,q17,AK]at this;refine this.trans ?_;rw[Ap,BP]
    conv=>rhs;rw[chunks,Cf (by omega),if_pos hq,hq]
   ·have hl1:0<(dg 4294967296 (x / 1000000000)).length:=by
     rcases Bt (dg 4294967296 (x / 1000000000)).length with q | q
     ·exact absurd ((q4t qp).1 (BH q)) hq
     ·exact q
    rw[Af,Ac,q1g,show w6 (9-((qk (x%1000000000)).length:Int))=((9-(qk (x%1000000000)).length:Nat):Int) by rw[qo];omega,
     qud (by omega),Ae,Aj,q2j,Ae,q1g,BJ,Ad,Ab,q5d]
    rw[show ∀u,qb 1 (.str { data:=#[] }) [(0,FV.str u)]=[FV.str u] from λu=>rfl,Aa,q44 (by simp;omega),Ac];have:=h1 (n+1) m (P++[List.replicate (9-(qk (x%1000000000)).length) 48++qk (x%1000000000)]) (by omega) (by omega) (by simp;omega);rw[AK]at this;refine this.trans ?_;rw[Ap,BP]
    conv=>rhs;rw[chunks,Cf (by omega),if_neg hq]
theorem qtp{x k:Nat}(hk:x<1000000000^k)(hk':k<=100000000000)(hx:(dg 4294967296 x).length<=549755813000)(ht:(qk x).length<=1099511627776):Ev En 148 [L32 (dg 4294967296 x)] [sF (qk x)]:=by
 obtain⟨n0,h⟩:=text_loop x k hk hx;refine Ev.of (n0+k+3) λn hn=>?_;rw[qp8,Aa];rcases Bt x with h0 | h0
 ·subst h0;rw[q17];rfl
 ·have hl0:0<(dg 4294967296 x).length:=by
   rcases Bt (dg 4294967296 x).length with q | q
   ·have:=(q4t qp).1 (BH q);omega
   ·exact q
  have hc:=qmc k x hk;obtain⟨n,rfl⟩:=qSx n;rw[show((((dg 4294967296 x).length:Nat):Int)==0)=false by rw[Bq];omega,Ab];have:=h (n+1) (n+1) [] (by omega) (by omega) (by simp;omega);rw[BG,As]at this;rw[this,qub (by omega) (by omega),Ae,Aj,qx,Ae,join_run (by rw[Fk];omega) (by rw[qmb x (by omega)];exact ht),Ae,Aj,q2j,Ae,qmb x (by omega)]
end Rf
end
section
set_option maxHeartbeats 2000000
set_option maxRecDepth 10000
namespace Rf
open Go
theorem dgts_isD:∀c:UInt8,dgts.contains c=isD c:=by
 have h:∀n:Fin 256,dgts.contains (UInt8.ofNat n.val)=isD (UInt8.ofNat n.val):=by decide +kernel
 intro c;have:=h ⟨c.toNat,c.toNat_lt⟩;simpa using this
theorem drop_nil{p:UInt8->Bool}:∀ {l:List UInt8},l.dropWhile p=[]↔∀c,c∈l->p c=true
 |[]=>by simp
 |x::l=>by
  rw[DN];by_cases h:p x=true
  ·rw[if_pos h,drop_nil];simp[h]
  ·rw[if_neg h];simp[h]
theorem qmd{p:UInt8->Bool}:∀ {l:List UInt8},l.dropWhile p≠[]->∃c,c∈l.dropWhile p/\p c=false
 |[],h=>by simp at h
 |x::l,h=>by
  rw[DN]at h ⊢;by_cases hx:p x=true
  ·rw[if_pos hx]at h ⊢;exact qmd h
  ·rw[if_neg hx];exact⟨x,by simp,by simpa using hx⟩
theorem qme(l:List UInt8):q8b l dgts=[]↔∀c,c∈l->isD c=true:=by
 have e:(λx=>dgts.contains x)=isD:=funext dgts_isD;unfold q8b;rw[e];constructor
 ·intro h;by_cases h1:l.reverse.dropWhile isD=[]
  ·intro c hc;exact drop_nil.1 h1 c (by simpa using hc)
  ·obtain⟨c,hc,hp⟩:=qmd h1;have:=drop_nil.1 h c (by simpa using hc);rw[hp]at this;cases this
 ·intro h;have:l.reverse.dropWhile isD=[]:=drop_nil.2 λc hc=>h c (by simpa using hc);rw[this];rfl
theorem quf{n m0:Nat}{l0 l1:List FV}{s:ByteArray}{cnt:Nat}(hc:cnt<=9):∀(d i m:Nat),i+d=cnt->d<m ->
  q3e.l8 n [m0] m [.list 1 l0,.list 1 l1,.str s,.int .i64 (cnt:Int),.int .u32 ((10^i:Nat):Int),.int .i64 (cnt:Int),.int .i64 (i:Int)] =
   (bd (cnt:Int) s.size).bind λi0=>(evF En n 249 [.str (s.extract 0 i0),.int .i64 10,.int .i64 32]).bind λr1=>(asInt .u64 (r1[0]?)).bind λn2=>(evF En n 250 [.list 1 l1,.int .u32 ((10^cnt:Nat):Int),.int .u32 (Go.IntKind.wrap .u32 n2)]).bind λr3=>(asLst 1 (r3[0]?)).bind λv4=>(bd (cnt:Int) s.size).bind λi5=>q3e.l4 n [] m0 [.list 1 l0,.list 1 v4,.str (s.extract i5 s.size)]:=by
 intro d
 induction d with
 |zero =>
  intro i m hi hm;obtain⟨m,rfl⟩:=qSx m;obtain rfl:i=cnt:=by omega
  rw[q3e.l8_eq,Ad,Ab]
 |succ d ih =>
  intro i m hi hm;obtain⟨m,rfl⟩:=qSx m;have hp:10^(i+1)<=10^9:=AW (by omega) (by omega);have e:=Ax 10 i;rw[q3e.l8_eq,Af,Ac,qd (by omega),show(((10^i:Nat)):Int)*10=((10^(i+1):Nat):Int) by rw[e];rfl,q6e];exact ih (i+1) m (by omega) (by omega)
theorem qug:∀(k:Nat) (l:List UInt8) (a:Nat),l.length<=k->(∀c,c∈l->isD c=true)->l.length<=1000000000->(dg 4294967296 (a*10^l.length+vD l)).length<=549755813000->∃n0,∀n m l0,n0<=n->n0<=m ->
  q3e.l4 n [] m [.list 1 l0,L32 (dg 4294967296 a),.str (txt l)]=some [L32 (dg 4294967296 (a*10^l.length+vD l)),.int .i64 0]:=by
 intro k
 induction k with
 |zero =>
  intro l a hk hd hl hb;have:l=[]:=BH (by omega);subst this;refine⟨1,λn m l0 hn hm=>?_⟩;obtain⟨m,rfl⟩:=qSx m;rw[q3e.q13,show({ data:=#[] }:ByteArray)=txt [] from rfl,q37];simp[vD]
 |succ k ih =>
  intro l a hk hd hl hb;by_cases hne:l=[]
  ·exact ih l a (by rw[hne];simp) hd hl hb
  ·have hpos:0<l.length:=CX.2 hne;obtain⟨cnt,hcnt⟩:∃cnt,(l.length-1)%9+1=cnt:=⟨_,rfl⟩;have hc9:cnt<=9:=by have:=AM (l.length-1) (show 0<9 by omega);omega
   have hcl:cnt<=l.length:=by have:=Nat.mod_le (l.length-1) 9;omega
   have hpow:10^cnt<=10^9:=AW (by omega) hc9;have hdt:∀c,c∈l.take cnt->isD c=true:=λc h=>hd c (CJ h);have hvt:=vD_lt hdt;have htl:(l.take cnt).length=cnt:=by simp;omega
   rw[htl]at hvt;have hval:a*10^l.length+vD l=(a*10^cnt+vD (l.take cnt))*10^(l.drop cnt).length+vD (l.drop cnt):=by
    have e1:=qbc (l.take cnt) (l.drop cnt);rw[BX]at e1;have e2:10^l.length=10^cnt*10^(l.drop cnt).length:=by rw[<- Cb];congr 1;simp;omega
    rw[e1,e2,AU,AV,Bl]
   have hle:a*10^cnt+vD (l.take cnt)<=a*10^l.length+vD l:=by
    rw[hval];exact Bb (Eg _ (Bx (by omega))) (Nat.le_add_right _ _)
   have hale:a<=a*10^cnt+vD (l.take cnt):=Bb (Eg _ (Bx (by omega))) (Nat.le_add_right _ _);have hm1:=qec hle;have hm2:=qec hale;obtain⟨n1,h1⟩:=ih (l.drop cnt) (a*10^cnt+vD (l.take cnt)) (by simp;omega) (λc h=>hd c (Cy h)) (by simp;omega) (by rw[<- hval];exact hb);obtain⟨n2,h2⟩:=quh (x:=a) (k:=10^cnt) (c:=vD (l.take cnt)) (by omega) (by omega) (by omega);refine⟨n1+n2+11,λn m l0 hn hm=>?_⟩;obtain⟨m,rfl⟩:=qSx m;obtain⟨n,rfl⟩:=qSx n;have hw:w6 (Int.tmod (w6 ((l.length:Int)-1)) 9+1)=(cnt:Int):=by
    rw[show w6 ((l.length:Int)-1)=((l.length-1:Nat):Int) by rw[qo];omega,
     show Int.tmod ((l.length-1:Nat):Int) 9=(((l.length-1)%9:Nat):Int) from rfl,qo]
    omega
   have hl8:=quf (n:=n+1) (m0:=m) (l0:=l0) (l1:=(dg 4294967296 a).map d32) (s:=txt l) hc9 cnt 0 (n+1) (by omega) (by omega);rw[Es]at hl8;rw[q3e.q13,show({ data:=#[] }:ByteArray)=txt [] from rfl,q37,Ad hne,AX,Ac,q1g,hw];refine hl8.trans ?_
   rw[q1g,q1s hcl,Ae,q5e,Au,parse_run (λq=>by rw[q]at htl;simp at htl;omega) (by omega) hdt,Ae,Aj,qi,Ae,q6e,h2 _ (by omega),
    Ae,Aj,qx,Ae,Ae,q5e,CR (Ak _),h1 _ _ _ (by omega) (by omega),hval]
theorem qh5{l:List UInt8}(hc:canon l)(hl:l.length<=1000000000)(hb:(dg 4294967296 (vD l)).length<=549755813000):Ev En 216 [sF l] [L32 (dg 4294967296 (vD l)),.int .i64 0]:=by
 obtain⟨c1,c2,c3⟩:=hc;obtain⟨n0,h⟩:=qug l.length l 0 (Ak _) c2 hl (by rw[Dk,AG];exact hb);refine Ev.of (n0+1) λn hn=>?_;obtain⟨n,rfl⟩:=qSx n;have hL:=h (n+1) (n+1) [] (by omega) (by omega);rw[q17,Dk,AG]at hL;obtain⟨c,t,rfl⟩:∃c t,l=c::t:=by
  cases l with
  |nil=>exact absurd rfl c1
  |cons c t=>exact⟨c,t,rfl⟩
 have h0:=q48 (c::t) 0;rw[show((0:Nat):Int)=0 from rfl]at h0;have htrim:q8b (c::t) dgts=[]:=(qme _).2 c2
 rw[qjb,show({ data:=#[] }:ByteArray)=txt [] from rfl,q37,Ad (by simp),Ab,h0,Aj,AE,Ae,qma,Ae,Aj,q2j,Ae,htrim,
  show({ data:=#[48] }:ByteArray)=txt [48] from rfl,q37,q37,Af (show([]:List UInt8)=[] from rfl),Ao,Ab]
 by_cases hz:c=48
 ·subst hz;have:t=[]:=by
   have:=c3 rfl;simpa using this
  subst this;rw[show((((48:UInt8).toNat:Nat):Int)==48)=true from rfl,Ac,Af rfl,Ao,Ab];exact hL
 ·have:((c.toNat:Int)==48)=false:=by
   rw[Bq];intro q;exact hz (Do.1 (show c.toNat=48 by omega))
  rw[this,Ab];exact hL
theorem qlo{l:List UInt8}(hc:¬ canon l)(hl:l.length<=1000000000):Ev En 216 [sF l] [.list 1 [],.int .i64 10]:=by
 refine Ev.of 1 λn hn=>?_;obtain⟨n,rfl⟩:=qSx n;rw[qjb,show({ data:=#[] }:ByteArray)=txt [] from rfl,q37];cases l with
 |nil=>rw[Af rfl,Ac]
 |cons c t =>
  have h0:=q48 (c::t) 0;rw[show((0:Nat):Int)=0 from rfl]at h0
  rw[Ad (by simp),Ab,h0,Aj,AE,Ae,qma,Ae,Aj,q2j,Ae,
   show({ data:=#[48] }:ByteArray)=txt [48] from rfl,q37,q37]
  by_cases hd:∀x,x∈c::t->isD x=true
  ·have hz:c=48/\t≠[]:=by
    apply BU;intro q;refine hc ⟨by simp,hd,λh=>?_⟩;simp only[DK,AH]at h;have:t=[]:=BU λht=>q ⟨h,ht⟩;rw[this];rfl
   obtain⟨rfl,ht⟩:=hz;rw[show((((48:UInt8).toNat:Nat):Int)==48)=true from rfl,Ac,Ad (by simpa using ht),AX,Ac]
  ·have htr:q8b (c::t) dgts≠[]:=λq=>hd ((qme _).1 q);rw[Ad htr,AX,Ac];cases((c.toNat:Int)==48) <;> cases(decide (c::t=[48])) <;> rfl
end Rf
end
end
namespace Rf
open Go
section
abbrev nL(x:Nat):FV:=L32 (dg 4294967296 x)
abbrev zl(z:Int):FV:=nL z.natAbs
abbrev zb(z:Int):FV:=.bool (decide (z<0))
def sg(s:Bool)(x:Nat):Int:=if s then -(x:Int)else x
theorem sg_abs(s:Bool)(x:Nat):(sg s x).natAbs=x:=by unfold sg;split <;> omega
theorem sg_neg(s:Bool)(x:Nat):decide (sg s x<0)=(s&&decide (0<x)):=by
 unfold sg;cases s <;> simp
theorem q4b{x k:Nat}(h:x<2^k)(hk:k<=100000000000:=by omega):(dg 4294967296 x).length<=100000000000:=Bb (qh1 qp h) hk
theorem zero_ev{x k:Nat}{s:Bool}(hk:k<=100000000000)(hx:x<2^k):Ev En 198 [nL x,.bool s] [.bool (decide (x=0))]:=by
 have l:=q4b hx hk;obtain⟨n1,h1⟩:=qe4 (x:=x);refine Ev.of n1 λn hn=>?_;rw[qtf];simp (disch:=omega) only[h1,rr];have:(((q7z x:Nat):Int)==0)=decide (x=0):=by
  rw[Bm,Bv,At,<- qe5];omega
 rw[this]
theorem q5p{x k:Nat}{s:Bool}(hk:k<=100000000000)(hx:x<2^k):Ev En 199 [.bool s,nL x] [zl (sg s x),zb (sg s x)]:=by
 have l:=q4b hx hk;obtain⟨n1,h1⟩:=qe4 (x:=x);refine Ev.of n1 λn hn=>?_;rw[qtg];unfold zl zb;rw[sg_abs,sg_neg];cases s
 ·simp only[rr];rfl
 ·simp (disch:=omega) only[h1,rr];have:decide (((q7z x:Nat):Int)>0)=decide (0<x):=by
   rw[Bm,At,At];have:=@qe5 x;omega
  rw[this];rfl
theorem qd2{z:Int}{k:Nat}(hk:k<=100000000000)(hz:z.natAbs<2^k):Ev En 145 [zl z,zb z] [.int .i64 z.sign]:=by
 obtain⟨n1,h1⟩:=zero_ev (s:=decide (z<0)) hk hz;refine Ev.of n1 λn hn=>?_;rw[qth];by_cases h:z<0
 ·rw[Af h];simp only[rr];rw[CN h]
 ·rw[Ad h]at h1 ⊢;simp (disch:=omega) only[h1,rr];by_cases h0:z=0
  ·subst h0;rfl
  ·rw[Ad];simp only[rr];rw[Ck (by omega)]
theorem qe6{z:Int}{k:Nat}(hk:k<=100000000000)(hz:z.natAbs<2^k):Ev En 147 [zl z,zb z] [zl (-z),zb (-z)]:=by
 obtain⟨n1,h1⟩:=q5p (s:=!(decide (z<0))) hk hz;refine Ev.of n1 λn hn=>?_;rw[qti];simp (disch:=omega) only[h1,rr];have:sg (!(decide (z<0))) z.natAbs=-z:=by
  unfold sg;by_cases h:z<0 <;> simp[h] <;> omega
 rw[this]
theorem nabs_ev{z:Int}:Ev En 218 [zl z,zb z] [nL z.natAbs]:=Ev.of 0 λn _=>qtj n _ _
theorem pow_two{a b k:Nat}(h:a<2^k)(h':b<2^k):a+b<2^(k+1):=by rw[Ax];omega
theorem qa4{z w:Int}{k:Nat}(hk:k+1<=100000000000)(hz:z.natAbs<2^k)(hw:w.natAbs<2^k):Ev En 141 [zl z,zb z,zl w,zb w] [zl (z+w),zb (z+w)]:=by
 have lz:=q4b hz;have lw:=q4b hw;by_cases hs:decide (z<0)=decide (w<0)
 ·obtain⟨n1,h1⟩:=natAdd_ev (x:=z.natAbs) (y:=w.natAbs) (by omega) (by omega);obtain⟨n2,h2⟩:=q5p (s:=decide (z<0)) hk (pow_two hz hw);refine Ev.of (n1+n2) λn hn=>?_;rw[qh2,hs];rw[hs]at h2;simp (disch:=omega) only[h1,h2,Bi,rr];have:sg (decide (w<0)) (z.natAbs+w.natAbs)=z+w:=by
   unfold sg;by_cases h:w<0
   ·have:z<0:=by rw[Af h]at hs;exact of_decide_eq_true hs
    simp[h];omega
   ·have:¬ z<0:=by rw[Ad h]at hs;exact of_decide_eq_false hs
    simp[h];omega
  rw[this]
 ·have hb:(decide (z<0)==decide (w<0))=false:=Bq.2 hs;have hsgn:(z<0/\0<=w)\/(0<=z/\w<0):=by
   by_cases h:z<0 <;> by_cases h':w<0 <;> simp_all <;> omega
  by_cases hle:w.natAbs<=z.natAbs
  ·obtain⟨n1,h1⟩:=qlk (x:=z.natAbs) (y:=w.natAbs) (by omega) hle (by omega) (by omega);obtain⟨n2,h2⟩:=q5p (k:=k) (x:=z.natAbs-w.natAbs) (s:=decide (z<0)) (by omega) (by omega);refine Ev.of (n1+n2) λn hn=>?_;rw[qh2,hb];simp (disch:=omega) only[h1,h2,Bi,rr];have:sg (decide (z<0)) (z.natAbs-w.natAbs)=z+w:=by
    unfold sg;by_cases h:z<0 <;> simp[h] <;> omega
   rw[this]
  ·obtain⟨n1,h1⟩:=qtk (x:=z.natAbs) (y:=w.natAbs) (by omega) (by omega) (by omega);obtain⟨n3,h3⟩:=qlk (x:=w.natAbs) (y:=z.natAbs) (by omega) (by omega) (by omega) (by omega);obtain⟨n2,h2⟩:=q5p (k:=k) (x:=w.natAbs-z.natAbs) (s:=decide (w<0)) (by omega) (by omega);refine Ev.of (n1+n2+n3) λn hn=>?_;rw[qh2,hb];simp (disch:=omega) only[h1,h2,h3,show((11:Int)==0)=false from rfl,rr];have:sg (decide (w<0)) (w.natAbs-z.natAbs)=z+w:=by
    unfold sg;by_cases h:w<0 <;> simp[h] <;> omega
   rw[this]
theorem qd0{z w:Int}{k:Nat}(hk:k+1<=100000000000)(hz:z.natAbs<2^k)(hw:w.natAbs<2^k):Ev En 84 [zl z,zb z,zl w,zb w] [zl (z-w),zb (z-w)]:=by
 obtain⟨n1,h1⟩:=qe6 (by omega) hw;obtain⟨n2,h2⟩:=qa4 (w:=-w) hk hz (by rw[BC];exact hw);refine Ev.of (n1+n2) λn hn=>?_;rw[qtl];simp (disch:=omega) only[h1,h2,rr];rw[Int.sub_eq_add_neg]
theorem sg_mul(z w:Int):sg (!(decide (z<0)==decide (w<0))) (z.natAbs*w.natAbs)=z*w:=by
 unfold sg;rcases Da z 0 with h | h <;> rcases Da w 0 with h' | h'
 ·obtain⟨x,rfl⟩:∃x:Nat,z=-(x:Int):=⟨z.natAbs,by omega⟩;obtain⟨y,rfl⟩:∃y:Nat,w=-(y:Int):=⟨w.natAbs,by omega⟩;rw[Int.neg_mul_neg,Af h,Af h',BC,BC];simp
 ·obtain⟨x,rfl⟩:∃x:Nat,z=-(x:Int):=⟨z.natAbs,by omega⟩;obtain⟨y,rfl⟩:∃y:Nat,w=(y:Int):=⟨w.natAbs,by omega⟩;rw[Int.neg_mul,Af h,Ad,BC];simp
 ·obtain⟨x,rfl⟩:∃x:Nat,z=(x:Int):=⟨z.natAbs,by omega⟩;obtain⟨y,rfl⟩:∃y:Nat,w=-(y:Int):=⟨w.natAbs,by omega⟩;rw[Int.mul_neg,Af h',Ad,BC];simp
 ·obtain⟨x,rfl⟩:∃x:Nat,z=(x:Int):=⟨z.natAbs,by omega⟩;obtain⟨y,rfl⟩:∃y:Nat,w=(y:Int):=⟨w.natAbs,by omega⟩;rw[Ad,Ad];simp
theorem q70{z w:Int}{k:Nat}(hk:k+k<=100000000000)(hz:z.natAbs<2^k)(hw:w.natAbs<2^k):Ev En 173 [zl z,zb z,zl w,zb w] [zl (z*w),zb (z*w)]:=by
 have lz:=q4b hz;have lw:=q4b hw;obtain⟨n1,h1⟩:=natMul_ev (x:=z.natAbs) (y:=w.natAbs) (by omega);obtain⟨n2,h2⟩:=q5p (s:=!(decide (z<0)==decide (w<0))) hk (q4h hz hw);refine Ev.of (n1+n2) λn hn=>?_;rw[qtm];simp (disch:=omega) only[h1,h2,rr];rw[sg_mul z w]
def q20(z w:Int):Int:=if z<w then -1 else if w<z then 1 else 0
theorem cmpN_pos{z w:Int}(hz:0<=z)(hw:0<=w):cmpN z.natAbs w.natAbs=q20 z w:=by
 have e1:z.natAbs<w.natAbs↔z<w:=by omega
 have e2:w.natAbs<z.natAbs↔w<z:=by omega
 simp only[cmpN,q20,e1,e2]
theorem cmpN_neg{z w:Int}(hz:z<0)(hw:w<0):cmpN w.natAbs z.natAbs=q20 z w:=by
 have e1:w.natAbs<z.natAbs↔z<w:=by omega
 have e2:z.natAbs<w.natAbs↔w<z:=by omega
 simp only[cmpN,q20,e1,e2]
theorem qd1{z w:Int}{k:Nat}(hk:k<=100000000000)(hz:z.natAbs<2^k)(hw:w.natAbs<2^k):Ev En 142 [zl z,zb z,zl w,zb w] [.int .i64 (q20 z w)]:=by
 have lz:=q4b hz;have lw:=q4b hw;obtain⟨n1,h1⟩:=q9s (x:=z.natAbs) (y:=w.natAbs) (by omega) (by omega);obtain⟨n2,h2⟩:=q9s (x:=w.natAbs) (y:=z.natAbs) (by omega) (by omega);refine Ev.of (n1+n2) λn hn=>?_;rw[qtn];by_cases h:z<0 <;> by_cases h':w<0
 ·rw[Af h,Af h'];simp (disch:=omega) only[h1,h2,Ao,rr];rw[cmpN_neg h h']
 ·rw[Af h,Ad h'];simp (disch:=omega) only[h1,h2,Ao,AX,rr];unfold q20;rw[if_pos (by omega)]
 ·rw[Ad h,Af h'];simp (disch:=omega) only[h1,h2,Ao,AX,rr];unfold q20;rw[if_neg (by omega),if_pos (by omega)]
 ·rw[Ad h,Ad h'];simp (disch:=omega) only[h1,h2,AX,rr];rw[cmpN_pos (by omega) (by omega)]
theorem qcz{z:Int}(h1:-9223372036854775808<=z:=by omega)(h2:z<=9223372036854775807:=by omega):Ev En 144 [.int .i64 z] [zl z,zb z]:=by
 have hb:z.natAbs<2^64:=by
  have:(2:Nat)^64=18446744073709551616:=by decide
  omega
 obtain⟨n1,g1⟩:=qh3 (x:=z.natAbs) (by omega);obtain⟨n2,g2⟩:=q5p (s:=decide (z<0)) (k:=64) (by omega) hb;refine Ev.of (n1+n2) λn hn=>?_;rw[num_Of_eq];by_cases h:z<0
 ·rw[Af h]at g2 ⊢;have e:IntKind.wrap .u64 (0-IntKind.wrap .u64 z)=(z.natAbs:Int):=by
   unfold IntKind.wrap;simp[IntKind.bits,IntKind.signed];omega
  rw[e];simp (disch:=omega) only[g1,g2,rr];have:sg true z.natAbs=z:=by unfold sg;simp;omega
  rw[this]
 ·rw[Ad h]at g2 ⊢;have e:IntKind.wrap .u64 z=(z.natAbs:Int):=by
   unfold IntKind.wrap;simp[IntKind.bits,IntKind.signed];omega
  rw[e];simp (disch:=omega) only[g1,g2,rr];have:sg false z.natAbs=z:=by unfold sg;simp;omega
  rw[this]
theorem sg_div(z w:Int):sg (!(decide (z<0)==decide (w<0))) (z.natAbs / w.natAbs)=z.tdiv w:=by
 unfold sg;rcases Da z 0 with h | h <;> rcases Da w 0 with h' | h'
 ·obtain⟨x,rfl⟩:∃x:Nat,z=-(x:Int):=⟨z.natAbs,by omega⟩;obtain⟨y,rfl⟩:∃y:Nat,w=-(y:Int):=⟨w.natAbs,by omega⟩;rw[Int.neg_tdiv_neg,Af h,Af h',BC,BC];simp
 ·obtain⟨x,rfl⟩:∃x:Nat,z=-(x:Int):=⟨z.natAbs,by omega⟩;obtain⟨y,rfl⟩:∃y:Nat,w=(y:Int):=⟨w.natAbs,by omega⟩;rw[Int.neg_tdiv,Af h,Ad,BC];simp
 ·obtain⟨x,rfl⟩:∃x:Nat,z=(x:Int):=⟨z.natAbs,by omega⟩;obtain⟨y,rfl⟩:∃y:Nat,w=-(y:Int):=⟨w.natAbs,by omega⟩;rw[Int.tdiv_neg,Af h',Ad,BC];simp
 ·obtain⟨x,rfl⟩:∃x:Nat,z=(x:Int):=⟨z.natAbs,by omega⟩;obtain⟨y,rfl⟩:∃y:Nat,w=(y:Int):=⟨w.natAbs,by omega⟩;rw[Ad,Ad];simp
theorem sg_mod(z w:Int):sg (decide (z<0)) (z.natAbs%w.natAbs)=z.tmod w:=by
 unfold sg;rcases Da z 0 with h | h
 ·obtain⟨x,rfl⟩:∃x:Nat,z=-(x:Int):=⟨z.natAbs,by omega⟩;rw[EN,Af h,BC];rcases Da w 0 with h' | h'
  ·obtain⟨y,rfl⟩:∃y:Nat,w=-(y:Int):=⟨w.natAbs,by omega⟩;rw[Int.tmod_neg];simp[Et]
  ·obtain⟨y,rfl⟩:∃y:Nat,w=(y:Int):=⟨w.natAbs,by omega⟩;simp[Et]
 ·obtain⟨x,rfl⟩:∃x:Nat,z=(x:Int):=⟨z.natAbs,by omega⟩;rw[Ad];rcases Da w 0 with h' | h'
  ·obtain⟨y,rfl⟩:∃y:Nat,w=-(y:Int):=⟨w.natAbs,by omega⟩;rw[Int.tmod_neg];simp[Et]
  ·obtain⟨y,rfl⟩:∃y:Nat,w=(y:Int):=⟨w.natAbs,by omega⟩;simp[Et]
theorem qcy{z w:Int}{k:Nat}(hk:k<=100000000000)(h0:w≠0)(hz:z.natAbs<2^k)(hw:w.natAbs<2^k) :
  Ev En 143 [zl z,zb z,zl w,zb w] [zl (z.tdiv w),zb (z.tdiv w),zl (z.tmod w),zb (z.tmod w),.int .i64 0]:=by
 have lz:=q4b hz;have lw:=q4b hw;have hq:z.natAbs / w.natAbs<2^k:=BI (Dm _ _) hz;have hr:z.natAbs%w.natAbs<2^k:=BI (Nat.mod_le _ _) hz;obtain⟨n1,h1⟩:=qll (x:=z.natAbs) (y:=w.natAbs) (by omega) (by omega) (by omega);obtain⟨n2,h2⟩:=q5p (s:=!(decide (z<0)==decide (w<0))) hk hq;obtain⟨n3,h3⟩:=q5p (s:=decide (z<0)) hk hr;refine Ev.of (n1+n2+n3) λn hn=>?_;rw[qto];simp (disch:=omega) only[h1,h2,h3,show((0:Int) !=0)=false from rfl,rr];rw[sg_div z w,sg_mod z w]
theorem pow2_10(k:Nat):2^k<=1000000000^k:=Eu (by omega) k
theorem qh4{z:Int}{k:Nat}(hk:k<=10000000000)(hz:z.natAbs<2^k):Ev En 85 [zl z,zb z] [sF (qu z)]:=by
 have lz:=q4b hz;have lt:=q98 hz;obtain⟨n1,h1⟩:=qtp (x:=z.natAbs) (k:=k) (AR hz (pow2_10 k)) (by omega) (by omega) (by omega);refine Ev.of n1 λn hn=>?_;rw[qtq];unfold qu;by_cases h:z<0
 ·rw[Af h,if_pos h];simp (disch:=omega) only[h1,rr];rw[q1g,Ad,Ab,show({ data:=#[45] }:ByteArray)=txt [45] from rfl,q5d];rfl
 ·rw[Ad h,if_neg h];simp (disch:=omega) only[h1,rr]
theorem qlm{n:Nat}(l:List UInt8):evF En (n+3) 215 [sF l,.str { data:=#[45] }]=some [sF (if l.head?=some 45 then l.tail else l),.bool (decide (l.head?=some 45))]:=by
 rw[qtr,qts,qtt,show({ data:=#[45] }:ByteArray)=txt [45] from rfl,q1g,q1g];cases l with
 |nil=>rfl
 |cons c t =>
  rw[Af (by simp;omega),Ac,q1s (by simp),Ae,q5e,q37];simp only[Ae,Aj,q3x];by_cases hc:c=45
  ·subst hc;rw[Af (by simp),Ao,Ab];simp (disch:=omega) only[q5e,rr];simp
  ·rw[Ad (by simpa using hc),AX,Ac];simp only[rr];simp[hc]
theorem qbw{l:List UInt8}{z:Int}(h:pz l=some z)(hl:l.length<=1000000000:=by omega):Ev En 177 [sF l] [zl z,zb z,.int .i64 0]:=by
 have hb:=qa9 h;have lz:=q4b hb;have e:=q4i.1 h;have hcp:=λn=>@qlm n l;have hb':=qe4 (x:=z.natAbs);by_cases hz:z<0
 ·have hl2:l=45::qk z.natAbs:=by rw[e];unfold qu;rw[if_pos hz]
  obtain⟨n1,h1⟩:=qh5 (l:=qk z.natAbs) (q6b _) (by rw[hl2]at hl;simp at hl;omega) (by rw[q6c];omega);rw[q6c]at h1;obtain⟨n2,h2⟩:=q5p (s:=true) (by omega:4*l.length<=100000000000) hb;obtain⟨n3,h3⟩:=hb';refine Ev.of (n1+n2+n3+3) λn hn=>?_;obtain⟨n,rfl⟩:∃m,n=m+3:=⟨n-3,by omega⟩;rw[qbx,hcp];subst hl2;simp (disch:=omega) only[DK,Ba,Ew,h1,DA,show((0:Int) !=0)=false from rfl,h3,rr];have:(((q7z z.natAbs:Nat):Int)==0)=false:=by
   rw[Bq];have:=@qe5 z.natAbs;omega
  rw[this];simp (disch:=omega) only[h2,rr];have:sg true z.natAbs=z:=by unfold sg;simp;omega
  rw[this]
 ·have hl2:l=qk z.natAbs:=by rw[e];unfold qu;rw[if_neg hz]
  have hc:canon l:=hl2▸q6b _;have h45:l.head?≠some 45:=λq=>by
   cases l with
   |nil=>cases q
   |cons c t=>simp at q;subst q;exact qh6 hc
  obtain⟨n1,h1⟩:=qh5 (l:=l) hc hl (by rw[hl2,q6c];omega);have hv:vD l=z.natAbs:=by rw[hl2,q6c]
  rw[hv]at h1;obtain⟨n2,h2⟩:=q5p (s:=false) (by omega:4*l.length<=100000000000) hb;refine Ev.of (n1+n2+3) λn hn=>?_;obtain⟨n,rfl⟩:∃m,n=m+3:=⟨n-3,by omega⟩;rw[qbx,hcp,if_neg h45,Ad h45];simp (disch:=omega) only[h1,show((0:Int) !=0)=false from rfl,h2,rr];have:sg false z.natAbs=z:=by unfold sg;simp;omega
  rw[this]
theorem qln{l:List UInt8}(h:pz l=none)(hl:l.length<=1000000000:=by omega):Ev En 177 [sF l] [.list 1 [],.bool false,.int .i64 10]:=by
 have hcp:=λn=>@qlm n l;by_cases h45:l.head?=some 45
 ·obtain⟨t,rfl⟩:∃t,l=45::t:=by
   cases l with
   |nil=>cases h45
   |cons c t=>simp at h45;subst h45;exact⟨t,rfl⟩
  simp only[Aq]at hl;by_cases hc:canon t
  ·have hv:vD t=0:=by
    apply BU;intro q;rw[pz_neg hc q]at h;cases h
   obtain⟨n1,h1⟩:=qh5 (l:=t) hc (by omega) (by rw[hv,q17];simp);rw[hv]at h1;obtain⟨n3,h3⟩:=qe4 (x:=0) (by rw[q17];simp);refine Ev.of (n1+n3+3) λn hn=>?_;obtain⟨n,rfl⟩:∃m,n=m+3:=⟨n-3,by omega⟩;rw[qbx,hcp];simp (disch:=omega) only[DK,Ba,Ew,h1,DA,show((0:Int) !=0)=false from rfl,h3,qe5.2 rfl,rr];rfl
  ·obtain⟨n1,h1⟩:=qlo (l:=t) hc (by omega);refine Ev.of (n1+3) λn hn=>?_;obtain⟨n,rfl⟩:∃m,n=m+3:=⟨n-3,by omega⟩;rw[qbx,hcp];simp (disch:=omega) only[DK,Ba,Ew,h1,DA,show((10:Int) !=0)=true from rfl,rr]
 ·have hc:¬ canon l:=λhc=>by rw[pz_pos hc]at h;cases h
  obtain⟨n1,h1⟩:=qlo (l:=l) hc hl;refine Ev.of (n1+3) λn hn=>?_;obtain⟨n,rfl⟩:∃m,n=m+3:=⟨n-3,by omega⟩;rw[qbx,hcp,if_neg h45,Ad h45];simp (disch:=omega) only[h1,show((10:Int) !=0)=true from rfl,rr]
theorem q1u(n:Nat):zb (n:Int)=.bool false:=by unfold zb;rw[Ad]
end
section
theorem b9_2:2<=1000000000:=by decide
abbrev wL(x:Nat):FV:=L64 (dg 1000000000 x)
theorem el1(z v:FV):qb 1 z [(0,v)]=[v]:=rfl
theorem el0(z:FV):qb 0 z []=[]:=rfl
theorem q85(l:List Nat)(d:Nat):l.map d64++[FV.int .i64 (d:Int)]=(l++[d]).map d64:=by simp
theorem tmod9(x:Nat):Int.tmod (x:Int) 1000000000=((x%1000000000:Nat):Int):=rfl
theorem tdiv9(x:Nat):Int.tdiv (x:Int) 1000000000=((x / 1000000000:Nat):Int):=rfl
theorem rep64(k:Nat):List.replicate k (FV.int .i64 0)=(List.replicate k 0).map d64:=by rw[EJ];rfl
theorem mk8{k:Nat}(h:k<=1099511627776:=by omega):q1p 8 (k:Int)=some k:=by
 unfold q1p;rw[if_pos ⟨by omega,by omega,by omega⟩];simp
theorem set64{pre:List Nat}{d y:Nat}{r:List Nat}{i:Nat}(h:pre.length=i:=by omega):List.set ((pre++d::r).map d64) i (.int .i64 (y:Int))=(pre++y::r).map d64:=by
 rw[AK,AS,qax (by simpa using h),AK,AS]
theorem mid64{pre:List Nat}{d:Nat}{r:List Nat}{i:Nat}(h:pre.length=i):at' ((pre++d::r).map d64) i 0=some (.int .i64 (d:Int)):=by
 subst h;rw[q26,CQ (Ak _),Cn];rfl
theorem q79{x:Nat}(h:x≠0):0<(dg 1000000000 x).length:=by
 rcases Bt (dg 1000000000 x).length with q | q
 ·exact absurd ((q4t b9_2).1 (BH q)) h
 ·exact q
theorem qem{x y:Nat}(h:x<=y):(dg 1000000000 x).length<=(dg 1000000000 y).length:=by
 apply Df;intro hlt;have:=q9x b9_2 hlt;omega
theorem qnk{n:Nat}{l0:List FV}:∀(k:Nat) (l:List Nat) (m:Nat),l.length=k->k<m->k<=1099511627776+1->q8s.l1 n [] m [.list 1 l0,L64 l]=some [L64 (tz l)]:=by
 intro k
 induction k with
 |zero =>
  intro l m hl hm hk;obtain⟨m,rfl⟩:=qSx m;have:l=[]:=BH hl;subst this;rw[q8s.q2v];rfl
 |succ k ih =>
  intro l m hl hm hk;obtain⟨m,rfl⟩:=qSx m;obtain⟨r,d,rfl⟩:∃r d,l=r++[d]:=by
   rcases Dh l with h | ⟨r,d,h⟩
   ·subst h;simp at hl
   ·exact⟨r,d,by simpa using h⟩
  have hr:r.length=k:=by simpa using hl
  rw[q8s.q2v,Aa,Af,Ac,hl];have e1:w6 (((k+1:Nat):Int)-1)=(k:Int):=by rw[qo];omega
  have hat:at' ((r++[d]).map d64) k 0=some (.int .i64 (d:Int)):=by
   rw[q61 (by rw[hl];omega)];simp[<- hr]
  rw[e1,q9,Ae,hat,qi,Ae];by_cases h0:d=0
  ·subst h0;rw[show(((0:Nat):Int)==0)=true from rfl,Ac,q1s,Ae,qcg];have:List.drop 0 (List.take k ((r++[0]).map d64))=r.map d64:=by
    rw[Au,AK,DR (by simp[hr]),CR (by simp[hr])]
   rw[this];exact ih r m hr (by omega) (by omega)
  ·rw[show((d:Int)==0)=false from Bq.2 (by omega),Ab,qch h0]
theorem q86{n:Nat}{l:List Nat}(h:l.length<=1099511627776+1:=by omega)(hn:l.length<n:=by omega):evF En (n+1) 134 [L64 l]=some [L64 (tz l)]:=by
 rw[qnl];exact qnk l.length l n rfl hn h
theorem qen{n i:Nat}{l:List Nat}:evF En (n+1) 211 [L64 l,.int .i64 (i:Int)]=some [.int .i64 ((l.getD i 0:Nat):Int)]:=by
 rw[qnm,Aa];by_cases h:i<l.length
 ·rw[Af,Ac,q9 h,Ae,q61 h,qi,Ae,AD,Ag h];rfl
 ·rw[Ad,Ab,AD,Di (by omega)];rfl
theorem qi4{n:Nat}{l0:List FV}:∀(x m:Nat) (pre:List Nat),x<m->x<18446744073709551616->pre.length+x<=1099511627776*18446744073709551616->pre.length+(dg 1000000000 x).length<=1099511627776 ->
  q9y.l2 n [] m [.list 1 l0,.int .u64 (x:Int),L64 pre]=some [L64 (pre++dg 1000000000 x)]:=by
 intro x
 induction x using Nat.strongRecOn with
 |_ x ih =>
  intro m pre hm hx hp0 hp;obtain⟨m,rfl⟩:=qSx m;rw[q9y.qt];by_cases h0:x=0
  ·subst h0;rw[Ad,Ab,q17,AN]
  ·have hlt:x / 1000000000<x:=Cv (by omega) (by omega);rw[q3c b9_2 h0,Aq]at hp;rw[Af,Ac,tmod9,q3w,el1,Aa,q44 (by simp;omega),Ac,q85,tdiv9,q1a,ih (x / 1000000000) hlt m (pre++[x%1000000000]) (by omega) (by omega) (by simp;omega) (by simp;omega)];rw[q3c b9_2 h0,Ap];rfl
theorem wof_ev{x:Nat}(hx:x<18446744073709551616):Ev En 102 [.int .u64 (x:Int)] [wL x]:=by
 refine Ev.of (x+1) λn hn=>?_;rw[qi5,el0];have hl:(dg 1000000000 x).length<=3:=q59 b9_2 (by omega);have:=qi4 (n:=n) (l0:=[]) x n [] (by omega) hx (by simp;omega) (by simp;omega);exact this
theorem qnn{n:Nat}{a:List Nat}{k:Nat}(ha:Dg 1000000000 a)(hk:k<1000000000)(hl:a.length<=1099511627775)(hn:a.length+3<=n){l1:List FV}:∀(d i m:Nat) (pre:List Nat) (c:Nat),i+d=a.length->d<m->pre.length=i->c<1000000000 ->
  q8t.l3 n [] m [L64 a,.list 1 l1,.int .i64 (k:Int),.int .i64 (c:Int),L64 pre,.int .i64 (i:Int)]=some [L64 (tz (pre++mulL 1000000000 (a.drop i) k c))]:=by
 intro d
 induction d with
 |zero =>
  intro i m pre c hi hm hp hc;obtain⟨m,rfl⟩:=qSx m;obtain⟨n,rfl⟩:=qSx n;rw[q8t.qq,Aa,Ad,Ab,el1,Aa,q44 (by simp;omega),Ac,q85,q86 (by simp;omega) (by simp;omega)];simp only[Ae,Aj,qx];rw[AO (by omega)];rfl
 |succ d ih =>
  intro i m pre c hi hm hp hc;obtain⟨m,rfl⟩:=qSx m;have hia:i<a.length:=by omega
  have hx:=ha a[i] (Ah hia);have hcl:=qay hx hk hc;have hxk:a[i]*k<=999999999*999999999:=Cw (by omega) (by omega)
  rw[q8t.qq,Aa,Af,Ac,q9 hia,Ae,q61 hia,qi,Ae,qaz,q2m,el1,Aa,q44 (by simp;omega),Ac,tmod9,q85,tdiv9,q3w,qd (by omega),
   ih (i+1) m (pre++[(c+a[i]*k)%1000000000]) ((c+a[i]*k) / 1000000000) (by omega) (by omega) (by simp[hp]) (BN hcl),q1t hia,Ap]
  rfl
theorem small_run{n x k c:Nat}(hk:k<1000000000)(hc:c<1000000000)(hx:(dg 1000000000 x).length<=1099511627775)(hn:(dg 1000000000 x).length+3<=n):evF En (n+1) 223 [wL x,.int .i64 (k:Int),.int .i64 (c:Int)]=some [wL (x*k+c)]:=by
 rw[qno,el0];have:=qnn (n:=n) (q10 b9_2 x) hk hx hn (l1:=[]) (dg 1000000000 x).length 0 n [] c (by omega) (by omega) rfl hc;refine this.trans ?_;rw[As,Au,<- q31 b9_2 (qeo _ k c (q10 b9_2 x) hk hc),qep,q1x b9_2]
theorem qi6{n x k:Nat}(hk:k<1000000000:=by omega)(hx:(dg 1000000000 x).length<=1099511627775:=by omega)(hn:(dg 1000000000 x).length+3<=n:=by omega):evF En (n+1) 223 [wL x,.int .i64 (k:Int),.int .i64 0]=some [wL (x*k)]:=by
 have:=small_run (n:=n) (x:=x) (k:=k) (c:=0) hk (by omega) hx hn;rwa[Ay]at this
def pd(N:Nat)(a:List Nat):List Nat:=a++List.replicate (N-a.length) 0
theorem q87{N:Nat}{a:List Nat}(h:a.length<=N:=by omega):(pd N a).length=N:=by simp[pd];omega
theorem qi7(B k:Nat):vl B (List.replicate k 0)=0:=by
 induction k with
 |zero=>rfl
 |succ k ih=>rw[Cd];simp[vl,ih]
theorem q88(B N:Nat)(a:List Nat):vl B (pd N a)=vl B a:=by rw[pd,q62,qi7];simp
theorem q9z{B N:Nat}{a:List Nat}(hB:2<=B)(h:Dg B a):Dg B (pd N a):=h.app λd hd=>by have:=CI hd;omega
theorem qci{N i:Nat}{a:List Nat}(h:i<(pd N a).length):(pd N a)[i]=a.getD i 0:=by
 simp only[pd,List.getElem_append,AD];split
 ·rename_i h';rw[Ag h'];rfl
 ·rename_i h';rw[Di (by omega)];simp
theorem max_nat(a b:Nat):(if(a:Int)<(b:Int)then(b:Int)else(a:Int))=((max a b:Nat):Int):=by
 split <;> omega
theorem wcmp_loop{n:Nat}{a b:List Nat}{N:Nat}(hN:N<=1099511627776)(ha:Dg 1000000000 a)(hb:Dg 1000000000 b)(h1:a.length<=N)(h2:b.length<=N)(hn:1<=n):∀(i m:Nat),i<=N->i<m->(pd N a).drop i=(pd N b).drop i ->
  q8u.l2 n [] m [L64 a,L64 b,.int .i64 ((i:Int)-1)]=some [.int .i64 (cmpN (vl 1000000000 a) (vl 1000000000 b))]:=by
 have la:=q87 h1;have lb:=q87 h2;have da:=q9z (N:=N) b9_2 ha;have db:=q9z (N:=N) b9_2 hb;intro i
 induction i with
 |zero =>
  intro m hi hm he;obtain⟨m,rfl⟩:=qSx m;rw[Au,Au]at he;have:vl 1000000000 a=vl 1000000000 b:=by rw[<- q88 _ N a,he,q88]
  rw[q8u.qt,Ad,Ab,this];simp[cmpN]
 |succ i ih =>
  intro m hi hm he;obtain⟨m,rfl⟩:=qSx m;obtain⟨n,rfl⟩:=qSx n;have e0:(((i+1:Nat):Int)-1)=(i:Int):=by omega
  have hia:i<(pd N a).length:=by omega
  have hib:i<(pd N b).length:=by omega
  rw[q8u.qt,e0,Af,Ac];simp only[qen,Ae,Aj,qi];have ea:=qci hia;have eb:=qci hib;have sa:pd N a=(pd N a).take i++(pd N a)[i]::(pd N a).drop (i+1):=by rw[<- q1t hia,BX]
  have sb:pd N b=(pd N b).take i++(pd N b)[i]::(pd N b).drop (i+1):=by rw[<- q1t hib,BX]
  have ta:Dg 1000000000 ((pd N a).take i):=λd hd=>da d (CJ hd);have tb:Dg 1000000000 ((pd N b).take i):=λd hd=>db d (CJ hd);have tl:((pd N a).take i).length=((pd N b).take i).length:=by rw[BF,BF,la,lb]
  rw[<- ea,<- eb];by_cases hlt:(pd N a)[i]<(pd N b)[i]
  ·rw[Af,Ac];have:=qcj (b:=1000000000) (by omega) ta tb tl hlt ((pd N b).drop (i+1));rw[<- sb,<- he,<- sa,q88,q88]at this;unfold cmpN;rw[if_pos this]
  ·rw[Ad,Ab];by_cases hgt:(pd N b)[i]<(pd N a)[i]
   ·rw[Af,Ac];have:=qcj (b:=1000000000) (by omega) tb ta tl.symm hgt ((pd N a).drop (i+1));rw[<- sa,he,<- sb,q88,q88]at this;unfold cmpN;rw[if_neg (by omega),if_pos this]
   ·rw[Ad,Ab,show w6 ((i:Int)-1)=(i:Int)-1 from qo];have heq:(pd N a)[i]=(pd N b)[i]:=by omega
    exact ih m (by omega) (by omega) (by rw[q1t hia,q1t hib,heq,he])
theorem qeq{n x y:Nat}(hx:(dg 1000000000 x).length<=1099511627776:=by omega)(hy:(dg 1000000000 y).length<=1099511627776:=by omega)(hn:(dg 1000000000 x).length+(dg 1000000000 y).length+1<=n:=by omega):evF En (n+1) 164 [wL x,wL y]=some [.int .i64 (cmpN x y)]:=by
 rw[qnp,Aa,Aa,max_nat,show ∀k:Nat,k<=1099511627776->w6 ((k:Int)-1)=(k:Int)-1 from λk hk=>qo]
 ·have:=wcmp_loop (n:=n) (N:=max (dg 1000000000 x).length (dg 1000000000 y).length) (by omega) (q10 b9_2 x) (q10 b9_2 y) (by omega) (by omega) (by omega) (max (dg 1000000000 x).length (dg 1000000000 y).length) n (Ak _) (by omega)
   (by rw[AO (by rw[q87];exact Ak _),AO (by rw[q87];exact Ak _)])
  rw[q1x b9_2,q1x b9_2]at this;exact this
 ·omega
theorem wadd_loop{n:Nat}{a b:List Nat}{N:Nat}(hN:N<=1099511627775)(hNe:N=max a.length b.length)(ha:Dg 1000000000 a)(hb:Dg 1000000000 b)(hn:N+3<=n){l2:List FV}:∀(d i m:Nat) (pre:List Nat) (c:Nat),i+d=N->d<m->pre.length=i->c<=1 ->
  q7a.l4 n [] m [L64 a,L64 b,.list 1 l2,L64 pre,.int .i64 (c:Int),.int .i64 (i:Int)]=some [L64 (tz (pre++addL 1000000000 ((pd N a).drop i) ((pd N b).drop i) c))]:=by
 have la:=q87 (N:=N) (a:=a) (by omega);have lb:=q87 (N:=N) (a:=b) (by omega);have da:=q9z (N:=N) b9_2 ha;have db:=q9z (N:=N) b9_2 hb;obtain⟨n,rfl⟩:=qSx n;intro d
 induction d with
 |zero =>
  intro i m pre c hi hm hp hc;obtain⟨m,rfl⟩:=qSx m;rw[q7a.q13];simp only[Aa];rw[Ad,Ab,Ad,Ab,el1,q44 (by simp;omega),Ac,q85,q86 (by simp;omega) (by simp;omega)];simp only[Ae,Aj,qx];rw[AO (by omega)];rfl
 |succ d ih =>
  intro i m pre c hi hm hp hc;obtain⟨m,rfl⟩:=qSx m;have hia:i<(pd N a).length:=by omega
  have hib:i<(pd N b).length:=by omega
  have ea:=qci hia;have eb:=qci hib;have hx:=da _ (Ah hia);have hy:=db _ (Ah hib);have rest:q7a.l4 (n+1) [] m [L64 a,L64 b,.list 1 l2,L64 (pre++[(c+(pd N a)[i]+(pd N b)[i])%1000000000]),.int .i64 (((c+(pd N a)[i]+(pd N b)[i]) / 1000000000:Nat):Int),.int .i64 ((i+1:Nat):Int)]=some [L64 (tz (pre++addL 1000000000 ((pd N a).drop i) ((pd N b).drop i) c))]:=by
   rw[ih (i+1) m (pre++[(c+(pd N a)[i]+(pd N b)[i])%1000000000]) ((c+(pd N a)[i]+(pd N b)[i]) / 1000000000) (by omega) (by omega) (by simp[hp]) (by
    have:=BN (m:=c+(pd N a)[i]+(pd N b)[i]) (n:=1000000000) (k:=2) (by omega)
    omega),q1t hia,q1t hib,Ap]
   rfl
  rw[q7a.q13];simp only[qen,Ae,Aj,qi];rw[<- ea,<- eb,q2m (show c+(pd N a)[i]<9223372036854775808 by omega),q2m (show c+(pd N a)[i]+(pd N b)[i]<9223372036854775808 by omega),tmod9,tdiv9,q3w,el1,Aa,Aa,Aa,q44 (by simp;omega),q85,qd (by omega)];simp only[Ac];by_cases h1:i<a.length
  ·rw[Af,Ac];exact rest
  ·rw[Ad,Ab,Af,Ac];exact rest
theorem wadd_ev{x y:Nat}(hx:(dg 1000000000 x).length<=1099511627775)(hy:(dg 1000000000 y).length<=1099511627775):Ev En 163 [wL x,wL y] [wL (x+y)]:=by
 refine Ev.of ((dg 1000000000 x).length+(dg 1000000000 y).length+3) λn hn=>?_;rw[qnq,el0];have:=wadd_loop (n:=n) (N:=max (dg 1000000000 x).length (dg 1000000000 y).length) (by omega) rfl (q10 b9_2 x) (q10 b9_2 y) (by omega) (l2:=[]) (max (dg 1000000000 x).length (dg 1000000000 y).length) 0 n [] 0 (by omega) (by omega) rfl (by omega);refine this.trans ?_;rw[As,Au,Au,<- q31 b9_2 (qer b9_2 _ _ 0 (q9z b9_2 (q10 b9_2 x)) (q9z b9_2 (q10 b9_2 y)) (by omega)),qes _ _ _ (by rw[q87,q87];exact Ak _),q88,q88,q1x b9_2,q1x b9_2,Ay]
theorem qi8(b:List Nat)(i:Nat):(b.drop i).headD 0=b.getD i 0:=by
 rw[List.headD_eq_head?_getD,List.head?_drop,AD]
theorem wsub_loop{n:Nat}{a b:List Nat}(ha:Dg 1000000000 a)(hb:Dg 1000000000 b)(hl:a.length<=1099511627775)(hn:a.length+3<=n){l2:List FV}:∀(d i m:Nat) (pre:List Nat) (c:Nat),i+d=a.length->d<m->pre.length=i->c<=1 ->
  q89.l6 n [] m [L64 a,L64 b,.list 1 l2,L64 pre,.int .i64 (c:Int),.int .i64 (i:Int)]=some [L64 (tz (pre++(subL 1000000000 (a.drop i) (b.drop i) c).1)),.int .i64 0]:=by
 obtain⟨n,rfl⟩:=qSx n;intro d
 induction d with
 |zero =>
  intro i m pre c hi hm hp hc;obtain⟨m,rfl⟩:=qSx m;rw[q89.q2n,Aa,Ad,Ab,q86];simp only[Ae,Aj,qx];rw[AO (by omega),subL,AN]
 |succ d ih =>
  intro i m pre c hi hm hp hc;obtain⟨m,rfl⟩:=qSx m;have hia:i<a.length:=by omega
  have hx:=ha a[i] (Ah hia);have hy:b.getD i 0<1000000000:=by
   rw[<- qi8];exact Dg.headD (by omega) λd hd=>hb d (Cy hd)
  rw[q89.q2n];simp only[Aa,q9 hia,q61 hia,qen,Ae,Aj,qi];rw[Af,Ac,qo (x:=((a[i]:Nat):Int)-_) (by omega) (by omega),qo (x:=((a[i]:Nat):Int)-_-_) (by omega) (by omega),qd (by omega)];rw[q1t hia,subL,qi8,List.tail_drop];by_cases hlt:a[i]<b.getD i 0+c
  ·have e:(a[i]:Int)-(b.getD i 0:Nat)-c+1000000000=((1000000000+a[i]-b.getD i 0-c:Nat):Int):=by omega
   rw[Af,Ac,e,q3w,el1,q44 (by simp;omega),Ac,q85,if_pos hlt];have:=ih (i+1) m (pre++[1000000000+a[i]-b.getD i 0-c]) 1 (by omega) (by omega) (by simp[hp]) (by omega);refine this.trans ?_;rw[AL (show 1000000000+a[i]-b.getD i 0-c<1000000000 by omega),Ap];rfl
  ·have e:(a[i]:Int)-(b.getD i 0:Nat)-c=((a[i]-b.getD i 0-c:Nat):Int):=by omega
   rw[Ad,Ab,e,el1,q44 (by simp;omega),Ac,q85,if_neg hlt];have:=ih (i+1) m (pre++[a[i]-b.getD i 0-c]) 0 (by omega) (by omega) (by simp[hp]) (by omega);refine this.trans ?_;rw[show(1000000000+a[i]-b.getD i 0-c)%1000000000=a[i]-b.getD i 0-c by omega,Ap];rfl
theorem qet{n x y:Nat}(hyx:y<=x:=by omega)(hx:(dg 1000000000 x).length<=1099511627775:=by omega)(hn:(dg 1000000000 x).length*2+4<=n:=by omega):evF En (n+1) 165 [wL x,wL y]=some [wL (x-y),.int .i64 0]:=by
 have hlen:=qem hyx;obtain⟨n,rfl⟩:=qSx n;rw[qnr,qeq];simp only[Ae,Aj,qi];rw[Ad (by unfold cmpN;rw[if_neg (by omega)];split <;> omega),Ab,el0];have:=wsub_loop (n:=n+1) (q10 b9_2 x) (q10 b9_2 y) hx (by omega) (l2:=[]) (dg 1000000000 x).length 0 (n+1) [] 0 (by omega) (by omega) rfl (by omega);refine this.trans ?_;rw[As,Au,Au];obtain⟨g1,g2,g3,g4⟩:=qeu b9_2 (dg 1000000000 x) (dg 1000000000 y) 0 (q10 b9_2 x) (q10 b9_2 y) (by omega) hlen;rw[q1x b9_2,q1x b9_2]at g1;have hv:=q4e (by omega) g2;rw[g3]at hv;have:(subL 1000000000 (dg 1000000000 x) (dg 1000000000 y) 0).2=0:=by
  rcases Dj 0 (subL 1000000000 (dg 1000000000 x) (dg 1000000000 y) 0).2 with q | q
  ·have e:(subL 1000000000 (dg 1000000000 x) (dg 1000000000 y) 0).2=1:=by omega
   rw[e]at g1;omega
  ·omega
 rw[this]at g1;rw[<- q31 b9_2 g2];have e:vl 1000000000 (subL 1000000000 (dg 1000000000 x) (dg 1000000000 y) 0).1=x-y:=by omega
 rw[e]
theorem wmul_row{n m0:Nat}{a b:List Nat}(hb:Dg 1000000000 b)(hl:a.length+b.length<=1099511627776){l1:List FV}{x i:Nat}(hx:x<1000000000)(hia:i<a.length)(hai:a[i]=x):∀(e:List Nat) (k m:Nat) (pre acc:List Nat) (c:Nat),b.drop k=e->k+e.length=b.length->e.length<m->pre.length=i+k->e.length<acc.length->Dg 1000000000 acc->c<1000000000 ->
  q3m.l9 n [m0] m [L64 a,L64 b,.list 1 l1,L64 (pre++acc),.int .i64 (i:Int),.int .i64 (c:Int),.int .i64 (k:Int)] =
   q3m.l5 n [] m0 [L64 a,L64 b,.list 1 l1,L64 (pre++maRow 1000000000 acc e x c),.int .i64 ((i+1:Nat):Int)]:=by
 intro e
 induction e with
 |nil =>
  intro k m pre acc c hk hke hm hp hacc hd hc;obtain⟨m,rfl⟩:=qSx m;simp only[Be,Ay]at hke;obtain⟨h,t,rfl⟩:∃h t,acc=h::t:=by
   cases acc with
   |nil=>simp at hacc
   |cons h t=>exact⟨h,t,rfl⟩
  have hlt:i+b.length<(pre++h::t).length:=by simp;omega
  rw[q3m.q3n,Aa,Ad,Ab,q2m,Aa,q9 hlt,Ae,set64,qd (by omega)];rfl
 |cons y e ih =>
  intro k m pre acc c hk hke hm hp hacc hd hc;obtain⟨m,rfl⟩:=qSx m;obtain⟨h,t,rfl⟩:∃h t,acc=h::t:=by
   cases acc with
   |nil=>simp at hacc
   |cons h t=>exact⟨h,t,rfl⟩
  simp only[Aq]at hke hm hacc;have hkb:k<b.length:=by omega
  have hy:b[k]=y/\b.drop (k+1)=e:=by
   rw[q1t hkb]at hk;cases hk;exact⟨rfl,rfl⟩
  have hyl:y<1000000000:=by rw[<- hy.1];exact hb _ (Ah hkb)
  obtain⟨hh,ht⟩:=hd.tail;have hlt:i+k<(pre++h::t).length:=by simp;omega
  have hxy:x*y<=999999999*999999999:=Cw (by omega) (by omega);rw[q3m.q3n,q2m];simp only[Aa,q9 hlt,mid64 (show pre.length=i+k by omega),q9 hia,q61 hia,q9 hkb,q61 hkb,Ae,qi,hy.1,hai];rw[Af,Ac,qaz,q2m,q2m,tmod9,tdiv9,q3w,set64,qd (by omega),Bl c h];have:=ih (k+1) m (pre++[(c+(h+x*y))%1000000000]) t ((c+(h+x*y)) / 1000000000) hy.2 (by omega) (by omega) (by simp;omega) (by omega) ht (BN (by omega));rw[Ap]at this;refine this.trans ?_;simp only[maRow,Ap];rfl
theorem qns{n:Nat}{a b:List Nat}(ha:Dg 1000000000 a)(hb:Dg 1000000000 b)(hl:a.length+b.length<=1099511627776)(hn:a.length+b.length+3<=n){l1:List FV}:∀(e:List Nat) (i m:Nat) (pre w:List Nat),a.drop i=e->i+e.length=a.length->e.length<m->pre.length=i->w.length=b.length->Dg 1000000000 w ->
  q3m.l5 n [] m [L64 a,L64 b,.list 1 l1,L64 (pre++(w++List.replicate e.length 0)),.int .i64 (i:Int)]=some [L64 (tz (pre++mulO 1000000000 e (w++List.replicate e.length 0) b))]:=by
 intro e
 induction e with
 |nil =>
  intro i m pre w hi hie hm hp hw hd;obtain⟨m,rfl⟩:=qSx m;obtain⟨n,rfl⟩:=qSx n;simp only[Be,Ay]at hie;rw[q3m.q1h,Aa,Ad,Ab,q86 (by simp;omega) (by simp;omega)];simp only[Ae,Aj,qx,mulO]
 |cons x e ih =>
  intro i m pre w hi hie hm hp hw hd;obtain⟨m,rfl⟩:=qSx m;simp only[Aq]at hie hm;have hia:i<a.length:=by omega
  have hx:a[i]=x/\a.drop (i+1)=e:=by
   rw[q1t hia]at hi;cases hi;exact⟨rfl,rfl⟩
  have hxl:x<1000000000:=by rw[<- hx.1];exact ha _ (Ah hia)
  rw[q3m.q1h,Aa,Af,Ac];have hrow:=wmul_row (n:=n) (m0:=m) (a:=a) hb hl (l1:=l1) hxl hia hx.1 b 0 n pre (w++List.replicate (e.length+1) 0) 0 rfl (by omega) (by omega) (by omega) (by simp;omega) (hd.app (λd h=>by have:=CI h;omega)) (by omega);simp only[Aq];rw[show((0:Nat):Int)=0 from rfl]at hrow;rw[hrow];obtain⟨w',h1,h2,h3,h4⟩:=qck b9_2 w b (List.replicate e.length 0) x 0 hw hd hb hxl (by omega);rw[Cd,h1];cases w' with
  |nil=>simp at h2
  |cons d t =>
   obtain⟨hd1,ht⟩:=h3.tail;have:=ih (i+1) m (pre++[d]) t hx.2 (by omega) (by omega) (by simp[hp]) (by simpa using h2) ht;rw[Ap]at this;refine this.trans ?_;simp only[mulO,h1,Al,Ap];rfl
theorem wmul_ev{x y:Nat}(h:(dg 1000000000 x).length+(dg 1000000000 y).length<=1099511627775):Ev En 103 [wL x,wL y] [wL (x*y)]:=by
 refine Ev.of ((dg 1000000000 x).length+(dg 1000000000 y).length+3) λn hn=>?_;rw[qnt,Aa,Aa];by_cases hx0:x=0
 ·subst hx0;rw[Dk];simp only[wL,q17];rfl
 ·by_cases hy0:y=0
  ·subst hy0;rw[Ci];have:=q79 hx0;rw[show(((dg 1000000000 x).length:Int)==0)=false from Bq.2 (by omega),Ab];simp only[wL,q17];rfl
  ·have p1:=q79 hx0;have p2:=q79 hy0;rw[show(((dg 1000000000 x).length:Int)==0)=false from Bq.2 (by omega),Ab,show(((dg 1000000000 y).length:Int)==0)=false from Bq.2 (by omega),Ab,q2m,mk8,Ae,q1s (Ak _),Ae,rep64];have:=qns (n:=n) (q10 b9_2 x) (q10 b9_2 y) (by omega) (by omega) (l1:=[]) (dg 1000000000 x) 0 n [] (List.replicate (dg 1000000000 y).length 0) rfl (by omega) (by omega) rfl (by simp) (λd h=>by have:=CI h;omega);rw[As,DS,As,Bn (dg 1000000000 y).length,show((0:Nat):Int)=0 from rfl]at this;refine this.trans ?_;obtain⟨g1,g2,_⟩:=qev b9_2 (dg 1000000000 x) (List.replicate (dg 1000000000 y).length 0) (dg 1000000000 y) (by simp) (λd h=>by have:=CI h;omega) (q10 b9_2 y) (q10 b9_2 x);rw[DS,Bn (dg 1000000000 y).length]at g1 g2;rw[<- q31 b9_2 g2,g1,qi7,q1x b9_2,q1x b9_2,AG]
theorem qnu{n:Nat}{a:List Nat}(ha:Dg 1000000000 a)(hl:a.length<=1099511627776)(hv:vl 1000000000 a<18446744073709551616):∀(i m:Nat),i<=a.length->i<m ->
  q8v.l3 n [] m [L64 a,.int .u64 ((vl 1000000000 (a.drop i):Nat):Int),.int .i64 ((i:Int)-1)]=some [.int .u64 ((vl 1000000000 a:Nat):Int)]:=by
 intro i
 induction i with
 |zero =>
  intro m hi hm;obtain⟨m,rfl⟩:=qSx m;rw[q8v.qq,Ad,Ab,Au]
 |succ i ih =>
  intro m hi hm;obtain⟨m,rfl⟩:=qSx m;have hia:i<a.length:=by omega
  have e0:(((i+1:Nat):Int)-1)=(i:Int):=by omega
  have hs:vl 1000000000 (a.drop i)<=vl 1000000000 a:=by
   have:=q62 1000000000 (a.take i) (a.drop i);rw[BX]at this;have h1:1<=1000000000^(a.take i).length:=Nat.one_le_pow _ _ (by omega);have h2:=AT (vl 1000000000 (a.drop i)) h1;omega
  have hd:vl 1000000000 (a.drop i)=a[i]+1000000000*vl 1000000000 (a.drop (i+1)):=by rw[q1t hia];rfl
  have hx:=ha _ (Ah hia);rw[q8v.qq,e0,Af,Ac,Aa,q9 hia,Ae,q61 hia,qi,Ae,q1a,show(1000000000:Int)=((1000000000:Nat):Int) from rfl,qb0,q7b,show w6 ((i:Int)-1)=(i:Int)-1 from qo];have:=ih m (by omega) (by omega);rw[hd]at this;rw[AB,Bn];exact this
theorem qi9{n x:Nat}(hx:x<18446744073709551616)(hn:(dg 1000000000 x).length<n:=by omega):evF En (n+1) 185 [wL x]=some [.int .u64 (x:Int)]:=by
 have hl:(dg 1000000000 x).length<=3:=q59 b9_2 (by omega);rw[qnv,Aa,show w6 (((dg 1000000000 x).length:Int)-1)=((dg 1000000000 x).length:Int)-1 from qo];have:=qnu (n:=n) (q10 b9_2 x) (by omega) (by rw[q1x b9_2];exact hx) (dg 1000000000 x).length n (Ak _) (by omega);rw[AO (Ak _),q1x b9_2]at this;exact this
theorem wgcd_loop{n:Nat}:∀(y x m:Nat),y<m->qa0.l1 n [] m [.int .u64 (x:Int),.int .u64 (y:Int)]=some [.int .u64 ((Nat.gcd x y:Nat):Int)]:=by
 intro y
 induction y using Nat.strongRecOn with
 |_ y ih =>
  intro x m hm;obtain⟨m,rfl⟩:=qSx m;rw[qa0.q2v];rcases Bt y with h0 | h0
  ·subst h0;rw[Ad,Ab,DT]
  ·have hlt:=AM x h0;rw[Af,Ac,Ad,Ab,show Int.tmod (x:Int) (y:Int)=((x%y:Nat):Int) from rfl,ih (x%y) hlt y m (by omega),Cz y,<- DU,Cz]
theorem wone_loop{n:Nat}{a:List Nat}{k:Nat}(ha:Dg 1000000000 a)(hk0:0<k)(hk:k<1000000000)(hl:a.length<=1099511627776)(hn:a.length+k+6<=n){l1 l2:List FV}:∀(i m:Nat),i<=a.length->i<m ->
  q8w.l4 n [] m [L64 a,.list 1 l1,.list 1 l2,.int .i64 (k:Int),L64 (List.replicate i 0++(divL 1000000000 k (a.drop i)).2),.int .i64 (((divL 1000000000 k (a.drop i)).1:Nat):Int),.int .i64 ((i:Int)-1)] =
   some [L64 (tz (divL 1000000000 k a).2),wL (divL 1000000000 k a).1]:=by
 intro i
 induction i with
 |zero =>
  intro m hi hm;obtain⟨m,rfl⟩:=qSx m;obtain⟨n,rfl⟩:=qSx n;obtain⟨g1,g2,g3,g4⟩:=q63 hk0 a ha;have hof:evF En (n+1) 102 [.int .u64 (((divL 1000000000 k a).1:Nat):Int)]=some [wL (divL 1000000000 k a).1]:=by
   rw[qi5,el0];have hl:(dg 1000000000 (divL 1000000000 k a).1).length<=3:=q59 b9_2 (by omega);have:=qi4 (n:=n) (l0:=[]) (divL 1000000000 k a).1 n [] (by omega) (by omega) (by simp;omega) (by simp;omega);exact this
  rw[q8w.q13,Ad,Ab,Au,Co,As,q86,q1a,hof];simp only[Ae,Aj,qx]
 |succ i ih =>
  intro m hi hm;obtain⟨m,rfl⟩:=qSx m;have hia:i<a.length:=by omega
  have hx:=ha a[i] (Ah hia);have hda:Dg 1000000000 (a.drop (i+1)):=λd hd=>ha d (Cy hd);obtain⟨g1,g2,g3,g4⟩:=q63 hk0 (a.drop (i+1)) hda;have ih:=ih m (by omega) (by omega);rw[q1t hia]at ih;simp only[divL]at ih;generalize (divL 1000000000 k (a.drop (i+1))).1=r at g1 g2 ih ⊢;generalize (divL 1000000000 k (a.drop (i+1))).2=q at g1 g3 g4 ih ⊢;have hq:q.length=a.length-(i+1):=by rw[g4,Dy]
  have hlen:(List.replicate (i+1) 0++q).length=a.length:=by simp[hq];omega
  have e0:(((i+1:Nat):Int)-1)=(i:Int):=by omega
  have e2:Int.tdiv ((r*1000000000+a[i]:Nat):Int) (k:Int)=(((r*1000000000+a[i]) / k:Nat):Int):=rfl;have e3:Int.tmod ((r*1000000000+a[i]:Nat):Int) (k:Int)=(((r*1000000000+a[i])%k:Nat):Int):=rfl;have hdig:(r*1000000000+a[i]) / k<1000000000:=by
   rw[BO hk0];have:(r+1)*1000000000<=k*1000000000:=AT _ g2;omega
  rw[q8w.q13,e0,Af,Ac,show decide ((k:Int)=0)=false from Ad];simp only[Aa,hlen,q9 hia,Ae,q61 hia,qi,Ab];rw[show(1000000000:Int)=((1000000000:Nat):Int) from rfl,qaz,q2m,e2,e3,q3w];have hset:List.set ((List.replicate (i+1) 0++q).map d64) i (.int .i64 (((r*1000000000+a[i]) / k:Nat):Int))=(List.replicate i 0++((r*1000000000+a[i]) / k)::q).map d64:=by
   have hr:List.replicate (i+1) 0++q=List.replicate i 0++(0::q):=by rw[CA,Ap];rfl
   rw[hr,set64 (by simp)]
  rw[hset,show w6 ((i:Int)-1)=(i:Int)-1 from qo];exact ih
theorem div_key{x k q r:Nat}(hk:0<k)(e:x=k*q+r)(hr:r<k):x / k=q/\x%k=r:=by
 subst e;exact⟨by rw[EK hk,CS hr,Ay],by rw[DV,AL hr]⟩
theorem wone_run{n x k:Nat}(hk0:0<k)(hk:k<1000000000)(hx:(dg 1000000000 x).length<=1099511627776)(hn:(dg 1000000000 x).length+k+6<=n):evF En (n+1) 220 [wL x,.int .i64 (k:Int)]=some [wL (x / k),wL (x%k)]:=by
 rw[qnw,Aa,mk8,Ae,q1s (Ak _),Ae,rep64,show w6 (((dg 1000000000 x).length:Int)-1)=((dg 1000000000 x).length:Int)-1 from qo];have:=wone_loop (n:=n) (q10 b9_2 x) hk0 hk hx hn (l1:=[]) (l2:=[]) (dg 1000000000 x).length n (Ak _) (by omega);rw[AO (Ak _)]at this;simp only[divL,AN]at this;rw[show(((0:Nat):Int))=0 from rfl]at this;rw[this];obtain⟨g1,g2,g3,g4⟩:=q63 hk0 (dg 1000000000 x) (q10 b9_2 x);rw[q1x b9_2]at g1;rw[<- q31 b9_2 g3];obtain⟨h1,h2⟩:=div_key hk0 g1 g2;rw[h1,h2]
theorem qnx{n x d:Nat}(hd:d<1000000000)(hx:(dg 1000000000 x).length<=1099511627775)(hn:(dg 1000000000 x).length+3<=n):evF En (n+1) 221 [wL x,.int .i64 (d:Int)]=some [wL (x*1000000000+d)]:=by
 obtain⟨n,rfl⟩:=qSx n;rw[qny,el1,Aa,q44 (by simp;omega),Ac,show [FV.int .i64 (d:Int)]++(dg 1000000000 x).map d64=(d::dg 1000000000 x).map d64 from rfl,q86 (by simp;omega) (by simp;omega)];simp only[Ae,Aj,qx];have hD:Dg 1000000000 (d::dg 1000000000 x):=Dg.cons hd (q10 b9_2 x);rw[<- q31 b9_2 hD];have:vl 1000000000 (d::dg 1000000000 x)=x*1000000000+d:=by simp only[vl];rw[q1x b9_2];omega
 rw[this]
theorem qnz{n x y:Nat}(hy0:0<y)(hx:(dg 1000000000 x).length<=549755813000)(hy:(dg 1000000000 y).length<=549755813000)(hn:(dg 1000000000 x).length+(dg 1000000000 y).length+6<=n):∀(k lo hi m:Nat),hi-lo=k->k<m->lo<=x / y->x / y<=hi->hi<=999999999 ->
  q8x.l3 n [] m [wL x,wL y,.int .i64 (lo:Int),.int .i64 (hi:Int)]=some [.int .i64 ((x / y:Nat):Int)]:=by
 obtain⟨n,rfl⟩:=qSx n;intro k
 induction k using Nat.strongRecOn with
 |_ k ih =>
  intro lo hi m hk hm h1 h2 h3;obtain⟨m,rfl⟩:=qSx m;rw[q8x.qq];by_cases hlt:lo<hi
  ·have hmid:Int.tdiv ((lo+hi+1:Nat):Int) 2=(((lo+hi+1) / 2:Nat):Int):=rfl;have hml:(dg 1000000000 (y*((lo+hi+1) / 2))).length<=(dg 1000000000 y).length+1:=by
    apply q59 b9_2;rw[Ax];exact Nat.mul_lt_mul'' (q8y b9_2 y) (by omega)
   rw[Af,Ac,q2m,qd (by omega),hmid,q3w,qi6];simp only[Ae,Aj,qx];rw[qeq];simp only[Ae,Aj,qi];by_cases hle:y*((lo+hi+1) / 2)<=x
   ·have:(lo+hi+1) / 2<=x / y:=by rw[Fu hy0,AB];exact hle
    rw[Af (by unfold cmpN;split <;> (try split) <;> omega),Ac];exact ih (hi-(lo+hi+1) / 2) (by omega) ((lo+hi+1) / 2) hi m rfl (by omega) this h2 h3
   ·have:x / y<(lo+hi+1) / 2:=by rw[BO hy0,AB];omega
    rw[Ad (by unfold cmpN;rw[if_neg (by omega),if_pos (by omega)];omega),Ab,show w6 ((((lo+hi+1) / 2:Nat):Int)-1)=(((lo+hi+1) / 2-1:Nat):Int) by rw[qo];omega];exact ih ((lo+hi+1) / 2-1-lo) (by omega) lo ((lo+hi+1) / 2-1) m rfl (by omega) h1 (by omega) (by omega)
  ·rw[Ad,Ab];have:lo=x / y:=by omega
   rw[this]
theorem times_run{n x y:Nat}(hy0:0<y)(hxy:x / y<1000000000)(hx:(dg 1000000000 x).length<=549755813000)(hy:(dg 1000000000 y).length<=549755813000)(hn:(dg 1000000000 x).length+(dg 1000000000 y).length+1000000006<=n) :
  evF En (n+1) 222 [wL x,wL y]=some [.int .i64 ((x / y:Nat):Int)]:=by
 rw[qo0];exact qnz (n:=n) hy0 hx hy (by omega) 999999999 0 999999999 n rfl (by omega) (BL _) (by omega) (by omega)
theorem wdiv_loop{n:Nat}{a:List Nat}{y:Nat}(ha:Dg 1000000000 a)(hy0:0<y)(hl:a.length<=549755812000)(hyl:(dg 1000000000 y).length<=549755812000)(hn:a.length+(dg 1000000000 y).length*4+1000000026<=n){l2 l3:List FV}:∀(i m:Nat),i<=a.length->i<m ->
  q8z.l9 n [] m [L64 a,wL y,.list 1 l2,.list 1 l3,wL (divL 1000000000 y (a.drop i)).1,L64 (List.replicate i 0++(divL 1000000000 y (a.drop i)).2),.int .i64 ((i:Int)-1)] =
   some [L64 (tz (divL 1000000000 y a).2),wL (divL 1000000000 y a).1,.int .i64 0]:=by
 obtain⟨n,rfl⟩:=qSx n;intro i
 induction i with
 |zero =>
  intro m hi hm;obtain⟨m,rfl⟩:=qSx m;obtain⟨g1,g2,g3,g4⟩:=q63 hy0 a ha;rw[q8z.q3n,Ad,Ab,Au,Co,As,q86];simp only[Ae,Aj,qx]
 |succ i ih =>
  intro m hi hm;obtain⟨m,rfl⟩:=qSx m;have hia:i<a.length:=by omega
  have hx:=ha a[i] (Ah hia);have hda:Dg 1000000000 (a.drop (i+1)):=λd hd=>ha d (Cy hd);obtain⟨g1,g2,g3,g4⟩:=q63 hy0 (a.drop (i+1)) hda;have ih:=ih m (by omega) (by omega);rw[q1t hia]at ih;simp only[divL]at ih;generalize (divL 1000000000 y (a.drop (i+1))).1=r at g1 g2 ih ⊢;generalize (divL 1000000000 y (a.drop (i+1))).2=q at g1 g3 g4 ih ⊢;have hq:q.length=a.length-(i+1):=by rw[g4,Dy]
  have hlen:(List.replicate (i+1) 0++q).length=a.length:=by simp[hq];omega
  have e0:(((i+1:Nat):Int)-1)=(i:Int):=by omega
  have hr1:=qem (CT g2);have hr2:(dg 1000000000 (r*1000000000+a[i])).length<=(dg 1000000000 y).length+1:=by
   apply q59 b9_2;have h1:=q8y b9_2 y;have:(r+1)*1000000000<=1000000000^(dg 1000000000 y).length*1000000000:=AT _ (by omega);rw[Ax];omega
  have hdig:(r*1000000000+a[i]) / y<1000000000:=by
   rw[BO hy0];have:(r+1)*1000000000<=y*1000000000:=AT _ g2;omega
  have hset:List.set ((List.replicate (i+1) 0++q).map d64) i (.int .i64 (((r*1000000000+a[i]) / y:Nat):Int))=(List.replicate i 0++((r*1000000000+a[i]) / y)::q).map d64:=by
   have hr:List.replicate (i+1) 0++q=List.replicate i 0++(0::q):=by rw[CA,Ap];rfl
   rw[hr,set64 (by simp)]
  have hlen2:(List.replicate i 0++((r*1000000000+a[i]) / y)::q).length=a.length:=by simp[hq];omega
  have hml:y*((r*1000000000+a[i]) / y)<=r*1000000000+a[i]:=Nat.mul_div_le _ _
  rw[q8z.q3n,e0,Af,Ac,Aa,q9 hia,Ae,q61 hia,qi,Ae,qnx (by omega) (by omega) (by omega),Ae,Aj,qx,Ae,times_run hy0 hdig (by omega) (by omega) (by omega),Ae,Aj,qi,Ae,
   Aa,hlen,q9 hia,Ae,hset,Aa,hlen2,q9 hia,Ae,mid64 (by simp),qi,Ae,qi6,Ae,Aj,qx,Ae,
   qet hml,Ae,Aj,qx,Ae,AP,Aj,qi,Ae,show w6 ((i:Int)-1)=(i:Int)-1 from qo]
  have hmod:r*1000000000+a[i]-y*((r*1000000000+a[i]) / y)=(r*1000000000+a[i])%y:=by
   have:=Dz (r*1000000000+a[i]) y;omega
  rw[hmod];exact ih
theorem qia{x y:Nat}(hy0:y≠0)(hx:(dg 1000000000 x).length<=549755812000)(hyl:(dg 1000000000 y).length<=549755812000):Ev En 186 [wL x,wL y] [wL (x / y),wL (x%y),.int .i64 0]:=by
 have p:=q79 hy0;refine Ev.of ((dg 1000000000 x).length+(dg 1000000000 y).length*4+y+1000000030) λn hn=>?_;obtain⟨n,rfl⟩:=qSx n;rw[qo1,Aa,Aa,show(((dg 1000000000 y).length:Int)==0)=false from Bq.2 (by omega),Ab];by_cases h1:(dg 1000000000 y).length=1
 ·have hy9:y<1000000000:=by have:=q8y b9_2 y;rw[h1]at this;simpa using this
  have e:dg 1000000000 y=[y]:=by
   rw[q3c b9_2 hy0,AL hy9,CS hy9,q17]
  rw[h1,show(((1:Nat):Int)==1)=true from rfl,Ac,e];rw[show ix (0:Int) 1=some 0 from rfl,Ae,show at' ([y].map d64) 0 0=some (.int .i64 (y:Int)) from rfl,qi,Ae,wone_run (by omega) hy9 (by omega) (by omega)];simp only[Ae,Aj,AP,qx]
 ·rw[show(((dg 1000000000 y).length:Int)==1)=false from Bq.2 (by omega),Ab,mk8,Ae,q1s (Ak _),Ae,rep64,show w6 (((dg 1000000000 x).length:Int)-1)=((dg 1000000000 x).length:Int)-1 from qo];have:=wdiv_loop (n:=n+1) (q10 b9_2 x) (show 0<y by omega) hx hyl (by omega) (l2:=[]) (l3:=[]) (dg 1000000000 x).length (n+1) (Ak _) (by omega);rw[AO (Ak _)]at this;simp only[divL,AN,wL,q17]at this;refine BQ this ?_;obtain⟨g1,g2,g3,g4⟩:=q63 (show 0<y by omega) (dg 1000000000 x) (q10 b9_2 x);rw[q1x b9_2]at g1;rw[<- q31 b9_2 g3];obtain⟨h1,h2⟩:=div_key (show 0<y by omega) g1 g2;rw[h1,h2]
theorem w_small{x:Nat}(h:(dg 1000000000 x).length<=2):x<18446744073709551616:=by
 have h1:=q8y b9_2 x;have h2:1000000000^(dg 1000000000 x).length<=1000000000^2:=AW (by omega) h;omega
theorem wgcdl:∀(y x:Nat),(dg 1000000000 x).length<=549755812000->(dg 1000000000 y).length<=549755812000->∃n0,∀n m l2,n0<=n->n0<=m ->
  q64.l1 n [] m [wL x,wL y,.list 1 l2]=some [wL (Nat.gcd x y)]:=by
 intro y
 induction y using Nat.strongRecOn with
 |_ y ih =>
  intro x hx hy;rcases Bt y with h0 | h0
  ·subst h0;refine⟨1,λn m l2 hn hm=>?_⟩;obtain⟨m,rfl⟩:=qSx m;rw[q64.q2v,Aa,q17,Ad (by simp),Ab,DT]
  ·have hlt:=AM x h0;have hl0:=q79 (show y≠0 by omega);by_cases hw:(dg 1000000000 x).length<=2/\(dg 1000000000 y).length<=2
   ·have sx:=w_small hw.1;have sy:=w_small hw.2;have hg:Nat.gcd x y<18446744073709551616:=BI (Nat.gcd_le_right x h0) sy;obtain⟨n3,h3⟩:=wof_ev hg;refine⟨n3+y+8,λn m l2 hn hm=>?_⟩;obtain⟨m,rfl⟩:=qSx m;obtain⟨n,rfl⟩:=qSx n
    rw[q64.q2v,Aa,Aa,Af,Ac,Af,Ac,Af,Ac,qi9 sx,Ae,Aj,qi,Ae,
     qi9 sy,Ae,Aj,qi,Ae,qo2,wgcd_loop y x n (by omega),Ae,Aj,qi,Ae,h3 _ (by omega),Ae,Aj,qx,Ae]
   ·obtain⟨n1,h1⟩:=qia (x:=x) (y:=y) (by omega) hx hy;have hm1:=qem (CT hlt);obtain⟨n2,h2⟩:=ih (x%y) hlt y hy (by omega);refine⟨n1+n2+1,λn m l2 hn hm=>?_⟩;obtain⟨m,rfl⟩:=qSx m;have key:∀l2,(evF En n 186 [wL x,wL y]).bind (λr4=>(asLst 1 (r4[0]?)).bind λv5=>(asLst 1 (r4[1]?)).bind λv6=>(asInt .i64 (r4[2]?)).bind λn7=>q64.l1 n [] m [wL y,.list 1 v6,.list 1 l2])=some [wL (Nat.gcd x y)]:=λl2=>by
     rw[h1 _ (by omega),Ae,Aj,qx,Ae,AP,Aj,qx,Ae,AP,AP,Aj,qi,Ae,h2 n m l2 (by omega) (by omega),Cz y,<- DU,Cz]
    rw[q64.q2v,Aa,Aa,Af,Ac];by_cases ha:(dg 1000000000 x).length<=2
    ·rw[Af,Ac,Ad,Ab];exact key l2
    ·rw[Ad,Ab];exact key l2
theorem wgcd_ev{x y:Nat}(hx:(dg 1000000000 x).length<=549755812000)(hy:(dg 1000000000 y).length<=549755812000):Ev En 135 [wL x,wL y] [wL (Nat.gcd x y)]:=by
 obtain⟨n0,h⟩:=wgcdl y x hx hy;refine Ev.of n0 λn hn=>?_;rw[qo3];exact h n n [] hn hn
end
section
abbrev d8(c:UInt8):FV:=.int .u8 (c.toNat:Int)
abbrev L8(l:List UInt8):FV:=.list 1 (l.map d8)
theorem app8(l:List UInt8)(c:UInt8):l.map d8++[FV.int .u8 (c.toNat:Int)]=(l++[c]).map d8:=by simp
theorem d8_at{l:List UInt8}{i:Nat}(h:i<l.length):at' (l.map d8) i 0=some (.int .u8 ((l[i]).toNat:Int)):=by rw[q26,Ag h];rfl
theorem qt8(l:List UInt8):bytesO (l.map d8)=some (txt l):=by
 unfold bytesO;rw[if_pos (by simp)];simp only[Ct,Function.comp_def,Bh,UInt8.ofNat_toNat,List.map_id'];rfl
theorem qle{d:Nat}(h:d<10):IntKind.wrap .u8 (w6 (48+(d:Int)))=((chD d).toNat:Int):=by
 rw[qe2 h,qo];unfold IntKind.wrap;simp[IntKind.bits,IntKind.signed];omega
theorem tmod10(x:Nat):Int.tmod (x:Int) 10=((x%10:Nat):Int):=rfl
theorem tdiv10(x:Nat):Int.tdiv (x:Int) 10=((x / 10:Nat):Int):=rfl
theorem t9_mid{n m0 i:Nat}{a:List FV}(hi:i+1<a.length)(ha:a.length<=1099511627776):∀(j k m x:Nat) (pre:List UInt8),k+j=9->j<m->x<1000000000->pre.length+j<=100000000000000 ->
  q21.l9 n [m0] m [.list 1 a,L8 pre,.int .i64 (i:Int),.int .i64 (x:Int),.int .i64 (k:Int)]=q21.l5 n [] m0 [.list 1 a,L8 (pre++(dK j x).map chD),.int .i64 ((i+1:Nat):Int)]:=by
 intro j
 induction j with
 |zero =>
  intro k m x pre hk hm hx hp;obtain⟨m,rfl⟩:=qSx m;rw[q21.q3n,Ad,Ab,qd (by omega)];simp[dK]
 |succ j ih =>
  intro k m x pre hk hm hx hp;obtain⟨m,rfl⟩:=qSx m;have hd:x%10<10:=AM _ (by omega);have step:=ih (k+1) m (x / 10) (pre++[chD (x%10)]) (by omega) (by omega) (by omega) (by simp;omega);rw[Ap,BP]at step;rw[q21.q3n,Af,Ac,tmod10,qle hd,el1,Aa,q44 (by simp;omega),qd (show i<9223372036854775807 by omega),Af (show(((i+1:Nat):Int))<(a.length:Int) by omega),app8,tdiv10,q3w,qd (by omega)];simp only[Ac];have:dK (j+1) x=x%10::dK j (x / 10):=rfl;rw[this,AS];cases decide ((x:Int)>0)
  ·rw[Ab];exact step
  ·rw[Ac];exact step
theorem t9_top{n m0 i:Nat}{a:List FV}(hi:i+1=a.length)(ha:a.length<=1099511627776):∀(j k m x:Nat) (pre:List UInt8),k+j=9->j<m->x<10^j->j<=9->pre.length+j<=100000000000000 ->
  q21.l9 n [m0] m [.list 1 a,L8 pre,.int .i64 (i:Int),.int .i64 (x:Int),.int .i64 (k:Int)]=q21.l5 n [] m0 [.list 1 a,L8 (pre++(dg 10 x).map chD),.int .i64 ((i+1:Nat):Int)]:=by
 intro j
 induction j with
 |zero =>
  intro k m x pre hk hm hx hj hp;obtain⟨m,rfl⟩:=qSx m;have:x=0:=by simpa using hx
  subst this;rw[q21.q3n,Ad,Ab,qd (by omega),q17];simp
 |succ j ih =>
  intro k m x pre hk hm hx hj hp;obtain⟨m,rfl⟩:=qSx m;have hd:x%10<10:=AM _ (by omega);have hx9:x<1000000000:=AR hx (Bb (AW (by omega) hj) (by decide));rw[q21.q3n,Af,Ac];by_cases h0:x=0
  ·subst h0;rw[Ad,Ab,qd (show i<9223372036854775807 by omega),Ad,Ab,q17];simp
  ·rw[Af,Ac,tmod10,qle hd,el1,Aa,q44 (by simp;omega),Ac,app8,tdiv10,q3w,qd (by omega)];rw[ih (k+1) m (x / 10) (pre++[chD (x%10)]) (by omega) (by omega) (by rw[BO (by omega),<- Ax];exact hx) (by omega) (by simp;omega),q3c (by omega) h0,Ap];rfl
def tb:List Nat->List UInt8
 |[]=>[]
 |[d]=>(dg 10 d).map chD
 |d::e::r=>(dK 9 d).map chD++tb (e::r)
theorem tb_len:∀(e:List Nat),Dg 1000000000 e->(tb e).length<=9*e.length
 |[],_=>by simp[tb]
 |[d],h=>by
  have:=h d (by simp);have:=q59 (b:=10) (by omega) (n:=d) (k:=9) (by omega);simp[tb];omega
 |d::e::r,h=>by
  have:=tb_len (e::r) h.tail.2;simp only[tb,AZ,Aa,dK_len,Aq]at this ⊢;omega
theorem tb_dg:∀(x:Nat),tb (dg 1000000000 x)=(dg 10 x).map chD:=by
 intro x
 induction x using Nat.strongRecOn with
 |_ x ih =>
  by_cases h0:x=0
  ·subst h0;rw[q17,q17];rfl
  ·by_cases h1:x / 1000000000=0
   ·rw[q3c b9_2 h0,h1,q17];have:x%1000000000=x:=by omega
    rw[this];rfl
   ·have hne:dg 1000000000 (x / 1000000000)≠[]:=λq=>h1 ((q4t b9_2).1 q);have hi:=ih (x / 1000000000) (Cv (by omega) (by omega));rw[q3c b9_2 h0];cases he:dg 1000000000 (x / 1000000000)with
    |nil=>exact absurd he hne
    |cons e r =>
     rw[he]at hi;rw[tb,hi,<- AK,<- dg_dK h1 9 (x%1000000000) (by omega)];congr 2;omega
theorem t5_loop{n:Nat}{a:List Nat}(ha:Dg 1000000000 a)(hl:a.length<=1099511627776)(hn:10<=n):∀(e:List Nat) (i m:Nat) (pre:List UInt8),a.drop i=e->i+e.length=a.length->e.length<m->pre.length+9*e.length<=90000000000000 ->
  q21.l5 n [] m [L64 a,L8 pre,.int .i64 (i:Int)]=q21.l15 n [] n [L8 (pre++tb e),L8 [],.int .i64 (((pre++tb e).length:Int)-1)]:=by
 intro e
 induction e with
 |nil =>
  intro i m pre hi hie hm hp;obtain⟨m,rfl⟩:=qSx m;simp only[Be,Ay]at hie;rw[q21.q1h,Aa,Aa,Ad,Ab,el0,tb,AN,show w6 ((pre.length:Int)-1)=(pre.length:Int)-1 from qo];rfl
 |cons d e ih =>
  intro i m pre hi hie hm hp;obtain⟨m,rfl⟩:=qSx m;simp only[Aq]at hie hm hp;have hia:i<a.length:=by omega
  have hx:a[i]=d/\a.drop (i+1)=e:=by
   rw[q1t hia]at hi;cases hi;exact⟨rfl,rfl⟩
  have hd:d<1000000000:=by rw[<- hx.1];exact ha _ (Ah hia)
  rw[q21.q1h,Aa,Af,Ac,q9 hia,Ae,q61 hia,qi,Ae,hx.1];cases e with
  |nil =>
   have dl:=q59 (b:=10) (by omega) (n:=d) (k:=9) (by omega);have:=t9_top (n:=n) (m0:=m) (a:=a.map d64) (i:=i) (by simp;simp at hie;omega) (by simp;omega) 9 0 n d pre (by omega) (by omega) (by omega) (by omega) (by omega);rw[show((0:Nat):Int)=0 from rfl]at this;rw[this];exact ih (i+1) m _ hx.2 (by simp at hie ⊢;omega) (by simp at hm ⊢;omega) (by simp;omega) |>.trans (by simp only[tb,AN])
  |cons f r =>
   simp only[Aq]at hie hm hp;have:=t9_mid (n:=n) (m0:=m) (a:=a.map d64) (i:=i) (by simp;omega) (by simp;omega) 9 0 n d pre (by omega) (by omega) (by omega) (by omega);rw[show((0:Nat):Int)=0 from rfl]at this;rw[this];refine(ih (i+1) m _ hx.2 (by simp;omega) (by simp;omega) (by simp[dK_len];omega)).trans ?_;simp only[tb,Ap]
theorem t15_loop{n:Nat}{b:List UInt8}(hl:b.length<=100000000000000):∀(i m:Nat) (out:List UInt8),i<=b.length->i<m->out.length+i<=100000000000000 ->
  q21.l15 n [] m [L8 b,L8 out,.int .i64 ((i:Int)-1)]=some [.str (txt (out++(b.take i).reverse))]:=by
 intro i
 induction i with
 |zero =>
  intro m out hi hm ho;obtain⟨m,rfl⟩:=qSx m;rw[q21.qbm,Ad,Ab,qt8];simp
 |succ i ih =>
  intro m out hi hm ho;obtain⟨m,rfl⟩:=qSx m;have hib:i<b.length:=by omega
  have e0:(((i+1:Nat):Int)-1)=(i:Int):=by omega
  rw[q21.qbm,e0,Af,Ac,Aa,q9 hib,Ae,d8_at hib,qi,Ae,el1,Aa,q44 (by simp;omega),Ac,app8,show w6 ((i:Int)-1)=(i:Int)-1 from qo,ih m (out++[b[i]]) (by omega) (by omega) (by simp;omega)];have e:(b.take (i+1)).reverse=b[i]::(b.take i).reverse:=by rw[Dw,Ag hib,Option.toList_some,Er];rfl
  rw[e,Ap];rfl
theorem wtext_ev{x:Nat}(hx:(dg 1000000000 x).length<=1000000000000):Ev En 96 [wL x] [sF (qk x)]:=by
 refine Ev.of (9*(dg 1000000000 x).length+12) λn hn=>?_;rw[qso,Aa];unfold qk;by_cases h0:x=0
 ·subst h0;rw[if_pos rfl,q17];rfl
 ·have p:=q79 h0;rw[if_neg h0,show(((dg 1000000000 x).length:Int)==0)=false from Bq.2 (by omega),Ab,el0];have hb:=tb_len _ (q10 b9_2 x);have:=t5_loop (n:=n) (q10 b9_2 x) (by omega) (by omega) (dg 1000000000 x) 0 n [] rfl (by omega) (by omega) (by simp;omega);refine BQ this ?_;rw[As];have:=t15_loop (n:=n) (b:=tb (dg 1000000000 x)) (by omega) (tb (dg 1000000000 x)).length n [] (Ak _) (by omega) (by simp;omega);refine BQ this ?_;rw[As,Bj,tb_dg,List.map_reverse]
def c9(l:List UInt8)(e:Nat):List Nat:=if e=0 then []else vD ((l.take e).drop (e-9))::c9 l (e-9)
termination_by e
decreasing_by omega
theorem vD_cons(c:UInt8)(t:List UInt8):vD (c::t)=(c.toNat-48)*10^t.length+vD t:=by
 have:=qbc [c] t;rw[BP]at this;rw[this];simp[vD]
theorem c9_vl(l:List UInt8):∀(e:Nat),e<=l.length->vl 1000000000 (c9 l e)=vD (l.take e):=by
 intro e
 induction e using Nat.strongRecOn with
 |_ e ih =>
  intro he;rw[c9];by_cases h0:e=0
  ·subst h0;simp[vl,vD]
  ·rw[if_neg h0];simp only[vl];rw[ih (e-9) (by omega) (by omega)];have hs:l.take e=l.take (e-9)++(l.take e).drop (e-9):=by
    conv=>lhs;rw[<- BX (e-9) (l.take e)]
    rw[List.take_take,EQ (by omega)]
   conv=>rhs;rw[hs,qbc]
   by_cases h9:e<=9
   ·rw[show e-9=0 by omega,CP];simp[vD]
   ·have:((l.take e).drop (e-9)).length=9:=by simp;omega
    rw[this,show(10:Nat)^9=1000000000 from rfl];omega
theorem c9_Dg{l:List UInt8}(h:∀c,c∈l->isD c=true):∀(e:Nat),Dg 1000000000 (c9 l e):=by
 intro e
 induction e using Nat.strongRecOn with
 |_ e ih =>
  rw[c9];split
  ·intro d hd;simp at hd
  ·refine Dg.cons ?_ (ih (e-9) (by omega));have:=vD_lt (s:=(l.take e).drop (e-9)) λc hc=>h c (CJ (Cy hc));refine AR this ?_;have h9:((l.take e).drop (e-9)).length<=9:=by simp;omega
   exact Bb (AW (by omega) h9) (by decide)
theorem isD_nat{c:UInt8}(h:isD c=true):48<=c.toNat/\c.toNat<=57:=by
 simpa[isD]using h
theorem qlf{a:List UInt8}{i:Nat}(h:i<a.length):a.drop i=a[i]::a.drop (i+1):=Bc h
theorem p14_loop{n m0:Nat}{l0:List FV}{l:List UInt8}{e:Nat}{cs:List Nat}(hD:∀c,c∈l->isD c=true)(he:e<=l.length)(hl:l.length<=1000000000)(hcs:cs.length<=1000000000):∀(d i m acc:Nat),i+d=e->d<=9->d<m->acc<10^(9-d) ->
  q23.l14 n [m0] m [.list 1 l0,sF l,L64 cs,.int .i64 (e:Int),.int .i64 (acc:Int),.int .i64 (i:Int)]=q23.l10 n [] m0 [.list 1 l0,sF l,L64 (cs++[acc*10^d+vD ((l.take e).drop i)]),.int .i64 ((e:Int)-9)]:=by
 intro d
 induction d with
 |zero =>
  intro i m acc hi h9 hm ha;obtain⟨m,rfl⟩:=qSx m;have:(l.take e).drop i=[]:=AO (by simp;omega);rw[q23.l14_eq,Ad,Ab,el1,Aa,q44 (by simp;omega),Ac,q85,this,qo,Es,DJ,show vD []=0 from rfl,Ay]
 |succ d ih =>
  intro i m acc hi h9 hm ha;obtain⟨m,rfl⟩:=qSx m;have hil:i<l.length:=by omega
  have hie:i<(l.take e).length:=by simp;omega
  have hg:(l.take e)[i]=l[i]:=by simp
  have hc:=isD_nat (hD l[i] (Ah hil));have hp:10^(9-(d+1))<=10^8:=AW (by omega) (by omega);have hp8:(10:Nat)^8=100000000:=rfl;have hp2:10^(9-d)=10*10^(9-(d+1)):=by rw[show 9-d=9-(d+1)+1 by omega,Ax,AB]
  have e1:IntKind.wrap .u8 (((l[i]).toNat:Int)-48)=((l[i].toNat-48:Nat):Int):=by
   unfold IntKind.wrap;simp[IntKind.bits,IntKind.signed];omega
  have hlen:((l.take e).drop (i+1)).length=d:=by simp;omega
  rw[q23.l14_eq,Af,Ac,q48,Ag hil,AE,Ae,e1,q3w (x:=l[i].toNat-48),show(10:Int)=((10:Nat):Int) from rfl,qaz,q2m,qd (by omega),
   ih (i+1) m (acc*10+(l[i].toNat-48)) (by omega) (by omega) (by omega) (by rw[hp2];omega),qlf hie,hg,vD_cons,hlen,AU,Ax,<- Bl,AV,AB 10]
theorem p10_loop{n:Nat}{l0:List FV}{l:List UInt8}(hD:∀c,c∈l->isD c=true)(hl:l.length<=1000000000)(hn:l.length+12<=n):∀(e m:Nat) (cs:List Nat),e<=l.length->e<m->cs.length+e<=l.length ->
  q23.l10 n [] m [.list 1 l0,sF l,L64 cs,.int .i64 (e:Int)]=some [L64 (tz (cs++c9 l e)),.int .i64 0]:=by
 obtain⟨n,rfl⟩:=qSx n;have fin:∀(k:Int) (m:Nat) (cs:List Nat),k<=0->cs.length<=l.length->q23.l10 (n+1) [] (m+1) [.list 1 l0,sF l,L64 cs,.int .i64 k]=some [L64 (tz cs),.int .i64 0]:=λk m cs hk hc=>by
  rw[q23.q45,Ad,Ab,q86];simp only[Ae,Aj,qx]
 intro e
 induction e using Nat.strongRecOn with
 |_ e ih =>
  intro m cs he hm hc;obtain⟨m,rfl⟩:=qSx m;by_cases h0:e=0
  ·subst h0;rw[c9,if_pos rfl,AN];exact fin 0 m cs (by omega) (by omega)
  ·have est:(if 0<w6 ((e:Int)-9)then w6 ((e:Int)-9)else 0)=((e-9:Nat):Int):=by
    rw[qo];split <;> omega
   rw[q23.q45,Af,Ac,est,show(0:Int)=((0:Nat):Int) from rfl,
    p14_loop hD he hl (by omega) (e-(e-9)) (e-9) (n+1) 0 (by omega) (by omega) (by omega) (Bx (by omega)),Dk,AG]
   rw[c9,if_neg h0];by_cases h9:e<9
   ·obtain⟨m,rfl⟩:=qSx m;rw[fin _ m _ (by omega) (by simp;omega),show e-9=0 by omega]
    conv=>rhs;rw[c9,if_pos rfl]
    rfl
   ·rw[show(e:Int)-9=((e-9:Nat):Int) by omega,ih (e-9) (by omega) m _ (by omega) (by omega) (by simp;omega),Ap];rfl
theorem p4_good{n:Nat}{l0:List FV}{l:List UInt8}(hl:l.length<=1000000000)(hD:∀c,c∈l->isD c=true):∀(d i m:Nat),i+d=l.length->d<m ->
  q23.l4 n [] m [.list 1 l0,sF l,.int .i64 (i:Int)]=q23.l10 n [] n [.list 1 l0,sF l,L64 [],.int .i64 (l.length:Int)]:=by
 intro d
 induction d with
 |zero =>
  intro i m hi hm;obtain⟨m,rfl⟩:=qSx m;rw[q23.q13,q1g,Ad,Ab,el0];rfl
 |succ d ih =>
  intro i m hi hm;obtain⟨m,rfl⟩:=qSx m;have hil:i<l.length:=by omega
  have hc:=isD_nat (hD l[i] (Ah hil));rw[q23.q13,q1g,Af,Ac,q48,Ag hil,AE,Ae,Ad,Ab,Ae,Ad,Ab,qd (by omega)];exact ih (i+1) m (by omega) (by omega)
theorem p4_bad{n:Nat}{l0:List FV}{l:List UInt8}(hl:l.length<=1000000000):∀(d i m:Nat),i+d=l.length->d<m->(∃c,c∈l.drop i/\isD c=false) ->
  q23.l4 n [] m [.list 1 l0,sF l,.int .i64 (i:Int)]=some [.list 1 [],.int .i64 10]:=by
 intro d
 induction d with
 |zero =>
  intro i m hi hm hb;obtain⟨c,hc,_⟩:=hb;rw[AO (by omega)]at hc;simp at hc
 |succ d ih =>
  intro i m hi hm hb;obtain⟨m,rfl⟩:=qSx m;have hil:i<l.length:=by omega
  rw[q23.q13,q1g,Af,Ac,q48,Ag hil,AE,Ae,Ae];by_cases h1:(l[i]).toNat<48
  ·rw[Af,Ac]
  ·rw[Ad,Ab];by_cases h2:57<(l[i]).toNat
   ·rw[Af,Ac]
   ·rw[Ad,Ab,qd (by omega)];refine ih (i+1) m (by omega) (by omega) ?_;obtain⟨c,hc,hb⟩:=hb;rw[qlf hil]at hc;rcases Ar.1 hc with rfl | hc
    ·simp[isD]at hb;omega
    ·exact⟨c,hc,hb⟩
theorem qb7{l:List UInt8}(hc:canon l)(hl:l.length<=1000000000):Ev En 78 [sF l] [wL (vD l),.int .i64 0]:=by
 obtain⟨c1,c2,c3⟩:=hc;have hp:0<l.length:=CX.2 c1;refine Ev.of (l.length+12) λn hn=>?_;rw[qkx,q1g,show((l.length:Int)==0)=false from Bq.2 (by omega),Ab];have body:q23.l4 n [] n [.list 1 [],sF l,.int .i64 0]=some [wL (vD l),.int .i64 0]:=by
  have h1:=p4_good (n:=n) (l0:=[]) hl c2 l.length 0 n (by omega) (by omega);rw[show((0:Nat):Int)=0 from rfl]at h1;rw[h1];have h2:=p10_loop (n:=n) (l0:=[]) c2 hl (by omega) l.length n [] (Ak _) (by omega) (by simp);refine h2.trans ?_;rw[As,<- q31 b9_2 (c9_Dg c2 l.length),c9_vl l l.length (Ak _),Bj]
 by_cases h1:1<l.length
 ·have h0:0<l.length:=by omega
  have hne:((((l[0]).toNat:Nat):Int)==48)=false:=by
   rw[Bq];intro q;have:l[0]=48:=Do.1 (show l[0].toNat=48 by omega);have h:=c3 (by rw[FE,Ag h0,this]);omega
  have ht:=q48 l 0;rw[show((0:Nat):Int)=0 from rfl,Ag h0]at ht;rw[Af,Ac,ht,AE,Ae,hne,Ab];exact body
 ·rw[Ad,Ab];exact body
theorem qde{l:List UInt8}(hc:¬ canon l)(hl:l.length<=1000000000):Ev En 78 [sF l] [.list 1 [],.int .i64 10]:=by
 refine Ev.of (l.length+12) λn hn=>?_;rw[qkx,q1g];by_cases h0:l=[]
 ·subst h0;rfl
 have hp:0<l.length:=CX.2 h0;rw[show((l.length:Int)==0)=false from Bq.2 (by omega),Ab];have ht:=q48 l 0;rw[show((0:Nat):Int)=0 from rfl,Ag hp]at ht;by_cases hd:∀c,c∈l->isD c=true
 ·have h48:l.head?=some 48/\l.length≠1:=by
   apply BU;intro q;refine hc ⟨h0,hd,λh=>?_⟩;apply BU;intro q';exact q ⟨h,q'⟩
  have he:l[0]=48:=by
   have:=h48.1;rw[FE,Ag hp]at this;exact Ed this
  rw[Af,Ac,ht,AE,Ae,he];rfl
 ·have hb:∃c,c∈l.drop 0/\isD c=false:=by
   apply BU;intro q;refine hd λc hc=>?_;cases hq:isD c with
   |true=>rfl
   |false=>exact absurd ⟨c,hc,hq⟩ q
  have h1:=p4_bad (n:=n) (l0:=[]) hl l.length 0 n (by omega) (by omega) hb;rw[show((0:Nat):Int)=0 from rfl]at h1;by_cases h2:1<l.length
  ·rw[Af,Ac,ht,AE,Ae];cases((((l[0]).toNat:Nat):Int)==48)
   ·rw[Ab];exact h1
   ·rfl
  ·rw[Ad,Ab];exact h1
end
section
abbrev wl(z:Int):FV:=wL z.natAbs
theorem q7i{x k:Nat}(h:x<2^k)(hk:k<=100000000000:=by omega):(dg 1000000000 x).length<=100000000000:=Bb (qh1 b9_2 h) hk
theorem q3y(n:Nat):wl (n:Int)=wL n:=rfl
theorem qb8:wL 0=.list 1 []:=by unfold wL;rw[q17];rfl
theorem q47{x:Nat}{s:Bool}:Ev En 80 [.bool s,wL x] [zb (sg s x),wl (sg s x)]:=by
 refine Ev.of 0 λn hn=>?_;rw[qt3];unfold wl zb;rw[sg_abs,sg_neg];cases s
 ·rfl
 ·have:decide ((((dg 1000000000 x).map d64).length:Int)>0)=decide (0<x):=by
   rw[Aa,Bm,At,At];by_cases h:x=0
   ·subst h;rw[q17];simp
   ·have:=q79 h;omega
  rw[Ac,this];rfl
theorem q8c{n:Nat}{z:Int}:evF En (n+1) 94 [zb z,wl z]=some [.int .i64 z.sign]:=by
 rw[qt4];by_cases h:z<0
 ·rw[Af h,Ac,CN h]
 ·rw[Ad h,Ab,Aa];by_cases h0:z=0
  ·subst h0;rw[show(0:Int).natAbs=0 from rfl,q17];rfl
  ·have:=q79 (x:=z.natAbs) (by omega);rw[Af,Ac,Ck (by omega)]
theorem qiv{n d:Nat}:evF En (n+1) 94 [.bool false,wL d]=some [.int .i64 (if d=0 then 0 else 1)]:=by
 have h:=q8c (n:=n) (z:=(d:Int));rw[q1u,q3y]at h;rw[h];by_cases h0:d=0
 ·subst h0;rfl
 ·rw[if_neg h0,Ck (by omega)]
theorem qd9{z:Int}:Ev En 26 [zb z,wl z] [zb (-z),wl (-z)]:=by
 obtain⟨n1,h1⟩:=q47 (s:=!(decide (z<0))) (x:=z.natAbs);refine Ev.of n1 λn hn=>?_;rw[qt0];simp (disch:=omega) only[h1,rr];have:sg (!(decide (z<0))) z.natAbs=-z:=by
  unfold sg;by_cases h:z<0 <;> simp[h] <;> omega
 rw[this]
theorem qd4{z w:Int}{k:Nat}(hk:k<=100000000000)(hz:z.natAbs<2^k)(hw:w.natAbs<2^k):Ev En 95 [zb z,wl z,zb w,wl w] [zb (z+w),wl (z+w)]:=by
 have lz:=q7i hz hk;have lw:=q7i hw hk;by_cases hs:decide (z<0)=decide (w<0)
 ·obtain⟨n1,h1⟩:=wadd_ev (x:=z.natAbs) (y:=w.natAbs) (by omega) (by omega);obtain⟨n2,h2⟩:=q47 (s:=decide (w<0)) (x:=z.natAbs+w.natAbs);refine Ev.of (n1+n2) λn hn=>?_;rw[qh0,hs]
  try simp (disch:=omega) only[Bi,rr]
  try simp (disch:=omega) only[h1,rr]
  try simp (disch:=omega) only[h2,rr]
  have:sg (decide (w<0)) (z.natAbs+w.natAbs)=z+w:=by
   unfold sg;by_cases h:w<0
   ·have:z<0:=by rw[Af h]at hs;exact of_decide_eq_true hs
    simp[h];omega
   ·have:¬ z<0:=by rw[Ad h]at hs;exact of_decide_eq_false hs
    simp[h];omega
  rw[this]
 ·have hb:(decide (z<0)==decide (w<0))=false:=Bq.2 hs;have hsgn:(z<0/\0<=w)\/(0<=z/\w<0):=by
   by_cases h:z<0 <;> by_cases h':w<0 <;> simp_all <;> omega
  have hc:=λn (hn:(dg 1000000000 z.natAbs).length+(dg 1000000000 w.natAbs).length+1<=n)=>qeq (n:=n) (x:=z.natAbs) (y:=w.natAbs) (by omega) (by omega) hn;by_cases hle:w.natAbs<=z.natAbs
  ·obtain⟨n2,h2⟩:=q47 (x:=z.natAbs-w.natAbs) (s:=decide (z<0));refine Ev.of (n2+(dg 1000000000 z.natAbs).length*2+(dg 1000000000 w.natAbs).length+6) λn hn=>?_;obtain⟨n,rfl⟩:=qSx n;rw[qh0,hb,Ab,hc n (by omega)];simp only[Ae,Aj,qi];rw[Af (show cmpN z.natAbs w.natAbs≥0 by unfold cmpN;rw[if_neg (by omega)];split <;> omega),Ac,qet hle]
   try simp (disch:=omega) only[h2,rr]
   try simp (disch:=omega) only[h2,rr]
   have:sg (decide (z<0)) (z.natAbs-w.natAbs)=z+w:=by
    unfold sg;by_cases h:z<0 <;> simp[h] <;> omega
   rw[this]
  ·obtain⟨n2,h2⟩:=q47 (x:=w.natAbs-z.natAbs) (s:=decide (w<0));refine Ev.of (n2+(dg 1000000000 w.natAbs).length*2+(dg 1000000000 z.natAbs).length+6) λn hn=>?_;obtain⟨n,rfl⟩:=qSx n;rw[qh0,hb,Ab,hc n (by omega)];simp only[Ae,Aj,qi];rw[Ad (show ¬ cmpN z.natAbs w.natAbs≥0 by unfold cmpN;rw[if_pos (by omega)];omega),Ab,qet]
   try simp (disch:=omega) only[h2,rr]
   try simp (disch:=omega) only[h2,rr]
   have:sg (decide (w<0)) (w.natAbs-z.natAbs)=z+w:=by
    unfold sg;by_cases h:w<0 <;> simp[h] <;> omega
   rw[this]
theorem wsub_z{z w:Int}{k:Nat}(hk:k<=100000000000)(hz:z.natAbs<2^k)(hw:w.natAbs<2^k):Ev En 162 [zb z,wl z,zb w,wl w] [zb (z-w),wl (z-w)]:=by
 obtain⟨n1,h1⟩:=qd9 (z:=w);obtain⟨n2,h2⟩:=qd4 (w:=-w) hk hz (by rw[BC];exact hw);refine Ev.of (n1+n2) λn hn=>?_;rw[qt7]
 try simp (disch:=omega) only[h1,rr]
 try simp (disch:=omega) only[h2,rr]
 rw[Int.sub_eq_add_neg]
theorem q96{z w:Int}{k:Nat}(hk:k+k<=100000000000)(hz:z.natAbs<2^k)(hw:w.natAbs<2^k):Ev En 42 [zb z,wl z,zb w,wl w] [zb (z*w),wl (z*w)]:=by
 have lz:=q7i hz;have lw:=q7i hw;obtain⟨n1,h1⟩:=wmul_ev (x:=z.natAbs) (y:=w.natAbs) (by omega);obtain⟨n2,h2⟩:=q47 (s:=!(decide (z<0)==decide (w<0))) (x:=z.natAbs*w.natAbs);refine Ev.of (n1+n2) λn hn=>?_;rw[qt2]
 try simp (disch:=omega) only[h1,rr]
 try simp (disch:=omega) only[h2,rr]
 have:sg (!(decide (z<0)==decide (w<0))) (z.natAbs*w.natAbs)=z*w:=sg_mul z w;rw[this]
theorem sign_cmp(z w:Int):(z-w).sign=q20 z w:=by
 unfold q20;rcases Int.lt_trichotomy z w with h | h | h
 ·rw[if_pos h,CN (by omega)]
 ·subst h;simp
 ·rw[if_neg (by omega),if_pos h,Ck (by omega)]
theorem wcmp_z{z w:Int}{k:Nat}(hk:k<=100000000000)(hz:z.natAbs<2^k)(hw:w.natAbs<2^k):Ev En 100 [zb z,wl z,zb w,wl w] [.int .i64 (q20 z w)]:=by
 obtain⟨n1,h1⟩:=wsub_z hk hz hw;refine Ev.of (n1+1) λn hn=>?_;obtain⟨n,rfl⟩:=qSx n;rw[qt5]
 try simp (disch:=omega) only[h1,rr]
 try simp (disch:=omega) only[q8c,rr]
 rw[sign_cmp]
theorem qd3{z:Int}(h1:-9223372036854775808<=z:=by omega)(h2:z<=9223372036854775807:=by omega):Ev En 40 [.int .i64 z] [zb z,wl z]:=by
 obtain⟨n1,g1⟩:=wof_ev (x:=z.natAbs) (by omega);obtain⟨n2,g2⟩:=q47 (s:=decide (z<0)) (x:=z.natAbs);refine Ev.of (n1+n2) λn hn=>?_;rw[qt1];by_cases h:z<0
 ·rw[Af h]at g2;have e:IntKind.wrap .u64 (IntKind.wrap .u64 (w6 (0-w6 (z+1)))+1)=(z.natAbs:Int):=by
   rw[qo (x:=z+1),qo];unfold IntKind.wrap;simp[IntKind.bits,IntKind.signed];omega
  rw[Ad,e]
  try simp (disch:=omega) only[g1,rr]
  try simp (disch:=omega) only[g2,rr]
  have:sg true z.natAbs=z:=by unfold sg;simp;omega
  rw[this]
 ·rw[Ad h]at g2;have e:IntKind.wrap .u64 z=(z.natAbs:Int):=by
   unfold IntKind.wrap;simp[IntKind.bits,IntKind.signed];omega
  rw[Af,e]
  try simp (disch:=omega) only[g1,rr]
  try simp (disch:=omega) only[g2,rr]
  have:sg false z.natAbs=z:=by unfold sg;simp;omega
  rw[this]
theorem wqr_ev{z w:Int}{k:Nat}(hk:k<=100000000000)(h0:w≠0)(hz:z.natAbs<2^k)(hw:w.natAbs<2^k) :
  Ev En 136 [zb z,wl z,zb w,wl w] [zb (z.tdiv w),wl (z.tdiv w),zb (z.tmod w),wl (z.tmod w),.int .i64 0]:=by
 have lz:=q7i hz;have lw:=q7i hw;obtain⟨n1,h1⟩:=qia (x:=z.natAbs) (y:=w.natAbs) (by omega) (by omega) (by omega);obtain⟨n2,h2⟩:=q47 (s:=!(decide (z<0)==decide (w<0))) (x:=z.natAbs / w.natAbs);obtain⟨n3,h3⟩:=q47 (s:=decide (z<0)) (x:=z.natAbs%w.natAbs);refine Ev.of (n1+n2+n3) λn hn=>?_;rw[qt6]
 try simp (disch:=omega) only[h1,rr]
 try simp only[show((0:Int) !=0)=false from rfl,rr]
 try simp (disch:=omega) only[h2,rr]
 try simp (disch:=omega) only[h3,rr]
 rw[sg_div z w,sg_mod z w]
theorem qff{z:Int}{k:Nat}(hk:k<=100000000000)(hz:z.natAbs<2^k):Ev En 25 [zb z,wl z] [sF (qu z)]:=by
 have lz:=q7i hz;have lt:=q98 hz;obtain⟨n1,h1⟩:=wtext_ev (x:=z.natAbs) (by omega);refine Ev.of n1 λn hn=>?_;rw[qsz];unfold qu;by_cases h:z<0
 ·rw[Af h,if_pos h];simp (disch:=omega) only[h1,rr];rw[q1g,Ad,Ab,show({ data:=#[45] }:ByteArray)=txt [45] from rfl,q5d];rfl
 ·rw[Ad h,if_neg h];simp (disch:=omega) only[h1,rr]
theorem len_wL(x:Nat):((((dg 1000000000 x).map d64).length:Int)==0)=decide (x=0):=by
 rw[Aa,Bm,Bv,At];by_cases h:x=0
 ·subst h;rw[q17];simp
 ·have:=q79 h;omega
theorem qfh{l:List UInt8}{z:Int}(h:pz l=some z)(hl:l.length<=1000000000):Ev En 77 [sF l] [zb z,wl z,.int .i64 0]:=by
 have hb:=qa9 h;have e:=q4i.1 h;by_cases hz:z<0
 ·have hl2:l=45::qk z.natAbs:=by rw[e];unfold qu;rw[if_pos hz]
  obtain⟨n1,h1⟩:=qb7 (l:=qk z.natAbs) (q6b _) (by rw[hl2]at hl;simp at hl;omega);rw[q6c]at h1;obtain⟨n2,h2⟩:=q47 (s:=true) (x:=z.natAbs);refine Ev.of (n1+n2) λn hn=>?_;subst hl2;have ht:=q48 (45::qk z.natAbs) 0;rw[show((0:Nat):Int)=0 from rfl,Aj,AE]at ht
  rw[qbv,q1g,Af (by simp),Ac,ht,Ae,show((((45:UInt8).toNat:Nat):Int)==45)=true from rfl,Ac,show(1:Int)=((1:Nat):Int) from rfl,q1s (by simp),Ae,q5e,
   show((45::qk z.natAbs).take (45::qk z.natAbs).length).drop 1=qk z.natAbs by rw[Bj];rfl]
  try simp (disch:=omega) only[h1,rr]
  try simp only[show((0:Int) !=0)=false from rfl,rr]
  rw[len_wL,Ad]
  try simp (disch:=omega) only[h2,rr]
  try simp (disch:=omega) only[h2,rr]
  have:sg true z.natAbs=z:=by unfold sg;simp;omega
  rw[this]
 ·have hl2:l=qk z.natAbs:=by rw[e];unfold qu;rw[if_neg hz]
  have hc:canon l:=hl2▸q6b _;obtain⟨c,t,rfl⟩:∃c t,l=c::t:=by
   cases l with
   |nil=>exact absurd rfl hc.1
   |cons c t=>exact⟨c,t,rfl⟩
  have h45:((c.toNat:Int)==45)=false:=by
   rw[Bq];intro q;have:c=45:=Do.1 (show c.toNat=45 by omega);subst this;exact qh6 hc
  obtain⟨n1,h1⟩:=qb7 (l:=c::t) hc hl;have hv:vD (c::t)=z.natAbs:=by rw[hl2,q6c]
  rw[hv]at h1;obtain⟨n2,h2⟩:=q47 (s:=false) (x:=z.natAbs);refine Ev.of (n1+n2) λn hn=>?_;have ht:=q48 (c::t) 0;rw[show((0:Nat):Int)=0 from rfl,Aj,AE]at ht;rw[qbv,q1g,Af (by simp),Ac,ht,Ae,h45]
  try simp (disch:=omega) only[h1,rr]
  try simp only[show((0:Int) !=0)=false from rfl,rr]
  try simp (disch:=omega) only[h2,rr]
  have:sg false z.natAbs=z:=by unfold sg;simp;omega
  rw[this]
theorem qj3{l:List UInt8}(h:pz l=none)(hl:l.length<=1000000000:=by omega):Ev En 77 [sF l] [.bool false,.list 1 [],.int .i64 10]:=by
 cases l with
 |nil =>
  obtain⟨n1,h1⟩:=qde (l:=[]) (λhc=>hc.1 rfl) hl;refine Ev.of n1 λn hn=>?_;rw[qbv,q1g,Ad (by simp),Ab]
  try simp (disch:=omega) only[h1,rr]
  try simp only[show((10:Int) !=0)=true from rfl,rr]
 |cons c t =>
  have ht:=q48 (c::t) 0;rw[show((0:Nat):Int)=0 from rfl,Aj,AE]at ht;by_cases h45:c=45
  ·subst h45;simp only[Aq]at hl;have head:∀n,evF En (n+1) 77 [sF (45::t)]=(evF En n 78 [sF t]).bind λr2=>(asLst 1 (r2[0]?)).bind λv3=>(asInt .i64 (r2[1]?)).bind λn4 =>
     (bif(n4 !=0)then some [.bool false,.list 1 [],.int .i64 10]
      else(bif((v3.length:Int)==0)then some [.bool false,.list 1 [],.int .i64 10]
       else(evF En n 80 [.bool true,.list 1 v3]).bind λr5=>(asBool (r5[0]?)).bind λc6=>(asLst 1 (r5[1]?)).bind λv7=>some [.bool c6,.list 1 v7,.int .i64 0])):=λn=>by
    rw[qbv,q1g,Af (by simp),Ac,ht,Ae,show((((45:UInt8).toNat:Nat):Int)==45)=true from rfl,Ac,show(1:Int)=((1:Nat):Int) from rfl,q1s (by simp),Ae,q5e,
     show((45::t).take (45::t).length).drop 1=t by rw[Bj];rfl]
    rfl
   by_cases hc:canon t
   ·have hv:vD t=0:=by
     apply BU;intro q;rw[pz_neg hc q]at h;cases h
    obtain⟨n1,h1⟩:=qb7 (l:=t) hc (by omega);rw[hv]at h1;refine Ev.of n1 λn hn=>?_;rw[head]
    try simp (disch:=omega) only[h1,rr]
    try simp only[show((0:Int) !=0)=false from rfl,rr]
    rw[len_wL];rfl
   ·obtain⟨n1,h1⟩:=qde (l:=t) hc (by omega);refine Ev.of n1 λn hn=>?_;rw[head]
    try simp (disch:=omega) only[h1,rr]
    try simp only[show((10:Int) !=0)=true from rfl,rr]
  ·have hb:((c.toNat:Int)==45)=false:=by
    rw[Bq];intro q;exact h45 (Do.1 (show c.toNat=45 by omega))
   have hc:¬ canon (c::t):=λhc=>by rw[pz_pos hc]at h;cases h
   obtain⟨n1,h1⟩:=qde (l:=c::t) hc hl;refine Ev.of n1 λn hn=>?_;rw[qbv,q1g,Af (by simp),Ac,ht,Ae,hb]
   try simp (disch:=omega) only[h1,rr]
   try simp only[show((10:Int) !=0)=true from rfl,rr]
end
end Rf
