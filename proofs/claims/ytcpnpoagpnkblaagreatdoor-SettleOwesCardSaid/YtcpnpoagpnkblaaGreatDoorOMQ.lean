/- Texts of this work put together, their blanks and comments taken out: NatB. -/
import Derived.Test.YtcpnpoagpnkblaaGreatDoorOMP
import Derived.Test.YtcpnpoagpnkblaaGreatDoorOMG
import Derived.Test.YtcpnpoagpnkblaaGreatDoorOMI
set_option linter.unusedVariables false
set_option linter.unusedSimpArgs false
section
section
/- The program's nat by values, fifth part: long division put together, Gcd. -/
set_option maxHeartbeats 2000000
set_option maxRecDepth 10000
namespace Rf
open Go
theorem join64{a b:Nat}(ha:a<4294967296)(hb:b<4294967296):bitI .or .u64 (shI true .u64 (a:Int) 32) (b:Int)=((a*4294967296+b:Nat):Int):=by
 have:=qal .u64 a 32 (by decide);rw[show((32:Nat):Int)=32 from rfl]at this;rw[this,q1b,qbn,qdw]
theorem split3{l:List Nat}{p:Nat}(h:l.length=p+3):∃w a b c,l=w++[a,b,c]/\w.length=p:=by
 refine⟨l.take p,l[p],l[p+1],l[p+2],?_,by simp;omega⟩
 conv=>lhs;rw[<- BW p l]
 congr 1;rw[AY (by omega),AY (by omega),AY (by omega),AN (by omega)]
theorem aux_ltB(B a b r t u:Nat)(h:r+a=t)(h':r*B+u<b):t*B+u<a*B+b:=by
 subst h;rw[AT];omega
theorem aux_lt(a b r t u:Nat)(h:r+a=t)(h':r*4294967296+u<b):t*4294967296+u<a*4294967296+b:=aux_ltB 4294967296 a b r t u h h'
theorem qvh{n m0:Nat}{l0 l1 Q:List FV}{s:Int}{vlo lo w zs:List Nat}{p k v1 v2 u1 u2 u3 q:Nat}(hvl:vlo.length=p)(hwl:w.length=p)(hlo:lo.length=k)(hbig:k+p<=1099511627000)
  (h1:v1<4294967296) (h1':2147483648<=v1) (h2:v2<4294967296) (hu3:u3<4294967296)
  (hge:∀g,(u1*4294967296+u2)*4294967296+u3<g*(v1*4294967296+v2)->q<g):∀(d m g rest:Nat),4294967296<=rest+d*2147483648->d<m->rest+g*v1=u1*4294967296+u2->q<=g->g<4294967296->rest<18446744073709551616 ->
  ∃g',q<=g'/\g'<4294967296/\g'*(v1*4294967296+v2)<=(u1*4294967296+u2)*4294967296+u3 /\
   q13.l18 n [m0] m [.list 1 l0,.list 1 l1,.int .i64 ((p+2:Nat):Int),.int .u64 s,L32 (vlo++[v2,v1]),L32 (lo++((w++[u3,u2,u1])++zs)),.list 1 Q,.int .i64 (k:Int),.int .u64 (g:Int),.int .u64 (rest:Int)] =
    q13.l23 n [m0] n [.list 1 l0,.list 1 l1,.int .i64 ((p+2:Nat):Int),.int .u64 s,L32 (vlo++[v2,v1]),L32 (lo++((w++[u3,u2,u1])++zs)),.list 1 Q,.int .i64 (k:Int),.int .u64 (g':Int),.int .u32 0,.int .u64 0,.int .i64 ((p+2:Nat):Int),.int .i64 0]:=by
 intro d
 induction d with
 |zero =>
  intro m g rest hd hm hr hq hg hrl;obtain⟨m,rfl⟩:=qSx m;refine⟨g,hq,hg,?_,by rw[q13.q55,Ad,Ab]⟩;have e1:g*v2<=4294967295*4294967295:=Cw (by omega) (by omega);rw[AE,<- AU];omega
 |succ d ih =>
  intro m g rest hd hm hr hq hg hrl;obtain⟨m,rfl⟩:=qSx m;by_cases hb:rest<4294967296
  ·have e1:g*v2<=4294967295*4294967295:=Cw (by omega) (by omega);have av2:at' ((vlo++[v2,v1]).map d32) p 0=some (.int .u32 (v2:Int)):=q48 hvl;have av1:at' ((vlo++[v2,v1]).map d32) (p+1) 0=some (.int .u32 (v1:Int)):=by
    rw[show vlo++[v2,v1]=(vlo++[v2])++v1::[] by simp];exact q48 (by simp[hvl])
   have au3:at' ((lo++((w++[u3,u2,u1])++zs)).map d32) (k+p) 0=some (.int .u32 (u3:Int)):=by
    rw[show lo++((w++[u3,u2,u1])++zs)=(lo++w)++u3::(u2::u1::zs) by simp];exact q48 (by simp[hwl,hlo])
   have hvlen:((vlo++[v2,v1]).map d32).length=p+2:=by simp[hvl]
   have hulen:((lo++((w++[u3,u2,u1])++zs)).map d32).length=k+p+3+zs.length:=by simp[hlo,hwl];omega
   rw[q13.q55,Af,Ac,hvlen,hulen]
   rw[show w6 (((p+2:Nat):Int)-2)=((p:Nat):Int) by rw[qk];omega,q9,Ae,av2,qi,Ae,
    q2n,show w6 (((k+(p+2):Nat):Int)-2)=((k+p:Nat):Int) by rw[qk];omega,q9,Ae,au3,qi,Ae,
    q1b (show v2<18446744073709551616 by omega),qbb,q1b (show u3<18446744073709551616 by omega),join64 hb hu3]
   by_cases hc:rest*4294967296+u3<g*v2
   ·rw[Af,Ac,show w6 (((p+2:Nat):Int)-1)=((p+1:Nat):Int) by rw[qk];omega,q9,Ae,av1,qi,Ae];have hcc:(u1*4294967296+u2)*4294967296+u3<g*(v1*4294967296+v2):=by
     have e3:g*(v1*4294967296+v2)=g*v1*4294967296+g*v2:=by rw[AE,<- AU]
     exact Nat.lt_of_lt_of_eq (aux_lt (g*v1) (g*v2) rest (u1*4294967296+u2) u3 hr hc) e3.symm
    have hlt:q<g:=hge g hcc;have e2:(g-1)*v1+v1=g*v1:=by rw[<- Dh];congr 1;omega
    rw[show((g:Int)-1)=((g-1:Nat):Int) by omega,q1b (show g-1<18446744073709551616 by omega),q1b (show v1<18446744073709551616 by omega),q7j];exact ih m (g-1) (rest+v1) (by omega) (by omega) (by omega) (by omega) (by omega) (by omega)
   ·rw[Ad,Ab];refine⟨g,hq,hg,?_,rfl⟩;rw[AE,<- AU];omega
  ·refine⟨g,hq,hg,?_,by rw[q13.q55,Ad,Ab]⟩;have e1:g*v2<=4294967295*4294967295:=Cw (by omega) (by omega);rw[AE,<- AU];omega
theorem vl_three(w:List Nat)(a b c:Nat):vl 4294967296 (w++[a,b,c])=((c*4294967296+b)*4294967296+a)*4294967296^w.length+vl 4294967296 w:=by
 rw[q6e];simp only[vl,Cj,Ay];rw[AC (4294967296^w.length),Bo (vl 4294967296 w)];congr 2;omega
theorem vl_two(w:List Nat)(a b:Nat):vl 4294967296 (w++[a,b])=(b*4294967296+a)*4294967296^w.length+vl 4294967296 w:=by
 rw[q6e];simp only[vl,Cj,Ay];rw[AC (4294967296^w.length),Bo (vl 4294967296 w)];congr 2;omega
set_option maxHeartbeats 4000000 in
theorem div_loop{n:Nat}{l0 l1:List FV}{s:Int}{vlo:List Nat}{p v1 v2:Nat}(hvl:vlo.length=p)(hv:Dg 4294967296 (vlo++[v2,v1]))(h1':2147483648<=v1):∀(k' m:Nat) (lo hi zs qs:List Nat),lo.length=k'->k'+p<=1099511627000->p+6<=n->hi.length=p+2->Dg 4294967296 lo->Dg 4294967296 hi->vl 4294967296 hi<vl 4294967296 (vlo++[v2,v1])->k'<m ->
  ∃hf qf,hf.length=p+2/\Dg 4294967296 hf/\vl 4294967296 hf<vl 4294967296 (vlo++[v2,v1])/\qf.length=k'/\Dg 4294967296 qf/\vl 4294967296 lo+4294967296^k'*vl 4294967296 hi=vl 4294967296 hf+vl 4294967296 (vlo++[v2,v1])*vl 4294967296 qf /\
   q13.l13 n [] m [.list 1 l0,.list 1 l1,.int .i64 ((p+2:Nat):Int),.int .u64 s,L32 (vlo++[v2,v1]),L32 (lo++(hi++zs)),L32 (List.replicate k' 0++qs),.int .i64 ((k':Int)-1)] =
    q13.l42 n [] n [.list 1 l0,.list 1 l1,.int .u64 s,L32 (hf++(List.replicate k' 0++zs)),L32 (qf++qs),L32 (List.replicate (p+2) 0),.int .i64 ((p+2:Nat):Int),.int .i64 0]:=by
 intro k'
 induction k' with
 |zero =>
  intro m lo hi zs qs hlo hbig hn hhi hdl hdh hlt hm;obtain⟨m,rfl⟩:=qSx m;have:lo=[]:=BF hlo;subst this;refine⟨hi,[],hhi,hdh,hlt,rfl,λd h=>by simp at h,by simp[vl],?_⟩;rw[q13.q45,Ad,Ab,mk4,Ae,q1v (Ak _),Ae,rep0];simp only[At,Co]
 |succ k ih =>
  intro m lo hi zs qs hlo hbig hn hhi hdl hdh hlt hm;obtain⟨m,rfl⟩:=qSx m;obtain⟨lo',d,e⟩:=Dm lo |>.resolve_left (λq=>by rw[q]at hlo;simp at hlo);rw[EJ]at e;subst e;have hlo':lo'.length=k:=by simpa using hlo
  have hd:d<4294967296:=hdl d (by simp);have hdl':Dg 4294967296 lo':=λx hx=>hdl x (by simp[hx]);obtain⟨w,u3,u2,u1,ew,hwl⟩:=split3 (l:=d::hi) (p:=p) (by simp[hhi]);have hdw:Dg 4294967296 (w++[u3,u2,u1]):=by rw[<- ew];exact Dg.cons hd hdh
  have hu3:u3<4294967296:=hdw u3 (by simp);have hu2:u2<4294967296:=hdw u2 (by simp);have hu1:u1<4294967296:=hdw u1 (by simp);have hv1:v1<4294967296:=hv v1 (by simp);have hv2:v2<4294967296:=hv v2 (by simp);have hdwl:Dg 4294967296 w:=λx hx=>hdw x (by simp[hx]);have hdvl:Dg 4294967296 vlo:=λx hx=>hv x (by simp[hx]);have hlw:=q4m (b:=4294967296) (by omega) hdwl;have hlv:=q4m (b:=4294967296) (by omega) hdvl;rw[hwl]at hlw;rw[hvl]at hlv;have hU:=vl_three w u3 u2 u1;have hV:=vl_two vlo v2 v1;rw[hwl]at hU;rw[hvl]at hV;have hW:vl 4294967296 (w++[u3,u2,u1])=d+4294967296*vl 4294967296 hi:=by rw[<- ew];rfl
  generalize hVV:vl 4294967296 (vlo++[v2,v1])=V at *
  generalize hWW:vl 4294967296 (w++[u3,u2,u1])=W at *
  have hP:=pow_pos' p;have hVpos:0<V:=by omega
  have hqd:=DH W V;have hqm:=AL W hVpos;have hqB:W / V<4294967296:=by
   rw[BJ hVpos];omega
  have hqV:W / V*V<=W:=EG W V;generalize hq:W / V=q at *
  have htop:=guess_top (by omega:0<4294967296) hP hu3 hU hlw hV (by omega:0<v1) hqV;have hulen:((lo'++[d]++(hi++zs)).map d32).length=k+p+3+zs.length:=by simp[hlo',hhi];omega
  have hvlen:((vlo++[v2,v1]).map d32).length=p+2:=by simp[hvl]
  have eu:lo'++[d]++(hi++zs)=lo'++((w++[u3,u2,u1])++zs):=by rw[<- ew];simp
  have av1:at' ((vlo++[v2,v1]).map d32) (p+1) 0=some (.int .u32 (v1:Int)):=by
   rw[show vlo++[v2,v1]=(vlo++[v2])++v1::[] by simp];exact q48 (by simp[hvl])
  have au2:at' ((lo'++[d]++(hi++zs)).map d32) (k+p+1) 0=some (.int .u32 (u2:Int)):=by
   rw[eu,show lo'++((w++[u3,u2,u1])++zs)=(lo'++w++[u3])++u2::(u1::zs) by simp];exact q48 (by simp[hwl,hlo'];omega)
  have au1:at' ((lo'++[d]++(hi++zs)).map d32) (k+p+2) 0=some (.int .u32 (u1:Int)):=by
   rw[eu,show lo'++((w++[u3,u2,u1])++zs)=(lo'++w++[u3,u2])++u1::zs by simp];exact q48 (by simp[hwl,hlo'];omega)
  rw[q13.q45,show(((k+1:Nat):Int)-1)=(k:Int) by omega,Af,Ac,hvlen,hulen,q2n,show k+(p+2)=k+p+2 by omega,q9,Ae,au1,qi,Ae,
   show w6 (((k+p+2:Nat):Int)-1)=((k+p+1:Nat):Int) by rw[qk];omega,q9,Ae,au2,qi,Ae,
   show w6 (((p+2:Nat):Int)-1)=((p+1:Nat):Int) by rw[qk];omega,q9,Ae,av1,qi,Ae,
   q1b (show v1<18446744073709551616 by omega),Ad,Ab,Ae,av1,qi,Ae,q1b (show v1<18446744073709551616 by omega),
   q1b (show u1<18446744073709551616 by omega),q1b (show u2<18446744073709551616 by omega),join64 hu1 hu2,show Int.tdiv (((u1*4294967296+u2:Nat)):Int) (v1:Int)=(((u1*4294967296+u2) / v1:Nat):Int) from rfl]
  have htl:(u1*4294967296+u2) / v1<=u1*4294967296+u2:=Ds _ _;have hmul:=EG (u1*4294967296+u2) v1;obtain⟨top,hT⟩:∃top,u1*4294967296+u2=top:=⟨_,rfl⟩;obtain⟨t,hG⟩:∃t,top / v1=t:=⟨_,rfl⟩;rw[hT,hG]at htl hmul htop;rw[hT,hG];rw[q1b (show t<18446744073709551616 by omega)];obtain⟨g,hg1,hg2,hg3,hg4⟩:∃g:Nat,(if(4294967295:Int)<(t:Int)then(4294967295:Int)else(t:Int))=(g:Int)/\g<4294967296/\q<=g/\g*v1<=top:=by
   by_cases hc:(4294967295:Int)<(t:Int)
   ·refine⟨4294967295,by rw[if_pos hc];rfl,by omega,by omega,?_⟩;exact AZ (AR _ (by omega)) hmul
   ·exact⟨t,by rw[if_neg hc],by omega,htop,hmul⟩
  rw[hg1,qbb,show((top:Nat):Int)-((g*v1:Nat):Int)=((top-g*v1:Nat):Int) by omega,q1b,eu];subst hT;obtain⟨g',k1,k2,k3,k4⟩:=qvh (n:=n) (m0:=m) (l0:=l0) (l1:=l1) (Q:=(List.replicate (k+1) 0++qs).map d32) (s:=s) (vlo:=vlo) (lo:=lo') (w:=w) (zs:=zs) (u1:=u1) (u2:=u2) (q:=q) hvl hwl hlo' (by omega) hv1 h1' hv2 hu3
   (λg hg=>guess_ge hP hU hlw hV hqV hg) 2 n g (u1*4294967296+u2-g*v1) (by omega) (by omega) (by omega) hg3 hg2 (by omega)
  rw[k4];have k5:=guess_le hU hV hlv (by omega:0<v1) k2 k3;have hdd:=div_digit (win:=w++[u3,u2,u1]) (v:=vlo++[v2,v1]) (g:=g') hdw hv (by simp[hwl,hvl]) k2 (by rw[hWW,hVV,hq];exact k1) (by rw[hWW,hVV];exact k5) (by rw[hVV];exact hVpos);rw[hWW,hVV,hq]at hdd;have hms:=ms_loop (n:=n) (m0:=m) (l0:=l0) (l1:=l1) (s:=s) (v:=vlo++[v2,v1]) (tl:=zs) (q:=List.replicate (k+1) 0++qs) (k:=k) (g:=g') hv k2 (by simp;omega) (by simp[hvl];omega) (vlo++[v2,v1]) 0 n lo' (w++[u3,u2,u1]) 0 0 rfl (by simp) (by simp[hvl];omega) (by omega) (by simp[hwl,hvl]) hdw (by omega) (by omega) (by omega);have hvl2:(vlo++[v2,v1]).length=p+2:=by simp[hvl]
  rw[hvl2]at hms;rw[show((0:Nat):Int)=0 from rfl]at hms;rw[hms];have hset:∀y,(List.replicate (k+1) 0++qs).set k y=List.replicate k 0++(y::qs):=λy=>by
   rw[DG,Ap,BM,qb8 (by simp)]
  have goal:∀h:List Nat,h.length=p+2->Dg 4294967296 h->vl 4294967296 h=W%V ->
    ∃hf qf,hf.length=p+2/\Dg 4294967296 hf/\vl 4294967296 hf<V/\qf.length=k+1/\Dg 4294967296 qf/\vl 4294967296 (lo'++[d])+4294967296^(k+1)*vl 4294967296 hi=vl 4294967296 hf+V*vl 4294967296 qf /\
     q13.l13 n [] m [.list 1 l0,.list 1 l1,.int .i64 ((p+2:Nat):Int),.int .u64 s,L32 (vlo++[v2,v1]),L32 (lo'++(h++[0]++zs)),L32 (List.replicate k 0++(q::qs)),.int .i64 ((k:Int)-1)] =
      q13.l42 n [] n [.list 1 l0,.list 1 l1,.int .u64 s,L32 (hf++(List.replicate (k+1) 0++zs)),L32 (qf++qs),L32 (List.replicate (p+2) 0),.int .i64 ((p+2:Nat):Int),.int .i64 0]:=λh hh1 hh2 hh3=>by
   obtain⟨hf,qf,f1,f2,f3,f4,f5,f6,f7⟩:=ih m lo' h (0::zs) (q::qs) hlo' (by omega) hn hh1 hdl' hh2 (by omega) (by omega);refine⟨hf,qf++[q],f1,f2,f3,by simp[f4],f5.app (λx hx=>by simp at hx;omega),?_,?_⟩
   ·rw[qa4,qa4,hlo',f4];rw[hh3]at f6;have e1:4294967296^(k+1)*vl 4294967296 hi=4294967296^k*(4294967296*vl 4294967296 hi):=by rw[Ax,AU]
    have e2:4294967296^k*d+4294967296^k*(4294967296*vl 4294967296 hi)=4294967296^k*W:=by rw[<- AE,hW]
    have e3:4294967296^k*W=4294967296^k*(V*q)+4294967296^k*(W%V):=by rw[<- AE,hqd]
    have e4:V*(4294967296^k*q)=4294967296^k*(V*q):=by rw[DU]
    rw[e1,AE,e4];omega
   ·rw[show h++[0]++zs=h++(0::zs) by simp,f7,show List.replicate (k+1) (0:Nat)=List.replicate k 0++[0] from DG];simp only[Ap,BM]
  rcases hdd with⟨r0,rg,h,ra,rb,rc,rd⟩ | ⟨r0,rg,rl,rdg,h,ra,rb,rc,rd⟩
  ·rw[r0,ra,hset,rg,show((0:Nat)==0)=true from rfl,Ac];exact goal h (by rw[rb,hvl2]) rc rd
  ·have hab:=ab_loop (n:=n) (m0:=m) (l0:=l0) (l1:=l1) (s:=s) (v:=vlo++[v2,v1]) (tl:=zs) (Q:=List.set (((List.replicate (k+1) 0++qs).set k g').map d32) k (.int .u32 (IntKind.wrap .u32 ((g':Int)-1)))) (k:=k) hv (by rw[hvl2];omega) (vlo++[v2,v1]) 0 n lo' (msL 4294967296 (w++[u3,u2,u1]) (vlo++[v2,v1]) g' 0 0).1 0 rfl (by simp) (by rw[hvl2];omega) (by omega) (by rw[rl]) rdg (by omega) (by omega);rw[hvl2]at hab;rw[show((0:Nat):Int)=0 from rfl]at hab;rw[r0,show((1:Nat)==0)=false from rfl,Ab,hab,ra,hset,rg,show(((q+1:Nat):Int)-1)=(q:Int) by omega,q6q hqB];have hs2:List.set ((List.replicate k 0++(q+1)::qs).map d32) k (FV.int .u32 (q:Int))=(List.replicate k 0++q::qs).map d32:=q64 (by simp);rw[hs2];exact goal h (by rw[rb,hvl2]) rc rd
end Rf
end
section
set_option maxHeartbeats 2000000
set_option maxRecDepth 10000
namespace Rf
open Go
theorem shrL_cons(B s u0 u1:Nat)(t:List Nat):shrL B s (u0::u1::t)=((u1*B+u0) / 2^s)%B::shrL B s (u1::t):=rfl
theorem shrL_one(B s u0:Nat):shrL B s [u0]=[]:=rfl
theorem fin_loop{n:Nat}{l0 l1:List FV}{s nn:Nat}{u q:List Nat}(hu:Dg 4294967296 u)(hs:s<32)(hnu:nn+1<=u.length)(hbig:u.length<=1099511627776)(hq:q.length<=1099511627776)(hn:nn+q.length+3<=n):∀(d i m:Nat) (pre:List Nat),i+d=nn->d<m->pre.length=i ->
  q13.l42 n [] m [.list 1 l0,.list 1 l1,.int .u64 (s:Int),L32 u,L32 q,L32 (pre++List.replicate d 0),.int .i64 (nn:Int),.int .i64 (i:Int)] =
   some [L32 (tz q),L32 (tz (pre++shrL 4294967296 s ((u.drop i).take (d+1)))),.int .i64 0]:=by
 intro d
 induction d with
 |zero =>
  intro i m pre hi hm hp;obtain⟨m,rfl⟩:=qSx m;obtain⟨n,rfl⟩:=qSx n;have hiu:i<u.length:=by omega
  rw[q13.l42_eq,Ad,Ab,q8w,Co,AM,q1w hiu,q8w];rw[show List.take (0+1) (u[i]::u.drop (i+1))=[u[i]] from rfl,shrL_one,AM];simp only[Ae,Aj,qy]
 |succ d ih =>
  intro i m pre hi hm hp;obtain⟨m,rfl⟩:=qSx m;have hiu:i<u.length:=by omega
  have hiu1:i+1<u.length:=by omega
  have h0:=hu u[i] (Ah hiu);have h1:=hu u[i+1] (Ah hiu1);have hlt:i<(pre++List.replicate (d+1) 0).length:=by simp;omega
  rw[q13.l42_eq,Af,Ac,qc,Aa,q9 hiu1,Ae,q3t hiu1,qi,Ae,q9 hiu,Ae,q3t hiu,qi,Ae,
   Ad,Ab,Aa,q9 hlt,Ae,q1b (show u[i+1]<18446744073709551616 by omega),q1b (show u[i]<18446744073709551616 by omega),join64 h1 h0,qbm .u64 _ s (by show s<=64;omega),lo32,
   Cc,q64 hp]
  have:=ih (i+1) m (pre++[(u[i+1]*4294967296+u[i]) / 2^s%4294967296]) (by omega) (by omega) (by simp[hp]);rw[Ap,BM]at this;refine this.trans ?_;have ed:(u.drop i).take (d+1+1)=u[i]::u[i+1]::(u.drop (i+1+1)).take d:=by rw[q1w hiu,q1w hiu1,Fv,Fv]
  have ed1:(u.drop (i+1)).take (d+1)=u[i+1]::(u.drop (i+1+1)).take d:=by rw[q1w hiu1,Fv]
  rw[ed,ed1,shrL_cons,Ap,BM]
theorem shlL_v{y:Nat}{l:List Nat}{d:Nat}(hy:dg 4294967296 y=l++[d])(hd:d≠0)(hdl:d<4294967296):y*2^(32-bl d)<4294967296^(l.length+1)/\2147483648*4294967296^l.length<=y*2^(32-bl d):=by
 obtain⟨b1,b2,b3⟩:=qev hd;have b4:=bl_le (x:=d) (k:=32) (by omega);have hv:=q22 qq y;rw[hy,qa4]at hv;have hl:=q4m (b:=4294967296) (by omega) (show Dg 4294967296 l from λx hx=>q12 qq y x (by rw[hy];simp[hx]));have e1:2^bl d*2^(32-bl d)=4294967296:=by rw[<- BZ,show bl d+(32-bl d)=32 by omega]
 have e2:2^(bl d-1)*2^(32-bl d)=2147483648:=by rw[<- BZ,show bl d-1+(32-bl d)=31 by omega]
 have hp:0<2^(32-bl d):=Bx (by omega);constructor
 ·have h1:y<4294967296^l.length*(d+1):=by rw[Ce];omega
  have h2:(d+1)*2^(32-bl d)<=4294967296:=by rw[<- e1];exact AR _ b2
  calc y*2^(32-bl d)<4294967296^l.length*(d+1)*2^(32-bl d):=Fw h1 hp
   _=4294967296^l.length*((d+1)*2^(32-bl d)):=AU _ _ _
   _<=4294967296^l.length*4294967296:=BB _ h2
   _=4294967296^(l.length+1):=(Ax _ _).symm
 ·have h1:4294967296^l.length*d<=y:=by omega
  calc 2147483648*4294967296^l.length=4294967296^l.length*(2^(bl d-1)*2^(32-bl d)):=by rw[e2,AC]
   _<=4294967296^l.length*(d*2^(32-bl d)):=BB _ (AR _ b1)
   _=4294967296^l.length*d*2^(32-bl d):=(AU _ _ _).symm
   _<=y*2^(32-bl d):=AR _ h1
theorem unshift{x y s R Q:Nat}(h:x*2^s=R+y*2^s*Q)(hR:R<y*2^s):x / y=Q/\x%y=R / 2^s:=by
 have hp:0<2^s:=Bx (by omega);have e1:y*2^s*Q=y*Q*2^s:=by rw[AU,AC (2^s),<- AU]
 have h1:y*Q<=x:=by
  apply Nat.le_of_mul_le_mul_right _ hp;omega
 have h2:R=(x-y*Q)*2^s:=by rw[Nat.sub_mul];omega
 have h3:x-y*Q<y:=by
  apply FQ (a:=2^s);omega
 rw[h2,Nat.mul_div_cancel _ hp];have hx:x=y*Q+(x-y*Q):=by omega
 generalize x-y*Q=r at *
 have hy:0<y:=by omega
 subst hx;exact⟨by rw[ER hy,CV h3,Ay],by rw[Ee,AK h3]⟩
theorem split2{l:List Nat}{p:Nat}(h:l.length=p+2):∃w a b,l=w++[a,b]/\w.length=p:=by
 refine⟨l.take p,l[p],l[p+1],?_,by simp;omega⟩
 conv=>lhs;rw[<- BW p l]
 congr 1;rw[AY (by omega),AY (by omega),AN (by omega)]
set_option maxHeartbeats 4000000 in
theorem qvi{x y p:Nat}{l:List Nat}{d:Nat}(hy:dg 4294967296 y=l++[d])(hl:l.length=p+1)(hd:d≠0)(hdl:d<4294967296)(hyx:y<=x)(hx:(dg 4294967296 x).length<=549755813000) :
  Ev En 203 [L32 (dg 4294967296 x),L32 (dg 4294967296 y)] [L32 (dg 4294967296 (x / y)),L32 (dg 4294967296 (x%y)),.int .i64 0]:=by
 have hlen:(dg 4294967296 y).length=p+2:=by rw[hy];simp[hl]
 have hxy:p+2<=(dg 4294967296 x).length:=by
  rw[<- hlen];apply Dl;intro hlt;have:=qa7 qq hlt;omega
 obtain⟨n1,h1⟩:=qa2 (x:=x) (y:=y) (by omega) (by omega);refine Ev.of (n1+(dg 4294967296 x).length+p+20) λn hn=>?_;obtain⟨n,rfl⟩:∃k,n=k+2:=⟨n-2,by omega⟩;obtain⟨c1,c2⟩:=shlL_v hy hd hdl;obtain⟨b1,b2,b3⟩:=qev hd;have b4:=bl_le (x:=d) (k:=32) (by omega);obtain⟨s,hs⟩:∃s,32-bl d=s:=⟨_,rfl⟩;rw[hs]at c1 c2;have hs32:s<32:=by omega
 have dy:=q12 qq y;have dx:=q12 qq x;have hvs:=qi6 (B:=4294967296) (s:=s) (dg 4294967296 y) 0;rw[q22 qq,Ay]at hvs;have hus:=qi6 (B:=4294967296) (s:=s) (dg 4294967296 x) 0;rw[q22 qq,Ay]at hus;obtain⟨v,hv1,hv2,hv3,hv4⟩:=qi7 (n:=p+2) (qi8 hs32 (dg 4294967296 y) 0 dy (Bx (by omega))) (by rw[qi9,hlen]) (by rw[hvs,show p+2=l.length+1 by omega];exact c1);rw[hvs]at hv4;obtain⟨vlo,v2,v1,ev,hvl⟩:=split2 hv2;subst ev;have hv1b:2147483648<=v1:=by
  have hlt:=q4m (b:=4294967296) (by omega) (show Dg 4294967296 (vlo++[v2]) from λz hz=>hv3 z (by simp at hz ⊢;rcases hz with q | q <;> simp[q]));have e:vl 4294967296 (vlo++[v2,v1])=vl 4294967296 (vlo++[v2])+4294967296^(p+1)*v1:=by
   rw[show vlo++[v2,v1]=(vlo++[v2])++[v1] by simp,qa4];simp[hvl]
  rw[show(vlo++[v2]).length=p+1 by simp[hvl]]at hlt;rw[hl]at c2;rw[hv4]at e;apply Dl;intro hc;have:4294967296^(p+1)*(v1+1)<=4294967296^(p+1)*2147483648:=BB _ hc;rw[Ce,AC _ 2147483648]at this;omega
 have hud:=qi8 hs32 (dg 4294967296 x) 0 dx (Bx (by omega));have hul:=qi9 (s:=s) (dg 4294967296 x) 0;obtain⟨k',hk'⟩:∃k',(dg 4294967296 x).length+1=k'+(p+2):=⟨(dg 4294967296 x).length-p-1,by omega⟩;have hk0:1<=k':=by omega
 generalize hu:shlL 4294967296 s (dg 4294967296 x) 0=u at *
 have hlo:(u.take k').length=k':=by simp;omega
 have hhi:(u.drop k').length=p+2:=by simp;omega
 have hsum:vl 4294967296 (u.take k')+4294967296^k'*vl 4294967296 (u.drop k')=x*2^s:=by
  rw[<- hus]
  conv=>rhs;rw[<- BW k' u,q6e,hlo]
 have hxlt:x<4294967296^(dg 4294967296 x).length:=q98 qq x;have hlt:vl 4294967296 (u.drop k')<vl 4294967296 (vlo++[v2,v1]):=by
  rw[hv4];apply Nat.lt_of_not_le;intro hc;rw[hl]at c2;have i1:4294967296^k'*(2147483648*4294967296^(p+1))<=x*2^s:=AZ (BB _ (AZ c2 hc)) (by omega);have i2:4294967296^k'*(2147483648*4294967296^(p+1))=4294967296^(dg 4294967296 x).length*2147483648:=by
   rw[DU,<- BZ,AC,show k'+(p+1)=(dg 4294967296 x).length by omega]
  have i3:x*2^s<4294967296^(dg 4294967296 x).length*2147483648:=by
   have:2^s<=2^31:=AX (by omega) (by omega)
   calc x*2^s<=x*2^31:=BB _ this
    _<4294967296^(dg 4294967296 x).length*2^31:=Fw hxlt (by omega)
  rw[i2]at i1;exact absurd i3 (Nat.not_lt.2 i1)
 obtain⟨hf,qf,f1,f2,f3,f4,f5,f6,f7⟩:=div_loop (n:=n+2) (l0:=[]) (l1:=[]) (s:=(s:Int)) hvl hv3 hv1b k' (n+2) (u.take k') (u.drop k') [] [] hlo (by omega) (by omega) hhi (λz hz=>hud z (CL hz)) (λz hz=>hud z (Cy hz)) hlt (by omega);rw[hsum,hv4]at f6;rw[hv4]at f3;obtain⟨g1,g2⟩:=unshift f6 f3;rw[AM,AM,AM,BW]at f7;have hdlast:at' ((dg 4294967296 y).map d32) (p+1) 0=some (.int .u32 (d:Int)):=by rw[hy];exact q48 hl
 rw[qga,Aa,hlen,show((((p+2:Nat)):Int)==0)=false by simp;omega,Ab,h1 _ (by omega),Ae,Aj,qi,Ae,
  Ad (by unfold cmpN;rw[if_neg (by omega)];split <;> omega),Ab,show((((p+2:Nat)):Int)==1)=false by simp;omega,Ab,
  show w6 (((p+2:Nat):Int)-1)=((p+1:Nat):Int) by rw[qk];omega,q9,Ae,hdlast,qi,Ae,qqp,qn6 hdl,Ae,Aj,qi,Ae,
  show w6 (32-((bl d:Nat):Int))=(s:Int) by rw[qk];omega,Ae,Aj,qi,Ae,q1b (show s<18446744073709551616 by omega),
  qn7 dy hs32,Ae,Aj,qy,Ae,qn7 dx hs32]
 rw[hv1,hu];have hvw:(Rf.viewOf Option.none (((vlo++[v2,v1]++[0]).map d32).length))=(0,p+3):=by
  show((0:Nat),((vlo++[v2,v1]++[0]).map d32).length)=_;simp[hvl]
 rw[hvw]
 rw[q1v (show p+2<=p+3 by omega),Ae,Ae,Aj,qy,Ae,Aa,hul,hk',
  show w6 (((k'+(p+2):Nat):Int)-((p+2:Nat):Int))=(k':Int) by rw[qk];omega,mk4,Ae,q1v (Ak _),Ae,rep0,Aa,Dd]
 have e7:List.take (p+2-0) (List.drop (((0:Nat),p+3).fst+0) ((vlo++[v2,v1]++[0]).map d32))=(vlo++[v2,v1]).map d32:=by
  rw[show(((0:Nat),p+3).fst+0)=0 from rfl,Av,Em,Bc,Ea (by simp[hvl]),CU (by simp[hvl])]
 rw[e7];rw[show w6 ((k':Int)-1)=(k':Int)-1 from qk,f7];have hhead:(hf++List.replicate k' 0).take (p+2+1)=hf++[0]:=by
  obtain⟨k,rfl⟩:∃k,k'=k+1:=⟨k'-1,by omega⟩;rw[Cc,show hf++0::List.replicate k 0=(hf++[0])++List.replicate k 0 by simp,Ea (by simp[f1]),CU (by simp[f1])]
 have hfl:=fin_loop (n:=n+2) (l0:=[]) (l1:=[]) (s:=s) (nn:=p+2) (u:=hf++List.replicate k' 0) (q:=qf) (f2.app (λz hz=>by have:=CJ hz;omega)) hs32 (by simp[f1];omega) (by simp[f1];omega) (by omega) (by omega) (p+2) 0 (n+2) [] (by omega) (by omega) rfl;rw[At,At,Av,hhead,show((0:Nat):Int)=0 from rfl]at hfl;rw[hfl];have eB:2^(32-s+s)=4294967296:=by rw[show 32-s+s=32 by omega]
 obtain⟨hz,t,eh⟩:∃a t,hf=a::t:=by
  cases hf with
  |nil=>simp at f1
  |cons a t=>exact⟨a,t,rfl⟩
 have hsh:=shrL_ok (K:=32-s) (s:=s) (t++[0]) hz (by rw[eB,<- Al,<- eh];exact f2.app (λz hz=>by simp at hz;omega));rw[eB,<- Al,<- eh]at hsh;obtain⟨s1,s2,s3⟩:=hsh;rw[qa4,Cj,Ay]at s3;have hRlt:vl 4294967296 hf / 2^s<4294967296^(t++[0]).length:=by
  have i1:=q4m (b:=4294967296) (by omega) f2;rw[eh]at i1;refine BG (Ds _ _) ?_;rw[eh];simpa using i1
 rw[AK hRlt]at s3;rw[g1,g2,s3,q39 qq s1,<- q39 qq f5]
theorem qmn{x y:Nat}(hy0:y≠0)(hx:(dg 4294967296 x).length<=549755813000)(hyl:(dg 4294967296 y).length<=549755813000) :
  Ev En 203 [L32 (dg 4294967296 x),L32 (dg 4294967296 y)] [L32 (dg 4294967296 (x / y)),L32 (dg 4294967296 (x%y)),.int .i64 0]:=by
 obtain⟨l,d,hy,hd,hdl⟩:=qia hy0;have hlen:(dg 4294967296 y).length=l.length+1:=by rw[hy];simp
 by_cases hlt:x<y
 ·obtain⟨n1,h1⟩:=qa2 (x:=x) (y:=y) (by omega) (by omega);refine Ev.of n1 λn hn=>?_
  rw[qga,Aa,hlen,show((((l.length+1:Nat)):Int)==0)=false by simp;omega,Ab,h1 _ (by omega),Ae,Aj,qi,Ae,
   Af (by unfold cmpN;rw[if_pos hlt];omega),Ac,CV hlt,AK hlt,q18]
  rfl
 ·cases hp:l.length with
  |zero =>
   have:l=[]:=BF hp;subst this;rw[At]at hy;have hv:=q22 qq y;rw[hy]at hv;simp only[vl,Cj,Ay]at hv;subst hv;obtain⟨n1,h1⟩:=qa2 (x:=x) (y:=d) (by omega) (by omega);obtain⟨n2,h2⟩:=qn8 (x:=x) (k:=d) (by omega) hdl (by omega);obtain⟨n3,h3⟩:=qhr (x:=x%d) (by have:=AL x (show 0<d by omega);omega);have hml:=AL x (show 0<d by omega);refine Ev.of (n1+n2+n3) λn hn=>?_
   rw[qga,Aa,h1 _ (by omega),hy,show((([d].length:Nat):Int)==0)=false from rfl,Ab,Ae,Aj,qi,Ae,
    Ad (by unfold cmpN;rw[if_neg hlt];split <;> omega),Ab,show((([d].length:Nat):Int)==1)=true from rfl,Ac,show ix 0 [d].length=some 0 from rfl,Ae,show at' ([d].map d32) 0 0=some (.int .u32 (d:Int)) from rfl,qi,Ae,
    h2 _ (by omega),Ae,Aj,qy,Ae,AO,Aj,qi,Ae,q1b,h3 _ (by omega),Ae,Aj,qy,Ae]
  |succ p=>exact qvi (p:=p) hy hp hd hdl (by omega) hx
theorem word_gcd{n m0:Nat}{l0:List FV}:∀(y x m:Nat),y<m->q3k.l4 n [m0] m [.list 1 l0,.int .u64 (x:Int),.int .u64 (y:Int)]=(evF En n 204 [.int .u64 ((Nat.gcd x y:Nat):Int)]).bind λr0=>(asLst 1 (r0[0]?)).bind λv1=>some [.list 1 v1]:=by
 intro y
 induction y using Nat.strongRecOn with
 |_ y ih =>
  intro x m hm;obtain⟨m,rfl⟩:=qSx m;rw[q3k.q14];rcases Bs y with h0 | h0
  ·subst h0;rw[Ad,Ab,Ec]
  ·have hlt:=AL x h0;rw[Af,Ac,Ad,Ab,show Int.tmod (x:Int) (y:Int)=((x%y:Nat):Int) from rfl,ih (x%y) hlt y m (by omega),Cz y,<- Ed,Cz]
theorem qn9{x:Nat}(h:(dg 4294967296 x).length<=2):x<18446744073709551616:=by
 have h1:=q98 qq x;have h2:4294967296^(dg 4294967296 x).length<=4294967296^2:=AX (by omega) h;omega
theorem qew{x y:Nat}(h:x<=y):(dg 4294967296 x).length<=(dg 4294967296 y).length:=by
 apply Dl;intro hlt;have:=qa7 qq hlt;omega
theorem gcd_loop:∀(y x:Nat),(dg 4294967296 x).length<=549755813000->(dg 4294967296 y).length<=549755813000->∃n0,∀n m l2,n0<=n->n0<=m ->
  q3k.l1 n [] m [L32 (dg 4294967296 x),L32 (dg 4294967296 y),.list 1 l2]=some [L32 (dg 4294967296 (Nat.gcd x y))]:=by
 intro y
 induction y using Nat.strongRecOn with
 |_ y ih =>
  intro x hx hy;rcases Bs y with h0 | h0
  ·subst h0;refine⟨1,λn m l2 hn hm=>?_⟩;obtain⟨m,rfl⟩:=qSx m;rw[q3k.q30,Aa,q18,Ad (by simp),Ab,Ec]
  ·have hlt:=AL x h0;have hl0:0<(dg 4294967296 y).length:=by
    rcases Bs (dg 4294967296 y).length with q | q
    ·have:=(q52 qq).1 (BF q);omega
    ·exact q
   by_cases hw:(dg 4294967296 x).length<=2/\(dg 4294967296 y).length<=2
   ·have sx:=qn9 hw.1;have sy:=qn9 hw.2;have hg:Nat.gcd x y<18446744073709551616:=BG (Nat.gcd_le_right x h0) sy;obtain⟨n1,h1⟩:=qna sx;obtain⟨n2,h2⟩:=qna sy;obtain⟨n3,h3⟩:=qhr hg;refine⟨n1+n2+n3+y+1,λn m l2 hn hm=>?_⟩;obtain⟨m,rfl⟩:=qSx m
    rw[q3k.q30,Aa,Aa,Af,Ac,Af,Ac,Af,Ac,h1 _ (by omega),Ae,Aj,qi,Ae,
     h2 _ (by omega),Ae,Aj,qi,Ae,word_gcd y x n (by omega),h3 _ (by omega),Ae,Aj,qy,Ae]
   ·obtain⟨n1,h1⟩:=qmn (x:=x) (y:=y) (by omega) hx hy;have hm1:=qew (CW hlt);obtain⟨n2,h2⟩:=ih (x%y) hlt y hy (by omega);refine⟨n1+n2+1,λn m l2 hn hm=>?_⟩;obtain⟨m,rfl⟩:=qSx m;have key:∀l2,(evF En n 203 [L32 (dg 4294967296 x),L32 (dg 4294967296 y)]).bind (λr4=>(asLst 1 (r4[0]?)).bind λv5=>(asLst 1 (r4[1]?)).bind λv6=>(asInt .i64 (r4[2]?)).bind λn7=>q3k.l1 n [] m [L32 (dg 4294967296 y),.list 1 v6,.list 1 l2])=some [L32 (dg 4294967296 (Nat.gcd x y))]:=λl2=>by
     rw[h1 _ (by omega),Ae,Aj,qy,Ae,AO,Aj,qy,Ae,AO,AO,Aj,qi,Ae,h2 n m l2 (by omega) (by omega),Cz y,<- Ed,Cz]
    rw[q3k.q30,Aa,Aa,Af,Ac];by_cases ha:(dg 4294967296 x).length<=2
    ·rw[Af,Ac,Ad,Ab];exact key l2
    ·rw[Ad,Ab];exact key l2
theorem natGcd_ev{x y:Nat}(hx:(dg 4294967296 x).length<=549755813000)(hy:(dg 4294967296 y).length<=549755813000):Ev En 219 [L32 (dg 4294967296 x),L32 (dg 4294967296 y)] [L32 (dg 4294967296 (Nat.gcd x y))]:=by
 obtain⟨n0,h⟩:=gcd_loop y x hx hy;refine Ev.of n0 λn hn=>?_;rw[qqm];exact h n n [] hn hn
end Rf
end
section
set_option maxHeartbeats 2000000
set_option maxRecDepth 10000
namespace Rf
open Go
theorem setS{pre:List (List UInt8)}{x y:List UInt8}{r:List (List UInt8)}{i:Nat}(h:pre.length=i):List.set ((pre++x::r).map sF) i (.str (txt y))=(pre++y::r).map sF:=by
 rw[Bc,AQ,qb8 (by simpa using h)];simp[sF]
theorem midS{pre:List (List UInt8)}{x:List UInt8}{r:List (List UInt8)}{i:Nat}(h:pre.length=i):at' ((pre++x::r).map sF) i 0=some (.str (txt x)):=by
 subst h;rw[q2a,CT (Ak _),Cn];rfl
theorem rev_loop{n:Nat}:∀(k m:Nat) (a mid b:List (List UInt8)),mid.length<=k->mid.length<m->(a++mid++b).length<=9000000000000 ->
  q7y.l1 n [] m [.list 1 ((a++mid++b).map sF),.int .i64 (a.length:Int),.int .i64 ((a.length:Int)+(mid.length:Int)-1)]=some [.list 1 ((a++mid.reverse++b).map sF)]:=by
 intro k
 induction k with
 |zero =>
  intro m a mid b hk hm hl;obtain⟨m,rfl⟩:=qSx m;have:mid=[]:=BF (by omega);subst this;rw[q7y.q30,Ad (by simp;omega),Ab];rfl
 |succ k ih =>
  intro m a mid b hk hm hl;obtain⟨m,rfl⟩:=qSx m;cases mid with
  |nil=>rw[q7y.q30,Ad (by simp;omega),Ab];rfl
  |cons x mid =>
   rcases Dm mid with rfl | ⟨mid',y,e⟩
   ·rw[q7y.q30,Ad (by simp),Ab];rfl
   ·rw[EJ]at e;subst e;simp only[Bb,Aq,Bf]at hk hm hl;have e1:a++x::(mid'++[y])++b=(a++x::mid')++y::b:=by simp
    have e2:a++x::(mid'++[y])++b=a++x::(mid'++y::b):=by simp
    have hj:(a.length:Int)+((x::(mid'++[y])).length:Int)-1=((a.length+mid'.length+1:Nat):Int):=by simp;omega
    have hlen:((a++x::(mid'++[y])++b).map sF).length=a.length+mid'.length+2+b.length:=by simp;omega
    have h1:at' ((a++x::(mid'++[y])++b).map sF) (a.length+mid'.length+1) 0=some (.str (txt y)):=by rw[e1];exact midS (by simp;omega)
    have h2:at' ((a++x::(mid'++[y])++b).map sF) a.length 0=some (.str (txt x)):=by rw[e2];exact midS rfl
    have s1:List.set ((a++x::(mid'++[y])++b).map sF) a.length (.str (txt y))=((a++y::mid')++y::b).map sF:=by rw[e2,setS rfl];simp
    have s2:List.set (((a++y::mid')++y::b).map sF) (a.length+mid'.length+1) (.str (txt x))=((a++y::mid')++x::b).map sF:=setS (by simp;omega);have hlen2:(((a++y::mid')++y::b).map sF).length=a.length+mid'.length+2+b.length:=by simp;omega
    rw[hj,q7y.q30,Af,Ac,hlen,q9,Ae,h1,q2k,Ae,q9,Ae,h2,q2k,Ae,Ae,s1,hlen2,q9,Ae,s2,qc,
     show w6 (((a.length+mid'.length+1:Nat):Int)-1)=((a.length+mid'.length:Nat):Int) by rw[qk];omega]
    have:=ih m (a++[y]) mid' (x::b) (by omega) (by omega) (by simp;omega);have e3:((a++[y]).length:Int)+(mid'.length:Int)-1=((a.length+mid'.length:Nat):Int):=by simp;omega
    have e4:((a++[y]).length:Int)=((a.length+1:Nat):Int):=by simp
    rw[e3,e4]at this;rw[show(a++y::mid')++x::b=a++[y]++mid'++x::b by simp,this];simp
theorem qvj{n:Nat}{P:List (List UInt8)}(h:P.length<=9000000000000)(hn:P.length<n):evF En (n+1) 208 [.list 1 (P.map sF)]=some [.list 1 (P.reverse.map sF)]:=by
 rw[qs2,Aa,show w6 ((P.length:Int)-1)=(P.length:Int)-1 from qk];have:=rev_loop (n:=n) P.length n [] P [] (by omega) (by omega) (by simpa using h);simpa using this
theorem qvk{n x:Nat}(h:x<1000000000000):evF En (n+1) 206 [.int .u64 (x:Int),.int .i64 10]=some [sF (ql x)]:=by
 show formatExt [.int .u64 (x:Int),.int .i64 10]=_;simp only[formatExt];rw[if_pos ⟨by omega,by omega,trivial⟩,Bh]
theorem qvl{n k:Nat}(h:k<=9):evF En (n+1) 207 [.str { data:=#[48] },.int .i64 (k:Int)]=some [sF (List.replicate k 48)]:=by
 show repeatExt [.str { data:=#[48] },.int .i64 (k:Int)]=_;simp only[repeatExt];rw[if_pos ⟨trivial,by omega,by omega⟩,Bh]
theorem join_run{n:Nat}{P:List (List UInt8)}(h:P.length<=1099511627776)(h':P.flatten.length<=1099511627776):evF En (n+1) 209 [.list 1 (P.map sF),.str { data:=#[] }]=some [sF P.flatten]:=by
 show joinExt [.list 1 (P.map sF),.str { data:=#[] }]=_;have e:(P.map sF).map byts=P:=by
  rw[Cu]
  conv=>rhs;rw[<- Et P]
  congr 1
 simp only[joinExt];rw[e,if_pos ⟨trivial,by simp[q6l],by simpa using h,h'⟩]
theorem qnb{n:Nat}{l:List UInt8}(h:l.length<=1099511627776:=by omega):evF En (n+1) 248 [.str (txt l),.str { data:=#[48,49,50,51,52,53,54,55,56,57] }]=some [sF (q8j l dgts)]:=by
 show trimExt [.str (txt l),.str { data:=#[48,49,50,51,52,53,54,55,56,57] }]=_;simp only[trimExt];rw[q7s,if_pos ⟨rfl,h⟩]
theorem parse_run{n:Nat}{l:List UInt8}(h0:l≠[])(h9:l.length<=9)(hd:∀c,c∈l->isD c=true):evF En (n+1) 249 [.str (txt l),.int .i64 10,.int .i64 32]=some [.int .u64 ((vD l:Nat):Int),.raw .nilIface]:=by
 show parseExt [.str (txt l),.int .i64 10,.int .i64 32]=_;simp only[parseExt];rw[q7s,if_pos ⟨h0,h9,Au.2 hd,trivial,trivial⟩]
theorem ixB_in:∀ {l:List UInt8},47∈l->ixB l 47=((cutA l).length:Int)
 |[],h=>by simp at h
 |b::l,h=>by
  by_cases hb:b=47
  ·subst hb;rfl
  ·have hl:47∈l:=by
    rcases Ar.1 h with h | h
    ·exact absurd h.symm hb
    ·exact h
   have ih:=ixB_in hl;have h1:(b==47)=false:=by simpa using hb
   have h2:(ixB l 47==-1)=false:=by rw[ih,Bn];omega
   have h3:(b !=47)=true:=by simpa using hb
   simp only[ixB,h1,h2,Br,BH];have e:cutA (b::l)=b::cutA l:=by unfold cutA;rw[DV,h3,if_pos rfl]
   rw[ih,e,Aq];rfl
theorem ixB_out:∀ {l:List UInt8},47 ∉ l->ixB l 47=-1
 |[],_=>rfl
 |b::l,h=>by
  simp only[Ar,not_or]at h;have h1:(b==47)=false:=by simpa using λq=>h.1 q.symm
  simp only[ixB,h1,ixB_out h.2,Br,BH];rfl
theorem cut_run{n:Nat}{l:List UInt8}(h:l.length<=1000000000:=by omega):evF En (n+4) 176 [.str (txt l),.str { data:=#[47] }]=some [sF (cutA l),sF (cutB l),.bool (l.contains 47)]:=by
 have hidx:∀c:UInt8,evF En (n+1) 262 [.str (txt l),.int .u8 (c.toNat:Int)]=some [.int .i64 (ixB l c)]:=λc=>by
  show idxExt [.str (txt l),.int .u8 (c.toNat:Int)]=_;simp only[idxExt];rw[q7s];simp
 have hin:evF En (n+2) 246 [.str (txt l),.str (txt [47])]=some [.int .i64 (ixB l 47)]:=by
  rw[qs4,q1c,show((([47]:List UInt8).length:Int)==0)=false from rfl,Ab,q3d];by_cases he:l=[47]
  ·subst he;rw[Af rfl];rfl
  ·have h0:=q4g [47] 0;rw[show((0:Nat):Int)=0 from rfl,Aj,AD]at h0;rw[Ad (λq=>he q.symm),Ab,show((([47]:List UInt8).length:Int)==1)=true from rfl,Ac,h0,Ae,hidx];rfl
 rw[show({ data:=#[47] }:ByteArray)=txt [47] from rfl,qs1,qs3,hin];simp only[Ae,Aj,qi];by_cases h47:47∈l
 ·have hj:=congrArg List.length (qdm h47);simp only[Bb,Aq]at hj;have key:∀a b:List UInt8,((a++47::b).take a.length).drop 0=a/\((a++47::b).take (a++47::b).length).drop (a.length+1)=b:=λa b=>by
   refine⟨by rw[Av,List.take_left],?_⟩;rw[Bj,show a++47::b=(a++[47])++b by simp,show a.length+1=(a++[47]).length by simp,List.drop_left]
  obtain⟨e1,e2⟩:=key (cutA l) (cutB l);rw[<- qdm h47]at e1 e2;rw[ixB_in h47,Af,Ac,q1c,q1c,q1v,Ae,show((([47]:List UInt8).length:Nat):Int)=((1:Nat):Int) from rfl,q2n,q1v,Ae,q5n,q5n,e1,e2];have:l.contains 47=true:=by simpa using h47
  rw[this];rfl
 ·obtain⟨c1,c2⟩:=qes h47;have:l.contains 47=false:=by simpa using h47
  rw[ixB_out h47,Ad,Ab,c1,c2,this];rfl
def chunks(x:Nat):List (List UInt8) :=
 if h:x=0 then []else
  (if x / 1000000000=0 then ql (x%1000000000)else List.replicate (9-(ql (x%1000000000)).length) 48++ql (x%1000000000))::chunks (x / 1000000000)
termination_by x
decreasing_by exact Cv (by omega) (by omega)
theorem dtext_dK(d:Nat)(h:d<1000000000):List.replicate (9-(ql d).length) 48++ql d=((dK 9 d).reverse).map chD:=by
 rw[dK_dg 9 d (by omega)];unfold ql;rcases Bs d with h0 | h0
 ·subst h0;rw[if_pos rfl,q18];decide
 ·rw[if_neg (by omega)];rw[EB,Bc,List.reverse_replicate,EQ,Aa,Fx];rfl
theorem qvm{d:Nat}(h:d<1000000000):1<=(ql d).length/\(ql d).length<=9:=by
 unfold ql;rcases Bs d with h0 | h0
 ·subst h0;simp
 ·rw[if_neg (by omega),Aa,Fx];have:=q5i (b:=10) (by omega) (n:=d) (k:=9) (by omega);have:dg 10 d≠[]:=λq=>by have:=(q52 (b:=10) (by omega)).1 q;omega
  have:=Db.2 this;omega
theorem qnc:∀(x:Nat),x≠0->(chunks x).reverse.flatten=ql x:=by
 intro x
 induction x using Nat.strongRecOn with
 |_ x ih =>
  intro h0;rw[chunks,Cg h0];have hm:x%1000000000<1000000000:=AL _ (by omega);by_cases hq:x / 1000000000=0
  ·rw[if_pos hq,hq,chunks,BY rfl];simp only[Fy,List.reverse_nil,At,List.flatten_cons,List.flatten_nil,AM];congr 1;omega
  ·rw[if_neg hq,Fy,List.flatten_append,ih _ (Cv (by omega) (by omega)) hq,dtext_dK _ hm];have e:=dg_dK hq 9 (x%1000000000) (by omega);rw[show x%1000000000+10^9*(x / 1000000000)=x by omega]at e;unfold ql;rw[if_neg hq,if_neg h0,e];simp
theorem qnd:∀(k x:Nat),x<1000000000^k->(chunks x).length<=k
 |0,x,h=>by
  have:x=0:=by simpa using h
  subst this;rw[chunks,BY rfl];simp
 |k+1,x,h=>by
  rw[chunks];split
  ·simp
  ·simp only[Aq];have:=qnd k (x / 1000000000) (by rw[BJ (by omega),<- Ax];exact h);omega
theorem q4c{a b:Nat}(h:a<=b):Nat.ble a b=true:=by rw[Nat.ble_eq];exact h
theorem text_loop:∀(x k:Nat),x<1000000000^k->(dg 4294967296 x).length<=549755813000->∃n0,∀n m (P:List (List UInt8)),n0<=n->n0<=m->P.length+k<=1000000000000 ->
  q8n.l4 n [] m [L32 (dg 4294967296 x),.list 1 (P.map sF)]=(evF En n 208 [.list 1 ((P++chunks x).map sF)]).bind λr7=>(asLst 1 (r7[0]?)).bind λv8=>(evF En n 209 [.list 1 v8,.str { data:=#[] }]).bind λr9=>(asStr (r9[0]?)).bind λu10=>some [.str u10]:=by
 intro x
 induction x using Nat.strongRecOn with
 |_ x ih =>
  intro k hk hx;rcases Bs x with h0 | h0
  ·subst h0;refine⟨1,λn m P hn hm hP=>?_⟩;obtain⟨m,rfl⟩:=qSx m;rw[q8n.q14,Aa,q18,Ad (by simp),Ab,chunks,BY rfl,AM]
  ·obtain⟨k,rfl⟩:∃j,k=j+1:=⟨k-1,by
    rcases Bs k with q | q
    ·subst q;simp at hk;omega
    ·omega⟩
   have hlt:x / 1000000000<x:=Cv (by omega) (by omega);have hm9:x%1000000000<1000000000:=AL _ (by omega);have hlm:=qew (CW hlt);obtain⟨n1,h1⟩:=ih (x / 1000000000) hlt k (by rw[BJ (by omega),<- Ax];exact hk) (by omega);obtain⟨n2,h2⟩:=qn8 (x:=x) (k:=1000000000) (by omega) (by omega) (by omega);obtain⟨t1,t2⟩:=qvm hm9;have hl0:0<(dg 4294967296 x).length:=by
    rcases Bs (dg 4294967296 x).length with q | q
    ·have:=(q52 qq).1 (BF q);omega
    ·exact q
   refine⟨n1+n2+2,λn m P hn hm hP=>?_⟩;obtain⟨m,rfl⟩:=qSx m;obtain⟨n,rfl⟩:=qSx n;have h2':=h2 (n+1) (by omega);rw[show(((1000000000:Nat)):Int)=1000000000 from rfl]at h2'
   rw[q8n.q14,Aa,Af,Ac,h2',Ae,Aj,qy,Ae,AO,Aj,qi,Ae,
    q1b,qvk (by omega),Ae,Aj,q2k,Ae,Aa]
   by_cases hq:x / 1000000000=0
   ·rw[hq,q18,Bf,Ad,Ab,show qd 1 (.str { data:=#[] }) [(0,FV.str (txt (ql (x%1000000000))))]=[sF (ql (x%1000000000))] from rfl,Aa,q4c (by simp;omega),Ac];have:=h1 (n+1) m (P++[ql (x%1000000000)]) (by omega) (by omega) (by simp;omega);rw[hq,q18,Bc]at this;refine this.trans ?_;rw[Ap,BM]
    conv=>rhs;rw[chunks,Cg (by omega),if_pos hq,hq]
   ·have hl1:0<(dg 4294967296 (x / 1000000000)).length:=by
     rcases Bs (dg 4294967296 (x / 1000000000)).length with q | q
     ·exact absurd ((q52 qq).1 (BF q)) hq
     ·exact q
    rw[Af,Ac,q1c,show w6 (9-((ql (x%1000000000)).length:Int))=((9-(ql (x%1000000000)).length:Nat):Int) by rw[qk];omega,
     qvl (by omega),Ae,Aj,q2k,Ae,q1c,Dd,Ad,Ab,q5m]
    rw[show ∀u,qd 1 (.str { data:=#[] }) [(0,FV.str u)]=[FV.str u] from λu=>rfl,Aa,q4c (by simp;omega),Ac];have:=h1 (n+1) m (P++[List.replicate (9-(ql (x%1000000000)).length) 48++ql (x%1000000000)]) (by omega) (by omega) (by simp;omega);rw[Bc]at this;refine this.trans ?_;rw[Ap,BM]
    conv=>rhs;rw[chunks,Cg (by omega),if_neg hq]
theorem quy{x k:Nat}(hk:x<1000000000^k)(hk':k<=100000000000)(hx:(dg 4294967296 x).length<=549755813000)(ht:(ql x).length<=1099511627776):Ev En 148 [L32 (dg 4294967296 x)] [sF (ql x)]:=by
 obtain⟨n0,h⟩:=text_loop x k hk hx;refine Ev.of (n0+k+3) λn hn=>?_;rw[qqf,Aa];rcases Bs x with h0 | h0
 ·subst h0;rw[q18];rfl
 ·have hl0:0<(dg 4294967296 x).length:=by
   rcases Bs (dg 4294967296 x).length with q | q
   ·have:=(q52 qq).1 (BF q);omega
   ·exact q
  have hc:=qnd k x hk;obtain⟨n,rfl⟩:=qSx n;rw[show((((dg 4294967296 x).length:Nat):Int)==0)=false by rw[Bn];omega,Ab];have:=h (n+1) (n+1) [] (by omega) (by omega) (by simp;omega);rw[BE,At]at this;rw[this,qvj (by omega) (by omega),Ae,Aj,qy,Ae,join_run (by rw[Fx];omega) (by rw[qnc x (by omega)];exact ht),Ae,Aj,q2k,Ae,qnc x (by omega)]
end Rf
end
section
set_option maxHeartbeats 2000000
set_option maxRecDepth 10000
namespace Rf
open Go
theorem dgts_isD:∀c:UInt8,dgts.contains c=isD c:=by
 have h:∀n:Fin 256,dgts.contains (UInt8.ofNat n.val)=isD (UInt8.ofNat n.val):=by decide +kernel
 intro c;have:=h ⟨c.toNat,c.toNat_lt⟩;simpa using this
theorem drop_nil{p:UInt8->Bool}:∀ {l:List UInt8},l.dropWhile p=[]↔∀c,c∈l->p c=true
 |[]=>by simp
 |x::l=>by
  rw[DW];by_cases h:p x=true
  ·rw[if_pos h,drop_nil];simp[h]
  ·rw[if_neg h];simp[h]
theorem qne{p:UInt8->Bool}:∀ {l:List UInt8},l.dropWhile p≠[]->∃c,c∈l.dropWhile p/\p c=false
 |[],h=>by simp at h
 |x::l,h=>by
  rw[DW]at h ⊢;by_cases hx:p x=true
  ·rw[if_pos hx]at h ⊢;exact qne h
  ·rw[if_neg hx];exact⟨x,by simp,by simpa using hx⟩
theorem qnf(l:List UInt8):q8j l dgts=[]↔∀c,c∈l->isD c=true:=by
 have e:(λx=>dgts.contains x)=isD:=funext dgts_isD;unfold q8j;rw[e];constructor
 ·intro h;by_cases h1:l.reverse.dropWhile isD=[]
  ·intro c hc;exact drop_nil.1 h1 c (by simpa using hc)
  ·obtain⟨c,hc,hp⟩:=qne h1;have:=drop_nil.1 h c (by simpa using hc);rw[hp]at this;cases this
 ·intro h;have:l.reverse.dropWhile isD=[]:=drop_nil.2 λc hc=>h c (by simpa using hc);rw[this];rfl
theorem qvn{n m0:Nat}{l0 l1:List FV}{s:ByteArray}{cnt:Nat}(hc:cnt<=9):∀(d i m:Nat),i+d=cnt->d<m ->
  q3j.l8 n [m0] m [.list 1 l0,.list 1 l1,.str s,.int .i64 (cnt:Int),.int .u32 ((10^i:Nat):Int),.int .i64 (cnt:Int),.int .i64 (i:Int)] =
   (bd (cnt:Int) s.size).bind λi0=>(evF En n 249 [.str (s.extract 0 i0),.int .i64 10,.int .i64 32]).bind λr1=>(asInt .u64 (r1[0]?)).bind λn2=>(evF En n 250 [.list 1 l1,.int .u32 ((10^cnt:Nat):Int),.int .u32 (Go.IntKind.wrap .u32 n2)]).bind λr3=>(asLst 1 (r3[0]?)).bind λv4=>(bd (cnt:Int) s.size).bind λi5=>q3j.l4 n [] m0 [.list 1 l0,.list 1 v4,.str (s.extract i5 s.size)]:=by
 intro d
 induction d with
 |zero =>
  intro i m hi hm;obtain⟨m,rfl⟩:=qSx m;obtain rfl:i=cnt:=by omega
  rw[q3j.l8_eq,Ad,Ab]
 |succ d ih =>
  intro i m hi hm;obtain⟨m,rfl⟩:=qSx m;have hp:10^(i+1)<=10^9:=AX (by omega) (by omega);have e:=Ax 10 i;rw[q3j.l8_eq,Af,Ac,qc,show(((10^i:Nat)):Int)*10=((10^(i+1):Nat):Int) by rw[e];rfl,q6q];exact ih (i+1) m (by omega) (by omega)
theorem qvo:∀(k:Nat) (l:List UInt8) (a:Nat),l.length<=k->(∀c,c∈l->isD c=true)->l.length<=1000000000->(dg 4294967296 (a*10^l.length+vD l)).length<=549755813000->∃n0,∀n m l0,n0<=n->n0<=m ->
  q3j.l4 n [] m [.list 1 l0,L32 (dg 4294967296 a),.str (txt l)]=some [L32 (dg 4294967296 (a*10^l.length+vD l)),.int .i64 0]:=by
 intro k
 induction k with
 |zero =>
  intro l a hk hd hl hb;have:l=[]:=BF (by omega);subst this;refine⟨1,λn m l0 hn hm=>?_⟩;obtain⟨m,rfl⟩:=qSx m;rw[q3j.q14,show({ data:=#[] }:ByteArray)=txt [] from rfl,q3d];simp[vD]
 |succ k ih =>
  intro l a hk hd hl hb;by_cases hne:l=[]
  ·exact ih l a (by rw[hne];simp) hd hl hb
  ·have hpos:0<l.length:=Db.2 hne;obtain⟨cnt,hcnt⟩:∃cnt,(l.length-1)%9+1=cnt:=⟨_,rfl⟩;have hc9:cnt<=9:=by have:=AL (l.length-1) (show 0<9 by omega);omega
   have hcl:cnt<=l.length:=by have:=Nat.mod_le (l.length-1) 9;omega
   have hpow:10^cnt<=10^9:=AX (by omega) hc9;have hdt:∀c,c∈l.take cnt->isD c=true:=λc h=>hd c (CL h);have hvt:=vD_lt hdt;have htl:(l.take cnt).length=cnt:=by simp;omega
   rw[htl]at hvt;have hval:a*10^l.length+vD l=(a*10^cnt+vD (l.take cnt))*10^(l.drop cnt).length+vD (l.drop cnt):=by
    have e1:=qbo (l.take cnt) (l.drop cnt);rw[BW]at e1;have e2:10^l.length=10^cnt*10^(l.drop cnt).length:=by rw[<- BZ];congr 1;simp;omega
    rw[e1,e2,AT,AU,Bl]
   have hle:a*10^cnt+vD (l.take cnt)<=a*10^l.length+vD l:=by
    rw[hval];exact AZ (Es _ (Bx (by omega))) (Nat.le_add_right _ _)
   have hale:a<=a*10^cnt+vD (l.take cnt):=AZ (Es _ (Bx (by omega))) (Nat.le_add_right _ _);have hm1:=qew hle;have hm2:=qew hale;obtain⟨n1,h1⟩:=ih (l.drop cnt) (a*10^cnt+vD (l.take cnt)) (by simp;omega) (λc h=>hd c (Cy h)) (by simp;omega) (by rw[<- hval];exact hb);obtain⟨n2,h2⟩:=qvp (x:=a) (k:=10^cnt) (c:=vD (l.take cnt)) (by omega) (by omega) (by omega);refine⟨n1+n2+11,λn m l0 hn hm=>?_⟩;obtain⟨m,rfl⟩:=qSx m;obtain⟨n,rfl⟩:=qSx n;have hw:w6 (Int.tmod (w6 ((l.length:Int)-1)) 9+1)=(cnt:Int):=by
    rw[show w6 ((l.length:Int)-1)=((l.length-1:Nat):Int) by rw[qk];omega,
     show Int.tmod ((l.length-1:Nat):Int) 9=(((l.length-1)%9:Nat):Int) from rfl,qk]
    omega
   have hl8:=qvn (n:=n+1) (m0:=m) (l0:=l0) (l1:=(dg 4294967296 a).map d32) (s:=txt l) hc9 cnt 0 (n+1) (by omega) (by omega);rw[EC]at hl8;rw[q3j.q14,show({ data:=#[] }:ByteArray)=txt [] from rfl,q3d,Ad hne,AV,Ac,q1c,hw];refine hl8.trans ?_
   rw[q1c,q1v hcl,Ae,q5n,Av,parse_run (λq=>by rw[q]at htl;simp at htl;omega) (by omega) hdt,Ae,Aj,qi,Ae,q6q,h2 _ (by omega),
    Ae,Aj,qy,Ae,Ae,q5n,CU (Ak _),h1 _ _ _ (by omega) (by omega),hval]
theorem qht{l:List UInt8}(hc:canon l)(hl:l.length<=1000000000)(hb:(dg 4294967296 (vD l)).length<=549755813000):Ev En 216 [sF l] [L32 (dg 4294967296 (vD l)),.int .i64 0]:=by
 obtain⟨c1,c2,c3⟩:=hc;obtain⟨n0,h⟩:=qvo l.length l 0 (Ak _) c2 hl (by rw[Do,AJ];exact hb);refine Ev.of (n0+1) λn hn=>?_;obtain⟨n,rfl⟩:=qSx n;have hL:=h (n+1) (n+1) [] (by omega) (by omega);rw[q18,Do,AJ]at hL;obtain⟨c,t,rfl⟩:∃c t,l=c::t:=by
  cases l with
  |nil=>exact absurd rfl c1
  |cons c t=>exact⟨c,t,rfl⟩
 have h0:=q4g (c::t) 0;rw[show((0:Nat):Int)=0 from rfl]at h0;have htrim:q8j (c::t) dgts=[]:=(qnf _).2 c2
 rw[qk9,show({ data:=#[] }:ByteArray)=txt [] from rfl,q3d,Ad (by simp),Ab,h0,Aj,AD,Ae,qnb,Ae,Aj,q2k,Ae,htrim,
  show({ data:=#[48] }:ByteArray)=txt [48] from rfl,q3d,q3d,Af (show([]:List UInt8)=[] from rfl),Am,Ab]
 by_cases hz:c=48
 ·subst hz;have:t=[]:=by
   have:=c3 rfl;simpa using this
  subst this;rw[show((((48:UInt8).toNat:Nat):Int)==48)=true from rfl,Ac,Af rfl,Am,Ab];exact hL
 ·have:((c.toNat:Int)==48)=false:=by
   rw[Bn];intro q;exact hz (Dt.1 (show c.toNat=48 by omega))
  rw[this,Ab];exact hL
theorem qmq{l:List UInt8}(hc:¬ canon l)(hl:l.length<=1000000000):Ev En 216 [sF l] [.list 1 [],.int .i64 10]:=by
 refine Ev.of 1 λn hn=>?_;obtain⟨n,rfl⟩:=qSx n;rw[qk9,show({ data:=#[] }:ByteArray)=txt [] from rfl,q3d];cases l with
 |nil=>rw[Af rfl,Ac]
 |cons c t =>
  have h0:=q4g (c::t) 0;rw[show((0:Nat):Int)=0 from rfl]at h0
  rw[Ad (by simp),Ab,h0,Aj,AD,Ae,qnb,Ae,Aj,q2k,Ae,
   show({ data:=#[48] }:ByteArray)=txt [48] from rfl,q3d,q3d]
  by_cases hd:∀x,x∈c::t->isD x=true
  ·have hz:c=48/\t≠[]:=by
    apply BS;intro q;refine hc ⟨by simp,hd,λh=>?_⟩;simp only[DT,AH]at h;have:t=[]:=BS λht=>q ⟨h,ht⟩;rw[this];rfl
   obtain⟨rfl,ht⟩:=hz;rw[show((((48:UInt8).toNat:Nat):Int)==48)=true from rfl,Ac,Ad (by simpa using ht),AV,Ac]
  ·have htr:q8j (c::t) dgts≠[]:=λq=>hd ((qnf _).1 q);rw[Ad htr,AV,Ac];cases((c.toNat:Int)==48) <;> cases(decide (c::t=[48])) <;> rfl
end Rf
end
end
