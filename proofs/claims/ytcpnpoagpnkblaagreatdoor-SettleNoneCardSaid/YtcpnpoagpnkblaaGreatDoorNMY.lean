/- Merged: Rca Rcb Rcc EnvB EqChk Chk EnvC EqLaw16 Hv16. -/
import Derived.Test.YtcpnpoagpnkblaaGreatDoorNMW
import Derived.Test.YtcpnpoagpnkblaaGreatDoorNMV
import Derived.Test.YtcpnpoagpnkblaaGreatDoorNMS
import Derived.Test.YtcpnpoagpnkblaaGreatDoorNMG
import Derived.KernelRfl
set_option linter.unusedVariables false
set_option linter.unusedSimpArgs false
set_option maxHeartbeats 4000000
set_option maxRecDepth 100000
namespace Rf
open Go
noncomputable section
section
abbrev rL(r:ResV)(rest:List FV):List FV:=.list 1 (r.aq.map .bool)::.list 1 (r.x.map sF)::.list 1 (r.f.map rowF)::.list 1 (r.p.map rowF)::sF r.ql::sF r.uq::.bool r.q80::iF r.nodes::rest
abbrev gR(g:q11)(rest:List FV):List FV:=iF g.qa::iF g.qe::.list 3 (g.lq.map qw.fv)::iF g.low::iF g.high::rest
def qz(l:List Txt):FV:=.list 4 (l.map λt=>qm (rd t))
theorem q55{l:List Txt}{i:Nat}(h:i<l.length)(c:Nat):at' (l.map λt=>qm (rd t)) i c=[zb (rd l[i]).num,wl (rd l[i]).num,.bool false,wL (rd l[i]).den][c]?:=by rw[q26,Ag h];rfl
theorem qaw{P:List (List Txt)}{i:Nat}(h:i<P.length):at' (P.map qz) i 0=some (.list 4 (P[i].map λt=>qm (rd t))):=by rw[q26,Ag h];rfl
theorem qej{α:Type}(q:Rat)(lo hi:Int)(T F:α):(bif decide (q<((lo:Int):Rat))then F else bif decide (((hi:Int):Rat)<q)then F else T)=bif inR q lo hi then T else F:=by
 unfold inR;by_cases hA:q<((lo:Int):Rat)
 ·rw[Af hA,Ad (p:=((lo:Int):Rat)<=q) (Ch.2 hA)];rfl
 ·rw[Ad hA,Af (p:=((lo:Int):Rat)<=q) (Cu.1 hA)];by_cases hB:((hi:Int):Rat)<q
  ·rw[Af hB,Ad (p:=q<=((hi:Int):Rat)) (Ch.2 hB)];rfl
  ·rw[Ad hB,Af (p:=q<=((hi:Int):Rat)) (Cu.1 hB)];rfl
theorem inR_cut2{α:Type}(q:Rat)(lo hi:Int)(T F:α):(bif decide (((hi:Int):Rat)<q)then F else bif decide (q<((lo:Int):Rat))then F else T)=bif inR q lo hi then T else F:=by
 rw[<- qej];cases decide (((hi:Int):Rat)<q) <;> cases decide (q<((lo:Int):Rat)) <;> rfl
section
variable {g:q11} {ss:List StpV} {bs:List BlkV} {r:ResV}
theorem qnc{n:Nat}(h:Sm g ss bs r)(hn:80000<=n):evF EnA n 55 (gR g (.list 7 (ss.map StpV.fv)::.list 8 (bs.map BlkV.fv)::rL r []))=some [.bool (q50 g ss bs r)]:=by
 obtain⟨n,rfl⟩:=qSx n;have ho:=qms h (n:=n) (by omega);unfold gL at ho;simp only[Al,As]at ho;rw[qnd,ho,Aa,Aa,Aa,Aa,Aa,Aa];simp only[rr];rw[show q50 g ss bs r=(q2l g ss bs&&decide (r.aq.length=bs.length)&&decide (r.x.length=ss.length)&&decide ((r.f.length:Int)=g.qe)&&decide ((r.p.length:Int)=g.qe)&&decide (0<=r.nodes)&&(List.range' 0 g.qe.toNat).all (q81 g r)) from rfl];cases hov:q2l g ss bs with
 |false=>simp
 |true =>
  obtain⟨z1,z2,z3,z4,_⟩:=q3t (q3u hov);rw[nne,nne,ine,ine,show decide (0<=r.nodes)=!decide (r.nodes<0) from dle _ _];by_cases e1:r.aq.length=bs.length
  ·by_cases e2:r.x.length=ss.length
   ·by_cases e3:(r.f.length:Int)=g.qe
    ·by_cases e4:(r.p.length:Int)=g.qe
     ·have hl:=q1w (F:=λm i=>q5w.l4 n [] m (gR g (rL r [iF (i:Int)]))) (len:=g.qe.toNat) (P:=q81 g r) (fin:=some [.bool true]) (stop:=some [.bool false]) (λm i hi=>by
       show q5w.l4 n [] (m+1) _=_;have i1:i<r.f.length:=by omega
       have i2:i<r.p.length:=by omega
       rw[q5w.q13,Af,Ac,Aa,Aa,Aa,q9 i1,q9 i2];simp only[q2h i1,q2h i2,rr];rw[Aa,Aa,nne,ine,qd (by omega)];unfold q81;rw[getD_at _ _ i1,getD_at _ _ i2];cases decide (r.f[i].length=g.lq.length) <;> cases decide (((r.p[i].length:Nat):Int)=g.qa) <;> rfl) (λm=>by
       show q5w.l4 n [] (m+1) _=_
       rw[q5w.q13,Ad,Ab]) g.qe.toNat 0 n (by omega) (by omega)
      have hl:q5w.l4 n [] n (gR g (rL r [iF 0]))=_:=hl;rw[hl,Af e1,Af e2,Af e3,Af e4];cases decide (r.nodes<0) <;> cases(List.range' 0 g.qe.toNat).all (q81 g r) <;> rfl
     ·rw[Ad e4];simp
    ·rw[Ad e3];simp
   ·rw[Ad e2];simp
  ·rw[Ad e1];simp
theorem qek{X:List Txt}{n:Nat}(hl:Few X)(hn:300<=n):evF EnA n 120 [.list 1 (X.map sF)]=if X.all isNum=true then some [.list 4 (X.map λt=>qm (rd t)),iF 0]else some [.list 4 [],iF 10]:=by
 obtain⟨n,rfl⟩:∃k,n=k+2:=⟨n-2,by omega⟩;have:=hl.1;have h:=q1w (F:=λm i=>q5x.l3 (n+1) [] m [.list 1 (X.map sF),.list 4 ((X.take i).map λt=>qm (rd t)),iF (i:Int)]) (len:=X.length) (P:=λi=>match X[i]? with | some t=>isNum t | none=>true)
  (fin:=some [.list 4 (X.map λt=>qm (rd t)),iF 0]) (stop:=some [.list 4 [],iF 10]) (λm i hi=>by
  show q5x.l3 (n+1) [] (m+1) _=_;rw[q5x.qq,Aa,Af,Ac,q9 hi,Ag hi];simp only[q78 hi,rr];have hlen:=hl.2 X[i] (Ah hi);cases hp:pr X[i]with
  |none =>
   rw[w_bad hp];simp only[rr];have:isNum X[i]=false:=by unfold isNum;rw[hp];rfl
   rw[this];rfl
  |some q =>
   rw[qel hp];simp only[rr];have:isNum X[i]=true:=by unfold isNum;rw[hp];rfl
   rw[this,Ac,show Nat.ble (((X.take i).map λt=>qm (rd t)).length+(qb 1 (.agg [.bool false,.list 1 [],.bool false,.list 1 []]) [(0,.agg [zb (q).num,wl (q).num,.bool false,wL (q).den])]).length) 2199023255552=true by
    apply Dc;rw[Aa,BF];show _+1<=_
    omega,Ac,qd (by omega)]
   have e:((X.take i).map λt=>qm (rd t))++qb 1 (.agg [.bool false,.list 1 [],.bool false,.list 1 []]) [(0,.agg [zb (q).num,wl (q).num,.bool false,wL (q).den])]=(X.take (i+1)).map λt=>qm (rd t):=by
    rw[<- qca (λt=>qm (rd t)) X hi,rd_some hp];rfl
   rw[e];rfl) (λm=>by
  show q5x.l3 (n+1) [] (m+1) _=_
  rw[q5x.qq,Aa,Ad,Ab,Bj]) X.length 0 (n+1) (by omega) (by omega)
 rw[q4p X isNum (λi hi=>by rw[Ag hi])]at h;rw[qne];have h:q5x.l3 (n+1) [] (n+1) [.list 1 (X.map sF),.list 4 (qb 0 (.agg [.bool false,.list 1 [],.bool false,.list 1 []]) []),iF 0]=_:=h;rw[h];cases X.all isNum <;> rfl
theorem wread_run{P:List (List Txt)}{n:Nat}(hP:P.length<=256)(hl:∀l,l∈P->Few l)(hn:700<=n):evF EnA n 56 [.list 1 (P.map rowF)]=if P.all (·.all isNum)=true then some [.list 1 (P.map qz),.bool true]else some [.list 1 [],.bool false]:=by
 obtain⟨n,rfl⟩:∃k,n=k+2:=⟨n-2,by omega⟩;have h:=q1w (F:=λm i=>q5y.l3 (n+1) [] m [.list 1 (P.map rowF),.list 1 ((P.take i).map qz),iF (i:Int)]) (len:=P.length) (P:=λi=>match P[i]? with | some l=>l.all isNum | none=>true)
  (fin:=some [.list 1 (P.map qz),.bool true]) (stop:=some [.list 1 [],.bool false]) (λm i hi=>by
  show q5y.l3 (n+1) [] (m+1) _=_;rw[q5y.qq,Aa,Af,Ac,q9 hi,Ag hi];simp only[q2h hi,rr];rw[qek (hl _ (Ah hi)) (by omega)];cases hp:P[i].all isNum with
  |false=>rfl
  |true =>
   rw[if_pos rfl];simp only[rr]
   rw[show((0:Int) !=0)=false from rfl,Ab,show Nat.ble (((P.take i).map qz).length+(qb 1 (.list 4 []) [(0,.list 4 (P[i].map λt=>qm (rd t)))]).length) 5864062014805=true by
    apply Dc;rw[Aa,BF];show _+1<=_
    omega,Ac,qd (by omega)]
   have e:((P.take i).map qz)++qb 1 (.list 4 []) [(0,.list 4 (P[i].map λt=>qm (rd t)))]=(P.take (i+1)).map qz:=qca qz P hi;rw[e]) (λm=>by
  show q5y.l3 (n+1) [] (m+1) _=_
  rw[q5y.qq,Aa,Ad,Ab,Bj]) P.length 0 (n+1) (by omega) (by omega)
 rw[q4p P (·.all isNum) (λi hi=>by rw[Ag hi])]at h;rw[qnf];have h:q5y.l3 (n+1) [] (n+1) [.list 1 (P.map rowF),.list 1 (qb 0 (.list 4 []) []),iF 0]=_:=h;rw[h];cases P.all (·.all isNum) <;> rfl
theorem qng{n:Nat}{l:List Txt}(hl:Few l)(hg:∀x,x∈g.lq->0<=x.cap/\x.cap<=1000)(hn:1000<=n):evF EnA n 121 (gR g [.list 1 (l.map sF)])=some [.bool (q4s g l)]:=by
 obtain⟨n,rfl⟩:∃k,n=k+2:=⟨n-2,by omega⟩;have:=hl.1;rw[qnh,qek hl (by omega),Aa,Aa];unfold q4s;cases hall:l.all isNum with
 |false=>rfl
 |true =>
  rw[if_pos rfl];simp only[rr];rw[show((0:Int) !=0)=false from rfl,Ab,nne];by_cases hlen:l.length=g.lq.length
  ·rw[Af hlen,Ao,Ab]
   have h:=q1w (F:=λm i=>q5z.l5 (n+1) [] m (gR g [.list 4 (l.map λt=>qm (rd t)),iF (i:Int)])) (len:=l.length) (P:=λi=>inR (rd (l.getD i [])) (-(g.lq.getD i default).cap) (g.lq.getD i default).cap) (fin:=some [.bool true]) (stop:=some [.bool false]) (λm i hi=>by
    show q5z.l5 (n+1) [] (m+1) _=_;have hi2:i<g.lq.length:=by omega
    obtain⟨c1,c2⟩:=hg _ (Ah hi2);have hq:=q1q (hl.2 _ (Ah hi));have hc:=Sz.int (z:=g.lq[i].cap);have hc2:=Sz.int (z:=-g.lq[i].cap);have e0:-((g.lq[i].cap:Int):Rat)=((-g.lq[i].cap:Int):Rat):=(EI _).symm;rw[q5z.q1h,Aa,Aa,Af,Ac,q9 hi,q9 hi2];simp only[q55 hi,q83 hi2,rr];rw[w_of];simp only[rr];rw[q4r hq hc (qc _) (qc _)];simp only[rr];rw[q57,w_neg (qc _)];simp only[rr];rw[e0,q4r hq hc2 (qc _) (qc _)];simp only[rr];rw[q4d,qd (by omega),getD_at _ _ hi,getD_at _ _ hi2,inR_cut2]) (λm=>by
    show q5z.l5 (n+1) [] (m+1) _=_
    rw[q5z.q1h,Aa,Ad,Ab]) l.length 0 (n+1) (by omega) (by omega)
   have h:q5z.l5 (n+1) [] (n+1) (gR g [.list 4 (l.map λt=>qm (rd t)),iF 0])=_:=h;rw[h];simp only[AA];cases(List.range' 0 l.length).all λi=>inR (rd (l.getD i [])) (-(g.lq.getD i default).cap) (g.lq.getD i default).cap <;> rfl
  ·rw[Ad hlen];rfl
theorem qni{n:Nat}(G:q1b g ss bs r)(hn:2000<=n):evF EnA n 57 (gR g (.list 7 (ss.map StpV.fv)::.list 4 (r.x.map λt=>qm (rd t))::rL r [.list 1 (r.p.map qz)]))=some [.bool (q60 g ss r)]:=by
 obtain⟨n,rfl⟩:∃k,n=k+4:=⟨n-4,by omega⟩;obtain⟨z1,z2,z3,z4,z5,z6,z7,z8,z9⟩:=q3t (q3u G.sh.ord);obtain⟨o1,o2⟩:=q74 G.sh.ord;have hst:=q8p G.sh.ord;have lf:=G.sh.f;have lp:=G.sh.p
 have e7:=q1w (F:=λm i=>q1r.l7 (n+3) [] m (gR g (rL r [.list 1 (r.p.map qz),iF (i:Int)]))) (len:=g.qe.toNat) (P:=λi=>q4s g (r.f.getD i [])&&(List.range' 0 g.qa.toNat).all λz=>inR (r.pAt i z) g.low g.high) (fin:=some [.bool true]) (stop:=some [.bool false]) (λm i hi=>by
  show q1r.l7 (n+3) [] (m+1) _=_;have i1:i<r.f.length:=by omega
  have e12:=q1w (F:=λm' z=>q1r.l12 (n+3) [m] m' (gR g (rL r [.list 1 (r.p.map qz),iF (i:Int),iF (z:Int)]))) (len:=g.qa.toNat) (P:=λz=>inR (r.pAt i z) g.low g.high) (fin:=q1r.l7 (n+3) [] m (gR g (rL r [.list 1 (r.p.map qz),iF ((i+1:Nat):Int)]))) (stop:=some [.bool false]) (λm' z hz=>by
   show q1r.l12 (n+3) [m] (m'+1) _=_;obtain⟨p1,p2,p3,p4⟩:=G.pT hi hz;have f1:=w_of (n:=n+2) (z:=g.low);have f2:=w_of (n:=n+2) (z:=g.high);have f3:=q4r (n:=n+2) (q1q p4) (Sz.int (z:=g.low)) (qc _) (qc _);have f4:=q4r (n:=n+2) (q1q p4) (Sz.int (z:=g.high)) (qc _) (qc _);rw[q1r.q58,Af,Ac,Aa,q9 p1];simp only[qaw p1,rr];rw[Aa,q9 p2];simp only[q55 p2,rr];rw[f1,f2];simp only[rr];rw[f3,f4];simp only[rr];rw[q4d,q57,qd (by omega),p3,qej]) (λm'=>by
   show q1r.l12 (n+3) [m] (m'+1) _=_
   rw[q1r.q58,Ad,Ab,qd (by omega)]) g.qa.toNat 0 (n+3) (by omega) (by omega)
  have e12:q1r.l12 (n+3) [m] (n+3) (gR g (rL r [.list 1 (r.p.map qz),iF (i:Int),iF 0]))=_:=e12;rw[q1r.q3a,Af,Ac,Aa,q9 i1];simp only[q2h i1,rr];rw[qng (G.sm.f _ (Ah i1)) (λx hx=>by have:=q9w (z6 x hx);omega) (by omega),e12,getD_at _ _ i1];simp only[rr];cases q4s g r.f[i] <;> cases(List.range' 0 g.qa.toNat).all λz=>inR (r.pAt i z) g.low g.high <;> rfl) (λm=>by
  show q1r.l7 (n+3) [] (m+1) _=_
  rw[q1r.q3a,Ad,Ab]) g.qe.toNat 0 (n+3) (by omega) (by omega)
 have e7:q1r.l7 (n+3) [] (n+3) (gR g (rL r [.list 1 (r.p.map qz),iF 0]))=_:=e7
 have e2:=q1w (F:=λm i=>q1r.l2 (n+3) [] m (gR g (rL r [.list 7 (ss.map StpV.fv),.list 4 (r.x.map λt=>qm (rd t)),.list 1 (r.p.map qz),iF (i:Int)]))) (len:=ss.length) (P:=λi=>inR (r.xAt i) 0 (ss.getD i default).qty) (fin:=q1r.l7 (n+3) [] (n+3) (gR g (rL r [.list 1 (r.p.map qz),iF 0]))) (stop:=some [.bool false]) (λm i hi=>by
  show q1r.l2 (n+3) [] (m+1) _=_;obtain⟨x1,x2,x3⟩:=G.xT hi;have hk:=hst _ (Ah hi);have f1:=w_of (n:=n+2) (z:=ss[i].qty);have f3:=q4r (n:=n+2) (q1q x3) (Sz.int (z:=ss[i].qty)) (qc _) (qc _);rw[q1r.qt,Aa,Aa,Af,Ac,q9 hi,q9 x1];simp only[q55 x1,q36 hi,rr];rw[w_sign,f1];simp only[rr];rw[f3];simp only[rr];rw[sgn_lt0,q57,qd (by omega),getD_at _ _ hi,x2,show decide (rd r.x[i]<0)=decide (rd r.x[i]<(((0:Int)):Rat)) by rw[Rat.intCast_zero],qej]) (λm=>by
  show q1r.l2 (n+3) [] (m+1) _=_
  rw[q1r.qt,Aa,Ad,Ab]) ss.length 0 (n+3) (by omega) (by omega)
 have e2:q1r.l2 (n+3) [] (n+3) (gR g (rL r [.list 7 (ss.map StpV.fv),.list 4 (r.x.map λt=>qm (rd t)),.list 1 (r.p.map qz),iF 0]))=_:=e2;rw[qnj,e2,e7];unfold q60;have hfa:∀i,i<g.qe.toNat->(q4s g (r.f.getD i [])&&(List.range' 0 g.qa.toNat).all λz=>inR (r.pAt i z) g.low g.high)=(((List.range' 0 g.lq.length).all λk=>inR (r.fAt i k) (-(g.lq.getD k default).cap) (g.lq.getD k default).cap)&&(List.range' 0 g.qa.toNat).all λz=>inR (r.pAt i z) g.low g.high):=by
  intro i hi;obtain⟨l1,l2⟩:=G.sh.lens i hi;have i1:i<r.f.length:=by omega
  have hal:(r.f.getD i []).all isNum=true:=by
   rw[getD_at _ _ i1,Av];exact G.num.2.2.2.1 _ (Ah i1)
  unfold q4s;rw[hal,Af l1,AA,AA,l1];rfl
 rw[qcf hfa];cases(List.range' 0 ss.length).all λi=>inR (r.xAt i) 0 (ss.getD i default).qty with
 |false=>rfl
 |true =>
  rw[Ac,AA];cases(List.range' 0 g.qe.toNat).all λi=>(((List.range' 0 g.lq.length).all λk=>inR (r.fAt i k) (-(g.lq.getD k default).cap) (g.lq.getD k default).cap)&&(List.range' 0 g.qa.toNat).all λz=>inR (r.pAt i z) g.low g.high) <;> rfl
end
end
section
section
variable {g:q11} {ss:List StpV} {bs:List BlkV} {r:ResV} {ac:List Bool}
theorem wnet_run{n h:Nat}(hz:1<=g.qa/\g.qa<=3)(hb:bs.length<=256)(ha:ac.length<=256)(hql:∀b,b∈bs->b.qty.length<=256)(hq:Smq bs)(hh:h<=1000)(hn:400<=n) :
  evF EnA n 123 (gR g [.list 8 (bs.map BlkV.fv),.list 1 (ac.map .bool),iF (h:Int)])=some [.list 1 (netL bs ac h g.qa.toNat)]:=by
 obtain⟨n,rfl⟩:∃k,n=k+2:=⟨n-2,by omega⟩;have e0:(if(0:Int)<(if 3<g.qa then 3 else g.qa)then(if 3<g.qa then 3 else g.qa)else 0)=((g.qa.toNat:Nat):Int):=by
  rw[if_neg (show ¬ 3<g.qa by omega),if_pos (by omega)];omega
 have e1:q1p 8 ((g.qa.toNat:Nat):Int)=some g.qa.toNat:=by
  unfold q1p;rw[if_pos ⟨by omega,by omega,by omega⟩,Bh]
 rw[qn3,e0,e1,Ae,q1s (Ak _),Ae];have key:∀(d i m:Nat),i+d=min bs.length ac.length->d<m->q43.l3 (n+1) [] m [.list 8 (bs.map BlkV.fv),.list 1 (ac.map .bool),iF (h:Int),.list 1 ((List.range g.qa.toNat).map λz=>iF (netAt bs ac h z i)),iF (i:Int)]=some [.list 1 (netL bs ac h g.qa.toNat)]:=by
  intro d
  induction d with
  |zero =>
   intro i m hi hm;obtain⟨m,rfl⟩:=qSx m;have efin:some [FV.list 1 ((List.range g.qa.toNat).map λz=>iF (netAt bs ac h z i))]=some [.list 1 (netL bs ac h g.qa.toNat)]:=by
    unfold netL netV;rw[show i=min bs.length ac.length by omega]
   rw[q43.qq,Aa,Aa,efin];by_cases hib:i<bs.length
   ·rw[Af,Ac,Ad,Ab]
   ·rw[Ad,Ab]
  |succ d ih =>
   intro i m hi hm;obtain⟨m,rfl⟩:=qSx m;have i1:i<bs.length:=by omega
   have i2:i<ac.length:=by omega
   rw[q43.qq,Aa,Aa,Af,Ac,Af,Ac,q9 i1,q9 i2,qd (by omega)];simp only[q2i i1,q4q i2,rr];rw[Aa,Aa,Cc];have skip:¬ (ac[i]=true/\0<=bs[i].zone/\bs[i].zone<g.qa/\h<bs[i].qty.length)->q43.l3 (n+1) [] m [.list 8 (bs.map BlkV.fv),.list 1 (ac.map .bool),iF (h:Int),.list 1 ((List.range g.qa.toNat).map λz=>iF (netAt bs ac h z i)),iF ((i+1:Nat):Int)]=some [.list 1 (netL bs ac h g.qa.toNat)]:=by
    intro hno
    rw[qi3 (bs:=bs) (ac:=ac) h (i:=i) (Z:=g.qa.toNat) λz hz ⟨b,e1,e2,e3,e4⟩=>hno (by
     rw[Ag i1]at e1;rw[Ag i2]at e2;cases e1
     refine⟨by simpa using e2,by omega,by omega,e4⟩)]
    exact ih (i+1) m (by omega) (by omega)
   by_cases c1:ac[i]=true
   ·rw[c1,Ao,Ab];by_cases c2:0<=bs[i].zone
    ·rw[Ad (show ¬ bs[i].zone<0 by omega),Ab];by_cases c3:bs[i].zone<g.qa
     ·rw[Ad (show ¬ bs[i].zone≥((g.qa.toNat:Nat):Int) by omega),Ab,Ad (show ¬ ((h:Nat):Int)<0 by omega),Ab];by_cases c4:h<bs[i].qty.length
      ·obtain⟨k,hk⟩:∃k:Nat,bs[i].zone=(k:Int):=⟨bs[i].zone.toNat,by omega⟩;have hkz:k<g.qa.toNat:=by omega
       obtain⟨q1,q2⟩:=hq _ (Ah i1) _ (Ah c4);obtain⟨b1,b2⟩:=qau (ac:=ac) hq h k i;have hst:=net_step h i1 i2 c1 hk c4 (Z:=g.qa.toNat);rw[Ad (show ¬ ((h:Nat):Int)≥((bs[i].qty.length:Nat):Int) by omega),Ab,hk,q9 hkz,q9 c4];simp only[qei hkz,q4c c4,rr];rw[qo (x:=netAt bs ac h k i-bs[i].qty[h]),qo (x:=netAt bs ac h k i+bs[i].qty[h])];cases hbuy:bs[i].buy with
       |true =>
        rw[hbuy]at hst;simp only[Ba]at hst;rw[Ac,show netAt bs ac h k i-bs[i].qty[h]=netAt bs ac h k i+-bs[i].qty[h] from rfl,hst];exact ih (i+1) m (by omega) (by omega)
       |false =>
        rw[hbuy]at hst;simp only[Bs,BM]at hst;rw[Ab,hst];exact ih (i+1) m (by omega) (by omega)
      ·rw[Af (show((h:Nat):Int)≥((bs[i].qty.length:Nat):Int) by omega),Ac];exact skip λq=>c4 q.2.2.2
     ·rw[Af (show bs[i].zone≥((g.qa.toNat:Nat):Int) by omega),Ac];exact skip λq=>c3 q.2.2.1
    ·rw[Af (show bs[i].zone<0 by omega),Ac];exact skip λq=>c2 q.2.1
   ·rw[AI.2 c1];exact skip λq=>c1 q.1
 have k0:=key (min bs.length ac.length) 0 (n+1) (by omega) (by omega);have e2:((List.range g.qa.toNat).map λz=>iF (netAt bs ac h z 0))=List.replicate g.qa.toNat (iF 0):=by
  rw[show(λz=>iF (netAt bs ac h z 0))=λ_=>iF 0 from rfl,List.map_const',Cc]
 rw[e2]at k0;exact k0
theorem qn4{n h:Nat}(G:q1b g ss bs r)(hh:h<g.qe.toNat)(hn:400<=n):∃i1:h<r.f.length,evF EnA n 122 (gR g [.list 4 (r.f[h].map λt=>qm (rd t))])=some [.list 4 ((List.range g.qa.toNat).map λz=>qm (expV g.lq r h z))]/\∀z,Bd 10000 (expV g.lq r h z):=by
 obtain⟨z1,z2,z3,z4,z5,z6,z7,z8,z9⟩:=q3t (q3u G.sh.ord);have lf:=G.sh.f;have i1:h<r.f.length:=by omega
 have hbd:∀(l:List Nat) (z k:Nat) (a:Rat),(∀i,i∈l->i<g.lq.length)->Bd k a->Bd (k+2100*l.length) (l.foldl (q73 g.lq r h z) a):=by
  intro l
  induction l with
  |nil=>intro z k a _ ha;exact ha.mono (by simp)
  |cons i l ih =>
   intro z k a hl ha;rw[Bf];have hi:=hl i AJ;obtain⟨_,_,q1,q2⟩:=G.fT hh hi;have hf:Bd 1024 (r.fAt h i):=by rw[q1];exact q35 q2
   have hs:Bd (k+2100) (q73 g.lq r h z a i):=by
    unfold q73;rw[Ag hi];simp only;have h1:Bd (k+1025) (if g.lq[i].src=(z:Int)then a+r.fAt h i else a):=by
     split
     ·exact(ha.add hf).mono
     ·exact ha.mono
    split
    ·exact(h1.sub hf).mono
    ·exact h1.mono
   refine(ih z (k+2100) _ (λj hj=>hl j (AC _ hj)) hs).mono ?_;simp only[Aq];omega
 have hexp:∀z,Bd 10000 (expV g.lq r h z):=λz=>by
  refine(hbd (List.range' 0 g.lq.length) z 1 0 (λi hi=>by rw[Cg]at hi;omega) q82).mono ?_;rw[EG];omega
 refine⟨i1,?_,hexp⟩;obtain⟨n,rfl⟩:∃k,n=k+4:=⟨n-4,by omega⟩
 have e3:=q1w (F:=λm z=>q2e.l3 (n+3) [] m (gR g [.list 4 (r.f[h].map λt=>qm (rd t)),.list 4 ((List.range z).map λz=>qm (expV g.lq r h z)),iF (z:Int)])) (len:=g.qa.toNat) (P:=λ_=>true) (fin:=some [.list 4 ((List.range g.qa.toNat).map λz=>qm (expV g.lq r h z))]) (stop:=none) (λm z hz=>by
  show q2e.l3 (n+3) [] (m+1) _=_
  have e7:=q5v (F:=λm' i (a:Rat)=>q2e.l7 (n+3) [m] m' (gR g [zb (a).num,wl (a).num,.bool false,wL (a).den,.list 4 (r.f[h].map λt=>qm (rd t)),.list 4 ((List.range z).map λz=>qm (expV g.lq r h z)),iF (z:Int),iF (i:Int)])) (len:=g.lq.length) (g:=λi a=>q73 g.lq r h z a i) (fin:=λa=>q2e.l3 (n+3) [] m (gR g [.list 4 (r.f[h].map λt=>qm (rd t)),.list 4 (((List.range z).map λz=>qm (expV g.lq r h z))++[qm a]),iF ((z+1:Nat):Int)])) (I:=λi a=>Bd (1+2100*i) a) (λm' i a hi hI=>by
   show q2e.l7 (n+3) [m] (m'+1) _=_;obtain⟨_,k2,q1,q2⟩:=G.fT hh hi;have f1:=w_add (n:=n+2) (hI.mono) (q1q q2) (qc a) (qc _);have hb:Bd (1+2100*i+1024+1) (a+rd r.f[h][i]):=hI.add (q35 q2);have f2:=w_sub (n:=n+2) (hb.mono) (q1q q2) (qc (a+rd r.f[h][i])) (qc _);have f3:=w_sub (n:=n+2) (hI.mono) (q1q q2) (qc a) (qc _);rw[q2e.q3a];simp only[Aa];rw[Af,Ac,q9 hi,q9 k2];simp only[q83 hi,q55 k2,rr];rw[f1];simp only[rr];rw[f2,f3];simp only[rr];rw[qd (by omega)];unfold q73;rw[Ag hi,q1];simp only;by_cases c1:g.lq[i].src=(z:Int)
   ·rw[show(g.lq[i].src==(z:Int))=true by simpa using c1,if_pos c1,Ac];by_cases c2:g.lq[i].dst=(z:Int)
    ·rw[show(g.lq[i].dst==(z:Int))=true by simpa using c2,if_pos c2,Ac]
    ·rw[show(g.lq[i].dst==(z:Int))=false by simpa using c2,if_neg c2,Ab]
   ·rw[show(g.lq[i].src==(z:Int))=false by simpa using c1,if_neg c1,Ab];by_cases c2:g.lq[i].dst=(z:Int)
    ·rw[show(g.lq[i].dst==(z:Int))=true by simpa using c2,if_pos c2,Ac]
    ·rw[show(g.lq[i].dst==(z:Int))=false by simpa using c2,if_neg c2,Ab]) (λi a hi hI=>by
   refine(hbd [i] z (1+2100*i) a (λj hj=>by rw[BK.1 hj];exact hi) hI).mono ?_;simp only[Aq,Be];omega) (λm' a hI=>by
   show q2e.l7 (n+3) [m] (m'+1) _=_;rw[q2e.q3a];simp only[Aa]
   rw[Ad,Ab,Cc,show Nat.ble (z+(qb 1 (.agg [.bool false,.list 1 [],.bool false,.list 1 []]) [(0,.agg [zb (a).num,wl (a).num,.bool false,wL (a).den])]).length) 2199023255552=true by
    apply Dc;show z+1<=_
    omega,Ac,qd (by omega)]
   rfl) g.lq.length 0 (n+3) 0 (by omega) (by omega) (q82.mono)
  have e7:=e7.1;have e7:q2e.l7 (n+3) [m] (n+3) (gR g [zb (((0:Int):Rat)).num,wl (((0:Int):Rat)).num,.bool false,wL (((0:Int):Rat)).den,.list 4 (r.f[h].map λt=>qm (rd t)),.list 4 ((List.range z).map λz=>qm (expV g.lq r h z)),iF (z:Int),iF 0])=_:=e7;rw[q2e.qq,Af,Ac,w_of];simp only[rr];rw[e7,List.range_succ,AK];rfl) (λm=>by
  show q2e.l3 (n+3) [] (m+1) _=_
  rw[q2e.qq,Ad,Ab]) g.qa.toNat 0 (n+3) (by omega) (by omega)
 have e3:q2e.l3 (n+3) [] (n+3) (gR g [.list 4 (r.f[h].map λt=>qm (rd t)),.list 4 (qb 0 (.agg [.bool false,.list 1 [],.bool false,.list 1 []]) []),iF 0])=_:=e3;have hall1:(List.range' 0 g.qa.toNat).all (λ_=>true)=true:=by rw[Av];intro _ _;rfl
 rw[qn5,e3,hall1,Ac]
theorem wratR_at{Z k:Nat}(hk:k<Z)(f:Nat->Rat)(c:Nat):at' ((List.range Z).map λz=>qm (f z)) k c=[zb (f k).num,wl (f k).num,.bool false,wL (f k).den][c]?:=by
 rw[q26,EH hk];rfl
theorem cmpQ_ne{q r:Rat}:(cmpQ q r !=0)=!decide (q=r):=by
 rw[ine];congr 1;rw[BW];exact cmp_eq
theorem qn6{n:Nat}(G:q1b g ss bs r)(hn:5000<=n):evF EnA n 58 (gR g (.list 7 (ss.map StpV.fv)::.list 8 (bs.map BlkV.fv)::rL r [.list 4 (r.x.map λt=>qm (rd t)),.list 1 (r.f.map qz)]))=some [.bool (balV g ss bs r)]:=by
 obtain⟨n,rfl⟩:∃k,n=k+4:=⟨n-4,by omega⟩;obtain⟨z1,z2,z3,z4,z5,z6,z7,z8,z9⟩:=q3t (q3u G.sh.ord);obtain⟨o1,o2⟩:=q74 G.sh.ord;have hst:=q8p G.sh.ord;have hbl:=qav G.sh.ord
 have e2:=q1w (F:=λm h=>q1k.l2 (n+3) [] m (gR g (rL r [.list 7 (ss.map StpV.fv),.list 8 (bs.map BlkV.fv),.list 4 (r.x.map λt=>qm (rd t)),.list 1 (r.f.map qz),iF (h:Int)]))) (len:=g.qe.toNat) (P:=λh=>(List.range' 0 g.qa.toNat).all λz=>decide (q56 ss bs r h z=expV g.lq r h z)) (fin:=some [.bool true]) (stop:=some [.bool false]) (λm h hh=>by
  show q1k.l2 (n+3) [] (m+1) _=_;obtain⟨i1,hx,hxb⟩:=qn4 (n:=n+3) G hh (by omega);have hnet:=wnet_run (g:=g) (bs:=bs) (ac:=r.aq) (n:=n+3) (h:=h) ⟨z1,z2⟩ G.sm.bsl G.sm.acl G.sm.q (λb hb q hq=>(hbl b hb).2.2.2.2.2 q hq) (by omega) (by omega)
  have e7:=q1w (F:=λm' z=>q1k.l7 (n+3) [m] m' (gR g (rL r [.list 7 (ss.map StpV.fv),.list 8 (bs.map BlkV.fv),.list 4 (r.x.map λt=>qm (rd t)),.list 1 (r.f.map qz),iF (h:Int),.list 4 ((List.range g.qa.toNat).map λz=>qm (expV g.lq r h z)),.list 1 (netL bs r.aq h g.qa.toNat),iF (z:Int)]))) (len:=g.qa.toNat) (P:=λz=>decide (q56 ss bs r h z=expV g.lq r h z)) (fin:=q1k.l2 (n+3) [] m (gR g (rL r [.list 7 (ss.map StpV.fv),.list 8 (bs.map BlkV.fv),.list 4 (r.x.map λt=>qm (rd t)),.list 1 (r.f.map qz),iF ((h+1:Nat):Int)]))) (stop:=some [.bool false]) (λm' z hz=>by
   show q1k.l7 (n+3) [m] (m'+1) _=_;have hnb:=qau (bs:=bs) (ac:=r.aq) (λb hb q hq=>(hbl b hb).2.2.2.2.2 q hq) h z (min bs.length r.aq.length);have hnv:-12000<=netV bs r.aq h z/\netV bs r.aq h z<=12000:=by unfold netV;omega
   have e11:=q5v (F:=λm'' i (a:Rat)=>q1k.l11 (n+3) [m,m'] m'' (gR g (rL r [zb (a).num,wl (a).num,.bool false,wL (a).den,.list 7 (ss.map StpV.fv),.list 8 (bs.map BlkV.fv),.list 4 (r.x.map λt=>qm (rd t)),.list 1 (r.f.map qz),iF (h:Int),.list 4 ((List.range g.qa.toNat).map λz=>qm (expV g.lq r h z)),.list 1 (netL bs r.aq h g.qa.toNat),iF (z:Int),iF (i:Int)]))) (len:=ss.length) (g:=λi a=>q8q ss r h z a i) (fin:=λa=>bif decide (a=expV g.lq r h z)then q1k.l7 (n+3) [m] m' (gR g (rL r [.list 7 (ss.map StpV.fv),.list 8 (bs.map BlkV.fv),.list 4 (r.x.map λt=>qm (rd t)),.list 1 (r.f.map qz),iF (h:Int),.list 4 ((List.range g.qa.toNat).map λz=>qm (expV g.lq r h z)),.list 1 (netL bs r.aq h g.qa.toNat),iF ((z+1:Nat):Int)]))else some [.bool false]) (I:=λi a=>Bd (20+1100*i) a) (λm'' i a hi hI=>by
    show q1k.l11 (n+3) [m,m'] (m''+1) _=_;obtain⟨x1,x2,x3⟩:=G.xT hi;have f1:=w_sub (n:=n+2) (hI.mono) (q1q x3) (qc a) (qc _);have f2:=w_add (n:=n+2) (hI.mono) (q1q x3) (qc a) (qc _);rw[q1k.q84];simp only[Aa];rw[Af,Ac,q9 hi,q9 x1];simp only[q36 hi,q55 x1,rr];rw[f1,f2];simp only[rr];rw[qd (by omega)];unfold q8q;rw[Ag hi,x2];simp only;by_cases c1:ss[i].hour=(h:Int)
    ·rw[show(ss[i].hour==(h:Int))=true by simpa using c1,Ac];by_cases c2:ss[i].zone=(z:Int)
     ·have cb:ss[i].hour=(h:Int)/\ss[i].zone=(z:Int):=⟨c1,c2⟩;rw[show(ss[i].zone==(z:Int))=true by simpa using c2,Ac,if_pos cb];cases ss[i].buy <;> rfl
     ·have cb:¬ (ss[i].hour=(h:Int)/\ss[i].zone=(z:Int)):=λq=>c2 q.2;rw[show(ss[i].zone==(z:Int))=false by simpa using c2,Ab,if_neg cb]
    ·have cb:¬ (ss[i].hour=(h:Int)/\ss[i].zone=(z:Int)):=λq=>c1 q.1;rw[show(ss[i].hour==(h:Int))=false by simpa using c1,Ab,if_neg cb]) (λi a hi hI=>by
    obtain⟨x1,x2,x3⟩:=G.xT hi;have hx:Bd 1024 (r.xAt i):=by rw[x2];exact q35 x3
    unfold q8q;rw[Ag hi];simp only;split
    ·split
     ·exact(hI.sub hx).mono
     ·exact(hI.add hx).mono
    ·exact hI.mono) (λm'' a hI=>by
    show q1k.l11 (n+3) [m,m'] (m''+1) _=_;rw[q1k.q84];simp only[Aa,Cc];rw[Ad,Ab,q9 hz];simp only[wratR_at hz,rr];rw[q4r (hI.mono) ((hxb z).mono) (qc a) (qc _)];simp only[rr];rw[cmpQ_ne,qd (by omega)];cases decide (a=expV g.lq r h z) <;> rfl) ss.length 0 (n+3) ((netV bs r.aq h z:Int):Rat) (by omega) (by omega) (by
     refine Bd.int ?_ (by omega);have:(2:Nat)^20=1048576:=rfl
     omega)
   have e11:=e11.1;have e11:q1k.l11 (n+3) [m,m'] (n+3) (gR g (rL r [zb (((netV bs r.aq h z:Int):Rat)).num,wl (((netV bs r.aq h z:Int):Rat)).num,.bool false,wL (((netV bs r.aq h z:Int):Rat)).den,.list 7 (ss.map StpV.fv),.list 8 (bs.map BlkV.fv),.list 4 (r.x.map λt=>qm (rd t)),.list 1 (r.f.map qz),iF (h:Int),.list 4 ((List.range g.qa.toNat).map λz=>qm (expV g.lq r h z)),.list 1 (netL bs r.aq h g.qa.toNat),iF (z:Int),iF 0]))=_:=e11;rw[q1k.q3a,Af,Ac,show(netL bs r.aq h g.qa.toNat).length=g.qa.toNat by unfold netL;rw[Aa,Cc],q9 hz,Ae,show at' (netL bs r.aq h g.qa.toNat) z 0=some (iF (netV bs r.aq h z)) from qei hz _];simp only[rr];rw[w_of];simp only[rr];rw[e11];rfl) (λm'=>by
   show q1k.l7 (n+3) [m] (m'+1) _=_
   rw[q1k.q3a,Ad,Ab,qd (by omega)]) g.qa.toNat 0 (n+3) (by omega) (by omega)
  have e7:q1k.l7 (n+3) [m] (n+3) (gR g (rL r [.list 7 (ss.map StpV.fv),.list 8 (bs.map BlkV.fv),.list 4 (r.x.map λt=>qm (rd t)),.list 1 (r.f.map qz),iF (h:Int),.list 4 ((List.range g.qa.toNat).map λz=>qm (expV g.lq r h z)),.list 1 (netL bs r.aq h g.qa.toNat),iF 0]))=_:=e7;rw[q1k.qt,Af,Ac,Aa,q9 i1];simp only[qaw i1,rr];rw[hx];simp only[rr];rw[hnet];simp only[rr];rw[e7]) (λm=>by
  show q1k.l2 (n+3) [] (m+1) _=_
  rw[q1k.qt,Ad,Ab]) g.qe.toNat 0 (n+3) (by omega) (by omega)
 have e2:q1k.l2 (n+3) [] (n+3) (gR g (rL r [.list 7 (ss.map StpV.fv),.list 8 (bs.map BlkV.fv),.list 4 (r.x.map λt=>qm (rd t)),.list 1 (r.f.map qz),iF 0]))=_:=e2;rw[qn7,e2];unfold balV;cases(List.range' 0 g.qe.toNat).all λh=>(List.range' 0 g.qa.toNat).all λz=>decide (q56 ss bs r h z=expV g.lq r h z) <;> rfl
theorem qn8{n:Nat}(G:q1b g ss bs r)(hn:1000<=n):evF EnA n 59 [.list 7 (ss.map StpV.fv),.list 4 (r.x.map λt=>qm (rd t)),.list 1 (r.p.map qz)]=some [.bool (q75 ss r)]:=by
 obtain⟨n,rfl⟩:∃k,n=k+4:=⟨n-4,by omega⟩;obtain⟨z1,z2,z3,z4,z5,z6,z7,z8,z9⟩:=q3t (q3u G.sh.ord);obtain⟨o1,o2⟩:=q74 G.sh.ord;have hst:=q8p G.sh.ord
 have e:=q1w (F:=λm i=>q3b.l2 (n+3) [] m [.list 7 (ss.map StpV.fv),.list 4 (r.x.map λt=>qm (rd t)),.list 1 (r.p.map qz),iF (i:Int)]) (len:=ss.length) (P:=q8r ss r) (fin:=some [.bool true]) (stop:=some [.bool false]) (λm i hi=>by
  show q3b.l2 (n+3) [] (m+1) _=_;obtain⟨s1,s2,s3,s4,s5,s6,s7,s8⟩:=hst _ (Ah hi);obtain⟨hk,hh⟩:∃k:Nat,ss[i].hour=(k:Int):=⟨ss[i].hour.toNat,by omega⟩;obtain⟨zk,hz⟩:∃k:Nat,ss[i].zone=(k:Int):=⟨ss[i].zone.toNat,by omega⟩;obtain⟨p1,p2,p3,p4⟩:=G.pT (h:=hk) (z:=zk) (by omega) (by omega);obtain⟨x1,x2,x3⟩:=G.xT hi;have f1:=w_of (n:=n+2) (z:=ss[i].qh);have f2:=q4r (n:=n+2) (q1q p4) (Sz.int (z:=ss[i].qh)) (qc _) (qc _);have f4:=w_of (n:=n+2) (z:=ss[i].qty);have f5:=q4r (n:=n+2) (q1q x3) (Sz.int (z:=ss[i].qty)) (qc _) (qc _);rw[q3b.qt];simp only[Aa];rw[Af,Ac,q9 hi];simp only[q36 hi,rr];rw[hh,hz,q9 p1];simp only[qaw p1,rr];rw[Aa,q9 p2];simp only[q55 p2,rr];rw[f1];simp only[rr];rw[f2];simp only[rr];rw[q9 x1];simp only[q55 x1,rr];rw[w_sign,f4];simp only[rr];rw[f5];simp only[rr];rw[wneg (cmpQ_bd _ _),neg_lt0,neg_gt0,q4d,q57,q4d,sgn_gt0,qd (by omega)];unfold q8r;rw[Ag hi];simp only;rw[hh,hz,Bh,Bh,p3,x2];cases ss[i].buy <;> cases decide (((ss[i].qh:Int):Rat)<rd r.p[hk][zk]) <;> cases decide (rd r.p[hk][zk]<((ss[i].qh:Int):Rat)) <;> cases decide (0<rd r.x[i]) <;> cases decide (rd r.x[i]<((ss[i].qty:Int):Rat)) <;> rfl) (λm=>by
  show q3b.l2 (n+3) [] (m+1) _=_
  rw[q3b.qt,Aa,Ad,Ab]) ss.length 0 (n+3) (by omega) (by omega)
 have e:q3b.l2 (n+3) [] (n+3) [.list 7 (ss.map StpV.fv),.list 4 (r.x.map λt=>qm (rd t)),.list 1 (r.p.map qz),iF 0]=_:=e;rw[qn9,e];unfold q75;cases(List.range' 0 ss.length).all (q8r ss r) <;> rfl
theorem qna{n:Nat}(G:q1b g ss bs r)(hn:1000<=n):evF EnA n 60 (gR g [.list 1 (r.f.map qz),.list 1 (r.p.map qz)])=some [.bool (q76 g r)]:=by
 obtain⟨n,rfl⟩:∃k,n=k+4:=⟨n-4,by omega⟩;obtain⟨z1,z2,z3,z4,z5,z6,z7,z8,z9⟩:=q3t (q3u G.sh.ord)
 have e:=q1w (F:=λm i=>q2f.l2 (n+3) [] m (gR g [.list 1 (r.f.map qz),.list 1 (r.p.map qz),iF (i:Int)])) (len:=g.qe.toNat) (P:=λh=>(List.range' 0 g.lq.length).all (q77 g.lq r h)) (fin:=some [.bool true]) (stop:=some [.bool false]) (λm h hh=>by
  show q2f.l2 (n+3) [] (m+1) _=_
  have e5:=q1w (F:=λm' i=>q2f.l5 (n+3) [m] m' (gR g [.list 1 (r.f.map qz),.list 1 (r.p.map qz),iF (h:Int),iF (i:Int)])) (len:=g.lq.length) (P:=q77 g.lq r h) (fin:=q2f.l2 (n+3) [] m (gR g [.list 1 (r.f.map qz),.list 1 (r.p.map qz),iF ((h+1:Nat):Int)])) (stop:=some [.bool false]) (λm' i hi=>by
   show q2f.l5 (n+3) [m] (m'+1) _=_;have hl:=q9w (z6 _ (Ah hi));obtain⟨a,ha⟩:∃k:Nat,g.lq[i].src=(k:Int):=⟨g.lq[i].src.toNat,by omega⟩;obtain⟨b,hb⟩:∃k:Nat,g.lq[i].dst=(k:Int):=⟨g.lq[i].dst.toNat,by omega⟩;obtain⟨p1,p2,p3,p4⟩:=G.pT (h:=h) (z:=a) hh (by omega);obtain⟨_,q2,q3,q4⟩:=G.pT (h:=h) (z:=b) hh (by omega);obtain⟨g1,g2,g3,g4⟩:=G.fT (h:=h) (k:=i) hh hi;have f1:=q4r (n:=n+2) (q1q q4) (q1q p4) (qc _) (qc _);have f2:=w_of (n:=n+2) (z:=-g.lq[i].cap);have f3:=q4r (n:=n+2) (q1q g4) (Sz.int (z:=-g.lq[i].cap)) (qc _) (qc _);have f4:=w_of (n:=n+2) (z:=g.lq[i].cap);have f5:=q4r (n:=n+2) (q1q g4) (Sz.int (z:=g.lq[i].cap)) (qc _) (qc _);have hw:w6 (0-g.lq[i].cap)=-g.lq[i].cap:=by rw[qo];omega
   rw[q2f.q1h];simp only[Aa];rw[Af,Ac,q9 hi];simp only[q83 hi,rr];rw[ha,hb,q9 p1];simp only[qaw p1,rr];rw[Aa,q9 q2,q9 p2];simp only[q55 q2,q55 p2,rr];rw[f1];simp only[rr];rw[q9 g1];simp only[qaw g1,rr];rw[Aa,q9 g2];simp only[q55 g2,rr];rw[hw,f2,f4];simp only[rr];rw[f3,f5];simp only[rr];rw[q57,q4d,q4d,q57,qd (by omega)];unfold q77;rw[Ag hi];simp only;rw[ha,hb,Bh,Bh,p3,q3,g3];cases decide (rd r.p[h][b]<rd r.p[h][a]) <;> cases decide (rd r.p[h][a]<rd r.p[h][b]) <;> cases decide (((-g.lq[i].cap:Int):Rat)<rd r.f[h][i]) <;> cases decide (rd r.f[h][i]<((g.lq[i].cap:Int):Rat)) <;> rfl) (λm'=>by
   show q2f.l5 (n+3) [m] (m'+1) _=_
   rw[q2f.q1h,Aa,Ad,Ab,qd (by omega)]) g.lq.length 0 (n+3) (by omega) (by omega)
  have e5:q2f.l5 (n+3) [m] (n+3) (gR g [.list 1 (r.f.map qz),.list 1 (r.p.map qz),iF (h:Int),iF 0])=_:=e5;rw[q2f.qt,Af,Ac,e5]) (λm=>by
  show q2f.l2 (n+3) [] (m+1) _=_
  rw[q2f.qt,Ad,Ab]) g.qe.toNat 0 (n+3) (by omega) (by omega)
 have e:q2f.l2 (n+3) [] (n+3) (gR g [.list 1 (r.f.map qz),.list 1 (r.p.map qz),iF 0])=_:=e;rw[qnb,e];unfold q76;cases(List.range' 0 g.qe.toNat).all λh=>(List.range' 0 g.lq.length).all (q77 g.lq r h) <;> rfl
end
end
section
section
variable {g:q11} {ss:List StpV} {bs:List BlkV} {r:ResV}
theorem qlz{n:Nat}{b:Bool}{p:Int}(h:-100000<=p/\p<=100000):evF EnA (n+1) 124 [.bool b,iF p]=some [iF (q29 b p)]:=by
 rw[qsl];cases b
 ·rw[Ab,qo];show some [iF (0-p)]=some [iF (-p)];rw[Int.zero_sub]
 ·rfl
def vS(ss:List StpV)(r:ResV)(n:Rat)(i:Nat):Rat:=match ss[i]? with
 |some s=>n+r.xAt i*((q29 s.buy s.qh:Int):Rat)
 |none=>n
def vB(bs:List BlkV)(ac:List Bool)(n:Rat)(i:Nat):Rat:=match bs[i]?,ac[i]? with
 |some b,some true=>b.qty.foldl (λ(n:Rat) (q:Int)=>n+(q:Rat)*((q29 b.buy b.qh:Int):Rat)) n
 |_,_=>n
theorem qox{n:Nat}(G:q1b g ss bs r)(hn:2000<=n):evF EnA n 62 [.list 7 (ss.map StpV.fv),.list 1 (r.x.map sF),.list 8 (bs.map BlkV.fv),.list 1 (r.aq.map .bool)]=some [sF (qy (welV ss bs r))]:=by
 obtain⟨n,rfl⟩:∃k,n=k+4:=⟨n-4,by omega⟩;obtain⟨z1,z2,z3,z4,z5,z6,z7,z8,z9⟩:=q3t (q3u G.sh.ord);obtain⟨o1,o2⟩:=q74 G.sh.ord;have hst:=q8p G.sh.ord;have hbl:=qav G.sh.ord;have la:=G.sh.ac;have lx:=G.sh.x;have bdw:∀ {buy:Bool} {p:Int},(-100000<=p/\p<=100000)->Bd 17 ((q29 buy p:Int):Rat):=fun {buy p} hp=>by
  have:=qas (buy:=buy) hp;refine Bd.int ?_ (by omega);have:(2:Nat)^17=131072:=rfl;omega
 have bdq:∀ {q:Int},(0<=q/\q<=1000)->Bd 17 (q:Rat):=fun {q} hq=>by
  refine Bd.int ?_ (by omega);have:(2:Nat)^17=131072:=rfl;omega
 have hmin:min r.aq.length bs.length=bs.length:=by omega
 have gen:∀(b:BlkV) (l:List Int) (s:Rat) (k:Nat),(-100000<=b.qh/\b.qh<=100000)->(∀q,q∈l->0<=q/\q<=1000)->Bd k s->Bd (k+36*l.length) (l.foldl (λ(n:Rat) (q:Int)=>n+(q:Rat)*((q29 b.buy b.qh:Int):Rat)) s):=by
  intro b l
  induction l with
  |nil=>intro s k _ _ h;exact h.mono (by simp)
  |cons q l ih =>
   intro s k hp hl h;rw[Bf];refine(ih _ (k+36) hp (λq hq=>hl q (AC _ hq)) ((h.add ((bdq (hl q AJ)).mul (bdw (buy:=b.buy) hp))).mono)).mono ?_;simp only[Aq];omega
 have e10:=q5v (F:=λm i (s:Rat)=>q1o.l10 (n+3) [] m [zb (s).num,wl (s).num,.bool false,wL (s).den,.list 8 (bs.map BlkV.fv),.list 1 (r.aq.map .bool),iF (i:Int)]) (len:=bs.length) (g:=λi s=>vB bs r.aq s i) (fin:=λs=>some [sF (qy s)]) (I:=λi s=>Bd (40000+36*3*i) s) (λm i s hi hI=>by
  show q1o.l10 (n+3) [] (m+1) _=_;have hi2:i<r.aq.length:=by omega
  obtain⟨b1,b2,b3,b4,b5,b6⟩:=hbl _ (Ah hi);rw[q1o.q45,Aa,Aa,Af,Ac,Af,Ac];cases hac:r.aq[i]with
  |false =>
   rw[q1o.q4w (n+3) (n+2),Aa,Aa,q9 hi,q9 hi2];simp only[q2i hi,q4q hi2,rr];rw[hac,qd (by omega)];unfold vB;rw[Ag hi,Ag hi2,hac];simp only[Ab];cases decide ((0:Int)<((bs[i].qty.map iF).length:Int)) <;> rfl
  |true =>
   have e13:=q5v (F:=λm' k (s:Rat)=>q1o.l13 (n+3) [m] m' [zb (s).num,wl (s).num,.bool false,wL (s).den,.list 8 (bs.map BlkV.fv),.list 1 (r.aq.map .bool),iF (i:Int),iF (k:Int)]) (len:=bs[i].qty.length) (g:=λk s=>s+((bs[i].qty.getD k 0:Int):Rat)*((q29 bs[i].buy bs[i].qh:Int):Rat)) (fin:=λs=>q1o.l10 (n+3) [] m [zb (s).num,wl (s).num,.bool false,wL (s).den,.list 8 (bs.map BlkV.fv),.list 1 (r.aq.map .bool),iF ((i+1:Nat):Int)]) (I:=λk s=>Bd (40000+36*3*i+36*k) s) (λm' k s hk hI=>by
    show q1o.l13 (n+3) [m] (m'+1) _=_;have hq:=b6 _ (Ah hk);have hwb:=qas (buy:=bs[i].buy) (p:=bs[i].qh) (by omega);have f0:=qlz (n:=n+2) (b:=bs[i].buy) (p:=bs[i].qh) (by omega);have f1:=w_of (n:=n+2) (z:=bs[i].qty[k]);have f2:=w_of (n:=n+2) (z:=q29 bs[i].buy bs[i].qh);have f3:=w_mul (n:=n+2) (Sz.int (z:=bs[i].qty[k])) (Sz.int (z:=q29 bs[i].buy bs[i].qh)) (qc _) (qc _);have f4:=w_add (n:=n+2) (hI.mono) (((bdq hq).mul (bdw (buy:=bs[i].buy) (p:=bs[i].qh) (by omega))).mono) (qc s) (qc _);rw[q1o.q4w,Aa,Aa,q9 hi,q9 hi2];simp only[q2i hi,q4q hi2,rr];rw[hac,Aa,Af,Ac,Ac,q9 hk];simp only[q4c hk,rr];rw[f1];simp only[rr];rw[f0];simp only[rr];rw[f2];simp only[rr];rw[f3];simp only[rr];rw[f4];simp only[rr];rw[qd (by omega),getD_at _ _ hk]) (λk s hk hI=>by
    have hq:=b6 _ (Ah hk);rw[getD_at _ _ hk];exact(hI.add ((bdq hq).mul (bdw (buy:=bs[i].buy) (p:=bs[i].qh) (by omega)))).mono) (λm' s hI=>by
    show q1o.l13 (n+3) [m] (m'+1) _=_;rw[q1o.q4w,Aa,Aa,q9 hi];simp only[q2i hi,rr]
    rw[Aa,Ad,Ab,qd (by omega)]) bs[i].qty.length 0 (n+3) s (by omega) (by omega) hI
   have e13:=e13.1;have e13:q1o.l13 (n+3) [m] (n+3) [zb (s).num,wl (s).num,.bool false,wL (s).den,.list 8 (bs.map BlkV.fv),.list 1 (r.aq.map .bool),iF (i:Int),iF 0]=_:=e13;have ef:(List.range' 0 bs[i].qty.length).foldl (λs j=>s+((bs[i].qty.getD j 0:Int):Rat)*((q29 bs[i].buy bs[i].qh:Int):Rat)) s=bs[i].qty.foldl (λ(n:Rat) (q:Int)=>n+(q:Rat)*((q29 bs[i].buy bs[i].qh:Int):Rat)) s:=qhe (λ(n:Rat) (q:Int)=>n+(q:Rat)*((q29 bs[i].buy bs[i].qh:Int):Rat)) 0 bs[i].qty 0 s;rw[ef]at e13;rw[e13];unfold vB;rw[Ag hi,Ag hi2,hac]) (λi s hi hI=>by
  have hi2:i<r.aq.length:=by omega
  obtain⟨b1,b2,b3,b4,b5,b6⟩:=hbl _ (Ah hi);unfold vB;rw[Ag hi,Ag hi2];cases r.aq[i]with
  |false=>exact hI.mono
  |true=>exact(gen bs[i] bs[i].qty s _ (by omega) b6 hI).mono) (λm s hI=>by
  show q1o.l10 (n+3) [] (m+1) _=_;rw[q1o.q45,Aa,Ad,Ab,w_text (hI.mono) (qc s)]
  rfl)
 have e6:=q5v (F:=λm i (s:Rat)=>q1o.l6 (n+3) [] m [zb (s).num,wl (s).num,.bool false,wL (s).den,.list 7 (ss.map StpV.fv),.list 8 (bs.map BlkV.fv),.list 1 (r.aq.map .bool),.list 4 (r.x.map λt=>qm (rd t)),iF (i:Int)]) (len:=ss.length) (g:=λi s=>vS ss r s i) (fin:=λs=>q1o.l10 (n+3) [] (n+3) [zb (s).num,wl (s).num,.bool false,wL (s).den,.list 8 (bs.map BlkV.fv),.list 1 (r.aq.map .bool),iF 0]) (I:=λi s=>Bd (1+1100*i) s) (λm i s hi hI=>by
  show q1o.l6 (n+3) [] (m+1) _=_;have hk:=hst _ (Ah hi);obtain⟨x1,x2,x3⟩:=G.xT hi;have hwb:=qas (buy:=ss[i].buy) (p:=ss[i].qh) (by omega);have f0:=qlz (n:=n+2) (b:=ss[i].buy) (p:=ss[i].qh) (by omega);have f2:=w_of (n:=n+2) (z:=q29 ss[i].buy ss[i].qh);have f3:=w_mul (n:=n+2) (q1q x3) (Sz.int (z:=q29 ss[i].buy ss[i].qh)) (qc _) (qc _);have f4:=w_add (n:=n+2) (hI.mono) (((q35 x3).mul (bdw (buy:=ss[i].buy) (p:=ss[i].qh) (by omega))).mono) (qc s) (qc _);rw[q1o.q2n];simp only[Aa];rw[Af,Ac,q9 hi,q9 x1];simp only[q36 hi,q55 x1,rr];rw[f0];simp only[rr];rw[f2];simp only[rr];rw[f3];simp only[rr];rw[f4];simp only[rr];rw[qd (by omega)];unfold vS;rw[Ag hi,x2]) (λi s hi hI=>by
  have hk:=hst _ (Ah hi);obtain⟨x1,x2,x3⟩:=G.xT hi;unfold vS;rw[Ag hi];exact(hI.add ((show Bd 1024 (r.xAt i) by rw[x2];exact q35 x3).mul (bdw (buy:=ss[i].buy) (p:=ss[i].qh) (by omega)))).mono) (λm s hI=>by
  show q1o.l6 (n+3) [] (m+1) _=_;rw[q1o.q2n];simp only[Aa]
  rw[Ad,Ab])
 obtain⟨q1,q2⟩:=e6 ss.length 0 (n+3) 0 (by omega) (by omega) (q82.mono);obtain⟨q3,q4⟩:=e10 bs.length 0 (n+3) _ (by omega) (by omega) (q2.mono);have hw:(List.range' 0 bs.length).foldl (λs j=>vB bs r.aq s j) ((List.range' 0 ss.length).foldl (λs j=>vS ss r s j) 0)=welV ss bs r:=by
  unfold welV welB welS;rw[hmin];rfl
 have hall:r.x.all isNum=true:=Av.2 G.num.1;have q1:q1o.l6 (n+3) [] (n+3) [zb (((0:Int):Rat)).num,wl (((0:Int):Rat)).num,.bool false,wL (((0:Int):Rat)).den,.list 7 (ss.map StpV.fv),.list 8 (bs.map BlkV.fv),.list 1 (r.aq.map .bool),.list 4 (r.x.map λt=>qm (rd t)),iF 0]=_:=q1;rw[qsk,qek ⟨G.sm.xl,G.sm.x⟩ (by omega),if_pos hall];simp only[rr];rw[show((0:Int) !=0)=false from rfl,Ab];simp only[Aa];rw[nne,Af lx,Ao,Ab,w_of];simp only[rr];rw[q1];refine q3.trans ?_;rw[hw]
end
end
section
def bndExt(L:List FV):Option (List FV):=match limO EnA 100046 [.ref 26 (.agg L)]with
 |some [.bool b]=>some (L++[.bool b])
 |_=>none
def pieceF:List Nat:=[18,19,44,45,47,48,49,50,51,52,53,55,56,57,58,59,60,62]
def extB:XT:=(46,bndExt)::(lims EnA pieceF++extN)
def EnB:Env:=⟨Go.Proofs.Tryz.prog,fcT,tyT,fnT,λf=>lookN f extB⟩
theorem envOkB:q14 EnB:=⟨λ_ _ h=>qco qcp h,λ_ _ h=>Av.1 qcq _ (q90 h),λ_ _ h=>qcr qcs h,Checked.mixed Go.Proofs.Tryz.checked⟩
def trT:List Tok:=[.int .i64,.int .i64,.lst 3,.int .i64,.int .i64,.lst 7,.lst 8,.lst 1,.lst 1,.lst 1,.lst 1,.str,.str,.bool,.int .i64,.lst 4,.own 1,.own 1,.lst 1,.bool,.lst 1,.bool,.lst 1,.bool,.lst 1,.bool]
theorem q91{α:Type}{k f:Nat}{x g:α}{r:List (Nat×α)}(h:lookN f ((k,x)::r)=some g):(f=k/\x=g)\/lookN f r=some g:=by
 unfold lookN at h;cases hb:Nat.beq k f with
 |true=>rw[hb]at h;cases h;exact .inl ⟨(Aw hb).symm,rfl⟩
 |false=>rw[hb]at h;exact .inr h
theorem extB_ok(hX:q68 En):q68 EnB:=by
 intro f g i L L' hf hi hL;have hf:lookN f ((46,bndExt)::(lims EnA pieceF++extN))=some g:=hf;rcases q91 hf with⟨rfl,rfl⟩ | hf
 ·have hi:fnT 46=some i:=hi;rw[show fnT 46=some ⟨.obj 26::trT,.obj 26::(trT++[.bool]),[]⟩ by kernel_rfl]at hi;cases hi;unfold bndExt at hL;split at hL
  ·rename_i b hb;cases hL;have h46:EnA.fn 100046=some ⟨[.fpt 26],[.skip,.bool],((fnT 100046).getD ⟨[],[],[]⟩).ann⟩:=by kernel_rfl
   obtain⟨q1,q2⟩:=q92 (E:=EnA) envOkA (extA_ok hX) h46 hb;have q3:q2w EnB.P 46 ⟨[.fpt 26],[.skip,.bool],((fnT 100046).getD ⟨[],[],[]⟩).ann⟩ [.ref 26 (.agg L)] [.bool b]:=q2;have q4:q2w EnB.P 46 ⟨.obj 26::trT,.obj 26::(trT++[.bool]),[]⟩ L (L++[.bool b]):=thaw (P:=EnB.P) (f:=46) (k:=26) (T:=trT) (i:=⟨[.fpt 26],[.skip,.bool],((fnT 100046).getD ⟨[],[],[]⟩).ann⟩) (j:=⟨.obj 26::trT,.obj 26::(trT++[.bool]),[]⟩) rfl rfl rfl rfl rfl rfl q3;exact⟨q1,q4⟩
  ·cases hL
 rcases qct hf with hf | hf
 ·rw[q93 hf]at hL;exact q92 envOkA (extA_ok hX) hi hL
 ·rw[q93 hf]at hL;exact q92 envOk hX hi hL
end
section
variable (n m:Nat)
variable (v l:Bool)
variable (r u d w e k h c a b:List FV)
variable (t x f g:ByteArray)
variable (o i q j y s p:Int)
theorem qow:evF EnB (n+1) 15 (k15 o i d q j e k h c a b f g l p [])=(evF EnB n 44 (k26 o i d q j e k h c a b f g l p [] [] [] [] false [] false [] false [] false [])).bind λz=> r27 z λA B C D E F G H I J K M N O P Q R S T U V W X Y Z c26 c27=>
(cond (!c27) (some [iI 1]) ((evF EnB n 45 (k26 A B C D E F G H I J K M N O P Q R S T U V W X Y Z c26 [])).bind λr28=> r27 r28 λn29 n30 v31 n32 n33 v34 v35 v36 v37 v38 v39 u40 u41 c42 n43 v44 v45 v46 v47 c48 v49 c50 v51 c52 v53 c54 c55=>
(cond (!c55) (some [iI 2]) ((evF EnB n 46 (k26 n29 n30 v31 n32 n33 v34 v35 v36 v37 v38 v39 u40 u41 c42 n43 v44 v45 v46 v47 c48 v49 c50 v51 c52 v53 c54 [])).bind λr56=> r27 r56 λn57 n58 v59 n60 n61 v62 v63 v64 v65 v66 v67 u68 u69 c70 n71 v72 v73 v74 v75 c76 v77 c78 v79 c80 v81 c82 c83=>
(cond (!c83) (some [iI 3]) ((evF EnB n 47 (k26 n57 n58 v59 n60 n61 v62 v63 v64 v65 v66 v67 u68 u69 c70 n71 v72 v73 v74 v75 c76 v77 c78 v79 c80 v81 c82 [])).bind λr84=> r27 r84 λn85 n86 v87 n88 n89 v90 v91 v92 v93 v94 v95 u96 u97 c98 n99 v100 v101 v102 v103 c104 v105 c106 v107 c108 v109 c110 c111=>
(cond (!c111) (some [iI 4]) ((evF EnB n 48 (k26 n85 n86 v87 n88 n89 v90 v91 v92 v93 v94 v95 u96 u97 c98 n99 v100 v101 v102 v103 c104 v105 c106 v107 c108 v109 c110 [])).bind λr112=> r27 r112 λn113 n114 v115 n116 n117 v118 v119 v120 v121 v122 v123 u124 u125 c126 n127 v128 v129 v130 v131 c132 v133 c134 v135 c136 v137 c138 c139=>
(cond (!c139) (some [iI 5]) ((evF EnB n 49 (k26 n113 n114 v115 n116 n117 v118 v119 v120 v121 v122 v123 u124 u125 c126 n127 v128 v129 v130 v131 c132 v133 c134 v135 c136 v137 c138 [])).bind λr140=> r27 r140 λn141 n142 v143 n144 n145 v146 v147 v148 v149 v150 v151 u152 u153 c154 n155 v156 v157 v158 v159 c160 v161 c162 v163 c164 v165 c166 c167=>
(cond (!c167) (some [iI 6]) ((evF EnB n 50 (k26 n141 n142 v143 n144 n145 v146 v147 v148 v149 v150 v151 u152 u153 c154 n155 v156 v157 v158 v159 c160 v161 c162 v163 c164 v165 c166 [])).bind λr168=> r27 r168 λn169 n170 v171 n172 n173 v174 v175 v176 v177 v178 v179 u180 u181 c182 n183 v184 v185 v186 v187 c188 v189 c190 v191 c192 v193 c194 c195=>
(cond (!c195) (some [iI 7]) ((evF EnB n 51 (k26 n169 n170 v171 n172 n173 v174 v175 v176 v177 v178 v179 u180 u181 c182 n183 v184 v185 v186 v187 c188 v189 c190 v191 c192 v193 c194 [])).bind λr196=> r27 r196 λn197 n198 v199 n200 n201 v202 v203 v204 v205 v206 v207 u208 u209 c210 n211 v212 v213 v214 v215 c216 v217 c218 v219 c220 v221 c222 c223=>
(cond (!c223) (some [iI 8]) ((evF EnB n 52 (k26 n197 n198 v199 n200 n201 v202 v203 v204 v205 v206 v207 u208 u209 c210 n211 v212 v213 v214 v215 c216 v217 c218 v219 c220 v221 c222 [])).bind λr224=> r27 r224 λn225 n226 v227 n228 n229 v230 v231 v232 v233 v234 v235 u236 u237 c238 n239 v240 v241 v242 v243 c244 v245 c246 v247 c248 v249 c250 c251=>
(cond (!c251) (some [iI 9]) ((evF EnB n 53 (k26 n225 n226 v227 n228 n229 v230 v231 v232 v233 v234 v235 u236 u237 c238 n239 v240 v241 v242 v243 c244 v245 c246 v247 c248 v249 c250 [])).bind λr252=> r27 r252 λn253 n254 v255 n256 n257 v258 v259 v260 v261 v262 v263 u264 u265 c266 n267 v268 v269 v270 v271 c272 v273 c274 v275 c276 v277 c278 c279=>
(cond (!c279) (some [iI 10]) (some [iI 0])))))))))))))))))))):=by kernel_rfl
def q4v.l22(n:Nat):=Lp EnB n 17 [1,1,1,1,1,1,1,1,1,1,1,1,1,1,0,1,0]
theorem q4v.qb9:q4v.l22 n [] (m+1) (k8 r u d w t x v y [.list 7 c,.list 8 a,iL b,iI s]) =
(cond (s<(a.length:Int)) ((ix s a.length).bind λz=> (asStr (at' a z 0)).bind λF=> (asInt .i64 (at' a z 1)).bind λG=> (asInt .i64 (at' a z 2)).bind λH=> (asBool (at' a z 3)).bind λI=> (asInt .i64 (at' a z 4)).bind λJ=> (asLst 1 (at' a z 5)).bind λK=> (asInt .i64 (at' a z 6)).bind λM=> (asInt .i64 (at' a z 7)).bind λN=> (evF EnB n 61 (kB F G H I J K M N [iL w])).bind λE=> (asStr E[0]?).bind λO=>(asInt .i64 E[1]?).bind λn11=>(ix s r.length).bind λP=> (asBool (at' r P 0)).bind λQ=>
(cond Q ((q2p O 0).bind λR=>
(cond (R==45) (some [iI 8]) (q4v.l22 n [] m (k8 r u d w t x v y [.list 7 c,.list 8 a,iL b,iI (w6 (s+1))])))) (q4v.l22 n [] m (k8 r u d w t x v y [.list 7 c,.list 8 a,iL b,iI (w6 (s+1))])))) ((evF EnB n 62 [.list 7 c,iL u,.list 8 a,iL r]).bind λS=> (asStr S[0]?).bind λT=>
(cond (!(T.toList==t.toList)) (some [iI 9]) ((ix 1 b.length).bind λU=> (asLst 4 (at' b U 0)).bind λA=> (ix 1 A.length).bind λC=> (asBool (at' A C 0)).bind λV=> (asLst 1 (at' A C 1)).bind λW=> (asBool (at' A C 2)).bind λX=> (asLst 1 (at' A C 3)).bind λY=> (ix 1 b.length).bind λZ=> (asLst 4 (at' b Z 0)).bind λB=> (ix 0 B.length).bind λD=> (asBool (at' B D 0)).bind λc27=> (asLst 1 (at' B D 1)).bind λv28=> (asBool (at' B D 2)).bind λc29=> (asLst 1 (at' B D 3)).bind λv30=> (evF EnB n 32 (kQ V W X Y (kQ c27 v28 c29 v30 []))).bind λr31=> (asInt .i64 (r31[0]?)).bind λn32=>
(cond (n32<0) (some [iI 10]) (cond v (cond (!(x.toList==t.toList)) (some [iI 10]) (some [iI 0])) (some [iI 0]))))))):=by kernel_rfl
theorem qp1:evF EnB (n+1) 17 (k15 o i d q j e k h c a b f g l p [])=(evF EnB n 55 (k15 o i d q j e k h c a b f g l p [])).bind λG=> (asBool G[0]?).bind λH=>
(cond (!H) (some [iI 1]) ((evF EnB n 56 [iL (qb 2 (iL []) [(0,(iL c)),(1,(iL (qb 2 (.str { data:=#[] }) [(0,(.str f)),(1,(.str g))])))])]).bind λC=> (asLst 1 C[0]?).bind λz=>(asBool C[1]?).bind λI=>(evF EnB n 56 [iL a]).bind λD=> (asLst 1 D[0]?).bind λE=>(asBool D[1]?).bind λJ=>(evF EnB n 56 [iL b]).bind λF=> (asLst 1 F[0]?).bind λA=>(asBool F[1]?).bind λK=>
(cond (!I) (some [iI 2]) (cond (!J) (some [iI 2]) (cond (!K) (some [iI 2]) ((ix 0 z.length).bind λM=> (asLst 4 (at' z M 0)).bind λB=> (evF EnB n 57 (k5 o i d q j (.list 7 e::.list 4 B::k8 h c a b f g l p [iL A]))).bind λN=> (asBool N[0]?).bind λO=>
(cond (!O) (some [iI 3]) ((evF EnB n 58 (k15 o i d q j e k h c a b f g l p [.list 4 B,iL E])).bind λP=> (asBool P[0]?).bind λQ=>
(cond (!Q) (some [iI 4]) ((evF EnB n 59 [.list 7 e,.list 4 B,iL A]).bind λR=> (asBool R[0]?).bind λS=>
(cond (!S) (some [iI 5]) ((evF EnB n 60 (k5 o i d q j [iL E,iL A])).bind λT=> (asBool T[0]?).bind λU=>
(cond (!U) (some [iI 6]) ((evF EnB n 21 [.list 8 k,iL h]).bind λV=> (asBool V[0]?).bind λW=>
(cond (!W) (some [iI 7]) (q4v.l22 n [] n (k8 h c a b f g l p [.list 7 e,.list 8 k,iL z,iI 0]))))))))))))))))):=by kernel_rfl
end
section
section
variable {g:q11} {ss:List StpV} {bs:List BlkV} {r:ResV}
theorem rd_T{L:List FV}{n0:Int}{n1:Int}{v2:List FV}{n3:Int}{n4:Int}{v5:List FV}{v6:List FV}{v7:List FV}{v8:List FV}{v9:List FV}{v10:List FV}{u11:ByteArray}{u12:ByteArray}{c13:Bool}{n14:Int}{v15:List FV}{v16:List FV}{v17:List FV}{v18:List FV}{c19:Bool}{v20:List FV}{c21:Bool}{v22:List FV}{c23:Bool}{v24:List FV}{c25:Bool}{c26:Bool}{K:(Int->Int->List FV->Int->Int->List FV->List FV->List FV->List FV->List FV->List FV->ByteArray->ByteArray->Bool->Int->List FV->List FV->List FV->List FV->Bool->List FV->Bool->List FV->Bool->List FV->Bool->Bool->Option (List FV))}(e:L=[iI n0,iI n1,.list 3 v2,iI n3,iI n4,.list 7 v5,.list 8 v6,iL v7,iL v8,iL v9,iL v10,.str u11,.str u12,.bool c13,iI n14,.list 4 v15,iL v16,iL v17,iL v18,.bool c19,iL v20,.bool c21,iL v22,.bool c23,iL v24,.bool c25,.bool c26]) :
  r27 L K=K n0 n1 v2 n3 n4 v5 v6 v7 v8 v9 v10 u11 u12 c13 n14 v15 v16 v17 v18 c19 v20 c21 v22 c23 v24 c25 c26:=by subst e;rfl
theorem evB{n f:Nat}{L R:List FV}(h:∀n,80000<=n->evF EnA n f L=some R)(e:evF EnB (n+1) f L=limO EnA f L):evF EnB (n+1) f L=some R:=by
 rw[e];exact q1l ⟨80000,h⟩
theorem b_shaped{n:Nat}(h:Sm g ss bs r):evF EnB (n+1) 44 (T0 g ss bs r [])=some (T0 g ss bs r [.bool (q50 g ss bs r)]):=evB (λn hn=>qmu h hn) (by kernel_rfl)
theorem b_read{n:Nat}(h:Sm g ss bs r)(hs:q3v g ss bs r) :
  (q24 r=true->evF EnB (n+1) 45 (T0 g ss bs r [])=some (T1 g ss bs r [.bool true])) /\
  (q24 r=false->∃x f p,evF EnB (n+1) 45 (T0 g ss bs r [])=some (Tg g ss bs r x f p (.list 1 []) (.bool false) (.list 1 []) (.bool false) (.list 1 []) (.bool false) (.list 1 []) (.bool false) [.bool false])):=by
 have e:evF EnB (n+1) 45 (T0 g ss bs r [])=limO EnA 45 (T0 g ss bs r []):=by kernel_rfl
 rw[e];constructor
 ·intro hr;exact q1l ⟨80000,λn hn=>(qht h hs hn).1 hr⟩
 ·intro hr;exact⟨_,_,_,q1l ⟨80000,λn hn=>(qht h hs hn).2 hr⟩⟩
theorem b_bounded{n:Nat}(G:q1b g ss bs r):evF EnB (n+1) 46 (T1 g ss bs r [])=some (T1 g ss bs r [.bool (q60 g ss r)]):=by
 have e:evF EnB (n+1) 46 (T1 g ss bs r [])=bndExt (T1 g ss bs r []):=by kernel_rfl
 rw[e];unfold bndExt;rw[show(FV.agg (T1 g ss bs r []))=frT g ss bs r from rfl,q1l (R:=[.bool (q60 g ss r)]) ⟨2000,λn hn=>qoq G.sm G.sh G.read hn⟩];rfl
theorem qor{n:Nat}(G:q1b g ss bs r):evF EnB (n+1) 47 (T1 g ss bs r [])=some (T1 g ss bs r [.bool (balV g ss bs r)]):=evB (λn hn=>qos G (by omega)) (by kernel_rfl)
theorem b_stepped{n:Nat}(G:q1b g ss bs r):evF EnB (n+1) 48 (T1 g ss bs r [])=some (T1 g ss bs r [.bool (q75 ss r)]):=evB (λn hn=>qot G (by omega)) (by kernel_rfl)
theorem b_lined{n:Nat}(G:q1b g ss bs r):evF EnB (n+1) 49 (T1 g ss bs r [])=some (T1 g ss bs r [.bool (q76 g r)]):=evB (λn hn=>lined_run G (by omega)) (by kernel_rfl)
theorem b_linked{n:Nat}(G:q1b g ss bs r):evF EnB (n+1) 50 (T1 g ss bs r [])=some (T1 g ss bs r [.bool (q4f bs r.aq)]):=evB (λn hn=>qou G.sm (by omega)) (by kernel_rfl)
theorem b_gaining{n:Nat}(G:q1b g ss bs r):evF EnB (n+1) 51 (T1 g ss bs r [])=some (T1 g ss bs r [.bool (q9b bs r)]):=evB (λn hn=>qov G (by omega)) (by kernel_rfl)
theorem b_worth{n:Nat}(G:q1b g ss bs r):evF EnB (n+1) 52 (T1 g ss bs r [])=some (T1 g ss bs r [.bool (q9c ss bs r)]):=evB (λn hn=>worth_run G (by omega)) (by kernel_rfl)
theorem b_upped{n:Nat}(G:q1b g ss bs r):evF EnB (n+1) 53 (T1 g ss bs r [])=some (T1 g ss bs r [.bool (upV r)]):=evB (λn hn=>upped_run G (by omega)) (by kernel_rfl)
theorem check_run{n:Nat}(h:Sm g ss bs r):evF EnB (n+2) 15 (gR g (.list 7 (ss.map StpV.fv)::.list 8 (bs.map BlkV.fv)::rL r []))=some [iF (chkV g ss bs r)]:=by
 rw[qow,b_shaped h,Ae,rd_T rfl];unfold chkV;by_cases hs:q50 g ss bs r=true
 ·rw[hs,Ao,Ab,if_neg (by simp)];have hs:=qee.1 hs;obtain⟨r1,r2⟩:=b_read (n:=n) h hs;by_cases hr:q24 r=true
  ·have G:q1b g ss bs r:=⟨h,hs,hr⟩;rw[r1 hr,hr,if_neg (by simp),Ae,rd_T rfl];rw[Ao,Ab,b_bounded G,Ae,rd_T rfl];by_cases h3:q60 g ss r=true
   ·rw[h3,Ao,Ab,if_neg (by simp),qor G,Ae,rd_T rfl];by_cases h4:balV g ss bs r=true
    ·rw[h4,Ao,Ab,if_neg (by simp),b_stepped G,Ae,rd_T rfl];by_cases h5:q75 ss r=true
     ·rw[h5,Ao,Ab,if_neg (by simp),b_lined G,Ae,rd_T rfl];by_cases h6:q76 g r=true
      ·rw[h6,Ao,Ab,if_neg (by simp),b_linked G,Ae,rd_T rfl];by_cases h7:q4f bs r.aq=true
       ·rw[h7,Ao,Ab,if_neg (by simp),b_gaining G,Ae,rd_T rfl];by_cases h8:q9b bs r=true
        ·rw[h8,Ao,Ab,if_neg (by simp),b_worth G,Ae,rd_T rfl];by_cases h9:q9c ss bs r=true
         ·rw[h9,Ao,Ab,if_neg (by simp),b_upped G,Ae,rd_T rfl];by_cases h10:upV r=true
          ·rw[h10,Ao,Ab,if_neg (by simp)]
          ·rw[AI.2 h10,if_pos rfl];rfl
         ·rw[AI.2 h9,if_pos rfl];rfl
        ·rw[AI.2 h8,if_pos rfl];rfl
       ·rw[AI.2 h7,if_pos rfl];rfl
      ·rw[AI.2 h6,if_pos rfl];rfl
     ·rw[AI.2 h5,if_pos rfl];rfl
    ·rw[AI.2 h4,if_pos rfl];rfl
   ·rw[AI.2 h3,if_pos rfl];rfl
  ·have hr:=AI.2 hr;obtain⟨x,f,p,h0⟩:=r2 hr;rw[h0,hr,if_pos rfl,Ae,rd_T rfl];rfl
 ·rw[AI.2 hs,if_pos rfl];rfl
theorem w_shape{n:Nat}(h:Sm g ss bs r):evF EnB (n+1) 55 (gR g (.list 7 (ss.map StpV.fv)::.list 8 (bs.map BlkV.fv)::rL r []))=some [.bool (q50 g ss bs r)]:=evB (λn hn=>qnc h hn) (by kernel_rfl)
theorem w_read{P:List (List Txt)}{n:Nat}(hP:P.length<=256)(hl:∀l,l∈P->Few l):evF EnB (n+1) 56 [.list 1 (P.map rowF)]=some (if P.all (·.all isNum)=true then [.list 1 (P.map qz),.bool true]else [.list 1 [],.bool false]):=evB (λn hn=>by rw[wread_run hP hl (by omega)];split <;> rfl) (by kernel_rfl)
theorem w_bounds{n:Nat}(G:q1b g ss bs r):evF EnB (n+1) 57 (gR g (.list 7 (ss.map StpV.fv)::.list 4 (r.x.map λt=>qm (rd t))::rL r [.list 1 (r.p.map qz)]))=some [.bool (q60 g ss r)]:=evB (λn hn=>qni G (by omega)) (by kernel_rfl)
theorem w_balance{n:Nat}(G:q1b g ss bs r):evF EnB (n+1) 58 (gR g (.list 7 (ss.map StpV.fv)::.list 8 (bs.map BlkV.fv)::rL r [.list 4 (r.x.map λt=>qm (rd t)),.list 1 (r.f.map qz)]))=some [.bool (balV g ss bs r)]:=evB (λn hn=>qn6 G (by omega)) (by kernel_rfl)
theorem w_steps{n:Nat}(G:q1b g ss bs r):evF EnB (n+1) 59 [.list 7 (ss.map StpV.fv),.list 4 (r.x.map λt=>qm (rd t)),.list 1 (r.p.map qz)]=some [.bool (q75 ss r)]:=evB (λn hn=>qn8 G (by omega)) (by kernel_rfl)
theorem w_lines{n:Nat}(G:q1b g ss bs r):evF EnB (n+1) 60 (gR g [.list 1 (r.f.map qz),.list 1 (r.p.map qz)])=some [.bool (q76 g r)]:=evB (λn hn=>qna G (by omega)) (by kernel_rfl)
theorem w_welfare{n:Nat}(G:q1b g ss bs r):evF EnB (n+1) 62 [.list 7 (ss.map StpV.fv),.list 1 (r.x.map sF),.list 8 (bs.map BlkV.fv),.list 1 (r.aq.map .bool)]=some [sF (qy (welV ss bs r))]:=evB (λn hn=>qox G (by omega)) (by kernel_rfl)
theorem w_links{n:Nat}(h:Sm g ss bs r):evF EnB (n+1) 21 [.list 8 (bs.map BlkV.fv),.list 1 (r.aq.map .bool)]=some [.bool (q4f bs r.aq)]:=by
 have e:evF EnB (n+1) 21 [.list 8 (bs.map BlkV.fv),.list 1 (r.aq.map .bool)]=limO En 21 [.list 8 (bs.map BlkV.fv),.list 1 (r.aq.map .bool)]:=by kernel_rfl
 rw[e];have:=h.bsl;exact q1l (qo5 (by omega))
theorem w_surplus{n:Nat}(G:q1b g ss bs r){b:BlkV}(hb:b∈bs):evF EnB (n+1) 61 [.str b.who,iF b.seq,iF b.zone,.bool b.buy,iF b.qh,.list 1 (b.qty.map iF),iF b.pq,iF b.gq,.list 1 (r.p.map rowF)]=some [sF (qy (q6d b r)),iF 0]:=by
 have e:evF EnB (n+1) 61 [.str b.who,iF b.seq,iF b.zone,.bool b.buy,iF b.qh,.list 1 (b.qty.map iF),iF b.pq,iF b.gq,.list 1 (r.p.map rowF)]=evF EnA (n+1) 61 [.str b.who,iF b.seq,iF b.zone,.bool b.buy,iF b.qh,.list 1 (b.qty.map iF),iF b.pq,iF b.gq,.list 1 (r.p.map rowF)]:=by kernel_rfl
 rw[e,w_surp G hb]
theorem w_cmpB{n:Nat}{q q':Rat}(hq:Sz q)(hr:Sz q'):evF EnB (n+1) 32 [zb (q).num,wl (q).num,.bool false,wL (q).den,zb (q').num,wl (q').num,.bool false,wL (q').den]=some [iF (cmpQ q q')]:=by
 have e:evF EnB (n+1) 32 [zb (q).num,wl (q).num,.bool false,wL (q).den,zb (q').num,wl (q').num,.bool false,wL (q').den]=evF EnA (n+1) 32 [zb (q).num,wl (q).num,.bool false,wL (q).den,zb (q').num,wl (q').num,.bool false,wL (q').den]:=by kernel_rfl
 rw[e,q4r hq hr (qc _) (qc _)]
theorem qoy(q:Rat):∃c:UInt8,(qy q)[0]?=some c/\(c=45↔q<0):=by
 have hd:∀m:Nat,∃c:UInt8,(qk m)[0]?=some c/\c≠45:=λm=>by
  have hp:=qfi m;have h0:0<(qk m).length:=by omega
  refine⟨(qk m)[0],Ag h0,λe=>?_⟩;exact qfj isD_45 (q6b m) (by rw[<- e];exact Ah h0)
 have hz:∃c:UInt8,(qu q.num)[0]?=some c/\(c=45↔q.num<0):=by
  unfold qu;by_cases h:q.num<0
  ·rw[if_pos h];exact⟨45,rfl,λ_=>h,λ_=>rfl⟩
  ·rw[if_neg h];obtain⟨c,h1,h2⟩:=hd q.num.natAbs;exact⟨c,h1,λe=>absurd e h2,λe=>absurd e h⟩
 have hn:q.num<0↔q<0:=by rw[<- Ch,<- DD];omega
 obtain⟨c,h1,h2⟩:=hz;refine⟨c,?_,h2.trans hn⟩;unfold qy;split
 ·exact h1
 ·rw[Dn (Am.1 h1).1];exact h1
theorem u8_45(c:UInt8):(((c.toNat:Nat):Int)==45)=decide (c=45):=by
 rw[Bm,Bv,At];constructor
 ·intro h;apply Do.1;show c.toNat=45;omega
 ·intro h;rw[h];rfl
theorem qoz{n:Nat}(G:q1b g ss bs r):q4v.l22 (n+100) [] (n+100) (rL r [.list 7 (ss.map StpV.fv),.list 8 (bs.map BlkV.fv),.list 1 ([r.x,[r.ql,r.uq]].map qz),iF 0])=some [iF (if q9b bs r=false then 8 else if q9c ss bs r=false then 9 else if upV r=false then 10 else 0)]:=by
 obtain⟨o1,o2⟩:=q74 G.sh.ord;have la:=G.sh.ac;obtain⟨_,nw,nu,_⟩:=G.num
 have e:=q1w (F:=λm i=>q4v.l22 (n+100) [] m (rL r [.list 7 (ss.map StpV.fv),.list 8 (bs.map BlkV.fv),.list 1 ([r.x,[r.ql,r.uq]].map qz),iF (i:Int)])) (len:=bs.length) (P:=gainAt bs r) (fin:=some [iF (if q9c ss bs r=false then 9 else if upV r=false then 10 else 0)]) (stop:=some [iF 8]) (λm i hi=>by
  show q4v.l22 (n+100) [] (m+1) _=_;have hi2:i<r.aq.length:=by omega
  obtain⟨c,c1,c2⟩:=qoy (q6d bs[i] r);rw[q4v.qb9];simp only[Aa];rw[Af,Ac,q9 hi,q9 hi2];simp only[q2i hi,rr];rw[w_surplus (n:=n+99) G (Ah hi)];simp only[q4q hi2,rr];rw[show(0:Int)=((0:Nat):Int) from rfl,q48,c1];simp only[AE,Ae];rw[u8_45,qd (by omega)];unfold gainAt;rw[Ag hi,Ag hi2];cases r.aq[i]with
  |false=>rfl
  |true =>
   simp only;by_cases hg:q6d bs[i] r<0
   ·rw[Af (c2.2 hg),Ad (Ch.2 hg)];rfl
   ·rw[Ad (λq=>hg (c2.1 q)),Af (Cu.1 hg)];rfl) (λm=>by
  show q4v.l22 (n+100) [] (m+1) _=_;rw[q4v.qb9];simp only[Aa];rw[Ad,Ab,w_welfare (n:=n+99) G];simp only[rr];rw[q37,q37];unfold q9c;by_cases h9:qy (welV ss bs r)=r.ql
  ·rw[Af h9,Ao,Ab,if_neg (by simp)];show((asBool (at' ([rd r.ql,rd r.uq].map qm) 1 0)).bind λc20=>(asLst 1 (at' ([rd r.ql,rd r.uq].map qm) 1 1)).bind λv21=>(asBool (at' ([rd r.ql,rd r.uq].map qm) 1 2)).bind λc22=>(asLst 1 (at' ([rd r.ql,rd r.uq].map qm) 1 3)).bind λv23=>(asBool (at' ([rd r.ql,rd r.uq].map qm) 0 0)).bind λc27=>(asLst 1 (at' ([rd r.ql,rd r.uq].map qm) 0 1)).bind λv28=>(asBool (at' ([rd r.ql,rd r.uq].map qm) 0 2)).bind λc29=>(asLst 1 (at' ([rd r.ql,rd r.uq].map qm) 0 3)).bind λv30=>(evF EnB (n+100) 32 [.bool c20,.list 1 v21,.bool c22,.list 1 v23,.bool c27,.list 1 v28,.bool c29,.list 1 v30]).bind λr31=>(asInt .i64 (r31[0]?)).bind λn32=>(bif(decide (n32<0))then some [iF 10]else(bif r.q80 then(bif(!decide (r.uq=r.ql))then some [iF 10]else some [iF 0])else some [iF 0])))=_
   rw[show at' ([rd r.ql,rd r.uq].map qm) 1 0=some (zb (rd r.uq).num) from rfl,show at' ([rd r.ql,rd r.uq].map qm) 1 1=some (wl (rd r.uq).num) from rfl,show at' ([rd r.ql,rd r.uq].map qm) 1 2=some (.bool false) from rfl,show at' ([rd r.ql,rd r.uq].map qm) 1 3=some (wL (rd r.uq).den) from rfl,
    show at' ([rd r.ql,rd r.uq].map qm) 0 0=some (zb (rd r.ql).num) from rfl,show at' ([rd r.ql,rd r.uq].map qm) 0 1=some (wl (rd r.ql).num) from rfl,show at' ([rd r.ql,rd r.uq].map qm) 0 2=some (.bool false) from rfl,show at' ([rd r.ql,rd r.uq].map qm) 0 3=some (wL (rd r.ql).den) from rfl]
   simp only[rr];rw[w_cmpB (n:=n+99) (q1q G.sm.u) (q1q G.sm.w)];simp only[rr];rw[q4d];unfold upV;by_cases hlt:rd r.uq<rd r.ql
   ·rw[Af hlt,Ad (p:=rd r.ql<=rd r.uq) (Ch.2 hlt)];rfl
   ·rw[Ad hlt,Af (p:=rd r.ql<=rd r.uq) (Cu.1 hlt)];cases r.q80 <;> cases decide (r.uq=r.ql) <;> rfl
  ·rw[Ad h9]
   rfl) bs.length 0 (n+100) (by omega) (by omega)
 have e:q4v.l22 (n+100) [] (n+100) (rL r [.list 7 (ss.map StpV.fv),.list 8 (bs.map BlkV.fv),.list 1 ([r.x,[r.ql,r.uq]].map qz),iF 0])=_:=e;rw[e,show q9b bs r=(List.range' 0 bs.length).all (gainAt bs r) from rfl];cases(List.range' 0 bs.length).all (gainAt bs r) <;> rfl
theorem qp0{n:Nat}(h:Sm g ss bs r):evF EnB (n+101) 17 (gR g (.list 7 (ss.map StpV.fv)::.list 8 (bs.map BlkV.fv)::rL r []))=some [iF (chkV g ss bs r)]:=by
 have few:Few r.x:=⟨h.xl,h.x⟩
 have fewo:Few [r.ql,r.uq]:=⟨by simp,λt ht=>by
  rcases Ar.1 ht with rfl | ht
  ·exact h.w
  ·rw[BK.1 ht];exact h.u⟩
 have d1:=w_read (P:=[r.x,[r.ql,r.uq]]) (n:=n+99) (by simp) (λl hl=>by
  rcases Ar.1 hl with rfl | hl
  ·exact few
  ·rw[BK.1 hl];exact fewo)
 have d2:=w_read (P:=r.f) (n:=n+99) h.fl h.f;have d3:=w_read (P:=r.p) (n:=n+99) h.pl h.p;rw[qp1,w_shape (n:=n+99) h];simp only[rr];unfold chkV;by_cases hs:q50 g ss bs r=true
 ·rw[hs,Ao,Ab,if_neg (by simp)];have hs:=qee.1 hs;have hrv:q24 r=([r.x,[r.ql,r.uq]].all (·.all isNum)&&r.f.all (·.all isNum)&&r.p.all (·.all isNum)):=by
   unfold q24;simp only[Bk,ED,CG];cases r.x.all isNum <;> cases isNum r.ql <;> cases isNum r.uq <;> cases r.f.all (·.all isNum) <;> cases r.p.all (·.all isNum) <;> rfl
  rw[show qb 2 (.list 1 []) [(0,.list 1 (r.x.map sF)),(1,.list 1 (qb 2 (.str { data:=#[] }) [(0,sF r.ql),(1,sF r.uq)]))]=[r.x,[r.ql,r.uq]].map rowF from rfl,d1,d2,d3];by_cases hr:q24 r=true
  ·have G:q1b g ss bs r:=⟨h,hs,hr⟩;have hr2:=hr;rw[hrv]at hr2;simp only[Ai]at hr2;obtain⟨⟨a1,a2⟩,a3⟩:=hr2;rw[if_pos a1,if_pos a2,if_pos a3,hr,if_neg (by simp)];simp only[rr];rw[show(!true)=false from rfl,Ab,Ab,Ab,show ix 0 (List.map qz [r.x,[r.ql,r.uq]]).length=some 0 from rfl,Ae,show at' (List.map qz [r.x,[r.ql,r.uq]]) 0 0=some (.list 4 (r.x.map λt=>qm (rd t))) from rfl,qx,Ae,w_bounds (n:=n+99) G];simp only[rr];by_cases h3:q60 g ss r=true
   ·rw[h3,Ao,Ab,if_neg (by simp),w_balance (n:=n+99) G];simp only[rr];by_cases h4:balV g ss bs r=true
    ·rw[h4,Ao,Ab,if_neg (by simp),w_steps (n:=n+99) G];simp only[rr];by_cases h5:q75 ss r=true
     ·rw[h5,Ao,Ab,if_neg (by simp),w_lines (n:=n+99) G];simp only[rr];by_cases h6:q76 g r=true
      ·rw[h6,Ao,Ab,if_neg (by simp),w_links (n:=n+99) G.sm];simp only[rr];by_cases h7:q4f bs r.aq=true
       ·rw[h7,Ao,Ab,if_neg (by simp)];exact qoz (n:=n) G
       ·rw[AI.2 h7,if_pos rfl];rfl
      ·rw[AI.2 h6,if_pos rfl];rfl
     ·rw[AI.2 h5,if_pos rfl];rfl
    ·rw[AI.2 h4,if_pos rfl];rfl
   ·rw[AI.2 h3,if_pos rfl];rfl
  ·have hr:=AI.2 hr;rw[hr,if_pos rfl];rw[hrv]at hr;cases a1:[r.x,[r.ql,r.uq]].all (·.all isNum)with
   |false =>
    cases a2:r.f.all (·.all isNum) <;> cases a3:r.p.all (·.all isNum) <;> rfl
   |true =>
    rw[a1]at hr;cases a2:r.f.all (·.all isNum)with
    |false=>cases a3:r.p.all (·.all isNum) <;> rfl
    |true =>
     rw[a2]at hr;cases a3:r.p.all (·.all isNum)with
     |false=>rfl
     |true=>rw[a3]at hr;cases hr
 ·rw[AI.2 hs,if_pos rfl];rfl
end
end
end
end Rf
section
namespace Rf
open Go
end Rf
end
section
set_option maxRecDepth 100000
set_option maxHeartbeats 4000000
namespace Rf
open Go
end Rf
end
namespace Rf
open Go
def stpShp:List Shp:=[.str,.int .i64,.int .i64,.int .i64,.bool,.int .i64,.int .i64]
theorem stpV_of{cs:List FV}(h:All2 Fits stpShp cs):∃s:StpV,mkEl true cs=s.fv/\True:=by
 obtain⟨x1,r1,rfl,h1,h⟩:=h.cons_inv;obtain⟨x2,r2,rfl,h2,h⟩:=h.cons_inv;obtain⟨x3,r3,rfl,h3,h⟩:=h.cons_inv;obtain⟨x4,r4,rfl,h4,h⟩:=h.cons_inv;obtain⟨x5,r5,rfl,h5,h⟩:=h.cons_inv;obtain⟨x6,r6,rfl,h6,h⟩:=h.cons_inv;obtain⟨x7,r7,rfl,h7,h⟩:=h.cons_inv;obtain rfl:=h.qcc;obtain⟨s1,rfl,_⟩:=h1.q5s;obtain⟨n2,rfl,_⟩:=h2.q22;obtain⟨n3,rfl,_⟩:=h3.q22;obtain⟨n4,rfl,_⟩:=h4.q22;obtain⟨b5,rfl⟩:=h5.q51;obtain⟨n6,rfl,_⟩:=h6.q22;obtain⟨n7,rfl,_⟩:=h7.q22;exact⟨⟨s1,n2,n3,n4,b5,n6,n7⟩,rfl,trivial⟩
def lnShp:List Shp:=[.int .i64,.int .i64,.int .i64]
theorem lineV_of{cs:List FV}(h:All2 Fits lnShp cs):∃l:qw,mkEl true cs=l.fv/\True:=by
 obtain⟨x1,r1,rfl,h1,h⟩:=h.cons_inv;obtain⟨x2,r2,rfl,h2,h⟩:=h.cons_inv;obtain⟨x3,r3,rfl,h3,h⟩:=h.cons_inv;obtain rfl:=h.qcc;obtain⟨n1,rfl,_⟩:=h1.q22;obtain⟨n2,rfl,_⟩:=h2.q22;obtain⟨n3,rfl,_⟩:=h3.q22;exact⟨⟨n1,n2,n3⟩,rfl,trivial⟩
structure Sw(g:q11)(ss:List StpV)(bs:List BlkV)(r:ResV):Prop where
 ssl:ss.length<=140737488351232
 bsl:bs.length<=140737488351232
 lsl:g.lq.length<=140737488351232
 acl:r.aq.length<=140737488351232
 xl:r.x.length<=140737488355328
 fl:r.f.length<=140737488351232
 pl:r.p.length<=140737488351232
 f:∀l,l∈r.f->l.length<=140737488355328
 p:∀l,l∈r.p->l.length<=140737488355328
section
variable {g:q11} {ss:List StpV} {bs:List BlkV} {r:ResV} {n:Nat}
end
end Rf
