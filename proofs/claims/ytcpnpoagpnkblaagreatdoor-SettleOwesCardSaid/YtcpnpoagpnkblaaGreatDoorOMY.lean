/- Texts of this work put together, their blanks and comments taken out: Rca, Rcb, Rcc. -/
import Derived.Test.YtcpnpoagpnkblaaGreatDoorOMX
set_option linter.unusedVariables false
set_option linter.unusedSimpArgs false
set_option maxHeartbeats 4000000
namespace Rf
open Go
section
abbrev rL(r:ResV)(rest:List FV):List FV:=.list 1 (r.accept.map .bool)::.list 1 (r.x.map sF)::.list 1 (r.f.map rowF)::.list 1 (r.p.map rowF)::sF r.qn::sF r.upper::.bool r.q86::iF r.nodes::rest
abbrev gR(g:q10)(rest:List FV):List FV:=iF g.qa::iF g.qg::.list 3 (g.lines.map qz.fv)::iF g.low::iF g.high::rest
noncomputable def q11(l:List Txt):FV:=.list 4 (l.map λt=>qo (rd t))
theorem q5f{l:List Txt}{i:Nat}(h:i<l.length)(c:Nat):at' (l.map λt=>qo (rd t)) i c=[zb (rd l[i]).num,wl (rd l[i]).num,.bool false,wL (rd l[i]).den][c]?:=by rw[q2a,Ag h];rfl
theorem qb7{P:List (List Txt)}{i:Nat}(h:i<P.length):at' (P.map q11) i 0=some (.list 4 (P[i].map λt=>qo (rd t))):=by rw[q2a,Ag h];rfl
theorem qf3{α:Type}(q:Rat)(lo hi:Int)(T F:α):(bif decide (q<((lo:Int):Rat))then F else bif decide (((hi:Int):Rat)<q)then F else T)=bif inR q lo hi then T else F:=by
 unfold inR;by_cases hA:q<((lo:Int):Rat)
 ·rw[Af hA,Ad (p:=((lo:Int):Rat)<=q) (Cb.2 hA)];rfl
 ·rw[Ad hA,Af (p:=((lo:Int):Rat)<=q) (Ci.1 hA)];by_cases hB:((hi:Int):Rat)<q
  ·rw[Af hB,Ad (p:=q<=((hi:Int):Rat)) (Cb.2 hB)];rfl
  ·rw[Ad hB,Af (p:=q<=((hi:Int):Rat)) (Ci.1 hB)];rfl
theorem inR_cut2{α:Type}(q:Rat)(lo hi:Int)(T F:α):(bif decide (((hi:Int):Rat)<q)then F else bif decide (q<((lo:Int):Rat))then F else T)=bif inR q lo hi then T else F:=by
 rw[<- qf3];cases decide (((hi:Int):Rat)<q) <;> cases decide (q<((lo:Int):Rat)) <;> rfl
section
variable {g:q10} {ss:List StpV} {bs:List BlkV} {r:ResV}
theorem qod{n:Nat}(h:Sm g ss bs r)(hn:80000<=n):evF EnA n 55 (gR g (.list 7 (ss.map StpV.fv)::.list 8 (bs.map BlkV.fv)::rL r []))=some [.bool (q5a g ss bs r)]:=by
 obtain⟨n,rfl⟩:=qSx n;have ho:=qnt h (n:=n) (by omega);unfold gL at ho;simp only[Al,At]at ho;rw[qoe,ho,Aa,Aa,Aa,Aa,Aa,Aa];simp only[rr];rw[show q5a g ss bs r=(q28 g ss bs&&decide (r.accept.length=bs.length)&&decide (r.x.length=ss.length)&&decide ((r.f.length:Int)=g.qg)&&decide ((r.p.length:Int)=g.qg)&&decide (0<=r.nodes)&&(List.range' 0 g.qg.toNat).all (q87 g r)) from rfl];cases hov:q28 g ss bs with
 |false=>simp
 |true =>
  obtain⟨z1,z2,z3,z4,_⟩:=q3w (q3x hov);rw[nne,nne,ine,ine,show decide (0<=r.nodes)=!decide (r.nodes<0) from dle _ _];by_cases e1:r.accept.length=bs.length
  ·by_cases e2:r.x.length=ss.length
   ·by_cases e3:(r.f.length:Int)=g.qg
    ·by_cases e4:(r.p.length:Int)=g.qg
     ·have hl:=q21 (F:=λm i=>q69.l4 n [] m (gR g (rL r [iF (i:Int)]))) (len:=g.qg.toNat) (P:=q87 g r) (fin:=some [.bool true]) (stop:=some [.bool false]) (λm i hi=>by
       show q69.l4 n [] (m+1) _=_;have i1:i<r.f.length:=by omega
       have i2:i<r.p.length:=by omega
       rw[q69.q14,Af,Ac,Aa,Aa,Aa,q9 i1,q9 i2];simp only[q2f i1,q2f i2,rr];rw[Aa,Aa,nne,ine,qc];unfold q87;rw[getD_at _ _ i1,getD_at _ _ i2];cases decide (r.f[i].length=g.lines.length) <;> cases decide (((r.p[i].length:Nat):Int)=g.qa) <;> rfl) (λm=>by
       show q69.l4 n [] (m+1) _=_
       rw[q69.q14,Ad,Ab]) g.qg.toNat 0 n (by omega) (by omega)
      have hl:q69.l4 n [] n (gR g (rL r [iF 0]))=_:=hl;rw[hl,Af e1,Af e2,Af e3,Af e4];cases decide (r.nodes<0) <;> cases(List.range' 0 g.qg.toNat).all (q87 g r) <;> rfl
     ·rw[Ad e4];simp
    ·rw[Ad e3];simp
   ·rw[Ad e2];simp
  ·rw[Ad e1];simp
theorem qf4{X:List Txt}{n:Nat}(hl:Few X)(hn:300<=n):evF EnA n 120 [.list 1 (X.map sF)]=if X.all isNum=true then some [.list 4 (X.map λt=>qo (rd t)),iF 0]else some [.list 4 [],iF 10]:=by
 obtain⟨n,rfl⟩:∃k,n=k+2:=⟨n-2,by omega⟩;have:=hl.1;have h:=q21 (F:=λm i=>q6a.l3 (n+1) [] m [.list 1 (X.map sF),.list 4 ((X.take i).map λt=>qo (rd t)),iF (i:Int)]) (len:=X.length) (P:=λi=>match X[i]? with | some t=>isNum t | none=>true)
  (fin:=some [.list 4 (X.map λt=>qo (rd t)),iF 0]) (stop:=some [.list 4 [],iF 10]) (λm i hi=>by
  show q6a.l3 (n+1) [] (m+1) _=_;rw[q6a.qm,Aa,Af,Ac,q9 hi,Ag hi];simp only[q50 hi,rr];have hlen:=hl.2 X[i] (Ah hi);cases hp:pr X[i]with
  |none =>
   rw[w_bad hp];simp only[rr];have:isNum X[i]=false:=by unfold isNum;rw[hp];rfl
   rw[this];rfl
  |some q =>
   rw[qf5 hp];simp only[rr];have:isNum X[i]=true:=by unfold isNum;rw[hp];rfl
   rw[this,Ac,show Nat.ble (((X.take i).map λt=>qo (rd t)).length+(qd 1 (.agg [.bool false,.list 1 [],.bool false,.list 1 []]) [(0,.agg [zb (q).num,wl (q).num,.bool false,wL (q).den])]).length) 2199023255552=true by
    apply Di;rw[Aa,BC];show _+1<=_
    omega,Ac,qc]
   have e:((X.take i).map λt=>qo (rd t))++qd 1 (.agg [.bool false,.list 1 [],.bool false,.list 1 []]) [(0,.agg [zb (q).num,wl (q).num,.bool false,wL (q).den])]=(X.take (i+1)).map λt=>qo (rd t):=by
    rw[<- qcm (λt=>qo (rd t)) X hi,rd_some hp];rfl
   rw[e];rfl) (λm=>by
  show q6a.l3 (n+1) [] (m+1) _=_
  rw[q6a.qm,Aa,Ad,Ab,Bj]) X.length 0 (n+1) (by omega) (by omega)
 rw[q4y X isNum (λi hi=>by rw[Ag hi])]at h;rw[qof];have h:q6a.l3 (n+1) [] (n+1) [.list 1 (X.map sF),.list 4 (qd 0 (.agg [.bool false,.list 1 [],.bool false,.list 1 []]) []),iF 0]=_:=h;rw[h];cases X.all isNum <;> rfl
theorem wread_run{P:List (List Txt)}{n:Nat}(hP:P.length<=256)(hl:∀l,l∈P->Few l)(hn:700<=n):evF EnA n 56 [.list 1 (P.map rowF)]=if P.all (·.all isNum)=true then some [.list 1 (P.map q11),.bool true]else some [.list 1 [],.bool false]:=by
 obtain⟨n,rfl⟩:∃k,n=k+2:=⟨n-2,by omega⟩;have h:=q21 (F:=λm i=>q6b.l3 (n+1) [] m [.list 1 (P.map rowF),.list 1 ((P.take i).map q11),iF (i:Int)]) (len:=P.length) (P:=λi=>match P[i]? with | some l=>l.all isNum | none=>true)
  (fin:=some [.list 1 (P.map q11),.bool true]) (stop:=some [.list 1 [],.bool false]) (λm i hi=>by
  show q6b.l3 (n+1) [] (m+1) _=_;rw[q6b.qm,Aa,Af,Ac,q9 hi,Ag hi];simp only[q2f hi,rr];rw[qf4 (hl _ (Ah hi)) (by omega)];cases hp:P[i].all isNum with
  |false=>rfl
  |true =>
   rw[if_pos rfl];simp only[rr]
   rw[show((0:Int) !=0)=false from rfl,Ab,show Nat.ble (((P.take i).map q11).length+(qd 1 (.list 4 []) [(0,.list 4 (P[i].map λt=>qo (rd t)))]).length) 5864062014805=true by
    apply Di;rw[Aa,BC];show _+1<=_
    omega,Ac,qc]
   have e:((P.take i).map q11)++qd 1 (.list 4 []) [(0,.list 4 (P[i].map λt=>qo (rd t)))]=(P.take (i+1)).map q11:=qcm q11 P hi;rw[e]) (λm=>by
  show q6b.l3 (n+1) [] (m+1) _=_
  rw[q6b.qm,Aa,Ad,Ab,Bj]) P.length 0 (n+1) (by omega) (by omega)
 rw[q4y P (·.all isNum) (λi hi=>by rw[Ag hi])]at h;rw[qog];have h:q6b.l3 (n+1) [] (n+1) [.list 1 (P.map rowF),.list 1 (qd 0 (.list 4 []) []),iF 0]=_:=h;rw[h];cases P.all (·.all isNum) <;> rfl
theorem qoh{n:Nat}{l:List Txt}(hl:Few l)(hg:∀x,x∈g.lines->0<=x.cap/\x.cap<=1000)(hn:1000<=n):evF EnA n 121 (gR g [.list 1 (l.map sF)])=some [.bool (q51 g l)]:=by
 obtain⟨n,rfl⟩:∃k,n=k+2:=⟨n-2,by omega⟩;have:=hl.1;rw[qoi,qf4 hl (by omega),Aa,Aa];unfold q51;cases hall:l.all isNum with
 |false=>rfl
 |true =>
  rw[if_pos rfl];simp only[rr];rw[show((0:Int) !=0)=false from rfl,Ab,nne];by_cases hlen:l.length=g.lines.length
  ·rw[Af hlen,Am,Ab]
   have h:=q21 (F:=λm i=>q6c.l5 (n+1) [] m (gR g [.list 4 (l.map λt=>qo (rd t)),iF (i:Int)])) (len:=l.length) (P:=λi=>inR (rd (l.getD i [])) (-(g.lines.getD i default).cap) (g.lines.getD i default).cap) (fin:=some [.bool true]) (stop:=some [.bool false]) (λm i hi=>by
    show q6c.l5 (n+1) [] (m+1) _=_;have hi2:i<g.lines.length:=by omega
    obtain⟨c1,c2⟩:=hg _ (Ah hi2);have hq:=q1s (hl.2 _ (Ah hi));have hc:=Sz.int (z:=g.lines[i].cap);have hc2:=Sz.int (z:=-g.lines[i].cap);have e0:-((g.lines[i].cap:Int):Rat)=((-g.lines[i].cap:Int):Rat):=(CS _).symm;rw[q6c.q1o,Aa,Aa,Af,Ac,q9 hi,q9 hi2];simp only[q5f hi,q8a hi2,rr];rw[w_of];simp only[rr];rw[q4k hq hc (qb _) (qb _)];simp only[rr];rw[q5h,w_neg (qb _)];simp only[rr];rw[e0,q4k hq hc2 (qb _) (qb _)];simp only[rr];rw[q3y,qc,getD_at _ _ hi,getD_at _ _ hi2,inR_cut2]) (λm=>by
    show q6c.l5 (n+1) [] (m+1) _=_
    rw[q6c.q1o,Aa,Ad,Ab]) l.length 0 (n+1) (by omega) (by omega)
   have h:q6c.l5 (n+1) [] (n+1) (gR g [.list 4 (l.map λt=>qo (rd t)),iF 0])=_:=h;rw[h];simp only[AB];cases(List.range' 0 l.length).all λi=>inR (rd (l.getD i [])) (-(g.lines.getD i default).cap) (g.lines.getD i default).cap <;> rfl
  ·rw[Ad hlen];rfl
theorem qoj{n:Nat}(G:q1d g ss bs r)(hn:2000<=n):evF EnA n 57 (gR g (.list 7 (ss.map StpV.fv)::.list 4 (r.x.map λt=>qo (rd t))::rL r [.list 1 (r.p.map q11)]))=some [.bool (q4b g ss r)]:=by
 obtain⟨n,rfl⟩:∃k,n=k+4:=⟨n-4,by omega⟩;obtain⟨z1,z2,z3,z4,z5,z6,z7,z8,z9⟩:=q3w (q3x G.sh.ord);obtain⟨o1,o2⟩:=q7e G.sh.ord;have hst:=q90 G.sh.ord;have lf:=G.sh.f;have lp:=G.sh.p
 have e7:=q21 (F:=λm i=>q1t.l7 (n+3) [] m (gR g (rL r [.list 1 (r.p.map q11),iF (i:Int)]))) (len:=g.qg.toNat) (P:=λi=>q51 g (r.f.getD i [])&&(List.range' 0 g.qa.toNat).all λz=>inR (r.pAt i z) g.low g.high) (fin:=some [.bool true]) (stop:=some [.bool false]) (λm i hi=>by
  show q1t.l7 (n+3) [] (m+1) _=_;have i1:i<r.f.length:=by omega
  have e12:=q21 (F:=λm' z=>q1t.l12 (n+3) [m] m' (gR g (rL r [.list 1 (r.p.map q11),iF (i:Int),iF (z:Int)]))) (len:=g.qa.toNat) (P:=λz=>inR (r.pAt i z) g.low g.high) (fin:=q1t.l7 (n+3) [] m (gR g (rL r [.list 1 (r.p.map q11),iF ((i+1:Nat):Int)]))) (stop:=some [.bool false]) (λm' z hz=>by
   show q1t.l12 (n+3) [m] (m'+1) _=_;obtain⟨p1,p2,p3,p4⟩:=G.pT hi hz;have f1:=w_of (n:=n+2) (z:=g.low);have f2:=w_of (n:=n+2) (z:=g.high);have f3:=q4k (n:=n+2) (q1s p4) (Sz.int (z:=g.low)) (qb _) (qb _);have f4:=q4k (n:=n+2) (q1s p4) (Sz.int (z:=g.high)) (qb _) (qb _);rw[q1t.q3z,Af,Ac,Aa,q9 p1];simp only[qb7 p1,rr];rw[Aa,q9 p2];simp only[q5f p2,rr];rw[f1,f2];simp only[rr];rw[f3,f4];simp only[rr];rw[q3y,q5h,qc,p3,qf3]) (λm'=>by
   show q1t.l12 (n+3) [m] (m'+1) _=_
   rw[q1t.q3z,Ad,Ab,qc]) g.qa.toNat 0 (n+3) (by omega) (by omega)
  have e12:q1t.l12 (n+3) [m] (n+3) (gR g (rL r [.list 1 (r.p.map q11),iF (i:Int),iF 0]))=_:=e12;rw[q1t.q2u,Af,Ac,Aa,q9 i1];simp only[q2f i1,rr];rw[qoh (G.sm.f _ (Ah i1)) (λx hx=>by have:=qa6 (z6 x hx);omega) (by omega),e12,getD_at _ _ i1];simp only[rr];cases q51 g r.f[i] <;> cases(List.range' 0 g.qa.toNat).all λz=>inR (r.pAt i z) g.low g.high <;> rfl) (λm=>by
  show q1t.l7 (n+3) [] (m+1) _=_
  rw[q1t.q2u,Ad,Ab]) g.qg.toNat 0 (n+3) (by omega) (by omega)
 have e7:q1t.l7 (n+3) [] (n+3) (gR g (rL r [.list 1 (r.p.map q11),iF 0]))=_:=e7
 have e2:=q21 (F:=λm i=>q1t.l2 (n+3) [] m (gR g (rL r [.list 7 (ss.map StpV.fv),.list 4 (r.x.map λt=>qo (rd t)),.list 1 (r.p.map q11),iF (i:Int)]))) (len:=ss.length) (P:=λi=>inR (r.xAt i) 0 (ss.getD i default).qty) (fin:=q1t.l7 (n+3) [] (n+3) (gR g (rL r [.list 1 (r.p.map q11),iF 0]))) (stop:=some [.bool false]) (λm i hi=>by
  show q1t.l2 (n+3) [] (m+1) _=_;obtain⟨x1,x2,x3⟩:=G.xT hi;have hk:=hst _ (Ah hi);have f1:=w_of (n:=n+2) (z:=ss[i].qty);have f3:=q4k (n:=n+2) (q1s x3) (Sz.int (z:=ss[i].qty)) (qb _) (qb _);rw[q1t.qt,Aa,Aa,Af,Ac,q9 hi,q9 x1];simp only[q5f x1,q2z hi,rr];rw[w_sign,f1];simp only[rr];rw[f3];simp only[rr];rw[sgn_lt0,q5h,qc,getD_at _ _ hi,x2,show decide (rd r.x[i]<0)=decide (rd r.x[i]<(((0:Int)):Rat)) by rw[Rat.intCast_zero],qf3]) (λm=>by
  show q1t.l2 (n+3) [] (m+1) _=_
  rw[q1t.qt,Aa,Ad,Ab]) ss.length 0 (n+3) (by omega) (by omega)
 have e2:q1t.l2 (n+3) [] (n+3) (gR g (rL r [.list 7 (ss.map StpV.fv),.list 4 (r.x.map λt=>qo (rd t)),.list 1 (r.p.map q11),iF 0]))=_:=e2;rw[qok,e2,e7];unfold q4b;have hfa:∀i,i<g.qg.toNat->(q51 g (r.f.getD i [])&&(List.range' 0 g.qa.toNat).all λz=>inR (r.pAt i z) g.low g.high)=(((List.range' 0 g.lines.length).all λk=>inR (r.fAt i k) (-(g.lines.getD k default).cap) (g.lines.getD k default).cap)&&(List.range' 0 g.qa.toNat).all λz=>inR (r.pAt i z) g.low g.high):=by
  intro i hi;obtain⟨l1,l2⟩:=G.sh.lens i hi;have i1:i<r.f.length:=by omega
  have hal:(r.f.getD i []).all isNum=true:=by
   rw[getD_at _ _ i1,Au];exact G.num.2.2.2.1 _ (Ah i1)
  unfold q51;rw[hal,Af l1,AB,AB,l1];rfl
 rw[qcq hfa];cases(List.range' 0 ss.length).all λi=>inR (r.xAt i) 0 (ss.getD i default).qty with
 |false=>rfl
 |true =>
  rw[Ac,AB];cases(List.range' 0 g.qg.toNat).all λi=>(((List.range' 0 g.lines.length).all λk=>inR (r.fAt i k) (-(g.lines.getD k default).cap) (g.lines.getD k default).cap)&&(List.range' 0 g.qa.toNat).all λz=>inR (r.pAt i z) g.low g.high) <;> rfl
end
end
section
section
variable {g:q10} {ss:List StpV} {bs:List BlkV} {r:ResV} {ac:List Bool}
theorem wnet_run{n h:Nat}(hz:1<=g.qa/\g.qa<=3)(hb:bs.length<=256)(ha:ac.length<=256)(hql:∀b,b∈bs->b.qty.length<=256)(hq:Smq bs)(hh:h<=1000)(hn:400<=n) :
  evF EnA n 123 (gR g [.list 8 (bs.map BlkV.fv),.list 1 (ac.map .bool),iF (h:Int)])=some [.list 1 (netL bs ac h g.qa.toNat)]:=by
 obtain⟨n,rfl⟩:∃k,n=k+2:=⟨n-2,by omega⟩;have e0:(if(0:Int)<(if 3<g.qa then 3 else g.qa)then(if 3<g.qa then 3 else g.qa)else 0)=((g.qa.toNat:Nat):Int):=by
  rw[if_neg (show ¬ 3<g.qa by omega),if_pos (by omega)];omega
 have e1:q1r 8 ((g.qa.toNat:Nat):Int)=some g.qa.toNat:=by
  unfold q1r;rw[if_pos ⟨by omega,by omega,by omega⟩,Bh]
 rw[qo4,e0,e1,Ae,q1v (Ak _),Ae];have key:∀(d i m:Nat),i+d=min bs.length ac.length->d<m->q4a.l3 (n+1) [] m [.list 8 (bs.map BlkV.fv),.list 1 (ac.map .bool),iF (h:Int),.list 1 ((List.range g.qa.toNat).map λz=>iF (netAt bs ac h z i)),iF (i:Int)]=some [.list 1 (netL bs ac h g.qa.toNat)]:=by
  intro d
  induction d with
  |zero =>
   intro i m hi hm;obtain⟨m,rfl⟩:=qSx m;have efin:some [FV.list 1 ((List.range g.qa.toNat).map λz=>iF (netAt bs ac h z i))]=some [.list 1 (netL bs ac h g.qa.toNat)]:=by
    unfold netL netV;rw[show i=min bs.length ac.length by omega]
   rw[q4a.qm,Aa,Aa,efin];by_cases hib:i<bs.length
   ·rw[Af,Ac,Ad,Ab]
   ·rw[Ad,Ab]
  |succ d ih =>
   intro i m hi hm;obtain⟨m,rfl⟩:=qSx m;have i1:i<bs.length:=by omega
   have i2:i<ac.length:=by omega
   rw[q4a.qm,Aa,Aa,Af,Ac,Af,Ac,q9 i1,q9 i2,qc];simp only[q2g i1,q4z i2,rr];rw[Aa,Aa,Ca];have skip:¬ (ac[i]=true/\0<=bs[i].zone/\bs[i].zone<g.qa/\h<bs[i].qty.length)->q4a.l3 (n+1) [] m [.list 8 (bs.map BlkV.fv),.list 1 (ac.map .bool),iF (h:Int),.list 1 ((List.range g.qa.toNat).map λz=>iF (netAt bs ac h z i)),iF ((i+1:Nat):Int)]=some [.list 1 (netL bs ac h g.qa.toNat)]:=by
    intro hno
    rw[qis (bs:=bs) (ac:=ac) h (i:=i) (Z:=g.qa.toNat) λz hz ⟨b,e1,e2,e3,e4⟩=>hno (by
     rw[Ag i1]at e1;rw[Ag i2]at e2;cases e1
     refine⟨by simpa using e2,by omega,by omega,e4⟩)]
    exact ih (i+1) m (by omega) (by omega)
   by_cases c1:ac[i]=true
   ·rw[c1,Am,Ab];by_cases c2:0<=bs[i].zone
    ·rw[Ad (show ¬ bs[i].zone<0 by omega),Ab];by_cases c3:bs[i].zone<g.qa
     ·rw[Ad (show ¬ bs[i].zone≥((g.qa.toNat:Nat):Int) by omega),Ab,Ad (show ¬ ((h:Nat):Int)<0 by omega),Ab];by_cases c4:h<bs[i].qty.length
      ·obtain⟨k,hk⟩:∃k:Nat,bs[i].zone=(k:Int):=⟨bs[i].zone.toNat,by omega⟩;have hkz:k<g.qa.toNat:=by omega
       obtain⟨q1,q2⟩:=hq _ (Ah i1) _ (Ah c4);obtain⟨b1,b2⟩:=qb5 (ac:=ac) hq h k i;have hst:=net_step h i1 i2 c1 hk c4 (Z:=g.qa.toNat);rw[Ad (show ¬ ((h:Nat):Int)≥((bs[i].qty.length:Nat):Int) by omega),Ab,hk,q9 hkz,q9 c4];simp only[qf2 hkz,q4j c4,rr];rw[qk (x:=netAt bs ac h k i-bs[i].qty[h]),qk (x:=netAt bs ac h k i+bs[i].qty[h])];cases hbuy:bs[i].buy with
       |true =>
        rw[hbuy]at hst;simp only[AW]at hst;rw[Ac,show netAt bs ac h k i-bs[i].qty[h]=netAt bs ac h k i+-bs[i].qty[h] from rfl,hst];exact ih (i+1) m (by omega) (by omega)
       |false =>
        rw[hbuy]at hst;simp only[Br,BH]at hst;rw[Ab,hst];exact ih (i+1) m (by omega) (by omega)
      ·rw[Af (show((h:Nat):Int)≥((bs[i].qty.length:Nat):Int) by omega),Ac];exact skip λq=>c4 q.2.2.2
     ·rw[Af (show bs[i].zone≥((g.qa.toNat:Nat):Int) by omega),Ac];exact skip λq=>c3 q.2.2.1
    ·rw[Af (show bs[i].zone<0 by omega),Ac];exact skip λq=>c2 q.2.1
   ·rw[AI.2 c1];exact skip λq=>c1 q.1
 have k0:=key (min bs.length ac.length) 0 (n+1) (by omega) (by omega);have e2:((List.range g.qa.toNat).map λz=>iF (netAt bs ac h z 0))=List.replicate g.qa.toNat (iF 0):=by
  rw[show(λz=>iF (netAt bs ac h z 0))=λ_=>iF 0 from rfl,List.map_const',Ca]
 rw[e2]at k0;exact k0
theorem qo5{n h:Nat}(G:q1d g ss bs r)(hh:h<g.qg.toNat)(hn:400<=n):∃i1:h<r.f.length,evF EnA n 122 (gR g [.list 4 (r.f[h].map λt=>qo (rd t))])=some [.list 4 ((List.range g.qa.toNat).map λz=>qo (expV g.lines r h z))]/\∀z,Bd 10000 (expV g.lines r h z):=by
 obtain⟨z1,z2,z3,z4,z5,z6,z7,z8,z9⟩:=q3w (q3x G.sh.ord);have lf:=G.sh.f;have i1:h<r.f.length:=by omega
 have hbd:∀(l:List Nat) (z k:Nat) (a:Rat),(∀i,i∈l->i<g.lines.length)->Bd k a->Bd (k+2100*l.length) (l.foldl (q7d g.lines r h z) a):=by
  intro l
  induction l with
  |nil=>intro z k a _ ha;exact ha.mono (by simp)
  |cons i l ih =>
   intro z k a hl ha;rw[Be];have hi:=hl i AF;obtain⟨_,_,q1,q2⟩:=G.fT hh hi;have hf:Bd 1024 (r.fAt h i):=by rw[q1];exact q3c q2
   have hs:Bd (k+2100) (q7d g.lines r h z a i):=by
    unfold q7d;rw[Ag hi];simp only;have h1:Bd (k+1025) (if g.lines[i].src=(z:Int)then a+r.fAt h i else a):=by
     split
     ·exact(ha.add hf).mono (by omega)
     ·exact ha.mono (by omega)
    split
    ·exact(h1.sub hf).mono (by omega)
    ·exact h1.mono (by omega)
   refine(ih z (k+2100) _ (λj hj=>hl j (AA _ hj)) hs).mono ?_;simp only[Aq];omega
 have hexp:∀z,Bd 10000 (expV g.lines r h z):=λz=>by
  refine(hbd (List.range' 0 g.lines.length) z 1 0 (λi hi=>by rw[BT]at hi;omega) q89).mono ?_;rw[List.length_range'];omega
 refine⟨i1,?_,hexp⟩;obtain⟨n,rfl⟩:∃k,n=k+4:=⟨n-4,by omega⟩
 have e3:=q21 (F:=λm z=>q2i.l3 (n+3) [] m (gR g [.list 4 (r.f[h].map λt=>qo (rd t)),.list 4 ((List.range z).map λz=>qo (expV g.lines r h z)),iF (z:Int)])) (len:=g.qa.toNat) (P:=λ_=>true) (fin:=some [.list 4 ((List.range g.qa.toNat).map λz=>qo (expV g.lines r h z))]) (stop:=none) (λm z hz=>by
  show q2i.l3 (n+3) [] (m+1) _=_
  have e7:=q68 (F:=λm' i (a:Rat)=>q2i.l7 (n+3) [m] m' (gR g [zb (a).num,wl (a).num,.bool false,wL (a).den,.list 4 (r.f[h].map λt=>qo (rd t)),.list 4 ((List.range z).map λz=>qo (expV g.lines r h z)),iF (z:Int),iF (i:Int)])) (len:=g.lines.length) (g:=λi a=>q7d g.lines r h z a i) (fin:=λa=>q2i.l3 (n+3) [] m (gR g [.list 4 (r.f[h].map λt=>qo (rd t)),.list 4 (((List.range z).map λz=>qo (expV g.lines r h z))++[qo a]),iF ((z+1:Nat):Int)])) (I:=λi a=>Bd (1+2100*i) a) (λm' i a hi hI=>by
   show q2i.l7 (n+3) [m] (m'+1) _=_;obtain⟨_,k2,q1,q2⟩:=G.fT hh hi;have f1:=w_add (n:=n+2) (hI.mono (by omega)) (q1s q2) (qb a) (qb _);have hb:Bd (1+2100*i+1024+1) (a+rd r.f[h][i]):=hI.add (q3c q2);have f2:=w_sub (n:=n+2) (hb.mono (by omega)) (q1s q2) (qb (a+rd r.f[h][i])) (qb _);have f3:=w_sub (n:=n+2) (hI.mono (by omega)) (q1s q2) (qb a) (qb _);rw[q2i.q2u];simp only[Aa];rw[Af,Ac,q9 hi,q9 k2];simp only[q8a hi,q5f k2,rr];rw[f1];simp only[rr];rw[f2,f3];simp only[rr];rw[qc];unfold q7d;rw[Ag hi,q1];simp only;by_cases c1:g.lines[i].src=(z:Int)
   ·rw[show(g.lines[i].src==(z:Int))=true by simpa using c1,if_pos c1,Ac];by_cases c2:g.lines[i].dst=(z:Int)
    ·rw[show(g.lines[i].dst==(z:Int))=true by simpa using c2,if_pos c2,Ac]
    ·rw[show(g.lines[i].dst==(z:Int))=false by simpa using c2,if_neg c2,Ab]
   ·rw[show(g.lines[i].src==(z:Int))=false by simpa using c1,if_neg c1,Ab];by_cases c2:g.lines[i].dst=(z:Int)
    ·rw[show(g.lines[i].dst==(z:Int))=true by simpa using c2,if_pos c2,Ac]
    ·rw[show(g.lines[i].dst==(z:Int))=false by simpa using c2,if_neg c2,Ab]) (λi a hi hI=>by
   refine(hbd [i] z (1+2100*i) a (λj hj=>by rw[BN.1 hj];exact hi) hI).mono ?_;simp only[Aq,Bf];omega) (λm' a hI=>by
   show q2i.l7 (n+3) [m] (m'+1) _=_;rw[q2i.q2u];simp only[Aa]
   rw[Ad,Ab,Ca,show Nat.ble (z+(qd 1 (.agg [.bool false,.list 1 [],.bool false,.list 1 []]) [(0,.agg [zb (a).num,wl (a).num,.bool false,wL (a).den])]).length) 2199023255552=true by
    apply Di;show z+1<=_
    omega,Ac,qc]
   rfl) g.lines.length 0 (n+3) 0 (by omega) (by omega) (q89.mono (by omega))
  have e7:=e7.1;have e7:q2i.l7 (n+3) [m] (n+3) (gR g [zb (((0:Int):Rat)).num,wl (((0:Int):Rat)).num,.bool false,wL (((0:Int):Rat)).den,.list 4 (r.f[h].map λt=>qo (rd t)),.list 4 ((List.range z).map λz=>qo (expV g.lines r h z)),iF (z:Int),iF 0])=_:=e7;rw[q2i.qm,Af,Ac,w_of];simp only[rr];rw[e7,List.range_succ,Bc];rfl) (λm=>by
  show q2i.l3 (n+3) [] (m+1) _=_
  rw[q2i.qm,Ad,Ab]) g.qa.toNat 0 (n+3) (by omega) (by omega)
 have e3:q2i.l3 (n+3) [] (n+3) (gR g [.list 4 (r.f[h].map λt=>qo (rd t)),.list 4 (qd 0 (.agg [.bool false,.list 1 [],.bool false,.list 1 []]) []),iF 0])=_:=e3;have hall1:(List.range' 0 g.qa.toNat).all (λ_=>true)=true:=by rw[Au];intro _ _;rfl
 rw[qo6,e3,hall1,Ac]
theorem wratR_at{Z k:Nat}(hk:k<Z)(f:Nat->Rat)(c:Nat):at' ((List.range Z).map λz=>qo (f z)) k c=[zb (f k).num,wl (f k).num,.bool false,wL (f k).den][c]?:=by
 rw[q2a,EP hk];rfl
theorem cmpQ_ne{q r:Rat}:(cmpQ q r !=0)=!decide (q=r):=by
 rw[ine];congr 1;rw[BU];exact cmp_eq
theorem qo7{n:Nat}(G:q1d g ss bs r)(hn:5000<=n):evF EnA n 58 (gR g (.list 7 (ss.map StpV.fv)::.list 8 (bs.map BlkV.fv)::rL r [.list 4 (r.x.map λt=>qo (rd t)),.list 1 (r.f.map q11)]))=some [.bool (balV g ss bs r)]:=by
 obtain⟨n,rfl⟩:∃k,n=k+4:=⟨n-4,by omega⟩;obtain⟨z1,z2,z3,z4,z5,z6,z7,z8,z9⟩:=q3w (q3x G.sh.ord);obtain⟨o1,o2⟩:=q7e G.sh.ord;have hst:=q90 G.sh.ord;have hbl:=qb6 G.sh.ord
 have e2:=q21 (F:=λm h=>q1l.l2 (n+3) [] m (gR g (rL r [.list 7 (ss.map StpV.fv),.list 8 (bs.map BlkV.fv),.list 4 (r.x.map λt=>qo (rd t)),.list 1 (r.f.map q11),iF (h:Int)]))) (len:=g.qg.toNat) (P:=λh=>(List.range' 0 g.qa.toNat).all λz=>decide (q5g ss bs r h z=expV g.lines r h z)) (fin:=some [.bool true]) (stop:=some [.bool false]) (λm h hh=>by
  show q1l.l2 (n+3) [] (m+1) _=_;obtain⟨i1,hx,hxb⟩:=qo5 (n:=n+3) G hh (by omega);have hnet:=wnet_run (g:=g) (bs:=bs) (ac:=r.accept) (n:=n+3) (h:=h) ⟨z1,z2⟩ G.sm.bsl G.sm.acl G.sm.q (λb hb q hq=>(hbl b hb).2.2.2.2.2 q hq) (by omega) (by omega)
  have e7:=q21 (F:=λm' z=>q1l.l7 (n+3) [m] m' (gR g (rL r [.list 7 (ss.map StpV.fv),.list 8 (bs.map BlkV.fv),.list 4 (r.x.map λt=>qo (rd t)),.list 1 (r.f.map q11),iF (h:Int),.list 4 ((List.range g.qa.toNat).map λz=>qo (expV g.lines r h z)),.list 1 (netL bs r.accept h g.qa.toNat),iF (z:Int)]))) (len:=g.qa.toNat) (P:=λz=>decide (q5g ss bs r h z=expV g.lines r h z)) (fin:=q1l.l2 (n+3) [] m (gR g (rL r [.list 7 (ss.map StpV.fv),.list 8 (bs.map BlkV.fv),.list 4 (r.x.map λt=>qo (rd t)),.list 1 (r.f.map q11),iF ((h+1:Nat):Int)]))) (stop:=some [.bool false]) (λm' z hz=>by
   show q1l.l7 (n+3) [m] (m'+1) _=_;have hnb:=qb5 (bs:=bs) (ac:=r.accept) (λb hb q hq=>(hbl b hb).2.2.2.2.2 q hq) h z (min bs.length r.accept.length);have hnv:-12000<=netV bs r.accept h z/\netV bs r.accept h z<=12000:=by unfold netV;omega
   have e11:=q68 (F:=λm'' i (a:Rat)=>q1l.l11 (n+3) [m,m'] m'' (gR g (rL r [zb (a).num,wl (a).num,.bool false,wL (a).den,.list 7 (ss.map StpV.fv),.list 8 (bs.map BlkV.fv),.list 4 (r.x.map λt=>qo (rd t)),.list 1 (r.f.map q11),iF (h:Int),.list 4 ((List.range g.qa.toNat).map λz=>qo (expV g.lines r h z)),.list 1 (netL bs r.accept h g.qa.toNat),iF (z:Int),iF (i:Int)]))) (len:=ss.length) (g:=λi a=>q91 ss r h z a i) (fin:=λa=>bif decide (a=expV g.lines r h z)then q1l.l7 (n+3) [m] m' (gR g (rL r [.list 7 (ss.map StpV.fv),.list 8 (bs.map BlkV.fv),.list 4 (r.x.map λt=>qo (rd t)),.list 1 (r.f.map q11),iF (h:Int),.list 4 ((List.range g.qa.toNat).map λz=>qo (expV g.lines r h z)),.list 1 (netL bs r.accept h g.qa.toNat),iF ((z+1:Nat):Int)]))else some [.bool false]) (I:=λi a=>Bd (20+1100*i) a) (λm'' i a hi hI=>by
    show q1l.l11 (n+3) [m,m'] (m''+1) _=_;obtain⟨x1,x2,x3⟩:=G.xT hi;have f1:=w_sub (n:=n+2) (hI.mono (by omega)) (q1s x3) (qb a) (qb _);have f2:=w_add (n:=n+2) (hI.mono (by omega)) (q1s x3) (qb a) (qb _);rw[q1l.q8b];simp only[Aa];rw[Af,Ac,q9 hi,q9 x1];simp only[q2z hi,q5f x1,rr];rw[f1,f2];simp only[rr];rw[qc];unfold q91;rw[Ag hi,x2];simp only;by_cases c1:ss[i].hour=(h:Int)
    ·rw[show(ss[i].hour==(h:Int))=true by simpa using c1,Ac];by_cases c2:ss[i].zone=(z:Int)
     ·have cb:ss[i].hour=(h:Int)/\ss[i].zone=(z:Int):=⟨c1,c2⟩;rw[show(ss[i].zone==(z:Int))=true by simpa using c2,Ac,if_pos cb];cases ss[i].buy <;> rfl
     ·have cb:¬ (ss[i].hour=(h:Int)/\ss[i].zone=(z:Int)):=λq=>c2 q.2;rw[show(ss[i].zone==(z:Int))=false by simpa using c2,Ab,if_neg cb]
    ·have cb:¬ (ss[i].hour=(h:Int)/\ss[i].zone=(z:Int)):=λq=>c1 q.1;rw[show(ss[i].hour==(h:Int))=false by simpa using c1,Ab,if_neg cb]) (λi a hi hI=>by
    obtain⟨x1,x2,x3⟩:=G.xT hi;have hx:Bd 1024 (r.xAt i):=by rw[x2];exact q3c x3
    unfold q91;rw[Ag hi];simp only;split
    ·split
     ·exact(hI.sub hx).mono (by omega)
     ·exact(hI.add hx).mono (by omega)
    ·exact hI.mono (by omega)) (λm'' a hI=>by
    show q1l.l11 (n+3) [m,m'] (m''+1) _=_;rw[q1l.q8b];simp only[Aa,Ca];rw[Ad,Ab,q9 hz];simp only[wratR_at hz,rr];rw[q4k (hI.mono (by omega)) ((hxb z).mono (by omega)) (qb a) (qb _)];simp only[rr];rw[cmpQ_ne,qc];cases decide (a=expV g.lines r h z) <;> rfl) ss.length 0 (n+3) ((netV bs r.accept h z:Int):Rat) (by omega) (by omega) (by
     refine Bd.int ?_ (by omega);have:(2:Nat)^20=1048576:=rfl
     omega)
   have e11:=e11.1;have e11:q1l.l11 (n+3) [m,m'] (n+3) (gR g (rL r [zb (((netV bs r.accept h z:Int):Rat)).num,wl (((netV bs r.accept h z:Int):Rat)).num,.bool false,wL (((netV bs r.accept h z:Int):Rat)).den,.list 7 (ss.map StpV.fv),.list 8 (bs.map BlkV.fv),.list 4 (r.x.map λt=>qo (rd t)),.list 1 (r.f.map q11),iF (h:Int),.list 4 ((List.range g.qa.toNat).map λz=>qo (expV g.lines r h z)),.list 1 (netL bs r.accept h g.qa.toNat),iF (z:Int),iF 0]))=_:=e11;rw[q1l.q2u,Af,Ac,show(netL bs r.accept h g.qa.toNat).length=g.qa.toNat by unfold netL;rw[Aa,Ca],q9 hz,Ae,show at' (netL bs r.accept h g.qa.toNat) z 0=some (iF (netV bs r.accept h z)) from qf2 hz _];simp only[rr];rw[w_of];simp only[rr];rw[e11];rfl) (λm'=>by
   show q1l.l7 (n+3) [m] (m'+1) _=_
   rw[q1l.q2u,Ad,Ab,qc]) g.qa.toNat 0 (n+3) (by omega) (by omega)
  have e7:q1l.l7 (n+3) [m] (n+3) (gR g (rL r [.list 7 (ss.map StpV.fv),.list 8 (bs.map BlkV.fv),.list 4 (r.x.map λt=>qo (rd t)),.list 1 (r.f.map q11),iF (h:Int),.list 4 ((List.range g.qa.toNat).map λz=>qo (expV g.lines r h z)),.list 1 (netL bs r.accept h g.qa.toNat),iF 0]))=_:=e7;rw[q1l.qt,Af,Ac,Aa,q9 i1];simp only[qb7 i1,rr];rw[hx];simp only[rr];rw[hnet];simp only[rr];rw[e7]) (λm=>by
  show q1l.l2 (n+3) [] (m+1) _=_
  rw[q1l.qt,Ad,Ab]) g.qg.toNat 0 (n+3) (by omega) (by omega)
 have e2:q1l.l2 (n+3) [] (n+3) (gR g (rL r [.list 7 (ss.map StpV.fv),.list 8 (bs.map BlkV.fv),.list 4 (r.x.map λt=>qo (rd t)),.list 1 (r.f.map q11),iF 0]))=_:=e2;rw[qo8,e2];unfold balV;cases(List.range' 0 g.qg.toNat).all λh=>(List.range' 0 g.qa.toNat).all λz=>decide (q5g ss bs r h z=expV g.lines r h z) <;> rfl
theorem qo9{n:Nat}(G:q1d g ss bs r)(hn:1000<=n):evF EnA n 59 [.list 7 (ss.map StpV.fv),.list 4 (r.x.map λt=>qo (rd t)),.list 1 (r.p.map q11)]=some [.bool (q4l ss r)]:=by
 obtain⟨n,rfl⟩:∃k,n=k+4:=⟨n-4,by omega⟩;obtain⟨z1,z2,z3,z4,z5,z6,z7,z8,z9⟩:=q3w (q3x G.sh.ord);obtain⟨o1,o2⟩:=q7e G.sh.ord;have hst:=q90 G.sh.ord
 have e:=q21 (F:=λm i=>q3g.l2 (n+3) [] m [.list 7 (ss.map StpV.fv),.list 4 (r.x.map λt=>qo (rd t)),.list 1 (r.p.map q11),iF (i:Int)]) (len:=ss.length) (P:=q8c ss r) (fin:=some [.bool true]) (stop:=some [.bool false]) (λm i hi=>by
  show q3g.l2 (n+3) [] (m+1) _=_;obtain⟨s1,s2,s3,s4,s5,s6,s7,s8⟩:=hst _ (Ah hi);obtain⟨hk,hh⟩:∃k:Nat,ss[i].hour=(k:Int):=⟨ss[i].hour.toNat,by omega⟩;obtain⟨zk,hz⟩:∃k:Nat,ss[i].zone=(k:Int):=⟨ss[i].zone.toNat,by omega⟩;obtain⟨p1,p2,p3,p4⟩:=G.pT (h:=hk) (z:=zk) (by omega) (by omega);obtain⟨x1,x2,x3⟩:=G.xT hi;have f1:=w_of (n:=n+2) (z:=ss[i].qe);have f2:=q4k (n:=n+2) (q1s p4) (Sz.int (z:=ss[i].qe)) (qb _) (qb _);have f4:=w_of (n:=n+2) (z:=ss[i].qty);have f5:=q4k (n:=n+2) (q1s x3) (Sz.int (z:=ss[i].qty)) (qb _) (qb _);rw[q3g.qt];simp only[Aa];rw[Af,Ac,q9 hi];simp only[q2z hi,rr];rw[hh,hz,q9 p1];simp only[qb7 p1,rr];rw[Aa,q9 p2];simp only[q5f p2,rr];rw[f1];simp only[rr];rw[f2];simp only[rr];rw[q9 x1];simp only[q5f x1,rr];rw[w_sign,f4];simp only[rr];rw[f5];simp only[rr];rw[wneg (cmpQ_bd _ _),neg_lt0,neg_gt0,q3y,q5h,q3y,sgn_gt0,qc];unfold q8c;rw[Ag hi];simp only;rw[hh,hz,Bh,Bh,p3,x2];cases ss[i].buy <;> cases decide (((ss[i].qe:Int):Rat)<rd r.p[hk][zk]) <;> cases decide (rd r.p[hk][zk]<((ss[i].qe:Int):Rat)) <;> cases decide (0<rd r.x[i]) <;> cases decide (rd r.x[i]<((ss[i].qty:Int):Rat)) <;> rfl) (λm=>by
  show q3g.l2 (n+3) [] (m+1) _=_
  rw[q3g.qt,Aa,Ad,Ab]) ss.length 0 (n+3) (by omega) (by omega)
 have e:q3g.l2 (n+3) [] (n+3) [.list 7 (ss.map StpV.fv),.list 4 (r.x.map λt=>qo (rd t)),.list 1 (r.p.map q11),iF 0]=_:=e;rw[qoa,e];unfold q4l;cases(List.range' 0 ss.length).all (q8c ss r) <;> rfl
theorem qob{n:Nat}(G:q1d g ss bs r)(hn:1000<=n):evF EnA n 60 (gR g [.list 1 (r.f.map q11),.list 1 (r.p.map q11)])=some [.bool (q7f g r)]:=by
 obtain⟨n,rfl⟩:∃k,n=k+4:=⟨n-4,by omega⟩;obtain⟨z1,z2,z3,z4,z5,z6,z7,z8,z9⟩:=q3w (q3x G.sh.ord)
 have e:=q21 (F:=λm i=>q2j.l2 (n+3) [] m (gR g [.list 1 (r.f.map q11),.list 1 (r.p.map q11),iF (i:Int)])) (len:=g.qg.toNat) (P:=λh=>(List.range' 0 g.lines.length).all (q7g g.lines r h)) (fin:=some [.bool true]) (stop:=some [.bool false]) (λm h hh=>by
  show q2j.l2 (n+3) [] (m+1) _=_
  have e5:=q21 (F:=λm' i=>q2j.l5 (n+3) [m] m' (gR g [.list 1 (r.f.map q11),.list 1 (r.p.map q11),iF (h:Int),iF (i:Int)])) (len:=g.lines.length) (P:=q7g g.lines r h) (fin:=q2j.l2 (n+3) [] m (gR g [.list 1 (r.f.map q11),.list 1 (r.p.map q11),iF ((h+1:Nat):Int)])) (stop:=some [.bool false]) (λm' i hi=>by
   show q2j.l5 (n+3) [m] (m'+1) _=_;have hl:=qa6 (z6 _ (Ah hi));obtain⟨a,ha⟩:∃k:Nat,g.lines[i].src=(k:Int):=⟨g.lines[i].src.toNat,by omega⟩;obtain⟨b,hb⟩:∃k:Nat,g.lines[i].dst=(k:Int):=⟨g.lines[i].dst.toNat,by omega⟩;obtain⟨p1,p2,p3,p4⟩:=G.pT (h:=h) (z:=a) hh (by omega);obtain⟨_,q2,q3,q4⟩:=G.pT (h:=h) (z:=b) hh (by omega);obtain⟨g1,g2,g3,g4⟩:=G.fT (h:=h) (k:=i) hh hi;have f1:=q4k (n:=n+2) (q1s q4) (q1s p4) (qb _) (qb _);have f2:=w_of (n:=n+2) (z:=-g.lines[i].cap);have f3:=q4k (n:=n+2) (q1s g4) (Sz.int (z:=-g.lines[i].cap)) (qb _) (qb _);have f4:=w_of (n:=n+2) (z:=g.lines[i].cap);have f5:=q4k (n:=n+2) (q1s g4) (Sz.int (z:=g.lines[i].cap)) (qb _) (qb _);have hw:w6 (0-g.lines[i].cap)=-g.lines[i].cap:=by rw[qk];omega
   rw[q2j.q1o];simp only[Aa];rw[Af,Ac,q9 hi];simp only[q8a hi,rr];rw[ha,hb,q9 p1];simp only[qb7 p1,rr];rw[Aa,q9 q2,q9 p2];simp only[q5f q2,q5f p2,rr];rw[f1];simp only[rr];rw[q9 g1];simp only[qb7 g1,rr];rw[Aa,q9 g2];simp only[q5f g2,rr];rw[hw,f2,f4];simp only[rr];rw[f3,f5];simp only[rr];rw[q5h,q3y,q3y,q5h,qc];unfold q7g;rw[Ag hi];simp only;rw[ha,hb,Bh,Bh,p3,q3,g3];cases decide (rd r.p[h][b]<rd r.p[h][a]) <;> cases decide (rd r.p[h][a]<rd r.p[h][b]) <;> cases decide (((-g.lines[i].cap:Int):Rat)<rd r.f[h][i]) <;> cases decide (rd r.f[h][i]<((g.lines[i].cap:Int):Rat)) <;> rfl) (λm'=>by
   show q2j.l5 (n+3) [m] (m'+1) _=_
   rw[q2j.q1o,Aa,Ad,Ab,qc]) g.lines.length 0 (n+3) (by omega) (by omega)
  have e5:q2j.l5 (n+3) [m] (n+3) (gR g [.list 1 (r.f.map q11),.list 1 (r.p.map q11),iF (h:Int),iF 0])=_:=e5;rw[q2j.qt,Af,Ac,e5]) (λm=>by
  show q2j.l2 (n+3) [] (m+1) _=_
  rw[q2j.qt,Ad,Ab]) g.qg.toNat 0 (n+3) (by omega) (by omega)
 have e:q2j.l2 (n+3) [] (n+3) (gR g [.list 1 (r.f.map q11),.list 1 (r.p.map q11),iF 0])=_:=e;rw[qoc,e];unfold q7f;cases(List.range' 0 g.qg.toNat).all λh=>(List.range' 0 g.lines.length).all (q7g g.lines r h) <;> rfl
end
end
section
section
variable {g:q10} {ss:List StpV} {bs:List BlkV} {r:ResV}
theorem qn0{n:Nat}{b:Bool}{p:Int}(h:-100000<=p/\p<=100000):evF EnA (n+1) 124 [.bool b,iF p]=some [iF (q1e b p)]:=by
 rw[qtr];cases b
 ·rw[Ab,qk];show some [iF (0-p)]=some [iF (-p)];rw[Int.zero_sub]
 ·rfl
noncomputable def vS(ss:List StpV)(r:ResV)(n:Rat)(i:Nat):Rat:=match ss[i]? with
 |some s=>n+r.xAt i*((q1e s.buy s.qe:Int):Rat)
 |none=>n
noncomputable def vB(bs:List BlkV)(ac:List Bool)(n:Rat)(i:Nat):Rat:=match bs[i]?,ac[i]? with
 |some b,some true=>b.qty.foldl (λ(n:Rat) (q:Int)=>n+(q:Rat)*((q1e b.buy b.qe:Int):Rat)) n
 |_,_=>n
theorem qpz{n:Nat}(G:q1d g ss bs r)(hn:2000<=n):evF EnA n 62 [.list 7 (ss.map StpV.fv),.list 1 (r.x.map sF),.list 8 (bs.map BlkV.fv),.list 1 (r.accept.map .bool)]=some [sF (qx (welV ss bs r))]:=by
 obtain⟨n,rfl⟩:∃k,n=k+4:=⟨n-4,by omega⟩;obtain⟨z1,z2,z3,z4,z5,z6,z7,z8,z9⟩:=q3w (q3x G.sh.ord);obtain⟨o1,o2⟩:=q7e G.sh.ord;have hst:=q90 G.sh.ord;have hbl:=qb6 G.sh.ord;have la:=G.sh.ac;have lx:=G.sh.x;have bdw:∀ {buy:Bool} {p:Int},(-100000<=p/\p<=100000)->Bd 17 ((q1e buy p:Int):Rat):=fun {buy p} hp=>by
  have:=qb3 (buy:=buy) hp;refine Bd.int ?_ (by omega);have:(2:Nat)^17=131072:=rfl;omega
 have bdq:∀ {q:Int},(0<=q/\q<=1000)->Bd 17 (q:Rat):=fun {q} hq=>by
  refine Bd.int ?_ (by omega);have:(2:Nat)^17=131072:=rfl;omega
 have hmin:min r.accept.length bs.length=bs.length:=by omega
 have gen:∀(b:BlkV) (l:List Int) (s:Rat) (k:Nat),(-100000<=b.qe/\b.qe<=100000)->(∀q,q∈l->0<=q/\q<=1000)->Bd k s->Bd (k+36*l.length) (l.foldl (λ(n:Rat) (q:Int)=>n+(q:Rat)*((q1e b.buy b.qe:Int):Rat)) s):=by
  intro b l
  induction l with
  |nil=>intro s k _ _ h;exact h.mono (by simp)
  |cons q l ih =>
   intro s k hp hl h;rw[Be];refine(ih _ (k+36) hp (λq hq=>hl q (AA _ hq)) ((h.add ((bdq (hl q AF)).mul (bdw (buy:=b.buy) hp))).mono (by omega))).mono ?_;simp only[Aq];omega
 have e10:=q68 (F:=λm i (s:Rat)=>q1q.l10 (n+3) [] m [zb (s).num,wl (s).num,.bool false,wL (s).den,.list 8 (bs.map BlkV.fv),.list 1 (r.accept.map .bool),iF (i:Int)]) (len:=bs.length) (g:=λi s=>vB bs r.accept s i) (fin:=λs=>some [sF (qx s)]) (I:=λi s=>Bd (40000+36*3*i) s) (λm i s hi hI=>by
  show q1q.l10 (n+3) [] (m+1) _=_;have hi2:i<r.accept.length:=by omega
  obtain⟨b1,b2,b3,b4,b5,b6⟩:=hbl _ (Ah hi);rw[q1q.q4d,Aa,Aa,Af,Ac,Af,Ac];cases hac:r.accept[i]with
  |false =>
   rw[q1q.q45 (n+3) (n+2),Aa,Aa,q9 hi,q9 hi2];simp only[q2g hi,q4z hi2,rr];rw[hac,qc];unfold vB;rw[Ag hi,Ag hi2,hac];simp only[Ab];cases decide ((0:Int)<((bs[i].qty.map iF).length:Int)) <;> rfl
  |true =>
   have e13:=q68 (F:=λm' k (s:Rat)=>q1q.l13 (n+3) [m] m' [zb (s).num,wl (s).num,.bool false,wL (s).den,.list 8 (bs.map BlkV.fv),.list 1 (r.accept.map .bool),iF (i:Int),iF (k:Int)]) (len:=bs[i].qty.length) (g:=λk s=>s+((bs[i].qty.getD k 0:Int):Rat)*((q1e bs[i].buy bs[i].qe:Int):Rat)) (fin:=λs=>q1q.l10 (n+3) [] m [zb (s).num,wl (s).num,.bool false,wL (s).den,.list 8 (bs.map BlkV.fv),.list 1 (r.accept.map .bool),iF ((i+1:Nat):Int)]) (I:=λk s=>Bd (40000+36*3*i+36*k) s) (λm' k s hk hI=>by
    show q1q.l13 (n+3) [m] (m'+1) _=_;have hq:=b6 _ (Ah hk);have hwb:=qb3 (buy:=bs[i].buy) (p:=bs[i].qe) (by omega);have f0:=qn0 (n:=n+2) (b:=bs[i].buy) (p:=bs[i].qe) (by omega);have f1:=w_of (n:=n+2) (z:=bs[i].qty[k]);have f2:=w_of (n:=n+2) (z:=q1e bs[i].buy bs[i].qe);have f3:=w_mul (n:=n+2) (Sz.int (z:=bs[i].qty[k])) (Sz.int (z:=q1e bs[i].buy bs[i].qe)) (qb _) (qb _);have f4:=w_add (n:=n+2) (hI.mono (by omega)) (((bdq hq).mul (bdw (buy:=bs[i].buy) (p:=bs[i].qe) (by omega))).mono (by omega)) (qb s) (qb _);rw[q1q.q45,Aa,Aa,q9 hi,q9 hi2];simp only[q2g hi,q4z hi2,rr];rw[hac,Aa,Af,Ac,Ac,q9 hk];simp only[q4j hk,rr];rw[f1];simp only[rr];rw[f0];simp only[rr];rw[f2];simp only[rr];rw[f3];simp only[rr];rw[f4];simp only[rr];rw[qc,getD_at _ _ hk]) (λk s hk hI=>by
    have hq:=b6 _ (Ah hk);rw[getD_at _ _ hk];exact(hI.add ((bdq hq).mul (bdw (buy:=bs[i].buy) (p:=bs[i].qe) (by omega)))).mono (by omega)) (λm' s hI=>by
    show q1q.l13 (n+3) [m] (m'+1) _=_;rw[q1q.q45,Aa,Aa,q9 hi];simp only[q2g hi,rr]
    rw[Aa,Ad,Ab,qc]) bs[i].qty.length 0 (n+3) s (by omega) (by omega) hI
   have e13:=e13.1;have e13:q1q.l13 (n+3) [m] (n+3) [zb (s).num,wl (s).num,.bool false,wL (s).den,.list 8 (bs.map BlkV.fv),.list 1 (r.accept.map .bool),iF (i:Int),iF 0]=_:=e13;have ef:(List.range' 0 bs[i].qty.length).foldl (λs j=>s+((bs[i].qty.getD j 0:Int):Rat)*((q1e bs[i].buy bs[i].qe:Int):Rat)) s=bs[i].qty.foldl (λ(n:Rat) (q:Int)=>n+(q:Rat)*((q1e bs[i].buy bs[i].qe:Int):Rat)) s:=qi3 (λ(n:Rat) (q:Int)=>n+(q:Rat)*((q1e bs[i].buy bs[i].qe:Int):Rat)) 0 bs[i].qty 0 s;rw[ef]at e13;rw[e13];unfold vB;rw[Ag hi,Ag hi2,hac]) (λi s hi hI=>by
  have hi2:i<r.accept.length:=by omega
  obtain⟨b1,b2,b3,b4,b5,b6⟩:=hbl _ (Ah hi);unfold vB;rw[Ag hi,Ag hi2];cases r.accept[i]with
  |false=>exact hI.mono (by omega)
  |true=>exact(gen bs[i] bs[i].qty s _ (by omega) b6 hI).mono (by omega)) (λm s hI=>by
  show q1q.l10 (n+3) [] (m+1) _=_;rw[q1q.q4d,Aa,Ad,Ab,w_text (hI.mono (by omega)) (qb s)]
  rfl)
 have e6:=q68 (F:=λm i (s:Rat)=>q1q.l6 (n+3) [] m [zb (s).num,wl (s).num,.bool false,wL (s).den,.list 7 (ss.map StpV.fv),.list 8 (bs.map BlkV.fv),.list 1 (r.accept.map .bool),.list 4 (r.x.map λt=>qo (rd t)),iF (i:Int)]) (len:=ss.length) (g:=λi s=>vS ss r s i) (fin:=λs=>q1q.l10 (n+3) [] (n+3) [zb (s).num,wl (s).num,.bool false,wL (s).den,.list 8 (bs.map BlkV.fv),.list 1 (r.accept.map .bool),iF 0]) (I:=λi s=>Bd (1+1100*i) s) (λm i s hi hI=>by
  show q1q.l6 (n+3) [] (m+1) _=_;have hk:=hst _ (Ah hi);obtain⟨x1,x2,x3⟩:=G.xT hi;have hwb:=qb3 (buy:=ss[i].buy) (p:=ss[i].qe) (by omega);have f0:=qn0 (n:=n+2) (b:=ss[i].buy) (p:=ss[i].qe) (by omega);have f2:=w_of (n:=n+2) (z:=q1e ss[i].buy ss[i].qe);have f3:=w_mul (n:=n+2) (q1s x3) (Sz.int (z:=q1e ss[i].buy ss[i].qe)) (qb _) (qb _);have f4:=w_add (n:=n+2) (hI.mono (by omega)) (((q3c x3).mul (bdw (buy:=ss[i].buy) (p:=ss[i].qe) (by omega))).mono (by omega)) (qb s) (qb _);rw[q1q.q2o];simp only[Aa];rw[Af,Ac,q9 hi,q9 x1];simp only[q2z hi,q5f x1,rr];rw[f0];simp only[rr];rw[f2];simp only[rr];rw[f3];simp only[rr];rw[f4];simp only[rr];rw[qc];unfold vS;rw[Ag hi,x2]) (λi s hi hI=>by
  have hk:=hst _ (Ah hi);obtain⟨x1,x2,x3⟩:=G.xT hi;unfold vS;rw[Ag hi];exact(hI.add ((show Bd 1024 (r.xAt i) by rw[x2];exact q3c x3).mul (bdw (buy:=ss[i].buy) (p:=ss[i].qe) (by omega)))).mono (by omega)) (λm s hI=>by
  show q1q.l6 (n+3) [] (m+1) _=_;rw[q1q.q2o];simp only[Aa]
  rw[Ad,Ab])
 obtain⟨q1,q2⟩:=e6 ss.length 0 (n+3) 0 (by omega) (by omega) (q89.mono (by omega));obtain⟨q3,q4⟩:=e10 bs.length 0 (n+3) _ (by omega) (by omega) (q2.mono (by omega));have hw:(List.range' 0 bs.length).foldl (λs j=>vB bs r.accept s j) ((List.range' 0 ss.length).foldl (λs j=>vS ss r s j) 0)=welV ss bs r:=by
  unfold welV welB welS;rw[hmin];rfl
 have hall:r.x.all isNum=true:=Au.2 G.num.1;have q1:q1q.l6 (n+3) [] (n+3) [zb (((0:Int):Rat)).num,wl (((0:Int):Rat)).num,.bool false,wL (((0:Int):Rat)).den,.list 7 (ss.map StpV.fv),.list 8 (bs.map BlkV.fv),.list 1 (r.accept.map .bool),.list 4 (r.x.map λt=>qo (rd t)),iF 0]=_:=q1;rw[qtq,qf4 ⟨G.sm.xl,G.sm.x⟩ (by omega),if_pos hall];simp only[rr];rw[show((0:Int) !=0)=false from rfl,Ab];simp only[Aa];rw[nne,Af lx,Am,Ab,w_of];simp only[rr];rw[q1];refine q3.trans ?_;rw[hw]
end
end
end Rf
