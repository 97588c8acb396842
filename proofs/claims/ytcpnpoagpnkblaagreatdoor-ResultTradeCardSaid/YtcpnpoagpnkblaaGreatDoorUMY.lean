/- Texts of this work put together, their blanks and comments taken out: Rca, Rcb, Rcc. -/
import Derived.Test.YtcpnpoagpnkblaaGreatDoorUMX
set_option linter.unusedVariables false
set_option linter.unusedSimpArgs false
section
/- The document's check, piece by piece: shape, numbers, bounds. -/
set_option maxHeartbeats 4000000
namespace Rf
open Go
abbrev rL(r:ResV)(rest:List FV):List FV:=.list 1 (r.accept.map .bool)::.list 1 (r.x.map sF)::.list 1 (r.f.map rowF)::.list 1 (r.p.map rowF)::sF r.qo::sF r.upper::.bool r.q73::iF r.nodes::rest
abbrev gR(g:q1g)(rest:List FV):List FV:=iF g.qe::iF g.qg::.list 3 (g.lines.map q17.fv)::iF g.low::iF g.high::rest
noncomputable def q10(l:List Txt):FV:=.list 4 (l.map λt=>qq (rd t))
theorem q4p{l:List Txt}{i:Nat}(h:i<l.length)(c:Nat):at' (l.map λt=>qq (rd t)) i c=[zb (rd l[i]).num,wl (rd l[i]).num,.bool false,wL (rd l[i]).den][c]?:=by rw[q23,List.getElem?_eq_getElem h];rfl
theorem qa3{P:List (List Txt)}{i:Nat}(h:i<P.length):at' (P.map q10) i 0=some (.list 4 (P[i].map λt=>qq (rd t))):=by rw[q23,List.getElem?_eq_getElem h];rfl
theorem qd1{α:Type}(q:Rat)(lo hi:Int)(T F:α):(bif decide (q<((lo:Int):Rat))then F else bif decide (((hi:Int):Rat)<q)then F else T)=bif inR q lo hi then T else F:=by
 unfold inR;by_cases hA:q<((lo:Int):Rat)
 ·rw[decide_eq_true hA,decide_eq_false (p:=((lo:Int):Rat)<=q) (Rat.not_le.2 hA)];rfl
 ·rw[decide_eq_false hA,decide_eq_true (p:=((lo:Int):Rat)<=q) (Rat.not_lt.1 hA)];by_cases hB:((hi:Int):Rat)<q
  ·rw[decide_eq_true hB,decide_eq_false (p:=q<=((hi:Int):Rat)) (Rat.not_le.2 hB)];rfl
  ·rw[decide_eq_false hB,decide_eq_true (p:=q<=((hi:Int):Rat)) (Rat.not_lt.1 hB)];rfl
theorem inR_cut2{α:Type}(q:Rat)(lo hi:Int)(T F:α):(bif decide (((hi:Int):Rat)<q)then F else bif decide (q<((lo:Int):Rat))then F else T)=bif inR q lo hi then T else F:=by
 rw[<- qd1];cases decide (((hi:Int):Rat)<q) <;> cases decide (q<((lo:Int):Rat)) <;> rfl
section
variable {g:q1g} {ss:List StpV} {bs:List BlkV} {r:ResV}
theorem qkz{n:Nat}(h:Sm g ss bs r)(hn:80000<=n):evF EnA n 55 (gR g (.list 7 (ss.map StpV.fv)::.list 8 (bs.map BlkV.fv)::rL r []))=some [.bool (q3y g ss bs r)]:=by
 obtain⟨n,rfl⟩:=qSx n (by omega);have ho:=qfy h (n:=n) (by omega);unfold gL at ho;simp only[List.cons_append,List.nil_append]at ho;rw[ql0,ho,List.length_map,List.length_map,List.length_map,List.length_map,List.length_map,List.length_map];simp (disch:=omega) only[Option.bind_some,List.getElem?_cons_zero,qa];rw[show q3y g ss bs r=(q2b g ss bs&&decide (r.accept.length=bs.length)&&decide (r.x.length=ss.length)&&decide ((r.f.length:Int)=g.qg)&&decide ((r.p.length:Int)=g.qg)&&decide (0<=r.nodes)&&(List.range' 0 g.qg.toNat).all (q74 g r)) from rfl];cases hov:q2b g ss bs with
 |false=>simp
 |true =>
  obtain⟨z1,z2,z3,z4,_⟩:=q34 (q35 hov);rw[nne,nne,ine,ine,show decide (0<=r.nodes)=!decide (r.nodes<0) from dle _ _];by_cases e1:r.accept.length=bs.length
  ·by_cases e2:r.x.length=ss.length
   ·by_cases e3:(r.f.length:Int)=g.qg
    ·by_cases e4:(r.p.length:Int)=g.qg
     ·have hl:=q1s (F:=λm i=>q59.l4 n [] m (gR g (rL r [iF (i:Int)]))) (len:=g.qg.toNat) (P:=q74 g r) (fin:=some [.bool true]) (stop:=some [.bool false]) (λm i hi=>by
       show q59.l4 n [] (m+1) _=_;have i1:i<r.f.length:=by omega
       have i2:i<r.p.length:=by omega
       rw[q59.q13,decide_eq_true (by omega),cond_true,List.length_map,List.length_map,List.length_map,qc i1,qc i2];simp (disch:=omega) only[q36 i1,q36 i2,Option.bind_some,q9];rw[List.length_map,List.length_map,nne,ine,qi (by omega)];unfold q74;rw[getD_at _ _ i1,getD_at _ _ i2];cases decide (r.f[i].length=g.lines.length) <;> cases decide (((r.p[i].length:Nat):Int)=g.qe) <;> rfl) (λm=>by
       show q59.l4 n [] (m+1) _=_
       rw[q59.q13,decide_eq_false (by omega),cond_false]) g.qg.toNat 0 n (by omega) (by omega)
      have hl:q59.l4 n [] n (gR g (rL r [iF 0]))=_:=hl;rw[hl,decide_eq_true e1,decide_eq_true e2,decide_eq_true e3,decide_eq_true e4];cases decide (r.nodes<0) <;> cases(List.range' 0 g.qg.toNat).all (q74 g r) <;> rfl
     ·rw[decide_eq_false e4];simp
    ·rw[decide_eq_false e3];simp
   ·rw[decide_eq_false e2];simp
  ·rw[decide_eq_false e1];simp
theorem qd2{X:List Txt}{n:Nat}(hl:Few X)(hn:300<=n):evF EnA n 120 [.list 1 (X.map sF)]=if X.all isNum=true then some [.list 4 (X.map λt=>qq (rd t)),iF 0]else some [.list 4 [],iF 10]:=by
 obtain⟨n,rfl⟩:∃k,n=k+2:=⟨n-2,by omega⟩;have:=hl.1;have h:=q1s (F:=λm i=>q5a.l3 (n+1) [] m [.list 1 (X.map sF),.list 4 ((X.take i).map λt=>qq (rd t)),iF (i:Int)]) (len:=X.length) (P:=λi=>match X[i]? with | some t=>isNum t | none=>true)
  (fin:=some [.list 4 (X.map λt=>qq (rd t)),iF 0]) (stop:=some [.list 4 [],iF 10]) (λm i hi=>by
  show q5a.l3 (n+1) [] (m+1) _=_;rw[q5a.qy,List.length_map,decide_eq_true (by omega),cond_true,qc hi,List.getElem?_eq_getElem hi];simp (disch:=omega) only[tx_at hi,Option.bind_some,qn];have hlen:=hl.2 X[i] (List.getElem_mem hi);cases hp:pr X[i]with
  |none =>
   rw[w_bad hp (by omega)];simp (disch:=omega) only[Option.bind_some,List.getElem?_cons_zero,List.getElem?_cons_succ,q9,qb,qa];have:isNum X[i]=false:=by unfold isNum;rw[hp];rfl
   rw[this];rfl
  |some q =>
   rw[w_parse hp (by omega)];simp (disch:=omega) only[Option.bind_some,List.getElem?_cons_zero,List.getElem?_cons_succ,q9,qb,qa];have:isNum X[i]=true:=by unfold isNum;rw[hp];rfl
   rw[this,cond_true,show Nat.ble (((X.take i).map λt=>qq (rd t)).length+(qd 1 (.agg [.bool false,.list 1 [],.bool false,.list 1 []]) [(0,.agg [zb (q).num,wl (q).num,.bool false,wL (q).den])]).length) 2199023255552=true by
    apply Nat.ble_eq_true_of_le;rw[List.length_map,List.length_take];show _+1<=_
    omega,cond_true,qi (by omega)]
   have e:((X.take i).map λt=>qq (rd t))++qd 1 (.agg [.bool false,.list 1 [],.bool false,.list 1 []]) [(0,.agg [zb (q).num,wl (q).num,.bool false,wL (q).den])]=(X.take (i+1)).map λt=>qq (rd t):=by
    rw[<- qb3 (λt=>qq (rd t)) X hi,rd_some hp];rfl
   rw[e];rfl) (λm=>by
  show q5a.l3 (n+1) [] (m+1) _=_
  rw[q5a.qy,List.length_map,decide_eq_false (by omega),cond_false,List.take_length]) X.length 0 (n+1) (by omega) (by omega)
 rw[q49 X isNum (λi hi=>by rw[List.getElem?_eq_getElem hi])]at h;rw[ql1];have h:q5a.l3 (n+1) [] (n+1) [.list 1 (X.map sF),.list 4 (qd 0 (.agg [.bool false,.list 1 [],.bool false,.list 1 []]) []),iF 0]=_:=h;rw[h];cases X.all isNum <;> rfl
theorem wread_run{P:List (List Txt)}{n:Nat}(hP:P.length<=256)(hl:∀l,l∈P->Few l)(hn:700<=n):evF EnA n 56 [.list 1 (P.map rowF)]=if P.all (·.all isNum)=true then some [.list 1 (P.map q10),.bool true]else some [.list 1 [],.bool false]:=by
 obtain⟨n,rfl⟩:∃k,n=k+2:=⟨n-2,by omega⟩;have h:=q1s (F:=λm i=>q5b.l3 (n+1) [] m [.list 1 (P.map rowF),.list 1 ((P.take i).map q10),iF (i:Int)]) (len:=P.length) (P:=λi=>match P[i]? with | some l=>l.all isNum | none=>true)
  (fin:=some [.list 1 (P.map q10),.bool true]) (stop:=some [.list 1 [],.bool false]) (λm i hi=>by
  show q5b.l3 (n+1) [] (m+1) _=_;rw[q5b.qy,List.length_map,decide_eq_true (by omega),cond_true,qc hi,List.getElem?_eq_getElem hi];simp (disch:=omega) only[q36 hi,Option.bind_some,q9];rw[qd2 (hl _ (List.getElem_mem hi)) (by omega)];cases hp:P[i].all isNum with
  |false=>rfl
  |true =>
   rw[if_pos rfl];simp (disch:=omega) only[Option.bind_some,List.getElem?_cons_zero,List.getElem?_cons_succ,q9,qb,cond_true]
   rw[show((0:Int) !=0)=false from rfl,cond_false,show Nat.ble (((P.take i).map q10).length+(qd 1 (.list 4 []) [(0,.list 4 (P[i].map λt=>qq (rd t)))]).length) 5864062014805=true by
    apply Nat.ble_eq_true_of_le;rw[List.length_map,List.length_take];show _+1<=_
    omega,cond_true,qi (by omega)]
   have e:((P.take i).map q10)++qd 1 (.list 4 []) [(0,.list 4 (P[i].map λt=>qq (rd t)))]=(P.take (i+1)).map q10:=qb3 q10 P hi;rw[e]) (λm=>by
  show q5b.l3 (n+1) [] (m+1) _=_
  rw[q5b.qy,List.length_map,decide_eq_false (by omega),cond_false,List.take_length]) P.length 0 (n+1) (by omega) (by omega)
 rw[q49 P (·.all isNum) (λi hi=>by rw[List.getElem?_eq_getElem hi])]at h;rw[ql2];have h:q5b.l3 (n+1) [] (n+1) [.list 1 (P.map rowF),.list 1 (qd 0 (.list 4 []) []),iF 0]=_:=h;rw[h];cases P.all (·.all isNum) <;> rfl
theorem ql3{n:Nat}{l:List Txt}(hl:Few l)(hg:∀x,x∈g.lines->0<=x.cap/\x.cap<=1000)(hn:1000<=n):evF EnA n 121 (gR g [.list 1 (l.map sF)])=some [.bool (q4f g l)]:=by
 obtain⟨n,rfl⟩:∃k,n=k+2:=⟨n-2,by omega⟩;have:=hl.1;rw[ql4,qd2 hl (by omega),List.length_map,List.length_map];unfold q4f;cases hall:l.all isNum with
 |false=>rfl
 |true =>
  rw[if_pos rfl];simp (disch:=omega) only[Option.bind_some,List.getElem?_cons_zero,List.getElem?_cons_succ,q9,qb];rw[show((0:Int) !=0)=false from rfl,cond_false,nne];by_cases hlen:l.length=g.lines.length
  ·rw[decide_eq_true hlen,Bool.not_true,cond_false]
   have h:=q1s (F:=λm i=>q5c.l5 (n+1) [] m (gR g [.list 4 (l.map λt=>qq (rd t)),iF (i:Int)])) (len:=l.length) (P:=λi=>inR (rd (l.getD i [])) (-(g.lines.getD i default).cap) (g.lines.getD i default).cap) (fin:=some [.bool true]) (stop:=some [.bool false]) (λm i hi=>by
    show q5c.l5 (n+1) [] (m+1) _=_;have hi2:i<g.lines.length:=by omega
    obtain⟨c1,c2⟩:=hg _ (List.getElem_mem hi2);have hq:=q1o (hl.2 _ (List.getElem_mem hi));have hc:=Sz.int (z:=g.lines[i].cap) (by omega) (by omega);have hc2:=Sz.int (z:=-g.lines[i].cap) (by omega) (by omega);have e0:-((g.lines[i].cap:Int):Rat)=((-g.lines[i].cap:Int):Rat):=(Rat.intCast_neg _).symm;rw[q5c.q1t,List.length_map,List.length_map,decide_eq_true (by omega),cond_true,qc hi,qc hi2];simp (disch:=omega) only[q4p hi,q76 hi2,Option.bind_some,List.getElem?_cons_zero,List.getElem?_cons_succ,q9,qb,qa];rw[w_of (by omega) (by omega)];simp (disch:=omega) only[Option.bind_some,List.getElem?_cons_zero,List.getElem?_cons_succ,q9,qa];rw[q4d hq hc (qj _) (qj _)];simp (disch:=omega) only[Option.bind_some,List.getElem?_cons_zero,qb];rw[q57,w_neg (qj _)];simp (disch:=omega) only[Option.bind_some,List.getElem?_cons_zero,List.getElem?_cons_succ,q9,qa];rw[e0,q4d hq hc2 (qj _) (qj _)];simp (disch:=omega) only[Option.bind_some,List.getElem?_cons_zero,qb];rw[q4e,qi (by omega),getD_at _ _ hi,getD_at _ _ hi2,inR_cut2]) (λm=>by
    show q5c.l5 (n+1) [] (m+1) _=_
    rw[q5c.q1t,List.length_map,decide_eq_false (by omega),cond_false]) l.length 0 (n+1) (by omega) (by omega)
   have h:q5c.l5 (n+1) [] (n+1) (gR g [.list 4 (l.map λt=>qq (rd t)),iF 0])=_:=h;rw[h];simp only[Bool.true_and];cases(List.range' 0 l.length).all λi=>inR (rd (l.getD i [])) (-(g.lines.getD i default).cap) (g.lines.getD i default).cap <;> rfl
  ·rw[decide_eq_false hlen];rfl
theorem ql5{n:Nat}(G:q1b g ss bs r)(hn:2000<=n):evF EnA n 57 (gR g (.list 7 (ss.map StpV.fv)::.list 4 (r.x.map λt=>qq (rd t))::rL r [.list 1 (r.p.map q10)]))=some [.bool (q4g g ss r)]:=by
 obtain⟨n,rfl⟩:∃k,n=k+4:=⟨n-4,by omega⟩;obtain⟨z1,z2,z3,z4,z5,z6,z7,z8,z9⟩:=q34 (q35 G.sh.ord);obtain⟨o1,o2⟩:=q56 G.sh.ord;have hst:=q82 G.sh.ord;have lf:=G.sh.f;have lp:=G.sh.p
 have e7:=q1s (F:=λm i=>q1p.l7 (n+3) [] m (gR g (rL r [.list 1 (r.p.map q10),iF (i:Int)]))) (len:=g.qg.toNat) (P:=λi=>q4f g (r.f.getD i [])&&(List.range' 0 g.qe.toNat).all λz=>inR (r.pAt i z) g.low g.high) (fin:=some [.bool true]) (stop:=some [.bool false]) (λm i hi=>by
  show q1p.l7 (n+3) [] (m+1) _=_;have i1:i<r.f.length:=by omega
  have e12:=q1s (F:=λm' z=>q1p.l12 (n+3) [m] m' (gR g (rL r [.list 1 (r.p.map q10),iF (i:Int),iF (z:Int)]))) (len:=g.qe.toNat) (P:=λz=>inR (r.pAt i z) g.low g.high) (fin:=q1p.l7 (n+3) [] m (gR g (rL r [.list 1 (r.p.map q10),iF ((i+1:Nat):Int)]))) (stop:=some [.bool false]) (λm' z hz=>by
   show q1p.l12 (n+3) [m] (m'+1) _=_;obtain⟨p1,p2,p3,p4⟩:=G.pT hi hz;have f1:=w_of (n:=n+2) (z:=g.low) (by omega) (by omega);have f2:=w_of (n:=n+2) (z:=g.high) (by omega) (by omega);have f3:=q4d (n:=n+2) (q1o p4) (Sz.int (z:=g.low) (by omega) (by omega)) (qj _) (qj _);have f4:=q4d (n:=n+2) (q1o p4) (Sz.int (z:=g.high) (by omega) (by omega)) (qj _) (qj _);rw[q1p.q77,decide_eq_true (by omega),cond_true,List.length_map,qc p1];simp (disch:=omega) only[qa3 p1,Option.bind_some,q9];rw[List.length_map,qc p2];simp (disch:=omega) only[q4p p2,Option.bind_some,List.getElem?_cons_zero,List.getElem?_cons_succ,q9,qa];rw[f1,f2];simp (disch:=omega) only[Option.bind_some,List.getElem?_cons_zero,List.getElem?_cons_succ,q9,qa];rw[f3,f4];simp (disch:=omega) only[Option.bind_some,List.getElem?_cons_zero,qb];rw[q4e,q57,qi (by omega),p3,qd1]) (λm'=>by
   show q1p.l12 (n+3) [m] (m'+1) _=_
   rw[q1p.q77,decide_eq_false (by omega),cond_false,qi (by omega)]) g.qe.toNat 0 (n+3) (by omega) (by omega)
  have e12:q1p.l12 (n+3) [m] (n+3) (gR g (rL r [.list 1 (r.p.map q10),iF (i:Int),iF 0]))=_:=e12;rw[q1p.q3f,decide_eq_true (by omega),cond_true,List.length_map,qc i1];simp (disch:=omega) only[q36 i1,Option.bind_some,q9];rw[ql3 (G.sm.f _ (List.getElem_mem i1)) (λx hx=>by have:=q91 (z6 x hx);omega) (by omega),e12,getD_at _ _ i1];simp (disch:=omega) only[Option.bind_some,List.getElem?_cons_zero,qa];cases q4f g r.f[i] <;> cases(List.range' 0 g.qe.toNat).all λz=>inR (r.pAt i z) g.low g.high <;> rfl) (λm=>by
  show q1p.l7 (n+3) [] (m+1) _=_
  rw[q1p.q3f,decide_eq_false (by omega),cond_false]) g.qg.toNat 0 (n+3) (by omega) (by omega)
 have e7:q1p.l7 (n+3) [] (n+3) (gR g (rL r [.list 1 (r.p.map q10),iF 0]))=_:=e7
 have e2:=q1s (F:=λm i=>q1p.l2 (n+3) [] m (gR g (rL r [.list 7 (ss.map StpV.fv),.list 4 (r.x.map λt=>qq (rd t)),.list 1 (r.p.map q10),iF (i:Int)]))) (len:=ss.length) (P:=λi=>inR (r.xAt i) 0 (ss.getD i default).qty) (fin:=q1p.l7 (n+3) [] (n+3) (gR g (rL r [.list 1 (r.p.map q10),iF 0]))) (stop:=some [.bool false]) (λm i hi=>by
  show q1p.l2 (n+3) [] (m+1) _=_;obtain⟨x1,x2,x3⟩:=G.xT hi;have hk:=hst _ (List.getElem_mem hi);have f1:=w_of (n:=n+2) (z:=ss[i].qty) (by omega) (by omega);have f3:=q4d (n:=n+2) (q1o x3) (Sz.int (z:=ss[i].qty) (by omega) (by omega)) (qj _) (qj _);rw[q1p.qv,List.length_map,List.length_map,decide_eq_true (by omega),cond_true,qc hi,qc x1];simp (disch:=omega) only[q4p x1,q3z hi,Option.bind_some,List.getElem?_cons_zero,List.getElem?_cons_succ,q9,qb,qa];rw[w_sign,f1];simp (disch:=omega) only[Option.bind_some,List.getElem?_cons_zero,List.getElem?_cons_succ,q9,qb,qa];rw[f3];simp (disch:=omega) only[Option.bind_some,List.getElem?_cons_zero,qb];rw[sgn_lt0,q57,qi (by omega),getD_at _ _ hi,x2,show decide (rd r.x[i]<0)=decide (rd r.x[i]<(((0:Int)):Rat)) by rw[Rat.intCast_zero],qd1]) (λm=>by
  show q1p.l2 (n+3) [] (m+1) _=_
  rw[q1p.qv,List.length_map,decide_eq_false (by omega),cond_false]) ss.length 0 (n+3) (by omega) (by omega)
 have e2:q1p.l2 (n+3) [] (n+3) (gR g (rL r [.list 7 (ss.map StpV.fv),.list 4 (r.x.map λt=>qq (rd t)),.list 1 (r.p.map q10),iF 0]))=_:=e2;rw[ql6,e2,e7];unfold q4g;have hfa:∀i,i<g.qg.toNat->(q4f g (r.f.getD i [])&&(List.range' 0 g.qe.toNat).all λz=>inR (r.pAt i z) g.low g.high)=(((List.range' 0 g.lines.length).all λk=>inR (r.fAt i k) (-(g.lines.getD k default).cap) (g.lines.getD k default).cap)&&(List.range' 0 g.qe.toNat).all λz=>inR (r.pAt i z) g.low g.high):=by
  intro i hi;obtain⟨l1,l2⟩:=G.sh.lens i hi;have i1:i<r.f.length:=by omega
  have hal:(r.f.getD i []).all isNum=true:=by
   rw[getD_at _ _ i1,List.all_eq_true];exact G.num.2.2.2.1 _ (List.getElem_mem i1)
  unfold q4f;rw[hal,decide_eq_true l1,Bool.true_and,Bool.true_and,l1];rfl
 rw[qb9 hfa];cases(List.range' 0 ss.length).all λi=>inR (r.xAt i) 0 (ss.getD i default).qty with
 |false=>rfl
 |true =>
  rw[cond_true,Bool.true_and];cases(List.range' 0 g.qg.toNat).all λi=>(((List.range' 0 g.lines.length).all λk=>inR (r.fAt i k) (-(g.lines.getD k default).cap) (g.lines.getD k default).cap)&&(List.range' 0 g.qe.toNat).all λz=>inR (r.pAt i z) g.low g.high) <;> rfl
end
end Rf
end
section
/- The document's check, piece by piece: balance, prices, welfare. -/
set_option maxHeartbeats 4000000
namespace Rf
open Go
section
variable {g:q1g} {ss:List StpV} {bs:List BlkV} {r:ResV} {ac:List Bool}
theorem wnet_run{n h:Nat}(hz:1<=g.qe/\g.qe<=3)(hb:bs.length<=256)(ha:ac.length<=256)(hql:∀b,b∈bs->b.qty.length<=256)(hq:Smq bs)(hh:h<=1000)(hn:400<=n) :
  evF EnA n 123 (gR g [.list 8 (bs.map BlkV.fv),.list 1 (ac.map .bool),iF (h:Int)])=some [.list 1 (netL bs ac h g.qe.toNat)]:=by
 obtain⟨n,rfl⟩:∃k,n=k+2:=⟨n-2,by omega⟩;have e0:(if(0:Int)<(if 3<g.qe then 3 else g.qe)then(if 3<g.qe then 3 else g.qe)else 0)=((g.qe.toNat:Nat):Int):=by
  rw[if_neg (show ¬ 3<g.qe by omega),if_pos (by omega)];omega
 have e1:q1n 8 ((g.qe.toNat:Nat):Int)=some g.qe.toNat:=by
  unfold q1n;rw[if_pos ⟨by omega,by omega,by omega⟩,Int.toNat_natCast]
 rw[qkq,e0,e1,Option.bind_some,q1w (Nat.le_refl _),Option.bind_some];have key:∀(d i m:Nat),i+d=min bs.length ac.length->d<m->q3n.l3 (n+1) [] m [.list 8 (bs.map BlkV.fv),.list 1 (ac.map .bool),iF (h:Int),.list 1 ((List.range g.qe.toNat).map λz=>iF (netAt bs ac h z i)),iF (i:Int)]=some [.list 1 (netL bs ac h g.qe.toNat)]:=by
  intro d
  induction d with
  |zero =>
   intro i m hi hm;obtain⟨m,rfl⟩:=qSx m (by omega);have efin:some [FV.list 1 ((List.range g.qe.toNat).map λz=>iF (netAt bs ac h z i))]=some [.list 1 (netL bs ac h g.qe.toNat)]:=by
    unfold netL netV;rw[show i=min bs.length ac.length by omega]
   rw[q3n.qy,List.length_map,List.length_map,efin];by_cases hib:i<bs.length
   ·rw[decide_eq_true (by omega),cond_true,decide_eq_false (by omega),cond_false]
   ·rw[decide_eq_false (by omega),cond_false]
  |succ d ih =>
   intro i m hi hm;obtain⟨m,rfl⟩:=qSx m (by omega);have i1:i<bs.length:=by omega
   have i2:i<ac.length:=by omega
   rw[q3n.qy,List.length_map,List.length_map,decide_eq_true (by omega),cond_true,decide_eq_true (by omega),cond_true,qc i1,qc i2,qi (by omega)];simp (disch:=omega) only[q2j i1,q81 i2,Option.bind_some,List.getElem?_cons_zero,List.getElem?_cons_succ,q9,qb,qa,qn];rw[List.length_map,List.length_map,List.length_range];have skip:¬ (ac[i]=true/\0<=bs[i].zone/\bs[i].zone<g.qe/\h<bs[i].qty.length)->q3n.l3 (n+1) [] m [.list 8 (bs.map BlkV.fv),.list 1 (ac.map .bool),iF (h:Int),.list 1 ((List.range g.qe.toNat).map λz=>iF (netAt bs ac h z i)),iF ((i+1:Nat):Int)]=some [.list 1 (netL bs ac h g.qe.toNat)]:=by
    intro hno
    rw[qgb (bs:=bs) (ac:=ac) h (i:=i) (Z:=g.qe.toNat) λz hz ⟨b,e1,e2,e3,e4⟩=>hno (by
     rw[List.getElem?_eq_getElem i1]at e1;rw[List.getElem?_eq_getElem i2]at e2;cases e1
     refine⟨by simpa using e2,by omega,by omega,e4⟩)]
    exact ih (i+1) m (by omega) (by omega)
   by_cases c1:ac[i]=true
   ·rw[c1,Bool.not_true,cond_false];by_cases c2:0<=bs[i].zone
    ·rw[decide_eq_false (show ¬ bs[i].zone<0 by omega),cond_false];by_cases c3:bs[i].zone<g.qe
     ·rw[decide_eq_false (show ¬ bs[i].zone≥((g.qe.toNat:Nat):Int) by omega),cond_false,decide_eq_false (show ¬ ((h:Nat):Int)<0 by omega),cond_false];by_cases c4:h<bs[i].qty.length
      ·obtain⟨k,hk⟩:∃k:Nat,bs[i].zone=(k:Int):=⟨bs[i].zone.toNat,by omega⟩;have hkz:k<g.qe.toNat:=by omega
       obtain⟨q1,q2⟩:=hq _ (List.getElem_mem i1) _ (List.getElem_mem c4);obtain⟨b1,b2⟩:=qa1 (ac:=ac) hq h k i;have hst:=net_step h i1 i2 c1 hk c4 (Z:=g.qe.toNat);rw[decide_eq_false (show ¬ ((h:Nat):Int)≥((bs[i].qty.length:Nat):Int) by omega),cond_false,hk,qc hkz,qc c4];simp (disch:=omega) only[qd0 hkz,q6c c4,Option.bind_some,qb];rw[qm (x:=netAt bs ac h k i-bs[i].qty[h]) (by omega) (by omega),qm (x:=netAt bs ac h k i+bs[i].qty[h]) (by omega) (by omega)];cases hbuy:bs[i].buy with
       |true =>
        rw[hbuy]at hst;simp only[if_true]at hst;rw[cond_true,show netAt bs ac h k i-bs[i].qty[h]=netAt bs ac h k i+-bs[i].qty[h] from rfl,hst];exact ih (i+1) m (by omega) (by omega)
       |false =>
        rw[hbuy]at hst;simp only[Bool.false_eq_true,if_false]at hst;rw[cond_false,hst];exact ih (i+1) m (by omega) (by omega)
      ·rw[decide_eq_true (show((h:Nat):Int)≥((bs[i].qty.length:Nat):Int) by omega),cond_true];exact skip λq=>c4 q.2.2.2
     ·rw[decide_eq_true (show bs[i].zone≥((g.qe.toNat:Nat):Int) by omega),cond_true];exact skip λq=>c3 q.2.2.1
    ·rw[decide_eq_true (show bs[i].zone<0 by omega),cond_true];exact skip λq=>c2 q.2.1
   ·rw[Bool.eq_false_iff.2 c1];exact skip λq=>c1 q.1
 have k0:=key (min bs.length ac.length) 0 (n+1) (by omega) (by omega);have e2:((List.range g.qe.toNat).map λz=>iF (netAt bs ac h z 0))=List.replicate g.qe.toNat (iF 0):=by
  rw[show(λz=>iF (netAt bs ac h z 0))=λ_=>iF 0 from rfl,List.map_const',List.length_range]
 rw[e2]at k0;exact k0
theorem qkr{n h:Nat}(G:q1b g ss bs r)(hh:h<g.qg.toNat)(hn:400<=n):∃i1:h<r.f.length,evF EnA n 122 (gR g [.list 4 (r.f[h].map λt=>qq (rd t))])=some [.list 4 ((List.range g.qe.toNat).map λz=>qq (expV g.lines r h z))]/\∀z,Bd 10000 (expV g.lines r h z):=by
 obtain⟨z1,z2,z3,z4,z5,z6,z7,z8,z9⟩:=q34 (q35 G.sh.ord);have lf:=G.sh.f;have i1:h<r.f.length:=by omega
 have hbd:∀(l:List Nat) (z k:Nat) (a:Rat),(∀i,i∈l->i<g.lines.length)->Bd k a->Bd (k+2100*l.length) (l.foldl (q6d g.lines r h z) a):=by
  intro l
  induction l with
  |nil=>intro z k a _ ha;exact ha.mono (by simp)
  |cons i l ih =>
   intro z k a hl ha;rw[List.foldl_cons];have hi:=hl i List.mem_cons_self;obtain⟨_,_,q1,q2⟩:=G.fT hh hi;have hf:Bd 1024 (r.fAt h i):=by rw[q1];exact q4b q2
   have hs:Bd (k+2100) (q6d g.lines r h z a i):=by
    unfold q6d;rw[List.getElem?_eq_getElem hi];simp only;have h1:Bd (k+1025) (if g.lines[i].src=(z:Int)then a+r.fAt h i else a):=by
     split
     ·exact(ha.add hf).mono (by omega)
     ·exact ha.mono (by omega)
    split
    ·exact(h1.sub hf).mono (by omega)
    ·exact h1.mono (by omega)
   refine(ih z (k+2100) _ (λj hj=>hl j (List.mem_cons_of_mem _ hj)) hs).mono ?_;simp only[List.length_cons];omega
 have hexp:∀z,Bd 10000 (expV g.lines r h z):=λz=>by
  refine(hbd (List.range' 0 g.lines.length) z 1 0 (λi hi=>by rw[List.mem_range'_1]at hi;omega) q75).mono ?_;rw[List.length_range'];omega
 refine⟨i1,?_,hexp⟩;obtain⟨n,rfl⟩:∃k,n=k+4:=⟨n-4,by omega⟩
 have e3:=q1s (F:=λm z=>q27.l3 (n+3) [] m (gR g [.list 4 (r.f[h].map λt=>qq (rd t)),.list 4 ((List.range z).map λz=>qq (expV g.lines r h z)),iF (z:Int)])) (len:=g.qe.toNat) (P:=λ_=>true) (fin:=some [.list 4 ((List.range g.qe.toNat).map λz=>qq (expV g.lines r h z))]) (stop:=none) (λm z hz=>by
  show q27.l3 (n+3) [] (m+1) _=_
  have e7:=q55 (F:=λm' i (a:Rat)=>q27.l7 (n+3) [m] m' (gR g [zb (a).num,wl (a).num,.bool false,wL (a).den,.list 4 (r.f[h].map λt=>qq (rd t)),.list 4 ((List.range z).map λz=>qq (expV g.lines r h z)),iF (z:Int),iF (i:Int)])) (len:=g.lines.length) (g:=λi a=>q6d g.lines r h z a i) (fin:=λa=>q27.l3 (n+3) [] m (gR g [.list 4 (r.f[h].map λt=>qq (rd t)),.list 4 (((List.range z).map λz=>qq (expV g.lines r h z))++[qq a]),iF ((z+1:Nat):Int)])) (I:=λi a=>Bd (1+2100*i) a) (λm' i a hi hI=>by
   show q27.l7 (n+3) [m] (m'+1) _=_;obtain⟨_,k2,q1,q2⟩:=G.fT hh hi;have f1:=w_add (n:=n+2) (hI.mono (by omega)) (q1o q2) (qj a) (qj _);have hb:Bd (1+2100*i+1024+1) (a+rd r.f[h][i]):=hI.add (q4b q2);have f2:=w_sub (n:=n+2) (hb.mono (by omega)) (q1o q2) (qj (a+rd r.f[h][i])) (qj _);have f3:=w_sub (n:=n+2) (hI.mono (by omega)) (q1o q2) (qj a) (qj _);rw[q27.q3f];simp only[List.length_map];rw[decide_eq_true (by omega),cond_true,qc hi,qc k2];simp (disch:=omega) only[q76 hi,q4p k2,Option.bind_some,List.getElem?_cons_zero,List.getElem?_cons_succ,q9,qb,qa];rw[f1];simp (disch:=omega) only[Option.bind_some,List.getElem?_cons_zero,List.getElem?_cons_succ,q9,qa];rw[f2,f3];simp (disch:=omega) only[Option.bind_some,List.getElem?_cons_zero,List.getElem?_cons_succ,q9,qa];rw[qi (by omega)];unfold q6d;rw[List.getElem?_eq_getElem hi,q1];simp only;by_cases c1:g.lines[i].src=(z:Int)
   ·rw[show(g.lines[i].src==(z:Int))=true by simpa using c1,if_pos c1,cond_true];by_cases c2:g.lines[i].dst=(z:Int)
    ·rw[show(g.lines[i].dst==(z:Int))=true by simpa using c2,if_pos c2,cond_true]
    ·rw[show(g.lines[i].dst==(z:Int))=false by simpa using c2,if_neg c2,cond_false]
   ·rw[show(g.lines[i].src==(z:Int))=false by simpa using c1,if_neg c1,cond_false];by_cases c2:g.lines[i].dst=(z:Int)
    ·rw[show(g.lines[i].dst==(z:Int))=true by simpa using c2,if_pos c2,cond_true]
    ·rw[show(g.lines[i].dst==(z:Int))=false by simpa using c2,if_neg c2,cond_false]) (λi a hi hI=>by
   refine(hbd [i] z (1+2100*i) a (λj hj=>by rw[List.mem_singleton.1 hj];exact hi) hI).mono ?_;simp only[List.length_cons,List.length_nil];omega) (λm' a hI=>by
   show q27.l7 (n+3) [m] (m'+1) _=_;rw[q27.q3f];simp only[List.length_map]
   rw[decide_eq_false (by omega),cond_false,List.length_range,show Nat.ble (z+(qd 1 (.agg [.bool false,.list 1 [],.bool false,.list 1 []]) [(0,.agg [zb (a).num,wl (a).num,.bool false,wL (a).den])]).length) 2199023255552=true by
    apply Nat.ble_eq_true_of_le;show z+1<=_
    omega,cond_true,qi (by omega)]
   rfl) g.lines.length 0 (n+3) 0 (by omega) (by omega) (q75.mono (by omega))
  have e7:=e7.1;have e7:q27.l7 (n+3) [m] (n+3) (gR g [zb (((0:Int):Rat)).num,wl (((0:Int):Rat)).num,.bool false,wL (((0:Int):Rat)).den,.list 4 (r.f[h].map λt=>qq (rd t)),.list 4 ((List.range z).map λz=>qq (expV g.lines r h z)),iF (z:Int),iF 0])=_:=e7;rw[q27.qy,decide_eq_true (by omega),cond_true,w_of (by omega) (by omega)];simp (disch:=omega) only[Option.bind_some,List.getElem?_cons_zero,List.getElem?_cons_succ,q9,qa,cond_true];rw[e7,List.range_succ,List.map_append];rfl) (λm=>by
  show q27.l3 (n+3) [] (m+1) _=_
  rw[q27.qy,decide_eq_false (by omega),cond_false]) g.qe.toNat 0 (n+3) (by omega) (by omega)
 have e3:q27.l3 (n+3) [] (n+3) (gR g [.list 4 (r.f[h].map λt=>qq (rd t)),.list 4 (qd 0 (.agg [.bool false,.list 1 [],.bool false,.list 1 []]) []),iF 0])=_:=e3;have hall1:(List.range' 0 g.qe.toNat).all (λ_=>true)=true:=by rw[List.all_eq_true];intro _ _;rfl
 rw[qks,e3,hall1,cond_true]
theorem wratR_at{Z k:Nat}(hk:k<Z)(f:Nat->Rat)(c:Nat):at' ((List.range Z).map λz=>qq (f z)) k c=[zb (f k).num,wl (f k).num,.bool false,wL (f k).den][c]?:=by
 rw[q23,List.getElem?_range hk];rfl
theorem cmpQ_ne{q r:Rat}:(cmpQ q r !=0)=!decide (q=r):=by
 rw[ine];congr 1;rw[decide_eq_decide];exact cmp_eq
theorem qkt{n:Nat}(G:q1b g ss bs r)(hn:5000<=n):evF EnA n 58 (gR g (.list 7 (ss.map StpV.fv)::.list 8 (bs.map BlkV.fv)::rL r [.list 4 (r.x.map λt=>qq (rd t)),.list 1 (r.f.map q10)]))=some [.bool (balV g ss bs r)]:=by
 obtain⟨n,rfl⟩:∃k,n=k+4:=⟨n-4,by omega⟩;obtain⟨z1,z2,z3,z4,z5,z6,z7,z8,z9⟩:=q34 (q35 G.sh.ord);obtain⟨o1,o2⟩:=q56 G.sh.ord;have hst:=q82 G.sh.ord;have hbl:=qa2 G.sh.ord
 have e2:=q1s (F:=λm h=>q1l.l2 (n+3) [] m (gR g (rL r [.list 7 (ss.map StpV.fv),.list 8 (bs.map BlkV.fv),.list 4 (r.x.map λt=>qq (rd t)),.list 1 (r.f.map q10),iF (h:Int)]))) (len:=g.qg.toNat) (P:=λh=>(List.range' 0 g.qe.toNat).all λz=>decide (q4c ss bs r h z=expV g.lines r h z)) (fin:=some [.bool true]) (stop:=some [.bool false]) (λm h hh=>by
  show q1l.l2 (n+3) [] (m+1) _=_;obtain⟨i1,hx,hxb⟩:=qkr (n:=n+3) G hh (by omega);have hnet:=wnet_run (g:=g) (bs:=bs) (ac:=r.accept) (n:=n+3) (h:=h) ⟨z1,z2⟩ G.sm.bsl G.sm.acl G.sm.q (λb hb q hq=>(hbl b hb).2.2.2.2.2 q hq) (by omega) (by omega)
  have e7:=q1s (F:=λm' z=>q1l.l7 (n+3) [m] m' (gR g (rL r [.list 7 (ss.map StpV.fv),.list 8 (bs.map BlkV.fv),.list 4 (r.x.map λt=>qq (rd t)),.list 1 (r.f.map q10),iF (h:Int),.list 4 ((List.range g.qe.toNat).map λz=>qq (expV g.lines r h z)),.list 1 (netL bs r.accept h g.qe.toNat),iF (z:Int)]))) (len:=g.qe.toNat) (P:=λz=>decide (q4c ss bs r h z=expV g.lines r h z)) (fin:=q1l.l2 (n+3) [] m (gR g (rL r [.list 7 (ss.map StpV.fv),.list 8 (bs.map BlkV.fv),.list 4 (r.x.map λt=>qq (rd t)),.list 1 (r.f.map q10),iF ((h+1:Nat):Int)]))) (stop:=some [.bool false]) (λm' z hz=>by
   show q1l.l7 (n+3) [m] (m'+1) _=_;have hnb:=qa1 (bs:=bs) (ac:=r.accept) (λb hb q hq=>(hbl b hb).2.2.2.2.2 q hq) h z (min bs.length r.accept.length);have hnv:-12000<=netV bs r.accept h z/\netV bs r.accept h z<=12000:=by unfold netV;omega
   have e11:=q55 (F:=λm'' i (a:Rat)=>q1l.l11 (n+3) [m,m'] m'' (gR g (rL r [zb (a).num,wl (a).num,.bool false,wL (a).den,.list 7 (ss.map StpV.fv),.list 8 (bs.map BlkV.fv),.list 4 (r.x.map λt=>qq (rd t)),.list 1 (r.f.map q10),iF (h:Int),.list 4 ((List.range g.qe.toNat).map λz=>qq (expV g.lines r h z)),.list 1 (netL bs r.accept h g.qe.toNat),iF (z:Int),iF (i:Int)]))) (len:=ss.length) (g:=λi a=>q83 ss r h z a i) (fin:=λa=>bif decide (a=expV g.lines r h z)then q1l.l7 (n+3) [m] m' (gR g (rL r [.list 7 (ss.map StpV.fv),.list 8 (bs.map BlkV.fv),.list 4 (r.x.map λt=>qq (rd t)),.list 1 (r.f.map q10),iF (h:Int),.list 4 ((List.range g.qe.toNat).map λz=>qq (expV g.lines r h z)),.list 1 (netL bs r.accept h g.qe.toNat),iF ((z+1:Nat):Int)]))else some [.bool false]) (I:=λi a=>Bd (20+1100*i) a) (λm'' i a hi hI=>by
    show q1l.l11 (n+3) [m,m'] (m''+1) _=_;obtain⟨x1,x2,x3⟩:=G.xT hi;have f1:=w_sub (n:=n+2) (hI.mono (by omega)) (q1o x3) (qj a) (qj _);have f2:=w_add (n:=n+2) (hI.mono (by omega)) (q1o x3) (qj a) (qj _);rw[q1l.q4a];simp only[List.length_map];rw[decide_eq_true (by omega),cond_true,qc hi,qc x1];simp (disch:=omega) only[q3z hi,q4p x1,Option.bind_some,List.getElem?_cons_zero,List.getElem?_cons_succ,q9,qb,qa];rw[f1,f2];simp (disch:=omega) only[Option.bind_some,List.getElem?_cons_zero,List.getElem?_cons_succ,q9,qa];rw[qi (by omega)];unfold q83;rw[List.getElem?_eq_getElem hi,x2];simp only;by_cases c1:ss[i].hour=(h:Int)
    ·rw[show(ss[i].hour==(h:Int))=true by simpa using c1,cond_true];by_cases c2:ss[i].zone=(z:Int)
     ·have cb:ss[i].hour=(h:Int)/\ss[i].zone=(z:Int):=⟨c1,c2⟩;rw[show(ss[i].zone==(z:Int))=true by simpa using c2,cond_true,if_pos cb];cases ss[i].buy <;> rfl
     ·have cb:¬ (ss[i].hour=(h:Int)/\ss[i].zone=(z:Int)):=λq=>c2 q.2;rw[show(ss[i].zone==(z:Int))=false by simpa using c2,cond_false,if_neg cb]
    ·have cb:¬ (ss[i].hour=(h:Int)/\ss[i].zone=(z:Int)):=λq=>c1 q.1;rw[show(ss[i].hour==(h:Int))=false by simpa using c1,cond_false,if_neg cb]) (λi a hi hI=>by
    obtain⟨x1,x2,x3⟩:=G.xT hi;have hx:Bd 1024 (r.xAt i):=by rw[x2];exact q4b x3
    unfold q83;rw[List.getElem?_eq_getElem hi];simp only;split
    ·split
     ·exact(hI.sub hx).mono (by omega)
     ·exact(hI.add hx).mono (by omega)
    ·exact hI.mono (by omega)) (λm'' a hI=>by
    show q1l.l11 (n+3) [m,m'] (m''+1) _=_;rw[q1l.q4a];simp only[List.length_map,List.length_range];rw[decide_eq_false (by omega),cond_false,qc hz];simp (disch:=omega) only[wratR_at hz,Option.bind_some,List.getElem?_cons_zero,List.getElem?_cons_succ,q9,qa];rw[q4d (hI.mono (by omega)) ((hxb z).mono (by omega)) (qj a) (qj _)];simp (disch:=omega) only[Option.bind_some,List.getElem?_cons_zero,qb];rw[cmpQ_ne,qi (by omega)];cases decide (a=expV g.lines r h z) <;> rfl) ss.length 0 (n+3) ((netV bs r.accept h z:Int):Rat) (by omega) (by omega) (by
     refine Bd.int ?_ (by omega);have:(2:Nat)^20=1048576:=rfl
     omega)
   have e11:=e11.1;have e11:q1l.l11 (n+3) [m,m'] (n+3) (gR g (rL r [zb (((netV bs r.accept h z:Int):Rat)).num,wl (((netV bs r.accept h z:Int):Rat)).num,.bool false,wL (((netV bs r.accept h z:Int):Rat)).den,.list 7 (ss.map StpV.fv),.list 8 (bs.map BlkV.fv),.list 4 (r.x.map λt=>qq (rd t)),.list 1 (r.f.map q10),iF (h:Int),.list 4 ((List.range g.qe.toNat).map λz=>qq (expV g.lines r h z)),.list 1 (netL bs r.accept h g.qe.toNat),iF (z:Int),iF 0]))=_:=e11;rw[q1l.q3f,decide_eq_true (by omega),cond_true,show(netL bs r.accept h g.qe.toNat).length=g.qe.toNat by unfold netL;rw[List.length_map,List.length_range],qc hz,Option.bind_some,show at' (netL bs r.accept h g.qe.toNat) z 0=some (iF (netV bs r.accept h z)) from qd0 hz _];simp (disch:=omega) only[Option.bind_some,qb];rw[w_of (by omega) (by omega)];simp (disch:=omega) only[Option.bind_some,List.getElem?_cons_zero,List.getElem?_cons_succ,q9,qa];rw[e11];rfl) (λm'=>by
   show q1l.l7 (n+3) [m] (m'+1) _=_
   rw[q1l.q3f,decide_eq_false (by omega),cond_false,qi (by omega)]) g.qe.toNat 0 (n+3) (by omega) (by omega)
  have e7:q1l.l7 (n+3) [m] (n+3) (gR g (rL r [.list 7 (ss.map StpV.fv),.list 8 (bs.map BlkV.fv),.list 4 (r.x.map λt=>qq (rd t)),.list 1 (r.f.map q10),iF (h:Int),.list 4 ((List.range g.qe.toNat).map λz=>qq (expV g.lines r h z)),.list 1 (netL bs r.accept h g.qe.toNat),iF 0]))=_:=e7;rw[q1l.qv,decide_eq_true (by omega),cond_true,List.length_map,qc i1];simp (disch:=omega) only[qa3 i1,Option.bind_some,q9];rw[hx];simp (disch:=omega) only[Option.bind_some,List.getElem?_cons_zero,q9];rw[hnet];simp (disch:=omega) only[Option.bind_some,List.getElem?_cons_zero,q9];rw[e7]) (λm=>by
  show q1l.l2 (n+3) [] (m+1) _=_
  rw[q1l.qv,decide_eq_false (by omega),cond_false]) g.qg.toNat 0 (n+3) (by omega) (by omega)
 have e2:q1l.l2 (n+3) [] (n+3) (gR g (rL r [.list 7 (ss.map StpV.fv),.list 8 (bs.map BlkV.fv),.list 4 (r.x.map λt=>qq (rd t)),.list 1 (r.f.map q10),iF 0]))=_:=e2;rw[qku,e2];unfold balV;cases(List.range' 0 g.qg.toNat).all λh=>(List.range' 0 g.qe.toNat).all λz=>decide (q4c ss bs r h z=expV g.lines r h z) <;> rfl
theorem qkv{n:Nat}(G:q1b g ss bs r)(hn:1000<=n):evF EnA n 59 [.list 7 (ss.map StpV.fv),.list 4 (r.x.map λt=>qq (rd t)),.list 1 (r.p.map q10)]=some [.bool (q4q ss r)]:=by
 obtain⟨n,rfl⟩:∃k,n=k+4:=⟨n-4,by omega⟩;obtain⟨z1,z2,z3,z4,z5,z6,z7,z8,z9⟩:=q34 (q35 G.sh.ord);obtain⟨o1,o2⟩:=q56 G.sh.ord;have hst:=q82 G.sh.ord
 have e:=q1s (F:=λm i=>q2x.l2 (n+3) [] m [.list 7 (ss.map StpV.fv),.list 4 (r.x.map λt=>qq (rd t)),.list 1 (r.p.map q10),iF (i:Int)]) (len:=ss.length) (P:=q4r ss r) (fin:=some [.bool true]) (stop:=some [.bool false]) (λm i hi=>by
  show q2x.l2 (n+3) [] (m+1) _=_;obtain⟨s1,s2,s3,s4,s5,s6,s7,s8⟩:=hst _ (List.getElem_mem hi);obtain⟨hk,hh⟩:∃k:Nat,ss[i].hour=(k:Int):=⟨ss[i].hour.toNat,by omega⟩;obtain⟨zk,hz⟩:∃k:Nat,ss[i].zone=(k:Int):=⟨ss[i].zone.toNat,by omega⟩;obtain⟨p1,p2,p3,p4⟩:=G.pT (h:=hk) (z:=zk) (by omega) (by omega);obtain⟨x1,x2,x3⟩:=G.xT hi;have f1:=w_of (n:=n+2) (z:=ss[i].qk) (by omega) (by omega);have f2:=q4d (n:=n+2) (q1o p4) (Sz.int (z:=ss[i].qk) (by omega) (by omega)) (qj _) (qj _);have f4:=w_of (n:=n+2) (z:=ss[i].qty) (by omega) (by omega);have f5:=q4d (n:=n+2) (q1o x3) (Sz.int (z:=ss[i].qty) (by omega) (by omega)) (qj _) (qj _);rw[q2x.qv];simp only[List.length_map];rw[decide_eq_true (by omega),cond_true,qc hi];simp (disch:=omega) only[q3z hi,Option.bind_some,List.getElem?_cons_zero,List.getElem?_cons_succ,qb,qa,qn];rw[hh,hz,qc p1];simp (disch:=omega) only[qa3 p1,Option.bind_some,q9];rw[List.length_map,qc p2];simp (disch:=omega) only[q4p p2,Option.bind_some,List.getElem?_cons_zero,List.getElem?_cons_succ,q9,qa];rw[f1];simp (disch:=omega) only[Option.bind_some,List.getElem?_cons_zero,List.getElem?_cons_succ,q9,qa];rw[f2];simp (disch:=omega) only[Option.bind_some,List.getElem?_cons_zero,qb];rw[qc x1];simp (disch:=omega) only[q4p x1,Option.bind_some,List.getElem?_cons_zero,List.getElem?_cons_succ,q9,qa];rw[w_sign,f4];simp (disch:=omega) only[Option.bind_some,List.getElem?_cons_zero,List.getElem?_cons_succ,q9,qb,qa];rw[f5];simp (disch:=omega) only[Option.bind_some,List.getElem?_cons_zero,qb];rw[wneg (cmpQ_bd _ _),neg_lt0,neg_gt0,q4e,q57,q4e,sgn_gt0,qi (by omega)];unfold q4r;rw[List.getElem?_eq_getElem hi];simp only;rw[hh,hz,Int.toNat_natCast,Int.toNat_natCast,p3,x2];cases ss[i].buy <;> cases decide (((ss[i].qk:Int):Rat)<rd r.p[hk][zk]) <;> cases decide (rd r.p[hk][zk]<((ss[i].qk:Int):Rat)) <;> cases decide (0<rd r.x[i]) <;> cases decide (rd r.x[i]<((ss[i].qty:Int):Rat)) <;> rfl) (λm=>by
  show q2x.l2 (n+3) [] (m+1) _=_
  rw[q2x.qv,List.length_map,decide_eq_false (by omega),cond_false]) ss.length 0 (n+3) (by omega) (by omega)
 have e:q2x.l2 (n+3) [] (n+3) [.list 7 (ss.map StpV.fv),.list 4 (r.x.map λt=>qq (rd t)),.list 1 (r.p.map q10),iF 0]=_:=e;rw[qkw,e];unfold q4q;cases(List.range' 0 ss.length).all (q4r ss r) <;> rfl
theorem qkx{n:Nat}(G:q1b g ss bs r)(hn:1000<=n):evF EnA n 60 (gR g [.list 1 (r.f.map q10),.list 1 (r.p.map q10)])=some [.bool (q58 g r)]:=by
 obtain⟨n,rfl⟩:∃k,n=k+4:=⟨n-4,by omega⟩;obtain⟨z1,z2,z3,z4,z5,z6,z7,z8,z9⟩:=q34 (q35 G.sh.ord)
 have e:=q1s (F:=λm i=>q28.l2 (n+3) [] m (gR g [.list 1 (r.f.map q10),.list 1 (r.p.map q10),iF (i:Int)])) (len:=g.qg.toNat) (P:=λh=>(List.range' 0 g.lines.length).all (q6e g.lines r h)) (fin:=some [.bool true]) (stop:=some [.bool false]) (λm h hh=>by
  show q28.l2 (n+3) [] (m+1) _=_
  have e5:=q1s (F:=λm' i=>q28.l5 (n+3) [m] m' (gR g [.list 1 (r.f.map q10),.list 1 (r.p.map q10),iF (h:Int),iF (i:Int)])) (len:=g.lines.length) (P:=q6e g.lines r h) (fin:=q28.l2 (n+3) [] m (gR g [.list 1 (r.f.map q10),.list 1 (r.p.map q10),iF ((h+1:Nat):Int)])) (stop:=some [.bool false]) (λm' i hi=>by
   show q28.l5 (n+3) [m] (m'+1) _=_;have hl:=q91 (z6 _ (List.getElem_mem hi));obtain⟨a,ha⟩:∃k:Nat,g.lines[i].src=(k:Int):=⟨g.lines[i].src.toNat,by omega⟩;obtain⟨b,hb⟩:∃k:Nat,g.lines[i].dst=(k:Int):=⟨g.lines[i].dst.toNat,by omega⟩;obtain⟨p1,p2,p3,p4⟩:=G.pT (h:=h) (z:=a) hh (by omega);obtain⟨_,q2,q3,q4⟩:=G.pT (h:=h) (z:=b) hh (by omega);obtain⟨g1,g2,g3,g4⟩:=G.fT (h:=h) (k:=i) hh hi;have f1:=q4d (n:=n+2) (q1o q4) (q1o p4) (qj _) (qj _);have f2:=w_of (n:=n+2) (z:=-g.lines[i].cap) (by omega) (by omega);have f3:=q4d (n:=n+2) (q1o g4) (Sz.int (z:=-g.lines[i].cap) (by omega) (by omega)) (qj _) (qj _);have f4:=w_of (n:=n+2) (z:=g.lines[i].cap) (by omega) (by omega);have f5:=q4d (n:=n+2) (q1o g4) (Sz.int (z:=g.lines[i].cap) (by omega) (by omega)) (qj _) (qj _);have hw:IntKind.wrap .i64 (0-g.lines[i].cap)=-g.lines[i].cap:=by rw[qm (by omega) (by omega)];omega
   rw[q28.q1t];simp only[List.length_map];rw[decide_eq_true (by omega),cond_true,qc hi];simp (disch:=omega) only[q76 hi,Option.bind_some,List.getElem?_cons_zero,List.getElem?_cons_succ,qb];rw[ha,hb,qc p1];simp (disch:=omega) only[qa3 p1,Option.bind_some,q9];rw[List.length_map,qc q2,qc p2];simp (disch:=omega) only[q4p q2,q4p p2,Option.bind_some,List.getElem?_cons_zero,List.getElem?_cons_succ,q9,qa];rw[f1];simp (disch:=omega) only[Option.bind_some,List.getElem?_cons_zero,qb];rw[qc g1];simp (disch:=omega) only[qa3 g1,Option.bind_some,q9];rw[List.length_map,qc g2];simp (disch:=omega) only[q4p g2,Option.bind_some,List.getElem?_cons_zero,List.getElem?_cons_succ,q9,qa];rw[hw,f2,f4];simp (disch:=omega) only[Option.bind_some,List.getElem?_cons_zero,List.getElem?_cons_succ,q9,qa];rw[f3,f5];simp (disch:=omega) only[Option.bind_some,List.getElem?_cons_zero,qb];rw[q57,q4e,q4e,q57,qi (by omega)];unfold q6e;rw[List.getElem?_eq_getElem hi];simp only;rw[ha,hb,Int.toNat_natCast,Int.toNat_natCast,p3,q3,g3];cases decide (rd r.p[h][b]<rd r.p[h][a]) <;> cases decide (rd r.p[h][a]<rd r.p[h][b]) <;> cases decide (((-g.lines[i].cap:Int):Rat)<rd r.f[h][i]) <;> cases decide (rd r.f[h][i]<((g.lines[i].cap:Int):Rat)) <;> rfl) (λm'=>by
   show q28.l5 (n+3) [m] (m'+1) _=_
   rw[q28.q1t,List.length_map,decide_eq_false (by omega),cond_false,qi (by omega)]) g.lines.length 0 (n+3) (by omega) (by omega)
  have e5:q28.l5 (n+3) [m] (n+3) (gR g [.list 1 (r.f.map q10),.list 1 (r.p.map q10),iF (h:Int),iF 0])=_:=e5;rw[q28.qv,decide_eq_true (by omega),cond_true,e5]) (λm=>by
  show q28.l2 (n+3) [] (m+1) _=_
  rw[q28.qv,decide_eq_false (by omega),cond_false]) g.qg.toNat 0 (n+3) (by omega) (by omega)
 have e:q28.l2 (n+3) [] (n+3) (gR g [.list 1 (r.f.map q10),.list 1 (r.p.map q10),iF 0])=_:=e;rw[qky,e];unfold q58;cases(List.range' 0 g.qg.toNat).all λh=>(List.range' 0 g.lines.length).all (q6e g.lines r h) <;> rfl
end
end Rf
end
section
/- The document's check, piece by piece: welfare. -/
set_option maxHeartbeats 4000000
namespace Rf
open Go
section
variable {g:q1g} {ss:List StpV} {bs:List BlkV} {r:ResV}
theorem qjs{n:Nat}{b:Bool}{p:Int}(h:-100000<=p/\p<=100000):evF EnA (n+1) 124 [.bool b,iF p]=some [iF (q21 b p)]:=by
 rw[qpp];cases b
 ·rw[cond_false,qm (by omega) (by omega)];show some [iF (0-p)]=some [iF (-p)];rw[Int.zero_sub]
 ·rfl
noncomputable def vS(ss:List StpV)(r:ResV)(n:Rat)(i:Nat):Rat:=match ss[i]? with
 |some s=>n+r.xAt i*((q21 s.buy s.qk:Int):Rat)
 |none=>n
noncomputable def vB(bs:List BlkV)(ac:List Bool)(n:Rat)(i:Nat):Rat:=match bs[i]?,ac[i]? with
 |some b,some true=>b.qty.foldl (λ(n:Rat) (q:Int)=>n+(q:Rat)*((q21 b.buy b.qk:Int):Rat)) n
 |_,_=>n
theorem qmi{n:Nat}(G:q1b g ss bs r)(hn:2000<=n):evF EnA n 62 [.list 7 (ss.map StpV.fv),.list 1 (r.x.map sF),.list 8 (bs.map BlkV.fv),.list 1 (r.accept.map .bool)]=some [sF (qz (welV ss bs r))]:=by
 obtain⟨n,rfl⟩:∃k,n=k+4:=⟨n-4,by omega⟩;obtain⟨z1,z2,z3,z4,z5,z6,z7,z8,z9⟩:=q34 (q35 G.sh.ord);obtain⟨o1,o2⟩:=q56 G.sh.ord;have hst:=q82 G.sh.ord;have hbl:=qa2 G.sh.ord;have la:=G.sh.ac;have lx:=G.sh.x;have bdw:∀ {buy:Bool} {p:Int},(-100000<=p/\p<=100000)->Bd 17 ((q21 buy p:Int):Rat):=fun {buy p} hp=>by
  have:=q9y (buy:=buy) hp;refine Bd.int ?_ (by omega);have:(2:Nat)^17=131072:=rfl;omega
 have bdq:∀ {q:Int},(0<=q/\q<=1000)->Bd 17 (q:Rat):=fun {q} hq=>by
  refine Bd.int ?_ (by omega);have:(2:Nat)^17=131072:=rfl;omega
 have hmin:min r.accept.length bs.length=bs.length:=by omega
 have gen:∀(b:BlkV) (l:List Int) (s:Rat) (k:Nat),(-100000<=b.qk/\b.qk<=100000)->(∀q,q∈l->0<=q/\q<=1000)->Bd k s->Bd (k+36*l.length) (l.foldl (λ(n:Rat) (q:Int)=>n+(q:Rat)*((q21 b.buy b.qk:Int):Rat)) s):=by
  intro b l
  induction l with
  |nil=>intro s k _ _ h;exact h.mono (by simp)
  |cons q l ih =>
   intro s k hp hl h;rw[List.foldl_cons];refine(ih _ (k+36) hp (λq hq=>hl q (List.mem_cons_of_mem _ hq)) ((h.add ((bdq (hl q List.mem_cons_self)).mul (bdw (buy:=b.buy) hp))).mono (by omega))).mono ?_;simp only[List.length_cons];omega
 have e10:=q55 (F:=λm i (s:Rat)=>q1m.l10 (n+3) [] m [zb (s).num,wl (s).num,.bool false,wL (s).den,.list 8 (bs.map BlkV.fv),.list 1 (r.accept.map .bool),iF (i:Int)]) (len:=bs.length) (g:=λi s=>vB bs r.accept s i) (fin:=λs=>some [sF (qz s)]) (I:=λi s=>Bd (40000+36*3*i) s) (λm i s hi hI=>by
  show q1m.l10 (n+3) [] (m+1) _=_;have hi2:i<r.accept.length:=by omega
  obtain⟨b1,b2,b3,b4,b5,b6⟩:=hbl _ (List.getElem_mem hi);rw[q1m.q4s,List.length_map,List.length_map,decide_eq_true (by omega),cond_true,decide_eq_true (by omega),cond_true];cases hac:r.accept[i]with
  |false =>
   rw[q1m.q6r (n+3) (n+2),List.length_map,List.length_map,qc hi,qc hi2];simp (disch:=omega) only[q2j hi,q81 hi2,Option.bind_some,List.getElem?_cons_zero,List.getElem?_cons_succ,q9,qb,qa];rw[hac,qi (by omega)];unfold vB;rw[List.getElem?_eq_getElem hi,List.getElem?_eq_getElem hi2,hac];simp only[cond_false];cases decide ((0:Int)<((bs[i].qty.map iF).length:Int)) <;> rfl
  |true =>
   have e13:=q55 (F:=λm' k (s:Rat)=>q1m.l13 (n+3) [m] m' [zb (s).num,wl (s).num,.bool false,wL (s).den,.list 8 (bs.map BlkV.fv),.list 1 (r.accept.map .bool),iF (i:Int),iF (k:Int)]) (len:=bs[i].qty.length) (g:=λk s=>s+((bs[i].qty.getD k 0:Int):Rat)*((q21 bs[i].buy bs[i].qk:Int):Rat)) (fin:=λs=>q1m.l10 (n+3) [] m [zb (s).num,wl (s).num,.bool false,wL (s).den,.list 8 (bs.map BlkV.fv),.list 1 (r.accept.map .bool),iF ((i+1:Nat):Int)]) (I:=λk s=>Bd (40000+36*3*i+36*k) s) (λm' k s hk hI=>by
    show q1m.l13 (n+3) [m] (m'+1) _=_;have hq:=b6 _ (List.getElem_mem hk);have hwb:=q9y (buy:=bs[i].buy) (p:=bs[i].qk) (by omega);have f0:=qjs (n:=n+2) (b:=bs[i].buy) (p:=bs[i].qk) (by omega);have f1:=w_of (n:=n+2) (z:=bs[i].qty[k]) (by omega) (by omega);have f2:=w_of (n:=n+2) (z:=q21 bs[i].buy bs[i].qk) (by omega) (by omega);have f3:=w_mul (n:=n+2) (Sz.int (z:=bs[i].qty[k]) (by omega) (by omega)) (Sz.int (z:=q21 bs[i].buy bs[i].qk) (by omega) (by omega)) (qj _) (qj _);have f4:=w_add (n:=n+2) (hI.mono (by omega)) (((bdq hq).mul (bdw (buy:=bs[i].buy) (p:=bs[i].qk) (by omega))).mono (by omega)) (qj s) (qj _);rw[q1m.q6r,List.length_map,List.length_map,qc hi,qc hi2];simp (disch:=omega) only[q2j hi,q81 hi2,Option.bind_some,List.getElem?_cons_zero,List.getElem?_cons_succ,q9,qb,qa];rw[hac,List.length_map,decide_eq_true (by omega),cond_true,cond_true,qc hk];simp (disch:=omega) only[q6c hk,Option.bind_some,qb];rw[f1];simp (disch:=omega) only[Option.bind_some,List.getElem?_cons_zero,List.getElem?_cons_succ,q9,qa];rw[f0];simp (disch:=omega) only[Option.bind_some,List.getElem?_cons_zero,qb];rw[f2];simp (disch:=omega) only[Option.bind_some,List.getElem?_cons_zero,List.getElem?_cons_succ,q9,qa];rw[f3];simp (disch:=omega) only[Option.bind_some,List.getElem?_cons_zero,List.getElem?_cons_succ,q9,qa];rw[f4];simp (disch:=omega) only[Option.bind_some,List.getElem?_cons_zero,List.getElem?_cons_succ,q9,qa];rw[qi (by omega),getD_at _ _ hk]) (λk s hk hI=>by
    have hq:=b6 _ (List.getElem_mem hk);rw[getD_at _ _ hk];exact(hI.add ((bdq hq).mul (bdw (buy:=bs[i].buy) (p:=bs[i].qk) (by omega)))).mono (by omega)) (λm' s hI=>by
    show q1m.l13 (n+3) [m] (m'+1) _=_;rw[q1m.q6r,List.length_map,List.length_map,qc hi];simp (disch:=omega) only[q2j hi,Option.bind_some,List.getElem?_cons_zero,List.getElem?_cons_succ,q9,qb,qa]
    rw[List.length_map,decide_eq_false (by omega),cond_false,qi (by omega)]) bs[i].qty.length 0 (n+3) s (by omega) (by omega) hI
   have e13:=e13.1;have e13:q1m.l13 (n+3) [m] (n+3) [zb (s).num,wl (s).num,.bool false,wL (s).den,.list 8 (bs.map BlkV.fv),.list 1 (r.accept.map .bool),iF (i:Int),iF 0]=_:=e13;have ef:(List.range' 0 bs[i].qty.length).foldl (λs j=>s+((bs[i].qty.getD j 0:Int):Rat)*((q21 bs[i].buy bs[i].qk:Int):Rat)) s=bs[i].qty.foldl (λ(n:Rat) (q:Int)=>n+(q:Rat)*((q21 bs[i].buy bs[i].qk:Int):Rat)) s:=qfj (λ(n:Rat) (q:Int)=>n+(q:Rat)*((q21 bs[i].buy bs[i].qk:Int):Rat)) 0 bs[i].qty 0 s;rw[ef]at e13;rw[e13];unfold vB;rw[List.getElem?_eq_getElem hi,List.getElem?_eq_getElem hi2,hac]) (λi s hi hI=>by
  have hi2:i<r.accept.length:=by omega
  obtain⟨b1,b2,b3,b4,b5,b6⟩:=hbl _ (List.getElem_mem hi);unfold vB;rw[List.getElem?_eq_getElem hi,List.getElem?_eq_getElem hi2];cases r.accept[i]with
  |false=>exact hI.mono (by omega)
  |true=>exact(gen bs[i] bs[i].qty s _ (by omega) b6 hI).mono (by omega)) (λm s hI=>by
  show q1m.l10 (n+3) [] (m+1) _=_;rw[q1m.q4s,List.length_map,decide_eq_false (by omega),cond_false,w_text (hI.mono (by omega)) (qj s)]
  rfl)
 have e6:=q55 (F:=λm i (s:Rat)=>q1m.l6 (n+3) [] m [zb (s).num,wl (s).num,.bool false,wL (s).den,.list 7 (ss.map StpV.fv),.list 8 (bs.map BlkV.fv),.list 1 (r.accept.map .bool),.list 4 (r.x.map λt=>qq (rd t)),iF (i:Int)]) (len:=ss.length) (g:=λi s=>vS ss r s i) (fin:=λs=>q1m.l10 (n+3) [] (n+3) [zb (s).num,wl (s).num,.bool false,wL (s).den,.list 8 (bs.map BlkV.fv),.list 1 (r.accept.map .bool),iF 0]) (I:=λi s=>Bd (1+1100*i) s) (λm i s hi hI=>by
  show q1m.l6 (n+3) [] (m+1) _=_;have hk:=hst _ (List.getElem_mem hi);obtain⟨x1,x2,x3⟩:=G.xT hi;have hwb:=q9y (buy:=ss[i].buy) (p:=ss[i].qk) (by omega);have f0:=qjs (n:=n+2) (b:=ss[i].buy) (p:=ss[i].qk) (by omega);have f2:=w_of (n:=n+2) (z:=q21 ss[i].buy ss[i].qk) (by omega) (by omega);have f3:=w_mul (n:=n+2) (q1o x3) (Sz.int (z:=q21 ss[i].buy ss[i].qk) (by omega) (by omega)) (qj _) (qj _);have f4:=w_add (n:=n+2) (hI.mono (by omega)) (((q4b x3).mul (bdw (buy:=ss[i].buy) (p:=ss[i].qk) (by omega))).mono (by omega)) (qj s) (qj _);rw[q1m.q2m];simp only[List.length_map];rw[decide_eq_true (by omega),cond_true,qc hi,qc x1];simp (disch:=omega) only[q3z hi,q4p x1,Option.bind_some,List.getElem?_cons_zero,List.getElem?_cons_succ,q9,qb,qa];rw[f0];simp (disch:=omega) only[Option.bind_some,List.getElem?_cons_zero,qb];rw[f2];simp (disch:=omega) only[Option.bind_some,List.getElem?_cons_zero,List.getElem?_cons_succ,q9,qa];rw[f3];simp (disch:=omega) only[Option.bind_some,List.getElem?_cons_zero,List.getElem?_cons_succ,q9,qa];rw[f4];simp (disch:=omega) only[Option.bind_some,List.getElem?_cons_zero,List.getElem?_cons_succ,q9,qa];rw[qi (by omega)];unfold vS;rw[List.getElem?_eq_getElem hi,x2]) (λi s hi hI=>by
  have hk:=hst _ (List.getElem_mem hi);obtain⟨x1,x2,x3⟩:=G.xT hi;unfold vS;rw[List.getElem?_eq_getElem hi];exact(hI.add ((show Bd 1024 (r.xAt i) by rw[x2];exact q4b x3).mul (bdw (buy:=ss[i].buy) (p:=ss[i].qk) (by omega)))).mono (by omega)) (λm s hI=>by
  show q1m.l6 (n+3) [] (m+1) _=_;rw[q1m.q2m];simp only[List.length_map]
  rw[decide_eq_false (by omega),cond_false])
 obtain⟨q1,q2⟩:=e6 ss.length 0 (n+3) 0 (by omega) (by omega) (q75.mono (by omega));obtain⟨q3,q4⟩:=e10 bs.length 0 (n+3) _ (by omega) (by omega) (q2.mono (by omega));have hw:(List.range' 0 bs.length).foldl (λs j=>vB bs r.accept s j) ((List.range' 0 ss.length).foldl (λs j=>vS ss r s j) 0)=welV ss bs r:=by
  unfold welV welB welS;rw[hmin];rfl
 have hall:r.x.all isNum=true:=List.all_eq_true.2 G.num.1;have q1:q1m.l6 (n+3) [] (n+3) [zb (((0:Int):Rat)).num,wl (((0:Int):Rat)).num,.bool false,wL (((0:Int):Rat)).den,.list 7 (ss.map StpV.fv),.list 8 (bs.map BlkV.fv),.list 1 (r.accept.map .bool),.list 4 (r.x.map λt=>qq (rd t)),iF 0]=_:=q1;rw[qpo,qd2 ⟨G.sm.xl,G.sm.x⟩ (by omega),if_pos hall];simp (disch:=omega) only[Option.bind_some,List.getElem?_cons_zero,List.getElem?_cons_succ,q9,qb];rw[show((0:Int) !=0)=false from rfl,cond_false];simp only[List.length_map];rw[nne,decide_eq_true lx,Bool.not_true,cond_false,w_of (by omega) (by omega)];simp (disch:=omega) only[Option.bind_some,List.getElem?_cons_zero,List.getElem?_cons_succ,q9,qa];rw[q1];refine q3.trans ?_;rw[hw]
end
end Rf
end
