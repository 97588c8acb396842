/- Merged: Pst2 Hv20 Non1. -/
import Derived.Test.YtcpnpoagpnkblaaGreatDoorNNF
import Derived.Test.YtcpnpoagpnkblaaGreatDoorNMY
import Derived.Test.YtcpnpoagpnkblaaGreatDoorNNE
set_option linter.unusedVariables false
set_option linter.unusedSimpArgs false
set_option maxHeartbeats 4000000
namespace Rf
open Go
section
theorem dtext_1{k:Nat}(hk:k<10):qk k=[chD k]:=by
 unfold qk;by_cases h:k=0
 ·subst h;rw[if_pos rfl];rfl
 ·rw[if_neg h,q3c (by omega) h,AL hk,CS hk,q17];rfl
theorem dig_ext{k:Nat}(hk:k<10):({ data:=#[48,49,50,51,52,53,54,55,56,57] }:ByteArray).extract k (k+1)=txt (qk k):=by
 rw[dtext_1 hk];have h:k=0\/k=1\/k=2\/k=3\/k=4\/k=5\/k=6\/k=7\/k=8\/k=9:=by omega
 rcases h with rfl | rfl | rfl | rfl | rfl | rfl | rfl | rfl | rfl | rfl <;> decide
section
variable {g:q11} {ss:List StpV} {bs:List BlkV} {r:ResV} {n:Nat}
theorem qku{K i:Nat}{S c:Int}(hK2:K+100<=1000000000)(hK:1<=K)(hi:i<=900)(hs:S.natAbs<=i*2^K)(hc:c.natAbs<2^K) :
  evF EnD (n+1) 37 [zb ((S:Rat)).num,wl ((S:Rat)).num,.bool false,wL ((S:Rat)).den,zb ((c:Rat)).num,wl ((c:Rat)).num,.bool false,wL ((c:Rat)).den]=some [zb (((S+c:Int):Rat)).num,wl (((S+c:Int):Rat)).num,.bool false,wL (((S+c:Int):Rat)).den]/\(S+c).natAbs<=(i+1)*2^K:=by
 refine⟨?_,(step_bd hs hc).2⟩;have hs2:S.natAbs<2^(K+20):=BI hs (qdz);rw[qao ((Bd.int (k:=K+20) hs2 (by omega)).mono) ((Bd.int (k:=K) hc hK).mono) (qc _) (qc _),DB]
theorem qsm(hS:Sq ss bs r)(hs:q3v g ss bs r)(hr:q24 r=true)(hl:g.lq.length<=9){K:Nat}(hK:80000002<=K)(hK2:K+100<=1000000000)(hn:1000<=n):∀(c k m i:Nat) (s:Int) (E:List FV),k+c=g.lq.length->c<m->i+c<=800->s.natAbs<=i*2^K->E.length+c<=100000 ->
  q40.l18 (n+9) [] m (gR g (rL r [zb ((s:Rat)).num,wl ((s:Rat)).num,.bool false,wL ((s:Rat)).den,.list 2 E,iF k])) =
   some [.list 2 (E++(List.range' k c).map (entR g r)++[entF qac (qu (-(s+sumZ ((List.range' k c).map (cR g r)))))]),iF 0]:=by
 intro c
 induction c with
 |zero =>
  intro k m i s E hk hm hi hsb hE;obtain⟨m,rfl⟩:=qSx m;obtain rfl:k=g.lq.length:=by omega
  have hs2:s.natAbs<2^(K+20):=BI hsb (qdz);have bsR:Bd (K+20) (s:Rat):=Bd.int (k:=K+20) hs2 (by omega);rw[q40.q7n,Aa,Ad,Ab,x_neg (qc _)];simp only[rr];rw[qbf (bsR.neg.mono) (qc _)];simp (disch:=omega) only[el1,rr];rw[q33 (by rw[By];omega),Ac,show s+sumZ ((List.range' g.lq.length 0).map (cR g r))=s from by show s+0=s;omega,<- qbe,EI];show _=some [FV.list 2 (E++[]++_),_];rw[AN];rfl
 |succ c ih =>
  intro k m i s E hk hm hi hsb hE;obtain⟨m,rfl⟩:=qSx m;have hkl:k<g.lq.length:=by omega
  have hb:=cR_bd hS hs hr hkl;have ec:cR g r k=q2b (q49 r g.lq[k] k):=by unfold cR;rw[q6y hkl]
  have hc:(cR g r k).natAbs<2^K:=by rw[ec];exact AR (qgt (hb.mono (show 80000000<=K-2 by omega))) (AW (by omega) (by omega))
  have h35:=wRent_run (n:=n+5) (g:=g) hS (by omega) (k:Int);rw[BZ (by omega),show((k:Int)).toNat=k from rfl,q6y hkl,qgu hs hr hkl,Ac]at h35;obtain⟨p1,p2⟩:=qku (n:=n+8) hK2 (by omega) (by omega:i<=900) hsb hc;have hdl:(qk k).length=1:=by rw[dtext_1 (by omega)];rfl
  rw[q40.q7n,Aa,Af,Ac];rw[show evF EnD (n+9) 35 _=_ from h35];simp only[rr];rw[qkv (n:=n+8) (qfo (q49 r g.lq[k] k)) (by have:=len3 (m:=26666667) (hb.mono);omega)];simp only[rr];rw[x_round (n:=n+8) (hb.mono) (qc _),<- ec];simp only[rr];rw[x_of (n:=n+8) (z:=1)];simp only[rr];rw[show evF EnD (n+9) 43 _=_ from x_den1 (n:=n+8)];simp only[rr];rw[show evF EnD (n+9) 79 _=_ from x_make1 (n:=n+8) (K:=K) (z:=cR g r k) (by omega) (by omega) hc];simp only[rr];rw[show evF EnD (n+9) 37 _=_ from p1];simp only[rr];rw[qd (by omega),q1s (show k+1<=10 by omega),Ae,q1s (show k<=k+1 by omega),Ae,dig_ext (by omega),q1g,hdl,Ad,Ab];rw[show evF EnD (n+9) 25 _=_ from x_ntext (n:=n+8) (K:=K) (z:=cR g r k) (by omega) hc];simp (disch:=omega) only[el1,rr];rw[show({ data:=#[108,105,110,101,45] }:ByteArray)=txt qab from rfl,q5d,q33 (by rw[By];omega),Ac];have e:=ih (k+1) m (i+1) (s+cR g r k) (E++[entR g r k]) (by omega) (by omega) (by omega) p2 (by rw[AZ,By];omega);refine BQ ?_ (e.trans ?_)
  ·rfl
  ·rw[BS,AS,AS,show sumZ (cR g r k::(List.range' (k+1) c).map (cR g r))=cR g r k+sumZ ((List.range' (k+1) c).map (cR g r)) from rfl,Ap E,show s+cR g r k+sumZ ((List.range' (k+1) c).map (cR g r))=s+(cR g r k+sumZ ((List.range' (k+1) c).map (cR g r))) from by omega];rfl
theorem qsn(hS:Sq ss bs r)(hs:q3v g ss bs r)(hr:q24 r=true)(hl:g.lq.length<=9){N:List Txt}(hN:N.length<=600)(hNb:∀t,t∈N->t.length<=140737488351232){K:Nat}(hK:80000002<=K)(hK2:K+100<=1000000000)(hn:1000<=n):∀(c i m:Nat) (s:Int) (E:List FV),i+c=N.length->c<m->s.natAbs<=i*2^K->E.length<=i ->
  q40.l7 (n+9) [] m (gR g (rL r [zb ((s:Rat)).num,wl ((s:Rat)).num,.bool false,wL ((s:Rat)).den,.list 7 (ss.map StpV.fv),.list 8 (bs.map BlkV.fv),.list 1 (N.map sF),.list 2 E,iF i])) =
   some (bif(N.drop i).all (λt=>q2t (txt t))then [.list 2 (E++(N.drop i).map (entW ss bs r)++(List.range' 0 g.lq.length).map (entR g r)++[entF qac (qu (-(s+sumZ ((N.drop i).map (cW ss bs r))+sumZ ((List.range' 0 g.lq.length).map (cR g r)))))]),iF 0]else [.list 2 [],iF 1]):=by
 intro c
 induction c with
 |zero =>
  intro i m s E hi hm hsb hE;obtain⟨m,rfl⟩:=qSx m;obtain rfl:i=N.length:=by omega
  have h:=qsm hS hs hr hl hK hK2 hn g.lq.length 0 (n+9) N.length s E (by omega) (by omega) (by omega) hsb (by omega);rw[q40.q3a,Aa,Ad,Ab,Eh];refine h.trans ?_;rw[show([]:List Txt).all (λt=>q2t (txt t))=true from rfl,Ac,BG,AN,show s+sumZ (([]:List Txt).map (cW ss bs r))=s from by show s+0=s;omega]
 |succ c ih =>
  intro i m s E hi hm hsb hE;obtain⟨m,rfl⟩:=qSx m;have hil:i<N.length:=by omega
  have hb:=hNb _ (Ah hil);obtain⟨_,h97⟩:=name_at (n:=n+8) true (txt N[i]) (by rw[q1g];omega);rw[q40.q3a,Aa,Af,Ac,q9 hil];simp only[q78 hil,rr];rw[h97];simp only[rr];rw[Bc hil,Bk];cases hnv:q2t (txt N[i])with
  |false=>rfl
  |true =>
   have hb2:=cW_bd hS hs hr N[i];have hc:(cW ss bs r N[i]).natAbs<2^K:=AR (qgt (hb2.mono (show 80000000<=K-2 by omega))) (AW (by omega) (by omega));have h33:=qsh (n:=n+5) (who:=txt N[i]) hS (by omega);rw[okA_of hs hr,Ac]at h33;obtain⟨p1,p2⟩:=qku (n:=n+8) hK2 (by omega) (by omega:i<=900) hsb hc;rw[Ao,Ab,AA];rw[show evF EnD (n+9) 33 _=_ from h33];simp only[rr];rw[qkv (n:=n+8) (qfo (amtV ss bs r (txt N[i]))) (by have:=len3 (m:=26666667) (hb2.mono);omega)];simp only[rr];rw[x_round (n:=n+8) (hb2.mono) (qc _),show q2b (amtV ss bs r (txt N[i]))=cW ss bs r N[i] from rfl];simp only[rr];rw[x_of (n:=n+8) (z:=1)];simp only[rr];rw[show evF EnD (n+9) 43 _=_ from x_den1 (n:=n+8)];simp only[rr];rw[show evF EnD (n+9) 79 _=_ from x_make1 (n:=n+8) (K:=K) (z:=cW ss bs r N[i]) (by omega) (by omega) hc];simp only[rr];rw[show evF EnD (n+9) 37 _=_ from p1];simp only[rr];rw[q1g,Ad,Ab];rw[show evF EnD (n+9) 25 _=_ from x_ntext (n:=n+8) (K:=K) (z:=cW ss bs r N[i]) (by omega) hc];simp (disch:=omega) only[el1,rr];rw[show({ data:=#[119,104,111,45] }:ByteArray)=txt whoT from rfl,q5d,q33 (by rw[By];omega),Ac,qd (by omega)];have e:=ih (i+1) m (s+cW ss bs r N[i]) (E++[entW ss bs r N[i]]) (by omega) (by omega) p2 (by rw[AZ,By];omega);refine BQ ?_ (e.trans ?_)
   ·rfl
   ·rw[AS,AS,show sumZ (cW ss bs r N[i]::(N.drop (i+1)).map (cW ss bs r))=cW ss bs r N[i]+sumZ ((N.drop (i+1)).map (cW ss bs r)) from rfl,Ap E,show s+cW ss bs r N[i]+sumZ ((N.drop (i+1)).map (cW ss bs r))=s+(cW ss bs r N[i]+sumZ ((N.drop (i+1)).map (cW ss bs r))) from by omega];rfl
theorem qjd(hS:Sq ss bs r)(hws:∀s,s∈ss->s.who.size<=140737488351232)(hwb:∀b,b∈bs->b.who.size<=140737488351232):(∀t,t∈q1y ss bs->t.length<=140737488351232)/\(q1y ss bs).length<=600:=by
 constructor
 ·intro t ht;rw[qgc]at ht;unfold whoL at ht;rcases BD.1 ht with q | q
  ·obtain⟨s,hs1,rfl⟩:=Bp.1 q;rw[Bz];exact hws s hs1
  ·obtain⟨s,hs1,rfl⟩:=Bp.1 q;rw[Bz];exact hwb s hs1
 ·have h1:=qkw (sortL (whoL ss bs));have h2:(sortL (whoL ss bs)).length=(whoL ss bs).length:=(Fb _ _).length_eq;have h3:(whoL ss bs).length=ss.length+bs.length:=by unfold whoL;simp only[AZ,Aa]
  have:=hS.ssl;have:=hS.bsl;show(Lib.compact (sortL (whoL ss bs))).length<=600;omega
theorem qpo(h:Sm g ss bs r)(hS:Sq ss bs r)(hws:∀s,s∈ss->s.who.size<=140737488351232)(hwb:∀b,b∈bs->b.who.size<=140737488351232)(hn:300000<=n) :
  evF EnD (n+10) 27 (gR g (.list 7 (ss.map StpV.fv)::.list 8 (bs.map BlkV.fv)::rL r []))=some (qad g ss bs r):=by
 have h17:evF EnD (n+9) 17 (gR g (.list 7 (ss.map StpV.fv)::.list 8 (bs.map BlkV.fv)::rL r []))=some [iF (chkV g ss bs r)]:=by
  have:evF EnD (n+9) 17 (gR g (.list 7 (ss.map StpV.fv)::.list 8 (bs.map BlkV.fv)::rL r []))=limO EnB 17 (gR g (.list 7 (ss.map StpV.fv)::.list 8 (bs.map BlkV.fv)::rL r [])):=by kernel_rfl
  rw[this];refine q1l ⟨101,λn hn=>?_⟩;obtain⟨k,rfl⟩:∃k,n=k+101:=⟨n-101,by omega⟩;exact qp0 h
 rw[qr6,h17];simp only[rr];unfold qad;by_cases hc:chkV g ss bs r=0
 ·obtain⟨hs,hr⟩:=qfp hc;obtain⟨K,hK,hK2⟩:∃K,80000002<=K/\K+100<=1000000000:=⟨80000002,by omega,by omega⟩;have hl:g.lq.length<=9:=by
   obtain⟨o1,_⟩:=qbg hs.ord;unfold q39 at o1;simp only[Ai,At]at o1;omega
  obtain⟨hm,hlen⟩:=qjd hS hws hwb;rw[hc,show((0:Int) !=0)=false from rfl,Ab,Af rfl,AA,qjc (n:=n+8) hS.ssl hS.bsl (by omega)];simp only[rr];rw[x_of (n:=n+8) (z:=0)];simp (disch:=omega) only[el0,rr];have e2:=qsn hS hs hr hl hlen hm hK hK2 (by omega:1000<=n) (q1y ss bs).length 0 (n+9) 0 [] (by omega) (by omega) (by simp) (by simp);refine e2.trans ?_;unfold q9j totV;rw[Au,As,show(0:Int)+sumZ ((q1y ss bs).map (cW ss bs r))+sumZ ((List.range' 0 g.lq.length).map (cR g r))=sumZ ((q1y ss bs).map (cW ss bs r))+sumZ ((List.range' 0 g.lq.length).map (cR g r)) from by omega]
 ·rw[show(chkV g ss bs r !=0)=true from by simpa using hc,Ac,Ad hc];rfl
end
end
section
section
variable {g:q11} {ss:List StpV} {bs:List BlkV} {r:ResV} {n:Nat}
end
end
section
def zT:Txt:=[48]
def priN(lo hi:Int)(p:List Int)(z:Nat):Int:=match p[z]? with
 |some a=>if lo<(if a<hi then a else hi)then(if a<hi then a else hi)else lo
 |none=>lo
def priR(lo hi:Int)(p:List Int)(n:Nat):List Txt:=(List.range' 0 n).map λz=>qu (priN lo hi p z)
def noneR(g:q11)(ss:List StpV)(p:List Int):ResV :=
 ⟨[],List.replicate ss.length zT,List.replicate (min g.qe.toNat 3) (List.replicate (min g.lq.length 3) zT),List.replicate (min g.qe.toNat 3) (priR g.low g.high p (min g.qa.toNat 3)),zT,zT,true,0⟩
theorem zt_zero:qu 0=zT:=rfl
theorem rd_zT:rd zT=0:=by
 have:zT=qy ((0:Int):Rat):=by rw[qbe];rfl
 rw[this];unfold rd;rw[qfo];rfl
theorem round_zero:q2b 0=0:=by decide +kernel
theorem getD_rep{α:Type}(n i:Nat)(a z:α):(List.replicate n a).getD i z=if i<n then a else z:=by
 rw[AD,List.getElem?_replicate];split <;> rfl
theorem sumI_nil{f:Nat->Rat}:∀(c i:Nat),(∀j,i<=j->j<i+c->f j=0)->sumI f i c=0
 |0,_,_=>rfl
 |c+1,i,h=>by
  show f i+sumI f (i+1) c=0;rw[h i (by omega) (by omega),sumI_nil c (i+1) λj a b=>h j (by omega) (by omega)]
  grind
section
variable {g:q11} {ss:List StpV} {p:List Int} {n:Nat}
theorem none_amt(who:ByteArray):amtV ss [] (noneR g ss p) who=0:=by
 unfold amtV;rw[sumI_nil ss.length 0 λi _ hi=>?_]
 ·show(0:Rat)+0=0
  grind
 ·have hi:i<ss.length:=by omega
  unfold valS;rw[Ag hi];simp only;split
  ·have e:(noneR g ss p).xAt i=0:=by
    show rd ((List.replicate ss.length zT).getD i [])=0;rw[getD_rep,if_pos hi,rd_zT]
   rw[e,Rat.zero_mul];cases ss[i].buy <;> rfl
  ·rfl
theorem none_rent{l:qw}{k:Nat}(hk:k<min g.lq.length 3):q49 (noneR g ss p) l k=0:=by
 unfold q49;refine sumI_nil _ _ λh _ hh=>?_;have hh':h<min g.qe.toNat 3:=by
  have:(noneR g ss p).f.length=min g.qe.toNat 3:=BJ ..;omega
 unfold valR;have e:(noneR g ss p).fAt h k=0:=by
  show rd (((List.replicate (min g.qe.toNat 3) (List.replicate (min g.lq.length 3) zT)).getD h []).getD k [])=0;rw[getD_rep,if_pos hh',getD_rep,if_pos hk,rd_zT]
 rw[e,Rat.zero_mul]
theorem sumZ_zero:∀ {l:List Int},(∀z,z∈l->z=0)->sumZ l=0
 |[],_=>rfl
 |z::l,h=>by
  show z+sumZ l=0;rw[h z (AJ ..),sumZ_zero λy hy=>h y (AC _ hy)];rfl
theorem none_posts(hl:g.lq.length<=3):∀e,e∈q9j g ss [] (noneR g ss p)->∃a,e=entF a zT:=by
 have c1:∀t,cW ss [] (noneR g ss p) t=0:=λt=>by
  unfold cW;rw[none_amt,round_zero]
 have c2:∀k,k<g.lq.length->cR g (noneR g ss p) k=0:=λk hk=>by
  unfold cR;rw[none_rent (by omega),round_zero]
 have ht:totV g ss [] (noneR g ss p)=0:=by
  unfold totV
  rw[sumZ_zero λz hz=>by obtain⟨t,_,rfl⟩:=Bp.1 hz;exact c1 t,sumZ_zero λz hz=>by
   obtain⟨k,hk,rfl⟩:=Bp.1 hz;rw[Cg]at hk
   exact c2 k (by omega)]
  rfl
 intro e he;unfold q9j at he;rcases BD.1 he with q | q
 ·rcases BD.1 q with q | q
  ·obtain⟨t,_,rfl⟩:=Bp.1 q;exact⟨whoT++t,by unfold entW;rw[c1,zt_zero]⟩
  ·obtain⟨k,hk,rfl⟩:=Bp.1 q;rw[Cg]at hk;exact⟨qab++qk k,by unfold entR;rw[c2 k (by omega),zt_zero]⟩
 ·rw[BK.1 q,ht];exact⟨qac,rfl⟩
theorem pri_bd{lo hi:Int}(hp:∀z,z∈p->-9223372036854775808<=z/\z<=9223372036854775807)(h1:-9223372036854775808<=lo/\lo<=9223372036854775807)(h2:-9223372036854775808<=hi/\hi<=9223372036854775807)(z:Nat) :
  -9223372036854775808<=priN lo hi p z/\priN lo hi p z<=9223372036854775807:=by
 unfold priN;cases h:p[z]? with
 |none=>exact h1
 |some a =>
  have:=hp a (AQ h);simp only;split <;> (try split) <;> omega
theorem zt_len{z:Int}(h1:-9223372036854775808<=z)(h2:z<=9223372036854775807):(qu z).length<=256:=by
 have:=(q7o h1 h2).len;rw[qbe]at this;omega
theorem n5_loop(hs:ss.length<=8):∀(c i m:Nat),i+c=ss.length->c<m ->
  q16.l5 n [] m (gR g (rL ⟨[],List.replicate i zT,[],[],zT,zT,true,0⟩ [.list 7 (ss.map StpV.fv),.list 1 (p.map iF),iF i])) =
   q16.l9 n [] n (gR g (rL ⟨[],List.replicate ss.length zT,[],[],zT,zT,true,0⟩ [.list 7 (ss.map StpV.fv),.list 1 (p.map iF),iF 0])):=by
 intro c
 induction c with
 |zero =>
  intro i m hi hm;obtain⟨m,rfl⟩:=qSx m;obtain rfl:i=ss.length:=by omega
  rw[q16.q1h,Aa,Ad,Ab]
 |succ c ih =>
  intro i m hi hm;obtain⟨m,rfl⟩:=qSx m;rw[q16.q1h,Aa,Af,Ac,show qb 1 (.str { data:=#[] }) [(0,(.str { data:=#[48] }))]=[zT].map sF from rfl,<- AK,<- CA,Aa,Aa,BJ,q33 (by rw[By];omega),Ac,qd (by omega)];exact ih (i+1) m (by omega) (by omega)
theorem n22_loop{m0 h:Nat}{F P:List (List Txt)}(hF:F.length<=3)(hh:h<=3):∀(c i m:Nat),i+c=min g.lq.length 3->c<m ->
  q16.l22 n [m0] m (gR g (rL ⟨[],List.replicate ss.length zT,F,P,zT,zT,true,0⟩ [.list 7 (ss.map StpV.fv),.list 1 (p.map iF),iF h,.list 1 ((List.replicate i zT).map sF),iF i])) =
   q16.l9 n [] m0 (gR g (rL ⟨[],List.replicate ss.length zT,F++[List.replicate (min g.lq.length 3) zT],P,zT,zT,true,0⟩ [.list 7 (ss.map StpV.fv),.list 1 (p.map iF),iF ((h+1:Nat):Int)])):=by
 intro c
 induction c with
 |zero =>
  intro i m hi hm;obtain⟨m,rfl⟩:=qSx m;obtain rfl:i=min g.lq.length 3:=by omega
  rw[q16.qb9,Aa];by_cases c1:((min g.lq.length 3:Nat):Int)<(g.lq.length:Int)
  ·rw[Af c1,Ac,Ad,Ab,show qb 1 (.list 1 []) [(0,(.list 1 ((List.replicate (min g.lq.length 3) zT).map sF)))]=[List.replicate (min g.lq.length 3) zT].map rowF from rfl,<- AK,Aa,Aa,q33 (by rw[By];show F.length+1<=_;omega),Ac,qd (by omega)]
  ·rw[Ad c1,Ab,show qb 1 (.list 1 []) [(0,(.list 1 ((List.replicate (min g.lq.length 3) zT).map sF)))]=[List.replicate (min g.lq.length 3) zT].map rowF from rfl,<- AK,Aa,Aa,q33 (by rw[By];show F.length+1<=_;omega),Ac,qd (by omega)]
 |succ c ih =>
  intro i m hi hm;obtain⟨m,rfl⟩:=qSx m;rw[q16.qb9,Aa,Af,Ac,Af,Ac,show qb 1 (.str { data:=#[] }) [(0,(.str { data:=#[48] }))]=[zT].map sF from rfl,<- AK,<- CA,Aa,Aa,BJ,q33 (by rw[By];omega),Ac,qd (by omega)];exact ih (i+1) m (by omega) (by omega)
theorem priR_succ(lo hi:Int)(p:List Int)(i:Nat):priR lo hi p i++[qu (priN lo hi p i)]=priR lo hi p (i+1):=by
 unfold priR;rw[List.range'_concat,AK,AG,Ca];rfl
theorem priR_len(lo hi:Int)(p:List Int)(i:Nat):(priR lo hi p i).length=i:=by
 unfold priR;rw[Aa,EG]
theorem n13_loop{m0 h:Nat}{F P:List (List Txt)}(hF:F.length<=3)(hP:P.length<=3)(hh:h<=3)(hn:2000<=n)(hp:∀z,z∈p->-9223372036854775808<=z/\z<=9223372036854775807)(hl:-9223372036854775808<=g.low/\g.low<=9223372036854775807)(hg:-9223372036854775808<=g.high/\g.high<=9223372036854775807):∀(c i m:Nat),i+c=min g.qa.toNat 3->c<m ->
  q16.l13 (n+9) [m0] m (gR g (rL ⟨[],List.replicate ss.length zT,F,P,zT,zT,true,0⟩ [.list 7 (ss.map StpV.fv),.list 1 (p.map iF),iF h,.list 1 ((priR g.low g.high p i).map sF),iF i])) =
   q16.l9 (n+9) [] m0 (gR g (rL ⟨[],List.replicate ss.length zT,F++[List.replicate (min g.lq.length 3) zT],P++[priR g.low g.high p (min g.qa.toNat 3)],zT,zT,true,0⟩ [.list 7 (ss.map StpV.fv),.list 1 (p.map iF),iF ((h+1:Nat):Int)])):=by
 intro c
 induction c with
 |zero =>
  intro i m hi hm;obtain⟨m,rfl⟩:=qSx m;obtain rfl:i=min g.qa.toNat 3:=by omega
  have h22:=n22_loop (n:=n+9) (g:=g) (ss:=ss) (p:=p) (m0:=m0) (F:=F) (P:=P++[priR g.low g.high p (min g.qa.toNat 3)]) hF hh (min g.lq.length 3) 0 (n+9) (by omega) (by omega);rw[q16.q4w];by_cases c1:((min g.qa.toNat 3:Nat):Int)<g.qa
  ·rw[Af c1,Ac,Ad,Ab,show qb 1 (.list 1 []) [(0,(.list 1 ((priR g.low g.high p (min g.qa.toNat 3)).map sF)))]=[priR g.low g.high p (min g.qa.toNat 3)].map rowF from rfl,<- AK,Aa,Aa,q33 (by rw[By];show P.length+1<=_;omega),Ac];exact h22
  ·rw[Ad c1,Ab,show qb 1 (.list 1 []) [(0,(.list 1 ((priR g.low g.high p (min g.qa.toNat 3)).map sF)))]=[priR g.low g.high p (min g.qa.toNat 3)].map rowF from rfl,<- AK,Aa,Aa,q33 (by rw[By];show P.length+1<=_;omega),Ac];exact h22
 |succ c ih =>
  intro i m hi hm;obtain⟨m,rfl⟩:=qSx m;obtain⟨b1,b2⟩:=pri_bd hp hl hg i;have ih':=ih (i+1) m (by omega) (by omega);rw[<- priR_succ,AK]at ih';have hlen:=priR_len g.low g.high p i;rw[q16.q4w,Af,Ac,Af,Ac,Aa];unfold priN at b1 b2 ih';by_cases c1:i<p.length
  ·rw[Ag c1]at b1 b2 ih';simp only at b1 b2 ih';rw[Af,Ac,q9 c1];simp only[q4c c1,rr];rw[x_of (n:=n+8) b1 b2];simp only[rr];rw[qbf (n:=n+8) ((q7o b1 b2).mono) (qc _),qbe];simp only[rr];rw[Aa,hlen,q33 (by show i+1<=_;omega),Ac,qd (by omega)];exact ih'
  ·rw[Di (by omega)]at b1 b2 ih';simp only at b1 b2 ih';rw[Ad,Ab,x_of (n:=n+8) b1 b2];simp only[rr];rw[qbf (n:=n+8) ((q7o b1 b2).mono) (qc _),qbe];simp only[rr];rw[Aa,hlen,q33 (by show i+1<=_;omega),Ac,qd (by omega)];exact ih'
theorem n31_loop(hl:g.lq.length<=140737488351232)(hs:ss.length<=8){E:List FV}(hE:∀e,e∈E->∃a,e=entF a zT)(hb:E.length<=100000){e:Int}(hn:200000<=n)(he:e=0->E.length=(q1y ss []).length+g.lq.length+1):∀(c i m:Nat),i+c=E.length->c<m ->
  q16.l31 (n+1) [] m (gR g [.list 7 (ss.map StpV.fv),.list 2 E,iF e,iF i])=some [.bool true]:=by
 intro c
 induction c with
 |zero =>
  intro i m hi hm;obtain⟨m,rfl⟩:=qSx m;rw[q16.l31_eq,Ad,Ab];by_cases h0:e=0
  ·have h1:=he h0;rw[h0,show((0:Int) !=0)=false from rfl,Ab];have:=qjc (n:=n) (ss:=ss) (bs:=[]) (by omega) (by simp) hn;refine BQ (congrArg (λo=>Option.bind o _) this) ?_;simp only[rr];rw[Aa,Aa,qo (x:=((q1y ss []).length:Int)+(g.lq.length:Int)) (by omega) (by omega),qo,h1];simp
  ·rw[show(e !=0)=true from by rw[CF];exact h0,Ac]
 |succ c ih =>
  intro i m hi hm;obtain⟨m,rfl⟩:=qSx m;have hil:i<E.length:=by omega
  obtain⟨a,ha⟩:=hE _ (Ah hil);have hat:at' E i 1=some (sF zT):=by
   unfold at';rw[Ag hil,ha];rfl
  rw[q16.l31_eq,Af,Ac,q9 hil];simp (disch:=omega) only[hat,rr];rw[show((txt zT).toList==({ data:=#[48] }:ByteArray).toList)=true from by kernel_rfl,Ao,Ab,qd (by omega)];exact ih (i+1) m (by omega) (by omega)
theorem rep_mem{α:Type}{n:Nat}{a b:α}(h:b∈List.replicate n a):b=a:=(ER.1 h).2
theorem few_rep{n:Nat}(h:n<=256:=by omega):Few (List.replicate n zT):=⟨by rw[BJ];exact h,λt ht=>by rw[rep_mem ht];decide⟩
theorem none_sm(hl:g.lq.length<=140737488351232)(hs:ss.length<=8)(hp:∀z,z∈p->-9223372036854775808<=z/\z<=9223372036854775807)(hlo:-9223372036854775808<=g.low/\g.low<=9223372036854775807)(hg:-9223372036854775808<=g.high/\g.high<=9223372036854775807):Sm g ss [] (noneR g ss p)/\Sq ss [] (noneR g ss p):=by
 have hf:∀l,l∈(noneR g ss p).f->Few l:=λl hl=>by
  rw[rep_mem hl];exact few_rep
 have hpp:∀l,l∈(noneR g ss p).p->Few l:=λl hl=>by
  rw[rep_mem hl];refine⟨by rw[priR_len];omega,λt ht=>?_⟩;obtain⟨z,_,rfl⟩:=Bp.1 ht;obtain⟨b1,b2⟩:=pri_bd hp hlo hg z;exact zt_len b1 b2
 have hx:Few (noneR g ss p).x:=few_rep;have e1:(noneR g ss p).f.length=min g.qe.toNat 3:=BJ ..;have e2:(noneR g ss p).p.length=min g.qe.toNat 3:=BJ ..;have e3:(noneR g ss p).x.length=ss.length:=BJ ..;refine⟨⟨by omega,by simp,by omega,by simp[noneR],by omega,by omega,by omega,hx.2,hf,hpp,(by show zT.length<=256;decide),(by show zT.length<=256;decide),λb hb=>by cases hb⟩,⟨by omega,by simp,by simp[noneR],by omega,by omega,by omega,hx.2,hf,hpp,(λb hb=>by cases hb),λb hb=>by cases hb⟩⟩
theorem n9_loop(hl:g.lq.length<=140737488351232)(hs:ss.length<=8)(hws:∀s,s∈ss->s.who.size<=140737488351232)(hp:∀z,z∈p->-9223372036854775808<=z/\z<=9223372036854775807)(hlo:-9223372036854775808<=g.low/\g.low<=9223372036854775807)(hg:-9223372036854775808<=g.high/\g.high<=9223372036854775807)(hn:300000<=n):∀(c h m:Nat),h+c=min g.qe.toNat 3->c<m ->
  q16.l9 (n+10) [] m (gR g (rL ⟨[],List.replicate ss.length zT,List.replicate h (List.replicate (min g.lq.length 3) zT),List.replicate h (priR g.low g.high p (min g.qa.toNat 3)),zT,zT,true,0⟩ [.list 7 (ss.map StpV.fv),.list 1 (p.map iF),iF h]))=some [.bool true]:=by
 intro c
 induction c with
 |zero =>
  intro h m hh hm;obtain⟨m,rfl⟩:=qSx m;obtain rfl:h=min g.qe.toNat 3:=by omega
  obtain⟨s1,s2⟩:=none_sm (g:=g) (p:=p) hl hs hp hlo hg;have p5:=qpn (n:=n) s1 s2 hws (λb hb=>by cases hb) (by omega);have p6:=qpo (n:=n) s1 s2 hws (λb hb=>by cases hb) hn;obtain⟨_,hlen⟩:=qjd s2 hws (λb hb=>by cases hb);obtain⟨E,e,q,hE,hb,hz⟩:∃(E:List FV) (e:Int),qad g ss [] (noneR g ss p)=[.list 2 E,iF e]/\(∀x,x∈E->∃a,x=entF a zT)/\E.length<=100000/\(e=0->E.length=(q1y ss []).length+g.lq.length+1):=by
   unfold qad;cases hc:(decide (chkV g ss [] (noneR g ss p)=0)&&(q1y ss []).all λt=>q2t (txt t))with
   |false=>exact⟨[],1,rfl,(λx hx=>by cases hx),BL _,λq=>absurd q (by decide)⟩
   |true =>
    rw[Ai,At]at hc;have o1:=(qbg (qfp hc.1).1.ord).1;unfold q39 at o1;simp only[Ai,At]at o1;have el:(q9j g ss [] (noneR g ss p)).length=(q1y ss []).length+g.lq.length+1:=by
     unfold q9j;simp only[AZ,Aa,EG,By]
    exact⟨_,_,rfl,none_posts (by omega),by omega,λ_=>el⟩
  rw[q]at p5 p6;have tail:=n31_loop (n:=n+9) (E:=E) (e:=e) hl hs hE hb (by omega) hz E.length 0 (n+10) (by omega) (by omega);rw[q16.q3n];by_cases c1:((min g.qe.toNat 3:Nat):Int)<g.qe
  ·rw[Af c1,Ac,Ad,Ab];refine BQ (congrArg (λo=>Option.bind o _) p5) ?_;simp only[rr];refine BQ (congrArg (λo=>Option.bind o _) p6) ?_;simp only[rr];rw[CW,Ab];exact tail
  ·rw[Ad c1,Ab];refine BQ (congrArg (λo=>Option.bind o _) p5) ?_;simp only[rr];refine BQ (congrArg (λo=>Option.bind o _) p6) ?_;simp only[rr];rw[CW,Ab];exact tail
 |succ c ih =>
  intro h m hh hm;obtain⟨m,rfl⟩:=qSx m;have ih':=ih (h+1) m (by omega) (by omega);rw[CA,CA]at ih';have h13:=n13_loop (n:=n+1) (g:=g) (ss:=ss) (p:=p) (m0:=m) (h:=h) (F:=List.replicate h (List.replicate (min g.lq.length 3) zT)) (P:=List.replicate h (priR g.low g.high p (min g.qa.toNat 3))) (by rw[BJ];omega) (by rw[BJ];omega) (by omega) (by omega) hp hlo hg (min g.qa.toNat 3) 0 (n+10) (by omega) (by omega);rw[q16.q3n,Af,Ac,Af,Ac];exact h13.trans ih'
end
theorem snone_pure(L:List FV)(h:All2 Fits (.int .i64::.int .i64::.lst true 24 [.int .i64,.int .i64,.int .i64]::.int .i64::.int .i64::.lst true 64 [.str,.int .i64,.int .i64,.int .i64,.bool,.int .i64,.int .i64]::[.lst false 8 [.int .i64]]) L) :
  ∃n,evF EnD n 8 L=some [.bool true]:=by
 obtain⟨x1,r1,rfl,h1,h⟩:=h.cons_inv;obtain⟨x2,r2,rfl,h2,h⟩:=h.cons_inv;obtain⟨x3,r3,rfl,h3,h⟩:=h.cons_inv;obtain⟨x4,r4,rfl,h4,h⟩:=h.cons_inv;obtain⟨x5,r5,rfl,h5,h⟩:=h.cons_inv;obtain⟨x6,r6,rfl,h6,h⟩:=h.cons_inv;obtain⟨x7,r7,rfl,h7,h⟩:=h.cons_inv;obtain rfl:=h.qcc;obtain⟨zo,rfl,_⟩:=h1.q22;obtain⟨ho,rfl,_⟩:=h2.q22;obtain⟨ls,rfl,e3,_⟩:=h3.qfq qw.fv (R:=λ_=>True) λcs hcs=>lineV_of hcs;obtain⟨lo,rfl,l1,l2⟩:=h4.q22;obtain⟨hi,rfl,g1,g2⟩:=h5.q22;obtain⟨ss,rfl,e6,hw⟩:=h6.qfq StpV.fv (R:=λs=>s.who.size<=140737488351232) λcs hcs=>by
  obtain⟨y,r,rfl,hy,hr⟩:=id hcs.cons_inv;obtain⟨s0,rfl,hs0⟩:=hy.q5s;obtain⟨s,hs,_⟩:=stpV_of hcs;refine⟨s,hs,?_⟩;have:FV.cells (mkEl true (.str s0::r))=s.fv.cells:=by rw[hs]
  have e:FV.str s0=FV.str s.who:=(List.cons.inj this).1;injection e with e
  rw[<- e];exact hs0
 obtain⟨p,rfl,e7,hp⟩:=h7.qfq iF (R:=λz=>-9223372036854775808<=z/\z<=9223372036854775807) λcs hcs=>by
  obtain⟨y,r,rfl,hy,hr⟩:=hcs.cons_inv;obtain rfl:=hr.qcc;obtain⟨z,rfl,z1,z2⟩:=hy.q22;exact⟨z,rfl,z1,z2⟩
 refine⟨300000+10+1,?_⟩;refine BQ (qpp _ _ _ _ _ _ _ _) ?_;rw[Aa,Aa];by_cases c1:(ss.length:Int)>8
 ·rw[Af c1,Ac]
 rw[Ad c1,Ab];by_cases c2:(p.length:Int)>64
 ·rw[Af c2,Ac]
 rw[Ad c2,Ab];have h5:=n5_loop (n:=300000+10) (g:=⟨zo,ho,ls,lo,hi⟩) (ss:=ss) (p:=p) (by omega) ss.length 0 (300000+10) (by omega) (by omega);refine BQ h5 ?_;exact n9_loop (n:=300000) (g:=⟨zo,ho,ls,lo,hi⟩) (ss:=ss) (p:=p) (by show ls.length<=_;omega) (by omega) hw hp ⟨l1,l2⟩ ⟨g1,g2⟩ (by omega) (min ho.toNat 3) 0 (300000+10) (by show 0+min ho.toNat 3=min ho.toNat 3;omega) (by omega)
end
end Rf
