/- Merged: Pst2 Hv20 Sum20 Sum21 Sum22 Sum23 Sum24. -/
import Derived.Test.YtcpnpoagpnkblaaGreatDoorSNF
import Derived.Test.YtcpnpoagpnkblaaGreatDoorSMY
import Derived.Test.YtcpnpoagpnkblaaGreatDoorSNE
set_option linter.unusedVariables false
set_option linter.unusedSimpArgs false
set_option maxHeartbeats 4000000
namespace Rf
open Go
noncomputable section
section
theorem dtext_1{k:Nat}(hk:k<10):qk k=[chD k]:=by
 unfold qk;by_cases h:k=0
 ·subst h;rw[if_pos rfl];rfl
 ·rw[if_neg h,q3k (by omega) h,AJ hk,CU hk,q18];rfl
theorem dig_ext{k:Nat}(hk:k<10):({ data:=#[48,49,50,51,52,53,54,55,56,57] }:ByteArray).extract k (k+1)=txt (qk k):=by
 rw[dtext_1 hk];have h:k=0\/k=1\/k=2\/k=3\/k=4\/k=5\/k=6\/k=7\/k=8\/k=9:=by omega
 rcases h with rfl | rfl | rfl | rfl | rfl | rfl | rfl | rfl | rfl | rfl <;> decide
section
variable {g:q10} {ss:List StpV} {bs:List BlkV} {r:ResV} {n:Nat}
theorem qm4{K i:Nat}{S c:Int}(hK2:K+100<=1000000000)(hK:1<=K)(hi:i<=900)(hs:S.natAbs<=i*2^K)(hc:c.natAbs<2^K) :
  evF EnD (n+1) 37 [zb ((S:Rat)).num,wl ((S:Rat)).num,.bool false,wL ((S:Rat)).den,zb ((c:Rat)).num,wl ((c:Rat)).num,.bool false,wL ((c:Rat)).den]=some [zb (((S+c:Int):Rat)).num,wl (((S+c:Int):Rat)).num,.bool false,wL (((S+c:Int):Rat)).den]/\(S+c).natAbs<=(i+1)*2^K:=by
 refine⟨?_,(step_bd hs hc).2⟩;have hs2:S.natAbs<2^(K+20):=BK hs (qep);rw[q7a ((Bd.int (k:=K+20) hs2 (by omega)).mono) ((Bd.int (k:=K) hc hK).mono) (qb _) (qb _),BA]
theorem qu3(hS:Sq ss bs r)(hs:q2e g ss bs r)(hr:q1f r=true)(hl:g.lq.length<=9){K:Nat}(hK:80000002<=K)(hK2:K+100<=1000000000)(hn:1000<=n):∀(c k m i:Nat) (s:Int) (E:List FV),k+c=g.lq.length->c<m->i+c<=800->s.natAbs<=i*2^K->E.length+c<=100000 ->
  q47.l18 (n+9) [] m (gR g (rL r [zb ((s:Rat)).num,wl ((s:Rat)).num,.bool false,wL ((s:Rat)).den,.list 2 E,iF k])) =
   some [.list 2 (E++(List.range' k c).map (entR g r)++[entF qb2 (qu (-(s+sumZ ((List.range' k c).map (cR g r)))))]),iF 0]:=by
 intro c
 induction c with
 |zero =>
  intro k m i s E hk hm hi hsb hE;obtain⟨m,rfl⟩:=qSx m;obtain rfl:k=g.lq.length:=by omega
  have hs2:s.natAbs<2^(K+20):=BK hsb (qep);have bsR:Bd (K+20) (s:Rat):=Bd.int (k:=K+20) hs2 (by omega);rw[q47.q55,Aa,Ad,Ab,x_neg (qb _)];simp only[rr];rw[x_text (bsR.neg.mono) (qb _)];simp (disch:=omega) only[el1,rr];rw[q5r (by rw[Ci];omega),Ac,show s+sumZ ((List.range' g.lq.length 0).map (cR g r))=s from by show s+0=s;omega,<- qm5,CR];show _=some [FV.list 2 (E++[]++_),_];rw[AN];rfl
 |succ c ih =>
  intro k m i s E hk hm hi hsb hE;obtain⟨m,rfl⟩:=qSx m;have hkl:k<g.lq.length:=by omega
  have hb:=cR_bd hS hs hr hkl;have ec:cR g r k=q1a (q1k r g.lq[k] k):=by unfold cR;rw[q2m hkl]
  have hc:(cR g r k).natAbs<2^K:=by rw[ec];exact AQ (qeq (hb.mono (show 80000000<=K-2 by omega))) (AU (by omega) (by omega))
  have h35:=wRent_run (n:=n+5) (g:=g) hS (by omega) (k:Int);rw[BQ (by omega),show((k:Int)).toNat=k from rfl,q2m hkl,qch hs hr hkl,Ac]at h35;obtain⟨p1,p2⟩:=qm4 (n:=n+8) hK2 (by omega) (by omega:i<=900) hsb hc;have hdl:(qk k).length=1:=by rw[dtext_1 (by omega)];rfl
  rw[q47.q55,Aa,Af,Ac];rw[show evF EnD (n+9) 35 _=_ from h35];simp only[rr];rw[qci (n:=n+8) (qcj (q1k r g.lq[k] k)) (by have:=len3 (m:=26666667) (hb.mono);omega)];simp only[rr];rw[x_round (n:=n+8) (hb.mono) (qb _),<- ec];simp only[rr];rw[x_of (n:=n+8) (z:=1)];simp only[rr];rw[show evF EnD (n+9) 43 _=_ from x_den1 (n:=n+8)];simp only[rr];rw[show evF EnD (n+9) 79 _=_ from x_make1 (n:=n+8) (K:=K) (z:=cR g r k) (by omega) (by omega) hc];simp only[rr];rw[show evF EnD (n+9) 37 _=_ from p1];simp only[rr];rw[qc (by omega),q1x (show k+1<=10 by omega),Ae,q1x (show k<=k+1 by omega),Ae,dig_ext (by omega),q1e,hdl,Ad,Ab];rw[show evF EnD (n+9) 25 _=_ from x_ntext (n:=n+8) (K:=K) (z:=cR g r k) (by omega) hc];simp (disch:=omega) only[el1,rr];rw[show({ data:=#[108,105,110,101,45] }:ByteArray)=txt qb3 from rfl,q5l,q5r (by rw[Ci];omega),Ac];have e:=ih (k+1) m (i+1) (s+cR g r k) (E++[entR g r k]) (by omega) (by omega) (by omega) p2 (by rw[Bc,Ci];omega);refine BN ?_ (e.trans ?_)
  ·rfl
  ·rw[BL,AM,AM,show sumZ (cR g r k::(List.range' (k+1) c).map (cR g r))=cR g r k+sumZ ((List.range' (k+1) c).map (cR g r)) from rfl,Ap E,show s+cR g r k+sumZ ((List.range' (k+1) c).map (cR g r))=s+(cR g r k+sumZ ((List.range' (k+1) c).map (cR g r))) from by omega];rfl
theorem qu4(hS:Sq ss bs r)(hs:q2e g ss bs r)(hr:q1f r=true)(hl:g.lq.length<=9){N:List Txt}(hN:N.length<=600)(hNb:∀t,t∈N->t.length<=1000000){K:Nat}(hK:80000002<=K)(hK2:K+100<=1000000000)(hn:1000<=n):∀(c i m:Nat) (s:Int) (E:List FV),i+c=N.length->c<m->s.natAbs<=i*2^K->E.length<=i ->
  q47.l7 (n+9) [] m (gR g (rL r [zb ((s:Rat)).num,wl ((s:Rat)).num,.bool false,wL ((s:Rat)).den,.list 7 (ss.map StpV.fv),.list 8 (bs.map BlkV.fv),.list 1 (N.map sF),.list 2 E,iF i])) =
   some (bif(N.drop i).all (λt=>q2z (txt t))then [.list 2 (E++(N.drop i).map (entW ss bs r)++(List.range' 0 g.lq.length).map (entR g r)++[entF qb2 (qu (-(s+sumZ ((N.drop i).map (cW ss bs r))+sumZ ((List.range' 0 g.lq.length).map (cR g r)))))]),iF 0]else [.list 2 [],iF 1]):=by
 intro c
 induction c with
 |zero =>
  intro i m s E hi hm hsb hE;obtain⟨m,rfl⟩:=qSx m;obtain rfl:i=N.length:=by omega
  have h:=qu3 hS hs hr hl hK hK2 hn g.lq.length 0 (n+9) N.length s E (by omega) (by omega) (by omega) hsb (by omega);rw[q47.q2w,Aa,Ad,Ab,Dx];refine h.trans ?_;rw[show([]:List Txt).all (λt=>q2z (txt t))=true from rfl,Ac,BG,AN,show s+sumZ (([]:List Txt).map (cW ss bs r))=s from by show s+0=s;omega]
 |succ c ih =>
  intro i m s E hi hm hsb hE;obtain⟨m,rfl⟩:=qSx m;have hil:i<N.length:=by omega
  have hb:=hNb _ (Ah hil);obtain⟨_,h97⟩:=name_at (n:=n+8) true (txt N[i]) (by rw[q1e];omega);rw[q47.q2w,Aa,Af,Ac,q9 hil];simp only[q68 hil,rr];rw[h97];simp only[rr];rw[Ba hil,Bk];cases hnv:q2z (txt N[i])with
  |false=>rfl
  |true =>
   have hb2:=cW_bd hS hs hr N[i];have hc:(cW ss bs r N[i]).natAbs<2^K:=AQ (qeq (hb2.mono (show 80000000<=K-2 by omega))) (AU (by omega) (by omega));have h33:=qtz (n:=n+5) (who:=txt N[i]) hS (by omega);rw[qck hs hr,Ac]at h33;obtain⟨p1,p2⟩:=qm4 (n:=n+8) hK2 (by omega) (by omega:i<=900) hsb hc;rw[Ao,Ab,AA];rw[show evF EnD (n+9) 33 _=_ from h33];simp only[rr];rw[qci (n:=n+8) (qcj (amtV ss bs r (txt N[i]))) (by have:=len3 (m:=26666667) (hb2.mono);omega)];simp only[rr];rw[x_round (n:=n+8) (hb2.mono) (qb _),show q1a (amtV ss bs r (txt N[i]))=cW ss bs r N[i] from rfl];simp only[rr];rw[x_of (n:=n+8) (z:=1)];simp only[rr];rw[show evF EnD (n+9) 43 _=_ from x_den1 (n:=n+8)];simp only[rr];rw[show evF EnD (n+9) 79 _=_ from x_make1 (n:=n+8) (K:=K) (z:=cW ss bs r N[i]) (by omega) (by omega) hc];simp only[rr];rw[show evF EnD (n+9) 37 _=_ from p1];simp only[rr];rw[q1e,Ad,Ab];rw[show evF EnD (n+9) 25 _=_ from x_ntext (n:=n+8) (K:=K) (z:=cW ss bs r N[i]) (by omega) hc];simp (disch:=omega) only[el1,rr];rw[show({ data:=#[119,104,111,45] }:ByteArray)=txt whoT from rfl,q5l,q5r (by rw[Ci];omega),Ac,qc (by omega)];have e:=ih (i+1) m (s+cW ss bs r N[i]) (E++[entW ss bs r N[i]]) (by omega) (by omega) p2 (by rw[Bc,Ci];omega);refine BN ?_ (e.trans ?_)
   ·rfl
   ·rw[AM,AM,show sumZ (cW ss bs r N[i]::(N.drop (i+1)).map (cW ss bs r))=cW ss bs r N[i]+sumZ ((N.drop (i+1)).map (cW ss bs r)) from rfl,Ap E,show s+cW ss bs r N[i]+sumZ ((N.drop (i+1)).map (cW ss bs r))=s+(cW ss bs r N[i]+sumZ ((N.drop (i+1)).map (cW ss bs r))) from by omega];rfl
theorem qm6(hS:Sq ss bs r)(hws:∀s,s∈ss->s.who.size<=1000000)(hwb:∀b,b∈bs->b.who.size<=1000000):(∀t,t∈q19 ss bs->t.length<=1000000)/\(q19 ss bs).length<=600:=by
 constructor
 ·intro t ht;rw[qbl]at ht;unfold whoL at ht;rcases Bw.1 ht with q | q
  ·obtain⟨s,hs1,rfl⟩:=Bp.1 q;rw[By];exact hws s hs1
  ·obtain⟨s,hs1,rfl⟩:=Bp.1 q;rw[By];exact hwb s hs1
 ·have h1:=qm7 (sortL (whoL ss bs));have h2:(sortL (whoL ss bs)).length=(whoL ss bs).length:=(Fj _ _).length_eq;have h3:(whoL ss bs).length=ss.length+bs.length:=by unfold whoL;simp only[Bc,Aa]
  have:=hS.ssl;have:=hS.bsl;show(Lib.compact (sortL (whoL ss bs))).length<=600;omega
theorem qu5(h:Sm g ss bs r)(hS:Sq ss bs r)(hws:∀s,s∈ss->s.who.size<=1000000)(hwb:∀b,b∈bs->b.who.size<=1000000)(hn:300000<=n) :
  evF EnD (n+10) 27 (gR g (.list 7 (ss.map StpV.fv)::.list 8 (bs.map BlkV.fv)::rL r []))=some (q8y g ss bs r):=by
 have h17:evF EnD (n+9) 17 (gR g (.list 7 (ss.map StpV.fv)::.list 8 (bs.map BlkV.fv)::rL r []))=some [iF (chkV g ss bs r)]:=by
  have:evF EnD (n+9) 17 (gR g (.list 7 (ss.map StpV.fv)::.list 8 (bs.map BlkV.fv)::rL r []))=limO EnB 17 (gR g (.list 7 (ss.map StpV.fv)::.list 8 (bs.map BlkV.fv)::rL r [])):=by kernel_rfl
  rw[this];refine q1o ⟨101,λn hn=>?_⟩;obtain⟨k,rfl⟩:∃k,n=k+101:=⟨n-101,by omega⟩;exact qqg h
 rw[qsm,h17];simp only[rr];unfold q8y;by_cases hc:chkV g ss bs r=0
 ·obtain⟨hs,hr⟩:=qhr hc;obtain⟨K,hK,hK2⟩:∃K,80000002<=K/\K+100<=1000000000:=⟨80000002,by omega,by omega⟩;have hl:g.lq.length<=9:=by
   obtain⟨o1,_⟩:=q6c hs.ord;unfold q37 at o1;simp only[Ai,As]at o1;omega
  obtain⟨hm,hlen⟩:=qm6 hS hws hwb;rw[hc,show((0:Int) !=0)=false from rfl,Ab,Af rfl,AA,qlh (n:=n+8) hS.ssl hS.bsl (by omega)];simp only[rr];rw[x_of (n:=n+8) (z:=0)];simp (disch:=omega) only[el0,rr];have e2:=qu4 hS hs hr hl hlen hm hK hK2 (by omega:1000<=n) (q19 ss bs).length 0 (n+9) 0 [] (by omega) (by omega) (by simp) (by simp);refine e2.trans ?_;unfold qcl totV;rw[Av,Au,show(0:Int)+sumZ ((q19 ss bs).map (cW ss bs r))+sumZ ((List.range' 0 g.lq.length).map (cR g r))=sumZ ((q19 ss bs).map (cW ss bs r))+sumZ ((List.range' 0 g.lq.length).map (cR g r)) from by omega]
 ·rw[show(chkV g ss bs r !=0)=true from by simpa using hc,Ac,Ad hc];rfl
end
end
section
theorem blkV_of20{cs:List FV}(h:All2 Fits blkShp cs):∃b:BlkV,mkEl true cs=b.fv/\(b.qty.length<=140737488351232/\∀z,z∈b.qty->-9223372036854775808<=z/\z<=9223372036854775807):=by
 obtain⟨x1,r1,rfl,h1,h⟩:=h.cons_inv;obtain⟨x2,r2,rfl,h2,h⟩:=h.cons_inv;obtain⟨x3,r3,rfl,h3,h⟩:=h.cons_inv;obtain⟨x4,r4,rfl,h4,h⟩:=h.cons_inv;obtain⟨x5,r5,rfl,h5,h⟩:=h.cons_inv;obtain⟨x6,r6,rfl,h6,h⟩:=h.cons_inv;obtain⟨x7,r7,rfl,h7,h⟩:=h.cons_inv;obtain⟨x8,r8,rfl,h8,h⟩:=h.cons_inv;obtain rfl:=h.q8b;obtain⟨s1,rfl,_⟩:=h1.q5a;obtain⟨n2,rfl,_⟩:=h2.q1q;obtain⟨n3,rfl,_⟩:=h3.q1q;obtain⟨b4,rfl⟩:=h4.q4a;obtain⟨n5,rfl,_⟩:=h5.q1q;obtain⟨q,rfl,hq,hqr⟩:=h6.q92 iF (R:=λz=>-9223372036854775808<=z/\z<=9223372036854775807) λcs hcs=>by
  obtain⟨y,r,rfl,hy,hr⟩:=hcs.cons_inv;obtain rfl:=hr.q8b;obtain⟨z,rfl,z1,z2⟩:=hy.q1q;exact⟨z,rfl,z1,z2⟩
 obtain⟨n7,rfl,_⟩:=h7.q1q;obtain⟨n8,rfl,_⟩:=h8.q1q;exact⟨⟨s1,n2,n3,b4,n5,q,n7,n8⟩,rfl,by show q.length<=_;omega,hqr⟩
theorem case_of20 {S:List Shp} {L:List FV} (h:All2 Fits (.int .i64::.int .i64::.lst true 24 [.int .i64,.int .i64,.int .i64]::.int .i64::.int .i64::.lst true 64 [.str,.int .i64,.int .i64,.int .i64,.bool,.int .i64,.int .i64] ::
  .lst true 88 [.str,.int .i64,.int .i64,.bool,.int .i64,.lst false 8 [.int .i64],.int .i64,.int .i64]::.lst false 1 [.bool]::.lst false 16 [.str]::.lst false 24 [.lst false 16 [.str]]::.lst false 24 [.lst false 16 [.str]]::.str::.str::.bool::.int .i64::S) L) :
  ∃g ss bs r rest,L=cL g ss bs r rest/\Sw g ss bs r/\(∀b,b∈bs->∀z,z∈b.qty->-9223372036854775808<=z/\z<=9223372036854775807)/\All2 Fits S rest:=by
 obtain⟨x1,r1,rfl,h1,h⟩:=h.cons_inv;obtain⟨x2,r2,rfl,h2,h⟩:=h.cons_inv;obtain⟨x3,r3,rfl,h3,h⟩:=h.cons_inv;obtain⟨x4,r4,rfl,h4,h⟩:=h.cons_inv;obtain⟨x5,r5,rfl,h5,h⟩:=h.cons_inv;obtain⟨x6,r6,rfl,h6,h⟩:=h.cons_inv;obtain⟨x7,r7,rfl,h7,h⟩:=h.cons_inv;obtain⟨x8,r8,rfl,h8,h⟩:=h.cons_inv;obtain⟨x9,r9,rfl,h9,h⟩:=h.cons_inv;obtain⟨x10,r10,rfl,h10,h⟩:=h.cons_inv;obtain⟨x11,r11,rfl,h11,h⟩:=h.cons_inv;obtain⟨x12,r12,rfl,h12,h⟩:=h.cons_inv;obtain⟨x13,r13,rfl,h13,h⟩:=h.cons_inv;obtain⟨x14,r14,rfl,h14,h⟩:=h.cons_inv;obtain⟨x15,r15,rfl,h15,hz⟩:=h.cons_inv;clear h;obtain⟨zo,rfl,_⟩:=h1.q1q;obtain⟨ho,rfl,_⟩:=h2.q1q;obtain⟨ls,rfl,e3,_⟩:=h3.q92 qz.fv (R:=λ_=>True) λcs hcs=>lineV_of hcs;obtain⟨lo,rfl,_⟩:=h4.q1q;obtain⟨hi,rfl,_⟩:=h5.q1q;obtain⟨ss,rfl,e6,_⟩:=h6.q92 StpV.fv (R:=λ_=>True) λcs hcs=>stpV_of hcs;obtain⟨bs,rfl,e7,hbz⟩:=h7.q92 BlkV.fv (R:=λb=>b.qty.length<=140737488351232/\∀z,z∈b.qty->-9223372036854775808<=z/\z<=9223372036854775807) λcs hcs=>blkV_of20 hcs;obtain⟨ac,rfl,e8,_⟩:=h8.q92 FV.bool (R:=λ_=>True) λcs hcs=>by
  obtain⟨y,r,rfl,hy,hr⟩:=hcs.cons_inv;obtain rfl:=hr.q8b;obtain⟨b,rfl⟩:=hy.q4a;exact⟨b,rfl,trivial⟩
 obtain⟨x,rfl,e9⟩:=h9.qiu;obtain⟨f,rfl,e10,hf⟩:=rows_of h10;obtain⟨p,rfl,e11,hp⟩:=rows_of h11;obtain⟨w,rfl,_⟩:=h12.qh9;obtain⟨u,rfl,_⟩:=h13.qh9;obtain⟨op,rfl⟩:=h14.q4a;obtain⟨no,rfl,_⟩:=h15.q1q
 exact⟨⟨zo,ho,ls,lo,hi⟩,ss,bs,⟨ac,x,f,p,w,u,op,no⟩,r15,rfl,
  ⟨by omega,by omega,by show ls.length<=_;omega,by show ac.length<=_;omega,e9,e10,e11,hf,hp⟩,λb hb=>(hbz b hb).2,hz⟩
def gat(T:Nat)(w:Nat->Nat):Nat->Nat->Nat->Nat
 |0,_,v=>v
 |c+1,i,v=>if v<=T then gat T w c (i+1) (v+w i)else v
theorem q8v(T:Nat)(w:Nat->Nat):∀(c i v:Nat),v<=gat T w c i v
 |0,_,_=>Ak _
 |c+1,i,v=>by
  unfold gat;split
  ·have:=q8v T w c (i+1) (v+w i);omega
  ·exact Ak _
theorem qay{T:Nat}{w:Nat->Nat}{X:Nat}(hw:∀i,w i<=X):∀(c i v:Nat),gat T w c i v<=max v (T+X)
 |0,_,_=>EX _ _
 |c+1,i,v=>by
  unfold gat;split
  ·have:=qay (T:=T) hw c (i+1) (v+w i);have:=hw i;omega
  ·exact EX _ _
theorem qaz{T:Nat}{w:Nat->Nat}{B:Nat}(hT:B<=T):∀(c i v:Nat),gat T w c i v<=B->∀j,i<=j->j<i+c->w j<=B
 |0,_,_,_,_,_,_=>by omega
 |c+1,i,v,h,j,h1,h2=>by
  have hv:v<=B:=AZ (q8v T w (c+1) i v) h;unfold gat at h;rw[if_pos (by omega)]at h;by_cases e:j=i
  ·subst e;have:=q8v T w c (j+1) (v+w j);omega
  ·exact qaz hT c (i+1) (v+w i) h j (by omega) (by omega)
theorem qc9{F:Nat->Nat->Nat->Res}{len T X:Nat}{w:Nat->Nat}{fin:Nat->Res}
  (h1:∀m i v,i<len->v<=T->F (m+1) i v=F m (i+1) (v+w i))
  (h2:∀m i v,i<len->T<v->F (m+1) i v=fin v) (h3:∀m v,F (m+1) len v=fin v) :
  ∀(c i m v:Nat),i+c=len->c<m->F m i v=fin (gat T w c i v):=by
 intro c
 induction c with
 |zero =>
  intro i m v hi hm;obtain⟨m,rfl⟩:=qSx m;obtain rfl:i=len:=by omega
  exact h3 m v
 |succ c ih =>
  intro i m v hi hm;obtain⟨m,rfl⟩:=qSx m;unfold gat;by_cases hc:v<=T
  ·rw[if_pos hc,h1 m i v (by omega) hc,ih (i+1) m (v+w i) (by omega) (by omega)]
  ·rw[if_neg hc,h2 m i v (by omega) (by omega)]
def lenW(l:List Txt)(i:Nat):Nat:=min 1048576 (l.getD i []).length
def q2v(l:List Txt):Nat:=gat 256 (lenW l) l.length 0 (min 1048576 l.length)
theorem lenW_le(l:List Txt)(i:Nat):lenW l i<=1048576:=Ct _ _
theorem qca(l:List Txt):q2v l<=2000000:=by
 have h:=qay (T:=256) (lenW_le l) l.length 0 (min 1048576 l.length);have:=Ct 1048576 l.length;unfold q2v;omega
theorem qha{l:List Txt}(h:q2v l<=256):Few l:=by
 have h0:=q8v 256 (lenW l) l.length 0 (min 1048576 l.length);have h1:min 1048576 l.length<=256:=AZ h0 h;refine⟨by omega,λt ht=>?_⟩;obtain⟨i,hi,rfl⟩:=DN.1 ht;have h2:=qaz (Ak 256) l.length 0 _ h i (by omega) (by omega);unfold lenW at h2;rw[q2m hi]at h2;omega
section
variable {g:q10} {ss:List StpV} {bs:List BlkV} {r:ResV} {n:Nat}
theorem qhb{l:List Txt}(hl:l.length<=140737488355328)(hn:9000000000000000<=n):evF EnD (n+1) 98 [rowF l]=some [iF (q2v l:Int)]:=by
 have h:=qc9 (F:=λm i v=>q5n.l3 n [] m [rowF l,iF (v:Int),iF (i:Int)]) (len:=l.length) (T:=256) (X:=1048576) (w:=lenW l) (fin:=λv=>some [iF (v:Int)])
  (λm i v hi hv=>by
   have hw:=lenW_le l i;show q5n.l3 n [] (m+1) _=_;rw[q5n.qm,Aa,Af,Ac,Af,Ac,q9 hi,Ae,q8u hi,q2n,Ae,q1e,show(1048576:Int)=((1048576:Nat):Int) from rfl,q9z,qc (by omega),<- Ch,ql];unfold lenW
   rw[q2m hi])
  (λm i v hi hv=>by
   show q5n.l3 n [] (m+1) _=_
   rw[q5n.qm,Aa,Af,Ac,Ad,Ab])
  (λm v=>by
   show q5n.l3 n [] (m+1) _=_
   rw[q5n.qm,Aa,Ad,Ab]) l.length 0 n (min 1048576 l.length) (by omega) (by omega)
 rw[qr8,Aa,show(1048576:Int)=((1048576:Nat):Int) from rfl,q9z];exact h
def whoW(ss:List StpV)(i:Nat):Nat:=min 1048576 (ss.getD i default).who.size
def blkW(bs:List BlkV)(i:Nat):Nat:=min 1048576 (bs.getD i default).qty.length+min 1048576 (bs.getD i default).who.size
theorem whoW_le(i:Nat):whoW ss i<=1048576:=Ct _ _
theorem qhc(i:Nat):blkW bs i<=2097152:=by
 have h1:=Ct 1048576 (bs.getD i default).qty.length;have h2:=Ct 1048576 (bs.getD i default).who.size;unfold blkW;omega
theorem v16_run(hS:Sw g ss bs r)(hn:9000000000000000<=n){v:Nat}(hv:v<=9000000000000000) :
  qv.l16 (n+1) [] (n+1) (cL g ss bs r [iF (v:Int),iF 0])=some [.bool (decide ((gat 256 (λi=>q2v (r.p.getD i [])) r.p.length 0 v:Int)>256))]:=by
 have hl:=hS.pl;exact qc9 (F:=λm i v=>qv.l16 (n+1) [] m (cL g ss bs r [iF (v:Int),iF (i:Int)])) (len:=r.p.length) (T:=256) (X:=2000000) (w:=λi=>q2v (r.p.getD i [])) (fin:=λv=>some [.bool (decide ((v:Int)>256))])
  (λm i v hi hv=>by
   have hw:=qca r.p[i];show qv.l16 (n+1) [] (m+1) _=_;rw[qv.l16_eq,Aa,Af,Ac,Af,Ac,q9 hi,Ae,q2g hi,qy,Ae,qhb (hS.p _ (Ah hi)) hn];simp only[rr]
   rw[qc (by omega),<- Ch,ql,q2m hi])
  (λm i v hi hv=>by
   show qv.l16 (n+1) [] (m+1) _=_
   rw[qv.l16_eq,Aa,Af,Ac,Ad,Ab])
  (λm v=>by
   show qv.l16 (n+1) [] (m+1) _=_
   rw[qv.l16_eq,Aa,Ad,Ab]) r.p.length 0 (n+1) v (by omega) (by omega)
theorem v12_run(hS:Sw g ss bs r)(hn:9000000000000000<=n){v:Nat}(hv:v<=9000000000000000) :
  qv.l12 (n+1) [] (n+1) (cL g ss bs r [iF (v:Int),iF 0])=qv.l16 (n+1) [] (n+1) (cL g ss bs r [iF (gat 256 (λi=>q2v (r.f.getD i [])) r.f.length 0 v:Int),iF 0]):=by
 have hl:=hS.fl;exact qc9 (F:=λm i v=>qv.l12 (n+1) [] m (cL g ss bs r [iF (v:Int),iF (i:Int)])) (len:=r.f.length) (T:=256) (X:=2000000) (w:=λi=>q2v (r.f.getD i [])) (fin:=λv=>qv.l16 (n+1) [] (n+1) (cL g ss bs r [iF (v:Int),iF 0]))
  (λm i v hi hv=>by
   have hw:=qca r.f[i];show qv.l12 (n+1) [] (m+1) _=_;rw[qv.q42,Aa,Af,Ac,Af,Ac,q9 hi,Ae,q2g hi,qy,Ae,qhb (hS.f _ (Ah hi)) hn];simp only[rr]
   rw[qc (by omega),<- Ch,ql,q2m hi])
  (λm i v hi hv=>by
   show qv.l12 (n+1) [] (m+1) _=_
   rw[qv.q42,Aa,Af,Ac,Ad,Ab])
  (λm v=>by
   show qv.l12 (n+1) [] (m+1) _=_
   rw[qv.q42,Aa,Ad,Ab]) r.f.length 0 (n+1) v (by omega) (by omega)
theorem v7_run(hS:Sw g ss bs r)(hn:9000000000000000<=n){v:Nat}(hv:v<=8000000000000000) :
  qv.l7 (n+1) [] (n+1) (cL g ss bs r [iF (v:Int),iF 0])=qv.l12 (n+1) [] (n+1) (cL g ss bs r [iF ((gat 1024 (blkW bs) bs.length 0 v+q2v r.x:Nat):Int),iF 0]):=by
 have hl:=hS.bsl;have hx:=qca r.x;have fin:∀v:Nat,v<=8500000000000000->((evF EnD (n+1) 98 [.list 1 (r.x.map sF)]).bind λr6=>(asInt .i64 (r6[0]?)).bind λn7=>qv.l12 (n+1) [] (n+1) (cL g ss bs r [.int .i64 (w6 ((v:Int)+n7)),iF 0]))=qv.l12 (n+1) [] (n+1) (cL g ss bs r [iF ((v+q2v r.x:Nat):Int),iF 0]):=by
  intro v hv;rw[show FV.list 1 (r.x.map sF)=rowF r.x from rfl,qhb hS.xl hn];simp only[rr];rw[<- Ch,ql]
 have top:=qay (T:=1024) (qhc (bs:=bs)) bs.length 0 v;have h:=qc9 (F:=λm i v=>qv.l7 (n+1) [] m (cL g ss bs r [iF (v:Int),iF (i:Int)])) (len:=bs.length) (T:=1024) (X:=2097152) (w:=blkW bs) (fin:=λv=>(evF EnD (n+1) 98 [.list 1 (r.x.map sF)]).bind λr6=>(asInt .i64 (r6[0]?)).bind λn7=>qv.l12 (n+1) [] (n+1) (cL g ss bs r [.int .i64 (w6 ((v:Int)+n7)),iF 0]))
  (λm i v hi hv=>by
   have hw:=qhc (bs:=bs) i;have q1:=Ct 1048576 bs[i].qty.length;have q2:=Ct 1048576 bs[i].who.size;show qv.l7 (n+1) [] (m+1) _=_;rw[qv.q2w,Aa,Af,Ac,Af,Ac,q9 hi];simp only[q2j hi,rr];rw[Aa,show(1048576:Int)=((1048576:Nat):Int) from rfl,q9z,q9z,qc (by omega),<- Ch,ql (x:=((min 1048576 bs[i].qty.length+min 1048576 bs[i].who.size:Nat):Int)) (by omega) (by omega),<- Ch,ql];unfold blkW
   rw[q2m hi])
  (λm i v hi hv=>by
   show qv.l7 (n+1) [] (m+1) _=_
   rw[qv.q2w,Aa,Af,Ac,Ad,Ab])
  (λm v=>by
   show qv.l7 (n+1) [] (m+1) _=_
   rw[qv.q2w,Aa,Ad,Ab]) bs.length 0 (n+1) v (by omega) (by omega)
 exact h.trans (fin _ (by omega))
theorem v3_run(hS:Sw g ss bs r)(hn:9000000000000000<=n){v:Nat}(hv:v<=8000000000000000) :
  qv.l3 (n+1) [] (n+1) (cL g ss bs r [iF (v:Int),iF 0])=qv.l7 (n+1) [] (n+1) (cL g ss bs r [iF (gat 1024 (whoW ss) ss.length 0 v:Int),iF 0]):=by
 have hl:=hS.ssl;exact qc9 (F:=λm i v=>qv.l3 (n+1) [] m (cL g ss bs r [iF (v:Int),iF (i:Int)])) (len:=ss.length) (T:=1024) (X:=1048576) (w:=whoW ss) (fin:=λv=>qv.l7 (n+1) [] (n+1) (cL g ss bs r [iF (v:Int),iF 0]))
  (λm i v hi hv=>by
   have q2:=Ct 1048576 ss[i].who.size;show qv.l3 (n+1) [] (m+1) _=_;rw[qv.qm,Aa,Af,Ac,Af,Ac,q9 hi];simp only[q39 hi,rr];rw[show(1048576:Int)=((1048576:Nat):Int) from rfl,q9z,qc (by omega),<- Ch,ql];unfold whoW
   rw[q2m hi])
  (λm i v hi hv=>by
   show qv.l3 (n+1) [] (m+1) _=_
   rw[qv.qm,Aa,Af,Ac,Ad,Ab])
  (λm v=>by
   show qv.l3 (n+1) [] (m+1) _=_
   rw[qv.qm,Aa,Ad,Ab]) ss.length 0 (n+1) v (by omega) (by omega)
theorem qse(hS:Sw g ss bs r)(hz:∀b,b∈bs->∀z,z∈b.qty->-9223372036854775808<=z/\z<=9223372036854775807)(hn:9000000000000000<=n):∃b,(∀k,evF EnD (n+k+2) 29 (cL g ss bs r [])=some [.bool b])/\(b=false->Sm g ss bs r/\Sq ss bs r/\(∀s,s∈ss->s.who.size<=1000000)/\∀b,b∈bs->b.who.size<=1000000):=by
 obtain⟨a1,a2,a3,a4,a5,a6,a7,_,_⟩:=hS;have hS:Sw g ss bs r:=⟨a1,a2,a3,a4,a5,a6,a7,by assumption,by assumption⟩;have b1:=Ct 1048576 r.qn.length;have b2:=Ct 1048576 r.uq.length;obtain⟨v,hv⟩:∃v,v=ss.length+bs.length+r.x.length+r.f.length+r.p.length+g.lq.length+r.aq.length+min 1048576 r.qn.length+min 1048576 r.uq.length:=⟨_,rfl⟩;obtain⟨u1,e1⟩:∃u,u=gat 1024 (whoW ss) ss.length 0 v:=⟨_,rfl⟩;obtain⟨u2,e2⟩:∃u,u=gat 1024 (blkW bs) bs.length 0 u1:=⟨_,rfl⟩;obtain⟨u3,e3⟩:∃u,u=gat 256 (λi=>q2v (r.f.getD i [])) r.f.length 0 (u2+q2v r.x):=⟨_,rfl⟩;obtain⟨u4,e4⟩:∃u,u=gat 256 (λi=>q2v (r.p.getD i [])) r.p.length 0 u3:=⟨_,rfl⟩;have t1:=qay (T:=1024) (whoW_le (ss:=ss)) ss.length 0 v;have t2:=qay (T:=1024) (qhc (bs:=bs)) bs.length 0 u1;have t3:=qay (T:=256) (w:=λi=>q2v (r.f.getD i [])) (X:=2000000) (λi=>qca _) r.f.length 0 (u2+q2v r.x);have tx:=qca r.x;rw[<- e1]at t1;rw[<- e2]at t2;rw[<- e3]at t3;have m1:=q8v 1024 (whoW ss) ss.length 0 v;have m2:=q8v 1024 (blkW bs) bs.length 0 u1;have m3:=q8v 256 (λi=>q2v (r.f.getD i [])) r.f.length 0 (u2+q2v r.x);have m4:=q8v 256 (λi=>q2v (r.p.getD i [])) r.p.length 0 u3;rw[<- e1]at m1;rw[<- e2]at m2;rw[<- e3]at m3;rw[<- e4]at m4;refine⟨decide ((u4:Int)>256),λk=>?_,λhb=>?_⟩
 ·have g1:=v3_run (n:=n+k) hS (by omega) (v:=v) (by omega);have g2:=v7_run (n:=n+k) hS (by omega) (v:=u1) (by omega);have g3:=v12_run (n:=n+k) hS (by omega) (v:=u2+q2v r.x) (by omega);have g4:=v16_run (n:=n+k) hS (by omega) (v:=u3) (by omega);rw[<- e1]at g1;rw[<- e2]at g2;rw[<- e3]at g3;rw[<- e4]at g4;rw[qr7];simp only[Aa];rw[q1e,q1e,show(1048576:Int)=((1048576:Nat):Int) from rfl,q9z,q9z]
  rw[ql (x:=(ss.length:Int)+(bs.length:Int)),ql (x:=(ss.length:Int)+(bs.length:Int)+(r.x.length:Int)),
   ql (x:=(ss.length:Int)+(bs.length:Int)+(r.x.length:Int)+(r.f.length:Int)),ql (x:=(ss.length:Int)+(bs.length:Int)+(r.x.length:Int)+(r.f.length:Int)+(r.p.length:Int)),
   ql (x:=(ss.length:Int)+(bs.length:Int)+(r.x.length:Int)+(r.f.length:Int)+(r.p.length:Int)+(g.lq.length:Int)),
   ql (x:=(ss.length:Int)+(bs.length:Int)+(r.x.length:Int)+(r.f.length:Int)+(r.p.length:Int)+(g.lq.length:Int)+(r.aq.length:Int)),
   ql (x:=(ss.length:Int)+(bs.length:Int)+(r.x.length:Int)+(r.f.length:Int)+(r.p.length:Int)+(g.lq.length:Int)+(r.aq.length:Int)+((min 1048576 r.qn.length:Nat):Int)) (by omega) (by omega),
   ql (x:=(ss.length:Int)+(bs.length:Int)+(r.x.length:Int)+(r.f.length:Int)+(r.p.length:Int)+(g.lq.length:Int)+(r.aq.length:Int)+((min 1048576 r.qn.length:Nat):Int)+((min 1048576 r.uq.length:Nat):Int)) (by omega) (by omega)]
  simp only[<- Ch];rw[<- hv];exact g1.trans (g2.trans (g3.trans g4))
 ·have hu:u4<=256:=by
   have:=Fk hb;omega
  have q1:=qaz (T:=1024) (w:=whoW ss) (B:=256) (by omega) ss.length 0 v (by rw[<- e1];omega);have q2:=qaz (T:=1024) (w:=blkW bs) (B:=256) (by omega) bs.length 0 u1 (by rw[<- e2];omega);have q3:=qaz (T:=256) (w:=λi=>q2v (r.f.getD i [])) (B:=256) (by omega) r.f.length 0 (u2+q2v r.x) (by rw[<- e3];omega);have q4:=qaz (T:=256) (w:=λi=>q2v (r.p.getD i [])) (B:=256) (by omega) r.p.length 0 u3 (by rw[<- e4];omega);have fx:=qha (l:=r.x) (by omega);have ff:∀l,l∈r.f->Few l:=λl hl=>by
   obtain⟨i,hi,rfl⟩:=DN.1 hl;have:=q3 i (by omega) (by omega);rw[q2m hi]at this;exact qha this
  have fp:∀l,l∈r.p->Few l:=λl hl=>by
   obtain⟨i,hi,rfl⟩:=DN.1 hl;have:=q4 i (by omega) (by omega);rw[q2m hi]at this;exact qha this
  have fb:∀b,b∈bs->b.qty.length<=256/\b.who.size<=256:=λb hb=>by
   obtain⟨i,hi,rfl⟩:=DN.1 hb;have:=q2 i (by omega) (by omega);unfold blkW at this;rw[q2m hi]at this;omega
  refine⟨⟨by omega,by omega,by omega,by omega,by omega,by omega,by omega,fx.2,ff,fp,by omega,by omega,λb hb=>(fb b hb).1⟩,⟨by omega,by omega,by omega,by omega,by omega,by omega,fx.2,ff,fp,λb hb=>(fb b hb).1,hz⟩,λs hs=>?_,λb hb=>by have:=(fb b hb).2;omega⟩;obtain⟨i,hi,rfl⟩:=DN.1 hs;have:=q1 i (by omega) (by omega);unfold whoW at this;rw[q2m hi]at this;omega
end
end
section
theorem qg1{f:Nat->Nat->Rat}:∀(c i d j:Nat),sumI (λa=>sumI (f a) j d) i c=sumI (λb=>sumI (λa=>f a b) i c) j d
 |0,i,d,j=>by
  show(0:Rat)=_;rw[show(λb=>sumI (λa=>f a b) i 0)=λ_=>(0:Rat) from rfl,qbe]
 |c+1,i,d,j=>by
  show sumI (f i) j d+sumI (λa=>sumI (f a) j d) (i+1) c=sumI (λb=>f i b+sumI (λa=>f a b) (i+1) c) j d;rw[qg1 c (i+1) d j,<- qab]
theorem qfe{f:Nat->Rat}{c i:Nat}(h:∀j,i<=j->j<i+c->f j=0):sumI f i c=0:=by
 rw[q3f (g:=λ_=>0) c i h,qbe]
theorem qaa{v:Rat}{a:Nat}:∀(c i:Nat),i<=a->a<i+c->sumI (λk=>if k=a then v else 0) i c=v
 |0,i,h1,h2=>by omega
 |c+1,i,h1,h2=>by
  show(if i=a then v else 0)+sumI (λk=>if k=a then v else 0) (i+1) c=v;by_cases e:i=a
  ·rw[if_pos e,qfe λj h _=>if_neg (by omega)]
   grind
  ·rw[if_neg e,qaa c (i+1) (by omega) (by omega)]
   grind
theorem qg2{f:Nat->Rat}:∀(c i:Nat) (a:Rat),(List.range' i c).foldl (λn k=>n+f k) a=a+sumI f i c
 |0,i,a=>by
  show a=a+0
  grind
 |c+1,i,a=>by
  rw[BL,Bf,qg2 c (i+1)];show a+f i+sumI f (i+1) c=a+(f i+sumI f (i+1) c)
  grind
theorem qju{f:Nat->Rat}:∀(c i:Nat),(∀j,i<=j->j<i+c->0<=f j)->0<=sumI f i c
 |0,_,_=>Rat.le_refl
 |c+1,i,h=>by
  have h1:=h i (by omega) (by omega);have h2:=qju c (i+1) λj a b=>h j (by omega) (by omega);show 0<=f i+sumI f (i+1) c
  grind
def sumN(f:Txt->Rat):List Txt->Rat
 |[]=>0
 |t::l=>f t+sumN f l
theorem qjt{f h:Txt->Rat}:∀l,sumN (λt=>f t+h t) l=sumN f l+sumN h l
 |[]=>by show(0:Rat)=0+0;grind
 |t::l=>by
  show f t+h t+sumN (λt=>f t+h t) l=f t+sumN f l+(h t+sumN h l);rw[qjt l]
  grind
theorem sumN_zero:∀l,sumN (λ_=>0) l=0
 |[]=>rfl
 |t::l=>by
  show 0+sumN (λ_=>0) l=0;rw[sumN_zero l]
  grind
theorem qfw{f:Txt->Nat->Rat}(c i:Nat):∀l,sumN (λt=>sumI (f t) i c) l=sumI (λk=>sumN (λt=>f t k) l) i c
 |[]=>by
  show(0:Rat)=_;rw[show(λk=>sumN (λt=>f t k) [])=λ_=>(0:Rat) from rfl,qbe]
 |t::l=>by
  show sumI (f t) i c+sumN (λt=>sumI (f t) i c) l=sumI (λk=>f t k+sumN (λt=>f t k) l) i c;rw[qfw c i l,<- qab]
theorem qjx{v:Rat}{w:Txt}:∀ {l:List Txt},w ∉ l->sumN (λt=>if w=t then v else 0) l=0
 |[],_=>rfl
 |t::l,h=>by
  rw[Ar,not_or]at h;show(if w=t then v else 0)+sumN (λt=>if w=t then v else 0) l=0;rw[if_neg h.1,qjx h.2]
  grind
theorem qfx{v:Rat}{w:Txt}:∀ {l:List Txt},l.Pairwise (·<·)->w∈l->sumN (λt=>if w=t then v else 0) l=v
 |[],_,h=>absurd h (by simp)
 |t::l,hp,h=>by
  have hp':=Do.1 hp;show(if w=t then v else 0)+sumN (λt=>if w=t then v else 0) l=v;by_cases e:w=t
  ·subst e;rw[if_pos rfl,qjx λhw=>qdk _ (hp'.1 w hw)]
   grind
  ·rw[if_neg e,qfx hp'.2 ((Ar.1 h).resolve_left e)]
   grind
theorem qjv(q:Rat):2*(((q1a q:Int):Rat)-q)<=1/\-1<=2*(((q1a q:Int):Rat)-q):=by
 have e:=qg3 q;obtain⟨r0,r1⟩:=rest_bd q;have p:((0:Int):Rat)<((q.den:Int):Rat):=CY.2 (den_pos q);have c0:((0:Int):Rat)<=((q1z q:Int):Rat):=DJ.2 r0;have hx:=half_gt q;have hy:=half_lt q;have one:((1:Int):Rat)=1:=rfl;have two:((2:Int):Rat)=2:=rfl;have zero:((0:Int):Rat)=0:=rfl;rw[one,two]at hx hy;rw[zero]at p c0;have f0:(0:Rat)<=q-(q17 q:Rat):=by
  refine DK λh=>?_;have h:q-(q17 q:Rat)<0:=Cf.1 h;have h2:=(Ei (c:=((q.den:Int):Rat)) p).2 h;rw[e]at h2
  grind
 have f1:q-(q17 q:Rat)<1:=by
  refine(Ei (c:=((q.den:Int):Rat)) p).1 ?_;rw[e];have h3:((q1z q:Int):Rat)<((q.den:Int):Rat):=CY.2 r1
  grind
 unfold q1a;split
 ·rename_i hc;have hn:¬ q1z q+q1z q<(q.den:Int):=by omega
  have h4:¬ (q-(q17 q:Rat))*2<1:=λh=>hn (hy.1 h);rw[BA,one]
  grind
 ·rename_i hc;have hn:¬ (q.den:Int)<q1z q+q1z q:=λh=>hc (.inl h);have h4:¬ 1<(q-(q17 q:Rat))*2:=λh=>hn (hx.1 h)
  grind
def sHZ(H Z:Nat)(f:Nat->Nat->Rat):Rat:=sumI (λh=>sumI (f h) 0 Z) 0 H
theorem qbd{H Z:Nat}{f k:Nat->Nat->Rat}(e:∀h z,h<H->z<Z->f h z=k h z):sHZ H Z f=sHZ H Z k :=
 q3f H 0 λh _ h2=>q3f Z 0 λz _ z2=>e h z (by omega) (by omega)
theorem sHZ_add{H Z:Nat}{f k:Nat->Nat->Rat}:sHZ H Z (λh z=>f h z+k h z)=sHZ H Z f+sHZ H Z k:=by
 unfold sHZ;rw[<- qab];exact q3f H 0 λh _ _=>qab Z 0
theorem qfg{H Z c:Nat}{f:Nat->Nat->Nat->Rat}:sHZ H Z (λh z=>sumI (f h z) 0 c)=sumI (λi=>sHZ H Z λh z=>f h z i) 0 c:=by
 unfold sHZ;rw[q3f (f:=λh=>sumI (λz=>sumI (f h z) 0 c) 0 Z) (g:=λh=>sumI (λi=>sumI (λz=>f h z i) 0 Z) 0 c) H 0 λh _ _=>qg1 Z 0 c 0];exact qg1 H 0 c 0
theorem sHZ_one{H Z a b:Nat}{v:Rat}(ha:a<H)(hb:b<Z):sHZ H Z (λh z=>if h=a/\z=b then v else 0)=v:=by
 unfold sHZ
 rw[q3f (g:=λh=>if h=a then v else 0) H 0 λh _ _=>by
  by_cases e:h=a
  ·rw[if_pos e,q3f (g:=λz=>if z=b then v else 0) Z 0 λz _ _=>by simp[e]];exact qaa Z 0 (by omega) (by omega)
  ·rw[if_neg e]
   exact qfe λz _ _=>if_neg λq=>e q.1]
 exact qaa H 0 (by omega) (by omega)
theorem qjy{f:Nat->Rat}:∀(c i:Nat),sumI f i (c+1)=sumI f i c+f (i+c)
 |0,i=>by
  show f i+0=0+f (i+0);rw[Ax]
  grind
 |c+1,i=>by
  show f i+sumI f (i+1) (c+1)=f i+sumI f (i+1) c+f (i+(c+1));rw[qjy c (i+1),show i+1+c=i+(c+1) from by omega]
  grind
section
variable {g:q10} {ss:List StpV} {bs:List BlkV} {r:ResV}
def sxV(ss:List StpV)(r:ResV)(h z i:Nat):Rat:=match ss[i]? with
 |some s=>if s.hour=(h:Int)/\s.zone=(z:Int)then sgnQ s.buy (r.xAt i)else 0
 |none=>0
def nxV(bs:List BlkV)(ac:List Bool)(h z j:Nat):Rat:=match bs[j]?,ac[j]? with
 |some b,some true=>if b.zone=(z:Int)/\h<b.qty.length then sgnQ b.buy ((b.qty.getD h 0:Int):Rat)else 0
 |_,_=>0
def lxV(ls:List qz)(r:ResV)(h z k:Nat):Rat:=match ls[k]? with
 |some l=>(if l.src=(z:Int)then r.fAt h k else 0)-(if l.dst=(z:Int)then r.fAt h k else 0)
 |none=>0
theorem net_sum(h z:Nat):∀n,((netAt bs r.aq h z n:Int):Rat)=sumI (nxV bs r.aq h z) 0 n
 |0=>rfl
 |n+1=>by
  rw[qjy n 0,AG,<- net_sum h z n];show((netAt bs r.aq h z n+_:Int):Rat)=_;rw[BA];congr 1;unfold nxV;cases hb:bs[n]? with
  |none=>rfl
  |some b =>
   cases ha:r.aq[n]? with
   |none=>rfl
   |some a =>
    cases a with
    |false=>rfl
    |true =>
     simp only;by_cases hc:b.zone=(z:Int)/\h<b.qty.length
     ·rw[if_pos hc,if_pos hc];cases b.buy with
      |true=>exact CR _
      |false=>rfl
     ·rw[if_neg hc,if_neg hc];rfl
theorem zone_sum(h z:Nat):q3u ss bs r h z=sumI (nxV bs r.aq h z) 0 (min bs.length r.aq.length)+sumI (sxV ss r h z) 0 ss.length:=by
 unfold q3u netV
 rw[net_sum,show q7h ss r h z=λn i=>n+sxV ss r h z i from by
  funext n i;unfold q7h sxV;cases hs:ss[i]? with
  |none=>show n=n+0;grind
  |some s =>
   simp only;by_cases hc:s.hour=(h:Int)/\s.zone=(z:Int)
   ·rw[if_pos hc,if_pos hc];cases s.buy with
    |true=>show n-r.xAt i=n+-r.xAt i;grind
    |false=>rfl
   ·rw[if_neg hc,if_neg hc];grind,qg2]
theorem exp_sum(h z:Nat):expV g.lq r h z=sumI (lxV g.lq r h z) 0 g.lq.length:=by
 unfold expV
 rw[show q5e g.lq r h z=λn i=>n+lxV g.lq r h z i from by
  funext n i;unfold q5e lxV;cases hs:g.lq[i]? with
  |none=>show n=n+0;grind
  |some l =>
   simp only
   by_cases h1:l.src=(z:Int) <;> by_cases h2:l.dst=(z:Int) <;> simp only[h1,h2,AX,BH] <;> grind,qg2]
 grind
end
end
section
section
variable {g:q10} {ss:List StpV} {bs:List BlkV} {r:ResV}
theorem qa9(hs:q2e g ss bs r)(hr:q1f r=true){h z:Int}(h0:0<=h)(h1:h<g.qd)(z0:0<=z)(z1:z<g.qa):prP r h z=r.pAt h.toNat z.toNat:=by
 have:=ok_pr hs hr h0 h1 z0 z1;unfold pOk at this;rw[Ai]at this;unfold prP;rw[if_pos this.1]
theorem qj5(b:Bool)(p x:Rat):p*sgnQ b x=sgnQ b (x*p):=by
 cases b with
 |true=>show p*-x=-(x*p);grind
 |false=>show p*x=x*p;grind
def stT(ss:List StpV)(r:ResV)(i:Nat):Rat:=match ss[i]? with
 |some s=>sgnQ s.buy (r.xAt i*prP r s.hour s.zone)
 |none=>0
def blT(bs:List BlkV)(r:ResV)(j:Nat):Rat:=match bs[j]? with
 |some b=>if r.aq.getD j false=true then sumI (valQ r b) 0 b.qty.length else 0
 |none=>0
theorem st_part(hs:q2e g ss bs r)(hr:q1f r=true){i:Nat}(hi:i<ss.length):sHZ g.qd.toNat g.qa.toNat (λh z=>r.pAt h z*sxV ss r h z i)=stT ss r i:=by
 obtain⟨o1,o2,o3⟩:=q6c hs.ord;have hst:=o2 _ (Ah hi);unfold q3j at hst;simp only[Ai,q7j]at hst;have hp:=qa9 hs hr (h:=ss[i].hour) (z:=ss[i].zone) (by omega) (by omega) (by omega) (by omega);rw[qbd (k:=λh z=>if h=ss[i].hour.toNat/\z=ss[i].zone.toNat then stT ss r i else 0) λh z hh hz=>?_]
 ·exact sHZ_one (by omega) (by omega)
 ·unfold sxV stT;rw[Ag hi];simp only;by_cases c:ss[i].hour=(h:Int)/\ss[i].zone=(z:Int)
  ·rw[if_pos c,if_pos (by omega),qj5,hp,show ss[i].hour.toNat=h from by omega,show ss[i].zone.toNat=z from by omega]
  ·rw[if_neg c,if_neg (by omega)]
   grind
theorem bl_part(hs:q2e g ss bs r)(hr:q1f r=true){j:Nat}(hj:j<bs.length):sHZ g.qd.toNat g.qa.toNat (λh z=>r.pAt h z*nxV bs r.aq h z j)=blT bs r j:=by
 obtain⟨o1,o2,o3⟩:=q6c hs.ord;have hst:=o3 _ (Ah hj);unfold q3a at hst;simp only[Ai,q7j,As]at hst;have hx:j<r.aq.length:=by rw[hs.ac];exact hj
 have eb:blT bs r j=if r.aq[j]=true then sumI (valQ r bs[j]) 0 bs[j].qty.length else 0:=by
  unfold blT;rw[Ag hj,q2m hx]
 have en:∀h z,nxV bs r.aq h z j=if r.aq[j]=true then(if bs[j].zone=(z:Int)/\h<bs[j].qty.length then sgnQ bs[j].buy ((bs[j].qty.getD h 0:Int):Rat)else 0)else 0:=λh z=>by
  unfold nxV;rw[Ag hj,Ag hx];cases r.aq[j] <;> rfl
 rw[eb];cases ha:r.aq[j]with
 |false =>
  rw[if_neg (by simp),qbd (k:=λ_ _=>0) λh z _ _=>by rw[en,ha,if_neg (by simp)];grind];exact qfe λh _ _=>qbe _ _
 |true =>
  rw[if_pos rfl,show bs[j].qty.length=g.qd.toNat from by omega];unfold sHZ;refine q3f _ _ λh _ hh=>?_;rw[q3f (g:=λz=>if z=bs[j].zone.toNat then valQ r bs[j] h else 0) g.qa.toNat 0 λz _ hz=>?_]
  ·exact qaa _ 0 (by omega) (by omega)
  ·show r.pAt h z*nxV bs r.aq h z j=_;rw[en,ha,if_pos rfl];have hp:=qa9 hs hr (h:=(h:Int)) (z:=bs[j].zone) (by omega) (by omega) (by omega) (by omega);by_cases c:bs[j].zone=(z:Int)
   ·rw[if_pos ⟨c,by omega⟩,if_pos (by omega),qj5];unfold valQ;rw[hp,show((h:Int)).toNat=h from rfl,show bs[j].zone.toNat=z from by omega,DY]
   ·rw[if_neg (λq=>c q.1),if_neg (by omega)]
    grind
theorem ln_part(hs:q2e g ss bs r)(hr:q1f r=true){k:Nat}(hk:k<g.lq.length):sHZ g.qd.toNat g.qa.toNat (λh z=>r.pAt h z*lxV g.lq r h z k)=-q1k r g.lq[k] k:=by
 obtain⟨o1,o2,o3⟩:=q6c hs.ord;have hln:q30 g g.lq[k]=true:=by
  unfold q37 at o1;simp only[Ai]at o1;exact At.1 o1.1.1.2 _ (Ah hk)
 unfold q30 at hln;simp only[Ai,q7j]at hln;have hf:=hs.f;unfold q1k;rw[<- qff,show r.f.length=g.qd.toNat from by omega];unfold sHZ;refine q3f _ _ λh _ hh=>?_;have p1:=qa9 hs hr (h:=(h:Int)) (z:=g.lq[k].src) (by omega) (by omega) (by omega) (by omega);have p2:=qa9 hs hr (h:=(h:Int)) (z:=g.lq[k].dst) (by omega) (by omega) (by omega) (by omega);rw[q3f (g:=λz=>(if z=g.lq[k].src.toNat then prP r h g.lq[k].src*r.fAt h k else 0)+(if z=g.lq[k].dst.toNat then -(prP r h g.lq[k].dst*r.fAt h k)else 0)) g.qa.toNat 0 λz _ hz=>?_,qab,qaa _ 0 (by omega) (by omega),qaa _ 0 (by omega) (by omega)]
 ·unfold valR
  grind
 ·unfold lxV;rw[Ag hk];simp only;rw[p1,p2,show((h:Int)).toNat=h from rfl];by_cases c1:g.lq[k].src=(z:Int) <;> by_cases c2:g.lq[k].dst=(z:Int)
  ·rw[if_pos c1,if_pos c2,if_pos (by omega),if_pos (by omega),show g.lq[k].src.toNat=z from by omega,show g.lq[k].dst.toNat=z from by omega];grind
  ·rw[if_pos c1,if_neg c2,if_pos (by omega),if_neg (by omega),show g.lq[k].src.toNat=z from by omega];grind
  ·rw[if_neg c1,if_pos c2,if_neg (by omega),if_pos (by omega),show g.lq[k].dst.toNat=z from by omega];grind
  ·rw[if_neg c1,if_neg c2,if_neg (by omega),if_neg (by omega)];grind
theorem all_due(hs:q2e g ss bs r)(hr:q1f r=true)(hb:balV g ss bs r=true) :
  sumI (stT ss r) 0 ss.length+sumI (blT bs r) 0 bs.length+sumI (λk=>q1k r (g.lq.getD k default) k) 0 g.lq.length=0:=by
 unfold balV at hb;have hz:∀h z,h<g.qd.toNat->z<g.qa.toNat->q3u ss bs r h z=expV g.lq r h z:=λh z hh hz=>by
  have h1:=At.1 hb h (by rw[BI];omega);have h2:=At.1 h1 z (by rw[BI];omega);simpa using h2
 have hm:min bs.length r.aq.length=bs.length:=by have:=hs.ac;omega
 have mulI:∀(p:Rat) (f:Nat->Rat) (c:Nat),p*sumI f 0 c=sumI (λi=>p*f i) 0 c:=λp f c=>by
  rw[DY,<- qj6];exact q3f c 0 λi _ _=>DY _ _
 have e:=qbd (H:=g.qd.toNat) (Z:=g.qa.toNat) (f:=λh z=>r.pAt h z*q3u ss bs r h z) (k:=λh z=>r.pAt h z*expV g.lq r h z) λh z hh hz'=>by rw[hz h z hh hz']
 have e1:sHZ g.qd.toNat g.qa.toNat (λh z=>r.pAt h z*q3u ss bs r h z)=sumI (blT bs r) 0 bs.length+sumI (stT ss r) 0 ss.length:=by
  rw[qbd (k:=λh z=>sumI (λj=>r.pAt h z*nxV bs r.aq h z j) 0 bs.length+sumI (λi=>r.pAt h z*sxV ss r h z i) 0 ss.length) λh z _ _=>by rw[zone_sum,hm,Rat.mul_add,mulI,mulI],sHZ_add,qfg,qfg];rw[q3f (g:=blT bs r) bs.length 0 λj _ hj=>bl_part hs hr (by omega),q3f (g:=stT ss r) ss.length 0 λi _ hi=>st_part hs hr (by omega)]
 have e2:sHZ g.qd.toNat g.qa.toNat (λh z=>r.pAt h z*expV g.lq r h z)=-sumI (λk=>q1k r (g.lq.getD k default) k) 0 g.lq.length:=by
  rw[qbd (k:=λh z=>sumI (λk=>r.pAt h z*lxV g.lq r h z k) 0 g.lq.length) λh z _ _=>by rw[exp_sum,mulI],qfg,<- qff];exact q3f _ _ λk _ hk=>by rw[ln_part hs hr (by omega),q2m (by omega)]
 rw[e1,e2]at e
 grind
end
end
section
section
variable {g:q10} {ss:List StpV} {bs:List BlkV} {r:ResV}
theorem qdg(s:ByteArray)(t:Txt):s=txt t↔s.data.toList=t:=by
 constructor
 ·rintro rfl;exact q6l t
 ·rintro rfl;unfold txt;rw[ET]
theorem qjr:sumN (λt=>amtV ss bs r (txt t)) (q19 ss bs)=sumI (stT ss r) 0 ss.length+sumI (blT bs r) 0 bs.length:=by
 have ha:=qjs ss bs;rw[show(λt=>amtV ss bs r (txt t))=λt=>sumI (valS r (txt t) ss) 0 ss.length+sumI (valB r (txt t) bs) 0 bs.length from rfl,qjt,qfw,qfw];rw[q3f (g:=stT ss r) ss.length 0 λi _ hi=>?_,q3f (g:=blT bs r) bs.length 0 λj _ hj=>?_]
 ·have hj:j<bs.length:=by omega
  rw[show(λt=>valB r (txt t) bs j)=λt=>if bs[j].who.data.toList=t then blT bs r j else 0 from funext λt=>by
   unfold valB blT;rw[Ag hj];simp only;by_cases c:bs[j].who=txt t
   ·rw[if_pos c,if_pos ((qdg _ _).1 c)]
   ·rw[if_neg c,if_neg λq=>c ((qdg _ _).2 q)]]
  refine qfx ha ((qbl ss bs _).2 ?_);unfold whoL;exact Bw.2 (.inr (Bp.2 ⟨bs[j],Ah hj,rfl⟩))
 ·have hi:i<ss.length:=by omega
  rw[show(λt=>valS r (txt t) ss i)=λt=>if ss[i].who.data.toList=t then stT ss r i else 0 from funext λt=>by
   unfold valS stT;rw[Ag hi];simp only;by_cases c:ss[i].who=txt t
   ·rw[if_pos c,if_pos ((qdg _ _).1 c)]
   ·rw[if_neg c,if_neg λq=>c ((qdg _ _).2 q)]]
  refine qfx ha ((qbl ss bs _).2 ?_);unfold whoL;exact Bw.2 (.inl (Bp.2 ⟨ss[i],Ah hi,rfl⟩))
theorem qpo(hs:q2e g ss bs r)(hr:q1f r=true)(hl:q4c g r=true){k:Nat}(hk:k<g.lq.length):0<=q1k r g.lq[k] k:=by
 obtain⟨o1,o2,o3⟩:=q6c hs.ord;have hln:q30 g g.lq[k]=true:=by
  unfold q37 at o1;simp only[Ai]at o1;exact At.1 o1.1.1.2 _ (Ah hk)
 unfold q30 at hln;simp only[Ai,q7j]at hln;have hf:=hs.f;unfold q1k;refine qju _ _ λh _ hh=>?_;unfold q4c at hl;have h1:=At.1 (At.1 hl h (by rw[BI];omega)) k (by rw[BI];omega);unfold q65 at h1;rw[Ag hk]at h1;simp only[Ai,Cl,Bool.and_eq_false_iff,decide_eq_false_iff_not]at h1;have p1:=qa9 hs hr (h:=(h:Int)) (z:=g.lq[k].src) (by omega) (by omega) (by omega) (by omega);have p2:=qa9 hs hr (h:=(h:Int)) (z:=g.lq[k].dst) (by omega) (by omega) (by omega) (by omega);have c0:((0:Int):Rat)<=((g.lq[k].cap:Int):Rat):=DJ.2 (by omega);have zero:((0:Int):Rat)=0:=rfl;rw[zero]at c0;unfold valR;rw[p1,p2,show((h:Int)).toNat=h from rfl];rw[CR]at h1;generalize r.pAt h g.lq[k].src.toNat=a at h1 ⊢;generalize r.pAt h g.lq[k].dst.toNat=b at h1 ⊢;generalize r.fAt h k=f at h1 ⊢;generalize ((g.lq[k].cap:Int):Rat)=c at h1 c0 ⊢;rcases(show a<b\/a=b\/b<a by grind)with q | q | q
 ·have hfc:0<=f:=by
   rcases h1.2 with u | u
   ·grind
   ·exact absurd q u
  have:=Rat.mul_nonneg hfc (show 0<=b-a by grind);exact this
 ·subst q;have:f*(a-a)=0:=by grind
  rw[this];exact Rat.le_refl
 ·have hfc:0≤-f:=by
   rcases h1.1 with u | u
   ·grind
   ·exact absurd q u
  have:=Rat.mul_nonneg hfc (show 0<=a-b by grind)
  grind
theorem roundN(f:Txt->Rat):∀l:List Txt,2*(((sumZ (l.map λt=>q1a (f t)):Int):Rat)-sumN f l)<=(((l.length:Nat):Int):Rat)/\-(((l.length:Nat):Int):Rat)<=2*(((sumZ (l.map λt=>q1a (f t)):Int):Rat)-sumN f l)
 |[]=>by
  show 2*(((0:Int):Rat)-0)<=((0:Int):Rat)/\-((0:Int):Rat)<=2*(((0:Int):Rat)-0);decide +kernel
 |t::l=>by
  obtain⟨h1,h2⟩:=roundN f l;obtain⟨h3,h4⟩:=qjv (f t);rw[show sumZ ((t::l).map λt=>q1a (f t))=q1a (f t)+sumZ (l.map λt=>q1a (f t)) from rfl,show sumN f (t::l)=f t+sumN f l from rfl,Aq,Ch,BA,BA,show(((1:Nat):Int):Rat)=1 from rfl]
  grind
theorem roundI(f:Nat->Rat):∀(c i:Nat),2*(((sumZ ((List.range' i c).map λk=>q1a (f k)):Int):Rat)-sumI f i c)<=((c:Int):Rat)/\-((c:Int):Rat)<=2*(((sumZ ((List.range' i c).map λk=>q1a (f k)):Int):Rat)-sumI f i c)
 |0,i=>by
  show 2*(((0:Int):Rat)-0)<=((0:Int):Rat)/\-((0:Int):Rat)<=2*(((0:Int):Rat)-0);decide +kernel
 |c+1,i=>by
  obtain⟨h1,h2⟩:=roundI f c (i+1);obtain⟨h3,h4⟩:=qjv (f i);rw[BL,show sumZ ((i::List.range' (i+1) c).map λk=>q1a (f k))=q1a (f i)+sumZ ((List.range' (i+1) c).map λk=>q1a (f k)) from rfl,show sumI f i (c+1)=f i+sumI f (i+1) c from rfl,Ch,BA,BA,show(((1:Nat):Int):Rat)=1 from rfl]
  grind
theorem tot_bd(hs:q2e g ss bs r)(hr:q1f r=true)(hb:balV g ss bs r=true):2*totV g ss bs r<=(((q19 ss bs).length+g.lq.length:Nat):Int)/\-(((q19 ss bs).length+g.lq.length:Nat):Int)<=2*totV g ss bs r:=by
 have e:=all_due hs hr hb;have en:=qjr (ss:=ss) (bs:=bs) (r:=r);obtain⟨a1,a2⟩:=roundN (λt=>amtV ss bs r (txt t)) (q19 ss bs);obtain⟨b1,b2⟩:=roundI (λk=>q1k r (g.lq.getD k default) k) g.lq.length 0;have ta:sumZ ((q19 ss bs).map λt=>q1a (amtV ss bs r (txt t)))=sumZ ((q19 ss bs).map (cW ss bs r)):=rfl;have tb:sumZ ((List.range' 0 g.lq.length).map λk=>q1a (q1k r (g.lq.getD k default) k))=sumZ ((List.range' 0 g.lq.length).map (cR g r)):=rfl;rw[ta,en]at a1 a2;rw[tb]at b1 b2;have two:((2:Int):Rat)=2:=rfl;constructor
 ·rw[<- DJ,EU,two,Ch,BA];unfold totV;rw[BA]
  grind
 ·rw[<- DJ,EU,two,CR,Ch,BA];unfold totV;rw[BA]
  grind
end
end
section
section
variable {n:Nat} {q r:Rat} {d e:Nat}
theorem qb4:evF EnD (n+1) 38 [zb (q).num,wl (q).num,.bool false,wL (d)]=some [iF q.num.sign]:=by
 have:evF EnD (n+1) 38 [zb (q).num,wl (q).num,.bool false,wL (d)]=evF EnA (n+1) 38 [zb (q).num,wl (q).num,.bool false,wL (d)]:=by kernel_rfl
 rw[this];exact w_sign
theorem x_cmp(hq:Sz q)(hr:Sz r)(hd:dn d=q.den)(he:dn e=r.den):evF EnD (n+1) 32 [zb (q).num,wl (q).num,.bool false,wL (d),zb (r).num,wl (r).num,.bool false,wL (e)]=some [iF (cmpQ q r)]:=by
 have:evF EnD (n+1) 32 [zb (q).num,wl (q).num,.bool false,wL (d),zb (r).num,wl (r).num,.bool false,wL (e)]=evF EnA (n+1) 32 [zb (q).num,wl (q).num,.bool false,wL (d),zb (r).num,wl (r).num,.bool false,wL (e)]:=by kernel_rfl
 rw[this,q4j hq hr hd he]
end
theorem qcs{f:Nat->Rat}{K:Nat}:∀(c i:Nat),(∀j,i<=j->j<i+c->Bd K (f j))->Bd (1+(K+1)*c) (sumI f i c)
 |0,_,_=>q3s
 |c+1,i,h=>by
  have h1:=h i (by omega) (by omega);have h2:=qcs c (i+1) λj a b=>h j (by omega) (by omega);exact(h1.add h2).mono (by rw[Cc];omega)
section
variable {g:q10} {ss:List StpV} {bs:List BlkV} {r:ResV} {n:Nat}
theorem qet(h:q2i g ss bs=true):ss.length<=32/\bs.length<=12/\g.qd<=3/\g.lq.length<=3:=by
 have h1:=(q6c h).1;unfold q2i at h;simp only[Ai,As]at h;unfold q37 at h1;simp only[Ai,As,q7j]at h1;omega
theorem qhy(hS:Sq ss bs r)(hs:q2e g ss bs r)(hr:q1f r=true)(who:ByteArray):Bd 200000 (amtV ss bs r who):=by
 obtain⟨l1,l2,l3,l4⟩:=qet hs.ord;obtain⟨o1,o2,o3⟩:=q6c hs.ord;have ok:=qck hs hr who;unfold okA at ok;rw[Ai]at ok;have b1:Bd (1+(2048+1)*ss.length) (sumI (valS r who ss) 0 ss.length):=qcs _ _ λi _ hi=>qen hS (by omega) (At.1 ok.1 i (by rw[BI];omega));have b2:Bd (1+(4000+1)*bs.length) (sumI (valB r who bs) 0 bs.length):=qcs _ _ λj _ hj=>by
  have hj:j<bs.length:=by omega
  have hst:=o3 _ (Ah hj);unfold q3a at hst;simp only[Ai,q7j,As]at hst;unfold valB;rw[Ag hj];simp only;split
  ·split
   ·exact(qcs (K:=1088) bs[j].qty.length 0 λh _ _=>qem hS (Ah hj) h).mono
   ·exact q3s
  ·exact q3s
 exact(b1.add b2).mono
theorem qmq(hS:Sq ss bs r)(hs:q2e g ss bs r)(hr:q1f r=true){k:Nat}(hk:k<g.lq.length):Bd 200000 (q1k r g.lq[k] k):=by
 obtain⟨l1,l2,l3,l4⟩:=qet hs.ord;have hf:=hs.f;have ok:=qch hs hr hk;unfold q70 at ok;exact(qcs (K:=3074) r.f.length 0 λh _ hh=>valR_bd hS (by omega) (At.1 ok h (by rw[BI];omega))).mono
theorem s10_loop(hS:Sq ss bs r)(hs:q2e g ss bs r)(hr:q1f r=true){N:List Txt}{E:List FV}(hN:N.length<=600)(hn:2000<=n):∀(c i m:Nat) (q:Rat),i+c=N.length->c<m->Bd (65+200001*i) q ->
  q2f.l10 (n+9) [] m (cL g ss bs r [zb (q).num,wl (q).num,.bool false,wL (q).den,.list 2 E,.list 1 (N.map sF),iF i]) =
   q2f.l18 (n+9) [] (n+9) (cL g ss bs r [zb (q+sumN (λt=>amtV ss bs r (txt t)) (N.drop i)).num,wl (q+sumN (λt=>amtV ss bs r (txt t)) (N.drop i)).num,.bool false,wL (q+sumN (λt=>amtV ss bs r (txt t)) (N.drop i)).den,.list 2 E,.list 1 (N.map sF),iF 0]):=by
 intro c
 induction c with
 |zero =>
  intro i m q hi hm hq;obtain⟨m,rfl⟩:=qSx m;obtain rfl:i=N.length:=by omega
  rw[q2f.q3l,Aa,Ad,Ab,Dx,show q+sumN (λt=>amtV ss bs r (txt t)) []=q from by show q+0=q;grind]
 |succ c ih =>
  intro i m q hi hm hq;obtain⟨m,rfl⟩:=qSx m;have hil:i<N.length:=by omega
  have hb:=qhy hS hs hr (txt N[i]);have h31:=qvg (n:=n+1) (who:=txt N[i]) hS (by omega);rw[qck hs hr,Ac]at h31;rw[q2f.q3l,Aa,Af,Ac,q9 hil];simp only[q68 hil,rr];rw[show evF EnD (n+9) 31 _=_ from h31];simp only[rr];rw[qci (n:=n+8) (qcj (amtV ss bs r (txt N[i]))) (by have:=hb.len;omega)];simp only[rr];rw[show((0:Int) !=0)=false from rfl,Ab,Ab,q7a (n:=n+8) (hq.mono) (hb.mono) (qb _) (qb _)];simp only[rr];rw[qc (by omega)];refine BN (ih (i+1) m (q+amtV ss bs r (txt N[i])) (by omega) (by omega) ((hq.add hb).mono)) ?_;rw[Ba hil,show sumN (λt=>amtV ss bs r (txt t)) (N[i]::N.drop (i+1))=amtV ss bs r (txt N[i])+sumN (λt=>amtV ss bs r (txt t)) (N.drop (i+1)) from rfl,show q+amtV ss bs r (txt N[i])+sumN (λt=>amtV ss bs r (txt t)) (N.drop (i+1))=q+(amtV ss bs r (txt N[i])+sumN (λt=>amtV ss bs r (txt t)) (N.drop (i+1))) from by grind]
end
end
section
theorem qmo{q:Rat}{k:Nat}(h:Bd k q):Bd (k+2) ((q1a q:Int):Rat):=Bd.int (k:=k+2) (qeq h) (by omega)
theorem bd_small{z:Int}{K:Nat}(h:z.natAbs<=1000)(hK:10<=K):Bd K (z:Rat):=Bd.int (k:=K) (by
 have:(2:Nat)^10<=2^K:=AU (by omega) hK;rw[show(2:Nat)^10=1024 from rfl]at this
 omega) (by omega)
theorem qhx:∀a b:List Int,sumZ (a++b)=sumZ a+sumZ b
 |[],b=>by show sumZ b=0+sumZ b;omega
 |z::a,b=>by
  show z+sumZ (a++b)=z+sumZ a+sumZ b;rw[qhx a b];omega
def lastZ(l:Int):List Int->Int
 |[]=>l
 |z::r=>lastZ z r
theorem qmp(x l:Int):∀a:List Int,lastZ l (a++[x])=x
 |[]=>rfl
 |z::a=>qmp x z a
def entP(p:Txt×Int):FV:=entF p.1 (qu p.2)
theorem chk_all{g:q10}{ss:List StpV}{bs:List BlkV}{r:ResV}(h:chkV g ss bs r=0):balV g ss bs r=true/\q4c g r=true:=by
 unfold chkV at h;cases h1:balV g ss bs r with
 |false=>rw[h1]at h;simp only[AX]at h;repeat (first | (exact absurd h (by decide)) | split at h)
 |true =>
  cases h2:q4c g r with
  |false=>rw[h2]at h;simp only[AX]at h;repeat (first | (exact absurd h (by decide)) | split at h)
  |true=>exact⟨rfl,rfl⟩
section
variable {g:q10} {ss:List StpV} {bs:List BlkV} {r:ResV} {n:Nat}
theorem s18_loop(hS:Sq ss bs r)(hs:q2e g ss bs r)(hr:q1f r=true)(hl:q4c g r=true){A E:List FV}(hn:2000<=n):∀(c k m:Nat) (q:Rat),k+c=g.lq.length->c<m->Bd (130000000+200001*k) q ->
  q2f.l18 (n+9) [] m (cL g ss bs r [zb (q).num,wl (q).num,.bool false,wL (q).den,.list 2 E,.list 1 A,iF k]) =
   q2f.l28 (n+9) [] (n+9) (cL g ss bs r [zb (q+sumI (λk=>q1k r (g.lq.getD k default) k) k c).num,wl (q+sumI (λk=>q1k r (g.lq.getD k default) k) k c).num,.bool false,wL (q+sumI (λk=>q1k r (g.lq.getD k default) k) k c).den,zb (((0:Int):Rat)).num,wl (((0:Int):Rat)).num,.bool false,wL (((0:Int):Rat)).den,zb (((0:Int):Rat)).num,wl (((0:Int):Rat)).num,.bool false,wL (((0:Int):Rat)).den,.list 2 E,.list 1 A,iF 0]):=by
 obtain⟨l1,l2,l3,l4⟩:=qet hs.ord;intro c
 induction c with
 |zero =>
  intro k m q hk hm hq;obtain⟨m,rfl⟩:=qSx m;obtain rfl:k=g.lq.length:=by omega
  rw[q2f.q55,Aa,Ad,Ab,x_of (n:=n+8) (z:=0)];simp only[rr];rw[show q+sumI (λk=>q1k r (g.lq.getD k default) k) g.lq.length 0=q from by show q+0=q;grind]
 |succ c ih =>
  intro k m q hk hm hq;obtain⟨m,rfl⟩:=qSx m;have hkl:k<g.lq.length:=by omega
  have hb:=qmq hS hs hr hkl;have h0:=qpo hs hr hl hkl;have h34:=Rent_run (n:=n+3) (g:=g) hS (by omega) (k:Int);rw[BQ (by omega),show((k:Int)).toNat=k from rfl,q2m hkl,qch hs hr hkl,Ac]at h34;rw[q2f.q55,Aa,Af,Ac];rw[show evF EnD (n+9) 34 _=_ from h34];simp only[rr];rw[qci (n:=n+8) (qcj (q1k r g.lq[k] k)) (by have:=hb.len;omega)];simp only[rr];rw[show((0:Int) !=0)=false from rfl,Ab,Ab,qb4 (n:=n+8)];simp only[rr];have hnum:0<=(q1k r g.lq[k] k).num:=Ds.2 h0;have hsg:¬ (q1k r g.lq[k] k).num.sign<0:=by
   rw[Ez];omega
  rw[Ad hsg,Ab,q7a (n:=n+8) (hq.mono) (hb.mono) (qb _) (qb _)];simp only[rr];rw[qc (by omega)];refine BN (ih (k+1) m (q+q1k r g.lq[k] k) (by omega) (by omega) ((hq.add hb).mono)) ?_;rw[show sumI (λk=>q1k r (g.lq.getD k default) k) k (c+1)=q1k r (g.lq.getD k default) k+sumI (λk=>q1k r (g.lq.getD k default) k) (k+1) c from rfl,q2m hkl];rw[show q+q1k r g.lq[k] k+sumI (λk=>q1k r (g.lq.getD k default) k) (k+1) c=q+(q1k r g.lq[k] k+sumI (λk=>q1k r (g.lq.getD k default) k) (k+1) c) from by grind]
theorem s28_end{P:List (Txt×Int)}{A:List FV}{m:Nat}{l:Int}(hl:2*l<=(P.length:Int)-1)(hl2:-((P.length:Int)-1)<=2*l)(hP:P.length<=10000)(hA:P.length=A.length+g.lq.length+1) :
  q2f.l28 (n+9) [] (m+1) (cL g ss bs r [zb ((0:Rat)).num,wl ((0:Rat)).num,.bool false,wL ((0:Rat)).den,zb (((0:Int):Rat)).num,wl (((0:Int):Rat)).num,.bool false,wL (((0:Int):Rat)).den,zb ((l:Rat)).num,wl ((l:Rat)).num,.bool false,wL ((l:Rat)).den,.list 2 (P.map entP),.list 1 A,iF (P.length:Nat)])=some [.bool true]:=by
 have e0:(0:Rat).num.sign=0:=rfl;have hn:∀z:Int,((z:Rat)).num=z:=λz=>rfl;have go:∀z:Int,2*z<=(P.length:Int)-1->0<=z ->
   ((evF EnD (n+9) 37 [zb ((z:Rat)).num,wl ((z:Rat)).num,.bool false,wL ((z:Rat)).den,zb ((z:Rat)).num,wl ((z:Rat)).num,.bool false,wL ((z:Rat)).den]).bind λr24=>(asBool (r24[0]?)).bind λc25=>(asLst 1 (r24[1]?)).bind λv26=>(asBool (r24[2]?)).bind λc27=>(asLst 1 (r24[3]?)).bind λv28=>(evF EnD (n+9) 12 [.int .i64 (w6 ((P.length:Int)-1))]).bind λr29=>(asBool (r29[0]?)).bind λc30=>(asLst 1 (r29[1]?)).bind λv31=>(asBool (r29[2]?)).bind λc32=>(asLst 1 (r29[3]?)).bind λv33=>(evF EnD (n+9) 32 [.bool c25,.list 1 v26,.bool c27,.list 1 v28,.bool c30,.list 1 v31,.bool c32,.list 1 v33]).bind λr34=>(asInt .i64 (r34[0]?)).bind λn35=>some [FV.bool (decide (n35<=0))])=some [.bool true]:=λz hz hz0=>by
  have b1:Bd 64 (z:Rat):=q8x;rw[q7a (n:=n+8) (b1.mono) (b1.mono) (qb _) (qb _)];simp only[rr];rw[ql (x:=(P.length:Int)-1),x_of (n:=n+8)];simp only[rr];rw[show evF EnD (n+9) 32 _=_ from x_cmp (n:=n+8) (q:=(z:Rat)+(z:Rat)) (r:=(((P.length:Int)-1:Int):Rat)) ((b1.add b1).mono) ((q8x).mono) (qb _) (qb _)];simp only[rr];rw[cmpQ_le,decide_eq_true];rw[<- BA,DJ];omega
 have ew:w6 (w6 ((A.length:Int)+((g.lq.map qz.fv).length:Int))+1)=(P.length:Int):=by
  rw[Aa,ql (x:=(A.length:Int)+(g.lq.length:Int)),ql (x:=(A.length:Int)+(g.lq.length:Int)+1)];omega
 rw[q2f.l28_eq,ew,Aa,Ad,Ab,qb4 (n:=n+8)];simp only[rr];by_cases c:l<0
 ·rw[Af (show((l:Rat)).num.sign<0 from by rw[hn,Ez];exact c),Ac,x_neg (n:=n+8) (qb _)];simp only[rr];rw[qb4 (n:=n+8),e0];simp only[rr];rw[show((0:Int)==0)=true from rfl,Ac,qb4 (n:=n+8),show((0:Int):Rat).num.sign=0 from rfl];simp only[rr];rw[show((0:Int)==0)=true from rfl,Ac,Be,Ac];have h:=go (-l) (by omega) (by omega);rw[CR]at h;exact h
 ·rw[Ad (show ¬ ((l:Rat)).num.sign<0 from by rw[hn,Ez];exact c),Ab];rw[qb4 (n:=n+8),e0];simp only[rr];rw[show((0:Int)==0)=true from rfl,Ac,qb4 (n:=n+8),show((0:Int):Rat).num.sign=0 from rfl];simp only[rr];rw[show((0:Int)==0)=true from rfl,Ac,Be,Ac];exact go l (by omega) (by omega)
theorem at_ent{P:List (Txt×Int)}{i:Nat}(h:i<P.length):at' (P.map entP) i 1=some (sF (qu P[i].2)):=by rw[q28,Ag h];rfl
theorem s28_loop{P:List (Txt×Int)}{A:List FV}(hP:P.length<=900)(hA:P.length=A.length+g.lq.length+1)(hb:∀p,p∈P->Bd 200002 (p.2:Rat)){x:Int}(hx:2*x<=(P.length:Int)-1)(hx2:-((P.length:Int)-1)<=2*x):∀(c i m:Nat) (s l:Int),i+c=P.length->c<m->Bd (1+200003*i) (s:Rat)->s+sumZ ((P.drop i).map Prod.snd)=0->lastZ l ((P.drop i).map Prod.snd)=x ->
  q2f.l28 (n+9) [] m (cL g ss bs r [zb ((0:Rat)).num,wl ((0:Rat)).num,.bool false,wL ((0:Rat)).den,zb ((s:Rat)).num,wl ((s:Rat)).num,.bool false,wL ((s:Rat)).den,zb ((l:Rat)).num,wl ((l:Rat)).num,.bool false,wL ((l:Rat)).den,.list 2 (P.map entP),.list 1 A,iF i])=some [.bool true]:=by
 intro c
 induction c with
 |zero =>
  intro i m s l hi hm hsb hsum hlast;obtain⟨m,rfl⟩:=qSx m;obtain rfl:i=P.length:=by omega
  rw[Dx]at hsum hlast;have e1:s=0:=by have:s+0=0:=hsum;omega
  have e2:l=x:=hlast;subst e1 e2;exact s28_end hx hx2 (by omega) hA
 |succ c ih =>
  intro i m s l hi hm hsb hsum hlast;obtain⟨m,rfl⟩:=qSx m;have hil:i<P.length:=by omega
  have bz:=hb _ (Ah hil);rw[Ba hil,AM]at hsum hlast;have hsum':s+(P[i].2+sumZ ((P.drop (i+1)).map Prod.snd))=0:=hsum;have hlast':lastZ P[i].2 ((P.drop (i+1)).map Prod.snd)=x:=hlast;have ea:=at_ent hil;generalize P[i].2=z at bz hsum' hlast' ea;rw[q2f.l28_eq,Aa,Af,Ac,q9 hil];simp (disch:=omega) only[ea,rr];rw[show qu z=qw (z:Rat) from(qm5 z).symm,qci (n:=n+8) (qcj (z:Rat)) (by have:=bz.len;omega)];simp only[rr];rw[show((0:Int) !=0)=false from rfl,Ab,q7a (n:=n+8) (hsb.mono) (bz.mono) (qb _) (qb _),<- BA];simp only[rr];rw[qc (by omega)];exact ih (i+1) m (s+z) z (by omega) (by omega) (by rw[BA];exact(hsb.add bz).mono) (by omega) hlast'
def q4w(g:q10)(ss:List StpV)(bs:List BlkV)(r:ResV):List (Txt×Int) :=
 (q19 ss bs).map (λt=>(whoT++t,cW ss bs r t))++(List.range' 0 g.lq.length).map (λk=>(qb3++qk k,cR g r k))++[(qb2,-totV g ss bs r)]
theorem posts_Z:qcl g ss bs r=(q4w g ss bs r).map entP:=by
 unfold qcl q4w;rw[AW,AW,BY,BY];rfl
theorem postZ_len:(q4w g ss bs r).length=(q19 ss bs).length+g.lq.length+1:=by
 unfold q4w;simp only[Bc,Aa,List.length_range',Ci]
theorem qmr:(q4w g ss bs r).map Prod.snd=(q19 ss bs).map (cW ss bs r)++(List.range' 0 g.lq.length).map (cR g r)++[-totV g ss bs r]:=by
 unfold q4w;rw[AW,AW,BY,BY];rfl
theorem Bd_sumN{f:Txt->Rat}{K:Nat}(h:∀t,Bd K (f t)):∀l,Bd (1+(K+1)*l.length) (sumN f l)
 |[]=>q3s
 |t::l=>((h t).add (Bd_sumN h l)).mono (by rw[Aq,Cc];omega)
theorem postZ_bd(hS:Sq ss bs r)(hs:q2e g ss bs r)(hr:q1f r=true)(ht:2*totV g ss bs r<=1000)(ht2:-1000<=2*totV g ss bs r){z:Int}(hz:z∈(q4w g ss bs r).map Prod.snd):Bd 200002 (z:Rat):=by
 rw[qmr]at hz;rcases Bw.1 hz with q | q
 ·rcases Bw.1 q with q | q
  ·obtain⟨t,_,rfl⟩:=Bp.1 q;exact qmo (qhy hS hs hr (txt t))
  ·obtain⟨k,hk,rfl⟩:=Bp.1 q;rw[BI]at hk;have hkl:k<g.lq.length:=by omega
   have e:cR g r k=q1a (q1k r g.lq[k] k):=by unfold cR;rw[q2m hkl]
   rw[e];exact qmo (qmq hS hs hr hkl)
 ·have e:z=-totV g ss bs r:=BM.1 q;exact bd_small (by omega) (by omega)
theorem sums_run(h:Sm g ss bs r)(hS:Sq ss bs r)(hws:∀s,s∈ss->s.who.size<=1000000)(hwb:∀b,b∈bs->b.who.size<=1000000)(hn:300000<=n)
  (hv:evF EnD (n+10) 29 (cL g ss bs r [])=some [.bool false]):evF EnD (n+11) 11 (cL g ss bs r [])=some [.bool true]:=by
 have p5:=quh (n:=n) h hS hws hwb (by omega);have p6:=qu5 (n:=n) h hS hws hwb hn;obtain⟨_,hlen⟩:=qm6 hS hws hwb;rw[qkr];refine BN (congrArg (λo=>Option.bind o _) hv) ?_;simp only[rr];refine BN (congrArg (λo=>Option.bind o _) p5) ?_;cases hc:(decide (chkV g ss bs r=0)&&(q19 ss bs).all λt=>q2z (txt t))with
 |false =>
  have q:q8y g ss bs r=[.list 2 [],iF 1]:=by unfold q8y;rw[hc];rfl
  rw[q]at p6 ⊢;simp only[rr];refine BN (congrArg (λo=>Option.bind o _) p6) ?_;rfl
 |true =>
  have q:q8y g ss bs r=[.list 2 ((q4w g ss bs r).map entP),iF 0]:=by unfold q8y;rw[hc,posts_Z];rfl
  rw[Ai,As]at hc;obtain⟨hs,hr⟩:=qhr hc.1;obtain⟨hbal,hlin⟩:=chk_all hc.1;obtain⟨l1,l2,l3,l4⟩:=qet hs.ord;obtain⟨t1,t2⟩:=tot_bd hs hr hbal;have hall:=all_due hs hr hbal;have hnam:=qjr (ss:=ss) (bs:=bs) (r:=r);have hpl:=postZ_len (g:=g) (ss:=ss) (bs:=bs) (r:=r);have hps:=qmr (g:=g) (ss:=ss) (bs:=bs) (r:=r);rw[q]at p6 ⊢;simp only[rr];refine BN (congrArg (λo=>Option.bind o _) p6) ?_;simp only[rr];rw[show((0:Int) !=0)=false from rfl,Ab,Ab,x_of (n:=n+9) (z:=0)];simp only[rr];rw[qlh (n:=n+9) hS.ssl hS.bsl (by omega)];simp only[rr];have g10:=s10_loop (n:=n+1) (g:=g) (E:=(q4w g ss bs r).map entP) (N:=q19 ss bs) hS hs hr hlen (by omega) (q19 ss bs).length 0 (n+10) 0 (by omega) (by omega) (q3s);refine BN (show _=q2f.l10 (n+10) [] (n+10) _ from rfl) (g10.trans ?_);rw[Av];have bq:Bd 130000000 ((0:Rat)+sumN (λt=>amtV ss bs r (txt t)) (q19 ss bs)):=by
   refine((q3s (k:=1) (by omega)).add (Bd_sumN (λt=>qhy hS hs hr (txt t)) (q19 ss bs))).mono ?_;have:(200000+1)*(q19 ss bs).length<=(200000+1)*600:=BB _ hlen;omega
  have g18:=s18_loop (n:=n+1) (g:=g) (E:=(q4w g ss bs r).map entP) (A:=(q19 ss bs).map sF) hS hs hr hlin (by omega) g.lq.length 0 (n+10) _ (by omega) (by omega) bq;refine g18.trans ?_;rw[show(0:Rat)+sumN (λt=>amtV ss bs r (txt t)) (q19 ss bs)+sumI (λk=>q1k r (g.lq.getD k default) k) 0 g.lq.length=0 from by rw[hnam];grind];refine s28_loop (n:=n+1) (P:=q4w g ss bs r) (by omega) (by rw[Aa];omega) (λp hp=>?_) (x:=-totV g ss bs r) (by omega) (by omega) (q4w g ss bs r).length 0 (n+10) 0 0 (by omega) (by omega) (q3s) ?_ ?_
  ·have hm:p.2∈(q4w g ss bs r).map Prod.snd:=Bp.2 ⟨p,hp,rfl⟩;exact postZ_bd hS hs hr (by omega) (by omega) hm
  ·rw[Av,hps,qhx,qhx];show 0+(_+_+(-totV g ss bs r+0))=0;unfold totV;omega
  ·rw[Av,hps,qmp]
end
theorem qui (L:List FV) (h:All2 Fits (.int .i64::.int .i64::.lst true 24 [.int .i64,.int .i64,.int .i64]::.int .i64::.int .i64::.lst true 64 [.str,.int .i64,.int .i64,.int .i64,.bool,.int .i64,.int .i64] ::
  .lst true 88 [.str,.int .i64,.int .i64,.bool,.int .i64,.lst false 8 [.int .i64],.int .i64,.int .i64]::.lst false 1 [.bool]::.lst false 16 [.str]::.lst false 24 [.lst false 16 [.str]]::.lst false 24 [.lst false 16 [.str]]::.str::.str::.bool::.int .i64::[]) L) :
  ∃n,evF EnD n 11 L=some [.bool true]:=by
 obtain⟨g,ss,bs,r,rest,rfl,hS,hz,h⟩:=case_of20 h;obtain rfl:=h.q8b;obtain⟨b,hb,hsm⟩:=qse hS hz (Ak _);cases b with
 |false =>
  obtain⟨m1,m2,m3,m4⟩:=hsm rfl;exact⟨9000000000000000+2+11,sums_run m1 m2 m3 m4 (by omega) (by have:=hb 10;exact this)⟩
 |true =>
  refine⟨9000000000000000+2+1,?_⟩;have:=hb 0;rw[qkr];refine BN (congrArg (λo=>Option.bind o _) this) ?_;simp only[rr]
end
end
end Rf
