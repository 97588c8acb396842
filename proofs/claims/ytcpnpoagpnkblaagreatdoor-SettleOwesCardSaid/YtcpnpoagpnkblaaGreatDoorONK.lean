/- Texts of this work put together, their blanks and comments taken out: Pst2, Hv20. -/
import Derived.Test.YtcpnpoagpnkblaaGreatDoorONH
import Derived.Test.YtcpnpoagpnkblaaGreatDoorONA
set_option linter.unusedVariables false
set_option linter.unusedSimpArgs false
set_option maxHeartbeats 4000000
namespace Rf
open Go
section
theorem dtext_1{k:Nat}(hk:k<10):ql k=[chD k]:=by
 unfold ql;by_cases h:k=0
 ·subst h;rw[if_pos rfl];rfl
 ·rw[if_neg h,q3h (by omega) h,AK hk,CV hk,q18];rfl
theorem dig_ext{k:Nat}(hk:k<10):({ data:=#[48,49,50,51,52,53,54,55,56,57] }:ByteArray).extract k (k+1)=txt (ql k):=by
 rw[dtext_1 hk];have h:k=0\/k=1\/k=2\/k=3\/k=4\/k=5\/k=6\/k=7\/k=8\/k=9:=by omega
 rcases h with rfl | rfl | rfl | rfl | rfl | rfl | rfl | rfl | rfl | rfl <;> decide
section
variable {g:q10} {ss:List StpV} {bs:List BlkV} {r:ResV} {n:Nat}
theorem qlw{K i:Nat}{S c:Int}(hK2:K+100<=1000000000)(hK:1<=K)(hi:i<=900)(hs:S.natAbs<=i*2^K)(hc:c.natAbs<2^K) :
  evF EnD (n+1) 37 [zb ((S:Rat)).num,wl ((S:Rat)).num,.bool false,wL ((S:Rat)).den,zb ((c:Rat)).num,wl ((c:Rat)).num,.bool false,wL ((c:Rat)).den]=some [zb (((S+c:Int):Rat)).num,wl (((S+c:Int):Rat)).num,.bool false,wL (((S+c:Int):Rat)).den]/\(S+c).natAbs<=(i+1)*2^K:=by
 refine⟨?_,(step_bd hs hc).2⟩;have hs2:S.natAbs<2^(K+20):=BG hs (qei);rw[qaz ((Bd.int (k:=K+20) hs2 (by omega)).mono (by omega)) ((Bd.int (k:=K) hc hK).mono (by omega)) (qb _) (qb _),CB]
theorem qts(hS:Sq ss bs r)(hs:q37 g ss bs r)(hr:q1u r=true)(hl:g.lines.length<=9){K:Nat}(hK:80000002<=K)(hK2:K+100<=1000000000)(hn:1000<=n):∀(c k m i:Nat) (s:Int) (E:List FV),k+c=g.lines.length->c<m->i+c<=800->s.natAbs<=i*2^K->E.length+c<=100000 ->
  q46.l18 (n+9) [] m (gR g (rL r [zb ((s:Rat)).num,wl ((s:Rat)).num,.bool false,wL ((s:Rat)).den,.list 2 E,iF k])) =
   some [.list 2 (E++(List.range' k c).map (entR g r)++[entF qcb (qu (-(s+sumZ ((List.range' k c).map (cR g r)))))]),iF 0]:=by
 intro c
 induction c with
 |zero =>
  intro k m i s E hk hm hi hsb hE;obtain⟨m,rfl⟩:=qSx m;obtain rfl:k=g.lines.length:=by omega
  have hs2:s.natAbs<2^(K+20):=BG hsb (qei);have bsR:Bd (K+20) (s:Rat):=Bd.int (k:=K+20) hs2 (by omega);rw[q46.q55,Aa,Ad,Ab,x_neg (qb _)];simp only[rr];rw[x_text (bsR.neg.mono (by omega)) (qb _)];simp (disch:=omega) only[el1,rr];rw[q5v (by rw[Cm];omega),Ac,show s+sumZ ((List.range' g.lines.length 0).map (cR g r))=s from by show s+0=s;omega,<- qjy,CS];show _=some [FV.list 2 (E++[]++_),_];rw[AM];rfl
 |succ c ih =>
  intro k m i s E hk hm hi hsb hE;obtain⟨m,rfl⟩:=qSx m;have hkl:k<g.lines.length:=by omega
  have hb:=cR_bd hS hs hr hkl;have ec:cR g r k=q1x (q56 r g.lines[k] k):=by unfold cR;rw[q2t hkl]
  have hc:(cR g r k).natAbs<2^K:=by rw[ec];exact AP (qeb (hb.mono (show 80000000<=K-2 by omega))) (AX (by omega) (by omega))
  have h35:=wRent_run (n:=n+5) (g:=g) hS (by omega) (k:Int);rw[BY (by omega),show((k:Int)).toNat=k from rfl,q2t hkl,qhi hs hr hkl,Ac]at h35;obtain⟨p1,p2⟩:=qlw (n:=n+8) hK2 (by omega) (by omega:i<=900) hsb hc;have hdl:(ql k).length=1:=by rw[dtext_1 (by omega)];rfl
  rw[q46.q55,Aa,Af,Ac];rw[show evF EnD (n+9) 35 _=_ from h35];simp only[rr];rw[qds (n:=n+8) (qdt (q56 r g.lines[k] k)) (by have:=len3 (m:=26666667) (hb.mono (by omega));omega)];simp only[rr];rw[x_round (n:=n+8) (hb.mono (by omega)) (qb _),<- ec];simp only[rr];rw[x_of (n:=n+8) (z:=1)];simp only[rr];rw[show evF EnD (n+9) 43 _=_ from x_den1 (n:=n+8)];simp only[rr];rw[show evF EnD (n+9) 79 _=_ from x_make1 (n:=n+8) (K:=K) (z:=cR g r k) (by omega) (by omega) hc];simp only[rr];rw[show evF EnD (n+9) 37 _=_ from p1];simp only[rr];rw[qc,q1v (show k+1<=10 by omega),Ae,q1v (show k<=k+1 by omega),Ae,dig_ext (by omega),q1c,hdl,Ad,Ab];rw[show evF EnD (n+9) 25 _=_ from x_ntext (n:=n+8) (K:=K) (z:=cR g r k) (by omega) hc];simp (disch:=omega) only[el1,rr];rw[show({ data:=#[108,105,110,101,45] }:ByteArray)=txt lineT from rfl,q5m,q5v (by rw[Cm];omega),Ac];have e:=ih (k+1) m (i+1) (s+cR g r k) (E++[entR g r k]) (by omega) (by omega) (by omega) p2 (by rw[Bb,Cm];omega);refine BQ ?_ (e.trans ?_)
  ·rfl
  ·rw[BK,AQ,AQ,show sumZ (cR g r k::(List.range' (k+1) c).map (cR g r))=cR g r k+sumZ ((List.range' (k+1) c).map (cR g r)) from rfl,Ap E,show s+cR g r k+sumZ ((List.range' (k+1) c).map (cR g r))=s+(cR g r k+sumZ ((List.range' (k+1) c).map (cR g r))) from by omega];rfl
theorem qtt(hS:Sq ss bs r)(hs:q37 g ss bs r)(hr:q1u r=true)(hl:g.lines.length<=9){N:List Txt}(hN:N.length<=600)(hNb:∀t,t∈N->t.length<=1000000){K:Nat}(hK:80000002<=K)(hK2:K+100<=1000000000)(hn:1000<=n):∀(c i m:Nat) (s:Int) (E:List FV),i+c=N.length->c<m->s.natAbs<=i*2^K->E.length<=i ->
  q46.l7 (n+9) [] m (gR g (rL r [zb ((s:Rat)).num,wl ((s:Rat)).num,.bool false,wL ((s:Rat)).den,.list 7 (ss.map StpV.fv),.list 8 (bs.map BlkV.fv),.list 1 (N.map sF),.list 2 E,iF i])) =
   some (bif(N.drop i).all (λt=>q2x (txt t))then [.list 2 (E++(N.drop i).map (entW ss bs r)++(List.range' 0 g.lines.length).map (entR g r)++[entF qcb (qu (-(s+sumZ ((N.drop i).map (cW ss bs r))+sumZ ((List.range' 0 g.lines.length).map (cR g r)))))]),iF 0]else [.list 2 [],iF 1]):=by
 intro c
 induction c with
 |zero =>
  intro i m s E hi hm hsb hE;obtain⟨m,rfl⟩:=qSx m;obtain rfl:i=N.length:=by omega
  have h:=qts hS hs hr hl hK hK2 hn g.lines.length 0 (n+9) N.length s E (by omega) (by omega) (by omega) hsb (by omega);rw[q46.q2u,Aa,Ad,Ab,CP];refine h.trans ?_;rw[show([]:List Txt).all (λt=>q2x (txt t))=true from rfl,Ac,BE,AM,show s+sumZ (([]:List Txt).map (cW ss bs r))=s from by show s+0=s;omega]
 |succ c ih =>
  intro i m s E hi hm hsb hE;obtain⟨m,rfl⟩:=qSx m;have hil:i<N.length:=by omega
  have hb:=hNb _ (Ah hil);obtain⟨_,h97⟩:=name_at (n:=n+8) true (txt N[i]) (by rw[q1c];omega);rw[q46.q2u,Aa,Af,Ac,q9 hil];simp only[q50 hil,rr];rw[h97];simp only[rr];rw[AY hil,Bk];cases hnv:q2x (txt N[i])with
  |false=>rfl
  |true =>
   have hb2:=cW_bd hS hs hr N[i];have hc:(cW ss bs r N[i]).natAbs<2^K:=AP (qeb (hb2.mono (show 80000000<=K-2 by omega))) (AX (by omega) (by omega));have h33:=qto (n:=n+5) (who:=txt N[i]) hS (by omega);rw[qbl hs hr,Ac]at h33;obtain⟨p1,p2⟩:=qlw (n:=n+8) hK2 (by omega) (by omega:i<=900) hsb hc;rw[Am,Ab,AB];rw[show evF EnD (n+9) 33 _=_ from h33];simp only[rr];rw[qds (n:=n+8) (qdt (amtV ss bs r (txt N[i]))) (by have:=len3 (m:=26666667) (hb2.mono (by omega));omega)];simp only[rr];rw[x_round (n:=n+8) (hb2.mono (by omega)) (qb _),show q1x (amtV ss bs r (txt N[i]))=cW ss bs r N[i] from rfl];simp only[rr];rw[x_of (n:=n+8) (z:=1)];simp only[rr];rw[show evF EnD (n+9) 43 _=_ from x_den1 (n:=n+8)];simp only[rr];rw[show evF EnD (n+9) 79 _=_ from x_make1 (n:=n+8) (K:=K) (z:=cW ss bs r N[i]) (by omega) (by omega) hc];simp only[rr];rw[show evF EnD (n+9) 37 _=_ from p1];simp only[rr];rw[q1c,Ad,Ab];rw[show evF EnD (n+9) 25 _=_ from x_ntext (n:=n+8) (K:=K) (z:=cW ss bs r N[i]) (by omega) hc];simp (disch:=omega) only[el1,rr];rw[show({ data:=#[119,104,111,45] }:ByteArray)=txt whoT from rfl,q5m,q5v (by rw[Cm];omega),Ac,qc];have e:=ih (i+1) m (s+cW ss bs r N[i]) (E++[entW ss bs r N[i]]) (by omega) (by omega) p2 (by rw[Bb,Cm];omega);refine BQ ?_ (e.trans ?_)
   ·rfl
   ·rw[AQ,AQ,show sumZ (cW ss bs r N[i]::(N.drop (i+1)).map (cW ss bs r))=cW ss bs r N[i]+sumZ ((N.drop (i+1)).map (cW ss bs r)) from rfl,Ap E,show s+cW ss bs r N[i]+sumZ ((N.drop (i+1)).map (cW ss bs r))=s+(cW ss bs r N[i]+sumZ ((N.drop (i+1)).map (cW ss bs r))) from by omega];rfl
theorem qjz(hS:Sq ss bs r)(hws:∀s,s∈ss->s.who.size<=1000000)(hwb:∀b,b∈bs->b.who.size<=1000000):(∀t,t∈q26 ss bs->t.length<=1000000)/\(q26 ss bs).length<=600:=by
 constructor
 ·intro t ht;rw[qgy]at ht;unfold whoL at ht;rcases BL.1 ht with q | q
  ·obtain⟨s,hs1,rfl⟩:=BD.1 q;rw[Bw];exact hws s hs1
  ·obtain⟨s,hs1,rfl⟩:=BD.1 q;rw[Bw];exact hwb s hs1
 ·have h1:=qlx (sortL (whoL ss bs));have h2:(sortL (whoL ss bs)).length=(whoL ss bs).length:=(Fj _ _).length_eq;have h3:(whoL ss bs).length=ss.length+bs.length:=by unfold whoL;simp only[Bb,Aa]
  have:=hS.ssl;have:=hS.bsl;show(Lib.compact (sortL (whoL ss bs))).length<=600;omega
theorem qq6(h:Sm g ss bs r)(hS:Sq ss bs r)(hws:∀s,s∈ss->s.who.size<=1000000)(hwb:∀b,b∈bs->b.who.size<=1000000)(hn:300000<=n) :
  evF EnD (n+10) 27 (gR g (.list 7 (ss.map StpV.fv)::.list 8 (bs.map BlkV.fv)::rL r []))=some (qak g ss bs r):=by
 have h17:evF EnD (n+9) 17 (gR g (.list 7 (ss.map StpV.fv)::.list 8 (bs.map BlkV.fv)::rL r []))=some [iF (chkV g ss bs r)]:=by
  have:evF EnD (n+9) 17 (gR g (.list 7 (ss.map StpV.fv)::.list 8 (bs.map BlkV.fv)::rL r []))=limO EnB 17 (gR g (.list 7 (ss.map StpV.fv)::.list 8 (bs.map BlkV.fv)::rL r [])):=by kernel_rfl
  rw[this];refine q1j ⟨101,λn hn=>?_⟩;obtain⟨k,rfl⟩:∃k,n=k+101:=⟨n-101,by omega⟩;exact qju h
 rw[qsc,h17];simp only[rr];unfold qak;by_cases hc:chkV g ss bs r=0
 ·obtain⟨hs,hr⟩:=qbk hc;obtain⟨K,hK,hK2⟩:∃K,80000002<=K/\K+100<=1000000000:=⟨80000002,by omega,by omega⟩;have hl:g.lines.length<=9:=by
   obtain⟨o1,_⟩:=q6p hs.ord;unfold q36 at o1;simp only[Ai,As]at o1;omega
  obtain⟨hm,hlen⟩:=qjz hS hws hwb;rw[hc,show((0:Int) !=0)=false from rfl,Ab,Af rfl,AB,qk1 (n:=n+8) hS.ssl hS.bsl (by omega)];simp only[rr];rw[x_of (n:=n+8) (z:=0)];simp (disch:=omega) only[el0,rr];have e2:=qtt hS hs hr hl hlen hm hK hK2 (by omega:1000<=n) (q26 ss bs).length 0 (n+9) 0 [] (by omega) (by omega) (by simp) (by simp);refine e2.trans ?_;unfold qdu totV;rw[Av,At,show(0:Int)+sumZ ((q26 ss bs).map (cW ss bs r))+sumZ ((List.range' 0 g.lines.length).map (cR g r))=sumZ ((q26 ss bs).map (cW ss bs r))+sumZ ((List.range' 0 g.lines.length).map (cR g r)) from by omega]
 ·rw[show(chkV g ss bs r !=0)=true from by simpa using hc,Ac,Ad hc];rfl
end
end
section
theorem blkV_of20{cs:List FV}(h:All2 Fits blkShp cs):∃b:BlkV,mkEl true cs=b.fv/\(b.qty.length<=140737488351232/\∀z,z∈b.qty->-9223372036854775808<=z/\z<=9223372036854775807):=by
 obtain⟨x1,r1,rfl,h1,h⟩:=h.cons_inv;obtain⟨x2,r2,rfl,h2,h⟩:=h.cons_inv;obtain⟨x3,r3,rfl,h3,h⟩:=h.cons_inv;obtain⟨x4,r4,rfl,h4,h⟩:=h.cons_inv;obtain⟨x5,r5,rfl,h5,h⟩:=h.cons_inv;obtain⟨x6,r6,rfl,h6,h⟩:=h.cons_inv;obtain⟨x7,r7,rfl,h7,h⟩:=h.cons_inv;obtain⟨x8,r8,rfl,h8,h⟩:=h.cons_inv;obtain rfl:=h.q88;obtain⟨s1,rfl,_⟩:=h1.q5b;obtain⟨n2,rfl,_⟩:=h2.q1n;obtain⟨n3,rfl,_⟩:=h3.q1n;obtain⟨b4,rfl⟩:=h4.q49;obtain⟨n5,rfl,_⟩:=h5.q1n;obtain⟨q,rfl,hq,hqr⟩:=h6.q8y iF (R:=λz=>-9223372036854775808<=z/\z<=9223372036854775807) λcs hcs=>by
  obtain⟨y,r,rfl,hy,hr⟩:=hcs.cons_inv;obtain rfl:=hr.q88;obtain⟨z,rfl,z1,z2⟩:=hy.q1n;exact⟨z,rfl,z1,z2⟩
 obtain⟨n7,rfl,_⟩:=h7.q1n;obtain⟨n8,rfl,_⟩:=h8.q1n;exact⟨⟨s1,n2,n3,b4,n5,q,n7,n8⟩,rfl,by show q.length<=_;omega,hqr⟩
theorem case_of20 {S:List Shp} {L:List FV} (h:All2 Fits (.int .i64::.int .i64::.lst true 24 [.int .i64,.int .i64,.int .i64]::.int .i64::.int .i64::.lst true 64 [.str,.int .i64,.int .i64,.int .i64,.bool,.int .i64,.int .i64] ::
  .lst true 88 [.str,.int .i64,.int .i64,.bool,.int .i64,.lst false 8 [.int .i64],.int .i64,.int .i64]::.lst false 1 [.bool]::.lst false 16 [.str]::.lst false 24 [.lst false 16 [.str]]::.lst false 24 [.lst false 16 [.str]]::.str::.str::.bool::.int .i64::S) L) :
  ∃g ss bs r rest,L=cL g ss bs r rest/\Sw g ss bs r/\(∀b,b∈bs->∀z,z∈b.qty->-9223372036854775808<=z/\z<=9223372036854775807)/\All2 Fits S rest:=by
 obtain⟨x1,r1,rfl,h1,h⟩:=h.cons_inv;obtain⟨x2,r2,rfl,h2,h⟩:=h.cons_inv;obtain⟨x3,r3,rfl,h3,h⟩:=h.cons_inv;obtain⟨x4,r4,rfl,h4,h⟩:=h.cons_inv;obtain⟨x5,r5,rfl,h5,h⟩:=h.cons_inv;obtain⟨x6,r6,rfl,h6,h⟩:=h.cons_inv;obtain⟨x7,r7,rfl,h7,h⟩:=h.cons_inv;obtain⟨x8,r8,rfl,h8,h⟩:=h.cons_inv;obtain⟨x9,r9,rfl,h9,h⟩:=h.cons_inv;obtain⟨x10,r10,rfl,h10,h⟩:=h.cons_inv;obtain⟨x11,r11,rfl,h11,h⟩:=h.cons_inv;obtain⟨x12,r12,rfl,h12,h⟩:=h.cons_inv;obtain⟨x13,r13,rfl,h13,h⟩:=h.cons_inv;obtain⟨x14,r14,rfl,h14,h⟩:=h.cons_inv;obtain⟨x15,r15,rfl,h15,hz⟩:=h.cons_inv;clear h;obtain⟨zo,rfl,_⟩:=h1.q1n;obtain⟨ho,rfl,_⟩:=h2.q1n;obtain⟨ls,rfl,e3,_⟩:=h3.q8y qz.fv (R:=λ_=>True) λcs hcs=>lineV_of hcs;obtain⟨lo,rfl,_⟩:=h4.q1n;obtain⟨hi,rfl,_⟩:=h5.q1n;obtain⟨ss,rfl,e6,_⟩:=h6.q8y StpV.fv (R:=λ_=>True) λcs hcs=>stpV_of hcs;obtain⟨bs,rfl,e7,hbz⟩:=h7.q8y BlkV.fv (R:=λb=>b.qty.length<=140737488351232/\∀z,z∈b.qty->-9223372036854775808<=z/\z<=9223372036854775807) λcs hcs=>blkV_of20 hcs;obtain⟨ac,rfl,e8,_⟩:=h8.q8y FV.bool (R:=λ_=>True) λcs hcs=>by
  obtain⟨y,r,rfl,hy,hr⟩:=hcs.cons_inv;obtain rfl:=hr.q88;obtain⟨b,rfl⟩:=hy.q49;exact⟨b,rfl,trivial⟩
 obtain⟨x,rfl,e9⟩:=h9.qii;obtain⟨f,rfl,e10,hf⟩:=rows_of h10;obtain⟨p,rfl,e11,hp⟩:=rows_of h11;obtain⟨w,rfl,_⟩:=h12.qh0;obtain⟨u,rfl,_⟩:=h13.qh0;obtain⟨op,rfl⟩:=h14.q49;obtain⟨no,rfl,_⟩:=h15.q1n
 exact⟨⟨zo,ho,ls,lo,hi⟩,ss,bs,⟨ac,x,f,p,w,u,op,no⟩,r15,rfl,
  ⟨by omega,by omega,by show ls.length<=_;omega,by show ac.length<=_;omega,e9,e10,e11,hf,hp⟩,λb hb=>(hbz b hb).2,hz⟩
def gat(T:Nat)(w:Nat->Nat):Nat->Nat->Nat->Nat
 |0,_,v=>v
 |c+1,i,v=>if v<=T then gat T w c (i+1) (v+w i)else v
theorem q8t(T:Nat)(w:Nat->Nat):∀(c i v:Nat),v<=gat T w c i v
 |0,_,_=>Ak _
 |c+1,i,v=>by
  unfold gat;split
  ·have:=q8t T w c (i+1) (v+w i);omega
  ·exact Ak _
theorem qau{T:Nat}{w:Nat->Nat}{X:Nat}(hw:∀i,w i<=X):∀(c i v:Nat),gat T w c i v<=max v (T+X)
 |0,_,_=>EW _ _
 |c+1,i,v=>by
  unfold gat;split
  ·have:=qau (T:=T) hw c (i+1) (v+w i);have:=hw i;omega
  ·exact EW _ _
theorem qav{T:Nat}{w:Nat->Nat}{B:Nat}(hT:B<=T):∀(c i v:Nat),gat T w c i v<=B->∀j,i<=j->j<i+c->w j<=B
 |0,_,_,_,_,_,_=>by omega
 |c+1,i,v,h,j,h1,h2=>by
  have hv:v<=B:=AZ (q8t T w (c+1) i v) h;unfold gat at h;rw[if_pos (by omega)]at h;by_cases e:j=i
  ·subst e;have:=q8t T w c (j+1) (v+w j);omega
  ·exact qav hT c (i+1) (v+w i) h j (by omega) (by omega)
theorem qbx{F:Nat->Nat->Nat->Res}{len T X:Nat}{w:Nat->Nat}{fin:Nat->Res}
  (h1:∀m i v,i<len->v<=T->F (m+1) i v=F m (i+1) (v+w i))
  (h2:∀m i v,i<len->T<v->F (m+1) i v=fin v) (h3:∀m v,F (m+1) len v=fin v) :
  ∀(c i m v:Nat),i+c=len->c<m->F m i v=fin (gat T w c i v):=by
 intro c
 induction c with
 |zero =>
  intro i m v hi hm;obtain⟨m,rfl⟩:=qSx m;obtain rfl:i=len:=by omega
  exact h3 m v
 |succ c ih =>
  intro i m v hi hm;obtain⟨m,rfl⟩:=qSx m;unfold gat;by_cases hc:v<=T
  ·rw[if_pos hc,h1 m i v (by omega) hc,ih (i+1) m (v+w i) (by omega) (by omega)]
  ·rw[if_neg hc,h2 m i v (by omega) (by omega)]
def lenW(l:List Txt)(i:Nat):Nat:=min 1048576 (l.getD i []).length
def q2s(l:List Txt):Nat:=gat 256 (lenW l) l.length 0 (min 1048576 l.length)
theorem lenW_le(l:List Txt)(i:Nat):lenW l i<=1048576:=Cr _ _
theorem qby(l:List Txt):q2s l<=2000000:=by
 have h:=qau (T:=256) (lenW_le l) l.length 0 (min 1048576 l.length);have:=Cr 1048576 l.length;unfold q2s;omega
theorem qh1{l:List Txt}(h:q2s l<=256):Few l:=by
 have h0:=q8t 256 (lenW l) l.length 0 (min 1048576 l.length);have h1:min 1048576 l.length<=256:=AZ h0 h;refine⟨by omega,λt ht=>?_⟩;obtain⟨i,hi,rfl⟩:=Du.1 ht;have h2:=qav (Ak 256) l.length 0 _ h i (by omega) (by omega);unfold lenW at h2;rw[q2t hi]at h2;omega
section
variable {g:q10} {ss:List StpV} {bs:List BlkV} {r:ResV} {n:Nat}
theorem qh2{l:List Txt}(hl:l.length<=140737488355328)(hn:9000000000000000<=n):evF EnD (n+1) 98 [rowF l]=some [iF (q2s l:Int)]:=by
 have h:=qbx (F:=λm i v=>q5r.l3 n [] m [rowF l,iF (v:Int),iF (i:Int)]) (len:=l.length) (T:=256) (X:=1048576) (w:=lenW l) (fin:=λv=>some [iF (v:Int)])
  (λm i v hi hv=>by
   have hw:=lenW_le l i;show q5r.l3 n [] (m+1) _=_;rw[q5r.qm,Aa,Af,Ac,Af,Ac,q9 hi,Ae,q8s hi,q2k,Ae,q1c,show(1048576:Int)=((1048576:Nat):Int) from rfl,q9x,qc,<- CE,qk];unfold lenW
   rw[q2t hi])
  (λm i v hi hv=>by
   show q5r.l3 n [] (m+1) _=_
   rw[q5r.qm,Aa,Af,Ac,Ad,Ab])
  (λm v=>by
   show q5r.l3 n [] (m+1) _=_
   rw[q5r.qm,Aa,Ad,Ab]) l.length 0 n (min 1048576 l.length) (by omega) (by omega)
 rw[qqz,Aa,show(1048576:Int)=((1048576:Nat):Int) from rfl,q9x];exact h
def whoW(ss:List StpV)(i:Nat):Nat:=min 1048576 (ss.getD i default).who.size
def blkW(bs:List BlkV)(i:Nat):Nat:=min 1048576 (bs.getD i default).qty.length+min 1048576 (bs.getD i default).who.size
theorem whoW_le(i:Nat):whoW ss i<=1048576:=Cr _ _
theorem qh3(i:Nat):blkW bs i<=2097152:=by
 have h1:=Cr 1048576 (bs.getD i default).qty.length;have h2:=Cr 1048576 (bs.getD i default).who.size;unfold blkW;omega
theorem v16_run(hS:Sw g ss bs r)(hn:9000000000000000<=n){v:Nat}(hv:v<=9000000000000000) :
  qv.l16 (n+1) [] (n+1) (cL g ss bs r [iF (v:Int),iF 0])=some [.bool (decide ((gat 256 (λi=>q2s (r.p.getD i [])) r.p.length 0 v:Int)>256))]:=by
 have hl:=hS.pl;exact qbx (F:=λm i v=>qv.l16 (n+1) [] m (cL g ss bs r [iF (v:Int),iF (i:Int)])) (len:=r.p.length) (T:=256) (X:=2000000) (w:=λi=>q2s (r.p.getD i [])) (fin:=λv=>some [.bool (decide ((v:Int)>256))])
  (λm i v hi hv=>by
   have hw:=qby r.p[i];show qv.l16 (n+1) [] (m+1) _=_;rw[qv.l16_eq,Aa,Af,Ac,Af,Ac,q9 hi,Ae,q2f hi,qy,Ae,qh2 (hS.p _ (Ah hi)) hn];simp only[rr]
   rw[qc,<- CE,qk,q2t hi])
  (λm i v hi hv=>by
   show qv.l16 (n+1) [] (m+1) _=_
   rw[qv.l16_eq,Aa,Af,Ac,Ad,Ab])
  (λm v=>by
   show qv.l16 (n+1) [] (m+1) _=_
   rw[qv.l16_eq,Aa,Ad,Ab]) r.p.length 0 (n+1) v (by omega) (by omega)
theorem v12_run(hS:Sw g ss bs r)(hn:9000000000000000<=n){v:Nat}(hv:v<=9000000000000000) :
  qv.l12 (n+1) [] (n+1) (cL g ss bs r [iF (v:Int),iF 0])=qv.l16 (n+1) [] (n+1) (cL g ss bs r [iF (gat 256 (λi=>q2s (r.f.getD i [])) r.f.length 0 v:Int),iF 0]):=by
 have hl:=hS.fl;exact qbx (F:=λm i v=>qv.l12 (n+1) [] m (cL g ss bs r [iF (v:Int),iF (i:Int)])) (len:=r.f.length) (T:=256) (X:=2000000) (w:=λi=>q2s (r.f.getD i [])) (fin:=λv=>qv.l16 (n+1) [] (n+1) (cL g ss bs r [iF (v:Int),iF 0]))
  (λm i v hi hv=>by
   have hw:=qby r.f[i];show qv.l12 (n+1) [] (m+1) _=_;rw[qv.q3z,Aa,Af,Ac,Af,Ac,q9 hi,Ae,q2f hi,qy,Ae,qh2 (hS.f _ (Ah hi)) hn];simp only[rr]
   rw[qc,<- CE,qk,q2t hi])
  (λm i v hi hv=>by
   show qv.l12 (n+1) [] (m+1) _=_
   rw[qv.q3z,Aa,Af,Ac,Ad,Ab])
  (λm v=>by
   show qv.l12 (n+1) [] (m+1) _=_
   rw[qv.q3z,Aa,Ad,Ab]) r.f.length 0 (n+1) v (by omega) (by omega)
theorem v7_run(hS:Sw g ss bs r)(hn:9000000000000000<=n){v:Nat}(hv:v<=8000000000000000) :
  qv.l7 (n+1) [] (n+1) (cL g ss bs r [iF (v:Int),iF 0])=qv.l12 (n+1) [] (n+1) (cL g ss bs r [iF ((gat 1024 (blkW bs) bs.length 0 v+q2s r.x:Nat):Int),iF 0]):=by
 have hl:=hS.bsl;have hx:=qby r.x;have fin:∀v:Nat,v<=8500000000000000->((evF EnD (n+1) 98 [.list 1 (r.x.map sF)]).bind λr6=>(asInt .i64 (r6[0]?)).bind λn7=>qv.l12 (n+1) [] (n+1) (cL g ss bs r [.int .i64 (w6 ((v:Int)+n7)),iF 0]))=qv.l12 (n+1) [] (n+1) (cL g ss bs r [iF ((v+q2s r.x:Nat):Int),iF 0]):=by
  intro v hv;rw[show FV.list 1 (r.x.map sF)=rowF r.x from rfl,qh2 hS.xl hn];simp only[rr];rw[<- CE,qk]
 have top:=qau (T:=1024) (qh3 (bs:=bs)) bs.length 0 v;have h:=qbx (F:=λm i v=>qv.l7 (n+1) [] m (cL g ss bs r [iF (v:Int),iF (i:Int)])) (len:=bs.length) (T:=1024) (X:=2097152) (w:=blkW bs) (fin:=λv=>(evF EnD (n+1) 98 [.list 1 (r.x.map sF)]).bind λr6=>(asInt .i64 (r6[0]?)).bind λn7=>qv.l12 (n+1) [] (n+1) (cL g ss bs r [.int .i64 (w6 ((v:Int)+n7)),iF 0]))
  (λm i v hi hv=>by
   have hw:=qh3 (bs:=bs) i;have q1:=Cr 1048576 bs[i].qty.length;have q2:=Cr 1048576 bs[i].who.size;show qv.l7 (n+1) [] (m+1) _=_;rw[qv.q2u,Aa,Af,Ac,Af,Ac,q9 hi];simp only[q2g hi,rr];rw[Aa,show(1048576:Int)=((1048576:Nat):Int) from rfl,q9x,q9x,qc,<- CE,qk (x:=((min 1048576 bs[i].qty.length+min 1048576 bs[i].who.size:Nat):Int)) (by omega) (by omega),<- CE,qk];unfold blkW
   rw[q2t hi])
  (λm i v hi hv=>by
   show qv.l7 (n+1) [] (m+1) _=_
   rw[qv.q2u,Aa,Af,Ac,Ad,Ab])
  (λm v=>by
   show qv.l7 (n+1) [] (m+1) _=_
   rw[qv.q2u,Aa,Ad,Ab]) bs.length 0 (n+1) v (by omega) (by omega)
 exact h.trans (fin _ (by omega))
theorem v3_run(hS:Sw g ss bs r)(hn:9000000000000000<=n){v:Nat}(hv:v<=8000000000000000) :
  qv.l3 (n+1) [] (n+1) (cL g ss bs r [iF (v:Int),iF 0])=qv.l7 (n+1) [] (n+1) (cL g ss bs r [iF (gat 1024 (whoW ss) ss.length 0 v:Int),iF 0]):=by
 have hl:=hS.ssl;exact qbx (F:=λm i v=>qv.l3 (n+1) [] m (cL g ss bs r [iF (v:Int),iF (i:Int)])) (len:=ss.length) (T:=1024) (X:=1048576) (w:=whoW ss) (fin:=λv=>qv.l7 (n+1) [] (n+1) (cL g ss bs r [iF (v:Int),iF 0]))
  (λm i v hi hv=>by
   have q2:=Cr 1048576 ss[i].who.size;show qv.l3 (n+1) [] (m+1) _=_;rw[qv.qm,Aa,Af,Ac,Af,Ac,q9 hi];simp only[q2z hi,rr];rw[show(1048576:Int)=((1048576:Nat):Int) from rfl,q9x,qc,<- CE,qk];unfold whoW
   rw[q2t hi])
  (λm i v hi hv=>by
   show qv.l3 (n+1) [] (m+1) _=_
   rw[qv.qm,Aa,Af,Ac,Ad,Ab])
  (λm v=>by
   show qv.l3 (n+1) [] (m+1) _=_
   rw[qv.qm,Aa,Ad,Ab]) ss.length 0 (n+1) v (by omega) (by omega)
theorem qq8(hS:Sw g ss bs r)(hz:∀b,b∈bs->∀z,z∈b.qty->-9223372036854775808<=z/\z<=9223372036854775807)(hn:9000000000000000<=n):∃b,(∀k,evF EnD (n+k+2) 29 (cL g ss bs r [])=some [.bool b])/\(b=false->Sm g ss bs r/\Sq ss bs r/\(∀s,s∈ss->s.who.size<=1000000)/\∀b,b∈bs->b.who.size<=1000000):=by
 obtain⟨a1,a2,a3,a4,a5,a6,a7,_,_⟩:=hS;have hS:Sw g ss bs r:=⟨a1,a2,a3,a4,a5,a6,a7,by assumption,by assumption⟩;have b1:=Cr 1048576 r.qn.length;have b2:=Cr 1048576 r.upper.length;obtain⟨v,hv⟩:∃v,v=ss.length+bs.length+r.x.length+r.f.length+r.p.length+g.lines.length+r.accept.length+min 1048576 r.qn.length+min 1048576 r.upper.length:=⟨_,rfl⟩;obtain⟨u1,e1⟩:∃u,u=gat 1024 (whoW ss) ss.length 0 v:=⟨_,rfl⟩;obtain⟨u2,e2⟩:∃u,u=gat 1024 (blkW bs) bs.length 0 u1:=⟨_,rfl⟩;obtain⟨u3,e3⟩:∃u,u=gat 256 (λi=>q2s (r.f.getD i [])) r.f.length 0 (u2+q2s r.x):=⟨_,rfl⟩;obtain⟨u4,e4⟩:∃u,u=gat 256 (λi=>q2s (r.p.getD i [])) r.p.length 0 u3:=⟨_,rfl⟩;have t1:=qau (T:=1024) (whoW_le (ss:=ss)) ss.length 0 v;have t2:=qau (T:=1024) (qh3 (bs:=bs)) bs.length 0 u1;have t3:=qau (T:=256) (w:=λi=>q2s (r.f.getD i [])) (X:=2000000) (λi=>qby _) r.f.length 0 (u2+q2s r.x);have tx:=qby r.x;rw[<- e1]at t1;rw[<- e2]at t2;rw[<- e3]at t3;have m1:=q8t 1024 (whoW ss) ss.length 0 v;have m2:=q8t 1024 (blkW bs) bs.length 0 u1;have m3:=q8t 256 (λi=>q2s (r.f.getD i [])) r.f.length 0 (u2+q2s r.x);have m4:=q8t 256 (λi=>q2s (r.p.getD i [])) r.p.length 0 u3;rw[<- e1]at m1;rw[<- e2]at m2;rw[<- e3]at m3;rw[<- e4]at m4;refine⟨decide ((u4:Int)>256),λk=>?_,λhb=>?_⟩
 ·have g1:=v3_run (n:=n+k) hS (by omega) (v:=v) (by omega);have g2:=v7_run (n:=n+k) hS (by omega) (v:=u1) (by omega);have g3:=v12_run (n:=n+k) hS (by omega) (v:=u2+q2s r.x) (by omega);have g4:=v16_run (n:=n+k) hS (by omega) (v:=u3) (by omega);rw[<- e1]at g1;rw[<- e2]at g2;rw[<- e3]at g3;rw[<- e4]at g4;rw[qqy];simp only[Aa];rw[q1c,q1c,show(1048576:Int)=((1048576:Nat):Int) from rfl,q9x,q9x]
  rw[qk (x:=(ss.length:Int)+(bs.length:Int)),qk (x:=(ss.length:Int)+(bs.length:Int)+(r.x.length:Int)),
   qk (x:=(ss.length:Int)+(bs.length:Int)+(r.x.length:Int)+(r.f.length:Int)),qk (x:=(ss.length:Int)+(bs.length:Int)+(r.x.length:Int)+(r.f.length:Int)+(r.p.length:Int)),
   qk (x:=(ss.length:Int)+(bs.length:Int)+(r.x.length:Int)+(r.f.length:Int)+(r.p.length:Int)+(g.lines.length:Int)),
   qk (x:=(ss.length:Int)+(bs.length:Int)+(r.x.length:Int)+(r.f.length:Int)+(r.p.length:Int)+(g.lines.length:Int)+(r.accept.length:Int)),
   qk (x:=(ss.length:Int)+(bs.length:Int)+(r.x.length:Int)+(r.f.length:Int)+(r.p.length:Int)+(g.lines.length:Int)+(r.accept.length:Int)+((min 1048576 r.qn.length:Nat):Int)) (by omega) (by omega),
   qk (x:=(ss.length:Int)+(bs.length:Int)+(r.x.length:Int)+(r.f.length:Int)+(r.p.length:Int)+(g.lines.length:Int)+(r.accept.length:Int)+((min 1048576 r.qn.length:Nat):Int)+((min 1048576 r.upper.length:Nat):Int)) (by omega) (by omega)]
  simp only[<- CE];rw[<- hv];exact g1.trans (g2.trans (g3.trans g4))
 ·have hu:u4<=256:=by
   have:=Fk hb;omega
  have q1:=qav (T:=1024) (w:=whoW ss) (B:=256) (by omega) ss.length 0 v (by rw[<- e1];omega);have q2:=qav (T:=1024) (w:=blkW bs) (B:=256) (by omega) bs.length 0 u1 (by rw[<- e2];omega);have q3:=qav (T:=256) (w:=λi=>q2s (r.f.getD i [])) (B:=256) (by omega) r.f.length 0 (u2+q2s r.x) (by rw[<- e3];omega);have q4:=qav (T:=256) (w:=λi=>q2s (r.p.getD i [])) (B:=256) (by omega) r.p.length 0 u3 (by rw[<- e4];omega);have fx:=qh1 (l:=r.x) (by omega);have ff:∀l,l∈r.f->Few l:=λl hl=>by
   obtain⟨i,hi,rfl⟩:=Du.1 hl;have:=q3 i (by omega) (by omega);rw[q2t hi]at this;exact qh1 this
  have fp:∀l,l∈r.p->Few l:=λl hl=>by
   obtain⟨i,hi,rfl⟩:=Du.1 hl;have:=q4 i (by omega) (by omega);rw[q2t hi]at this;exact qh1 this
  have fb:∀b,b∈bs->b.qty.length<=256/\b.who.size<=256:=λb hb=>by
   obtain⟨i,hi,rfl⟩:=Du.1 hb;have:=q2 i (by omega) (by omega);unfold blkW at this;rw[q2t hi]at this;omega
  refine⟨⟨by omega,by omega,by omega,by omega,by omega,by omega,by omega,fx.2,ff,fp,by omega,by omega,λb hb=>(fb b hb).1⟩,⟨by omega,by omega,by omega,by omega,by omega,by omega,fx.2,ff,fp,λb hb=>(fb b hb).1,hz⟩,λs hs=>?_,λb hb=>by have:=(fb b hb).2;omega⟩;obtain⟨i,hi,rfl⟩:=Du.1 hs;have:=q1 i (by omega) (by omega);unfold whoW at this;rw[q2t hi]at this;omega
end
end
end Rf
