/- Merged: Pst2 Hv20 Sum20 Sum21 Sum22 Sum23 Owe1 Owe2. -/
import Derived.Test.YtcpnpoagpnkblaaGreatDoorONF
import Derived.Test.YtcpnpoagpnkblaaGreatDoorOMY
import Derived.Test.YtcpnpoagpnkblaaGreatDoorONE
set_option linter.unusedVariables false
set_option linter.unusedSimpArgs false
set_option maxHeartbeats 4000000
namespace Rf
open Go
section
theorem dtext_1{k:Nat}(hk:k<10):ql k=[chD k]:=by
 unfold ql;by_cases h:k=0
 ·subst h;rw[if_pos rfl];rfl
 ·rw[if_neg h,q3h (by omega) h,AK hk,CV hk,q18];rfl
theorem dig_ext{k:Nat}(hk:k<10):({ data:=#[48,49,50,51,52,53,54,55,56,57] }:ByteArray).extract k (k+1)=txt (ql k):=by
 rw[dtext_1 hk];have h:k=0\/k=1\/k=2\/k=3\/k=4\/k=5\/k=6\/k=7\/k=8\/k=9:=by omega
 rcases h with rfl | rfl | rfl | rfl | rfl | rfl | rfl | rfl | rfl | rfl <;> decide
section
variable {g:q10} {ss:List StpV} {bs:List BlkV} {r:ResV} {n:Nat}
theorem qlw{K i:Nat}{S c:Int}(hK2:K+100<=1000000000)(hK:1<=K)(hi:i<=900)(hs:S.natAbs<=i*2^K)(hc:c.natAbs<2^K) :
  evF EnD (n+1) 37 [zb ((S:Rat)).num,wl ((S:Rat)).num,.bool false,wL ((S:Rat)).den,zb ((c:Rat)).num,wl ((c:Rat)).num,.bool false,wL ((c:Rat)).den]=some [zb (((S+c:Int):Rat)).num,wl (((S+c:Int):Rat)).num,.bool false,wL (((S+c:Int):Rat)).den]/\(S+c).natAbs<=(i+1)*2^K:=by
 refine⟨?_,(step_bd hs hc).2⟩;have hs2:S.natAbs<2^(K+20):=BG hs (qei);rw[qaz ((Bd.int (k:=K+20) hs2 (by omega)).mono) ((Bd.int (k:=K) hc hK).mono) (qb _) (qb _),CB]
theorem qts(hS:Sq ss bs r)(hs:q37 g ss bs r)(hr:q1u r=true)(hl:g.lines.length<=9){K:Nat}(hK:80000002<=K)(hK2:K+100<=1000000000)(hn:1000<=n):∀(c k m i:Nat) (s:Int) (E:List FV),k+c=g.lines.length->c<m->i+c<=800->s.natAbs<=i*2^K->E.length+c<=100000 ->
  q46.l18 (n+9) [] m (gR g (rL r [zb ((s:Rat)).num,wl ((s:Rat)).num,.bool false,wL ((s:Rat)).den,.list 2 E,iF k])) =
   some [.list 2 (E++(List.range' k c).map (entR g r)++[entF qcb (qu (-(s+sumZ ((List.range' k c).map (cR g r)))))]),iF 0]:=by
 intro c
 induction c with
 |zero =>
  intro k m i s E hk hm hi hsb hE;obtain⟨m,rfl⟩:=qSx m;obtain rfl:k=g.lines.length:=by omega
  have hs2:s.natAbs<2^(K+20):=BG hsb (qei);have bsR:Bd (K+20) (s:Rat):=Bd.int (k:=K+20) hs2 (by omega);rw[q46.q55,Aa,Ad,Ab,x_neg (qb _)];simp only[rr];rw[x_text (bsR.neg.mono) (qb _)];simp (disch:=omega) only[el1,rr];rw[q5v (by rw[Cm];omega),Ac,show s+sumZ ((List.range' g.lines.length 0).map (cR g r))=s from by show s+0=s;omega,<- qjy,CS];show _=some [FV.list 2 (E++[]++_),_];rw[AM];rfl
 |succ c ih =>
  intro k m i s E hk hm hi hsb hE;obtain⟨m,rfl⟩:=qSx m;have hkl:k<g.lines.length:=by omega
  have hb:=cR_bd hS hs hr hkl;have ec:cR g r k=q1x (q56 r g.lines[k] k):=by unfold cR;rw[q2t hkl]
  have hc:(cR g r k).natAbs<2^K:=by rw[ec];exact AP (qeb (hb.mono (show 80000000<=K-2 by omega))) (AX (by omega) (by omega))
  have h35:=wRent_run (n:=n+5) (g:=g) hS (by omega) (k:Int);rw[BY (by omega),show((k:Int)).toNat=k from rfl,q2t hkl,qhi hs hr hkl,Ac]at h35;obtain⟨p1,p2⟩:=qlw (n:=n+8) hK2 (by omega) (by omega:i<=900) hsb hc;have hdl:(ql k).length=1:=by rw[dtext_1 (by omega)];rfl
  rw[q46.q55,Aa,Af,Ac];rw[show evF EnD (n+9) 35 _=_ from h35];simp only[rr];rw[qds (n:=n+8) (qdt (q56 r g.lines[k] k)) (by have:=len3 (m:=26666667) (hb.mono);omega)];simp only[rr];rw[x_round (n:=n+8) (hb.mono) (qb _),<- ec];simp only[rr];rw[x_of (n:=n+8) (z:=1)];simp only[rr];rw[show evF EnD (n+9) 43 _=_ from x_den1 (n:=n+8)];simp only[rr];rw[show evF EnD (n+9) 79 _=_ from x_make1 (n:=n+8) (K:=K) (z:=cR g r k) (by omega) (by omega) hc];simp only[rr];rw[show evF EnD (n+9) 37 _=_ from p1];simp only[rr];rw[qc (by omega),q1v (show k+1<=10 by omega),Ae,q1v (show k<=k+1 by omega),Ae,dig_ext (by omega),q1c,hdl,Ad,Ab];rw[show evF EnD (n+9) 25 _=_ from x_ntext (n:=n+8) (K:=K) (z:=cR g r k) (by omega) hc];simp (disch:=omega) only[el1,rr];rw[show({ data:=#[108,105,110,101,45] }:ByteArray)=txt lineT from rfl,q5m,q5v (by rw[Cm];omega),Ac];have e:=ih (k+1) m (i+1) (s+cR g r k) (E++[entR g r k]) (by omega) (by omega) (by omega) p2 (by rw[Bb,Cm];omega);refine BQ ?_ (e.trans ?_)
  ·rfl
  ·rw[BK,AQ,AQ,show sumZ (cR g r k::(List.range' (k+1) c).map (cR g r))=cR g r k+sumZ ((List.range' (k+1) c).map (cR g r)) from rfl,Ap E,show s+cR g r k+sumZ ((List.range' (k+1) c).map (cR g r))=s+(cR g r k+sumZ ((List.range' (k+1) c).map (cR g r))) from by omega];rfl
theorem qtt(hS:Sq ss bs r)(hs:q37 g ss bs r)(hr:q1u r=true)(hl:g.lines.length<=9){N:List Txt}(hN:N.length<=600)(hNb:∀t,t∈N->t.length<=1000000){K:Nat}(hK:80000002<=K)(hK2:K+100<=1000000000)(hn:1000<=n):∀(c i m:Nat) (s:Int) (E:List FV),i+c=N.length->c<m->s.natAbs<=i*2^K->E.length<=i ->
  q46.l7 (n+9) [] m (gR g (rL r [zb ((s:Rat)).num,wl ((s:Rat)).num,.bool false,wL ((s:Rat)).den,.list 7 (ss.map StpV.fv),.list 8 (bs.map BlkV.fv),.list 1 (N.map sF),.list 2 E,iF i])) =
   some (bif(N.drop i).all (λt=>q2x (txt t))then [.list 2 (E++(N.drop i).map (entW ss bs r)++(List.range' 0 g.lines.length).map (entR g r)++[entF qcb (qu (-(s+sumZ ((N.drop i).map (cW ss bs r))+sumZ ((List.range' 0 g.lines.length).map (cR g r)))))]),iF 0]else [.list 2 [],iF 1]):=by
 intro c
 induction c with
 |zero =>
  intro i m s E hi hm hsb hE;obtain⟨m,rfl⟩:=qSx m;obtain rfl:i=N.length:=by omega
  have h:=qts hS hs hr hl hK hK2 hn g.lines.length 0 (n+9) N.length s E (by omega) (by omega) (by omega) hsb (by omega);rw[q46.q2u,Aa,Ad,Ab,CP];refine h.trans ?_;rw[show([]:List Txt).all (λt=>q2x (txt t))=true from rfl,Ac,BE,AM,show s+sumZ (([]:List Txt).map (cW ss bs r))=s from by show s+0=s;omega]
 |succ c ih =>
  intro i m s E hi hm hsb hE;obtain⟨m,rfl⟩:=qSx m;have hil:i<N.length:=by omega
  have hb:=hNb _ (Ah hil);obtain⟨_,h97⟩:=name_at (n:=n+8) true (txt N[i]) (by rw[q1c];omega);rw[q46.q2u,Aa,Af,Ac,q9 hil];simp only[q50 hil,rr];rw[h97];simp only[rr];rw[AY hil,Bk];cases hnv:q2x (txt N[i])with
  |false=>rfl
  |true =>
   have hb2:=cW_bd hS hs hr N[i];have hc:(cW ss bs r N[i]).natAbs<2^K:=AP (qeb (hb2.mono (show 80000000<=K-2 by omega))) (AX (by omega) (by omega));have h33:=qto (n:=n+5) (who:=txt N[i]) hS (by omega);rw[qbl hs hr,Ac]at h33;obtain⟨p1,p2⟩:=qlw (n:=n+8) hK2 (by omega) (by omega:i<=900) hsb hc;rw[Am,Ab,AB];rw[show evF EnD (n+9) 33 _=_ from h33];simp only[rr];rw[qds (n:=n+8) (qdt (amtV ss bs r (txt N[i]))) (by have:=len3 (m:=26666667) (hb2.mono);omega)];simp only[rr];rw[x_round (n:=n+8) (hb2.mono) (qb _),show q1x (amtV ss bs r (txt N[i]))=cW ss bs r N[i] from rfl];simp only[rr];rw[x_of (n:=n+8) (z:=1)];simp only[rr];rw[show evF EnD (n+9) 43 _=_ from x_den1 (n:=n+8)];simp only[rr];rw[show evF EnD (n+9) 79 _=_ from x_make1 (n:=n+8) (K:=K) (z:=cW ss bs r N[i]) (by omega) (by omega) hc];simp only[rr];rw[show evF EnD (n+9) 37 _=_ from p1];simp only[rr];rw[q1c,Ad,Ab];rw[show evF EnD (n+9) 25 _=_ from x_ntext (n:=n+8) (K:=K) (z:=cW ss bs r N[i]) (by omega) hc];simp (disch:=omega) only[el1,rr];rw[show({ data:=#[119,104,111,45] }:ByteArray)=txt whoT from rfl,q5m,q5v (by rw[Cm];omega),Ac,qc (by omega)];have e:=ih (i+1) m (s+cW ss bs r N[i]) (E++[entW ss bs r N[i]]) (by omega) (by omega) p2 (by rw[Bb,Cm];omega);refine BQ ?_ (e.trans ?_)
   ·rfl
   ·rw[AQ,AQ,show sumZ (cW ss bs r N[i]::(N.drop (i+1)).map (cW ss bs r))=cW ss bs r N[i]+sumZ ((N.drop (i+1)).map (cW ss bs r)) from rfl,Ap E,show s+cW ss bs r N[i]+sumZ ((N.drop (i+1)).map (cW ss bs r))=s+(cW ss bs r N[i]+sumZ ((N.drop (i+1)).map (cW ss bs r))) from by omega];rfl
theorem qjz(hS:Sq ss bs r)(hws:∀s,s∈ss->s.who.size<=1000000)(hwb:∀b,b∈bs->b.who.size<=1000000):(∀t,t∈q26 ss bs->t.length<=1000000)/\(q26 ss bs).length<=600:=by
 constructor
 ·intro t ht;rw[qgy]at ht;unfold whoL at ht;rcases BL.1 ht with q | q
  ·obtain⟨s,hs1,rfl⟩:=BD.1 q;rw[Bw];exact hws s hs1
  ·obtain⟨s,hs1,rfl⟩:=BD.1 q;rw[Bw];exact hwb s hs1
 ·have h1:=qlx (sortL (whoL ss bs));have h2:(sortL (whoL ss bs)).length=(whoL ss bs).length:=(Fj _ _).length_eq;have h3:(whoL ss bs).length=ss.length+bs.length:=by unfold whoL;simp only[Bb,Aa]
  have:=hS.ssl;have:=hS.bsl;show(Lib.compact (sortL (whoL ss bs))).length<=600;omega
theorem qq6(h:Sm g ss bs r)(hS:Sq ss bs r)(hws:∀s,s∈ss->s.who.size<=1000000)(hwb:∀b,b∈bs->b.who.size<=1000000)(hn:300000<=n) :
  evF EnD (n+10) 27 (gR g (.list 7 (ss.map StpV.fv)::.list 8 (bs.map BlkV.fv)::rL r []))=some (qak g ss bs r):=by
 have h17:evF EnD (n+9) 17 (gR g (.list 7 (ss.map StpV.fv)::.list 8 (bs.map BlkV.fv)::rL r []))=some [iF (chkV g ss bs r)]:=by
  have:evF EnD (n+9) 17 (gR g (.list 7 (ss.map StpV.fv)::.list 8 (bs.map BlkV.fv)::rL r []))=limO EnB 17 (gR g (.list 7 (ss.map StpV.fv)::.list 8 (bs.map BlkV.fv)::rL r [])):=by kernel_rfl
  rw[this];refine q1j ⟨101,λn hn=>?_⟩;obtain⟨k,rfl⟩:∃k,n=k+101:=⟨n-101,by omega⟩;exact qju h
 rw[qsc,h17];simp only[rr];unfold qak;by_cases hc:chkV g ss bs r=0
 ·obtain⟨hs,hr⟩:=qbk hc;obtain⟨K,hK,hK2⟩:∃K,80000002<=K/\K+100<=1000000000:=⟨80000002,by omega,by omega⟩;have hl:g.lines.length<=9:=by
   obtain⟨o1,_⟩:=q6p hs.ord;unfold q36 at o1;simp only[Ai,As]at o1;omega
  obtain⟨hm,hlen⟩:=qjz hS hws hwb;rw[hc,show((0:Int) !=0)=false from rfl,Ab,Af rfl,AB,qk1 (n:=n+8) hS.ssl hS.bsl (by omega)];simp only[rr];rw[x_of (n:=n+8) (z:=0)];simp (disch:=omega) only[el0,rr];have e2:=qtt hS hs hr hl hlen hm hK hK2 (by omega:1000<=n) (q26 ss bs).length 0 (n+9) 0 [] (by omega) (by omega) (by simp) (by simp);refine e2.trans ?_;unfold qdu totV;rw[Av,At,show(0:Int)+sumZ ((q26 ss bs).map (cW ss bs r))+sumZ ((List.range' 0 g.lines.length).map (cR g r))=sumZ ((q26 ss bs).map (cW ss bs r))+sumZ ((List.range' 0 g.lines.length).map (cR g r)) from by omega]
 ·rw[show(chkV g ss bs r !=0)=true from by simpa using hc,Ac,Ad hc];rfl
end
end
section
theorem blkV_of20{cs:List FV}(h:All2 Fits blkShp cs):∃b:BlkV,mkEl true cs=b.fv/\(b.qty.length<=140737488351232/\∀z,z∈b.qty->-9223372036854775808<=z/\z<=9223372036854775807):=by
 obtain⟨x1,r1,rfl,h1,h⟩:=h.cons_inv;obtain⟨x2,r2,rfl,h2,h⟩:=h.cons_inv;obtain⟨x3,r3,rfl,h3,h⟩:=h.cons_inv;obtain⟨x4,r4,rfl,h4,h⟩:=h.cons_inv;obtain⟨x5,r5,rfl,h5,h⟩:=h.cons_inv;obtain⟨x6,r6,rfl,h6,h⟩:=h.cons_inv;obtain⟨x7,r7,rfl,h7,h⟩:=h.cons_inv;obtain⟨x8,r8,rfl,h8,h⟩:=h.cons_inv;obtain rfl:=h.q88;obtain⟨s1,rfl,_⟩:=h1.q5b;obtain⟨n2,rfl,_⟩:=h2.q1n;obtain⟨n3,rfl,_⟩:=h3.q1n;obtain⟨b4,rfl⟩:=h4.q49;obtain⟨n5,rfl,_⟩:=h5.q1n;obtain⟨q,rfl,hq,hqr⟩:=h6.q8y iF (R:=λz=>-9223372036854775808<=z/\z<=9223372036854775807) λcs hcs=>by
  obtain⟨y,r,rfl,hy,hr⟩:=hcs.cons_inv;obtain rfl:=hr.q88;obtain⟨z,rfl,z1,z2⟩:=hy.q1n;exact⟨z,rfl,z1,z2⟩
 obtain⟨n7,rfl,_⟩:=h7.q1n;obtain⟨n8,rfl,_⟩:=h8.q1n;exact⟨⟨s1,n2,n3,b4,n5,q,n7,n8⟩,rfl,by show q.length<=_;omega,hqr⟩
theorem case_of20 {S:List Shp} {L:List FV} (h:All2 Fits (.int .i64::.int .i64::.lst true 24 [.int .i64,.int .i64,.int .i64]::.int .i64::.int .i64::.lst true 64 [.str,.int .i64,.int .i64,.int .i64,.bool,.int .i64,.int .i64] ::
  .lst true 88 [.str,.int .i64,.int .i64,.bool,.int .i64,.lst false 8 [.int .i64],.int .i64,.int .i64]::.lst false 1 [.bool]::.lst false 16 [.str]::.lst false 24 [.lst false 16 [.str]]::.lst false 24 [.lst false 16 [.str]]::.str::.str::.bool::.int .i64::S) L) :
  ∃g ss bs r rest,L=cL g ss bs r rest/\Sw g ss bs r/\(∀b,b∈bs->∀z,z∈b.qty->-9223372036854775808<=z/\z<=9223372036854775807)/\All2 Fits S rest:=by
 obtain⟨x1,r1,rfl,h1,h⟩:=h.cons_inv;obtain⟨x2,r2,rfl,h2,h⟩:=h.cons_inv;obtain⟨x3,r3,rfl,h3,h⟩:=h.cons_inv;obtain⟨x4,r4,rfl,h4,h⟩:=h.cons_inv;obtain⟨x5,r5,rfl,h5,h⟩:=h.cons_inv;obtain⟨x6,r6,rfl,h6,h⟩:=h.cons_inv;obtain⟨x7,r7,rfl,h7,h⟩:=h.cons_inv;obtain⟨x8,r8,rfl,h8,h⟩:=h.cons_inv;obtain⟨x9,r9,rfl,h9,h⟩:=h.cons_inv;obtain⟨x10,r10,rfl,h10,h⟩:=h.cons_inv;obtain⟨x11,r11,rfl,h11,h⟩:=h.cons_inv;obtain⟨x12,r12,rfl,h12,h⟩:=h.cons_inv;obtain⟨x13,r13,rfl,h13,h⟩:=h.cons_inv;obtain⟨x14,r14,rfl,h14,h⟩:=h.cons_inv;obtain⟨x15,r15,rfl,h15,hz⟩:=h.cons_inv;clear h;obtain⟨zo,rfl,_⟩:=h1.q1n;obtain⟨ho,rfl,_⟩:=h2.q1n;obtain⟨ls,rfl,e3,_⟩:=h3.q8y qz.fv (R:=λ_=>True) λcs hcs=>lineV_of hcs;obtain⟨lo,rfl,_⟩:=h4.q1n;obtain⟨hi,rfl,_⟩:=h5.q1n;obtain⟨ss,rfl,e6,_⟩:=h6.q8y StpV.fv (R:=λ_=>True) λcs hcs=>stpV_of hcs;obtain⟨bs,rfl,e7,hbz⟩:=h7.q8y BlkV.fv (R:=λb=>b.qty.length<=140737488351232/\∀z,z∈b.qty->-9223372036854775808<=z/\z<=9223372036854775807) λcs hcs=>blkV_of20 hcs;obtain⟨ac,rfl,e8,_⟩:=h8.q8y FV.bool (R:=λ_=>True) λcs hcs=>by
  obtain⟨y,r,rfl,hy,hr⟩:=hcs.cons_inv;obtain rfl:=hr.q88;obtain⟨b,rfl⟩:=hy.q49;exact⟨b,rfl,trivial⟩
 obtain⟨x,rfl,e9⟩:=h9.qii;obtain⟨f,rfl,e10,hf⟩:=rows_of h10;obtain⟨p,rfl,e11,hp⟩:=rows_of h11;obtain⟨w,rfl,_⟩:=h12.qh0;obtain⟨u,rfl,_⟩:=h13.qh0;obtain⟨op,rfl⟩:=h14.q49;obtain⟨no,rfl,_⟩:=h15.q1n
 exact⟨⟨zo,ho,ls,lo,hi⟩,ss,bs,⟨ac,x,f,p,w,u,op,no⟩,r15,rfl,
  ⟨by omega,by omega,by show ls.length<=_;omega,by show ac.length<=_;omega,e9,e10,e11,hf,hp⟩,λb hb=>(hbz b hb).2,hz⟩
def gat(T:Nat)(w:Nat->Nat):Nat->Nat->Nat->Nat
 |0,_,v=>v
 |c+1,i,v=>if v<=T then gat T w c (i+1) (v+w i)else v
theorem q8t(T:Nat)(w:Nat->Nat):∀(c i v:Nat),v<=gat T w c i v
 |0,_,_=>Ak _
 |c+1,i,v=>by
  unfold gat;split
  ·have:=q8t T w c (i+1) (v+w i);omega
  ·exact Ak _
theorem qau{T:Nat}{w:Nat->Nat}{X:Nat}(hw:∀i,w i<=X):∀(c i v:Nat),gat T w c i v<=max v (T+X)
 |0,_,_=>EW _ _
 |c+1,i,v=>by
  unfold gat;split
  ·have:=qau (T:=T) hw c (i+1) (v+w i);have:=hw i;omega
  ·exact EW _ _
theorem qav{T:Nat}{w:Nat->Nat}{B:Nat}(hT:B<=T):∀(c i v:Nat),gat T w c i v<=B->∀j,i<=j->j<i+c->w j<=B
 |0,_,_,_,_,_,_=>by omega
 |c+1,i,v,h,j,h1,h2=>by
  have hv:v<=B:=AZ (q8t T w (c+1) i v) h;unfold gat at h;rw[if_pos (by omega)]at h;by_cases e:j=i
  ·subst e;have:=q8t T w c (j+1) (v+w j);omega
  ·exact qav hT c (i+1) (v+w i) h j (by omega) (by omega)
theorem qbx{F:Nat->Nat->Nat->Res}{len T X:Nat}{w:Nat->Nat}{fin:Nat->Res}
  (h1:∀m i v,i<len->v<=T->F (m+1) i v=F m (i+1) (v+w i))
  (h2:∀m i v,i<len->T<v->F (m+1) i v=fin v) (h3:∀m v,F (m+1) len v=fin v) :
  ∀(c i m v:Nat),i+c=len->c<m->F m i v=fin (gat T w c i v):=by
 intro c
 induction c with
 |zero =>
  intro i m v hi hm;obtain⟨m,rfl⟩:=qSx m;obtain rfl:i=len:=by omega
  exact h3 m v
 |succ c ih =>
  intro i m v hi hm;obtain⟨m,rfl⟩:=qSx m;unfold gat;by_cases hc:v<=T
  ·rw[if_pos hc,h1 m i v (by omega) hc,ih (i+1) m (v+w i) (by omega) (by omega)]
  ·rw[if_neg hc,h2 m i v (by omega) (by omega)]
def lenW(l:List Txt)(i:Nat):Nat:=min 1048576 (l.getD i []).length
def q2s(l:List Txt):Nat:=gat 256 (lenW l) l.length 0 (min 1048576 l.length)
theorem lenW_le(l:List Txt)(i:Nat):lenW l i<=1048576:=Cr _ _
theorem qby(l:List Txt):q2s l<=2000000:=by
 have h:=qau (T:=256) (lenW_le l) l.length 0 (min 1048576 l.length);have:=Cr 1048576 l.length;unfold q2s;omega
theorem qh1{l:List Txt}(h:q2s l<=256):Few l:=by
 have h0:=q8t 256 (lenW l) l.length 0 (min 1048576 l.length);have h1:min 1048576 l.length<=256:=AZ h0 h;refine⟨by omega,λt ht=>?_⟩;obtain⟨i,hi,rfl⟩:=Du.1 ht;have h2:=qav (Ak 256) l.length 0 _ h i (by omega) (by omega);unfold lenW at h2;rw[q2t hi]at h2;omega
section
variable {g:q10} {ss:List StpV} {bs:List BlkV} {r:ResV} {n:Nat}
theorem qh2{l:List Txt}(hl:l.length<=140737488355328)(hn:9000000000000000<=n):evF EnD (n+1) 98 [rowF l]=some [iF (q2s l:Int)]:=by
 have h:=qbx (F:=λm i v=>q5r.l3 n [] m [rowF l,iF (v:Int),iF (i:Int)]) (len:=l.length) (T:=256) (X:=1048576) (w:=lenW l) (fin:=λv=>some [iF (v:Int)])
  (λm i v hi hv=>by
   have hw:=lenW_le l i;show q5r.l3 n [] (m+1) _=_;rw[q5r.qm,Aa,Af,Ac,Af,Ac,q9 hi,Ae,q8s hi,q2k,Ae,q1c,show(1048576:Int)=((1048576:Nat):Int) from rfl,q9x,qc (by omega),<- CE,qk];unfold lenW
   rw[q2t hi])
  (λm i v hi hv=>by
   show q5r.l3 n [] (m+1) _=_
   rw[q5r.qm,Aa,Af,Ac,Ad,Ab])
  (λm v=>by
   show q5r.l3 n [] (m+1) _=_
   rw[q5r.qm,Aa,Ad,Ab]) l.length 0 n (min 1048576 l.length) (by omega) (by omega)
 rw[qqz,Aa,show(1048576:Int)=((1048576:Nat):Int) from rfl,q9x];exact h
def whoW(ss:List StpV)(i:Nat):Nat:=min 1048576 (ss.getD i default).who.size
def blkW(bs:List BlkV)(i:Nat):Nat:=min 1048576 (bs.getD i default).qty.length+min 1048576 (bs.getD i default).who.size
theorem whoW_le(i:Nat):whoW ss i<=1048576:=Cr _ _
theorem qh3(i:Nat):blkW bs i<=2097152:=by
 have h1:=Cr 1048576 (bs.getD i default).qty.length;have h2:=Cr 1048576 (bs.getD i default).who.size;unfold blkW;omega
theorem v16_run(hS:Sw g ss bs r)(hn:9000000000000000<=n){v:Nat}(hv:v<=9000000000000000) :
  qv.l16 (n+1) [] (n+1) (cL g ss bs r [iF (v:Int),iF 0])=some [.bool (decide ((gat 256 (λi=>q2s (r.p.getD i [])) r.p.length 0 v:Int)>256))]:=by
 have hl:=hS.pl;exact qbx (F:=λm i v=>qv.l16 (n+1) [] m (cL g ss bs r [iF (v:Int),iF (i:Int)])) (len:=r.p.length) (T:=256) (X:=2000000) (w:=λi=>q2s (r.p.getD i [])) (fin:=λv=>some [.bool (decide ((v:Int)>256))])
  (λm i v hi hv=>by
   have hw:=qby r.p[i];show qv.l16 (n+1) [] (m+1) _=_;rw[qv.l16_eq,Aa,Af,Ac,Af,Ac,q9 hi,Ae,q2f hi,qy,Ae,qh2 (hS.p _ (Ah hi)) hn];simp only[rr]
   rw[qc (by omega),<- CE,qk,q2t hi])
  (λm i v hi hv=>by
   show qv.l16 (n+1) [] (m+1) _=_
   rw[qv.l16_eq,Aa,Af,Ac,Ad,Ab])
  (λm v=>by
   show qv.l16 (n+1) [] (m+1) _=_
   rw[qv.l16_eq,Aa,Ad,Ab]) r.p.length 0 (n+1) v (by omega) (by omega)
theorem v12_run(hS:Sw g ss bs r)(hn:9000000000000000<=n){v:Nat}(hv:v<=9000000000000000) :
  qv.l12 (n+1) [] (n+1) (cL g ss bs r [iF (v:Int),iF 0])=qv.l16 (n+1) [] (n+1) (cL g ss bs r [iF (gat 256 (λi=>q2s (r.f.getD i [])) r.f.length 0 v:Int),iF 0]):=by
 have hl:=hS.fl;exact qbx (F:=λm i v=>qv.l12 (n+1) [] m (cL g ss bs r [iF (v:Int),iF (i:Int)])) (len:=r.f.length) (T:=256) (X:=2000000) (w:=λi=>q2s (r.f.getD i [])) (fin:=λv=>qv.l16 (n+1) [] (n+1) (cL g ss bs r [iF (v:Int),iF 0]))
  (λm i v hi hv=>by
   have hw:=qby r.f[i];show qv.l12 (n+1) [] (m+1) _=_;rw[qv.q3z,Aa,Af,Ac,Af,Ac,q9 hi,Ae,q2f hi,qy,Ae,qh2 (hS.f _ (Ah hi)) hn];simp only[rr]
   rw[qc (by omega),<- CE,qk,q2t hi])
  (λm i v hi hv=>by
   show qv.l12 (n+1) [] (m+1) _=_
   rw[qv.q3z,Aa,Af,Ac,Ad,Ab])
  (λm v=>by
   show qv.l12 (n+1) [] (m+1) _=_
   rw[qv.q3z,Aa,Ad,Ab]) r.f.length 0 (n+1) v (by omega) (by omega)
theorem v7_run(hS:Sw g ss bs r)(hn:9000000000000000<=n){v:Nat}(hv:v<=8000000000000000) :
  qv.l7 (n+1) [] (n+1) (cL g ss bs r [iF (v:Int),iF 0])=qv.l12 (n+1) [] (n+1) (cL g ss bs r [iF ((gat 1024 (blkW bs) bs.length 0 v+q2s r.x:Nat):Int),iF 0]):=by
 have hl:=hS.bsl;have hx:=qby r.x;have fin:∀v:Nat,v<=8500000000000000->((evF EnD (n+1) 98 [.list 1 (r.x.map sF)]).bind λr6=>(asInt .i64 (r6[0]?)).bind λn7=>qv.l12 (n+1) [] (n+1) (cL g ss bs r [.int .i64 (w6 ((v:Int)+n7)),iF 0]))=qv.l12 (n+1) [] (n+1) (cL g ss bs r [iF ((v+q2s r.x:Nat):Int),iF 0]):=by
  intro v hv;rw[show FV.list 1 (r.x.map sF)=rowF r.x from rfl,qh2 hS.xl hn];simp only[rr];rw[<- CE,qk]
 have top:=qau (T:=1024) (qh3 (bs:=bs)) bs.length 0 v;have h:=qbx (F:=λm i v=>qv.l7 (n+1) [] m (cL g ss bs r [iF (v:Int),iF (i:Int)])) (len:=bs.length) (T:=1024) (X:=2097152) (w:=blkW bs) (fin:=λv=>(evF EnD (n+1) 98 [.list 1 (r.x.map sF)]).bind λr6=>(asInt .i64 (r6[0]?)).bind λn7=>qv.l12 (n+1) [] (n+1) (cL g ss bs r [.int .i64 (w6 ((v:Int)+n7)),iF 0]))
  (λm i v hi hv=>by
   have hw:=qh3 (bs:=bs) i;have q1:=Cr 1048576 bs[i].qty.length;have q2:=Cr 1048576 bs[i].who.size;show qv.l7 (n+1) [] (m+1) _=_;rw[qv.q2u,Aa,Af,Ac,Af,Ac,q9 hi];simp only[q2g hi,rr];rw[Aa,show(1048576:Int)=((1048576:Nat):Int) from rfl,q9x,q9x,qc (by omega),<- CE,qk (x:=((min 1048576 bs[i].qty.length+min 1048576 bs[i].who.size:Nat):Int)) (by omega) (by omega),<- CE,qk];unfold blkW
   rw[q2t hi])
  (λm i v hi hv=>by
   show qv.l7 (n+1) [] (m+1) _=_
   rw[qv.q2u,Aa,Af,Ac,Ad,Ab])
  (λm v=>by
   show qv.l7 (n+1) [] (m+1) _=_
   rw[qv.q2u,Aa,Ad,Ab]) bs.length 0 (n+1) v (by omega) (by omega)
 exact h.trans (fin _ (by omega))
theorem v3_run(hS:Sw g ss bs r)(hn:9000000000000000<=n){v:Nat}(hv:v<=8000000000000000) :
  qv.l3 (n+1) [] (n+1) (cL g ss bs r [iF (v:Int),iF 0])=qv.l7 (n+1) [] (n+1) (cL g ss bs r [iF (gat 1024 (whoW ss) ss.length 0 v:Int),iF 0]):=by
 have hl:=hS.ssl;exact qbx (F:=λm i v=>qv.l3 (n+1) [] m (cL g ss bs r [iF (v:Int),iF (i:Int)])) (len:=ss.length) (T:=1024) (X:=1048576) (w:=whoW ss) (fin:=λv=>qv.l7 (n+1) [] (n+1) (cL g ss bs r [iF (v:Int),iF 0]))
  (λm i v hi hv=>by
   have q2:=Cr 1048576 ss[i].who.size;show qv.l3 (n+1) [] (m+1) _=_;rw[qv.qm,Aa,Af,Ac,Af,Ac,q9 hi];simp only[q2z hi,rr];rw[show(1048576:Int)=((1048576:Nat):Int) from rfl,q9x,qc (by omega),<- CE,qk];unfold whoW
   rw[q2t hi])
  (λm i v hi hv=>by
   show qv.l3 (n+1) [] (m+1) _=_
   rw[qv.qm,Aa,Af,Ac,Ad,Ab])
  (λm v=>by
   show qv.l3 (n+1) [] (m+1) _=_
   rw[qv.qm,Aa,Ad,Ab]) ss.length 0 (n+1) v (by omega) (by omega)
theorem qq8(hS:Sw g ss bs r)(hz:∀b,b∈bs->∀z,z∈b.qty->-9223372036854775808<=z/\z<=9223372036854775807)(hn:9000000000000000<=n):∃b,(∀k,evF EnD (n+k+2) 29 (cL g ss bs r [])=some [.bool b])/\(b=false->Sm g ss bs r/\Sq ss bs r/\(∀s,s∈ss->s.who.size<=1000000)/\∀b,b∈bs->b.who.size<=1000000):=by
 obtain⟨a1,a2,a3,a4,a5,a6,a7,_,_⟩:=hS;have hS:Sw g ss bs r:=⟨a1,a2,a3,a4,a5,a6,a7,by assumption,by assumption⟩;have b1:=Cr 1048576 r.qn.length;have b2:=Cr 1048576 r.upper.length;obtain⟨v,hv⟩:∃v,v=ss.length+bs.length+r.x.length+r.f.length+r.p.length+g.lines.length+r.accept.length+min 1048576 r.qn.length+min 1048576 r.upper.length:=⟨_,rfl⟩;obtain⟨u1,e1⟩:∃u,u=gat 1024 (whoW ss) ss.length 0 v:=⟨_,rfl⟩;obtain⟨u2,e2⟩:∃u,u=gat 1024 (blkW bs) bs.length 0 u1:=⟨_,rfl⟩;obtain⟨u3,e3⟩:∃u,u=gat 256 (λi=>q2s (r.f.getD i [])) r.f.length 0 (u2+q2s r.x):=⟨_,rfl⟩;obtain⟨u4,e4⟩:∃u,u=gat 256 (λi=>q2s (r.p.getD i [])) r.p.length 0 u3:=⟨_,rfl⟩;have t1:=qau (T:=1024) (whoW_le (ss:=ss)) ss.length 0 v;have t2:=qau (T:=1024) (qh3 (bs:=bs)) bs.length 0 u1;have t3:=qau (T:=256) (w:=λi=>q2s (r.f.getD i [])) (X:=2000000) (λi=>qby _) r.f.length 0 (u2+q2s r.x);have tx:=qby r.x;rw[<- e1]at t1;rw[<- e2]at t2;rw[<- e3]at t3;have m1:=q8t 1024 (whoW ss) ss.length 0 v;have m2:=q8t 1024 (blkW bs) bs.length 0 u1;have m3:=q8t 256 (λi=>q2s (r.f.getD i [])) r.f.length 0 (u2+q2s r.x);have m4:=q8t 256 (λi=>q2s (r.p.getD i [])) r.p.length 0 u3;rw[<- e1]at m1;rw[<- e2]at m2;rw[<- e3]at m3;rw[<- e4]at m4;refine⟨decide ((u4:Int)>256),λk=>?_,λhb=>?_⟩
 ·have g1:=v3_run (n:=n+k) hS (by omega) (v:=v) (by omega);have g2:=v7_run (n:=n+k) hS (by omega) (v:=u1) (by omega);have g3:=v12_run (n:=n+k) hS (by omega) (v:=u2+q2s r.x) (by omega);have g4:=v16_run (n:=n+k) hS (by omega) (v:=u3) (by omega);rw[<- e1]at g1;rw[<- e2]at g2;rw[<- e3]at g3;rw[<- e4]at g4;rw[qqy];simp only[Aa];rw[q1c,q1c,show(1048576:Int)=((1048576:Nat):Int) from rfl,q9x,q9x]
  rw[qk (x:=(ss.length:Int)+(bs.length:Int)),qk (x:=(ss.length:Int)+(bs.length:Int)+(r.x.length:Int)),
   qk (x:=(ss.length:Int)+(bs.length:Int)+(r.x.length:Int)+(r.f.length:Int)),qk (x:=(ss.length:Int)+(bs.length:Int)+(r.x.length:Int)+(r.f.length:Int)+(r.p.length:Int)),
   qk (x:=(ss.length:Int)+(bs.length:Int)+(r.x.length:Int)+(r.f.length:Int)+(r.p.length:Int)+(g.lines.length:Int)),
   qk (x:=(ss.length:Int)+(bs.length:Int)+(r.x.length:Int)+(r.f.length:Int)+(r.p.length:Int)+(g.lines.length:Int)+(r.accept.length:Int)),
   qk (x:=(ss.length:Int)+(bs.length:Int)+(r.x.length:Int)+(r.f.length:Int)+(r.p.length:Int)+(g.lines.length:Int)+(r.accept.length:Int)+((min 1048576 r.qn.length:Nat):Int)) (by omega) (by omega),
   qk (x:=(ss.length:Int)+(bs.length:Int)+(r.x.length:Int)+(r.f.length:Int)+(r.p.length:Int)+(g.lines.length:Int)+(r.accept.length:Int)+((min 1048576 r.qn.length:Nat):Int)+((min 1048576 r.upper.length:Nat):Int)) (by omega) (by omega)]
  simp only[<- CE];rw[<- hv];exact g1.trans (g2.trans (g3.trans g4))
 ·have hu:u4<=256:=by
   have:=Fk hb;omega
  have q1:=qav (T:=1024) (w:=whoW ss) (B:=256) (by omega) ss.length 0 v (by rw[<- e1];omega);have q2:=qav (T:=1024) (w:=blkW bs) (B:=256) (by omega) bs.length 0 u1 (by rw[<- e2];omega);have q3:=qav (T:=256) (w:=λi=>q2s (r.f.getD i [])) (B:=256) (by omega) r.f.length 0 (u2+q2s r.x) (by rw[<- e3];omega);have q4:=qav (T:=256) (w:=λi=>q2s (r.p.getD i [])) (B:=256) (by omega) r.p.length 0 u3 (by rw[<- e4];omega);have fx:=qh1 (l:=r.x) (by omega);have ff:∀l,l∈r.f->Few l:=λl hl=>by
   obtain⟨i,hi,rfl⟩:=Du.1 hl;have:=q3 i (by omega) (by omega);rw[q2t hi]at this;exact qh1 this
  have fp:∀l,l∈r.p->Few l:=λl hl=>by
   obtain⟨i,hi,rfl⟩:=Du.1 hl;have:=q4 i (by omega) (by omega);rw[q2t hi]at this;exact qh1 this
  have fb:∀b,b∈bs->b.qty.length<=256/\b.who.size<=256:=λb hb=>by
   obtain⟨i,hi,rfl⟩:=Du.1 hb;have:=q2 i (by omega) (by omega);unfold blkW at this;rw[q2t hi]at this;omega
  refine⟨⟨by omega,by omega,by omega,by omega,by omega,by omega,by omega,fx.2,ff,fp,by omega,by omega,λb hb=>(fb b hb).1⟩,⟨by omega,by omega,by omega,by omega,by omega,by omega,fx.2,ff,fp,λb hb=>(fb b hb).1,hz⟩,λs hs=>?_,λb hb=>by have:=(fb b hb).2;omega⟩;obtain⟨i,hi,rfl⟩:=Du.1 hs;have:=q1 i (by omega) (by omega);unfold whoW at this;rw[q2t hi]at this;omega
end
end
section
theorem qje{f:Nat->Rat}:∀(c i:Nat) (a:Rat),(List.range' i c).foldl (λn k=>n+f k) a=a+sumI f i c
 |0,i,a=>by
  show a=a+0
  grind
 |c+1,i,a=>by
  rw[BK,Be,qje c (i+1)];show a+f i+sumI f (i+1) c=a+(f i+sumI f (i+1) c)
  grind
theorem qpb(q:Rat):2*(((q1x q:Int):Rat)-q)<=1/\-1<=2*(((q1x q:Int):Rat)-q):=by
 have e:=qfo q;obtain⟨r0,r1⟩:=rest_bd q;have p:((0:Int):Rat)<((q.den:Int):Rat):=CZ.2 (den_pos q);have c0:((0:Int):Rat)<=((q1y q:Int):Rat):=Dr.2 r0;have hx:=half_gt q;have hy:=half_lt q;have one:((1:Int):Rat)=1:=rfl;have two:((2:Int):Rat)=2:=rfl;have zero:((0:Int):Rat)=0:=rfl;rw[one,two]at hx hy;rw[zero]at p c0;have f0:(0:Rat)<=q-(q17 q:Rat):=by
  refine DJ λh=>?_;have h:q-(q17 q:Rat)<0:=Cb.1 h;have h2:=(Ej (c:=((q.den:Int):Rat)) p).2 h;rw[e]at h2
  grind
 have f1:q-(q17 q:Rat)<1:=by
  refine(Ej (c:=((q.den:Int):Rat)) p).1 ?_;rw[e];have h3:((q1y q:Int):Rat)<((q.den:Int):Rat):=CZ.2 r1
  grind
 unfold q1x;split
 ·rename_i hc;have hn:¬ q1y q+q1y q<(q.den:Int):=by omega
  have h4:¬ (q-(q17 q:Rat))*2<1:=λh=>hn (hy.1 h);rw[CB,one]
  grind
 ·rename_i hc;have hn:¬ (q.den:Int)<q1y q+q1y q:=λh=>hc (.inl h);have h4:¬ 1<(q-(q17 q:Rat))*2:=λh=>hn (hx.1 h)
  grind
section
variable {g:q10} {ss:List StpV} {bs:List BlkV} {r:ResV}
end
end
section
section
variable {g:q10} {ss:List StpV} {bs:List BlkV} {r:ResV}
theorem prP_at(hs:q37 g ss bs r)(hr:q1u r=true){h z:Int}(h0:0<=h:=by omega)(h1:h<g.qg:=by omega)(z0:0<=z:=by omega)(z1:z<g.qa:=by omega):prP r h z=r.pAt h.toNat z.toNat:=by
 have:=ok_pr hs hr h0 h1 z0 z1;unfold pOk at this;rw[Ai]at this;unfold prP;rw[if_pos this.1]
end
end
section
section
variable {g:q10} {ss:List StpV} {bs:List BlkV} {r:ResV}
end
end
section
section
variable {n:Nat} {q r:Rat} {d e:Nat}
theorem x_cmp(hq:Sz q)(hr:Sz r)(hd:dn d=q.den)(he:dn e=r.den):evF EnD (n+1) 32 [zb (q).num,wl (q).num,.bool false,wL (d),zb (r).num,wl (r).num,.bool false,wL (e)]=some [iF (cmpQ q r)]:=by
 have:evF EnD (n+1) 32 [zb (q).num,wl (q).num,.bool false,wL (d),zb (r).num,wl (r).num,.bool false,wL (e)]=evF EnA (n+1) 32 [zb (q).num,wl (q).num,.bool false,wL (d),zb (r).num,wl (r).num,.bool false,wL (e)]:=by kernel_rfl
 rw[this,q4k hq hr hd he]
end
theorem qeu{f:Nat->Rat}{K:Nat}:∀(c i:Nat),(∀j,i<=j->j<i+c->Bd K (f j))->Bd (1+(K+1)*c) (sumI f i c)
 |0,_,_=>q4w
 |c+1,i,h=>by
  have h1:=h i (by omega) (by omega);have h2:=qeu c (i+1) λj a b=>h j (by omega) (by omega);exact(h1.add h2).mono (by rw[Ce];omega)
section
variable {g:q10} {ss:List StpV} {bs:List BlkV} {r:ResV} {n:Nat}
theorem qdr(h:q28 g ss bs=true):ss.length<=32/\bs.length<=12/\g.qg<=3/\g.lines.length<=3:=by
 have h1:=(q6p h).1;unfold q28 at h;simp only[Ai,As]at h;unfold q36 at h1;simp only[Ai,As,q5q]at h1;omega
theorem amt_bd2(hS:Sq ss bs r)(hs:q37 g ss bs r)(hr:q1u r=true)(who:ByteArray):Bd 200000 (amtV ss bs r who):=by
 obtain⟨l1,l2,l3,l4⟩:=qdr hs.ord;obtain⟨o1,o2,o3⟩:=q6p hs.ord;have ok:=qbl hs hr who;unfold okA at ok;rw[Ai]at ok;have b1:Bd (1+(2048+1)*ss.length) (sumI (valS r who ss) 0 ss.length):=qeu _ _ λi _ hi=>qeg hS (by omega) (Au.1 ok.1 i (by rw[BT];omega));have b2:Bd (1+(4000+1)*bs.length) (sumI (valB r who bs) 0 bs.length):=qeu _ _ λj _ hj=>by
  have hj:j<bs.length:=by omega
  have hst:=o3 _ (Ah hj);unfold q33 at hst;simp only[Ai,q5q,As]at hst;unfold valB;rw[Ag hj];simp only;split
  ·split
   ·exact(qeu (K:=1088) bs[j].qty.length 0 λh _ _=>qef hS (Ah hj) h).mono
   ·exact q4w
  ·exact q4w
 exact(b1.add b2).mono
end
end
section
def q44(buy:Bool)(p many:Int):Int:=max 0 (q1e buy p)*many
def owesS(s:StpV):Int:=q44 s.buy s.qe s.qty
def owesB(b:BlkV):Int:=q44 b.buy b.qe (sumZ b.qty)
def oweS(who:ByteArray)(s:StpV):Int:=if s.who=who then owesS s else 0
def oweB(who:ByteArray)(b:BlkV):Int:=if b.who=who then owesB b else 0
def oweV(ss:List StpV)(bs:List BlkV)(who:ByteArray):Int:=sumZ (ss.map (oweS who))+sumZ (bs.map (oweB who))
theorem qhd{f:Nat->Rat}{w:List Int}(h:∀i (hi:i<w.length),((-w[i]:Int):Rat)<=f i):∀(c i:Nat),i+c=w.length->((-sumZ (w.drop i):Int):Rat)<=sumI f i c
 |0,i,e=>by
  rw[show i=w.length from by omega,CP];exact Fo
 |c+1,i,e=>by
  have h1:=h i (by omega);have h2:=qhd h c (i+1) (by omega);rw[AY (show i<w.length from by omega),show sumZ (w[i]::w.drop (i+1))=w[i]+sumZ (w.drop (i+1)) from rfl,Int.neg_add,CB];show _<=f i+sumI f (i+1) c
  grind
theorem qle{f:Nat->Rat}:∀(c i:Nat),sumI f (i+1) c=sumI (λj=>f (j+1)) i c
 |0,_=>rfl
 |c+1,i=>by
  show f (i+1)+sumI f (i+1+1) c=f (i+1)+sumI (λj=>f (j+1)) (i+1) c;rw[qle c (i+1)]
theorem qlf:∀l:List Int,sumI (λj=>((l.getD j 0:Int):Rat)) 0 l.length=((sumZ l:Int):Rat)
 |[]=>rfl
 |z::l=>by
  show((z:Int):Rat)+sumI (λj=>(((z::l).getD j 0:Int):Rat)) (0+1) l.length=((z+sumZ l:Int):Rat);rw[qle,CB,<- qlf l];rfl
theorem qdq:∀ {l:List Int},(∀z,z∈l->0<=z)->0<=sumZ l
 |[],_=>Int.le_refl _
 |z::l,h=>by
  have h1:=h z (AF ..);have h2:=qdq (l:=l) λy hy=>h y (AA _ hy);show 0<=z+sumZ l;omega
theorem qg6{B:Int}:∀ {l:List Int},(∀z,z∈l->z<=B)->sumZ l<=B*l.length
 |[],_=>by show(0:Int)<=B*0;omega
 |z::l,h=>by
  have h1:=h z (AF ..);have h2:=qg6 (l:=l) λy hy=>h y (AA _ hy);show z+sumZ l<=_;rw[Aq,CE,Int.mul_add];omega
theorem qlg{x p c m q:Rat}(x0:0<=x)(xq:x<=q)(m0:0<=m)(cm:c<=m)(h:0<x->p<=c):x*p<=m*q:=by
 by_cases c0:0<x
 ·have h1:=h c0;have a:=DQ x0 (show 0<=m-p by grind);have b:=DQ m0 (show 0<=q-x by grind)
  grind
 ·have e:x=0:=by grind
  subst e;have:=DQ m0 xq
  grind
theorem bd_round{q:Rat}{k:Nat}(h:Bd k q):Bd (k+2) ((q1x q:Int):Rat):=Bd.int (k:=k+2) (qeb h) (by omega)
theorem round_ge{q:Rat}{z:Int}(h:(z:Rat)<=q):z<=q1x q:=by
 obtain⟨_,h2⟩:=qpb q;have:((2*z-1:Int):Rat)<=((2*q1x q:Int):Rat):=by
  rw[Rat.intCast_sub,DK,DK,show((2:Int):Rat)=2 from rfl,show((1:Int):Rat)=1 from rfl]
  grind
 have:=Dr.1 this;omega
section
variable {g:q10} {ss:List StpV} {bs:List BlkV} {r:ResV}
theorem chk_more(h:chkV g ss bs r=0):q4b g ss r=true/\q4l ss r=true/\q5o bs r=true:=by
 unfold chkV at h;cases h1:q4b g ss r with
 |false=>rw[h1]at h;simp only[AW]at h;repeat (first | (exact absurd h (by decide)) | split at h)
 |true =>
  cases h2:q4l ss r with
  |false=>rw[h2]at h;simp only[AW]at h;repeat (first | (exact absurd h (by decide)) | split at h)
  |true =>
   cases h3:q5o bs r with
   |false=>rw[h3]at h;simp only[AW]at h;repeat (first | (exact absurd h (by decide)) | split at h)
   |true=>exact⟨rfl,rfl,rfl⟩
theorem qlh(p:Int):(0:Rat)<=((max 0 p:Int):Rat)/\(p:Rat)<=((max 0 p:Int):Rat) :=
 ⟨Dr.2 (show(0:Int)<=max 0 p by omega),Dr.2 (by omega)⟩
theorem val_stp(hs:q37 g ss bs r)(hr:q1u r=true)(hb:q4b g ss r=true)(ht:q4l ss r=true)(who:ByteArray){i:Nat}(hi:i<ss.length):((-oweS who ss[i]:Int):Rat)<=valS r who ss i:=by
 obtain⟨o1,o2,o3⟩:=q6p hs.ord;have hst:=o2 _ (Ah hi);unfold q3e at hst;simp only[Ai,q5q]at hst;unfold valS oweS;rw[Ag hi];simp only;by_cases c:ss[i].who=who
 ·rw[if_pos c,if_pos c,prP_at hs hr];unfold q4b at hb;rw[Ai]at hb;have h1:=Au.1 hb.1 i (by rw[BT];omega);unfold inR at h1;rw[q2t hi,Ai,As,As]at h1;unfold q4l at ht;have h2:=Au.1 ht i (by rw[BT];omega);unfold q8c at h2;rw[Ag hi]at h2;simp only[Ai,Ch,Bool.and_eq_false_iff,Fq]at h2;have h3:=h2.1;unfold owesS q44;rw[CS,DK];obtain⟨m0,m1⟩:=qlh (q1e ss[i].buy ss[i].qe);have x0:(0:Rat)<=r.xAt i:=h1.1;have x1:=h1.2;clear h1 h2;generalize ((max 0 (q1e ss[i].buy ss[i].qe):Int):Rat)=m at m0 m1 ⊢;cases hbuy:ss[i].buy with
  |true =>
   rw[hbuy]at h3 m1;rw[Ac,Fq]at h3;have k:=qlg x0 x1 m0 m1 (p:=r.pAt ss[i].hour.toNat ss[i].zone.toNat) λq=>by
    rcases h3 with u | u
    ·exact absurd q u
    ·show r.pAt ss[i].hour.toNat ss[i].zone.toNat<=(ss[i].qe:Rat)
     grind
   show _≤-(r.xAt i*r.pAt ss[i].hour.toNat ss[i].zone.toNat)
   grind
  |false =>
   rw[hbuy]at h3 m1;rw[Ab,Fq]at h3;have k:=qlg x0 x1 m0 m1 (p:=-r.pAt ss[i].hour.toNat ss[i].zone.toNat) λq=>by
    rcases h3 with u | u
    ·exact absurd q u
    ·show -r.pAt ss[i].hour.toNat ss[i].zone.toNat<=((-ss[i].qe:Int):Rat);rw[CS]
     grind
   show _<=r.xAt i*r.pAt ss[i].hour.toNat ss[i].zone.toNat
   grind
 ·rw[if_neg c,if_neg c];exact Fo
theorem val_blk(hs:q37 g ss bs r)(hr:q1u r=true)(hb:q5o bs r=true)(who:ByteArray){i:Nat}(hi:i<bs.length):((-oweB who bs[i]:Int):Rat)<=valB r who bs i:=by
 obtain⟨o1,o2,o3⟩:=q6p hs.ord;have hst:=o3 _ (Ah hi);unfold q33 at hst;simp only[Ai,q5q,As]at hst;have hq0:∀z,z∈bs[i].qty->0<=z:=λz hz=>(q5q.1 (Au.1 hst.1.2 z hz)).1;have hQ:=qdq hq0;have hQ':(0:Rat)<=((sumZ bs[i].qty:Int):Rat):=Dr.2 hQ;obtain⟨m0,m1⟩:=qlh (q1e bs[i].buy bs[i].qe);have hmQ:=DQ m0 hQ';have hx:i<r.accept.length:=by rw[hs.ac];exact hi
 unfold valB oweB;rw[Ag hi];simp only;by_cases c:bs[i].who=who
 ·rw[if_pos c,if_pos c];unfold owesB q44;rw[CS,DK];by_cases ca:r.accept.getD i false=true
  ·rw[if_pos ca];unfold q5o at hb;have h1:=Au.1 hb i (by rw[BT];omega);rw[q2t hx]at ca;rw[Ag hi,Ag hx,ca,As]at h1;have e1:qax bs[i] r=sumI (λh=>r.pAt h bs[i].zone.toNat*((bs[i].qty.getD h 0:Int):Rat)) 0 bs[i].qty.length-((sumZ bs[i].qty:Int):Rat)*(bs[i].qe:Rat):=by
    unfold qax;rw[qje,qge (g:=λh=>r.pAt h bs[i].zone.toNat*((bs[i].qty.getD h 0:Int):Rat)+-(((bs[i].qty.getD h 0:Int):Rat)*(bs[i].qe:Rat))) bs[i].qty.length 0 λj _ _=>by grind];rw[qkh,qgf,qki,qlf]
    grind
   have e2:sumI (valQ r bs[i]) 0 bs[i].qty.length=sgnQ bs[i].buy (sumI (λh=>r.pAt h bs[i].zone.toNat*((bs[i].qty.getD h 0:Int):Rat)) 0 bs[i].qty.length):=by
    rw[qge (g:=λh=>sgnQ bs[i].buy (r.pAt h bs[i].zone.toNat*((bs[i].qty.getD h 0:Int):Rat))) bs[i].qty.length 0 λj _ hj=>by
     unfold valQ;rw[prP_at hs hr]
     rfl]
    cases bs[i].buy with
    |true=>exact qgf ..
    |false=>rfl
   rw[e2];unfold q5p at h1;rw[e1]at h1;generalize sumI (λh=>r.pAt h bs[i].zone.toNat*((bs[i].qty.getD h 0:Int):Rat)) 0 bs[i].qty.length=S at h1 ⊢;generalize ((sumZ bs[i].qty:Int):Rat)=Q at h1 hQ' hmQ ⊢;generalize ((max 0 (q1e bs[i].buy bs[i].qe):Int):Rat)=m at m0 m1 hmQ ⊢;have hk:=DQ (show 0<=m-((q1e bs[i].buy bs[i].qe:Int):Rat) by grind) hQ';cases hbuy:bs[i].buy with
   |true =>
    rw[hbuy]at h1 hk;rw[Ac]at h1;rw[show q1e true bs[i].qe=bs[i].qe from rfl]at hk;show _≤-S
    grind
   |false =>
    rw[hbuy]at h1 hk;rw[Ab]at h1;rw[show q1e false bs[i].qe=-bs[i].qe from rfl,CS]at hk;show _<=S
    grind
  ·rw[if_neg ca]
   grind
 ·rw[if_neg c,if_neg c];exact Fo
theorem qq3(h:chkV g ss bs r=0)(who:ByteArray):((-oweV ss bs who:Int):Rat)<=amtV ss bs r who:=by
 obtain⟨hs,hr⟩:=qbk h;obtain⟨hb,ht,hg⟩:=chk_more h;have h1:=qhd (f:=valS r who ss) (w:=ss.map (oweS who)) (λi hi=>by rw[Eu];rw[Aa]at hi;exact val_stp hs hr hb ht who hi) ss.length 0 (by rw[Aa];omega);have h2:=qhd (f:=valB r who bs) (w:=bs.map (oweB who)) (λi hi=>by rw[Eu];rw[Aa]at hi;exact val_blk hs hr hg who hi) bs.length 0 (by rw[Aa];omega);rw[Av]at h1 h2;unfold amtV oweV;rw[Int.neg_add,CB]
 grind
theorem qg5{buy:Bool}{p m:Int}(h1:-100000<=p)(h2:p<=100000)(m0:0<=m)(m1:m<=3000):0<=q44 buy p m/\q44 buy p m<=300000000:=by
 unfold q44;have a:0<=max 0 (q1e buy p)/\max 0 (q1e buy p)<=100000:=by
  unfold q1e;cases buy
  ·rw[Ab];omega
  ·rw[Ac];omega
 generalize max 0 (q1e buy p)=w at a;have:=Int.mul_nonneg a.1 m0;have:=Int.mul_le_mul a.2 m1 m0 (by omega);omega
end
end
section
theorem max_if(x:Int):(if 0<x then x else 0)=max 0 x:=by omega
theorem wp_neg{p:Int}(h1:-100000<=p)(h2:p<=100000):w6 (0-p)=-p:=by
 rw[qk];omega
theorem qjv{b:Bool}{p m:Int}(h1:-100000<=p)(h2:p<=100000)(m0:0<=m)(m1:m<=3000) :
  (bif(!b)then some [FV.int .i64 (w6 ((if 0<(w6 (0-p))then(w6 (0-p))else 0)*m))]else some [.int .i64 (w6 ((if 0<p then p else 0)*m))])=some [iF (q44 b p m)]:=by
 have h:=qg5 (buy:=b) h1 h2 m0 m1;rw[wp_neg h1 h2,max_if,max_if];cases b with
 |true =>
  rw[Am,Ab,qk (x:=max 0 p*m) (by have:q44 true p m=max 0 p*m:=rfl;omega) (by have:q44 true p m=max 0 p*m:=rfl;omega)];rfl
 |false =>
  rw[AV,Ac,qk (x:=max 0 (-p)*m) (by have:q44 false p m=max 0 (-p)*m:=rfl;omega) (by have:q44 false p m=max 0 (-p)*m:=rfl;omega)];rfl
section
variable {g:q10} {ss:List StpV} {bs:List BlkV} {r:ResV} {n:Nat}
theorem owes_stp{who:ByteArray}{a b c p q:Int}{d:Bool}(h1:-100000<=p)(h2:p<=100000)(m0:0<=q)(m1:q<=3000) :
  evF EnD (n+1) 30 [iF 2,iF 0,iF 0,.str who,iF a,iF b,iF c,.bool d,iF q,iF p,.str { data:=#[] },iF 0,iF 0,.bool false,iF 0,.list 1 [],iF 0,iF 0]=some [iF (q44 d p q)]:=by
 rw[qjw,show((2:Int)==2)=true from rfl,Ac];exact qjv h1 h2 m0 m1
theorem sumZ_drop{Q:List Int}{i:Nat}(hi:i<Q.length):sumZ (Q.drop i)=Q[i]+sumZ (Q.drop (i+1)):=by rw[AY hi];rfl
theorem owes_blk{who:ByteArray}{a b p e f:Int}{d:Bool}{Q:List Int}(h1:-100000<=p)(h2:p<=100000)(hQ:∀z,z∈Q->0<=z/\z<=1000)(hl:Q.length<=3)(hn:10<=n) :
  evF EnD (n+1) 30 [iF 3,iF 0,iF 0,.str { data:=#[] },iF 0,iF 0,iF 0,.bool false,iF 0,iF 0,.str who,iF a,iF b,.bool d,iF p,.list 1 (Q.map iF),iF e,iF f]=some [iF (q44 d p (sumZ Q))]:=by
 have lp:∀(c i m:Nat) (s:Int),i+c=Q.length->c<m->0<=s->s<=1000*i->q9m.l13 n [] m [iF 3,iF 0,iF 0,.str { data:=#[] },iF 0,iF 0,iF 0,.bool false,iF 0,iF 0,.str who,iF a,iF b,.bool d,iF p,.list 1 (Q.map iF),iF e,iF f,iF p,iF s,.bool d,iF i]=some [iF (q44 d p (s+sumZ (Q.drop i)))]:=by
  intro c
  induction c with
  |zero =>
   intro i m s hi hm s0 s1;obtain⟨m,rfl⟩:=qSx m;rw[q9m.q45,Aa,Ad,Ab,show i=Q.length from by omega,CP];rw[show s+sumZ []=s from by show s+0=s;omega];exact qjv h1 h2 s0 (by omega)
  |succ c ih =>
   intro i m s hi hm s0 s1;obtain⟨m,rfl⟩:=qSx m;have hil:i<Q.length:=by omega
   obtain⟨z0,z1⟩:=hQ _ (Ah hil);rw[q9m.q45,Aa,Af,Ac,q9 hil];simp only[q4j hil,rr];rw[qc (by omega),qk,ih (i+1) m (s+Q[i]) (by omega) (by omega) (by omega) (by omega),sumZ_drop hil,EY]
 rw[qjw,show((3:Int)==2)=false from rfl,Ab,show((3:Int)==3)=true from rfl,Ac];have:=lp Q.length 0 n 0 (by omega) (by omega) (by omega) (by omega);rw[Av,Int.zero_add]at this;exact this
theorem stp_pq(h:q28 g ss bs=true){i:Nat}(hi:i<ss.length):-100000<=ss[i].qe/\ss[i].qe<=100000/\0<=ss[i].qty/\ss[i].qty<=3000:=by
 obtain⟨o1,o2,o3⟩:=q6p h;have hst:=o2 _ (Ah hi);unfold q3e at hst;unfold q36 at o1;simp only[Ai,q5q,As]at hst o1;omega
theorem blk_pq(h:q28 g ss bs=true){i:Nat}(hi:i<bs.length):-100000<=bs[i].qe/\bs[i].qe<=100000/\(∀z,z∈bs[i].qty->0<=z/\z<=1000)/\bs[i].qty.length<=3:=by
 obtain⟨o1,o2,o3⟩:=q6p h;have hst:=o3 _ (Ah hi);unfold q33 at hst;unfold q36 at o1;simp only[Ai,q5q,As]at hst o1;refine⟨by omega,by omega,λz hz=>q5q.1 (Au.1 hst.1.2 z hz),by omega⟩
theorem sum_pq{Q:List Int}(h:∀z,z∈Q->0<=z/\z<=1000)(hl:Q.length<=3):0<=sumZ Q/\sumZ Q<=3000:=by
 have h1:=qdq λz hz=>(h z hz).1;have h2:=qg6 λz hz=>(h z hz).2;omega
theorem qjx{α:Type}{f:α->Int}{l:List α}{k:Nat}(h:k<l.length):sumZ ((l.drop k).map f)=f l[k]+sumZ ((l.drop (k+1)).map f):=by rw[AY h];rfl
theorem oweS_bd(h:q28 g ss bs=true)(who:ByteArray){k:Nat}(hk:k<ss.length):0<=oweS who ss[k]/\oweS who ss[k]<=300000000:=by
 obtain⟨p1,p2,p3,p4⟩:=stp_pq h hk;unfold oweS;split
 ·exact qg5 p1 p2 p3 p4
 ·omega
theorem oweB_bd(h:q28 g ss bs=true)(who:ByteArray){k:Nat}(hk:k<bs.length):0<=oweB who bs[k]/\oweB who bs[k]<=300000000:=by
 obtain⟨p1,p2,p3,p4⟩:=blk_pq h hk;obtain⟨q1,q2⟩:=sum_pq p3 p4;unfold oweB;split
 ·exact qg5 p1 p2 q1 q2
 ·omega
theorem o13_loop(h:q28 g ss bs=true){m0:Nat}{N:List Txt}{E:List FV}{e:Int}{i:Nat}(hi:i<N.length):∀(c k m:Nat) (o:Int),k+c=ss.length->c<m->0<=o->o<=300000000*k ->
  q2e.l13 (n+9) [m0] m (cL g ss bs r [.list 2 E,iF e,.list 1 (N.map sF),iF i,iF o,iF k]) =
   q2e.l18 (n+9) [m0] (n+9) (cL g ss bs r [.list 2 E,iF e,.list 1 (N.map sF),iF i,iF (o+sumZ ((ss.drop k).map (oweS (txt N[i])))),iF 0]):=by
 obtain⟨l1,l2,l3,l4⟩:=qdr h;intro c
 induction c with
 |zero =>
  intro k m o hk hm o0 o1;obtain⟨m,rfl⟩:=qSx m;rw[q2e.q45,Aa,Ad,Ab,show k=ss.length from by omega,CP];rw[show o+sumZ (([]:List StpV).map (oweS (txt N[i])))=o from by show o+0=o;omega]
 |succ c ih =>
  intro k m o hk hm o0 o1;obtain⟨m,rfl⟩:=qSx m;have hkl:k<ss.length:=by omega
  obtain⟨p1,p2,p3,p4⟩:=stp_pq h hkl;obtain⟨w0,w1⟩:=oweS_bd h (txt N[i]) hkl;have ih':=ih (k+1) m (o+oweS (txt N[i]) ss[k]) (by omega) (by omega) (by omega) (by omega);rw[q2e.q45,Aa,Af,Ac,q9 hkl,Aa];simp only[q2z hkl,rr];rw[q9 hi];simp only[q50 hi,rr];rw[toList_eq,qjx hkl,<- EY,qc (by omega)];unfold oweS at ih' w0 w1 ⊢;by_cases q:ss[k].who=txt N[i]
  ·rw[Af q,Ac,owes_stp (n:=n+8) p1 p2 p3 p4];rw[if_pos q]at ih' w0 w1 ⊢;unfold owesS at ih' w0 w1 ⊢;simp only[rr];rw[qk];exact ih'
  ·rw[Ad q,Ab];rw[if_neg q]at ih' ⊢;rw[Int.add_zero]at ih' ⊢;exact ih'
theorem o18_loop(h0:chkV g ss bs r=0)(hS:Sq ss bs r){m0:Nat}{N:List Txt}{E:List FV}{e:Int}{i:Nat}(hi:i<N.length)(hiN:i<1000000)(hn:2000<=n)
  (hE:e=0->i<E.length/\at' E i 1=some (sF (qu (cW ss bs r N[i])))):∀(c k m:Nat) (o:Int),k+c=bs.length->c<m->0<=o->o<=300000000*(32+k)->o+sumZ ((bs.drop k).map (oweB (txt N[i])))=oweV ss bs (txt N[i]) ->
  q2e.l18 (n+9) [m0] m (cL g ss bs r [.list 2 E,iF e,.list 1 (N.map sF),iF i,iF o,iF k]) =
   q2e.l9 (n+9) [] m0 (cL g ss bs r [.list 2 E,iF e,.list 1 (N.map sF),iF ((i+1:Nat):Int)]):=by
 obtain⟨hs,hr⟩:=qbk h0;obtain⟨l1,l2,l3,l4⟩:=qdr hs.ord;intro c
 induction c with
 |zero =>
  intro k m o hk hm o0 o1 ho;obtain⟨m,rfl⟩:=qSx m;obtain rfl:k=bs.length:=by omega
  rw[CP,show o+sumZ (([]:List BlkV).map (oweB (txt N[i])))=o from by show o+0=o;omega]at ho;have hb:=amt_bd2 hS hs hr (txt N[i]);have hge:=qq3 h0 (txt N[i]);rw[<- ho]at hge;have h31:=qq4 (n:=n+1) (who:=txt N[i]) hS (by omega);rw[qbl hs hr,Ac]at h31;have bo:Bd 64 ((-o:Int):Rat):=q9n;rw[q2e.q55,Aa,Ad,Ab,Aa,q9 hi];simp only[q50 hi,rr];rw[show evF EnD (n+9) 31 _=_ from h31];simp only[rr];rw[qds (n:=n+8) (qdt (amtV ss bs r (txt N[i]))) (by have:=hb.len;omega)];simp only[rr];rw[show((0:Int) !=0)=false from rfl,Ab,Ab,qk (x:=0-o),show(0:Int)-o=-o from by omega,x_of (n:=n+8)];simp only[rr];rw[show evF EnD (n+9) 32 _=_ from x_cmp (n:=n+8) (q:=amtV ss bs r (txt N[i])) (r:=((-o:Int):Rat)) (hb.mono) (bo.mono) (qb _) (qb _)];simp only[rr];rw[q3y,Ad (Ci.2 hge),Ab];by_cases ce:e=0
  ·obtain⟨e1,e2⟩:=hE ce;subst ce;have bz:Bd 200002 ((cW ss bs r N[i]:Int):Rat):=bd_round hb;have hzo:-o<=cW ss bs r N[i]:=round_ge hge;generalize cW ss bs r N[i]=z at e2 bz hzo;rw[show((0:Int)==0)=true from rfl,Ac,q9 e1];simp (disch:=omega) only[e2,rr];rw[show qu z=qx (z:Rat) from(qjy z).symm,qds (n:=n+8) (qdt (z:Rat)) (by have:=bz.len;omega)];simp only[rr];rw[show((0:Int) !=0)=false from rfl,Ab];rw[show evF EnD (n+9) 32 _=_ from x_cmp (n:=n+8) (q:=(z:Rat)) (r:=((-o:Int):Rat)) (bz.mono) (bo.mono) (qb _) (qb _)];simp only[rr];rw[q3y,Ad (Ci.2 (Dr.2 hzo)),Ab,qc (by omega)]
  ·rw[show(e==0)=false from by rw[Bn];exact ce,Ab,qc (by omega)]
 |succ c ih =>
  intro k m o hk hm o0 o1 ho;obtain⟨m,rfl⟩:=qSx m;have hkl:k<bs.length:=by omega
  obtain⟨p1,p2,p3,p4⟩:=blk_pq hs.ord hkl;obtain⟨w0,w1⟩:=oweB_bd hs.ord (txt N[i]) hkl;rw[qjx hkl,<- EY]at ho;have ih':=ih (k+1) m (o+oweB (txt N[i]) bs[k]) (by omega) (by omega) (by omega) (by omega) ho;rw[q2e.q55,Aa,Af,Ac,q9 hkl,Aa];simp only[q2g hkl,rr];rw[q9 hi];simp only[q50 hi,rr];rw[toList_eq,qc (by omega)];unfold oweB at ih' w0 w1;by_cases q:bs[k].who=txt N[i]
  ·rw[Af q,Ac,owes_blk (n:=n+8) p1 p2 p3 p4 (by omega)];rw[if_pos q]at ih' w0 w1;unfold owesB at ih' w0 w1;simp only[rr];rw[qk];exact ih'
  ·rw[Ad q,Ab];rw[if_neg q,Int.add_zero]at ih';exact ih'
theorem o9_loop(h0:chkV g ss bs r=0)(hS:Sq ss bs r){N:List Txt}{E:List FV}{e:Int}(hN:N.length<=600)(hn:2000<=n)(hE:e=0->∀i (hi:i<N.length),i<E.length/\at' E i 1=some (sF (qu (cW ss bs r N[i])))):∀(c i m:Nat),i+c=N.length->c<m ->
  q2e.l9 (n+9) [] m (cL g ss bs r [.list 2 E,iF e,.list 1 (N.map sF),iF i])=some [.bool true]:=by
 obtain⟨hs,hr⟩:=qbk h0;obtain⟨l1,l2,l3,l4⟩:=qdr hs.ord;intro c
 induction c with
 |zero =>
  intro i m hi hm;obtain⟨m,rfl⟩:=qSx m;rw[q2e.q3r,Aa,Ad,Ab]
 |succ c ih =>
  intro i m hi hm;obtain⟨m,rfl⟩:=qSx m;have hil:i<N.length:=by omega
  have hsum:0<=sumZ (ss.map (oweS (txt N[i])))/\sumZ (ss.map (oweS (txt N[i])))<=300000000*32:=by
   have hb:∀z,z∈ss.map (oweS (txt N[i]))->0<=z/\z<=300000000:=λz hz=>by
    obtain⟨s,hs1,rfl⟩:=BD.1 hz;obtain⟨k,hk,rfl⟩:=Du.1 hs1;exact oweS_bd hs.ord _ hk
   have h1:=qdq λz hz=>(hb z hz).1;have h2:=qg6 λz hz=>(hb z hz).2;rw[Aa]at h2;omega
  rw[q2e.q3r,Aa,Af,Ac];have h13:=o13_loop (n:=n) (g:=g) (r:=r) (m0:=m) (E:=E) (e:=e) hs.ord hil ss.length 0 (n+9) 0 (by omega) (by omega) (by omega) (by omega);refine BQ h13 ?_;rw[Av,Int.zero_add];have h18:=o18_loop (n:=n) (m0:=m) (E:=E) (e:=e) h0 hS hil (by omega) hn (λq=>hE q i hil) bs.length 0 (n+9) _ (by omega) (by omega) hsum.1 (by omega) (by rw[Av];rfl);exact h18.trans (ih (i+1) m (by omega) (by omega))
theorem owes_run(h:Sm g ss bs r)(hS:Sq ss bs r)(hws:∀s,s∈ss->s.who.size<=1000000)(hwb:∀b,b∈bs->b.who.size<=1000000)(hn:300000<=n)
  (hv:evF EnD (n+10) 29 (cL g ss bs r [])=some [.bool false]):evF EnD (n+11) 9 (cL g ss bs r [])=some [.bool true]:=by
 have p5:=qq5 (n:=n) h hS hws hwb (by omega);have p6:=qq6 (n:=n) h hS hws hwb hn;obtain⟨_,hlen⟩:=qjz hS hws hwb;have p17:evF EnD (n+10) 17 (cL g ss bs r [])=some [iF (chkV g ss bs r)]:=by
  have:evF EnD (n+10) 17 (cL g ss bs r [])=limO EnB 17 (cL g ss bs r []):=by kernel_rfl
  rw[this];refine q1j ⟨101,λn hn=>?_⟩;obtain⟨n,rfl⟩:∃k,n=k+101:=⟨n-101,by omega⟩;exact qju h
 rw[qk0];refine BQ (congrArg (λo=>Option.bind o _) hv) ?_;simp only[rr];refine BQ (congrArg (λo=>Option.bind o _) p17) ?_;simp only[rr];by_cases hc:chkV g ss bs r=0
 ·rw[show(chkV g ss bs r !=0)=false from by rw[hc];rfl,Ab];refine BQ (congrArg (λo=>Option.bind o _) p5) ?_;obtain⟨E,e,q,hE⟩:∃(E:List FV) (e:Int),qak g ss bs r=[.list 2 E,iF e]/\(e=0->∀i (hi:i<(q26 ss bs).length),i<E.length/\at' E i 1=some (sF (qu (cW ss bs r (q26 ss bs)[i])))):=by
   unfold qak;cases(decide (chkV g ss bs r=0)&&(q26 ss bs).all λt=>q2x (txt t))with
   |false=>exact⟨[],1,rfl,λq=>absurd q (by decide)⟩
   |true =>
    refine⟨_,_,rfl,λ_ i hi=>?_⟩;unfold qdu;refine⟨by simp only[Bb,Aa];omega,?_⟩;unfold at';rw[Ap,Da (by rw[Aa];exact hi),Bq,Ag hi];rfl
  rw[q]at p6 ⊢;simp only[rr];refine BQ (congrArg (λo=>Option.bind o _) p6) ?_;simp only[rr];rw[show(e !=e)=false from by rw[Dq],Ab,qk1 (n:=n+9) hS.ssl hS.bsl (by omega)];simp only[rr];exact o9_loop (n:=n+1) hc hS hlen (by omega) hE (q26 ss bs).length 0 (n+10) (by omega) (by omega)
 ·rw[show(chkV g ss bs r !=0)=true from by rw[CG];exact hc,Ac]
end
theorem qq7 (L:List FV) (h:All2 Fits (.int .i64::.int .i64::.lst true 24 [.int .i64,.int .i64,.int .i64]::.int .i64::.int .i64::.lst true 64 [.str,.int .i64,.int .i64,.int .i64,.bool,.int .i64,.int .i64] ::
  .lst true 88 [.str,.int .i64,.int .i64,.bool,.int .i64,.lst false 8 [.int .i64],.int .i64,.int .i64]::.lst false 1 [.bool]::.lst false 16 [.str]::.lst false 24 [.lst false 16 [.str]]::.lst false 24 [.lst false 16 [.str]]::.str::.str::.bool::.int .i64::[]) L) :
  ∃n,evF EnD n 9 L=some [.bool true]:=by
 obtain⟨g,ss,bs,r,rest,rfl,hS,hz,h⟩:=case_of20 h;obtain rfl:=h.q88;obtain⟨b,hb,hsm⟩:=qq8 hS hz (Ak _);cases b with
 |false =>
  obtain⟨m1,m2,m3,m4⟩:=hsm rfl;exact⟨9000000000000000+2+11,owes_run m1 m2 m3 m4 (by omega) (by have:=hb 10;exact this)⟩
 |true =>
  refine⟨9000000000000000+2+1,?_⟩;have:=hb 0;rw[qk0];refine BQ (congrArg (λo=>Option.bind o _) this) ?_;simp only[rr]
end
end Rf
