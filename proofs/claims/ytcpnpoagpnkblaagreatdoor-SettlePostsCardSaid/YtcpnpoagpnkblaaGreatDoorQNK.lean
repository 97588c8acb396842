/- Texts of this work put together, their blanks and comments taken out: Pst2, Hv20, Pst3. -/
import Derived.Test.YtcpnpoagpnkblaaGreatDoorQNH
import Derived.Test.YtcpnpoagpnkblaaGreatDoorQNA
set_option linter.unusedVariables false
set_option linter.unusedSimpArgs false
set_option maxHeartbeats 4000000
namespace Rf
open Go
section
theorem dtext_1{k:Nat}(hk:k<10):qk k=[chD k]:=by
 unfold qk;by_cases h:k=0
 ·subst h;rw[if_pos rfl];rfl
 ·rw[if_neg h,q3c (by omega) h,AJ hk,CS hk,q17];rfl
theorem dig_ext{k:Nat}(hk:k<10):({ data:=#[48,49,50,51,52,53,54,55,56,57] }:ByteArray).extract k (k+1)=txt (qk k):=by
 rw[dtext_1 hk];have h:k=0\/k=1\/k=2\/k=3\/k=4\/k=5\/k=6\/k=7\/k=8\/k=9:=by omega
 rcases h with rfl | rfl | rfl | rfl | rfl | rfl | rfl | rfl | rfl | rfl <;> decide
section
variable {g:q12} {ss:List StpV} {bs:List BlkV} {r:ResV} {n:Nat}
theorem ql6{K i:Nat}{S c:Int}(hK2:K+100<=1000000000)(hK:1<=K)(hi:i<=900)(hs:S.natAbs<=i*2^K)(hc:c.natAbs<2^K) :
  evF EnD (n+1) 37 [zb ((S:Rat)).num,wl ((S:Rat)).num,.bool false,wL ((S:Rat)).den,zb ((c:Rat)).num,wl ((c:Rat)).num,.bool false,wL ((c:Rat)).den]=some [zb (((S+c:Int):Rat)).num,wl (((S+c:Int):Rat)).num,.bool false,wL (((S+c:Int):Rat)).den]/\(S+c).natAbs<=(i+1)*2^K:=by
 refine⟨?_,(step_bd hs hc).2⟩;have hs2:S.natAbs<2^(K+20):=BF hs (qe4 (by omega));rw[qar ((Bd.int (k:=K+20) hs2 (by omega)).mono (by omega)) ((Bd.int (k:=K) hc hK).mono (by omega)) (qb _) (qb _),DD]
theorem qt0(hS:Sq ss bs r)(hs:q3v g ss bs r)(hr:q24 r=true)(hl:g.lines.length<=9){K:Nat}(hK:80000002<=K)(hK2:K+100<=1000000000)(hn:1000<=n):∀(c k m i:Nat) (s:Int) (E:List FV),k+c=g.lines.length->c<m->i+c<=800->s.natAbs<=i*2^K->E.length+c<=100000 ->
  q41.l18 (n+9) [] m (gR g (rL r [zb ((s:Rat)).num,wl ((s:Rat)).num,.bool false,wL ((s:Rat)).den,.list 2 E,iF k])) =
   some [.list 2 (E++(List.range' k c).map (entR g r)++[entF qat (qu (-(s+sumZ ((List.range' k c).map (cR g r)))))]),iF 0]:=by
 intro c
 induction c with
 |zero =>
  intro k m i s E hk hm hi hsb hE;obtain⟨m,rfl⟩:=qSx m (by omega);obtain rfl:k=g.lines.length:=by omega
  have hs2:s.natAbs<2^(K+20):=BF hsb (qe4 (by omega));have bsR:Bd (K+20) (s:Rat):=Bd.int (k:=K+20) hs2 (by omega);rw[q41.q7q,Aa,Ad (by omega),Ab,x_neg (qb _)];simp (disch:=omega) only[rr];rw[x_text (bsR.neg.mono (by omega)) (qb _)];simp (disch:=omega) only[el1,rr];rw[q5l (by rw[Cc];omega),Ac,show s+sumZ ((List.range' g.lines.length 0).map (cR g r))=s from by show s+0=s;omega,<- rtext_int,EK];show _=some [FV.list 2 (E++[]++_),_];rw[AM];rfl
 |succ c ih =>
  intro k m i s E hk hm hi hsb hE;obtain⟨m,rfl⟩:=qSx m (by omega);have hkl:k<g.lines.length:=by omega
  have hb:=cR_bd hS hs hr hkl;have ec:cR g r k=q2c (q4c r g.lines[k] k):=by unfold cR;rw[q32 hkl]
  have hc:(cR g r k).natAbs<2^K:=by rw[ec];exact AP (qh1 (hb.mono (show 80000000<=K-2 by omega))) (AV (by omega) (by omega))
  have h35:=ql1 (n:=n+5) (g:=g) hS (by omega) (k:Int);rw[BQ (by omega),show((k:Int)).toNat=k from rfl,q32 hkl,qh2 hs hr hkl,Ac]at h35;obtain⟨p1,p2⟩:=ql6 (n:=n+8) hK2 (by omega) (by omega:i<=900) hsb hc;have hdl:(qk k).length=1:=by rw[dtext_1 (by omega)];rfl
  rw[q41.q7q,Aa,Af (by omega),Ac];rw[show evF EnD (n+9) 35 _=_ from h35];simp (disch:=omega) only[rr];rw[ql7 (n:=n+8) (rd_text (q4c r g.lines[k] k)) (by have:=len3 (m:=26666667) (hb.mono (by omega));omega)];simp (disch:=omega) only[rr];rw[x_round (n:=n+8) (hb.mono (by omega)) (qb _),<- ec];simp (disch:=omega) only[rr];rw[x_of (n:=n+8) (z:=1) (by omega) (by omega)];simp (disch:=omega) only[rr];rw[show evF EnD (n+9) 43 _=_ from x_den1 (n:=n+8)];simp (disch:=omega) only[rr];rw[show evF EnD (n+9) 79 _=_ from x_make1 (n:=n+8) (K:=K) (z:=cR g r k) (by omega) (by omega) hc];simp (disch:=omega) only[rr];rw[show evF EnD (n+9) 37 _=_ from p1];simp (disch:=omega) only[rr];rw[qc (by omega),q1t (show k+1<=10 by omega),Ae,q1t (show k<=k+1 by omega),Ae,dig_ext (by omega),q1b,hdl,Ad (by omega),Ab];rw[show evF EnD (n+9) 25 _=_ from x_ntext (n:=n+8) (K:=K) (z:=cR g r k) (by omega) hc];simp (disch:=omega) only[el1,rr];rw[show({ data:=#[108,105,110,101,45] }:ByteArray)=txt qau from rfl,q5e,q5l (by rw[Cc];omega),Ac];have e:=ih (k+1) m (i+1) (s+cR g r k) (E++[entR g r k]) (by omega) (by omega) (by omega) p2 (by rw[Bb,Cc];omega);refine BG ?_ (e.trans ?_)
  ·rfl
  ·rw[BR,AQ,AQ,show sumZ (cR g r k::(List.range' (k+1) c).map (cR g r))=cR g r k+sumZ ((List.range' (k+1) c).map (cR g r)) from rfl,Ap E,show s+cR g r k+sumZ ((List.range' (k+1) c).map (cR g r))=s+(cR g r k+sumZ ((List.range' (k+1) c).map (cR g r))) from by omega];rfl
theorem qt1(hS:Sq ss bs r)(hs:q3v g ss bs r)(hr:q24 r=true)(hl:g.lines.length<=9){N:List Txt}(hN:N.length<=600)(hNb:∀t,t∈N->t.length<=1000000){K:Nat}(hK:80000002<=K)(hK2:K+100<=1000000000)(hn:1000<=n):∀(c i m:Nat) (s:Int) (E:List FV),i+c=N.length->c<m->s.natAbs<=i*2^K->E.length<=i ->
  q41.l7 (n+9) [] m (gR g (rL r [zb ((s:Rat)).num,wl ((s:Rat)).num,.bool false,wL ((s:Rat)).den,.list 7 (ss.map StpV.fv),.list 8 (bs.map BlkV.fv),.list 1 (N.map sF),.list 2 E,iF i])) =
   some (bif(N.drop i).all (λt=>q2v (txt t))then [.list 2 (E++(N.drop i).map (entW ss bs r)++(List.range' 0 g.lines.length).map (entR g r)++[entF qat (qu (-(s+sumZ ((N.drop i).map (cW ss bs r))+sumZ ((List.range' 0 g.lines.length).map (cR g r)))))]),iF 0]else [.list 2 [],iF 1]):=by
 intro c
 induction c with
 |zero =>
  intro i m s E hi hm hsb hE;obtain⟨m,rfl⟩:=qSx m (by omega);obtain rfl:i=N.length:=by omega
  have h:=qt0 hS hs hr hl hK hK2 hn g.lines.length 0 (n+9) N.length s E (by omega) (by omega) (by omega) hsb (by omega);rw[q41.q2s,Aa,Ad (by omega),Ab,Ek];refine h.trans ?_;rw[show([]:List Txt).all (λt=>q2v (txt t))=true from rfl,Ac,BD,AM,show s+sumZ (([]:List Txt).map (cW ss bs r))=s from by show s+0=s;omega]
 |succ c ih =>
  intro i m s E hi hm hsb hE;obtain⟨m,rfl⟩:=qSx m (by omega);have hil:i<N.length:=by omega
  have hb:=hNb _ (Ah hil);obtain⟨_,h97⟩:=name_at (n:=n+8) true (txt N[i]) (by rw[q1b];omega);rw[q41.q2s,Aa,Af (by omega),Ac,q9 hil];simp (disch:=omega) only[q7a hil,rr];rw[h97];simp (disch:=omega) only[rr];rw[Be hil,Bk];cases hnv:q2v (txt N[i])with
  |false=>rfl
  |true =>
   have hb2:=cW_bd hS hs hr N[i];have hc:(cW ss bs r N[i]).natAbs<2^K:=AP (qh1 (hb2.mono (show 80000000<=K-2 by omega))) (AV (by omega) (by omega));have h33:=ql0 (n:=n+5) (who:=txt N[i]) hS (by omega);rw[okA_of hs hr,Ac]at h33;obtain⟨p1,p2⟩:=ql6 (n:=n+8) hK2 (by omega) (by omega:i<=900) hsb hc;rw[Ao,Ab,AA];rw[show evF EnD (n+9) 33 _=_ from h33];simp (disch:=omega) only[rr];rw[ql7 (n:=n+8) (rd_text (amtV ss bs r (txt N[i]))) (by have:=len3 (m:=26666667) (hb2.mono (by omega));omega)];simp (disch:=omega) only[rr];rw[x_round (n:=n+8) (hb2.mono (by omega)) (qb _),show q2c (amtV ss bs r (txt N[i]))=cW ss bs r N[i] from rfl];simp (disch:=omega) only[rr];rw[x_of (n:=n+8) (z:=1) (by omega) (by omega)];simp (disch:=omega) only[rr];rw[show evF EnD (n+9) 43 _=_ from x_den1 (n:=n+8)];simp (disch:=omega) only[rr];rw[show evF EnD (n+9) 79 _=_ from x_make1 (n:=n+8) (K:=K) (z:=cW ss bs r N[i]) (by omega) (by omega) hc];simp (disch:=omega) only[rr];rw[show evF EnD (n+9) 37 _=_ from p1];simp (disch:=omega) only[rr];rw[q1b,Ad (by omega),Ab];rw[show evF EnD (n+9) 25 _=_ from x_ntext (n:=n+8) (K:=K) (z:=cW ss bs r N[i]) (by omega) hc];simp (disch:=omega) only[el1,rr];rw[show({ data:=#[119,104,111,45] }:ByteArray)=txt whoT from rfl,q5e,q5l (by rw[Cc];omega),Ac,qc (by omega)];have e:=ih (i+1) m (s+cW ss bs r N[i]) (E++[entW ss bs r N[i]]) (by omega) (by omega) p2 (by rw[Bb,Cc];omega);refine BG ?_ (e.trans ?_)
   ·rfl
   ·rw[AQ,AQ,show sumZ (cW ss bs r N[i]::(N.drop (i+1)).map (cW ss bs r))=cW ss bs r N[i]+sumZ ((N.drop (i+1)).map (cW ss bs r)) from rfl,Ap E,show s+cW ss bs r N[i]+sumZ ((N.drop (i+1)).map (cW ss bs r))=s+(cW ss bs r N[i]+sumZ ((N.drop (i+1)).map (cW ss bs r))) from by omega];rfl
theorem ql8(hS:Sq ss bs r)(hws:∀s,s∈ss->s.who.size<=1000000)(hwb:∀b,b∈bs->b.who.size<=1000000):(∀t,t∈q22 ss bs->t.length<=1000000)/\(q22 ss bs).length<=600:=by
 constructor
 ·intro t ht;rw[qgf]at ht;unfold whoL at ht;rcases BL.1 ht with q | q
  ·obtain⟨s,hs1,rfl⟩:=BH.1 q;rw[Bw];exact hws s hs1
  ·obtain⟨s,hs1,rfl⟩:=BH.1 q;rw[Bw];exact hwb s hs1
 ·have h1:=ql9 (sortL (whoL ss bs));have h2:(sortL (whoL ss bs)).length=(whoL ss bs).length:=(Fd _ _).length_eq;have h3:(whoL ss bs).length=ss.length+bs.length:=by unfold whoL;simp only[Bb,Aa]
  have:=hS.ssl;have:=hS.bsl;show(Lib.compact (sortL (whoL ss bs))).length<=600;omega
theorem qt2(h:Sm g ss bs r)(hS:Sq ss bs r)(hws:∀s,s∈ss->s.who.size<=1000000)(hwb:∀b,b∈bs->b.who.size<=1000000)(hn:300000<=n) :
  evF EnD (n+10) 27 (gR g (.list 7 (ss.map StpV.fv)::.list 8 (bs.map BlkV.fv)::rL r []))=some (qav g ss bs r):=by
 have h17:evF EnD (n+9) 17 (gR g (.list 7 (ss.map StpV.fv)::.list 8 (bs.map BlkV.fv)::rL r []))=some [iF (chkV g ss bs r)]:=by
  have:evF EnD (n+9) 17 (gR g (.list 7 (ss.map StpV.fv)::.list 8 (bs.map BlkV.fv)::rL r []))=limO EnB 17 (gR g (.list 7 (ss.map StpV.fv)::.list 8 (bs.map BlkV.fv)::rL r [])):=by kernel_rfl
  rw[this];refine q1l ⟨101,λn hn=>?_⟩;obtain⟨k,rfl⟩:∃k,n=k+101:=⟨n-101,by omega⟩;exact qpe h
 rw[qrl,h17];simp (disch:=omega) only[rr];unfold qav;by_cases hc:chkV g ss bs r=0
 ·obtain⟨hs,hr⟩:=qla hc;obtain⟨K,hK,hK2⟩:∃K,80000002<=K/\K+100<=1000000000:=⟨80000002,by omega,by omega⟩;have hl:g.lines.length<=9:=by
   obtain⟨o1,_⟩:=qe5 hs.ord;unfold q3k at o1;simp only[Ai,At]at o1;omega
  obtain⟨hm,hlen⟩:=ql8 hS hws hwb;rw[hc,show((0:Int) !=0)=false from rfl,Ab,Af rfl,AA,qr4 (n:=n+8) hS.ssl hS.bsl (by omega)];simp (disch:=omega) only[rr];rw[x_of (n:=n+8) (z:=0) (by omega) (by omega)];simp (disch:=omega) only[el0,rr];have e2:=qt1 hS hs hr hl hlen hm hK hK2 (by omega:1000<=n) (q22 ss bs).length 0 (n+9) 0 [] (by omega) (by omega) (by simp) (by simp);refine e2.trans ?_;unfold qbz totV;rw[Au,As,show(0:Int)+sumZ ((q22 ss bs).map (cW ss bs r))+sumZ ((List.range' 0 g.lines.length).map (cR g r))=sumZ ((q22 ss bs).map (cW ss bs r))+sumZ ((List.range' 0 g.lines.length).map (cR g r)) from by omega]
 ·rw[show(chkV g ss bs r !=0)=true from by simpa using hc,Ac,Ad hc];rfl
end
end
section
theorem blkV_of20{cs:List FV}(h:All2 Fits blkShp cs):∃b:BlkV,mkEl true cs=b.fv/\(b.qty.length<=140737488351232/\∀z,z∈b.qty->-9223372036854775808<=z/\z<=9223372036854775807):=by
 obtain⟨x1,r1,rfl,h1,h⟩:=h.cons_inv;obtain⟨x2,r2,rfl,h2,h⟩:=h.cons_inv;obtain⟨x3,r3,rfl,h3,h⟩:=h.cons_inv;obtain⟨x4,r4,rfl,h4,h⟩:=h.cons_inv;obtain⟨x5,r5,rfl,h5,h⟩:=h.cons_inv;obtain⟨x6,r6,rfl,h6,h⟩:=h.cons_inv;obtain⟨x7,r7,rfl,h7,h⟩:=h.cons_inv;obtain⟨x8,r8,rfl,h8,h⟩:=h.cons_inv;obtain rfl:=h.q84;obtain⟨s1,rfl,_⟩:=h1.q4s;obtain⟨n2,rfl,_⟩:=h2.q1i;obtain⟨n3,rfl,_⟩:=h3.q1i;obtain⟨b4,rfl⟩:=h4.q44;obtain⟨n5,rfl,_⟩:=h5.q1i;obtain⟨q,rfl,hq,hqr⟩:=h6.q8t iF (R:=λz=>-9223372036854775808<=z/\z<=9223372036854775807) λcs hcs=>by
  obtain⟨y,r,rfl,hy,hr⟩:=hcs.cons_inv;obtain rfl:=hr.q84;obtain⟨z,rfl,z1,z2⟩:=hy.q1i;exact⟨z,rfl,z1,z2⟩
 obtain⟨n7,rfl,_⟩:=h7.q1i;obtain⟨n8,rfl,_⟩:=h8.q1i;exact⟨⟨s1,n2,n3,b4,n5,q,n7,n8⟩,rfl,by show q.length<=_;omega,hqr⟩
theorem case_of20 {S:List Shp} {L:List FV} (h:All2 Fits (.int .i64::.int .i64::.lst true 24 [.int .i64,.int .i64,.int .i64]::.int .i64::.int .i64::.lst true 64 [.str,.int .i64,.int .i64,.int .i64,.bool,.int .i64,.int .i64] ::
  .lst true 88 [.str,.int .i64,.int .i64,.bool,.int .i64,.lst false 8 [.int .i64],.int .i64,.int .i64]::.lst false 1 [.bool]::.lst false 16 [.str]::.lst false 24 [.lst false 16 [.str]]::.lst false 24 [.lst false 16 [.str]]::.str::.str::.bool::.int .i64::S) L) :
  ∃g ss bs r rest,L=cL g ss bs r rest/\Sw g ss bs r/\(∀b,b∈bs->∀z,z∈b.qty->-9223372036854775808<=z/\z<=9223372036854775807)/\All2 Fits S rest:=by
 obtain⟨x1,r1,rfl,h1,h⟩:=h.cons_inv;obtain⟨x2,r2,rfl,h2,h⟩:=h.cons_inv;obtain⟨x3,r3,rfl,h3,h⟩:=h.cons_inv;obtain⟨x4,r4,rfl,h4,h⟩:=h.cons_inv;obtain⟨x5,r5,rfl,h5,h⟩:=h.cons_inv;obtain⟨x6,r6,rfl,h6,h⟩:=h.cons_inv;obtain⟨x7,r7,rfl,h7,h⟩:=h.cons_inv;obtain⟨x8,r8,rfl,h8,h⟩:=h.cons_inv;obtain⟨x9,r9,rfl,h9,h⟩:=h.cons_inv;obtain⟨x10,r10,rfl,h10,h⟩:=h.cons_inv;obtain⟨x11,r11,rfl,h11,h⟩:=h.cons_inv;obtain⟨x12,r12,rfl,h12,h⟩:=h.cons_inv;obtain⟨x13,r13,rfl,h13,h⟩:=h.cons_inv;obtain⟨x14,r14,rfl,h14,h⟩:=h.cons_inv;obtain⟨x15,r15,rfl,h15,hz⟩:=h.cons_inv;clear h;obtain⟨zo,rfl,_⟩:=h1.q1i;obtain⟨ho,rfl,_⟩:=h2.q1i;obtain⟨ls,rfl,e3,_⟩:=h3.q8t qz.fv (R:=λ_=>True) λcs hcs=>lineV_of hcs;obtain⟨lo,rfl,_⟩:=h4.q1i;obtain⟨hi,rfl,_⟩:=h5.q1i;obtain⟨ss,rfl,e6,_⟩:=h6.q8t StpV.fv (R:=λ_=>True) λcs hcs=>stpV_of hcs;obtain⟨bs,rfl,e7,hbz⟩:=h7.q8t BlkV.fv (R:=λb=>b.qty.length<=140737488351232/\∀z,z∈b.qty->-9223372036854775808<=z/\z<=9223372036854775807) λcs hcs=>blkV_of20 hcs;obtain⟨ac,rfl,e8,_⟩:=h8.q8t FV.bool (R:=λ_=>True) λcs hcs=>by
  obtain⟨y,r,rfl,hy,hr⟩:=hcs.cons_inv;obtain rfl:=hr.q84;obtain⟨b,rfl⟩:=hy.q44;exact⟨b,rfl,trivial⟩
 obtain⟨x,rfl,e9⟩:=h9.qi4;obtain⟨f,rfl,e10,hf⟩:=rows_of h10;obtain⟨p,rfl,e11,hp⟩:=rows_of h11;obtain⟨w,rfl,_⟩:=h12.qgh;obtain⟨u,rfl,_⟩:=h13.qgh;obtain⟨op,rfl⟩:=h14.q44;obtain⟨no,rfl,_⟩:=h15.q1i
 exact⟨⟨zo,ho,ls,lo,hi⟩,ss,bs,⟨ac,x,f,p,w,u,op,no⟩,r15,rfl,
  ⟨by omega,by omega,by show ls.length<=_;omega,by show ac.length<=_;omega,e9,e10,e11,hf,hp⟩,λb hb=>(hbz b hb).2,hz⟩
def gat(T:Nat)(w:Nat->Nat):Nat->Nat->Nat->Nat
 |0,_,v=>v
 |c+1,i,v=>if v<=T then gat T w c (i+1) (v+w i)else v
theorem q8o(T:Nat)(w:Nat->Nat):∀(c i v:Nat),v<=gat T w c i v
 |0,_,_=>Ak _
 |c+1,i,v=>by
  unfold gat;split
  ·have:=q8o T w c (i+1) (v+w i);omega
  ·exact Ak _
theorem qan{T:Nat}{w:Nat->Nat}{X:Nat}(hw:∀i,w i<=X):∀(c i v:Nat),gat T w c i v<=max v (T+X)
 |0,_,_=>ER _ _
 |c+1,i,v=>by
  unfold gat;split
  ·have:=qan (T:=T) hw c (i+1) (v+w i);have:=hw i;omega
  ·exact ER _ _
theorem qao{T:Nat}{w:Nat->Nat}{B:Nat}(hT:B<=T):∀(c i v:Nat),gat T w c i v<=B->∀j,i<=j->j<i+c->w j<=B
 |0,_,_,_,_,_,_=>by omega
 |c+1,i,v,h,j,h1,h2=>by
  have hv:v<=B:=AY (q8o T w (c+1) i v) h;unfold gat at h;rw[if_pos (by omega)]at h;by_cases e:j=i
  ·subst e;have:=q8o T w c (j+1) (v+w j);omega
  ·exact qao hT c (i+1) (v+w i) h j (by omega) (by omega)
theorem qbr{F:Nat->Nat->Nat->Res}{len T X:Nat}{w:Nat->Nat}{fin:Nat->Res}
  (h1:∀m i v,i<len->v<=T->F (m+1) i v=F m (i+1) (v+w i))
  (h2:∀m i v,i<len->T<v->F (m+1) i v=fin v) (h3:∀m v,F (m+1) len v=fin v) :
  ∀(c i m v:Nat),i+c=len->c<m->F m i v=fin (gat T w c i v):=by
 intro c
 induction c with
 |zero =>
  intro i m v hi hm;obtain⟨m,rfl⟩:=qSx m (by omega);obtain rfl:i=len:=by omega
  exact h3 m v
 |succ c ih =>
  intro i m v hi hm;obtain⟨m,rfl⟩:=qSx m (by omega);unfold gat;by_cases hc:v<=T
  ·rw[if_pos hc,h1 m i v (by omega) hc,ih (i+1) m (v+w i) (by omega) (by omega)]
  ·rw[if_neg hc,h2 m i v (by omega) (by omega)]
def lenW(l:List Txt)(i:Nat):Nat:=min 1048576 (l.getD i []).length
def q2r(l:List Txt):Nat:=gat 256 (lenW l) l.length 0 (min 1048576 l.length)
theorem lenW_le(l:List Txt)(i:Nat):lenW l i<=1048576:=Cq _ _
theorem qbs(l:List Txt):q2r l<=2000000:=by
 have h:=qan (T:=256) (lenW_le l) l.length 0 (min 1048576 l.length);have:=Cq 1048576 l.length;unfold q2r;omega
theorem qgi{l:List Txt}(h:q2r l<=256):Few l:=by
 have h0:=q8o 256 (lenW l) l.length 0 (min 1048576 l.length);have h1:min 1048576 l.length<=256:=AY h0 h;refine⟨by omega,λt ht=>?_⟩;obtain⟨i,hi,rfl⟩:=DJ.1 ht;have h2:=qao (Ak 256) l.length 0 _ h i (by omega) (by omega);unfold lenW at h2;rw[q32 hi]at h2;omega
section
variable {g:q12} {ss:List StpV} {bs:List BlkV} {r:ResV} {n:Nat}
theorem qgj{l:List Txt}(hl:l.length<=140737488355328)(hn:9000000000000000<=n):evF EnD (n+1) 98 [rowF l]=some [iF (q2r l:Int)]:=by
 have h:=qbr (F:=λm i v=>q5g.l3 n [] m [rowF l,iF (v:Int),iF (i:Int)]) (len:=l.length) (T:=256) (X:=1048576) (w:=lenW l) (fin:=λv=>some [iF (v:Int)])
  (λm i v hi hv=>by
   have hw:=lenW_le l i;show q5g.l3 n [] (m+1) _=_;rw[q5g.qm,Aa,Af (by omega),Ac,Af (by omega),Ac,q9 hi,Ae,q8n hi,q2i,Ae,q1b,show(1048576:Int)=((1048576:Nat):Int) from rfl,q9r,qc (by omega),<- CM,ql (by omega) (by omega)];unfold lenW
   rw[q32 hi])
  (λm i v hi hv=>by
   show q5g.l3 n [] (m+1) _=_
   rw[q5g.qm,Aa,Af (by omega),Ac,Ad (by omega),Ab])
  (λm v=>by
   show q5g.l3 n [] (m+1) _=_
   rw[q5g.qm,Aa,Ad (by omega),Ab]) l.length 0 n (min 1048576 l.length) (by omega) (by omega)
 rw[qq6,Aa,show(1048576:Int)=((1048576:Nat):Int) from rfl,q9r];exact h
def whoW(ss:List StpV)(i:Nat):Nat:=min 1048576 (ss.getD i default).who.size
def blkW(bs:List BlkV)(i:Nat):Nat:=min 1048576 (bs.getD i default).qty.length+min 1048576 (bs.getD i default).who.size
theorem whoW_le(i:Nat):whoW ss i<=1048576:=Cq _ _
theorem qgk(i:Nat):blkW bs i<=2097152:=by
 have h1:=Cq 1048576 (bs.getD i default).qty.length;have h2:=Cq 1048576 (bs.getD i default).who.size;unfold blkW;omega
theorem v16_run(hS:Sw g ss bs r)(hn:9000000000000000<=n){v:Nat}(hv:v<=9000000000000000) :
  qw.l16 (n+1) [] (n+1) (cL g ss bs r [iF (v:Int),iF 0])=some [.bool (decide ((gat 256 (λi=>q2r (r.p.getD i [])) r.p.length 0 v:Int)>256))]:=by
 have hl:=hS.pl;exact qbr (F:=λm i v=>qw.l16 (n+1) [] m (cL g ss bs r [iF (v:Int),iF (i:Int)])) (len:=r.p.length) (T:=256) (X:=2000000) (w:=λi=>q2r (r.p.getD i [])) (fin:=λv=>some [.bool (decide ((v:Int)>256))])
  (λm i v hi hv=>by
   have hw:=qbs r.p[i];show qw.l16 (n+1) [] (m+1) _=_;rw[qw.l16_eq,Aa,Af (by omega),Ac,Af (by omega),Ac,q9 hi,Ae,q2d hi,qy,Ae,qgj (hS.p _ (Ah hi)) hn];simp (disch:=omega) only[rr]
   rw[qc (by omega),<- CM,ql (by omega) (by omega),q32 hi])
  (λm i v hi hv=>by
   show qw.l16 (n+1) [] (m+1) _=_
   rw[qw.l16_eq,Aa,Af (by omega),Ac,Ad (by omega),Ab])
  (λm v=>by
   show qw.l16 (n+1) [] (m+1) _=_
   rw[qw.l16_eq,Aa,Ad (by omega),Ab]) r.p.length 0 (n+1) v (by omega) (by omega)
theorem v12_run(hS:Sw g ss bs r)(hn:9000000000000000<=n){v:Nat}(hv:v<=9000000000000000) :
  qw.l12 (n+1) [] (n+1) (cL g ss bs r [iF (v:Int),iF 0])=qw.l16 (n+1) [] (n+1) (cL g ss bs r [iF (gat 256 (λi=>q2r (r.f.getD i [])) r.f.length 0 v:Int),iF 0]):=by
 have hl:=hS.fl;exact qbr (F:=λm i v=>qw.l12 (n+1) [] m (cL g ss bs r [iF (v:Int),iF (i:Int)])) (len:=r.f.length) (T:=256) (X:=2000000) (w:=λi=>q2r (r.f.getD i [])) (fin:=λv=>qw.l16 (n+1) [] (n+1) (cL g ss bs r [iF (v:Int),iF 0]))
  (λm i v hi hv=>by
   have hw:=qbs r.f[i];show qw.l12 (n+1) [] (m+1) _=_;rw[qw.q3w,Aa,Af (by omega),Ac,Af (by omega),Ac,q9 hi,Ae,q2d hi,qy,Ae,qgj (hS.f _ (Ah hi)) hn];simp (disch:=omega) only[rr]
   rw[qc (by omega),<- CM,ql (by omega) (by omega),q32 hi])
  (λm i v hi hv=>by
   show qw.l12 (n+1) [] (m+1) _=_
   rw[qw.q3w,Aa,Af (by omega),Ac,Ad (by omega),Ab])
  (λm v=>by
   show qw.l12 (n+1) [] (m+1) _=_
   rw[qw.q3w,Aa,Ad (by omega),Ab]) r.f.length 0 (n+1) v (by omega) (by omega)
theorem v7_run(hS:Sw g ss bs r)(hn:9000000000000000<=n){v:Nat}(hv:v<=8000000000000000) :
  qw.l7 (n+1) [] (n+1) (cL g ss bs r [iF (v:Int),iF 0])=qw.l12 (n+1) [] (n+1) (cL g ss bs r [iF ((gat 1024 (blkW bs) bs.length 0 v+q2r r.x:Nat):Int),iF 0]):=by
 have hl:=hS.bsl;have hx:=qbs r.x;have fin:∀v:Nat,v<=8500000000000000->((evF EnD (n+1) 98 [.list 1 (r.x.map sF)]).bind λr6=>(asInt .i64 (r6[0]?)).bind λn7=>qw.l12 (n+1) [] (n+1) (cL g ss bs r [.int .i64 (IntKind.wrap .i64 ((v:Int)+n7)),iF 0]))=qw.l12 (n+1) [] (n+1) (cL g ss bs r [iF ((v+q2r r.x:Nat):Int),iF 0]):=by
  intro v hv;rw[show FV.list 1 (r.x.map sF)=rowF r.x from rfl,qgj hS.xl hn];simp (disch:=omega) only[rr];rw[<- CM,ql (by omega) (by omega)]
 have top:=qan (T:=1024) (qgk (bs:=bs)) bs.length 0 v;have h:=qbr (F:=λm i v=>qw.l7 (n+1) [] m (cL g ss bs r [iF (v:Int),iF (i:Int)])) (len:=bs.length) (T:=1024) (X:=2097152) (w:=blkW bs) (fin:=λv=>(evF EnD (n+1) 98 [.list 1 (r.x.map sF)]).bind λr6=>(asInt .i64 (r6[0]?)).bind λn7=>qw.l12 (n+1) [] (n+1) (cL g ss bs r [.int .i64 (IntKind.wrap .i64 ((v:Int)+n7)),iF 0]))
  (λm i v hi hv=>by
   have hw:=qgk (bs:=bs) i;have q1:=Cq 1048576 bs[i].qty.length;have q2:=Cq 1048576 bs[i].who.size;show qw.l7 (n+1) [] (m+1) _=_;rw[qw.q2s,Aa,Af (by omega),Ac,Af (by omega),Ac,q9 hi];simp (disch:=omega) only[q2f hi,rr];rw[Aa,show(1048576:Int)=((1048576:Nat):Int) from rfl,q9r,q9r,qc (by omega),<- CM,ql (x:=((min 1048576 bs[i].qty.length+min 1048576 bs[i].who.size:Nat):Int)) (by omega) (by omega),<- CM,ql (by omega) (by omega)];unfold blkW
   rw[q32 hi])
  (λm i v hi hv=>by
   show qw.l7 (n+1) [] (m+1) _=_
   rw[qw.q2s,Aa,Af (by omega),Ac,Ad (by omega),Ab])
  (λm v=>by
   show qw.l7 (n+1) [] (m+1) _=_
   rw[qw.q2s,Aa,Ad (by omega),Ab]) bs.length 0 (n+1) v (by omega) (by omega)
 exact h.trans (fin _ (by omega))
theorem v3_run(hS:Sw g ss bs r)(hn:9000000000000000<=n){v:Nat}(hv:v<=8000000000000000) :
  qw.l3 (n+1) [] (n+1) (cL g ss bs r [iF (v:Int),iF 0])=qw.l7 (n+1) [] (n+1) (cL g ss bs r [iF (gat 1024 (whoW ss) ss.length 0 v:Int),iF 0]):=by
 have hl:=hS.ssl;exact qbr (F:=λm i v=>qw.l3 (n+1) [] m (cL g ss bs r [iF (v:Int),iF (i:Int)])) (len:=ss.length) (T:=1024) (X:=1048576) (w:=whoW ss) (fin:=λv=>qw.l7 (n+1) [] (n+1) (cL g ss bs r [iF (v:Int),iF 0]))
  (λm i v hi hv=>by
   have q2:=Cq 1048576 ss[i].who.size;show qw.l3 (n+1) [] (m+1) _=_;rw[qw.qm,Aa,Af (by omega),Ac,Af (by omega),Ac,q9 hi];simp (disch:=omega) only[q34 hi,rr];rw[show(1048576:Int)=((1048576:Nat):Int) from rfl,q9r,qc (by omega),<- CM,ql (by omega) (by omega)];unfold whoW
   rw[q32 hi])
  (λm i v hi hv=>by
   show qw.l3 (n+1) [] (m+1) _=_
   rw[qw.qm,Aa,Af (by omega),Ac,Ad (by omega),Ab])
  (λm v=>by
   show qw.l3 (n+1) [] (m+1) _=_
   rw[qw.qm,Aa,Ad (by omega),Ab]) ss.length 0 (n+1) v (by omega) (by omega)
theorem qrd(hS:Sw g ss bs r)(hz:∀b,b∈bs->∀z,z∈b.qty->-9223372036854775808<=z/\z<=9223372036854775807)(hn:9000000000000000<=n):∃b,(∀k,evF EnD (n+k+2) 29 (cL g ss bs r [])=some [.bool b])/\(b=false->Sm g ss bs r/\Sq ss bs r/\(∀s,s∈ss->s.who.size<=1000000)/\∀b,b∈bs->b.who.size<=1000000):=by
 obtain⟨a1,a2,a3,a4,a5,a6,a7,_,_⟩:=hS;have hS:Sw g ss bs r:=⟨a1,a2,a3,a4,a5,a6,a7,by assumption,by assumption⟩;have b1:=Cq 1048576 r.qn.length;have b2:=Cq 1048576 r.upper.length;obtain⟨v,hv⟩:∃v,v=ss.length+bs.length+r.x.length+r.f.length+r.p.length+g.lines.length+r.accept.length+min 1048576 r.qn.length+min 1048576 r.upper.length:=⟨_,rfl⟩;obtain⟨u1,e1⟩:∃u,u=gat 1024 (whoW ss) ss.length 0 v:=⟨_,rfl⟩;obtain⟨u2,e2⟩:∃u,u=gat 1024 (blkW bs) bs.length 0 u1:=⟨_,rfl⟩;obtain⟨u3,e3⟩:∃u,u=gat 256 (λi=>q2r (r.f.getD i [])) r.f.length 0 (u2+q2r r.x):=⟨_,rfl⟩;obtain⟨u4,e4⟩:∃u,u=gat 256 (λi=>q2r (r.p.getD i [])) r.p.length 0 u3:=⟨_,rfl⟩;have t1:=qan (T:=1024) (whoW_le (ss:=ss)) ss.length 0 v;have t2:=qan (T:=1024) (qgk (bs:=bs)) bs.length 0 u1;have t3:=qan (T:=256) (w:=λi=>q2r (r.f.getD i [])) (X:=2000000) (λi=>qbs _) r.f.length 0 (u2+q2r r.x);have tx:=qbs r.x;rw[<- e1]at t1;rw[<- e2]at t2;rw[<- e3]at t3;have m1:=q8o 1024 (whoW ss) ss.length 0 v;have m2:=q8o 1024 (blkW bs) bs.length 0 u1;have m3:=q8o 256 (λi=>q2r (r.f.getD i [])) r.f.length 0 (u2+q2r r.x);have m4:=q8o 256 (λi=>q2r (r.p.getD i [])) r.p.length 0 u3;rw[<- e1]at m1;rw[<- e2]at m2;rw[<- e3]at m3;rw[<- e4]at m4;refine⟨decide ((u4:Int)>256),λk=>?_,λhb=>?_⟩
 ·have g1:=v3_run (n:=n+k) hS (by omega) (v:=v) (by omega);have g2:=v7_run (n:=n+k) hS (by omega) (v:=u1) (by omega);have g3:=v12_run (n:=n+k) hS (by omega) (v:=u2+q2r r.x) (by omega);have g4:=v16_run (n:=n+k) hS (by omega) (v:=u3) (by omega);rw[<- e1]at g1;rw[<- e2]at g2;rw[<- e3]at g3;rw[<- e4]at g4;rw[qq5];simp only[Aa];rw[q1b,q1b,show(1048576:Int)=((1048576:Nat):Int) from rfl,q9r,q9r]
  rw[ql (x:=(ss.length:Int)+(bs.length:Int)) (by omega) (by omega),ql (x:=(ss.length:Int)+(bs.length:Int)+(r.x.length:Int)) (by omega) (by omega),
   ql (x:=(ss.length:Int)+(bs.length:Int)+(r.x.length:Int)+(r.f.length:Int)) (by omega) (by omega),ql (x:=(ss.length:Int)+(bs.length:Int)+(r.x.length:Int)+(r.f.length:Int)+(r.p.length:Int)) (by omega) (by omega),
   ql (x:=(ss.length:Int)+(bs.length:Int)+(r.x.length:Int)+(r.f.length:Int)+(r.p.length:Int)+(g.lines.length:Int)) (by omega) (by omega),
   ql (x:=(ss.length:Int)+(bs.length:Int)+(r.x.length:Int)+(r.f.length:Int)+(r.p.length:Int)+(g.lines.length:Int)+(r.accept.length:Int)) (by omega) (by omega),
   ql (x:=(ss.length:Int)+(bs.length:Int)+(r.x.length:Int)+(r.f.length:Int)+(r.p.length:Int)+(g.lines.length:Int)+(r.accept.length:Int)+((min 1048576 r.qn.length:Nat):Int)) (by omega) (by omega),
   ql (x:=(ss.length:Int)+(bs.length:Int)+(r.x.length:Int)+(r.f.length:Int)+(r.p.length:Int)+(g.lines.length:Int)+(r.accept.length:Int)+((min 1048576 r.qn.length:Nat):Int)+((min 1048576 r.upper.length:Nat):Int)) (by omega) (by omega)]
  simp only[<- CM];rw[<- hv];exact g1.trans (g2.trans (g3.trans g4))
 ·have hu:u4<=256:=by
   have:=Fe hb;omega
  have q1:=qao (T:=1024) (w:=whoW ss) (B:=256) (by omega) ss.length 0 v (by rw[<- e1];omega);have q2:=qao (T:=1024) (w:=blkW bs) (B:=256) (by omega) bs.length 0 u1 (by rw[<- e2];omega);have q3:=qao (T:=256) (w:=λi=>q2r (r.f.getD i [])) (B:=256) (by omega) r.f.length 0 (u2+q2r r.x) (by rw[<- e3];omega);have q4:=qao (T:=256) (w:=λi=>q2r (r.p.getD i [])) (B:=256) (by omega) r.p.length 0 u3 (by rw[<- e4];omega);have fx:=qgi (l:=r.x) (by omega);have ff:∀l,l∈r.f->Few l:=λl hl=>by
   obtain⟨i,hi,rfl⟩:=DJ.1 hl;have:=q3 i (by omega) (by omega);rw[q32 hi]at this;exact qgi this
  have fp:∀l,l∈r.p->Few l:=λl hl=>by
   obtain⟨i,hi,rfl⟩:=DJ.1 hl;have:=q4 i (by omega) (by omega);rw[q32 hi]at this;exact qgi this
  have fb:∀b,b∈bs->b.qty.length<=256/\b.who.size<=256:=λb hb=>by
   obtain⟨i,hi,rfl⟩:=DJ.1 hb;have:=q2 i (by omega) (by omega);unfold blkW at this;rw[q32 hi]at this;omega
  refine⟨⟨by omega,by omega,by omega,by omega,by omega,by omega,by omega,fx.2,ff,fp,by omega,by omega,λb hb=>(fb b hb).1⟩,⟨by omega,by omega,by omega,by omega,by omega,by omega,fx.2,ff,fp,λb hb=>(fb b hb).1,hz⟩,λs hs=>?_,λb hb=>by have:=(fb b hb).2;omega⟩;obtain⟨i,hi,rfl⟩:=DJ.1 hs;have:=q1 i (by omega) (by omega);unfold whoW at this;rw[q32 hi]at this;omega
end
end
section
section
variable {g:q12} {ss:List StpV} {bs:List BlkV} {r:ResV} {n:Nat}
theorem quz(hl:g.lines.length<=100000)(hn:(q22 ss bs).length<=600):∃l:List (Txt×Txt),qbz g ss bs r=l.map enT/\l.length<=1000000000:=by
 refine⟨(q22 ss bs).map (λt=>(whoT++t,qu (cW ss bs r t)))++(List.range' 0 g.lines.length).map (λk=>(qau++qk k,qu (cR g r k)))++[(qat,qu (-totV g ss bs r))],?_,?_⟩
 ·unfold qbz;rw[AZ,AZ,Cf,Cf];rfl
 ·simp only[Bb,Aa,List.length_range',Cc];omega
theorem same_at{l:List (Txt×Txt)}(hl:l.length<=1000000000):evF EnD (n+1) 36 [.list 2 (l.map enT),.list 2 (l.map enT)]=some [.bool true]:=by
 have h1:evF EnD (n+1) 36 [.list 2 (l.map enT),.list 2 (l.map enT)]=sameExt [.list 2 (l.map enT),.list 2 (l.map enT)]:=by kernel_rfl
 rw[h1];exact if_pos ⟨l,rfl,rfl,hl⟩
theorem posts_run(h:Sm g ss bs r)(hS:Sq ss bs r)(hws:∀s,s∈ss->s.who.size<=1000000)(hwb:∀b,b∈bs->b.who.size<=1000000)(who:ByteArray)(line:Int)(hn:300000<=n)
  (hv:evF EnD (n+10) 29 (cL g ss bs r [])=some [.bool false]):evF EnD (n+11) 10 (cL g ss bs r [.str who,iF line])=some [.bool true]:=by
 have p1:=qub (n:=n+2) (who:=who) hS (by omega);have p2:=ql0 (n:=n+6) (who:=who) hS (by omega);have p3:=Rent_run (n:=n+4) (g:=g) hS (by omega) line;have p4:=ql1 (n:=n+6) (g:=g) hS (by omega) line;have p5:=qv0 (n:=n) h hS hws hwb (by omega);have p6:=qt2 (n:=n) h hS hws hwb hn;obtain⟨_,hlen⟩:=ql8 hS hws hwb;have hl:=h.lsl;rw[qjs];refine BG (congrArg (λo=>Option.bind o _) hv) ?_;simp (disch:=omega) only[rr];by_cases hw:(who.size:Int)>1024
 ·rw[Af hw,Ac]
 rw[Ad hw,Ab];refine BG (congrArg (λo=>Option.bind o _) p1) ?_;obtain⟨s1,e1,q1⟩:∃s e,(bif okA ss bs r who then [sF (qv (amtV ss bs r who)),iF 0]else [sF [],iF 120])=[FV.str s,iF e]:=by cases okA ss bs r who <;> exact⟨_,_,rfl⟩
 rw[q1]at p2 ⊢;simp (disch:=omega) only[rr];refine BG (congrArg (λo=>Option.bind o _) p2) ?_;simp (disch:=omega) only[rr];refine BG (congrArg (λo=>Option.bind o _) p3) ?_;obtain⟨s2,e2,q2⟩:∃s e,(if h:0<=line/\line<(g.lines.length:Int)then(bif q5i r (g.lines.getD line.toNat default) line.toNat then [sF (qv (q4c r (g.lines.getD line.toNat default) line.toNat)),iF 0]else [sF [],iF 120])else [sF [],iF 1])=[FV.str s,iF e]:=by
  split
  ·cases q5i r (g.lines.getD line.toNat default) line.toNat <;> exact⟨_,_,rfl⟩
  ·exact⟨_,_,rfl⟩
 rw[q2]at p4 ⊢;simp (disch:=omega) only[rr];refine BG (congrArg (λo=>Option.bind o _) p4) ?_;simp (disch:=omega) only[rr];refine BG (congrArg (λo=>Option.bind o _) p5) ?_;obtain⟨l,e3,q3,hll⟩:∃(l:List (Txt×Txt)) (e:Int),qav g ss bs r=[.list 2 (l.map enT),iF e]/\l.length<=1000000000:=by
  obtain⟨l,hl1,hl2⟩:=quz (g:=g) (ss:=ss) (bs:=bs) (r:=r) (by omega) hlen;unfold qav;rw[hl1];cases(decide (chkV g ss bs r=0)&&(q22 ss bs).all λt=>q2v (txt t))
  ·exact⟨[],1,rfl,by simp⟩
  ·exact⟨l,0,rfl,hl2⟩
 rw[q3]at p6 ⊢;simp (disch:=omega) only[rr];refine BG (congrArg (λo=>Option.bind o _) p6) ?_;simp (disch:=omega) only[rr];rw[AW,AW,AW,AW,AW,Ac,Ac,Ac,Ac,Ac,same_at hll];simp (disch:=omega) only[rr]
end
theorem qv1 (L:List FV) (h:All2 Fits (.int .i64::.int .i64::.lst true 24 [.int .i64,.int .i64,.int .i64]::.int .i64::.int .i64::.lst true 64 [.str,.int .i64,.int .i64,.int .i64,.bool,.int .i64,.int .i64] ::
  .lst true 88 [.str,.int .i64,.int .i64,.bool,.int .i64,.lst false 8 [.int .i64],.int .i64,.int .i64]::.lst false 1 [.bool]::.lst false 16 [.str]::.lst false 24 [.lst false 16 [.str]]::.lst false 24 [.lst false 16 [.str]]::.str::.str::.bool::.int .i64::[.str,.int .i64]) L) :
  ∃n,evF EnD n 10 L=some [.bool true]:=by
 obtain⟨g,ss,bs,r,rest,rfl,hS,hz,h⟩:=case_of20 h;obtain⟨y1,r1,rfl,h1,h⟩:=h.cons_inv;obtain⟨y2,r2,rfl,h2,h⟩:=h.cons_inv;obtain rfl:=h.q84;obtain⟨who,rfl,_⟩:=h1.q4s;obtain⟨line,rfl,_⟩:=h2.q1i;obtain⟨b,hb,hsm⟩:=qrd hS hz (Ak _);cases b with
 |false =>
  obtain⟨m1,m2,m3,m4⟩:=hsm rfl;exact⟨9000000000000000+2+11,posts_run m1 m2 m3 m4 who line (by omega) (by have:=hb 10;exact this)⟩
 |true =>
  refine⟨9000000000000000+2+1,?_⟩;have:=hb 0;rw[qjs];refine BG (congrArg (λo=>Option.bind o _) this) ?_;simp (disch:=omega) only[rr]
end
end Rf
