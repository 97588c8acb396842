/- Texts of this work put together, their blanks and comments taken out: Pst, EqLaw20. -/
import Derived.Test.YtcpnpoagpnkblaaGreatDoorSNG
import Derived.Test.YtcpnpoagpnkblaaGreatDoorSNE
import Derived.Test.YtcpnpoagpnkblaaGreatDoorSMZ
import Derived.Test.YtcpnpoagpnkblaaGreatDoorSMH
import Derived.KernelRfl
set_option linter.unusedVariables false
set_option linter.unusedSimpArgs false
set_option maxHeartbeats 4000000
set_option maxRecDepth 100000
namespace Rf
open Go
section
section
variable {n K:Nat} {q:Rat} {d:Nat} {z w:Int}
theorem d_round(hq:Sz q)(hd:dn d=q.den):evF EnD (n+1) 83 [zl (q).num,zb (q).num,nL (d),.bool false]=some [zl (q1a q),zb (q1a q)]:=by
 have:evF EnD (n+1) 83 [zl (q).num,zb (q).num,nL (d),.bool false]=limO En 83 [zl (q).num,zb (q).num,nL (d),.bool false]:=by kernel_rfl
 rw[this];exact q1o (round_ev (k:=1000000000) (by omega) (by omega) hq hd)
theorem d_nsub(hK:K+1<=100000000000)(hz:z.natAbs<2^K)(hw:w.natAbs<2^K):evF EnD (n+1) 84 [zl z,zb z,zl w,zb w]=some [zl (z-w),zb (z-w)]:=by
 have:evF EnD (n+1) 84 [zl z,zb z,zl w,zb w]=limO En 84 [zl z,zb z,zl w,zb w]:=by kernel_rfl
 rw[this];exact q1o (qdo hK hz hw)
theorem d_ntext(hK:K<=10000000000)(hz:z.natAbs<2^K):evF EnD (n+1) 85 [zl z,zb z]=some [sF (qu z)]:=by
 have:evF EnD (n+1) 85 [zl z,zb z]=limO En 85 [zl z,zb z]:=by kernel_rfl
 rw[this];exact q1o (qi3 hK hz)
theorem x_round(hq:Sz q)(hd:dn d=q.den):evF EnD (n+1) 24 [zb (q).num,wl (q).num,.bool false,wL (d)]=some [zb (q1a q),wl (q1a q)]:=by
 have:evF EnD (n+1) 24 [zb (q).num,wl (q).num,.bool false,wL (d)]=limO En 24 [zb (q).num,wl (q).num,.bool false,wL (d)]:=by kernel_rfl
 rw[this];exact q1o (wround_ev (k:=1000000000) (by omega) (by omega) hq hd)
theorem x_ntext(hK:K<=100000000000)(hz:z.natAbs<2^K):evF EnD (n+1) 25 [zb z,wl z]=some [sF (qu z)]:=by
 have:evF EnD (n+1) 25 [zb z,wl z]=limO En 25 [zb z,wl z]:=by kernel_rfl
 rw[this];exact q1o (qgf hK hz)
theorem x_den1:evF EnD (n+1) 43 [zb (((1:Int):Rat)).num,wl (((1:Int):Rat)).num,.bool false,wL (((1:Int):Rat)).den]=some [.bool false,wL 1]:=by
 have:evF EnD (n+1) 43 [zb (((1:Int):Rat)).num,wl (((1:Int):Rat)).num,.bool false,wL (((1:Int):Rat)).den]=limO En 43 [zb (((1:Int):Rat)).num,wl (((1:Int):Rat)).num,.bool false,wL (((1:Int):Rat)).den]:=by kernel_rfl
 rw[this];exact q1o q6n
theorem x_make1(hK:K<=100000000000)(hK1:1<=K)(hz:z.natAbs<2^K):evF EnD (n+1) 79 [zb z,wl z,.bool false,wL 1]=some [zb ((z:Rat)).num,wl ((z:Rat)).num,.bool false,wL ((z:Rat)).den,iF 0]:=by
 have:evF EnD (n+1) 79 [zb z,wl z,.bool false,wL 1]=limO En 79 [zb z,wl z,.bool false,wL 1]:=by kernel_rfl
 rw[this];have h:=qdw (a:=z) (b:=1) hK (by omega) hz (by have:=two_bd hK1;show 1<2^K;omega);rw[show Rat.divInt z 1=(z:Rat) from by rw[Rat.divInt_eq_div,show((1:Int):Rat)=1 from rfl];grind]at h;exact q1o h
theorem qci{t:Txt}(h:pr t=some q)(hl:t.length<=100000000):evF EnD (n+1) 22 [sF t]=some [zb (q).num,wl (q).num,.bool false,wL (q).den,iF 0]:=by
 have:evF EnD (n+1) 22 [sF t]=evF EnA (n+1) 22 [sF t]:=by kernel_rfl
 rw[this,qfd h hl]
end
theorem qo1{x m:Nat}(h:x<2^(3*m)):(qk x).length<=m+1:=by
 have h8:x<10^m:=by
  rw[Nat.pow_mul]at h;exact AQ h (ED (by omega) m)
 unfold qk;split
 ·simp
 ·have:=q5h (b:=10) (by omega) h8;simp;omega
theorem len3{m:Nat}{q:Rat}(h:Bd (3*m) q):(qw q).length<=2*m+4:=by
 have h1:=qo1 h.1;have h2:=qo1 h.2;unfold qw qu;split <;> split <;> simp <;> omega
theorem qcj(q:Rat):pr (qw q)=some q:=q9n.2 rfl
theorem qm5(z:Int):qw (z:Rat)=qu z:=by unfold qw;rw[if_pos (show(z:Rat).den=1 from rfl)];rfl
theorem qeq{q:Rat}{k:Nat}(h:Bd k q):(q1a q).natAbs<2^(k+2):=by
 have hf:(q17 q).natAbs<2^(k+1):=qg6 (den_pos q) h.1;have h1:0<2^(k+1):=Fx _;rw[Ay];unfold q1a;split <;> omega
def entF(a c:Txt):FV:=.agg [sF a,sF c]
def whoT:Txt:=[119,104,111,45]
def qb3:Txt:=[108,105,110,101,45]
def qb2:Txt:=[114,111,117,110,100]
noncomputable def cW(ss:List StpV)(bs:List BlkV)(r:ResV)(t:Txt):Int:=q1a (amtV ss bs r (txt t))
noncomputable def cR(g:q10)(r:ResV)(k:Nat):Int:=q1a (q1k r (g.lines.getD k default) k)
noncomputable def entW(ss:List StpV)(bs:List BlkV)(r:ResV)(t:Txt):FV:=entF (whoT++t) (qu (cW ss bs r t))
noncomputable def entR(g:q10)(r:ResV)(k:Nat):FV:=entF (qb3++qk k) (qu (cR g r k))
def sumZ:List Int->Int
 |[]=>0
 |z::l=>z+sumZ l
noncomputable def totV(g:q10)(ss:List StpV)(bs:List BlkV)(r:ResV):Int:=sumZ ((q19 ss bs).map (cW ss bs r))+sumZ ((List.range' 0 g.lines.length).map (cR g r))
noncomputable def qcl(g:q10)(ss:List StpV)(bs:List BlkV)(r:ResV):List FV :=
 (q19 ss bs).map (entW ss bs r)++(List.range' 0 g.lines.length).map (entR g r)++[entF qb2 (qu (-totV g ss bs r))]
noncomputable def q8y(g:q10)(ss:List StpV)(bs:List BlkV)(r:ResV):List FV :=
 bif decide (chkV g ss bs r=0)&&(q19 ss bs).all (λt=>q2z (txt t))then [.list 2 (qcl g ss bs r),iF 0]else [.list 2 [],iF 1]
theorem zl_zero':zl (0:Int)=.list 1 []:=q58
theorem zb_zero':zb (0:Int)=.bool false:=rfl
theorem qm7(l:List (List UInt8)):(Lib.compact l).length<=l.length:=by
 unfold Lib.compact Lib.compactUpTo;rw[Aa];have h:=FJ (Lib.keeps l.toArray) (List.range l.toArray.toList.length);rw[Ce]at h;exact h
section
variable {g:q10} {ss:List StpV} {bs:List BlkV} {r:ResV} {n:Nat}
theorem cW_bd(hS:Sq ss bs r)(hs:q2e g ss bs r)(hr:q1f r=true)(t:Txt):Bd 80000000 (amtV ss bs r (txt t)):=by
 obtain⟨v,d,a1,a2,a3,a4⟩:=qi8 (n:=300) (who:=txt t) hS (Ak _);rw[<- a4 (qck hs hr _)];exact a3
theorem cR_bd(hS:Sq ss bs r)(hs:q2e g ss bs r)(hr:q1f r=true){k:Nat}(hk:k<g.lines.length):Bd 80000000 (q1k r g.lines[k] k):=by
 obtain⟨v,d,a1,a2,a3,a4⟩:=qi9 (n:=300) (l:=g.lines[k]) (k:=k) hS (Ak _);rw[<- a4 (qch hs hr hk)];exact a3
theorem qep{i K:Nat}(hi:i<=1000:=by omega):i*2^K<2^(K+20):=by
 have h0:0<2^K:=Fx K;rw[Cd,AB];exact EK (by omega) h0
theorem step_bd{s c:Int}{i K:Nat}(h:s.natAbs<=i*2^K)(hc:c.natAbs<2^K):(s-c).natAbs<=(i+1)*2^K/\(s+c).natAbs<=(i+1)*2^K:=by
 rw[De];omega
theorem qo2{a:Txt}{q:Rat}{d K i:Nat}{s:Int}{E:List FV}(hK:80000002<=K)(hK2:K+100<=1000000000)(hi:i<=900)(hq:Bd 80000000 q)(hd:dn d=q.den)(hs:s.natAbs<=i*2^K)(hE:E.length<=1000000) :
  evF EnD (n+2) 82 [sF a,zl (q).num,zb (q).num,nL (d),.bool false,zl s,zb s,.list 2 E]=some [zl (s-q1a q),zb (s-q1a q),.list 2 (E++[entF a (qu (q1a q))])]/\(s-q1a q).natAbs<=(i+1)*2^K:=by
 have hc:(q1a q).natAbs<2^K:=AQ (qeq (hq.mono (show 80000000<=K-2 by omega))) (AU (by omega) (by omega));refine⟨?_,(step_bd hs hc).1⟩;have hs2:s.natAbs<2^(K+20):=BK hs (qep);have hc2:(q1a q).natAbs<2^(K+20):=AQ hc (AU (by omega) (by omega));rw[qsp,d_round (hq.mono (by omega)) hd];simp only[rr];rw[d_nsub (K:=K+20) (by omega) hs2 hc2];simp only[rr];rw[d_ntext (K:=K) (by omega) hc];simp (disch:=omega) only[el1,rr];rw[q5r (by rw[Ci];omega),Ac];rfl
theorem name_at(b:Bool)(s:ByteArray)(hs:s.size<=1099511627776):evF EnD (n+1) 87 [.str s]=some [.bool (q2z s)]/\evF EnD (n+1) 97 [.str s]=some [.bool (q2z s)]:=by
 have h1:evF EnD (n+1) 87 [.str s]=nameExt [.str s]:=by kernel_rfl
 have h2:evF EnD (n+1) 97 [.str s]=nameExt [.str s]:=by kernel_rfl
 rw[h1,h2];exact⟨if_pos hs,if_pos hs⟩
theorem itoa_at{k:Nat}(hk:k<100):evF EnD (n+1) 90 [iF k]=some [sF (qk k)]:=by
 have h1:evF EnD (n+1) 90 [iF k]=itoaExt [iF k]:=by kernel_rfl
 rw[h1];refine(if_pos (by omega)).trans ?_;rfl
theorem qw6(hS:Sq ss bs r)(hs:q2e g ss bs r)(hr:q1f r=true)(hl:g.lines.length<=90){K:Nat}(hK:80000002<=K)(hK2:K+100<=1000000000)(hn:1000<=n):∀(c k m i:Nat) (s:Int) (E:List FV),k+c=g.lines.length->c<m->i+c<=800->s.natAbs<=i*2^K->E.length+c<=100000 ->
  q1s.l27 (n+9) [] m (rL r [.list 2 E,zl s,zb s,.list 3 (g.lines.map qz.fv),iF (g.lines.length:Int),iF k]) =
   some [.list 2 (E++(List.range' k c).map (entR g r)++[entF qb2 (qu (s-sumZ ((List.range' k c).map (cR g r))))]),iF 0]:=by
 intro c
 induction c with
 |zero =>
  intro k m i s E hk hm hi hsb hE;obtain⟨m,rfl⟩:=qSx m;obtain rfl:k=g.lines.length:=by omega
  have hs2:s.natAbs<2^(K+20):=BK hsb (qep);rw[q1s.l27_eq,Ad,Ab,d_ntext (K:=K+20) (by omega) hs2];simp (disch:=omega) only[el1,rr];rw[q5r (by rw[Ci];omega),Ac,show s-sumZ ((List.range' g.lines.length 0).map (cR g r))=s from by show s-0=s;omega];show _=some [FV.list 2 (E++[]++_),_];rw[AN];rfl
 |succ c ih =>
  intro k m i s E hk hm hi hsb hE;obtain⟨m,rfl⟩:=qSx m;have hkl:k<g.lines.length:=by omega
  obtain⟨v,d,a1,a2,a3,a4⟩:=qi9 (n:=n+4) (l:=g.lines[k]) (k:=k) hS (by omega);have hv:=a4 (qch hs hr hkl);subst hv;obtain⟨p1,p2⟩:=qo2 (n:=n+7) (a:=qb3++qk k) hK hK2 (by omega:i<=900) a3 a2 hsb (E:=E) (by omega);have hdl:(qk k).length<=100:=by
   have:=q9m (x:=k) (k:=90) (by have:(2:Nat)^7<=2^90:=AU (by omega) (by omega);omega);omega
  rw[q1s.l27_eq,Af,Ac,Aa,q9 hkl];simp only[lin_at hkl,rr];rw[a1];simp only[rr];rw[itoa_at (n:=n+8) (by omega)];simp only[rr];rw[q1e,Ad,Ab,show({ data:=#[108,105,110,101,45] }:ByteArray)=txt qb3 from rfl,q5l];rw[show evF EnD (n+9) 82 _=_ from p1];simp only[rr];rw[qc,ih (k+1) m (i+1) _ _ (by omega) (by omega) (by omega) p2 (by rw[Bc,Ci];omega)];have ec:cR g r k=q1a (q1k r g.lines[k] k):=by unfold cR;rw[q2m hkl]
  rw[BL,AM,AM,show sumZ (cR g r k::(List.range' (k+1) c).map (cR g r))=cR g r k+sumZ ((List.range' (k+1) c).map (cR g r)) from rfl,ec,Ap E,show entR g r k=entF (qb3++qk k) (qu (q1a (q1k r g.lines[k] k))) from by unfold entR;rw[ec]];rw[show s-q1a (q1k r g.lines[k] k)-sumZ ((List.range' (k+1) c).map (cR g r))=s-(q1a (q1k r g.lines[k] k)+sumZ ((List.range' (k+1) c).map (cR g r))) from by omega];rfl
theorem qw7(hS:Sq ss bs r)(hs:q2e g ss bs r)(hr:q1f r=true)(hl:g.lines.length<=90){N:List Txt}(hN:N.length<=600)(hNb:∀t,t∈N->t.length<=1000000){K:Nat}(hK:80000002<=K)(hK2:K+100<=1000000000)(hn:1000<=n):∀(c i m:Nat) (s:Int) (E:List FV),i+c=N.length->c<m->s.natAbs<=i*2^K->E.length<=i ->
  q1s.l19 (n+9) [] m (gR g (rL r [.list 2 E,zl s,zb s,.list 7 (ss.map StpV.fv),.list 8 (bs.map BlkV.fv),.list 1 (N.map sF),iF (N.length:Int),iF i])) =
   some (bif(N.drop i).all (λt=>q2z (txt t))then [.list 2 (E++(N.drop i).map (entW ss bs r)++(List.range' 0 g.lines.length).map (entR g r)++[entF qb2 (qu (s-sumZ ((N.drop i).map (cW ss bs r))-sumZ ((List.range' 0 g.lines.length).map (cR g r))))]),iF 0]else [.list 2 [],iF 1]):=by
 intro c
 induction c with
 |zero =>
  intro i m s E hi hm hsb hE;obtain⟨m,rfl⟩:=qSx m;obtain rfl:i=N.length:=by omega
  have h:=qw6 hS hs hr hl hK hK2 hn g.lines.length 0 (n+9) N.length s E (by omega) (by omega) (by omega) hsb (by omega);rw[q1s.q4r,Ad,Ab,Aa,Dx];refine h.trans ?_;rw[show([]:List Txt).all (λt=>q2z (txt t))=true from rfl,Ac,BG,AN,show s-sumZ (([]:List Txt).map (cW ss bs r))=s from by show s-0=s;omega]
 |succ c ih =>
  intro i m s E hi hm hsb hE;obtain⟨m,rfl⟩:=qSx m;have hil:i<N.length:=by omega
  have hb:=hNb _ (Ah hil);obtain⟨h87,_⟩:=name_at (n:=n+8) true (txt N[i]) (by rw[q1e];omega);rw[q1s.q4r,Af,Ac,Aa,q9 hil];simp only[q68 hil,rr];rw[h87];simp only[rr];rw[Ba hil,Bk];cases hnv:q2z (txt N[i])with
  |false=>rfl
  |true =>
   obtain⟨v,d,a1,a2,a3,a4⟩:=qi8 (n:=n+2) (who:=txt N[i]) hS (by omega);have hv:=a4 (qck hs hr _);subst hv;obtain⟨p1,p2⟩:=qo2 (n:=n+7) (a:=whoT++N[i]) hK hK2 (by omega:i<=900) a3 a2 hsb (E:=E) (by omega);rw[Ao,Ab,AA,a1];simp only[rr];rw[q1e,Ad,Ab,show({ data:=#[119,104,111,45] }:ByteArray)=txt whoT from rfl,q5l];rw[show evF EnD (n+9) 82 _=_ from p1];simp only[rr];rw[qc,ih (i+1) m _ _ (by omega) (by omega) p2 (by rw[Bc,Ci];omega)];rw[AM,AM,show sumZ (cW ss bs r N[i]::(N.drop (i+1)).map (cW ss bs r))=cW ss bs r N[i]+sumZ ((N.drop (i+1)).map (cW ss bs r)) from rfl,Ap E];rw[show s-(cW ss bs r N[i]+sumZ ((N.drop (i+1)).map (cW ss bs r)))=s-q1a (amtV ss bs r (txt N[i]))-sumZ ((N.drop (i+1)).map (cW ss bs r)) from by unfold cW;omega];rfl
theorem quh(h:Sm g ss bs r)(hS:Sq ss bs r)(hws:∀s,s∈ss->s.who.size<=1000000)(hwb:∀b,b∈bs->b.who.size<=1000000)(hn:1000<=n) :
  evF EnD (n+10) 23 (gR g (.list 7 (ss.map StpV.fv)::.list 8 (bs.map BlkV.fv)::rL r []))=some (q8y g ss bs r):=by
 have h15:evF EnD (n+9) 15 (gR g (.list 7 (ss.map StpV.fv)::.list 8 (bs.map BlkV.fv)::rL r []))=some [iF (chkV g ss bs r)]:=by
  have:evF EnD (n+9) 15 (gR g (.list 7 (ss.map StpV.fv)::.list 8 (bs.map BlkV.fv)::rL r []))=limO EnB 15 (gR g (.list 7 (ss.map StpV.fv)::.list 8 (bs.map BlkV.fv)::rL r [])):=by kernel_rfl
  rw[this];refine q1o ⟨2,λn hn=>?_⟩;obtain⟨k,rfl⟩:∃k,n=k+2:=⟨n-2,by omega⟩;exact check_run h
 rw[qsl,h15];simp only[rr];unfold q8y;by_cases hc:chkV g ss bs r=0
 ·obtain⟨hs,hr⟩:=qhr hc;obtain⟨K,hK,hK2⟩:∃K,80000002<=K/\K+100<=1000000000:=⟨80000002,by omega,by omega⟩;have hl:g.lines.length<=90:=by
   obtain⟨o1,_⟩:=q6c hs.ord;unfold q37 at o1;simp only[Ai,As]at o1;omega
  have hm:∀t,t∈q19 ss bs->t.length<=1000000:=λt ht=>by
   rw[qbl]at ht;unfold whoL at ht;rcases Bw.1 ht with q | q
   ·obtain⟨s,hs1,rfl⟩:=Bp.1 q;rw[By];exact hws s hs1
   ·obtain⟨s,hs1,rfl⟩:=Bp.1 q;rw[By];exact hwb s hs1
  have hlen:(q19 ss bs).length<=600:=by
   have h1:=qm7 (sortL (whoL ss bs));have h2:(sortL (whoL ss bs)).length=(whoL ss bs).length:=(Fj _ _).length_eq;have h3:(whoL ss bs).length=ss.length+bs.length:=by unfold whoL;simp only[Bc,Aa]
   have:=hS.ssl;have:=hS.bsl;show(Lib.compact (sortL (whoL ss bs))).length<=600;omega
  rw[hc,show((0:Int) !=0)=false from rfl,Ab,Aa,Af rfl,AA];have e1:=qs7 (n:=n+8) (L:=[]) hS.ssl hS.bsl (by omega) (g:=g) (r:=r);have e2:=qw7 hS hs hr hl hlen hm hK hK2 hn (q19 ss bs).length 0 (n+9) 0 [] (by omega) (by omega) (by simp) (by simp);rw[zl_zero',zb_zero']at e2;refine(e1.trans e2).trans ?_;unfold qcl totV;rw[Av,Au,show(0:Int)-sumZ ((q19 ss bs).map (cW ss bs r))-sumZ ((List.range' 0 g.lines.length).map (cR g r))=-(sumZ ((q19 ss bs).map (cW ss bs r))+sumZ ((List.range' 0 g.lines.length).map (cR g r))) from by omega]
 ·rw[show(chkV g ss bs r !=0)=true from by simpa using hc,Ac,Ad hc];rfl
end
end
section
variable (n m:Nat)
variable (k x u H G D F:Bool)
variable (z g c a j f e d v w B t J E C y I:List FV)
variable (i h:ByteArray)
variable (o b A1 q p l r s A A0:Int)
noncomputable def q2f.l10(n:Nat):=Lp EnD n 11 [1,1,1,1,1,1,1,0,1,0]
noncomputable def q2f.l18(n:Nat):=Lp EnD n 11 [1,1,1,1,1,1,1,1,0,1,0]
noncomputable def q2f.l28(n:Nat):=Lp EnD n 11 [1,1,1,1,1,1,1,1,1,1,1,0,1,0]
theorem q2f.q3l:q2f.l10 n [] (m+1) (k15 o b g q p c a j f e d i h k l (kQ x v u w [.list 2 B,iL t,iI A])) =
(cond (A<(t.length:Int)) ((ix A t.length).bind λO=> (asStr (at' t O 0)).bind λP=> (evF EnD n 31 (.list 7 c::.list 8 a::k8 j f e d i h k l [.str P])).bind λN=> (asStr N[0]?).bind λQ=>(asInt .i64 N[1]?).bind λR=>(evF EnD n 22 [.str Q]).bind λK=> (asBool K[0]?).bind λS=>(asLst 1 K[1]?).bind λT=>(asBool K[2]?).bind λU=>(asLst 1 K[3]?).bind λV=>(asInt .i64 (K[4]?)).bind λW=>
(cond (R !=0) (some [.bool false]) (cond (W !=0) (some [.bool false]) ((evF EnD n 37 (kQ x v u w (kQ S T U V []))).bind λM=> (asBool M[0]?).bind λX=>(asLst 1 M[1]?).bind λY=>(asBool M[2]?).bind λZ=>(asLst 1 M[3]?).bind λv15=>q2f.l10 n [] m (k15 o b g q p c a j f e d i h k l (kQ X Y Z v15 [.list 2 B,iL t,iI (w6 (A+1))])))))) (q2f.l18 n [] n (k15 o b g q p c a j f e d i h k l (kQ x v u w [.list 2 B,iL t,iI 0])))):=by kernel_rfl
theorem q2f.q55:q2f.l18 n [] (m+1) (k15 o b g q p c a j f e d i h k l (kQ x v u w [.list 2 B,iL t,iI A])) =
(cond (A<(g.length:Int)) ((evF EnD n 34 (k5 o b g q p (k8 j f e d i h k l [iI A]))).bind λP=> (asStr P[0]?).bind λU=>(asInt .i64 P[1]?).bind λV=>(evF EnD n 22 [.str U]).bind λK=> (asBool K[0]?).bind λQ=>(asLst 1 K[1]?).bind λR=>(asBool K[2]?).bind λS=>(asLst 1 K[3]?).bind λT=>(asInt .i64 (K[4]?)).bind λW=>
(cond (V !=0) (some [.bool false]) (cond (W !=0) (some [.bool false]) ((evF EnD n 38 (kQ Q R S T [])).bind λX=> (asInt .i64 (X[0]?)).bind λY=>
(cond (Y<0) (some [.bool false]) ((evF EnD n 37 (kQ x v u w (kQ Q R S T []))).bind λM=> (asBool M[0]?).bind λZ=>(asLst 1 M[1]?).bind λv13=>(asBool M[2]?).bind λc14=>(asLst 1 M[3]?).bind λv15=>q2f.l18 n [] m (k15 o b g q p c a j f e d i h k l (kQ Z v13 c14 v15 [.list 2 B,iL t,iI (w6 (A+1))])))))))) ((evF EnD n 12 [iI 0]).bind λN=> (asBool N[0]?).bind λc17=>(asLst 1 N[1]?).bind λv18=>(asBool N[2]?).bind λc19=>(asLst 1 N[3]?).bind λv20=>(evF EnD n 12 [iI 0]).bind λO=> (asBool O[0]?).bind λc22=>(asLst 1 O[1]?).bind λv23=>(asBool O[2]?).bind λc24=>(asLst 1 O[3]?).bind λv25=>q2f.l28 n [] n (k15 o b g q p c a j f e d i h k l (kQ x v u w (kQ c17 v18 c19 v20 (kQ c22 v23 c24 v25 [.list 2 B,iL t,iI 0])))))):=by kernel_rfl
theorem q2f.l28_eq:q2f.l28 n [] (m+1) (k15 o b g q p c a j f e d i h k l (kQ x v u w (kQ H t G J (kQ D E F C [.list 2 y,iL I,iI A0])))) =
(cond (A0<(y.length:Int)) ((ix A0 y.length).bind λi0=> (asStr (at' y i0 1)).bind λu1=> (evF EnD n 22 [.str u1]).bind λK=> (asBool K[0]?).bind λS=>(asLst 1 K[1]?).bind λT=>(asBool K[2]?).bind λU=>(asLst 1 K[3]?).bind λV=>(asInt .i64 (K[4]?)).bind λn7=>
(cond (n7 !=0) (some [.bool false]) ((evF EnD n 37 (kQ H t G J (kQ S T U V []))).bind λM=> (asBool M[0]?).bind λc9=>(asLst 1 M[1]?).bind λv10=>(asBool M[2]?).bind λc11=>(asLst 1 M[3]?).bind λv12=>q2f.l28 n [] m (k15 o b g q p c a j f e d i h k l (kQ x v u w (kQ c9 v10 c11 v12 (kQ S T U V [.list 2 y,iL I,iI (w6 (A0+1))]))))))) ((evF EnD n 38 (kQ D E F C [])).bind λr13=> (asInt .i64 (r13[0]?)).bind λn14=>
(cond (n14<0) ((evF EnD n 39 (kQ D E F C [])).bind λN=> (asBool N[0]?).bind λW=>(asLst 1 N[1]?).bind λX=>(asBool N[2]?).bind λY=>(asLst 1 N[3]?).bind λZ=>(evF EnD n 38 (kQ x v u w [])).bind λr20=> (asInt .i64 (r20[0]?)).bind λn21=>
(cond (n21==0) ((evF EnD n 38 (kQ H t G J [])).bind λr22=> (asInt .i64 (r22[0]?)).bind λn23=>
(cond (n23==0) (cond ((y.length:Int)==(w6 ((w6 ((I.length:Int)+(g.length:Int)))+1))) ((evF EnD n 37 (kQ W X Y Z (kQ W X Y Z []))).bind λO=> (asBool O[0]?).bind λc25=>(asLst 1 O[1]?).bind λv26=>(asBool O[2]?).bind λc27=>(asLst 1 O[3]?).bind λv28=>(evF EnD n 12 [iI (w6 ((y.length:Int)-1))]).bind λP=> (asBool P[0]?).bind λc30=>(asLst 1 P[1]?).bind λv31=>(asBool P[2]?).bind λc32=>(asLst 1 P[3]?).bind λv33=>(evF EnD n 32 (kQ c25 v26 c27 v28 (kQ c30 v31 c32 v33 []))).bind λr34=> (asInt .i64 r34[0]?).bind λn35=>some [.bool (decide (n35<=0))]) (some [.bool false])) (some [.bool false]))) (some [.bool false]))) ((evF EnD n 38 (kQ x v u w [])).bind λr36=> (asInt .i64 (r36[0]?)).bind λn37=>
(cond (n37==0) ((evF EnD n 38 (kQ H t G J [])).bind λr38=> (asInt .i64 (r38[0]?)).bind λn39=>
(cond (n39==0) (cond ((y.length:Int)==(w6 ((w6 ((I.length:Int)+(g.length:Int)))+1))) ((evF EnD n 37 (kQ D E F C (kQ D E F C []))).bind λQ=> (asBool Q[0]?).bind λc41=>(asLst 1 Q[1]?).bind λv42=>(asBool Q[2]?).bind λc43=>(asLst 1 Q[3]?).bind λv44=>(evF EnD n 12 [iI (w6 ((y.length:Int)-1))]).bind λR=> (asBool R[0]?).bind λc46=>(asLst 1 R[1]?).bind λv47=>(asBool R[2]?).bind λc48=>(asLst 1 R[3]?).bind λv49=>(evF EnD n 32 (kQ c41 v42 c43 v44 (kQ c46 v47 c48 v49 []))).bind λr50=> (asInt .i64 r50[0]?).bind λn51=>some [.bool (decide (n51<=0))]) (some [.bool false])) (some [.bool false]))) (some [.bool false])))))):=by kernel_rfl
theorem qkr:evF EnD (n+1) 11 (k15 o b g q p c a j f e d i h k l [])=(evF EnD n 29 (k15 o b g q p c a j f e d i h k l [])).bind λR=> (asBool R[0]?).bind λS=>
(cond S (some [.bool true]) ((evF EnD n 23 (k15 o b g q p c a j f e d i h k l [])).bind λP=> (asLst 2 P[0]?).bind λN=>(asInt .i64 P[1]?).bind λK=>(evF EnD n 27 (k15 o b g q p c a j f e d i h k l [])).bind λQ=> (asLst 2 Q[0]?).bind λZ=>(asInt .i64 (Q[1]?)).bind λO=>
(cond (K !=O) (cond (K==O) (some [.bool ((N.length:Int)==0)]) (some [.bool false])) (cond (K !=0) (cond (K==O) (some [.bool ((N.length:Int)==0)]) (some [.bool false])) ((evF EnD n 12 [iI 0]).bind λM=> (asBool M[0]?).bind λT=>(asLst 1 M[1]?).bind λU=>(asBool M[2]?).bind λV=>(asLst 1 M[3]?).bind λW=>(evF EnD n 28 [.list 7 c,.list 8 a]).bind λX=> (asLst 1 X[0]?).bind λY=>q2f.l10 n [] n (k15 o b g q p c a j f e d i h k l (kQ T U V W [.list 2 N,iL Y,iI 0]))))))):=by kernel_rfl
noncomputable def qv.l3(n:Nat):=Lp EnD n 29 [1,1,0,1,0]
noncomputable def qv.l7(n:Nat):=Lp EnD n 29 [1,1,1,0,1,0]
noncomputable def qv.l12(n:Nat):=Lp EnD n 29 [1,1,1,1,1,0,1,0]
noncomputable def qv.l16(n:Nat):=Lp EnD n 29 [1,1,1,1,1,1,0,1,0]
theorem qv.qm:qv.l3 n [] (m+1) (k15 o b g q p c a j f e d i h k l [iI r,iI s]) =
(cond (s<(c.length:Int)) (cond (r<=1024) ((ix s c.length).bind λM=> (asStr (at' c M 0)).bind λK=> qv.l3 n [] m (k15 o b g q p c a j f e d i h k l [iI (w6 (r+(if 1048576<(K.size:Int)then 1048576 else(K.size:Int)))),iI (w6 (s+1))])) (qv.l7 n [] n (k15 o b g q p c a j f e d i h k l [iI r,iI 0]))) (qv.l7 n [] n (k15 o b g q p c a j f e d i h k l [iI r,iI 0]))):=by kernel_rfl
theorem qv.q2w:qv.l7 n [] (m+1) (k15 o b g q p c a j f e d i h k l [iI r,iI s]) =
(cond (s<(a.length:Int)) (cond (r<=1024) ((ix s a.length).bind λN=> (asLst 1 (at' a N 5)).bind λK=> (ix s a.length).bind λO=> (asStr (at' a O 0)).bind λM=> qv.l7 n [] m (k15 o b g q p c a j f e d i h k l [iI (w6 (r+(w6 ((if 1048576<(K.length:Int)then 1048576 else(K.length:Int))+(if 1048576<(M.size:Int)then 1048576 else(M.size:Int)))))),iI (w6 (s+1))])) ((evF EnD n 98 [iL f]).bind λP=> (asInt .i64 P[0]?).bind λQ=>qv.l12 n [] n (k15 o b g q p c a j f e d i h k l [iI (w6 (r+Q)),iI 0]))) ((evF EnD n 98 [iL f]).bind λR=> (asInt .i64 R[0]?).bind λS=>qv.l12 n [] n (k15 o b g q p c a j f e d i h k l [iI (w6 (r+S)),iI 0]))):=by kernel_rfl
theorem qv.q42:qv.l12 n [] (m+1) (k15 o b g q p c a j f e d i h k l [iI r,iI s]) =
(cond (s<(e.length:Int)) (cond (r<=256) ((ix s e.length).bind λK=> (asLst 1 (at' e K 0)).bind λM=> (evF EnD n 98 [iL M]).bind λN=> (asInt .i64 N[0]?).bind λO=>qv.l12 n [] m (k15 o b g q p c a j f e d i h k l [iI (w6 (r+O)),iI (w6 (s+1))])) (qv.l16 n [] n (k15 o b g q p c a j f e d i h k l [iI r,iI 0]))) (qv.l16 n [] n (k15 o b g q p c a j f e d i h k l [iI r,iI 0]))):=by kernel_rfl
theorem qv.l16_eq:qv.l16 n [] (m+1) (k15 o b g q p c a j f e d i h k l [iI r,iI s]) =
(cond (s<(d.length:Int)) (cond (r<=256) ((ix s d.length).bind λK=> (asLst 1 (at' d K 0)).bind λM=> (evF EnD n 98 [iL M]).bind λN=> (asInt .i64 N[0]?).bind λO=>qv.l16 n [] m (k15 o b g q p c a j f e d i h k l [iI (w6 (r+O)),iI (w6 (s+1))])) (some [.bool (decide (r>256))])) (some [.bool (decide (r>256))])):=by kernel_rfl
theorem qr7:evF EnD (n+1) 29 (k15 o b g q p c a j f e d i h k l [])=qv.l3 n [] n (k15 o b g q p c a j f e d i h k l [iI (w6 ((w6 ((w6 ((w6 ((w6 ((w6 ((w6 ((w6 ((c.length:Int)+(a.length:Int)))+(f.length:Int)))+(e.length:Int)))+(d.length:Int)))+(g.length:Int)))+(j.length:Int)))+(if 1048576<(i.size:Int)then 1048576 else(i.size:Int))))+(if 1048576<(h.size:Int)then 1048576 else(h.size:Int)))),iI 0]):=by kernel_rfl
noncomputable def q5n.l3(n:Nat):=Lp EnD n 98 [1,1,0,1,0]
theorem q5n.qm:q5n.l3 n [] (m+1) [iL z,iI b,iI A1] =
(cond (A1<(z.length:Int)) (cond (b<=256) ((ix A1 z.length).bind λM=> (asStr (at' z M 0)).bind λK=> q5n.l3 n [] m [iL z,iI (w6 (b+(if 1048576<(K.size:Int)then 1048576 else(K.size:Int)))),iI (w6 (A1+1))]) (some [iI b])) (some [iI b])):=by kernel_rfl
theorem qr8:evF EnD (n+1) 98 [iL z]=q5n.l3 n [] n [iL z,iI (if 1048576<(z.length:Int)then 1048576 else(z.length:Int)),iI 0]:=by kernel_rfl
end
end Rf
