/- Texts of this work put together, their blanks and comments taken out: Pst, EqLaw20. -/
import Derived.Test.YtcpnpoagpnkblaaGreatDoorONG
import Derived.Test.YtcpnpoagpnkblaaGreatDoorONE
import Derived.Test.YtcpnpoagpnkblaaGreatDoorOMZ
import Derived.Test.YtcpnpoagpnkblaaGreatDoorOMH
import Derived.KernelRfl
set_option linter.unusedVariables false
set_option linter.unusedSimpArgs false
set_option maxHeartbeats 4000000
set_option maxRecDepth 100000
namespace Rf
open Go
section
section
variable {n K:Nat} {q:Rat} {d:Nat} {z w:Int}
theorem d_round(hq:Sz q)(hd:dn d=q.den):evF EnD (n+1) 83 [zl (q).num,zb (q).num,nL (d),.bool false]=some [zl (q1x q),zb (q1x q)]:=by
 have:evF EnD (n+1) 83 [zl (q).num,zb (q).num,nL (d),.bool false]=limO En 83 [zl (q).num,zb (q).num,nL (d),.bool false]:=by kernel_rfl
 rw[this];exact q1j (round_ev (k:=1000000000) (by omega) (by omega) hq hd)
theorem d_nsub(hK:K+1<=100000000000)(hz:z.natAbs<2^K)(hw:w.natAbs<2^K):evF EnD (n+1) 84 [zl z,zb z,zl w,zb w]=some [zl (z-w),zb (z-w)]:=by
 have:evF EnD (n+1) 84 [zl z,zb z,zl w,zb w]=limO En 84 [zl z,zb z,zl w,zb w]:=by kernel_rfl
 rw[this];exact q1j (qdb hK hz hw)
theorem d_ntext(hK:K<=10000000000)(hz:z.natAbs<2^K):evF EnD (n+1) 85 [zl z,zb z]=some [sF (qu z)]:=by
 have:evF EnD (n+1) 85 [zl z,zb z]=limO En 85 [zl z,zb z]:=by kernel_rfl
 rw[this];exact q1j (qhs hK hz)
theorem x_round(hq:Sz q)(hd:dn d=q.den):evF EnD (n+1) 24 [zb (q).num,wl (q).num,.bool false,wL (d)]=some [zb (q1x q),wl (q1x q)]:=by
 have:evF EnD (n+1) 24 [zb (q).num,wl (q).num,.bool false,wL (d)]=limO En 24 [zb (q).num,wl (q).num,.bool false,wL (d)]:=by kernel_rfl
 rw[this];exact q1j (wround_ev (k:=1000000000) (by omega) (by omega) hq hd)
theorem x_ntext(hK:K<=100000000000)(hz:z.natAbs<2^K):evF EnD (n+1) 25 [zb z,wl z]=some [sF (qu z)]:=by
 have:evF EnD (n+1) 25 [zb z,wl z]=limO En 25 [zb z,wl z]:=by kernel_rfl
 rw[this];exact q1j (qg0 hK hz)
theorem x_den1:evF EnD (n+1) 43 [zb (((1:Int):Rat)).num,wl (((1:Int):Rat)).num,.bool false,wL (((1:Int):Rat)).den]=some [.bool false,wL 1]:=by
 have:evF EnD (n+1) 43 [zb (((1:Int):Rat)).num,wl (((1:Int):Rat)).num,.bool false,wL (((1:Int):Rat)).den]=limO En 43 [zb (((1:Int):Rat)).num,wl (((1:Int):Rat)).num,.bool false,wL (((1:Int):Rat)).den]:=by kernel_rfl
 rw[this];exact q1j q6m
theorem x_make1(hK:K<=100000000000)(hK1:1<=K)(hz:z.natAbs<2^K):evF EnD (n+1) 79 [zb z,wl z,.bool false,wL 1]=some [zb ((z:Rat)).num,wl ((z:Rat)).num,.bool false,wL ((z:Rat)).den,iF 0]:=by
 have:evF EnD (n+1) 79 [zb z,wl z,.bool false,wL 1]=limO En 79 [zb z,wl z,.bool false,wL 1]:=by kernel_rfl
 rw[this];have h:=qdj (a:=z) (b:=1) hK (by omega) hz (by have:=two_bd hK1;show 1<2^K;omega);rw[show Rat.divInt z 1=(z:Rat) from by rw[Rat.divInt_eq_div,show((1:Int):Rat)=1 from rfl];grind]at h;exact q1j h
theorem qds{t:Txt}(h:pr t=some q)(hl:t.length<=100000000):evF EnD (n+1) 22 [sF t]=some [zb (q).num,wl (q).num,.bool false,wL (q).den,iF 0]:=by
 have:evF EnD (n+1) 22 [sF t]=evF EnA (n+1) 22 [sF t]:=by kernel_rfl
 rw[this,qf5 h hl]
end
theorem qnn{x m:Nat}(h:x<2^(3*m)):(ql x).length<=m+1:=by
 have h8:x<10^m:=by
  rw[Nat.pow_mul]at h;exact AP h (EE (by omega) m)
 unfold ql;split
 ·simp
 ·have:=q5i (b:=10) (by omega) h8;simp;omega
theorem len3{m:Nat}{q:Rat}(h:Bd (3*m) q):(qx q).length<=2*m+4:=by
 have h1:=qnn h.1;have h2:=qnn h.2;unfold qx qu;split <;> split <;> simp <;> omega
theorem qdt(q:Rat):pr (qx q)=some q:=q9j.2 rfl
theorem qjy(z:Int):qx (z:Rat)=qu z:=by unfold qx;rw[if_pos (show(z:Rat).den=1 from rfl)];rfl
theorem qeb{q:Rat}{k:Nat}(h:Bd k q):(q1x q).natAbs<2^(k+2):=by
 have hf:(q17 q).natAbs<2^(k+1):=qfr (den_pos q) h.1;have h1:0<2^(k+1):=Fz _;rw[Ax];unfold q1x;split <;> omega
def entF(a c:Txt):FV:=.agg [sF a,sF c]
def whoT:Txt:=[119,104,111,45]
def lineT:Txt:=[108,105,110,101,45]
def qcb:Txt:=[114,111,117,110,100]
noncomputable def cW(ss:List StpV)(bs:List BlkV)(r:ResV)(t:Txt):Int:=q1x (amtV ss bs r (txt t))
noncomputable def cR(g:q10)(r:ResV)(k:Nat):Int:=q1x (q56 r (g.lines.getD k default) k)
noncomputable def entW(ss:List StpV)(bs:List BlkV)(r:ResV)(t:Txt):FV:=entF (whoT++t) (qu (cW ss bs r t))
noncomputable def entR(g:q10)(r:ResV)(k:Nat):FV:=entF (lineT++ql k) (qu (cR g r k))
def sumZ:List Int->Int
 |[]=>0
 |z::l=>z+sumZ l
noncomputable def totV(g:q10)(ss:List StpV)(bs:List BlkV)(r:ResV):Int:=sumZ ((q26 ss bs).map (cW ss bs r))+sumZ ((List.range' 0 g.lines.length).map (cR g r))
noncomputable def qdu(g:q10)(ss:List StpV)(bs:List BlkV)(r:ResV):List FV :=
 (q26 ss bs).map (entW ss bs r)++(List.range' 0 g.lines.length).map (entR g r)++[entF qcb (qu (-totV g ss bs r))]
noncomputable def qak(g:q10)(ss:List StpV)(bs:List BlkV)(r:ResV):List FV :=
 bif decide (chkV g ss bs r=0)&&(q26 ss bs).all (λt=>q2x (txt t))then [.list 2 (qdu g ss bs r),iF 0]else [.list 2 [],iF 1]
theorem zl_zero':zl (0:Int)=.list 1 []:=q59
theorem zb_zero':zb (0:Int)=.bool false:=rfl
theorem qlx(l:List (List UInt8)):(Lib.compact l).length<=l.length:=by
 unfold Lib.compact Lib.compactUpTo;rw[Aa];have h:=FL (Lib.keeps l.toArray) (List.range l.toArray.toList.length);rw[Ca]at h;exact h
section
variable {g:q10} {ss:List StpV} {bs:List BlkV} {r:ResV} {n:Nat}
theorem cW_bd(hS:Sq ss bs r)(hs:q37 g ss bs r)(hr:q1u r=true)(t:Txt):Bd 80000000 (amtV ss bs r (txt t)):=by
 obtain⟨v,d,a1,a2,a3,a4⟩:=qhx (n:=300) (who:=txt t) hS (Ak _);rw[<- a4 (qbl hs hr _)];exact a3
theorem cR_bd(hS:Sq ss bs r)(hs:q37 g ss bs r)(hr:q1u r=true){k:Nat}(hk:k<g.lines.length):Bd 80000000 (q56 r g.lines[k] k):=by
 obtain⟨v,d,a1,a2,a3,a4⟩:=qmw (n:=300) (l:=g.lines[k]) (k:=k) hS (Ak _);rw[<- a4 (qhi hs hr hk)];exact a3
theorem qei{i K:Nat}(hi:i<=1000:=by omega):i*2^K<2^(K+20):=by
 have h0:0<2^K:=Fz K;rw[BZ,AC];exact EL (by omega) h0
theorem step_bd{s c:Int}{i K:Nat}(h:s.natAbs<=i*2^K)(hc:c.natAbs<2^K):(s-c).natAbs<=(i+1)*2^K/\(s+c).natAbs<=(i+1)*2^K:=by
 rw[Dh];omega
theorem qno{a:Txt}{q:Rat}{d K i:Nat}{s:Int}{E:List FV}(hK:80000002<=K)(hK2:K+100<=1000000000)(hi:i<=900)(hq:Bd 80000000 q)(hd:dn d=q.den)(hs:s.natAbs<=i*2^K)(hE:E.length<=1000000) :
  evF EnD (n+2) 82 [sF a,zl (q).num,zb (q).num,nL (d),.bool false,zl s,zb s,.list 2 E]=some [zl (s-q1x q),zb (s-q1x q),.list 2 (E++[entF a (qu (q1x q))])]/\(s-q1x q).natAbs<=(i+1)*2^K:=by
 have hc:(q1x q).natAbs<2^K:=AP (qeb (hq.mono (show 80000000<=K-2 by omega))) (AX (by omega) (by omega));refine⟨?_,(step_bd hs hc).1⟩;have hs2:s.natAbs<2^(K+20):=BG hs (qei);have hc2:(q1x q).natAbs<2^(K+20):=AP hc (AX (by omega) (by omega));rw[qsf,d_round (hq.mono (by omega)) hd];simp only[rr];rw[d_nsub (K:=K+20) (by omega) hs2 hc2];simp only[rr];rw[d_ntext (K:=K) (by omega) hc];simp (disch:=omega) only[el1,rr];rw[q5v (by rw[Cm];omega),Ac];rfl
theorem name_at(b:Bool)(s:ByteArray)(hs:s.size<=1099511627776):evF EnD (n+1) 87 [.str s]=some [.bool (q2x s)]/\evF EnD (n+1) 97 [.str s]=some [.bool (q2x s)]:=by
 have h1:evF EnD (n+1) 87 [.str s]=nameExt [.str s]:=by kernel_rfl
 have h2:evF EnD (n+1) 97 [.str s]=nameExt [.str s]:=by kernel_rfl
 rw[h1,h2];exact⟨if_pos hs,if_pos hs⟩
theorem itoa_at{k:Nat}(hk:k<100):evF EnD (n+1) 90 [iF k]=some [sF (ql k)]:=by
 have h1:evF EnD (n+1) 90 [iF k]=itoaExt [iF k]:=by kernel_rfl
 rw[h1];refine(if_pos (by omega)).trans ?_;rfl
theorem qvs(hS:Sq ss bs r)(hs:q37 g ss bs r)(hr:q1u r=true)(hl:g.lines.length<=90){K:Nat}(hK:80000002<=K)(hK2:K+100<=1000000000)(hn:1000<=n):∀(c k m i:Nat) (s:Int) (E:List FV),k+c=g.lines.length->c<m->i+c<=800->s.natAbs<=i*2^K->E.length+c<=100000 ->
  q1p.l27 (n+9) [] m (rL r [.list 2 E,zl s,zb s,.list 3 (g.lines.map qz.fv),iF (g.lines.length:Int),iF k]) =
   some [.list 2 (E++(List.range' k c).map (entR g r)++[entF qcb (qu (s-sumZ ((List.range' k c).map (cR g r))))]),iF 0]:=by
 intro c
 induction c with
 |zero =>
  intro k m i s E hk hm hi hsb hE;obtain⟨m,rfl⟩:=qSx m;obtain rfl:k=g.lines.length:=by omega
  have hs2:s.natAbs<2^(K+20):=BG hsb (qei);rw[q1p.l27_eq,Ad,Ab,d_ntext (K:=K+20) (by omega) hs2];simp (disch:=omega) only[el1,rr];rw[q5v (by rw[Cm];omega),Ac,show s-sumZ ((List.range' g.lines.length 0).map (cR g r))=s from by show s-0=s;omega];show _=some [FV.list 2 (E++[]++_),_];rw[AM];rfl
 |succ c ih =>
  intro k m i s E hk hm hi hsb hE;obtain⟨m,rfl⟩:=qSx m;have hkl:k<g.lines.length:=by omega
  obtain⟨v,d,a1,a2,a3,a4⟩:=qmw (n:=n+4) (l:=g.lines[k]) (k:=k) hS (by omega);have hv:=a4 (qhi hs hr hkl);subst hv;obtain⟨p1,p2⟩:=qno (n:=n+7) (a:=lineT++ql k) hK hK2 (by omega:i<=900) a3 a2 hsb (E:=E) (by omega);have hdl:(ql k).length<=100:=by
   have:=q9i (x:=k) (k:=90) (by have:(2:Nat)^7<=2^90:=AX (by omega) (by omega);omega);omega
  rw[q1p.l27_eq,Af,Ac,Aa,q9 hkl];simp only[lin_at hkl,rr];rw[a1];simp only[rr];rw[itoa_at (n:=n+8) (by omega)];simp only[rr];rw[q1c,Ad,Ab,show({ data:=#[108,105,110,101,45] }:ByteArray)=txt lineT from rfl,q5m];rw[show evF EnD (n+9) 82 _=_ from p1];simp only[rr];rw[qc,ih (k+1) m (i+1) _ _ (by omega) (by omega) (by omega) p2 (by rw[Bb,Cm];omega)];have ec:cR g r k=q1x (q56 r g.lines[k] k):=by unfold cR;rw[q2t hkl]
  rw[BK,AQ,AQ,show sumZ (cR g r k::(List.range' (k+1) c).map (cR g r))=cR g r k+sumZ ((List.range' (k+1) c).map (cR g r)) from rfl,ec,Ap E,show entR g r k=entF (lineT++ql k) (qu (q1x (q56 r g.lines[k] k))) from by unfold entR;rw[ec]];rw[show s-q1x (q56 r g.lines[k] k)-sumZ ((List.range' (k+1) c).map (cR g r))=s-(q1x (q56 r g.lines[k] k)+sumZ ((List.range' (k+1) c).map (cR g r))) from by omega];rfl
theorem qvt(hS:Sq ss bs r)(hs:q37 g ss bs r)(hr:q1u r=true)(hl:g.lines.length<=90){N:List Txt}(hN:N.length<=600)(hNb:∀t,t∈N->t.length<=1000000){K:Nat}(hK:80000002<=K)(hK2:K+100<=1000000000)(hn:1000<=n):∀(c i m:Nat) (s:Int) (E:List FV),i+c=N.length->c<m->s.natAbs<=i*2^K->E.length<=i ->
  q1p.l19 (n+9) [] m (gR g (rL r [.list 2 E,zl s,zb s,.list 7 (ss.map StpV.fv),.list 8 (bs.map BlkV.fv),.list 1 (N.map sF),iF (N.length:Int),iF i])) =
   some (bif(N.drop i).all (λt=>q2x (txt t))then [.list 2 (E++(N.drop i).map (entW ss bs r)++(List.range' 0 g.lines.length).map (entR g r)++[entF qcb (qu (s-sumZ ((N.drop i).map (cW ss bs r))-sumZ ((List.range' 0 g.lines.length).map (cR g r))))]),iF 0]else [.list 2 [],iF 1]):=by
 intro c
 induction c with
 |zero =>
  intro i m s E hi hm hsb hE;obtain⟨m,rfl⟩:=qSx m;obtain rfl:i=N.length:=by omega
  have h:=qvs hS hs hr hl hK hK2 hn g.lines.length 0 (n+9) N.length s E (by omega) (by omega) (by omega) hsb (by omega);rw[q1p.q4r,Ad,Ab,Aa,CP];refine h.trans ?_;rw[show([]:List Txt).all (λt=>q2x (txt t))=true from rfl,Ac,BE,AM,show s-sumZ (([]:List Txt).map (cW ss bs r))=s from by show s-0=s;omega]
 |succ c ih =>
  intro i m s E hi hm hsb hE;obtain⟨m,rfl⟩:=qSx m;have hil:i<N.length:=by omega
  have hb:=hNb _ (Ah hil);obtain⟨h87,_⟩:=name_at (n:=n+8) true (txt N[i]) (by rw[q1c];omega);rw[q1p.q4r,Af,Ac,Aa,q9 hil];simp only[q50 hil,rr];rw[h87];simp only[rr];rw[AY hil,Bk];cases hnv:q2x (txt N[i])with
  |false=>rfl
  |true =>
   obtain⟨v,d,a1,a2,a3,a4⟩:=qhx (n:=n+2) (who:=txt N[i]) hS (by omega);have hv:=a4 (qbl hs hr _);subst hv;obtain⟨p1,p2⟩:=qno (n:=n+7) (a:=whoT++N[i]) hK hK2 (by omega:i<=900) a3 a2 hsb (E:=E) (by omega);rw[Am,Ab,AB,a1];simp only[rr];rw[q1c,Ad,Ab,show({ data:=#[119,104,111,45] }:ByteArray)=txt whoT from rfl,q5m];rw[show evF EnD (n+9) 82 _=_ from p1];simp only[rr];rw[qc,ih (i+1) m _ _ (by omega) (by omega) p2 (by rw[Bb,Cm];omega)];rw[AQ,AQ,show sumZ (cW ss bs r N[i]::(N.drop (i+1)).map (cW ss bs r))=cW ss bs r N[i]+sumZ ((N.drop (i+1)).map (cW ss bs r)) from rfl,Ap E];rw[show s-(cW ss bs r N[i]+sumZ ((N.drop (i+1)).map (cW ss bs r)))=s-q1x (amtV ss bs r (txt N[i]))-sumZ ((N.drop (i+1)).map (cW ss bs r)) from by unfold cW;omega];rfl
theorem qq5(h:Sm g ss bs r)(hS:Sq ss bs r)(hws:∀s,s∈ss->s.who.size<=1000000)(hwb:∀b,b∈bs->b.who.size<=1000000)(hn:1000<=n) :
  evF EnD (n+10) 23 (gR g (.list 7 (ss.map StpV.fv)::.list 8 (bs.map BlkV.fv)::rL r []))=some (qak g ss bs r):=by
 have h15:evF EnD (n+9) 15 (gR g (.list 7 (ss.map StpV.fv)::.list 8 (bs.map BlkV.fv)::rL r []))=some [iF (chkV g ss bs r)]:=by
  have:evF EnD (n+9) 15 (gR g (.list 7 (ss.map StpV.fv)::.list 8 (bs.map BlkV.fv)::rL r []))=limO EnB 15 (gR g (.list 7 (ss.map StpV.fv)::.list 8 (bs.map BlkV.fv)::rL r [])):=by kernel_rfl
  rw[this];refine q1j ⟨2,λn hn=>?_⟩;obtain⟨k,rfl⟩:∃k,n=k+2:=⟨n-2,by omega⟩;exact check_run h
 rw[qsb,h15];simp only[rr];unfold qak;by_cases hc:chkV g ss bs r=0
 ·obtain⟨hs,hr⟩:=qbk hc;obtain⟨K,hK,hK2⟩:∃K,80000002<=K/\K+100<=1000000000:=⟨80000002,by omega,by omega⟩;have hl:g.lines.length<=90:=by
   obtain⟨o1,_⟩:=q6p hs.ord;unfold q36 at o1;simp only[Ai,As]at o1;omega
  have hm:∀t,t∈q26 ss bs->t.length<=1000000:=λt ht=>by
   rw[qgy]at ht;unfold whoL at ht;rcases BL.1 ht with q | q
   ·obtain⟨s,hs1,rfl⟩:=BD.1 q;rw[Bw];exact hws s hs1
   ·obtain⟨s,hs1,rfl⟩:=BD.1 q;rw[Bw];exact hwb s hs1
  have hlen:(q26 ss bs).length<=600:=by
   have h1:=qlx (sortL (whoL ss bs));have h2:(sortL (whoL ss bs)).length=(whoL ss bs).length:=(Fj _ _).length_eq;have h3:(whoL ss bs).length=ss.length+bs.length:=by unfold whoL;simp only[Bb,Aa]
   have:=hS.ssl;have:=hS.bsl;show(Lib.compact (sortL (whoL ss bs))).length<=600;omega
  rw[hc,show((0:Int) !=0)=false from rfl,Ab,Aa,Af rfl,AB];have e1:=qry (n:=n+8) (L:=[]) hS.ssl hS.bsl (by omega) (g:=g) (r:=r);have e2:=qvt hS hs hr hl hlen hm hK hK2 hn (q26 ss bs).length 0 (n+9) 0 [] (by omega) (by omega) (by simp) (by simp);rw[zl_zero',zb_zero']at e2;refine(e1.trans e2).trans ?_;unfold qdu totV;rw[Av,At,show(0:Int)-sumZ ((q26 ss bs).map (cW ss bs r))-sumZ ((List.range' 0 g.lines.length).map (cR g r))=-(sumZ ((q26 ss bs).map (cW ss bs r))+sumZ ((List.range' 0 g.lines.length).map (cR g r))) from by omega]
 ·rw[show(chkV g ss bs r !=0)=true from by simpa using hc,Ac,Ad hc];rfl
end
end
section
variable (n m:Nat)
variable (D e A2:Bool)
variable (z p b a o j h g t v:List FV)
variable (y:Nat)
variable (F G l k:ByteArray)
variable (f c A r i I J C B A0 H d u q A1 s w x E:Int)
noncomputable def q2e.l9(n:Nat):=Lp EnD n 9 [1,1,1,1,1,1,0,1,0]
noncomputable def q2e.l13(n:Nat):=Lp EnD n 9 [1,1,1,1,1,1,0,1,0,0,1,0,0,1,0,1,0]
noncomputable def q2e.l18(n:Nat):=Lp EnD n 9 [1,1,1,1,1,1,0,1,0,0,1,0,0,1,1,0,1,0]
theorem q2e.q3r:q2e.l9 n [] (m+1) (k15 f c p r i b a o j h g l k e d [.list 2 t,iI q,iL v,iI s]) =
(cond (s<(v.length:Int)) (q2e.l13 n [m] n (k15 f c p r i b a o j h g l k e d [.list 2 t,iI q,iL v,iI s,iI 0,iI 0])) (some [.bool true])):=by kernel_rfl
theorem q2e.q45:q2e.l13 n [y] (m+1) (k15 f c p r i b a o j h g l k e d [.list 2 t,iI q,iL v,iI s,iI w,iI x]) =
(cond (x<(b.length:Int)) ((ix x b.length).bind λM=> (asStr (at' b M 0)).bind λN=> (ix s v.length).bind λO=> (asStr (at' v O 0)).bind λP=>
(cond (N.toList==P.toList) ((ix x b.length).bind λK=> (asStr (at' b K 0)).bind λQ=> (asInt .i64 (at' b K 1)).bind λR=> (asInt .i64 (at' b K 2)).bind λS=> (asInt .i64 (at' b K 3)).bind λT=> (asBool (at' b K 4)).bind λU=> (asInt .i64 (at' b K 5)).bind λV=> (asInt .i64 (at' b K 6)).bind λW=> (evF EnD n 30 (iI 2::iI 0::iI 0::kS Q R S T U V W (kB { data:=#[] } 0 0 false 0 [] 0 0 []))).bind λX=> (asInt .i64 X[0]?).bind λY=>q2e.l13 n [y] m (k15 f c p r i b a o j h g l k e d [.list 2 t,iI q,iL v,iI s,iI (w6 (w+Y)),iI (w6 (x+1))])) (q2e.l13 n [y] m (k15 f c p r i b a o j h g l k e d [.list 2 t,iI q,iL v,iI s,iI w,iI (w6 (x+1))])))) (q2e.l18 n [y] n (k15 f c p r i b a o j h g l k e d [.list 2 t,iI q,iL v,iI s,iI w,iI 0]))):=by kernel_rfl
theorem q2e.q55:q2e.l18 n [y] (m+1) (k15 f c p r i b a o j h g l k e d [.list 2 t,iI q,iL v,iI s,iI w,iI x]) =
(cond (x<(a.length:Int)) ((ix x a.length).bind λR=> (asStr (at' a R 0)).bind λS=> (ix s v.length).bind λT=> (asStr (at' v T 0)).bind λU=>
(cond (S.toList==U.toList) ((ix x a.length).bind λK=> (asStr (at' a K 0)).bind λV=> (asInt .i64 (at' a K 1)).bind λW=> (asInt .i64 (at' a K 2)).bind λX=> (asBool (at' a K 3)).bind λY=> (asInt .i64 (at' a K 4)).bind λZ=> (asLst 1 (at' a K 5)).bind λv10=> (asInt .i64 (at' a K 6)).bind λn11=> (asInt .i64 (at' a K 7)).bind λn12=> (evF EnD n 30 (iI 3::iI 0::iI 0::kS { data:=#[] } 0 0 0 false 0 0 (kB V W X Y Z v10 n11 n12 []))).bind λr13=> (asInt .i64 r13[0]?).bind λn14=>q2e.l18 n [y] m (k15 f c p r i b a o j h g l k e d [.list 2 t,iI q,iL v,iI s,iI (w6 (w+n14)),iI (w6 (x+1))])) (q2e.l18 n [y] m (k15 f c p r i b a o j h g l k e d [.list 2 t,iI q,iL v,iI s,iI w,iI (w6 (x+1))])))) ((ix s v.length).bind λi15=> (asStr (at' v i15 0)).bind λu16=> (evF EnD n 31 (.list 7 b::.list 8 a::k8 o j h g l k e d [.str u16])).bind λQ=> (asStr Q[0]?).bind λu18=>(asInt .i64 Q[1]?).bind λn19=>(evF EnD n 22 [.str u18]).bind λM=> (asBool M[0]?).bind λc21=>(asLst 1 M[1]?).bind λv22=>(asBool M[2]?).bind λc23=>(asLst 1 M[3]?).bind λv24=>(asInt .i64 (M[4]?)).bind λn25=>
(cond (n19 !=0) (some [.bool false]) (cond (n25 !=0) (some [.bool false]) ((evF EnD n 12 [iI (w6 (0-w))]).bind λO=> (asBool O[0]?).bind λc27=>(asLst 1 O[1]?).bind λv28=>(asBool O[2]?).bind λc29=>(asLst 1 O[3]?).bind λv30=>(evF EnD n 32 (kQ c21 v22 c23 v24 (kQ c27 v28 c29 v30 []))).bind λr31=> (asInt .i64 (r31[0]?)).bind λn32=>
(cond (n32<0) (some [.bool false]) (cond (q==0) ((ix s t.length).bind λi33=> (asStr (at' t i33 1)).bind λu34=> (evF EnD n 22 [.str u34]).bind λN=> (asBool N[0]?).bind λc36=>(asLst 1 N[1]?).bind λv37=>(asBool N[2]?).bind λc38=>(asLst 1 N[3]?).bind λv39=>(asInt .i64 (N[4]?)).bind λn40=>
(cond (n40 !=0) (some [.bool false]) ((evF EnD n 12 [iI (w6 (0-w))]).bind λP=> (asBool P[0]?).bind λc42=>(asLst 1 P[1]?).bind λv43=>(asBool P[2]?).bind λc44=>(asLst 1 P[3]?).bind λv45=>(evF EnD n 32 (kQ c36 v37 c38 v39 (kQ c42 v43 c44 v45 []))).bind λr46=> (asInt .i64 (r46[0]?)).bind λn47=>
(cond (n47<0) (some [.bool false]) (q2e.l9 n [] y (k15 f c p r i b a o j h g l k e d [.list 2 t,iI q,iL v,iI (w6 (s+1))])))))) (q2e.l9 n [] y (k15 f c p r i b a o j h g l k e d [.list 2 t,iI q,iL v,iI (w6 (s+1))]))))))))):=by kernel_rfl
theorem qk0:evF EnD (n+1) 9 (k15 f c p r i b a o j h g l k e d [])=(evF EnD n 29 (k15 f c p r i b a o j h g l k e d [])).bind λO=> (asBool O[0]?).bind λP=>
(cond P (some [.bool true]) ((evF EnD n 17 (k15 f c p r i b a o j h g l k e d [])).bind λQ=> (asInt .i64 (Q[0]?)).bind λR=>
(cond (R !=0) (some [.bool true]) ((evF EnD n 23 (k15 f c p r i b a o j h g l k e d [])).bind λK=> (asLst 2 K[0]?).bind λS=>(asInt .i64 K[1]?).bind λM=>(evF EnD n 27 (k15 f c p r i b a o j h g l k e d [])).bind λN=> (asLst 2 N[0]?).bind λW=>(asInt .i64 (N[1]?)).bind λT=>
(cond (M !=T) (some [.bool false]) ((evF EnD n 28 [.list 7 b,.list 8 a]).bind λU=> (asLst 1 U[0]?).bind λV=>q2e.l9 n [] n (k15 f c p r i b a o j h g l k e d [.list 2 S,iI M,iL V,iI 0]))))))):=by kernel_rfl
noncomputable def qv.l3(n:Nat):=Lp EnD n 29 [1,1,0,1,0]
noncomputable def qv.l7(n:Nat):=Lp EnD n 29 [1,1,1,0,1,0]
noncomputable def qv.l12(n:Nat):=Lp EnD n 29 [1,1,1,1,1,0,1,0]
noncomputable def qv.l16(n:Nat):=Lp EnD n 29 [1,1,1,1,1,1,0,1,0]
theorem qv.qm:qv.l3 n [] (m+1) (k15 f c p r i b a o j h g l k e d [iI u,iI q]) =
(cond (q<(b.length:Int)) (cond (u<=1024) ((ix q b.length).bind λM=> (asStr (at' b M 0)).bind λK=> qv.l3 n [] m (k15 f c p r i b a o j h g l k e d [iI (w6 (u+(if 1048576<(K.size:Int)then 1048576 else(K.size:Int)))),iI (w6 (q+1))])) (qv.l7 n [] n (k15 f c p r i b a o j h g l k e d [iI u,iI 0]))) (qv.l7 n [] n (k15 f c p r i b a o j h g l k e d [iI u,iI 0]))):=by kernel_rfl
theorem qv.q2u:qv.l7 n [] (m+1) (k15 f c p r i b a o j h g l k e d [iI u,iI q]) =
(cond (q<(a.length:Int)) (cond (u<=1024) ((ix q a.length).bind λN=> (asLst 1 (at' a N 5)).bind λK=> (ix q a.length).bind λO=> (asStr (at' a O 0)).bind λM=> qv.l7 n [] m (k15 f c p r i b a o j h g l k e d [iI (w6 (u+(w6 ((if 1048576<(K.length:Int)then 1048576 else(K.length:Int))+(if 1048576<(M.size:Int)then 1048576 else(M.size:Int)))))),iI (w6 (q+1))])) ((evF EnD n 98 [iL j]).bind λP=> (asInt .i64 P[0]?).bind λQ=>qv.l12 n [] n (k15 f c p r i b a o j h g l k e d [iI (w6 (u+Q)),iI 0]))) ((evF EnD n 98 [iL j]).bind λR=> (asInt .i64 R[0]?).bind λS=>qv.l12 n [] n (k15 f c p r i b a o j h g l k e d [iI (w6 (u+S)),iI 0]))):=by kernel_rfl
theorem qv.q3z:qv.l12 n [] (m+1) (k15 f c p r i b a o j h g l k e d [iI u,iI q]) =
(cond (q<(h.length:Int)) (cond (u<=256) ((ix q h.length).bind λK=> (asLst 1 (at' h K 0)).bind λM=> (evF EnD n 98 [iL M]).bind λN=> (asInt .i64 N[0]?).bind λO=>qv.l12 n [] m (k15 f c p r i b a o j h g l k e d [iI (w6 (u+O)),iI (w6 (q+1))])) (qv.l16 n [] n (k15 f c p r i b a o j h g l k e d [iI u,iI 0]))) (qv.l16 n [] n (k15 f c p r i b a o j h g l k e d [iI u,iI 0]))):=by kernel_rfl
theorem qv.l16_eq:qv.l16 n [] (m+1) (k15 f c p r i b a o j h g l k e d [iI u,iI q]) =
(cond (q<(g.length:Int)) (cond (u<=256) ((ix q g.length).bind λK=> (asLst 1 (at' g K 0)).bind λM=> (evF EnD n 98 [iL M]).bind λN=> (asInt .i64 N[0]?).bind λO=>qv.l16 n [] m (k15 f c p r i b a o j h g l k e d [iI (w6 (u+O)),iI (w6 (q+1))])) (some [.bool (decide (u>256))])) (some [.bool (decide (u>256))])):=by kernel_rfl
theorem qqy:evF EnD (n+1) 29 (k15 f c p r i b a o j h g l k e d [])=qv.l3 n [] n (k15 f c p r i b a o j h g l k e d [iI (w6 ((w6 ((w6 ((w6 ((w6 ((w6 ((w6 ((w6 ((b.length:Int)+(a.length:Int)))+(j.length:Int)))+(h.length:Int)))+(g.length:Int)))+(p.length:Int)))+(o.length:Int)))+(if 1048576<(l.size:Int)then 1048576 else(l.size:Int))))+(if 1048576<(k.size:Int)then 1048576 else(k.size:Int)))),iI 0]):=by kernel_rfl
noncomputable def q9m.l13(n:Nat):=Lp EnD n 30 [1,1,1,1,0,1,0,1,1,1,0,1,1,1,0]
theorem q9m.q45:q9m.l13 n [] (m+1) (iI f::iI c::iI A::kS F i I J D C B (kB G A0 H e d t q A1 [iI s,iI w,.bool A2,iI E])) =
(cond (E<(t.length:Int)) ((ix E t.length).bind λK=> (asInt .i64 (at' t K 0)).bind λM=> q9m.l13 n [] m (iI f::iI c::iI A::kS F i I J D C B (kB G A0 H e d t q A1 [iI s,iI (w6 (w+M)),.bool A2,iI (w6 (E+1))]))) (cond (!A2) (some [iI (w6 ((if 0<(w6 (0-s))then(w6 (0-s))else 0)*w))]) (some [iI (w6 ((if 0<s then s else 0)*w))]))):=by kernel_rfl
theorem qjw:evF EnD (n+1) 30 (iI f::iI c::iI A::kS F i I J D C B (kB G A0 H e d t q A1 [])) =
(cond (f==2) (cond (!D) (some [iI (w6 ((if 0<(w6 (0-B))then(w6 (0-B))else 0)*C))]) (some [iI (w6 ((if 0<B then B else 0)*C))])) (cond (f==3) (q9m.l13 n [] n (iI f::iI c::iI A::kS F i I J D C B (kB G A0 H e d t q A1 [iI d,iI 0,.bool e,iI 0]))) (some [iI 0]))):=by kernel_rfl
noncomputable def q5r.l3(n:Nat):=Lp EnD n 98 [1,1,0,1,0]
theorem q5r.qm:q5r.l3 n [] (m+1) [iL z,iI c,iI A] =
(cond (A<(z.length:Int)) (cond (c<=256) ((ix A z.length).bind λM=> (asStr (at' z M 0)).bind λK=> q5r.l3 n [] m [iL z,iI (w6 (c+(if 1048576<(K.size:Int)then 1048576 else(K.size:Int)))),iI (w6 (A+1))]) (some [iI c])) (some [iI c])):=by kernel_rfl
theorem qqz:evF EnD (n+1) 98 [iL z]=q5r.l3 n [] n [iL z,iI (if 1048576<(z.length:Int)then 1048576 else(z.length:Int)),iI 0]:=by kernel_rfl
end
end Rf
