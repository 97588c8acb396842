/- Texts of this work put together, their blanks and comments taken out: Pst, EqLaw20. -/
import Derived.Test.YtcpnpoagpnkblaaGreatDoorQNG
import Derived.Test.YtcpnpoagpnkblaaGreatDoorQNE
import Derived.Test.YtcpnpoagpnkblaaGreatDoorQMZ
import Derived.Test.YtcpnpoagpnkblaaGreatDoorQMH
import Derived.KernelRfl
set_option linter.unusedVariables false
set_option linter.unusedSimpArgs false
set_option maxHeartbeats 4000000
set_option maxRecDepth 100000
namespace Rf
open Go
section
section
variable {n K:Nat} {q:Rat} {d:Nat} {z w:Int}
theorem d_round(hq:Sz q)(hd:dn d=q.den):evF EnD (n+1) 83 [zl (q).num,zb (q).num,nL (d),.bool false]=some [zl (q2c q),zb (q2c q)]:=by
 have:evF EnD (n+1) 83 [zl (q).num,zb (q).num,nL (d),.bool false]=limO En 83 [zl (q).num,zb (q).num,nL (d),.bool false]:=by kernel_rfl
 rw[this];exact q1l (round_ev (k:=1000000000) (by omega) (by omega) hq hd)
theorem d_nsub(hK:K+1<=100000000000)(hz:z.natAbs<2^K)(hw:w.natAbs<2^K):evF EnD (n+1) 84 [zl z,zb z,zl w,zb w]=some [zl (z-w),zb (z-w)]:=by
 have:evF EnD (n+1) 84 [zl z,zb z,zl w,zb w]=limO En 84 [zl z,zb z,zl w,zb w]:=by kernel_rfl
 rw[this];exact q1l (qd5 hK hz hw)
theorem d_ntext(hK:K<=10000000000)(hz:z.natAbs<2^K):evF EnD (n+1) 85 [zl z,zb z]=some [sF (qu z)]:=by
 have:evF EnD (n+1) 85 [zl z,zb z]=limO En 85 [zl z,zb z]:=by kernel_rfl
 rw[this];exact q1l (qhc hK hz)
theorem x_round(hq:Sz q)(hd:dn d=q.den):evF EnD (n+1) 24 [zb (q).num,wl (q).num,.bool false,wL (d)]=some [zb (q2c q),wl (q2c q)]:=by
 have:evF EnD (n+1) 24 [zb (q).num,wl (q).num,.bool false,wL (d)]=limO En 24 [zb (q).num,wl (q).num,.bool false,wL (d)]:=by kernel_rfl
 rw[this];exact q1l (wround_ev (k:=1000000000) (by omega) (by omega) hq hd)
theorem x_ntext(hK:K<=100000000000)(hz:z.natAbs<2^K):evF EnD (n+1) 25 [zb z,wl z]=some [sF (qu z)]:=by
 have:evF EnD (n+1) 25 [zb z,wl z]=limO En 25 [zb z,wl z]:=by kernel_rfl
 rw[this];exact q1l (qfl hK hz)
theorem x_den1:evF EnD (n+1) 43 [zb (((1:Int):Rat)).num,wl (((1:Int):Rat)).num,.bool false,wL (((1:Int):Rat)).den]=some [.bool false,wL 1]:=by
 have:evF EnD (n+1) 43 [zb (((1:Int):Rat)).num,wl (((1:Int):Rat)).num,.bool false,wL (((1:Int):Rat)).den]=limO En 43 [zb (((1:Int):Rat)).num,wl (((1:Int):Rat)).num,.bool false,wL (((1:Int):Rat)).den]:=by kernel_rfl
 rw[this];exact q1l q6d
theorem x_make1(hK:K<=100000000000)(hK1:1<=K)(hz:z.natAbs<2^K):evF EnD (n+1) 79 [zb z,wl z,.bool false,wL 1]=some [zb ((z:Rat)).num,wl ((z:Rat)).num,.bool false,wL ((z:Rat)).den,iF 0]:=by
 have:evF EnD (n+1) 79 [zb z,wl z,.bool false,wL 1]=limO En 79 [zb z,wl z,.bool false,wL 1]:=by kernel_rfl
 rw[this];have h:=qdd (a:=z) (b:=1) hK (by omega) hz (by have:=two_bd hK1;show 1<2^K;omega);rw[show Rat.divInt z 1=(z:Rat) from by rw[Rat.divInt_eq_div,show((1:Int):Rat)=1 from rfl];grind]at h;exact q1l h
theorem ql7{t:Txt}(h:pr t=some q)(hl:t.length<=100000000):evF EnD (n+1) 22 [sF t]=some [zb (q).num,wl (q).num,.bool false,wL (q).den,iF 0]:=by
 have:evF EnD (n+1) 22 [sF t]=evF EnA (n+1) 22 [sF t]:=by kernel_rfl
 rw[this,qer h hl]
end
theorem qn0{x m:Nat}(h:x<2^(3*m)):(qk x).length<=m+1:=by
 have h8:x<10^m:=by
  rw[Nat.pow_mul]at h;exact AP h (Ey (by omega) m)
 unfold qk;split
 ·simp
 ·have:=q5a (b:=10) (by omega) h8;simp;omega
theorem len3{m:Nat}{q:Rat}(h:Bd (3*m) q):(qv q).length<=2*m+4:=by
 have h1:=qn0 h.1;have h2:=qn0 h.2;unfold qv qu;split <;> split <;> simp <;> omega
theorem rd_text(q:Rat):pr (qv q)=some q:=q9f.2 rfl
theorem rtext_int(z:Int):qv (z:Rat)=qu z:=by unfold qv;rw[if_pos (show(z:Rat).den=1 from rfl)];rfl
theorem qh1{q:Rat}{k:Nat}(h:Bd k q):(q2c q).natAbs<2^(k+2):=by
 have hf:(q1e q).natAbs<2^(k+1):=qfc (den_pos q) h.1;have h1:0<2^(k+1):=Fr _;rw[Ax];unfold q2c;split <;> omega
def entF(a c:Txt):FV:=.agg [sF a,sF c]
def whoT:Txt:=[119,104,111,45]
def qau:Txt:=[108,105,110,101,45]
def qat:Txt:=[114,111,117,110,100]
noncomputable def cW(ss:List StpV)(bs:List BlkV)(r:ResV)(t:Txt):Int:=q2c (amtV ss bs r (txt t))
noncomputable def cR(g:q12)(r:ResV)(k:Nat):Int:=q2c (q4c r (g.lines.getD k default) k)
noncomputable def entW(ss:List StpV)(bs:List BlkV)(r:ResV)(t:Txt):FV:=entF (whoT++t) (qu (cW ss bs r t))
noncomputable def entR(g:q12)(r:ResV)(k:Nat):FV:=entF (qau++qk k) (qu (cR g r k))
def sumZ:List Int->Int
 |[]=>0
 |z::l=>z+sumZ l
noncomputable def totV(g:q12)(ss:List StpV)(bs:List BlkV)(r:ResV):Int:=sumZ ((q22 ss bs).map (cW ss bs r))+sumZ ((List.range' 0 g.lines.length).map (cR g r))
noncomputable def qbz(g:q12)(ss:List StpV)(bs:List BlkV)(r:ResV):List FV :=
 (q22 ss bs).map (entW ss bs r)++(List.range' 0 g.lines.length).map (entR g r)++[entF qat (qu (-totV g ss bs r))]
noncomputable def qav(g:q12)(ss:List StpV)(bs:List BlkV)(r:ResV):List FV :=
 bif decide (chkV g ss bs r=0)&&(q22 ss bs).all (λt=>q2v (txt t))then [.list 2 (qbz g ss bs r),iF 0]else [.list 2 [],iF 1]
theorem zl_zero':zl (0:Int)=.list 1 []:=q52
theorem zb_zero':zb (0:Int)=.bool false:=rfl
theorem ql9(l:List (List UInt8)):(Lib.compact l).length<=l.length:=by
 unfold Lib.compact Lib.compactUpTo;rw[Aa];have h:=FE (Lib.keeps l.toArray) (List.range l.toArray.toList.length);rw[Ca]at h;exact h
section
variable {g:q12} {ss:List StpV} {bs:List BlkV} {r:ResV} {n:Nat}
theorem cW_bd(hS:Sq ss bs r)(hs:q3v g ss bs r)(hr:q24 r=true)(t:Txt):Bd 80000000 (amtV ss bs r (txt t)):=by
 obtain⟨v,d,a1,a2,a3,a4⟩:=qhh (n:=300) (who:=txt t) hS (Ak _);rw[<- a4 (okA_of hs hr _)];exact a3
theorem cR_bd(hS:Sq ss bs r)(hs:q3v g ss bs r)(hr:q24 r=true){k:Nat}(hk:k<g.lines.length):Bd 80000000 (q4c r g.lines[k] k):=by
 obtain⟨v,d,a1,a2,a3,a4⟩:=qhi (n:=300) (l:=g.lines[k]) (k:=k) hS (Ak _);rw[<- a4 (qh2 hs hr hk)];exact a3
theorem qe4{i K:Nat}(hi:i<=1000):i*2^K<2^(K+20):=by
 have h0:0<2^K:=Fr K;rw[BZ,AB];exact EF (by omega) h0
theorem step_bd{s c:Int}{i K:Nat}(h:s.natAbs<=i*2^K)(hc:c.natAbs<2^K):(s-c).natAbs<=(i+1)*2^K/\(s+c).natAbs<=(i+1)*2^K:=by
 rw[Db];omega
theorem qn1{a:Txt}{q:Rat}{d K i:Nat}{s:Int}{E:List FV}(hK:80000002<=K)(hK2:K+100<=1000000000)(hi:i<=900)(hq:Bd 80000000 q)(hd:dn d=q.den)(hs:s.natAbs<=i*2^K)(hE:E.length<=1000000) :
  evF EnD (n+2) 82 [sF a,zl (q).num,zb (q).num,nL (d),.bool false,zl s,zb s,.list 2 E]=some [zl (s-q2c q),zb (s-q2c q),.list 2 (E++[entF a (qu (q2c q))])]/\(s-q2c q).natAbs<=(i+1)*2^K:=by
 have hc:(q2c q).natAbs<2^K:=AP (qh1 (hq.mono (show 80000000<=K-2 by omega))) (AV (by omega) (by omega));refine⟨?_,(step_bd hs hc).1⟩;have hs2:s.natAbs<2^(K+20):=BF hs (qe4 (by omega));have hc2:(q2c q).natAbs<2^(K+20):=AP hc (AV (by omega) (by omega));rw[qro,d_round (hq.mono (by omega)) hd];simp (disch:=omega) only[rr];rw[d_nsub (K:=K+20) (by omega) hs2 hc2];simp (disch:=omega) only[rr];rw[d_ntext (K:=K) (by omega) hc];simp (disch:=omega) only[el1,rr];rw[q5l (by rw[Cc];omega),Ac];rfl
theorem name_at(b:Bool)(s:ByteArray)(hs:s.size<=1099511627776):evF EnD (n+1) 87 [.str s]=some [.bool (q2v s)]/\evF EnD (n+1) 97 [.str s]=some [.bool (q2v s)]:=by
 have h1:evF EnD (n+1) 87 [.str s]=nameExt [.str s]:=by kernel_rfl
 have h2:evF EnD (n+1) 97 [.str s]=nameExt [.str s]:=by kernel_rfl
 rw[h1,h2];exact⟨if_pos hs,if_pos hs⟩
theorem itoa_at{k:Nat}(hk:k<100):evF EnD (n+1) 90 [iF k]=some [sF (qk k)]:=by
 have h1:evF EnD (n+1) 90 [iF k]=itoaExt [iF k]:=by kernel_rfl
 rw[h1];refine(if_pos (by omega)).trans ?_;rfl
theorem qv5(hS:Sq ss bs r)(hs:q3v g ss bs r)(hr:q24 r=true)(hl:g.lines.length<=90){K:Nat}(hK:80000002<=K)(hK2:K+100<=1000000000)(hn:1000<=n):∀(c k m i:Nat) (s:Int) (E:List FV),k+c=g.lines.length->c<m->i+c<=800->s.natAbs<=i*2^K->E.length+c<=100000 ->
  q1o.l27 (n+9) [] m (rL r [.list 2 E,zl s,zb s,.list 3 (g.lines.map qz.fv),iF (g.lines.length:Int),iF k]) =
   some [.list 2 (E++(List.range' k c).map (entR g r)++[entF qat (qu (s-sumZ ((List.range' k c).map (cR g r))))]),iF 0]:=by
 intro c
 induction c with
 |zero =>
  intro k m i s E hk hm hi hsb hE;obtain⟨m,rfl⟩:=qSx m (by omega);obtain rfl:k=g.lines.length:=by omega
  have hs2:s.natAbs<2^(K+20):=BF hsb (qe4 (by omega));rw[q1o.l27_eq,Ad (by omega),Ab,d_ntext (K:=K+20) (by omega) hs2];simp (disch:=omega) only[el1,rr];rw[q5l (by rw[Cc];omega),Ac,show s-sumZ ((List.range' g.lines.length 0).map (cR g r))=s from by show s-0=s;omega];show _=some [FV.list 2 (E++[]++_),_];rw[AM];rfl
 |succ c ih =>
  intro k m i s E hk hm hi hsb hE;obtain⟨m,rfl⟩:=qSx m (by omega);have hkl:k<g.lines.length:=by omega
  obtain⟨v,d,a1,a2,a3,a4⟩:=qhi (n:=n+4) (l:=g.lines[k]) (k:=k) hS (by omega);have hv:=a4 (qh2 hs hr hkl);subst hv;obtain⟨p1,p2⟩:=qn1 (n:=n+7) (a:=qau++qk k) hK hK2 (by omega:i<=900) a3 a2 hsb (E:=E) (by omega);have hdl:(qk k).length<=100:=by
   have:=q9e (x:=k) (k:=90) (by have:(2:Nat)^7<=2^90:=AV (by omega) (by omega);omega);omega
  rw[q1o.l27_eq,Af (by omega),Ac,Aa,q9 hkl];simp (disch:=omega) only[lin_at hkl,rr];rw[a1];simp (disch:=omega) only[rr];rw[itoa_at (n:=n+8) (by omega)];simp (disch:=omega) only[rr];rw[q1b,Ad (by omega),Ab,show({ data:=#[108,105,110,101,45] }:ByteArray)=txt qau from rfl,q5e];rw[show evF EnD (n+9) 82 _=_ from p1];simp (disch:=omega) only[rr];rw[qc (by omega),ih (k+1) m (i+1) _ _ (by omega) (by omega) (by omega) p2 (by rw[Bb,Cc];omega)];have ec:cR g r k=q2c (q4c r g.lines[k] k):=by unfold cR;rw[q32 hkl]
  rw[BR,AQ,AQ,show sumZ (cR g r k::(List.range' (k+1) c).map (cR g r))=cR g r k+sumZ ((List.range' (k+1) c).map (cR g r)) from rfl,ec,Ap E,show entR g r k=entF (qau++qk k) (qu (q2c (q4c r g.lines[k] k))) from by unfold entR;rw[ec]];rw[show s-q2c (q4c r g.lines[k] k)-sumZ ((List.range' (k+1) c).map (cR g r))=s-(q2c (q4c r g.lines[k] k)+sumZ ((List.range' (k+1) c).map (cR g r))) from by omega];rfl
theorem qv6(hS:Sq ss bs r)(hs:q3v g ss bs r)(hr:q24 r=true)(hl:g.lines.length<=90){N:List Txt}(hN:N.length<=600)(hNb:∀t,t∈N->t.length<=1000000){K:Nat}(hK:80000002<=K)(hK2:K+100<=1000000000)(hn:1000<=n):∀(c i m:Nat) (s:Int) (E:List FV),i+c=N.length->c<m->s.natAbs<=i*2^K->E.length<=i ->
  q1o.l19 (n+9) [] m (gR g (rL r [.list 2 E,zl s,zb s,.list 7 (ss.map StpV.fv),.list 8 (bs.map BlkV.fv),.list 1 (N.map sF),iF (N.length:Int),iF i])) =
   some (bif(N.drop i).all (λt=>q2v (txt t))then [.list 2 (E++(N.drop i).map (entW ss bs r)++(List.range' 0 g.lines.length).map (entR g r)++[entF qat (qu (s-sumZ ((N.drop i).map (cW ss bs r))-sumZ ((List.range' 0 g.lines.length).map (cR g r))))]),iF 0]else [.list 2 [],iF 1]):=by
 intro c
 induction c with
 |zero =>
  intro i m s E hi hm hsb hE;obtain⟨m,rfl⟩:=qSx m (by omega);obtain rfl:i=N.length:=by omega
  have h:=qv5 hS hs hr hl hK hK2 hn g.lines.length 0 (n+9) N.length s E (by omega) (by omega) (by omega) hsb (by omega);rw[q1o.q4l,Ad (by omega),Ab,Aa,Ek];refine h.trans ?_;rw[show([]:List Txt).all (λt=>q2v (txt t))=true from rfl,Ac,BD,AM,show s-sumZ (([]:List Txt).map (cW ss bs r))=s from by show s-0=s;omega]
 |succ c ih =>
  intro i m s E hi hm hsb hE;obtain⟨m,rfl⟩:=qSx m (by omega);have hil:i<N.length:=by omega
  have hb:=hNb _ (Ah hil);obtain⟨h87,_⟩:=name_at (n:=n+8) true (txt N[i]) (by rw[q1b];omega);rw[q1o.q4l,Af (by omega),Ac,Aa,q9 hil];simp (disch:=omega) only[q7a hil,rr];rw[h87];simp (disch:=omega) only[rr];rw[Be hil,Bk];cases hnv:q2v (txt N[i])with
  |false=>rfl
  |true =>
   obtain⟨v,d,a1,a2,a3,a4⟩:=qhh (n:=n+2) (who:=txt N[i]) hS (by omega);have hv:=a4 (okA_of hs hr _);subst hv;obtain⟨p1,p2⟩:=qn1 (n:=n+7) (a:=whoT++N[i]) hK hK2 (by omega:i<=900) a3 a2 hsb (E:=E) (by omega);rw[Ao,Ab,AA,a1];simp (disch:=omega) only[rr];rw[q1b,Ad (by omega),Ab,show({ data:=#[119,104,111,45] }:ByteArray)=txt whoT from rfl,q5e];rw[show evF EnD (n+9) 82 _=_ from p1];simp (disch:=omega) only[rr];rw[qc (by omega),ih (i+1) m _ _ (by omega) (by omega) p2 (by rw[Bb,Cc];omega)];rw[AQ,AQ,show sumZ (cW ss bs r N[i]::(N.drop (i+1)).map (cW ss bs r))=cW ss bs r N[i]+sumZ ((N.drop (i+1)).map (cW ss bs r)) from rfl,Ap E];rw[show s-(cW ss bs r N[i]+sumZ ((N.drop (i+1)).map (cW ss bs r)))=s-q2c (amtV ss bs r (txt N[i]))-sumZ ((N.drop (i+1)).map (cW ss bs r)) from by unfold cW;omega];rfl
theorem qv0(h:Sm g ss bs r)(hS:Sq ss bs r)(hws:∀s,s∈ss->s.who.size<=1000000)(hwb:∀b,b∈bs->b.who.size<=1000000)(hn:1000<=n) :
  evF EnD (n+10) 23 (gR g (.list 7 (ss.map StpV.fv)::.list 8 (bs.map BlkV.fv)::rL r []))=some (qav g ss bs r):=by
 have h15:evF EnD (n+9) 15 (gR g (.list 7 (ss.map StpV.fv)::.list 8 (bs.map BlkV.fv)::rL r []))=some [iF (chkV g ss bs r)]:=by
  have:evF EnD (n+9) 15 (gR g (.list 7 (ss.map StpV.fv)::.list 8 (bs.map BlkV.fv)::rL r []))=limO EnB 15 (gR g (.list 7 (ss.map StpV.fv)::.list 8 (bs.map BlkV.fv)::rL r [])):=by kernel_rfl
  rw[this];refine q1l ⟨2,λn hn=>?_⟩;obtain⟨k,rfl⟩:∃k,n=k+2:=⟨n-2,by omega⟩;exact check_run h
 rw[qrk,h15];simp (disch:=omega) only[rr];unfold qav;by_cases hc:chkV g ss bs r=0
 ·obtain⟨hs,hr⟩:=qla hc;obtain⟨K,hK,hK2⟩:∃K,80000002<=K/\K+100<=1000000000:=⟨80000002,by omega,by omega⟩;have hl:g.lines.length<=90:=by
   obtain⟨o1,_⟩:=qe5 hs.ord;unfold q3k at o1;simp only[Ai,At]at o1;omega
  have hm:∀t,t∈q22 ss bs->t.length<=1000000:=λt ht=>by
   rw[qgf]at ht;unfold whoL at ht;rcases BL.1 ht with q | q
   ·obtain⟨s,hs1,rfl⟩:=BH.1 q;rw[Bw];exact hws s hs1
   ·obtain⟨s,hs1,rfl⟩:=BH.1 q;rw[Bw];exact hwb s hs1
  have hlen:(q22 ss bs).length<=600:=by
   have h1:=ql9 (sortL (whoL ss bs));have h2:(sortL (whoL ss bs)).length=(whoL ss bs).length:=(Fd _ _).length_eq;have h3:(whoL ss bs).length=ss.length+bs.length:=by unfold whoL;simp only[Bb,Aa]
   have:=hS.ssl;have:=hS.bsl;show(Lib.compact (sortL (whoL ss bs))).length<=600;omega
  rw[hc,show((0:Int) !=0)=false from rfl,Ab,Aa,Af rfl,AA];have e1:=qr6 (n:=n+8) (L:=[]) hS.ssl hS.bsl (by omega) (g:=g) (r:=r);have e2:=qv6 hS hs hr hl hlen hm hK hK2 hn (q22 ss bs).length 0 (n+9) 0 [] (by omega) (by omega) (by simp) (by simp);rw[zl_zero',zb_zero']at e2;refine(e1.trans e2).trans ?_;unfold qbz totV;rw[Au,As,show(0:Int)-sumZ ((q22 ss bs).map (cW ss bs r))-sumZ ((List.range' 0 g.lines.length).map (cR g r))=-(sumZ ((q22 ss bs).map (cW ss bs r))+sumZ ((List.range' 0 g.lines.length).map (cR g r))) from by omega]
 ·rw[show(chkV g ss bs r !=0)=true from by simpa using hc,Ac,Ad hc];rfl
end
end
section
variable (n m:Nat)
variable (k:Bool)
variable (t l f b i e c a:List FV)
variable (h g v:ByteArray)
variable (o d u q p j r s:Int)
theorem qjs:evF EnD (n+1) 10 (k15 o d l q p f b i e c a h g k j [.str v,iI s])=(evF EnD n 29 (k15 o d l q p f b i e c a h g k j [])).bind λC=> (asBool C[0]?).bind λD=>
(cond D (some [.bool true]) (cond ((v.size:Int)>1024) (some [.bool true]) ((evF EnD n 31 (.list 7 f::.list 8 b::k8 i e c a h g k j [.str v])).bind λw=> (asStr w[0]?).bind λE=>(asInt .i64 w[1]?).bind λF=>(evF EnD n 33 (.list 7 f::.list 8 b::k8 i e c a h g k j [.str v])).bind λx=> (asStr x[0]?).bind λG=>(asInt .i64 x[1]?).bind λH=>(evF EnD n 34 (k5 o d l q p (k8 i e c a h g k j [iI s]))).bind λy=> (asStr y[0]?).bind λI=>(asInt .i64 y[1]?).bind λJ=>(evF EnD n 35 (k5 o d l q p (k8 i e c a h g k j [iI s]))).bind λz=> (asStr z[0]?).bind λK=>(asInt .i64 z[1]?).bind λM=>(evF EnD n 23 (k15 o d l q p f b i e c a h g k j [])).bind λA=> (asLst 2 A[0]?).bind λN=>(asInt .i64 A[1]?).bind λO=>(evF EnD n 27 (k15 o d l q p f b i e c a h g k j [])).bind λB=> (asLst 2 B[0]?).bind λP=>(asInt .i64 (B[1]?)).bind λQ=>
(cond (E.toList==G.toList) (cond (F==H) (cond (I.toList==K.toList) (cond (J==M) (cond (O==Q) ((evF EnD n 36 [.list 2 N,.list 2 P]).bind λR=> (asBool R[0]?).bind λS=>some [.bool S]) (some [.bool false])) (some [.bool false])) (some [.bool false])) (some [.bool false])) (some [.bool false]))))):=by kernel_rfl
noncomputable def qw.l3(n:Nat):=Lp EnD n 29 [1,1,0,1,0]
noncomputable def qw.l7(n:Nat):=Lp EnD n 29 [1,1,1,0,1,0]
noncomputable def qw.l12(n:Nat):=Lp EnD n 29 [1,1,1,1,1,0,1,0]
noncomputable def qw.l16(n:Nat):=Lp EnD n 29 [1,1,1,1,1,1,0,1,0]
theorem qw.qm:qw.l3 n [] (m+1) (k15 o d l q p f b i e c a h g k j [iI r,iI s]) =
(cond (s<(f.length:Int)) (cond (r<=1024) ((ix s f.length).bind λx=> (asStr (at' f x 0)).bind λw=> qw.l3 n [] m (k15 o d l q p f b i e c a h g k j [iI (IntKind.wrap .i64 (r+(if 1048576<(w.size:Int)then 1048576 else(w.size:Int)))),iI (IntKind.wrap .i64 (s+1))])) (qw.l7 n [] n (k15 o d l q p f b i e c a h g k j [iI r,iI 0]))) (qw.l7 n [] n (k15 o d l q p f b i e c a h g k j [iI r,iI 0]))):=by kernel_rfl
theorem qw.q2s:qw.l7 n [] (m+1) (k15 o d l q p f b i e c a h g k j [iI r,iI s]) =
(cond (s<(b.length:Int)) (cond (r<=1024) ((ix s b.length).bind λy=> (asLst 1 (at' b y 5)).bind λw=> (ix s b.length).bind λz=> (asStr (at' b z 0)).bind λx=> qw.l7 n [] m (k15 o d l q p f b i e c a h g k j [iI (IntKind.wrap .i64 (r+(IntKind.wrap .i64 ((if 1048576<(w.length:Int)then 1048576 else(w.length:Int))+(if 1048576<(x.size:Int)then 1048576 else(x.size:Int)))))),iI (IntKind.wrap .i64 (s+1))])) ((evF EnD n 98 [iL e]).bind λA=> (asInt .i64 A[0]?).bind λB=>qw.l12 n [] n (k15 o d l q p f b i e c a h g k j [iI (IntKind.wrap .i64 (r+B)),iI 0]))) ((evF EnD n 98 [iL e]).bind λC=> (asInt .i64 C[0]?).bind λD=>qw.l12 n [] n (k15 o d l q p f b i e c a h g k j [iI (IntKind.wrap .i64 (r+D)),iI 0]))):=by kernel_rfl
theorem qw.q3w:qw.l12 n [] (m+1) (k15 o d l q p f b i e c a h g k j [iI r,iI s]) =
(cond (s<(c.length:Int)) (cond (r<=256) ((ix s c.length).bind λw=> (asLst 1 (at' c w 0)).bind λx=> (evF EnD n 98 [iL x]).bind λy=> (asInt .i64 y[0]?).bind λz=>qw.l12 n [] m (k15 o d l q p f b i e c a h g k j [iI (IntKind.wrap .i64 (r+z)),iI (IntKind.wrap .i64 (s+1))])) (qw.l16 n [] n (k15 o d l q p f b i e c a h g k j [iI r,iI 0]))) (qw.l16 n [] n (k15 o d l q p f b i e c a h g k j [iI r,iI 0]))):=by kernel_rfl
theorem qw.l16_eq:qw.l16 n [] (m+1) (k15 o d l q p f b i e c a h g k j [iI r,iI s]) =
(cond (s<(a.length:Int)) (cond (r<=256) ((ix s a.length).bind λw=> (asLst 1 (at' a w 0)).bind λx=> (evF EnD n 98 [iL x]).bind λy=> (asInt .i64 y[0]?).bind λz=>qw.l16 n [] m (k15 o d l q p f b i e c a h g k j [iI (IntKind.wrap .i64 (r+z)),iI (IntKind.wrap .i64 (s+1))])) (some [.bool (decide (r>256))])) (some [.bool (decide (r>256))])):=by kernel_rfl
theorem qq5:evF EnD (n+1) 29 (k15 o d l q p f b i e c a h g k j [])=qw.l3 n [] n (k15 o d l q p f b i e c a h g k j [iI (IntKind.wrap .i64 ((IntKind.wrap .i64 ((IntKind.wrap .i64 ((IntKind.wrap .i64 ((IntKind.wrap .i64 ((IntKind.wrap .i64 ((IntKind.wrap .i64 ((IntKind.wrap .i64 ((f.length:Int)+(b.length:Int)))+(e.length:Int)))+(c.length:Int)))+(a.length:Int)))+(l.length:Int)))+(i.length:Int)))+(if 1048576<(h.size:Int)then 1048576 else(h.size:Int))))+(if 1048576<(g.size:Int)then 1048576 else(g.size:Int)))),iI 0]):=by kernel_rfl
noncomputable def q5g.l3(n:Nat):=Lp EnD n 98 [1,1,0,1,0]
theorem q5g.qm:q5g.l3 n [] (m+1) [iL t,iI d,iI u] =
(cond (u<(t.length:Int)) (cond (d<=256) ((ix u t.length).bind λx=> (asStr (at' t x 0)).bind λw=> q5g.l3 n [] m [iL t,iI (IntKind.wrap .i64 (d+(if 1048576<(w.size:Int)then 1048576 else(w.size:Int)))),iI (IntKind.wrap .i64 (u+1))]) (some [iI d])) (some [iI d])):=by kernel_rfl
theorem qq6:evF EnD (n+1) 98 [iL t]=q5g.l3 n [] n [iL t,iI (if 1048576<(t.length:Int)then 1048576 else(t.length:Int)),iI 0]:=by kernel_rfl
end
end Rf
