/- Texts of this work put together, their blanks and comments taken out: Pst, EqLaw20, Trd20. -/
import Derived.Test.YtcpnpoagpnkblaaGreatDoorVNG
import Derived.Test.YtcpnpoagpnkblaaGreatDoorVNE
import Derived.Test.YtcpnpoagpnkblaaGreatDoorVMZ
import Derived.Test.YtcpnpoagpnkblaaGreatDoorVMH
import Derived.KernelRfl
set_option linter.unusedVariables false
set_option linter.unusedSimpArgs false
section
/- Postings of both makes: what is posted is one. -/
set_option maxHeartbeats 4000000
namespace Rf
open Go
section
variable {n K:Nat} {q:Rat} {d:Nat} {z w:Int}
theorem d_round(hq:Sz q)(hd:dn d=q.den):evF EnD (n+1) 83 [zl (q).num,zb (q).num,nL (d),.bool false]=some [zl (q18 q),zb (q18 q)]:=by
 have:evF EnD (n+1) 83 [zl (q).num,zb (q).num,nL (d),.bool false]=limO En 83 [zl (q).num,zb (q).num,nL (d),.bool false]:=by kernel_rfl
 rw[this];exact q1v (round_ev (k:=1000000000) (by omega) (by omega) hq hd)
theorem d_nsub(hK:K+1<=100000000000)(hz:z.natAbs<2^K)(hw:w.natAbs<2^K):evF EnD (n+1) 84 [zl z,zb z,zl w,zb w]=some [zl (z-w),zb (z-w)]:=by
 have:evF EnD (n+1) 84 [zl z,zb z,zl w,zb w]=limO En 84 [zl z,zb z,zl w,zb w]:=by kernel_rfl
 rw[this];exact q1v (qbc hK hz hw)
theorem d_ntext(hK:K<=10000000000)(hz:z.natAbs<2^K):evF EnD (n+1) 85 [zl z,zb z]=some [sF (qn z)]:=by
 have:evF EnD (n+1) 85 [zl z,zb z]=limO En 85 [zl z,zb z]:=by kernel_rfl
 rw[this];exact q1v (qf4 hK hz)
theorem x_round(hq:Sz q)(hd:dn d=q.den):evF EnD (n+1) 24 [zb (q).num,wl (q).num,.bool false,wL (d)]=some [zb (q18 q),wl (q18 q)]:=by
 have:evF EnD (n+1) 24 [zb (q).num,wl (q).num,.bool false,wL (d)]=limO En 24 [zb (q).num,wl (q).num,.bool false,wL (d)]:=by kernel_rfl
 rw[this];exact q1v (wround_ev (k:=1000000000) (by omega) (by omega) hq hd)
theorem qcs(hK:K<=100000000000)(hz:z.natAbs<2^K):evF EnD (n+1) 25 [zb z,wl z]=some [sF (qn z)]:=by
 have:evF EnD (n+1) 25 [zb z,wl z]=limO En 25 [zb z,wl z]:=by kernel_rfl
 rw[this];exact q1v (qdr hK hz)
theorem qkf{t:Txt}(h:pr t=some q)(hl:t.length<=100000000):evF EnD (n+1) 22 [sF t]=some [zb (q).num,wl (q).num,.bool false,wL (q).den,iF 0]:=by
 have:evF EnD (n+1) 22 [sF t]=evF EnA (n+1) 22 [sF t]:=by kernel_rfl
 rw[this,w_parse h hl]
end
theorem qfq{q:Rat}{k:Nat}(h:Bd k q):(q18 q).natAbs<2^(k+2):=by
 have hf:(q16 q).natAbs<2^(k+1):=qdg (den_pos q) h.1;have h1:0<2^(k+1):=Nat.two_pow_pos _;rw[Nat.pow_succ];unfold q18;split <;> omega
def entF(a c:Txt):FV:=.agg [sF a,sF c]
def whoT:Txt:=[119,104,111,45]
def lineT:Txt:=[108,105,110,101,45]
def q3w:Txt:=[114,111,117,110,100]
noncomputable def cW(ss:List StpV)(bs:List BlkV)(r:ResV)(t:Txt):Int:=q18 (amtV ss bs r (txt t))
noncomputable def cR(g:q11)(r:ResV)(k:Nat):Int:=q18 (q7z r (g.lines.getD k default) k)
noncomputable def entW(ss:List StpV)(bs:List BlkV)(r:ResV)(t:Txt):FV:=entF (whoT++t) (qn (cW ss bs r t))
noncomputable def entR(g:q11)(r:ResV)(k:Nat):FV:=entF (lineT++ql k) (qn (cR g r k))
def sumZ:List Int->Int
 |[]=>0
 |z::l=>z+sumZ l
noncomputable def totV(g:q11)(ss:List StpV)(bs:List BlkV)(r:ResV):Int:=sumZ ((q26 ss bs).map (cW ss bs r))+sumZ ((List.range' 0 g.lines.length).map (cR g r))
noncomputable def postsV(g:q11)(ss:List StpV)(bs:List BlkV)(r:ResV):List FV :=
 (q26 ss bs).map (entW ss bs r)++(List.range' 0 g.lines.length).map (entR g r)++[entF q3w (qn (-totV g ss bs r))]
noncomputable def qct(g:q11)(ss:List StpV)(bs:List BlkV)(r:ResV):List FV :=
 bif decide (chkV g ss bs r=0)&&(q26 ss bs).all (λt=>q2m (txt t))then [.list 2 (postsV g ss bs r),iF 0]else [.list 2 [],iF 1]
theorem zl_zero':zl (0:Int)=.list 1 []:=q3v
theorem zb_zero':zb (0:Int)=.bool false:=rfl
theorem qr8(l:List (List UInt8)):(Lib.compact l).length<=l.length:=by
 unfold Lib.compact Lib.compactUpTo;rw[List.length_map];have h:=List.length_filter_le (Lib.keeps l.toArray) (List.range l.toArray.toList.length);rw[List.length_range]at h;exact h
section
variable {g:q11} {ss:List StpV} {bs:List BlkV} {r:ResV} {n:Nat}
theorem qkg{i K:Nat}(hi:i<=1000):i*2^K<2^(K+20):=by
 have h0:0<2^K:=Nat.two_pow_pos K;rw[Nat.pow_add,Nat.mul_comm];exact Nat.mul_lt_mul_of_pos_left (by omega) h0
theorem step_bd{s c:Int}{i K:Nat}(h:s.natAbs<=i*2^K)(hc:c.natAbs<2^K):(s-c).natAbs<=(i+1)*2^K/\(s+c).natAbs<=(i+1)*2^K:=by
 rw[Nat.succ_mul];omega
theorem qkh{a:Txt}{q:Rat}{d K i:Nat}{s:Int}{E:List FV}(hK:80000002<=K)(hK2:K+100<=1000000000)(hi:i<=900)(hq:Bd 80000000 q)(hd:dn d=q.den)(hs:s.natAbs<=i*2^K)(hE:E.length<=1000000) :
  evF EnD (n+2) 82 [sF a,zl (q).num,zb (q).num,nL (d),.bool false,zl s,zb s,.list 2 E]=some [zl (s-q18 q),zb (s-q18 q),.list 2 (E++[entF a (qn (q18 q))])]/\(s-q18 q).natAbs<=(i+1)*2^K:=by
 have hc:(q18 q).natAbs<2^K:=Nat.lt_of_lt_of_le (qfq (hq.mono (show 80000000<=K-2 by omega))) (Nat.pow_le_pow_right (by omega) (by omega));refine⟨?_,(step_bd hs hc).1⟩;have hs2:s.natAbs<2^(K+20):=Nat.lt_of_le_of_lt hs (qkg (by omega));have hc2:(q18 q).natAbs<2^(K+20):=Nat.lt_of_lt_of_le hc (Nat.pow_le_pow_right (by omega) (by omega));rw[qod,d_round (hq.mono (by omega)) hd];simp (disch:=omega) only[Option.bind_some,List.getElem?_cons_zero,List.getElem?_cons_succ,q9,qa];rw[d_nsub (K:=K+20) (by omega) hs2 hc2];simp (disch:=omega) only[Option.bind_some,List.getElem?_cons_zero,List.getElem?_cons_succ,q9,qa];rw[d_ntext (K:=K) (by omega) hc];simp (disch:=omega) only[el1,Option.bind_some,List.getElem?_cons_zero,qg];rw[q70 (by rw[List.length_singleton];omega),cond_true];rfl
theorem name_at(b:Bool)(s:ByteArray)(hs:s.size<=1099511627776):evF EnD (n+1) 87 [.str s]=some [.bool (q2m s)]/\evF EnD (n+1) 97 [.str s]=some [.bool (q2m s)]:=by
 have h1:evF EnD (n+1) 87 [.str s]=nameExt [.str s]:=by kernel_rfl
 have h2:evF EnD (n+1) 97 [.str s]=nameExt [.str s]:=by kernel_rfl
 rw[h1,h2];exact⟨if_pos hs,if_pos hs⟩
theorem itoa_at{k:Nat}(hk:k<100):evF EnD (n+1) 90 [iF k]=some [sF (ql k)]:=by
 have h1:evF EnD (n+1) 90 [iF k]=itoaExt [iF k]:=by kernel_rfl
 rw[h1];refine(if_pos (by omega)).trans ?_;rfl
theorem qr9(hS:Sq ss bs r)(hs:q3y g ss bs r)(hr:q20 r=true)(hl:g.lines.length<=90){K:Nat}(hK:80000002<=K)(hK2:K+100<=1000000000)(hn:1000<=n):∀(c k m i:Nat) (s:Int) (E:List FV),k+c=g.lines.length->c<m->i+c<=800->s.natAbs<=i*2^K->E.length+c<=100000 ->
  q1f.l27 (n+9) [] m (rL r [.list 2 E,zl s,zb s,.list 3 (g.lines.map q1a.fv),iF (g.lines.length:Int),iF k]) =
   some [.list 2 (E++(List.range' k c).map (entR g r)++[entF q3w (qn (s-sumZ ((List.range' k c).map (cR g r))))]),iF 0]:=by
 intro c
 induction c with
 |zero =>
  intro k m i s E hk hm hi hsb hE;obtain⟨m,rfl⟩:=qSx m (by omega);obtain rfl:k=g.lines.length:=by omega
  have hs2:s.natAbs<2^(K+20):=Nat.lt_of_le_of_lt hsb (qkg (by omega));rw[q1f.l27_eq,decide_eq_false (by omega),cond_false,d_ntext (K:=K+20) (by omega) hs2];simp (disch:=omega) only[el1,Option.bind_some,List.getElem?_cons_zero,qg];rw[q70 (by rw[List.length_singleton];omega),cond_true,show s-sumZ ((List.range' g.lines.length 0).map (cR g r))=s from by show s-0=s;omega];show _=some [FV.list 2 (E++[]++_),_];rw[List.append_nil];rfl
 |succ c ih =>
  intro k m i s E hk hm hi hsb hE;obtain⟨m,rfl⟩:=qSx m (by omega);have hkl:k<g.lines.length:=by omega
  obtain⟨v,d,a1,a2,a3,a4⟩:=rent_run (n:=n+4) (l:=g.lines[k]) (k:=k) hS (by omega);have hv:=a4 (okRent_of hs hr hkl);subst hv;obtain⟨p1,p2⟩:=qkh (n:=n+7) (a:=lineT++ql k) hK hK2 (by omega:i<=900) a3 a2 hsb (E:=E) (by omega);have hdl:(ql k).length<=100:=by
   have:=q7r (x:=k) (k:=90) (by have:(2:Nat)^7<=2^90:=Nat.pow_le_pow_right (by omega) (by omega);omega);omega
  rw[q1f.l27_eq,decide_eq_true (by omega),cond_true,List.length_map,qc hkl];simp (disch:=omega) only[lin_at hkl,Option.bind_some,List.getElem?_cons_zero,List.getElem?_cons_succ,qb];rw[a1];simp (disch:=omega) only[Option.bind_some,List.getElem?_cons_zero,List.getElem?_cons_succ,q9,qa];rw[itoa_at (n:=n+8) (by omega)];simp (disch:=omega) only[Option.bind_some,List.getElem?_cons_zero,qg];rw[q1e,decide_eq_false (by omega),cond_false,show({ data:=#[108,105,110,101,45] }:ByteArray)=txt lineT from rfl,q5u];rw[show evF EnD (n+9) 82 _=_ from p1];simp (disch:=omega) only[Option.bind_some,List.getElem?_cons_zero,List.getElem?_cons_succ,q9,qa];rw[qi (by omega),ih (k+1) m (i+1) _ _ (by omega) (by omega) (by omega) p2 (by rw[List.length_append,List.length_singleton];omega)];have ec:cR g r k=q18 (q7z r g.lines[k] k):=by unfold cR;rw[q75 hkl]
  rw[List.range'_succ,List.map_cons,List.map_cons,show sumZ (cR g r k::(List.range' (k+1) c).map (cR g r))=cR g r k+sumZ ((List.range' (k+1) c).map (cR g r)) from rfl,ec,List.append_assoc E,show entR g r k=entF (lineT++ql k) (qn (q18 (q7z r g.lines[k] k))) from by unfold entR;rw[ec]];rw[show s-q18 (q7z r g.lines[k] k)-sumZ ((List.range' (k+1) c).map (cR g r))=s-(q18 (q7z r g.lines[k] k)+sumZ ((List.range' (k+1) c).map (cR g r))) from by omega];rfl
theorem qra(hS:Sq ss bs r)(hs:q3y g ss bs r)(hr:q20 r=true)(hl:g.lines.length<=90){N:List Txt}(hN:N.length<=600)(hNb:∀t,t∈N->t.length<=1000000){K:Nat}(hK:80000002<=K)(hK2:K+100<=1000000000)(hn:1000<=n):∀(c i m:Nat) (s:Int) (E:List FV),i+c=N.length->c<m->s.natAbs<=i*2^K->E.length<=i ->
  q1f.l19 (n+9) [] m (gR g (rL r [.list 2 E,zl s,zb s,.list 7 (ss.map StpV.fv),.list 8 (bs.map BlkV.fv),.list 1 (N.map sF),iF (N.length:Int),iF i])) =
   some (bif(N.drop i).all (λt=>q2m (txt t))then [.list 2 (E++(N.drop i).map (entW ss bs r)++(List.range' 0 g.lines.length).map (entR g r)++[entF q3w (qn (s-sumZ ((N.drop i).map (cW ss bs r))-sumZ ((List.range' 0 g.lines.length).map (cR g r))))]),iF 0]else [.list 2 [],iF 1]):=by
 intro c
 induction c with
 |zero =>
  intro i m s E hi hm hsb hE;obtain⟨m,rfl⟩:=qSx m (by omega);obtain rfl:i=N.length:=by omega
  have h:=qr9 hS hs hr hl hK hK2 hn g.lines.length 0 (n+9) N.length s E (by omega) (by omega) (by omega) hsb (by omega);rw[q1f.q6x,decide_eq_false (by omega),cond_false,List.length_map,List.drop_length];refine h.trans ?_;rw[show([]:List Txt).all (λt=>q2m (txt t))=true from rfl,cond_true,List.map_nil,List.append_nil,show s-sumZ (([]:List Txt).map (cW ss bs r))=s from by show s-0=s;omega]
 |succ c ih =>
  intro i m s E hi hm hsb hE;obtain⟨m,rfl⟩:=qSx m (by omega);have hil:i<N.length:=by omega
  have hb:=hNb _ (List.getElem_mem hil);obtain⟨h87,_⟩:=name_at (n:=n+8) true (txt N[i]) (by rw[q1e];omega);rw[q1f.q6x,decide_eq_true (by omega),cond_true,List.length_map,qc hil];simp (disch:=omega) only[q7i hil,Option.bind_some,qg];rw[h87];simp (disch:=omega) only[Option.bind_some,List.getElem?_cons_zero,qa];rw[List.drop_eq_getElem_cons hil,List.all_cons];cases hnv:q2m (txt N[i])with
  |false=>rfl
  |true =>
   obtain⟨v,d,a1,a2,a3,a4⟩:=qqj (n:=n+2) (who:=txt N[i]) hS (by omega);have hv:=a4 (okA_of hs hr _);subst hv;obtain⟨p1,p2⟩:=qkh (n:=n+7) (a:=whoT++N[i]) hK hK2 (by omega:i<=900) a3 a2 hsb (E:=E) (by omega);rw[Bool.not_true,cond_false,Bool.true_and,a1];simp (disch:=omega) only[Option.bind_some,List.getElem?_cons_zero,List.getElem?_cons_succ,q9,qa];rw[q1e,decide_eq_false (by omega),cond_false,show({ data:=#[119,104,111,45] }:ByteArray)=txt whoT from rfl,q5u];rw[show evF EnD (n+9) 82 _=_ from p1];simp (disch:=omega) only[Option.bind_some,List.getElem?_cons_zero,List.getElem?_cons_succ,q9,qa];rw[qi (by omega),ih (i+1) m _ _ (by omega) (by omega) p2 (by rw[List.length_append,List.length_singleton];omega)];rw[List.map_cons,List.map_cons,show sumZ (cW ss bs r N[i]::(N.drop (i+1)).map (cW ss bs r))=cW ss bs r N[i]+sumZ ((N.drop (i+1)).map (cW ss bs r)) from rfl,List.append_assoc E];rw[show s-(cW ss bs r N[i]+sumZ ((N.drop (i+1)).map (cW ss bs r)))=s-q18 (amtV ss bs r (txt N[i]))-sumZ ((N.drop (i+1)).map (cW ss bs r)) from by unfold cW;omega];rfl
theorem qki(h:Sm g ss bs r)(hS:Sq ss bs r)(hws:∀s,s∈ss->s.who.size<=1000000)(hwb:∀b,b∈bs->b.who.size<=1000000)(hn:1000<=n) :
  evF EnD (n+10) 23 (gR g (.list 7 (ss.map StpV.fv)::.list 8 (bs.map BlkV.fv)::rL r []))=some (qct g ss bs r):=by
 have h15:evF EnD (n+9) 15 (gR g (.list 7 (ss.map StpV.fv)::.list 8 (bs.map BlkV.fv)::rL r []))=some [iF (chkV g ss bs r)]:=by
  have:evF EnD (n+9) 15 (gR g (.list 7 (ss.map StpV.fv)::.list 8 (bs.map BlkV.fv)::rL r []))=limO EnB 15 (gR g (.list 7 (ss.map StpV.fv)::.list 8 (bs.map BlkV.fv)::rL r [])):=by kernel_rfl
  rw[this];refine q1v ⟨2,λn hn=>?_⟩;obtain⟨k,rfl⟩:∃k,n=k+2:=⟨n-2,by omega⟩;exact check_run h
 rw[qoc,h15];simp (disch:=omega) only[Option.bind_some,List.getElem?_cons_zero,qb];unfold qct;by_cases hc:chkV g ss bs r=0
 ·obtain⟨hs,hr⟩:=chk_zero hc;obtain⟨K,hK,hK2⟩:∃K,80000002<=K/\K+100<=1000000000:=⟨80000002,by omega,by omega⟩;have hl:g.lines.length<=90:=by
   obtain⟨o1,_⟩:=qff hs.ord;unfold q3x at o1;simp only[Bool.and_eq_true,decide_eq_true_eq]at o1;omega
  have hm:∀t,t∈q26 ss bs->t.length<=1000000:=λt ht=>by
   rw[qi8]at ht;unfold whoL at ht;rcases List.mem_append.1 ht with q | q
   ·obtain⟨s,hs1,rfl⟩:=List.mem_map.1 q;rw[Array.length_toList];exact hws s hs1
   ·obtain⟨s,hs1,rfl⟩:=List.mem_map.1 q;rw[Array.length_toList];exact hwb s hs1
  have hlen:(q26 ss bs).length<=600:=by
   have h1:=qr8 (sortL (whoL ss bs));have h2:(sortL (whoL ss bs)).length=(whoL ss bs).length:=(List.mergeSort_perm _ _).length_eq;have h3:(whoL ss bs).length=ss.length+bs.length:=by unfold whoL;simp only[List.length_append,List.length_map]
   have:=hS.ssl;have:=hS.bsl;show(Lib.compact (sortL (whoL ss bs))).length<=600;omega
  rw[hc,show((0:Int) !=0)=false from rfl,cond_false,List.length_map,decide_eq_true rfl,Bool.true_and];have e1:=qo0 (n:=n+8) (L:=[]) hS.ssl hS.bsl (by omega) (g:=g) (r:=r);have e2:=qra hS hs hr hl hlen hm hK hK2 hn (q26 ss bs).length 0 (n+9) 0 [] (by omega) (by omega) (by simp) (by simp);rw[zl_zero',zb_zero']at e2;refine(e1.trans e2).trans ?_;unfold postsV totV;rw[List.drop_zero,List.nil_append,show(0:Int)-sumZ ((q26 ss bs).map (cW ss bs r))-sumZ ((List.range' 0 g.lines.length).map (cR g r))=-(sumZ ((q26 ss bs).map (cW ss bs r))+sumZ ((List.range' 0 g.lines.length).map (cR g r))) from by omega]
 ·rw[show(chkV g ss bs r !=0)=true from by simpa using hc,cond_true,decide_eq_false hc];rfl
end
end Rf
end
section
/- Made by a program of this work: what each function comes to, one step of it; by the kernel. -/
set_option maxRecDepth 100000
set_option maxHeartbeats 4000000
namespace Rf
open Go
variable (n:Nat)
variable (b a c:Int)
theorem qn1:evF EnD (n+1) 7 [.int .u8 b,.int .i16 a,.int .u8 c]=(evF EnD n 12 [iI (if(Int.tmod (IntKind.wrap .i64 c) 100)<(IntKind.wrap .i64 ((IntKind.wrap .i64 b)+1))then(Int.tmod (IntKind.wrap .i64 c) 100)else(IntKind.wrap .i64 ((IntKind.wrap .i64 b)+1)))]).bind λh=> (asBool h[0]?).bind λs=>(asLst 1 h[1]?).bind λt=>(asBool h[2]?).bind λu=>(asLst 1 h[3]?).bind λv=>(evF EnD n 22 [.str { data:=#[49,47,51] }]).bind λf=> (asBool f[0]?).bind λR=>(asLst 1 f[1]?).bind λS=>(asBool f[2]?).bind λT=>(asLst 1 f[3]?).bind λU=>(asInt .i64 f[4]?).bind λn10=>(evF EnD n 22 [.str { data:=#[49,47,50] }]).bind λg=> (asBool g[0]?).bind λV=>(asLst 1 g[1]?).bind λW=>(asBool g[2]?).bind λX=>(asLst 1 g[3]?).bind λY=>(asInt .i64 g[4]?).bind λn16=>(evF EnD n 13 (kQ s t u v (kQ R S T U []))).bind λi=> (asBool i[0]?).bind λw=>(asLst 1 i[1]?).bind λx=>(asBool i[2]?).bind λy=>(asLst 1 (i[3]?)).bind λz=>
(cond (c≥128) ((evF EnD n 13 (kQ s t u v (kQ V W X Y []))).bind λj=> (asBool j[0]?).bind λA=>(asLst 1 j[1]?).bind λB=>(asBool j[2]?).bind λC=>(asLst 1 j[3]?).bind λD=>(evF EnD n 14 (kQ A B C D [])).bind λZ=> (asStr Z[0]?).bind λE=>(evF EnD n 12 [iI (IntKind.wrap .i64 a)]).bind λk=> (asBool k[0]?).bind λc30=>(asLst 1 k[1]?).bind λv31=>(asBool k[2]?).bind λc32=>(asLst 1 k[3]?).bind λv33=>(evF EnD n 14 (kQ c30 v31 c32 v33 [])).bind λr34=> (asStr r34[0]?).bind λu35=>(evF EnD n 23 (k15 1 1 [] (-100000) 100000 (qd 2 (.agg (kS { data:=#[] } 0 0 0 false 0 0 [])) [(0,(.agg (kS { data:=#[97] } 1 0 0 false (IntKind.wrap .i64 ((IntKind.wrap .i64 b)+1)) (IntKind.wrap .i64 a) []))),(1,(.agg (kS { data:=#[98] } 1 0 0 true (IntKind.wrap .i64 ((IntKind.wrap .i64 b)+1)) (IntKind.wrap .i64 a) [])))]) [] [] (qd 2 (.str { data:=#[] }) [(0,(.str E)),(1,(.str E))]) (qd 1 (iL []) [(0,(iL (qd 0 (.str { data:=#[] }) [])))]) (qd 1 (iL []) [(0,(iL (qd 1 (.str { data:=#[] }) [(0,(.str u35))])))]) { data:=#[48] } { data:=#[48] } false 0 [])).bind λF=> (asLst 2 F[0]?).bind λd=>(asInt .i64 (F[1]?)).bind λn38=>
(cond (n38 !=0) (some [.bool false]) (cond ((d.length:Int) !=3) (some [.bool false]) ((evF EnD n 12 [iI (IntKind.wrap .i64 a)]).bind λl=> (asBool l[0]?).bind λc40=>(asLst 1 l[1]?).bind λv41=>(asBool l[2]?).bind λc42=>(asLst 1 l[3]?).bind λv43=>(evF EnD n 13 (kQ A B C D (kQ c40 v41 c42 v43 []))).bind λo=> (asBool o[0]?).bind λc45=>(asLst 1 o[1]?).bind λv46=>(asBool o[2]?).bind λc47=>(asLst 1 o[3]?).bind λv48=>(evF EnD n 24 (kQ c45 v46 c47 v48 [])).bind λG=> (asBool G[0]?).bind λH=>(asLst 1 G[1]?).bind λI=>(ix 0 d.length).bind λi52=> (asStr (at' d i52 0)).bind λu53=>
(cond (u53.toList==({ data:=#[119,104,111,45,97] }:ByteArray).toList) ((ix 0 d.length).bind λi54=> (asStr (at' d i54 1)).bind λu55=> (evF EnD n 25 [.bool H,iL I]).bind λr56=> (asStr r56[0]?).bind λu57=>
(cond (u55.toList==u57.toList) ((ix 1 d.length).bind λi58=> (asStr (at' d i58 0)).bind λu59=>
(cond (u59.toList==({ data:=#[119,104,111,45,98] }:ByteArray).toList) ((ix 1 d.length).bind λi60=> (asStr (at' d i60 1)).bind λu61=> (evF EnD n 26 [.bool H,iL I]).bind λJ=> (asBool J[0]?).bind λc63=>(asLst 1 J[1]?).bind λv64=>(evF EnD n 25 [.bool c63,iL v64]).bind λr65=> (asStr r65[0]?).bind λu66=>
(cond (u61.toList==u66.toList) ((ix 2 d.length).bind λi67=> (asStr (at' d i67 0)).bind λu68=>
(cond (u68.toList==({ data:=#[114,111,117,110,100] }:ByteArray).toList) ((ix 2 d.length).bind λi69=> (asStr (at' d i69 1)).bind λu70=> some [.bool (u70.toList==({ data:=#[48] }:ByteArray).toList)]) (some [.bool false]))) (some [.bool false]))) (some [.bool false]))) (some [.bool false]))) (some [.bool false])))))) ((evF EnD n 14 (kQ w x y z [])).bind λr71=> (asStr r71[0]?).bind λK=>(evF EnD n 12 [iI (IntKind.wrap .i64 a)]).bind λp=> (asBool p[0]?).bind λc74=>(asLst 1 p[1]?).bind λv75=>(asBool p[2]?).bind λc76=>(asLst 1 p[3]?).bind λv77=>(evF EnD n 14 (kQ c74 v75 c76 v77 [])).bind λr78=> (asStr r78[0]?).bind λu79=>(evF EnD n 23 (k15 1 1 [] (-100000) 100000 (qd 2 (.agg (kS { data:=#[] } 0 0 0 false 0 0 [])) [(0,(.agg (kS { data:=#[97] } 1 0 0 false (IntKind.wrap .i64 ((IntKind.wrap .i64 b)+1)) (IntKind.wrap .i64 a) []))),(1,(.agg (kS { data:=#[98] } 1 0 0 true (IntKind.wrap .i64 ((IntKind.wrap .i64 b)+1)) (IntKind.wrap .i64 a) [])))]) [] [] (qd 2 (.str { data:=#[] }) [(0,(.str K)),(1,(.str K))]) (qd 1 (iL []) [(0,(iL (qd 0 (.str { data:=#[] }) [])))]) (qd 1 (iL []) [(0,(iL (qd 1 (.str { data:=#[] }) [(0,(.str u79))])))]) { data:=#[48] } { data:=#[48] } false 0 [])).bind λM=> (asLst 2 M[0]?).bind λe=>(asInt .i64 (M[1]?)).bind λn82=>
(cond (n82 !=0) (some [.bool false]) (cond ((e.length:Int) !=3) (some [.bool false]) ((evF EnD n 12 [iI (IntKind.wrap .i64 a)]).bind λq=> (asBool q[0]?).bind λc84=>(asLst 1 q[1]?).bind λv85=>(asBool q[2]?).bind λc86=>(asLst 1 q[3]?).bind λv87=>(evF EnD n 13 (kQ w x y z (kQ c84 v85 c86 v87 []))).bind λr=> (asBool r[0]?).bind λc89=>(asLst 1 r[1]?).bind λv90=>(asBool r[2]?).bind λc91=>(asLst 1 r[3]?).bind λv92=>(evF EnD n 24 (kQ c89 v90 c91 v92 [])).bind λN=> (asBool N[0]?).bind λO=>(asLst 1 N[1]?).bind λP=>(ix 0 e.length).bind λi96=> (asStr (at' e i96 0)).bind λu97=>
(cond (u97.toList==({ data:=#[119,104,111,45,97] }:ByteArray).toList) ((ix 0 e.length).bind λi98=> (asStr (at' e i98 1)).bind λu99=> (evF EnD n 25 [.bool O,iL P]).bind λr100=> (asStr r100[0]?).bind λu101=>
(cond (u99.toList==u101.toList) ((ix 1 e.length).bind λi102=> (asStr (at' e i102 0)).bind λu103=>
(cond (u103.toList==({ data:=#[119,104,111,45,98] }:ByteArray).toList) ((ix 1 e.length).bind λi104=> (asStr (at' e i104 1)).bind λu105=> (evF EnD n 26 [.bool O,iL P]).bind λQ=> (asBool Q[0]?).bind λc107=>(asLst 1 Q[1]?).bind λv108=>(evF EnD n 25 [.bool c107,iL v108]).bind λr109=> (asStr r109[0]?).bind λu110=>
(cond (u105.toList==u110.toList) ((ix 2 e.length).bind λi111=> (asStr (at' e i111 0)).bind λu112=>
(cond (u112.toList==({ data:=#[114,111,117,110,100] }:ByteArray).toList) ((ix 2 e.length).bind λi113=> (asStr (at' e i113 1)).bind λu114=> some [.bool (u114.toList==({ data:=#[48] }:ByteArray).toList)]) (some [.bool false]))) (some [.bool false]))) (some [.bool false]))) (some [.bool false]))) (some [.bool false]))))))):=by kernel_rfl
end Rf
end
section
/- SettleTrade: two who trade with one another. -/
set_option maxHeartbeats 8000000
set_option maxRecDepth 20000
namespace Rf
open Go
theorem qrh(q:Rat):q18 (-q)=-q18 q:=by
 have hd:=den_pos q;have h1:=Int.mul_ediv_add_emod q.num (q.den:Int);have h2:=Int.emod_nonneg q.num (show(q.den:Int)≠0 by omega);have h3:=Int.emod_lt_of_pos q.num hd;have en:(-q).num=-q.num:=Rat.neg_num q;have ed:(-q).den=q.den:=Rat.neg_den q;unfold q18 q1u q16;rw[en,ed];by_cases h0:q.num%(q.den:Int)=0
 ·obtain⟨e1,e2⟩:=(Int.ediv_emod_unique (a:=-q.num) (q:=-(q.num / (q.den:Int))) (r:=0) hd).2 ⟨by rw[Int.mul_neg];omega,by omega,hd⟩;rw[e1,e2,h0];split <;> split <;> omega
 ·obtain⟨e1,e2⟩:=(Int.ediv_emod_unique (a:=-q.num) (q:=-(q.num / (q.den:Int))-1) (r:=(q.den:Int)-q.num%(q.den:Int)) hd).2 ⟨by rw[Int.mul_sub,Int.mul_neg,Int.mul_one];omega,by omega,by omega⟩;rw[e1,e2];generalize q.num / (q.den:Int)=f at *
  generalize q.num%(q.den:Int)=s at *
  split <;> split <;> omega
theorem rd_tx(q:Rat):rd (qx q)=q:=by
 unfold rd;rw[q4z.2 rfl];rfl
theorem isNum_tx(q:Rat):isNum (qx q)=true:=by
 unfold isNum;rw[q4z.2 rfl];rfl
theorem qkm:([48]:Txt)=qx 0:=by
 unfold qx qn;rw[if_pos (show(0:Rat).den=1 from rfl),if_neg (show ¬ (0:Rat).num<0 by decide)];rfl
def q6c:Rat:=⟨1,3,by decide,by decide⟩
def half:Rat:=⟨1,2,by decide,by decide⟩
theorem dtx_1{k:Nat}(hk:k<10)(h:k≠0):ql k=[chD k]:=by
 unfold ql;rw[if_neg h,q2o (by omega) h,Nat.mod_eq_of_lt hk,Nat.div_eq_of_lt hk,q12];rfl
theorem third_tx:qx q6c=[49,47,51]:=by
 unfold qx qn;rw[if_neg (show ¬ q6c.den=1 by decide),if_neg (show ¬ q6c.num<0 by decide),show q6c.num.natAbs=1 from rfl,show q6c.den=3 from rfl,dtx_1 (by omega) (by omega),dtx_1 (by omega) (by omega)];rfl
theorem half_tx:qx half=[49,47,50]:=by
 unfold qx qn;rw[if_neg (show ¬ half.den=1 by decide),if_neg (show ¬ half.num<0 by decide),show half.num.natAbs=1 from rfl,show half.den=2 from rfl,dtx_1 (by omega) (by omega),dtx_1 (by omega) (by omega)];rfl
def stG:q11:=⟨1,1,[],-100000,100000⟩
def stS(q p:Int):List StpV:=[⟨⟨#[97]⟩,1,0,0,false,q,p⟩,⟨⟨#[98]⟩,1,0,0,true,q,p⟩]
def stR(x p:Rat):ResV:=⟨[],[qx x,qx x],[[]],[[qx p]],[48],[48],false,0⟩
section
variable {q p:Int} {t:Rat}
theorem st_shape(h1:1<=q)(h2:q<=1000)(h3:-100000<=p)(h4:p<=100000):q6f stG (stS q p) [] (stR t p)=true:=by
 refine qcv.2 ⟨?_,rfl,rfl,rfl,rfl,by show(0:Int)<=0;omega,λh hh=>?_⟩
 ·unfold q2h;simp only[Bool.and_eq_true,decide_eq_true_eq];refine⟨⟨⟨⟨⟨⟨⟨by decide,by show 2<=32;omega⟩,by show 0<=12;omega⟩,?_⟩,rfl⟩,?_⟩,rfl⟩,rfl⟩
  ·unfold stS stG;simp only[List.all_cons,List.all_nil,Bool.and_true,Bool.and_eq_true];unfold q4f;simp only[Bool.and_eq_true,qco];omega
  ·show(nmB ⟨#[97]⟩ 1 ⟨#[98]⟩ 1&&true)=true
   kernel_rfl
 ·have e:h=0:=by
   have:h<1:=hh;omega
  subst e;exact⟨rfl,rfl⟩
theorem st_read:q20 (stR t p)=true:=by
 unfold q20 stR;rw[qkm];simp only[List.all_cons,List.all_nil,isNum_tx,Bool.and_true]
theorem st_x0:(stR t p).xAt 0=t:=rd_tx t
theorem st_x1:(stR t p).xAt 1=t:=rd_tx t
theorem st_p:(stR t p).pAt 0 0=p:=rd_tx p
theorem st_chk(h1:1<=q)(h2:q<=1000)(h3:-100000<=p)(h4:p<=100000)(t0:0<=t)(t1:t<=(q:Rat)):chkV stG (stS q p) [] (stR t p)=0:=by
 have b:q6q stG (stS q p) (stR t p)=true:=by
  unfold q6q;rw[Bool.and_eq_true,q4m,q4m];have kk:inR t 0 q=true:=by
   unfold inR;rw[decide_eq_true (show((0:Int):Rat)<=t from t0),decide_eq_true t1];rfl
  refine⟨λi hi=>?_,λi hi=>?_⟩
  ·have hi:i<2:=hi;rcases(show i=0\/i=1 by omega)with rfl | rfl
   ·rw[st_x0];exact kk
   ·rw[st_x1];exact kk
  ·have hi:i<1:=hi;obtain rfl:i=0:=by omega
   rw[Bool.and_eq_true,q4m,q4m];refine⟨λj hj=>absurd hj (Nat.not_lt_zero _),λj hj=>?_⟩;have hj:j<1:=hj;obtain rfl:j=0:=by omega
   rw[st_p];show inR (p:Rat) (-100000) 100000=true;unfold inR;rw[decide_eq_true (Rat.intCast_le_intCast.2 h3),decide_eq_true (Rat.intCast_le_intCast.2 h4)];rfl
 have bal:balV stG (stS q p) [] (stR t p)=true:=by
  unfold balV;rw[q4m];intro h hh;have hh:h<1:=hh;obtain rfl:h=0:=by omega
  rw[q4m];intro z hz;have hz:z<1:=hz;obtain rfl:z=0:=by omega
  rw[decide_eq_true_eq];have e:q69 (stS q p) [] (stR t p) 0 0=((0:Int):Rat)+(stR t p).xAt 0-(stR t p).xAt 1:=rfl;have e2:expV stG.lines (stR t p) 0 0=0:=rfl;rw[e,e2,st_x0,st_x1,show((0:Int):Rat)=0 from rfl]
  grind
 have stp:q7t (stS q p) (stR t p)=true:=by
  have e:q7t (stS q p) (stR t p)=(q73 (stS q p) (stR t p) 0&&(q73 (stS q p) (stR t p) 1&&true)):=rfl;have e0:q73 (stS q p) (stR t p) 0=(!(decide (0<(stR t p).xAt 0)&&decide ((stR t p).pAt 0 0<(p:Rat)))&&!(decide ((stR t p).xAt 0<(q:Rat))&&decide ((p:Rat)<(stR t p).pAt 0 0))):=rfl;have e1:q73 (stS q p) (stR t p) 1=(!(decide (0<(stR t p).xAt 1)&&decide ((p:Rat)<(stR t p).pAt 0 0))&&!(decide ((stR t p).xAt 1<(q:Rat))&&decide ((stR t p).pAt 0 0<(p:Rat)))):=rfl;rw[e,e0,e1,st_p,decide_eq_false (Rat.lt_irrefl)];simp
 have wo:q8t (stS q p) [] (stR t p)=true:=by
  unfold q8t;rw[decide_eq_true_eq];have e:welV (stS q p) [] (stR t p)=0+(stR t p).xAt 0*((-p:Int):Rat)+(stR t p).xAt 1*((p:Int):Rat):=rfl;rw[e,st_x0,st_x1];have:(0:Rat)+t*((-p:Int):Rat)+t*((p:Int):Rat)=0:=by
   rw[Rat.intCast_neg]
   grind
  rw[this];exact qkm.symm▸rfl
 have up:upV (stR t p)=true:=by
  unfold upV;have:decide (rd (stR t p).q1g<=rd (stR t p).upper)=true:=decide_eq_true (Rat.le_refl);rw[this];rfl
 have ln:q3s [] (stR t p).accept=true:=by
  unfold q3s;rw[decide_eq_true (show([]:List BlkV).length=(stR t p).accept.length from rfl),Bool.true_and]
  classical
  exact decide_eq_true λi b hb=>by
   have:=hb.1;simp at this
 unfold chkV;rw[st_shape h1 h2 h3 h4,st_read,b,bal,stp,show q8r stG (stR t p)=true from rfl,ln,show q8s [] (stR t p)=true from rfl,wo,up];rfl
theorem st_sm(ht:Bd 64 t)(hp:Bd 64 (p:Rat)):Sm stG (stS q p) [] (stR t p)/\Sq (stS q p) [] (stR t p):=by
 have l1:(qx t).length<=256:=by have:=ht.len;omega
 have l3:(qx (p:Rat)).length<=256:=by have:=hp.len;omega
 have hx:∀y,y∈(stR t p).x->y.length<=256:=λy hy=>by
  rcases List.mem_cons.1 hy with rfl | hy
  ·exact l1
  ·rw[List.mem_singleton.1 hy];exact l1
 have hf:∀l,l∈(stR t p).f->Few l:=λl hl=>by
  rw[List.mem_singleton.1 hl];exact⟨by show 0<=256;omega,λy hy=>by cases hy⟩
 have hpp:∀l,l∈(stR t p).p->Few l:=λl hl=>by
  rw[List.mem_singleton.1 hl];exact⟨by show 1<=256;omega,λy hy=>by rw[List.mem_singleton.1 hy];exact l3⟩
 exact⟨⟨by show 2<=256;omega,by show 0<=256;omega,by show 0<=256;omega,by show 0<=256;omega,by show 2<=256;omega,by show 1<=256;omega,by show 1<=256;omega,hx,hf,hpp,by show 1<=256;omega,by show 1<=256;omega,λb hb=>by cases hb⟩,
  ⟨by show 2<=256;omega,by show 0<=256;omega,by show 0<=256;omega,by show 2<=256;omega,by show 1<=256;omega,by show 1<=256;omega,hx,hf,hpp,λb hb=>(by cases hb),λb hb=>(by cases hb)⟩⟩
theorem qkn:q26 (stS q p) []=[[97],[98]]:=by
 rw[<- qia];show insN (insN [] [97]) [98]=_;decide
theorem st_pr:prP (stR t p) 0 0=p:=by
 unfold prP;rw[if_pos (show hasP (stR t p) 0 0=true from rfl)];exact st_p
theorem st_amt:amtV (stS q p) [] (stR t p) (txt [97])=t*p/\amtV (stS q p) [] (stR t p) (txt [98])=-(t*p):=by
 have ea:amtV (stS q p) [] (stR t p) (txt [97])=(valS (stR t p) (txt [97]) (stS q p) 0+(valS (stR t p) (txt [97]) (stS q p) 1+0))+0:=rfl;have eb:amtV (stS q p) [] (stR t p) (txt [98])=(valS (stR t p) (txt [98]) (stS q p) 0+(valS (stR t p) (txt [98]) (stS q p) 1+0))+0:=rfl;have a0:valS (stR t p) (txt [97]) (stS q p) 0=if(⟨#[97]⟩:ByteArray)=txt [97]then sgnQ false ((stR t p).xAt 0*prP (stR t p) 0 0)else 0:=rfl
 have a1:valS (stR t p) (txt [97]) (stS q p) 1=if(⟨#[98]⟩:ByteArray)=txt [97]then sgnQ true ((stR t p).xAt 1*prP (stR t p) 0 0)else 0:=rfl
 have b0:valS (stR t p) (txt [98]) (stS q p) 0=if(⟨#[97]⟩:ByteArray)=txt [98]then sgnQ false ((stR t p).xAt 0*prP (stR t p) 0 0)else 0:=rfl
 have b1:valS (stR t p) (txt [98]) (stS q p) 1=if(⟨#[98]⟩:ByteArray)=txt [98]then sgnQ true ((stR t p).xAt 1*prP (stR t p) 0 0)else 0:=rfl
 rw[if_pos (show(⟨#[97]⟩:ByteArray)=txt [97] from rfl)]at a0;rw[if_pos (show(⟨#[98]⟩:ByteArray)=txt [98] from rfl)]at b1;rw[if_neg (by decide)]at a1 b0;rw[ea,eb,a0,a1,b0,b1,st_x0,st_x1,st_pr];constructor
 ·show(t*p+(0+0))+0=_
  grind
 ·show(0+(-(t*p)+0))+0=_
  grind
theorem qko(h1:1<=q)(h2:q<=1000)(h3:-100000<=p)(h4:p<=100000)(t0:0<=t)(t1:t<=(q:Rat)):qct stG (stS q p) [] (stR t p) =
  [.list 2 [entF (whoT++[97]) (qn (q18 (t*p))),entF (whoT++[98]) (qn (-q18 (t*p))),entF q3w [48]],iF 0]:=by
 obtain⟨ea,eb⟩:=st_amt (q:=q) (p:=p) (t:=t);have ca:cW (stS q p) [] (stR t p) [97]=q18 (t*p):=by unfold cW;rw[ea]
 have cb:cW (stS q p) [] (stR t p) [98]=-q18 (t*p):=by unfold cW;rw[eb,qrh]
 have tot:totV stG (stS q p) [] (stR t p)=0:=by
  unfold totV;rw[qkn,List.map_cons,List.map_cons,ca,cb];show q18 (t*p)+(-q18 (t*p)+0)+0=0;omega
 unfold qct postsV;rw[st_chk h1 h2 h3 h4 t0 t1,qkn,tot,show(decide ((0:Int)=0)&&([[97],[98]]:List Txt).all λt=>q2m (txt t))=true from by kernel_rfl,cond_true,List.map_cons,List.map_cons,show entW (stS q p) [] (stR t p) [97]=entF (whoT++[97]) (qn (cW (stS q p) [] (stR t p) [97])) from rfl,show entW (stS q p) [] (stR t p) [98]=entF (whoT++[98]) (qn (cW (stS q p) [] (stR t p) [98])) from rfl,ca,cb];rfl
end
section
variable {n:Nat} {z:Int}
theorem x_nneg:evF EnD (n+1) 26 [zb z,wl z]=some [zb (-z),wl (-z)]:=by
 have:evF EnD (n+1) 26 [zb z,wl z]=limO En 26 [zb z,wl z]:=by kernel_rfl
 rw[this];exact q1v q9s
end
theorem st_run{x0 x1 x2:Int}{n:Nat}(h0:0<=x0)(h0':x0<=255)(h1:-32768<=x1)(h1':x1<=32767)(h2:0<=x2)(h2':x2<=255)(hn:1000<=n) :
  evF EnD (n+11) 7 [.int .u8 x0,.int .i16 x1,.int .u8 x2]=some [.bool true]:=by
 have a1:=Int.emod_nonneg x2 (show(100:Int)≠0 by omega);have a2:=Int.emod_lt_of_pos x2 (show(0:Int)<100 by omega);rw[qn1,qq (x:=x0) (by omega) (by omega),qq (x:=x1) (by omega) (by omega),qq (x:=x2) (by omega) (by omega),qq (x:=x0+1) (by omega) (by omega),Int.tmod_eq_emod_of_nonneg h2];obtain⟨k,hk,k0,k1,k2⟩:∃k:Int,(if x2%100<x0+1 then x2%100 else x0+1)=k/\0<=k/\k<=x0+1/\k<=256:=⟨_,rfl,by split <;> omega,by split <;> omega,by split <;> omega⟩;rw[hk];obtain⟨q,hq,q0,q1⟩:∃q:Int,x0+1=q/\1<=q/\q<=256:=⟨_,rfl,by omega,by omega⟩;rw[hq];rw[hq]at k1;have bk:Bd 16 (k:Rat):=Bd.int (k:=16) (by rw[show(2:Nat)^16=65536 from rfl];omega) (by omega);have bp:Bd 16 (x1:Rat):=Bd.int (k:=16) (by rw[show(2:Nat)^16=65536 from rfl];omega) (by omega);have b3:Bd 4 q6c:=⟨by decide,by decide⟩;have b2:Bd 4 half:=⟨by decide,by decide⟩;have kR:((0:Int):Rat)<=(k:Rat):=Rat.intCast_le_intCast.2 k0;rw[show((0:Int):Rat)=0 from rfl]at kR;have kQ:(k:Rat)<=(q:Rat):=Rat.intCast_le_intCast.2 k1;have m3:q6c*3=1:=by decide +kernel
 have m2:half*2=1:=by decide +kernel
 rw[x_of (n:=n+9) (by omega) (by omega)];simp (disch:=omega) only[Option.bind_some,List.getElem?_cons_zero,List.getElem?_cons_succ,q9,qa];rw[show FV.str { data:=#[49,47,51] }=sF [49,47,51] from rfl,qkf (n:=n+9) (q4z.2 third_tx.symm) (by show 3<=100000000;omega)];simp (disch:=omega) only[Option.bind_some,List.getElem?_cons_zero,List.getElem?_cons_succ,q9,qb,qa];rw[show FV.str { data:=#[49,47,50] }=sF [49,47,50] from rfl,qkf (n:=n+9) (q4z.2 half_tx.symm) (by show 3<=100000000;omega)];simp (disch:=omega) only[Option.bind_some,List.getElem?_cons_zero,List.getElem?_cons_succ,q9,qb,qa];rw[x_mul (n:=n+9) (bk.mono (by omega)) (b3.mono (by omega)) (qj _) (qj _)];simp (disch:=omega) only[Option.bind_some,List.getElem?_cons_zero,List.getElem?_cons_succ,q9,qa];by_cases hx:x2≥128
 ·rw[decide_eq_true hx,cond_true,x_mul (n:=n+9) (bk.mono (by omega)) (b2.mono (by omega)) (qj _) (qj _)];simp (disch:=omega) only[Option.bind_some,List.getElem?_cons_zero,List.getElem?_cons_succ,q9,qa];have et:(k:Rat)*half*2=(k:Rat):=by rw[Rat.mul_assoc,m2,Rat.mul_one]
  have bt:=bk.mul b2;generalize (k:Rat)*half=t at et bt ⊢;have t0:(0:Rat)<=t:=by clear bt;grind
  have t1:t<=(q:Rat):=by clear bt;grind
  obtain⟨sm,sq⟩:=st_sm (q:=q) (t:=t) (p:=x1) (bt.mono (by omega)) (bp.mono (by omega))
  have hposts:=qki (n:=n) sm sq (λs hs=>by
   rcases List.mem_cons.1 hs with rfl | hs
   ·show 1<=1000000;omega
   ·rw[List.mem_singleton.1 hs];show 1<=1000000;omega) (λb hb=>by cases hb) hn
  rw[qko q0 (by omega) (by omega) (by omega) t0 t1]at hposts;have btp:=bt.mul bp;rw[qcc (n:=n+9) (bt.mono (by omega)) (qj _)];simp (disch:=omega) only[Option.bind_some,List.getElem?_cons_zero,qg];rw[x_of (n:=n+9) (z:=x1) (by omega) (by omega)];simp (disch:=omega) only[Option.bind_some,List.getElem?_cons_zero,List.getElem?_cons_succ,q9,qa];rw[qcc (n:=n+9) (bp.mono (by omega)) (qj _)];simp (disch:=omega) only[Option.bind_some,List.getElem?_cons_zero,qg];refine Eq.trans (congrArg (λo=>Option.bind o _) hposts) ?_;simp (disch:=omega) only[Option.bind_some,List.getElem?_cons_zero,List.getElem?_cons_succ,q9,qb];rw[show((0:Int) !=0)=false from rfl,cond_false,show((([entF (whoT++[97]) (qn (q18 (t*x1))),entF (whoT++[98]) (qn (-q18 (t*x1))),entF q3w [48]]:List FV).length:Int) !=3)=false from rfl,cond_false];rw[x_mul (n:=n+9) (bt.mono (by omega)) (bp.mono (by omega)) (qj _) (qj _)];simp (disch:=omega) only[Option.bind_some,List.getElem?_cons_zero,List.getElem?_cons_succ,q9,qa];rw[x_round (n:=n+9) (btp.mono (by omega)) (qj _)];simp (disch:=omega) only[Option.bind_some,List.getElem?_cons_zero,List.getElem?_cons_succ,q9,qa];have hc:=qfq btp;generalize q18 (t*x1)=c at hc ⊢;generalize hl:([entF (whoT++[97]) (qn c),entF (whoT++[98]) (qn (-c)),entF q3w [48]]:List FV)=l;have i0:ix 0 l.length=some 0:=by subst hl;rfl
  have i1:ix 1 l.length=some 1:=by subst hl;rfl
  have i2:ix 2 l.length=some 2:=by subst hl;rfl
  have l00:at' l 0 0=some (sF (whoT++[97])):=by subst hl;rfl
  have l01:at' l 0 1=some (sF (qn c)):=by subst hl;rfl
  have l10:at' l 1 0=some (sF (whoT++[98])):=by subst hl;rfl
  have l11:at' l 1 1=some (sF (qn (-c))):=by subst hl;rfl
  have l20:at' l 2 0=some (sF q3w):=by subst hl;rfl
  have l21:at' l 2 1=some (sF [48]):=by subst hl;rfl
  clear hl hposts;rw[i0,i1,i2];simp (disch:=omega) only[l00,l01,l10,l11,l20,l21,Option.bind_some,qg];rw[show((txt (whoT++[97])).toList==({ data:=#[119,104,111,45,97] }:ByteArray).toList)=true from by kernel_rfl,cond_true];rw[qcs (n:=n+9) (K:=80) (by omega) (Nat.lt_of_lt_of_le hc (Nat.pow_le_pow_right (by omega) (by omega)))];simp (disch:=omega) only[Option.bind_some,List.getElem?_cons_zero,qg];rw[eq_tx,decide_eq_true rfl,cond_true,show((txt (whoT++[98])).toList==({ data:=#[119,104,111,45,98] }:ByteArray).toList)=true from by kernel_rfl,cond_true,x_nneg (n:=n+9)];simp (disch:=omega) only[Option.bind_some,List.getElem?_cons_zero,List.getElem?_cons_succ,q9,qa];rw[qcs (n:=n+9) (K:=80) (by omega) (by rw[Int.natAbs_neg];exact Nat.lt_of_lt_of_le hc (Nat.pow_le_pow_right (by omega) (by omega)))];simp (disch:=omega) only[Option.bind_some,List.getElem?_cons_zero,qg];rw[eq_tx,decide_eq_true rfl,cond_true,show((txt q3w).toList==({ data:=#[114,111,117,110,100] }:ByteArray).toList)=true from by kernel_rfl,cond_true,show((txt [48]).toList==({ data:=#[48] }:ByteArray).toList)=true from by kernel_rfl]
 ·rw[decide_eq_false hx,cond_false];have et:(k:Rat)*q6c*3=(k:Rat):=by rw[Rat.mul_assoc,m3,Rat.mul_one]
  have bt:=bk.mul b3;generalize (k:Rat)*q6c=t at et bt ⊢;have t0:(0:Rat)<=t:=by clear bt;grind
  have t1:t<=(q:Rat):=by clear bt;grind
  obtain⟨sm,sq⟩:=st_sm (q:=q) (t:=t) (p:=x1) (bt.mono (by omega)) (bp.mono (by omega))
  have hposts:=qki (n:=n) sm sq (λs hs=>by
   rcases List.mem_cons.1 hs with rfl | hs
   ·show 1<=1000000;omega
   ·rw[List.mem_singleton.1 hs];show 1<=1000000;omega) (λb hb=>by cases hb) hn
  rw[qko q0 (by omega) (by omega) (by omega) t0 t1]at hposts;have btp:=bt.mul bp;rw[qcc (n:=n+9) (bt.mono (by omega)) (qj _)];simp (disch:=omega) only[Option.bind_some,List.getElem?_cons_zero,qg];rw[x_of (n:=n+9) (z:=x1) (by omega) (by omega)];simp (disch:=omega) only[Option.bind_some,List.getElem?_cons_zero,List.getElem?_cons_succ,q9,qa];rw[qcc (n:=n+9) (bp.mono (by omega)) (qj _)];simp (disch:=omega) only[Option.bind_some,List.getElem?_cons_zero,qg];refine Eq.trans (congrArg (λo=>Option.bind o _) hposts) ?_;simp (disch:=omega) only[Option.bind_some,List.getElem?_cons_zero,List.getElem?_cons_succ,q9,qb];rw[show((0:Int) !=0)=false from rfl,cond_false,show((([entF (whoT++[97]) (qn (q18 (t*x1))),entF (whoT++[98]) (qn (-q18 (t*x1))),entF q3w [48]]:List FV).length:Int) !=3)=false from rfl,cond_false];rw[x_mul (n:=n+9) (bt.mono (by omega)) (bp.mono (by omega)) (qj _) (qj _)];simp (disch:=omega) only[Option.bind_some,List.getElem?_cons_zero,List.getElem?_cons_succ,q9,qa];rw[x_round (n:=n+9) (btp.mono (by omega)) (qj _)];simp (disch:=omega) only[Option.bind_some,List.getElem?_cons_zero,List.getElem?_cons_succ,q9,qa];have hc:=qfq btp;generalize q18 (t*x1)=c at hc ⊢;generalize hl:([entF (whoT++[97]) (qn c),entF (whoT++[98]) (qn (-c)),entF q3w [48]]:List FV)=l;have i0:ix 0 l.length=some 0:=by subst hl;rfl
  have i1:ix 1 l.length=some 1:=by subst hl;rfl
  have i2:ix 2 l.length=some 2:=by subst hl;rfl
  have l00:at' l 0 0=some (sF (whoT++[97])):=by subst hl;rfl
  have l01:at' l 0 1=some (sF (qn c)):=by subst hl;rfl
  have l10:at' l 1 0=some (sF (whoT++[98])):=by subst hl;rfl
  have l11:at' l 1 1=some (sF (qn (-c))):=by subst hl;rfl
  have l20:at' l 2 0=some (sF q3w):=by subst hl;rfl
  have l21:at' l 2 1=some (sF [48]):=by subst hl;rfl
  clear hl hposts;rw[i0,i1,i2];simp (disch:=omega) only[l00,l01,l10,l11,l20,l21,Option.bind_some,qg];rw[show((txt (whoT++[97])).toList==({ data:=#[119,104,111,45,97] }:ByteArray).toList)=true from by kernel_rfl,cond_true];rw[qcs (n:=n+9) (K:=80) (by omega) (Nat.lt_of_lt_of_le hc (Nat.pow_le_pow_right (by omega) (by omega)))];simp (disch:=omega) only[Option.bind_some,List.getElem?_cons_zero,qg];rw[eq_tx,decide_eq_true rfl,cond_true,show((txt (whoT++[98])).toList==({ data:=#[119,104,111,45,98] }:ByteArray).toList)=true from by kernel_rfl,cond_true,x_nneg (n:=n+9)];simp (disch:=omega) only[Option.bind_some,List.getElem?_cons_zero,List.getElem?_cons_succ,q9,qa];rw[qcs (n:=n+9) (K:=80) (by omega) (by rw[Int.natAbs_neg];exact Nat.lt_of_lt_of_le hc (Nat.pow_le_pow_right (by omega) (by omega)))];simp (disch:=omega) only[Option.bind_some,List.getElem?_cons_zero,qg];rw[eq_tx,decide_eq_true rfl,cond_true,show((txt q3w).toList==({ data:=#[114,111,117,110,100] }:ByteArray).toList)=true from by kernel_rfl,cond_true,show((txt [48]).toList==({ data:=#[48] }:ByteArray).toList)=true from by kernel_rfl]
theorem qlo(L:List FV)(h:All2 Fits [.int .u8,.int .i16,.int .u8] L):∃n,evF EnD n 7 L=some [.bool true]:=by
 obtain⟨y1,r1,rfl,h1,h⟩:=h.cons_inv;obtain⟨y2,r2,rfl,h2,h⟩:=h.cons_inv;obtain⟨y3,r3,rfl,h3,h⟩:=h.cons_inv;obtain rfl:=h.nil_inv;obtain⟨x0,rfl,a0,b0⟩:=h1.q2c;obtain⟨x1,rfl,a1,b1⟩:=h2.q2c;obtain⟨x2,rfl,a2,b2⟩:=h3.q2c;have k1:IntKind.u8.min=0:=rfl;have k2:IntKind.u8.max=255:=rfl;have k3:IntKind.i16.min=-32768:=rfl;have k4:IntKind.i16.max=32767:=rfl;rw[k1]at a0 a2;rw[k2]at b0 b2;rw[k3]at a1;rw[k4]at b1;exact⟨1000+11,st_run a0 b0 a1 b1 a2 b2 (by omega)⟩
end Rf
end
