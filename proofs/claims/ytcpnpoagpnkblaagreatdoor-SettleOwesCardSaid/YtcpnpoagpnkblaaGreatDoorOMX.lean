/- Texts of this work put together, their blanks and comments taken out: Pca, Pcb, Pcc, Pcd. -/
import Derived.Test.YtcpnpoagpnkblaaGreatDoorOMW
set_option linter.unusedVariables false
set_option linter.unusedSimpArgs false
set_option maxHeartbeats 4000000
namespace Rf
open Go
section
structure Sm(g:q10)(ss:List StpV)(bs:List BlkV)(r:ResV):Prop where
 ssl:ss.length<=256
 bsl:bs.length<=256
 lsl:g.lines.length<=256
 acl:r.accept.length<=256
 xl:r.x.length<=256
 fl:r.f.length<=256
 pl:r.p.length<=256
 x:∀t,t∈r.x->t.length<=256
 f:∀l,l∈r.f->Few l
 p:∀l,l∈r.p->Few l
 w:r.qn.length<=256
 u:r.upper.length<=256
 q:∀b,b∈bs->b.qty.length<=256
abbrev Tg(g:q10)(ss:List StpV)(bs:List BlkV)(r:ResV)(x f p:List FV)(a1 a2:FV)(a3 a4:FV)(b1 b2 b3 b4:FV)(rest:List FV):List FV :=
 iF g.qa::iF g.qg::.list 3 (g.lines.map qz.fv)::iF g.low::iF g.high::.list 7 (ss.map StpV.fv)::.list 8 (bs.map BlkV.fv)::.list 1 (r.accept.map .bool)::.list 1 (r.x.map sF)::.list 1 (r.f.map rowF)::.list 1 (r.p.map rowF)::sF r.qn::sF r.upper::.bool r.q86::iF r.nodes ::
  .list 4 x::.list 1 f::.list 1 p::a1::a2::a3::a4::b1::b2::b3::b4::rest
abbrev T0(g:q10)(ss:List StpV)(bs:List BlkV)(r:ResV)(rest:List FV):List FV:=Tg g ss bs r [] [] [] (.list 1 []) (.bool false) (.list 1 []) (.bool false) (.list 1 []) (.bool false) (.list 1 []) (.bool false) rest
noncomputable def numR(l:List Txt):FV:=.list 4 (l.map λt=>ratF (rd t))
noncomputable abbrev T1 (g:q10) (ss:List StpV) (bs:List BlkV) (r:ResV) (rest:List FV):List FV :=
 Tg g ss bs r (r.x.map λt=>ratF (rd t)) (r.f.map numR) (r.p.map numR) (zl (rd r.qn).num) (zb (rd r.qn).num) (nL (rd r.qn).den) (.bool false) (zl (rd r.upper).num) (zb (rd r.upper).num) (nL (rd r.upper).den) (.bool false) rest
theorem nne(a b:Nat):((a:Int) !=(b:Int))=!decide (a=b):=by
 by_cases h:a=b
 ·rw[Af h,h];simp
 ·rw[Ad h];simp;omega
theorem ine(a b:Int):(a !=b)=!decide (a=b):=by simp[bne,BEq.beq]
theorem sum_q{bs:List BlkV}:∀ {bs:List BlkV},(∀b,b∈bs->b.qty.length<=256)->(bs.map λb=>b.qty.length).sum<=256*bs.length
 |[],_=>by simp
 |b::bs,h=>by
  have h1:=sum_q (bs:=bs) (λc hc=>h c (AA _ hc));have h2:=h b AF;simp only[AQ,List.sum_cons,Aq];omega
section
variable {g:q10} {ss:List StpV} {bs:List BlkV} {r:ResV}
theorem Sm.sum(h:Sm g ss bs r):(bs.map λb=>b.qty.length).sum<=65536:=by
 have:=sum_q (bs:=bs) h.q;have:=h.bsl;omega
theorem orders_sm{n:Nat}(h:Sm g ss bs r)(hn:70000<=n):evF EnA n 18 (gL g++[.list 7 (ss.map StpV.fv),.list 8 (bs.map BlkV.fv)])=some [.bool (q28 g ss bs)]:=by
 have:=h.sum;have:=h.ssl;have:=h.bsl;have:=h.lsl;exact qns (by omega) (by omega) (by omega) (λb hb=>by have:=h.q b hb;omega) (by omega)
theorem qnt{n:Nat}(h:Sm g ss bs r)(hn:70000<=n):evF EnA n 19 (gL g++[.list 7 (ss.map StpV.fv),.list 8 (bs.map BlkV.fv)])=some [.bool (q28 g ss bs)]:=by
 have:=h.sum;have:=h.ssl;have:=h.bsl;have:=h.lsl;exact qnu (by omega) (by omega) (by omega) (λb hb=>by have:=h.q b hb;omega) (by omega)
theorem q3w(h:q36 g=true):1<=g.qa/\g.qa<=3/\1<=g.qg/\g.qg<=3/\g.lines.length<=3/\(∀l,l∈g.lines->q3o g l=true)/\-100000<=g.low/\g.low<=g.high/\g.high<=100000:=by
 unfold q36 at h;simp only[Ai,q4x,As,Au]at h;obtain⟨⟨⟨⟨⟨h1,h2⟩,h3⟩,h4⟩,h5⟩,h6⟩:=h;exact⟨h1.1,h1.2,h2.1,h2.2,h3,h4,h5.1,h5.2,h6⟩
theorem q3x(h:q28 g ss bs=true):q36 g=true:=by
 unfold q28 at h;simp only[Ai]at h;exact h.1.1.1.1.1.1.1
theorem qa6{l:qz}(h:q3o g l=true):0<=l.src/\l.src<g.qa/\0<=l.dst/\l.dst<g.qa/\l.src≠l.dst/\0<=l.cap/\l.cap<=1000:=by
 unfold q3o at h;simp only[Ai,q4x,CG]at h;obtain⟨⟨⟨h1,h2⟩,h3⟩,h4⟩:=h;exact⟨h1.1,by omega,h2.1,by omega,h3,h4.1,h4.2⟩
def q87(g:q10)(r:ResV)(h:Nat):Bool:=decide ((r.f.getD h []).length=g.lines.length)&&decide (((r.p.getD h []).length:Int)=g.qa)
theorem getD_at{α:Type}(L:List α)(d:α){i:Nat}(h:i<L.length):L.getD i d=L[i]:=by
 rw[AG,Ag h];rfl
theorem qnv{n:Nat}(h:Sm g ss bs r)(hn:80000<=n):evF EnA n 44 (T0 g ss bs r [])=some (T0 g ss bs r [.bool (q5a g ss bs r)]):=by
 obtain⟨n,rfl⟩:=qSx n;have ho:=orders_sm h (n:=n) (by omega);unfold gL at ho;simp only[Al,At]at ho;rw[qnw,ho,Aa,Aa,Aa,Aa,Aa,Aa];simp only[rr];rw[show q5a g ss bs r=(q28 g ss bs&&decide (r.accept.length=bs.length)&&decide (r.x.length=ss.length)&&decide ((r.f.length:Int)=g.qg)&&decide ((r.p.length:Int)=g.qg)&&decide (0<=r.nodes)&&(List.range' 0 g.qg.toNat).all (q87 g r)) from rfl];cases hov:q28 g ss bs with
 |false=>simp
 |true =>
  obtain⟨z1,z2,z3,z4,_⟩:=q3w (q3x hov);rw[nne,nne,ine,ine,show decide (0<=r.nodes)=!decide (r.nodes<0) from dle _ _];by_cases e1:r.accept.length=bs.length
  ·by_cases e2:r.x.length=ss.length
   ·by_cases e3:(r.f.length:Int)=g.qg
    ·by_cases e4:(r.p.length:Int)=g.qg
     ·have hl:=q21 (F:=λm i=>q65.l4 n [] m (T0 g ss bs r [iF g.qg,iF (i:Int)])) (len:=g.qg.toNat) (P:=q87 g r) (fin:=some (T0 g ss bs r [.bool true])) (stop:=some (T0 g ss bs r [.bool false])) (λm i hi=>by
       show q65.l4 n [] (m+1) _=_;have i1:i<r.f.length:=by omega
       have i2:i<r.p.length:=by omega
       rw[q65.q14,Af,Ac,Aa,Aa,Aa,q9 i1,q9 i2];simp only[q2f i1,q2f i2,rr];rw[Aa,Aa,nne,ine,qc];unfold q87;rw[getD_at _ _ i1,getD_at _ _ i2];cases decide (r.f[i].length=g.lines.length) <;> cases decide (((r.p[i].length:Nat):Int)=g.qa) <;> rfl) (λm=>by
       show q65.l4 n [] (m+1) _=_
       rw[q65.q14,Ad,Ab]) g.qg.toNat 0 n (by omega) (by omega)
      have hl:q65.l4 n [] n (T0 g ss bs r [iF g.qg,iF 0])=_:=hl;rw[hl,Af e1,Af e2,Af e3,Af e4];cases decide (r.nodes<0) <;> cases(List.range' 0 g.qg.toNat).all (q87 g r) <;> rfl
     ·rw[Ad e4];simp
    ·rw[Ad e3];simp
   ·rw[Ad e2];simp
  ·rw[Ad e1];simp
structure q37(g:q10)(ss:List StpV)(bs:List BlkV)(r:ResV):Prop where
 ord:q28 g ss bs=true
 ac:r.accept.length=bs.length
 x:r.x.length=ss.length
 f:(r.f.length:Int)=g.qg
 p:(r.p.length:Int)=g.qg
 nodes:0<=r.nodes
 lens:∀h,h<g.qg.toNat->(r.f.getD h []).length=g.lines.length/\((r.p.getD h []).length:Int)=g.qa
theorem qey:q5a g ss bs r=true↔q37 g ss bs r:=by
 unfold q5a;simp only[Ai,As,qck];constructor
 ·rintro⟨⟨⟨⟨⟨⟨h1,h2⟩,h3⟩,h4⟩,h5⟩,h6⟩,h7⟩;exact⟨h1,h2,h3,h4,h5,h6,h7⟩
 ·intro h;exact⟨⟨⟨⟨⟨⟨h.ord,h.ac⟩,h.x⟩,h.f⟩,h.p⟩,h.nodes⟩,h.lens⟩
noncomputable def nmL(l:List Txt):List FV:=if l.all isNum=true then l.map λt=>ratF (rd t)else []
theorem qcl{n:Nat}{l:List Txt}{ok:Bool}(hl:Few l)(hn:300<=n):evF EnA n 104 [.list 1 (l.map sF),.bool ok]=some [.bool (ok&&l.all isNum),.list 4 (nmL l)]:=by
 obtain⟨n,rfl⟩:=qSx n;have:=hl.1;rw[qnx,nums_run hl.2 (by omega) (by omega)];unfold nmL;cases hall:l.all isNum with
 |true =>
  rw[if_pos rfl,if_pos rfl];simp only[rr];cases ok <;> rfl
 |false =>
  rw[if_neg (by simp),if_neg (by simp)];simp only[rr];cases ok <;> rfl
noncomputable def okH(r:ResV)(h:Nat):Bool:=(List.range' 0 h).all λi=>(r.f.getD i []).all isNum&&(r.p.getD i []).all isNum
theorem okH_succ{h:Nat}:okH r (h+1)=(okH r h&&((r.f.getD h []).all isNum&&(r.p.getD h []).all isNum)):=by
 unfold okH;rw[List.range'_concat,DB];simp
theorem qcm{α β:Type}(f:α->β)(L:List α){i:Nat}(h:i<L.length):(L.take i).map f++[f L[i]]=(L.take (i+1)).map f:=by
 rw[DC,Ag h,Bc];rfl
theorem okH_all{H:Nat}(hf:r.f.length=H)(hp:r.p.length=H):okH r H=(r.f.all (·.all isNum)&&r.p.all (·.all isNum)):=by
 unfold okH;rw[qcn,<- q4y r.f (·.all isNum) (P:=λi=>(r.f.getD i []).all isNum) (λi hi=>by rw[getD_at _ _ hi]),<- q4y r.p (·.all isNum) (P:=λi=>(r.p.getD i []).all isNum) (λi hi=>by rw[getD_at _ _ hi]),hf,hp]
theorem qih{n:Nat}(h:Sm g ss bs r)(hs:q37 g ss bs r)(hn:80000<=n) :
  (q1u r=true->evF EnA n 45 (T0 g ss bs r [])=some (T1 g ss bs r [.bool true])) /\
  (q1u r=false->evF EnA n 45 (T0 g ss bs r [])=some (Tg g ss bs r (nmL r.x) (r.f.map λl=>.list 4 (nmL l)) (r.p.map λl=>.list 4 (nmL l)) (.list 1 []) (.bool false) (.list 1 []) (.bool false) (.list 1 []) (.bool false) (.list 1 []) (.bool false) [.bool false])):=by
 obtain⟨n,rfl⟩:=qSx n;obtain⟨z1,z2,z3,z4,_⟩:=q3w (q3x hs.ord);have lf:=hs.f;have lp:=hs.p;have hxs:=h.xl;have few:Few r.x:=⟨h.xl,h.x⟩
 have fewo:Few [r.qn,r.upper]:=⟨by simp,λt ht=>by
  rcases Ar.1 ht with rfl | ht
  ·exact h.w
  ·rw[BN.1 ht];exact h.u⟩
 let ow:=r.x.all isNum&&okH r g.qg.toNat&&[r.qn,r.upper].all isNum
 have key:∀(d i m:Nat),i+d=g.qg.toNat->d<m->q8x.l5 n [] m (Tg g ss bs r (nmL r.x) ((r.f.take i).map λl=>.list 4 (nmL l)) ((r.p.take i).map λl=>.list 4 (nmL l)) (.list 1 []) (.bool false) (.list 1 []) (.bool false) (.list 1 []) (.bool false) (.list 1 []) (.bool false) [.bool (r.x.all isNum&&okH r i),iF g.qg,iF (i:Int)]) =
   bif ow then some (Tg g ss bs r (nmL r.x) (r.f.map λl=>.list 4 (nmL l)) (r.p.map λl=>.list 4 (nmL l)) (zl (rd r.qn).num) (zb (rd r.qn).num) (nL (rd r.qn).den) (.bool false) (zl (rd r.upper).num) (zb (rd r.upper).num) (nL (rd r.upper).den) (.bool false) [.bool true])
   else some (Tg g ss bs r (nmL r.x) (r.f.map λl=>.list 4 (nmL l)) (r.p.map λl=>.list 4 (nmL l)) (.list 1 []) (.bool false) (.list 1 []) (.bool false) (.list 1 []) (.bool false) (.list 1 []) (.bool false) [.bool false]):=by
  intro d
  induction d with
  |zero =>
   intro i m hi hm;obtain⟨m,rfl⟩:=qSx m;obtain rfl:i=g.qg.toNat:=by omega
   have ho:=qcl (n:=n) (l:=[r.qn,r.upper]) (ok:=r.x.all isNum&&okH r g.qg.toNat) fewo (by omega);rw[q8x.q1o,Ad,Ab,show qd 2 (.str { data:=#[] }) [(0,sF r.qn),(1,sF r.upper)]=[r.qn,r.upper].map sF from rfl,ho];simp only[rr];rw[show(r.x.all isNum&&okH r g.qg.toNat&&[r.qn,r.upper].all isNum)=ow from rfl,show g.qg.toNat=r.f.length by omega,Bj,show r.f.length=r.p.length by omega,Bj];cases how:ow with
   |false=>rfl
   |true =>
    have hal:[r.qn,r.upper].all isNum=true:=by
     have:(r.x.all isNum&&okH r g.qg.toNat&&[r.qn,r.upper].all isNum)=true:=how;rw[Ai]at this;exact this.2
    have e:nmL [r.qn,r.upper]=[ratF (rd r.qn),ratF (rd r.upper)]:=by unfold nmL;rw[if_pos hal];rfl
    rw[Ac,e];rfl
  |succ d ih =>
   intro i m hi hm;obtain⟨m,rfl⟩:=qSx m;have i1:i<r.f.length:=by omega
   have i2:i<r.p.length:=by omega
   have t1:=qcl (n:=n) (l:=r.f[i]) (ok:=r.x.all isNum&&okH r i) (h.f _ (Ah i1)) (by omega);have t2:=qcl (n:=n) (l:=r.p[i]) (ok:=r.x.all isNum&&okH r i&&r.f[i].all isNum) (h.p _ (Ah i2)) (by omega);have x1:ix (i:Int) (r.f.map rowF).length=some i:=q9 (by rw[Aa];exact i1);have x2:ix (i:Int) (r.p.map rowF).length=some i:=q9 (by rw[Aa];exact i2);rw[q8x.q1o,Af,Ac,x1];simp only[q2f i1,rr];rw[t1];simp (disch:=omega) only[x2,q2f i2,rr];rw[t2];simp only[rr]
   rw[show Nat.ble (((r.f.take i).map λl=>FV.list 4 (nmL l)).length+(qd 1 (.list 4 []) [(0,.list 4 (nmL r.f[i]))]).length) 5864062014805=true by
     apply Di;rw[Aa,BC];show _+1<=_;omega,Ac,show Nat.ble (((r.p.take i).map λl=>FV.list 4 (nmL l)).length+(qd 1 (.list 4 []) [(0,.list 4 (nmL r.p[i]))]).length) 5864062014805=true by
     apply Di;rw[Aa,BC];show _+1<=_
     omega,Ac,qc]
   have e1:((r.f.take i).map λl=>FV.list 4 (nmL l))++qd 1 (.list 4 []) [(0,.list 4 (nmL r.f[i]))]=(r.f.take (i+1)).map λl=>FV.list 4 (nmL l):=qcm (λl=>FV.list 4 (nmL l)) r.f i1;have e2:((r.p.take i).map λl=>FV.list 4 (nmL l))++qd 1 (.list 4 []) [(0,.list 4 (nmL r.p[i]))]=(r.p.take (i+1)).map λl=>FV.list 4 (nmL l):=qcm (λl=>FV.list 4 (nmL l)) r.p i2;have e3:(r.x.all isNum&&okH r i&&r.f[i].all isNum&&r.p[i].all isNum)=(r.x.all isNum&&okH r (i+1)):=by
    rw[okH_succ,getD_at _ _ i1,getD_at _ _ i2];simp only[Bool.and_assoc]
   rw[e1,e2,e3];exact ih (i+1) m (by omega) (by omega)
 have k0:=key g.qg.toNat 0 n (by omega) (by omega);have t0:=qcl (n:=n) (l:=r.x) (ok:=true) few (by omega)
 have hrun:=BQ (a:=evF EnA (n+1) 45 (T0 g ss bs r [])) (by
  rw[qny,t0];simp only[rr];rw[AB,show okH r 0=true from rfl,CH]
  rfl) k0
 have how:q1u r=ow:=by
  show _=(r.x.all isNum&&okH r g.qg.toNat&&[r.qn,r.upper].all isNum);rw[okH_all (by omega) (by omega)];unfold q1u;simp only[Bk,EM,CH];cases r.x.all isNum <;> cases isNum r.qn <;> cases isNum r.upper <;> cases r.f.all (·.all isNum) <;> cases r.p.all (·.all isNum) <;> rfl
 rw[hrun,<- how];constructor
 ·intro hr;rw[hr,Ac];unfold q1u at hr;simp only[Ai]at hr;obtain⟨⟨⟨⟨h1,_⟩,_⟩,h4⟩,h5⟩:=hr;have ex:nmL r.x=r.x.map λt=>ratF (rd t):=by unfold nmL;rw[if_pos h1]
  have ef:(r.f.map λl=>FV.list 4 (nmL l))=r.f.map numR:=CQ λl hl=>by
   unfold nmL numR;rw[if_pos (Au.1 h4 l hl)]
  have ep:(r.p.map λl=>FV.list 4 (nmL l))=r.p.map numR:=CQ λl hl=>by
   unfold nmL numR;rw[if_pos (Au.1 h5 l hl)]
  rw[ex,ef,ep]
 ·intro hr;rw[hr,Ab]
end
end
section
theorem Sz.int{z:Int}(h1:-1000000000000<=z:=by omega)(h2:z<=1000000000000:=by omega):Sz (z:Rat):=by
 refine Sz.of (k:=40) (Bd.int ?_ (by omega)) (by omega);have:(2:Nat)^40=1099511627776:=rfl;omega
theorem q1s{t:Txt}(h:t.length<=256):Sz (rd t):=(q3c h).mono (by omega)
theorem qlz{n:Nat}{q:Rat}{lo hi:Int}(hq:Sz q)(h1:-1000000<=lo/\lo<=1000000)(h2:-1000000<=hi/\hi<=1000000):evF EnA (n+2) 106 [zl (q).num,zb (q).num,nL (q).den,.bool false,iF lo,iF hi]=some [.bool (inR q lo hi)]:=by
 rw[qr7,a_of];simp only[rr];rw[q6h hq (Sz.int) (qb q) (qb _)];simp only[rr];rw[cmpQ_ge,a_of];simp only[rr];rw[q6h hq (Sz.int) (qb q) (qb _)];simp only[rr];rw[cmpQ_le];unfold inR;cases decide (((lo:Int):Rat)<=q) <;> rfl
theorem qm0{α:Type}(l:List α)(p:α->Bool)(d:α):l.all p=(List.range' 0 l.length).all λi=>p (l.getD i d) :=
 (q4y l p (λi hi=>by rw[getD_at _ _ hi])).symm
section
variable {g:q10} {ss:List StpV} {bs:List BlkV} {r:ResV}
noncomputable def q51(g:q10)(l:List Txt):Bool:=l.all isNum&&decide (l.length=g.lines.length)&&(List.range' 0 l.length).all λi=>inR (rd (l.getD i [])) (-(g.lines.getD i default).cap) (g.lines.getD i default).cap
theorem q7a{l:List Txt}{i:Nat}(h:i<l.length)(c:Nat):at' (l.map λt=>ratF (rd t)) i c=[zl (rd l[i]).num,zb (rd l[i]).num,nL (rd l[i]).den,.bool false][c]?:=by rw[q2a,Ag h];rfl
theorem qtv{n:Nat}{l:List Txt}(hl:Few l)(hg:∀x,x∈g.lines->0<=x.cap/\x.cap<=1000)(hn:1000<=n):evF EnA n 108 (gL g++[.list 1 (l.map sF)])=some [.bool (q51 g l)]:=by
 obtain⟨n,rfl⟩:∃k,n=k+2:=⟨n-2,by omega⟩;have:=hl.1;unfold gL;simp only[Al,At];rw[qr9,gnums_run hl.2 (by omega) (by omega),Aa,Aa];unfold q51;cases hall:l.all isNum with
 |false=>rfl
 |true =>
  rw[if_pos rfl];simp only[rr];rw[Am,Ab,nne];by_cases hlen:l.length=g.lines.length
  ·rw[Af hlen,Am,Ab,Aa]
   have h:=q21 (F:=λm i=>q6v.l5 (n+1) [] m [iF g.qa,iF g.qg,.list 3 (g.lines.map qz.fv),iF g.low,iF g.high,.list 4 (l.map λt=>ratF (rd t)),iF (l.length:Int),iF (i:Int)]) (len:=l.length) (P:=λi=>inR (rd (l.getD i [])) (-(g.lines.getD i default).cap) (g.lines.getD i default).cap) (fin:=some [.bool true]) (stop:=some [.bool false]) (λm i hi=>by
    show q6v.l5 (n+1) [] (m+1) _=_;have hi2:i<g.lines.length:=by omega
    obtain⟨c1,c2⟩:=hg _ (Ah hi2);have hq:=q1s (hl.2 _ (Ah hi));have hc:=Sz.int (z:=g.lines[i].cap);have hc2:=Sz.int (z:=-g.lines[i].cap);have e0:-((g.lines[i].cap:Int):Rat)=((-g.lines[i].cap:Int):Rat):=(CS _).symm;rw[q6v.q1o,Af,Ac,Aa,Aa,q9 hi,q9 hi2];simp only[q7a hi,q8a hi2,rr];rw[a_of];simp only[rr];rw[q6h hq hc (qb _) (qb _)];simp only[rr];rw[q5h,a_neg hc (qb _)];simp only[rr];rw[e0,q6h hq hc2 (qb _) (qb _)];simp only[rr];rw[q3y,qc,getD_at _ _ hi,getD_at _ _ hi2];unfold inR;by_cases hA:((g.lines[i].cap:Int):Rat)<rd l[i]
    ·rw[Af hA,Ad (p:=rd l[i]<=_) (Cb.2 hA),CF];rfl
    ·rw[Ad hA,Af (p:=rd l[i]<=_) (Ci.1 hA),CH];by_cases hB:rd l[i]<((-g.lines[i].cap:Int):Rat)
     ·rw[Af hB,Ad (Cb.2 hB)];rfl
     ·rw[Ad hB,Af (Ci.1 hB)];rfl) (λm=>by
    show q6v.l5 (n+1) [] (m+1) _=_
    rw[q6v.q1o,Ad,Ab]) l.length 0 (n+1) (by omega) (by omega)
   have h:q6v.l5 (n+1) [] (n+1) [iF g.qa,iF g.qg,.list 3 (g.lines.map qz.fv),iF g.low,iF g.high,.list 4 (l.map λt=>ratF (rd t)),iF (l.length:Int),iF 0]=_:=h;rw[h];simp only[AB];cases(List.range' 0 l.length).all λi=>inR (rd (l.getD i [])) (-(g.lines.getD i default).cap) (g.lines.getD i default).cap <;> rfl
  ·rw[Ad hlen];rfl
noncomputable def frT(g:q10)(ss:List StpV)(bs:List BlkV)(r:ResV):FV:=.agg (T1 g ss bs r [])
theorem qhj(s:Nat)(x:FV):asRef s (some (.ref s x))=some [x]:=by simp[asRef]
theorem podd_run{n:Nat}{q:Rat}(hq:Sz q)(hg:-100000<=g.low/\g.low<=g.high/\g.high<=100000):evF EnA (n+3) 107 [zl (q).num,zb (q).num,nL (q).den,.bool false,.ref 26 (frT g ss bs r)]=some [.ref 26 (frT g ss bs r),.bool (!inR q g.low g.high)]:=by
 rw[qr8,q7k,q7k];unfold frT;simp only[FV.cells,AO,Aj,qi,Ae];rw[qlz hq (by omega) (by omega)];rfl
theorem pidx_run{n:Nat}{l:List Txt}(hl:Few l)(hg:-100000<=g.low/\g.low<=g.high/\g.high<=100000)(hn:300<=n):evF EnA n 100109 [.list 4 (l.map λt=>ratF (rd t)),.ref 26 (frT g ss bs r)]=some [.ref 26 (frT g ss bs r),.bool (!l.all λt=>inR (rd t) g.low g.high)]:=by
 obtain⟨n,rfl⟩:∃k,n=k+5:=⟨n-5,by omega⟩;have:=hl.1
 have h:=qc7 l (λt=>!inR (rd t) g.low g.high) (pre:=[.ref 26 (frT g ss bs r)]) (F:=λm i=>q6w.l2 (n+3) [] m [.ref 26 (frT g ss bs r),.list 4 (l.map λt=>ratF (rd t)),iF (l.length:Int),iF (i:Int)]) (λm i hi=>by
  show q6w.l2 (n+3) [] (m+1) _=_;rw[q6w.qt,Af,Ac,Aa,q9 hi];simp only[q7a hi,rr];rw[podd_run (q1s (hl.2 _ (Ah hi))) hg,qc];simp only[Ae,Aj,AO,qhj,q41];rfl) (λm=>by
  show q6w.l2 (n+3) [] (m+1) _=_;rw[q6w.qt,Ad,Ab]
  rfl) l.length 0 (n+3) (by omega) (by omega) (λj _ hj=>by omega)
 rw[qre,qrf,Aa];have h:q6w.l2 (n+3) [] (n+3) [.ref 26 (frT g ss bs r),.list 4 (l.map λt=>ratF (rd t)),iF (l.length:Int),iF 0]=_:=h;rw[h];simp only[Al,At,Ae,Aj,AO,qhj,qi];rw[qee,Ey];simp only[DR];rfl
theorem qps{n:Nat}(h:Sm g ss bs r)(hs:q37 g ss bs r)(hr:q1u r=true)(hn:2000<=n):evF EnA n 100046 [.ref 26 (frT g ss bs r)]=some [.bool (q4b g ss r)]:=by
 obtain⟨n,rfl⟩:∃k,n=k+4:=⟨n-4,by omega⟩;obtain⟨z1,z2,z3,z4,z5,z6,z7,z8,z9⟩:=q3w (q3x hs.ord);have lf:=hs.f;have lp:=hs.p;have lx:=hs.x;have:=h.ssl;have hst:∀s,s∈ss->q3e g s=true:=by
  have:=hs.ord;unfold q28 at this;simp only[Ai,Au]at this;exact this.1.1.1.1.2
 have e9:=q21 (F:=λm i=>q2r.l9 (n+3) [] m [.ref 26 (frT g ss bs r),iF g.qg,iF (i:Int)]) (len:=g.qg.toNat) (P:=λi=>q51 g (r.f.getD i [])&&(r.p.getD i []).all λt=>inR (rd t) g.low g.high) (fin:=some [.bool true]) (stop:=some [.bool false]) (λm i hi=>by
  show q2r.l9 (n+3) [] (m+1) _=_;have i1:i<r.f.length:=by omega
  have i2:i<r.p.length:=by omega
  have hw:=qtv (g:=g) (n:=n+3) (h.f _ (Ah i1)) (λx hx=>by have:=qa6 (z6 x hx);omega) (by omega);unfold gL at hw;simp only[Al,At]at hw;rw[q2r.q3r,Af,Ac];simp only[q7k];rw[show(frT g ss bs r).cells=T1 g ss bs r [] from rfl];simp only[AO,Aj,qi,qy,Ae,Aa];rw[q9 i1,Ae,q2f i1,qy,Ae,hw];simp only[rr];rw[q9 i2,Ae,show at' (r.p.map numR) i 0=some (.list 4 (r.p[i].map λt=>ratF (rd t))) by rw[q2a,Ag i2];rfl,qy,Ae,pidx_run (h.p _ (Ah i2)) ⟨z7,z8,z9⟩ (by omega),qc,getD_at _ _ i1,getD_at _ _ i2];simp only[Ae,Aj,AO,qhj,q41];rw[show hd1 [frT g ss bs r]=frT g ss bs r from rfl];cases q51 g r.f[i] <;> cases(r.p[i].all λt=>inR (rd t) g.low g.high) <;> simp only[Am,AV,Ac,Ab,CH,CF]) (λm=>by
  show q2r.l9 (n+3) [] (m+1) _=_
  rw[q2r.q3r,Ad,Ab]) g.qg.toNat 0 (n+3) (by omega) (by omega)
 have e9:q2r.l9 (n+3) [] (n+3) [.ref 26 (frT g ss bs r),iF g.qg,iF 0]=_:=e9
 have e2:=q21 (F:=λm i=>q2r.l2 (n+3) [] m [.ref 26 (frT g ss bs r),.list 7 (ss.map StpV.fv),iF (ss.length:Int),iF (i:Int)]) (len:=ss.length) (P:=λi=>inR (r.xAt i) 0 (ss.getD i default).qty) (fin:=q2r.l9 (n+3) [] (n+3) [.ref 26 (frT g ss bs r),iF g.qg,iF 0]) (stop:=some [.bool false]) (λm i hi=>by
  show q2r.l2 (n+3) [] (m+1) _=_;have i1:i<r.x.length:=by omega
  have hok:=hst _ (Ah hi);unfold q3e at hok;simp only[Ai,q4x]at hok;rw[q2r.qt,Af,Ac,Aa,q9 hi];simp only[q2z hi,rr];rw[q7k,show(frT g ss bs r).cells=T1 g ss bs r [] from rfl];simp only[AO,Aj,qy,Ae,Aa];rw[q9 i1];simp only[q7a i1,rr];rw[qlz (q1s (h.x _ (Ah i1))) (by omega) (by omega),qc,getD_at _ _ hi];simp only[rr];unfold ResV.xAt;rw[getD_at _ _ i1];cases inR (rd r.x[i]) 0 ss[i].qty <;> rfl) (λm=>by
  show q2r.l2 (n+3) [] (m+1) _=_;rw[q2r.qt,Ad,Ab,q7k,show(frT g ss bs r).cells=T1 g ss bs r [] from rfl]
  simp only[AO,Aj,qi,Ae]) ss.length 0 (n+3) (by omega) (by omega)
 have e2:q2r.l2 (n+3) [] (n+3) [.ref 26 (frT g ss bs r),.list 7 (ss.map StpV.fv),iF (ss.length:Int),iF 0]=_:=e2;rw[qrd,q7k,show(frT g ss bs r).cells=T1 g ss bs r [] from rfl];simp only[AO,Aj,qy,Ae,Aa];rw[e2,e9];unfold q4b;have hfa:∀i,i<g.qg.toNat->(q51 g (r.f.getD i [])&&(r.p.getD i []).all λt=>inR (rd t) g.low g.high)=(((List.range' 0 g.lines.length).all λk=>inR (r.fAt i k) (-(g.lines.getD k default).cap) (g.lines.getD k default).cap)&&(List.range' 0 g.qa.toNat).all λz=>inR (r.pAt i z) g.low g.high):=by
  intro i hi;obtain⟨l1,l2⟩:=hs.lens i hi;have i1:i<r.f.length:=by omega
  have hal:(r.f.getD i []).all isNum=true:=by
   unfold q1u at hr;simp only[Ai]at hr;rw[getD_at _ _ i1];exact Au.1 hr.1.2 _ (Ah i1)
  unfold q51;rw[hal,Af l1,AB,AB,l1,qm0 (r.p.getD i []) _ [],show(r.p.getD i []).length=g.qa.toNat by omega];rfl
 rw[qcq hfa];cases(List.range' 0 ss.length).all λi=>inR (r.xAt i) 0 (ss.getD i default).qty with
 |false=>rfl
 |true =>
  rw[Ac,AB];cases(List.range' 0 g.qg.toNat).all λi=>(((List.range' 0 g.lines.length).all λk=>inR (r.fAt i k) (-(g.lines.getD k default).cap) (g.lines.getD k default).cap)&&(List.range' 0 g.qa.toNat).all λz=>inR (r.pAt i z) g.low g.high) <;> rfl
end
end
section
theorem qu0{β:Type}(Z k:Nat)(f:Nat->β)(v:β):((List.range Z).map f).set k v=(List.range Z).map λz=>if z=k then v else f z:=by
 apply List.ext_getElem?;intro i;rw[Fb,Bq,Bq,Aa,Ca];by_cases hi:i<Z
 ·rw[EP hi];by_cases hk:k=i
  ·subst hk;simp[hi]
  ·simp[hk,BO hk]
 ·rw[DE (by rw[Ca];omega)];by_cases hk:k=i
  ·subst hk;simp[hi]
  ·simp[hk]
section
variable {g:q10} {ss:List StpV} {bs:List BlkV} {r:ResV} {ac:List Bool}
def Smq(bs:List BlkV):Prop:=∀b,b∈bs->∀q,q∈b.qty->0<=q/\q<=1000
theorem qb5(hq:Smq bs)(h z:Nat):∀i:Nat,-(1000*(i:Int))<=netAt bs ac h z i/\netAt bs ac h z i<=1000*(i:Int)
 |0=>by simp[netAt]
 |i+1=>by
  obtain⟨h1,h2⟩:=qb5 hq h z i;unfold netAt;split
  ·rename_i b hb ha;split
   ·rename_i hc;have:b.qty.getD h 0=b.qty[h]'hc.2:=getD_at _ _ hc.2;obtain⟨q1,q2⟩:=hq b (AS hb) _ (Ah hc.2);rw[this];have e:∀q:Int,0<=q->q<=1000->-(1000*((i+1:Nat):Int))<=netAt bs ac h z i+(if b.buy=true then -q else q)/\netAt bs ac h z i+(if b.buy=true then -q else q)<=1000*((i+1:Nat):Int):=λq a1 a2=>by split <;> omega
    exact e _ q1 q2
   ·omega
  ·omega
theorem net_step(h:Nat){i Z:Nat}(hi:i<bs.length)(ha:i<ac.length)(hac:ac[i]=true){k:Nat}(hk:bs[i].zone=(k:Int))(hq:h<bs[i].qty.length):((List.range Z).map λz=>iF (netAt bs ac h z i)).set k (iF (netAt bs ac h k i+(if bs[i].buy then -bs[i].qty[h]else bs[i].qty[h])))=(List.range Z).map λz=>iF (netAt bs ac h z (i+1)):=by
 rw[qu0];refine CQ λz _=>?_
 rw[show netAt bs ac h z (i+1)=netAt bs ac h z i+match bs[i]?,ac[i]? with
  |some b,some true=>if b.zone=(z:Int)/\h<b.qty.length then(if b.buy then -(b.qty.getD h 0)else b.qty.getD h 0)else 0
  |_,_=>0 from rfl,Ag hi,Ag ha,hac]
 simp only;rw[getD_at _ _ hq];by_cases hz:z=k
 ·subst hz;have hb:bs[i].zone=(z:Int)/\h<bs[i].qty.length:=⟨hk,hq⟩;rw[if_pos rfl,if_pos hb]
 ·have hb:¬ (bs[i].zone=(z:Int)/\h<bs[i].qty.length):=λq=>hz (by omega);rw[if_neg hz,if_neg hb];simp
theorem qis(h:Nat){i Z:Nat}(hz:∀z,z<Z->¬ (∃b,bs[i]?=some b/\ac[i]?=some true/\b.zone=(z:Int)/\h<b.qty.length)):((List.range Z).map λz=>iF (netAt bs ac h z i))=(List.range Z).map λz=>iF (netAt bs ac h z (i+1)):=by
 refine CQ λz hzm=>?_;have:=hz z (Ct.1 hzm)
 rw[show netAt bs ac h z (i+1)=netAt bs ac h z i+match bs[i]?,ac[i]? with
  |some b,some true=>if b.zone=(z:Int)/\h<b.qty.length then(if b.buy then -(b.qty.getD h 0)else b.qty.getD h 0)else 0
  |_,_=>0 from rfl]
 split
 ·rename_i b hb ha;rw[if_neg (λq=>this ⟨b,hb,ha,q⟩)];simp
 ·simp
theorem qf2{Z k:Nat}(hk:k<Z)(f:Nat->Int):at' ((List.range Z).map λz=>iF (f z)) k 0=some (iF (f k)):=by
 rw[q2a,EP hk];rfl
def netL(bs:List BlkV)(ac:List Bool)(h Z:Nat):List FV:=(List.range Z).map λz=>iF (netV bs ac h z)
theorem net_run{n h:Nat}(hz:1<=g.qa/\g.qa<=3)(hb:bs.length<=256)(ha:ac.length<=256)(hql:∀b,b∈bs->b.qty.length<=256)(hq:Smq bs)(hh:h<=1000)(hn:400<=n) :
  evF EnA n 110 (gL g++[.list 8 (bs.map BlkV.fv),.list 1 (ac.map .bool),iF (h:Int)])=some [.list 1 (netL bs ac h g.qa.toNat)]:=by
 obtain⟨n,rfl⟩:∃k,n=k+2:=⟨n-2,by omega⟩;unfold gL;simp only[Al,At];have e0:(if(0:Int)<(if 3<g.qa then 3 else g.qa)then(if 3<g.qa then 3 else g.qa)else 0)=((g.qa.toNat:Nat):Int):=by
  rw[if_neg (show ¬ 3<g.qa by omega),if_pos (by omega)];omega
 have e1:q1r 8 ((g.qa.toNat:Nat):Int)=some g.qa.toNat:=by
  unfold q1r;rw[if_pos ⟨by omega,by omega,by omega⟩,Bh]
 have hml:(if((bs.length:Nat):Int)<((ac.length:Nat):Int)then((bs.length:Nat):Int)else((ac.length:Nat):Int))=((min bs.length ac.length:Nat):Int):=by split <;> omega
 rw[qra,e0,e1,Ae,q1v (Ak _),Ae,Aa,Aa,hml,q1v,Ae,Av,<- List.map_take,Aa,BC];have hlen:min (min bs.length ac.length) ac.length=min bs.length ac.length:=by omega
 rw[hlen];have key:∀(d i m:Nat),i+d=min bs.length ac.length->d<m->q4s.l3 (n+1) [] m [.list 8 (bs.map BlkV.fv),iF (h:Int),.list 1 ((List.range g.qa.toNat).map λz=>iF (netAt bs ac h z i)),.list 1 ((ac.take (min bs.length ac.length)).map .bool),iF ((min bs.length ac.length:Nat):Int),iF (i:Int)]=some [.list 1 (netL bs ac h g.qa.toNat)]:=by
  intro d
  induction d with
  |zero =>
   intro i m hi hm;obtain⟨m,rfl⟩:=qSx m;rw[q4s.qm,Ad,Ab];unfold netL netV;rw[show i=min bs.length ac.length by omega]
  |succ d ih =>
   intro i m hi hm;obtain⟨m,rfl⟩:=qSx m;have i1:i<bs.length:=by omega
   have i2:i<ac.length:=by omega
   have i3:i<(ac.take (min bs.length ac.length)).length:=by rw[BC];omega
   have hac:(ac.take (min bs.length ac.length))[i]=ac[i]:=List.getElem_take;rw[q4s.qm,Af,Ac,Aa,Aa,q9 i3,q9 i1,qc];simp only[q4z i3,q2g i1,rr];rw[hac,Aa,Aa,Ca];have skip:¬ (ac[i]=true/\0<=bs[i].zone/\bs[i].zone<g.qa/\h<bs[i].qty.length)->q4s.l3 (n+1) [] m [.list 8 (bs.map BlkV.fv),iF (h:Int),.list 1 ((List.range g.qa.toNat).map λz=>iF (netAt bs ac h z i)),.list 1 ((ac.take (min bs.length ac.length)).map .bool),iF ((min bs.length ac.length:Nat):Int),iF ((i+1:Nat):Int)]=some [.list 1 (netL bs ac h g.qa.toNat)]:=by
    intro hno
    rw[qis (bs:=bs) (ac:=ac) h (i:=i) (Z:=g.qa.toNat) λz hz ⟨b,e1,e2,e3,e4⟩=>hno (by
     rw[Ag i1]at e1;rw[Ag i2]at e2;cases e1
     refine⟨by simpa using e2,by omega,by omega,e4⟩)]
    exact ih (i+1) m (by omega) (by omega)
   by_cases c1:ac[i]=true
   ·rw[c1,Ac];by_cases c2:0<=bs[i].zone
    ·rw[Af c2,Ac];by_cases c3:bs[i].zone<g.qa
     ·rw[Af (show bs[i].zone<((g.qa.toNat:Nat):Int) by omega),Ac,Af (show(0:Int)<=(h:Int) by omega),Ac];by_cases c4:h<bs[i].qty.length
      ·obtain⟨k,hk⟩:∃k:Nat,bs[i].zone=(k:Int):=⟨bs[i].zone.toNat,by omega⟩;have hkz:k<g.qa.toNat:=by omega
       obtain⟨q1,q2⟩:=hq _ (Ah i1) _ (Ah c4);obtain⟨b1,b2⟩:=qb5 (ac:=ac) hq h k i;have hsg:evF EnA (n+1) 171 [.bool bs[i].buy]=some [iF (if bs[i].buy then -1 else 1)]:=by
        rw[qkf];cases bs[i].buy <;> rfl
       have hv:w6 (netAt bs ac h k i+w6 ((if bs[i].buy then -1 else 1)*bs[i].qty[h]))=netAt bs ac h k i+(if bs[i].buy then -bs[i].qty[h]else bs[i].qty[h]):=by
        cases bs[i].buy
        ·simp only[Br,BH,Int.one_mul];rw[qk (x:=bs[i].qty[h]),qk]
        ·simp only[AW];rw[show(-1:Int)*bs[i].qty[h]=-bs[i].qty[h] by omega,qk (x:=-bs[i].qty[h]),qk]
       rw[Af (show((h:Nat):Int)<((bs[i].qty.length:Nat):Int) by omega),Ac,hk,q9 hkz];simp only[qf2 hkz,rr];rw[hsg];simp only[rr];rw[q9 c4];simp only[q4j c4,rr];rw[hv,net_step h i1 i2 c1 hk c4];exact ih (i+1) m (by omega) (by omega)
      ·rw[Ad (show ¬ ((h:Nat):Int)<((bs[i].qty.length:Nat):Int) by omega),Ab];exact skip λq=>c4 q.2.2.2
     ·rw[Ad (show ¬ bs[i].zone<((g.qa.toNat:Nat):Int) by omega),Ab];exact skip λq=>c3 q.2.2.1
    ·rw[Ad c2,Ab];exact skip λq=>c2 q.2.1
   ·rw[AI.2 c1,Ab];exact skip λq=>c1 q.1
 have k0:=key (min bs.length ac.length) 0 (n+1) (by omega) (by omega);have e2:((List.range g.qa.toNat).map λz=>iF (netAt bs ac h z 0))=List.replicate g.qa.toNat (iF 0):=by
  rw[show(λz=>iF (netAt bs ac h z 0))=λ_=>iF 0 from rfl,List.map_const',Ca]
 rw[e2]at k0;exact k0
theorem qhl{L:List Rat}{k:Nat}(hk:k<L.length)(c:Nat):at' (L.map ratF) k c=[zl (L.getD k 0).num,zb (L.getD k 0).num,nL (L.getD k 0).den,.bool false][c]?:=by rw[rat_at hk,getD_at _ _ hk]
theorem qej{L:List Rat}{k:Nat}(v:Rat):(L.map ratF).set k (.agg [zl (v).num,zb (v).num,nL (v).den,.bool false])=(L.set k v).map ratF:=by rw[List.map_set];rfl
theorem qu1{n:Nat}{L:List Rat}(hL:∀q,q∈L->Sz q)(hl:L.length<=1000)(hn:1100<=n):evF EnA n 200109 [.list 4 (L.map ratF),.raw (Go.Value.func (Go.Fn.func 114) #[] #[])]=some [.bool (!L.all λq=>decide (q=0))]:=by
 obtain⟨n,rfl⟩:∃k,n=k+4:=⟨n-4,by omega⟩
 have h:=qc7 L (λq=>!decide (q=0)) (pre:=[]) (F:=λm i=>q6x.l2 (n+2) [] m [.list 4 (L.map ratF),.raw (Go.Value.func (Go.Fn.func 114) #[] #[]),iF (L.length:Int),iF (i:Int)]) (λm i hi=>by
  show q6x.l2 (n+2) [] (m+1) _=_;rw[q6x.qt,Af,Ac,Aa,q9 hi];simp only[rat_at hi,rr];rw[qrb,a_sign (hL _ (Ah hi))];simp only[rr];rw[sgn_ne0,qc];rfl) (λm=>by
  show q6x.l2 (n+2) [] (m+1) _=_;rw[q6x.qt,Ad,Ab]
  rfl) L.length 0 (n+2) (by omega) (by omega) (λj _ hj=>by omega)
 rw[qrg,qrh,Aa];have h:q6x.l2 (n+2) [] (n+2) [.list 4 (L.map ratF),.raw (Go.Value.func (Go.Fn.func 114) #[] #[]),iF (L.length:Int),iF 0]=_:=h;rw[h,At];simp only[rr];rw[qee,Ey];simp only[DR]
def q4v(k:Nat)(L:List Rat):Prop:=∀q,q∈L->Bd k q
theorem q4v.set{k:Nat}{L:List Rat}(h:q4v k L){i:Nat}{v:Rat}(hv:Bd k v):q4v k (L.set i v):=λq hq=>by
 rcases Dz hq with hq | rfl
 ·exact h q hq
 ·exact hv
theorem q4v.mono{k m:Nat}{L:List Rat}(h:q4v k L)(hm:k<=m):q4v m L:=λq hq=>(h q hq).mono hm
theorem q4v.getD{k:Nat}{L:List Rat}(h:q4v k L){i:Nat}(hi:i<L.length):Bd k (L.getD i 0):=by rw[getD_at _ _ hi];exact h _ (Ah hi)
structure q1d(g:q10)(ss:List StpV)(bs:List BlkV)(r:ResV):Prop where
 sm:Sm g ss bs r
 sh:q37 g ss bs r
 read:q1u r=true
theorem q90(h:q28 g ss bs=true):∀s,s∈ss->0<=s.zone/\s.zone<g.qa/\0<=s.hour/\s.hour<g.qg/\1<=s.qty/\s.qty<=1000/\g.low<=s.qe/\s.qe<=g.high:=λs hs=>by
 unfold q28 at h;simp only[Ai,Au]at h;have:=h.1.1.1.1.2 s hs;unfold q3e at this;simp only[Ai,q4x]at this;omega
theorem qb6(h:q28 g ss bs=true):∀b,b∈bs->0<=b.zone/\b.zone<g.qa/\g.low<=b.qe/\b.qe<=g.high/\(b.qty.length:Int)=g.qg/\(∀q,q∈b.qty->0<=q/\q<=1000):=λb hb=>by
 unfold q28 at h;simp only[Ai,Au]at h;have:=h.1.1.1.2 b hb;unfold q33 at this;simp only[Ai,q4x,As,Au]at this;obtain⟨⟨⟨⟨h1,h2⟩,h3⟩,h4⟩,_⟩:=this;exact⟨h1.1,by omega,h2.1,h2.2,h3,λq hq=>h4 q hq⟩
theorem q7e(h:q28 g ss bs=true):ss.length<=32/\bs.length<=12:=by
 unfold q28 at h;simp only[Ai,As]at h;exact⟨h.1.1.1.1.1.1.2,h.1.1.1.1.1.2⟩
theorem qpu{n:Nat}(G:q1d g ss bs r)(hn:5000<=n):evF EnA n 47 (T1 g ss bs r [])=some (T1 g ss bs r [.bool (balV g ss bs r)]):=by
 obtain⟨n,rfl⟩:∃k,n=k+4:=⟨n-4,by omega⟩;have h:=G.sm;have hs:=G.sh;obtain⟨z1,z2,z3,z4,z5,z6,z7,z8,z9⟩:=q3w (q3x hs.ord);obtain⟨o1,o2⟩:=q7e hs.ord;have hst:=q90 hs.ord;have hbl:=qb6 hs.ord;have lf:=hs.f;have lp:=hs.p;have lx:=hs.x
 let Z:=g.qa.toNat
 have hZ:g.qa=(Z:Int):=by show g.qa=((g.qa.toNat:Nat):Int);omega
 have hZ3:Z<=3:=by omega
 have hsz:∀s,s∈ss->0<=s.zone/\s.zone<(Z:Int):=λs hs=>by have:=hst s hs;omega
 have hlz:∀l,l∈g.lines->0<=l.src/\l.src<(Z:Int)/\0<=l.dst/\l.dst<(Z:Int):=λl hl=>by have:=qa6 (z6 l hl);omega
 have hour:∀(d i m:Nat),i+d=g.qg.toNat->d<m->q19.l2 (n+3) [] m (T1 g ss bs r [iF g.qg,iF (i:Int)])=some (T1 g ss bs r [.bool ((List.range' i d).all λh=>(List.range' 0 Z).all λz=>decide (q5g ss bs r h z=expV g.lines r h z))]):=by
  intro d
  induction d with
  |zero =>
   intro i m hi hm;obtain⟨m,rfl⟩:=qSx m;rw[q19.qt,Ad,Ab];rfl
  |succ d ih =>
   intro i m hi hm;obtain⟨m,rfl⟩:=qSx m;have i1:i<r.f.length:=by omega
   have i2:i<r.p.length:=by omega
   obtain⟨lf1,lp1⟩:=hs.lens i (by omega);rw[getD_at _ _ i1]at lf1;have hnet:=net_run (g:=g) (bs:=bs) (ac:=r.accept) (n:=n+3) (h:=i) ⟨z1,z2⟩ h.bsl h.acl h.q (λb hb q hq=>(hbl b hb).2.2.2.2.2 q hq) (by omega) (by omega);unfold gL at hnet;simp only[Al,At]at hnet;have e1:q1r 64 g.qa=some Z:=by
    rw[hZ];unfold q1r;rw[if_pos ⟨by omega,by omega,by omega⟩,Bh]
   rw[q19.qt,Af,Ac,e1,Ae,show bd g.qa Z=some Z by rw[hZ];exact q1v (Ak _),Ae,hnet];simp only[rr]
   let N:List Int:=(List.range Z).map λz=>netV bs r.accept i z
   have hN:netL bs r.accept i g.qa.toNat=N.map iF:=by
    show _=((List.range Z).map λz=>netV bs r.accept i z).map iF;rw[Cu];rfl
   have hNl:N.length=Z:=by show((List.range Z).map _).length=Z;rw[Aa,Ca]
   have hNb:∀x,x∈N->-12000<=x/\x<=12000:=λx hx=>by
    obtain⟨z,_,rfl⟩:=BD.1 hx;have:=qb5 (bs:=bs) (ac:=r.accept) (λb hb q hq=>(hbl b hb).2.2.2.2.2 q hq) i z (min bs.length r.accept.length);unfold netV;omega
   let L0:List Rat:=N.map λx=>((x:Int):Rat)
   have hL0:L0.length=Z:=by show(N.map _).length=Z;rw[Aa,hNl]
   have hL0b:q4v 20 L0:=λq hq=>by
    obtain⟨x,hx,rfl⟩:=BD.1 hq;obtain⟨b1,b2⟩:=hNb x hx;refine Bd.int ?_ (by omega);have:(2:Nat)^20=1048576:=rfl;omega
   have e19:=q68 (F:=λm' k (L:List Rat)=>q19.l19 (n+3) [m] m' (T1 g ss bs r [iF (i:Int),.list 4 (L.map ratF),iF g.qg,iF (i:Int),.list 3 (g.lines.map qz.fv),iF (g.lines.length:Int),iF (k:Int)])) (len:=g.lines.length) (g:=λk L=>lineP g.lines r i L k)
    (fin:=λL=>bif L.all (λq=>decide (q=0))then q19.l2 (n+3) [] m (T1 g ss bs r [iF g.qg,iF ((i+1:Nat):Int)])else some (T1 g ss bs r [.bool false])) (I:=λk L=>L.length=Z/\q4v (40000+2100*k) L) (λm' k L hk hI=>by
     show q19.l19 (n+3) [m] (m'+1) _=_;obtain⟨hIl,hIb⟩:=hI;have hlk:=hlz _ (Ah hk);have hko:=qa6 (z6 _ (Ah hk));obtain⟨sk,hsk⟩:∃k':Nat,g.lines[k].src=(k':Int):=⟨g.lines[k].src.toNat,by omega⟩;obtain⟨dk,hdk⟩:∃k':Nat,g.lines[k].dst=(k':Int):=⟨g.lines[k].dst.toNat,by omega⟩;have s1:sk<L.length:=by omega
     have s2:dk<L.length:=by omega
     have f1:k<r.f[i].length:=by omega
     have hfl:=(h.f _ (Ah i1)).2 _ (Ah f1);have b1:Sz (L.getD sk 0):=(hIb.getD s1).mono (by omega);have b2:Bd (40000+2100*k+1024+1) (L.getD sk 0-rd r.f[i][k]):=(hIb.getD s1).sub (q3c hfl);have s3:dk<(L.set sk (L.getD sk 0-rd r.f[i][k])).length:=by rw[Fu];exact s2
     have b3:q4v (40000+2100*k+1025) (L.set sk (L.getD sk 0-rd r.f[i][k])):=(hIb.mono (by omega)).set b2;have b4:Sz ((L.set sk (L.getD sk 0-rd r.f[i][k])).getD dk 0):=(b3.getD s3).mono (by omega);rw[q19.q4r,Af,Ac];simp only[Aa];rw[q9 hk];simp only[q8a hk,rr];rw[hsk,hdk,q9 s1];simp only[qhl s1,rr];rw[q9 i1];simp only[rr];rw[show at' (r.f.map numR) i 0=some (.list 4 (r.f[i].map λt=>ratF (rd t))) by rw[q2a,Ag i1];rfl];simp only[rr];rw[Aa,q9 f1];simp only[q7a f1,rr];rw[a_sub b1 (q1s hfl) (qb _) (qb _)];simp only[rr];rw[qej,Aa,q9 s3];simp only[qhl s3,rr];rw[a_add b4 (q1s hfl) (qb _) (qb _)];simp only[rr];rw[qej,qc];unfold lineP;rw[Ag hk];simp only;rw[hsk,hdk,Bh,Bh,show r.fAt i k=rd r.f[i][k] by unfold ResV.fAt;rw[getD_at _ _ i1,getD_at _ _ f1]]) (λk L hk hI=>by
     obtain⟨hIl,hIb⟩:=hI;refine⟨(qm3 L k).trans hIl,?_⟩;have hlk:=hlz _ (Ah hk);have f1:k<r.f[i].length:=by omega
     have hfl:=(h.f _ (Ah i1)).2 _ (Ah f1);have ef:r.fAt i k=rd r.f[i][k]:=by unfold ResV.fAt;rw[getD_at _ _ i1,getD_at _ _ f1]
     unfold lineP;rw[Ag hk];simp only;have s1:g.lines[k].src.toNat<L.length:=by omega
     have b2:Bd (40000+2100*k+1024+1) (L.getD g.lines[k].src.toNat 0-r.fAt i k):=(hIb.getD s1).sub (by rw[ef];exact q3c hfl);have b3:q4v (40000+2100*k+1025) (L.set g.lines[k].src.toNat (L.getD g.lines[k].src.toNat 0-r.fAt i k)):=(hIb.mono (by omega)).set b2;have s3:g.lines[k].dst.toNat<(L.set g.lines[k].src.toNat (L.getD g.lines[k].src.toNat 0-r.fAt i k)).length:=by rw[Fu];omega
     refine(b3.mono (by omega)).set (((b3.getD s3).add (m:=1024) (by rw[ef];exact q3c hfl)).mono (by omega))) (λm' L hI=>by
     show q19.l19 (n+3) [m] (m'+1) _=_;rw[q19.q4r,Ad,Ab,qu1 (λq hq=>(hI.2 q hq).mono (by omega)) (by have:=hI.1;omega) (by omega),qc];simp only[rr]
     cases L.all λq=>decide (q=0) <;> rfl)
   have e11:=q68 (F:=λm' k (L:List Rat)=>q19.l11 (n+3) [m] m' (T1 g ss bs r [iF (i:Int),.list 4 (L.map ratF),iF g.qg,iF (i:Int),.list 7 (ss.map StpV.fv),iF (ss.length:Int),iF (k:Int)])) (len:=ss.length) (g:=λk L=>stepP ss r i L k)
    (fin:=λL=>q19.l19 (n+3) [m] (n+3) (T1 g ss bs r [iF (i:Int),.list 4 (L.map ratF),iF g.qg,iF (i:Int),.list 3 (g.lines.map qz.fv),iF (g.lines.length:Int),iF 0])) (I:=λk L=>L.length=Z/\q4v (20+1100*k) L) (λm' k L hk hI=>by
     show q19.l11 (n+3) [m] (m'+1) _=_;obtain⟨hIl,hIb⟩:=hI;have hzk:=hsz _ (Ah hk);have x1:k<r.x.length:=by omega
     obtain⟨zk,hzz⟩:∃k':Nat,ss[k].zone=(k':Int):=⟨ss[k].zone.toNat,by omega⟩;have s1:zk<L.length:=by omega
     have hxl:=h.x _ (Ah x1);have b1:Sz (L.getD zk 0):=(hIb.getD s1).mono (by omega);rw[q19.q8b,Af,Ac];simp only[Aa];rw[q9 hk];simp only[q2z hk,rr];rw[qc];unfold stepP;rw[Ag hk,hzz,ine];simp only;by_cases hh:ss[k].hour=(i:Int)
     ·rw[Af hh,if_pos hh,Am,Ab,q9 s1,hzz,Bh,show r.xAt k=rd r.x[k] by unfold ResV.xAt;rw[getD_at _ _ x1]];simp only[qhl s1,rr];rw[q9 x1];simp only[q7a x1,rr];rw[a_sub b1 (q1s hxl) (qb _) (qb _),a_add b1 (q1s hxl) (qb _) (qb _)];simp only[rr];rw[qej,qej];cases ss[k].buy <;> rfl
     ·rw[Ad hh,if_neg hh];rfl) (λk L hk hI=>by
     obtain⟨hIl,hIb⟩:=hI;refine⟨(qm4 L k).trans hIl,?_⟩;have hzk:=hsz _ (Ah hk);have x1:k<r.x.length:=by omega
     have s1:ss[k].zone.toNat<L.length:=by omega
     have hxl:=h.x _ (Ah x1);have hxe:Bd 1024 (r.xAt k):=by unfold ResV.xAt;rw[getD_at _ _ x1];exact q3c hxl
     unfold stepP;rw[Ag hk];simp only;split
     ·split
      ·exact(hIb.mono (by omega)).set (((hIb.getD s1).sub hxe).mono (by omega))
      ·exact(hIb.mono (by omega)).set (((hIb.getD s1).add hxe).mono (by omega))
     ·exact hIb.mono (by omega)) (λm' L hI=>by
     show q19.l11 (n+3) [m] (m'+1) _=_
     rw[q19.q8b,Ad,Ab,Aa])
   have e6:=q21 (F:=λm' k=>q19.l6 (n+3) [m] m' (T1 g ss bs r [iF (i:Int),.list 4 ((N.take k).map (λx=>ratF ((x:Int):Rat))++List.replicate (N.length-k) (.agg [.list 1 [],.bool false,.list 1 [],.bool false])),iF g.qg,iF (i:Int),.list 1 (N.map iF),iF (N.length:Int),iF (k:Int)])) (len:=N.length) (P:=λ_=>true)
    (fin:=q19.l11 (n+3) [m] (n+3) (T1 g ss bs r [iF (i:Int),.list 4 (L0.map ratF),iF g.qg,iF (i:Int),.list 7 (ss.map StpV.fv),iF (ss.length:Int),iF 0])) (stop:=none) (λm' k hk=>by
     show q19.l6 (n+3) [m] (m'+1) _=_;obtain⟨b1,b2⟩:=hNb _ (Ah hk);rw[q19.q2o,Af,Ac,Aa,q9 hk];simp only[q4j hk,rr];rw[a_of];simp only[rr];rw[q9 (by simp;omega),qc];simp only[rr];rw[show(FV.agg [zl (((N[k]:Int):Rat)).num,zb (((N[k]:Int):Rat)).num,nL (((N[k]:Int):Rat)).den,.bool false])=ratF ((N[k]:Int):Rat) from rfl,qfk (λx:Int=>ratF ((x:Int):Rat)) _ N hk]) (λm'=>by
     show q19.l6 (n+3) [m] (m'+1) _=_
     rw[q19.q2o,Ad,Ab,Bj,Cn,Co,AM,Aa,show L0.map ratF=N.map λx=>ratF ((x:Int):Rat) by show(N.map _).map ratF=_;rw[Cu];rfl]) N.length 0 (n+3) (by omega) (by omega)
   have e6:q19.l6 (n+3) [m] (n+3) (T1 g ss bs r [iF (i:Int),.list 4 (List.replicate N.length (.agg [.list 1 [],.bool false,.list 1 [],.bool false])),iF g.qg,iF (i:Int),.list 1 (N.map iF),iF (N.length:Int),iF 0])=_:=e6;have hall1:(List.range' 0 N.length).all (λ_=>true)=true:=by rw[Au];intro _ _;rfl
   rw[hall1,Ac,hNl]at e6;obtain⟨q1,q2⟩:=e11 ss.length 0 (n+3) L0 (by omega) (by omega) ⟨hL0,hL0b⟩;have q1:q19.l11 (n+3) [m] (n+3) (T1 g ss bs r [iF (i:Int),.list 4 (L0.map ratF),iF g.qg,iF (i:Int),.list 7 (ss.map StpV.fv),iF (ss.length:Int),iF 0])=_:=q1;obtain⟨q3,q4⟩:=e19 g.lines.length 0 (n+3) _ (by omega) (by omega) ⟨q2.1,q2.2.mono (by omega)⟩;have q3:=q3;rw[hN,Aa,hNl];refine(e6.trans (q1.trans q3)).trans ?_;have hleft:∀z,z<Z->((List.range' 0 g.lines.length).foldl (lineP g.lines r i) ((List.range' 0 ss.length).foldl (stepP ss r i) L0)).getD z 0=q5g ss bs r i z-expV g.lines r i z:=λz hz=>by
    refine left_at hsz hlz hL0 hz ?_;have hzN:z<N.length:=by omega
    have hzL:z<L0.length:=by omega
    rw[getD_at _ _ hzL];show(N.map λx=>((x:Int):Rat))[z]'(by rw[Aa];exact hzN)=_;rw[Eu];congr 1;show((List.range Z).map λz=>netV bs r.accept i z)[z]'(by rw[Aa,Ca];exact hz)=_;rw[Eu,List.getElem_range]
   have hall:((List.range' 0 g.lines.length).foldl (λs j=>lineP g.lines r i s j) ((List.range' 0 ss.length).foldl (λs j=>stepP ss r i s j) L0)).all (λq=>decide (q=0))=(List.range' 0 Z).all λz=>decide (q5g ss bs r i z=expV g.lines r i z):=by
    have hlen:((List.range' 0 g.lines.length).foldl (λs j=>lineP g.lines r i s j) ((List.range' 0 ss.length).foldl (λs j=>stepP ss r i s j) L0)).length=Z:=q4.1;rw[qm0 _ _ 0,hlen];refine qcq λz hz=>?_;rw[BU];rw[show((List.range' 0 g.lines.length).foldl (λs j=>lineP g.lines r i s j) ((List.range' 0 ss.length).foldl (λs j=>stepP ss r i s j) L0)).getD z 0=q5g ss bs r i z-expV g.lines r i z from hleft z hz];exact qu2
   rw[hall,ih (i+1) m (by omega) (by omega),BK,Bk];cases(List.range' 0 Z).all λz=>decide (q5g ss bs r i z=expV g.lines r i z) <;> rfl
 rw[qr0];exact hour g.qg.toNat 0 (n+3) (by omega) (by omega)
end
end
section
theorem wneg{c:Int}(h:-1<=c/\c<=1):w6 (0-c)=-c:=by rw[qk];omega
theorem neg_lt0(c:Int):decide (-c<0)=decide (c>0):=by rw[BU];omega
theorem neg_gt0(c:Int):decide (-c>0)=decide (c<0):=by rw[BU];omega
theorem qi4{P:List (List Txt)}{i:Nat}(h:i<P.length):at' (P.map numR) i 0=some (.list 4 (P[i].map λt=>ratF (rd t))):=by rw[q2a,Ag h];rfl
section
variable {g:q10} {ss:List StpV} {bs:List BlkV} {r:ResV}
theorem q1d.pT(G:q1d g ss bs r){h z:Nat}(hh:h<g.qg.toNat)(hz:z<g.qa.toNat):∃(i1:h<r.p.length) (i2:z<r.p[h].length),r.pAt h z=rd r.p[h][z]/\r.p[h][z].length<=256:=by
 have lp:=G.sh.p;obtain⟨_,l2⟩:=G.sh.lens h hh;have i1:h<r.p.length:=by omega
 rw[getD_at _ _ i1]at l2;have i2:z<r.p[h].length:=by omega
 refine⟨i1,i2,?_,(G.sm.p _ (Ah i1)).2 _ (Ah i2)⟩;unfold ResV.pAt;rw[getD_at _ _ i1,getD_at _ _ i2]
theorem q1d.fT(G:q1d g ss bs r){h k:Nat}(hh:h<g.qg.toNat)(hk:k<g.lines.length):∃(i1:h<r.f.length) (i2:k<r.f[h].length),r.fAt h k=rd r.f[h][k]/\r.f[h][k].length<=256:=by
 have lf:=G.sh.f;obtain⟨l2,_⟩:=G.sh.lens h hh;have i1:h<r.f.length:=by omega
 rw[getD_at _ _ i1]at l2;have i2:k<r.f[h].length:=by omega
 refine⟨i1,i2,?_,(G.sm.f _ (Ah i1)).2 _ (Ah i2)⟩;unfold ResV.fAt;rw[getD_at _ _ i1,getD_at _ _ i2]
theorem q1d.xT(G:q1d g ss bs r){k:Nat}(hk:k<ss.length):∃(i1:k<r.x.length),r.xAt k=rd r.x[k]/\r.x[k].length<=256:=by
 have lx:=G.sh.x;have i1:k<r.x.length:=by omega
 refine⟨i1,?_,G.sm.x _ (Ah i1)⟩;unfold ResV.xAt;rw[getD_at _ _ i1]
theorem qpv{n:Nat}(G:q1d g ss bs r)(hn:1000<=n):evF EnA n 48 (T1 g ss bs r [])=some (T1 g ss bs r [.bool (q4l ss r)]):=by
 obtain⟨n,rfl⟩:∃k,n=k+4:=⟨n-4,by omega⟩;obtain⟨z1,z2,z3,z4,z5,z6,z7,z8,z9⟩:=q3w (q3x G.sh.ord);obtain⟨o1,o2⟩:=q7e G.sh.ord;have hst:=q90 G.sh.ord
 have e:=q21 (F:=λm i=>q3l.l2 (n+3) [] m (T1 g ss bs r [.list 7 (ss.map StpV.fv),iF (ss.length:Int),iF (i:Int)])) (len:=ss.length) (P:=q8c ss r) (fin:=some (T1 g ss bs r [.bool true])) (stop:=some (T1 g ss bs r [.bool false])) (λm i hi=>by
  show q3l.l2 (n+3) [] (m+1) _=_;obtain⟨s1,s2,s3,s4,s5,s6,s7,s8⟩:=hst _ (Ah hi);obtain⟨hk,hh⟩:∃k:Nat,ss[i].hour=(k:Int):=⟨ss[i].hour.toNat,by omega⟩;obtain⟨zk,hz⟩:∃k:Nat,ss[i].zone=(k:Int):=⟨ss[i].zone.toNat,by omega⟩;obtain⟨p1,p2,p3,p4⟩:=G.pT (h:=hk) (z:=zk) (by omega) (by omega);obtain⟨x1,x2,x3⟩:=G.xT hi;have f1:=a_of (n:=n+2) (z:=ss[i].qe);have f2:=q6h (n:=n+2) (q1s p4) (Sz.int (z:=ss[i].qe)) (qb _) (qb _);have f3:=a_sign (n:=n+2) (q1s x3) (l:=(dg 4294967296 (rd r.x[i]).den).map d32) (b:=false);have f4:=a_of (n:=n+2) (z:=ss[i].qty);have f5:=q6h (n:=n+2) (q1s x3) (Sz.int (z:=ss[i].qty)) (qb _) (qb _);rw[q3l.qt,Af,Ac];simp only[Aa];rw[q9 hi];simp only[q2z hi,rr];rw[hh,hz,q9 p1];simp only[qi4 p1,rr];rw[Aa,q9 p2];simp only[q7a p2,rr];rw[f1];simp only[rr];rw[f2];simp only[rr];rw[q9 x1];simp only[q7a x1,rr];rw[f3,f4];simp only[rr];rw[f5];simp only[rr];rw[wneg (cmpQ_bd _ _),neg_lt0,neg_gt0,q3y,q5h,q3y,sgn_gt0,qc];unfold q8c;rw[Ag hi];simp only;rw[hh,hz,Bh,Bh,p3,x2];cases ss[i].buy <;> cases decide (((ss[i].qe:Int):Rat)<rd r.p[hk][zk]) <;> cases decide (rd r.p[hk][zk]<((ss[i].qe:Int):Rat)) <;> cases decide (0<rd r.x[i]) <;> cases decide (rd r.x[i]<((ss[i].qty:Int):Rat)) <;> rfl) (λm=>by
  show q3l.l2 (n+3) [] (m+1) _=_
  rw[q3l.qt,Ad,Ab]) ss.length 0 (n+3) (by omega) (by omega)
 have e:q3l.l2 (n+3) [] (n+3) (T1 g ss bs r [.list 7 (ss.map StpV.fv),iF (ss.length:Int),iF 0])=_:=e;rw[qr1,Aa,e];unfold q4l;cases(List.range' 0 ss.length).all (q8c ss r) <;> rfl
theorem lined_run{n:Nat}(G:q1d g ss bs r)(hn:1000<=n):evF EnA n 49 (T1 g ss bs r [])=some (T1 g ss bs r [.bool (q7f g r)]):=by
 obtain⟨n,rfl⟩:∃k,n=k+4:=⟨n-4,by omega⟩;obtain⟨z1,z2,z3,z4,z5,z6,z7,z8,z9⟩:=q3w (q3x G.sh.ord)
 have e:=q21 (F:=λm i=>q2l.l2 (n+3) [] m (T1 g ss bs r [iF g.qg,iF (i:Int)])) (len:=g.qg.toNat) (P:=λh=>(List.range' 0 g.lines.length).all (q7g g.lines r h)) (fin:=some (T1 g ss bs r [.bool true])) (stop:=some (T1 g ss bs r [.bool false])) (λm h hh=>by
  show q2l.l2 (n+3) [] (m+1) _=_
  have e5:=q21 (F:=λm' i=>q2l.l5 (n+3) [m] m' (T1 g ss bs r [iF (h:Int),iF g.qg,iF (h:Int),.list 3 (g.lines.map qz.fv),iF (g.lines.length:Int),iF (i:Int)])) (len:=g.lines.length) (P:=q7g g.lines r h) (fin:=q2l.l2 (n+3) [] m (T1 g ss bs r [iF g.qg,iF ((h+1:Nat):Int)])) (stop:=some (T1 g ss bs r [.bool false])) (λm' i hi=>by
   show q2l.l5 (n+3) [m] (m'+1) _=_;have hl:=qa6 (z6 _ (Ah hi));obtain⟨a,ha⟩:∃k:Nat,g.lines[i].src=(k:Int):=⟨g.lines[i].src.toNat,by omega⟩;obtain⟨b,hb⟩:∃k:Nat,g.lines[i].dst=(k:Int):=⟨g.lines[i].dst.toNat,by omega⟩;obtain⟨p1,p2,p3,p4⟩:=G.pT (h:=h) (z:=a) hh (by omega);obtain⟨_,q2,q3,q4⟩:=G.pT (h:=h) (z:=b) hh (by omega);obtain⟨g1,g2,g3,g4⟩:=G.fT (h:=h) (k:=i) hh hi;have f1:=q6h (n:=n+2) (q1s q4) (q1s p4) (qb _) (qb _);have f2:=a_of (n:=n+2) (z:=-g.lines[i].cap);have f3:=q6h (n:=n+2) (q1s g4) (Sz.int (z:=-g.lines[i].cap)) (qb _) (qb _);have f4:=a_of (n:=n+2) (z:=g.lines[i].cap);have f5:=q6h (n:=n+2) (q1s g4) (Sz.int (z:=g.lines[i].cap)) (qb _) (qb _);have hw:w6 (0-g.lines[i].cap)=-g.lines[i].cap:=by rw[qk];omega
   rw[q2l.q1o,Af,Ac];simp only[Aa];rw[q9 hi];simp only[q8a hi,rr];rw[ha,hb,q9 p1];simp only[qi4 p1,rr];rw[Aa,q9 q2,q9 p2];simp only[q7a q2,q7a p2,rr];rw[f1];simp only[rr];rw[q9 g1];simp only[qi4 g1,rr];rw[Aa,q9 g2];simp only[q7a g2,rr];rw[hw,f2,f4];simp only[rr];rw[f3,f5];simp only[rr];rw[q3y,q5h,q5h,q3y,qc];unfold q7g;rw[Ag hi];simp only;rw[ha,hb,Bh,Bh,p3,q3,g3];cases decide (rd r.p[h][b]<rd r.p[h][a]) <;> cases decide (rd r.p[h][a]<rd r.p[h][b]) <;> cases decide (((-g.lines[i].cap:Int):Rat)<rd r.f[h][i]) <;> cases decide (rd r.f[h][i]<((g.lines[i].cap:Int):Rat)) <;> rfl) (λm'=>by
   show q2l.l5 (n+3) [m] (m'+1) _=_
   rw[q2l.q1o,Ad,Ab,qc]) g.lines.length 0 (n+3) (by omega) (by omega)
  have e5:q2l.l5 (n+3) [m] (n+3) (T1 g ss bs r [iF (h:Int),iF g.qg,iF (h:Int),.list 3 (g.lines.map qz.fv),iF (g.lines.length:Int),iF 0])=_:=e5;rw[q2l.qt,Af,Ac,Aa,e5]) (λm=>by
  show q2l.l2 (n+3) [] (m+1) _=_
  rw[q2l.qt,Ad,Ab]) g.qg.toNat 0 (n+3) (by omega) (by omega)
 have e:q2l.l2 (n+3) [] (n+3) (T1 g ss bs r [iF g.qg,iF 0])=_:=e;rw[qr2,e];unfold q7f;cases(List.range' 0 g.qg.toNat).all λh=>(List.range' 0 g.lines.length).all (q7g g.lines r h) <;> rfl
theorem qpw{n:Nat}(h:Sm g ss bs r)(hn:10<=n):evF EnA n 50 (T1 g ss bs r [])=some (T1 g ss bs r [.bool (q4n bs r.accept)]):=by
 obtain⟨n,rfl⟩:∃k,n=k+2:=⟨n-2,by omega⟩;have:=h.bsl;rw[qr3,a_linked (by omega)];rfl
theorem sumR_fold{zn:Int}{P:List (List Txt)}{q:List Int}(hlen:P.length=q.length)(hnum:∀l,l∈P->isNum (l.getD zn.toNat [])=true)(pc:Rat):∀(d i:Nat) (acc:Rat),i+d=P.length ->
  sumR pc ((q3n zn P).drop i) (q.drop i) acc=some ((List.range' i d).foldl (λn h=>n+(rd ((P.getD h []).getD zn.toNat [])-pc)*((q.getD h 0:Int):Rat)) acc):=by
 intro d
 induction d with
 |zero =>
  intro i acc hi;rw[AN (by unfold q3n;rw[Aa];omega)];cases q.drop i <;> rfl
 |succ d ih =>
  intro i acc hi;have h1:i<P.length:=by omega
  have h2:i<q.length:=by omega
  rw[qe7 h1,AY h2,BK,Be,getD_at P _ h1,getD_at q _ h2];have hn:=hnum _ (Ah h1);unfold isNum at hn;obtain⟨v,hv⟩:=EI.1 hn;rw[rd_some hv];show(pr (P[i].getD zn.toNat [])).bind _=_;rw[hv,Ae];exact ih (i+1) _ (by omega)
theorem q1d.num(G:q1d g ss bs r):(∀t,t∈r.x->isNum t=true)/\isNum r.qn=true/\isNum r.upper=true/\(∀l,l∈r.f->∀t,t∈l->isNum t=true)/\(∀l,l∈r.p->∀t,t∈l->isNum t=true):=by
 have:=G.read;unfold q1u at this;simp only[Ai,Au]at this;obtain⟨⟨⟨⟨h1,h2⟩,h3⟩,h4⟩,h5⟩:=this;exact⟨h1,h2,h3,h4,h5⟩
theorem qi5(G:q1d g ss bs r){b:BlkV}(hb:b∈bs):POk b.qe b.qty r.p/\q72 b.zone b.qe b.qty r.p b.buy=[sF (qx (q5p b r)),iF 0]/\Bd (1+4099*256) (q5p b r):=by
 obtain⟨z1,z2,z3,z4,z5,z6,z7,z8,z9⟩:=q3w (q3x G.sh.ord);obtain⟨b1,b2,b3,b4,b5,b6⟩:=qb6 G.sh.ord b hb;have lp:=G.sh.p;have hpl:r.p.length=b.qty.length:=by omega
 have hzone:∀l,l∈r.p->0<=b.zone/\b.zone<(l.length:Int):=λl hl=>by
  obtain⟨h,hh,rfl⟩:=Ex hl;obtain⟨_,l2⟩:=G.sh.lens h (by omega);rw[getD_at _ _ hh]at l2;omega
 have hP:POk b.qe b.qty r.p:=⟨by omega,λx hx=>by have:=b6 x hx;omega,⟨G.sm.pl,G.sm.p⟩,G.sm.q b hb⟩;have ho:r.p.any (oddZ b.zone)=false:=DY.2 λl hl=>by
  obtain⟨q1,q2⟩:=hzone l hl;unfold oddZ;rw[Af q1,Af q2];simp
 have hS:=hP.s hpl ho
 have hs:=sumR_fold (zn:=b.zone) hpl (λl hl=>by
  obtain⟨q1,q2⟩:=hzone l hl;have hz:b.zone.toNat<l.length:=by omega
  rw[getD_at _ _ hz]
  exact G.num.2.2.2.2 l hl _ (Ah hz)) ((b.qe:Int):Rat) r.p.length 0 0 (by omega)
 rw[Av,Av]at hs;have hge:(List.range' 0 r.p.length).foldl (λn h=>n+(rd ((r.p.getD h []).getD b.zone.toNat [])-((b.qe:Int):Rat))*((b.qty.getD h 0:Int):Rat)) 0=qax b r:=by
  unfold qax;rw[hpl];rfl
 rw[hge]at hs;have hbd:=sum_bd hS r.p.length 0 0 _ (by omega) (by exact q89.mono (by omega)) (by rw[Av,Av];exact hs);refine⟨hP,?_,?_⟩
 ·unfold q72;rw[if_pos ⟨hpl,ho⟩,hs];rfl
 ·exact hbd.sgn b.buy
theorem a_surp{n:Nat}(G:q1d g ss bs r){b:BlkV}(hb:b∈bs):evF EnA (n+1) 117 [.str b.who,iF b.seq,iF b.zone,.bool b.buy,iF b.qe,.list 1 (b.qty.map iF),iF b.parent,iF b.group,.list 1 (r.p.map rowF)]=some [sF (qx (q5p b r)),iF 0]:=by
 obtain⟨h1,h2,_⟩:=qi5 G hb;have:=surp_ev (s0:=b.who.data.toList) (x1:=b.seq) (x2:=b.zone) (x6:=b.parent) (x7:=b.group) (b:=b.buy) h1;rw[h2]at this;have e:evF EnA (n+1) 117 [.str b.who,iF b.seq,iF b.zone,.bool b.buy,iF b.qe,.list 1 (b.qty.map iF),iF b.parent,iF b.group,.list 1 (r.p.map rowF)]=limO En 117 [.str b.who,iF b.seq,iF b.zone,.bool b.buy,iF b.qe,.list 1 (b.qty.map iF),iF b.parent,iF b.group,.list 1 (r.p.map rowF)]:=by kernel_rfl
 rw[e];exact q1j this
theorem w_surp{n:Nat}(G:q1d g ss bs r){b:BlkV}(hb:b∈bs):evF EnA (n+1) 61 [.str b.who,iF b.seq,iF b.zone,.bool b.buy,iF b.qe,.list 1 (b.qty.map iF),iF b.parent,iF b.group,.list 1 (r.p.map rowF)]=some [sF (qx (q5p b r)),iF 0]:=by
 obtain⟨h1,h2,_⟩:=qi5 G hb;have:=wsurp_ev (s0:=b.who.data.toList) (x1:=b.seq) (x2:=b.zone) (x6:=b.parent) (x7:=b.group) (b:=b.buy) h1;rw[h2]at this;have e:evF EnA (n+1) 61 [.str b.who,iF b.seq,iF b.zone,.bool b.buy,iF b.qe,.list 1 (b.qty.map iF),iF b.parent,iF b.group,.list 1 (r.p.map rowF)]=limO En 61 [.str b.who,iF b.seq,iF b.zone,.bool b.buy,iF b.qe,.list 1 (b.qty.map iF),iF b.parent,iF b.group,.list 1 (r.p.map rowF)]:=by kernel_rfl
 rw[e];exact q1j this
noncomputable def gainAt(bs:List BlkV)(r:ResV)(i:Nat):Bool:=match bs[i]?,r.accept[i]? with
 |some b,some true=>decide (0<=q5p b r)
 |_,_=>true
theorem qpx{n:Nat}(G:q1d g ss bs r)(hn:1000<=n):evF EnA n 51 (T1 g ss bs r [])=some (T1 g ss bs r [.bool (q5o bs r)]):=by
 obtain⟨n,rfl⟩:∃k,n=k+4:=⟨n-4,by omega⟩;obtain⟨o1,o2⟩:=q7e G.sh.ord;have la:=G.sh.ac
 have e:=q21 (F:=λm i=>q5s.l2 (n+3) [] m (T1 g ss bs r [.list 8 (bs.map BlkV.fv),iF (bs.length:Int),iF (i:Int)])) (len:=bs.length) (P:=gainAt bs r) (fin:=some (T1 g ss bs r [.bool true])) (stop:=some (T1 g ss bs r [.bool false])) (λm i hi=>by
  show q5s.l2 (n+3) [] (m+1) _=_;have hi2:i<r.accept.length:=by omega
  obtain⟨h1,h2,h3⟩:=qi5 G (Ah hi);have hlen:=h3.len;rw[q5s.qt,Af,Ac];simp only[Aa];rw[q9 hi];simp only[q2g hi,rr];rw[q9 hi2];simp only[q4z hi2,rr];rw[a_surp G (Ah hi)];simp only[rr];rw[qbd (q9j.2 rfl) (by omega)];simp only[rr];rw[a_sign (h3.mono (by omega))];simp only[rr];rw[sgn_lt0,qc];unfold gainAt;rw[Ag hi,Ag hi2];cases r.accept[i]with
  |false=>rfl
  |true =>
   simp only;by_cases hg:q5p bs[i] r<0
   ·rw[Af hg,Ad (Cb.2 hg)];rfl
   ·rw[Ad hg,Af (Ci.1 hg)];rfl) (λm=>by
  show q5s.l2 (n+3) [] (m+1) _=_
  rw[q5s.qt,Ad,Ab]) bs.length 0 (n+3) (by omega) (by omega)
 have e:q5s.l2 (n+3) [] (n+3) (T1 g ss bs r [.list 8 (bs.map BlkV.fv),iF (bs.length:Int),iF 0])=_:=e;rw[qr4,Aa,e,show q5o bs r=(List.range' 0 bs.length).all (gainAt bs r) from rfl];cases(List.range' 0 bs.length).all (gainAt bs r) <;> rfl
theorem qi3{α σ:Type}(f:σ->α->σ)(d:α):∀(l:List α) (i:Nat) (s:σ),(List.range' i (l.length-i)).foldl (λs j=>f s (l.getD j d)) s=(l.drop i).foldl f s
 |l,i,s=>by
  by_cases h:i<l.length
  ·rw[show l.length-i=(l.length-(i+1))+1 by omega,BK,Be,AY h,Be,getD_at _ _ h];exact qi3 f d l (i+1) _
  ·rw[show l.length-i=0 by omega,AN (by omega)];rfl
 termination_by l i=>l.length-i
theorem qn1{buy:Bool}{p:Int}(h:-100000<=p/\p<=100000:=by omega):w6 (w6 (0-(if buy then -1 else 1))*p)=q1e buy p:=by
 cases buy
 ·rw[show(if(false:Bool)=true then(-1:Int)else 1)=1 from rfl,qk (x:=0-1),qk];show(0-1)*p=-p;omega
 ·rw[show(if(true:Bool)=true then(-1:Int)else 1)=-1 from rfl,qk (x:=0 - -1),qk];show(0 - -1)*p=p;omega
theorem qb3{buy:Bool}{p:Int}(h:-100000<=p/\p<=100000):-100000<=q1e buy p/\q1e buy p<=100000:=by
 unfold q1e;cases buy
 ·show -100000≤-p/\-p<=100000;omega
 ·exact h
theorem qn2{n:Nat}{b:Bool}:evF EnA (n+1) 171 [.bool b]=some [iF (if b then -1 else 1)]:=by
 rw[qkf];cases b <;> rfl
structure QD where
 q:Rat
 d:Nat
def QD.ok(k:Nat)(s:QD):Prop:=dn s.d=s.q.den/\Bd k s.q
abbrev QD.L(s:QD)(rest:List FV):List FV:=zl s.q.num::zb s.q.num::nL s.d::.bool false::rest
theorem QD.ok.mono{k m:Nat}{s:QD}(h:s.ok k)(hm:k<=m):s.ok m:=⟨h.1,h.2.mono hm⟩
noncomputable def QD.add(s:QD)(v:Rat):QD:=⟨s.q+v,(s.q+v).den⟩
theorem QD.add_ok{k m:Nat}{s:QD}{v:Rat}(h:s.ok k)(hv:Bd m v):(s.add v).ok (k+m+1):=⟨qb _,h.2.add hv⟩
noncomputable def wS(ss:List StpV)(r:ResV)(s:QD)(i:Nat):QD:=match ss[i]? with
 |some x=>s.add (r.xAt i*((q1e x.buy x.qe:Int):Rat))
 |none=>s
noncomputable def wQ(b:BlkV)(s:QD)(q:Int):QD:=s.add ((q:Rat)*((q1e b.buy b.qe:Int):Rat))
noncomputable def wB(bs:List BlkV)(ac:List Bool)(s:QD)(i:Nat):QD:=match bs[i]?,ac[i]? with
 |some b,some true=>b.qty.foldl (wQ b) s
 |_,_=>s
theorem wS_q(l:List Nat):∀s:QD,(l.foldl (wS ss r) s).q=l.foldl (λn i=>match ss[i]? with | some s=>n+r.xAt i*((q1e s.buy s.qe:Int):Rat) | none=>n) s.q:=by
 induction l with
 |nil=>intro s;rfl
 |cons i l ih =>
  intro s;rw[Be,Be,ih];congr 1;unfold wS;cases ss[i]? <;> rfl
theorem wQ_q(b:BlkV)(l:List Int):∀s:QD,(l.foldl (wQ b) s).q=l.foldl (λ(n:Rat) (q:Int)=>n+(q:Rat)*((q1e b.buy b.qe:Int):Rat)) s.q:=by
 induction l with
 |nil=>intro s;rfl
 |cons q l ih=>intro s;rw[Be,Be,ih];rfl
theorem wB_q(l:List Nat):∀s:QD,(l.foldl (wB bs r.accept) s).q=l.foldl (λn i=>match bs[i]?,r.accept[i]? with
 |some b,some true=>b.qty.foldl (λ(n:Rat) (q:Int)=>n+(q:Rat)*((q1e b.buy b.qe:Int):Rat)) n
 |_,_=>n) s.q:=by
 induction l with
 |nil=>intro s;rfl
 |cons i l ih =>
  intro s;rw[Be,Be,ih];congr 1;unfold wB;split
  ·exact wQ_q _ _ _
  ·rfl
theorem qvf{n:Nat}(G:q1d g ss bs r)(hn:2000<=n):evF EnA n 119 [.list 7 (ss.map StpV.fv),.list 1 (r.x.map sF),.list 8 (bs.map BlkV.fv),.list 1 (r.accept.map .bool)]=some [sF (qx (welV ss bs r))]/\Bd 1000000 (welV ss bs r):=by
 obtain⟨n,rfl⟩:∃k,n=k+4:=⟨n-4,by omega⟩;obtain⟨z1,z2,z3,z4,z5,z6,z7,z8,z9⟩:=q3w (q3x G.sh.ord);obtain⟨o1,o2⟩:=q7e G.sh.ord;have hst:=q90 G.sh.ord;have hbl:=qb6 G.sh.ord;have la:=G.sh.ac;have lx:=G.sh.x;have bdw:∀ {buy:Bool} {p:Int},(-100000<=p/\p<=100000)->Bd 17 ((q1e buy p:Int):Rat):=fun {buy p} hp=>by
  have:=qb3 (buy:=buy) hp;refine Bd.int ?_ (by omega);have:(2:Nat)^17=131072:=rfl;omega
 have bdq:∀ {q:Int},(0<=q/\q<=1000)->Bd 17 (q:Rat):=fun {q} hq=>by
  refine Bd.int ?_ (by omega);have:(2:Nat)^17=131072:=rfl;omega
 have hmin:min r.accept.length bs.length=bs.length:=by omega
 have e13:=q68 (F:=λm i (s:QD)=>q20.l13 (n+3) [] m (s.L [.list 8 (bs.map BlkV.fv),.list 1 (r.accept.map .bool),iF (r.accept.length:Int),iF (i:Int)])) (len:=bs.length) (g:=λi s=>wB bs r.accept s i) (fin:=λs=>some [sF (qx s.q)]) (I:=λi s=>s.ok (40000+36*3*i)) (λm i s hi hI=>by
  show q20.l13 (n+3) [] (m+1) _=_;have hi2:i<r.accept.length:=by omega
  obtain⟨b1,b2,b3,b4,b5,b6⟩:=hbl _ (Ah hi);have e18:=q68 (F:=λm' k (s:QD)=>q20.l18 (n+3) [m] m' (s.L [.str bs[i].who,iF bs[i].seq,iF bs[i].zone,.bool bs[i].buy,iF bs[i].qe,.list 1 (bs[i].qty.map iF),iF bs[i].parent,iF bs[i].group,.list 8 (bs.map BlkV.fv),.list 1 (r.accept.map .bool),iF (r.accept.length:Int),iF (i:Int),.list 1 (bs[i].qty.map iF),iF (bs[i].qty.length:Int),iF (k:Int)])) (len:=bs[i].qty.length)
   (g:=λk s=>wQ bs[i] s (bs[i].qty.getD k 0)) (fin:=λs=>q20.l13 (n+3) [] m (s.L [.list 8 (bs.map BlkV.fv),.list 1 (r.accept.map .bool),iF (r.accept.length:Int),iF ((i+1:Nat):Int)])) (I:=λk s=>s.ok (40000+36*3*i+36*k)) (λm' k s hk hI=>by
    show q20.l18 (n+3) [m] (m'+1) _=_;have hq:=b6 _ (Ah hk);have hwb:=qb3 (buy:=bs[i].buy) (p:=bs[i].qe) (by omega);have f1:=a_of (n:=n+2) (z:=bs[i].qty[k]);have f2:=a_of (n:=n+2) (z:=q1e bs[i].buy bs[i].qe);have f3:=a_mul (n:=n+2) (Sz.int (z:=bs[i].qty[k])) (Sz.int (z:=q1e bs[i].buy bs[i].qe)) (qb _) (qb _);have f4:=a_add (n:=n+2) (hI.2.mono (by omega)) (((bdq hq).mul (bdw (buy:=bs[i].buy) (p:=bs[i].qe) (by omega))).mono (by omega)) hI.1 (qb _);rw[q20.q55,Af,Ac,Aa,q9 hk];simp only[q4j hk,rr];rw[f1];simp only[rr];rw[qn2];simp only[rr];rw[qn1,f2];simp only[rr];rw[f3];simp only[rr];rw[f4];simp only[rr];rw[qc,getD_at _ _ hk];rfl) (λk s hk hI=>by
    have hq:=b6 _ (Ah hk);rw[getD_at _ _ hk];exact(QD.add_ok hI ((bdq hq).mul (bdw (buy:=bs[i].buy) (p:=bs[i].qe) (by omega)))).mono (by omega)) (λm' s hI=>by
    show q20.l18 (n+3) [m] (m'+1) _=_
    rw[q20.q55,Ad,Ab,qc]) bs[i].qty.length 0 (n+3) s (by omega) (by omega) hI
  have e18:=e18.1;have e18:q20.l18 (n+3) [m] (n+3) (s.L [.str bs[i].who,iF bs[i].seq,iF bs[i].zone,.bool bs[i].buy,iF bs[i].qe,.list 1 (bs[i].qty.map iF),iF bs[i].parent,iF bs[i].group,.list 8 (bs.map BlkV.fv),.list 1 (r.accept.map .bool),iF (r.accept.length:Int),iF (i:Int),.list 1 (bs[i].qty.map iF),iF (bs[i].qty.length:Int),iF 0])=_:=e18;have ef:(List.range' 0 bs[i].qty.length).foldl (λs j=>wQ bs[i] s (bs[i].qty.getD j 0)) s=bs[i].qty.foldl (wQ bs[i]) s:=qi3 (wQ bs[i]) 0 bs[i].qty 0 s;rw[ef]at e18;rw[q20.q45,Af,Ac,Aa,Aa,q9 hi2,q9 hi];simp only[q4z hi2,q2g hi,rr];rw[Aa,e18,qc];unfold wB;rw[Ag hi,Ag hi2];cases r.accept[i] <;> rfl) (λi s hi hI=>by
  have hi2:i<r.accept.length:=by omega
  obtain⟨b1,b2,b3,b4,b5,b6⟩:=hbl _ (Ah hi);unfold wB;rw[Ag hi,Ag hi2];cases r.accept[i]with
  |false=>exact hI.mono (by omega)
  |true =>
   have gen:∀(l:List Int) (s:QD) (k:Nat),(∀q,q∈l->0<=q/\q<=1000)->s.ok k->(l.foldl (wQ bs[i]) s).ok (k+36*l.length):=by
    intro l
    induction l with
    |nil=>intro s k _ h;exact h.mono (by simp)
    |cons q l ih =>
     intro s k hl h;rw[Be];refine(ih _ (k+36) (λq hq=>hl q (AA _ hq)) ((QD.add_ok h ((bdq (hl q AF)).mul (bdw (buy:=bs[i].buy) (p:=bs[i].qe) (by omega)))).mono (by omega))).mono ?_;simp only[Aq];omega
   exact(gen bs[i].qty s _ b6 hI).mono (by omega)) (λm s hI=>by
  show q20.l13 (n+3) [] (m+1) _=_;rw[q20.q45,Ad,Ab,a_text (hI.2.mono (by omega)) hI.1]
  rfl)
 have e5:=q68 (F:=λm i (s:QD)=>q20.l5 (n+3) [] m (s.L [.list 1 (r.x.map sF),.list 8 (bs.map BlkV.fv),.list 1 (r.accept.map .bool),.list 7 (ss.map StpV.fv),iF (ss.length:Int),iF (i:Int)])) (len:=ss.length) (g:=λi s=>wS ss r s i) (fin:=λs=>q20.l13 (n+3) [] (n+3) (s.L [.list 8 (bs.map BlkV.fv),.list 1 (r.accept.map .bool),iF (r.accept.length:Int),iF 0])) (I:=λi s=>s.ok (1+1100*i)) (λm i s hi hI=>by
  show q20.l5 (n+3) [] (m+1) _=_;have hk:=hst _ (Ah hi);obtain⟨x1,x2,x3⟩:=G.xT hi;have hwb:=qb3 (buy:=ss[i].buy) (p:=ss[i].qe) (by omega);have hnum:=G.num.1 _ (Ah x1);obtain⟨v,hv⟩:=EI.1 hnum;have hrv:rd r.x[i]=v:=rd_some hv;have bv:Bd 1024 v:=by rw[<- hrv];exact q3c x3
  have f2:=a_of (n:=n+2) (z:=q1e ss[i].buy ss[i].qe);have f3:=a_mul (n:=n+2) (q:=v) (bv.mono (by omega)) (Sz.int (z:=q1e ss[i].buy ss[i].qe)) (qb _) (qb _);have f4:=a_add (n:=n+2) (hI.2.mono (by omega)) ((bv.mul (bdw (buy:=ss[i].buy) (p:=ss[i].qe) (by omega))).mono (by omega)) hI.1 (qb _);rw[q20.q1o,Af,Ac];simp only[Aa];rw[q9 hi,q9 x1];simp only[q2z hi,q50 x1,rr];rw[qbd hv];simp only[rr];rw[qn2];simp only[rr];rw[qn1,f2];simp only[rr];rw[f3];simp only[rr];rw[f4];simp only[rr];rw[qc];unfold wS;rw[Ag hi,x2,hrv];rfl) (λi s hi hI=>by
  have hk:=hst _ (Ah hi);obtain⟨x1,x2,x3⟩:=G.xT hi;unfold wS;rw[Ag hi];exact(QD.add_ok hI ((show Bd 1024 (r.xAt i) by rw[x2];exact q3c x3).mul (bdw (buy:=ss[i].buy) (p:=ss[i].qe) (by omega)))).mono (by omega)) (λm s hI=>by
  show q20.l5 (n+3) [] (m+1) _=_;have hml:(if((bs.length:Nat):Int)<((r.accept.length:Nat):Int)then((bs.length:Nat):Int)else((r.accept.length:Nat):Int))=((r.accept.length:Nat):Int):=by split <;> omega
  rw[q20.q1o,Ad,Ab];simp only[Aa]
  rw[hml,q1v (Ak _),Ae,Av,CU (by rw[Aa];exact Ak _),Aa])
 obtain⟨q1,q2⟩:=e5 ss.length 0 (n+3) ⟨0,0⟩ (by omega) (by omega) ⟨rfl,q89.mono (by omega)⟩;obtain⟨q3,q4⟩:=e13 bs.length 0 (n+3) _ (by omega) (by omega) (q2.mono (by omega));have hw:((List.range' 0 bs.length).foldl (λs j=>wB bs r.accept s j) ((List.range' 0 ss.length).foldl (λs j=>wS ss r s j) ⟨0,0⟩)).q=welV ss bs r:=by
  rw[wB_q,wS_q];unfold welV welB welS;rw[hmin];rfl
 refine⟨?_,?_⟩
 ·rw[qrc,Aa,Aa,nne,Af lx,Am,Ab];refine BQ ?_ ((q1.trans q3).trans (by rw[hw]));simp only[QD.L];rw[show zl (0:Rat).num=FV.list 1 [] from q3m,show nL 0=FV.list 1 [] from q3m];rfl
 ·rw[<- hw];exact q4.2.mono (by omega)
theorem worth_run{n:Nat}(G:q1d g ss bs r)(hn:3000<=n):evF EnA n 52 (T1 g ss bs r [])=some (T1 g ss bs r [.bool (q9l ss bs r)]):=by
 obtain⟨n,rfl⟩:∃k,n=k+2:=⟨n-2,by omega⟩;rw[qr5,(qvf (n:=n+1) G (by omega)).1];simp only[rr];rw[q3d];rfl
theorem qn3{t:Txt}(h:isNum t=true):qx (rd t)=t:=by
 obtain⟨v,hv⟩:=EI.1 h;rw[rd_some hv];exact(q9j.1 hv).symm
theorem rd_inj{a b:Txt}(ha:isNum a=true)(hb:isNum b=true):rd a=rd b↔a=b:=⟨λh=>by rw[<- qn3 ha,h,qn3 hb],λh=>by rw[h]⟩
theorem upped_run{n:Nat}(G:q1d g ss bs r)(hn:10<=n):evF EnA n 53 (T1 g ss bs r [])=some (T1 g ss bs r [.bool (upV r)]):=by
 obtain⟨n,rfl⟩:∃k,n=k+2:=⟨n-2,by omega⟩;obtain⟨_,nw,nu,_⟩:=G.num;rw[qr6,q6h (q1s G.sm.u) (q1s G.sm.w) (qb _) (qb _)];simp only[rr];rw[cmpQ_ge];have hz:(cmpQ (rd r.upper) (rd r.qn)==0)=decide (r.upper=r.qn):=by
  rw[Bm,Bu,As,<- rd_inj nu nw];exact cmp_eq
 rw[hz];unfold upV;by_cases hO:r.q86=true
 ·rw[show(!r.q86)=false by rw[hO];rfl];cases decide (rd r.qn<=rd r.upper) <;> rfl
 ·rw[show(!r.q86)=true by rw[AI.2 hO];rfl];cases decide (rd r.qn<=rd r.upper) <;> rfl
end
end
end Rf
